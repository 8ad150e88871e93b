/- A loop with one way on behind it, from several exits; strings of slices whose length is said otherwise: over any program; no condition. -/
import Derived.Test.YtepddofhlohipaaK18
namespace Go.K
open Go Go.RowKit
section
variable {P : Program} {N : Nat} {f : FuncId} {R : Value → World → Prop} {k : List Item} {ρ : Fr} {w : World}
/-- A loop in a block: what holds behind it is shown once, for all exits. -/
theorem WS_loopX {G G2 : Type} {c : Code} {id : Nat} (μ : G → Nat) (W : Nat) (S : G → List (Nat × Value)) (I : G → World → Prop) (S2 : G2 → List (Nat × Value)) (I2 : G2 → World → Prop) (g0 : G) (hS : Has ρ (S g0)) (h0 : I g0 w)
    (round : ∀ g w σ, I g w → (∀ g' w' ρ', μ g' < μ g → Has ρ' (S g') → Agr W ρ ρ' → I g' w' → WS P N f R (.inLoop c :: .inBlock id :: k) ρ' w') → (∀ g' w' ρ', Has ρ' (S2 g') → Agr W ρ ρ' → I2 g' w' → WS P N f R k ρ' w') →
      WS P N f R (.code c :: .inLoop c :: .inBlock id :: k) (updL (S g) (mrg W ρ σ)) w)
    (cont : ∀ g w σ, I2 g w → WS P N f R k (updL (S2 g) (mrg W ρ σ)) w) : WS P N f R (.code (.loop c) :: .inBlock id :: k) ρ w :=
  WS_loop μ W S I g0 hS h0 (fun g w σ hI ih => round g w σ hI ih (fun g' w' ρ' hS hA hI => by
    have h := cont g' w' ρ' hI
    rw [mrg_of_agr hA, updL_of_has hS] at h
    exact h))
end
section
variable {P : Program} {ρ : Fr} {w : World} {dst : Option Nat} {ty t u e : TypeId} {pos : String} {af : Array Edge} {gd : Option (Nat × Bool)} {x y : Operand}
theorem k_strN {a : Option Addr} {n cap : Nat} {l : List Nat} (hx : ev ρ x = .slice a n cap) (hn : l.length = n) (hS : SlA w a (l.map B)) (ht : sle P t = some (e, (false, 1))) (he : kindOf P e = some .u8) (hu : isStr P u = true) :
    Run P ρ ⟨dst, .convert t u x, ty, pos, af, gd⟩ w (.string (strOf l)) w := by
  subst hn
  exact k_str hx hS ht he hu
end
end Go.K
