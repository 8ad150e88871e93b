/- A loop with one way on behind it, from several exits; strings of slices whose length is said otherwise: over any program; no condition. -/
import Derived.Test.YtepddofhlohipaaK18
namespace Go.K
open Go Go.RowKit
section
variable {P : Program} {N : Nat} {f : FuncId} {R : Value → World → Prop} {k : List Item} {ρ : Fr} {w : World}
/-- A loop in a block: what holds behind it is shown once, for all exits. -/
theorem WS_loopX {G G2 : Type} {c : Code} {id : Nat} (μ : G → Nat) (W : Nat) (S : G → List (Nat × Value)) (I : G → World → Prop) (S2 : G2 → List (Nat × Value)) (I2 : G2 → World → Prop) (g0 : G) (hS : Has ρ (S g0)) (h0 : I g0 w)
    (round : ∀ g w σ, I g w → (∀ g' w' ρ', μ g' < μ g → Has ρ' (S g') → Agr W ρ ρ' → I g' w' → WS P N f R (.inLoop c :: .inBlock id :: k) ρ' w') → (∀ g' w' ρ', Has ρ' (S2 g') → Agr W ρ ρ' → I2 g' w' → WS P N f R k ρ' w') →
      WS P N f R (.code c :: .inLoop c :: .inBlock id :: k) (updL (S g) (mrg W ρ σ)) w)
    (cont : ∀ g w σ, I2 g w → WS P N f R k (updL (S2 g) (mrg W ρ σ)) w) : WS P N f R (.code (.loop c) :: .inBlock id :: k) ρ w :=
  WS_loop μ W S I g0 hS h0 (fun g w σ hI ih => round g w σ hI ih (fun g' w' ρ' hS hA hI => by
    have h := cont g' w' ρ' hI
    rw [mrg_of_agr hA, updL_of_has hS] at h
    exact h))
end
section
variable {P : Program} {ρ : Fr} {w : World} {dst : Option Nat} {ty t u e : TypeId} {pos : String} {af : Array Edge} {gd : Option (Nat × Bool)} {x y : Operand}
theorem k_strN {a : Option Addr} {n cap : Nat} {l : List Nat} (hx : ev ρ x = .slice a n cap) (hn : l.length = n) (hS : SlA w a (l.map B)) (ht : sle P t = some (e, (false, 1))) (he : kindOf P e = some .u8) (hu : isStr P u = true) :
    Run P ρ ⟨dst, .convert t u x, ty, pos, af, gd⟩ w (.string (strOf l)) w := by
  subst hn
  exact k_str hx hS ht he hu
/-- A number and a mask of ones. -/
theorem k_andm {i : Int} {k : Nat} {z : TypeId} (hx : ev ρ x = .int .i64 i) (hy : ev ρ y = .int .i64 ((2 ^ k - 1 : Nat) : Int)) (hk : k ≤ 62) : Run P ρ ⟨dst, .binOp .and t x y z, ty, pos, af, gd⟩ w (.int .i64 (i % ((2 ^ k : Nat) : Int))) w :=
  k_bin hx hy (eqGuard_other rfl) (by
    have hp : 2 ^ k ≤ 2 ^ 62 := Nat.pow_le_pow_right (by decide) hk
    have hp1 : 0 < 2 ^ k := Nat.two_pow_pos k
    have e1 : (BitVec.ofInt 64 ((2 ^ k - 1 : Nat) : Int)).toNat = 2 ^ k - 1 := ofInt_nat (by omega)
    have e2 : (BitVec.ofInt 64 i).toNat = (i % (2 ^ 64 : Nat)).toNat := by simp [BitVec.toNat_ofInt]
    have e3 : ((BitVec.ofInt 64 i) &&& (BitVec.ofInt 64 ((2 ^ k - 1 : Nat) : Int))).toNat = (i % ((2 ^ k : Nat) : Int)).toNat := by
      rw [BitVec.toNat_and, e1, e2, Nat.and_two_pow_sub_one_eq_mod]
      have h1 : i % ((2 ^ k : Nat) : Int) = (i % ((2 ^ 64 : Nat) : Int)) % ((2 ^ k : Nat) : Int) := (Int.emod_emod_of_dvd i (by
        rw [Int.natCast_dvd_natCast]
        exact Nat.pow_dvd_pow 2 (by omega))).symm
      rw [h1]
      have h2 : 0 ≤ i % ((2 ^ 64 : Nat) : Int) := Int.emod_nonneg _ (by decide)
      obtain ⟨n, hn⟩ := Int.eq_ofNat_of_zero_le h2
      rw [hn]
      have : ((n : Nat) : Int) % ((2 ^ k : Nat) : Int) = ((n % 2 ^ k : Nat) : Int) := (Int.natCast_emod n (2 ^ k)).symm
      rw [this]; rfl
    have h4 : 0 ≤ i % ((2 ^ k : Nat) : Int) := Int.emod_nonneg _ (by omega)
    have h5 : i % ((2 ^ k : Nat) : Int) < ((2 ^ k : Nat) : Int) := Int.emod_lt_of_pos _ (by omega)
    have e6 : IntKind.i64.wrap (((BitVec.ofInt 64 i) &&& (BitVec.ofInt 64 ((2 ^ k - 1 : Nat) : Int))).toNat : Int) = i % ((2 ^ k : Nat) : Int) := by
      rw [e3, Int.toNat_of_nonneg h4, wrap64_id (by omega) (by omega)]
    show (pure (Value.int .i64 (IntKind.i64.wrap (((BitVec.ofInt 64 i) &&& (BitVec.ofInt 64 ((2 ^ k - 1 : Nat) : Int))).toNat : Int))) : Sem Value).run P w = _
    rw [e6]
    exact Sem.run_pure ..)
end
section
variable {P : Program} {N : Nat} {K : Fr → World → Prop} {ρ : Fr} {S : List Nat} {W w : World} {H : List Res}
variable {ty t e : TypeId} {pos : String} {af : Array Edge} {gd : Option (Nat × Bool)} {x y : Operand}
/-- Store a whole aggregate into piece i, a block of one's own. -/
theorem H_storeA (i : Nat) {b s : Nat} {cs vs : Array Value} (hH : Hp S W w H) (hi : H[i]? = some (Rb b e cs)) (hx : ev ρ x = .pointer (some ⟨b, 0, none⟩)) (hy : ev ρ y = .agg vs) (hs : vs.size = s) (hs' : cs.size = s) (h1 : ∀ v ∈ vs.toList, v.oneCell' = true) (ht : shp P t = some (true, s))
    (hk : ∀ w', Hp S W w' (H.set i (Rb b e vs)) → K ρ w') : Stp P N ρ ⟨none, .store t x y, ty, pos, af, gd⟩ w K :=
  S_storeA hx hy (hH.b i hi) hs hs' h1 ht (fun w' hE hB _ => hk w' (hH.up i hi ⟨hE, hB, fun _ hx => .inl hx⟩))
end
/-- A value of a struct's or an array's type is an aggregate. -/
theorem rd_agg {P : Program} {W : World} {r : Reach} {b0 : Nat} {t : TypeId} {v : Value} {n : Nat} (ht : shp P t = some (true, n)) (hv : Value.okWide P W r b0 t v) : ∃ cs : List Value, v = .agg cs.toArray := by
  unfold shp at ht
  unfold Value.okWide at hv
  split at ht
  · rename_i hu _
    rw [hu] at hv
    obtain ⟨cs, rfl, _⟩ := hv
    exact ⟨cs.toList, by simp⟩
  · rename_i hu _
    rw [hu] at hv
    obtain ⟨cs, rfl, _⟩ := hv
    exact ⟨cs.toList, by simp⟩
  · cases ht
  · cases ht
/-- A slice of bytes that is read, with its room. -/
def IsSc (l : List Nat) : Value → World → Prop := fun v w => ∃ a c, v = .slice a l.length c ∧ SlA w a (l.map B) ∧ l.length ≤ c
theorem IsSc.st {l : List Nat} : Stable (IsSc l) := fun _ _ _ ⟨a, c, h, hS, hc⟩ hE => ⟨a, c, h, hS.ext0 hE, hc⟩
/-- From here on more is known of the worlds. -/
theorem WA_S {P : Program} {N : Nat} {C : Fr → World → Prop} {ops : Array Oper} {S : World → Prop} (S' : World → Prop) {n fuel : Nat} {done : List Nat} {ρ : Fr} {w : World} (hS : ∀ w', S' w' → S w') (h : WA P N C ops S' n fuel done ρ w) : WA P N C ops S n fuel done ρ w := by
  have mono : ∀ (fuel : Nat) (listed : Array Bool) (a : Act) (w : World), wpAnyH P .any ops (QN N C) S' fuel listed a w → wpAnyH P .any ops (QN N C) S fuel listed a w := by
    intro fuel
    induction fuel with
    | zero => intro _ _ _ h; exact h
    | succ fuel ih => intro listed a w h; exact ⟨h.1, fun i hi => wpOp_mono (fun a' w' h' => ⟨hS _ h'.1, ih _ _ _ h'.2⟩) (h.2 i hi)⟩
  exact ⟨fun a ha => mono _ _ _ _ (h.out a ha)⟩
/-- What a region's operations may turn is F alone, from here on. -/
theorem WA_now {P : Program} {N : Nat} {C : Fr → World → Prop} {ops : Array Oper} (F : List Nat) {n fuel : Nat} {done : List Nat} {ρ : Fr} {w0 w : World} (hE : Ext F w0 w) (h : WA P N C ops (fun w' => Ext F w w') n fuel done ρ w) : WA P N C ops (fun w' => Ext F w0 w') n fuel done ρ w :=
  WA_S (fun w' => Ext F w w') (fun _ h => hE.then1' h) h
/-- A load of a whole aggregate out of a slice. -/
theorem k_loadC {P : Program} {ρ : Fr} {w : World} {dst : Option Nat} {ty t : TypeId} {pos : String} {af : Array Edge} {gd : Option (Nat × Bool)} {x : Operand} {a : Option Addr} {vs cs : List Value} {j s : Nat} (hx : ev ρ x = .pointer (some (At a j))) (hS : SlA w a vs) (hv : (vs.drop j).take s = cs) (hl : cs.length = s) (ht : shp P t = some (true, s)) :
    Run P ρ ⟨dst, .load t x, ty, pos, af, gd⟩ w (.agg cs.toArray) w := by
  have hl2 : s = 0 ∨ j + s ≤ vs.length := by
    have := congrArg List.length hv
    simp only [List.length_take, List.length_drop] at this
    omega
  rcases hl2 with h0 | h0
  · subst h0
    have : cs = [] := List.eq_nil_of_length_eq_zero hl
    subst this
    have h := run_loadCells_list (P := P) w (At a j) [] (fun i v hv => by simp at hv)
    constructor; unfold execOp
    simp only [List.length_nil] at h
    simp [hx, Instr.loadAt, Instr.sureAddr, loadVar, shp_isAgg ht, shp_size ht, h]
  · have h := k_loadN (dst := dst) (ty := ty) (pos := pos) (af := af) (gd := gd) hx hS h0 ht
    rw [hv] at h
    exact h
end Go.K
