/- A drawn region where three operations may come up; sums of complex numbers; cells held against themselves, and with one of them turned: over any program; no condition. -/
import Derived.Test.YtccnhnijglnbmaaK27
import Derived.Test.YtccnhnijglnbmaaK24
import Derived.Test.YtccnhnijglnbmaaK16
namespace Go.K
open Go Go.RowKit
section
variable {P : Program} {N : Nat} {C : Fr → World → Prop} {ops : Array Oper} {S : World → Prop} {n fuel : Nat} {done : List Nat} {ρ : Fr} {w : World}
/-- Any of three operations may come up now. -/
theorem WA_three (i j k : Nat) {oi oj ok : Oper} (hr : Region.ready .any ops (lst n done) = [i, j, k]) (hi : ops[i]? = some oi) (hgi : oi.guard = none) (hj : ops[j]? = some oj) (hgj : oj.guard = none) (hk : ops[k]? = some ok) (hgk : ok.guard = none)
    (h1 : Stp P N ρ oi w (fun ρ' w' => S w' ∧ WA P N C ops S n fuel (i :: done) ρ' w')) (h2 : Stp P N ρ oj w (fun ρ' w' => S w' ∧ WA P N C ops S n fuel (j :: done) ρ' w')) (h3 : Stp P N ρ ok w (fun ρ' w' => S w' ∧ WA P N C ops S n fuel (k :: done) ρ' w')) : WA P N C ops S n (fuel + 1) done ρ w := by
  refine ⟨fun a ha => ?_⟩
  refine wpAnyH_all hr (by simp) (fun m hm => ?_)
  simp only [List.mem_cons, List.not_mem_nil, or_false] at hm
  unfold wpOp
  rcases hm with rfl | rfl | rfl
  · rw [hi]
    simp only
    rw [if_pos (by simp [Region.wanted, hgi])]
    exact .inl (Oper.wp_mono (fun a' w' ⟨ρ', hr', hs, hw⟩ => ⟨hs, hw.out a' hr'⟩) (h1.out a ha _))
  · rw [hj]
    simp only
    rw [if_pos (by simp [Region.wanted, hgj])]
    exact .inl (Oper.wp_mono (fun a' w' ⟨ρ', hr', hs, hw⟩ => ⟨hs, hw.out a' hr'⟩) (h2.out a ha _))
  · rw [hk]
    simp only
    rw [if_pos (by simp [Region.wanted, hgk])]
    exact .inl (Oper.wp_mono (fun a' w' ⟨ρ', hr', hs, hw⟩ => ⟨hs, hw.out a' hr'⟩) (h3.out a ha _))
end
section
variable {P : Program} {ρ : Fr} {w : World} {dst : Option Nat} {ty t u : TypeId} {pos : String} {af : Array Edge} {gd : Option (Nat × Bool)} {x y : Operand} {a b c d r i : Nat}
theorem k_cadd (hx : ev ρ x = .complex .f64 a b) (hy : ev ρ y = .complex .f64 c d) (h1 : FloatKind.f64.format.add a c = some r) (h2 : FloatKind.f64.format.add b d = some i) : Run P ρ ⟨dst, .binOp .add t x y u, ty, pos, af, gd⟩ w (.complex .f64 r i) w :=
  k_bin hx hy (eqGuard_other rfl) (by simp [binOp, Op.complexOp, Op.Complex.arith, Op.floatArith, h1, h2])
end
theorem all2_refl : ∀ {l : List Value}, (∀ v ∈ l, ceq v v = true) → all2 l l = true
  | [], _ => rfl
  | v :: l, h => by
    show (ceq v v && all2 l l) = true
    rw [h v (by simp), all2_refl (fun u hu => h u (by simp [hu]))]; rfl
theorem all2_set : ∀ {l : List Value} {o : Nat} {u v : Value}, l[o]? = some u → ceq u v = false → all2 l (l.set o v) = false
  | [], _, _, _, h, _ => by simp at h
  | x :: l, 0, u, v, h, hc => by
    obtain rfl := Option.some.inj h
    show (ceq x v && all2 l l) = false
    rw [hc]; rfl
  | x :: l, o + 1, u, v, h, hc => by
    show (ceq x x && all2 l (l.set o v)) = false
    rw [all2_set (l := l) h hc, Bool.and_false]
end Go.K
