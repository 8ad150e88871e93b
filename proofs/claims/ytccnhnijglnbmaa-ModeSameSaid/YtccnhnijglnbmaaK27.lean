/- More operations: a slice held against nil, strings in order, a place of an array in a slice: over any program; no condition. -/
import Derived.Test.YtccnhnijglnbmaaK26
namespace Go.K
open Go Go.RowKit
section
variable {P : Program} {ρ : Fr} {w : World} {dst : Option Nat} {ty t u e : TypeId} {pos : String} {af : Array Edge} {gd : Option (Nat × Bool)} {x y : Operand} {q : IntKind}
theorem run_equalIn_sl (n : Nat) {a b : Option Addr} {l c l' c' : Nat} {p : Bool × Nat} (ht : sle P t = some (e, p)) (h : a = none ∨ b = none) : (Op.equalIn (n + 1) t (.slice a l c) (.slice b l' c')).run P w = .ok (a.isNone && b.isNone) w := by
  obtain ⟨hu, _⟩ := sle_spec ht
  unfold Op.equalIn
  rcases h with rfl | rfl
  · simp only [Sem.run_bind, run_underlying hu, Result.andThen_ok]; rfl
  · cases a <;> (simp only [Sem.run_bind, run_underlying hu, Result.andThen_ok]; rfl)
theorem run_equal_sl {a b : Option Addr} {l c l' c' : Nat} {p : Bool × Nat} (ht : sle P t = some (e, p)) (h : a = none ∨ b = none) : (Op.equal t (.slice a l c) (.slice b l' c')).run P w = .ok (a.isNone && b.isNone) w := run_equalIn_sl 9999 ht h
/-- A slice held against nil. -/
theorem k_slnil {a b : Option Addr} {l c l' c' : Nat} {p : Bool × Nat} (hx : ev ρ x = .slice a l c) (hy : ev ρ y = .slice b l' c') (h : a = none ∨ b = none) (ht : sle P t = some (e, p)) : Run P ρ ⟨dst, .binOp .eql t x y u, ty, pos, af, gd⟩ w (.bool (a.isNone && b.isNone)) w :=
  k_bin hx hy (eqGuard_other rfl) (by simp only [binOp, Sem.run_bind, run_equal_sl (w := w) ht h, Result.andThen_ok, Sem.run_pure])
/-- A place of an array that lies in a slice. -/
theorem k_ixaA {i : Int} {j len : Nat} {a : Option Addr} {g : Bool} (hx : ev ρ x = .pointer (some (At a j))) (hy : ev ρ y = .int q i) (ht : arr P t = some (len, (g, 1))) (hi : 0 ≤ i ∧ i < len) :
    Run P ρ ⟨dst, .indexAddr t x y, ty, pos, af, gd⟩ w (.pointer (some (At a (j + i.toNat)))) w := by
  have h := k_ixa (P := P) (w := w) (dst := dst) (ty := ty) (pos := pos) (af := af) (gd := gd) (ρ := ρ) (x := x) (b := (At a j).block) (o := (At a j).off) hx hy ht hi
  have e : (⟨(At a j).block, (At a j).off + i.toNat * 1, none⟩ : Addr) = At a (j + i.toNat) := by simp [At, Nat.add_assoc]
  rw [e] at h
  exact h
/-- Strings in order. -/
theorem k_geqs {l m : List Nat} {b : Bool} (hx : ev ρ x = .string (strOf l)) (hy : ev ρ y = .string (strOf m)) (hb : Op.bytesLess (l.map UInt8.ofNat) (m.map UInt8.ofNat) = b) : Run P ρ ⟨dst, .binOp .geq t x y u, ty, pos, af, gd⟩ w (.bool !b) w :=
  k_bin hx hy (eqGuard_other rfl) (by
    show (Op.stringOp .geq (strOf l) (strOf m)).run P w = _
    simp only [Op.stringOp, strOf_toList, hb, Sem.run_pure])
end
/-- More pieces, all of them new. -/
theorem Hp.cats {S : List Nat} {W w w' : World} {H Q : List Res} (h : Hp S W w H) (hQ : Hp [] w w' Q) : Hp S W w' (H ++ Q) := by
  have hd := h.ext0 hQ.ext
  refine ⟨hd.ext, fun x hx => ?_, fun x hx y hy => ?_, ?_⟩
  · rcases List.mem_append.1 hx with h1 | h1
    · exact hd.all x h1
    · exact hQ.all x h1
  · rcases List.mem_append.1 hx with h1 | h1
    · exact hd.new x h1 y hy
    · rcases hQ.new x h1 y hy with h2 | h2
      · cases h2
      · exact .inr (Nat.le_trans h.size h2)
  · refine List.pairwise_append.2 ⟨hd.apart, hQ.apart, fun x hx q hq y hyx hyq => ?_⟩
    rcases hQ.new q hq y hyq with h2 | h2
    · cases h2
    · have := x.lt (h.all x hx) y hyx; omega
theorem less_at : ∀ (p : List UInt8) {a b : UInt8} (r r' : List UInt8), a < b → Op.bytesLess (p ++ a :: r) (p ++ b :: r') = true
  | [], a, b, r, r', h => by simp [Op.bytesLess, h]
  | c :: p, a, b, r, r', h => by simp [Op.bytesLess, less_at p r r' h]
end Go.K
