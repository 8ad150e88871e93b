/- Plain laws of a picture's head as bits; no program in sight, no condition. -/
import Derived.Test.YtnamafelcjgjfaaPRvlc
namespace Go.P
open Go Go.K

theorem numB_nb (s : Nat) : ∀ x, numB (x / 2 ^ s) (nb x s) = x := by
  induction s with
  | zero => intro x; simp [nb, numB]
  | succ s ih =>
    intro x
    rw [nb_snoc, numB_snoc]
    have e : x / 2 ^ (s + 1) = x / 2 / 2 ^ s := by rw [Nat.div_div_eq_div_mul, Nat.pow_succ, Nat.mul_comm]
    rw [e, ih, Nat.testBit_zero]
    have := Nat.mod_two_eq_zero_or_one x
    rcases this with h | h
    · simp [h]; omega
    · simp [h]; omega
theorem numB_nb0 {s x : Nat} (h : x < 2 ^ s) : numB 0 (nb x s) = x := by
  have := numB_nb s x
  rwa [Nat.div_eq_of_lt h] at this
/-- A reader's bits of a number, as it stands. -/
def rbt (size : Nat) (s : RS) : Nat × RS := (if (rnum size 0 s).2.ended then 0 else (rnum size 0 s).1, (rnum size 0 s).2)
theorem rbt_full {k : Nat} {l : List Bool} (h : k ≤ l.length) : rbt k ⟨l, false⟩ = (numB 0 (l.take k), ⟨l.drop k, false⟩) := by
  unfold rbt; rw [rnum_full k 0 l h]; rfl
theorem rbt_app {k x : Nat} {r : List Bool} (h : x < 2 ^ k) : rbt k ⟨nb x k ++ r, false⟩ = (x, ⟨r, false⟩) := by
  rw [rbt_full (by simp [nb_len]), List.take_left' (nb_len x k), List.drop_left' (nb_len x k), numB_nb0 h]
theorem rbt_over {k : Nat} {l : List Bool} (h : l.length < k) : rbt k ⟨l, false⟩ = (0, ⟨[], true⟩) := by
  unfold rbt; rw [rnum_over k 0 l h]; rfl
theorem rbt_ended {k : Nat} {s : RS} (h : s.ended = true) : rbt k s = (0, s) := by
  unfold rbt; rw [rnum_ended k 0 s h, h]; rfl
theorem rbt_lt (k : Nat) (s : RS) : (rbt k s).1 < 2 ^ k := by
  unfold rbt
  split
  · exact Nat.two_pow_pos k
  · have h : ∀ (k n m : Nat) (s : RS), n < 2 ^ m → (rnum k n s).1 < 2 ^ (m + k) := by
      intro k
      induction k with
      | zero => intro n m s h; exact h
      | succ k ih =>
        intro n m s h
        have hb : (rbit s).1.toNat ≤ 1 := by cases (rbit s).1 <;> decide
        have := ih (2 * n + (rbit s).1.toNat) (m + 1) (rbit s).2 (by rw [Nat.pow_succ]; omega)
        rw [rnum, show m + (k + 1) = m + 1 + k by omega]
        exact this
    have := h k 0 0 s (by decide)
    rwa [Nat.zero_add] at this
/-- A reader that has not ended behind a number: these bits. -/
theorem rbt_ok {k : Nat} {s : RS} (h : (rbt k s).2.ended = false) : ∃ x r, x < 2 ^ k ∧ s = ⟨nb x k ++ r, false⟩ ∧ rbt k s = (x, ⟨r, false⟩) := by
  obtain ⟨l, en⟩ := s
  cases en with
  | true => rw [rbt_ended rfl] at h; cases h
  | false =>
    rcases Nat.lt_or_ge l.length k with hl | hl
    · rw [rbt_over hl] at h; cases h
    · refine ⟨numB 0 (l.take k), l.drop k, ?_, ?_, rbt_full hl⟩
      · have := numB_lt (l.take k) 0 0 (by decide)
        rwa [Nat.zero_add, List.length_take, Nat.min_eq_left hl] at this
      · have := nb_numB 0 (l.take k)
        rw [List.length_take, Nat.min_eq_left hl] at this
        rw [this, List.take_append_drop]
theorem rbit_ok {s : RS} (h : (rbit s).2.ended = false) : ∃ b r, s = ⟨b :: r, false⟩ ∧ rbit s = (b, ⟨r, false⟩) := by
  obtain ⟨l, en⟩ := s
  cases en with
  | true => cases h
  | false => match l with
    | [] => cases h
    | b :: r => exact ⟨b, r, rfl, rfl⟩
theorem rbit_end {s : RS} (h : s.ended = true) : (rbit s).2.ended = true := by rw [rbit_ended h]; exact h
theorem rbt_end {k : Nat} {s : RS} (h : s.ended = true) : (rbt k s).2.ended = true := by rw [rbt_ended h]; exact h

theorem bl_pre {l : List Nat} {k e : Nat} (hk : k ≤ e) (he : e ≤ 8 * l.length) : bl l 0 k = (bl l 0 e).take k := by
  rw [← toNat_inj, List.map_take, ← bl_take l k (by omega), ← bl_take l e he, List.take_take, Nat.min_eq_left hk]
/-- A picture's head. -/
structure PH where
  id : Int
  inter : Bool
  down : Bool
  qp : Int
  deriving DecidableEq
namespace PH
def cells (h : PH) : List Value := [.int .i64 h.id, .bool h.inter, .bool h.down, .int .i64 h.qp]
def v (h : PH) : Value := .agg h.cells.toArray
def zero : PH := ⟨0, false, false, 0⟩
def err (h : PH) : Nat := if h.id < 0 ∨ 65535 < h.id then 2 else if h.qp < 1 ∨ 31 < h.qp then 6 else if h.down = true ∧ h.inter = false then 4 else 0
def wide (h : PH) : Prop := (-9223372036854775808 ≤ h.id ∧ h.id ≤ 9223372036854775807) ∧ -9223372036854775808 ≤ h.qp ∧ h.qp ≤ 9223372036854775807
def fit (h : PH) : PH := ⟨h.id % 65536, h.inter, h.inter && h.down, 1 + h.qp % 32 % 31⟩
def bits (h : PH) : List Bool := nb h.id.toNat 16 ++ ([h.inter] ++ ([h.down] ++ nb h.qp.toNat 5))
theorem bits_len (h : PH) : h.bits.length = 23 := by simp [bits, nb_len]
theorem ok_iff (h : PH) : h.err = 0 ↔ (0 ≤ h.id ∧ h.id ≤ 65535) ∧ (1 ≤ h.qp ∧ h.qp ≤ 31) ∧ (h.down = true → h.inter = true) := by
  unfold err
  split
  · rename_i h1; simp; omega
  · split
    · rename_i h1 h2; simp; omega
    · split
      · rename_i h1 h2 h3; simp [h3.1, h3.2]
      · rename_i h1 h2 h3
        simp only [true_iff]
        refine ⟨by omega, by omega, fun hd => ?_⟩
        cases hi : h.inter with
        | true => rfl
        | false => exact absurd ⟨hd, hi⟩ h3
theorem fit_ok (h : PH) : h.fit.err = 0 := by
  rw [ok_iff]
  refine ⟨by simp only [fit]; omega, by simp only [fit]; omega, fun hd => ?_⟩
  simp only [fit, Bool.and_eq_true] at hd
  exact hd.1
theorem fit_wide (h : PH) : h.fit.wide := by
  have := (ok_iff _).1 (fit_ok h)
  unfold wide; omega
theorem wide_of_ok {h : PH} (ho : h.err = 0) : h.wide := by
  have := (ok_iff _).1 ho
  unfold wide; omega
theorem cells_inj {h g : PH} : h.cells = g.cells ↔ h = g := by
  obtain ⟨a, b, c, d⟩ := h
  obtain ⟨a', b', c', d'⟩ := g
  simp [cells]
/-- What is read. -/
def rd (s : RS) : PH × RS :=
  let s1 := (rbt 16 s).2
  let s2 := (rbit s1).2
  let s3 := (rbit s2).2
  (⟨(rbt 16 s).1, (rbit s1).1, (rbit s2).1, (rbt 5 s3).1⟩, (rbt 5 s3).2)
theorem rd_bits {h : PH} {r : List Bool} (ho : h.err = 0) : rd ⟨h.bits ++ r, false⟩ = (h, ⟨r, false⟩) := by
  have hk := (ok_iff _).1 ho
  unfold rd bits
  simp only [List.append_assoc]
  rw [rbt_app (k := 16) (by omega)]
  simp only [List.cons_append, List.nil_append, rbit_cons]
  rw [rbt_app (k := 5) (by omega)]
  obtain ⟨a, b, c, d⟩ := h
  simp only at hk ⊢
  congr
  · omega
  · omega
theorem rd_ok {s : RS} (he : (rd s).2.ended = false) : ∃ r, s = ⟨(rd s).1.bits ++ r, false⟩ ∧ (rd s).2 = ⟨r, false⟩ ∧ (0 ≤ (rd s).1.id ∧ (rd s).1.id ≤ 65535) ∧ 0 ≤ (rd s).1.qp ∧ (rd s).1.qp ≤ 31 := by
  obtain ⟨x, r4, hx, hs3, h4⟩ := rbt_ok (s := (rbit (rbit (rbt 16 s).2).2).2) he
  obtain ⟨d, r3, hs2, h3⟩ := rbit_ok (s := (rbit (rbt 16 s).2).2) (by rw [hs3])
  obtain ⟨i, r2, hs1, h2⟩ := rbit_ok (s := (rbt 16 s).2) (by rw [hs2])
  obtain ⟨y, r1, hy, hs, h1⟩ := rbt_ok (s := s) (by rw [hs1])
  subst hs
  have e1 : (rbt 16 (⟨nb y 16 ++ r1, false⟩ : RS)) = (y, ⟨r1, false⟩) := h1
  rw [e1] at hs1 h2 hs2 h3 hs3 h4
  simp only at hs1 h2 hs2 h3 hs3 h4
  cases hs1
  simp only [rbit_cons] at hs2 h3 hs3 h4
  cases hs2
  simp only [rbit_cons] at hs3 h4
  cases hs3
  have e2 : rd ⟨nb y 16 ++ (i :: d :: (nb x 5 ++ r4)), false⟩ = (⟨y, i, d, x⟩, ⟨r4, false⟩) := by
    unfold rd
    simp only [e1, rbit_cons, h4]
  refine ⟨r4, ?_, ?_, ?_⟩
  · rw [e2]; simp [bits]
  · rw [e2]
  · rw [e2]; simp only; omega
theorem rd_short {l : List Bool} (h : l.length < 23) : (rd ⟨l, false⟩).2.ended = true := by
  cases he : (rd ⟨l, false⟩).2.ended with
  | true => rfl
  | false =>
    obtain ⟨r, hs, _⟩ := rd_ok he
    have := congrArg (fun s : RS => s.rest.length) hs
    simp only [List.length_append, bits_len] at this
    omega
end PH
end Go.P
