/- Plain laws of bits that are packed into bytes, and read again; no program in sight, no condition. -/
import Derived.Test.YtccnhnijglnbmaaPBits
namespace Go.P
open Go Go.K

/-- A byte of eight bits. -/
def bv (f : Nat → Bool) : Nat := (f 0).toNat * 128 + (f 1).toNat * 64 + (f 2).toNat * 32 + (f 3).toNat * 16 + (f 4).toNat * 8 + (f 5).toNat * 4 + (f 6).toNat * 2 + (f 7).toNat
theorem bv8 : ∀ a b c d e f g h : Bool, ∀ j, j < 8 → (a.toNat * 128 + b.toNat * 64 + c.toNat * 32 + d.toNat * 16 + e.toNat * 8 + f.toNat * 4 + g.toNat * 2 + h.toNat).testBit (7 - j) = [a, b, c, d, e, f, g, h].getD j false := by decide
theorem bv_bit (f : Nat → Bool) {j : Nat} (hj : j < 8) : (bv f).testBit (7 - j) = f j := by
  unfold bv
  rw [bv8 _ _ _ _ _ _ _ _ j hj]
  match j, hj with
  | 0, _ | 1, _ | 2, _ | 3, _ | 4, _ | 5, _ | 6, _ | 7, _ => rfl
theorem bv_lt (f : Nat → Bool) : bv f < 256 := by
  unfold bv
  have h : ∀ b : Bool, b.toNat ≤ 1 := by decide
  have := h (f 0); have := h (f 1); have := h (f 2); have := h (f 3); have := h (f 4); have := h (f 5); have := h (f 6); have := h (f 7)
  omega
theorem bv_congr {f g : Nat → Bool} (h : ∀ j, j < 8 → f j = g j) : bv f = bv g := by
  unfold bv
  rw [h 0 (by omega), h 1 (by omega), h 2 (by omega), h 3 (by omega), h 4 (by omega), h 5 (by omega), h 6 (by omega), h 7 (by omega)]
/-- Two bytes of the same bits. -/
theorem byte_ext {x y : Nat} (hx : x < 256) (hy : y < 256) (h : ∀ j, j < 8 → x.testBit (7 - j) = y.testBit (7 - j)) : x = y := by
  apply Nat.eq_of_testBit_eq
  intro i
  by_cases hi : i < 8
  · have := h (7 - i) (by omega)
    rwa [show 7 - (7 - i) = i by omega] at this
  · have h1 : (2 : Nat) ^ 8 ≤ 2 ^ i := Nat.pow_le_pow_right (by decide) (by omega)
    rw [Nat.testBit_lt_two_pow (by omega), Nat.testBit_lt_two_pow (by omega)]
/-- Bits as bytes, noughts behind to a whole byte. -/
def pk (bs : List Bool) : List Nat := (List.range ((bs.length + 7) / 8)).map fun i => bv fun j => bs.getD (8 * i + j) false
theorem pk_len (bs : List Bool) : (pk bs).length = (bs.length + 7) / 8 := by simp [pk]
theorem pk_byt (bs : List Bool) : Byt (pk bs) := fun x hx => by
  obtain ⟨i, _, rfl⟩ := List.mem_map.1 hx
  exact bv_lt _
theorem pk_get {bs : List Bool} {i : Nat} (h : i < (bs.length + 7) / 8) : (pk bs)[i]? = some (bv fun j => bs.getD (8 * i + j) false) := by simp [pk, h]
theorem pk_bit (bs : List Bool) (j : Nat) : bitAt (pk bs) j = bs.getD j false := by
  unfold bitAt
  by_cases h : j / 8 < (bs.length + 7) / 8
  · rw [List.getD_eq_getElem?_getD, pk_get h, Option.getD_some, bv_bit _ (Nat.mod_lt _ (by decide))]
    congr 1; omega
  · rw [List.getD_eq_getElem?_getD, List.getElem?_eq_none (by rw [pk_len]; omega), List.getD_eq_getElem?_getD, List.getElem?_eq_none (by omega)]
    simp
theorem bit128 : ∀ k, k < 8 → ∀ j, j < 8 → (128 / 2 ^ k).testBit (7 - j) = decide (j = k) := by decide
theorem pk_new {bs : List Bool} (h : bs.length % 8 = 0) (b : Bool) : pk (bs ++ [b]) = pk bs ++ [if b then 128 else 0] := by
  have hl : ((bs ++ [b]).length + 7) / 8 = (bs.length + 7) / 8 + 1 := by simp; omega
  refine List.ext_getElem? (fun i => ?_)
  by_cases hi : i < (bs.length + 7) / 8
  · rw [pk_get (by omega), List.getElem?_append_left (by rw [pk_len]; exact hi), pk_get hi]
    congr 1
    refine bv_congr (fun j hj => ?_)
    simp only [List.getD_eq_getElem?_getD]
    rw [List.getElem?_append_left (by omega)]
  · by_cases hi2 : i = (bs.length + 7) / 8
    · subst hi2
      rw [pk_get (by omega), List.getElem?_append_right (by rw [pk_len]; omega), pk_len, Nat.sub_self]
      simp only [List.getElem?_cons_zero, Option.some.injEq]
      refine byte_ext (bv_lt _) (by split <;> omega) (fun j hj => ?_)
      rw [bv_bit _ hj]
      simp only [List.getD_eq_getElem?_getD]
      by_cases hj0 : j = 0
      · subst hj0
        rw [List.getElem?_append_right (by omega), show 8 * ((bs.length + 7) / 8) + 0 - bs.length = 0 by omega]
        cases b <;> rfl
      · rw [List.getElem?_eq_none (by simp; omega)]
        have h0 : ∀ j, j < 8 → j ≠ 0 → (128 : Nat).testBit (7 - j) = false := by decide
        cases b
        · simp
        · simpa using (h0 j hj hj0).symm
    · rw [List.getElem?_eq_none (by rw [pk_len]; omega), List.getElem?_eq_none (by simp [pk_len]; omega)]
theorem pk_old {bs : List Bool} (h : bs.length % 8 ≠ 0) (b : Bool) : pk (bs ++ [b]) = (pk bs).set (bs.length / 8) (if b then (pk bs).getD (bs.length / 8) 0 ||| 128 / 2 ^ (bs.length % 8) else (pk bs).getD (bs.length / 8) 0) := by
  have hl : ((bs ++ [b]).length + 7) / 8 = (bs.length + 7) / 8 := by simp; omega
  have hn : bs.length / 8 < (bs.length + 7) / 8 := by omega
  have hget : (pk bs).getD (bs.length / 8) 0 = bv fun j => bs.getD (8 * (bs.length / 8) + j) false := by rw [List.getD_eq_getElem?_getD, pk_get hn]; rfl
  refine List.ext_getElem? (fun i => ?_)
  by_cases hi : i < (bs.length + 7) / 8
  · rw [pk_get (by omega)]
    by_cases hin : bs.length / 8 = i
    · subst hin
      rw [List.getElem?_set_self (by rw [pk_len]; exact hi), hget]
      congr 1
      have hbl := bv_lt fun j => bs.getD (8 * (bs.length / 8) + j) false
      refine byte_ext (bv_lt _) ?_ (fun j hj => ?_)
      · split
        · exact Nat.or_lt_two_pow (n := 8) hbl (Nat.lt_of_le_of_lt (Nat.div_le_self _ _) (by decide))
        · exact hbl
      · rw [bv_bit _ hj]
        have hx : (if b then (bv fun j => bs.getD (8 * (bs.length / 8) + j) false) ||| 128 / 2 ^ (bs.length % 8) else bv fun j => bs.getD (8 * (bs.length / 8) + j) false).testBit (7 - j) = (bs.getD (8 * (bs.length / 8) + j) false || (b && decide (j = bs.length % 8))) := by
          cases b
          · simp [bv_bit _ hj]
          · simp [Nat.testBit_or, bv_bit _ hj, bit128 _ (Nat.mod_lt bs.length (by decide)) j hj]
        rw [hx]
        simp only [List.getD_eq_getElem?_getD]
        by_cases hj1 : 8 * (bs.length / 8) + j < bs.length
        · rw [List.getElem?_append_left hj1]
          have : ¬ j = bs.length % 8 := by omega
          simp [this]
        · rw [List.getElem?_append_right (by omega), List.getElem?_eq_none (l := bs) (by omega)]
          by_cases hj2 : j = bs.length % 8
          · rw [show 8 * (bs.length / 8) + j - bs.length = 0 by omega]
            cases b <;> simp [hj2]
          · rw [List.getElem?_eq_none (by simp; omega)]
            simp [hj2]
    · rw [List.getElem?_set_ne hin, pk_get hi]
      congr 1
      refine bv_congr (fun j hj => ?_)
      simp only [List.getD_eq_getElem?_getD]
      by_cases hj1 : 8 * i + j < bs.length
      · rw [List.getElem?_append_left hj1]
      · exfalso; omega
  · rw [List.getElem?_eq_none (by rw [pk_len]; omega), List.getElem?_eq_none (by simp [pk_len]; omega)]
/-- With room for one more bit. -/
def pk1 (bs : List Bool) : List Nat := if bs.length % 8 = 0 then pk bs ++ [0] else pk bs
theorem pk1_len (bs : List Bool) : (pk1 bs).length = bs.length / 8 + 1 := by
  unfold pk1
  split
  · simp [pk_len]; omega
  · rw [pk_len]; omega
theorem pk1_byt (bs : List Bool) : Byt (pk1 bs) := by
  unfold pk1
  split
  · exact (pk_byt bs).append (bytB rfl)
  · exact pk_byt bs
theorem pk_step (bs : List Bool) (b : Bool) : pk (bs ++ [b]) = if b then (pk1 bs).set (bs.length / 8) ((pk1 bs).getD (bs.length / 8) 0 ||| 128 / 2 ^ (bs.length % 8)) else pk1 bs := by
  by_cases h : bs.length % 8 = 0
  · have e : bs.length / 8 = (pk bs).length := by rw [pk_len]; omega
    rw [pk_new h]
    unfold pk1
    rw [if_pos h, e, h]
    cases b
    · simp
    · simp [List.getD_eq_getElem?_getD]
  · rw [pk_old h]
    unfold pk1
    rw [if_neg h]
    cases b
    · simp only [Bool.false_eq_true, if_false]
      refine List.ext_getElem? (fun j => ?_)
      by_cases hj : bs.length / 8 = j
      · subst hj
        rw [List.getElem?_set_self (by rw [pk_len]; omega), List.getD_eq_getElem?_getD, pk_get (by omega)]
        rfl
      · rw [List.getElem?_set_ne hj]
    · simp
/-- A number's lowest bits as truths. -/
def nb (n s : Nat) : List Bool := (List.range s).map fun i => n.testBit (s - 1 - i)
theorem nb_len (n s : Nat) : (nb n s).length = s := by simp [nb]
theorem nbits_nb (n s : Nat) : nbits n s = (nb n s).map Bool.toNat := by
  rw [nbits_arr]
  simp [arr, nb, Function.comp_def]
theorem nb_get {n s i : Nat} (h : i < s) : (nb n s)[i]? = some (n.testBit (s - 1 - i)) := by simp [nb, h]
/-- Bytes' bits as truths. -/
def bl (l : List Nat) (fr to : Nat) : List Bool := (List.range (to - fr)).map fun i => bitAt l (fr + i)
theorem bl_len (l : List Nat) (fr to : Nat) : (bl l fr to).length = to - fr := by simp [bl]
theorem bl_cons {l : List Nat} {fr to : Nat} (h : fr < to) : bl l fr to = bitAt l fr :: bl l (fr + 1) to := by
  unfold bl
  rw [show to - fr = (to - (fr + 1)) + 1 by omega, List.range_succ_eq_map, List.map_cons, List.map_map]
  congr 1
  refine List.map_congr_left (fun i _ => ?_)
  show bitAt l (fr + (i + 1)) = _
  congr 1; omega
theorem bl_nil {l : List Nat} {fr to : Nat} (h : to ≤ fr) : bl l fr to = [] := by simp [bl, show to - fr = 0 by omega]
theorem ofB_bl (l : List Nat) : ofB l = (bl l 0 (8 * l.length)).map Bool.toNat := by
  rw [ofB_arr]; simp [arr, bl, Function.comp_def]
theorem bl_pk (bs : List Bool) : bl (pk bs) 0 bs.length = bs := by
  refine List.ext_getElem? (fun i => ?_)
  by_cases h : i < bs.length
  · simp [bl, h, pk_bit, List.getD_eq_getElem?_getD]
  · rw [List.getElem?_eq_none (by rw [bl_len]; omega), List.getElem?_eq_none (by omega)]
theorem bl_take (l : List Nat) (n : Nat) (h : n ≤ 8 * l.length) : (ofB l).take n = (bl l 0 n).map Bool.toNat := by
  rw [ofB_bl, ← List.map_take]
  congr 1
  unfold bl
  rw [← List.map_take, List.take_range]
  congr 2; omega
theorem toNat_inj : ∀ {a b : List Bool}, a.map Bool.toNat = b.map Bool.toNat ↔ a = b := by
  intro a b
  refine ⟨fun h => ?_, fun h => by rw [h]⟩
  have hinj : ∀ x y : Bool, x.toNat = y.toNat → x = y := by decide
  induction a generalizing b with
  | nil => cases b with | nil => rfl | cons y b => simp at h
  | cons x a ih => cases b with
    | nil => simp at h
    | cons y b =>
      simp only [List.map_cons, List.cons.injEq] at h
      rw [hinj x y h.1, ih h.2]
theorem bits_byt (bs : List Bool) : Byt (bs.map Bool.toNat) := fun x hx => by
  obtain ⟨b, _, rfl⟩ := List.mem_map.1 hx
  cases b <;> decide

/-! ### A reader -/
/-- The bits that are left; has it ended? -/
structure RS where
  rest : List Bool
  ended : Bool
/-- The next bit. -/
def rbit (s : RS) : Bool × RS := if s.ended then (false, s) else match s.rest with | [] => (false, ⟨[], true⟩) | b :: l => (b, ⟨l, false⟩)
def rleft (s : RS) : Nat := if s.ended then 0 else s.rest.length
/-- So many bits as a number, on n. -/
def rnum : Nat → Nat → RS → Nat × RS
  | 0, n, s => (n, s)
  | k + 1, n, s => rnum k (2 * n + (rbit s).1.toNat) (rbit s).2
theorem rbit_ended {s : RS} (h : s.ended = true) : rbit s = (false, s) := by simp [rbit, h]
theorem rbit_cons {b : Bool} {l : List Bool} : rbit ⟨b :: l, false⟩ = (b, ⟨l, false⟩) := rfl
theorem rbit_nil : rbit ⟨[], false⟩ = (false, ⟨[], true⟩) := rfl
theorem rnum_snoc : ∀ (k n : Nat) (s : RS), rnum (k + 1) n s = (2 * (rnum k n s).1 + (rbit (rnum k n s).2).1.toNat, (rbit (rnum k n s).2).2)
  | 0, _, _ => rfl
  | k + 1, n, s => by rw [rnum, rnum_snoc k]; rfl
/-- The number of bits. -/
def numB (n : Nat) (l : List Bool) : Nat := l.foldl (fun n b => 2 * n + b.toNat) n
theorem rnum_full : ∀ (k n : Nat) (l : List Bool), k ≤ l.length → rnum k n ⟨l, false⟩ = (numB n (l.take k), ⟨l.drop k, false⟩)
  | 0, _, _, _ => by simp [rnum, numB]
  | k + 1, n, [], h => by simp at h
  | k + 1, n, b :: l, h => by
    rw [rnum, rbit_cons, rnum_full k _ l (by simpa using h)]
    rfl
theorem rnum_ended : ∀ (k n : Nat) (s : RS), s.ended = true → (rnum k n s).2 = s
  | 0, _, _, _ => rfl
  | k + 1, n, s, h => by rw [rnum, rbit_ended h]; exact rnum_ended k _ s h
theorem rnum_over : ∀ (k n : Nat) (l : List Bool), l.length < k → (rnum k n ⟨l, false⟩).2 = ⟨[], true⟩
  | 0, _, _, h => by omega
  | k + 1, n, [], _ => by rw [rnum, rbit_nil]; exact rnum_ended k _ _ rfl
  | k + 1, n, b :: l, h => by rw [rnum, rbit_cons]; exact rnum_over k _ l (by simpa using h)
theorem numB_take {l : List Bool} {j : Nat} (h : j < l.length) : numB 0 (l.take (j + 1)) = 2 * numB 0 (l.take j) + l[j].toNat := by
  unfold numB
  rw [List.take_succ_eq_append_getElem h, List.foldl_append]
  rfl
theorem numB_lt : ∀ (l : List Bool) (n m : Nat), n < 2 ^ m → numB n l < 2 ^ (m + l.length)
  | [], n, m, h => h
  | b :: l, n, m, h => by
    have hb : b.toNat ≤ 1 := by cases b <;> decide
    have := numB_lt l (2 * n + b.toNat) (m + 1) (by rw [Nat.pow_succ]; omega)
    rw [List.length_cons, show m + (l.length + 1) = m + 1 + l.length by omega]
    exact this
end Go.P
