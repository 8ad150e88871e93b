/- Plain laws of numbers as bits; no program in sight, no condition. -/
import Derived.Test.YtccnhnijglnbmaaK5
namespace Go.P
open Go Go.K

/-- A number's lowest bits, the highest first. -/
def nbits : Nat → Nat → List Nat
  | _, 0 => []
  | n, s + 1 => nbits (n / 2) s ++ [n % 2]
theorem nbits_len : ∀ (s n : Nat), (nbits n s).length = s
  | 0, _ => rfl
  | s + 1, n => by simp [nbits, nbits_len s]
theorem nbits_lt : ∀ (s n : Nat), ∀ x ∈ nbits n s, x < 2
  | 0, _, x, h => by simp [nbits] at h
  | s + 1, n, x, h => by
    simp only [nbits, List.mem_append, List.mem_singleton] at h
    rcases h with h | rfl
    · exact nbits_lt s _ x h
    · exact Nat.mod_lt _ (by decide)
theorem nbits_byt (s n : Nat) : Byt (nbits n s) := fun x hx => by have := nbits_lt s n x hx; omega
theorem nbits_get : ∀ (s n i : Nat), i < s → (nbits n s)[i]? = some (n / 2 ^ (s - 1 - i) % 2)
  | 0, _, i, h => by omega
  | s + 1, n, i, h => by
    simp only [nbits]
    by_cases hi : i < s
    · rw [List.getElem?_append_left (by rw [nbits_len]; exact hi), nbits_get s (n / 2) i hi, Nat.div_div_eq_div_mul]
      congr 3
      rw [← Nat.pow_succ']; congr 1; omega
    · obtain rfl : i = s := by omega
      rw [List.getElem?_append_right (by rw [nbits_len]; omega), nbits_len]
      simp
/-- Bits as a row of noughts and ones. -/
def arr (N : Nat) (f : Nat → Bool) : List Nat := (List.range N).map fun j => (f j).toNat
theorem arr_len (N : Nat) (f : Nat → Bool) : (arr N f).length = N := by simp [arr]
theorem arr_get {N : Nat} {f : Nat → Bool} {i : Nat} (h : i < N) : (arr N f)[i]? = some (f i).toNat := by simp [arr, h]
theorem arr_lt {N : Nat} {f : Nat → Bool} : ∀ x ∈ arr N f, x < 2 := fun x hx => by
  obtain ⟨j, _, rfl⟩ := List.mem_map.1 hx
  cases f j <;> simp
theorem arr_byt {N : Nat} {f : Nat → Bool} : Byt (arr N f) := fun x hx => by have := arr_lt x hx; omega
theorem arr_congr {N : Nat} {f g : Nat → Bool} (h : ∀ j, j < N → f j = g j) : arr N f = arr N g := List.map_congr_left (fun j hj => by rw [h j (by simpa using hj)])
theorem arr_flip {N : Nat} {f : Nat → Bool} {i : Nat} : (arr N f).set i (1 - (f i).toNat) = arr N (fun j => f j != decide (j = i)) := by
  refine List.ext_getElem? (fun j => ?_)
  by_cases hj : j < N
  · rw [arr_get hj]
    by_cases hij : i = j
    · subst hij
      rw [List.getElem?_set_self (by rw [arr_len]; exact hj)]
      cases f i <;> simp
    · rw [List.getElem?_set_ne hij, arr_get hj]
      have : ¬ j = i := fun e => hij e.symm
      simp [this]
  · rw [List.getElem?_eq_none (by simp [arr_len]; omega), List.getElem?_eq_none (by simp [arr_len]; omega)]
theorem nbits_arr (s n : Nat) : nbits n s = arr s (fun j => n.testBit (s - 1 - j)) := by
  refine List.ext_getElem? (fun j => ?_)
  by_cases hj : j < s
  · rw [nbits_get s n j hj, arr_get hj, Nat.testBit_eq_decide_div_mod_eq]
    have : n / 2 ^ (s - 1 - j) % 2 = 0 ∨ n / 2 ^ (s - 1 - j) % 2 = 1 := by omega
    rcases this with h | h <;> simp [h]
  · rw [List.getElem?_eq_none (by rw [nbits_len]; omega), List.getElem?_eq_none (by rw [arr_len]; omega)]
theorem arr_append (m n : Nat) (f : Nat → Bool) : arr (m + n) f = arr m f ++ arr n (fun j => f (m + j)) := by
  simp only [arr, List.range_add, List.map_append, List.map_map]
  rfl
/-- Bytes' bits. -/
def ofB (l : List Nat) : List Nat := l.flatMap fun c => nbits c 8
theorem ofB_len (l : List Nat) : (ofB l).length = 8 * l.length := by
  induction l with
  | nil => rfl
  | cons c l ih => simp only [ofB, List.flatMap_cons, List.length_append, nbits_len] at ih ⊢; rw [ih]; simp; omega
theorem ofB_snoc (l : List Nat) (c : Nat) : ofB (l ++ [c]) = ofB l ++ nbits c 8 := by simp [ofB]
theorem ofB_lt (l : List Nat) : ∀ x ∈ ofB l, x < 2 := fun x hx => by
  obtain ⟨c, _, h⟩ := List.mem_flatMap.1 hx
  exact nbits_lt 8 c x h
/-- Bit j of bytes. -/
def bitAt (l : List Nat) (j : Nat) : Bool := (l.getD (j / 8) 0).testBit (7 - j % 8)
theorem ofB_arr : ∀ (l : List Nat), ofB l = arr (8 * l.length) (bitAt l)
  | [] => rfl
  | c :: l => by
    have ih := ofB_arr l
    have e : 8 * (c :: l).length = 8 + 8 * l.length := by simp; omega
    rw [e, arr_append]
    have h1 : ofB (c :: l) = nbits c 8 ++ ofB l := by simp [ofB]
    rw [h1, ih, nbits_arr]
    have a1 : arr 8 (fun j => c.testBit (8 - 1 - j)) = arr 8 (bitAt (c :: l)) := arr_congr (fun j hj => by
      simp only [bitAt, Nat.div_eq_of_lt hj, Nat.mod_eq_of_lt hj]
      rfl)
    have a2 : arr (8 * l.length) (bitAt l) = arr (8 * l.length) (fun j => bitAt (c :: l) (8 + j)) := arr_congr (fun j hj => by
      simp only [bitAt]
      rw [show (8 + j) / 8 = j / 8 + 1 by omega, show (8 + j) % 8 = j % 8 by omega]
      rfl)
    rw [a1, a2]
end Go.P
