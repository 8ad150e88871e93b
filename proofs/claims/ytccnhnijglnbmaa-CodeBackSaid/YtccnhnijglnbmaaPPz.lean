/- Plain laws of bits that are added into bytes one by one; no program in sight, no condition. -/
import Derived.Test.YtccnhnijglnbmaaPPack
namespace Go.P
open Go Go.K

/-- Bits in so many bytes. -/
def pz (n : Nat) (bs : List Bool) : List Nat := (List.range n).map fun i => bv fun j => bs.getD (8 * i + j) false
theorem pz_len (n : Nat) (bs : List Bool) : (pz n bs).length = n := by simp [pz]
theorem pz_get {n i : Nat} {bs : List Bool} (h : i < n) : (pz n bs)[i]? = some (bv fun j => bs.getD (8 * i + j) false) := by simp [pz, h]
theorem pz_pk (bs : List Bool) : pz ((bs.length + 7) / 8) bs = pk bs := rfl
theorem pz_nil (n : Nat) : pz n [] = List.replicate n 0 := by
  refine List.ext_getElem? (fun i => ?_)
  by_cases h : i < n
  · rw [pz_get h, List.getElem?_replicate, if_pos h]
    simp [bv]
  · rw [List.getElem?_eq_none (by rw [pz_len]; omega), List.getElem?_eq_none (by simp; omega)]
theorem bv_add (f : Nat → Bool) (b : Bool) {k : Nat} (hk : k < 8) (hf : f k = false) : bv (fun j => if j = k then b else f j) = bv f + b.toNat * 2 ^ (7 - k) := by
  unfold bv
  rcases (show k = 0 ∨ k = 1 ∨ k = 2 ∨ k = 3 ∨ k = 4 ∨ k = 5 ∨ k = 6 ∨ k = 7 by omega) with rfl | rfl | rfl | rfl | rfl | rfl | rfl | rfl <;> simp [hf] <;> omega
theorem getD_snoc (bs : List Bool) (b : Bool) (m : Nat) : (bs ++ [b]).getD m false = if m = bs.length then b else bs.getD m false := by
  simp only [List.getD_eq_getElem?_getD]
  split
  · subst_vars; simp
  · rcases Nat.lt_or_ge m bs.length with h | h
    · rw [List.getElem?_append_left h]
    · rw [List.getElem?_eq_none (by simp; omega), List.getElem?_eq_none h]
theorem pz_step {n : Nat} {bs : List Bool} (h : bs.length / 8 < n) (b : Bool) : pz n (bs ++ [b]) = (pz n bs).set (bs.length / 8) ((pz n bs).getD (bs.length / 8) 0 + b.toNat * 2 ^ (7 - bs.length % 8)) := by
  have hg : (pz n bs).getD (bs.length / 8) 0 = bv fun j => bs.getD (8 * (bs.length / 8) + j) false := by rw [List.getD_eq_getElem?_getD, pz_get h]; rfl
  refine List.ext_getElem? (fun i => ?_)
  by_cases hi : i < n
  · rw [pz_get hi]
    by_cases hin : bs.length / 8 = i
    · subst hin
      rw [List.getElem?_set_self (by rw [pz_len]; exact hi), hg]
      congr 1
      rw [← bv_add _ b (Nat.mod_lt _ (by decide)) (by rw [List.getD_eq_getElem?_getD, List.getElem?_eq_none (by omega)]; rfl)]
      refine bv_congr (fun j hj => ?_)
      rw [getD_snoc]
      by_cases hj2 : j = bs.length % 8
      · rw [if_pos (by omega), if_pos hj2]
      · rw [if_neg (by omega), if_neg hj2]
    · rw [List.getElem?_set_ne hin, pz_get hi]
      congr 1
      refine bv_congr (fun j hj => ?_)
      rw [getD_snoc, if_neg (by omega)]
  · rw [List.getElem?_eq_none (by rw [pz_len]; omega), List.getElem?_eq_none (by simp [pz_len]; omega)]
theorem pz_lt {n i : Nat} {bs : List Bool} (h : i < n) : (pz n bs).getD i 0 < 256 := by
  rw [List.getD_eq_getElem?_getD, pz_get h, Option.getD_some]; exact bv_lt _
end Go.P
