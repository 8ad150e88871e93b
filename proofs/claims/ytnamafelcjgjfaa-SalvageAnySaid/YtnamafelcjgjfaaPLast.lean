/- Plain laws of bits with a 1 behind as bytes, and where that 1 stands; no program in sight, no condition. -/
import Derived.Test.YtnamafelcjgjfaaPPack
namespace Go.P
open Go Go.K

theorem bl_pre {l : List Nat} {k e : Nat} (hk : k ≤ e) (he : e ≤ 8 * l.length) : bl l 0 k = (bl l 0 e).take k := by
  rw [← toNat_inj, List.map_take, ← bl_take l k (by omega), ← bl_take l e he, List.take_take, Nat.min_eq_left hk]
/-! ### Bits with a 1 behind, and their size -/
theorem bits_ext {l m : List Nat} (hl : Byt l) (hm : Byt m) (hlen : l.length = m.length) (h : ∀ j, bitAt l j = bitAt m j) : l = m := by
  refine List.ext_getElem hlen (fun i h1 h2 => ?_)
  refine byte_ext (hl _ (List.getElem_mem _)) (hm _ (List.getElem_mem _)) (fun j hj => ?_)
  have := h (8 * i + j)
  unfold bitAt at this
  rw [show (8 * i + j) / 8 = i by omega, show (8 * i + j) % 8 = j by omega] at this
  simpa [List.getD_eq_getElem?_getD, h1, h2] using this
/-- Where the last 1 of bytes stands whose last byte isn't nought. -/
structure LastAt (l : List Nat) (n : Nat) : Prop where
  nz : l.getD (l.length - 1) 0 ≠ 0
  lt : n < 8 * l.length
  at' : bitAt l n = true
  no : ∀ j, n < j → bitAt l j = false
theorem LastAt.pk {l : List Nat} {n : Nat} (h : LastAt l n) (hl : Byt l) : pk (bl l 0 n ++ [true]) = l := by
  have hn : 8 * (l.length - 1) ≤ n := by
    rcases Nat.lt_or_ge n (8 * (l.length - 1)) with h1 | h1
    · exfalso
      have hlen : 0 < l.length := by have := h.lt; omega
      apply h.nz
      have hg : l.getD (l.length - 1) 0 < 256 := by
        rw [List.getD_eq_getElem?_getD, List.getElem?_eq_getElem (by omega)]
        exact hl _ (List.getElem_mem _)
      refine byte_ext hg (by decide) (fun j hj => ?_)
      have := h.no (8 * (l.length - 1) + j) (by omega)
      unfold bitAt at this
      rw [show (8 * (l.length - 1) + j) / 8 = l.length - 1 by omega, show (8 * (l.length - 1) + j) % 8 = j by omega] at this
      rw [this]; simp
    · exact h1
  have hlt := h.lt
  refine bits_ext (pk_byt _) hl ?_ (fun j => ?_)
  · rw [pk_len]; simp [bl_len]; omega
  · rw [pk_bit, List.getD_eq_getElem?_getD]
    rcases Nat.lt_trichotomy j n with h1 | rfl | h1
    · rw [List.getElem?_append_left (by simp [bl_len]; exact h1)]
      simp [bl, h1]
    · rw [List.getElem?_append_right (by simp [bl_len])]
      simp [bl_len, h.at']
    · rw [List.getElem?_eq_none (by simp [bl_len]; omega), h.no j h1]
      rfl
theorem pk_last (bs : List Bool) : LastAt (pk (bs ++ [true])) bs.length := by
  have hb : ∀ j, bitAt (pk (bs ++ [true])) j = (bs ++ [true]).getD j false := pk_bit _
  have hlen := pk_len (bs ++ [true])
  simp only [List.length_append, List.length_singleton] at hlen
  refine ⟨fun h0 => ?_, by omega, ?_, fun j hj => ?_⟩
  · have := hb bs.length
    unfold bitAt at this
    rw [show bs.length / 8 = (pk (bs ++ [true])).length - 1 by omega, h0] at this
    simp [List.getD_eq_getElem?_getD] at this
  · rw [hb]; simp [List.getD_eq_getElem?_getD]
  · rw [hb, List.getD_eq_getElem?_getD, List.getElem?_eq_none (by simp; omega)]; rfl
theorem LastAt.uniq {l : List Nat} {n m : Nat} (h : LastAt l n) (g : LastAt l m) : n = m := by
  rcases Nat.lt_trichotomy n m with h1 | h1 | h1
  · have := h.no m h1; rw [g.at'] at this; cases this
  · exact h1
  · have := g.no n h1; rw [h.at'] at this; cases this
theorem LastAt.bits {bs : List Bool} {n : Nat} (h : LastAt (P.pk (bs ++ [true])) n) : bl (P.pk (bs ++ [true])) 0 n = bs := by
  obtain rfl := h.uniq (pk_last bs)
  have h1 := bl_pk (bs ++ [true])
  have h2 := bl_pre (l := P.pk (bs ++ [true])) (k := bs.length) (e := (bs ++ [true]).length) (by simp) (by rw [pk_len]; omega)
  rw [h2, h1]; simp
end Go.P
