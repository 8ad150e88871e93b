/- Plain laws of escaped parts with a marker ahead of each; no program in sight, no condition. -/
import Derived.Test.YtjdinbjignhjfaaPEsc
namespace Go.P
open Go Go.K

theorem escF_half : ∀ (l : List Nat) (z : Nat), z ≤ 2 → (escF z l).length ≤ l.length + (l.length + z) / 2
  | [], z, _ => by simp [escF]
  | c :: l, z, hz => by
    have ih := escF_half l (escS z c) (escS_le hz)
    simp only [escF, List.length_append, List.length_cons]
    by_cases h : 2 ≤ z ∧ c ≤ 3
    · have h1 : (escO z c).length = 2 := by simp only [escO, if_pos h]; rfl
      have h2 : escS z c ≤ 1 := by simp only [escS, if_pos h]; split <;> omega
      omega
    · have h1 : (escO z c).length = 1 := by simp only [escO, if_neg h]; rfl
      have h2 : escS z c ≤ z + 1 := by simp only [escS, if_neg h]; split <;> omega
      omega
/-- Escaped bytes with a 7 behind: no three that are low; the last is a 7. -/
theorem escF_seven (l : List Nat) : ∃ y, escF 0 (l ++ [7]) = y ++ [7] := ⟨escF 0 l, by rw [escF_snoc]; simp [escO]⟩
def cat : List (List Nat) → List Nat
  | [] => []
  | y :: ys => [0, 0, 1] ++ y ++ cat ys
def pos : Nat → List (List Nat) → List Nat
  | _, [] => []
  | o, y :: ys => o :: pos (o + 3 + y.length) ys
theorem cat_snoc : ∀ (ys : List (List Nat)) (y : List Nat), cat (ys ++ [y]) = cat ys ++ [0, 0, 1] ++ y
  | [], y => by simp [cat]
  | x :: ys, y => by simp [cat, cat_snoc ys y]
theorem pos_snoc : ∀ (ys : List (List Nat)) (y : List Nat) (o : Nat), pos o (ys ++ [y]) = pos o ys ++ [o + (cat ys).length]
  | [], y, o => by simp [pos, cat]
  | x :: ys, y, o => by
    simp only [List.cons_append, pos, pos_snoc ys y, cat, List.length_append, List.length_cons, List.length_nil]
    congr 3; omega
theorem pos_len : ∀ (ys : List (List Nat)) (o : Nat), (pos o ys).length = ys.length
  | [], _ => rfl
  | _ :: ys, o => by simp [pos, pos_len ys]
theorem pos_ge : ∀ (ys : List (List Nat)) (o : Nat), ∀ p ∈ pos o ys, o ≤ p
  | [], _, p, h => by simp [pos] at h
  | y :: ys, o, p, h => by
    rcases List.mem_cons.1 h with rfl | h
    · exact Nat.le_refl _
    · have := pos_ge ys _ p h; omega
theorem pos_sorted : ∀ (ys : List (List Nat)) (o : Nat), (pos o ys).Pairwise (· < ·)
  | [], _ => .nil
  | y :: ys, o => List.pairwise_cons.2 ⟨fun p hp => by have := pos_ge ys _ p hp; omega, pos_sorted ys _⟩
theorem isM_cat : ∀ (ys : List (List Nat)) (o i : Nat), (∀ y ∈ ys, (∀ j, ¬ Low 3 y j) ∧ ∃ z, y = z ++ [7]) → (IsM (cat ys) i ↔ o + i ∈ pos o ys)
  | [], o, i, _ => by simp [cat, pos, IsM]
  | y :: ys, o, i, h => by
    obtain ⟨hlow, z, hz⟩ := h y (by simp)
    have ih := isM_cat ys (o + 3 + y.length) (i - 3 - y.length) (fun x hx => h x (by simp [hx]))
    simp only [pos, List.mem_cons]
    have hcat : cat (y :: ys) = [0, 0, 1] ++ (y ++ cat ys) := by simp [cat]
    have hyl : y.length = z.length + 1 := by rw [hz]; simp
    have hy7 : y[z.length]? = some 7 := by rw [hz]; simp
    have g3 : ∀ j, (cat (y :: ys))[j + 3]? = (y ++ cat ys)[j]? := fun j => by rw [hcat, List.getElem?_append_right (by simp)]; simp
    match i with
    | 0 => exact ⟨fun _ => .inl (by omega), fun _ => by simp [hcat, IsM]⟩
    | 1 =>
      refine ⟨fun hM => ?_, fun hM => ?_⟩
      · have := hM.2.1; simp [hcat] at this
      · rcases hM with hM | hM
        · omega
        · have := pos_ge _ _ _ hM; omega
    | 2 =>
      refine ⟨fun hM => ?_, fun hM => ?_⟩
      · have := hM.1; simp [hcat] at this
      · rcases hM with hM | hM
        · omega
        · have := pos_ge _ _ _ hM; omega
    | i + 3 =>
      have e : IsM (cat (y :: ys)) (i + 3) ↔ IsM (y ++ cat ys) i := by
        unfold IsM
        rw [g3, show i + 3 + 1 = (i + 1) + 3 by omega, show i + 3 + 2 = (i + 2) + 3 by omega, g3, g3]
      rw [e]
      by_cases hi : i < y.length
      · refine ⟨fun hM => ?_, fun hM => ?_⟩
        · exfalso
          by_cases h2 : i + 2 < y.length
          · refine hlow i ⟨?_, ?_, 1, ?_, by omega⟩
            · have := hM.1; rwa [List.getElem?_append_left (by omega)] at this
            · have := hM.2.1; rwa [List.getElem?_append_left (by omega)] at this
            · have := hM.2.2; rwa [List.getElem?_append_left (by omega)] at this
          · rcases (show i = z.length ∨ i + 1 = z.length by omega) with h3 | h3
            · have := hM.1; rw [List.getElem?_append_left (by omega), h3, hy7] at this; cases this
            · have := hM.2.1; rw [List.getElem?_append_left (by omega), h3, hy7] at this; cases this
        · rcases hM with hM | hM
          · omega
          · have := pos_ge _ _ _ hM; omega
      · have e2 : IsM (y ++ cat ys) i ↔ IsM (cat ys) (i + 3 - 3 - y.length) := by
          unfold IsM
          rw [List.getElem?_append_right (by omega), List.getElem?_append_right (by omega), List.getElem?_append_right (by omega)]
          rw [show i + 1 - y.length = i + 3 - 3 - y.length + 1 by omega, show i + 2 - y.length = i + 3 - 3 - y.length + 2 by omega, show i + 3 - 3 - y.length = i - y.length by omega]
        rw [e2, ih, show o + 3 + y.length + (i + 3 - 3 - y.length) = o + (i + 3) by omega]
        exact ⟨fun h => .inr h, fun h => by rcases h with h | h; omega; exact h⟩
theorem isM_at (ys : List (List Nat)) (h : ∀ y ∈ ys, (∀ j, ¬ Low 3 y j) ∧ ∃ z, y = z ++ [7]) (i : Nat) : IsM (cat ys) i ↔ i ∈ pos 0 ys := by
  have := isM_cat ys 0 i h
  simpa using this
/-- From behind the marker before on, the next one is the first. -/
theorem next_pos {ys : List (List Nat)} {k fr : Nat} (hk : k < (pos 0 ys).length) (hf : k = 0 ∧ fr = 0 ∨ ∃ m, k = m + 1 ∧ fr = (pos 0 ys).getD m 0 + 1) : fr ≤ (pos 0 ys)[k] ∧ ∀ j ∈ pos 0 ys, fr ≤ j → (pos 0 ys)[k] ≤ j := by
  have hs := pos_sorted ys 0
  rw [List.pairwise_iff_getElem] at hs
  have mono : ∀ a b (ha : a < (pos 0 ys).length) (hb : b < (pos 0 ys).length), a ≤ b → (pos 0 ys)[a] ≤ (pos 0 ys)[b] := fun a b ha hb hab => by
    rcases Nat.lt_or_ge a b with h | h
    · exact Nat.le_of_lt (hs a b ha hb h)
    · have : a = b := by omega
      subst this; exact Nat.le_refl _
  constructor
  · rcases hf with ⟨rfl, rfl⟩ | ⟨m, rfl, rfl⟩
    · omega
    · have := hs m (m + 1) (by omega) hk (by omega)
      simp only [List.getD_eq_getElem?_getD, List.getElem?_eq_getElem (show m < (pos 0 ys).length by omega), Option.getD_some]
      omega
  · intro j hj hfj
    obtain ⟨m', hm', rfl⟩ := List.getElem_of_mem hj
    rcases Nat.lt_or_ge m' k with h | h
    · exfalso
      rcases hf with ⟨rfl, rfl⟩ | ⟨m, rfl, rfl⟩
      · omega
      · have := mono m' m hm' (by omega) (by omega)
        simp only [List.getD_eq_getElem?_getD, List.getElem?_eq_getElem (show m < (pos 0 ys).length by omega), Option.getD_some] at hfj
        omega
    · exact mono k m' hk hm' h
theorem last_pos {ys : List (List Nat)} {fr : Nat} (hf : (pos 0 ys).length = 0 ∧ fr = 0 ∨ ∃ m, (pos 0 ys).length = m + 1 ∧ fr = (pos 0 ys).getD m 0 + 1) : ∀ j ∈ pos 0 ys, ¬ fr ≤ j := by
  intro j hj hfj
  have hs := pos_sorted ys 0
  rw [List.pairwise_iff_getElem] at hs
  obtain ⟨m', hm', rfl⟩ := List.getElem_of_mem hj
  rcases hf with ⟨h0, rfl⟩ | ⟨m, h0, rfl⟩
  · omega
  · simp only [List.getD_eq_getElem?_getD, List.getElem?_eq_getElem (show m < (pos 0 ys).length by omega), Option.getD_some] at hfj
    rcases Nat.lt_or_ge m' m with h | h
    · have := hs m' m hm' (by omega) h; omega
    · have : m' = m := by omega
      subst this; omega
end Go.P
