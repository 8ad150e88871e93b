/- Runs and levels of a list of integers, as pairs: plain Lean; no program in sight. -/
import Derived.Test.YtnamafelcjgjfaaK5
namespace Go.P
open Go Go.K
abbrev I (n : Int) : Value := .int .i64 n
/-- What lies at k and behind, as (noughts ahead, number) with r noughts before. -/
def pairs : Nat → List Int → List (Nat × Int)
  | _, [] => []
  | r, x :: l => if x = 0 then pairs (r + 1) l else (r, x) :: pairs 0 l
/-- The events' cells, the last one not yet marked. -/
def evF (ps : List (Nat × Int)) : List Value := ps.flatMap fun p => [I p.1, I p.2, .bool false]
/-- The events' cells. -/
def evC : List (Nat × Int) → List Value
  | [] => []
  | [p] => [I p.1, I p.2, .bool true]
  | p :: q :: l => I p.1 :: I p.2 :: .bool false :: evC (q :: l)
theorem evF_snoc (ps : List (Nat × Int)) (r : Nat) (x : Int) : evF ps ++ [I r, I x, .bool false] = evF (ps ++ [(r, x)]) := by simp [evF]
theorem evF_len (ps : List (Nat × Int)) : (evF ps).length = ps.length * 3 := by
  induction ps with
  | nil => rfl
  | cons p l ih => simp [evF] at ih ⊢; omega
theorem evF_set : ∀ (ps : List (Nat × Int)), ps ≠ [] → (evF ps).set ((ps.length - 1) * 3 + 2) (.bool true) = evC ps
  | [], h => absurd rfl h
  | [p], _ => by simp [evF, evC]
  | p :: q :: l, _ => by
    have ih := evF_set (q :: l) (by simp)
    have e : ((p :: q :: l).length - 1) * 3 + 2 = ((q :: l).length - 1) * 3 + 2 + 1 + 1 + 1 := by simp; omega
    rw [e, evC, ← ih]
    rfl
/-- Place j of the event i. -/
theorem evC_get : ∀ (ps : List (Nat × Int)) (i : Nat) (h : i < ps.length), (evC ps)[i * 3]? = some (I ps[i].1) ∧ (evC ps)[i * 3 + 1]? = some (I ps[i].2) ∧ (evC ps)[i * 3 + 2]? = some (.bool (decide (i + 1 = ps.length)))
  | [], i, h => absurd h (by simp)
  | [p], i, h => by
    obtain rfl : i = 0 := by simpa using h
    simp [evC]
  | p :: q :: l, 0, _ => by simp [evC]
  | p :: q :: l, i + 1, h => by
    have ih := evC_get (q :: l) i (by simpa using h)
    have e : (i + 1) * 3 = i * 3 + 1 + 1 + 1 := by omega
    have e1 : (i + 1) * 3 + 1 = i * 3 + 1 + 1 + 1 + 1 := by omega
    have e2 : (i + 1) * 3 + 2 = i * 3 + 2 + 1 + 1 + 1 := by omega
    refine ⟨?_, ?_, ?_⟩
    · rw [e]; simpa [evC] using ih.1
    · rw [e1]; simpa [evC] using ih.2.1
    · rw [e2]; simpa [evC] using ih.2.2
theorem evC_len : ∀ (ps : List (Nat × Int)), (evC ps).length = ps.length * 3
  | [] => rfl
  | [p] => rfl
  | p :: q :: l => by have := evC_len (q :: l); simp [evC] at this ⊢; omega
theorem pairs_len : ∀ (r : Nat) (l : List Int), (pairs r l).length ≤ l.length
  | _, [] => by simp [pairs]
  | r, x :: l => by
    have h1 := pairs_len (r + 1) l
    have h2 := pairs_len 0 l
    unfold pairs
    split <;> simp <;> omega
theorem evC_ev (ps : List (Nat × Int)) (i : Nat) (h : i < ps.length) : ((evC ps).drop (i * 3)).take 3 = [I ps[i].1, I ps[i].2, .bool (decide (i + 1 = ps.length))] := by
  obtain ⟨h1, h2, h3⟩ := evC_get ps i h
  have hl := evC_len ps
  refine List.ext_getElem? (fun j => ?_)
  rw [List.getElem?_take]
  by_cases hj : j < 3
  · rw [if_pos hj, List.getElem?_drop]
    obtain rfl | rfl | rfl : j = 0 ∨ j = 1 ∨ j = 2 := by omega
    · rw [Nat.add_zero, h1]; rfl
    · rw [h2]; rfl
    · rw [h3]; rfl
  · rw [if_neg hj]; simp; omega
theorem pairs_mem : ∀ (r : Nat) (l : List Int), ∀ p ∈ pairs r l, p.1 ≤ r + l.length ∧ p.2 ∈ l ∧ p.2 ≠ 0
  | _, [], p, h => by simp [pairs] at h
  | r, x :: l, p, h => by
    unfold pairs at h
    split at h
    · obtain ⟨h1, h2, h3⟩ := pairs_mem (r + 1) l p h
      exact ⟨by simp; omega, by simp [h2], h3⟩
    · rename_i h0
      rcases List.mem_cons.1 h with rfl | h
      · simp [h0]
      · obtain ⟨h1, h2, h3⟩ := pairs_mem 0 l p h
        exact ⟨by simp; omega, by simp [h2], h3⟩
theorem pairs_zero : ∀ (n r : Nat), pairs r (List.replicate n 0) = []
  | 0, r => by simp [pairs]
  | n + 1, r => by rw [List.replicate_succ, pairs, if_pos rfl]; exact pairs_zero n (r + 1)
theorem pairs_behind (n : Nat) : ∀ (r : Nat) (l : List Int), pairs r (l ++ List.replicate n 0) = pairs r l
  | r, [] => by simp [pairs, pairs_zero]
  | r, x :: l => by
    simp only [List.cons_append, pairs, pairs_behind n]
theorem pairs_ahead : ∀ (n r : Nat) (l : List Int), pairs r (List.replicate n 0 ++ l) = pairs (r + n) l
  | 0, r, l => by simp
  | n + 1, r, l => by
    rw [List.replicate_succ, List.cons_append, pairs, if_pos rfl, pairs_ahead n]
    congr 1; omega
/-- The first run longer by n. -/
def bump (n : Nat) : List (Nat × Int) → List (Nat × Int)
  | [] => []
  | p :: l => (p.1 + n, p.2) :: l
theorem pairs_bump (n : Nat) : ∀ (r : Nat) (l : List Int), pairs (r + n) l = bump n (pairs r l)
  | r, [] => rfl
  | r, x :: l => by
    unfold pairs
    split
    · rw [show r + n + 1 = (r + 1) + n by omega]; exact pairs_bump n (r + 1) l
    · rfl
theorem bump_len (n : Nat) (l : List (Nat × Int)) : (bump n l).length = l.length := by cases l <;> rfl
theorem evC_bump (n : Nat) (p : Nat × Int) (l : List (Nat × Int)) : evC (bump n (p :: l)) = (evC (p :: l)).set 0 (I ((p.1 + n : Nat))) := by
  cases l <;> rfl
/-- A list that turns from v to s, place by place. -/
theorem weave {α : Type} (s v : List α) (k : Nat) (x : α) (hk : s[k]? = some x) (hl : s.length = v.length) : (s.take k ++ v.drop k).set k x = s.take (k + 1) ++ v.drop (k + 1) := by
  have hks : k < s.length := (List.getElem?_eq_some_iff.1 hk).1
  have hx : s[k] = x := (List.getElem?_eq_some_iff.1 hk).2
  have hlen : (s.take k).length = k := by simp; omega
  rw [List.drop_eq_getElem_cons (show k < v.length by omega), List.take_succ_eq_append_getElem hks]
  rw [List.set_append_right _ _ (by omega), hlen, Nat.sub_self, List.set_cons_zero, hx]
  simp
/-- Few numbers that aren't nought: layer 10's. -/
def spar (kp : Nat) (vs : List Int) : List Int := vs.zipIdx.map fun p => if kp / 2 ^ p.2 &&& 1 = 0 then 0 else min (max p.1 (-2047)) 2047
theorem spar_len (kp : Nat) (vs : List Int) : (spar kp vs).length = vs.length := by simp [spar]
theorem spar_get (kp : Nat) (vs : List Int) (k : Nat) (h : k < vs.length) : (spar kp vs)[k]? = some (if kp / 2 ^ k &&& 1 = 0 then 0 else min (max vs[k] (-2047)) 2047) := by
  simp [spar, h]
theorem spar_in (kp : Nat) (vs : List Int) : ∀ x ∈ spar kp vs, -2047 ≤ x ∧ x ≤ 2047 := by
  intro x hx
  obtain ⟨p, _, rfl⟩ := List.mem_map.1 hx
  split <;> omega
theorem evC_unbump (n : Nat) (p : Nat × Int) (l : List (Nat × Int)) : (evC (bump n (p :: l))).set 0 (I p.1) = evC (p :: l) := by
  cases l <;> rfl
theorem evC_bump_far (n i : Nat) (h : 1 ≤ i) (ps : List (Nat × Int)) : (evC (bump n ps)).drop (i * 3) = (evC ps).drop (i * 3) := by
  cases ps with
  | nil => rfl
  | cons p l => rw [evC_bump, List.drop_set_of_lt (by omega)]
theorem bump_mem (n : Nat) (ps : List (Nat × Int)) (B : Nat) (S : Int → Prop) (h : ∀ p ∈ ps, p.1 ≤ B ∧ S p.2) : ∀ p ∈ bump n ps, p.1 ≤ B + n ∧ S p.2 := by
  cases ps with
  | nil => simp [bump]
  | cons p l =>
    intro q hq
    rcases List.mem_cons.1 hq with rfl | hq
    · have := h p (by simp); exact ⟨by show p.1 + n ≤ B + n; omega, this.2⟩
    · have := h q (by simp [hq]); exact ⟨by omega, this.2⟩
theorem pairs_cons : ∀ (l : List Int) (r0 r : Nat) (v : Int) (rest : List (Nat × Int)), pairs r0 l = (r, v) :: rest → ∃ j y, r = r0 + j ∧ l = List.replicate j 0 ++ v :: y ∧ v ≠ 0 ∧ pairs 0 y = rest
  | [], _, _, _, _, h => by simp [pairs] at h
  | x :: l, r0, r, v, rest, h => by
    unfold pairs at h
    split at h
    · rename_i h0
      obtain ⟨j, y, rfl, rfl, hv, hy⟩ := pairs_cons l (r0 + 1) r v rest h
      exact ⟨j + 1, y, by omega, by rw [h0, List.replicate_succ]; rfl, hv, hy⟩
    · rename_i h0
      simp only [List.cons.injEq, Prod.mk.injEq] at h
      obtain ⟨⟨rfl, rfl⟩, hr⟩ := h
      exact ⟨0, l, rfl, rfl, h0, hr⟩
theorem pairs_nil : ∀ (l : List Int) (r : Nat), pairs r l = [] → l = List.replicate l.length 0
  | [], _, _ => rfl
  | x :: l, r, h => by
    unfold pairs at h
    split at h
    · rename_i h0
      have := pairs_nil l (r + 1) h
      rw [List.length_cons, List.replicate_succ, ← this, h0]
    · cases h
theorem pairs_snoc : ∀ (l : List Int) (r : Nat) (v : Int), (pairs r (l ++ [v])).length = (pairs r l).length + (if v = 0 then 0 else 1)
  | [], r, v => by simp only [List.nil_append, pairs]; split <;> rfl
  | x :: l, r, v => by
    simp only [List.cons_append, pairs]
    split
    · exact pairs_snoc l (r + 1) v
    · rw [List.length_cons, List.length_cons, pairs_snoc l 0 v]; omega
/-- What the event at place i tells of the numbers from p on. -/
theorem pairs_at {x : List Int} {p i : Nat} {ps : List (Nat × Int)} (h : pairs 0 (x.drop p) = ps.drop i) (hi : i < ps.length) :
    p + ps[i].1 < x.length ∧ x[p + ps[i].1]? = some ps[i].2 ∧ ps[i].2 ≠ 0 ∧ (∀ k < ps[i].1, x[p + k]? = some 0) ∧ pairs 0 (x.drop (p + ps[i].1 + 1)) = ps.drop (i + 1) := by
  rw [List.drop_eq_getElem_cons hi] at h
  obtain ⟨j, y, hj, hy, hv, hr⟩ := pairs_cons _ _ ps[i].1 ps[i].2 _ (by rw [h])
  rw [Nat.zero_add] at hj
  subst hj
  have hg : ∀ k, x[p + k]? = (List.replicate ps[i].1 0 ++ ps[i].2 :: y)[k]? := fun k => by rw [← hy, List.getElem?_drop]
  have h1 : x[p + ps[i].1]? = some ps[i].2 := by rw [hg, List.getElem?_append_right (by simp)]; simp
  refine ⟨(List.getElem?_eq_some_iff.1 h1).1, h1, hv, fun k hk => ?_, ?_⟩
  · rw [hg, List.getElem?_append_left (by simpa using hk)]; simp [hk]
  · rw [← hr]
    congr 1
    rw [show p + ps[i].1 + 1 = p + (ps[i].1 + 1) by omega, ← List.drop_drop, hy, List.drop_append]
    simp [List.drop_replicate]
theorem weave_same {s v : List Int} {p : Nat} : ∀ (j : Nat), (∀ k < j, s[p + k]? = some 0) → (∀ k < j, v[p + k]? = some 0) → s.length = v.length → s.take p ++ v.drop p = s.take (p + j) ++ v.drop (p + j)
  | 0, _, _, _ => rfl
  | j + 1, hs, hv, hl => by
    rw [weave_same j (fun k hk => hs k (by omega)) (fun k hk => hv k (by omega)) hl]
    have h1 := hs j (by omega)
    have h2 := hv j (by omega)
    rw [← Nat.add_assoc, ← weave s v (p + j) 0 h1 hl]
    symm
    have hlt : p + j < s.length := (List.getElem?_eq_some_iff.1 h1).1
    have hg : (s.take (p + j) ++ v.drop (p + j))[p + j]? = some 0 := by
      rw [List.getElem?_append_right (by simp; omega), List.getElem?_drop]
      rw [show (p + j) + (p + j - (s.take (p + j)).length) = p + j by simp; omega]
      exact h2
    obtain ⟨h3, h4⟩ := List.getElem?_eq_some_iff.1 hg
    conv => lhs; rw [← h4]
    exact List.set_getElem_self h3
end Go.P
