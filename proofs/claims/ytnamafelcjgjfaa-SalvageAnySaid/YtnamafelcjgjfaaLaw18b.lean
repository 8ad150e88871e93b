/- Lists of blocks: what is held of them, their bits; blocks by small numbers among the arguments; no condition. -/
import Derived.Test.YtnamafelcjgjfaaSh
import Derived.Test.YtnamafelcjgjfaaLaw18s
import Derived.Test.YtnamafelcjgjfaaK14
import Derived.Test.YtnamafelcjgjfaaK17
namespace Go.Proofs.Ytnamafelcjgjfaa
open Go Go.K Go.P Go.RowKit Go.Proofs Go.ChangeShapes Go.WideShapes
/-- A block in memory: where its events lie, and they. -/
abbrev EL := Option Addr × Nat × List (Nat × Int)
def elv (x : EL) : Value := .slice x.1 x.2.2.length x.2.1
def elvs (X : List EL) : List Value := X.map elv
/-- Many blocks, that are read. -/
def Rl (X : List EL) : Res := ⟨X.flatMap fun x => if x.2.2 = [] then [] else blk x.1, fun w => ∀ x ∈ X, SlA w x.1 (evC x.2.2), fun {S w w'} h hE hS x hx => by
    by_cases h0 : x.2.2 = []
    · rw [h0]; exact .nil
    · exact (h x hx).ext hE (fun s hs hb => hS s hs (List.mem_flatMap.2 ⟨x, hx, by rw [if_neg h0]; exact hb⟩)), fun {w} h s hs => by
    obtain ⟨x, hx, hb⟩ := List.mem_flatMap.1 hs
    by_cases h0 : x.2.2 = []
    · rw [if_pos h0] at hb; cases hb
    · rw [if_neg h0] at hb
      refine (h x hx).lt (fun e => ?_) s hb
      have := evC_len x.2.2
      rw [e] at this
      exact h0 (List.eq_nil_of_length_eq_zero (by simp at this; omega))⟩
theorem Rl.nil {w : World} : New (Rl []) w w := ⟨.refl, by intro x hx; simp at hx, by simp [Rl]⟩
/-- A block that is put into the list, at its end or in a place of it. -/
theorem Rl.put {S : List Nat} {W w : World} {H : List Res} {X Y : List EL} {a : Option Addr} {n c : Nat} {ps : List (Nat × Int)} (i j : Nat) (h : Hp S W w H) (hi : H[i]? = some (Rl X)) (hj : H[j]? = some (Re a n c (evC ps))) (hne : i ≠ j)
    (hY : ∀ y ∈ Y, y ∈ X ∨ y = (a, c, ps)) : Hp S W w ((H.set i (Rl Y)).eraseIdx j) := by
  have h1 := h.merge i j hi hj hne
  have hlt : i < H.length := (List.getElem?_eq_some_iff.1 hi).1
  have hjl : j < H.length := (List.getElem?_eq_some_iff.1 hj).1
  obtain ⟨i', hi', he⟩ : ∃ i', ((H.set i (sep (Rl X) (Re a n c (evC ps)))).eraseIdx j)[i']? = some (sep (Rl X) (Re a n c (evC ps))) ∧ (((H.set i (sep (Rl X) (Re a n c (evC ps)))).eraseIdx j).set i' (Rl Y)) = (H.set i (Rl Y)).eraseIdx j := by
    by_cases hij : i < j
    · refine ⟨i, ?_, ?_⟩
      · rw [List.getElem?_eraseIdx_of_lt hij, List.getElem?_set_self hlt]
      · rw [List.eraseIdx_set_gt hij, List.eraseIdx_set_gt hij, List.set_set]
    · have hji : j < i := by omega
      refine ⟨i - 1, ?_, ?_⟩
      · rw [List.getElem?_eraseIdx_of_ge (by omega), Nat.sub_add_cancel (by omega), List.getElem?_set_self hlt]
      · rw [List.eraseIdx_set_lt hji, List.eraseIdx_set_lt hji, List.set_set]
  have h2 := h1.as i' hi' (r' := Rl Y) (fun s hs => by
      obtain ⟨y, hy, hb⟩ := List.mem_flatMap.1 hs
      rcases hY y hy with h3 | rfl
      · exact List.mem_append.2 (.inl (List.mem_flatMap.2 ⟨y, h3, hb⟩))
      · refine List.mem_append.2 (.inr ?_)
        by_cases h0 : ps = []
        · simp only [h0, if_pos] at hb; cases hb
        · simp only [h0, if_false] at hb
          exact hb)
    (fun hh y hy => by
      rcases hY y hy with h3 | rfl
      · exact hh.1 y h3
      · exact Own.sl hh.2.1)
  rw [he] at h2
  exact h2
theorem Rl.at {w : World} {X : List EL} (h : (Rl X).holds w) {i : Nat} (hi : i < X.length) : SlA w X[i].1 (evC X[i].2.2) := h _ (List.getElem_mem hi)
theorem elvs_len (X : List EL) : (elvs X).length = X.length := by simp [elvs]
theorem elvs_at (X : List EL) {i : Nat} (hi : i < X.length) : (elvs X)[i]? = some (elv X[i]) := by simp [elvs, hi]
theorem elvs_app (X : List EL) (x : EL) : elvs X ++ [elv x] = elvs (X ++ [x]) := by simp [elvs]
/-- Their bits. -/
def bL (X : List EL) : List Bool := X.flatMap fun x => bb x.2.2
def GX (X : List EL) : Prop := ∀ x ∈ X, GB x.2.2
theorem GX.snoc {X : List EL} (h : GX X) {x : EL} (hx : GB x.2.2) : GX (X ++ [x]) := fun y hy => by
  rcases List.mem_append.1 hy with h1 | h1
  · exact h y h1
  · simp at h1; subst h1; exact hx
theorem bL_app (X Y : List EL) : bL (X ++ Y) = bL X ++ bL Y := by simp [bL]
theorem bL_snoc (X : List EL) (x : EL) : bL (X ++ [x]) = bL X ++ bb x.2.2 := by simp [bL]
theorem bL_drop (X : List EL) {i : Nat} (hi : i < X.length) : bL (X.drop i) = bb X[i].2.2 ++ bL (X.drop (i + 1)) := by
  rw [List.drop_eq_getElem_cons hi]; unfold bL; rw [List.flatMap_cons]
theorem bL_take (X : List EL) {i : Nat} (hi : i < X.length) : bL (X.take (i + 1)) = bL (X.take i) ++ bb X[i].2.2 := by
  rw [List.take_succ_eq_append_getElem hi, bL_snoc]
theorem bL_back (X : List EL) {i : Nat} (hi : i < X.length) : (bL (X.take (i + 1))).reverse = (bb X[i].2.2).reverse ++ (bL (X.take i)).reverse := by rw [bL_take X hi, List.reverse_append]
theorem bL_le {X : List EL} (h : GX X) : (bL X).length ≤ 3200 * X.length := by
  induction X with
  | nil => simp [bL]
  | cons x X ih =>
    have h1 := ih (fun y hy => h y (by simp [hy]))
    have h2 := bb_len_le (h x (by simp))
    have h3 := (h x (by simp)).len
    simp only [bL, List.flatMap_cons, List.length_append, List.length_cons] at h1 ⊢
    omega
theorem GX.at {X : List EL} (h : GX X) {i : Nat} (hi : i < X.length) : GB X[i].2.2 := h _ (List.getElem_mem hi)
theorem bL_pre (X : List EL) {k m : Nat} (h : k ≤ m) : (bL (X.take k)).length ≤ (bL (X.take m)).length := by
  obtain ⟨d, rfl⟩ := Nat.le.dest h
  have e : X.take (k + d) = X.take k ++ (X.drop k).take d := by rw [List.take_add]
  rw [e, bL_app, List.length_append]
  omega
/-- From the end, so many blocks are left: where one ends. -/
theorem bL_end {X : List EL} (h : GX X) {k m : Nat} (hk : k ≤ m) (hm : m ≤ X.length) : AtEnd (bL (X.take k)).length (bL (X.take m)).reverse := by
  by_cases hkm : k = m
  · subst hkm; exact .inl (by simp)
  · obtain ⟨j, rfl⟩ : ∃ j, m = j + 1 := ⟨m - 1, by omega⟩
    have hj : j < X.length := by omega
    obtain ⟨p, q, hp, hq⟩ := bb_last (h.at hj)
    have h1 := bb_pos (h.at hj)
    have h2 := bL_pre X (k := k) (m := j) (by omega)
    refine .inr ⟨?_, p, q ++ (bL (X.take j)).reverse, hp, ?_⟩
    · rw [List.length_reverse, bL_take X hj, List.length_append]; omega
    · rw [bL_back X hj, hq, List.append_assoc]
theorem bL_tkb {X : List EL} (h : GX X) {i : Nat} (hi : i < X.length) : tkb 64 (bL (X.drop i)) = some (X[i].2.2, bL (X.drop (i + 1))) := by
  have hg := h.at hi
  exact tkb_iff.2 ⟨hg.ne, hg.len, hg.ok, bL_drop X hi⟩
theorem bL_bkb {X : List EL} (h : GX X) {k i : Nat} (hk : k ≤ i) (hi : i < X.length) : bkb (bL (X.take k)).length 65 [] (bL (X.take (i + 1))).reverse = some (X[i].2.2, (bL (X.take i)).reverse) := by
  rw [bL_back X hi]
  exact bkb_full (bL_end h hk (by omega)) (h.at hi)
theorem bkb_none {st : Nat} {l : List Bool} (h : l.length ≤ st) : bkb st 65 [] l = none := by
  unfold bkb
  rw [if_neg (by omega), if_neg (by simp)]
/-! ### Blocks by small numbers, among the arguments -/
abbrev SMD : Desc := .str (.cons (.int .u64) (.cons (.int .u32) (.cons .bool .nil)))
def smcs (ms : List SM) : List Value := (ms.map SM.cells).flatten
theorem rd_sm {cs : List Value} {w : World} (h : K.Rd w SMD cs) : ∃ m : SM, cs = m.cells ∧ m.ok := by
  obtain ⟨d1, d2, rfl, ⟨k, rfl, hk⟩, d3, d4, rfl, ⟨s, rfl, hs⟩, d5, d6, rfl, ⟨b, rfl⟩, rfl⟩ := h
  obtain ⟨k, rfl, hk2⟩ := fits_u64 hk
  obtain ⟨s, rfl, hs2⟩ := fits_u32 hs
  exact ⟨⟨k, s, b⟩, rfl, ⟨hk2, hs2⟩⟩
theorem sms_of {w : World} : ∀ {ess : List (List Value)}, (∀ e ∈ ess, K.Rd w SMD e) → ∃ xs : List SM, ess = xs.map SM.cells ∧ ∀ x ∈ xs, x.ok
  | [], _ => ⟨[], rfl, by simp⟩
  | e :: ess, h => by
    obtain ⟨x, hx, hw⟩ := rd_sm (h e (by simp))
    obtain ⟨xs, hh, hws⟩ := sms_of (ess := ess) (fun y hy => h y (by simp [hy]))
    exact ⟨x :: xs, by rw [hx, hh]; rfl, fun y hy => by rcases List.mem_cons.1 hy with rfl | hy; exact hw; exact hws y hy⟩
theorem rd_sms {cs : List Value} {w : World} (h : K.Rd w (.sl SMD) cs) : ∃ a cap, ∃ ms : List SM, cs = [.slice a ms.length cap] ∧ SlA w a (smcs ms) ∧ (∀ m ∈ ms, m.ok) ∧ ms.length ≤ 9223372036854775807 := by
  obtain ⟨a, len, cap, ess, rfl, hl, hS, he, hc, hm⟩ := h
  obtain ⟨ms, rfl, hok⟩ := sms_of he
  simp only [List.length_map] at hl
  subst hl
  exact ⟨a, cap, ms, rfl, hS, hok, by simp only [maxLen] at hm; omega⟩
theorem smcs_len : ∀ (xs : List SM), (smcs xs).length = xs.length * 3
  | [] => rfl
  | x :: xs => by
    have := smcs_len xs
    simp only [smcs, List.map_cons, List.flatten_cons, List.length_append, List.length_cons] at this ⊢
    rw [this, show x.cells.length = 3 from rfl]; omega
theorem smcs_at : ∀ (xs : List SM) (i : Nat) (h : i < xs.length), ((smcs xs).drop (i * 3)).take 3 = xs[i].cells
  | x :: xs, 0, _ => rfl
  | x :: xs, i + 1, hi => by
    have := smcs_at xs i (by simpa using hi)
    rw [List.getElem_cons_succ, ← this, show (i + 1) * 3 = i * 3 + 3 by omega]
    rfl
end Go.Proofs.Ytnamafelcjgjfaa
