/- Plain laws of what can be had of a part that isn't right; no program in sight, no condition. -/
import Derived.Test.YtnamafelcjgjfaaPBlock
import Derived.Test.YtnamafelcjgjfaaPEsc
import Derived.Test.YtnamafelcjgjfaaPLast
namespace Go.P
open Go Go.K

abbrev PS := List (Nat × Int)
/-- Blocks from the beginning, and what is left. -/
def fwd : Nat → List Bool → List PS × List Bool
  | 0, l => ([], l)
  | k + 1, l => match tkb 64 l with
    | none => ([], l)
    | some (ps, r) => (ps :: (fwd k r).1, (fwd k r).2)
/-- Blocks from the end, the last one first. -/
def bwd (st : Nat) : Nat → List Bool → List PS × List Bool
  | 0, l => ([], l)
  | k + 1, l => match bkb st 65 [] l with
    | none => ([], l)
    | some (ps, r) => (ps :: (bwd st k r).1, (bwd st k r).2)
theorem fwd_some {k : Nat} {l r : List Bool} {ps : PS} (h : tkb 64 l = some (ps, r)) : fwd (k + 1) l = (ps :: (fwd k r).1, (fwd k r).2) := by
  show (match tkb 64 l with | none => ([], l) | some (ps, r) => (ps :: (fwd k r).1, (fwd k r).2)) = _
  rw [h]
theorem fwd_none {k : Nat} {l : List Bool} (h : tkb 64 l = none) : fwd k l = ([], l) := by
  cases k with
  | zero => rfl
  | succ k =>
    show (match tkb 64 l with | none => ([], l) | some (ps, r) => (ps :: (fwd k r).1, (fwd k r).2)) = _
    rw [h]
theorem bwd_some {st k : Nat} {l r : List Bool} {ps : PS} (h : bkb st 65 [] l = some (ps, r)) : bwd st (k + 1) l = (ps :: (bwd st k r).1, (bwd st k r).2) := by
  show (match bkb st 65 [] l with | none => ([], l) | some (ps, r) => (ps :: (bwd st k r).1, (bwd st k r).2)) = _
  rw [h]
theorem bwd_none {st k : Nat} {l : List Bool} (h : bkb st 65 [] l = none) : bwd st k l = ([], l) := by
  cases k with
  | zero => rfl
  | succ k =>
    show (match bkb st 65 [] l with | none => ([], l) | some (ps, r) => (ps :: (bwd st k r).1, (bwd st k r).2)) = _
    rw [h]
/-- Blocks' bits. -/
def bP (X : List PS) : List Bool := X.flatMap bb
theorem bP_app (X Y : List PS) : bP (X ++ Y) = bP X ++ bP Y := by simp [bP]
theorem bP_cons (x : PS) (Y : List PS) : bP (x :: Y) = bb x ++ bP Y := by simp [bP]
theorem bP_snoc (X : List PS) (x : PS) : bP (X ++ [x]) = bP X ++ bb x := by simp [bP]
def GP (X : List PS) : Prop := ∀ x ∈ X, GB x
theorem tkb_good {l r : List Bool} {ps : PS} (h : tkb 64 l = some (ps, r)) : GB ps ∧ l = bb ps ++ r := by
  obtain ⟨h1, h2, h3, h4⟩ := tkb_iff.1 h
  exact ⟨⟨h1, h2, h3⟩, h4⟩
theorem good_tkb {r : List Bool} {ps : PS} (h : GB ps) : tkb 64 (bb ps ++ r) = some (ps, r) := tkb_iff.2 ⟨h.ne, h.len, h.ok, rfl⟩
theorem tkb_nil : tkb 64 [] = none := by decide +kernel
theorem fwd_spec : ∀ (k : Nat) (l : List Bool), (fwd k l).1.length ≤ k ∧ GP (fwd k l).1 ∧ l = bP (fwd k l).1 ++ (fwd k l).2 ∧ ((fwd k l).1.length < k → tkb 64 (fwd k l).2 = none)
  | 0, l => ⟨by simp [fwd], by intro x hx; simp [fwd] at hx, by simp [fwd, bP], by simp [fwd]⟩
  | k + 1, l => by
    cases h : tkb 64 l with
    | none => rw [fwd_none h]; exact ⟨by simp, by intro x hx; simp at hx, by simp [bP], fun _ => h⟩
    | some q =>
      obtain ⟨ps, r⟩ := q
      obtain ⟨hg, hl⟩ := tkb_good h
      obtain ⟨h1, h2, h3, h4⟩ := fwd_spec k r
      rw [fwd_some h]
      refine ⟨by simp; exact h1, fun x hx => ?_, ?_, fun hlt => h4 (by simp at hlt; exact hlt)⟩
      · rcases List.mem_cons.1 hx with rfl | hx
        · exact hg
        · exact h2 x hx
      · simp only [bP_cons, List.append_assoc]
        rw [← h3]; exact hl
theorem bwd_spec (st : Nat) : ∀ (k : Nat) (l : List Bool), (bwd st k l).1.length ≤ k ∧ GP (bwd st k l).1 ∧ l.reverse = (bwd st k l).2.reverse ++ bP (bwd st k l).1.reverse ∧ ((bwd st k l).1 = [] ∨ st ≤ (bwd st k l).2.length)
  | 0, l => ⟨by simp [bwd], by intro x hx; simp [bwd] at hx, by simp [bwd, bP], .inl rfl⟩
  | k + 1, l => by
    cases h : bkb st 65 [] l with
    | none => rw [bwd_none h]; exact ⟨by simp, by intro x hx; simp at hx, by simp [bP], .inl rfl⟩
    | some q =>
      obtain ⟨ps, r⟩ := q
      obtain ⟨hg, hl, hst⟩ := bkb_some h
      obtain ⟨h1, h2, h3, h4⟩ := bwd_spec st k r
      rw [bwd_some h]
      refine ⟨by simp; exact h1, fun x hx => ?_, ?_, .inr ?_⟩
      · rcases List.mem_cons.1 hx with rfl | hx
        · exact hg
        · exact h2 x hx
      · simp only [List.reverse_cons, bP_snoc]
        rw [← List.append_assoc, ← h3, hl]; simp
      · rcases h4 with h4 | h4
        · have := congrArg List.length h3
          rw [h4] at this
          simp [bP] at this
          simp only; omega
        · exact h4
/-! ### What is had of so many bits, of so many blocks -/
def sF (m : Nat) (bs : List Bool) : List PS := (fwd m bs).1
def sB (m : Nat) (bs : List Bool) : List PS := (bwd (bs.length - (fwd m bs).2.length) (m - (fwd m bs).1.length) bs.reverse).1
/-- The blocks: those from the beginning, none, those from the end. -/
def sE (m : Nat) (F B : List PS) : List PS := F ++ (List.replicate (m - F.length - B.length) [] ++ B.reverse)
theorem sF_len (m : Nat) (bs : List Bool) : (sF m bs).length ≤ m := (fwd_spec m bs).1
theorem sB_len (m : Nat) (bs : List Bool) : (sF m bs).length + (sB m bs).length ≤ m := by
  have h1 := (fwd_spec m bs).1
  have h2 := (bwd_spec (bs.length - (fwd m bs).2.length) (m - (fwd m bs).1.length) bs.reverse).1
  unfold sF sB; omega
theorem sF_good (m : Nat) (bs : List Bool) : GP (sF m bs) := (fwd_spec m bs).2.1
theorem sB_good (m : Nat) (bs : List Bool) : GP (sB m bs) := (bwd_spec _ _ _).2.1
theorem sE_len {m : Nat} {F B : List PS} (h : F.length + B.length ≤ m) : (sE m F B).length = m := by simp [sE]; omega
theorem sE_at1 {m : Nat} {F B : List PS} {i : Nat} (h : i < F.length) : (sE m F B)[i]? = some F[i] := by
  unfold sE; rw [List.getElem?_append_left h, List.getElem?_eq_getElem h]
theorem sE_at2 {m : Nat} {F B : List PS} {i : Nat} (h : F.length + B.length ≤ m) (h1 : F.length ≤ i) (h2 : i < m - B.length) : (sE m F B)[i]? = some [] := by
  unfold sE
  rw [List.getElem?_append_right h1, List.getElem?_append_left (by simp; omega), List.getElem?_replicate, if_pos (by omega)]
theorem sE_at3 {m : Nat} {F B : List PS} {j : Nat} (h : F.length + B.length ≤ m) (hj : j < B.length) : (sE m F B)[m - 1 - j]? = some B[j] := by
  unfold sE
  rw [List.getElem?_append_right (by omega), List.getElem?_append_right (by simp; omega)]
  simp only [List.length_replicate]
  rw [List.getElem?_reverse (by omega), show B.length - 1 - (m - 1 - j - F.length - (m - F.length - B.length)) = j by omega, List.getElem?_eq_getElem hj]
theorem sE_nil (m : Nat) : sE m [] [] = List.replicate m [] := by simp [sE]
theorem sE_front {m : Nat} {F : List PS} {ps : PS} (h : F.length < m) : (sE m F []).set F.length ps = sE m (F ++ [ps]) [] := by
  obtain ⟨d, rfl⟩ : ∃ d, m = F.length + (d + 1) := ⟨m - F.length - 1, by omega⟩
  simp only [sE, List.reverse_nil, List.append_nil, List.length_nil, Nat.sub_zero, List.length_append, List.length_singleton]
  rw [show F.length + (d + 1) - F.length = d + 1 by omega, show F.length + (d + 1) - (F.length + 1) = d by omega, List.set_append_right _ _ (Nat.le_refl _), Nat.sub_self, List.replicate_succ]
  simp
theorem sE_back {m : Nat} {F B : List PS} {ps : PS} (h : F.length + B.length < m) : (sE m F B).set (m - (B.length + 1)) ps = sE m F (B ++ [ps]) := by
  obtain ⟨d, rfl⟩ : ∃ d, m = F.length + B.length + (d + 1) := ⟨m - F.length - B.length - 1, by omega⟩
  simp only [sE, List.reverse_append, List.reverse_singleton, List.length_append, List.length_singleton]
  rw [show F.length + B.length + (d + 1) - F.length - B.length = d + 1 by omega, show F.length + B.length + (d + 1) - F.length - (B.length + 1) = d by omega, show F.length + B.length + (d + 1) - (B.length + 1) = F.length + d by omega, List.set_append_right _ _ (by omega), Nat.add_sub_cancel_left,
    List.set_append_left _ _ (by simp), List.replicate_succ', List.set_append_right _ _ (by simp)]
  simp
/-- The bits of what is had are among all. -/
theorem s_bits (m : Nat) (bs : List Bool) : (bP (sF m bs)).length + (bP (sB m bs)).length ≤ bs.length := by
  obtain ⟨_, _, h3, _⟩ := fwd_spec m bs
  obtain ⟨_, _, g3, g4⟩ := bwd_spec (bs.length - (fwd m bs).2.length) (m - (fwd m bs).1.length) bs.reverse
  have e1 := congrArg List.length h3
  have e2 := congrArg List.length g3
  have e3 : (bP (sB m bs).reverse).length = (bP (sB m bs)).length := by simp [bP, List.length_flatMap]
  simp only [List.reverse_reverse, List.length_append, List.length_reverse] at e1 e2
  unfold sF sB at *
  rw [e3] at e2
  rcases g4 with g4 | g4
  · rw [g4]; simp [bP] at e1 ⊢; omega
  · omega
/-! ### A part that is right -/
theorem fwd_all : ∀ {X : List PS}, GP X → ∀ (k : Nat) (r : List Bool), fwd (X.length + k) (bP X ++ r) = (X ++ (fwd k r).1, (fwd k r).2)
  | [], _, k, r => by simp [bP]
  | x :: X, h, k, r => by
    have ih := fwd_all (X := X) (fun y hy => h y (by simp [hy])) k r
    rw [show (x :: X).length + k = (X.length + k) + 1 by simp; omega, bP_cons, List.append_assoc, fwd_some (good_tkb (h x (by simp))), ih]
    rfl
theorem s_right {X : List PS} (h : GP X) {m : Nat} (hm : X.length ≤ m) : sF m (bP X) = X ∧ sB m (bP X) = [] := by
  obtain ⟨d, rfl⟩ := Nat.le.dest hm
  have h1 := fwd_all h d []
  rw [List.append_nil, fwd_none tkb_nil] at h1
  refine ⟨by unfold sF; rw [h1]; simp, ?_⟩
  unfold sB
  rw [h1]
  simp only [List.length_nil, Nat.sub_zero]
  rw [bwd_none]
  unfold bkb
  rw [if_neg (by simp), if_neg (by simp)]
/-! ### A part of which something ahead is right, and something behind -/
theorem s_ahead {X : List PS} (h : GP X) {r : List Bool} {m i : Nat} (hm : X.length ≤ m) (hi : i < X.length) : (sF m (bP X ++ r))[i]? = some X[i] := by
  obtain ⟨d, rfl⟩ := Nat.le.dest hm
  unfold sF
  rw [fwd_all h d r]
  simp only
  rw [List.getElem?_append_left hi, List.getElem?_eq_getElem hi]
/-- How a reading from the end ends. -/
theorem bkb_how : ∀ {k stop : Nat} {acc ps : PS} {l r : List Bool}, bkb stop k acc l = some (ps, r) → r.length = stop ∨ (stop < r.length ∧ ∃ p q, okE p ∧ r = (evb true p).reverse ++ q)
  | 0, _, _, _, _, _, h => by cases h
  | k + 1, stop, acc, ps, l, r, h => by
    unfold bkb at h
    split at h
    · rename_i hlt
      split at h
      · cases h
      · rename_i p b r' hr
        obtain ⟨hp, hl⟩ := rbE_iff.1 hr
        split at h
        · exact bkb_how h
        · split at h
          · rename_i hb
            simp only [Option.some.injEq, Prod.mk.injEq] at h
            obtain ⟨_, rfl⟩ := h
            obtain ⟨rfl, _⟩ := hb
            exact .inr ⟨hlt, p, r', hp, hl⟩
          · cases h
    · split at h
      · rename_i hq
        simp only [Option.some.injEq, Prod.mk.injEq] at h
        obtain ⟨_, rfl⟩ := h
        exact .inl hq.2
      · cases h
/-- The last block, where another one is ahead of it that is right, and reading from the beginning has stopped: it is had as it is. -/
theorem bkb_same {A Z : List Bool} {y x ps : PS} {r : List Bool} {st : Nat} (hy : GB y) (hx : GB x) (hst : tkb 64 ((A ++ bb y ++ bb x ++ Z).drop st) = none) (h : bkb st 65 [] (A ++ bb y ++ bb x).reverse = some (ps, r)) : ps = x ∧ r = (A ++ bb y).reverse := by
  obtain ⟨hg, hl, hr⟩ := bkb_some h
  have hl' : A ++ bb y ++ bb x = r.reverse ++ bb ps := by
    have := congrArg List.reverse hl
    simpa using this
  have hend : st < r.length ∧ ∃ p q, okE p ∧ r = (evb true p).reverse ++ q := by
    rcases bkb_how h with h1 | h1
    · exfalso
      have e : (A ++ bb y ++ bb x ++ Z).drop st = bb ps ++ Z := by
        rw [hl', List.append_assoc, List.drop_left' (by simpa using h1)]
      rw [e, good_tkb hg] at hst
      cases hst
    · exact h1
  obtain ⟨hlt, p, q, hp, hq⟩ := hend
  have k1 : bkb 0 65 [] ((bb ps).reverse ++ r) = some (ps, r) := bkb_full (.inr ⟨by omega, p, q, hp, hq⟩) hg
  obtain ⟨p2, q2, hp2, hq2⟩ := bb_last hy
  have k2 : bkb 0 65 [] ((bb x).reverse ++ (A ++ bb y).reverse) = some (x, (A ++ bb y).reverse) := by
    refine bkb_full (.inr ⟨?_, p2, q2 ++ A.reverse, hp2, ?_⟩) hx
    · have := bb_pos hy; rw [List.length_reverse, List.length_append]; omega
    · rw [List.reverse_append, hq2, List.append_assoc]
  rw [← List.reverse_append, hl, k1] at k2
  simpa using k2
theorem bwd_back {st : Nat} {A : List Bool} {y : PS} (hy : GB y) : ∀ (M : Nat) (Y : List PS) (Z : List Bool), GP Y → tkb 64 ((A ++ bb y ++ bP Y ++ Z).drop st) = none → ∀ j, j < (bwd st M (A ++ bb y ++ bP Y).reverse).1.length → j < Y.length → (bwd st M (A ++ bb y ++ bP Y).reverse).1[j]? = Y[Y.length - 1 - j]?
  | 0, Y, Z, _, _, j, hj, _ => by simp [bwd] at hj
  | M + 1, Y, Z, hY, hst, j, hj, hjl => by
    obtain ⟨Y, x, rfl⟩ : ∃ Y' x, Y = Y' ++ [x] := ⟨Y.dropLast, Y.getLast (fun e => by subst e; simp at hjl), (List.dropLast_concat_getLast _).symm⟩
    have hx := hY x (by simp)
    have hY' : GP Y := fun z hz => hY z (by simp [hz])
    cases h : bkb st 65 [] (A ++ bb y ++ bP (Y ++ [x])).reverse with
    | none => rw [bwd_none h] at hj; simp at hj
    | some q =>
      obtain ⟨ps, r⟩ := q
      -- the block ahead
      have key : ps = x ∧ r = (A ++ bb y ++ bP Y).reverse := by
        rcases List.eq_nil_or_concat Y with rfl | ⟨Y2, z, e0⟩
        · rw [List.nil_append] at h hst
          have e : bP [x] = bb x := by simp [bP]
          rw [e] at h hst
          have := bkb_same hy hx hst h
          simpa [bP] using this
        · rw [List.concat_eq_append] at e0
          subst e0
          have e : A ++ bb y ++ bP (Y2 ++ [z] ++ [x]) = (A ++ bb y ++ bP Y2) ++ bb z ++ bb x := by simp [bP]
          rw [e] at h hst
          have := bkb_same (hY' z (by simp)) hx hst h
          rw [bP_snoc, ← List.append_assoc (A ++ bb y)]
          exact this
      obtain ⟨rfl, rfl⟩ := key
      rw [bwd_some h] at hj ⊢
      cases j with
      | zero => simp
      | succ j =>
        have hst' : tkb 64 ((A ++ bb y ++ bP Y ++ (bb ps ++ Z)).drop st) = none := by
          rw [bP_snoc] at hst
          simpa [List.append_assoc] using hst
        simp only [List.length_cons] at hj
        simp only [List.length_append, List.length_singleton] at hjl ⊢
        have ih := bwd_back hy M Y (bb ps ++ Z) hY' hst' j (by omega) (by omega)
        rw [List.getElem?_cons_succ, ih, List.getElem?_append_left (by omega)]
        congr 1; omega
theorem s_behind {A : List Bool} {y : PS} {Y : List PS} {m j : Nat} (hy : GB y) (hY : GP Y) (hj : j < (sB m (A ++ bb y ++ bP Y)).length) (hl : j < Y.length) : (sB m (A ++ bb y ++ bP Y))[j]? = Y[Y.length - 1 - j]? := by
  have hs := sB_len m (A ++ bb y ++ bP Y)
  obtain ⟨_, _, h3, h4⟩ := fwd_spec m (A ++ bb y ++ bP Y)
  unfold sF at hs
  have hn := h4 (by omega)
  refine bwd_back hy _ Y [] hY ?_ j hj hl
  rw [List.append_nil]
  have e : (A ++ bb y ++ bP Y).drop ((A ++ bb y ++ bP Y).length - (fwd m (A ++ bb y ++ bP Y)).2.length) = (fwd m (A ++ bb y ++ bP Y)).2 := by
    generalize A ++ bb y ++ bP Y = L at *
    generalize (fwd m L).1 = F at *
    generalize (fwd m L).2 = R at *
    subst h3
    rw [List.length_append, Nat.add_sub_cancel]
    exact List.drop_left
  rw [e]; exact hn
/-! ### A part's bits -/
/-- The bits of a part; none, if it can't be. -/
def PB (b : List Nat) (bs : List Bool) : Prop := (bs = [] ∧ ∀ raw n, tk 0 b = some raw → ¬ LastAt raw n) ∨ (∃ raw n, tk 0 b = some raw ∧ LastAt raw n ∧ bs = bl raw 0 n)
theorem PB.esc {X bs : List Bool} (h : PB (escF 0 (pk (X ++ [true]))) bs) : bs = X := by
  have ht := tk_esc (pk (X ++ [true])) 0 (by omega)
  rcases h with ⟨_, h⟩ | ⟨raw, n, h1, h2, rfl⟩
  · exact absurd (pk_last X) (h _ _ ht)
  · rw [ht] at h1
    obtain rfl := Option.some.inj h1
    exact h2.bits
theorem PB.len {b : List Nat} {bs : List Bool} (h : PB b bs) : bs.length ≤ 8 * b.length := by
  rcases h with ⟨rfl, _⟩ | ⟨raw, n, h1, h2, rfl⟩
  · simp
  · have := tk_len _ b raw 0 (Nat.le_refl _) h1
    have := h2.lt
    rw [bl_len]; omega
/-! ### What is kept -/
/-- So many from the beginning, so many from the end; the others are none. -/
def kp (E : List PS) (f k : Nat) : List PS := (List.range E.length).map fun i => if i < f ∨ E.length - k ≤ i then E.getD i [] else []
theorem kp_len (E : List PS) (f k : Nat) : (kp E f k).length = E.length := by simp [kp]
theorem kp_at {E : List PS} {f k i : Nat} (h : i < E.length) : (kp E f k)[i]? = some (if i < f ∨ E.length - k ≤ i then E[i] else []) := by
  simp [kp, h, List.getD_eq_getElem?_getD]
theorem kp_zero (P : List PS) : kp P 0 0 = List.replicate P.length [] := by
  refine List.ext_getElem? (fun i => ?_)
  by_cases h : i < P.length
  · rw [kp_at h, List.getElem?_replicate, if_pos h, if_neg (by omega)]
  · rw [List.getElem?_eq_none (by rw [kp_len]; omega), List.getElem?_eq_none (by simp; omega)]
theorem kp_front {P : List PS} {i : Nat} (h : i < P.length) : (kp P i 0).set i P[i] = kp P (i + 1) 0 := by
  refine List.ext_getElem? (fun j => ?_)
  by_cases hj : j < P.length
  · by_cases hij : i = j
    · subst hij
      rw [List.getElem?_set_self (by rw [kp_len]; exact h), kp_at hj, if_pos (by omega)]
    · rw [List.getElem?_set_ne hij, kp_at hj, kp_at hj]
      congr 1
      by_cases h1 : j < i
      · rw [if_pos (by omega), if_pos (by omega)]
      · rw [if_neg (by omega), if_neg (by omega)]
  · rw [List.getElem?_eq_none (by rw [List.length_set, kp_len]; omega), List.getElem?_eq_none (by rw [kp_len]; omega)]
theorem kp_back {P : List PS} {f k : Nat} (h : P.length - (k + 1) < P.length) : (kp P f k).set (P.length - (k + 1)) P[P.length - (k + 1)] = kp P f (k + 1) := by
  refine List.ext_getElem? (fun j => ?_)
  by_cases hj : j < P.length
  · by_cases hij : P.length - (k + 1) = j
    · subst hij
      rw [List.getElem?_set_self (by rw [kp_len]; exact h), kp_at hj, if_pos (by omega)]
    · rw [List.getElem?_set_ne hij, kp_at hj, kp_at hj]
      congr 1
      by_cases h1 : j < f ∨ P.length - k ≤ j
      · rw [if_pos h1, if_pos (by omega)]
      · rw [if_neg h1, if_neg (by omega)]
  · rw [List.getElem?_eq_none (by rw [List.length_set, kp_len]; omega), List.getElem?_eq_none (by rw [kp_len]; omega)]
end Go.P
