/- Plain laws of a block's events as bits, read from either end; no program in sight, no condition. -/
import Derived.Test.YtnamafelcjgjfaaPRuns
import Derived.Test.YtnamafelcjgjfaaPRvlc
namespace Go.P
open Go Go.K
/-- May it be an event? -/
def okE (p : Nat × Int) : Prop := p.1 ≤ 63 ∧ p.2 ≠ 0 ∧ -2047 ≤ p.2 ∧ p.2 ≤ 2047
instance (p : Nat × Int) : Decidable (okE p) := by unfold okE; infer_instance
/-- The number of a level. -/
def lvn (x : Int) : Nat := (sgn x).toNat - 1
/-- An event's bits. -/
def evb (b : Bool) (p : Nat × Int) : List Bool := rv (2 * p.1 + b.toNat) ++ rv (lvn p.2)
/-- A block's bits. -/
def bb : List (Nat × Int) → List Bool
  | [] => []
  | [p] => evb true p
  | p :: q :: l => evb false p ++ bb (q :: l)
def bF (l : List (Nat × Int)) : List Bool := l.flatMap (evb false)
theorem bb_snoc : ∀ (l : List (Nat × Int)) (p : Nat × Int), bb (l ++ [p]) = bF l ++ evb true p
  | [], p => rfl
  | [q], p => by simp [bb, bF]
  | q :: q2 :: l, p => by
    have ih := bb_snoc (q2 :: l) p
    simp only [List.cons_append, bb, bF, List.flatMap_cons] at ih ⊢
    rw [ih]; simp
structure GB (ps : List (Nat × Int)) : Prop where
  ne : ps ≠ []
  len : ps.length ≤ 64
  ok : ∀ p ∈ ps, okE p
theorem lvn_uns {m : Nat} (h : uns (m + 1) ≠ 0) : lvn (uns (m + 1)) = m := by
  unfold lvn sgn uns at *
  split <;> split at * <;> omega
theorem uns_lvn {x : Int} (h : x ≠ 0) : uns (lvn x + 1) = x := by
  unfold lvn sgn uns
  split <;> split <;> omega
theorem lvn_le {x : Int} (h : -2047 ≤ x ∧ x ≤ 2047) : lvn x ≤ 4093 := by
  unfold lvn sgn; split <;> omega
theorem okE.num {p : Nat × Int} (h : okE p) (b : Bool) : 2 * p.1 + b.toNat ≤ 8190 ∧ lvn p.2 ≤ 8190 := by
  have h1 := lvn_le h.2.2
  have h2 : b.toNat ≤ 1 := by cases b <;> decide
  have h3 := h.1
  omega
/-- An event of two numbers. -/
def evOf (n m : Nat) : Nat × Int := (n / 2, uns (m + 1))
theorem evb_of {n m : Nat} (h : okE (evOf n m)) : evb (decide (n % 2 = 1)) (evOf n m) = rv n ++ rv m := by
  have h1 : 2 * (n / 2) + (decide (n % 2 = 1)).toNat = n := by
    by_cases h : n % 2 = 1
    · rw [decide_eq_true h]; simp; omega
    · rw [decide_eq_false h]; simp; omega
  unfold evb evOf
  simp only
  rw [h1, lvn_uns h.2.1]
theorem evOf_num {p : Nat × Int} (h : okE p) (b : Bool) : evOf (2 * p.1 + b.toNat) (lvn p.2) = p ∧ decide ((2 * p.1 + b.toNat) % 2 = 1) = b := by
  unfold evOf
  rw [uns_lvn h.2.1]
  cases b with
  | false => simp
  | true =>
    have h2 : (2 * p.1 + 1) / 2 = p.1 := by omega
    simp [h2]
/-- The next event, and what is left. -/
def rdE (l : List Bool) : Option ((Nat × Int) × Bool × List Bool) := (rtk l).bind fun x => (rtk x.2).bind fun y => if okE (evOf x.1 y.1) then some (evOf x.1 y.1, decide (x.1 % 2 = 1), y.2) else none
theorem rdE_iff {l r : List Bool} {p : Nat × Int} {b : Bool} : rdE l = some (p, b, r) ↔ okE p ∧ l = evb b p ++ r := by
  constructor
  · intro h
    simp only [rdE, Option.bind_eq_some_iff] at h
    obtain ⟨⟨n, l1⟩, h1, ⟨m, l2⟩, h2, h3⟩ := h
    obtain ⟨h4, h5⟩ := rtk_iff.1 h1
    obtain ⟨h6, h7⟩ := rtk_iff.1 h2
    simp only at h3 h6 h7
    split at h3
    · rename_i hok
      simp only [Option.some.injEq, Prod.mk.injEq] at h3
      obtain ⟨rfl, rfl, rfl⟩ := h3
      refine ⟨hok, ?_⟩
      rw [evb_of hok, h5, h7, List.append_assoc]
    · cases h3
  · rintro ⟨h1, h2⟩
    have hn := h1.num b
    have e1 : rtk l = some (2 * p.1 + b.toNat, rv (lvn p.2) ++ r) := rtk_iff.2 ⟨hn.1, by rw [h2, evb, List.append_assoc]⟩
    have e2 : rtk (rv (lvn p.2) ++ r) = some (lvn p.2, r) := rtk_iff.2 ⟨hn.2, rfl⟩
    obtain ⟨e3, e4⟩ := evOf_num h1 b
    simp only [rdE, e1, e2, Option.bind_some, e3, e4, if_pos h1]
/-- The last event, of bits that are turned. -/
def rbE (l : List Bool) : Option ((Nat × Int) × Bool × List Bool) := (rbk l).bind fun y => (rbk y.2).bind fun x => if okE (evOf x.1 y.1) then some (evOf x.1 y.1, decide (x.1 % 2 = 1), x.2) else none
theorem rbE_iff {l r : List Bool} {p : Nat × Int} {b : Bool} : rbE l = some (p, b, r) ↔ okE p ∧ l = (evb b p).reverse ++ r := by
  constructor
  · intro h
    simp only [rbE, Option.bind_eq_some_iff] at h
    obtain ⟨⟨m, l1⟩, h1, ⟨n, l2⟩, h2, h3⟩ := h
    obtain ⟨h4, h5⟩ := rbk_iff.1 h1
    obtain ⟨h6, h7⟩ := rbk_iff.1 h2
    simp only at h3 h6 h7
    split at h3
    · rename_i hok
      simp only [Option.some.injEq, Prod.mk.injEq] at h3
      obtain ⟨rfl, rfl, rfl⟩ := h3
      refine ⟨hok, ?_⟩
      rw [evb_of hok, h5, h7, List.reverse_append, List.append_assoc]
    · cases h3
  · rintro ⟨h1, h2⟩
    have hn := h1.num b
    have e1 : rbk l = some (lvn p.2, (rv (2 * p.1 + b.toNat)).reverse ++ r) := rbk_iff.2 ⟨hn.2, by rw [h2, evb, List.reverse_append, List.append_assoc]⟩
    have e2 : rbk ((rv (2 * p.1 + b.toNat)).reverse ++ r) = some (2 * p.1 + b.toNat, r) := rbk_iff.2 ⟨hn.1, rfl⟩
    obtain ⟨e3, e4⟩ := evOf_num h1 b
    simp only [rbE, e1, e2, Option.bind_some, e3, e4, if_pos h1]
/-- A block, from the beginning. -/
def tkb : Nat → List Bool → Option (List (Nat × Int) × List Bool)
  | 0, _ => none
  | k + 1, l => match rdE l with
    | none => none
    | some (p, b, r) => if b then some ([p], r) else (tkb k r).map fun q => (p :: q.1, q.2)
theorem tkb_iff : ∀ {k : Nat} {l r : List Bool} {ps : List (Nat × Int)}, tkb k l = some (ps, r) ↔ ps ≠ [] ∧ ps.length ≤ k ∧ (∀ p ∈ ps, okE p) ∧ l = bb ps ++ r
  | 0, l, r, ps => by
    constructor
    · intro h; cases h
    · rintro ⟨h1, h2, _⟩
      exact absurd (List.eq_nil_of_length_eq_zero (by omega)) h1
  | k + 1, l, r, ps => by
    constructor
    · intro h
      unfold tkb at h
      split at h
      · cases h
      · rename_i p b r' hr
        obtain ⟨hp, hl⟩ := rdE_iff.1 hr
        split at h
        · rename_i hb
          simp only [Option.some.injEq, Prod.mk.injEq] at h
          obtain ⟨rfl, rfl⟩ := h
          subst hb
          exact ⟨by simp, by simp, fun x hx => by simp at hx; subst hx; exact hp, hl⟩
        · rename_i hb
          simp only [Option.map_eq_some_iff, Prod.mk.injEq] at h
          obtain ⟨⟨qs, r2⟩, hq, rfl, rfl⟩ := h
          obtain ⟨h1, h2, h3, h4⟩ := tkb_iff.1 hq
          simp only at h1 h2 h3 h4 ⊢
          have hb' : b = false := by simpa using hb
          subst hb'
          refine ⟨by simp, by simp; omega, fun x hx => by rcases List.mem_cons.1 hx with rfl | hx; exact hp; exact h3 x hx, ?_⟩
          cases qs with
          | nil => exact absurd rfl h1
          | cons q qs => rw [hl, h4, bb, List.append_assoc]
    · rintro ⟨h1, h2, h3, h4⟩
      cases ps with
      | nil => exact absurd rfl h1
      | cons p qs =>
        have hp : okE p := h3 p (by simp)
        cases qs with
        | nil =>
          have hr : rdE l = some (p, true, r) := rdE_iff.2 ⟨hp, h4⟩
          simp [tkb, hr]
        | cons q qs =>
          have hr : rdE l = some (p, false, bb (q :: qs) ++ r) := rdE_iff.2 ⟨hp, by rw [h4, bb, List.append_assoc]⟩
          have hq : tkb k (bb (q :: qs) ++ r) = some (q :: qs, r) := tkb_iff.2 ⟨by simp, by simp at h2 ⊢; omega, fun x hx => h3 x (by simp at hx ⊢; exact .inr hx), rfl⟩
          simp [tkb, hr, hq]
/-- A block, from the end: back to the end of the block ahead, or till so many bits are left. -/
def bkb (stop : Nat) : Nat → List (Nat × Int) → List Bool → Option (List (Nat × Int) × List Bool)
  | 0, _, _ => none
  | k + 1, acc, l => if stop < l.length then match rbE l with
      | none => none
      | some (p, b, r) => if b = acc.isEmpty ∧ acc.length ≠ 64 then bkb stop k (p :: acc) r else if b = true ∧ acc.isEmpty = false then some (acc, l) else none
    else if acc.isEmpty = false ∧ l.length = stop then some (acc, l) else none
theorem bF_snoc (l : List (Nat × Int)) (p : Nat × Int) : bF (l ++ [p]) = bF l ++ evb false p := by simp [bF]
theorem bkb_acc : ∀ {k stop : Nat} {acc ps : List (Nat × Int)} {l r : List Bool}, bkb stop k acc l = some (ps, r) → acc ≠ [] → acc.length ≤ 64 → ∃ pre, ps = pre ++ acc ∧ ps.length ≤ 64 ∧ (∀ p ∈ pre, okE p) ∧ l = (bF pre).reverse ++ r ∧ stop ≤ r.length
  | 0, _, _, _, _, _, h, _, _ => by cases h
  | k + 1, stop, acc, ps, l, r, h, hne, hlen => by
    have he : acc.isEmpty = false := by cases acc <;> simp at hne ⊢
    unfold bkb at h
    rw [he] at h
    split at h
    · rename_i hlt
      split at h
      · cases h
      · rename_i p b r' hr
        obtain ⟨hp, hl⟩ := rbE_iff.1 hr
        split at h
        · rename_i hb
          obtain ⟨rfl, h64⟩ := hb
          obtain ⟨pre, rfl, h2, h3, h4, h5⟩ := bkb_acc h (by simp) (by simp; omega)
          refine ⟨pre ++ [p], by simp, h2, fun x hx => ?_, ?_, h5⟩
          · rcases List.mem_append.1 hx with hx | hx
            · exact h3 x hx
            · simp at hx; subst hx; exact hp
          · rw [hl, h4, bF_snoc, List.reverse_append, List.append_assoc]
        · split at h
          · simp only [Option.some.injEq, Prod.mk.injEq] at h
            obtain ⟨rfl, rfl⟩ := h
            exact ⟨[], rfl, hlen, by simp, rfl, by omega⟩
          · cases h
    · split at h
      · rename_i hq
        simp only [Option.some.injEq, Prod.mk.injEq] at h
        obtain ⟨rfl, rfl⟩ := h
        exact ⟨[], rfl, hlen, by simp, rfl, by omega⟩
      · cases h
theorem bkb_some {k stop : Nat} {ps : List (Nat × Int)} {l r : List Bool} (h : bkb stop k [] l = some (ps, r)) : GB ps ∧ l = (bb ps).reverse ++ r ∧ stop ≤ r.length := by
  cases k with
  | zero => cases h
  | succ k =>
    unfold bkb at h
    split at h
    · split at h
      · cases h
      · rename_i p b r' hr
        obtain ⟨hp, hl⟩ := rbE_iff.1 hr
        split at h
        · rename_i hb
          have hb' : b = true := hb.1
          subst hb'
          obtain ⟨pre, rfl, h2, h3, h4, h5⟩ := bkb_acc h (by simp) (by simp)
          refine ⟨⟨by simp, h2, fun x hx => ?_⟩, ?_, h5⟩
          · rcases List.mem_append.1 hx with hx | hx
            · exact h3 x hx
            · simp at hx; subst hx; exact hp
          · rw [bb_snoc, hl, h4, List.reverse_append, List.append_assoc]
        · simp at h
    · simp at h
theorem evb_pos (b : Bool) (p : Nat × Int) : 0 < (evb b p).length := by
  have h1 := rv_len (2 * p.1 + b.toNat)
  have h2 := blen_pos (x := 2 * p.1 + b.toNat + 1) (by omega)
  simp only [evb, List.length_append]; omega
/-- Where a block's bits end, seen from the end: at the stop, or behind another block's last event. -/
def AtEnd (stop : Nat) (r : List Bool) : Prop := r.length = stop ∨ (stop < r.length ∧ ∃ p q, okE p ∧ r = (evb true p).reverse ++ q)
theorem bkb_run {stop : Nat} {r : List Bool} (hr : AtEnd stop r) : ∀ (pre acc : List (Nat × Int)) (k : Nat), acc ≠ [] → pre.length + acc.length ≤ 64 → pre.length < k → (∀ p ∈ pre, okE p) → bkb stop k acc ((bF pre).reverse ++ r) = some (pre ++ acc, r) := by
  intro pre
  induction h : pre.length generalizing pre with
  | zero =>
    intro acc k hne hlen hk hok
    obtain rfl := List.eq_nil_of_length_eq_zero h
    have he : acc.isEmpty = false := by cases acc <;> simp at hne ⊢
    obtain ⟨k, rfl⟩ : ∃ j, k = j + 1 := ⟨k - 1, by omega⟩
    show bkb stop (k + 1) acc r = some (acc, r)
    unfold bkb
    rw [he]
    rcases hr with hr | ⟨hr, p, q, hp, hq⟩
    · rw [if_neg (by omega), if_pos ⟨rfl, hr⟩]
    · rw [if_pos hr, rbE_iff.2 ⟨hp, hq⟩]
      simp
  | succ n ih =>
    intro acc k hne hlen hk hok
    obtain ⟨pre, p, rfl⟩ : ∃ qs p, pre = qs ++ [p] := ⟨pre.dropLast, pre.getLast (fun e => by subst e; simp at h), (List.dropLast_concat_getLast _).symm⟩
    have he : acc.isEmpty = false := by cases acc <;> simp at hne ⊢
    obtain ⟨k, rfl⟩ : ∃ j, k = j + 1 := ⟨k - 1, by omega⟩
    have hp : okE p := hok p (by simp)
    have hrl : stop ≤ r.length := by rcases hr with hr | hr <;> omega
    have e1 : (bF (pre ++ [p])).reverse ++ r = (evb false p).reverse ++ ((bF pre).reverse ++ r) := by rw [bF_snoc, List.reverse_append, List.append_assoc]
    have hpos := evb_pos false p
    have hl : pre.length = n := by simpa using h
    unfold bkb
    rw [he, e1, if_pos (by simp only [List.length_append, List.length_reverse]; omega), rbE_iff.2 ⟨hp, rfl⟩]
    simp only
    rw [if_pos ⟨trivial, by omega⟩, ih pre hl (p :: acc) k (by simp) (by simp; omega) (by omega) (fun x hx => hok x (by simp [hx]))]
    simp
theorem bkb_full {stop : Nat} {r : List Bool} {ps : List (Nat × Int)} (hr : AtEnd stop r) (hg : GB ps) : bkb stop 65 [] ((bb ps).reverse ++ r) = some (ps, r) := by
  obtain ⟨pre, p, rfl⟩ : ∃ qs p, ps = qs ++ [p] := ⟨ps.dropLast, ps.getLast hg.ne, (List.dropLast_concat_getLast _).symm⟩
  have hp : okE p := hg.ok p (by simp)
  have hpos := evb_pos true p
  have hrl : stop ≤ r.length := by rcases hr with hr | hr <;> omega
  have hlen := hg.len
  simp only [List.length_append, List.length_cons, List.length_nil] at hlen
  unfold bkb
  rw [bb_snoc, List.reverse_append, List.append_assoc, if_pos (by simp only [List.length_append, List.length_reverse]; omega), rbE_iff.2 ⟨hp, rfl⟩]
  simp only
  rw [if_pos ⟨rfl, by simp⟩]
  exact bkb_run hr pre [p] 64 (by simp) (by simp; omega) (by omega) (fun x hx => hg.ok x (by simp [hx]))
theorem bb_last {ps : List (Nat × Int)} (hg : GB ps) : ∃ p q, okE p ∧ (bb ps).reverse = (evb true p).reverse ++ q := by
  obtain ⟨pre, p, rfl⟩ : ∃ qs p, ps = qs ++ [p] := ⟨ps.dropLast, ps.getLast hg.ne, (List.dropLast_concat_getLast _).symm⟩
  exact ⟨p, (bF pre).reverse, hg.ok p (by simp), by rw [bb_snoc, List.reverse_append]⟩
/-! ### Events with their marks -/
def mk : List (Nat × Int) → List ((Nat × Int) × Bool)
  | [] => []
  | [p] => [(p, true)]
  | p :: q :: l => (p, false) :: mk (q :: l)
def evM (l : List ((Nat × Int) × Bool)) : List Value := l.flatMap fun e => [I e.1.1, I e.1.2, .bool e.2]
def evB (l : List ((Nat × Int) × Bool)) : List Bool := l.flatMap fun e => evb e.2 e.1
theorem evC_mk : ∀ (ps : List (Nat × Int)), evC ps = evM (mk ps)
  | [] => rfl
  | [p] => rfl
  | p :: q :: l => by
    have ih := evC_mk (q :: l)
    simp only [evC, mk, evM, List.flatMap_cons] at ih ⊢
    rw [ih]; rfl
theorem bb_mk : ∀ (ps : List (Nat × Int)), bb ps = evB (mk ps)
  | [] => rfl
  | [p] => by simp [bb, mk, evB]
  | p :: q :: l => by
    have ih := bb_mk (q :: l)
    simp only [bb, mk, evB, List.flatMap_cons] at ih ⊢
    rw [ih]
theorem mk_len : ∀ (ps : List (Nat × Int)), (mk ps).length = ps.length
  | [] => rfl
  | [p] => rfl
  | p :: q :: l => by have := mk_len (q :: l); simp [mk] at this ⊢; exact this
theorem mk_get : ∀ (ps : List (Nat × Int)) (i : Nat) (h : i < ps.length), (mk ps)[i]? = some (ps[i], decide (i + 1 = ps.length))
  | [], i, h => absurd h (by simp)
  | [p], i, h => by
    obtain rfl : i = 0 := by simpa using h
    rfl
  | p :: q :: l, 0, _ => by simp [mk]
  | p :: q :: l, i + 1, h => by
    have ih := mk_get (q :: l) i (by simpa using h)
    simp only [mk, List.getElem?_cons_succ, ih]
    simp
theorem mk_cons (p : Nat × Int) {l : List (Nat × Int)} (h : l ≠ []) : mk (p :: l) = (p, false) :: mk l := by
  cases l with
  | nil => exact absurd rfl h
  | cons q l => rfl
theorem evM_len (l : List ((Nat × Int) × Bool)) : (evM l).length = l.length * 3 := by
  induction l with
  | nil => rfl
  | cons e l ih => simp only [evM, List.flatMap_cons, List.length_append, List.length_cons, List.length_nil] at ih ⊢; rw [ih]; omega
theorem evM_app (l m : List ((Nat × Int) × Bool)) : evM (l ++ m) = evM l ++ evM m := by simp [evM]
theorem evB_app (l m : List ((Nat × Int) × Bool)) : evB (l ++ m) = evB l ++ evB m := by simp [evB]
theorem evB_snoc (l : List ((Nat × Int) × Bool)) {i : Nat} (h : i < l.length) : evB (l.take (i + 1)) = evB (l.take i) ++ evb l[i].2 l[i].1 := by
  rw [List.take_succ_eq_append_getElem h, evB_app]; simp [evB]
theorem evM_at : ∀ (l : List ((Nat × Int) × Bool)) (i : Nat) (h : i < l.length), ((evM l).drop (i * 3)).take 3 = [I l[i].1.1, I l[i].1.2, .bool l[i].2]
  | [], i, h => absurd h (by simp)
  | e :: l, 0, _ => by simp [evM]
  | e :: l, i + 1, h => by
    have ih := evM_at l i (by simpa using h)
    have e1 : (i + 1) * 3 = i * 3 + 3 := by omega
    have e2 : evM (e :: l) = [I e.1.1, I e.1.2, .bool e.2] ++ evM l := by simp [evM]
    rw [e1, e2, Nat.add_comm (i * 3) 3, ← List.drop_drop]
    simpa using ih
theorem evM_one (l : List ((Nat × Int) × Bool)) : ∀ u ∈ evM l, u.oneCell' = true := fun u hu => by
  obtain ⟨e, _, h⟩ := List.mem_flatMap.1 hu
  simp at h
  rcases h with rfl | rfl | rfl <;> rfl
theorem bb_len_le {ps : List (Nat × Int)} (h : GB ps) : (bb ps).length ≤ 50 * ps.length := by
  rw [bb_mk]
  have key : ∀ (l : List ((Nat × Int) × Bool)), (∀ e ∈ l, okE e.1) → (evB l).length ≤ 50 * l.length := by
    intro l
    induction l with
    | nil => intro _; simp [evB]
    | cons e l ih =>
      intro hl
      have h1 := ih (fun x hx => hl x (by simp [hx]))
      have h2 := (hl e (by simp)).num e.2
      have h3 := rv_len (2 * e.1.1 + e.2.toNat)
      have h4 := rv_len (lvn e.1.2)
      have h5 := blen_le (x := 2 * e.1.1 + e.2.toNat + 1) (m := 13) (by omega)
      have h6 := blen_le (x := lvn e.1.2 + 1) (m := 13) (by omega)
      simp only [evB, List.flatMap_cons, List.length_append, List.length_cons, evb] at h1 ⊢
      omega
  have h1 := key (mk ps) (fun e he => by
    obtain ⟨i, hi⟩ := List.mem_iff_getElem?.1 he
    have hil : i < ps.length := by have := (List.getElem?_eq_some_iff.1 hi).1; rwa [mk_len] at this
    rw [mk_get ps i hil] at hi
    cases hi
    exact h.ok _ (List.getElem_mem hil))
  rwa [mk_len] at h1
theorem bb_pos {ps : List (Nat × Int)} (h : GB ps) : 2 ≤ (bb ps).length := by
  obtain ⟨pre, p, rfl⟩ : ∃ qs p, ps = qs ++ [p] := ⟨ps.dropLast, ps.getLast h.ne, (List.dropLast_concat_getLast _).symm⟩
  rw [bb_snoc, List.length_append]
  have h1 := rv_len (2 * p.1 + true.toNat)
  have h2 := blen_pos (x := 2 * p.1 + true.toNat + 1) (by omega)
  have h3 := rv_len (lvn p.2)
  have h4 := blen_pos (x := lvn p.2 + 1) (by omega)
  simp only [evb, List.length_append]; omega
theorem pairs_lt : ∀ (r : Nat) (l : List Int), ∀ p ∈ pairs r l, p.1 < r + l.length
  | _, [], p, h => by simp [pairs] at h
  | r, x :: l, p, h => by
    unfold pairs at h
    split at h
    · have := pairs_lt (r + 1) l p h
      simp; omega
    · rcases List.mem_cons.1 h with rfl | h
      · simp
      · have := pairs_lt 0 l p h
        simp; omega
theorem pairs_good {vs : List Int} (hl : vs.length = 64) (hr : ∀ x ∈ vs, -2047 ≤ x ∧ x ≤ 2047) : (pairs 0 vs).length ≤ 64 ∧ ∀ p ∈ pairs 0 vs, okE p := by
  refine ⟨by have := pairs_len 0 vs; omega, fun p hp => ?_⟩
  obtain ⟨_, h2, h3⟩ := pairs_mem 0 vs p hp
  have h1 := pairs_lt 0 vs p hp
  exact ⟨by omega, h3, hr _ h2⟩
/-- How many bits: as the program counts them. -/
theorem evb_len (b : Bool) (p : Nat × Int) : (evb b p).length = (rv (2 * p.1 + b.toNat)).length + (rv (lvn p.2)).length := by simp [evb]
end Go.P
