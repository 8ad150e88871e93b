/- Plain laws of codes of words: the words of given sizes, and the tree that they are read by; no program in sight, no condition. -/
import Derived.Test.YtccnhnijglnbmaaPRvlc
namespace Go.P
open Go Go.K
theorem nb_take {x s n : Nat} (h : n ≤ s) : (nb x s).take n = nb (x / 2 ^ (s - n)) n := by
  refine List.ext_getElem? (fun i => ?_)
  by_cases hi : i < n
  · rw [List.getElem?_take, if_pos hi, nb_get (by omega), nb_get hi, Nat.testBit_div_two_pow]
    congr 2; omega
  · rw [List.getElem?_eq_none (by rw [List.length_take, nb_len]; omega), List.getElem?_eq_none (by rw [nb_len]; omega)]
theorem nbz_inj {x y n : Nat} (hx : x < 2 ^ n) (hy : y < 2 ^ n) (h : nb x n = nb y n) : x = y := by
  refine Nat.eq_of_testBit_eq (fun j => ?_)
  by_cases hj : j < n
  · have h1 := congrArg (·[n - 1 - j]?) h
    simp only [nb_get (n := x) (show n - 1 - j < n by omega), nb_get (n := y) (show n - 1 - j < n by omega), show n - 1 - (n - 1 - j) = j by omega] at h1
    exact Option.some.inj h1
  · rw [Nat.testBit_lt_two_pow (Nat.lt_of_lt_of_le hx (Nat.pow_le_pow_right (by decide) (by omega))), Nat.testBit_lt_two_pow (Nat.lt_of_lt_of_le hy (Nat.pow_le_pow_right (by decide) (by omega)))]
theorem bitc (x k : Nat) : (x / 2 ^ k &&& 1) = (x.testBit k).toNat := by
  rw [Nat.and_one_is_mod, Nat.testBit_eq_decide_div_mod_eq]
  rcases Nat.mod_two_eq_zero_or_one (x / 2 ^ k) with h | h <;> simp [h]
/-! ### The words of given sizes -/
/-- A number, its word, the word's size. -/
abbrev CE := Nat × Nat × Nat
def cin (s : Nat) : List (Nat × Nat) → Nat → List CE → Option (Nat × List CE)
  | [], wd, A => some (wd, A)
  | (i, n) :: l, wd, A => if n = s then (if 2 ^ s ≤ wd then none else cin s l (wd + 1) (A ++ [(i, wd, s)])) else cin s l wd A
def cout (ps : List (Nat × Nat)) : Nat → Nat → Nat → List CE → Option (List CE)
  | 0, _, _, A => some A
  | k + 1, s, wd, A => (cin s ps (2 * wd) A).bind fun x => cout ps k (s + 1) x.1 x.2
def czs (sz : List Nat) : List (Nat × Nat) := (List.range sz.length).map fun i => (i, sz.getD i 0)
theorem czs_drop {sz : List Nat} {i : Nat} (h : i < sz.length) : (czs sz).drop i = (i, sz[i]) :: (czs sz).drop (i + 1) := by
  rw [List.drop_eq_getElem_cons (by simp [czs, h])]
  congr 1
  simp [czs, h]
theorem czs_end (sz : List Nat) : (czs sz).drop sz.length = [] := List.drop_of_length_le (by simp [czs])
/-- All words of the sizes, the shorter ones first; none: there aren't so many. -/
def codeOf (sz : List Nat) : Option (List CE) := cout (czs sz) 32 1 0 []
/-- What comes of it, from the middle of a size on. -/
def crest (sz : List Nat) (s i wd : Nat) (A : List CE) : Option (List CE) := (cin s ((czs sz).drop i) wd A).bind fun x => cout (czs sz) (32 - s) (s + 1) x.1 x.2
section
variable {sz : List Nat} {s i wd : Nat} {A : List CE}
theorem crest_ne (h : i < sz.length) (hn : sz[i] ≠ s) : crest sz s i wd A = crest sz s (i + 1) wd A := by
  unfold crest
  rw [czs_drop h]
  show (if sz[i] = s then _ else _ : Option (Nat × List CE)).bind _ = _
  rw [if_neg hn]
theorem crest_none (h : i < sz.length) (hn : sz[i] = s) (hw : 2 ^ s ≤ wd) : crest sz s i wd A = none := by
  unfold crest
  rw [czs_drop h]
  show (if sz[i] = s then (if 2 ^ s ≤ wd then none else _) else _ : Option (Nat × List CE)).bind _ = _
  rw [if_pos hn, if_pos hw]; rfl
theorem crest_eq (h : i < sz.length) (hn : sz[i] = s) (hw : wd < 2 ^ s) : crest sz s i wd A = crest sz s (i + 1) (wd + 1) (A ++ [(i, wd, s)]) := by
  unfold crest
  rw [czs_drop h]
  show (if sz[i] = s then (if 2 ^ s ≤ wd then none else _) else _ : Option (Nat × List CE)).bind _ = _
  rw [if_pos hn, if_neg (by omega)]
theorem crest_end : crest sz s sz.length wd A = cout (czs sz) (32 - s) (s + 1) wd A := by
  unfold crest
  rw [czs_end]; rfl
theorem cout_start (hs : s ≤ 32) : cout (czs sz) (33 - s) s wd A = crest sz s 0 (2 * wd) A := by
  rw [show 33 - s = (32 - s) + 1 by omega]
  show (cin s (czs sz) (2 * wd) A).bind _ = _
  rfl
/-- How far it has come: at size s, number i, word wd. -/
structure CI (sz : List Nat) (s i wd : Nat) (A : List CE) : Prop where
  ent : ∀ a ∈ A, sz[a.1]? = some a.2.2 ∧ 1 ≤ a.2.2 ∧ a.2.2 ≤ s ∧ a.2.1 < 2 ^ a.2.2 ∧ (a.2.2 = s → a.1 < i) ∧ (a.2.1 + 1) * 2 ^ (s - a.2.2) ≤ wd
  ord : A.Pairwise fun a b => (a.2.1 + 1) * 2 ^ (b.2.2 - a.2.2) ≤ b.2.1 ∧ a.2.2 ≤ b.2.2 ∧ (a.2.2 = b.2.2 → a.1 < b.1)
  all : ∀ j n, sz[j]? = some n → 1 ≤ n → n < s ∨ (n = s ∧ j < i) → ∃ w, (j, w, n) ∈ A
  top : wd ≤ 2 ^ s
  num : A.length ≤ 64 * (s - 1) + i
theorem CI.zero : CI sz 1 0 0 [] := ⟨by simp, .nil, fun j n _ h1 h2 => by omega, by simp, by simp⟩
theorem CI.skip (h : CI sz s i wd A) (hi : i < sz.length) (hn : sz[i] ≠ s) : CI sz s (i + 1) wd A := by
  refine ⟨fun a ha => ?_, h.ord, fun j n hj h1 h2 => ?_, h.top, by have := h.num; omega⟩
  · obtain ⟨h1, h2, h3, h4, h5, h6⟩ := h.ent a ha
    exact ⟨h1, h2, h3, h4, fun e => by have := h5 e; omega, h6⟩
  · rcases h2 with h2 | ⟨rfl, h2⟩
    · exact h.all j n hj h1 (.inl h2)
    · by_cases hji : j = i
      · subst hji
        rw [List.getElem?_eq_getElem hi] at hj
        exact absurd (Option.some.inj hj) hn
      · exact h.all j n hj h1 (.inr ⟨rfl, by omega⟩)
theorem CI.put (h : CI sz s i wd A) (hi : i < sz.length) (hn : sz[i] = s) (hs : 1 ≤ s) (hw : wd < 2 ^ s) : CI sz s (i + 1) (wd + 1) (A ++ [(i, wd, s)]) := by
  refine ⟨fun a ha => ?_, ?_, fun j n hj h1 h2 => ?_, hw, by have := h.num; simp; omega⟩
  · rcases List.mem_append.1 ha with ha | ha
    · obtain ⟨h1, h2, h3, h4, h5, h6⟩ := h.ent a ha
      exact ⟨h1, h2, h3, h4, fun e => by have := h5 e; omega, by omega⟩
    · simp at ha; subst ha
      refine ⟨by rw [List.getElem?_eq_getElem hi, hn], hs, Nat.le_refl _, hw, fun _ => Nat.lt_succ_self _, ?_⟩
      simp
  · refine List.pairwise_append.2 ⟨h.ord, by simp, fun a ha b hb => ?_⟩
    simp at hb; subst hb
    obtain ⟨h1, h2, h3, h4, h5, h6⟩ := h.ent a ha
    exact ⟨h6, h3, h5⟩
  · rcases h2 with h2 | ⟨h2, h3⟩
    · obtain ⟨w, hw⟩ := h.all j n hj h1 (.inl h2)
      exact ⟨w, by simp [hw]⟩
    · by_cases hji : j = i
      · subst hji; subst h2; exact ⟨wd, by simp⟩
      · obtain ⟨w, hw⟩ := h.all j n hj h1 (.inr ⟨h2, by omega⟩)
        exact ⟨w, by simp [hw]⟩
theorem CI.next (h : CI sz s sz.length wd A) (hl : sz.length ≤ 64) (hs : 1 ≤ s) : CI sz (s + 1) 0 (2 * wd) A := by
  refine ⟨fun a ha => ?_, h.ord, fun j n hj h1 h2 => ?_, by have := h.top; rw [Nat.pow_succ]; omega, by have := h.num; omega⟩
  · obtain ⟨h1, h2, h3, h4, h5, h6⟩ := h.ent a ha
    refine ⟨h1, h2, by omega, h4, fun e => by omega, ?_⟩
    rw [show s + 1 - a.2.2 = (s - a.2.2) + 1 by omega, Nat.pow_succ, ← Nat.mul_assoc]
    omega
  · have hjl := (List.getElem?_eq_some_iff.1 hj).1
    rcases h2 with h2 | ⟨_, h2⟩
    · by_cases hns : n < s
      · exact h.all j n hj h1 (.inl hns)
      · exact h.all j n hj h1 (.inr ⟨by omega, hjl⟩)
    · omega
theorem free_of {w n v m : Nat} (hw : w < 2 ^ n) (hv : v < 2 ^ m) (hn : n ≤ m) (h : (w + 1) * 2 ^ (m - n) ≤ v) : ¬ nb w n <+: nb v m ∧ ¬ nb v m <+: nb w n := by
  have key : ¬ nb w n <+: nb v m := fun hp => by
    have h1 := List.prefix_iff_eq_take.1 hp
    rw [nb_len, nb_take hn] at h1
    have hlt : v / 2 ^ (m - n) < 2 ^ n := by
      rw [Nat.div_lt_iff_lt_mul (Nat.two_pow_pos _), ← Nat.pow_add, show n + (m - n) = m by omega]; exact hv
    have h2 := nbz_inj hw hlt h1
    have h3 : w + 1 ≤ v / 2 ^ (m - n) := (Nat.le_div_iff_mul_le (Nat.two_pow_pos _)).2 h
    omega
  refine ⟨key, fun hp => ?_⟩
  have hl := hp.length_le
  rw [nb_len, nb_len] at hl
  have : nb v m = nb w n := hp.eq_of_length (by rw [nb_len, nb_len]; omega)
  exact key (this ▸ List.prefix_refl _)
theorem CI.free (h : CI sz s i wd A) (hw : wd < 2 ^ s) : ∀ a ∈ A, ¬ nb a.2.1 a.2.2 <+: nb wd s ∧ ¬ nb wd s <+: nb a.2.1 a.2.2 := fun a ha => by
  obtain ⟨h1, h2, h3, h4, h5, h6⟩ := h.ent a ha
  exact free_of h4 hw h3 h6
theorem CI.new (h : CI sz s i wd A) (hi : i < sz.length) (hn : sz[i] = s) : ∀ a ∈ A, a.1 ≠ i := fun a ha e => by
  obtain ⟨h1, h2, h3, h4, h5, h6⟩ := h.ent a ha
  rw [e, List.getElem?_eq_getElem hi, hn] at h1
  have := h5 (Option.some.inj h1).symm
  omega
end
/-! ### The tree -/
/-- Where bit b leads from node k: to a node, to a number (less by 1, turned), nowhere. -/
def slot (T : List Int) (k : Nat) (b : Bool) : Int := T.getD (2 * k + b.toNat) 0
def reach (T : List Int) : Nat → List Bool → Nat → Prop
  | k, [], m => k = m
  | k, b :: p, m => 0 < slot T k b ∧ reach T (slot T k b).toNat p m
theorem reach_snoc {T : List Int} {b : Bool} {m : Nat} : ∀ {p : List Bool} {k : Nat}, reach T k p m → 0 < slot T m b → reach T k (p ++ [b]) (slot T m b).toNat
  | [], k, h, hs => by obtain rfl : k = m := h; exact ⟨hs, rfl⟩
  | c :: p, k, h, hs => ⟨h.1, reach_snoc h.2 hs⟩
/-- The next number of bits, read by the tree from node k on. -/
def dec (T : List Int) : Nat → List Bool → Option (Nat × List Bool)
  | _, [] => none
  | k, b :: l => if slot T k b < 0 then some ((-1 - slot T k b).toNat, l) else if slot T k b = 0 then none else dec T (slot T k b).toNat l
theorem reach_dec {T : List Int} {l : List Bool} {m : Nat} : ∀ {p : List Bool} {k : Nat}, reach T k p m → dec T k (p ++ l) = dec T m l
  | [], k, h => by obtain rfl : k = m := h; rfl
  | c :: p, k, h => by
    show (if slot T k c < 0 then _ else if slot T k c = 0 then _ else dec T (slot T k c).toNat (p ++ l)) = _
    have := h.1
    rw [if_neg (by omega), if_neg (by omega)]
    exact reach_dec h.2
def Mono (T T' : List Int) : Prop := ∀ k b, slot T k b ≠ 0 → slot T' k b = slot T k b
theorem reach.mono {T T' : List Int} (h : Mono T T') {m : Nat} : ∀ {p : List Bool} {k : Nat}, reach T k p m → reach T' k p m
  | [], _, hr => hr
  | b :: p, k, hr => by
    have e := h k b (by have := hr.1; omega)
    refine ⟨by rw [e]; exact hr.1, ?_⟩
    rw [e]; exact reach.mono h hr.2
theorem slot_idx {k k' : Nat} {b b' : Bool} (h : 2 * k + b.toNat = 2 * k' + b'.toNat) : k = k' ∧ b = b' := by
  cases b <;> cases b' <;> simp at h ⊢ <;> omega
theorem slot_set {T : List Int} {k : Nat} {b : Bool} {v : Int} (hk : 2 * k + b.toNat < T.length) (k' : Nat) (b' : Bool) : slot (T.set (2 * k + b.toNat) v) k' b' = if k' = k ∧ b' = b then v else slot T k' b' := by
  unfold slot
  simp only [List.getD_eq_getElem?_getD]
  by_cases h : k' = k ∧ b' = b
  · obtain ⟨rfl, rfl⟩ := h
    rw [if_pos ⟨rfl, rfl⟩, List.getElem?_set_self hk]; rfl
  · rw [if_neg h, List.getElem?_set_ne (fun e => h (by obtain ⟨rfl, rfl⟩ := slot_idx e; exact ⟨rfl, rfl⟩))]
theorem slot_grow (T : List Int) (k : Nat) (b : Bool) : slot (T ++ [0, 0]) k b = slot T k b := by
  unfold slot
  simp only [List.getD_eq_getElem?_getD]
  by_cases h : 2 * k + b.toNat < T.length
  · rw [List.getElem?_append_left h]
  · rw [List.getElem?_append_right (by omega), List.getElem?_eq_none (l := T) (by omega)]
    rcases hj : 2 * k + b.toNat - T.length with _ | _ | j <;> simp
theorem slot_out {T : List Int} {k : Nat} {b : Bool} (h : T.length ≤ 2 * k + b.toNat) : slot T k b = 0 := by
  unfold slot
  rw [List.getD_eq_getElem?_getD, List.getElem?_eq_none h]; rfl
/-- The tree has the words W and nothing else; its nodes' paths are P, all of them ahead of words, or of x. -/
structure TI (T : List Int) (P : List (List Bool)) (W : List (List Bool × Nat)) (x : List Bool) : Prop where
  len : T.length = 2 * P.length
  root : P[0]? = some []
  up : ∀ k p b, P[k]? = some p → 0 < slot T k b → ∃ m : Nat, slot T k b = m ∧ P[m]? = some (p ++ [b])
  leaf : ∀ k p b, P[k]? = some p → slot T k b < 0 → ∃ i : Nat, slot T k b = -1 - (i : Int) ∧ (p ++ [b], i) ∈ W
  ext : ∀ p ∈ P, p = [] ∨ (∃ w ∈ W, ∃ r, r ≠ [] ∧ w.1 = p ++ r) ∨ (∃ r, r ≠ [] ∧ x = p ++ r)
  all : ∀ w ∈ W, ∃ p b k, w.1 = p ++ [b] ∧ reach T 0 p k ∧ slot T k b = -1 - (w.2 : Int)
theorem TI.zero : TI [0, 0] [[]] [] [] := by
  have h0 : ∀ k b, slot [0, 0] k b = 0 := fun k b => by
    unfold slot
    rcases h : 2 * k + b.toNat with _ | _ | j <;> simp
  refine ⟨rfl, rfl, fun k p b _ h => ?_, fun k p b _ h => ?_, fun p hp => .inl (by simpa using hp), by simp⟩ <;> (rw [h0] at h; omega)
theorem TI.want {T : List Int} {P : List (List Bool)} {W : List (List Bool × Nat)} (h : TI T P W []) (x : List Bool) : TI T P W x :=
  ⟨h.len, h.root, h.up, h.leaf, fun p hp => by
    rcases h.ext p hp with h1 | h1 | ⟨r, hr, h1⟩
    · exact .inl h1
    · exact .inr (.inl h1)
    · have := congrArg List.length h1
      simp at this
      exact .inl (List.eq_nil_of_length_eq_zero (by omega)), h.all⟩
section
variable {T : List Int} {P : List (List Bool)} {W : List (List Bool × Nat)} {x p q : List Bool} {b : Bool} {k i : Nat}
theorem TI.lt (h : TI T P W x) (hk : P[k]? = some p) (b : Bool) : 2 * k + b.toNat < T.length := by
  have h1 := (List.getElem?_eq_some_iff.1 hk).1
  have h2 := h.len
  cases b <;> simp <;> omega
theorem TI.down (h : TI T P W x) (hx : x = p ++ b :: q) (hk : P[k]? = some p) (hr : reach T 0 p k) (hf : ∀ w ∈ W, ¬ w.1 <+: x) :
    slot T k b = 0 ∨ ∃ m : Nat, slot T k b = (m : Int) ∧ 0 < m ∧ P[m]? = some (p ++ [b]) ∧ reach T 0 (p ++ [b]) m := by
  rcases Int.lt_trichotomy (slot T k b) 0 with h1 | h1 | h1
  · obtain ⟨i, _, hm⟩ := h.leaf k p b hk h1
    exact absurd ⟨q, by rw [hx]; simp⟩ (hf _ hm)
  · exact .inl h1
  · obtain ⟨m, hm, hp⟩ := h.up k p b hk h1
    have := reach_snoc hr h1
    rw [hm] at this
    exact .inr ⟨m, hm, by omega, hp, this⟩
theorem TI.grow (h : TI T P W x) (hx : x = p ++ b :: q) (hq : q ≠ []) (hk : P[k]? = some p) (hr : reach T 0 p k) (h0 : slot T k b = 0) :
    TI ((T ++ [0, 0]).set (2 * k + b.toNat) (P.length : Nat)) (P ++ [p ++ [b]]) W x ∧ slot ((T ++ [0, 0]).set (2 * k + b.toNat) (P.length : Nat)) k b = (P.length : Nat) ∧ reach ((T ++ [0, 0]).set (2 * k + b.toNat) (P.length : Nat)) 0 (p ++ [b]) P.length := by
  have hkl := (List.getElem?_eq_some_iff.1 hk).1
  have hlt := h.lt hk b
  have hs : ∀ k' b', slot ((T ++ [0, 0]).set (2 * k + b.toNat) (P.length : Nat)) k' b' = if k' = k ∧ b' = b then ((P.length : Nat) : Int) else slot T k' b' := fun k' b' => by
    rw [slot_set (by rw [List.length_append]; omega), slot_grow]
  have hl : ((T ++ [0, 0]).set (2 * k + b.toNat) ((P.length : Nat) : Int)).length = 2 * (P ++ [p ++ [b]]).length := by
    have := h.len
    simp; omega
  generalize (T ++ [0, 0]).set (2 * k + b.toNat) ((P.length : Nat) : Int) = T' at *
  have hself : slot T' k b = (P.length : Nat) := by rw [hs, if_pos ⟨rfl, rfl⟩]
  have hmono : Mono T T' := fun k' b' hn => by
    rw [hs, if_neg (fun e => hn (by rw [e.1, e.2]; exact h0))]
  have hold : ∀ {k' : Nat} {p' : List Bool}, P[k']? = some p' → (P ++ [p ++ [b]])[k']? = some p' := fun {k' p'} h' => by
    rw [List.getElem?_append_left (List.getElem?_eq_some_iff.1 h').1]; exact h'
  have hnew : (P ++ [p ++ [b]])[P.length]? = some (p ++ [b]) := by simp
  have hwas : ∀ {k' : Nat} {p' : List Bool} {b' : Bool}, (P ++ [p ++ [b]])[k']? = some p' → ¬ (k' = k ∧ b' = b) → slot T' k' b' ≠ 0 → P[k']? = some p' ∧ slot T' k' b' = slot T k' b' := fun {k' p' b'} h1 h2 h3 => by
    have e := hs k' b'
    rw [if_neg h2] at e
    refine ⟨?_, e⟩
    by_cases hk' : k' < P.length
    · rwa [List.getElem?_append_left hk'] at h1
    · exfalso; apply h3; rw [e]
      exact slot_out (by have := h.len; omega)
  refine ⟨⟨hl, hold h.root, fun k' p' b' h1 h2 => ?_, fun k' p' b' h1 h2 => ?_, fun p' hp' => ?_, fun w hw => ?_⟩, hself, ?_⟩
  · by_cases hkb : k' = k ∧ b' = b
    · obtain ⟨rfl, rfl⟩ := hkb
      rw [hold hk] at h1
      obtain rfl := Option.some.inj h1
      exact ⟨_, hself, hnew⟩
    · obtain ⟨h3, h4⟩ := hwas h1 hkb (by omega)
      rw [h4] at h2 ⊢
      obtain ⟨m, hm, hp⟩ := h.up k' p' b' h3 h2
      exact ⟨m, hm, hold hp⟩
  · by_cases hkb : k' = k ∧ b' = b
    · obtain ⟨rfl, rfl⟩ := hkb
      rw [hself] at h2; omega
    · obtain ⟨h3, h4⟩ := hwas h1 hkb (by omega)
      rw [h4] at h2 ⊢
      exact h.leaf k' p' b' h3 h2
  · rcases List.mem_append.1 hp' with h1 | h1
    · exact h.ext p' h1
    · simp at h1; subst h1
      exact .inr (.inr ⟨q, hq, by rw [hx]; simp⟩)
  · obtain ⟨p', b', k', h1, h2, h3⟩ := h.all w hw
    exact ⟨p', b', k', h1, h2.mono hmono, by rw [hmono k' b' (by omega)]; exact h3⟩
  · have h1 := reach_snoc (b := b) (hr.mono hmono) (by rw [hself]; omega)
    rwa [hself] at h1
theorem TI.done (h : TI T P W x) (hx : x = p ++ [b]) (hk : P[k]? = some p) (hr : reach T 0 p k) (hf : ∀ w ∈ W, ¬ w.1 <+: x ∧ ¬ x <+: w.1) (i : Nat) :
    slot T k b = 0 ∧ TI (T.set (2 * k + b.toNat) (-1 - (i : Int))) P (W ++ [(x, i)]) [] := by
  have h0 : slot T k b = 0 := by
    rcases h.down hx hk hr (fun w hw => (hf w hw).1) with h1 | ⟨m, _, _, h1, _⟩
    · exact h1
    · exfalso
      rw [← hx] at h1
      rcases h.ext x (List.mem_of_getElem? h1) with h2 | ⟨w, hw, r, _, h2⟩ | ⟨r, hr', h2⟩
      · rw [h2] at hx; simp at hx
      · exact (hf w hw).2 ⟨r, h2.symm⟩
      · have := congrArg List.length h2
        rw [List.length_append] at this
        exact hr' (List.eq_nil_of_length_eq_zero (by omega))
  refine ⟨h0, ?_⟩
  have hlt := h.lt hk b
  have hs := fun k' b' => slot_set (T := T) (k := k) (b := b) (v := -1 - (i : Int)) hlt k' b'
  have hl : (T.set (2 * k + b.toNat) (-1 - (i : Int))).length = 2 * P.length := by rw [List.length_set]; exact h.len
  generalize T.set (2 * k + b.toNat) (-1 - (i : Int)) = T' at *
  have hself : slot T' k b = -1 - (i : Int) := by rw [hs, if_pos ⟨rfl, rfl⟩]
  have hmono : Mono T T' := fun k' b' hn => by
    rw [hs, if_neg (fun e => hn (by rw [e.1, e.2]; exact h0))]
  refine ⟨hl, h.root, fun k' p' b' h1 h2 => ?_, fun k' p' b' h1 h2 => ?_, fun p' hp' => ?_, fun w hw => ?_⟩
  · by_cases hkb : k' = k ∧ b' = b
    · obtain ⟨rfl, rfl⟩ := hkb
      rw [hself] at h2; omega
    · have e := hs k' b'
      rw [if_neg hkb] at e
      rw [e] at h2 ⊢
      exact h.up k' p' b' h1 h2
  · by_cases hkb : k' = k ∧ b' = b
    · obtain ⟨rfl, rfl⟩ := hkb
      rw [hk] at h1
      obtain rfl := Option.some.inj h1
      exact ⟨i, hself, by rw [hx]; simp⟩
    · have e := hs k' b'
      rw [if_neg hkb] at e
      rw [e] at h2 ⊢
      obtain ⟨i', h3, h4⟩ := h.leaf k' p' b' h1 h2
      exact ⟨i', h3, by simp [h4]⟩
  · rcases h.ext p' hp' with h1 | ⟨w, hw, h1⟩ | ⟨r, hr', h1⟩
    · exact .inl h1
    · exact .inr (.inl ⟨w, by simp [hw], h1⟩)
    · exact .inr (.inl ⟨(x, i), by simp, r, hr', h1⟩)
  · rcases List.mem_append.1 hw with h1 | h1
    · obtain ⟨p', b', k', h2, h3, h4⟩ := h.all w h1
      exact ⟨p', b', k', h2, h3.mono hmono, by rw [hmono k' b' (by omega)]; exact h4⟩
    · simp at h1; subst h1
      exact ⟨p, b, k, hx, hr.mono hmono, hself⟩
theorem TI.dec_word (h : TI T P W []) {w : List Bool} (hw : (w, i) ∈ W) (l : List Bool) : dec T 0 (w ++ l) = some (i, l) := by
  obtain ⟨p, b, k, h1, h2, h3⟩ := h.all _ hw
  simp only at h1 h3
  rw [h1, List.append_assoc, reach_dec h2]
  show (if slot T k b < 0 then some ((-1 - slot T k b).toNat, l) else _) = _
  rw [if_pos (by omega), h3]
  congr 2; omega
theorem TI.dec_from (h : TI T P W []) {r : List Bool} : ∀ {l : List Bool} {k : Nat} {p : List Bool}, P[k]? = some p → dec T k l = some (i, r) → ∃ w, (p ++ w, i) ∈ W ∧ l = w ++ r
  | [], _, _, _, hd => by cases hd
  | b :: l, k, p, hk, hd => by
    have hd' : (if slot T k b < 0 then some ((-1 - slot T k b).toNat, l) else if slot T k b = 0 then none else dec T (slot T k b).toNat l) = some (i, r) := hd
    split at hd'
    · rename_i h1
      obtain ⟨j, h2, h3⟩ := h.leaf k p b hk h1
      simp only [Option.some.injEq, Prod.mk.injEq] at hd'
      obtain ⟨h4, rfl⟩ := hd'
      obtain rfl : j = i := by omega
      exact ⟨[b], h3, rfl⟩
    · split at hd'
      · cases hd'
      · obtain ⟨m, h2, h3⟩ := h.up k p b hk (by omega)
        rw [h2] at hd'
        obtain ⟨w, h4, h5⟩ := h.dec_from h3 hd'
        exact ⟨b :: w, by simpa using h4, by rw [h5]; rfl⟩
theorem TI.dec_some (h : TI T P W []) {l r : List Bool} (hd : dec T 0 l = some (i, r)) : ∃ w, (w, i) ∈ W ∧ l = w ++ r := by
  simpa using h.dec_from h.root hd
end
/-! ### Words in order -/
theorem nb_mod (x n : Nat) : nb (x % 2 ^ n) n = nb x n := by
  refine List.map_congr_left (fun i hi => ?_)
  have hi := List.mem_range.1 hi
  rw [Nat.testBit_mod_two_pow, decide_eq_true (by omega), Bool.true_and]
theorem nb_lt : ∀ {n w u : Nat}, w < u → u < 2 ^ n → ∃ p r r', nb w n = p ++ false :: r ∧ nb u n = p ++ true :: r'
  | 0, w, u, h, hu => by simp at hu; omega
  | n + 1, w, u, h, hu => by
    rw [Nat.pow_succ] at hu
    have hp := Nat.two_pow_pos n
    have tb : ∀ x, x < 2 ^ n * 2 → (x.testBit n = true ∧ 2 ^ n ≤ x ∧ x % 2 ^ n = x - 2 ^ n) ∨ (x.testBit n = false ∧ x < 2 ^ n ∧ x % 2 ^ n = x) := fun x hx => by
      by_cases h1 : x < 2 ^ n
      · exact .inr ⟨Nat.testBit_lt_two_pow h1, h1, Nat.mod_eq_of_lt h1⟩
      · refine .inl ⟨?_, by omega, ?_⟩
        · rw [Nat.testBit_eq_decide_div_mod_eq, show x / 2 ^ n = 1 from Nat.div_eq_of_lt_le (by omega) (by omega)]; rfl
        · rw [show x = (x - 2 ^ n) + 2 ^ n by omega, Nat.add_mod_right, Nat.mod_eq_of_lt (by omega)]; omega
    rw [nb_cons, nb_cons]
    rcases tb w (by omega) with ⟨h1, h2, h3⟩ | ⟨h1, h2, h3⟩ <;> rcases tb u hu with ⟨g1, g2, g3⟩ | ⟨g1, g2, g3⟩
    · obtain ⟨p, r, r', e1, e2⟩ := nb_lt (n := n) (w := w % 2 ^ n) (u := u % 2 ^ n) (by omega) (Nat.mod_lt _ hp)
      rw [nb_mod] at e1 e2
      exact ⟨true :: p, r, r', by rw [h1, e1]; rfl, by rw [g1, e2]; rfl⟩
    · omega
    · exact ⟨[], _, _, by rw [h1]; rfl, by rw [g1]; rfl⟩
    · obtain ⟨p, r, r', e1, e2⟩ := nb_lt (n := n) (w := w % 2 ^ n) (u := u % 2 ^ n) (by omega) (Nat.mod_lt _ hp)
      rw [nb_mod] at e1 e2
      exact ⟨false :: p, r, r', by rw [h1, e1]; rfl, by rw [g1, e2]; rfl⟩
theorem nb_less {w n v m : Nat} (hv : v < 2 ^ m) (hn : n ≤ m) (h : (w + 1) * 2 ^ (m - n) ≤ v) : ∃ p r r', nb w n = p ++ false :: r ∧ nb v m = p ++ true :: r' := by
  have hlt : v / 2 ^ (m - n) < 2 ^ n := by
    rw [Nat.div_lt_iff_lt_mul (Nat.two_pow_pos _), ← Nat.pow_add, show n + (m - n) = m by omega]; exact hv
  have h3 : w + 1 ≤ v / 2 ^ (m - n) := (Nat.le_div_iff_mul_le (Nat.two_pow_pos _)).2 h
  obtain ⟨p, r, r', e1, e2⟩ := nb_lt (show w < v / 2 ^ (m - n) by omega) hlt
  refine ⟨p, r, r' ++ (nb v m).drop n, e1, ?_⟩
  have e := List.take_append_drop n (nb v m)
  rw [nb_take hn, e2] at e
  exact e.symm.trans (by simp)
theorem pair_or {α : Type} {R : α → α → Prop} {A : List α} (h : A.Pairwise R) {a b : α} (ha : a ∈ A) (hb : b ∈ A) (hne : a ≠ b) : R a b ∨ R b a := by
  obtain ⟨i, hi, rfl⟩ := List.mem_iff_getElem.1 ha
  obtain ⟨j, hj, rfl⟩ := List.mem_iff_getElem.1 hb
  rw [List.pairwise_iff_getElem] at h
  rcases Nat.lt_trichotomy i j with h1 | h1 | h1
  · exact .inl (h i j hi hj h1)
  · subst h1; exact absurd rfl hne
  · exact .inr (h j i hj hi h1)
/-! ### A code -/
structure GC (sz ws : List Nat) (T : List Int) : Prop where
  le : 1 ≤ sz.length ∧ sz.length ≤ 64
  ok : ∀ n ∈ sz, 1 ≤ n ∧ n ≤ 32
  wl : ws.length = sz.length
  it : ∃ A wd P, codeOf sz = some A ∧ CI sz 33 0 wd A ∧ (∀ a ∈ A, ws[a.1]? = some a.2.1) ∧ TI T P (A.map fun a => (nb a.2.1 a.2.2, a.1)) []
/-- The word of a number. -/
def cw (sz ws : List Nat) (i : Nat) : List Bool := nb (ws.getD i 0) (sz.getD i 0)
section
variable {sz ws : List Nat} {T : List Int}
theorem ent_in {A : List CE} {wd : Nat} (h : CI sz 33 0 wd A) (hk : ∀ n ∈ sz, 1 ≤ n ∧ n ≤ 32) (hw : ∀ a ∈ A, ws[a.1]? = some a.2.1) {i : Nat} (hi : i < sz.length) : (i, ws.getD i 0, sz.getD i 0) ∈ A := by
  have h1 := hk _ (List.getElem_mem hi)
  obtain ⟨w, hm⟩ := h.all i sz[i] (List.getElem?_eq_getElem hi) h1.1 (.inl (by omega))
  have h2 := hw _ hm
  rw [List.getD_eq_getElem?_getD, List.getD_eq_getElem?_getD, h2, List.getElem?_eq_getElem hi]
  exact hm
theorem GC.ent (h : GC sz ws T) {i : Nat} (hi : i < sz.length) : ∃ A wd, codeOf sz = some A ∧ CI sz 33 0 wd A ∧ (i, ws.getD i 0, sz.getD i 0) ∈ A := by
  obtain ⟨A, wd, P, hc, hci, hw, hT⟩ := h.it
  exact ⟨A, wd, hc, hci, ent_in hci h.ok hw hi⟩
theorem GC.szd (h : GC sz ws T) {i : Nat} (hi : i < sz.length) : 1 ≤ sz.getD i 0 ∧ sz.getD i 0 ≤ 32 := by
  rw [List.getD_eq_getElem?_getD, List.getElem?_eq_getElem hi]; exact h.ok _ (List.getElem_mem hi)
theorem GC.wlt (h : GC sz ws T) {i : Nat} (hi : i < sz.length) : ws.getD i 0 < 2 ^ sz.getD i 0 := by
  obtain ⟨A, wd, _, hci, hm⟩ := h.ent hi
  exact (hci.ent _ hm).2.2.2.1
theorem GC.w64 (h : GC sz ws T) {i : Nat} (hi : i < sz.length) : ws.getD i 0 < 18446744073709551616 := by
  have h1 := h.wlt hi
  have h2 := (h.szd hi).2
  have h3 : 2 ^ sz.getD i 0 ≤ 2 ^ 32 := Nat.pow_le_pow_right (by decide) h2
  omega
theorem cw_len {i : Nat} : (cw sz ws i).length = sz.getD i 0 := nb_len _ _
theorem GC.less (h : GC sz ws T) {i j : Nat} (hi : i < sz.length) (hj : j < sz.length) (hl : sz.getD i 0 < sz.getD j 0 ∨ (sz.getD i 0 = sz.getD j 0 ∧ i < j)) : ∃ p r r', cw sz ws i = p ++ false :: r ∧ cw sz ws j = p ++ true :: r' := by
  obtain ⟨A, wd, P, hc, hci, hw, hT⟩ := h.it
  have hmi := ent_in hci h.ok hw hi
  have hmj := ent_in hci h.ok hw hj
  have hne : (i, ws.getD i 0, sz.getD i 0) ≠ (j, ws.getD j 0, sz.getD j 0) := fun e => by
    simp only [Prod.mk.injEq] at e
    omega
  rcases pair_or hci.ord hmi hmj hne with ⟨h1, h2, h3⟩ | ⟨h1, h2, h3⟩
  · exact nb_less (h.wlt hj) h2 h1
  · simp only at h2 h3; omega
theorem GC.free (h : GC sz ws T) {i j : Nat} (hi : i < sz.length) (hj : j < sz.length) (hne : i ≠ j) : ¬ cw sz ws i <+: cw sz ws j := by
  have key : ∀ {a b : List Bool}, (∃ p r r', a = p ++ false :: r ∧ b = p ++ true :: r') → ¬ a <+: b ∧ ¬ b <+: a := fun {a b} ⟨p, r, r', e1, e2⟩ => by
    refine ⟨fun ⟨t, ht⟩ => ?_, fun ⟨t, ht⟩ => ?_⟩
    · rw [e1, e2, List.append_assoc] at ht
      have := List.append_cancel_left ht
      simp at this
    · rw [e1, e2, List.append_assoc] at ht
      have := List.append_cancel_left ht
      simp at this
  by_cases hl : sz.getD i 0 < sz.getD j 0 ∨ (sz.getD i 0 = sz.getD j 0 ∧ i < j)
  · exact (key (h.less hi hj hl)).1
  · exact (key (h.less hj hi (by omega))).2
theorem GC.dec_word (h : GC sz ws T) {i : Nat} (hi : i < sz.length) (l : List Bool) : dec T 0 (cw sz ws i ++ l) = some (i, l) := by
  obtain ⟨A, wd, P, hc, hci, hw, hT⟩ := h.it
  exact hT.dec_word (List.mem_map.2 ⟨_, ent_in hci h.ok hw hi, rfl⟩) l
theorem GC.dec_some (h : GC sz ws T) {i : Nat} {l r : List Bool} (hd : dec T 0 l = some (i, r)) : i < sz.length ∧ l = cw sz ws i ++ r := by
  obtain ⟨A, wd, P, hc, hci, hw, hT⟩ := h.it
  obtain ⟨w, hm, hl⟩ := hT.dec_some hd
  obtain ⟨a, ha, e⟩ := List.mem_map.1 hm
  simp only [Prod.mk.injEq] at e
  obtain ⟨rfl, rfl⟩ := e
  obtain ⟨h1, _⟩ := hci.ent a ha
  refine ⟨(List.getElem?_eq_some_iff.1 h1).1, ?_⟩
  unfold cw
  rw [List.getD_eq_getElem?_getD, List.getD_eq_getElem?_getD, h1, hw a ha]
  exact hl
end
end Go.P
