/- Plain laws of escaped bytes: what Put and Take make of lists of bytes; no program in sight, no condition. -/
import Derived.Test.YtnamafelcjgjfaaK5
namespace Go.P
open Go Go.K

/-- Noughts that are behind, after one more byte. -/
def escS (z c : Nat) : Nat := if 2 ≤ z ∧ c ≤ 3 then (if c = 0 then 1 else 0) else (if c = 0 then z + 1 else 0)
def escO (z c : Nat) : List Nat := if 2 ≤ z ∧ c ≤ 3 then [3, c] else [c]
def escF : Nat → List Nat → List Nat
  | _, [] => []
  | z, c :: l => escO z c ++ escF (escS z c) l
def escZ : Nat → List Nat → Nat
  | z, [] => z
  | z, c :: l => escZ (escS z c) l
theorem escF_snoc : ∀ (l : List Nat) (z c : Nat), escF z (l ++ [c]) = escF z l ++ escO (escZ z l) c
  | [], z, c => by simp [escF, escZ]
  | d :: l, z, c => by simp only [List.cons_append, escF, escZ, escF_snoc l, List.append_assoc]
theorem escZ_snoc : ∀ (l : List Nat) (z c : Nat), escZ z (l ++ [c]) = escS (escZ z l) c
  | [], z, c => by simp [escZ]
  | d :: l, z, c => by simp only [List.cons_append, escZ, escZ_snoc l]
theorem escF_len : ∀ (l : List Nat) (z : Nat), (escF z l).length ≤ 2 * l.length
  | [], z => by simp [escF]
  | d :: l, z => by
    have := escF_len l (escS z d)
    have h1 : (escO z d).length ≤ 2 := by unfold escO; split <;> simp
    simp only [escF, List.length_append, List.length_cons]; omega
theorem escO_byt {z c : Nat} (h : c < 256) : Byt (escO z c) := by
  unfold escO; split <;> intro x hx <;> simp at hx <;> omega
theorem escF_byt : ∀ (l : List Nat) (z : Nat), Byt l → Byt (escF z l)
  | [], z, _ => by simp [escF, Byt]
  | d :: l, z, h => by
    refine (escO_byt (h d (by simp))).append (escF_byt l _ (fun x hx => h x (by simp [hx])))
theorem escS_le {z c : Nat} (h : z ≤ 2) : escS z c ≤ 2 := by unfold escS; repeat (first | split | omega)
theorem escZ_le : ∀ (l : List Nat) (z : Nat), z ≤ 2 → escZ z l ≤ 2
  | [], _, h => h
  | _ :: l, _, h => escZ_le l _ (escS_le h)
theorem escF_take {l : List Nat} {k : Nat} (h : k < l.length) : escF 0 (l.take (k + 1)) = escF 0 (l.take k) ++ escO (escZ 0 (l.take k)) l[k] := by
  rw [List.take_succ_eq_append_getElem h, escF_snoc]
theorem escZ_take {l : List Nat} {k : Nat} (h : k < l.length) : escZ 0 (l.take (k + 1)) = escS (escZ 0 (l.take k)) l[k] := by
  rw [List.take_succ_eq_append_getElem h, escZ_snoc]

/-! ### Back -/
/-- What Take makes of the rest, so many noughts being behind; none: an error. -/
def hd3 : List Nat → Bool
  | [] => true
  | d :: _ => decide (3 < d)
def tk : Nat → List Nat → Option (List Nat)
  | _, [] => some []
  | z, c :: l =>
    if z = 2 ∧ c < 3 then none
    else if z = 2 ∧ c = 3 then (if hd3 l = true then none else tk 0 l)
    else (tk (if c = 0 then z + 1 else 0) l).map (c :: ·)
theorem tk_cons (z c : Nat) (l : List Nat) : tk z (c :: l) = if z = 2 ∧ c < 3 then none else if z = 2 ∧ c = 3 then (if hd3 l = true then none else tk 0 l) else (tk (if c = 0 then z + 1 else 0) l).map (c :: ·) := rfl
theorem tk_esc : ∀ (l : List Nat) (z : Nat), z ≤ 2 → tk z (escF z l) = some l
  | [], z, _ => by simp [escF, tk]
  | c :: l, z, hz => by
    have ih := tk_esc l (escS z c) (escS_le hz)
    simp only [escF]
    by_cases h : 2 ≤ z ∧ c ≤ 3
    · have h2 : z = 2 := by omega
      subst h2
      have e1 : escO 2 c = [3, c] := by simp [escO, h.2]
      rw [e1]
      have e2 : escS 2 c = if c = 0 then 0 + 1 else 0 := by simp [escS, h.2]
      rw [e2] at ih
      have h3 : ¬ (3 < c) := by omega
      simp only [List.cons_append, List.nil_append]
      rw [tk_cons]
      simp only [if_false, show ¬ ((3 : Nat) < 3) by omega, and_false, and_self, if_true]
      rw [tk_cons]
      simp [hd3, h3]
      rw [e2]
      simpa using ih
    · have e1 : escO z c = [c] := by simp only [escO, if_neg h]
      have e2 : escS z c = if c = 0 then z + 1 else 0 := by simp only [escS, if_neg h]
      rw [e1]
      rw [e2] at ih ⊢
      simp only [List.cons_append, List.nil_append]
      rw [tk_cons]
      rw [if_neg (by omega), if_neg (by omega), ih]; rfl
theorem esc_tk : ∀ (n : Nat) (x y : List Nat) (z : Nat), x.length ≤ n → z ≤ 2 → tk z x = some y → escF z y = x
  | _, [], y, z, _, _, h => by simp [tk] at h; subst h; rfl
  | 0, c :: l, y, z, hn, _, h => by simp at hn
  | n + 1, c :: l, y, z, hn, hz, h => by
    simp only [List.length_cons] at hn
    rw [tk_cons] at h
    split at h
    · cases h
    · split at h
      · rename_i h1 h2
        obtain ⟨rfl, rfl⟩ := h2
        cases l with
        | nil => simp [hd3] at h
        | cons d l =>
          simp only [hd3, decide_eq_true_eq] at h
          split at h
          · cases h
          · rename_i h3
            have ih := esc_tk n (d :: l) y 0 (by omega) (by omega) h
            rw [tk_cons, if_neg (by omega), if_neg (by omega)] at h
            simp only [Option.map_eq_some_iff] at h
            obtain ⟨y', hy', rfl⟩ := h
            simp only [escF] at ih ⊢
            have e1 : escO 0 d = [d] := by simp [escO]
            have e2 : escO 2 d = [3, d] := by simp [escO]; omega
            have e3 : escS 0 d = escS 2 d := by simp [escS]; split <;> simp_all
            rw [e2, ← e3]
            rw [e1] at ih
            simpa using ih
      · rename_i h1 h2
        simp only [Option.map_eq_some_iff] at h
        obtain ⟨y', hy', rfl⟩ := h
        have h3 : ¬ (2 ≤ z ∧ c ≤ 3) := by omega
        have hz' : (if c = 0 then z + 1 else 0) ≤ 2 := by split <;> omega
        have ih := esc_tk n l y' _ (by omega) hz' hy'
        simp only [escF, escO, escS, if_neg h3, ih]
        rfl
theorem tk_len : ∀ (n : Nat) (x y : List Nat) (z : Nat), x.length ≤ n → tk z x = some y → y.length ≤ x.length
  | _, [], y, z, _, h => by simp [tk] at h; subst h; simp
  | 0, c :: l, y, z, hn, h => by simp at hn
  | n + 1, c :: l, y, z, hn, h => by
    simp only [List.length_cons] at hn ⊢
    rw [tk_cons] at h
    split at h
    · cases h
    · split at h
      · cases l with
        | nil => simp [hd3] at h
        | cons d l =>
          simp only [hd3, decide_eq_true_eq] at h
          split at h
          · cases h
          · have := tk_len n (d :: l) y 0 (by simpa using hn) h; omega
      · simp only [Option.map_eq_some_iff] at h
        obtain ⟨y', hy', rfl⟩ := h
        have := tk_len n l y' _ (by omega) hy'
        simp; omega
theorem tk_mem : ∀ (n : Nat) (x y : List Nat) (z : Nat), x.length ≤ n → tk z x = some y → ∀ c ∈ y, c ∈ x
  | _, [], y, z, _, h => by simp [tk] at h; subst h; simp
  | 0, c :: l, y, z, hn, h => by simp at hn
  | n + 1, c :: l, y, z, hn, h => by
    simp only [List.length_cons] at hn
    rw [tk_cons] at h
    split at h
    · cases h
    · split at h
      · cases l with
        | nil => simp [hd3] at h
        | cons d l =>
          simp only [hd3, decide_eq_true_eq] at h
          split at h
          · cases h
          · intro x hx; have := tk_mem n (d :: l) y 0 (by simpa using hn) h x hx; simp at this ⊢; exact .inr this
      · simp only [Option.map_eq_some_iff] at h
        obtain ⟨y', hy', rfl⟩ := h
        have := tk_mem n l y' _ (by omega) hy'
        intro x hx
        simp at hx ⊢
        rcases hx with h | h
        · exact .inl h
        · exact .inr (this x h)

/-! ### The answer by definition -/
/-- Ends the list with two noughts? -/
def end2 (o : List Nat) : Bool := match o.reverse with | 0 :: 0 :: _ => true | _ => false
def refE (o : List Nat) (c : Nat) : List Nat := if end2 o = true ∧ c < 4 then o ++ [3, c] else o ++ [c]
/-- How many noughts end it. -/
def tz : List Nat → Nat
  | [] => 0
  | c :: l => if c = 0 then tz l + 1 else 0
theorem end2_iff (o : List Nat) : end2 o = true ↔ 2 ≤ tz o.reverse := by
  unfold end2
  cases o.reverse with
  | nil => simp [tz]
  | cons a l =>
    cases l with
    | nil => simp [tz]; split <;> omega
    | cons b l =>
      by_cases ha : a = 0
      · by_cases hb : b = 0
        · subst ha; subst hb; simp [tz]
        · subst ha; simp [tz, hb]
      · simp [tz, ha]
theorem end2_at {o : List Nat} (h : 1 < o.length) : end2 o = true ↔ o.getD (o.length - 1) 1 = 0 ∧ o.getD (o.length - 2) 1 = 0 := by
  rw [← List.reverse_reverse o] at h ⊢
  generalize o.reverse = r at *
  match r, h with
  | [], h => simp at h
  | [a], h => simp at h
  | a :: b :: l, h =>
    have e : (a :: b :: l).reverse = l.reverse ++ [b, a] := by simp
    have hl : (l.reverse ++ [b, a]).length = l.length + 2 := by simp
    have h1 : (l.reverse ++ [b, a]).getD (l.length + 2 - 1) 1 = a := by
      rw [List.getD_eq_getElem?_getD, List.getElem?_append_right (by simp)]; simp
    have h2 : (l.reverse ++ [b, a]).getD (l.length + 2 - 2) 1 = b := by
      rw [List.getD_eq_getElem?_getD, List.getElem?_append_right (by simp)]; simp
    rw [e, hl, h1, h2]
    unfold end2
    rw [← e, List.reverse_reverse]
    by_cases ha : a = 0 <;> by_cases hb : b = 0 <;> simp [ha, hb]
theorem end2_short {o : List Nat} (h : ¬ 1 < o.length) : end2 o = false := by
  match o, h with
  | [], _ => rfl
  | [a], _ => simp [end2]
  | a :: b :: l, h => simp at h
theorem refE_foldl : ∀ (l : List Nat) (o : List Nat), tz o.reverse ≤ 2 → l.foldl refE o = o ++ escF (tz o.reverse) l
  | [], o, _ => by simp [escF]
  | c :: l, o, ho => by
    simp only [List.foldl_cons, escF]
    by_cases h : 2 ≤ tz o.reverse ∧ c ≤ 3
    · have e1 : refE o c = o ++ [3, c] := by
        unfold refE; rw [if_pos ⟨(end2_iff o).2 h.1, by omega⟩]
      have e2 : tz (o ++ [3, c]).reverse = escS (tz o.reverse) c := by
        simp only [List.reverse_append, escS, if_pos h]
        simp [tz]
      rw [e1, refE_foldl l _ (by rw [e2]; exact escS_le ho), e2]
      simp only [escO, if_pos h, List.append_assoc]
    · have e1 : refE o c = o ++ [c] := by
        unfold refE; rw [if_neg (by rw [end2_iff]; omega)]
      have e2 : tz (o ++ [c]).reverse = escS (tz o.reverse) c := by
        simp only [List.reverse_append, escS, if_neg h]
        simp [tz]
      rw [e1, refE_foldl l _ (by rw [e2]; exact escS_le ho), e2]
      simp only [escO, if_neg h, List.append_assoc]
theorem refE_all (l : List Nat) : l.foldl refE [] = escF 0 l := by
  have := refE_foldl l [] (by simp [tz])
  simpa [tz] using this

/-! ### Markers -/
/-- Two noughts and a byte below m stand at place i. -/
def Low (m : Nat) (l : List Nat) (i : Nat) : Prop := l[i]? = some 0 ∧ l[i + 1]? = some 0 ∧ ∃ c, l[i + 2]? = some c ∧ c < m
def IsM (l : List Nat) (i : Nat) : Prop := l[i]? = some 0 ∧ l[i + 1]? = some 0 ∧ l[i + 2]? = some 1
instance (l : List Nat) (i : Nat) : Decidable (IsM l i) := by unfold IsM; infer_instance
theorem IsM.low {l : List Nat} {i : Nat} (h : IsM l i) : Low 3 l i := ⟨h.1, h.2.1, 1, h.2.2, by omega⟩
theorem low_cons {m c : Nat} {l : List Nat} {i : Nat} : Low m (c :: l) (i + 1) ↔ Low m l i := by simp [Low]
/-- z noughts ahead, then these bytes: nothing low. -/
def okz (z : Nat) (l : List Nat) : Prop := ∀ i, ¬ Low 3 (List.replicate z 0 ++ l) i
theorem escF_okz : ∀ (l : List Nat) (z : Nat), z ≤ 2 → okz z (escF z l)
  | [], z, hz => by
    intro i ⟨_, _, c, h, _⟩
    simp only [escF, List.append_nil] at h
    have := (List.getElem?_eq_some_iff.1 h).1
    simp at this; omega
  | c :: l, z, hz => by
    have ih := escF_okz l (escS z c) (escS_le hz)
    simp only [escF]
    by_cases h : 2 ≤ z ∧ c ≤ 3
    · have h2 : z = 2 := by omega
      subst h2
      have e1 : escO 2 c = [3, c] := by simp [escO, h.2]
      rw [e1]
      intro i hi
      by_cases h0 : c = 0
      · subst h0
        have e2 : escS 2 0 = 1 := by simp [escS]
        rw [e2] at ih
        rcases i with _ | _ | _ | i
        · simp [Low, List.replicate] at hi
        · simp [Low, List.replicate] at hi
        · simp [Low, List.replicate] at hi
        · have := low_cons.1 (low_cons.1 (low_cons.1 hi))
          rw [e2] at this
          exact ih i (by simpa [List.replicate] using this)
      · have e2 : escS 2 c = 0 := by simp [escS, h0, h.2]
        rw [e2] at ih
        rcases i with _ | _ | _ | _ | i
        · simp [Low, List.replicate] at hi
        · simp [Low, List.replicate] at hi
        · simp [Low, List.replicate] at hi
        · simp [Low, List.replicate, h0] at hi
        · have := low_cons.1 (low_cons.1 (low_cons.1 (low_cons.1 hi)))
          rw [e2] at this
          exact ih i (by simpa [List.replicate] using this)
    · have e1 : escO z c = [c] := by simp only [escO, if_neg h]
      rw [e1]
      intro i hi
      by_cases h0 : c = 0
      · subst h0
        have hz1 : z < 2 := by omega
        have e2 : escS z 0 = z + 1 := by simp only [escS, if_neg h, if_true]
        rw [e2] at ih
        refine ih i ?_
        have : List.replicate (z + 1) 0 ++ escF (z + 1) l = List.replicate z 0 ++ ([0] ++ escF (z + 1) l) := by
          rw [List.replicate_succ']; simp
        rw [this]; rw [e2] at hi; exact hi
      · have e2 : escS z c = 0 := by simp only [escS, if_neg h, if_neg h0]
        rw [e2] at ih hi
        have hz : z = 0 ∨ z = 1 ∨ z = 2 := by omega
        rcases hz with rfl | rfl | rfl
        · rcases i with _ | i
          · simp [Low, h0] at hi
          · exact ih i (by have := low_cons.1 hi; simpa using this)
        · rcases i with _ | _ | i
          · simp [Low, h0, List.replicate] at hi
          · simp [Low, h0, List.replicate] at hi
          · exact ih i (by have := low_cons.1 (low_cons.1 hi); simpa using this)
        · rcases i with _ | _ | _ | i
          · simp [Low, List.replicate] at hi
            omega
          · simp [Low, h0, List.replicate] at hi
          · simp [Low, h0, List.replicate] at hi
          · exact ih i (by have := low_cons.1 (low_cons.1 (low_cons.1 hi)); simpa using this)
theorem escF_low (l : List Nat) (i : Nat) : ¬ Low 3 (escF 0 l) i := by
  have := escF_okz l 0 (by omega) i
  simpa using this
end Go.P
