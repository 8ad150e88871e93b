/- A rule for regions whose order Go leaves open and whose operations make memory: each operation by what holds of its own value, in whatever order: over any program; no condition. -/
import Derived.Test.YtccnhnijglnbmaaK5
namespace Go.K
open Go Go.RowKit

/-- The numbers that operation o must wait for, one step. -/
def edges (o : Oper) : List Nat := o.after.toList.filterMap fun e => cond (Region.binds .any e) (some e.on) none
/-- Of operation j: m the slots whose values are not those at the region's head; ds the slots that it reads of operations that it waits for. -/
def okOne (ops : List Oper) (j : Nat) (o : Oper) (m : Nat) (ds : List (Nat × Nat)) : Bool :=
  o.guard.isNone && (match o.op with | .select .. => false | _ => true) &&
  ds.all (fun p => (edges o).contains p.1 && ((ops[p.1]?).bind (·.dst) == some p.2)) &&
  ops.zipIdx.all (fun (oi, i) => match oi.dst with | none => true | some d => inW m d || (edges oi).contains j || (i == j))
def okAll (ops : List Oper) : Nat → List Oper → List (Nat × List (Nat × Nat)) → Bool
  | _, [], [] => true
  | j, o :: l, (m, ds) :: r => okOne ops j o m ds && okAll ops (j + 1) l r
  | _, _, _ => false
/-- No two operations write one slot; all slots are in the frame. -/
def dstsOk (N : Nat) (ops : List Oper) : Bool :=
  ops.all (fun o => dstOk N o.dst) && ops.zipIdx.all fun (o, i) => ops.zipIdx.all fun (o', j) => i == j || o.dst.isNone || o.dst != o'.dst
def ForDeps (R : Nat → Value → World → Prop) (w : World) : List (Nat × Nat) → (List (Nat × Value) → Prop) → Prop
  | [], k => k []
  | (i, d) :: l, k => ∀ v, R i v w → ForDeps R w l (fun acc => k ((d, v) :: acc))
def SpecAll (P : Program) (N : Nat) (R : Nat → Value → World → Prop) (ρ0 : Fr) (w0 : World) : Nat → List Oper → List (Nat × List (Nat × Nat)) → Prop
  | j, o :: l, (m, ds) :: r => (∀ w, Ext [] w0 w → ForDeps R w ds (fun L => ∀ σ, Stp P N (updL L (mrg m ρ0 σ)) o w (fun ρ' w' => Ext [] w w' ∧ ∃ v, ρ' = updo (updL L (mrg m ρ0 σ)) o.dst v ∧ R j v w'))) ∧ SpecAll P N R ρ0 w0 (j + 1) l r
  | _, _, _ => True
section
variable {P : Program} {N : Nat} {f : FuncId} {R : Value → World → Prop} {k : List Item} {ρ : Fr} {w : World}
theorem spec_run {S : Nat → Value → World → Prop} {o : Oper} {v : Value} {j : Nat} (h : Run P ρ o w v w) (hd : dstOk N o.dst = true) (hR : S j v w) :
    Stp P N ρ o w (fun ρ' w' => Ext [] w w' ∧ ∃ v, ρ' = updo ρ o.dst v ∧ S j v w') := S_run h hd ⟨.refl, v, rfl, hR⟩
theorem forDeps_at {S : Nat → Value → World → Prop} {ρ : Fr} : ∀ {ds : List (Nat × Nat)} {k : List (Nat × Value) → Prop}, ForDeps S w ds k → (∀ p ∈ ds, S p.1 (ρ p.2) w) → k (ds.map fun p => (p.2, ρ p.2))
  | [], _, h, _ => h
  | (i, d) :: l, k, h, hs => by
    exact forDeps_at (k := fun acc => k ((d, ρ d) :: acc)) (h (ρ d) (hs (i, d) (by simp))) (fun p hp => hs p (by simp [hp]))
theorem updL_self (ρ : Fr) : ∀ (l : List Nat), updL (l.map fun d => (d, ρ d)) ρ = ρ
  | [] => rfl
  | d :: l => by
    show upd (updL (l.map fun d => (d, ρ d)) ρ) d (ρ d) = ρ
    rw [updL_self ρ l]
    exact upd_self rfl
theorem updL_getD (σ : Fr) (t : Nat) : ∀ (l : List (Nat × Value)), (∀ p ∈ l, p.1 ≠ t) → updL l σ t = σ t
  | [], _ => rfl
  | (d, v) :: l, h => by
    show upd (updL l σ) d v t = σ t
    rw [upd_ne _ _ (fun e => h (d, v) (by simp) e.symm)]
    exact updL_getD σ t l (fun p hp => h p (by simp [hp]))
theorem updL_dep (σ ρ : Fr) (t : Nat) : ∀ (l : List (Nat × Nat)), (∃ p ∈ l, p.2 = t) → updL (l.map fun p => (p.2, ρ p.2)) σ t = ρ t
  | [], h => by obtain ⟨p, hp, _⟩ := h; cases hp
  | (i, d) :: l, h => by
    show upd (updL (l.map fun p => (p.2, ρ p.2)) σ) d (ρ d) t = ρ t
    by_cases hd : t = d
    · subst hd; rw [upd_same]
    · rw [upd_ne _ _ hd]
      refine updL_dep σ ρ t l ?_
      obtain ⟨p, hp, ht⟩ := h
      rcases List.mem_cons.1 hp with rfl | hp
      · exact absurd ht.symm hd
      · exact ⟨p, hp, ht⟩
theorem okAll_at {ops : List Oper} : ∀ {l : List Oper} {r : List (Nat × List (Nat × Nat))} {j i : Nat} {o : Oper}, okAll ops j l r = true → l[i]? = some o → ∃ m ds, r[i]? = some (m, ds) ∧ okOne ops (j + i) o m ds = true
  | [], _, _, _, _, _, h => by simp at h
  | o' :: l, [], j, i, o, h, _ => by simp [okAll] at h
  | o' :: l, (m, ds) :: r, j, i, o, h, hi => by
    simp only [okAll, Bool.and_eq_true] at h
    cases i with
    | zero => simp at hi; subst hi; exact ⟨m, ds, rfl, h.1⟩
    | succ i =>
      obtain ⟨m', ds', h1, h2⟩ := okAll_at h.2 (show l[i]? = some o by simpa using hi)
      exact ⟨m', ds', by simpa using h1, by rw [show j + (i + 1) = j + 1 + i by omega]; exact h2⟩
theorem specAll_at {S : Nat → Value → World → Prop} {ρ0 : Fr} {w0 : World} : ∀ {l : List Oper} {r : List (Nat × List (Nat × Nat))} {j i : Nat} {o : Oper} {m : Nat} {ds : List (Nat × Nat)}, SpecAll P N S ρ0 w0 j l r → l[i]? = some o → r[i]? = some (m, ds) →
    ∀ w, Ext [] w0 w → ForDeps S w ds (fun L => ∀ σ, Stp P N (updL L (mrg m ρ0 σ)) o w (fun ρ' w' => Ext [] w w' ∧ ∃ v, ρ' = updo (updL L (mrg m ρ0 σ)) o.dst v ∧ S (j + i) v w'))
  | [], _, _, _, _, _, _, _, h, _ => by simp at h
  | _ :: _, [], _, _, _, _, _, _, _, h => by simp at h
  | o' :: l, (m', ds') :: r, j, i, o, m, ds, h, hi, hr => by
    cases i with
    | zero => simp at hi hr; subst hi; obtain ⟨rfl, rfl⟩ := hr; exact h.1
    | succ i =>
      have := specAll_at h.2 (show l[i]? = some o by simpa using hi) (show r[i]? = some (m, ds) by simpa using hr)
      rw [show j + 1 + i = j + (i + 1) by omega] at this
      exact this
theorem count_set_true : ∀ (l : List Bool) (j : Nat), l[j]? = some false → (l.set j true).count false + 1 = l.count false
  | [], j, h => by simp at h
  | b :: l, 0, h => by simp at h; subst h; simp
  | b :: l, j + 1, h => by
    have ih := count_set_true l j (by simpa using h)
    cases b <;> simp <;> omega
/-- Every operation waits for such as stand ahead of it alone. -/
def edgesDown (ops : List Oper) : Bool := ops.zipIdx.all fun (o, i) => (edges o).all fun e => Nat.blt e i
theorem WS_spec {id : Nat} {l : List Oper} (hm : P.follows .mixedOrders = true) (sp : List (Nat × List (Nat × Nat))) (hok : okAll l 0 l sp = true) (hds : dstsOk N l = true) (hdn : edgesDown l = true) (S : Nat → Value → World → Prop)
    (hst : ∀ i v w w', S i v w → Ext [] w w' → S i v w') (hall : SpecAll P N S ρ w 0 l sp)
    (hfin : ∀ ρ' w', Ext [] w w' → (∀ (i : Nat) (o : Oper) (d : Nat), l[i]? = some o → o.dst = some d → S i (ρ' d) w') → (∀ t, (∀ o ∈ l, o.dst ≠ some t) → ρ' t = ρ t) → WS P N f R k ρ' w') :
    WS P N f R (.code (.region id l.toArray true) :: k) ρ w := by
  refine WS_wp fun a ha => wp_region_any hm ?_
  have hU : ∀ (i j : Nat) (o o' : Oper), l[i]? = some o → l[j]? = some o' → i ≠ j → o.dst ≠ none → o.dst ≠ o'.dst := fun i j o o' h1 h2 hij hn => by
    simp only [dstsOk, Bool.and_eq_true] at hds
    have h3 := List.all_eq_true.1 hds.2 (o, i) (List.mem_zipIdx_iff_getElem?.2 h1)
    have h4 := List.all_eq_true.1 h3 (o', j) (List.mem_zipIdx_iff_getElem?.2 h2)
    simp only [Bool.or_eq_true, beq_iff_eq, bne_iff_ne, ne_eq, Option.isNone_iff_eq_none] at h4
    rcases h4 with (h4 | h4) | h4
    · exact absurd h4 hij
    · exact absurd h4 hn
    · exact h4
  have hlt0 : ∀ (i : Nat) (o : Oper), l[i]? = some o → ∀ e ∈ edges o, e < i := fun i o hi e he => by
    have h1 := List.all_eq_true.1 hdn (o, i) (List.mem_zipIdx_iff_getElem?.2 hi)
    have h2 := List.all_eq_true.1 h1 e he
    simpa [Nat.blt_eq] using h2
  have key : ∀ (fuel : Nat) (D : Array Bool) (ρ' : Fr) (w' : World) (a' : Act), D.size = l.length → Rep N a' ρ' → Ext [] w w' →
      (∀ (i : Nat) (o : Oper) (d : Nat), l[i]? = some o → D.getD i false = true → o.dst = some d → S i (ρ' d) w') →
      (∀ (i : Nat) (o : Oper) (d : Nat), l[i]? = some o → D.getD i false = false → o.dst = some d → ρ' d = ρ d) →
      (∀ t, (∀ o ∈ l, o.dst ≠ some t) → ρ' t = ρ t) →
      (∀ (i : Nat) (o : Oper), l[i]? = some o → D.getD i false = true → ∀ e ∈ edges o, D.getD e false = true) →
      (D.toList.count false ≤ fuel) → (∀ (i : Nat) (o : Oper), l[i]? = some o → ∀ e ∈ edges o, e < i) →
      wpAny P .any l.toArray (QN N (WS P N f R k)) fuel D a' w' := by
    intro fuel
    induction fuel with
    | zero =>
      intro D ρ' w' a' hsz ha' hE h1 h2 h3 h4 hf _
      have hall' : ∀ i o, l[i]? = some o → D.getD i false = true := fun i o hi => by
        have hlt : i < D.size := by rw [hsz]; exact (List.getElem?_eq_some_iff.1 hi).1
        have h0 : D.toList.count false = 0 := by omega
        have := List.count_eq_zero.1 h0
        cases hb : D.getD i false with
        | true => rfl
        | false =>
          exfalso
          apply this
          rw [List.mem_iff_getElem?]
          exact ⟨i, by simp [Array.getD, hlt] at hb; simp [hlt, hb]⟩
      refine ⟨?_, rfl, ρ', ha', hfin ρ' w' hE (fun i o d hi hd => h1 i o d hi (hall' i o hi) hd) h3⟩
      refine List.eq_nil_iff_forall_not_mem.2 (fun i hi => ?_)
      rw [mem_ready] at hi
      obtain ⟨hi0, o, ho, _⟩ := hi
      have ho' : l[i]? = some o := by simpa using ho
      have hlt : i < D.size := by rw [hsz]; exact (List.getElem?_eq_some_iff.1 ho').1
      have := hall' i o ho'
      simp [Array.getD, hlt] at this hi0
      rw [this] at hi0; cases hi0
    | succ fuel ih =>
      intro D ρ' w' a' hsz ha' hE h1 h2 h3 h4 hf hlt
      refine ⟨fun hnil => ?_, fun j hj => ?_⟩
      · -- nothing is ready: all are done
        have hall' : ∀ i o, l[i]? = some o → D.getD i false = true := by
          intro i
          induction i using Nat.strongRecOn with
          | _ i ihi =>
            intro o hi
            cases hb : D.getD i false with
            | true => rfl
            | false =>
              exfalso
              have hil : i < D.size := by rw [hsz]; exact (List.getElem?_eq_some_iff.1 hi).1
              have : i ∈ Region.ready .any l.toArray D := by
                rw [mem_ready]
                refine ⟨by simp [Array.getD, hil] at hb ⊢; exact hb, o, by simpa using hi, fun e he hbi => ?_⟩
                have hed : e.on ∈ edges o := List.mem_filterMap.2 ⟨e, by simpa using he, by simp [hbi]⟩
                have hlt' := hlt i o hi _ hed
                obtain ⟨oe, hoe⟩ : ∃ oe, l[e.on]? = some oe := ⟨l[e.on]'(by have := (List.getElem?_eq_some_iff.1 hi).1; omega), by simp⟩
                exact ihi _ hlt' oe hoe
              rw [hnil] at this
              cases this
        exact ⟨rfl, ρ', ha', hfin ρ' w' hE (fun i o d hi hd => h1 i o d hi (hall' i o hi) hd) h3⟩
      · obtain ⟨hj0, o, ho, hedge⟩ := mem_ready.1 hj
        have ho' : l[j]? = some o := by simpa using ho
        have hjl : j < D.size := by rw [hsz]; exact (List.getElem?_eq_some_iff.1 ho').1
        have hjf : D.getD j false = false := by simp [Array.getD, hjl] at hj0 ⊢; exact hj0
        have hedges : ∀ e ∈ edges o, D.getD e false = true := fun e he => by
          obtain ⟨ed, hed, heq⟩ := List.mem_filterMap.1 he
          cases hb : Region.binds .any ed with
          | false => rw [hb] at heq; cases heq
          | true => rw [hb] at heq; cases heq; exact hedge ed (by simpa using hed) hb
        obtain ⟨m, ds, hsp, hone⟩ := okAll_at hok ho'
        rw [Nat.zero_add] at hone
        simp only [okOne, Bool.and_eq_true] at hone
        obtain ⟨⟨⟨hg, _⟩, hds1⟩, hm2⟩ := hone
        have hdep : ∀ p ∈ ds, S p.1 (ρ' p.2) w' := fun p hp => by
          have := List.all_eq_true.1 hds1 p hp
          simp only [Bool.and_eq_true, beq_iff_eq] at this
          obtain ⟨he, hdst⟩ := this
          cases hoi : l[p.1]? with
          | none => rw [hoi] at hdst; cases hdst
          | some oi =>
            rw [hoi] at hdst
            exact h1 p.1 oi p.2 hoi (hedges _ (by simpa using he)) hdst
        have hstp := forDeps_at (ρ := ρ') (specAll_at hall ho' hsp w' hE) hdep ρ'
        -- the frame of the spec is the frame at hand
        have hF : updL (ds.map fun p => (p.2, ρ' p.2)) (mrg m ρ ρ') = ρ' := by
          have hmr : mrg m ρ ρ' = ρ' := by
            funext t
            show cond (inW m t) (ρ' t) (ρ t) = ρ' t
            cases hi : inW m t with
            | true => rfl
            | false =>
              show ρ t = ρ' t
              by_cases hw : ∃ o' ∈ l, o'.dst = some t
              · obtain ⟨o', ho'm, hd'⟩ := hw
                obtain ⟨i, hio⟩ := List.mem_iff_getElem?.1 ho'm
                have h5 := List.all_eq_true.1 hm2 (o', i) (List.mem_zipIdx_iff_getElem?.2 hio)
                simp only [hd', hi, Bool.or_eq_true, Bool.false_eq_true, false_or, beq_iff_eq, List.contains_eq_mem, decide_eq_true_eq] at h5
                have hif : D.getD i false = false := by
                  rcases h5 with h5 | h5
                  · cases hb : D.getD i false with
                    | false => rfl
                    | true => rw [h4 i o' hio hb j h5] at hjf; cases hjf
                  · subst h5; exact hjf
                exact (h2 i o' t hio hif hd').symm
              · exact (h3 t (fun o' ho'm e => hw ⟨o', ho'm, e⟩)).symm
          rw [hmr]
          have := updL_self ρ' (ds.map (·.2))
          rw [List.map_map] at this
          exact this
        rw [hF, Nat.zero_add] at hstp
        have hgn : o.guard = none := by simpa using hg
        unfold wpOp
        rw [show l.toArray[j]? = some o from ho]
        simp only
        rw [if_pos (by simp [Region.wanted, hgn])]
        refine .inl (Oper.wp_mono ?_ (hstp.out a' ha' _))
        rintro a'' w'' ⟨ρ'', hr'', hE'', v, rfl, hS⟩
        have hset : ∀ i, (D.setIfInBounds j true).getD i false = true ↔ (i = j ∨ D.getD i false = true) := fun i => by
          by_cases hij : i = j
          · subst hij; simp [Array.getD, hjl]
          · rw [getD_set_ne false (Ne.symm hij)]; simp [hij]
        have hput : ∀ (i : Nat) (oi : Oper) (d : Nat), l[i]? = some oi → oi.dst = some d → i ≠ j → updo ρ' o.dst v d = ρ' d := fun i oi d hi hd hij => by
          cases hod : o.dst with
          | none => rfl
          | some dj =>
            refine upd_ne _ _ (fun e => ?_)
            subst e
            exact hU i j oi o hi ho' hij (by rw [hd]; simp) (by rw [hd, hod])
        refine ih _ (updo ρ' o.dst v) w'' a'' (by simp [hsz]) hr'' (hE.then0 hE'') ?_ ?_ ?_ ?_ ?_ hlt
        · intro i oi d hi hdone hd
          by_cases hij : i = j
          · subst hij
            rw [ho'] at hi; cases hi
            rw [hd]
            show S i (upd ρ' d v d) w''
            rw [upd_same]; exact hS
          · rw [hput i oi d hi hd hij]
            exact hst _ _ _ _ (h1 i oi d hi (((hset i).1 hdone).resolve_left hij) hd) hE''
        · intro i oi d hi hnd hd
          have hij : i ≠ j := fun e => by subst e; rw [(hset i).2 (.inl rfl)] at hnd; cases hnd
          rw [hput i oi d hi hd hij]
          refine h2 i oi d hi ?_ hd
          cases hb : D.getD i false with
          | false => rfl
          | true => rw [(hset i).2 (.inr hb)] at hnd; cases hnd
        · intro t ht
          have : updo ρ' o.dst v t = ρ' t := by
            cases hod : o.dst with
            | none => rfl
            | some dj => exact upd_ne _ _ (fun e => ht o (List.mem_of_getElem? ho') (by rw [hod, e]))
          rw [this]; exact h3 t ht
        · intro i oi hi hdone e he
          refine (hset e).2 (.inr ?_)
          rcases (hset i).1 hdone with rfl | hb
          · rw [ho'] at hi; cases hi; exact hedges e he
          · exact h4 i oi hi hb e he
        · have hc : (D.setIfInBounds j true).toList.count false + 1 = D.toList.count false := by
            rw [Array.toList_setIfInBounds]
            have hj2 : D.toList[j]? = some false := by simp [Array.getD, hjl] at hjf; simp [hjl, hjf]
            exact count_set_true D.toList j hj2
          omega
  refine key l.length _ ρ _ a (by simp) ha (Ext.drew0) ?_ ?_ ?_ ?_ ?_ ?_
  · intro i o d hi hb hd
    have hil : i < l.length := (List.getElem?_eq_some_iff.1 hi).1
    simp [Array.getD, hil] at hb
  · intro i o d hi hb hd; rfl
  · intro t ht; rfl
  · intro i o hi hb
    have hil : i < l.length := (List.getElem?_eq_some_iff.1 hi).1
    simp [Array.getD, hil] at hb
  · exact Nat.le_trans List.count_le_length (by simp)
  · exact hlt0

/-! ### A region whose last operations wait for all ahead of them -/
def tailOk (l : List Oper) (n1 : Nat) : Bool := edgesDown l && l.zipIdx.all fun (o, i) => Nat.blt i n1 || (List.range i).all fun j => (edges o).contains j
theorem edges_mem {o : Oper} {i : Nat} (h : i ∈ edges o) : ∃ e ∈ o.after, Region.binds .any e = true ∧ e.on = i := by
  obtain ⟨e, he, heq⟩ := List.mem_filterMap.1 h
  cases hb : Region.binds .any e with
  | false => rw [hb] at heq; cases heq
  | true => rw [hb] at heq; cases heq; exact ⟨e, by simpa using he, hb, rfl⟩
theorem mem_edges {o : Oper} {e : Edge} (he : e ∈ o.after) (hb : Region.binds .any e = true) : e.on ∈ edges o :=
  List.mem_filterMap.2 ⟨e, by simpa using he, by simp [hb]⟩
theorem edgesDown_spec {l : List Oper} (h : edgesDown l = true) {i : Nat} {o : Oper} (hi : l[i]? = some o) {e : Nat} (he : e ∈ edges o) : e < i := by
  have h1 := List.all_eq_true.1 h (o, i) (List.mem_zipIdx_iff_getElem?.2 hi)
  have h2 := List.all_eq_true.1 h1 e he
  simpa [Nat.blt_eq] using h2
/-- The tail: one after the other. -/
theorem tail_seq {Q : Exit → Act → World → Prop} {l : List Oper} {n1 : Nat} (hok : tailOk l n1 = true) : ∀ (m j : Nat) (D : Array Bool) (a : Act) (w : World), j + m = l.length → n1 ≤ j → D.size = l.length → (∀ i, i < l.length → D.getD i false = decide (i < j)) →
    wpOps P l.toArray Q (List.range' j m) a w → wpAny P .any l.toArray Q m D a w := by
  simp only [tailOk, Bool.and_eq_true] at hok
  intro m
  induction m with
  | zero =>
    intro j D a w hjm hj hsz hD h
    refine ⟨List.eq_nil_iff_forall_not_mem.2 (fun i hi => ?_), h⟩
    obtain ⟨h0, o, ho, _⟩ := mem_ready.1 hi
    have hil : i < l.length := (List.getElem?_eq_some_iff.1 (show l[i]? = some o by simpa using ho)).1
    have := hD i hil
    rw [decide_eq_true (by omega)] at this
    have hid : i < D.size := by omega
    simp [Array.getD, hid] at this h0
    rw [this] at h0; cases h0
  | succ m ih =>
    intro j D a w hjm hj hsz hD h
    have hready : ∀ i, i ∈ Region.ready .any l.toArray D ↔ i = j := fun i => by
      rw [mem_ready]
      constructor
      · rintro ⟨h0, o, ho, hall⟩
        have hlo : l[i]? = some o := by simpa using ho
        have hil : i < l.length := (List.getElem?_eq_some_iff.1 hlo).1
        have hid : i < D.size := by omega
        have h1 := hD i hil
        have h2 : ¬ i < j := fun hlt => by
          rw [decide_eq_true hlt] at h1
          simp [Array.getD, hid] at h1 h0
          rw [h1] at h0; cases h0
        by_cases hij : i = j
        · exact hij
        · exfalso
          have h3 := List.all_eq_true.1 hok.2 (o, i) (List.mem_zipIdx_iff_getElem?.2 hlo)
          simp only [Bool.or_eq_true, Nat.blt_eq] at h3
          rcases h3 with h3 | h3
          · omega
          · have h4 := List.all_eq_true.1 h3 j (List.mem_range.2 (by omega))
            obtain ⟨e, he, hb, hej⟩ := edges_mem (by simpa using h4)
            have h5 := hall e (by simpa using he) hb
            rw [hej, hD j (by omega)] at h5
            simp at h5
      · rintro rfl
        have hil : i < l.length := by omega
        refine ⟨?_, l[i], by simp [hil], fun e he hb => ?_⟩
        · have h1 := hD i hil
          have hid : i < D.size := by omega
          simp [Array.getD, hid] at h1 ⊢
          exact h1
        · have hlt := edgesDown_spec hok.1 (show l[i]? = some l[i] by simp) (mem_edges he hb)
          rw [hD e.on (by omega)]
          exact decide_eq_true hlt
    refine ⟨fun hnil => ?_, fun i hi => ?_⟩
    · have := (hready j).2 rfl
      rw [hnil] at this; cases this
    · obtain rfl := (hready i).1 hi
      rw [List.range'_succ, wpOps_cons] at h
      refine wpOp_mono (fun a' w' h' => ih (i + 1) _ a' w' (by omega) (by omega) (by simp [hsz]) (fun x hx => ?_) h') h
      by_cases hxi : x = i
      · subst hxi
        have : x < D.size := by omega
        simp [Array.getD, this]
      · rw [getD_set_ne false (Ne.symm hxi), hD x hx]
        congr 1
        exact propext ⟨fun h => by omega, fun h => by omega⟩
theorem wpOp_take {Q Q1 : Exit → Act → World → Prop} {l : List Oper} {n1 i : Nat} (hi : i < n1) (hQ : ∀ e a w, e ≠ .normal → Q1 e a w → Q e a w) {X : Act → World → Prop} {a : Act} {w : World} (hgd : (l.take n1).all (fun o => match o.guard with | some (g, _) => Nat.blt g n1 | none => true) = true)
    (h : wpOp P (l.take n1).toArray Q1 i X a w) : wpOp P l.toArray Q i X a w := by
  unfold wpOp at *
  have e1 : (l.take n1).toArray[i]? = l.toArray[i]? := by simp [hi]
  rw [e1] at h
  cases ho : l.toArray[i]? with
  | none => rw [ho] at h; exact h
  | some o =>
    rw [ho] at h
    simp only at h ⊢
    have hy : Region.wanted o (yielded (l.take n1).toArray a.tmps) = Region.wanted o (yielded l.toArray a.tmps) := by
      unfold Region.wanted
      cases hg : o.guard with
      | none => rfl
      | some gw =>
        obtain ⟨g, want⟩ := gw
        have hm : o ∈ l.take n1 := List.mem_iff_getElem?.2 ⟨i, by rw [List.getElem?_take, if_pos hi]; simpa using ho⟩
        have hgl := List.all_eq_true.1 hgd o hm
        simp only [hg, Nat.blt_eq] at hgl
        have : yielded (l.take n1).toArray a.tmps g = yielded l.toArray a.tmps g := by
          unfold yielded
          have e2 : (l.take n1).toArray[g]? = l.toArray[g]? := by simp [hgl]
          rw [e2]
        simp only [this]
    rw [hy] at h
    split
    · rename_i hw
      rw [if_pos hw] at h
      rcases h with h | ⟨h1, ⟨a0, w0, h2⟩⟩
      · refine .inl ?_
        unfold Oper.wp at *
        generalize (execOp a.eval o).run P w = r at *
        cases r with
        | ok n w' =>
          cases n <;> simp only [Oper.upon] at h ⊢ <;> first | exact h | skip
          · refine h.mono (fun e w'' he => ?_)
            cases e with
            | returned v => exact he
            | panicked c => exact hQ _ _ _ (by simp) he
            | outgrown => obtain ⟨a0, w0, h2⟩ := he; exact ⟨a0, w0, hQ _ _ _ (by simp) h2⟩
        | halt x w' => cases x <;> simp only [Oper.upon] at h ⊢ <;> exact hQ _ _ _ (by simp) h
      · exact .inr ⟨h1, ⟨a0, w0, hQ _ _ _ (by simp) h2⟩⟩
    · rename_i hw
      rw [if_neg hw] at h
      exact h
theorem head_any {Q Q1 : Exit → Act → World → Prop} {l : List Oper} {n1 : Nat} (hn1 : n1 ≤ l.length) (hok : tailOk l n1 = true) (hQ : ∀ e a w, e ≠ .normal → Q1 e a w → Q e a w) (hgd : (l.take n1).all (fun o => match o.guard with | some (g, _) => Nat.blt g n1 | none => true) = true)
    (htail : ∀ a w, Q1 .normal a w → wpOps P l.toArray Q (List.range' n1 (l.length - n1)) a w) :
    ∀ (fuel : Nat) (D D' : Array Bool) (a : Act) (w : World), D.size = n1 → D'.size = l.length → (∀ i, i < n1 → D'.getD i false = D.getD i false) → (∀ i, n1 ≤ i → i < l.length → D'.getD i false = false) → D.toList.count false = fuel →
      wpAny P .any (l.take n1).toArray Q1 fuel D a w → wpAny P .any l.toArray Q (fuel + (l.length - n1)) D' a w := by
  have hok' := hok
  simp only [tailOk, Bool.and_eq_true] at hok'
  have hget : ∀ i, i < n1 → (l.take n1)[i]? = l[i]? := fun i hi => by rw [List.getElem?_take, if_pos hi]
  intro fuel
  induction fuel with
  | zero =>
    intro D D' a w hD hD' h1 h2 hc h
    rw [Nat.zero_add]
    have hall : ∀ i, i < n1 → D.getD i false = true := fun i hi => by
      have hid : i < D.size := by omega
      cases hb : D.getD i false with
      | true => rfl
      | false =>
        exfalso
        have := List.count_eq_zero.1 hc
        apply this
        rw [List.mem_iff_getElem?]
        exact ⟨i, by simp [Array.getD, hid] at hb; simp [hid, hb]⟩
    refine tail_seq hok _ n1 D' a w (by omega) (Nat.le_refl _) hD' (fun i hi => ?_) (htail a w h.2)
    by_cases hin : i < n1
    · rw [h1 i hin, hall i hin, decide_eq_true hin]
    · rw [h2 i (by omega) hi, decide_eq_false hin]
  | succ fuel ih =>
    intro D D' a w hD hD' h1 h2 hc h
    have hne : ∃ i, i < n1 ∧ D.getD i false = false := by
      have : 0 < D.toList.count false := by omega
      have hm := List.count_pos_iff.1 this
      obtain ⟨i, hi⟩ := List.mem_iff_getElem?.1 hm
      have hid : i < D.size := by simpa using (List.getElem?_eq_some_iff.1 hi).1
      exact ⟨i, by omega, by simp [Array.getD, hid]; simpa [hid] using hi⟩
    have hready : ∀ i, i ∈ Region.ready .any l.toArray D' ↔ i ∈ Region.ready .any (l.take n1).toArray D := fun i => by
      rw [mem_ready, mem_ready]
      constructor
      · rintro ⟨h0, o, ho, hall⟩
        have hlo : l[i]? = some o := by simpa using ho
        have hil : i < l.length := (List.getElem?_eq_some_iff.1 hlo).1
        have hin : i < n1 := by
          rcases Nat.lt_or_ge i n1 with h | h
          · exact h
          · exfalso
            obtain ⟨x, hx, hxf⟩ := hne
            have h3 := List.all_eq_true.1 hok'.2 (o, i) (List.mem_zipIdx_iff_getElem?.2 hlo)
            simp only [Bool.or_eq_true, Nat.blt_eq] at h3
            rcases h3 with h3 | h3
            · omega
            · have h4 := List.all_eq_true.1 h3 x (List.mem_range.2 (by omega))
              obtain ⟨e, he, hb, hex⟩ := edges_mem (by simpa using h4)
              have h5 := hall e he hb
              rw [hex, h1 x hx, hxf] at h5; cases h5
        have hid : i < D.size := by omega
        have hid' : i < D'.size := by omega
        refine ⟨?_, o, by simpa [hget i hin] using hlo, fun e he hb => ?_⟩
        · have := h1 i hin
          simp [Array.getD, hid, hid'] at this h0 ⊢
          rw [← this]; exact h0
        · have hlt := edgesDown_spec hok'.1 hlo (mem_edges he hb)
          rw [← h1 e.on (by omega)]
          exact hall e he hb
      · rintro ⟨h0, o, ho, hall⟩
        have hlo' : (l.take n1)[i]? = some o := by simpa using ho
        have hin : i < n1 := by have := (List.getElem?_eq_some_iff.1 hlo').1; simp at this; omega
        have hlo : l[i]? = some o := by rw [← hget i hin]; exact hlo'
        have hid : i < D.size := by omega
        have hid' : i < D'.size := by omega
        refine ⟨?_, o, by simpa using hlo, fun e he hb => ?_⟩
        · have := h1 i hin
          simp [Array.getD, hid, hid'] at this h0 ⊢
          rw [this]; exact h0
        · have hlt := edgesDown_spec hok'.1 hlo (mem_edges he hb)
          rw [h1 e.on (by omega)]
          exact hall e he hb
    have hsome : Region.ready .any (l.take n1).toArray D ≠ [] := fun hnil => by
      -- the first that is not done is ready
      obtain ⟨x, hx, hxf⟩ := hne
      have : ∀ x, x < n1 → D.getD x false = true := by
        intro x
        induction x using Nat.strongRecOn with
        | _ x ihx =>
          intro hx
          cases hb : D.getD x false with
          | true => rfl
          | false =>
            exfalso
            have hxd : x < D.size := by omega
            have hxl : x < l.length := by omega
            have hm : x ∈ Region.ready .any (l.take n1).toArray D := by
              rw [mem_ready]
              refine ⟨by simp [Array.getD, hxd] at hb ⊢; exact hb, l[x], by simp [hx, hxl], fun e he hbi => ?_⟩
              have hlt := edgesDown_spec hok'.1 (show l[x]? = some l[x] by simp) (mem_edges he hbi)
              exact ihx _ hlt (by omega)
            rw [hnil] at hm; cases hm
      rw [this x hx] at hxf; cases hxf
    rw [Nat.add_right_comm]
    refine ⟨fun hnil => ?_, fun i hi => ?_⟩
    · exfalso
      apply hsome
      refine List.eq_nil_iff_forall_not_mem.2 (fun i hi => ?_)
      have := (hready i).2 hi
      rw [hnil] at this; cases this
    · have hi1 := (hready i).1 hi
      have h3 := h.2 i hi1
      obtain ⟨h0, o, ho, _⟩ := mem_ready.1 hi1
      have hin : i < n1 := by have := (List.getElem?_eq_some_iff.1 (show (l.take n1)[i]? = some o by simpa using ho)).1; simp at this; omega
      refine wpOp_mono (fun a' w' h' => ih (D.setIfInBounds i true) (D'.setIfInBounds i true) a' w' (by simp [hD]) (by simp [hD']) ?_ ?_ ?_ h') (wpOp_take hin hQ hgd h3)
      · intro x hx
        by_cases hxi : x = i
        · subst hxi
          have h6 : x < D.size := by omega
          have h7 : x < D'.size := by omega
          simp [Array.getD, h6, h7]
        · rw [getD_set_ne false (Ne.symm hxi), getD_set_ne false (Ne.symm hxi)]; exact h1 x hx
      · intro x hx hxl
        rw [getD_set_ne false (by omega)]; exact h2 x hx hxl
      · have hid : i < D.size := by omega
        have : (D.setIfInBounds i true).toList.count false + 1 = D.toList.count false := by
          rw [Array.toList_setIfInBounds]
          exact count_set_true D.toList i (by simp [Array.getD, hid] at h0; simp [hid, h0])
        omega
/-- A region whose order is open, its last operations one after the other behind all others. -/
theorem WS_tail {id : Nat} {l : List Oper} (hm : P.follows .mixedOrders = true) (n1 : Nat) (hn : ((l.take n1).length = n1)) (hok : tailOk l n1 = true) (hgd : (l.take n1).all (fun o => match o.guard with | some (g, _) => Nat.blt g n1 | none => true) = true)
    (h : ∀ w1, Ext [] w w1 → WA P N (WL P N (WS P N f R k) l.toArray (l.drop n1)) (l.take n1).toArray (fun w' => Ext [] w w') n1 n1 [] ρ w1) :
    WS P N f R (.code (.region id l.toArray true) :: k) ρ w := by
  have hn1 : n1 ≤ l.length := by simp at hn; omega
  refine WS_wp fun a ha => wp_region_any hm ?_
  have h1 := wpAny_of_held _ _ _ _ ((h _ Ext.drew0).out a ha)
  have h2 := head_any (Q := QN N (WS P N f R k)) hn1 hok (fun e a w hne hq => absurd hq.1 hne) hgd (fun a w hq => by
    obtain ⟨_, ρ', hr, hw⟩ := hq
    have h3 := hw.out a hr
    have h4 := wpOps_eq_wpList (P := P) (ops := l.toArray) (Q := QN N (WS P N f R k)) (l.drop n1) n1 (fun j => by simp)
    rw [List.length_drop] at h4
    rw [h4]; exact h3) n1 (lst n1 []) (Array.replicate l.length false) a _ (by simp [lst]) (by simp) (fun i hi => by simp [lst, Array.getD, hi, Nat.lt_of_lt_of_le hi hn1]) (fun i hi hil => by simp [Array.getD, hil]) (by simp [lst]) h1
  rw [show n1 + (l.length - n1) = l.toArray.size by simp; omega] at h2
  simpa using h2
end
end Go.K
