/- The rule for regions whose order Go leaves open, with operations that are carried out under a test: over any program; no condition. -/
import Derived.Test.YtccnhnijglnbmaaK12
namespace Go.K
open Go Go.RowKit

def okOneG (ops : List Oper) (j : Nat) (o : Oper) (m : Nat) (ds : List (Nat × Nat)) (tk : Bool) : Bool :=
  (match o.guard with | none => tk | some (g, _) => (edges o).contains g && (gdst ops.toArray g).isSome) && (match o.op with | .select .. => false | _ => true) &&
  ds.all (fun p => (edges o).contains p.1 && ((ops[p.1]?).bind (·.dst) == some p.2)) &&
  ops.zipIdx.all (fun (oi, i) => match oi.dst with | none => true | some d => inW m d || (edges oi).contains j || (i == j))
def okAllG (ops : List Oper) : Nat → List Oper → List (Nat × List (Nat × Nat) × Bool) → Bool
  | _, [], [] => true
  | j, o :: l, (m, ds, tk) :: r => okOneG ops j o m ds tk && okAllG ops (j + 1) l r
  | _, _, _ => false
/-- The test of an operation, as it turns out. -/
def GOk (R : Nat → Value → World → Prop) (o : Oper) (tk : Bool) : Prop := ∀ g want, o.guard = some (g, want) → ∀ v w, R g v w → cond tk (v = .bool want) (v = .bool (!want) ∨ v = undef)
/-- What there is to show of one operation. -/
def SpecOne (P : Program) (N : Nat) (R : Nat → Value → World → Prop) (ρ0 : Fr) (w0 : World) (j : Nat) (o : Oper) (m : Nat) (ds : List (Nat × Nat)) : Bool → Prop
  | true => ∀ w, Ext [] w0 w → ForDeps R w ds (fun L => ∀ σ, Stp P N (updL L (mrg m ρ0 σ)) o w (fun ρ' w' => Ext [] w w' ∧ ∃ v, ρ' = updo (updL L (mrg m ρ0 σ)) o.dst v ∧ R j v w'))
  | false => ∀ w, R j undef w
def SpecAllG (P : Program) (N : Nat) (R : Nat → Value → World → Prop) (ρ0 : Fr) (w0 : World) : Nat → List Oper → List (Nat × List (Nat × Nat) × Bool) → Prop
  | j, o :: l, (m, ds, tk) :: r => (GOk R o tk ∧ SpecOne P N R ρ0 w0 j o m ds tk) ∧ SpecAllG P N R ρ0 w0 (j + 1) l r
  | _, _, _ => True
theorem GOk.none {R : Nat → Value → World → Prop} {dst : Option Nat} {op : Op} {ty : TypeId} {pos : String} {af : Array Edge} {tk : Bool} : GOk R ⟨dst, op, ty, pos, af, none⟩ tk := fun g want h => by cases h
theorem GOk.of {R : Nat → Value → World → Prop} {dst : Option Nat} {op : Op} {ty : TypeId} {pos : String} {af : Array Edge} {g : Nat} {want tk : Bool} (h : ∀ v w, R g v w → cond tk (v = .bool want) (v = .bool (!want) ∨ v = undef)) : GOk R ⟨dst, op, ty, pos, af, some (g, want)⟩ tk := fun g' want' h' => by cases h'; exact h
section
variable {P : Program} {N : Nat} {f : FuncId} {R : Value → World → Prop} {k : List Item} {ρ : Fr} {w : World}
theorem yielded_und {ops : Array Oper} {a : Act} (ha : Rep N a ρ) {j d : Nat} (hj : gdst ops j = some d) (hv : ρ d = undef) : yielded ops a.tmps j = none := by
  have h1 := ha.val d
  rw [hv] at h1
  unfold gdst at hj
  unfold yielded
  rw [hj]
  simp only [Option.bind_some]
  cases ht : a.tmps[d]? with
  | none => rfl
  | some v =>
    simp only [Array.getD_eq_getD_getElem?, ht, Option.getD_some] at h1
    subst h1
    rfl
/-- An operation whose test was not carried out itself. -/
theorem WL_gund {C : Fr → World → Prop} {ops : Array Oper} {l : List Oper} {dst : Option Nat} {op : Op} {ty : TypeId} {pos : String} {af : Array Edge} {j d : Nat} {want : Bool} (hj : gdst ops j = some d) (hv : ev ρ (.tmp d) = undef)
    (hd' : dstOk N dst = true) (h : WL P N C ops l (updo ρ dst undef) w) : WL P N C ops (⟨dst, op, ty, pos, af, some (j, want)⟩ :: l) ρ w := by
  refine ⟨fun a ha => ?_⟩
  unfold wpList
  rw [if_neg (by simp [Region.wanted, yielded_und ha hj hv])]
  exact h.out _ (ha.put hd' undef)
theorem okAllG_at {ops : List Oper} : ∀ {l : List Oper} {r : List (Nat × List (Nat × Nat) × Bool)} {j i : Nat} {o : Oper}, okAllG ops j l r = true → l[i]? = some o → ∃ m ds tk, r[i]? = some (m, ds, tk) ∧ okOneG ops (j + i) o m ds tk = true
  | [], _, _, _, _, _, h => by simp at h
  | o' :: l, [], j, i, o, h, _ => by simp [okAllG] at h
  | o' :: l, (m, ds, tk) :: r, j, i, o, h, hi => by
    simp only [okAllG, Bool.and_eq_true] at h
    cases i with
    | zero => simp at hi; subst hi; exact ⟨m, ds, tk, rfl, h.1⟩
    | succ i =>
      obtain ⟨m', ds', tk', h1, h2⟩ := okAllG_at h.2 (show l[i]? = some o by simpa using hi)
      exact ⟨m', ds', tk', by simpa using h1, by rw [show j + (i + 1) = j + 1 + i by omega]; exact h2⟩
theorem specAllG_at {S : Nat → Value → World → Prop} {ρ0 : Fr} {w0 : World} : ∀ {l : List Oper} {r : List (Nat × List (Nat × Nat) × Bool)} {j i : Nat} {o : Oper} {m : Nat} {ds : List (Nat × Nat)} {tk : Bool}, SpecAllG P N S ρ0 w0 j l r → l[i]? = some o → r[i]? = some (m, ds, tk) →
    GOk S o tk ∧ (tk = true → ∀ w, Ext [] w0 w → ForDeps S w ds (fun L => ∀ σ, Stp P N (updL L (mrg m ρ0 σ)) o w (fun ρ' w' => Ext [] w w' ∧ ∃ v, ρ' = updo (updL L (mrg m ρ0 σ)) o.dst v ∧ S (j + i) v w'))) ∧ (tk = false → ∀ w, S (j + i) undef w)
  | [], _, _, _, _, _, _, _, _, h, _ => by simp at h
  | _ :: _, [], _, _, _, _, _, _, _, _, h => by simp at h
  | o' :: l, (m', ds', tk') :: r, j, i, o, m, ds, tk, h, hi, hr => by
    cases i with
    | zero =>
      simp at hi hr; subst hi; obtain ⟨rfl, rfl, rfl⟩ := hr
      refine ⟨h.1.1, fun e => ?_, fun e => ?_⟩
      · subst e; exact h.1.2
      · subst e; exact h.1.2
    | succ i =>
      have := specAllG_at h.2 (show l[i]? = some o by simpa using hi) (show r[i]? = some (m, ds, tk) by simpa using hr)
      rw [show j + 1 + i = j + (i + 1) by omega] at this
      exact this
theorem WS_specGd {id : Nat} {l : List Oper} (hm : P.follows .mixedOrders = true) (sp : List (Nat × List (Nat × Nat) × Bool)) (hok : okAllG l 0 l sp = true) (hds : dstsOk N l = true) (hdn : edgesDown l = true) (S : Nat → Value → World → Prop)
    (hst : ∀ i v w w', S i v w → Ext [] w w' → S i v w') (hall : SpecAllG P N S ρ w 0 l sp)
    (hfin : ∀ ρ' w', Ext [] w w' → (∀ (i : Nat) (o : Oper) (d : Nat), l[i]? = some o → o.dst = some d → S i (ρ' d) w') → (∀ t, (∀ o ∈ l, o.dst ≠ some t) → ρ' t = ρ t) → WS P N f R k ρ' w') :
    WS P N f R (.code (.region id l.toArray true) :: k) ρ w := by
  refine WS_wp fun a ha => wp_region_any hm ?_
  have hU : ∀ (i j : Nat) (o o' : Oper), l[i]? = some o → l[j]? = some o' → i ≠ j → o.dst ≠ none → o.dst ≠ o'.dst := fun i j o o' h1 h2 hij hn => by
    simp only [dstsOk, Bool.and_eq_true] at hds
    have h3 := List.all_eq_true.1 hds.2 (o, i) (List.mem_zipIdx_iff_getElem?.2 h1)
    have h4 := List.all_eq_true.1 h3 (o', j) (List.mem_zipIdx_iff_getElem?.2 h2)
    simp only [Bool.or_eq_true, beq_iff_eq, bne_iff_ne, ne_eq, Option.isNone_iff_eq_none] at h4
    rcases h4 with (h4 | h4) | h4
    · exact absurd h4 hij
    · exact absurd h4 hn
    · exact h4
  have hlt0 : ∀ (i : Nat) (o : Oper), l[i]? = some o → ∀ e ∈ edges o, e < i := fun i o hi e he => by
    have h1 := List.all_eq_true.1 hdn (o, i) (List.mem_zipIdx_iff_getElem?.2 hi)
    have h2 := List.all_eq_true.1 h1 e he
    simpa [Nat.blt_eq] using h2
  have key : ∀ (fuel : Nat) (D : Array Bool) (ρ' : Fr) (w' : World) (a' : Act), D.size = l.length → Rep N a' ρ' → Ext [] w w' →
      (∀ (i : Nat) (o : Oper) (d : Nat), l[i]? = some o → D.getD i false = true → o.dst = some d → S i (ρ' d) w') →
      (∀ (i : Nat) (o : Oper) (d : Nat), l[i]? = some o → D.getD i false = false → o.dst = some d → ρ' d = ρ d) →
      (∀ t, (∀ o ∈ l, o.dst ≠ some t) → ρ' t = ρ t) →
      (∀ (i : Nat) (o : Oper), l[i]? = some o → D.getD i false = true → ∀ e ∈ edges o, D.getD e false = true) →
      (D.toList.count false ≤ fuel) → (∀ (i : Nat) (o : Oper), l[i]? = some o → ∀ e ∈ edges o, e < i) →
      wpAny P .any l.toArray (QN N (WS P N f R k)) fuel D a' w' := by
    intro fuel
    induction fuel with
    | zero =>
      intro D ρ' w' a' hsz ha' hE h1 h2 h3 h4 hf _
      have hall' : ∀ i o, l[i]? = some o → D.getD i false = true := fun i o hi => by
        have hlt : i < D.size := by rw [hsz]; exact (List.getElem?_eq_some_iff.1 hi).1
        have h0 : D.toList.count false = 0 := by omega
        have := List.count_eq_zero.1 h0
        cases hb : D.getD i false with
        | true => rfl
        | false =>
          exfalso
          apply this
          rw [List.mem_iff_getElem?]
          exact ⟨i, by simp [Array.getD, hlt] at hb; simp [hlt, hb]⟩
      refine ⟨?_, rfl, ρ', ha', hfin ρ' w' hE (fun i o d hi hd => h1 i o d hi (hall' i o hi) hd) h3⟩
      refine List.eq_nil_iff_forall_not_mem.2 (fun i hi => ?_)
      rw [mem_ready] at hi
      obtain ⟨hi0, o, ho, _⟩ := hi
      have ho' : l[i]? = some o := by simpa using ho
      have hlt : i < D.size := by rw [hsz]; exact (List.getElem?_eq_some_iff.1 ho').1
      have := hall' i o ho'
      simp [Array.getD, hlt] at this hi0
      rw [this] at hi0; cases hi0
    | succ fuel ih =>
      intro D ρ' w' a' hsz ha' hE h1 h2 h3 h4 hf hlt
      refine ⟨fun hnil => ?_, fun j hj => ?_⟩
      · -- nothing is ready: all are done
        have hall' : ∀ i o, l[i]? = some o → D.getD i false = true := by
          intro i
          induction i using Nat.strongRecOn with
          | _ i ihi =>
            intro o hi
            cases hb : D.getD i false with
            | true => rfl
            | false =>
              exfalso
              have hil : i < D.size := by rw [hsz]; exact (List.getElem?_eq_some_iff.1 hi).1
              have : i ∈ Region.ready .any l.toArray D := by
                rw [mem_ready]
                refine ⟨by simp [Array.getD, hil] at hb ⊢; exact hb, o, by simpa using hi, fun e he hbi => ?_⟩
                have hed : e.on ∈ edges o := List.mem_filterMap.2 ⟨e, by simpa using he, by simp [hbi]⟩
                have hlt' := hlt i o hi _ hed
                obtain ⟨oe, hoe⟩ : ∃ oe, l[e.on]? = some oe := ⟨l[e.on]'(by have := (List.getElem?_eq_some_iff.1 hi).1; omega), by simp⟩
                exact ihi _ hlt' oe hoe
              rw [hnil] at this
              cases this
        exact ⟨rfl, ρ', ha', hfin ρ' w' hE (fun i o d hi hd => h1 i o d hi (hall' i o hi) hd) h3⟩
      · obtain ⟨hj0, o, ho, hedge⟩ := mem_ready.1 hj
        have ho' : l[j]? = some o := by simpa using ho
        have hjl : j < D.size := by rw [hsz]; exact (List.getElem?_eq_some_iff.1 ho').1
        have hjf : D.getD j false = false := by simp [Array.getD, hjl] at hj0 ⊢; exact hj0
        have hedges : ∀ e ∈ edges o, D.getD e false = true := fun e he => by
          obtain ⟨ed, hed, heq⟩ := List.mem_filterMap.1 he
          cases hb : Region.binds .any ed with
          | false => rw [hb] at heq; cases heq
          | true => rw [hb] at heq; cases heq; exact hedge ed (by simpa using hed) hb
        obtain ⟨m, ds, tk, hsp, hone⟩ := okAllG_at hok ho'
        rw [Nat.zero_add] at hone
        simp only [okOneG, Bool.and_eq_true] at hone
        obtain ⟨⟨⟨hg, _⟩, hds1⟩, hm2⟩ := hone
        have hdep : ∀ p ∈ ds, S p.1 (ρ' p.2) w' := fun p hp => by
          have := List.all_eq_true.1 hds1 p hp
          simp only [Bool.and_eq_true, beq_iff_eq] at this
          obtain ⟨he, hdst⟩ := this
          cases hoi : l[p.1]? with
          | none => rw [hoi] at hdst; cases hdst
          | some oi =>
            rw [hoi] at hdst
            exact h1 p.1 oi p.2 hoi (hedges _ (by simpa using he)) hdst
        obtain ⟨hgk, hstp0, hun⟩ := specAllG_at hall ho' hsp
        -- the frame of the spec is the frame at hand
        have hF : updL (ds.map fun p => (p.2, ρ' p.2)) (mrg m ρ ρ') = ρ' := by
          have hmr : mrg m ρ ρ' = ρ' := by
            funext t
            show cond (inW m t) (ρ' t) (ρ t) = ρ' t
            cases hi : inW m t with
            | true => rfl
            | false =>
              show ρ t = ρ' t
              by_cases hw : ∃ o' ∈ l, o'.dst = some t
              · obtain ⟨o', ho'm, hd'⟩ := hw
                obtain ⟨i, hio⟩ := List.mem_iff_getElem?.1 ho'm
                have h5 := List.all_eq_true.1 hm2 (o', i) (List.mem_zipIdx_iff_getElem?.2 hio)
                simp only [hd', hi, Bool.or_eq_true, Bool.false_eq_true, false_or, beq_iff_eq, List.contains_eq_mem, decide_eq_true_eq] at h5
                have hif : D.getD i false = false := by
                  rcases h5 with h5 | h5
                  · cases hb : D.getD i false with
                    | false => rfl
                    | true => rw [h4 i o' hio hb j h5] at hjf; cases hjf
                  · subst h5; exact hjf
                exact (h2 i o' t hio hif hd').symm
              · exact (h3 t (fun o' ho'm e => hw ⟨o', ho'm, e⟩)).symm
          rw [hmr]
          have := updL_self ρ' (ds.map (·.2))
          rw [List.map_map] at this
          exact this
        have hset : ∀ i, (D.setIfInBounds j true).getD i false = true ↔ (i = j ∨ D.getD i false = true) := fun i => by
          by_cases hij : i = j
          · subst hij; simp [Array.getD, hjl]
          · rw [getD_set_ne false (Ne.symm hij)]; simp [hij]
        have hput : ∀ (v : Value) (i : Nat) (oi : Oper) (d : Nat), l[i]? = some oi → oi.dst = some d → i ≠ j → updo ρ' o.dst v d = ρ' d := fun v i oi d hi hd hij => by
          cases hod : o.dst with
          | none => rfl
          | some dj =>
            refine upd_ne _ _ (fun e => ?_)
            subst e
            exact hU i j oi o hi ho' hij (by rw [hd]; simp) (by rw [hd, hod])
        have next : ∀ v a'' w'', Rep N a'' (updo ρ' o.dst v) → Ext [] w' w'' → S j v w'' → wpAny P .any l.toArray (QN N (WS P N f R k)) fuel (D.setIfInBounds j true) a'' w'' := by
          intro v a'' w'' hr'' hE'' hS
          refine ih _ (updo ρ' o.dst v) w'' a'' (by simp [hsz]) hr'' (hE.then0 hE'') ?_ ?_ ?_ ?_ ?_ hlt
          · intro i oi d hi hdone hd
            by_cases hij : i = j
            · subst hij
              rw [ho'] at hi; cases hi
              rw [hd]
              show S i (upd ρ' d v d) w''
              rw [upd_same]; exact hS
            · rw [hput v i oi d hi hd hij]
              exact hst _ _ _ _ (h1 i oi d hi (((hset i).1 hdone).resolve_left hij) hd) hE''
          · intro i oi d hi hnd hd
            have hij : i ≠ j := fun e => by subst e; rw [(hset i).2 (.inl rfl)] at hnd; cases hnd
            rw [hput v i oi d hi hd hij]
            refine h2 i oi d hi ?_ hd
            cases hb : D.getD i false with
            | false => rfl
            | true => rw [(hset i).2 (.inr hb)] at hnd; cases hnd
          · intro t ht
            have : updo ρ' o.dst v t = ρ' t := by
              cases hod : o.dst with
              | none => rfl
              | some dj => exact upd_ne _ _ (fun e => ht o (List.mem_of_getElem? ho') (by rw [hod, e]))
            rw [this]; exact h3 t ht
          · intro i oi hi hdone e he
            refine (hset e).2 (.inr ?_)
            rcases (hset i).1 hdone with rfl | hb
            · rw [ho'] at hi; cases hi; exact hedges e he
            · exact h4 i oi hi hb e he
          · have hc : (D.setIfInBounds j true).toList.count false + 1 = D.toList.count false := by
              rw [Array.toList_setIfInBounds]
              have hj2 : D.toList[j]? = some false := by simp [Array.getD, hjl] at hjf; simp [hjl, hjf]
              exact count_set_true D.toList j hj2
            omega
        unfold wpOp
        rw [show l.toArray[j]? = some o from ho]
        simp only
        have hdo : dstOk N o.dst = true := by
          simp only [dstsOk, Bool.and_eq_true] at hds
          exact List.all_eq_true.1 hds.1 o (List.mem_of_getElem? ho')
        have hgv : ∀ g want, o.guard = some (g, want) → ∃ d, gdst l.toArray g = some d ∧ Nat.blt d N = true ∧ S g (ρ' d) w' := fun g want hgw => by
          rw [hgw] at hg
          simp only [Bool.and_eq_true] at hg
          obtain ⟨he, hd⟩ := hg
          unfold gdst at hd ⊢
          have he' : g ∈ edges o := by simpa using he
          cases hog : l[g]? with
          | none => simp [hog] at hd
          | some og =>
            cases hdg : og.dst with
            | none => simp [hog, hdg] at hd
            | some d =>
              refine ⟨d, by simp [hog, hdg], ?_, h1 g og d hog (hedges g he') hdg⟩
              simp only [dstsOk, Bool.and_eq_true] at hds
              have := List.all_eq_true.1 hds.1 og (List.mem_of_getElem? hog)
              simpa [hdg, dstOk] using this
        cases htk : tk with
        | true =>
          subst htk
          have hstp := forDeps_at (ρ := ρ') (hstp0 rfl w' hE) hdep ρ'
          rw [hF, Nat.zero_add] at hstp
          have hw : Region.wanted o (yielded l.toArray a'.tmps) = true := by
            cases hgw : o.guard with
            | none => simp [Region.wanted, hgw]
            | some gw =>
              obtain ⟨g, want⟩ := gw
              obtain ⟨d, hd1, hd2, hd3⟩ := hgv g want hgw
              have hv : ρ' d = .bool want := hgk g want hgw _ _ hd3
              have hy := yielded_rep (ops := l.toArray) ha' hd1 hd2 (b := want) (by simpa [ev] using hv)
              simp [Region.wanted, hgw, hy]
          rw [if_pos hw]
          refine .inl (Oper.wp_mono ?_ (hstp.out a' ha' _))
          rintro a'' w'' ⟨ρ'', hr'', hE'', v, rfl, hS⟩
          exact next v a'' w'' hr'' hE'' hS
        | false =>
          subst htk
          have hw : ¬ Region.wanted o (yielded l.toArray a'.tmps) = true := by
            cases hgw : o.guard with
            | none => rw [hgw] at hg; simp at hg
            | some gw =>
              obtain ⟨g, want⟩ := gw
              obtain ⟨d, hd1, hd2, hd3⟩ := hgv g want hgw
              have hv : ρ' d = .bool (!want) ∨ ρ' d = undef := hgk g want hgw _ _ hd3
              rcases hv with hv | hv
              · have hy := yielded_rep (ops := l.toArray) ha' hd1 hd2 (b := !want) (by simpa [ev] using hv)
                simp [Region.wanted, hgw, hy]
              · have hy := yielded_und (ops := l.toArray) ha' hd1 hv
                simp [Region.wanted, hgw, hy]
          rw [if_neg hw]
          have hun' := hun rfl w'
          rw [Nat.zero_add] at hun'
          exact next undef (a'.put o.dst undef) w' (ha'.put hdo undef) .refl hun'
  refine key l.length _ ρ _ a (by simp) ha (Ext.drew0) ?_ ?_ ?_ ?_ ?_ ?_
  · intro i o d hi hb hd
    have hil : i < l.length := (List.getElem?_eq_some_iff.1 hi).1
    simp [Array.getD, hil] at hb
  · intro i o d hi hb hd; rfl
  · intro t ht; rfl
  · intro i o hi hb
    have hil : i < l.length := (List.getElem?_eq_some_iff.1 hi).1
    simp [Array.getD, hil] at hb
  · exact Nat.le_trans List.count_le_length (by simp)
  · exact hlt0

theorem WS_specGL {id : Nat} {l : List Oper} (Ls : List (Value → World → Prop)) (hm : P.follows .mixedOrders = true) (sp : List (Nat × List (Nat × Nat) × Bool)) (hok : okAllG l 0 l sp = true) (hds : dstsOk N l = true) (hdn : edgesDown l = true)
    (hst : StL Ls) (hall : SpecAllG P N (nthS Ls) ρ w 0 l sp)
    (hfin : ∀ ρ' w', Ext [] w w' → (∀ (i : Nat) (o : Oper) (d : Nat), l[i]? = some o → o.dst = some d → nthS Ls i (ρ' d) w') → (∀ t, (∀ o ∈ l, o.dst ≠ some t) → ρ' t = ρ t) → WS P N f R k ρ' w') :
    WS P N f R (.code (.region id l.toArray true) :: k) ρ w :=
  WS_specGd hm sp hok hds hdn (nthS Ls) (fun _ _ _ _ h hE => StL.nth _ _ hst _ _ _ h hE) hall hfin
def wroteIn (W : Nat) (l : List Oper) : Bool := l.all fun o => match o.dst with | none => true | some d => inW W d
def keptOk (l : List Oper) (kp : List (Nat × Nat)) : Bool := kp.all fun p => ((l[p.1]?).bind (·.dst)) == some p.2
/-- The same; of the slots that the region writes only some are kept. -/
theorem WS_specK {id : Nat} {l : List Oper} (Ls : List (Value → World → Prop)) (hm : P.follows .mixedOrders = true) (sp : List (Nat × List (Nat × Nat) × Bool)) (W : Nat) (kp : List (Nat × Nat)) (hok : okAllG l 0 l sp = true) (hds : dstsOk N l = true) (hdn : edgesDown l = true)
    (hW : wroteIn W l = true) (hkp : keptOk l kp = true) (hst : StL Ls) (hall : SpecAllG P N (nthS Ls) ρ w 0 l sp)
    (hfin : ∀ w', Ext [] w w' → ForDeps (nthS Ls) w' kp (fun L => ∀ σ, WS P N f R k (updL L (mrg W ρ σ)) w')) :
    WS P N f R (.code (.region id l.toArray true) :: k) ρ w := by
  refine WS_specGL Ls hm sp hok hds hdn hst hall (fun ρ' w' hE hs hr => ?_)
  have hdep : ∀ p ∈ kp, nthS Ls p.1 (ρ' p.2) w' := fun p hp => by
    have := List.all_eq_true.1 hkp p hp
    simp only [beq_iff_eq] at this
    cases ho : l[p.1]? with
    | none => simp [ho] at this
    | some o => rw [ho] at this; exact hs p.1 o p.2 ho this
  have h := forDeps_at (ρ := ρ') (hfin w' hE) hdep ρ'
  have hmr : mrg W ρ ρ' = ρ' := by
    funext t
    show cond (inW W t) (ρ' t) (ρ t) = ρ' t
    cases hi : inW W t with
    | true => rfl
    | false =>
      refine (hr t (fun o ho e => ?_)).symm
      have := List.all_eq_true.1 hW o ho
      rw [e] at this
      simp only [hi] at this
      cases this
  rw [hmr] at h
  have hself := updL_self ρ' (kp.map (·.2))
  rw [List.map_map] at hself
  rw [show (kp.map fun p => (p.2, ρ' p.2)) = List.map ((fun d => (d, ρ' d)) ∘ fun x => x.2) kp from rfl, hself] at h
  exact h
theorem Run.is {o : Oper} {v v' : Value} {w w' : World} (h : Run P ρ o w v w') (e : v = v') : Run P ρ o w v' w' := e ▸ h
theorem bF {p : Prop} [Decidable p] (h : ¬p) : Value.bool (decide p) = .bool false := congrArg Value.bool (decide_eq_false h)
theorem bT {p : Prop} [Decidable p] (h : p) : Value.bool (decide p) = .bool true := congrArg Value.bool (decide_eq_true h)
/-- A slice of bytes that is read. -/
def IsSl (l : List Nat) : Value → World → Prop := fun v w => ∃ a c, v = .slice a l.length c ∧ SlA w a (l.map B)
theorem IsSl.st {l : List Nat} : Stable (IsSl l) := fun _ _ _ ⟨a, c, h, hS⟩ hE => ⟨a, c, h, hS.ext0 hE⟩
end
end Go.K
