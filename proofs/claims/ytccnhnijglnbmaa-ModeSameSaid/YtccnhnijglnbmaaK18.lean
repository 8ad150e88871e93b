/- A region whose order Go leaves open, its last operations one after the other behind all others, the others by what holds of their values: over any program; no condition. -/
import Derived.Test.YtccnhnijglnbmaaK17
namespace Go.K
open Go Go.RowKit
section
variable {P : Program} {N : Nat} {f : FuncId} {R : Value → World → Prop} {k : List Item} {ρ : Fr} {w : World}
theorem any_spec {l : List Oper} {C : Fr → World → Prop} (sp : List (Nat × List (Nat × Nat) × Bool)) (hok : okAllG l 0 l sp = true) (hds : dstsOk N l = true) (hdn : edgesDown l = true) (S : Nat → Value → World → Prop)
    (hst : ∀ i v w w', S i v w → Ext [] w w' → S i v w') (hall : SpecAllG P N S ρ w 0 l sp)
    (hfin : ∀ ρ' w', Ext [] w w' → (∀ (i : Nat) (o : Oper) (d : Nat), l[i]? = some o → o.dst = some d → S i (ρ' d) w') → (∀ t, (∀ o ∈ l, o.dst ≠ some t) → ρ' t = ρ t) → C ρ' w') :
    ∀ a, Rep N a ρ → wpAny P .any l.toArray (QN N C) l.length (Array.replicate l.length false) a w.drew := by
  intro a ha
  have hU : ∀ (i j : Nat) (o o' : Oper), l[i]? = some o → l[j]? = some o' → i ≠ j → o.dst ≠ none → o.dst ≠ o'.dst := fun i j o o' h1 h2 hij hn => by
    simp only [dstsOk, Bool.and_eq_true] at hds
    have h3 := List.all_eq_true.1 hds.2 (o, i) (List.mem_zipIdx_iff_getElem?.2 h1)
    have h4 := List.all_eq_true.1 h3 (o', j) (List.mem_zipIdx_iff_getElem?.2 h2)
    simp only [Bool.or_eq_true, beq_iff_eq, bne_iff_ne, ne_eq, Option.isNone_iff_eq_none] at h4
    rcases h4 with (h4 | h4) | h4
    · exact absurd h4 hij
    · exact absurd h4 hn
    · exact h4
  have hlt0 : ∀ (i : Nat) (o : Oper), l[i]? = some o → ∀ e ∈ edges o, e < i := fun i o hi e he => by
    have h1 := List.all_eq_true.1 hdn (o, i) (List.mem_zipIdx_iff_getElem?.2 hi)
    have h2 := List.all_eq_true.1 h1 e he
    simpa [Nat.blt_eq] using h2
  have key : ∀ (fuel : Nat) (D : Array Bool) (ρ' : Fr) (w' : World) (a' : Act), D.size = l.length → Rep N a' ρ' → Ext [] w w' →
      (∀ (i : Nat) (o : Oper) (d : Nat), l[i]? = some o → D.getD i false = true → o.dst = some d → S i (ρ' d) w') →
      (∀ (i : Nat) (o : Oper) (d : Nat), l[i]? = some o → D.getD i false = false → o.dst = some d → ρ' d = ρ d) →
      (∀ t, (∀ o ∈ l, o.dst ≠ some t) → ρ' t = ρ t) →
      (∀ (i : Nat) (o : Oper), l[i]? = some o → D.getD i false = true → ∀ e ∈ edges o, D.getD e false = true) →
      (D.toList.count false ≤ fuel) → (∀ (i : Nat) (o : Oper), l[i]? = some o → ∀ e ∈ edges o, e < i) →
      wpAny P .any l.toArray (QN N C) fuel D a' w' := by
    intro fuel
    induction fuel with
    | zero =>
      intro D ρ' w' a' hsz ha' hE h1 h2 h3 h4 hf _
      have hall' : ∀ i o, l[i]? = some o → D.getD i false = true := fun i o hi => by
        have hlt : i < D.size := by rw [hsz]; exact (List.getElem?_eq_some_iff.1 hi).1
        have h0 : D.toList.count false = 0 := by omega
        have := List.count_eq_zero.1 h0
        cases hb : D.getD i false with
        | true => rfl
        | false =>
          exfalso
          apply this
          rw [List.mem_iff_getElem?]
          exact ⟨i, by simp [Array.getD, hlt] at hb; simp [hlt, hb]⟩
      refine ⟨?_, rfl, ρ', ha', hfin ρ' w' hE (fun i o d hi hd => h1 i o d hi (hall' i o hi) hd) h3⟩
      refine List.eq_nil_iff_forall_not_mem.2 (fun i hi => ?_)
      rw [mem_ready] at hi
      obtain ⟨hi0, o, ho, _⟩ := hi
      have ho' : l[i]? = some o := by simpa using ho
      have hlt : i < D.size := by rw [hsz]; exact (List.getElem?_eq_some_iff.1 ho').1
      have := hall' i o ho'
      simp [Array.getD, hlt] at this hi0
      rw [this] at hi0; cases hi0
    | succ fuel ih =>
      intro D ρ' w' a' hsz ha' hE h1 h2 h3 h4 hf hlt
      refine ⟨fun hnil => ?_, fun j hj => ?_⟩
      · -- nothing is ready: all are done
        have hall' : ∀ i o, l[i]? = some o → D.getD i false = true := by
          intro i
          induction i using Nat.strongRecOn with
          | _ i ihi =>
            intro o hi
            cases hb : D.getD i false with
            | true => rfl
            | false =>
              exfalso
              have hil : i < D.size := by rw [hsz]; exact (List.getElem?_eq_some_iff.1 hi).1
              have : i ∈ Region.ready .any l.toArray D := by
                rw [mem_ready]
                refine ⟨by simp [Array.getD, hil] at hb ⊢; exact hb, o, by simpa using hi, fun e he hbi => ?_⟩
                have hed : e.on ∈ edges o := List.mem_filterMap.2 ⟨e, by simpa using he, by simp [hbi]⟩
                have hlt' := hlt i o hi _ hed
                obtain ⟨oe, hoe⟩ : ∃ oe, l[e.on]? = some oe := ⟨l[e.on]'(by have := (List.getElem?_eq_some_iff.1 hi).1; omega), by simp⟩
                exact ihi _ hlt' oe hoe
              rw [hnil] at this
              cases this
        exact ⟨rfl, ρ', ha', hfin ρ' w' hE (fun i o d hi hd => h1 i o d hi (hall' i o hi) hd) h3⟩
      · obtain ⟨hj0, o, ho, hedge⟩ := mem_ready.1 hj
        have ho' : l[j]? = some o := by simpa using ho
        have hjl : j < D.size := by rw [hsz]; exact (List.getElem?_eq_some_iff.1 ho').1
        have hjf : D.getD j false = false := by simp [Array.getD, hjl] at hj0 ⊢; exact hj0
        have hedges : ∀ e ∈ edges o, D.getD e false = true := fun e he => by
          obtain ⟨ed, hed, heq⟩ := List.mem_filterMap.1 he
          cases hb : Region.binds .any ed with
          | false => rw [hb] at heq; cases heq
          | true => rw [hb] at heq; cases heq; exact hedge ed (by simpa using hed) hb
        obtain ⟨m, ds, tk, hsp, hone⟩ := okAllG_at hok ho'
        rw [Nat.zero_add] at hone
        simp only [okOneG, Bool.and_eq_true] at hone
        obtain ⟨⟨⟨hg, _⟩, hds1⟩, hm2⟩ := hone
        have hdep : ∀ p ∈ ds, S p.1 (ρ' p.2) w' := fun p hp => by
          have := List.all_eq_true.1 hds1 p hp
          simp only [Bool.and_eq_true, beq_iff_eq] at this
          obtain ⟨he, hdst⟩ := this
          cases hoi : l[p.1]? with
          | none => rw [hoi] at hdst; cases hdst
          | some oi =>
            rw [hoi] at hdst
            exact h1 p.1 oi p.2 hoi (hedges _ (by simpa using he)) hdst
        obtain ⟨hgk, hstp0, hun⟩ := specAllG_at hall ho' hsp
        -- the frame of the spec is the frame at hand
        have hF : updL (ds.map fun p => (p.2, ρ' p.2)) (mrg m ρ ρ') = ρ' := by
          have hmr : mrg m ρ ρ' = ρ' := by
            funext t
            show cond (inW m t) (ρ' t) (ρ t) = ρ' t
            cases hi : inW m t with
            | true => rfl
            | false =>
              show ρ t = ρ' t
              by_cases hw : ∃ o' ∈ l, o'.dst = some t
              · obtain ⟨o', ho'm, hd'⟩ := hw
                obtain ⟨i, hio⟩ := List.mem_iff_getElem?.1 ho'm
                have h5 := List.all_eq_true.1 hm2 (o', i) (List.mem_zipIdx_iff_getElem?.2 hio)
                simp only [hd', hi, Bool.or_eq_true, Bool.false_eq_true, false_or, beq_iff_eq, List.contains_eq_mem, decide_eq_true_eq] at h5
                have hif : D.getD i false = false := by
                  rcases h5 with h5 | h5
                  · cases hb : D.getD i false with
                    | false => rfl
                    | true => rw [h4 i o' hio hb j h5] at hjf; cases hjf
                  · subst h5; exact hjf
                exact (h2 i o' t hio hif hd').symm
              · exact (h3 t (fun o' ho'm e => hw ⟨o', ho'm, e⟩)).symm
          rw [hmr]
          have := updL_self ρ' (ds.map (·.2))
          rw [List.map_map] at this
          exact this
        have hset : ∀ i, (D.setIfInBounds j true).getD i false = true ↔ (i = j ∨ D.getD i false = true) := fun i => by
          by_cases hij : i = j
          · subst hij; simp [Array.getD, hjl]
          · rw [getD_set_ne false (Ne.symm hij)]; simp [hij]
        have hput : ∀ (v : Value) (i : Nat) (oi : Oper) (d : Nat), l[i]? = some oi → oi.dst = some d → i ≠ j → updo ρ' o.dst v d = ρ' d := fun v i oi d hi hd hij => by
          cases hod : o.dst with
          | none => rfl
          | some dj =>
            refine upd_ne _ _ (fun e => ?_)
            subst e
            exact hU i j oi o hi ho' hij (by rw [hd]; simp) (by rw [hd, hod])
        have next : ∀ v a'' w'', Rep N a'' (updo ρ' o.dst v) → Ext [] w' w'' → S j v w'' → wpAny P .any l.toArray (QN N C) fuel (D.setIfInBounds j true) a'' w'' := by
          intro v a'' w'' hr'' hE'' hS
          refine ih _ (updo ρ' o.dst v) w'' a'' (by simp [hsz]) hr'' (hE.then0 hE'') ?_ ?_ ?_ ?_ ?_ hlt
          · intro i oi d hi hdone hd
            by_cases hij : i = j
            · subst hij
              rw [ho'] at hi; cases hi
              rw [hd]
              show S i (upd ρ' d v d) w''
              rw [upd_same]; exact hS
            · rw [hput v i oi d hi hd hij]
              exact hst _ _ _ _ (h1 i oi d hi (((hset i).1 hdone).resolve_left hij) hd) hE''
          · intro i oi d hi hnd hd
            have hij : i ≠ j := fun e => by subst e; rw [(hset i).2 (.inl rfl)] at hnd; cases hnd
            rw [hput v i oi d hi hd hij]
            refine h2 i oi d hi ?_ hd
            cases hb : D.getD i false with
            | false => rfl
            | true => rw [(hset i).2 (.inr hb)] at hnd; cases hnd
          · intro t ht
            have : updo ρ' o.dst v t = ρ' t := by
              cases hod : o.dst with
              | none => rfl
              | some dj => exact upd_ne _ _ (fun e => ht o (List.mem_of_getElem? ho') (by rw [hod, e]))
            rw [this]; exact h3 t ht
          · intro i oi hi hdone e he
            refine (hset e).2 (.inr ?_)
            rcases (hset i).1 hdone with rfl | hb
            · rw [ho'] at hi; cases hi; exact hedges e he
            · exact h4 i oi hi hb e he
          · have hc : (D.setIfInBounds j true).toList.count false + 1 = D.toList.count false := by
              rw [Array.toList_setIfInBounds]
              have hj2 : D.toList[j]? = some false := by simp [Array.getD, hjl] at hjf; simp [hjl, hjf]
              exact count_set_true D.toList j hj2
            omega
        unfold wpOp
        rw [show l.toArray[j]? = some o from ho]
        simp only
        have hdo : dstOk N o.dst = true := by
          simp only [dstsOk, Bool.and_eq_true] at hds
          exact List.all_eq_true.1 hds.1 o (List.mem_of_getElem? ho')
        have hgv : ∀ g want, o.guard = some (g, want) → ∃ d, gdst l.toArray g = some d ∧ Nat.blt d N = true ∧ S g (ρ' d) w' := fun g want hgw => by
          rw [hgw] at hg
          simp only [Bool.and_eq_true] at hg
          obtain ⟨he, hd⟩ := hg
          unfold gdst at hd ⊢
          have he' : g ∈ edges o := by simpa using he
          cases hog : l[g]? with
          | none => simp [hog] at hd
          | some og =>
            cases hdg : og.dst with
            | none => simp [hog, hdg] at hd
            | some d =>
              refine ⟨d, by simp [hog, hdg], ?_, h1 g og d hog (hedges g he') hdg⟩
              simp only [dstsOk, Bool.and_eq_true] at hds
              have := List.all_eq_true.1 hds.1 og (List.mem_of_getElem? hog)
              simpa [hdg, dstOk] using this
        cases htk : tk with
        | true =>
          subst htk
          have hstp := forDeps_at (ρ := ρ') (hstp0 rfl w' hE) hdep ρ'
          rw [hF, Nat.zero_add] at hstp
          have hw : Region.wanted o (yielded l.toArray a'.tmps) = true := by
            cases hgw : o.guard with
            | none => simp [Region.wanted, hgw]
            | some gw =>
              obtain ⟨g, want⟩ := gw
              obtain ⟨d, hd1, hd2, hd3⟩ := hgv g want hgw
              have hv : ρ' d = .bool want := hgk g want hgw _ _ hd3
              have hy := yielded_rep (ops := l.toArray) ha' hd1 hd2 (b := want) (by simpa [ev] using hv)
              simp [Region.wanted, hgw, hy]
          rw [if_pos hw]
          refine .inl (Oper.wp_mono ?_ (hstp.out a' ha' _))
          rintro a'' w'' ⟨ρ'', hr'', hE'', v, rfl, hS⟩
          exact next v a'' w'' hr'' hE'' hS
        | false =>
          subst htk
          have hw : ¬ Region.wanted o (yielded l.toArray a'.tmps) = true := by
            cases hgw : o.guard with
            | none => rw [hgw] at hg; simp at hg
            | some gw =>
              obtain ⟨g, want⟩ := gw
              obtain ⟨d, hd1, hd2, hd3⟩ := hgv g want hgw
              have hv : ρ' d = .bool (!want) ∨ ρ' d = undef := hgk g want hgw _ _ hd3
              rcases hv with hv | hv
              · have hy := yielded_rep (ops := l.toArray) ha' hd1 hd2 (b := !want) (by simpa [ev] using hv)
                simp [Region.wanted, hgw, hy]
              · have hy := yielded_und (ops := l.toArray) ha' hd1 hv
                simp [Region.wanted, hgw, hy]
          rw [if_neg hw]
          have hun' := hun rfl w'
          rw [Nat.zero_add] at hun'
          exact next undef (a'.put o.dst undef) w' (ha'.put hdo undef) .refl hun'
  refine key l.length _ ρ _ a (by simp) ha (Ext.drew0) ?_ ?_ ?_ ?_ ?_ ?_
  · intro i o d hi hb hd
    have hil : i < l.length := (List.getElem?_eq_some_iff.1 hi).1
    simp [Array.getD, hil] at hb
  · intro i o d hi hb hd; rfl
  · intro t ht; rfl
  · intro i o hi hb
    have hil : i < l.length := (List.getElem?_eq_some_iff.1 hi).1
    simp [Array.getD, hil] at hb
  · exact Nat.le_trans List.count_le_length (by simp)
  · exact hlt0
/-- The first n1 operations by specs, the others in their order behind them. -/
theorem WS_specT {id : Nat} {l : List Oper} (n1 : Nat) (hn : (l.take n1).length = n1) (htl : tailOk l n1 = true) (hgd : (l.take n1).all (fun o => match o.guard with | some (g, _) => Nat.blt g n1 | none => true) = true)
    (Ls : List (Value → World → Prop)) (hm : P.follows .mixedOrders = true) (sp : List (Nat × List (Nat × Nat) × Bool)) (W : Nat) (kp : List (Nat × Nat)) (hok : okAllG (l.take n1) 0 (l.take n1) sp = true) (hds : dstsOk N (l.take n1) = true) (hdn : edgesDown (l.take n1) = true)
    (hW : wroteIn W (l.take n1) = true) (hkp : keptOk (l.take n1) kp = true) (hst : StL Ls) (hall : SpecAllG P N (nthS Ls) ρ w 0 (l.take n1) sp)
    (hfin : ∀ w', Ext [] w w' → ForDeps (nthS Ls) w' kp (fun L => ∀ σ, WL P N (WS P N f R k) l.toArray (l.drop n1) (updL L (mrg W ρ σ)) w')) :
    WS P N f R (.code (.region id l.toArray true) :: k) ρ w := by
  have hn1 : n1 ≤ l.length := by simp at hn; omega
  refine WS_wp fun a ha => wp_region_any hm ?_
  have h1 := any_spec (C := WL P N (WS P N f R k) l.toArray (l.drop n1)) sp hok hds hdn (nthS Ls) (fun _ _ _ _ h hE => StL.nth _ _ hst _ _ _ h hE) hall (fun ρ' w' hE hs hr => by
    have hdep : ∀ p ∈ kp, nthS Ls p.1 (ρ' p.2) w' := fun p hp => by
      have := List.all_eq_true.1 hkp p hp
      simp only [beq_iff_eq] at this
      cases ho : (l.take n1)[p.1]? with
      | none => simp [ho] at this
      | some o => rw [ho] at this; exact hs p.1 o p.2 ho this
    have h := forDeps_at (ρ := ρ') (hfin w' hE) hdep ρ'
    have hmr : mrg W ρ ρ' = ρ' := by
      funext t
      show cond (inW W t) (ρ' t) (ρ t) = ρ' t
      cases hi : inW W t with
      | true => rfl
      | false =>
        refine (hr t (fun o ho e => ?_)).symm
        have := List.all_eq_true.1 hW o ho
        rw [e] at this
        simp only [hi] at this
        cases this
    rw [hmr] at h
    have hself := updL_self ρ' (kp.map (·.2))
    rw [List.map_map] at hself
    rw [show (kp.map fun p => (p.2, ρ' p.2)) = List.map ((fun d => (d, ρ' d)) ∘ fun x => x.2) kp from rfl, hself] at h
    exact h) a ha
  rw [hn] at h1
  have h2 := head_any (Q := QN N (WS P N f R k)) hn1 htl (fun e a w hne hq => absurd hq.1 hne) hgd (fun a w hq => by
    obtain ⟨_, ρ', hr, hw⟩ := hq
    have h3 := hw.out a hr
    have h4 := wpOps_eq_wpList (P := P) (ops := l.toArray) (Q := QN N (WS P N f R k)) (l.drop n1) n1 (fun j => by simp)
    rw [List.length_drop] at h4
    rw [h4]; exact h3) n1 (Array.replicate n1 false) (Array.replicate l.length false) a _ (by simp) (by simp) (fun i hi => by simp [Array.getD, hi, Nat.lt_of_lt_of_le hi hn1]) (fun i hi hil => by simp [Array.getD, hil]) (by simp) h1
  rw [show n1 + (l.length - n1) = l.toArray.size by simp; omega] at h2
  simpa using h2
end
section
variable {P : Program} {N : Nat} {K : Fr → World → Prop} {ρ : Fr} {w : World} {d : Nat} {ty t e : TypeId} {pos : String} {af : Array Edge} {gd : Option (Nat × Bool)} {x y : Operand}
/-- Append to a slice that is empty and has no room: nothing that was there turns. -/
theorem S_append0 {b0 m c2 sz bytes : Nat} {a2 : Option Addr} {g : Bool} {zs news : List Value} (ht : sle P t = some (e, (g, sz))) (hz : zer P e = some zs) (hzl : zs.length = sz) (hby : byt P e = some bytes) (hsz : 0 < sz)
    (hx : ev ρ x = .slice (some ⟨b0, 0, none⟩) 0 0) (hB : Blk w b0 e #[]) (hy : ev ρ y = .slice a2 m c2) (hS : SlA w a2 news) (hl : news.length = m * sz)
    (hbig : m * bytes ≤ 140737488355328) (h63 : m ≤ maxLen) (hd : Nat.blt d N = true)
    (hk : ∀ w' a' cap', Ext [] w w' → Own w' e sz a' m cap' news → (∀ b ∈ blk a', b = b0 ∨ w.heap.size ≤ b) → K (upd ρ d (.slice a' m cap')) w') : Stp P N ρ ⟨some d, .call ⟨.builtin .append, #[x, y], #[t, t]⟩, ty, pos, af, gd⟩ w K := by
  obtain ⟨hu, hs⟩ := sle_spec ht
  obtain ⟨i, z, hi, hzz, rfl, rfl, hzc⟩ := info_of hs hz hby
  have hzcs : z.cells.size = i.size := by rw [← Array.length_toList, hzc]; exact hzl
  have h63' : m ≤ 9223372036854775807 := by simp only [maxLen] at h63; omega
  have hop : ∀ {v' w'}, (Builtin.append_ #[t, t] ty #[.slice (some ⟨b0, 0, none⟩) 0 0, .slice a2 m c2]).run P w = .ok v' w' → Run P ρ ⟨some d, .call ⟨.builtin .append, #[x, y], #[t, t]⟩, ty, pos, af, gd⟩ w v' w' := by
    intro v' w' hr
    constructor; unfold execOp
    simp [hx, hy, resolve, invoke, builtin, hr]
  by_cases hm : m = 0
  · subst hm
    have hn0 : news = [] := List.eq_nil_of_length_eq_zero (by simpa using hl)
    subst hn0
    have hf : (Builtin.firstCells i.size 0 (.slice a2 0 c2)).run P w = .ok #[] w := by
      cases a2 with
      | none => simp [Builtin.firstCells]
      | some ad => simp [Builtin.firstCells, loadCells, loadCellsFrom]
    have hr : (Builtin.append_ #[t, t] ty #[.slice (some ⟨b0, 0, none⟩) 0 0, .slice a2 0 c2]).run P w = .ok (.slice (some ⟨b0, 0, none⟩) 0 0) w := by
      simp [Builtin.append_, run_underlying hu, sizeOf, typeInfo, hi, Builtin.lenOf, hf, storeCells]
    exact S_run (hop hr) hd (hk w _ 0 .refl (hB.own (n := 0) (by simp) (by decide)) (fun b hb => .inl (by simpa [blk] using hb)))
  · have hne : news ≠ [] := fun h0 => by
      subst h0
      have : 0 < m * i.size := Nat.mul_pos (by omega) hsz
      simp at hl; omega
    obtain ⟨b2, o2, rfl⟩ := hS.head hne
    have hnews : ∀ j v, news[j]? = some v → w.cell? ((⟨b2, o2, none⟩ : Addr).add j) = some v := fun j v hj => by rw [at_add rfl]; exact hS.cell j v hj
    have hr := run_append_grow (P := P) w t ty e i z hu hi hzz ⟨b0, 0, none⟩ 0 0 [] (by simp) (by simp) ⟨b2, o2, none⟩ m c2 news hl hnews (by omega) (by omega) (growslice_fits (by omega) (by simpa using hbig))
    simp only [Nat.zero_add, Array.empty_append] at hr
    refine S_run (hop hr) hd (hk _ _ _ (Ext.drew0.then0 (ext_alloc _ _)) ⟨hl, grownCap_ge w m 0 e, grownCap_le_maxLen w m 0 e (by simpa using h63), .inr ⟨w.heap.size, _, rfl, heap_alloc_new w.drew _, ?_, ?_⟩⟩ (fun b hb => .inr (by simp [blk] at hb; omega)))
    · have hge := grownCap_ge w m 0 e
      simp only [Array.size_append, List.size_toArray, size_zeroCells, hzcs, hl, ← Nat.add_mul]
      congr 1
      omega
    · simp only [Array.toList_append]
      rw [← hl]
      exact List.take_left
end
section
variable {P : Program} {ρ : Fr} {w : World} {dst : Option Nat} {ty t u : TypeId} {pos : String} {af : Array Edge} {gd : Option (Nat × Bool)} {x y : Operand} {m n : Nat}
theorem k_addU (hx : ev ρ x = .int .u64 m) (hy : ev ρ y = .int .u64 n) (h : m + n < 18446744073709551616) : Run P ρ ⟨dst, .binOp .add t x y u, ty, pos, af, gd⟩ w (.int .u64 ((m + n : Nat) : Int)) w := by
  have := k_addu (P := P) (w := w) (dst := dst) (ty := ty) (pos := pos) (af := af) (gd := gd) (t := t) (u := u) hx hy rfl
  rwa [show (m + n) % two .u64 = m + n from Nat.mod_eq_of_lt h] at this
theorem k_mulU (hx : ev ρ x = .int .u64 m) (hy : ev ρ y = .int .u64 n) (h : m * n < 18446744073709551616) : Run P ρ ⟨dst, .binOp .mul t x y u, ty, pos, af, gd⟩ w (.int .u64 ((m * n : Nat) : Int)) w := by
  have := k_mulu (P := P) (w := w) (dst := dst) (ty := ty) (pos := pos) (af := af) (gd := gd) (t := t) (u := u) hx hy rfl
  rwa [show m * n % two .u64 = m * n from Nat.mod_eq_of_lt h] at this
theorem Rs.of {w : World} {S : List Nat} {W : World} {H : List Res} {e : TypeId} {sz n cap : Nat} {a : Option Addr} {vs : List Value} (i : Nat) (h : Hp S W w H) (hi : H[i]? = some (Ro e sz a n cap vs)) : Hp S W w (H.set i (Rs a vs)) :=
  h.as i hi (fun x hx => by
    have hx' : x ∈ (if vs = [] then [] else blk a) := hx
    split at hx'
    · cases hx'
    · exact hx') (fun h => (h : Own _ _ _ _ _ _ _).sl)
theorem Rs.take {w : World} {S : List Nat} {W : World} {H : List Res} {n cap k : Nat} {a : Option Addr} {vs : List Value} (i : Nat) (h : Hp S W w H) (hi : H[i]? = some (Rs a vs)) (hk : k ≤ n) (hn : n ≤ cap) : Hp S W w (H.set i (Rs (if cap = 0 then a else a.map (·.add 0)) (vs.take k))) :=
  h.as i hi (fun x hx => by
    have hx' : x ∈ (if vs.take k = [] then [] else blk (if cap = 0 then a else a.map (·.add 0))) := hx
    show x ∈ (if vs = [] then [] else blk a)
    split at hx'
    · cases hx'
    · rename_i hne
      have h0 : vs ≠ [] := fun e => hne (by simp [e])
      rw [if_neg h0]
      have hb := blk_sliced a 0 cap 1
      rw [Nat.zero_mul] at hb
      rwa [hb] at hx') (fun h => take_cells h hk hn)
theorem Rs.drop {w : World} {S : List Nat} {W : World} {H : List Res} {n cap k : Nat} {a : Option Addr} {vs : List Value} (i : Nat) (h : Hp S W w H) (hi : H[i]? = some (Rs a vs)) (hl : vs.length = n) (hk : k ≤ n) (hn : n ≤ cap) : Hp S W w (H.set i (Rs (if cap = k then a else a.map (·.add (k * 1))) (vs.drop k))) :=
  h.as i hi (fun x hx => by
    have hx' : x ∈ (if vs.drop k = [] then [] else blk (if cap = k then a else a.map (·.add (k * 1)))) := hx
    show x ∈ (if vs = [] then [] else blk a)
    split at hx'
    · cases hx'
    · rename_i hne
      have h0 : vs ≠ [] := fun e => hne (by simp [e])
      rw [if_neg h0]
      rwa [blk_sliced a k cap 1] at hx') (fun h => drop_cells h hl hk hn)
theorem Rs.none {w : World} {S : List Nat} {W : World} {H : List Res} {a : Option Addr} {vs : List Value} (i : Nat) (h : Hp S W w H) (hi : H[i]? = some (Rs a vs)) : Hp S W w (H.set i (Rs Option.none [])) :=
  h.as i hi (fun x hx => by
    have hx' : x ∈ (if ([] : List Value) = [] then [] else blk Option.none) := hx
    simp at hx') (fun _ => .nil)
end
end Go.K
