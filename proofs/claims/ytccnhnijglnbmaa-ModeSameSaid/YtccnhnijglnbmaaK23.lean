/- A drawn region whose last operations wait for all others, the worlds of the others within any bound: over any program; no condition. -/
import Derived.Test.YtccnhnijglnbmaaK22
namespace Go.K
open Go Go.RowKit
/-- Operation i waits for j, through others or not. -/
def wts (l : List Oper) : Nat → Nat → Nat → Bool
  | 0, _, _ => false
  | n + 1, i, j => match l[i]? with
    | none => false
    | some o => (edges o).contains j || (edges o).any fun e => wts l n e j
def tailOk2 (l : List Oper) (n1 : Nat) : Bool := edgesDown l && l.zipIdx.all fun (_, i) => Nat.blt i n1 || (List.range i).all fun j => wts l 8 i j
theorem wts_done {l : List Oper} {D : Array Bool} (hcl : ∀ i o, l[i]? = some o → D.getD i false = true → ∀ e ∈ edges o, D.getD e false = true) : ∀ (n i j : Nat), wts l n i j = true → ∀ o, l[i]? = some o → (∀ e ∈ edges o, D.getD e false = true) → D.getD j false = true
  | 0, _, _, h, _, _, _ => by cases h
  | n + 1, i, j, h, o, ho, hd => by
    unfold wts at h
    rw [ho] at h
    simp only [Bool.or_eq_true, List.contains_eq_mem, decide_eq_true_eq, List.any_eq_true] at h
    rcases h with h | ⟨e, he, h⟩
    · exact hd j h
    · cases hl : l[e]? with
      | none => cases n <;> simp [wts, hl] at h
      | some o' => exact wts_done hcl n e j h o' hl (hcl e o' hl (hd e he))
section
variable {P : Program}
/-- The tail: one after the other. -/
theorem tail_seq2 {Q : Exit → Act → World → Prop} {l : List Oper} {n1 : Nat} (hok : tailOk2 l n1 = true) : ∀ (m j : Nat) (D : Array Bool) (a : Act) (w : World), j + m = l.length → n1 ≤ j → D.size = l.length → (∀ i, i < l.length → D.getD i false = decide (i < j)) →
    wpOps P l.toArray Q (List.range' j m) a w → wpAny P .any l.toArray Q m D a w := by
  simp only [tailOk2, Bool.and_eq_true] at hok
  intro m
  induction m with
  | zero =>
    intro j D a w hjm hj hsz hD h
    refine ⟨List.eq_nil_iff_forall_not_mem.2 (fun i hi => ?_), h⟩
    obtain ⟨h0, o, ho, _⟩ := mem_ready.1 hi
    have hil : i < l.length := (List.getElem?_eq_some_iff.1 (show l[i]? = some o by simpa using ho)).1
    have := hD i hil
    rw [decide_eq_true (by omega)] at this
    have hid : i < D.size := by omega
    simp [Array.getD, hid] at this h0
    rw [this] at h0; cases h0
  | succ m ih =>
    intro j D a w hjm hj hsz hD h
    have hcl : ∀ i o, l[i]? = some o → D.getD i false = true → ∀ e ∈ edges o, D.getD e false = true := fun i o hi hd e he => by
      have hil : i < l.length := (List.getElem?_eq_some_iff.1 hi).1
      rw [hD i hil] at hd
      have hlt := edgesDown_spec hok.1 hi he
      rw [hD e (by omega)]
      have := of_decide_eq_true hd
      exact decide_eq_true (by omega)
    have hready : ∀ i, i ∈ Region.ready .any l.toArray D ↔ i = j := fun i => by
      rw [mem_ready]
      constructor
      · rintro ⟨h0, o, ho, hall⟩
        have hlo : l[i]? = some o := by simpa using ho
        have hil : i < l.length := (List.getElem?_eq_some_iff.1 hlo).1
        have hid : i < D.size := by omega
        have h1 := hD i hil
        have h2 : ¬ i < j := fun hlt => by
          rw [decide_eq_true hlt] at h1
          simp [Array.getD, hid] at h1 h0
          rw [h1] at h0; cases h0
        by_cases hij : i = j
        · exact hij
        · exfalso
          have h3 := List.all_eq_true.1 hok.2 (o, i) (List.mem_zipIdx_iff_getElem?.2 hlo)
          simp only [Bool.or_eq_true, Nat.blt_eq] at h3
          rcases h3 with h3 | h3
          · omega
          · have h4 := List.all_eq_true.1 h3 j (List.mem_range.2 (by omega))
            have h5 := wts_done hcl 8 i j h4 o hlo (fun e he => by
              obtain ⟨e', he', hb, rfl⟩ := edges_mem he
              exact hall e' (by simpa using he') hb)
            rw [hD j (by omega)] at h5
            simp at h5
      · rintro rfl
        have hil : i < l.length := by omega
        refine ⟨?_, l[i], by simp [hil], fun e he hb => ?_⟩
        · have h1 := hD i hil
          have hid : i < D.size := by omega
          simp [Array.getD, hid] at h1 ⊢
          exact h1
        · have hlt := edgesDown_spec hok.1 (show l[i]? = some l[i] by simp) (mem_edges he hb)
          rw [hD e.on (by omega)]
          exact decide_eq_true hlt
    refine ⟨fun hnil => ?_, fun i hi => ?_⟩
    · have := (hready j).2 rfl
      rw [hnil] at this; cases this
    · obtain rfl := (hready i).1 hi
      rw [List.range'_succ, wpOps_cons] at h
      refine wpOp_mono (fun a' w' h' => ih (i + 1) _ a' w' (by omega) (by omega) (by simp [hsz]) (fun x hx => ?_) h') h
      by_cases hxi : x = i
      · subst hxi
        have : x < D.size := by omega
        simp [Array.getD, this]
      · rw [getD_set_ne false (Ne.symm hxi), hD x hx]
        congr 1
        exact propext ⟨fun h => by omega, fun h => by omega⟩
theorem head_any2 {Q Q1 : Exit → Act → World → Prop} {l : List Oper} {n1 : Nat} (hn1 : n1 ≤ l.length) (hok : tailOk2 l n1 = true) (hQ : ∀ e a w, e ≠ .normal → Q1 e a w → Q e a w) (hgd : (l.take n1).all (fun o => match o.guard with | some (g, _) => Nat.blt g n1 | none => true) = true)
    (htail : ∀ a w, Q1 .normal a w → wpOps P l.toArray Q (List.range' n1 (l.length - n1)) a w) :
    ∀ (fuel : Nat) (D D' : Array Bool) (a : Act) (w : World), D.size = n1 → D'.size = l.length → (∀ i, i < n1 → D'.getD i false = D.getD i false) → (∀ i, n1 ≤ i → i < l.length → D'.getD i false = false) → (∀ i o, l[i]? = some o → D'.getD i false = true → ∀ e ∈ edges o, D'.getD e false = true) → D.toList.count false = fuel →
      wpAny P .any (l.take n1).toArray Q1 fuel D a w → wpAny P .any l.toArray Q (fuel + (l.length - n1)) D' a w := by
  have hok' := hok
  simp only [tailOk2, Bool.and_eq_true] at hok'
  have hget : ∀ i, i < n1 → (l.take n1)[i]? = l[i]? := fun i hi => by rw [List.getElem?_take, if_pos hi]
  intro fuel
  induction fuel with
  | zero =>
    intro D D' a w hD hD' h1 h2 hcl hc h
    rw [Nat.zero_add]
    have hall : ∀ i, i < n1 → D.getD i false = true := fun i hi => by
      have hid : i < D.size := by omega
      cases hb : D.getD i false with
      | true => rfl
      | false =>
        exfalso
        have := List.count_eq_zero.1 hc
        apply this
        rw [List.mem_iff_getElem?]
        exact ⟨i, by simp [Array.getD, hid] at hb; simp [hid, hb]⟩
    refine tail_seq2 hok _ n1 D' a w (by omega) (Nat.le_refl _) hD' (fun i hi => ?_) (htail a w h.2)
    by_cases hin : i < n1
    · rw [h1 i hin, hall i hin, decide_eq_true hin]
    · rw [h2 i (by omega) hi, decide_eq_false hin]
  | succ fuel ih =>
    intro D D' a w hD hD' h1 h2 hcl hc h
    have hne : ∃ i, i < n1 ∧ D.getD i false = false := by
      have : 0 < D.toList.count false := by omega
      have hm := List.count_pos_iff.1 this
      obtain ⟨i, hi⟩ := List.mem_iff_getElem?.1 hm
      have hid : i < D.size := by simpa using (List.getElem?_eq_some_iff.1 hi).1
      exact ⟨i, by omega, by simp [Array.getD, hid]; simpa [hid] using hi⟩
    have hready : ∀ i, i ∈ Region.ready .any l.toArray D' ↔ i ∈ Region.ready .any (l.take n1).toArray D := fun i => by
      rw [mem_ready, mem_ready]
      constructor
      · rintro ⟨h0, o, ho, hall⟩
        have hlo : l[i]? = some o := by simpa using ho
        have hil : i < l.length := (List.getElem?_eq_some_iff.1 hlo).1
        have hin : i < n1 := by
          rcases Nat.lt_or_ge i n1 with h | h
          · exact h
          · exfalso
            obtain ⟨x, hx, hxf⟩ := hne
            have h3 := List.all_eq_true.1 hok'.2 (o, i) (List.mem_zipIdx_iff_getElem?.2 hlo)
            simp only [Bool.or_eq_true, Nat.blt_eq] at h3
            rcases h3 with h3 | h3
            · omega
            · have h4 := List.all_eq_true.1 h3 x (List.mem_range.2 (by omega))
              have h5 := wts_done hcl 8 i x h4 o hlo (fun e he => by
                obtain ⟨e', he', hb, rfl⟩ := edges_mem he
                exact hall e' he' hb)
              rw [h1 x hx, hxf] at h5; cases h5
        have hid : i < D.size := by omega
        have hid' : i < D'.size := by omega
        refine ⟨?_, o, by simpa [hget i hin] using hlo, fun e he hb => ?_⟩
        · have := h1 i hin
          simp [Array.getD, hid, hid'] at this h0 ⊢
          rw [← this]; exact h0
        · have hlt := edgesDown_spec hok'.1 hlo (mem_edges he hb)
          rw [← h1 e.on (by omega)]
          exact hall e he hb
      · rintro ⟨h0, o, ho, hall⟩
        have hlo' : (l.take n1)[i]? = some o := by simpa using ho
        have hin : i < n1 := by have := (List.getElem?_eq_some_iff.1 hlo').1; simp at this; omega
        have hlo : l[i]? = some o := by rw [← hget i hin]; exact hlo'
        have hid : i < D.size := by omega
        have hid' : i < D'.size := by omega
        refine ⟨?_, o, by simpa using hlo, fun e he hb => ?_⟩
        · have := h1 i hin
          simp [Array.getD, hid, hid'] at this h0 ⊢
          rw [this]; exact h0
        · have hlt := edgesDown_spec hok'.1 hlo (mem_edges he hb)
          rw [h1 e.on (by omega)]
          exact hall e he hb
    have hsome : Region.ready .any (l.take n1).toArray D ≠ [] := fun hnil => by
      -- the first that is not done is ready
      obtain ⟨x, hx, hxf⟩ := hne
      have : ∀ x, x < n1 → D.getD x false = true := by
        intro x
        induction x using Nat.strongRecOn with
        | _ x ihx =>
          intro hx
          cases hb : D.getD x false with
          | true => rfl
          | false =>
            exfalso
            have hxd : x < D.size := by omega
            have hxl : x < l.length := by omega
            have hm : x ∈ Region.ready .any (l.take n1).toArray D := by
              rw [mem_ready]
              refine ⟨by simp [Array.getD, hxd] at hb ⊢; exact hb, l[x], by simp [hx, hxl], fun e he hbi => ?_⟩
              have hlt := edgesDown_spec hok'.1 (show l[x]? = some l[x] by simp) (mem_edges he hbi)
              exact ihx _ hlt (by omega)
            rw [hnil] at hm; cases hm
      rw [this x hx] at hxf; cases hxf
    rw [Nat.add_right_comm]
    refine ⟨fun hnil => ?_, fun i hi => ?_⟩
    · exfalso
      apply hsome
      refine List.eq_nil_iff_forall_not_mem.2 (fun i hi => ?_)
      have := (hready i).2 hi
      rw [hnil] at this; cases this
    · have hi1 := (hready i).1 hi
      have h3 := h.2 i hi1
      obtain ⟨h0, o, ho, _⟩ := mem_ready.1 hi1
      have hin : i < n1 := by have := (List.getElem?_eq_some_iff.1 (show (l.take n1)[i]? = some o by simpa using ho)).1; simp at this; omega
      refine wpOp_mono (fun a' w' h' => ih (D.setIfInBounds i true) (D'.setIfInBounds i true) a' w' (by simp [hD]) (by simp [hD']) ?_ ?_ ?_ ?_ h') (wpOp_take hin hQ hgd h3)
      · intro x hx
        by_cases hxi : x = i
        · subst hxi
          have h6 : x < D.size := by omega
          have h7 : x < D'.size := by omega
          simp [Array.getD, h6, h7]
        · rw [getD_set_ne false (Ne.symm hxi), getD_set_ne false (Ne.symm hxi)]; exact h1 x hx
      · intro x hx hxl
        rw [getD_set_ne false (by omega)]; exact h2 x hx hxl
      · intro x ox hx hdx e he
        have hset : ∀ y, D'.getD y false = true → (D'.setIfInBounds i true).getD y false = true := fun y hy => by
          by_cases hyi : y = i
          · subst hyi
            have h7 : y < D'.size := by omega
            simp [Array.getD, h7]
          · rw [getD_set_ne false (Ne.symm hyi)]; exact hy
        apply hset
        by_cases hxi : x = i
        · subst hxi
          obtain ⟨_, o', ho', hall'⟩ := mem_ready.1 hi
          have : o' = ox := by
            have h8 : l[x]? = some o' := by simpa using ho'
            rw [h8] at hx; cases hx; rfl
          subst this
          obtain ⟨e', he', hb, rfl⟩ := edges_mem he
          exact hall' e' he' hb
        · rw [getD_set_ne false (Ne.symm hxi)] at hdx
          exact hcl x ox hx hdx e he
      · have hid : i < D.size := by omega
        have : (D.setIfInBounds i true).toList.count false + 1 = D.toList.count false := by
          rw [Array.toList_setIfInBounds]
          exact count_set_true D.toList i (by simp [Array.getD, hid] at h0; simp [hid, h0])
        omega
end
/-- The same, whatever the worlds of the first operations meet. -/
theorem WS_tailS {P : Program} {N : Nat} {f : FuncId} {R : Value → World → Prop} {k : List Item} {ρ : Fr} {w : World} {id : Nat} {l : List Oper} (hm : P.follows .mixedOrders = true) (n1 : Nat) (hn : ((l.take n1).length = n1)) (hok : tailOk2 l n1 = true) (hgd : (l.take n1).all (fun o => match o.guard with | some (g, _) => Nat.blt g n1 | none => true) = true)
    (S : World → Prop) (h : WA P N (WL P N (WS P N f R k) l.toArray (l.drop n1)) (l.take n1).toArray S n1 n1 [] ρ w.drew) :
    WS P N f R (.code (.region id l.toArray true) :: k) ρ w := by
  have hn1 : n1 ≤ l.length := by simp at hn; omega
  refine WS_wp fun a ha => wp_region_any hm ?_
  have h1 := wpAny_of_held _ _ _ _ (h.out a ha)
  have h2 := head_any2 (Q := QN N (WS P N f R k)) hn1 hok (fun e a w hne hq => absurd hq.1 hne) hgd (fun a w hq => by
    obtain ⟨_, ρ', hr, hw⟩ := hq
    have h3 := hw.out a hr
    have h4 := wpOps_eq_wpList (P := P) (ops := l.toArray) (Q := QN N (WS P N f R k)) (l.drop n1) n1 (fun j => by simp)
    rw [List.length_drop] at h4
    rw [h4]; exact h3) n1 (lst n1 []) (Array.replicate l.length false) a _ (by simp [lst]) (by simp) (fun i hi => by simp [lst, Array.getD, hi, Nat.lt_of_lt_of_le hi hn1]) (fun i hi hil => by simp [Array.getD, hil]) (fun i o hi hd => by
    have hil : i < l.length := (List.getElem?_eq_some_iff.1 hi).1
    simp [Array.getD, hil] at hd) (by simp [lst]) h1
  rw [show n1 + (l.length - n1) = l.toArray.size by simp; omega] at h2
  simpa using h2
section
open Go.RowKit
variable {P : Program} {ρ : Fr} {w : World} {t : TypeId}
variable {N : Nat} {f : FuncId} {R : Value → World → Prop} {k : List Item}
/-- A result that is a variable of its own, and two others. -/
theorem WS_retc3 {fn : Func} {e : TypeId} {c b s r q : Nat} {cs : Array Value} (hf : P.funcs[f]? = some fn) (hr : fn.results = #[.cell c t, .tmp r, .tmp q]) (hc : ρ c = .pointer (some ⟨b, 0, none⟩)) (hB : Blk w b e cs) (hl : cs.size = s) (ht : shp P t = some (true, s)) (h : R (.tuple #[.agg cs, ρ r, ρ q]) w) : WS P N f R (.code .ret :: k) ρ w :=
  WS_leave hf step_ret' (fun a ha => by
    have h1 := ha.val c
    rw [hc, Array.getD_eq_getD_getElem?] at h1
    have h2 := ha.val r
    rw [Array.getD_eq_getD_getElem?] at h2
    have h3 := ha.val q
    rw [Array.getD_eq_getD_getElem?] at h3
    simp [results, hr, h1, ← h2, ← h3, asAddr, run_loadA hB hl ht]) h
end
end Go.K
