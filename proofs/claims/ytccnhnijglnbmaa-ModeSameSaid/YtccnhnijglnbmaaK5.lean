/- Rules for calls, for regions whose order Go leaves open, for slices of slices, copies, strings: over any program; no condition. -/
import Derived.Test.YtccnhnijglnbmaaK4
namespace Go.K
open Go Go.RowKit

/-! ### Tables of facts -/
def lk {α : Type} (t : Nat) : List (Nat × α) → Option α
  | [] => none
  | (i, v) :: l => cond (Nat.beq t i) (some v) (lk t l)
theorem lk_map {α : Type} {F : Nat → Option α} {t : Nat} {q : α} : ∀ {l : List (Nat × α)}, l.map (fun p => F p.1) = l.map (fun p => some p.2) → lk t l = some q → F t = some q
  | [], _, h => by cases h
  | (i, v) :: l, hm, h => by
    simp only [List.map_cons, List.cons.injEq] at hm
    unfold lk at h
    cases hb : Nat.beq t i with
    | true =>
      rw [hb] at h
      have := Nat.eq_of_beq_eq_true hb
      subst this
      cases h
      exact hm.1
    | false => rw [hb] at h; exact lk_map hm.2 h
theorem isSlice_of {P : Program} {t e : TypeId} {p : Bool × Nat} (h : sle P t = some (e, p)) : isSlice P t = true := by
  obtain ⟨hu, _⟩ := sle_spec h
  simp [isSlice, hu]
theorem und_of {P : Program} {t : TypeId} {p : Bool × Nat} (h : shp P t = some p) : (P.underlying t).isSome = true := by
  unfold shp at h
  split at h <;> first | (rename_i hu _; rw [hu]; rfl) | (rename_i hu _; simp [hu]) | cases h

/-! ### Calls -/
/-- Function f, called with these arguments in this world, returns a value; R holds of it and of the world behind. -/
def Does (P : Program) (f : FuncId) (args : Array Value) (w : World) (R : Value → World → Prop) : Prop :=
  ((∀ w', (callFunc f args).run P w' = .ok (.enter f args) w') ∧ Calls P f args w (fun e w' => ∃ v, e = .returned v ∧ R v w')) ∨
  ∃ v w', (callFunc f args).run P w = .ok (.value v) w' ∧ R v w'
def nth : List Value → Nat → Value
  | [], _ => undef
  | x :: _, 0 => x
  | _ :: l, n + 1 => nth l n
def entF (l : List Value) : Fr := fun t => nth l t
theorem nth_eq : ∀ (l : List Value) (t : Nat), nth l t = (l[t]?).getD undef
  | [], t => by simp [nth]
  | x :: l, 0 => by simp [nth]
  | x :: l, n + 1 => by simp [nth, nth_eq l n]
section
variable {P : Program} {N : Nat} {f : FuncId} {R R' : Value → World → Prop} {k : List Item} {ρ : Fr} {w : World} {K : Fr → World → Prop} {v : Value}
theorem Does.calls {args : Array Value} {w : World} (h : Does P f args w R) (hx : ∃ w', (callFunc f args).run P w = .ok (.enter f args) w') : Calls P f args w (fun e w' => ∃ v, e = .returned v ∧ R v w') := by
  rcases h with h | ⟨v, w1, h, _⟩
  · exact h.2
  · obtain ⟨w2, h2⟩ := hx
    rw [h] at h2
    cases h2
theorem Does.mono {args : Array Value} (h : Does P f args w R) (hr : ∀ v w', R v w' → R' v w') : Does P f args w R' := by
  rcases h with ⟨h1, h2⟩ | ⟨v, w', h1, h2⟩
  · exact .inl ⟨h1, h2.mono fun e w' ⟨v, he, hv⟩ => ⟨v, he, hr v w' hv⟩⟩
  · exact .inr ⟨v, w', h1, hr v w' h2⟩
theorem rep_enter {args : List Value} (h : args.length ≤ N) : Rep N { tmps := args.toArray ++ Array.replicate (N - args.length) undef, defers := [] } (entF args) := by
  refine ⟨by simp; omega, rfl, fun t => ?_⟩
  show _ = nth args t
  rw [nth_eq]
  by_cases ht : t < args.length
  · simp [Array.getElem?_append, ht]
  · have : args[t]? = none := List.getElem?_eq_none (by omega)
    rw [this]
    simp only [Array.getD_eq_getD_getElem?, Array.getElem?_append, List.size_toArray, ht, if_false, Option.getD_none]
    rw [Array.getElem?_replicate]
    split <;> rfl
/-- A function of the program, by its body. -/
theorem Does_of {fn : Func} {c : Code} {args : List Value} (hf : P.funcs[f]? = some fn) (hn : (fn.name == "runtime.NumGoroutine") = false) (hb : fn.body = some c) (hN : fn.ntmps = N) (hl : Nat.ble args.length N = true)
    (h : WS P N f R [.code c] (entF args) w) : Does P f args.toArray w R := by
  refine .inl ⟨fun w' => by unfold callFunc; simp only [Sem.run_bind, run_program, Result.andThen_ok, hf, hn, hb]; rfl, fun cs => ?_⟩
  have hl' : args.length ≤ N := Nat.le_of_ble_eq_true hl
  obtain ⟨v, w', fr, hR, hst, hfn, hlv⟩ := h.out _ (rep_enter hl') cs
  refine ⟨.returned v, w', fr, ⟨v, rfl, hR⟩, ?_, hfn, hlv⟩
  have henter : Frame.enter P f args.toArray .normal = (base f).at { tmps := args.toArray ++ Array.replicate (N - args.length) undef, defers := [] } [.code c] := by
    simp [Frame.enter, Frame.at, hf, hb, hN, base]
  rw [henter]
  exact hst
def evL (ρ : Fr) : List Operand → List Value
  | [] => []
  | x :: l => ev ρ x :: evL ρ l
theorem evL_map (ρ : Fr) : ∀ l, evL ρ l = l.map (ev ρ)
  | [] => rfl
  | x :: l => by simp [evL, evL_map ρ l]
section
variable {d : Nat} {ty : TypeId} {pos : String} {af : Array Edge} {gd : Option (Nat × Bool)} {ats : Array TypeId}
theorem S_of_fn {o : Oper} {g : FuncId} {args : Array Value} (ho : ∀ a, Rep N a ρ → execOp a.eval o = callFunc g args) (hd : dstOk N o.dst = true) (hF : Does P g args w R) (hk : ∀ v w', R v w' → K (updo ρ o.dst v) w') : Stp P N ρ o w K := by
  refine ⟨fun a ha Q => ?_⟩
  unfold Oper.wp
  rw [ho a ha]
  rcases hF with ⟨h1, h2⟩ | ⟨v, w', h1, h2⟩
  · rw [h1 w]
    refine h2.mono ?_
    rintro e w' ⟨v, rfl, hv⟩
    exact ⟨_, ha.put hd v, hk v w' hv⟩
  · rw [h1]
    exact ⟨_, ha.put hd v, hk v w' h2⟩
/-- A call of a function by its name. -/
theorem S_call {g : FuncId} {xs : List Operand} {vs : List Value} (hF : Does P g vs.toArray w R) (hargs : evL ρ xs = vs) (hd : Nat.blt d N = true) (hk : ∀ v w', R v w' → K (upd ρ d v) w') :
    Stp P N ρ ⟨some d, .call ⟨.value (.func g), xs.toArray, ats⟩, ty, pos, af, gd⟩ w K :=
  S_of_fn (fun a ha => by
    rw [ha.eval]
    subst hargs
    simp [execOp, resolve, invoke, Deferred.ofValue, ev, evL_map]) hd hF hk
/-- A call of a function value. -/
theorem S_callv {g : FuncId} {x : Operand} {xs : List Operand} {vs caps : List Value} (hx : ev ρ x = .func (.func g) #[] caps.toArray) (hF : Does P g (vs ++ caps).toArray w R) (hargs : evL ρ xs = vs) (hd : Nat.blt d N = true) (hk : ∀ v w', R v w' → K (upd ρ d v) w') :
    Stp P N ρ ⟨some d, .call ⟨.value x, xs.toArray, ats⟩, ty, pos, af, gd⟩ w K :=
  S_of_fn (g := g) (args := (vs ++ caps).toArray) (fun a ha => by
    rw [ha.eval]
    subst hargs
    simp [execOp, resolve, invoke, Deferred.ofValue, hx, evL_map]) hd hF hk
end

/-! ### Regions whose order is open -/
def lst (n : Nat) (done : List Nat) : Array Bool := done.foldr (fun i a => a.setIfInBounds i true) (Array.replicate n false)
structure WA (P : Program) (N : Nat) (C : Fr → World → Prop) (ops : Array Oper) (S : World → Prop) (n fuel : Nat) (done : List Nat) (ρ : Fr) (w : World) : Prop where
  out : ∀ a, Rep N a ρ → wpAnyH P .any ops (QN N C) S fuel (lst n done) a w
variable {C : Fr → World → Prop} {ops : Array Oper} {S : World → Prop} {n fuel : Nat} {done : List Nat}
theorem WS_draw {id : Nat} {l : List Oper} (hm : P.follows .mixedOrders = true) (S : World → Prop) (n : Nat) (hn : l.length = n) (h : WA P N (WS P N f R k) l.toArray S n n [] ρ w.drew) : WS P N f R (.code (.region id l.toArray true) :: k) ρ w :=
  WS_wp fun a ha => wp_region_held (S := S) hm (by
    have := h.out a ha
    subst hn
    exact this)
/-- A region that only makes memory: from any world that differs by new memory alone. -/
theorem WS_drawE {id : Nat} {l : List Oper} (hm : P.follows .mixedOrders = true) (n : Nat) (hn : l.length = n) (h : ∀ w1, Ext [] w w1 → WA P N (WS P N f R k) l.toArray (fun w' => Ext [] w w') n n [] ρ w1) : WS P N f R (.code (.region id l.toArray true) :: k) ρ w :=
  WS_draw hm (fun w' => Ext [] w w') n hn (h _ Ext.drew0)
def takeOk (ops : Array Oper) (n : Nat) (done : List Nat) (i : Nat) : Bool := Region.noSelect ops && Region.free .any ops (lst n done) i && (Region.ready .any ops (lst n done)).contains i
/-- Operation i yields v in every world of S: it is taken first. -/
theorem WA_take (i : Nat) {o : Oper} (hi : ops[i]? = some o) (hc : takeOk ops n done i = true) (hS : S w) (hg : o.guard = none) (hd : dstOk N o.dst = true) (hrun : ∀ w', S w' → Run P ρ o w' v w')
    (hk : WA P N C ops S n fuel (i :: done) (updo ρ o.dst v) w) : WA P N C ops S n (fuel + 1) done ρ w := by
  refine ⟨fun a ha => ?_⟩
  simp only [takeOk, Bool.and_eq_true] at hc
  refine wpAnyH_take hi hc.1.1 hc.1.2 hc.2 (fun c a w h => by cases h.1) (.inl ⟨by simp [Region.wanted, hg], fun w' hw' => ?_⟩) hS (hk.out _ (ha.put hd v))
  rw [ha.eval]
  exact (hrun w' hw').out
theorem WA_takey (i : Nat) {o : Oper} {j d : Nat} {want : Bool} (hi : ops[i]? = some o) (hc : takeOk ops n done i = true) (hS : S w) (hg : o.guard = some (j, want)) (hj : gdst ops j = some d) (hjd : Nat.blt d N = true) (hv : ev ρ (.tmp d) = .bool want) (hd : dstOk N o.dst = true)
    (hrun : ∀ w', S w' → Run P ρ o w' v w') (hk : WA P N C ops S n fuel (i :: done) (updo ρ o.dst v) w) : WA P N C ops S n (fuel + 1) done ρ w := by
  refine ⟨fun a ha => ?_⟩
  simp only [takeOk, Bool.and_eq_true] at hc
  refine wpAnyH_take hi hc.1.1 hc.1.2 hc.2 (fun c a w h => by cases h.1) (.inl ⟨by simp [Region.wanted, hg, yielded_rep ha hj hjd hv], fun w' hw' => ?_⟩) hS (hk.out _ (ha.put hd v))
  rw [ha.eval]
  exact (hrun w' hw').out
theorem WA_taken (i : Nat) {o : Oper} {j d : Nat} {want b : Bool} (hi : ops[i]? = some o) (hc : takeOk ops n done i = true) (hS : S w) (hg : o.guard = some (j, want)) (hj : gdst ops j = some d) (hjd : Nat.blt d N = true) (hv : ev ρ (.tmp d) = .bool b) (hb : b = !want) (hd : dstOk N o.dst = true)
    (hk : WA P N C ops S n fuel (i :: done) (updo ρ o.dst undef) w) : WA P N C ops S n (fuel + 1) done ρ w := by
  refine ⟨fun a ha => ?_⟩
  simp only [takeOk, Bool.and_eq_true] at hc
  exact wpAnyH_take hi hc.1.1 hc.1.2 hc.2 (fun c a w h => by cases h.1) (.inr ⟨by simp [Region.wanted, hg, yielded_rep ha hj hjd hv, hb], rfl⟩) hS (hk.out _ (ha.put hd undef))
/-- A slot that holds a test: in each of the two cases. -/
theorem WA_split (d : Nat) {p : Prop} [Decidable p] (hv : ev ρ (.tmp d) = .bool (decide p)) (ht : p → WA P N C ops S n fuel done (upd ρ d (.bool true)) w) (hf : ¬p → WA P N C ops S n fuel done (upd ρ d (.bool false)) w) :
    WA P N C ops S n fuel done ρ w := by
  by_cases hp : p
  · have := ht hp; rw [upd_self (by rw [show ρ d = _ from hv, decide_eq_true hp])] at this; exact this
  · have := hf hp; rw [upd_self (by rw [show ρ d = _ from hv, decide_eq_false hp])] at this; exact this
/-- Operation i alone may come up now. -/
theorem WA_one (i : Nat) {o : Oper} (hr : Region.ready .any ops (lst n done) = [i]) (hi : ops[i]? = some o) (hg : o.guard = none)
    (h : Stp P N ρ o w (fun ρ' w' => S w' ∧ WA P N C ops S n fuel (i :: done) ρ' w')) : WA P N C ops S n (fuel + 1) done ρ w := by
  refine ⟨fun a ha => ?_⟩
  refine wpAnyH_all hr (by simp) (fun j hj => ?_)
  simp only [List.mem_singleton] at hj
  subst hj
  unfold wpOp
  rw [hi]
  simp only
  rw [if_pos (by simp [Region.wanted, hg])]
  exact .inl (Oper.wp_mono (fun a' w' ⟨ρ', hr', hs, hw⟩ => ⟨hs, hw.out a' hr'⟩) (h.out a ha _))
theorem WA_oney (i : Nat) {o : Oper} {j d : Nat} {want : Bool} (hr : Region.ready .any ops (lst n done) = [i]) (hi : ops[i]? = some o) (hg : o.guard = some (j, want)) (hj : gdst ops j = some d) (hjd : Nat.blt d N = true) (hv : ev ρ (.tmp d) = .bool want)
    (h : Stp P N ρ o w (fun ρ' w' => S w' ∧ WA P N C ops S n fuel (i :: done) ρ' w')) : WA P N C ops S n (fuel + 1) done ρ w := by
  refine ⟨fun a ha => ?_⟩
  refine wpAnyH_all hr (by simp) (fun m hm => ?_)
  simp only [List.mem_singleton] at hm
  subst hm
  unfold wpOp
  rw [hi]
  simp only
  rw [if_pos (by simp [Region.wanted, hg, yielded_rep ha hj hjd hv])]
  exact .inl (Oper.wp_mono (fun a' w' ⟨ρ', hr', hs, hw⟩ => ⟨hs, hw.out a' hr'⟩) (h.out a ha _))
/-- Either of two operations may come up now. -/
theorem WA_two (i j : Nat) {oi oj : Oper} (hr : Region.ready .any ops (lst n done) = [i, j]) (hi : ops[i]? = some oi) (hgi : oi.guard = none) (hj : ops[j]? = some oj) (hgj : oj.guard = none)
    (h1 : Stp P N ρ oi w (fun ρ' w' => S w' ∧ WA P N C ops S n fuel (i :: done) ρ' w')) (h2 : Stp P N ρ oj w (fun ρ' w' => S w' ∧ WA P N C ops S n fuel (j :: done) ρ' w')) : WA P N C ops S n (fuel + 1) done ρ w := by
  refine ⟨fun a ha => ?_⟩
  refine wpAnyH_all hr (by simp) (fun m hm => ?_)
  simp only [List.mem_cons, List.not_mem_nil, or_false] at hm
  unfold wpOp
  rcases hm with rfl | rfl
  · rw [hi]
    simp only
    rw [if_pos (by simp [Region.wanted, hgi])]
    exact .inl (Oper.wp_mono (fun a' w' ⟨ρ', hr', hs, hw⟩ => ⟨hs, hw.out a' hr'⟩) (h1.out a ha _))
  · rw [hj]
    simp only
    rw [if_pos (by simp [Region.wanted, hgj])]
    exact .inl (Oper.wp_mono (fun a' w' ⟨ρ', hr', hs, hw⟩ => ⟨hs, hw.out a' hr'⟩) (h2.out a ha _))
theorem WA_done (hr : Region.ready .any ops (lst n done) = []) (h : C ρ w) : WA P N C ops S n fuel done ρ w := ⟨fun _ ha => wpAnyH_done hr ⟨rfl, ρ, ha, h⟩ fuel⟩
end

/-! ### Slices of slices; copies; strings -/
/-- A byte as a value. -/
abbrev B (n : Nat) : Value := .int .u8 (n : Int)
/-- Bytes as a string. -/
def strOf (l : List Nat) : ByteArray := ⟨(l.map UInt8.ofNat).toArray⟩
def Byt (l : List Nat) : Prop := ∀ x ∈ l, x < 256
theorem bytB {l : List Nat} (h : l.all (fun x => Nat.blt x 256) = true) : Byt l := fun x hx => by
  have := List.all_eq_true.1 h x hx
  simpa [Nat.blt_eq] using this
theorem Byt.append {l m : List Nat} (h : Byt l) (h' : Byt m) : Byt (l ++ m) := fun x hx => (List.mem_append.1 hx).elim (h x) (h' x)
section
variable {P : Program} {N : Nat} {K : Fr → World → Prop} {ρ : Fr} {w : World} {v : Value} {dst : Option Nat} {d : Nat} {ty : TypeId} {pos : String} {af : Array Edge} {gd : Option (Nat × Bool)} {x y z : Operand} {t u e : TypeId} {q : IntKind}
theorem sl_sliced {a : Option Addr} {vs : List Value} {l h cap n sz : Nat} (hS : SlA w a vs) (hlh : l ≤ h) (hh : h ≤ n) (hn : n ≤ cap) :
    SlA w (if cap = l then a else a.map (·.add (l * sz))) ((vs.drop (l * sz)).take ((h - l) * sz)) := by
  by_cases hne : (vs.drop (l * sz)).take ((h - l) * sz) = []
  · rw [hne]; exact .nil
  · have hc : cap ≠ l := fun e => hne (by have : h - l = 0 := by omega
                                          simp [this])
    have hvs : vs ≠ [] := fun e => hne (by simp [e])
    obtain ⟨b, o, rfl⟩ := hS.head hvs
    rw [if_neg hc]
    refine ⟨fun j v hv => ?_, fun _ => ⟨b, o + l * sz, by simp [addr_add]⟩⟩
    rw [List.getElem?_take] at hv
    split at hv
    · rw [List.getElem?_drop] at hv
      have := hS.cell _ v hv
      simpa [At, addr_add, Nat.add_assoc] using this
    · cases hv
theorem blk_sliced (a : Option Addr) (l cap sz : Nat) : blk (if cap = l then a else a.map (·.add (l * sz))) = blk a := by
  split
  · rfl
  · cases a with
    | none => rfl
    | some ad => simp only [Option.map_some, blk]; unfold Addr.add; split <;> rfl
theorem k_slc {a : Option Addr} {n cap sz : Nat} {g : Bool} {kl kh : IntKind} {l h : Int} (hx : ev ρ x = .slice a n cap) (hy : ev ρ y = .int kl l) (hz : ev ρ z = .int kh h) (ht : sle P t = some (e, (g, sz))) (h0 : 0 ≤ l ∧ l ≤ h ∧ h ≤ cap) :
    Run P ρ ⟨dst, .slice t x (some y) (some z) none, ty, pos, af, gd⟩ w (.slice (if cap = l.toNat then a else a.map (·.add (l.toNat * sz))) (h.toNat - l.toNat) (cap - l.toNat)) w := by
  obtain ⟨hu, hs⟩ := sle_spec ht
  obtain ⟨h', rfl⟩ := Int.eq_ofNat_of_zero_le (show 0 ≤ h by omega)
  have h1 : (0 ≤ l ∧ l ≤ (h' : Int)) := by omega
  have h2 : h' ≤ cap := by omega
  constructor; unfold execOp
  simp [hx, hy, hz, Instr.sliceAt, Instr.slice, run_underlying hu, Instr.sliceBounds, Instr.sliceBound, asIntOf, h1, h2, shp_size hs]
theorem k_slcl {a : Option Addr} {n cap sz : Nat} {g : Bool} {kl : IntKind} {l : Int} (hx : ev ρ x = .slice a n cap) (hy : ev ρ y = .int kl l) (ht : sle P t = some (e, (g, sz))) (h0 : 0 ≤ l ∧ l ≤ n) :
    Run P ρ ⟨dst, .slice t x (some y) none none, ty, pos, af, gd⟩ w (.slice (if cap = l.toNat then a else a.map (·.add (l.toNat * sz))) (n - l.toNat) (cap - l.toNat)) w := by
  obtain ⟨hu, hs⟩ := sle_spec ht
  constructor; unfold execOp
  simp [hx, hy, Instr.sliceAt, Instr.slice, run_underlying hu, Instr.sliceBounds, Instr.sliceBound, asIntOf, h0, shp_size hs]
theorem k_slch {a : Option Addr} {n cap sz : Nat} {g : Bool} {kh : IntKind} {h : Int} (hx : ev ρ x = .slice a n cap) (hz : ev ρ z = .int kh h) (ht : sle P t = some (e, (g, sz))) (h0 : 0 ≤ h ∧ h ≤ cap) :
    Run P ρ ⟨dst, .slice t x none (some z) none, ty, pos, af, gd⟩ w (.slice (if cap = 0 then a else a.map (·.add 0)) h.toNat cap) w := by
  obtain ⟨hu, hs⟩ := sle_spec ht
  constructor; unfold execOp
  simp [hx, hz, Instr.sliceAt, Instr.slice, run_underlying hu, Instr.sliceBounds, Instr.sliceBound, asIntOf, h0, shp_size hs]
/-- An array's place, as a slice's. -/
theorem k_ixa1 {i : Int} {b o len : Nat} {g : Bool} (hx : ev ρ x = .pointer (some ⟨b, o, none⟩)) (hy : ev ρ y = .int q i) (ht : arr P t = some (len, (g, 1))) (hi : 0 ≤ i ∧ i < len) :
    Run P ρ ⟨dst, .indexAddr t x y, ty, pos, af, gd⟩ w (.pointer (some (At (some ⟨b, o, none⟩) i.toNat))) w := by
  have h := k_ixa (P := P) (w := w) (dst := dst) (ty := ty) (pos := pos) (af := af) (gd := gd) hx hy ht hi
  rw [Nat.mul_one] at h
  exact h
theorem k_ixaN {i : Int} {b o len sz : Nat} {g : Bool} (hx : ev ρ x = .pointer (some ⟨b, o, none⟩)) (hy : ev ρ y = .int q i) (ht : arr P t = some (len, (g, sz))) (hi : 0 ≤ i ∧ i < len) :
    Run P ρ ⟨dst, .indexAddr t x y, ty, pos, af, gd⟩ w (.pointer (some (At (some ⟨b, o, none⟩) (i.toNat * sz)))) w := k_ixa hx hy ht hi
theorem k_faA {i j off s : Nat} {a : Option Addr} {g : Bool} (hx : ev ρ x = .pointer (some (At a j))) (hf : fld P t i = some (off, (g, s + 1))) :
    Run P ρ ⟨dst, .fieldAddr t x i, ty, pos, af, gd⟩ w (.pointer (some (At a (j + off)))) w := by
  have h := k_fa (P := P) (w := w) (dst := dst) (ty := ty) (pos := pos) (af := af) (gd := gd) (ρ := ρ) (x := x) (b := (At a j).block) (o := (At a j).off) hx hf
  have e : (⟨(At a j).block, (At a j).off + off, none⟩ : Addr) = At a (j + off) := by simp [At, Nat.add_assoc]
  rw [e] at h
  exact h
/-- A store of one cell into a slice of one's own. -/
theorem S_storeO {a : Option Addr} {n cap sz o : Nat} {vs : List Value} (hx : ev ρ x = .pointer (some (At a o))) (hy : ev ρ y = v) (hO : Own w e sz a n cap vs) (ho : o < n * sz) (h1 : v.oneCell' = true) (ht : shp P t = some (false, 1))
    (hk : ∀ w', Ext (blk a) w w' → Own w' e sz a n cap (vs.set o v) → w'.heap.size = w.heap.size → K ρ w') : Stp P N ρ ⟨none, .store t x y, ty, pos, af, gd⟩ w K := by
  obtain ⟨hl, hn, hc, ⟨rfl, rfl⟩ | ⟨b, cur, rfl, hB, hs, htk⟩⟩ := hO
  · have : n = 0 := by omega
    subst this; simp at ho
  · have hle : n * sz ≤ cap * sz := Nat.mul_le_mul_right _ hn
    have hx' : ev ρ x = .pointer (some ⟨b, o, none⟩) := by rw [hx]; simp [At]
    refine S_store hx' hy hB (by omega) h1 ht (fun w' hE hB' hsz => hk w' hE ⟨by simpa using hl, hn, hc, .inr ⟨b, _, rfl, hB', by simpa using hs, ?_⟩⟩ hsz)
    rw [Array.toList_setIfInBounds, List.take_set, htk]
/-- A store of one cell into an array of one's own. -/
theorem S_storeB {b o : Nat} {cs : List Value} (hx : ev ρ x = .pointer (some (At (some ⟨b, 0, none⟩) o))) (hy : ev ρ y = v) (hB : Blk w b e cs.toArray) (ho : o < cs.length) (h1 : v.oneCell' = true) (ht : shp P t = some (false, 1))
    (hk : ∀ w', Ext [b] w w' → Blk w' b e (cs.set o v).toArray → w'.heap.size = w.heap.size → K ρ w') : Stp P N ρ ⟨none, .store t x y, ty, pos, af, gd⟩ w K := by
  have hx' : ev ρ x = .pointer (some ⟨b, o, none⟩) := by rw [hx]; simp [At]
  refine S_store hx' hy hB (by simpa using ho) h1 ht (fun w' hE hB' hsz => hk w' hE (by simpa using hB') hsz)
theorem k_str {a : Option Addr} {cap : Nat} {l : List Nat} (hx : ev ρ x = .slice a l.length cap) (hS : SlA w a (l.map B)) (ht : sle P t = some (e, (false, 1))) (he : kindOf P e = some .u8) (hu : isStr P u = true) :
    Run P ρ ⟨dst, .convert t u x, ty, pos, af, gd⟩ w (.string (strOf l)) w := by
  obtain ⟨hsl, _⟩ := sle_spec ht
  have hsu : P.underlying u = some .string := by
    unfold isStr at hu; split at hu
    · assumption
    · cases hu
  have hr : (convert t u (.slice a l.length cap)).run P w = .ok (.string (strOf l)) w := by
    by_cases hl : l = []
    · subst hl
      cases a with
      | none => rw [run_convert_bytes_nil w t e hsl (kindOf_spec he) _ _ u hsu]; rfl
      | some ad =>
        rw [run_convert_bytes_string w t u e _ _ _ hsl (kindOf_spec he) hsu]
        simp [Conv.bytesToString, loadCells, loadCellsFrom]
        rfl
    · obtain ⟨b, o, rfl⟩ := hS.head (by simpa using hl)
      rw [run_convert_bytes_arg w t e hsl (kindOf_spec he) b o l.length cap (l.map Nat.cast) (by simp) (fun i hi => by
        have := hS.cell i (B l[i]) (by simp [hi])
        simpa [At, B, hi] using this) u hsu]
      simp [strOfNums, strOf, Function.comp_def]
  constructor; unfold execOp
  simp [hx, hr]
theorem strOf_inj {l m : List Nat} (hl : Byt l) (hm : Byt m) (h : strOf l = strOf m) : l = m := by
  have h1 : l.map UInt8.ofNat = m.map UInt8.ofNat := by
    have := congrArg (fun s : ByteArray => s.data.toList) h
    simpa [strOf] using this
  have h2 : (l.map UInt8.ofNat).map UInt8.toNat = (m.map UInt8.ofNat).map UInt8.toNat := by rw [h1]
  have h3 : ∀ (l : List Nat), Byt l → (l.map UInt8.ofNat).map UInt8.toNat = l := by
    intro l hl
    rw [List.map_map]
    conv => rhs; rw [← List.map_id l]
    refine List.map_congr_left (fun x hx => ?_)
    have := hl x hx
    simp; omega
  rw [h3 l hl, h3 m hm] at h2
  exact h2
theorem strOf_toList (l : List Nat) : (strOf l).toList = l.map UInt8.ofNat := by
  rw [ByteArray.toList_eq]; simp [strOf]
theorem k_eqls {l m : List Nat} (hx : ev ρ x = .string (strOf l)) (hy : ev ρ y = .string (strOf m)) (hl : Byt l) (hm : Byt m) : Run P ρ ⟨dst, .binOp .eql t x y u, ty, pos, af, gd⟩ w (.bool (decide (l = m))) w :=
  k_bin hx hy (eqGuard_other rfl) (by
    have : ((strOf l).toList == (strOf m).toList) = decide (l = m) := by
      rw [strOf_toList, strOf_toList]
      by_cases h : l = m
      · simp [h]
      · have h2 : l.map UInt8.ofNat ≠ m.map UInt8.ofNat := fun e => h (strOf_inj hl hm (by unfold strOf; rw [e]))
        simp [h, h2]
    simp [binOp, Op.stringOp, this])
theorem k_neqs {l m : List Nat} (hx : ev ρ x = .string (strOf l)) (hy : ev ρ y = .string (strOf m)) (hl : Byt l) (hm : Byt m) : Run P ρ ⟨dst, .binOp .neq t x y u, ty, pos, af, gd⟩ w (.bool (decide (l ≠ m))) w :=
  k_bin hx hy (eqGuard_other rfl) (by
    have : ((strOf l).toList == (strOf m).toList) = decide (l = m) := by
      rw [strOf_toList, strOf_toList]
      by_cases h : l = m
      · simp [h]
      · have h2 : l.map UInt8.ofNat ≠ m.map UInt8.ofNat := fun e => h (strOf_inj hl hm (by unfold strOf; rw [e]))
        simp [h, h2]
    simp [binOp, Op.stringOp, this])
/-- The builtin copy, into a block of one's own. -/
theorem S_copy {b o n cap m c2 : Nat} {a2 : Option Addr} {cs : Array Value} {vs : List Value} {ta tb : TypeId} {g : Bool} {e' : TypeId} (ht : sle P ta = some (e', (g, 1))) (hx : ev ρ x = .slice (some ⟨b, o, none⟩) n cap) (hB : Blk w b e cs) (hy : ev ρ y = .slice a2 m c2) (hS : SlA w a2 vs) (hl : vs.length = m)
    (hm : m ≤ n) (hfit : o + m ≤ cs.size) (h1 : ∀ u ∈ vs, u.oneCell' = true) (hd : dstOk N dst = true)
    (hk : ∀ w', Ext [b] w w' → Blk w' b e (cs.toList.take o ++ vs ++ cs.toList.drop (o + m)).toArray → w'.heap.size = w.heap.size → K (updo ρ dst (.int .i64 m)) w') : Stp P N ρ ⟨dst, .call ⟨.builtin .copy, #[x, y], #[ta, tb]⟩, ty, pos, af, gd⟩ w K := by
  obtain ⟨hu, hs⟩ := sle_spec ht
  have hf : (Builtin.firstCells 1 m (.slice a2 m c2)).run P w = .ok vs.toArray w := by
    by_cases hv : vs = []
    · subst hv
      have : m = 0 := by simpa using hl.symm
      subst this
      cases a2 <;> simp [Builtin.firstCells, loadCells, loadCellsFrom]
    · obtain ⟨b2, o2, rfl⟩ := hS.head hv
      exact run_firstCells_some (P := P) w 1 m ⟨b2, o2, none⟩ m c2 vs (by omega) (fun j v hj => by rw [at_add rfl]; exact hS.cell j v hj)
  have hst := run_storeCells_at P b o e vs 0 cs w hB (by simpa [hl] using hfit) h1
  simp only [Nat.add_zero, hl] at hst
  have hmin : Nat.min m n = m := Nat.min_eq_left hm
  refine S_run (w' := w.setRow b (cs.toList.take o ++ vs ++ cs.toList.drop (o + m)).toArray) (v := .int .i64 m) ?_ hd (hk _ (ext_setRow _ _ _) (setRow_heap w b cs _ e _ hB) (by simp [World.setRow]))
  constructor; unfold execOp
  simp only [resolve, invoke, builtin, Sem.run_bind, Sem.run_pure, Result.andThen_ok, List.map_toArray, List.map_cons, List.map_nil, hx, hy]
  simp [Builtin.copy_, run_underlying hu, Builtin.lenOf, shp_size hs, hmin, hf, hst, goInt]
end
end Go.K
