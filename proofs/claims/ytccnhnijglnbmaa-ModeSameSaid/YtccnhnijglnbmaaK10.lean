/- More rules: frames forgotten; two operations of an open region in either order; specs of an open region by a list: over any program; no condition. -/
import Derived.Test.YtccnhnijglnbmaaK9
import Derived.Laws.OwnMore
namespace Go.K
open Go Go.RowKit

section
variable {P : Program} {N : Nat} {f : FuncId} {R : Value → World → Prop} {k : List Item} {ρ : Fr} {w : World}
/-- Of the frame only these slots are kept. -/
theorem WS_keep (L : List (Nat × Value)) (h : Has ρ L) (hk : ∀ σ, WS P N f R k (updL L σ) w) : WS P N f R k ρ w := by
  rw [← updL_of_has h]; exact hk _
theorem WL_keep {C : Fr → World → Prop} {ops : Array Oper} {l : List Oper} (L : List (Nat × Value)) (h : Has ρ L) (hk : ∀ σ, WL P N C ops l (updL L σ) w) : WL P N C ops l ρ w := by
  rw [← updL_of_has h]; exact hk _
theorem updo_comm {d e : Option Nat} (h : d = none ∨ d ≠ e) (v u : Value) : updo (updo ρ d v) e u = updo (updo ρ e u) d v := by
  cases d with
  | none => rfl
  | some d =>
    cases e with
    | none => rfl
    | some e =>
      have hde : d ≠ e := fun x => by subst x; rcases h with h | h; cases h; exact h rfl
      funext n
      show upd (upd ρ d v) e u n = upd (upd ρ e u) d v n
      by_cases h1 : n = e
      · subst h1; rw [upd_same, upd_ne _ _ (Ne.symm hde), upd_same]
      · rw [upd_ne _ _ h1]
        by_cases h2 : n = d
        · subst h2; rw [upd_same, upd_same]
        · rw [upd_ne _ _ h2, upd_ne _ _ h2, upd_ne _ _ h1]
theorem lst_comm (n i j : Nat) (done : List Nat) : lst n (i :: j :: done) = lst n (j :: i :: done) := by
  show ((lst n done).setIfInBounds j true).setIfInBounds i true = ((lst n done).setIfInBounds i true).setIfInBounds j true
  by_cases h : i = j
  · subst h; rfl
  · exact Array.setIfInBounds_comm _ _ (fun e => h e.symm)
/-- Two operations that may both come up now, in either order; J what the two values and the world behind have in common. -/
theorem WA_both {C : Fr → World → Prop} {ops : Array Oper} {S : World → Prop} {n fuel : Nat} {done : List Nat} (i j : Nat) {oi oj : Oper} {J : Value → Value → World → Prop} (hr : Region.ready .any ops (lst n done) = [i, j]) (hr1 : Region.ready .any ops (lst n (i :: done)) = [j]) (hr2 : Region.ready .any ops (lst n (j :: done)) = [i])
    (hi : ops[i]? = some oi) (hgi : oi.guard = none) (hj : ops[j]? = some oj) (hgj : oj.guard = none) (hd : oi.dst = none ∨ oi.dst ≠ oj.dst)
    (h1 : Stp P N ρ oi w (fun ρ1 w1 => S w1 ∧ ∃ vi, ρ1 = updo ρ oi.dst vi ∧ Stp P N ρ1 oj w1 (fun ρ2 w2 => S w2 ∧ ∃ vj, ρ2 = updo ρ1 oj.dst vj ∧ J vi vj w2)))
    (h2 : Stp P N ρ oj w (fun ρ1 w1 => S w1 ∧ ∃ vj, ρ1 = updo ρ oj.dst vj ∧ Stp P N ρ1 oi w1 (fun ρ2 w2 => S w2 ∧ ∃ vi, ρ2 = updo ρ1 oi.dst vi ∧ J vi vj w2)))
    (hk : ∀ vi vj w2, S w2 → J vi vj w2 → WA P N C ops S n fuel (j :: i :: done) (updo (updo ρ oi.dst vi) oj.dst vj) w2) : WA P N C ops S n (fuel + 1 + 1) done ρ w := by
  refine WA_two i j hr hi hgi hj hgj ⟨fun a ha Q => Oper.wp_mono ?_ (h1.out a ha Q)⟩ ⟨fun a ha Q => Oper.wp_mono ?_ (h2.out a ha Q)⟩
  · rintro a' w' ⟨ρ', hr', hS, vi, rfl, hst⟩
    refine ⟨_, hr', hS, WA_one j hr1 hj hgj ⟨fun a ha Q => Oper.wp_mono ?_ (hst.out a ha Q)⟩⟩
    rintro a' w' ⟨ρ', hr', hS, vj, rfl, hJ⟩
    exact ⟨_, hr', hS, hk vi vj _ hS hJ⟩
  · rintro a' w' ⟨ρ', hr', hS, vj, rfl, hst⟩
    refine ⟨_, hr', hS, WA_one i hr2 hi hgi ⟨fun a ha Q => Oper.wp_mono ?_ (hst.out a ha Q)⟩⟩
    rintro a' w' ⟨ρ', hr', hS, vi, rfl, hJ⟩
    refine ⟨_, hr', hS, ⟨fun a ha => ?_⟩⟩
    have := (hk vi vj _ hS hJ).out a (by rw [updo_comm hd]; exact ha)
    rw [lst_comm] at this
    exact this

/-- A region whose order is open, with what holds of frame and world behind it, whatever the order. -/
theorem WS_drawX {id : Nat} {l : List Oper} (hm : P.follows .mixedOrders = true) (n : Nat) (hn : l.length = n) (X : Fr → World → Prop) (h : ∀ w1, Ext [] w w1 → WA P N X l.toArray (fun w' => Ext [] w w') n n [] ρ w1) (hk : ∀ ρ' w', X ρ' w' → WS P N f R k ρ' w') :
    WS P N f R (.code (.region id l.toArray true) :: k) ρ w :=
  WS_wp fun a ha => Code.wp_mono (Q := QN N X) (fun e a w h => ⟨h.1, by obtain ⟨_, ρ', hr, hX⟩ := h; exact ⟨ρ', hr, hk _ _ hX⟩⟩) (wp_region_held (S := fun w' => Ext [] w w') hm (by
    have := (h _ Ext.drew0).out a ha
    subst hn
    exact this))
/-! ### Specs by a list -/
def Stable (s : Value → World → Prop) : Prop := ∀ v w w', s v w → Ext [] w w' → s v w'
def StL : List (Value → World → Prop) → Prop
  | [] => True
  | s :: l => Stable s ∧ StL l
def nthS (l : List (Value → World → Prop)) (i : Nat) : Value → World → Prop :=
  match l, i with
  | [], _ => fun _ _ => True
  | s :: _, 0 => s
  | _ :: l, i + 1 => nthS l i
theorem StL.nth : ∀ (l : List (Value → World → Prop)) (i : Nat), StL l → Stable (nthS l i)
  | [], _, _ => fun _ _ _ _ _ => trivial
  | _ :: _, 0, h => h.1
  | _ :: l, i + 1, h => StL.nth l i h.2
/-- The value is x. -/
def Is (x : Value) : Value → World → Prop := fun v _ => v = x
/-- A slice of n elements, new, over these cells. -/
def IsLit (e : TypeId) (n : Nat) (cs : Array Value) : Value → World → Prop := fun v w => ∃ b, v = .slice (some ⟨b, 0, none⟩) n n ∧ Blk w b e cs
theorem Is.st {x : Value} : Stable (Is x) := fun _ _ _ h _ => h
theorem IsLit.st {e : TypeId} {n : Nat} {cs : Array Value} : Stable (IsLit e n cs) := fun _ _ _ ⟨b, h, hB⟩ hE => ⟨b, h, hB.ext0 hE⟩
theorem WS_specL {id : Nat} {l : List Oper} (Ls : List (Value → World → Prop)) (hm : P.follows .mixedOrders = true) (sp : List (Nat × List (Nat × Nat))) (hok : okAll l 0 l sp = true) (hds : dstsOk N l = true) (hdn : edgesDown l = true)
    (hst : StL Ls) (hall : SpecAll P N (nthS Ls) ρ w 0 l sp)
    (hfin : ∀ ρ' w', Ext [] w w' → (∀ (i : Nat) (o : Oper) (d : Nat), l[i]? = some o → o.dst = some d → nthS Ls i (ρ' d) w') → (∀ t, (∀ o ∈ l, o.dst ≠ some t) → ρ' t = ρ t) → WS P N f R k ρ' w') :
    WS P N f R (.code (.region id l.toArray true) :: k) ρ w :=
  WS_spec hm sp hok hds hdn (nthS Ls) (fun _ _ _ _ h hE => StL.nth _ _ hst _ _ _ h hE) hall hfin
/-- An operation that only computes. -/
theorem sp_is {o : Oper} {v : Value} (h : Run P ρ o w v w) (hd : dstOk N o.dst = true) : Stp P N ρ o w (fun ρ' w' => Ext [] w w' ∧ ∃ u, ρ' = updo ρ o.dst u ∧ Is v u w') := S_run h hd ⟨.refl, v, rfl, rfl⟩
/-- Frames: no operation of the list writes slot t. -/
def notDst (l : List Oper) (t : Nat) : Bool := l.all fun o => match o.dst with | some d => !Nat.beq d t | none => true
theorem notDst_spec {l : List Oper} {t : Nat} (h : notDst l t = true) : ∀ o ∈ l, o.dst ≠ some t := fun o ho e => by
  have := List.all_eq_true.1 h o ho
  simp [e] at this
end
section
variable {P : Program} {ρ : Fr} {w : World} {dst : Option Nat} {ty : TypeId} {pos : String} {af : Array Edge} {gd : Option (Nat × Bool)} {x y z u : Operand} {q : IntKind} {ats : Array TypeId}
theorem k_min4 {i j l m : Int} (hx : ev ρ x = .int q i) (hy : ev ρ y = .int q j) (hz : ev ρ z = .int q l) (hu : ev ρ u = .int q m) : Run P ρ ⟨dst, .call ⟨.builtin .min, #[x, y, z, u], ats⟩, ty, pos, af, gd⟩ w (.int q (min (min (min i j) l) m)) w := by
  have e : (if j < i then j else i) = min i j := by split <;> omega
  have e2 : (if l < min i j then l else min i j) = min (min i j) l := by split <;> omega
  constructor; unfold execOp; simp [hx, hy, hz, hu, resolve, invoke, builtin, Builtin.min_, Builtin.min2, List.foldlM, e, e2]
  split <;> omega
theorem k_eqlT {t v : TypeId} {m n : Int} (hx : ev ρ x = .int q m) (hy : ev ρ y = .int q n) (h : m = n) : Run P ρ ⟨dst, .binOp .eql t x y v, ty, pos, af, gd⟩ w (.bool true) w := by
  have := k_eql (P := P) (w := w) (dst := dst) (ty := ty) (pos := pos) (af := af) (gd := gd) (t := t) (u := v) hx hy
  rwa [decide_eq_true h] at this
theorem k_slchN {t e : TypeId} {a : Option Addr} {n cap sz h : Nat} {g : Bool} {kh : IntKind} (hx : ev ρ x = .slice a n cap) (hz : ev ρ z = .int kh (h : Int)) (ht : sle P t = some (e, (g, sz))) (h0 : h ≤ cap) :
    Run P ρ ⟨dst, .slice t x none (some z) none, ty, pos, af, gd⟩ w (.slice (if cap = 0 then a else a.map (·.add 0)) h cap) w :=
  k_slch (h := (h : Int)) hx hz ht (by omega)
/-- A place of a slice whose head is known. -/
theorem k_ix1S {t e : TypeId} {i : Int} {len cap b o : Nat} {g : Bool} {q' : IntKind} (hx : ev ρ x = .slice (some ⟨b, o, none⟩) len cap) (hy : ev ρ y = .int q' i) (ht : sle P t = some (e, (g, 1))) (hi : 0 ≤ i ∧ i < len) :
    Run P ρ ⟨dst, .indexAddr t x y, ty, pos, af, gd⟩ w (.pointer (some (At (some ⟨b, o, none⟩) i.toNat))) w := by
  obtain ⟨hu, hs⟩ := sle_spec ht
  constructor; unfold execOp
  simp [hx, hy, Instr.indexAt, run_underlying hu, asIntOf, hi, shp_size hs, addr_add, At]
theorem made_one (z : Value) (n : Nat) : madeCells [z].toArray (n * 1) = (List.replicate n z).toArray := by
  rw [Nat.mul_one]
  apply Array.toList_inj.1
  simpa using toList_madeCells_one z n
end
section
open Go.ChangeShapes Go.WideShapes
variable {H : Type} {enc : TypeId × Value → H} {P : Program} {W : World} {d : DataW H} {ps : List MemPlace} {t e : TypeId} {sp : Nat → Bool} {hd : Bool}
/-- A slice's capacity. -/
theorem rd_cap {p : Bool × Nat} {a : Option Addr} {n cap : Nat} (ht : sle P t = some (e, p)) (h : DataW.Trod enc P W 0 sp hd t (.slice a n cap) d ps) : n ≤ cap ∧ cap ≤ 9223372036854775807 := by
  obtain ⟨hu, _⟩ := sle_spec ht
  obtain ⟨fuel, h⟩ := h
  rcases DataW.trod_slice hu h with h0 | ⟨a, len, cap', elems, rest, m, _, hcs, _, _, hl, hm, _⟩
  · have := h0.1
    simp [Value.cells] at this
    omega
  · simp [Value.cells] at hcs
    simp only [maxLen] at hm
    omega
end
end Go.K
