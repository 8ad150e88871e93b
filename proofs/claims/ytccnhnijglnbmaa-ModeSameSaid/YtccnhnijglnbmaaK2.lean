/- Rules for the operations that only compute: over any program; no condition. -/
import Derived.Test.YtccnhnijglnbmaaK1
import Derived.WalkKit
import Derived.WalkSpells
import Derived.WalkLawsBesides
import Derived.OrdersHeld
namespace Go.K
open Go

def QN (N : Nat) (K : Fr → World → Prop) : Exit → Act → World → Prop :=
  fun e a w => e = .normal ∧ ∃ ρ, Rep N a ρ ∧ K ρ w
/-- The operations l of a region, then the stack k. -/
structure WL (P : Program) (N : Nat) (C : Fr → World → Prop) (ops : Array Oper) (l : List Oper) (ρ : Fr) (w : World) : Prop where
  out : ∀ a, Rep N a ρ → wpList P ops (QN N C) l a w

section
variable {P : Program} {N : Nat} {f : FuncId} {R : Value → World → Prop} {k : List Item} {C : Fr → World → Prop} {ρ : Fr} {w w' : World} {ops : Array Oper} {l : List Oper} {v : Value}

theorem WS_wp {c : Code} (h : ∀ a, Rep N a ρ → c.wp P (QN N (WS P N f R k)) a w) : WS P N f R (.code c :: k) ρ w := ⟨fun a ha cs => by
  obtain ⟨e, a', w1, ⟨rfl, ρ', hρ', hws⟩, harr⟩ := h a ha (base f) k cs
  obtain ⟨v, w', fr, hR, hst, hl⟩ := hws.out a' hρ' cs
  exact ⟨v, w', fr, hR, Steps.trans harr hst, hl⟩⟩
theorem WS_region {id : Nat} {l : List Oper} (h : WL P N (WS P N f R k) l.toArray l ρ w) : WS P N f R (.code (.region id l.toArray false) :: k) ρ w :=
  WS_wp fun a ha => wp_region_lit (h.out a ha)
theorem WL_nil (h : C ρ w) : WL P N C ops [] ρ w := ⟨fun _ ha => ⟨rfl, ρ, ha, h⟩⟩
/-- What an operation comes to: a value. -/
structure Run (P : Program) (ρ : Fr) (o : Oper) (w : World) (v : Value) (w' : World) : Prop where
  out : (execOp (ev ρ) o).run P w = .ok (.value v) w'
theorem WL_run {o : Oper} (h : Run P ρ o w v w') (hg : o.guard = none) (hd : dstOk N o.dst = true) (hk : WL P N C ops l (updo ρ o.dst v) w') : WL P N C ops (o :: l) ρ w := by
  refine ⟨fun a ha => ?_⟩
  unfold wpList
  rw [if_pos (by simp [Region.wanted, hg])]
  refine .inl ?_
  unfold Oper.wp
  rw [ha.eval, h.out]
  exact hk.out _ (ha.put hd v)
theorem WL_skip {o : Oper} (h : (execOp (ev ρ) o).run P w = .ok .skip w') (hg : o.guard = none) (hd : o.dst = none) (hk : WL P N C ops l ρ w') : WL P N C ops (o :: l) ρ w := by
  refine ⟨fun a ha => ?_⟩
  unfold wpList
  rw [if_pos (by simp [Region.wanted, hg])]
  refine .inl ?_
  unfold Oper.wp
  rw [ha.eval, h]
  show wpList P ops _ l (a.put o.dst undef) w'
  rw [hd]
  exact hk.out _ ha
/-- One operation: carried out, K holds of the frame and the world behind it. -/
structure Stp (P : Program) (N : Nat) (ρ : Fr) (o : Oper) (w : World) (K : Fr → World → Prop) : Prop where
  out : ∀ a, Rep N a ρ → ∀ Q, o.wp P a w (fun a' w' => ∃ ρ', Rep N a' ρ' ∧ K ρ' w') Q
section
variable {K : Fr → World → Prop}
theorem S_run {o : Oper} (h : Run P ρ o w v w') (hd : dstOk N o.dst = true) (hk : K (updo ρ o.dst v) w') : Stp P N ρ o w K := by
  refine ⟨fun a ha Q => ?_⟩
  unfold Oper.wp
  rw [ha.eval, h.out]
  exact ⟨_, ha.put hd v, hk⟩
theorem S_skip {o : Oper} (h : (execOp (ev ρ) o).run P w = .ok .skip w') (hd : o.dst = none) (hk : K ρ w') : Stp P N ρ o w K := by
  refine ⟨fun a ha Q => ?_⟩
  unfold Oper.wp
  rw [ha.eval, h]
  refine ⟨ρ, ?_, hk⟩
  rw [hd]
  exact ha
theorem WL_step {o : Oper} (h : Stp P N ρ o w (fun ρ' w' => WL P N C ops l ρ' w')) (hg : o.guard = none) : WL P N C ops (o :: l) ρ w := by
  refine ⟨fun a ha => ?_⟩
  unfold wpList
  rw [if_pos (by simp [Region.wanted, hg])]
  exact .inl (Oper.wp_mono (fun a' w' ⟨ρ', hr, hw⟩ => hw.out a' hr) (h.out a ha _))
end
/-- The same, of an operation that is written out. -/
theorem WL_r {d : Nat} {op : Op} {ty : TypeId} {pos : String} {af : Array Edge} (h : Run P ρ ⟨some d, op, ty, pos, af, none⟩ w v w') (hd : Nat.blt d N = true) (hk : WL P N C ops l (upd ρ d v) w') : WL P N C ops (⟨some d, op, ty, pos, af, none⟩ :: l) ρ w :=
  WL_run h rfl hd hk
theorem WL_s {d : Option Nat} {op : Op} {ty : TypeId} {pos : String} {af : Array Edge} (h : Stp P N ρ ⟨d, op, ty, pos, af, none⟩ w (fun ρ' w' => WL P N C ops l ρ' w')) : WL P N C ops (⟨d, op, ty, pos, af, none⟩ :: l) ρ w := WL_step h rfl
def gdst (ops : Array Oper) (j : Nat) : Option Nat := (ops[j]?).bind (·.dst)
theorem yielded_rep {a : Act} (ha : Rep N a ρ) {j d : Nat} (hj : gdst ops j = some d) (hd : Nat.blt d N = true) {b : Bool} (hv' : ev ρ (.tmp d) = .bool b) : yielded ops a.tmps j = some b := by
  have hlt : d < a.tmps.size := by rw [ha.size]; simpa [Nat.blt_eq] using hd
  have hv : ρ d = .bool b := hv'
  have h1 := ha.val d
  rw [hv] at h1
  unfold gdst at hj
  unfold yielded
  rw [hj]
  have : a.tmps[d]? = some (.bool b) := by
    rw [Array.getElem?_eq_getElem hlt]
    simp [Array.getD, hlt] at h1
    rw [h1]
  simp [this]
theorem WL_gyes {dst : Option Nat} {op : Op} {ty : TypeId} {pos : String} {af : Array Edge} {j d : Nat} {want : Bool} (hj : gdst ops j = some d) (hd : Nat.blt d N = true) (hv : ev ρ (.tmp d) = .bool want)
    (h : WL P N C ops (⟨dst, op, ty, pos, af, none⟩ :: l) ρ w) : WL P N C ops (⟨dst, op, ty, pos, af, some (j, want)⟩ :: l) ρ w := by
  refine ⟨fun a ha => ?_⟩
  have h' := h.out a ha
  unfold wpList at h' ⊢
  rw [if_pos (by simp [Region.wanted, yielded_rep ha hj hd hv])]
  rw [if_pos (by simp [Region.wanted])] at h'
  exact h'
theorem WL_gno {dst : Option Nat} {op : Op} {ty : TypeId} {pos : String} {af : Array Edge} {j d : Nat} {want b : Bool} (hj : gdst ops j = some d) (hd : Nat.blt d N = true) (hv : ev ρ (.tmp d) = .bool b) (hb : b = !want)
    (hd' : dstOk N dst = true) (h : WL P N C ops l (updo ρ dst undef) w) : WL P N C ops (⟨dst, op, ty, pos, af, some (j, want)⟩ :: l) ρ w := by
  refine ⟨fun a ha => ?_⟩
  unfold wpList
  rw [if_neg (by simp [Region.wanted, yielded_rep ha hj hd hv, hb])]
  exact h.out _ (ha.put hd' undef)
theorem upd_self {d : Nat} (h : ρ d = v) : upd ρ d v = ρ := by
  funext n
  by_cases hn : n = d
  · subst hn; rw [upd_same]; exact h.symm
  · exact upd_ne ρ v hn
/-- A slot that holds a test: in each of the two cases. -/
theorem WL_split (d : Nat) {p : Prop} [Decidable p] (hv : ev ρ (.tmp d) = .bool (decide p)) (ht : p → WL P N C ops l (upd ρ d (.bool true)) w) (hf : ¬p → WL P N C ops l (upd ρ d (.bool false)) w) :
    WL P N C ops l ρ w := by
  by_cases hp : p
  · have := ht hp; rw [upd_self (by rw [show ρ d = _ from hv, decide_eq_true hp])] at this; exact this
  · have := hf hp; rw [upd_self (by rw [show ρ d = _ from hv, decide_eq_false hp])] at this; exact this
/-- A slot that holds a test that is known. -/
theorem WL_sett (d : Nat) {p : Prop} [Decidable p] (hv : ev ρ (.tmp d) = .bool (decide p)) (hp : p) (h : WL P N C ops l (upd ρ d (.bool true)) w) : WL P N C ops l ρ w := by
  rw [upd_self (by rw [show ρ d = _ from hv, decide_eq_true hp])] at h; exact h
theorem WL_setf (d : Nat) {p : Prop} [Decidable p] (hv : ev ρ (.tmp d) = .bool (decide p)) (hp : ¬p) (h : WL P N C ops l (upd ρ d (.bool false)) w) : WL P N C ops l ρ w := by
  rw [upd_self (by rw [show ρ d = _ from hv, decide_eq_false hp])] at h; exact h
theorem WL_splitb (d : Nat) {b : Bool} (hv : ev ρ (.tmp d) = .bool b) (ht : b = true → WL P N C ops l (upd ρ d (.bool true)) w) (hf : b = false → WL P N C ops l (upd ρ d (.bool false)) w) :
    WL P N C ops l ρ w := by
  cases b
  · have := hf rfl; rw [upd_self (show ρ d = _ from hv)] at this; exact this
  · have := ht rfl; rw [upd_self (show ρ d = _ from hv)] at this; exact this

/-! ### Operations that only compute -/
section
variable {dst : Option Nat} {ty : TypeId} {pos : String} {af : Array Edge} {gd : Option (Nat × Bool)} {x y z : Operand} {t u : TypeId}
theorem k_move (hx : ev ρ x = v) : Run P ρ ⟨dst, .move x, ty, pos, af, gd⟩ w v w := by subst hx; exact ⟨rfl⟩
theorem k_assign (hx : ev ρ x = v) : Run P ρ ⟨dst, .assign x, ty, pos, af, gd⟩ w v w := by subst hx; exact ⟨rfl⟩
theorem k_pick_t {v : Value} (hc : ev ρ x = .bool true) (hy : ev ρ y = v) : Run P ρ ⟨dst, .pick x y z, ty, pos, af, gd⟩ w v w := by
  constructor; unfold execOp; simp [hc, hy, asBool]
theorem k_pick_f {v : Value} (hc : ev ρ x = .bool false) (hz : ev ρ z = v) : Run P ρ ⟨dst, .pick x y z, ty, pos, af, gd⟩ w v w := by
  constructor; unfold execOp; simp [hc, hz, asBool]
/-- A binary operation by what it comes to. -/
theorem k_bin {op : BinOp} {a b : Value} (hx : ev ρ x = a) (hy : ev ρ y = b) (hq : (eqGuard op t x y a b).run P w = .ok () w) (h : (binOp op t a b).run P w = .ok v w) :
    Run P ρ ⟨dst, .binOp op t x y u, ty, pos, af, gd⟩ w v w := by
  constructor; unfold execOp; simp [hx, hy, hq, h]
theorem eqGuard_other {op : BinOp} {a b : Value} (h : (match a, b with | .nilIface, .nilIface => false | .agg _, .agg _ => false | _, _ => true) = true) : (eqGuard op t x y a b).run P w = .ok () w := by
  unfold eqGuard
  cases a <;> cases b <;> first | (simp at h; done) | (simp; done) | (split <;> rfl) | (split <;> (simp; done))
section
variable {q : IntKind} {m n : Int}
theorem k_add (hx : ev ρ x = .int q m) (hy : ev ρ y = .int q n) : Run P ρ ⟨dst, .binOp .add t x y u, ty, pos, af, gd⟩ w (.int q (q.wrap (m + n))) w :=
  k_bin hx hy (eqGuard_other rfl) (by simp [binOp, Op.intArith])
theorem k_sub (hx : ev ρ x = .int q m) (hy : ev ρ y = .int q n) : Run P ρ ⟨dst, .binOp .sub t x y u, ty, pos, af, gd⟩ w (.int q (q.wrap (m - n))) w :=
  k_bin hx hy (eqGuard_other rfl) (by simp [binOp, Op.intArith])
theorem k_mul (hx : ev ρ x = .int q m) (hy : ev ρ y = .int q n) : Run P ρ ⟨dst, .binOp .mul t x y u, ty, pos, af, gd⟩ w (.int q (q.wrap (m * n))) w :=
  k_bin hx hy (eqGuard_other rfl) (by simp [binOp, Op.intArith])
theorem wrap64_id {i : Int} (h1 : -9223372036854775808 ≤ i) (h2 : i ≤ 9223372036854775807) : IntKind.i64.wrap i = i := IntWalk.i64_in _ ⟨h1, h2⟩
theorem k_add64 (hx : ev ρ x = .int .i64 m) (hy : ev ρ y = .int .i64 n) (h : -9223372036854775808 ≤ m + n ∧ m + n ≤ 9223372036854775807) : Run P ρ ⟨dst, .binOp .add t x y u, ty, pos, af, gd⟩ w (.int .i64 (m + n)) w := by
  have := k_add (P := P) (dst := dst) (ty := ty) (pos := pos) (af := af) (gd := gd) (t := t) (u := u) (w := w) hx hy
  rw [wrap64_id h.1 h.2] at this; exact this
theorem k_sub64 (hx : ev ρ x = .int .i64 m) (hy : ev ρ y = .int .i64 n) (h : -9223372036854775808 ≤ m - n ∧ m - n ≤ 9223372036854775807) : Run P ρ ⟨dst, .binOp .sub t x y u, ty, pos, af, gd⟩ w (.int .i64 (m - n)) w := by
  have := k_sub (P := P) (dst := dst) (ty := ty) (pos := pos) (af := af) (gd := gd) (t := t) (u := u) (w := w) hx hy
  rw [wrap64_id h.1 h.2] at this; exact this
theorem k_mul64 (hx : ev ρ x = .int .i64 m) (hy : ev ρ y = .int .i64 n) (h : -9223372036854775808 ≤ m * n ∧ m * n ≤ 9223372036854775807) : Run P ρ ⟨dst, .binOp .mul t x y u, ty, pos, af, gd⟩ w (.int .i64 (m * n)) w := by
  have := k_mul (P := P) (dst := dst) (ty := ty) (pos := pos) (af := af) (gd := gd) (t := t) (u := u) (w := w) hx hy
  rw [wrap64_id h.1 h.2] at this; exact this
theorem k_quo64 (hx : ev ρ x = .int .i64 m) (hy : ev ρ y = .int .i64 n) (h : 0 ≤ m ∧ m ≤ 9223372036854775807 ∧ 0 < n) : Run P ρ ⟨dst, .binOp .quo t x y u, ty, pos, af, gd⟩ w (.int .i64 (m / n)) w :=
  k_bin hx hy (eqGuard_other rfl) (by
    have h0 : n ≠ 0 := by omega
    have h1 : m.tdiv n = m / n := Int.tdiv_eq_ediv_of_nonneg h.1
    have h2 : 0 ≤ m / n := Int.ediv_nonneg h.1 (by omega)
    have h3 : m / n ≤ m := Int.ediv_le_self _ h.1
    simp [binOp, Op.intDiv, h0, h1, wrap64_id (i := m / n) (by omega) (by omega)])
theorem k_rem (hx : ev ρ x = .int q m) (hy : ev ρ y = .int q n) (h : 0 ≤ m ∧ n ≠ 0) : Run P ρ ⟨dst, .binOp .rem t x y u, ty, pos, af, gd⟩ w (.int q (m % n)) w :=
  k_bin hx hy (eqGuard_other rfl) (by
    have h1 : m.tmod n = m % n := Int.tmod_eq_emod_of_nonneg h.1
    simp [binOp, Op.intDiv, h.2, h1])
theorem k_remt (hx : ev ρ x = .int q m) (hy : ev ρ y = .int q n) (h : n ≠ 0) : Run P ρ ⟨dst, .binOp .rem t x y u, ty, pos, af, gd⟩ w (.int q (m.tmod n)) w :=
  k_bin hx hy (eqGuard_other rfl) (by simp [binOp, Op.intDiv, h])
theorem k_lss (hx : ev ρ x = .int q m) (hy : ev ρ y = .int q n) : Run P ρ ⟨dst, .binOp .lss t x y u, ty, pos, af, gd⟩ w (.bool (decide (m < n))) w :=
  k_bin hx hy (eqGuard_other rfl) (by simp [binOp, Op.intCmp])
theorem k_leq (hx : ev ρ x = .int q m) (hy : ev ρ y = .int q n) : Run P ρ ⟨dst, .binOp .leq t x y u, ty, pos, af, gd⟩ w (.bool (decide (m ≤ n))) w :=
  k_bin hx hy (eqGuard_other rfl) (by simp [binOp, Op.intCmp])
theorem k_gtr (hx : ev ρ x = .int q m) (hy : ev ρ y = .int q n) : Run P ρ ⟨dst, .binOp .gtr t x y u, ty, pos, af, gd⟩ w (.bool (decide (n < m))) w :=
  k_bin hx hy (eqGuard_other rfl) (by simp [binOp, Op.intCmp])
theorem k_geq (hx : ev ρ x = .int q m) (hy : ev ρ y = .int q n) : Run P ρ ⟨dst, .binOp .geq t x y u, ty, pos, af, gd⟩ w (.bool (decide (n ≤ m))) w :=
  k_bin hx hy (eqGuard_other rfl) (by simp [binOp, Op.intCmp])
theorem beq_dec (m n : Int) : (m == n) = decide (m = n) := by
  by_cases h : m = n <;> simp [h]
theorem bne_dec (m n : Int) : (m != n) = decide (m ≠ n) := by
  by_cases h : m = n <;> simp [h]
theorem k_eql (hx : ev ρ x = .int q m) (hy : ev ρ y = .int q n) : Run P ρ ⟨dst, .binOp .eql t x y u, ty, pos, af, gd⟩ w (.bool (decide (m = n))) w :=
  k_bin hx hy (eqGuard_other rfl) (by simp only [binOp, Op.intCmp, ne_eq, not_true_eq_false, ite_false, beq_dec]; rfl)
theorem k_neq (hx : ev ρ x = .int q m) (hy : ev ρ y = .int q n) : Run P ρ ⟨dst, .binOp .neq t x y u, ty, pos, af, gd⟩ w (.bool (decide (m ≠ n))) w :=
  k_bin hx hy (eqGuard_other rfl) (by simp only [binOp, Op.intCmp, ne_eq, not_true_eq_false, ite_false, bne_dec]; rfl)
end
end
end
end Go.K
