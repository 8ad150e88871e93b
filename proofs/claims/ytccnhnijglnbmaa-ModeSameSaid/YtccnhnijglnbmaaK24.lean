/- Rules for == on structs and arrays of integers, bools and complex numbers, to any depth: over any program; no condition. -/
import Derived.Test.YtccnhnijglnbmaaK9
namespace Go.K
open Go Go.RowKit

/-- The kinds of cells that == can be told of. -/
inductive CK where
  | i (q : IntKind)
  | b
  | c
def eqkF (P : Program) (f : TypeId → Option (List CK)) : Nat → List Field → Option (List CK)
  | _, [] => some []
  | off, fd :: fs => cond (fd.name != "_" && Nat.beq fd.offset off) ((f fd.type).bind fun l => cond (Nat.beq l.length (P.cellsOf fd.type)) ((eqkF P f (off + l.length) fs).map (l ++ ·)) none) none
def eqk (P : Program) : Nat → TypeId → Option (List CK)
  | 0, _ => none
  | d + 1, t => match P.underlying t with
    | some .bool => some [.b]
    | some (.int q) => some [.i q]
    | some (.complex .f64) => some [.c]
    | some (.array n e) => (eqk P d e).bind fun l => cond (Nat.beq l.length (P.cellsOf e)) (some (List.replicate n l).flatten) none
    | some (.struct fs) => cond (P.stoodInHeld t) none (eqkF P (eqk P d) 0 fs.toList)
    | _ => none
/-- The cells of a struct or an array that == is told of whole. -/
def eqv (P : Program) (t : TypeId) : Option (List CK) := cond (P.eqGuardType P.depth t) none (match P.underlying t with
  | some (.array _ _) | some (.struct _) => eqk P 5 t
  | _ => none)
def FitC : CK → Value → Prop
  | .i q, .int q' _ => q' = q
  | .b, .bool _ => True
  | .c, .complex k _ _ => k = .f64
  | _, _ => False
def FitsC : List CK → List Value → Prop
  | [], [] => True
  | k :: ks, v :: vs => FitC k v ∧ FitsC ks vs
  | _, _ => False
def ceq : Value → Value → Bool
  | .int _ a, .int _ b => a == b
  | .bool a, .bool b => a == b
  | .complex k a b, .complex _ a' b' => Op.floatEq k a a' && Op.floatEq k b b'
  | _, _ => false
def all2 : List Value → List Value → Bool
  | u :: us, v :: vs => ceq u v && all2 us vs
  | _, _ => true
theorem all2_app : ∀ {a b c d : List Value}, a.length = b.length → all2 (a ++ c) (b ++ d) = (all2 a b && all2 c d)
  | [], [], c, d, _ => by simp [all2]
  | u :: a, v :: b, c, d, h => by simp [all2, all2_app (a := a) (b := b) (by simpa using h), Bool.and_assoc]
  | [], _ :: _, _, _, h => by simp at h
  | _ :: _, [], _, _, h => by simp at h
theorem FitsC.len : ∀ {ks : List CK} {us : List Value}, FitsC ks us → us.length = ks.length
  | [], [], _ => rfl
  | _ :: _, _ :: _, h => by simp [FitsC.len h.2]
  | [], _ :: _, h => h.elim
  | _ :: _, [], h => h.elim
theorem FitsC.app : ∀ {ks ls : List CK} {us vs : List Value}, FitsC ks us → FitsC ls vs → FitsC (ks ++ ls) (us ++ vs)
  | [], _, [], _, _, h => h
  | _ :: _, _, _ :: _, _, h, g => ⟨h.1, FitsC.app h.2 g⟩
  | [], _, _ :: _, _, h, _ => h.elim
  | _ :: _, _, [], _, h, _ => h.elim
theorem FitsC.split : ∀ {ks ls : List CK} {us : List Value}, FitsC (ks ++ ls) us → FitsC ks (us.take ks.length) ∧ FitsC ls (us.drop ks.length)
  | [], _, us, h => by simpa using ⟨trivial, h⟩
  | k :: ks, _, u :: us, h => by
    obtain ⟨h1, h2⟩ := FitsC.split (ks := ks) h.2
    exact ⟨⟨h.1, by simpa using h1⟩, by simpa using h2⟩
  | _ :: _, _, [], h => h.elim
theorem FitsC.rep {k : CK} : ∀ {l : List Value}, (∀ x ∈ l, FitC k x) → FitsC (List.replicate l.length k) l
  | [], _ => trivial
  | x :: l, h => ⟨h x (by simp), FitsC.rep fun y hy => h y (by simp [hy])⟩
/-- Cells of integers and bools are told apart by themselves. -/
theorem all2_eq : ∀ {ks : List CK} {us vs : List Value}, (∀ k ∈ ks, (match k with | .c => false | _ => true) = true) → FitsC ks us → FitsC ks vs → (all2 us vs = true ↔ us = vs)
  | [], [], [], _, _, _ => by simp [all2]
  | k :: ks, u :: us, v :: vs, hk, hu, hv => by
    have ih := all2_eq (fun k h => hk k (by simp [h])) hu.2 hv.2
    have h0 := hk k (by simp)
    have hc : ceq u v = true ↔ u = v := by
      have h1 := hu.1
      have h2 := hv.1
      cases k <;> cases u <;> simp [FitC] at h1 <;> cases v <;> simp [FitC] at h2 <;> simp [ceq] at h0 ⊢
      subst h1; subst h2; simp
    simp only [all2, Bool.and_eq_true, ih, hc, List.cons.injEq]
  | [], [], _ :: _, _, _, h => h.elim
  | [], _ :: _, _, _, h, _ => h.elim
  | _ :: _, [], _, _, h, _ => h.elim
  | _ :: _, _ :: _, [], _, _, h => h.elim
def valK (P : Program) (e : TypeId) (us : List Value) : Value := match P.underlying e with
  | some (.array _ _) | some (.struct _) => .agg us.toArray
  | _ => us.headD (.bool false)
section
variable {P : Program}
theorem info_eqk {d : Nat} {e : TypeId} {ks : List CK} (h : eqk P d e = some ks) : ∃ i, P.info? e = some i := by
  cases d with
  | zero => cases h
  | succ d =>
    unfold eqk at h
    cases hu : P.underlying e with
    | none => simp [hu] at h
    | some _ => exact info_of_underlying hu

theorem run_partK {d : Nat} {e : TypeId} {ks : List CK} {xs : Array Value} {off : Nat} {us : List Value} (w : World) (hk : eqk P d e = some ks) (hl : ks.length = P.cellsOf e) (hu : (xs.toList.drop off).take ks.length = us) (hf : FitsC ks us) : (part e xs off).run P w = .ok (valK P e us) w := by
  obtain ⟨i, hi⟩ := info_eqk hk
  have ha : (xs.extract off (off + P.cellsOf e)) = us.toArray := by
    rw [← hu, hl, ← Array.toList_inj]
    simp [List.extract]
  cases d with
  | zero => cases hk
  | succ d =>
    unfold eqk at hk
    have one : ∀ k, ks = [k] → xs[off]? = some (us.headD (.bool false)) := by
      intro k e1
      subst e1
      cases us with
      | nil => exact hf.elim
      | cons u us =>
        rw [← Array.getElem?_toList]
        have : (xs.toList.drop off)[0]? = some u := by
          have := congrArg (·[0]?) hu
          simpa using this
        simpa using this
    cases hd : P.underlying e with
    | none => simp [hd] at hk
    | some kd =>
      rw [hd] at hk
      unfold valK
      rw [hd]
      cases kd
      case array n e' => simp [part, isAgg, run_underlying hd, run_sizeOf w hi, ha]
      case struct fs => simp [part, isAgg, run_underlying hd, run_sizeOf w hi, ha]
      case bool => simp at hk; simp [part, isAgg, run_underlying hd, one _ hk.symm]
      case int q => simp at hk; simp [part, isAgg, run_underlying hd, one _ hk.symm]
      case complex q =>
        cases q
        · cases hk
        · simp at hk; simp [part, isAgg, run_underlying hd, one _ hk.symm]
      all_goals (simp at hk; done)
theorem eqItemsK {d m : Nat} {e : TypeId} {ks : List CK} (hk : eqk P d e = some ks) (hl : ks.length = P.cellsOf e)
    (IH : ∀ (w : World) (us vs : List Value), FitsC ks us → FitsC ks vs → (Op.equalIn m e (valK P e us) (valK P e vs)).run P w = .ok (all2 us vs) w) (w : World) (xs ys : Array Value) :
    ∀ n i : Nat, FitsC (List.replicate n ks).flatten (xs.toList.drop (i * ks.length)) → FitsC (List.replicate n ks).flatten (ys.toList.drop (i * ks.length)) →
      (Op.eqItems m e (P.cellsOf e) xs ys (List.range' i n)).run P w = .ok (all2 (xs.toList.drop (i * ks.length)) (ys.toList.drop (i * ks.length))) w
  | 0, i, hx, hy => by
    have h1 := hx.len
    have h2 := hy.len
    rw [List.replicate_zero, List.flatten_nil] at h1 h2
    rw [List.eq_nil_of_length_eq_zero h1]
    simp [Op.eqItems, all2]
  | n + 1, i, hx, hy => by
    rw [List.replicate_succ, List.flatten_cons] at hx hy
    obtain ⟨hx1, hx2⟩ := hx.split
    obtain ⟨hy1, hy2⟩ := hy.split
    rw [List.drop_drop, ← Nat.succ_mul] at hx2 hy2
    have ih := eqItemsK hk hl IH w xs ys n (i + 1) hx2 hy2
    have p1 := run_partK (off := i * P.cellsOf e) w hk hl (by rw [← hl]) hx1
    have p2 := run_partK (off := i * P.cellsOf e) w hk hl (by rw [← hl]) hy1
    have p3 := IH w _ _ hx1 hy1
    have e1 : all2 (xs.toList.drop (i * ks.length)) (ys.toList.drop (i * ks.length)) = (all2 ((xs.toList.drop (i * ks.length)).take ks.length) ((ys.toList.drop (i * ks.length)).take ks.length) && all2 (xs.toList.drop ((i + 1) * ks.length)) (ys.toList.drop ((i + 1) * ks.length))) := by
      rw [← all2_app (by rw [hx1.len, hy1.len]), Nat.succ_mul, ← List.drop_drop, ← List.drop_drop, List.take_append_drop, List.take_append_drop]
    rw [List.range'_succ]
    simp only [Op.eqItems, Sem.run_bind, p1, p2, p3, Result.andThen_ok]
    rw [e1]
    cases all2 ((xs.toList.drop (i * ks.length)).take ks.length) ((ys.toList.drop (i * ks.length)).take ks.length)
    · simp
    · simpa using ih
theorem eqFieldsK {d m : Nat} (IH : ∀ (e : TypeId) (ks : List CK), eqk P d e = some ks → ∀ (w : World) (us vs : List Value), FitsC ks us → FitsC ks vs → (Op.equalIn m e (valK P e us) (valK P e vs)).run P w = .ok (all2 us vs) w) (w : World) (xs ys : Array Value) :
    ∀ (fs : List Field) (off : Nat) (ks : List CK), eqkF P (eqk P d) off fs = some ks → FitsC ks (xs.toList.drop off) → FitsC ks (ys.toList.drop off) → (Op.eqFields m xs ys fs).run P w = .ok (all2 (xs.toList.drop off) (ys.toList.drop off)) w
  | [], off, ks, hk, hx, hy => by
    simp only [eqkF, Option.some.injEq] at hk
    subst hk
    have h1 := hx.len
    rw [List.eq_nil_of_length_eq_zero h1]
    simp [Op.eqFields, all2]
  | f :: fs, off, ks, hk, hx, hy => by
    unfold eqkF at hk
    cases hc : (f.name != "_" && Nat.beq f.offset off) with
    | false => rw [hc] at hk; cases hk
    | true =>
      rw [hc] at hk
      simp only [cond_true, Option.bind_eq_some_iff] at hk
      obtain ⟨l, hl, hk⟩ := hk
      cases hb : Nat.beq l.length (P.cellsOf f.type) with
      | false => rw [hb] at hk; cases hk
      | true =>
        rw [hb] at hk
        simp only [cond_true, Option.map_eq_some_iff] at hk
        obtain ⟨ks', hk', rfl⟩ := hk
        have hll := Nat.eq_of_beq_eq_true hb
        rw [Bool.and_eq_true] at hc
        have hn : f.name ≠ "_" := by simpa using hc.1
        have ho := Nat.eq_of_beq_eq_true hc.2
        obtain ⟨hx1, hx2⟩ := hx.split
        obtain ⟨hy1, hy2⟩ := hy.split
        rw [List.drop_drop] at hx2 hy2
        have ih := eqFieldsK IH w xs ys fs (off + l.length) ks' hk' hx2 hy2
        have p1 := run_partK (off := f.offset) w hl hll (by rw [ho]) hx1
        have p2 := run_partK (off := f.offset) w hl hll (by rw [ho]) hy1
        have p3 := IH f.type l hl w _ _ hx1 hy1
        have e1 : all2 (xs.toList.drop off) (ys.toList.drop off) = (all2 ((xs.toList.drop off).take l.length) ((ys.toList.drop off).take l.length) && all2 (xs.toList.drop (off + l.length)) (ys.toList.drop (off + l.length))) := by
          rw [← all2_app (by rw [hx1.len, hy1.len]), ← List.drop_drop, ← List.drop_drop, List.take_append_drop, List.take_append_drop]
        simp only [Op.eqFields, hn, ne_eq, not_false_eq_true, if_true, Sem.run_bind, p1, p2, p3, Result.andThen_ok]
        rw [e1]
        cases all2 ((xs.toList.drop off).take l.length) ((ys.toList.drop off).take l.length)
        · simp
        · simpa using ih
theorem equalInK (m : Nat) : ∀ (d : Nat) (t : TypeId) (ks : List CK), eqk P d t = some ks → ∀ (w : World) (us vs : List Value), FitsC ks us → FitsC ks vs → (Op.equalIn (m + d) t (valK P t us) (valK P t vs)).run P w = .ok (all2 us vs) w
  | 0, _, _, h => by cases h
  | d + 1, t, ks, h => by
    intro w us vs hu hv
    unfold eqk at h
    unfold valK
    cases hd : P.underlying t with
    | none => simp [hd] at h
    | some kd =>
      rw [hd] at h
      have one : ∀ {k : CK} {l : List Value}, FitsC [k] l → ∃ x, l = [x] ∧ FitC k x := by
        intro k l h
        match l, h with
        | [x], h => exact ⟨x, rfl, h.1⟩
      cases kd
      case bool =>
        simp at h; subst h
        obtain ⟨x, rfl, hx⟩ := one hu
        obtain ⟨y, rfl, hy⟩ := one hv
        cases x <;> simp [FitC] at hx
        cases y <;> simp [FitC] at hy
        simp [Op.equalIn, run_underlying hd, all2, ceq]
      case int q =>
        simp at h; subst h
        obtain ⟨x, rfl, hx⟩ := one hu
        obtain ⟨y, rfl, hy⟩ := one hv
        cases x <;> simp [FitC] at hx
        cases y <;> simp [FitC] at hy
        subst hx; subst hy
        simp [Op.equalIn, run_underlying hd, all2, ceq]
      case complex q =>
        cases q
        · cases h
        simp at h; subst h
        obtain ⟨x, rfl, hx⟩ := one hu
        obtain ⟨y, rfl, hy⟩ := one hv
        cases x <;> simp [FitC] at hx
        cases y <;> simp [FitC] at hy
        subst hx; subst hy
        simp [Op.equalIn, run_underlying hd, all2, ceq]
      case array n e =>
        simp only [Option.bind_eq_some_iff] at h
        obtain ⟨l, hl, h⟩ := h
        cases hb : Nat.beq l.length (P.cellsOf e) with
        | false => rw [hb] at h; cases h
        | true =>
          rw [hb] at h
          simp only [cond_true, Option.some.injEq] at h
          subst h
          obtain ⟨i, hi⟩ := info_eqk hl
          have := eqItemsK hl (Nat.eq_of_beq_eq_true hb) (equalInK m d e l hl) w us.toArray vs.toArray n 0 (by simpa using hu) (by simpa using hv)
          rw [← Nat.add_assoc, run_equalIn_array w (m + d) _ _ hd hi, List.range_eq_range', this]
          simp
      case struct fs =>
        cases hs : P.stoodInHeld t with
        | true => simp [hs] at h
        | false =>
          simp only [hs, cond_false] at h
          have hfs : P.fieldsOf t = fs := by simp [Program.fieldsOf, hd]
          have := eqFieldsK (equalInK m d) w us.toArray vs.toArray fs.toList 0 ks h (by simpa using hu) (by simpa using hv)
          rw [← Nat.add_assoc, run_equalIn_struct w (m + d) t _ _ (by rw [hfs]; exact hd) hs, hfs, this]
          simp
      all_goals (simp at h; done)
variable {ρ : Fr} {w : World} {dst : Option Nat} {ty : TypeId} {pos : String} {af : Array Edge} {gd : Option (Nat × Bool)} {x y : Operand} {t u : TypeId}
theorem run_equalC {ks : List CK} {xs ys : List Value} (hk : eqv P t = some ks) (hxs : FitsC ks xs) (hys : FitsC ks ys) : P.eqGuardType P.depth t = false ∧ (Op.equal t (.agg xs.toArray) (.agg ys.toArray)).run P w = .ok (all2 xs ys) w := by
  unfold eqv at hk
  cases hc : P.eqGuardType P.depth t with
  | true => rw [hc] at hk; cases hk
  | false =>
    rw [hc] at hk
    refine ⟨rfl, ?_⟩
    have key : ∀ kd, P.underlying t = some kd → ((∃ n e, kd = .array n e) ∨ ∃ fs, kd = .struct fs) → eqk P 5 t = some ks → (Op.equal t (.agg xs.toArray) (.agg ys.toArray)).run P w = .ok (all2 xs ys) w := by
      intro kd hd hor hk
      have := equalInK (P := P) 9995 5 t ks hk w xs ys hxs hys
      unfold valK at this
      rw [hd] at this
      rcases hor with ⟨n, e, rfl⟩ | ⟨fs, rfl⟩ <;> exact this
    simp only [cond_false] at hk
    split at hk
    · rename_i n e hd; exact key _ hd (.inl ⟨n, e, rfl⟩) hk
    · rename_i fs hd; exact key _ hd (.inr ⟨fs, rfl⟩) hk
    · cases hk
theorem k_eqlC {ks : List CK} {xs ys : List Value} {p : Bool} (hx : ev ρ x = .agg xs.toArray) (hy : ev ρ y = .agg ys.toArray) (hk : eqv P t = some ks) (hxs : FitsC ks xs) (hys : FitsC ks ys) (hp : all2 xs ys = p) :
    Run P ρ ⟨dst, .binOp .eql t x y u, ty, pos, af, gd⟩ w (.bool p) w :=
  k_bin hx hy (eqGuard_agg (run_equalC (w := w) hk hxs hys).1) (by simp [binOp, (run_equalC hk hxs hys).2, hp])
theorem k_neqC {ks : List CK} {xs ys : List Value} {p : Bool} (hx : ev ρ x = .agg xs.toArray) (hy : ev ρ y = .agg ys.toArray) (hk : eqv P t = some ks) (hxs : FitsC ks xs) (hys : FitsC ks ys) (hp : all2 xs ys = p) :
    Run P ρ ⟨dst, .binOp .neq t x y u, ty, pos, af, gd⟩ w (.bool (!p)) w :=
  k_bin hx hy (eqGuard_agg (run_equalC (w := w) hk hxs hys).1) (by simp [binOp, (run_equalC hk hxs hys).2, hp])
end
end Go.K
