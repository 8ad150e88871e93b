/- Rules for == on structs and arrays of integers and bools, for results that are variables of their own: over any program; no condition. -/
import Derived.Test.YtccnhnijglnbmaaK8
import Derived.DeepKeys
namespace Go.K
open Go Go.RowKit

/-- A type of one cell that == can be told of: an integer's kind, or none for a bool. -/
def ckind (P : Program) (e : TypeId) : Option (Option IntKind) :=
  match P.underlying e with
  | some .bool => some none
  | some (.int q) => some (some q)
  | _ => none
/-- The cells of a struct or an array of such. -/
def knds (P : Program) (t : TypeId) : Option (List (Option IntKind)) :=
  cond (P.keyTypeAt 2 t && !P.eqGuardType P.depth t)
    (match P.underlying t with
    | some (.array n e) => cond (Nat.beq (P.cellsOf t) n && Nat.beq (P.cellsOf e) 1) ((ckind P e).map (List.replicate n)) none
    | some (.struct fs) => cond (Nat.beq (P.cellsOf t) fs.size && fs.all (·.name != "_") && fs.toList.zipIdx.all fun p => Nat.beq p.1.offset p.2 && Nat.beq (P.cellsOf p.1.type) 1) (fs.toList.mapM fun f => ckind P f.type) none
    | _ => none) none
def FitK : Option IntKind → Value → Prop
  | some q, .int q' n => q' = q ∧ q.min ≤ n ∧ n ≤ q.max
  | none, .bool _ => True
  | _, _ => False
def FitsK : List (Option IntKind) → List Value → Prop
  | [], [] => True
  | k :: ks, v :: vs => FitK k v ∧ FitsK ks vs
  | _, _ => False
def litOf : Value → Lit
  | .int q n => .int q n
  | .bool b => .bool b
  | _ => .bool false
theorem litOf_inj {k : Option IntKind} {u v : Value} (hu : FitK k u) (hv : FitK k v) : litOf u = litOf v ↔ u = v := by
  cases k <;> cases u <;> simp [FitK] at hu <;> cases v <;> simp [FitK] at hv <;> simp [litOf]
theorem litsOf_inj : ∀ {ks : List (Option IntKind)} {us vs : List Value}, FitsK ks us → FitsK ks vs → (us.map litOf = vs.map litOf ↔ us = vs)
  | [], [], [], _, _ => by simp
  | k :: ks, u :: us, v :: vs, hu, hv => by simp [litOf_inj hu.1 hv.1, litsOf_inj hu.2 hv.2]
  | [], [], _ :: _, _, h => h.elim
  | [], _ :: _, _, h, _ => h.elim
  | _ :: _, [], _, h, _ => h.elim
  | _ :: _, _ :: _, [], _, h => h.elim
theorem FitsK.len : ∀ {ks : List (Option IntKind)} {us : List Value}, FitsK ks us → us.length = ks.length
  | [], [], _ => rfl
  | k :: ks, u :: us, h => by simp [FitsK.len h.2]
  | [], _ :: _, h => h.elim
  | _ :: _, [], h => h.elim
theorem fitsK_ints {q : IntKind} : ∀ {l : List Int}, (∀ x ∈ l, q.min ≤ x ∧ x ≤ q.max) → FitsK (List.replicate l.length (some q)) (l.map (Value.int q))
  | [], _ => trivial
  | x :: l, h => ⟨⟨rfl, h x (by simp)⟩, fitsK_ints fun y hy => h y (by simp [hy])⟩
section
variable {P : Program}
theorem keyLits_cell {e : TypeId} {k : Option IntKind} {v : Value} (d : Nat) (hk : ckind P e = some k) (hv : FitK k v) : P.keyLits (d + 1) e [v] = some [litOf v] := by
  unfold ckind at hk
  unfold Program.keyLits
  split at hk
  · rename_i hu
    cases hk
    cases v <;> simp [FitK] at hv
    simp [hu, litOf]
  · rename_i q hu
    cases hk
    cases v <;> simp [FitK] at hv
    obtain ⟨rfl, h1, h2⟩ := hv
    simp [hu, litOf, Lit.wf, h1, h2]
  · cases hk
theorem drop_cons {α : Type} {cs : List α} {i : Nat} {v : α} {l : List α} (h : cs.drop i = v :: l) : (cs.drop i).take 1 = [v] ∧ cs.drop (i + 1) = l := by
  refine ⟨by rw [h]; rfl, ?_⟩
  rw [← List.drop_drop, h]; rfl
theorem keyLits_array {e : TypeId} {k : Option IntKind} (d : Nat) (hk : ckind P e = some k) (cs : List Value) : ∀ (n i : Nat), FitsK (List.replicate n k) (cs.drop i) →
    (List.range' i n).mapM (fun j => P.keyLits (d + 1) e ((cs.drop j).take 1)) = some ((cs.drop i).map fun v => [litOf v])
  | 0, i, h => by
    cases hd : cs.drop i with
    | nil => simp
    | cons v l => rw [hd] at h; exact h.elim
  | n + 1, i, h => by
    cases hd : cs.drop i with
    | nil => rw [hd] at h; exact h.elim
    | cons v l =>
      obtain ⟨h1, h2⟩ := drop_cons hd
      rw [hd] at h
      have ih := keyLits_array d hk cs n (i + 1) (by rw [h2]; exact h.2)
      rw [List.range'_succ, List.mapM_cons, h1, keyLits_cell d hk h.1, ih, h2]
      rfl
theorem keyLits_fields (d : Nat) (cs : List Value) : ∀ (fs : List Field) (ks : List (Option IntKind)) (i : Nat), (fs.zipIdx i).all (fun p => Nat.beq p.1.offset p.2 && Nat.beq (P.cellsOf p.1.type) 1) = true → fs.mapM (fun f => ckind P f.type) = some ks → FitsK ks (cs.drop i) →
    fs.mapM (fun f => P.keyLits (d + 1) f.type ((cs.drop f.offset).take (P.cellsOf f.type))) = some ((cs.drop i).map fun v => [litOf v])
  | [], ks, i, _, hk, h => by
    simp at hk; subst hk
    cases hd : cs.drop i with
    | nil => simp
    | cons v l => rw [hd] at h; exact h.elim
  | f :: fs, ks, i, ha, hk, h => by
    rw [List.mapM_cons] at hk
    cases hc : ckind P f.type with
    | none => simp [hc] at hk
    | some k =>
      cases hr : fs.mapM (fun f => ckind P f.type) with
      | none => simp [hc, hr] at hk
      | some ks' =>
        simp [hc, hr] at hk
        subst hk
        cases hd : cs.drop i with
        | nil => rw [hd] at h; exact h.elim
        | cons v l =>
          obtain ⟨h1, h2⟩ := drop_cons hd
          rw [hd] at h
          simp only [List.zipIdx_cons, List.all_cons, Bool.and_eq_true] at ha
          obtain ⟨⟨ho, hs⟩, ha⟩ := ha
          have ho' : f.offset = i := Nat.eq_of_beq_eq_true ho
          have hs' : P.cellsOf f.type = 1 := Nat.eq_of_beq_eq_true hs
          have ih := keyLits_fields d cs fs ks' (i + 1) ha hr (by rw [h2]; exact h.2)
          rw [List.mapM_cons, ho', hs', h1, keyLits_cell d hc h.1, ih, h2]
          rfl
theorem flat1 (l : List Value) : (l.map fun v => [litOf v]).flatten = l.map litOf := by
  induction l with
  | nil => rfl
  | cons x l ih => simp [ih]
theorem keyLits_of {t : TypeId} {ks : List (Option IntKind)} {vs : List Value} (hk : knds P t = some ks) (hv : FitsK ks vs) : P.keyTypeAt 2 t = true ∧ P.eqGuardType P.depth t = false ∧ (Value.agg vs.toArray).formed P t = true ∧ P.keyLits 2 t vs = some (vs.map litOf) := by
  unfold knds at hk
  cases hc : (P.keyTypeAt 2 t && !P.eqGuardType P.depth t) with
  | false => rw [hc] at hk; cases hk
  | true =>
    rw [hc] at hk
    rw [Bool.and_eq_true] at hc
    refine ⟨hc.1, by simpa using hc.2, ?_⟩
    replace hk : (match P.underlying t with
      | some (.array n e) => cond (Nat.beq (P.cellsOf t) n && Nat.beq (P.cellsOf e) 1) ((ckind P e).map (List.replicate n)) none
      | some (.struct fs) => cond (Nat.beq (P.cellsOf t) fs.size && fs.all (·.name != "_") && fs.toList.zipIdx.all fun p => Nat.beq p.1.offset p.2 && Nat.beq (P.cellsOf p.1.type) 1) (fs.toList.mapM fun f => ckind P f.type) none
      | _ => none) = some ks := hk
    split at hk
    · rename_i n e hu
      cases hd : (Nat.beq (P.cellsOf t) n && Nat.beq (P.cellsOf e) 1) with
      | false => rw [hd] at hk; cases hk
      | true =>
        rw [hd] at hk
        rw [Bool.and_eq_true] at hd
        have e1 := Nat.eq_of_beq_eq_true hd.1
        have e2 := Nat.eq_of_beq_eq_true hd.2
        replace hk : (ckind P e).map (List.replicate n) = some ks := hk
        simp only [Option.map_eq_some_iff] at hk
        obtain ⟨k, hk, rfl⟩ := hk
        have hl := hv.len
        simp at hl
        have hm := keyLits_array 0 hk vs n 0 (by simpa using hv)
        simp only [List.drop_zero] at hm
        refine ⟨by simp [Value.formed, hu, e1, hl], ?_⟩
        unfold Program.keyLits
        simp only [hu, e1, e2, hl, if_true, Nat.mul_one, List.range_eq_range']
        rw [hm]
        simp [flat1]
    · rename_i fs hu
      cases hd : (Nat.beq (P.cellsOf t) fs.size && fs.all (·.name != "_") && fs.toList.zipIdx.all fun p => Nat.beq p.1.offset p.2 && Nat.beq (P.cellsOf p.1.type) 1) with
      | false => rw [hd] at hk; cases hk
      | true =>
        rw [hd] at hk
        rw [Bool.and_eq_true, Bool.and_eq_true] at hd
        have e1 := Nat.eq_of_beq_eq_true hd.1.1
        replace hk : fs.toList.mapM (fun f => ckind P f.type) = some ks := hk
        have hl := hv.len
        have hl2 : ks.length = fs.size := by
          have : ∀ (l : List Field) (ks : List (Option IntKind)), l.mapM (fun f => ckind P f.type) = some ks → ks.length = l.length := by
            intro l
            induction l with
            | nil => intro ks h; simp at h; subst h; rfl
            | cons f l ih =>
              intro ks h
              rw [List.mapM_cons] at h
              cases hc : ckind P f.type with
              | none => simp [hc] at h
              | some k =>
                cases hr : l.mapM (fun f => ckind P f.type) with
                | none => simp [hc, hr] at h
                | some ks' =>
                  simp [hc, hr] at h
                  subst h
                  simp [ih ks' hr]
          simpa using this _ _ hk
        have hm := keyLits_fields 0 vs fs.toList ks 0 hd.2 hk (by simpa using hv)
        simp only [List.drop_zero] at hm
        refine ⟨by simp [Value.formed, hu, e1, hl, hl2], ?_⟩
        unfold Program.keyLits
        simp only [hu]
        rw [if_pos ⟨by rw [e1, hl, hl2], hd.1.2⟩, hm]
        simp [flat1]
    · cases hk
variable {N : Nat} {K : Fr → World → Prop} {ρ : Fr} {w : World} {v : Value} {dst : Option Nat} {d : Nat} {ty : TypeId} {pos : String} {af : Array Edge} {gd : Option (Nat × Bool)} {x y z : Operand} {t u e : TypeId}
theorem run_equalA {ks : List (Option IntKind)} {xs ys : List Value} {p : Prop} [Decidable p] (hk : knds P t = some ks) (hxs : FitsK ks xs) (hys : FitsK ks ys) (hp : xs = ys ↔ p) : (Op.equal t (.agg xs.toArray) (.agg ys.toArray)).run P w = .ok (decide p) w := by
  obtain ⟨h1, _, h3, h4⟩ := keyLits_of hk hxs
  obtain ⟨_, _, h5, h6⟩ := keyLits_of hk hys
  obtain ⟨r, hr, hiff⟩ := run_equalIn_deep 9998 2 t h1 w 2 2 _ _ _ _ h3 h5 h4 h6
  rw [litsOf_inj hxs hys, hp] at hiff
  have : r = decide p := by
    cases r
    · exact (decide_eq_false (fun h => by simpa using hiff.2 h)).symm
    · exact (decide_eq_true (hiff.1 rfl)).symm
  rw [← this]
  exact hr
theorem eqGuard_agg {op : BinOp} {xs ys : Array Value} (h : P.eqGuardType P.depth t = false) : (eqGuard op t x y (.agg xs) (.agg ys)).run P w = .ok () w := by
  unfold eqGuard
  split <;> simp [h]
theorem k_eqlA {ks : List (Option IntKind)} {xs ys : List Value} {p : Prop} [Decidable p] (hx : ev ρ x = .agg xs.toArray) (hy : ev ρ y = .agg ys.toArray) (hk : knds P t = some ks) (hxs : FitsK ks xs) (hys : FitsK ks ys) (hp : xs = ys ↔ p) :
    Run P ρ ⟨dst, .binOp .eql t x y u, ty, pos, af, gd⟩ w (.bool (decide p)) w :=
  k_bin hx hy (eqGuard_agg (keyLits_of hk hxs).2.1) (by simp [binOp, run_equalA hk hxs hys hp])
theorem k_neqA {ks : List (Option IntKind)} {xs ys : List Value} {p : Prop} [Decidable p] (hx : ev ρ x = .agg xs.toArray) (hy : ev ρ y = .agg ys.toArray) (hk : knds P t = some ks) (hxs : FitsK ks xs) (hys : FitsK ks ys) (hp : xs = ys ↔ p) :
    Run P ρ ⟨dst, .binOp .neq t x y u, ty, pos, af, gd⟩ w (.bool (!(decide p))) w :=
  k_bin hx hy (eqGuard_agg (keyLits_of hk hxs).2.1) (by simp [binOp, run_equalA hk hxs hys hp])

/-! ### Opening arguments that are arrays or structs of integers and bools -/
section
open Go.ChangeShapes Go.WideShapes
variable {H : Type} {enc : TypeId × Value → H} {W : World} {vv : Value} {dd : DataW H} {ps : List MemPlace} {sp : Nat → Bool} {hd : Bool} {base fuel : Nat}
theorem trod_cell {k : Option IntKind} {cs : List Value} {y : DataW H × List MemPlace} (hk : ckind P e = some k) (h : DataW.trod enc P W base sp hd fuel e cs = some y) : ∃ v, cs = [v] ∧ FitK k v := by
  unfold ckind at hk
  split at hk
  · rename_i hu
    cases hk
    cases fuel with
    | zero => simp [DataW.trod] at h
    | succ m =>
      rw [DataW.trod_step] at h
      unfold DataW.trodStep at h
      rw [hu] at h
      split at h <;> first | cases h | skip
      all_goals first | (exact ⟨_, rfl, trivial⟩) | (simp_all; done)
  · rename_i q hu
    cases hk
    obtain ⟨n, rfl, _, hw⟩ := DataW.trod_int hu h
    have := fits_wf hw
    exact ⟨_, rfl, rfl, this.1, this.2⟩
  · cases hk
theorem fits_array {k : Option IntKind} {cs : List Value} (hk : ckind P e = some k) : ∀ (n i : Nat) (xs : List (DataW H × List MemPlace)), (cs.drop i).length = n → (List.range' i n).mapM (fun j => DataW.trod enc P W base sp hd fuel e ((cs.drop j).take 1)) = some xs → FitsK (List.replicate n k) (cs.drop i)
  | 0, i, xs, hl, _ => by rw [List.eq_nil_of_length_eq_zero hl]; trivial
  | n + 1, i, xs, hl, h => by
    cases hd' : cs.drop i with
    | nil => rw [hd'] at hl; simp at hl
    | cons v l =>
      obtain ⟨h1, h2⟩ := drop_cons hd'
      rw [List.range'_succ, List.mapM_cons, h1] at h
      simp only [bind, Option.bind_eq_some_iff, pure, Option.some.injEq] at h
      obtain ⟨y, hy, ys, hys, rfl⟩ := h
      obtain ⟨v', e1, hf⟩ := trod_cell hk hy
      cases e1
      rw [hd'] at hl
      have ih := fits_array hk n (i + 1) ys (by rw [h2]; simpa using hl) hys
      rw [h2] at ih
      exact ⟨hf, ih⟩
/-- An array of integers. -/
theorem rd_array {n : Nat} {q : IntKind} (ha : arr P t = some (n, (false, 1))) (hk : knds P t = some (List.replicate n (some q))) (h0 : 0 < n) {r : Reach} {b0 : Nat} (hv : Value.okWide P W r b0 t vv) (h : DataW.Trod enc P W 0 sp hd t vv dd ps) :
    ∃ l : List Int, vv = .agg (l.map (Value.int q)).toArray ∧ l.length = n ∧ ∀ x ∈ l, Fits q x := by
  obtain ⟨e, hu, hs⟩ := arr_spec ha
  unfold knds at hk
  rw [hu] at hk
  cases hc : (P.keyTypeAt 2 t && !P.eqGuardType P.depth t) with
  | false => rw [hc] at hk; cases hk
  | true =>
    rw [hc] at hk
    replace hk : cond (Nat.beq (P.cellsOf t) n && Nat.beq (P.cellsOf e) 1) ((ckind P e).map (List.replicate n)) none = some (List.replicate n (some q)) := hk
    cases hd' : (Nat.beq (P.cellsOf t) n && Nat.beq (P.cellsOf e) 1) with
    | false => rw [hd'] at hk; cases hk
    | true =>
      rw [hd'] at hk
      rw [Bool.and_eq_true] at hd'
      have e1 := Nat.eq_of_beq_eq_true hd'.1
      have e2 := Nat.eq_of_beq_eq_true hd'.2
      replace hk : (ckind P e).map (List.replicate n) = some (List.replicate n (some q)) := hk
      simp only [Option.map_eq_some_iff] at hk
      obtain ⟨k, hk, hkr⟩ := hk
      have hkq : k = some q := by
        obtain ⟨m, rfl⟩ : ∃ m, n = m + 1 := ⟨n - 1, by omega⟩
        simp only [List.replicate_succ, List.cons.injEq] at hkr
        exact hkr.1
      subst hkq
      simp only [Value.okWide, hu] at hv
      obtain ⟨cs, rfl, hsz, _⟩ := hv
      obtain ⟨fuel, hf⟩ := h
      cases fuel with
      | zero => simp [DataW.trod] at hf
      | succ m =>
        rw [DataW.trod_step] at hf
        unfold DataW.trodStep at hf
        simp only [hu, Value.cells] at hf
        split at hf
        · rename_i hl
          simp only [Option.map_eq_some_iff] at hf
          obtain ⟨ys, hy, _⟩ := hf
          rw [e1] at hl
          rw [e2, List.range_eq_range'] at hy
          simp only [Nat.mul_one] at hy
          have hF := fits_array (cs := cs.toList) hk n 0 ys (by simpa using hl) hy
          rw [List.drop_zero] at hF
          have key : ∀ (n : Nat) (cs : List Value), FitsK (List.replicate n (some q)) cs → ∃ l : List Int, cs = l.map (Value.int q) ∧ l.length = n ∧ ∀ x ∈ l, Fits q x := by
            intro n
            induction n with
            | zero => intro cs h; cases cs with
              | nil => exact ⟨[], rfl, rfl, by simp⟩
              | cons c cs => exact h.elim
            | succ n ih =>
              intro cs h
              cases cs with
              | nil => exact h.elim
              | cons c cs =>
                obtain ⟨l, rfl, hl, hx⟩ := ih cs h.2
                have h1 := h.1
                cases c <;> simp [FitK] at h1
                obtain ⟨rfl, h2, h3⟩ := h1
                exact ⟨_ :: l, rfl, by simp [hl], fun x hx' => by rcases List.mem_cons.1 hx' with rfl | hx'; exact ⟨h2, h3⟩; exact hx x hx'⟩
          obtain ⟨l, hcs, hll, hx⟩ := key n _ hF
          exact ⟨l, by rw [← hcs], hll, hx⟩
        · cases hf
end
/-! ### Results that are variables of their own -/
variable {f : FuncId} {R : Value → World → Prop} {k : List Item}
theorem run_loadA {b s : Nat} {cs : Array Value} (hB : Blk w b e cs) (hl : cs.size = s) (ht : shp P t = some (true, s)) : (loadVar t ⟨b, 0, none⟩).run P w = .ok (.agg cs) w := by
  have h1 : (loadCells (At (some ⟨b, 0, none⟩) 0) cs.toList.length).run P w = .ok cs w := by
    have := run_loadCells_list (P := P) w (At (some ⟨b, 0, none⟩) 0) cs.toList (fun i v hv => by
      have := hB.sl0.cell i v hv
      rw [show (At (some ⟨b, 0, none⟩) 0).add i = At (some ⟨b, 0, none⟩) i from by unfold At; rw [addr_add]; simp]
      exact this)
    simpa using this
  simp only [Array.length_toList, hl] at h1
  have e : At (some ⟨b, 0, none⟩) 0 = ⟨b, 0, none⟩ := rfl
  rw [e] at h1
  simp [loadVar, shp_isAgg ht, shp_size ht, h1]
theorem WS_retc1 {fn : Func} {c b s : Nat} {cs : Array Value} (hf : P.funcs[f]? = some fn) (hr : fn.results = #[.cell c t]) (hc : ρ c = .pointer (some ⟨b, 0, none⟩)) (hB : Blk w b e cs) (hl : cs.size = s) (ht : shp P t = some (true, s)) (h : R (.agg cs) w) : WS P N f R (.code .ret :: k) ρ w :=
  WS_leave hf step_ret' (fun a ha => by
    have := ha.val c
    rw [hc, Array.getD_eq_getD_getElem?] at this
    simp [results, hr, this, asAddr, run_loadA hB hl ht]) h
theorem WS_retc2 {fn : Func} {c b s r : Nat} {cs : Array Value} (hf : P.funcs[f]? = some fn) (hr : fn.results = #[.cell c t, .tmp r]) (hc : ρ c = .pointer (some ⟨b, 0, none⟩)) (hB : Blk w b e cs) (hl : cs.size = s) (ht : shp P t = some (true, s)) (h : R (.tuple #[.agg cs, ρ r]) w) : WS P N f R (.code .ret :: k) ρ w :=
  WS_leave hf step_ret' (fun a ha => by
    have h1 := ha.val c
    rw [hc, Array.getD_eq_getD_getElem?] at h1
    have h2 := ha.val r
    rw [Array.getD_eq_getD_getElem?] at h2
    simp [results, hr, h1, ← h2, asAddr, run_loadA hB hl ht]) h
end
end Go.K
