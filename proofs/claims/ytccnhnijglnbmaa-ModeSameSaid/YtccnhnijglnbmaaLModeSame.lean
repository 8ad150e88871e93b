/- The law ModeSame: which macroblocks are the same; no condition. -/
import Derived.Test.YtccnhnijglnbmaaSh
import Derived.Test.YtccnhnijglnbmaaMacro2
import Derived.Test.YtccnhnijglnbmaaLaw19
import Derived.Test.YtccnhnijglnbmaaK28
import Derived.Test.YtccnhnijglnbmaaK14
namespace Go.Proofs.Ytccnhnijglnbmaa
open Go Go.K Go.P Go.RowKit Go.Proofs Go.ChangeShapes Go.WideShapes Go.ChangeAt
theorem vec_eqv : eqv Try.prog 35 = some (List.replicate 4 .c) := by kernel_rfl
theorem lev_eqv : eqv Try.prog 37 = some (List.replicate 384 (.i .i64)) := by kernel_rfl
theorem stp_eqv : eqv Try.prog 42 = some (List.replicate 4 (.i .i64)) := by kernel_rfl
/-- Of this kind is cell i of a macroblock, whatever it is. -/
def wgood (i : Nat) (v : Value) : Prop :=
  (i = 0 → ∃ k : Nat, v = .int .u8 k) ∧ (i = 1 → ∃ q : Int, v = .int .i64 q) ∧ (2 ≤ i ∧ i < 6 → ∃ a b, v = .complex .f64 a b) ∧ (i = 6 → ∃ b : Bool, v = .bool b) ∧ (7 ≤ i → ∃ n : Int, v = .int .i64 n)
structure MW (cs : List Value) : Prop where
  len : cs.length = 391
  at' : ∀ i v, cs[i]? = some v → wgood i v
theorem MC.w {cs : List Value} (h : MC cs) : MW cs := ⟨h.len, fun i v hv => by
  obtain ⟨h0, h1, h2, h3, h4⟩ := h.at' i v hv
  refine ⟨fun e => ?_, fun e => ?_, fun e => ?_, h3, fun e => ?_⟩
  · obtain ⟨k, _, rfl⟩ := h0 e; exact ⟨k, rfl⟩
  · obtain ⟨k, _, rfl⟩ := h1 e; exact ⟨k, rfl⟩
  · obtain ⟨x, y, _, _, rfl⟩ := h2 e; exact ⟨_, _, rfl⟩
  · obtain ⟨k, _, rfl⟩ := h4 e; exact ⟨k, rfl⟩⟩
theorem MW.set {cs : List Value} (h : MW cs) {o : Nat} {v : Value} (hv : wgood o v) : MW (cs.set o v) := by
  refine ⟨by rw [List.length_set]; exact h.len, fun i u hu => ?_⟩
  by_cases hio : o = i
  · subst hio
    by_cases hl : o < cs.length
    · rw [List.getElem?_set_self hl] at hu
      obtain rfl := Option.some.inj hu
      exact hv
    · rw [List.getElem?_eq_none (by rw [List.length_set]; omega)] at hu
      cases hu
  · rw [List.getElem?_set_ne hio] at hu
    exact h.at' i u hu
theorem MW.get {cs : List Value} (h : MW cs) {i : Nat} (hi : i < 391) : ∃ v, cs[i]? = some v ∧ wgood i v := ⟨cs[i]'(by rw [h.len]; exact hi), List.getElem?_eq_getElem _, h.at' i _ (List.getElem?_eq_getElem _)⟩
/-- A macroblock's cells by their parts. -/
structure MP (cs : List Value) (k : Nat) (q : Int) (vs : List Value) (e : Bool) (ls : List Value) : Prop where
  eq : cs = .int .u8 k :: .int .i64 q :: (vs ++ (.bool e :: ls))
  vl : vs.length = 4
  vg : ∀ u ∈ vs, ∃ a b, u = .complex .f64 a b
  ll : ls.length = 384
  lg : ∀ u ∈ ls, ∃ n : Int, u = .int .i64 n
theorem MW.mp {cs : List Value} (h : MW cs) : ∃ k q vs e ls, MP cs k q vs e ls := by
  obtain ⟨v0, hk, hg0⟩ := h.get (show 0 < 391 by decide)
  obtain ⟨k, rfl⟩ := hg0.1 rfl
  obtain ⟨v1, hq, hg1⟩ := h.get (show 1 < 391 by decide)
  obtain ⟨q, rfl⟩ := hg1.2.1 rfl
  obtain ⟨v6, he, hg6⟩ := h.get (show 6 < 391 by decide)
  obtain ⟨e, rfl⟩ := hg6.2.2.2.1 rfl
  have hl := h.len
  refine ⟨k, q, (cs.drop 2).take 4, e, cs.drop 7, ⟨?_, by simp; omega, fun u hu => ?_, by simp; omega, fun u hu => ?_⟩⟩
  · refine List.ext_getElem? (fun i => ?_)
    by_cases h0 : i = 0
    · subst h0; exact hk
    by_cases h1 : i = 1
    · subst h1; exact hq
    obtain ⟨j, rfl⟩ : ∃ j, i = j + 2 := ⟨i - 2, by omega⟩
    rw [List.getElem?_cons_succ, List.getElem?_cons_succ]
    by_cases h4 : j < 4
    · rw [List.getElem?_append_left (by simp; omega), List.getElem?_take, if_pos h4, List.getElem?_drop, Nat.add_comm]
    · rw [List.getElem?_append_right (by simp; omega)]
      have e4 : ((cs.drop 2).take 4).length = 4 := by simp; omega
      rw [e4]
      by_cases h5 : j = 4
      · subst h5; exact he
      · obtain ⟨m, rfl⟩ : ∃ m, j = m + 5 := ⟨j - 5, by omega⟩
        rw [show m + 5 - 4 = m + 1 by omega, List.getElem?_cons_succ, List.getElem?_drop]
        congr 1; omega
  · obtain ⟨i, hi⟩ := List.mem_iff_getElem?.1 hu
    rw [List.getElem?_take] at hi
    split at hi
    · rw [List.getElem?_drop] at hi
      exact (h.at' _ u hi).2.2.1 (by omega)
    · cases hi
  · obtain ⟨i, hi⟩ := List.mem_iff_getElem?.1 hu
    rw [List.getElem?_drop] at hi
    exact (h.at' _ u hi).2.2.2.2 (by omega)
theorem vg_fits {vs : List Value} (hl : vs.length = 4) (hv : ∀ u ∈ vs, ∃ a b, u = .complex .f64 a b) : FitsC (List.replicate 4 .c) vs := by
  rw [← hl]
  exact FitsC.rep (fun u hu => by obtain ⟨x, y, rfl⟩ := hv u hu; rfl)
theorem lg_fits {ls : List Value} (hl : ls.length = 384) (hv : ∀ u ∈ ls, ∃ n : Int, u = .int .i64 n) : FitsC (List.replicate 384 (.i .i64)) ls := by
  rw [← hl]
  exact FitsC.rep (fun u hu => by obtain ⟨n, rfl⟩ := hv u hu; rfl)
theorem MP.same {cs ds : List Value} {k k' : Nat} {q q' : Int} {vs vs' : List Value} {e e' : Bool} {ls ls' : List Value} (h : MP cs k q vs e ls) (h' : MP ds k' q' vs' e' ls') : all2 cs ds = (decide (k = k') && (decide (q = q') && (all2 vs vs' && (decide (e = e') && all2 ls ls')))) := by
  rw [h.eq, h'.eq]
  simp only [all2, ceq]
  rw [all2_app (by rw [h.vl, h'.vl])]
  simp only [all2, ceq]
  have e1 : ((k : Int) == (k' : Int)) = decide (k = k') := by
    by_cases hk : k = k' <;> simp [hk]
    omega
  have e2 : (e == e') = decide (e = e') := by cases e <;> cases e' <;> rfl
  have e3 : (q == q') = decide (q = q') := by by_cases hq : q = q' <;> simp [hq]
  rw [e1, e2, e3]
section
variable {cs : List Value} {k : Nat} {q : Int} {vs : List Value} {e : Bool} {ls : List Value} (h : MP cs k q vs e ls)
theorem MP.g0 (h : MP cs k q vs e ls) : cs[0]? = some (.int .u8 k) := by rw [h.eq]; rfl
theorem MP.g1 (h : MP cs k q vs e ls) : cs[1]? = some (.int .i64 q) := by rw [h.eq]; rfl
theorem MP.g6 (h : MP cs k q vs e ls) : cs[6]? = some (.bool e) := by
  rw [h.eq, List.getElem?_cons_succ, List.getElem?_cons_succ, List.getElem?_append_right (by rw [h.vl]; decide), h.vl]; rfl
theorem MP.g2 (h : MP cs k q vs e ls) : (cs.drop (0 + 2)).take 4 = vs := by
  rw [h.eq]
  show (vs ++ (.bool e :: ls)).take 4 = vs
  exact List.take_left' h.vl
theorem MP.g7 (h : MP cs k q vs e ls) : (cs.drop (0 + 7)).take 384 = ls := by
  rw [h.eq]
  show ((vs ++ ([Value.bool e] ++ ls)).drop 5).take 384 = ls
  rw [← List.append_assoc, List.drop_left' (by simp [h.vl]), List.take_of_length_le (by rw [h.ll]; exact Nat.le_refl _)]
end
set_option maxRecDepth 20000 in
set_option maxHeartbeats 4000000 in
theorem same_spec {cs ds : List Value} {w : World} (hc : MW cs) (hd : MW ds) : Does Try.prog 10 #[.agg cs.toArray, .agg ds.toArray] w fun v w' => v = .bool (all2 cs ds) ∧ Ext [] w w' := by
  refine Does_of (args := [_, _]) Try.func10 rfl rfl Try.ntmps10 rfl ?_
  have hH := Hp.start w
  repeat (first | refine WS_seq ?_ | refine WS_region ?_)
  refine WL_s (H_box (cs := cs.toArray) hH rfl rfl rfl ?_)
  try clear hH
  intro w1 b1 hH
  change Hp _ _ _ [_] at hH
  skip
  refine WL_s (H_box (cs := ds.toArray) hH rfl rfl rfl ?_)
  try clear hH
  intro w2 b2 hH
  change Hp _ _ _ [_, _] at hH
  have hS1 : SlA w2 (some ⟨b1, 0, none⟩) cs := (hH.b 0 rfl).sl0
  have hS2 : SlA w2 (some ⟨b2, 0, none⟩) ds := (hH.b 1 rfl).sl0
  obtain ⟨k, q, vs, e, ls, h1⟩ := hc.mp
  obtain ⟨k', q', vs', e', ls', h2⟩ := hd.mp
  have hsm := h1.same h2
  by_cases hk : k = k'
  · rw [decide_eq_true hk, Bool.true_and] at hsm
    by_cases hq : q = q'
    · rw [decide_eq_true hq, Bool.true_and] at hsm
      cases hv : all2 vs vs' with
      | true =>
        rw [hv, Bool.true_and] at hsm
        by_cases he' : e = e'
        · rw [decide_eq_true he', Bool.true_and] at hsm
          have he : (e == e') = true := by simpa using he'
          repeat (first | refine WS_seq ?_ | refine WS_region ?_ | refine WL_nil ?_ | refine WL_gyes rfl rfl rfl ?_ | (refine WL_r (by first | refine k_fa rfl (Ty.fld rfl rfl) | refine k_loads rfl hS1 h1.g0 (Ty.shp rfl) | refine k_loads rfl hS2 h2.g0 (Ty.shp rfl) | refine k_loads rfl hS1 h1.g1 (Ty.shp rfl) | refine k_loads rfl hS2 h2.g1 (Ty.shp rfl) | refine k_loads rfl hS1 h1.g6 (Ty.shp rfl) | refine k_loads rfl hS2 h2.g6 (Ty.shp rfl) | refine k_loadC (j := 0 + 2) rfl hS1 h1.g2 h1.vl (Ty.shp rfl) | refine k_loadC (j := 0 + 2) rfl hS2 h2.g2 h2.vl (Ty.shp rfl) | refine k_loadC (j := 0 + 7) rfl hS1 h1.g7 h1.ll (Ty.shp rfl) | refine k_loadC (j := 0 + 7) rfl hS2 h2.g7 h2.ll (Ty.shp rfl) | refine (k_eql (q := .u8) rfl rfl).is (bT (by omega)) | refine (k_eql (q := .i64) rfl rfl).is (bT (by omega)) | refine k_eqlC rfl rfl vec_eqv (vg_fits h1.vl h1.vg) (vg_fits h2.vl h2.vg) hv | refine (k_eqlb rfl rfl (by kernel_rfl)).is (congrArg Value.bool he) | refine k_eqlC rfl rfl lev_eqv (lg_fits h1.ll h1.lg) (lg_fits h2.ll h2.lg) rfl | refine Run_pev rfl | apply k_makeFunc) rfl ?_))
          exact WS_ret1 Try.func10 rfl ⟨congrArg Value.bool hsm.symm, hH.ext⟩
        · rw [decide_eq_false he', Bool.false_and] at hsm
          have he : (e == e') = false := by simpa using he'
          repeat (first | refine WS_seq ?_ | refine WS_region ?_ | refine WL_nil ?_ | refine WL_gyes rfl rfl rfl ?_ | refine WL_gno rfl rfl rfl rfl rfl ?_ | (refine WL_r (by first | refine k_fa rfl (Ty.fld rfl rfl) | refine k_loads rfl hS1 h1.g0 (Ty.shp rfl) | refine k_loads rfl hS2 h2.g0 (Ty.shp rfl) | refine k_loads rfl hS1 h1.g1 (Ty.shp rfl) | refine k_loads rfl hS2 h2.g1 (Ty.shp rfl) | refine k_loads rfl hS1 h1.g6 (Ty.shp rfl) | refine k_loads rfl hS2 h2.g6 (Ty.shp rfl) | refine k_loadC (j := 0 + 2) rfl hS1 h1.g2 h1.vl (Ty.shp rfl) | refine k_loadC (j := 0 + 2) rfl hS2 h2.g2 h2.vl (Ty.shp rfl) | refine (k_eql (q := .u8) rfl rfl).is (bT (by omega)) | refine (k_eql (q := .i64) rfl rfl).is (bT (by omega)) | refine k_eqlC rfl rfl vec_eqv (vg_fits h1.vl h1.vg) (vg_fits h2.vl h2.vg) hv | refine (k_eqlb rfl rfl (by kernel_rfl)).is (congrArg Value.bool he) | refine Run_pev rfl | apply k_makeFunc) rfl ?_))
          exact WS_ret1 Try.func10 rfl ⟨congrArg Value.bool hsm.symm, hH.ext⟩
      | false =>
        rw [hv, Bool.false_and] at hsm
        repeat (first | refine WS_seq ?_ | refine WS_region ?_ | refine WL_nil ?_ | refine WL_gyes rfl rfl rfl ?_ | refine WL_gno rfl rfl rfl rfl rfl ?_ | (refine WL_r (by first | refine k_fa rfl (Ty.fld rfl rfl) | refine k_loads rfl hS1 h1.g0 (Ty.shp rfl) | refine k_loads rfl hS2 h2.g0 (Ty.shp rfl) | refine k_loads rfl hS1 h1.g1 (Ty.shp rfl) | refine k_loads rfl hS2 h2.g1 (Ty.shp rfl) | refine k_loadC (j := 0 + 2) rfl hS1 h1.g2 h1.vl (Ty.shp rfl) | refine k_loadC (j := 0 + 2) rfl hS2 h2.g2 h2.vl (Ty.shp rfl) | refine (k_eql (q := .u8) rfl rfl).is (bT (by omega)) | refine (k_eql (q := .i64) rfl rfl).is (bT (by omega)) | refine k_eqlC rfl rfl vec_eqv (vg_fits h1.vl h1.vg) (vg_fits h2.vl h2.vg) hv | refine Run_pev rfl | apply k_makeFunc) rfl ?_))
        exact WS_ret1 Try.func10 rfl ⟨congrArg Value.bool hsm.symm, hH.ext⟩
    · rw [decide_eq_false hq, Bool.false_and] at hsm
      repeat (first | refine WS_seq ?_ | refine WS_region ?_ | refine WL_nil ?_ | refine WL_gyes rfl rfl rfl ?_ | refine WL_gno rfl rfl rfl rfl rfl ?_ | (refine WL_r (by first | refine k_fa rfl (Ty.fld rfl rfl) | refine k_loads rfl hS1 h1.g0 (Ty.shp rfl) | refine k_loads rfl hS2 h2.g0 (Ty.shp rfl) | refine k_loads rfl hS1 h1.g1 (Ty.shp rfl) | refine k_loads rfl hS2 h2.g1 (Ty.shp rfl) | refine (k_eql (q := .u8) rfl rfl).is (bT (by omega)) | refine (k_eql (q := .i64) rfl rfl).is (bF (by omega)) | refine Run_pev rfl | apply k_makeFunc) rfl ?_))
      exact WS_ret1 Try.func10 rfl ⟨congrArg Value.bool hsm.symm, hH.ext⟩
  · rw [decide_eq_false hk, Bool.false_and] at hsm
    repeat (first | refine WS_seq ?_ | refine WS_region ?_ | refine WL_nil ?_ | refine WL_gno rfl rfl rfl rfl rfl ?_ | (refine WL_r (by first | refine k_fa rfl (Ty.fld rfl rfl) | refine k_loads rfl hS1 h1.g0 (Ty.shp rfl) | refine k_loads rfl hS2 h2.g0 (Ty.shp rfl) | refine (k_eql (q := .u8) rfl rfl).is (bF (by omega)) | refine Run_pev rfl | apply k_makeFunc) rfl ?_))
    exact WS_ret1 Try.func10 rfl ⟨congrArg Value.bool hsm.symm, hH.ext⟩
/-! ### Cells held against themselves, and with one turned -/
theorem MC.ceq {cs : List Value} (h : MC cs) : ∀ v ∈ cs, K.ceq v v = true := fun v hv => by
  obtain ⟨i, hi⟩ := List.mem_iff_getElem?.1 hv
  obtain ⟨h0, h1, h2, h3, h4⟩ := h.at' i v hi
  rcases (show i = 0 ∨ i = 1 ∨ (2 ≤ i ∧ i < 6) ∨ i = 6 ∨ 7 ≤ i by omega) with h | h | h | h | h
  · obtain ⟨_, _, rfl⟩ := h0 h; simp [K.ceq]
  · obtain ⟨_, _, rfl⟩ := h1 h; simp [K.ceq]
  · obtain ⟨x, y, hx, hy, rfl⟩ := h2 h
    show (feq (FN x) (FN x) && feq (FN y) (FN y)) = true
    rw [feq_FN x (by omega), feq_FN y (by omega)]; rfl
  · obtain ⟨_, rfl⟩ := h3 h; simp [K.ceq]
  · obtain ⟨_, _, rfl⟩ := h4 h; simp [K.ceq]
theorem add_one {x : Int} (h : -31 ≤ x ∧ x ≤ 31) : ∃ r, FloatKind.f64.format.add (FN x) 4607182418800017408 = some r ∧ feq (FN x) r = false := by
  have key : ∀ i : Nat, i < 63 → (match FloatKind.f64.format.add (FN ((i : Int) - 31)) 4607182418800017408 with | some r => !feq (FN ((i : Int) - 31)) r | none => false) = true := by decide +kernel
  have := key (x + 31).toNat (by omega)
  rw [show (((x + 31).toNat : Nat) : Int) - 31 = x by omega] at this
  split at this
  · rename_i r hr
    exact ⟨r, hr, by simpa using this⟩
  · cases this
theorem add_nil {x : Int} (h : -31 ≤ x ∧ x ≤ 31) : ∃ r, FloatKind.f64.format.add (FN x) 0 = some r := by
  have key : ∀ i : Nat, i < 63 → (FloatKind.f64.format.add (FN ((i : Int) - 31)) 0).isSome = true := by decide +kernel
  have := key (x + 31).toNat (by omega)
  rw [show (((x + 31).toNat : Nat) : Int) - 31 = x by omega] at this
  exact Option.isSome_iff_exists.1 this
theorem joinM {A : Prop} {Y : Fr → List Value → List Value → Nat → Nat → World → Prop} (Z : List Value → List Value → Nat → Nat → World → Prop) (h1 : (∀ σ cs ds b c u, Z cs ds b c u → Y σ cs ds b c u) → A) (h2 : ∀ σ cs ds b c u, Z cs ds b c u → Y σ cs ds b c u) : A := h1 h2
set_option maxRecDepth 20000 in
set_option maxHeartbeats 8000000 in
theorem msame_spec {zs ts : List Value} {inter : Bool} {wh : Nat} {w : World} (hzs : ZM zs) (hts : ZM ts) :
    Does Try.prog 3 #[.agg zs.toArray, .agg ts.toArray, .bool inter, .int .u8 wh] w fun v w' => v = .bool true ∧ Ext [] w w' := by
  refine Does_of (args := [_, _, _, _]) Try.func3 rfl rfl Try.ntmps3 rfl ?_
  have hH := Hp.start w
  repeat (first | refine WS_seq ?_ | refine WS_region ?_)
  refine WL_s (H_box (cs := zs.toArray) hH rfl rfl rfl ?_)
  try clear hH
  intro w1 b4 hH
  change Hp _ _ _ [_] at hH
  skip
  refine WL_s (H_box (cs := ts.toArray) hH rfl rfl rfl ?_)
  try clear hH
  intro w2 b5 hH
  change Hp _ _ _ [_, _] at hH
  repeat (first | refine WS_seq ?_ | refine WS_region ?_ | refine WL_nil ?_ | (refine WL_r (by refine Run_pev rfl) rfl ?_))
  try refine WL_gyes rfl rfl rfl ?_
  refine WL_s (S_call (awake19 w2) rfl rfl ?_)
  rintro v wd ⟨rfl, hW1⟩
  replace hH := hH.ext0 hW1
  clear hW1
  have hB4 : Blk wd b4 30 zs.toArray := hH.b 0 rfl
  have hB5 : Blk wd b5 30 ts.toArray := hH.b 1 rfl
  repeat (first | refine WS_seq ?_ | refine WL_nil ?_ | refine WS_skip ?_ | refine WS_false rfl ?_ | (refine WL_r (by first | refine Run_pev rfl | apply k_makeFunc) rfl ?_))
  apply joinM (Z := fun cs ds b9 b10 u => MC cs ∧ MC ds ∧ Hp [] wd u [Rb b9 39 (mk0 0 0).toArray, Rb b10 39 (mk0 0 0).toArray])
  · intro key
    refine WS_tailS Ty.mixed 8 rfl (by kernel_rfl) rfl (fun u => Ext [] wd u) ?_
    have hG := (Hp.start wd).ext0 Ext.drew0
    have hx0 := hG.ext
    refine WA_take 0 rfl (by kernel_rfl) hx0 rfl rfl (fun w' hw' => by refine k_loadA rfl (hB4.ext0 hw') (by simpa using hzs.len) (Ty.shp rfl)) ?_
    refine WA_take 1 rfl (by kernel_rfl) hx0 rfl rfl (fun w' hw' => by refine Run_pev rfl) ?_
    refine WA_take 3 rfl (by kernel_rfl) hx0 rfl rfl (fun w' hw' => by refine k_loadA rfl (hB5.ext0 hw') (by simpa using hts.len) (Ty.shp rfl)) ?_
    refine WA_take 4 rfl (by kernel_rfl) hx0 rfl rfl (fun w' hw' => by refine Run_pev rfl) ?_
    refine WA_three 2 6 7 (by kernel_rfl) rfl rfl rfl rfl rfl rfl ?_ ?_ ?_
    · skip
      skip
      refine S_call (macro_spec hzs) rfl rfl ?_
      rintro _ u ⟨cs, hM, rfl, hE⟩
      replace hG := hG.ext0 hE
      refine ⟨hG.ext, ?_⟩
      refine WA_three 5 6 7 (by kernel_rfl) rfl rfl rfl rfl rfl rfl ?_ ?_ ?_
      · skip
        skip
        refine S_call (macro_spec hts) rfl rfl ?_
        rintro _ u ⟨ds, hM2, rfl, hE⟩
        replace hG := hG.ext0 hE
        refine ⟨hG.ext, ?_⟩
        refine WA_two 6 7 (by kernel_rfl) rfl rfl rfl rfl ?_ ?_
        · skip
          skip
          refine H_alloc (zs := mk0 0 0) hG (Ty.zer rfl) rfl ?_
          intro u b9 hG
          refine ⟨hG.ext, ?_⟩
          refine WA_one 7 (by kernel_rfl) rfl rfl ?_
          skip
          refine H_alloc (zs := mk0 0 0) hG (Ty.zer rfl) rfl ?_
          intro u b10 hG
          refine ⟨hG.ext, ?_⟩
          refine WA_done (by kernel_rfl) ?_
          refine WL_keep [(2, .bool inter), (3, .int .u8 wh), (9, pm b9), (10, pm b10), (17, .agg cs.toArray), (20, .agg ds.toArray)] ⟨rfl, rfl, rfl, rfl, rfl, rfl, trivial⟩ (fun σ => ?_)
          exact key σ cs ds b9 b10 u ⟨hM, hM2, hG⟩
        · skip
          skip
          refine H_alloc (zs := mk0 0 0) hG (Ty.zer rfl) rfl ?_
          intro u b10 hG
          refine ⟨hG.ext, ?_⟩
          refine WA_one 6 (by kernel_rfl) rfl rfl ?_
          skip
          refine H_alloc (zs := mk0 0 0) hG (Ty.zer rfl) rfl ?_
          intro u b9 hG
          refine ⟨hG.ext, ?_⟩
          refine WA_done (by kernel_rfl) ?_
          refine WL_keep [(2, .bool inter), (3, .int .u8 wh), (9, pm b9), (10, pm b10), (17, .agg cs.toArray), (20, .agg ds.toArray)] ⟨rfl, rfl, rfl, rfl, rfl, rfl, trivial⟩ (fun σ => ?_)
          exact key σ cs ds b9 b10 u ⟨hM, hM2, hG.swap (List.Perm.swap _ _ _)⟩
      · skip
        skip
        refine H_alloc (zs := mk0 0 0) hG (Ty.zer rfl) rfl ?_
        intro u b9 hG
        refine ⟨hG.ext, ?_⟩
        refine WA_two 5 7 (by kernel_rfl) rfl rfl rfl rfl ?_ ?_
        · skip
          skip
          refine S_call (macro_spec hts) rfl rfl ?_
          rintro _ u ⟨ds, hM2, rfl, hE⟩
          replace hG := hG.ext0 hE
          refine ⟨hG.ext, ?_⟩
          refine WA_one 7 (by kernel_rfl) rfl rfl ?_
          skip
          refine H_alloc (zs := mk0 0 0) hG (Ty.zer rfl) rfl ?_
          intro u b10 hG
          refine ⟨hG.ext, ?_⟩
          refine WA_done (by kernel_rfl) ?_
          refine WL_keep [(2, .bool inter), (3, .int .u8 wh), (9, pm b9), (10, pm b10), (17, .agg cs.toArray), (20, .agg ds.toArray)] ⟨rfl, rfl, rfl, rfl, rfl, rfl, trivial⟩ (fun σ => ?_)
          exact key σ cs ds b9 b10 u ⟨hM, hM2, hG⟩
        · skip
          skip
          refine H_alloc (zs := mk0 0 0) hG (Ty.zer rfl) rfl ?_
          intro u b10 hG
          refine ⟨hG.ext, ?_⟩
          refine WA_one 5 (by kernel_rfl) rfl rfl ?_
          skip
          refine S_call (macro_spec hts) rfl rfl ?_
          rintro _ u ⟨ds, hM2, rfl, hE⟩
          replace hG := hG.ext0 hE
          refine ⟨hG.ext, ?_⟩
          refine WA_done (by kernel_rfl) ?_
          refine WL_keep [(2, .bool inter), (3, .int .u8 wh), (9, pm b9), (10, pm b10), (17, .agg cs.toArray), (20, .agg ds.toArray)] ⟨rfl, rfl, rfl, rfl, rfl, rfl, trivial⟩ (fun σ => ?_)
          exact key σ cs ds b9 b10 u ⟨hM, hM2, hG⟩
      · skip
        skip
        refine H_alloc (zs := mk0 0 0) hG (Ty.zer rfl) rfl ?_
        intro u b10 hG
        refine ⟨hG.ext, ?_⟩
        refine WA_two 5 6 (by kernel_rfl) rfl rfl rfl rfl ?_ ?_
        · skip
          skip
          refine S_call (macro_spec hts) rfl rfl ?_
          rintro _ u ⟨ds, hM2, rfl, hE⟩
          replace hG := hG.ext0 hE
          refine ⟨hG.ext, ?_⟩
          refine WA_one 6 (by kernel_rfl) rfl rfl ?_
          skip
          refine H_alloc (zs := mk0 0 0) hG (Ty.zer rfl) rfl ?_
          intro u b9 hG
          refine ⟨hG.ext, ?_⟩
          refine WA_done (by kernel_rfl) ?_
          refine WL_keep [(2, .bool inter), (3, .int .u8 wh), (9, pm b9), (10, pm b10), (17, .agg cs.toArray), (20, .agg ds.toArray)] ⟨rfl, rfl, rfl, rfl, rfl, rfl, trivial⟩ (fun σ => ?_)
          exact key σ cs ds b9 b10 u ⟨hM, hM2, hG.swap (List.Perm.swap _ _ _)⟩
        · skip
          skip
          refine H_alloc (zs := mk0 0 0) hG (Ty.zer rfl) rfl ?_
          intro u b9 hG
          refine ⟨hG.ext, ?_⟩
          refine WA_one 5 (by kernel_rfl) rfl rfl ?_
          skip
          refine S_call (macro_spec hts) rfl rfl ?_
          rintro _ u ⟨ds, hM2, rfl, hE⟩
          replace hG := hG.ext0 hE
          refine ⟨hG.ext, ?_⟩
          refine WA_done (by kernel_rfl) ?_
          refine WL_keep [(2, .bool inter), (3, .int .u8 wh), (9, pm b9), (10, pm b10), (17, .agg cs.toArray), (20, .agg ds.toArray)] ⟨rfl, rfl, rfl, rfl, rfl, rfl, trivial⟩ (fun σ => ?_)
          exact key σ cs ds b9 b10 u ⟨hM, hM2, hG.swap (List.Perm.swap _ _ _)⟩
    · skip
      skip
      refine H_alloc (zs := mk0 0 0) hG (Ty.zer rfl) rfl ?_
      intro u b9 hG
      refine ⟨hG.ext, ?_⟩
      refine WA_two 2 7 (by kernel_rfl) rfl rfl rfl rfl ?_ ?_
      · skip
        skip
        refine S_call (macro_spec hzs) rfl rfl ?_
        rintro _ u ⟨cs, hM, rfl, hE⟩
        replace hG := hG.ext0 hE
        refine ⟨hG.ext, ?_⟩
        refine WA_two 5 7 (by kernel_rfl) rfl rfl rfl rfl ?_ ?_
        · skip
          skip
          refine S_call (macro_spec hts) rfl rfl ?_
          rintro _ u ⟨ds, hM2, rfl, hE⟩
          replace hG := hG.ext0 hE
          refine ⟨hG.ext, ?_⟩
          refine WA_one 7 (by kernel_rfl) rfl rfl ?_
          skip
          refine H_alloc (zs := mk0 0 0) hG (Ty.zer rfl) rfl ?_
          intro u b10 hG
          refine ⟨hG.ext, ?_⟩
          refine WA_done (by kernel_rfl) ?_
          refine WL_keep [(2, .bool inter), (3, .int .u8 wh), (9, pm b9), (10, pm b10), (17, .agg cs.toArray), (20, .agg ds.toArray)] ⟨rfl, rfl, rfl, rfl, rfl, rfl, trivial⟩ (fun σ => ?_)
          exact key σ cs ds b9 b10 u ⟨hM, hM2, hG⟩
        · skip
          skip
          refine H_alloc (zs := mk0 0 0) hG (Ty.zer rfl) rfl ?_
          intro u b10 hG
          refine ⟨hG.ext, ?_⟩
          refine WA_one 5 (by kernel_rfl) rfl rfl ?_
          skip
          refine S_call (macro_spec hts) rfl rfl ?_
          rintro _ u ⟨ds, hM2, rfl, hE⟩
          replace hG := hG.ext0 hE
          refine ⟨hG.ext, ?_⟩
          refine WA_done (by kernel_rfl) ?_
          refine WL_keep [(2, .bool inter), (3, .int .u8 wh), (9, pm b9), (10, pm b10), (17, .agg cs.toArray), (20, .agg ds.toArray)] ⟨rfl, rfl, rfl, rfl, rfl, rfl, trivial⟩ (fun σ => ?_)
          exact key σ cs ds b9 b10 u ⟨hM, hM2, hG⟩
      · skip
        skip
        refine H_alloc (zs := mk0 0 0) hG (Ty.zer rfl) rfl ?_
        intro u b10 hG
        refine ⟨hG.ext, ?_⟩
        refine WA_one 2 (by kernel_rfl) rfl rfl ?_
        skip
        refine S_call (macro_spec hzs) rfl rfl ?_
        rintro _ u ⟨cs, hM, rfl, hE⟩
        replace hG := hG.ext0 hE
        refine ⟨hG.ext, ?_⟩
        refine WA_one 5 (by kernel_rfl) rfl rfl ?_
        skip
        refine S_call (macro_spec hts) rfl rfl ?_
        rintro _ u ⟨ds, hM2, rfl, hE⟩
        replace hG := hG.ext0 hE
        refine ⟨hG.ext, ?_⟩
        refine WA_done (by kernel_rfl) ?_
        refine WL_keep [(2, .bool inter), (3, .int .u8 wh), (9, pm b9), (10, pm b10), (17, .agg cs.toArray), (20, .agg ds.toArray)] ⟨rfl, rfl, rfl, rfl, rfl, rfl, trivial⟩ (fun σ => ?_)
        exact key σ cs ds b9 b10 u ⟨hM, hM2, hG⟩
    · skip
      skip
      refine H_alloc (zs := mk0 0 0) hG (Ty.zer rfl) rfl ?_
      intro u b10 hG
      refine ⟨hG.ext, ?_⟩
      refine WA_two 2 6 (by kernel_rfl) rfl rfl rfl rfl ?_ ?_
      · skip
        skip
        refine S_call (macro_spec hzs) rfl rfl ?_
        rintro _ u ⟨cs, hM, rfl, hE⟩
        replace hG := hG.ext0 hE
        refine ⟨hG.ext, ?_⟩
        refine WA_two 5 6 (by kernel_rfl) rfl rfl rfl rfl ?_ ?_
        · skip
          skip
          refine S_call (macro_spec hts) rfl rfl ?_
          rintro _ u ⟨ds, hM2, rfl, hE⟩
          replace hG := hG.ext0 hE
          refine ⟨hG.ext, ?_⟩
          refine WA_one 6 (by kernel_rfl) rfl rfl ?_
          skip
          refine H_alloc (zs := mk0 0 0) hG (Ty.zer rfl) rfl ?_
          intro u b9 hG
          refine ⟨hG.ext, ?_⟩
          refine WA_done (by kernel_rfl) ?_
          refine WL_keep [(2, .bool inter), (3, .int .u8 wh), (9, pm b9), (10, pm b10), (17, .agg cs.toArray), (20, .agg ds.toArray)] ⟨rfl, rfl, rfl, rfl, rfl, rfl, trivial⟩ (fun σ => ?_)
          exact key σ cs ds b9 b10 u ⟨hM, hM2, hG.swap (List.Perm.swap _ _ _)⟩
        · skip
          skip
          refine H_alloc (zs := mk0 0 0) hG (Ty.zer rfl) rfl ?_
          intro u b9 hG
          refine ⟨hG.ext, ?_⟩
          refine WA_one 5 (by kernel_rfl) rfl rfl ?_
          skip
          refine S_call (macro_spec hts) rfl rfl ?_
          rintro _ u ⟨ds, hM2, rfl, hE⟩
          replace hG := hG.ext0 hE
          refine ⟨hG.ext, ?_⟩
          refine WA_done (by kernel_rfl) ?_
          refine WL_keep [(2, .bool inter), (3, .int .u8 wh), (9, pm b9), (10, pm b10), (17, .agg cs.toArray), (20, .agg ds.toArray)] ⟨rfl, rfl, rfl, rfl, rfl, rfl, trivial⟩ (fun σ => ?_)
          exact key σ cs ds b9 b10 u ⟨hM, hM2, hG.swap (List.Perm.swap _ _ _)⟩
      · skip
        skip
        refine H_alloc (zs := mk0 0 0) hG (Ty.zer rfl) rfl ?_
        intro u b9 hG
        refine ⟨hG.ext, ?_⟩
        refine WA_one 2 (by kernel_rfl) rfl rfl ?_
        skip
        refine S_call (macro_spec hzs) rfl rfl ?_
        rintro _ u ⟨cs, hM, rfl, hE⟩
        replace hG := hG.ext0 hE
        refine ⟨hG.ext, ?_⟩
        refine WA_one 5 (by kernel_rfl) rfl rfl ?_
        skip
        refine S_call (macro_spec hts) rfl rfl ?_
        rintro _ u ⟨ds, hM2, rfl, hE⟩
        replace hG := hG.ext0 hE
        refine ⟨hG.ext, ?_⟩
        refine WA_done (by kernel_rfl) ?_
        refine WL_keep [(2, .bool inter), (3, .int .u8 wh), (9, pm b9), (10, pm b10), (17, .agg cs.toArray), (20, .agg ds.toArray)] ⟨rfl, rfl, rfl, rfl, rfl, rfl, trivial⟩ (fun σ => ?_)
        exact key σ cs ds b9 b10 u ⟨hM, hM2, hG.swap (List.Perm.swap _ _ _)⟩
  rintro σ cs ds b9 b10 u ⟨hM, hM2, hG⟩
  replace hH := Hp.cats hH hG
  clear hG hB4 hB5
  replace hH := (hH.del 1).del 0
  change Hp _ _ _ [_, _] at hH
  have hM0 : MC (mk0 0 0) := mk0_mc (by decide) (by decide)
  refine WL_s (H_storeA 0 (vs := cs.toArray) (s := 391) hH rfl rfl rfl (by simpa using hM.len) (by simpa using hM0.len) (fun u hu => hM.one u (by simpa using hu)) (Ty.shp rfl) ?_)
  clear hH
  intro u1 hH
  change Hp _ _ _ [_, _] at hH
  skip
  refine WL_s (H_storeA 1 (vs := ds.toArray) (s := 391) hH rfl rfl rfl (by simpa using hM2.len) (by simpa using hM0.len) (fun u hu => hM2.one u (by simpa using hu)) (Ty.shp rfl) ?_)
  clear hH
  intro u2 hH
  change Hp _ _ _ [_, _] at hH
  have hB9 : Blk u2 b9 39 cs.toArray := hH.b 0 rfl
  repeat (first | refine WS_seq ?_ | refine WS_region ?_ | refine WL_nil ?_ | (refine WL_r (by refine k_loadA rfl hB9 (by simpa using hM.len) (Ty.shp rfl)) rfl ?_))
  clear hB9
  refine WL_s (H_alloc (zs := mk0 0 0) hH (Ty.zer rfl) rfl ?_)
  clear hH
  intro u3 b11 hH
  change Hp _ _ _ [_, _, _] at hH
  skip
  refine WL_s (H_storeA 2 (vs := cs.toArray) (s := 391) hH rfl rfl rfl (by simpa using hM.len) (by simpa using hM0.len) (fun u hu => hM.one u (by simpa using hu)) (Ty.shp rfl) ?_)
  clear hH
  intro u4 hH
  change Hp _ _ _ [_, _, _] at hH
  have hW := hM.w
  have hW2 := hM2.w
  apply joinW (Z := fun u => ∃ es, MW es ∧ all2 cs es = false ∧ Hp [] w u [Rb b9 39 cs.toArray, Rb b10 39 ds.toArray, Rb b11 39 es.toArray])
  · intro key
    have h5 := Nat.mod_lt wh (show 0 < 5 by decide)
    have hS : SlA u4 (some ⟨b11, 0, none⟩) cs := (hH.b 2 rfl).sl0
    have hB11 : Blk u4 b11 39 cs.toArray := hH.b 2 rfl
    by_cases c0 : wh % 5 = 0
    · obtain ⟨k, hk, hkv⟩ := hM.k
      repeat (first | refine WS_seq ?_ | refine WS_region ?_ | refine WL_nil ?_ | refine WS_block ?_ | refine WS_true rfl ?_ | (refine WL_r (by first | refine k_remu (n := 5) rfl rfl (by decide) | refine (k_eql (q := .u8) rfl rfl).is (bT (by omega)) | refine k_fa rfl (Ty.fld rfl rfl) | refine k_loads rfl hS hkv (Ty.shp rfl) | refine k_addu (q := .u8) (m := k) (n := 1) rfl rfl rfl | refine Run_pev rfl | apply k_makeFunc) rfl ?_))
      refine WL_s (H_storeL 2 (o := 0 + 0) (v := .int .u8 (((k + 1) % 256 : Nat) : Int)) hH rfl rfl rfl (by rw [hM.len]; omega) rfl (Ty.shp rfl) ?_)
      try clear hH
      intro _ hH
      change Hp _ _ _ [_, _, _] at hH
      repeat (first | refine WS_seq ?_ | refine WS_region ?_ | refine WL_nil ?_ | refine WS_inBlock ?_)
      refine WL_keep [(9, pm b9), (10, pm b10), (11, pm b11)] ⟨rfl, rfl, rfl, trivial⟩ (fun σ => WL_w fun u hu => ?_)
      exact key σ u ⟨_, hW.set (o := 0 + 0) ⟨fun _ => ⟨_, rfl⟩, by omega, by omega, by omega, by omega⟩, all2_set hkv (by simp [K.ceq]; omega), hu ▸ hH⟩
    by_cases c1 : wh % 5 = 1
    · obtain ⟨q, hq, hqv⟩ := hM.q
      repeat (first | refine WS_seq ?_ | refine WS_region ?_ | refine WL_nil ?_ | refine WS_block ?_ | refine WS_true rfl ?_ | refine WS_false rfl ?_ | (refine WL_r (by first | refine k_remu (n := 5) rfl rfl (by decide) | refine (k_eql (q := .u8) rfl rfl).is (bT (by omega)) | refine (k_eql (q := .u8) rfl rfl).is (bF (by omega)) | refine k_fa rfl (Ty.fld rfl rfl) | refine k_loads rfl hS hqv (Ty.shp rfl) | refine Run_pev rfl | refine k_add64 rfl rfl (by omega) | apply k_makeFunc) rfl ?_))
      refine WL_s (H_storeL 2 (o := 0 + 1) (v := .int .i64 (q + 1)) hH rfl rfl rfl (by rw [hM.len]; omega) rfl (Ty.shp rfl) ?_)
      try clear hH
      intro _ hH
      change Hp _ _ _ [_, _, _] at hH
      repeat (first | refine WS_seq ?_ | refine WS_region ?_ | refine WL_nil ?_ | refine WS_inBlock ?_)
      refine WL_keep [(9, pm b9), (10, pm b10), (11, pm b11)] ⟨rfl, rfl, rfl, trivial⟩ (fun σ => WL_w fun u hu => ?_)
      exact key σ u ⟨_, hW.set (o := 0 + 1) ⟨by omega, fun _ => ⟨_, rfl⟩, by omega, by omega, by omega⟩, all2_set hqv (by simp [K.ceq]; omega), hu ▸ hH⟩
    by_cases c2 : wh % 5 = 2
    · have h4 := Nat.mod_lt wh (show 0 < 4 by decide)
      obtain ⟨j, hj⟩ : ∃ j, wh % 4 = j := ⟨_, rfl⟩
      obtain ⟨v, ⟨x, y, hx, hy, rfl⟩, hvv⟩ := hM.v (i := 2 + j) (by omega)
      obtain ⟨r, hr, hrn⟩ := add_one hx
      obtain ⟨r2, hr2⟩ := add_nil hy
      have hSv : SlA u4 (some ⟨b11, 0 + 2, none⟩) (cs.drop 2) := hB11.sl (fun j v hj => by rw [List.getElem?_drop] at hj; rw [List.getElem?_toArray, Nat.zero_add]; exact hj)
      have hvt : (cs.drop 2)[(j : Int).toNat]? = some (CV x y) := by rw [show (j : Int).toNat = j from rfl, List.getElem?_drop]; exact hvv
      repeat (first | refine WS_seq ?_ | refine WS_region ?_ | refine WL_nil ?_ | refine WS_block ?_ | refine WS_true rfl ?_ | refine WS_false rfl ?_ | (refine WL_r (by first | refine k_remu (n := 5) rfl rfl (by decide) | refine (k_remu (n := 4) rfl rfl (by decide)).is (congrArg (fun n : Nat => Value.int .u8 (n : Int)) hj) | refine (k_eql (q := .u8) rfl rfl).is (bT (by omega)) | refine (k_eql (q := .u8) rfl rfl).is (bF (by omega)) | refine k_fa rfl (Ty.fld rfl rfl) | refine k_ixa1 rfl rfl (Ty.arr rfl) (by omega) | refine k_loads rfl hSv hvt (Ty.shp rfl) | refine k_cadd rfl rfl hr hr2 | refine Run_pev rfl | apply k_makeFunc) rfl ?_))
      refine WL_s (H_storeL 2 (o := 0 + 2 + (j : Int).toNat) (v := .complex .f64 r r2) hH rfl rfl rfl (by rw [hM.len]; omega) rfl (Ty.shp rfl) ?_)
      try clear hH
      intro _ hH
      change Hp _ _ _ [_, _, _] at hH
      repeat (first | refine WS_seq ?_ | refine WS_region ?_ | refine WL_nil ?_ | refine WS_inBlock ?_)
      refine WL_keep [(9, pm b9), (10, pm b10), (11, pm b11)] ⟨rfl, rfl, rfl, trivial⟩ (fun σ => WL_w fun u hu => ?_)
      exact key σ u ⟨_, hW.set (o := 0 + 2 + (j : Int).toNat) ⟨by omega, by omega, fun _ => ⟨_, _, rfl⟩, by omega, by omega⟩, all2_set (u := CV x y) (by rw [show 0 + 2 + (j : Int).toNat = 2 + j by omega]; exact hvv) (by show (feq (FN x) r && _) = false; rw [hrn]; rfl), hu ▸ hH⟩
    by_cases c3 : wh % 5 = 3
    · obtain ⟨e, hev⟩ := hM.e
      repeat (first | refine WS_seq ?_ | refine WS_region ?_ | refine WL_nil ?_ | refine WS_block ?_ | refine WS_true rfl ?_ | refine WS_false rfl ?_ | (refine WL_r (by first | refine k_remu (n := 5) rfl rfl (by decide) | refine (k_eql (q := .u8) rfl rfl).is (bT (by omega)) | refine (k_eql (q := .u8) rfl rfl).is (bF (by omega)) | refine k_fa rfl (Ty.fld rfl rfl) | refine k_loads rfl hS hev (Ty.shp rfl) | refine k_notb rfl | refine Run_pev rfl | apply k_makeFunc) rfl ?_))
      refine WL_s (H_storeL 2 (o := 0 + 6) (v := .bool !e) hH rfl rfl rfl (by rw [hM.len]; omega) rfl (Ty.shp rfl) ?_)
      try clear hH
      intro _ hH
      change Hp _ _ _ [_, _, _] at hH
      repeat (first | refine WS_seq ?_ | refine WS_region ?_ | refine WL_nil ?_ | refine WS_inBlock ?_)
      refine WL_keep [(9, pm b9), (10, pm b10), (11, pm b11)] ⟨rfl, rfl, rfl, trivial⟩ (fun σ => WL_w fun u hu => ?_)
      exact key σ u ⟨_, hW.set (o := 0 + 6) ⟨by omega, by omega, by omega, fun _ => ⟨_, rfl⟩, by omega⟩, all2_set hev (by cases e <;> rfl), hu ▸ hH⟩
    · have h6 := Nat.mod_lt wh (show 0 < 6 by decide)
      have h64 := Nat.mod_lt wh (show 0 < 64 by decide)
      obtain ⟨j, hj⟩ : ∃ j, wh % 6 = j := ⟨_, rfl⟩
      obtain ⟨m, hm⟩ : ∃ m, wh % 64 = m := ⟨_, rfl⟩
      obtain ⟨n, hn, hnv⟩ := hM.l (i := 7 + (j * 64 + m)) (by omega)
      have hSl : SlA u4 (some ⟨b11, 0 + 7, none⟩) (cs.drop 7) := hB11.sl (fun j v hj => by rw [List.getElem?_drop] at hj; rw [List.getElem?_toArray, Nat.zero_add]; exact hj)
      have hnt : (cs.drop 7)[(j : Int).toNat * 64 + (m : Int).toNat]? = some (.int .i64 n) := by rw [show (j : Int).toNat * 64 + (m : Int).toNat = j * 64 + m by omega, List.getElem?_drop]; exact hnv
      repeat (first | refine WS_seq ?_ | refine WS_region ?_ | refine WL_nil ?_ | refine WS_block ?_ | refine WS_false rfl ?_ | (refine WL_r (by first | refine k_remu (n := 5) rfl rfl (by decide) | refine (k_eql (q := .u8) rfl rfl).is (bF (by omega)) | refine Run_pev rfl | apply k_makeFunc) rfl ?_))
      refine WS_tailS Ty.mixed 12 rfl (by kernel_rfl) rfl (fun u => Ext [] u4 u) ?_
      have hx1 : Ext [] u4 u4.drew := Ext.drew0
      refine WA_take 0 rfl (by kernel_rfl) hx1 rfl rfl (fun w' hw' => by refine Run_pev rfl) ?_
      refine WA_take 1 rfl (by kernel_rfl) hx1 rfl rfl (fun w' hw' => by refine (k_remu (n := 6) rfl rfl (by decide)).is (congrArg (fun n : Nat => Value.int .u8 (n : Int)) hj)) ?_
      refine WA_take 2 rfl (by kernel_rfl) hx1 rfl rfl (fun w' hw' => by refine Run_pev rfl) ?_
      refine WA_take 3 rfl (by kernel_rfl) hx1 rfl rfl (fun w' hw' => by refine (k_remu (n := 64) rfl rfl (by decide)).is (congrArg (fun n : Nat => Value.int .u8 (n : Int)) hm)) ?_
      refine WA_take 4 rfl (by kernel_rfl) hx1 rfl rfl (fun w' hw' => by refine k_fa rfl (Ty.fld rfl rfl)) ?_
      refine WA_take 5 rfl (by kernel_rfl) hx1 rfl rfl (fun w' hw' => by refine k_ixaN rfl rfl (Ty.arr rfl) (by omega)) ?_
      refine WA_take 6 rfl (by kernel_rfl) hx1 rfl rfl (fun w' hw' => by refine k_ixaA rfl rfl (Ty.arr rfl) (by omega)) ?_
      refine WA_take 7 rfl (by kernel_rfl) hx1 rfl rfl (fun w' hw' => by refine k_loads rfl (hSl.ext0 hw') hnt (Ty.shp rfl)) ?_
      refine WA_take 8 rfl (by kernel_rfl) hx1 rfl rfl (fun w' hw' => by refine k_add64 rfl rfl (by omega)) ?_
      refine WA_take 9 rfl (by kernel_rfl) hx1 rfl rfl (fun w' hw' => by refine k_fa rfl (Ty.fld rfl rfl)) ?_
      refine WA_take 10 rfl (by kernel_rfl) hx1 rfl rfl (fun w' hw' => by refine k_ixaN rfl rfl (Ty.arr rfl) (by omega)) ?_
      refine WA_take 11 rfl (by kernel_rfl) hx1 rfl rfl (fun w' hw' => by refine k_ixaA rfl rfl (Ty.arr rfl) (by omega)) ?_
      refine WA_done (by kernel_rfl) ?_
      have hH2 := hH.ext0 hx1
      refine WL_s (H_storeL 2 (o := 0 + 7 + ((j : Int).toNat * 64 + (m : Int).toNat)) (v := .int .i64 (n + 1)) hH2 rfl rfl rfl (by rw [hM.len]; omega) rfl (Ty.shp rfl) ?_)
      intro _ hH
      change Hp _ _ _ [_, _, _] at hH
      repeat (first | refine WS_seq ?_ | refine WS_region ?_ | refine WL_nil ?_ | refine WS_inBlock ?_)
      refine WL_keep [(9, pm b9), (10, pm b10), (11, pm b11)] ⟨rfl, rfl, rfl, trivial⟩ (fun σ => WL_w fun u hu => ?_)
      exact key σ u ⟨_, hW.set (o := 0 + 7 + ((j : Int).toNat * 64 + (m : Int).toNat)) ⟨by omega, by omega, by omega, by omega, fun _ => ⟨_, rfl⟩⟩, all2_set (u := .int .i64 n) (by rw [show 0 + 7 + ((j : Int).toNat * 64 + (m : Int).toNat) = 7 + (j * 64 + m) by omega]; exact hnv) (by simp [K.ceq]; omega), hu ▸ hH⟩
  clear hH
  rintro σ u5 ⟨es, hW3, hne, hH⟩
  have hS1 : SlA u5 (some ⟨b9, 0, none⟩) cs := (hH.b 0 rfl).sl0
  have hS2 : SlA u5 (some ⟨b10, 0, none⟩) ds := (hH.b 1 rfl).sl0
  obtain ⟨k, q, vs, e, ls, h1⟩ := hW.mp
  obtain ⟨k', q', vs', e', ls', h2⟩ := hW2.mp
  apply join
  · intro key
    have hsm := h1.same h2
    by_cases hk : k = k'
    · rw [decide_eq_true hk, Bool.true_and] at hsm
      by_cases hq : q = q'
      · rw [decide_eq_true hq, Bool.true_and] at hsm
        cases hv : all2 vs vs' with
        | true =>
          rw [hv, Bool.true_and] at hsm
          by_cases he' : e = e'
          · rw [decide_eq_true he', Bool.true_and] at hsm
            have he : (e == e') = true := by simpa using he'
            repeat (first | refine WS_seq ?_ | refine WS_region ?_ | refine WL_nil ?_ | refine WL_gyes rfl rfl rfl ?_ | (refine WL_r (by first | refine k_fa rfl (Ty.fld rfl rfl) | refine k_loads rfl hS1 h1.g0 (Ty.shp rfl) | refine k_loads rfl hS2 h2.g0 (Ty.shp rfl) | refine k_loads rfl hS1 h1.g1 (Ty.shp rfl) | refine k_loads rfl hS2 h2.g1 (Ty.shp rfl) | refine k_loads rfl hS1 h1.g6 (Ty.shp rfl) | refine k_loads rfl hS2 h2.g6 (Ty.shp rfl) | refine k_loadC (j := 0 + 2) rfl hS1 h1.g2 h1.vl (Ty.shp rfl) | refine k_loadC (j := 0 + 2) rfl hS2 h2.g2 h2.vl (Ty.shp rfl) | refine k_loadC (j := 0 + 7) rfl hS1 h1.g7 h1.ll (Ty.shp rfl) | refine k_loadC (j := 0 + 7) rfl hS2 h2.g7 h2.ll (Ty.shp rfl) | refine (k_eql (q := .u8) rfl rfl).is (bT (by omega)) | refine (k_eql (q := .i64) rfl rfl).is (bT (by omega)) | refine k_eqlC rfl rfl vec_eqv (vg_fits h1.vl h1.vg) (vg_fits h2.vl h2.vg) hv | refine (k_eqlb rfl rfl (by kernel_rfl)).is (congrArg Value.bool he) | refine k_eqlC rfl rfl lev_eqv (lg_fits h1.ll h1.lg) (lg_fits h2.ll h2.lg) rfl | refine Run_pev rfl) rfl ?_))
            refine WL_keep [(9, pm b9), (10, pm b10), (11, pm b11), (12, .bool (all2 cs ds))] ⟨rfl, rfl, rfl, congrArg Value.bool hsm.symm, trivial⟩ key
          · rw [decide_eq_false he', Bool.false_and] at hsm
            have he : (e == e') = false := by simpa using he'
            repeat (first | refine WS_seq ?_ | refine WS_region ?_ | refine WL_nil ?_ | refine WL_gyes rfl rfl rfl ?_ | refine WL_gno rfl rfl rfl rfl rfl ?_ | (refine WL_r (by first | refine k_fa rfl (Ty.fld rfl rfl) | refine k_loads rfl hS1 h1.g0 (Ty.shp rfl) | refine k_loads rfl hS2 h2.g0 (Ty.shp rfl) | refine k_loads rfl hS1 h1.g1 (Ty.shp rfl) | refine k_loads rfl hS2 h2.g1 (Ty.shp rfl) | refine k_loads rfl hS1 h1.g6 (Ty.shp rfl) | refine k_loads rfl hS2 h2.g6 (Ty.shp rfl) | refine k_loadC (j := 0 + 2) rfl hS1 h1.g2 h1.vl (Ty.shp rfl) | refine k_loadC (j := 0 + 2) rfl hS2 h2.g2 h2.vl (Ty.shp rfl) | refine (k_eql (q := .u8) rfl rfl).is (bT (by omega)) | refine (k_eql (q := .i64) rfl rfl).is (bT (by omega)) | refine k_eqlC rfl rfl vec_eqv (vg_fits h1.vl h1.vg) (vg_fits h2.vl h2.vg) hv | refine (k_eqlb rfl rfl (by kernel_rfl)).is (congrArg Value.bool he) | refine Run_pev rfl) rfl ?_))
            refine WL_keep [(9, pm b9), (10, pm b10), (11, pm b11), (12, .bool (all2 cs ds))] ⟨rfl, rfl, rfl, congrArg Value.bool hsm.symm, trivial⟩ key
        | false =>
          rw [hv, Bool.false_and] at hsm
          repeat (first | refine WS_seq ?_ | refine WS_region ?_ | refine WL_nil ?_ | refine WL_gyes rfl rfl rfl ?_ | refine WL_gno rfl rfl rfl rfl rfl ?_ | (refine WL_r (by first | refine k_fa rfl (Ty.fld rfl rfl) | refine k_loads rfl hS1 h1.g0 (Ty.shp rfl) | refine k_loads rfl hS2 h2.g0 (Ty.shp rfl) | refine k_loads rfl hS1 h1.g1 (Ty.shp rfl) | refine k_loads rfl hS2 h2.g1 (Ty.shp rfl) | refine k_loadC (j := 0 + 2) rfl hS1 h1.g2 h1.vl (Ty.shp rfl) | refine k_loadC (j := 0 + 2) rfl hS2 h2.g2 h2.vl (Ty.shp rfl) | refine (k_eql (q := .u8) rfl rfl).is (bT (by omega)) | refine (k_eql (q := .i64) rfl rfl).is (bT (by omega)) | refine k_eqlC rfl rfl vec_eqv (vg_fits h1.vl h1.vg) (vg_fits h2.vl h2.vg) hv | refine Run_pev rfl) rfl ?_))
          refine WL_keep [(9, pm b9), (10, pm b10), (11, pm b11), (12, .bool (all2 cs ds))] ⟨rfl, rfl, rfl, congrArg Value.bool hsm.symm, trivial⟩ key
      · rw [decide_eq_false hq, Bool.false_and] at hsm
        repeat (first | refine WS_seq ?_ | refine WS_region ?_ | refine WL_nil ?_ | refine WL_gyes rfl rfl rfl ?_ | refine WL_gno rfl rfl rfl rfl rfl ?_ | (refine WL_r (by first | refine k_fa rfl (Ty.fld rfl rfl) | refine k_loads rfl hS1 h1.g0 (Ty.shp rfl) | refine k_loads rfl hS2 h2.g0 (Ty.shp rfl) | refine k_loads rfl hS1 h1.g1 (Ty.shp rfl) | refine k_loads rfl hS2 h2.g1 (Ty.shp rfl) | refine (k_eql (q := .u8) rfl rfl).is (bT (by omega)) | refine (k_eql (q := .i64) rfl rfl).is (bF (by omega)) | refine Run_pev rfl) rfl ?_))
        refine WL_keep [(9, pm b9), (10, pm b10), (11, pm b11), (12, .bool (all2 cs ds))] ⟨rfl, rfl, rfl, congrArg Value.bool hsm.symm, trivial⟩ key
    · rw [decide_eq_false hk, Bool.false_and] at hsm
      repeat (first | refine WS_seq ?_ | refine WS_region ?_ | refine WL_nil ?_ | refine WL_gno rfl rfl rfl rfl rfl ?_ | (refine WL_r (by first | refine k_fa rfl (Ty.fld rfl rfl) | refine k_loads rfl hS1 h1.g0 (Ty.shp rfl) | refine k_loads rfl hS2 h2.g0 (Ty.shp rfl) | refine (k_eql (q := .u8) rfl rfl).is (bF (by omega)) | refine Run_pev rfl) rfl ?_))
      refine WL_keep [(9, pm b9), (10, pm b10), (11, pm b11), (12, .bool (all2 cs ds))] ⟨rfl, rfl, rfl, congrArg Value.bool hsm.symm, trivial⟩ key
  intro σ
  have hse : all2 cs cs = true := all2_refl hM.ceq
  have hB9 : Blk u5 b9 39 cs.toArray := hH.b 0 rfl
  have hB10 : Blk u5 b10 39 ds.toArray := hH.b 1 rfl
  have hB11 : Blk u5 b11 39 es.toArray := hH.b 2 rfl
  repeat ((refine WL_r (by refine k_loadA rfl hB9 (by simpa using hM.len) (Ty.shp rfl)) rfl ?_))
  try refine WL_gyes rfl rfl rfl ?_
  refine WL_s (S_call (same_spec hW hW) rfl rfl ?_)
  rintro v u6 ⟨rfl, hE1⟩
  rw [hse]
  replace hB9 := hB9.ext0 hE1
  replace hB10 := hB10.ext0 hE1
  replace hB11 := hB11.ext0 hE1
  repeat (first | refine WL_gyes rfl rfl rfl ?_ | (refine WL_r (by first | refine k_loadA rfl hB9 (by simpa using hM.len) (Ty.shp rfl) | refine k_loadA rfl hB11 (by simpa using hW3.len) (Ty.shp rfl) | refine Run_pev rfl) rfl ?_))
  try refine WL_gyes rfl rfl rfl ?_
  refine WL_s (S_call (same_spec hW hW3) rfl rfl ?_)
  rintro v u7 ⟨rfl, hE2⟩
  rw [hne]
  replace hB9 := hB9.ext0 hE2
  replace hB10 := hB10.ext0 hE2
  repeat (first | refine WL_gyes rfl rfl rfl ?_ | (refine WL_r (by first | refine k_loadA rfl hB9 (by simpa using hM.len) (Ty.shp rfl) | refine k_loadA rfl hB10 (by simpa using hM2.len) (Ty.shp rfl) | refine Run_pev rfl) rfl ?_))
  try refine WL_gyes rfl rfl rfl ?_
  refine WL_s (S_call (same_spec hW hW2) rfl rfl ?_)
  rintro v u8 ⟨rfl, hE3⟩
  repeat (first | refine WL_gyes rfl rfl rfl ?_ | (refine WL_r (by first | refine k_eqlbT rfl rfl (by kernel_rfl) rfl | refine Run_pev rfl) rfl ?_))
  try refine WL_gyes rfl rfl rfl ?_
  refine WL_s (S_call (steps_spec u8) rfl rfl ?_)
  rintro v u9 ⟨rfl, hE4⟩
  have hfz : FitsC (List.replicate 4 (.i .i64)) (stL.map Iv) := ⟨rfl, rfl, rfl, rfl, trivial⟩
  repeat (first | refine WL_nil ?_ | refine WL_gyes rfl rfl rfl ?_ | (refine WL_r (by first | refine k_buildA (cs := stL.map Iv) (Ty.zer rfl) (Ty.arr rfl) rfl | refine k_eqlC (p := true) rfl rfl stp_eqv hfz hfz (by decide) | refine Run_pev rfl | apply k_makeFunc) rfl ?_))
  exact WS_ret1 Try.func3 rfl ⟨rfl, ((((hH.ext).then0 hE1).then0 hE2).then0 hE3).then0 hE4⟩
/-! ### Its arguments -/
abbrev SmD : Desc := .str (.cons (.int .u8) (.cons (.int .u8) (.cons (.str (.cons (.arr 4 (.int .i8)) (.cons (.arr 4 (.int .i8)) (.cons .bool .nil)))) (.cons .bool (.cons (.arr 6 (.int .u64)) (.cons (.int .u32) (.cons .bool .nil)))))))
theorem rd_ar {n : Nat} {q : IntKind} {cs : List Value} {w : World} (h : K.Rd w (.arr n (.int q)) cs) : cs.length = n ∧ ∀ i, i < n → ∃ x : Int, cs[i]? = some (.int q x) ∧ Fits q x := by
  obtain ⟨ess, hl, rfl, he⟩ := h
  have h1 : ∀ e ∈ ess, e.length = 1 := fun e hx => by obtain ⟨x, rfl, _⟩ := he e hx; rfl
  refine ⟨by rw [flatten_len h1, hl, Nat.mul_one], fun i hi => ?_⟩
  rw [flatten_get (by decide) h1, Nat.div_one, Nat.mod_one, List.getElem?_eq_getElem (by omega)]
  obtain ⟨x, hx, hf⟩ := he ess[i] (List.getElem_mem _)
  exact ⟨x, by rw [hx]; rfl, hf⟩
theorem rd_zm {cs : List Value} {w : World} (h : K.Rd w SmD cs) : ZM cs := by
  obtain ⟨_, _, rfl, ⟨k, rfl, hk⟩, _, _, rfl, ⟨s, rfl, hs⟩, _, _, rfl, ⟨X, _, rfl, hX, Y, _, rfl, hY, _, _, rfl, ⟨b, rfl⟩, rfl⟩, _, _, rfl, ⟨e, rfl⟩, Z, _, rfl, hZ, _, _, rfl, ⟨n, rfl, hn⟩, _, _, rfl, ⟨g, rfl⟩, rfl⟩ := h
  obtain ⟨hX1, hX2⟩ := rd_ar hX
  obtain ⟨hY1, hY2⟩ := rd_ar hY
  obtain ⟨hZ1, hZ2⟩ := rd_ar hZ
  obtain ⟨k, rfl, hk2⟩ := fits_u8 hk
  obtain ⟨s, rfl, hs2⟩ := fits_u8 hs
  obtain ⟨n, rfl, hn2⟩ := fits_u32 hn
  obtain ⟨x0, x1, x2, x3, rfl⟩ : ∃ x0 x1 x2 x3, X = [x0, x1, x2, x3] := by
    match X, hX1 with
    | [x0, x1, x2, x3], _ => exact ⟨_, _, _, _, rfl⟩
  obtain ⟨y0, y1, y2, y3, rfl⟩ : ∃ x0 x1 x2 x3, Y = [x0, x1, x2, x3] := by
    match Y, hY1 with
    | [x0, x1, x2, x3], _ => exact ⟨_, _, _, _, rfl⟩
  obtain ⟨z0, z1, z2, z3, z4, z5, rfl⟩ : ∃ x0 x1 x2 x3 x4 x5, Z = [x0, x1, x2, x3, x4, x5] := by
    match Z, hZ1 with
    | [x0, x1, x2, x3, x4, x5], _ => exact ⟨_, _, _, _, _, _, rfl⟩
  refine ⟨rfl, ⟨k, hk2, rfl⟩, ⟨s, hs2, rfl⟩, ⟨rfl, fun i hi => ?_, ⟨b, rfl⟩⟩, ⟨e, rfl⟩, fun i hi => ?_, ⟨n, hn2, rfl⟩, ⟨g, rfl⟩⟩
  · by_cases h4 : i < 4
    · obtain ⟨x, hx, hf⟩ := hX2 i h4
      refine ⟨x, fits_i8 hf, ?_⟩
      rcases (show i = 0 ∨ i = 1 ∨ i = 2 ∨ i = 3 by omega) with rfl | rfl | rfl | rfl <;> exact hx
    · obtain ⟨x, hx, hf⟩ := hY2 (i - 4) (by omega)
      refine ⟨x, fits_i8 hf, ?_⟩
      rcases (show i = 4 ∨ i = 5 ∨ i = 6 ∨ i = 7 by omega) with rfl | rfl | rfl | rfl <;> exact hx
  · obtain ⟨x, hx, hf⟩ := hZ2 i hi
    obtain ⟨m, rfl, hm⟩ := fits_u64 hf
    refine ⟨m, hm, ?_⟩
    rcases (show i = 0 ∨ i = 1 ∨ i = 2 ∨ i = 3 ∨ i = 4 ∨ i = 5 by omega) with rfl | rfl | rfl | rfl | rfl | rfl <;> exact hx
def zarg : Value := Value.agg ([Value.int .u8 0, Value.int .u8 0] ++ (List.replicate 8 (Value.int .i8 0) ++ ([Value.bool false, Value.bool false] ++ (List.replicate 6 (Value.int .u64 0) ++ [Value.int .u32 0, Value.bool false])))).toArray
theorem own_modeSame : ownKnob Try.prog.godebug = none := by kernel_rfl
theorem laid_modeSame : laidOutB Try.prog = true := by kernel_rfl
set_option maxRecDepth 100000 in
theorem modeSame_lifted (os : Os) (started : os.Started) (H : Type) (enc : TypeId × Value → H) :
    ReturnsInHanded {} Try.checked os 3 .any (Rows.modeSameSpec.pre6 enc Try.prog Try.f3 Rows.modeSameRow.domain false) (Rows.modeSameSpec.post enc Try.prog Try.f3 false true false false) := by
  refine returnsInHanded_of_change (C := Try.checked) own_modeSame started (by kernel_rfl) Try.func3
    (ChangeSpec.witness6 (enc := enc) (C := Try.checked) false ⟨#[], #[zarg, zarg, .bool false, .int .u8 0], []⟩ 8 (by kernel_rfl) (by kernel_rfl) (by kernel_rfl) (by kernel_rfl)) ?_
  intro W base args ds gs before hval0 hW _ _
  have hval : ∀ (j : Nat) t v, Try.f3.params[j]? = some t → args[j]? = some v → Value.okWide Try.prog W .any base t v := hval0
  have hW' := hW
  obtain ⟨p, q, hA0, hV, rfl, hfz, hnd⟩ := hW
  have hA : DataW.TrodAll enc Try.prog W 0 (fun _ => true) true Try.f3.params.toList args.toList ds p := hA0
  rw [Try.params3] at hA hval
  obtain ⟨v0, r0, d0, e0, p0, q0, ha0, rfl, rfl, h0, hA⟩ := trodAll_cons hA
  obtain ⟨v1, r1, d1, e1, p1, q1, ha1, rfl, rfl, h1, hA⟩ := trodAll_cons hA
  obtain ⟨v2, r2, d2, e2, p2, q2, ha2, rfl, rfl, h2, hA⟩ := trodAll_cons hA
  obtain ⟨v3, r3, d3, e3, p3, q3, ha3, rfl, rfl, h3, hA⟩ := trodAll_cons hA
  obtain ⟨hnil, rfl, rfl⟩ := trodAll_nil hA
  obtain rfl : args = #[v0, v1, v2, v3] := by cases args; simp_all
  have hv0 := hval 0 _ v0 rfl rfl
  have hv1 := hval 1 _ v1 rfl rfl
  have hv2 := hval 2 _ v2 rfl rfl
  have hv3 := hval 3 _ v3 rfl rfl
  clear hA0 hval0 ha0 ha1 ha2 ha3 hnil
  obtain ⟨zs, rfl⟩ := rd_agg (Ty.shp rfl) hv0
  obtain ⟨ts, rfl⟩ := rd_agg (Ty.shp rfl) hv1
  obtain ⟨inter, rfl⟩ := rd_bool (by kernel_rfl) hv2
  obtain ⟨wh0, rfl, hwh0⟩ := rd_int (Ty.knd rfl) hv3 h3
  obtain ⟨wh, rfl, _⟩ := fits_u8 hwh0
  refine ((msame_spec (rd_zm (rd_arg SmD (by kernel_rfl) h0)) (rd_zm (rd_arg SmD (by kernel_rfl) h1))).enter Try.func3 rfl rfl).mono ?_
  rintro e W' ⟨v, rfl, rfl, hE⟩
  exact ⟨_, rfl, law_post laid_modeSame (by kernel_rfl) hW' rfl rfl (by kernel_rfl) ⟨rfl, rfl, rfl⟩ hE⟩
theorem modeSame_holds : Rows.ModeSameSaid :=
  OpenClaim.holds_of_wide 3 Try.f3 rfl rfl rfl rfl rfl rfl rfl ⟨rfl, rfl, rfl, rfl, rfl⟩ rfl rfl rfl rfl rfl (by kernel_rfl) Try.func3 (by kernel_rfl)
    (of_decide_eq_true (by kernel_rfl)) (by unfold Func.isWrapper; (rw [if_neg (by decide +kernel)]; exact ⟨rfl, rfl⟩))
    (fun os started H enc _ => modeSame_lifted os started H enc)
#print axioms modeSame_holds
end Go.Proofs.Ytccnhnijglnbmaa
