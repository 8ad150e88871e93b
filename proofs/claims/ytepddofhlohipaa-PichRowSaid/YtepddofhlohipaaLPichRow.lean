/- The law PichRow: heads one behind the other are read one by one; cut they end; no condition. -/
import Derived.Test.YtepddofhlohipaaLaw16
namespace Go.Proofs.Ytepddofhlohipaa
open Go Go.K Go.P Go.RowKit Go.Proofs Go.ChangeShapes Go.WideShapes Go.ChangeAt
/-- The bits of heads, one behind the other. -/
def fb (hs : List PH) : List Bool := hs.flatMap fun h => h.fit.bits
theorem fb_cons (h : PH) (hs : List PH) : fb (h :: hs) = h.fit.bits ++ fb hs := by simp [fb]
theorem fb_snoc (hs : List PH) {i : Nat} (h : i < hs.length) : fb (hs.take (i + 1)) = fb (hs.take i) ++ hs[i].fit.bits := by
  unfold fb; rw [List.take_succ_eq_append_getElem h, List.flatMap_append]; simp only [List.flatMap_cons, List.flatMap_nil, List.append_nil]
theorem fb_drop (hs : List PH) {i : Nat} (h : i < hs.length) : fb (hs.drop i) = hs[i].fit.bits ++ fb (hs.drop (i + 1)) := by
  rw [List.drop_eq_getElem_cons h, fb_cons]
theorem fb_len : ∀ (hs : List PH), (fb hs).length = 23 * hs.length
  | [] => rfl
  | h :: hs => by rw [fb_cons, List.length_append, PH.bits_len, fb_len hs, List.length_cons]; omega
def cls (hs : List PH) : List Value := (hs.map PH.cells).flatten
theorem cls_len : ∀ (hs : List PH), (cls hs).length = hs.length * 4
  | [] => rfl
  | h :: hs => by
    have := cls_len hs
    simp only [cls, List.map_cons, List.flatten_cons, List.length_append, List.length_cons] at this ⊢
    rw [this]
    simp [PH.cells]; omega
theorem cls_at : ∀ (hs : List PH) (i : Nat) (h : i < hs.length), ((cls hs).drop (i * 4)).take 4 = hs[i].cells
  | h :: hs, 0, _ => rfl
  | h :: hs, i + 1, hi => by
    have := cls_at hs i (by simpa using hi)
    rw [List.getElem_cons_succ, ← this, show (i + 1) * 4 = i * 4 + 4 by omega]
    rfl
theorem heads_of {w : World} : ∀ {ess : List (List Value)}, (∀ e ∈ ess, K.Rd w (.str (.cons (.int .i64) (.cons .bool (.cons .bool (.cons (.int .i64) .nil))))) e) → ∃ hs : List PH, ess = hs.map PH.cells ∧ ∀ h ∈ hs, h.wide
  | [], _ => ⟨[], rfl, by simp⟩
  | e :: ess, h => by
    obtain ⟨x, hx, hw⟩ := rd_head (h e (by simp))
    obtain ⟨hs, hh, hws⟩ := heads_of (ess := ess) (fun y hy => h y (by simp [hy]))
    exact ⟨x :: hs, by rw [hx, hh]; rfl, fun y hy => by rcases List.mem_cons.1 hy with rfl | hy; exact hw; exact hws y hy⟩
set_option maxRecDepth 20000 in
set_option maxHeartbeats 8000000 in
theorem prow_spec {a : Option Addr} {n cap u : Nat} {hs : List PH} {w : World} (hS : SlA w a (cls hs)) (hn : hs.length = n) (_hlen : n ≤ 9223372036854775807) (_hu : u < 256) :
    Does Try.prog 6 #[.slice a n cap, .int .u8 u] w fun v w' => v = .bool true ∧ Ext [] w w' := by
  subst hn
  refine Does_of (args := [_, _]) Try.func6 rfl rfl Try.ntmps6 rfl ?_
  repeat (first | refine WS_seq ?_ | refine WS_region ?_ | refine WL_nil ?_ | refine WS_block ?_ | refine WS_inBlock ?_ | refine WS_skip ?_ | refine WS_label ?_ | refine WS_scope ?_ | refine WS_inScope ?_ | refine WS_exit rfl ?_ | refine WS_true rfl ?_ | refine WS_false rfl ?_ | refine WS_yes rfl (by omega) ?_ | refine WS_no rfl (by omega) ?_ | refine WL_gyes rfl rfl rfl ?_ | refine WL_gno rfl rfl rfl rfl rfl ?_ | refine WL_gund rfl rfl rfl ?_ | refine WL_gyes rfl rfl (congrArg Value.bool (decide_eq_false (by omega))) ?_ | refine WL_gyes rfl rfl (congrArg Value.bool (decide_eq_true (by omega))) ?_ | refine WL_gno (b := false) rfl rfl (congrArg Value.bool (decide_eq_false (by omega))) rfl rfl ?_ | refine WL_gno (b := true) rfl rfl (congrArg Value.bool (decide_eq_true (by omega))) rfl rfl ?_ | (refine WL_r (by first | refine Run_pev rfl | refine k_add64 rfl rfl (by omega) | refine k_sub64 rfl rfl (by omega) | refine k_len rfl (Ty.isl rfl) | refine k_lens rfl (Ty.iss rfl) | refine k_not rfl | refine k_notb rfl | refine k_min rfl rfl | refine k_max rfl rfl | refine k_min3 rfl rfl rfl | refine k_max3 rfl rfl rfl | refine k_mul64 rfl rfl (by omega) | refine k_quo64 rfl rfl (by omega) | refine k_rem rfl rfl (by omega) | refine k_extract rfl rfl | apply k_makeFunc | refine k_conv_i64 rfl (Ty.und rfl) (Ty.knd rfl) (by omega) | refine k_conv_fit (qd := .u16) rfl (Ty.und rfl) (Ty.knd rfl) (fit16 (by omega)) | refine k_conv_fit (qd := .u64) rfl (Ty.und rfl) (Ty.knd rfl) (fit64 (by omega)) | refine k_conv_fit (qd := .u8) rfl (Ty.und rfl) (Ty.knd rfl) (fit8 (by omega)) | refine k_conv_u8 rfl (Ty.und rfl) (Ty.knd rfl) | refine k_conv_u16 rfl (Ty.und rfl) (Ty.knd rfl) | refine k_conv_u64 rfl (Ty.und rfl) (Ty.knd rfl) | refine k_pick_f (congrArg Value.bool (decide_eq_false (by omega))) rfl | refine k_pick_t (congrArg Value.bool (decide_eq_true (by omega))) rfl) rfl ?_))
  try refine WL_gyes rfl rfl rfl ?_
  refine WL_s (S_call (awake16 w) rfl rfl ?_)
  rintro v w1 ⟨rfl, hW1⟩
  have hH := (Hp.start w).ext0 hW1
  clear hW1
  by_cases h20 : 20 < hs.length
  · repeat (first | refine WS_seq ?_ | refine WS_region ?_ | refine WL_nil ?_ | refine WS_block ?_ | refine WS_inBlock ?_ | refine WS_skip ?_ | refine WS_label ?_ | refine WS_scope ?_ | refine WS_inScope ?_ | refine WS_exit rfl ?_ | refine WS_true rfl ?_ | refine WS_false rfl ?_ | refine WS_yes rfl (by omega) ?_ | refine WS_no rfl (by omega) ?_ | refine WL_gyes rfl rfl rfl ?_ | refine WL_gno rfl rfl rfl rfl rfl ?_ | refine WL_gund rfl rfl rfl ?_ | refine WL_gyes rfl rfl (congrArg Value.bool (decide_eq_false (by omega))) ?_ | refine WL_gyes rfl rfl (congrArg Value.bool (decide_eq_true (by omega))) ?_ | refine WL_gno (b := false) rfl rfl (congrArg Value.bool (decide_eq_false (by omega))) rfl rfl ?_ | refine WL_gno (b := true) rfl rfl (congrArg Value.bool (decide_eq_true (by omega))) rfl rfl ?_ | (refine WL_r (by first | refine Run_pev rfl | refine k_add64 rfl rfl (by omega) | refine k_sub64 rfl rfl (by omega) | refine k_len rfl (Ty.isl rfl) | refine k_lens rfl (Ty.iss rfl) | refine k_not rfl | refine k_notb rfl | refine k_min rfl rfl | refine k_max rfl rfl | refine k_min3 rfl rfl rfl | refine k_max3 rfl rfl rfl | refine k_mul64 rfl rfl (by omega) | refine k_quo64 rfl rfl (by omega) | refine k_rem rfl rfl (by omega) | refine k_extract rfl rfl | apply k_makeFunc | refine k_conv_i64 rfl (Ty.und rfl) (Ty.knd rfl) (by omega) | refine k_conv_fit (qd := .u16) rfl (Ty.und rfl) (Ty.knd rfl) (fit16 (by omega)) | refine k_conv_fit (qd := .u64) rfl (Ty.und rfl) (Ty.knd rfl) (fit64 (by omega)) | refine k_conv_fit (qd := .u8) rfl (Ty.und rfl) (Ty.knd rfl) (fit8 (by omega)) | refine k_conv_u8 rfl (Ty.und rfl) (Ty.knd rfl) | refine k_conv_u16 rfl (Ty.und rfl) (Ty.knd rfl) | refine k_conv_u64 rfl (Ty.und rfl) (Ty.knd rfl) | refine k_pick_f (congrArg Value.bool (decide_eq_false (by omega))) rfl | refine k_pick_t (congrArg Value.bool (decide_eq_true (by omega))) rfl) rfl ?_))
    exact WS_ret1 Try.func6 rfl ⟨rfl, hH.ext⟩
  have hCl := cls_len hs
  repeat (first | refine WS_seq ?_ | refine WS_region ?_ | refine WL_nil ?_ | refine WS_block ?_ | refine WS_inBlock ?_ | refine WS_skip ?_ | refine WS_label ?_ | refine WS_scope ?_ | refine WS_inScope ?_ | refine WS_exit rfl ?_ | refine WS_true rfl ?_ | refine WS_false rfl ?_ | refine WS_yes rfl (by omega) ?_ | refine WS_no rfl (by omega) ?_ | refine WL_gyes rfl rfl rfl ?_ | refine WL_gno rfl rfl rfl rfl rfl ?_ | refine WL_gund rfl rfl rfl ?_ | refine WL_gyes rfl rfl (congrArg Value.bool (decide_eq_false (by omega))) ?_ | refine WL_gyes rfl rfl (congrArg Value.bool (decide_eq_true (by omega))) ?_ | refine WL_gno (b := false) rfl rfl (congrArg Value.bool (decide_eq_false (by omega))) rfl rfl ?_ | refine WL_gno (b := true) rfl rfl (congrArg Value.bool (decide_eq_true (by omega))) rfl rfl ?_ | (refine WL_r (by first | refine k_buildS (cs := [.slice none 0 0, .int .i64 0]) (Ty.zer rfl) (Ty.plc rfl) rfl | refine Run_pev rfl | refine k_add64 rfl rfl (by omega) | refine k_sub64 rfl rfl (by omega) | refine k_len rfl (Ty.isl rfl) | refine k_lens rfl (Ty.iss rfl) | refine k_not rfl | refine k_notb rfl | refine k_min rfl rfl | refine k_max rfl rfl | refine k_min3 rfl rfl rfl | refine k_max3 rfl rfl rfl | refine k_mul64 rfl rfl (by omega) | refine k_quo64 rfl rfl (by omega) | refine k_rem rfl rfl (by omega) | refine k_extract rfl rfl | apply k_makeFunc | refine k_conv_i64 rfl (Ty.und rfl) (Ty.knd rfl) (by omega) | refine k_conv_fit (qd := .u16) rfl (Ty.und rfl) (Ty.knd rfl) (fit16 (by omega)) | refine k_conv_fit (qd := .u64) rfl (Ty.und rfl) (Ty.knd rfl) (fit64 (by omega)) | refine k_conv_fit (qd := .u8) rfl (Ty.und rfl) (Ty.knd rfl) (fit8 (by omega)) | refine k_conv_u8 rfl (Ty.und rfl) (Ty.knd rfl) | refine k_conv_u16 rfl (Ty.und rfl) (Ty.knd rfl) | refine k_conv_u64 rfl (Ty.und rfl) (Ty.knd rfl) | refine k_pick_f (congrArg Value.bool (decide_eq_false (by omega))) rfl | refine k_pick_t (congrArg Value.bool (decide_eq_true (by omega))) rfl) rfl ?_))
  refine WL_s (H_box hH rfl rfl rfl ?_)
  try clear hH
  intro _ q hH
  replace hH : Hp [] w _ [Rw q none 0 []] := hH.as 0 rfl (fun x hx => by simpa [Rw, sep, Rb, RBy, Ro, blk] using hx) (fun hB => ⟨hB, Own.nil, fun _ _ hb => by simp [RBy, Ro, blk] at hb⟩)
  repeat (first | refine WS_seq ?_ | refine WS_region ?_ | refine WL_nil ?_ | refine WS_block ?_ | refine WS_inBlock ?_ | refine WS_skip ?_ | refine WS_label ?_ | refine WS_scope ?_ | refine WS_inScope ?_ | refine WS_exit rfl ?_ | refine WS_true rfl ?_ | refine WS_false rfl ?_ | refine WS_yes rfl (by omega) ?_ | refine WS_no rfl (by omega) ?_ | refine WL_gyes rfl rfl rfl ?_ | refine WL_gno rfl rfl rfl rfl rfl ?_ | refine WL_gund rfl rfl rfl ?_ | refine WL_gyes rfl rfl (congrArg Value.bool (decide_eq_false (by omega))) ?_ | refine WL_gyes rfl rfl (congrArg Value.bool (decide_eq_true (by omega))) ?_ | refine WL_gno (b := false) rfl rfl (congrArg Value.bool (decide_eq_false (by omega))) rfl rfl ?_ | refine WL_gno (b := true) rfl rfl (congrArg Value.bool (decide_eq_true (by omega))) rfl rfl ?_ | (refine WL_r (by first | refine Run_pev rfl | refine k_add64 rfl rfl (by omega) | refine k_sub64 rfl rfl (by omega) | refine k_len rfl (Ty.isl rfl) | refine k_lens rfl (Ty.iss rfl) | refine k_not rfl | refine k_notb rfl | refine k_min rfl rfl | refine k_max rfl rfl | refine k_min3 rfl rfl rfl | refine k_max3 rfl rfl rfl | refine k_mul64 rfl rfl (by omega) | refine k_quo64 rfl rfl (by omega) | refine k_rem rfl rfl (by omega) | refine k_extract rfl rfl | apply k_makeFunc | refine k_conv_i64 rfl (Ty.und rfl) (Ty.knd rfl) (by omega) | refine k_conv_fit (qd := .u16) rfl (Ty.und rfl) (Ty.knd rfl) (fit16 (by omega)) | refine k_conv_fit (qd := .u64) rfl (Ty.und rfl) (Ty.knd rfl) (fit64 (by omega)) | refine k_conv_fit (qd := .u8) rfl (Ty.und rfl) (Ty.knd rfl) (fit8 (by omega)) | refine k_conv_u8 rfl (Ty.und rfl) (Ty.knd rfl) | refine k_conv_u16 rfl (Ty.und rfl) (Ty.knd rfl) | refine k_conv_u64 rfl (Ty.und rfl) (Ty.knd rfl) | refine k_pick_f (congrArg Value.bool (decide_eq_false (by omega))) rfl | refine k_pick_t (congrArg Value.bool (decide_eq_true (by omega))) rfl) rfl ?_))
  refine WS_loop (G := (Nat) × (Option Addr) × (Nat)) (fun | (i, a1, c1) => hs.length - i) 8581546128 (fun | (i, a1, c1) => [(23, .int .i64 i)]) (fun | (i, a1, c1), w' => i ≤ hs.length ∧ Hp [] w w' [Rw q a1 c1 (fb (hs.take i))]) (0, none, 0) ⟨rfl, trivial⟩ ⟨by omega, hH⟩ ?_
  rintro ⟨i, a1, c1⟩ w' σ ⟨hi, hH⟩ IH
  show WS _ _ _ _ _ (updL [(23, .int .i64 i)] _) _
  by_cases hlt : i < hs.length
  · have hx4 := cls_at hs i hlt
    have hsn := fb_snoc hs hlt
    have hfl := fb_len (hs.take i)
    rw [List.length_take] at hfl
    generalize hs[i] = x at *
    have hS1 := hH.old hS
    repeat (first | refine WS_seq ?_ | refine WS_region ?_ | refine WL_nil ?_ | refine WS_block ?_ | refine WS_inBlock ?_ | refine WS_skip ?_ | refine WS_label ?_ | refine WS_scope ?_ | refine WS_inScope ?_ | refine WS_exit rfl ?_ | refine WS_true rfl ?_ | refine WS_false rfl ?_ | refine WS_yes rfl (by omega) ?_ | refine WS_no rfl (by omega) ?_ | refine WL_gyes rfl rfl rfl ?_ | refine WL_gno rfl rfl rfl rfl rfl ?_ | refine WL_gund rfl rfl rfl ?_ | refine WL_gyes rfl rfl (congrArg Value.bool (decide_eq_false (by omega))) ?_ | refine WL_gyes rfl rfl (congrArg Value.bool (decide_eq_true (by omega))) ?_ | refine WL_gno (b := false) rfl rfl (congrArg Value.bool (decide_eq_false (by omega))) rfl rfl ?_ | refine WL_gno (b := true) rfl rfl (congrArg Value.bool (decide_eq_true (by omega))) rfl rfl ?_ | (refine WL_r (by first | refine k_ix rfl rfl hS1 hCl (by decide) (Ty.sle rfl) (by omega) | refine k_loadC (cs := x.cells) rfl hS1 hx4 rfl (Ty.shp rfl) | refine Run_pev rfl | refine k_add64 rfl rfl (by omega) | refine k_sub64 rfl rfl (by omega) | refine k_len rfl (Ty.isl rfl) | refine k_lens rfl (Ty.iss rfl) | refine k_not rfl | refine k_notb rfl | refine k_min rfl rfl | refine k_max rfl rfl | refine k_min3 rfl rfl rfl | refine k_max3 rfl rfl rfl | refine k_mul64 rfl rfl (by omega) | refine k_quo64 rfl rfl (by omega) | refine k_rem rfl rfl (by omega) | refine k_extract rfl rfl | apply k_makeFunc | refine k_conv_i64 rfl (Ty.und rfl) (Ty.knd rfl) (by omega) | refine k_conv_fit (qd := .u16) rfl (Ty.und rfl) (Ty.knd rfl) (fit16 (by omega)) | refine k_conv_fit (qd := .u64) rfl (Ty.und rfl) (Ty.knd rfl) (fit64 (by omega)) | refine k_conv_fit (qd := .u8) rfl (Ty.und rfl) (Ty.knd rfl) (fit8 (by omega)) | refine k_conv_u8 rfl (Ty.und rfl) (Ty.knd rfl) | refine k_conv_u16 rfl (Ty.und rfl) (Ty.knd rfl) | refine k_conv_u64 rfl (Ty.und rfl) (Ty.knd rfl) | refine k_pick_f (congrArg Value.bool (decide_eq_false (by omega))) rfl | refine k_pick_t (congrArg Value.bool (decide_eq_true (by omega))) rfl) rfl ?_))
    refine WL_s (H_alloc hH (Ty.zer rfl) rfl ?_)
    try clear hH
    intro w2 b7 hH
    first | change Hp _ _ _ [] at hH | change Hp _ _ _ [_] at hH | change Hp _ _ _ [_, _] at hH | change Hp _ _ _ [_, _, _] at hH | change Hp _ _ _ [_, _, _, _] at hH | change Hp _ _ _ [_, _, _, _, _] at hH | change Hp _ _ _ [_, _, _, _, _, _] at hH | change Hp _ _ _ [_, _, _, _, _, _, _] at hH | change Hp _ _ _ [_, _, _, _, _, _, _, _] at hH | change Hp _ _ _ [_, _, _, _, _, _, _, _, _] at hH
    repeat (first | refine WS_seq ?_ | refine WS_region ?_ | refine WL_nil ?_ | refine WS_block ?_ | refine WS_inBlock ?_ | refine WS_skip ?_ | refine WS_label ?_ | refine WS_scope ?_ | refine WS_inScope ?_ | refine WS_exit rfl ?_ | refine WS_true rfl ?_ | refine WS_false rfl ?_ | refine WS_yes rfl (by omega) ?_ | refine WS_no rfl (by omega) ?_ | refine WL_gyes rfl rfl rfl ?_ | refine WL_gno rfl rfl rfl rfl rfl ?_ | refine WL_gund rfl rfl rfl ?_ | refine WL_gyes rfl rfl (congrArg Value.bool (decide_eq_false (by omega))) ?_ | refine WL_gyes rfl rfl (congrArg Value.bool (decide_eq_true (by omega))) ?_ | refine WL_gno (b := false) rfl rfl (congrArg Value.bool (decide_eq_false (by omega))) rfl rfl ?_ | refine WL_gno (b := true) rfl rfl (congrArg Value.bool (decide_eq_true (by omega))) rfl rfl ?_ | (refine WL_r (by first | refine Run_pev rfl | refine k_add64 rfl rfl (by omega) | refine k_sub64 rfl rfl (by omega) | refine k_len rfl (Ty.isl rfl) | refine k_lens rfl (Ty.iss rfl) | refine k_not rfl | refine k_notb rfl | refine k_min rfl rfl | refine k_max rfl rfl | refine k_min3 rfl rfl rfl | refine k_max3 rfl rfl rfl | refine k_mul64 rfl rfl (by omega) | refine k_quo64 rfl rfl (by omega) | refine k_rem rfl rfl (by omega) | refine k_extract rfl rfl | apply k_makeFunc | refine k_conv_i64 rfl (Ty.und rfl) (Ty.knd rfl) (by omega) | refine k_conv_fit (qd := .u16) rfl (Ty.und rfl) (Ty.knd rfl) (fit16 (by omega)) | refine k_conv_fit (qd := .u64) rfl (Ty.und rfl) (Ty.knd rfl) (fit64 (by omega)) | refine k_conv_fit (qd := .u8) rfl (Ty.und rfl) (Ty.knd rfl) (fit8 (by omega)) | refine k_conv_u8 rfl (Ty.und rfl) (Ty.knd rfl) | refine k_conv_u16 rfl (Ty.und rfl) (Ty.knd rfl) | refine k_conv_u64 rfl (Ty.und rfl) (Ty.knd rfl) | refine k_pick_f (congrArg Value.bool (decide_eq_false (by omega))) rfl | refine k_pick_t (congrArg Value.bool (decide_eq_true (by omega))) rfl) rfl ?_))
    refine WL_s (H_storeA 1 hH rfl rfl rfl rfl rfl (PH.one x) (Ty.shp rfl) ?_)
    try clear hH
    intro w3 hH
    first | change Hp _ _ _ [] at hH | change Hp _ _ _ [_] at hH | change Hp _ _ _ [_, _] at hH | change Hp _ _ _ [_, _, _] at hH | change Hp _ _ _ [_, _, _, _] at hH | change Hp _ _ _ [_, _, _, _, _] at hH | change Hp _ _ _ [_, _, _, _, _, _] at hH | change Hp _ _ _ [_, _, _, _, _, _, _] at hH | change Hp _ _ _ [_, _, _, _, _, _, _, _] at hH | change Hp _ _ _ [_, _, _, _, _, _, _, _, _] at hH
    have hB7 : Blk w3 b7 27 x.cells.toArray := hH.b 1 rfl
    repeat (first | refine WS_seq ?_ | refine WS_region ?_ | refine WL_nil ?_ | refine WS_block ?_ | refine WS_inBlock ?_ | refine WS_skip ?_ | refine WS_label ?_ | refine WS_scope ?_ | refine WS_inScope ?_ | refine WS_exit rfl ?_ | refine WS_true rfl ?_ | refine WS_false rfl ?_ | refine WS_yes rfl (by omega) ?_ | refine WS_no rfl (by omega) ?_ | refine WL_gyes rfl rfl rfl ?_ | refine WL_gno rfl rfl rfl rfl rfl ?_ | refine WL_gund rfl rfl rfl ?_ | refine WL_gyes rfl rfl (congrArg Value.bool (decide_eq_false (by omega))) ?_ | refine WL_gyes rfl rfl (congrArg Value.bool (decide_eq_true (by omega))) ?_ | refine WL_gno (b := false) rfl rfl (congrArg Value.bool (decide_eq_false (by omega))) rfl rfl ?_ | refine WL_gno (b := true) rfl rfl (congrArg Value.bool (decide_eq_true (by omega))) rfl rfl ?_ | (refine WL_r (by first | refine k_loadA rfl hB7 rfl (Ty.shp rfl) | refine Run_pev rfl | refine k_add64 rfl rfl (by omega) | refine k_sub64 rfl rfl (by omega) | refine k_len rfl (Ty.isl rfl) | refine k_lens rfl (Ty.iss rfl) | refine k_not rfl | refine k_notb rfl | refine k_min rfl rfl | refine k_max rfl rfl | refine k_min3 rfl rfl rfl | refine k_max3 rfl rfl rfl | refine k_mul64 rfl rfl (by omega) | refine k_quo64 rfl rfl (by omega) | refine k_rem rfl rfl (by omega) | refine k_extract rfl rfl | apply k_makeFunc | refine k_conv_i64 rfl (Ty.und rfl) (Ty.knd rfl) (by omega) | refine k_conv_fit (qd := .u16) rfl (Ty.und rfl) (Ty.knd rfl) (fit16 (by omega)) | refine k_conv_fit (qd := .u64) rfl (Ty.und rfl) (Ty.knd rfl) (fit64 (by omega)) | refine k_conv_fit (qd := .u8) rfl (Ty.und rfl) (Ty.knd rfl) (fit8 (by omega)) | refine k_conv_u8 rfl (Ty.und rfl) (Ty.knd rfl) | refine k_conv_u16 rfl (Ty.und rfl) (Ty.knd rfl) | refine k_conv_u64 rfl (Ty.und rfl) (Ty.knd rfl) | refine k_pick_f (congrArg Value.bool (decide_eq_false (by omega))) rfl | refine k_pick_t (congrArg Value.bool (decide_eq_true (by omega))) rfl) rfl ?_))
    try refine WL_gyes rfl rfl rfl ?_
    refine WL_s (S_call (pfit_spec x w3) rfl rfl ?_)
    rintro v w4 ⟨rfl, hE⟩
    replace hH := hH.ext0 hE
    repeat (first | refine WS_seq ?_ | refine WS_region ?_ | refine WL_nil ?_ | refine WS_block ?_ | refine WS_inBlock ?_ | refine WS_skip ?_ | refine WS_label ?_ | refine WS_scope ?_ | refine WS_inScope ?_ | refine WS_exit rfl ?_ | refine WS_true rfl ?_ | refine WS_false rfl ?_ | refine WS_yes rfl (by omega) ?_ | refine WS_no rfl (by omega) ?_ | refine WL_gyes rfl rfl rfl ?_ | refine WL_gno rfl rfl rfl rfl rfl ?_ | refine WL_gund rfl rfl rfl ?_ | refine WL_gyes rfl rfl (congrArg Value.bool (decide_eq_false (by omega))) ?_ | refine WL_gyes rfl rfl (congrArg Value.bool (decide_eq_true (by omega))) ?_ | refine WL_gno (b := false) rfl rfl (congrArg Value.bool (decide_eq_false (by omega))) rfl rfl ?_ | refine WL_gno (b := true) rfl rfl (congrArg Value.bool (decide_eq_true (by omega))) rfl rfl ?_ | (refine WL_r (by first | refine Run_pev rfl | refine k_add64 rfl rfl (by omega) | refine k_sub64 rfl rfl (by omega) | refine k_len rfl (Ty.isl rfl) | refine k_lens rfl (Ty.iss rfl) | refine k_not rfl | refine k_notb rfl | refine k_min rfl rfl | refine k_max rfl rfl | refine k_min3 rfl rfl rfl | refine k_max3 rfl rfl rfl | refine k_mul64 rfl rfl (by omega) | refine k_quo64 rfl rfl (by omega) | refine k_rem rfl rfl (by omega) | refine k_extract rfl rfl | apply k_makeFunc | refine k_conv_i64 rfl (Ty.und rfl) (Ty.knd rfl) (by omega) | refine k_conv_fit (qd := .u16) rfl (Ty.und rfl) (Ty.knd rfl) (fit16 (by omega)) | refine k_conv_fit (qd := .u64) rfl (Ty.und rfl) (Ty.knd rfl) (fit64 (by omega)) | refine k_conv_fit (qd := .u8) rfl (Ty.und rfl) (Ty.knd rfl) (fit8 (by omega)) | refine k_conv_u8 rfl (Ty.und rfl) (Ty.knd rfl) | refine k_conv_u16 rfl (Ty.und rfl) (Ty.knd rfl) | refine k_conv_u64 rfl (Ty.und rfl) (Ty.knd rfl) | refine k_pick_f (congrArg Value.bool (decide_eq_false (by omega))) rfl | refine k_pick_t (congrArg Value.bool (decide_eq_true (by omega))) rfl) rfl ?_))
    try refine WL_gyes rfl rfl rfl ?_
    refine WL_s (S_call (pput_spec (PH.fit_ok x) (by omega) (hH.at 0 rfl)) rfl rfl ?_)
    rintro v w5 ⟨rfl, a2, c2, hU⟩
    replace hH := (hH.up 0 rfl hU).take 1
    first | change Hp _ _ _ [] at hH | change Hp _ _ _ [_] at hH | change Hp _ _ _ [_, _] at hH | change Hp _ _ _ [_, _, _] at hH | change Hp _ _ _ [_, _, _, _] at hH | change Hp _ _ _ [_, _, _, _, _] at hH | change Hp _ _ _ [_, _, _, _, _, _] at hH | change Hp _ _ _ [_, _, _, _, _, _, _] at hH | change Hp _ _ _ [_, _, _, _, _, _, _, _] at hH | change Hp _ _ _ [_, _, _, _, _, _, _, _, _] at hH
    repeat (first | refine WS_seq ?_ | refine WS_region ?_ | refine WL_nil ?_ | refine WS_block ?_ | refine WS_inBlock ?_ | refine WS_skip ?_ | refine WS_label ?_ | refine WS_scope ?_ | refine WS_inScope ?_ | refine WS_exit rfl ?_ | refine WS_true rfl ?_ | refine WS_false rfl ?_ | refine WS_yes rfl (by omega) ?_ | refine WS_no rfl (by omega) ?_ | refine WL_gyes rfl rfl rfl ?_ | refine WL_gno rfl rfl rfl rfl rfl ?_ | refine WL_gund rfl rfl rfl ?_ | refine WL_gyes rfl rfl (congrArg Value.bool (decide_eq_false (by omega))) ?_ | refine WL_gyes rfl rfl (congrArg Value.bool (decide_eq_true (by omega))) ?_ | refine WL_gno (b := false) rfl rfl (congrArg Value.bool (decide_eq_false (by omega))) rfl rfl ?_ | refine WL_gno (b := true) rfl rfl (congrArg Value.bool (decide_eq_true (by omega))) rfl rfl ?_ | (refine WL_r (by first | refine Run_pev rfl | refine k_add64 rfl rfl (by omega) | refine k_sub64 rfl rfl (by omega) | refine k_len rfl (Ty.isl rfl) | refine k_lens rfl (Ty.iss rfl) | refine k_not rfl | refine k_notb rfl | refine k_min rfl rfl | refine k_max rfl rfl | refine k_min3 rfl rfl rfl | refine k_max3 rfl rfl rfl | refine k_mul64 rfl rfl (by omega) | refine k_quo64 rfl rfl (by omega) | refine k_rem rfl rfl (by omega) | refine k_extract rfl rfl | apply k_makeFunc | refine k_conv_i64 rfl (Ty.und rfl) (Ty.knd rfl) (by omega) | refine k_conv_fit (qd := .u16) rfl (Ty.und rfl) (Ty.knd rfl) (fit16 (by omega)) | refine k_conv_fit (qd := .u64) rfl (Ty.und rfl) (Ty.knd rfl) (fit64 (by omega)) | refine k_conv_fit (qd := .u8) rfl (Ty.und rfl) (Ty.knd rfl) (fit8 (by omega)) | refine k_conv_u8 rfl (Ty.und rfl) (Ty.knd rfl) | refine k_conv_u16 rfl (Ty.und rfl) (Ty.knd rfl) | refine k_conv_u64 rfl (Ty.und rfl) (Ty.knd rfl) | refine k_pick_f (congrArg Value.bool (decide_eq_false (by omega))) rfl | refine k_pick_t (congrArg Value.bool (decide_eq_true (by omega))) rfl) rfl ?_))
    refine IH (i + 1, a2, c2) _ _ ?_ ?_ ?_ ?_
    · simp only; omega
    · exact ⟨rfl, trivial⟩
    · exact (by repeat (first | with_reducible apply Agr.refl | refine Agr.upd rfl ?_ | refine Agr.updo rfl ?_ | refine Agr.updL rfl ?_ | refine Agr.mrg rfl ?_ | exact Agr.refl | refine Agr.updn ?_))
    · exact ⟨by omega, by rw [hsn]; exact hH⟩
  obtain rfl : i = hs.length := by omega
  clear IH
  rw [List.take_length] at hH
  have hfl := fb_len hs
  have hpl := pk_len (fb hs)
  have hpb := pk_byt (fb hs)
  have hbp := bl_pk (fb hs)
  obtain ⟨e2, he2⟩ : ∃ e2 : Nat, (fb hs).length - 1 - u % 23 = e2 := ⟨_, rfl⟩
  have hbp2 : bl (pk (fb hs)) 0 e2 = (fb hs).take e2 := by
    rw [bl_pre (e := (fb hs).length) (by omega) (by omega), hbp]
  obtain ⟨u', hu'⟩ : ∃ u', u % 23 = u' := ⟨_, rfl⟩
  have he2I : max (((fb hs).length : Int) - 1 - (u' : Int)) 0 = (e2 : Int) := by omega
  repeat (first | refine WS_seq ?_ | refine WS_region ?_ | refine WL_nil ?_ | refine WS_block ?_ | refine WS_inBlock ?_ | refine WS_skip ?_ | refine WS_label ?_ | refine WS_scope ?_ | refine WS_inScope ?_ | refine WS_exit rfl ?_ | refine WS_true rfl ?_ | refine WS_false rfl ?_ | refine WS_yes rfl (by omega) ?_ | refine WS_no rfl (by omega) ?_ | refine WL_gyes rfl rfl rfl ?_ | refine WL_gno rfl rfl rfl rfl rfl ?_ | refine WL_gund rfl rfl rfl ?_ | refine WL_gyes rfl rfl (congrArg Value.bool (decide_eq_false (by omega))) ?_ | refine WL_gyes rfl rfl (congrArg Value.bool (decide_eq_true (by omega))) ?_ | refine WL_gno (b := false) rfl rfl (congrArg Value.bool (decide_eq_false (by omega))) rfl rfl ?_ | refine WL_gno (b := true) rfl rfl (congrArg Value.bool (decide_eq_true (by omega))) rfl rfl ?_ | (refine WL_r (by first | refine Run_pev rfl | refine k_add64 rfl rfl (by omega) | refine k_sub64 rfl rfl (by omega) | refine k_len rfl (Ty.isl rfl) | refine k_lens rfl (Ty.iss rfl) | refine k_not rfl | refine k_notb rfl | refine k_min rfl rfl | refine k_max rfl rfl | refine k_min3 rfl rfl rfl | refine k_max3 rfl rfl rfl | refine k_mul64 rfl rfl (by omega) | refine k_quo64 rfl rfl (by omega) | refine k_rem rfl rfl (by omega) | refine k_extract rfl rfl | apply k_makeFunc | refine k_conv_i64 rfl (Ty.und rfl) (Ty.knd rfl) (by omega) | refine k_conv_fit (qd := .u16) rfl (Ty.und rfl) (Ty.knd rfl) (fit16 (by omega)) | refine k_conv_fit (qd := .u64) rfl (Ty.und rfl) (Ty.knd rfl) (fit64 (by omega)) | refine k_conv_fit (qd := .u8) rfl (Ty.und rfl) (Ty.knd rfl) (fit8 (by omega)) | refine k_conv_u8 rfl (Ty.und rfl) (Ty.knd rfl) | refine k_conv_u16 rfl (Ty.und rfl) (Ty.knd rfl) | refine k_conv_u64 rfl (Ty.und rfl) (Ty.knd rfl) | refine k_pick_f (congrArg Value.bool (decide_eq_false (by omega))) rfl | refine k_pick_t (congrArg Value.bool (decide_eq_true (by omega))) rfl) rfl ?_))
  try refine WL_gyes rfl rfl rfl ?_
  refine WL_s (S_call (wbytes_spec (hH.at 0 rfl) (by omega)) rfl rfl ?_)
  rintro v w2 ⟨a2, c2, rfl, hN⟩
  replace hH := hH.nu hN
  clear hN
  first | change Hp _ _ _ [] at hH | change Hp _ _ _ [_] at hH | change Hp _ _ _ [_, _] at hH | change Hp _ _ _ [_, _, _] at hH | change Hp _ _ _ [_, _, _, _] at hH | change Hp _ _ _ [_, _, _, _, _] at hH | change Hp _ _ _ [_, _, _, _, _, _] at hH | change Hp _ _ _ [_, _, _, _, _, _, _] at hH | change Hp _ _ _ [_, _, _, _, _, _, _, _] at hH | change Hp _ _ _ [_, _, _, _, _, _, _, _, _] at hH
  repeat (first | refine WS_seq ?_ | refine WS_region ?_ | refine WL_nil ?_ | refine WS_block ?_ | refine WS_inBlock ?_ | refine WS_skip ?_ | refine WS_label ?_ | refine WS_scope ?_ | refine WS_inScope ?_ | refine WS_exit rfl ?_ | refine WS_true rfl ?_ | refine WS_false rfl ?_ | refine WS_yes rfl (by omega) ?_ | refine WS_no rfl (by omega) ?_ | refine WL_gyes rfl rfl rfl ?_ | refine WL_gno rfl rfl rfl rfl rfl ?_ | refine WL_gund rfl rfl rfl ?_ | refine WL_gyes rfl rfl (congrArg Value.bool (decide_eq_false (by omega))) ?_ | refine WL_gyes rfl rfl (congrArg Value.bool (decide_eq_true (by omega))) ?_ | refine WL_gno (b := false) rfl rfl (congrArg Value.bool (decide_eq_false (by omega))) rfl rfl ?_ | refine WL_gno (b := true) rfl rfl (congrArg Value.bool (decide_eq_true (by omega))) rfl rfl ?_ | (refine WL_r (by first | refine Run_pev rfl | refine k_add64 rfl rfl (by omega) | refine k_sub64 rfl rfl (by omega) | refine k_len rfl (Ty.isl rfl) | refine k_lens rfl (Ty.iss rfl) | refine k_not rfl | refine k_notb rfl | refine k_min rfl rfl | refine k_max rfl rfl | refine k_min3 rfl rfl rfl | refine k_max3 rfl rfl rfl | refine k_mul64 rfl rfl (by omega) | refine k_quo64 rfl rfl (by omega) | refine k_rem rfl rfl (by omega) | refine k_extract rfl rfl | apply k_makeFunc | refine k_conv_i64 rfl (Ty.und rfl) (Ty.knd rfl) (by omega) | refine k_conv_fit (qd := .u16) rfl (Ty.und rfl) (Ty.knd rfl) (fit16 (by omega)) | refine k_conv_fit (qd := .u64) rfl (Ty.und rfl) (Ty.knd rfl) (fit64 (by omega)) | refine k_conv_fit (qd := .u8) rfl (Ty.und rfl) (Ty.knd rfl) (fit8 (by omega)) | refine k_conv_u8 rfl (Ty.und rfl) (Ty.knd rfl) | refine k_conv_u16 rfl (Ty.und rfl) (Ty.knd rfl) | refine k_conv_u64 rfl (Ty.und rfl) (Ty.knd rfl) | refine k_pick_f (congrArg Value.bool (decide_eq_false (by omega))) rfl | refine k_pick_t (congrArg Value.bool (decide_eq_true (by omega))) rfl) rfl ?_))
  try refine WL_gyes rfl rfl rfl ?_
  refine WL_s (S_call (wlen_spec (hH.at 0 rfl)) rfl rfl ?_)
  rintro v w3 ⟨rfl, rfl⟩
  repeat (first | refine WS_seq ?_ | refine WS_region ?_ | refine WL_nil ?_ | refine WS_block ?_ | refine WS_inBlock ?_ | refine WS_skip ?_ | refine WS_label ?_ | refine WS_scope ?_ | refine WS_inScope ?_ | refine WS_exit rfl ?_ | refine WS_true rfl ?_ | refine WS_false rfl ?_ | refine WS_yes rfl (by omega) ?_ | refine WS_no rfl (by omega) ?_ | refine WL_gyes rfl rfl rfl ?_ | refine WL_gno rfl rfl rfl rfl rfl ?_ | refine WL_gund rfl rfl rfl ?_ | refine WL_gyes rfl rfl (congrArg Value.bool (decide_eq_false (by omega))) ?_ | refine WL_gyes rfl rfl (congrArg Value.bool (decide_eq_true (by omega))) ?_ | refine WL_gno (b := false) rfl rfl (congrArg Value.bool (decide_eq_false (by omega))) rfl rfl ?_ | refine WL_gno (b := true) rfl rfl (congrArg Value.bool (decide_eq_true (by omega))) rfl rfl ?_ | (refine WL_r (by first | refine Run_pev rfl | refine k_add64 rfl rfl (by omega) | refine k_sub64 rfl rfl (by omega) | refine k_len rfl (Ty.isl rfl) | refine k_lens rfl (Ty.iss rfl) | refine k_not rfl | refine k_notb rfl | refine k_min rfl rfl | refine k_max rfl rfl | refine k_min3 rfl rfl rfl | refine k_max3 rfl rfl rfl | refine k_mul64 rfl rfl (by omega) | refine k_quo64 rfl rfl (by omega) | refine k_rem rfl rfl (by omega) | refine k_extract rfl rfl | apply k_makeFunc | refine k_conv_i64 rfl (Ty.und rfl) (Ty.knd rfl) (by omega) | refine k_conv_fit (qd := .u16) rfl (Ty.und rfl) (Ty.knd rfl) (fit16 (by omega)) | refine k_conv_fit (qd := .u64) rfl (Ty.und rfl) (Ty.knd rfl) (fit64 (by omega)) | refine k_conv_fit (qd := .u8) rfl (Ty.und rfl) (Ty.knd rfl) (fit8 (by omega)) | refine k_conv_u8 rfl (Ty.und rfl) (Ty.knd rfl) | refine k_conv_u16 rfl (Ty.und rfl) (Ty.knd rfl) | refine k_conv_u64 rfl (Ty.und rfl) (Ty.knd rfl) | refine k_pick_f (congrArg Value.bool (decide_eq_false (by omega))) rfl | refine k_pick_t (congrArg Value.bool (decide_eq_true (by omega))) rfl) rfl ?_))
  try refine WL_gyes rfl rfl rfl ?_
  refine WL_s (S_call (read_spec (e := (fb hs).length) (hH.o 1 rfl).sl rfl (by omega) (by omega)) rfl rfl ?_)
  rintro v w3 ⟨p, a3, c3, rfl, hN⟩
  replace hN := Rr.rd hN (by omega) (by omega) hpb
  rw [hbp] at hN
  replace hH := (hH.nu hN).del 1
  clear hN
  first | change Hp _ _ _ [] at hH | change Hp _ _ _ [_] at hH | change Hp _ _ _ [_, _] at hH | change Hp _ _ _ [_, _, _] at hH | change Hp _ _ _ [_, _, _, _] at hH | change Hp _ _ _ [_, _, _, _, _] at hH | change Hp _ _ _ [_, _, _, _, _, _] at hH | change Hp _ _ _ [_, _, _, _, _, _, _] at hH | change Hp _ _ _ [_, _, _, _, _, _, _, _] at hH | change Hp _ _ _ [_, _, _, _, _, _, _, _, _] at hH
  repeat (first | refine WS_seq ?_ | refine WS_region ?_ | refine WL_nil ?_ | refine WS_block ?_ | refine WS_inBlock ?_ | refine WS_skip ?_ | refine WS_label ?_ | refine WS_scope ?_ | refine WS_inScope ?_ | refine WS_exit rfl ?_ | refine WS_true rfl ?_ | refine WS_false rfl ?_ | refine WS_yes rfl (by omega) ?_ | refine WS_no rfl (by omega) ?_ | refine WL_gyes rfl rfl rfl ?_ | refine WL_gno rfl rfl rfl rfl rfl ?_ | refine WL_gund rfl rfl rfl ?_ | refine WL_gyes rfl rfl (congrArg Value.bool (decide_eq_false (by omega))) ?_ | refine WL_gyes rfl rfl (congrArg Value.bool (decide_eq_true (by omega))) ?_ | refine WL_gno (b := false) rfl rfl (congrArg Value.bool (decide_eq_false (by omega))) rfl rfl ?_ | refine WL_gno (b := true) rfl rfl (congrArg Value.bool (decide_eq_true (by omega))) rfl rfl ?_ | (refine WL_r (by first | refine Run_pev rfl | refine k_add64 rfl rfl (by omega) | refine k_sub64 rfl rfl (by omega) | refine k_len rfl (Ty.isl rfl) | refine k_lens rfl (Ty.iss rfl) | refine k_not rfl | refine k_notb rfl | refine k_min rfl rfl | refine k_max rfl rfl | refine k_min3 rfl rfl rfl | refine k_max3 rfl rfl rfl | refine k_mul64 rfl rfl (by omega) | refine k_quo64 rfl rfl (by omega) | refine k_rem rfl rfl (by omega) | refine k_extract rfl rfl | apply k_makeFunc | refine k_conv_i64 rfl (Ty.und rfl) (Ty.knd rfl) (by omega) | refine k_conv_fit (qd := .u16) rfl (Ty.und rfl) (Ty.knd rfl) (fit16 (by omega)) | refine k_conv_fit (qd := .u64) rfl (Ty.und rfl) (Ty.knd rfl) (fit64 (by omega)) | refine k_conv_fit (qd := .u8) rfl (Ty.und rfl) (Ty.knd rfl) (fit8 (by omega)) | refine k_conv_u8 rfl (Ty.und rfl) (Ty.knd rfl) | refine k_conv_u16 rfl (Ty.und rfl) (Ty.knd rfl) | refine k_conv_u64 rfl (Ty.und rfl) (Ty.knd rfl) | refine k_pick_f (congrArg Value.bool (decide_eq_false (by omega))) rfl | refine k_pick_t (congrArg Value.bool (decide_eq_true (by omega))) rfl) rfl ?_))
  try refine WL_gyes rfl rfl rfl ?_
  refine WL_s (S_call (wbytes_spec (hH.at 0 rfl) (by omega)) rfl rfl ?_)
  rintro v w4 ⟨a4, c4, rfl, hN⟩
  replace hH := hH.nu hN
  clear hN
  first | change Hp _ _ _ [] at hH | change Hp _ _ _ [_] at hH | change Hp _ _ _ [_, _] at hH | change Hp _ _ _ [_, _, _] at hH | change Hp _ _ _ [_, _, _, _] at hH | change Hp _ _ _ [_, _, _, _, _] at hH | change Hp _ _ _ [_, _, _, _, _, _] at hH | change Hp _ _ _ [_, _, _, _, _, _, _] at hH | change Hp _ _ _ [_, _, _, _, _, _, _, _] at hH | change Hp _ _ _ [_, _, _, _, _, _, _, _, _] at hH
  repeat (first | refine WS_seq ?_ | refine WS_region ?_ | refine WL_nil ?_ | refine WS_block ?_ | refine WS_inBlock ?_ | refine WS_skip ?_ | refine WS_label ?_ | refine WS_scope ?_ | refine WS_inScope ?_ | refine WS_exit rfl ?_ | refine WS_true rfl ?_ | refine WS_false rfl ?_ | refine WS_yes rfl (by omega) ?_ | refine WS_no rfl (by omega) ?_ | refine WL_gyes rfl rfl rfl ?_ | refine WL_gno rfl rfl rfl rfl rfl ?_ | refine WL_gund rfl rfl rfl ?_ | refine WL_gyes rfl rfl (congrArg Value.bool (decide_eq_false (by omega))) ?_ | refine WL_gyes rfl rfl (congrArg Value.bool (decide_eq_true (by omega))) ?_ | refine WL_gno (b := false) rfl rfl (congrArg Value.bool (decide_eq_false (by omega))) rfl rfl ?_ | refine WL_gno (b := true) rfl rfl (congrArg Value.bool (decide_eq_true (by omega))) rfl rfl ?_ | (refine WL_r (by first | refine Run_pev rfl | refine k_add64 rfl rfl (by omega) | refine k_sub64 rfl rfl (by omega) | refine k_len rfl (Ty.isl rfl) | refine k_lens rfl (Ty.iss rfl) | refine k_not rfl | refine k_notb rfl | refine k_min rfl rfl | refine k_max rfl rfl | refine k_min3 rfl rfl rfl | refine k_max3 rfl rfl rfl | refine k_mul64 rfl rfl (by omega) | refine k_quo64 rfl rfl (by omega) | refine k_rem rfl rfl (by omega) | refine k_extract rfl rfl | apply k_makeFunc | refine k_conv_i64 rfl (Ty.und rfl) (Ty.knd rfl) (by omega) | refine k_conv_fit (qd := .u16) rfl (Ty.und rfl) (Ty.knd rfl) (fit16 (by omega)) | refine k_conv_fit (qd := .u64) rfl (Ty.und rfl) (Ty.knd rfl) (fit64 (by omega)) | refine k_conv_fit (qd := .u8) rfl (Ty.und rfl) (Ty.knd rfl) (fit8 (by omega)) | refine k_conv_u8 rfl (Ty.und rfl) (Ty.knd rfl) | refine k_conv_u16 rfl (Ty.und rfl) (Ty.knd rfl) | refine k_conv_u64 rfl (Ty.und rfl) (Ty.knd rfl) | refine k_pick_f (congrArg Value.bool (decide_eq_false (by omega))) rfl | refine k_pick_t (congrArg Value.bool (decide_eq_true (by omega))) rfl) rfl ?_))
  try refine WL_gyes rfl rfl rfl ?_
  refine WL_s (S_call (wlen_spec (hH.at 0 rfl)) rfl rfl ?_)
  rintro v w5 ⟨rfl, rfl⟩
  repeat (first | refine WS_seq ?_ | refine WS_region ?_ | refine WL_nil ?_ | refine WS_block ?_ | refine WS_inBlock ?_ | refine WS_skip ?_ | refine WS_label ?_ | refine WS_scope ?_ | refine WS_inScope ?_ | refine WS_exit rfl ?_ | refine WS_true rfl ?_ | refine WS_false rfl ?_ | refine WS_yes rfl (by omega) ?_ | refine WS_no rfl (by omega) ?_ | refine WL_gyes rfl rfl rfl ?_ | refine WL_gno rfl rfl rfl rfl rfl ?_ | refine WL_gund rfl rfl rfl ?_ | refine WL_gyes rfl rfl (congrArg Value.bool (decide_eq_false (by omega))) ?_ | refine WL_gyes rfl rfl (congrArg Value.bool (decide_eq_true (by omega))) ?_ | refine WL_gno (b := false) rfl rfl (congrArg Value.bool (decide_eq_false (by omega))) rfl rfl ?_ | refine WL_gno (b := true) rfl rfl (congrArg Value.bool (decide_eq_true (by omega))) rfl rfl ?_ | (refine WL_r (by first | refine (k_remu (n := 23) rfl rfl (by decide)).is (congrArg (fun n : Nat => Value.int .u8 (n : Int)) hu') | refine Run_pev rfl | refine k_add64 rfl rfl (by omega) | refine k_sub64 rfl rfl (by omega) | refine k_len rfl (Ty.isl rfl) | refine k_lens rfl (Ty.iss rfl) | refine k_not rfl | refine k_notb rfl | refine k_min rfl rfl | refine k_max rfl rfl | refine k_min3 rfl rfl rfl | refine k_max3 rfl rfl rfl | refine k_mul64 rfl rfl (by omega) | refine k_quo64 rfl rfl (by omega) | refine k_rem rfl rfl (by omega) | refine k_extract rfl rfl | apply k_makeFunc | refine k_conv_i64 rfl (Ty.und rfl) (Ty.knd rfl) (by omega) | refine k_conv_fit (qd := .u16) rfl (Ty.und rfl) (Ty.knd rfl) (fit16 (by omega)) | refine k_conv_fit (qd := .u64) rfl (Ty.und rfl) (Ty.knd rfl) (fit64 (by omega)) | refine k_conv_fit (qd := .u8) rfl (Ty.und rfl) (Ty.knd rfl) (fit8 (by omega)) | refine k_conv_u8 rfl (Ty.und rfl) (Ty.knd rfl) | refine k_conv_u16 rfl (Ty.und rfl) (Ty.knd rfl) | refine k_conv_u64 rfl (Ty.und rfl) (Ty.knd rfl) | refine k_pick_f (congrArg Value.bool (decide_eq_false (by omega))) rfl | refine k_pick_t (congrArg Value.bool (decide_eq_true (by omega))) rfl) rfl ?_))
  rw [he2I]
  try refine WL_gyes rfl rfl rfl ?_
  refine WL_s (S_call (read_spec (e := e2) (hH.o 2 rfl).sl rfl (by omega) (by omega)) rfl rfl ?_)
  rintro v w5 ⟨t, a5, c5, rfl, hN⟩
  replace hN := Rr.rd hN (by omega) (by omega) hpb
  rw [hbp2] at hN
  replace hH := (hH.nu hN).del 2
  clear hN
  first | change Hp _ _ _ [] at hH | change Hp _ _ _ [_] at hH | change Hp _ _ _ [_, _] at hH | change Hp _ _ _ [_, _, _] at hH | change Hp _ _ _ [_, _, _, _] at hH | change Hp _ _ _ [_, _, _, _, _] at hH | change Hp _ _ _ [_, _, _, _, _, _] at hH | change Hp _ _ _ [_, _, _, _, _, _, _] at hH | change Hp _ _ _ [_, _, _, _, _, _, _, _] at hH | change Hp _ _ _ [_, _, _, _, _, _, _, _, _] at hH
  repeat (first | refine WS_seq ?_ | refine WS_region ?_ | refine WL_nil ?_ | refine WS_block ?_ | refine WS_inBlock ?_ | refine WS_skip ?_ | refine WS_label ?_ | refine WS_scope ?_ | refine WS_inScope ?_ | refine WS_exit rfl ?_ | refine WS_true rfl ?_ | refine WS_false rfl ?_ | refine WS_yes rfl (by omega) ?_ | refine WS_no rfl (by omega) ?_ | refine WL_gyes rfl rfl rfl ?_ | refine WL_gno rfl rfl rfl rfl rfl ?_ | refine WL_gund rfl rfl rfl ?_ | refine WL_gyes rfl rfl (congrArg Value.bool (decide_eq_false (by omega))) ?_ | refine WL_gyes rfl rfl (congrArg Value.bool (decide_eq_true (by omega))) ?_ | refine WL_gno (b := false) rfl rfl (congrArg Value.bool (decide_eq_false (by omega))) rfl rfl ?_ | refine WL_gno (b := true) rfl rfl (congrArg Value.bool (decide_eq_true (by omega))) rfl rfl ?_ | (refine WL_r (by first | refine Run_pev rfl | refine k_add64 rfl rfl (by omega) | refine k_sub64 rfl rfl (by omega) | refine k_len rfl (Ty.isl rfl) | refine k_lens rfl (Ty.iss rfl) | refine k_not rfl | refine k_notb rfl | refine k_min rfl rfl | refine k_max rfl rfl | refine k_min3 rfl rfl rfl | refine k_max3 rfl rfl rfl | refine k_mul64 rfl rfl (by omega) | refine k_quo64 rfl rfl (by omega) | refine k_rem rfl rfl (by omega) | refine k_extract rfl rfl | apply k_makeFunc | refine k_conv_i64 rfl (Ty.und rfl) (Ty.knd rfl) (by omega) | refine k_conv_fit (qd := .u16) rfl (Ty.und rfl) (Ty.knd rfl) (fit16 (by omega)) | refine k_conv_fit (qd := .u64) rfl (Ty.und rfl) (Ty.knd rfl) (fit64 (by omega)) | refine k_conv_fit (qd := .u8) rfl (Ty.und rfl) (Ty.knd rfl) (fit8 (by omega)) | refine k_conv_u8 rfl (Ty.und rfl) (Ty.knd rfl) | refine k_conv_u16 rfl (Ty.und rfl) (Ty.knd rfl) | refine k_conv_u64 rfl (Ty.und rfl) (Ty.knd rfl) | refine k_pick_f (congrArg Value.bool (decide_eq_false (by omega))) rfl | refine k_pick_t (congrArg Value.bool (decide_eq_true (by omega))) rfl) rfl ?_))
  refine WS_loop (G := (Nat) × (RS)) (fun | (i, st) => hs.length - i) 2475880078568508749984578576 (fun | (i, st) => [(51, .int .i64 i)]) (fun | (i, st), w' => i ≤ hs.length ∧ (i < hs.length → st = ⟨(fb (hs.drop i)).take (e2 - 23 * i), false⟩) ∧ Hp [] w w' [Rw q a1 c1 (fb hs), Rd p a3 c3 ⟨fb (hs.drop i), false⟩, Rd t a5 c5 st]) (0, ⟨(fb hs).take e2, false⟩) ⟨rfl, trivial⟩ ⟨by omega, fun _ => rfl, hH⟩ ?_
  rintro ⟨i, st⟩ w' σ ⟨hi, hst, hH⟩ IH
  show WS _ _ _ _ _ (updL [(51, .int .i64 i)] _) _
  by_cases hlt : i < hs.length
  · have hst' := hst hlt
    subst hst'
    have hx4 := cls_at hs i hlt
    have hd := fb_drop hs hlt
    rw [hd] at hH
    have hfd := fb_len (hs.drop (i + 1))
    rw [List.length_drop] at hfd
    generalize hs[i] = x at *
    have hxb := PH.bits_len x.fit
    have hxo := PH.fit_ok x
    have hfz : FitsK [some .i64, none, none, some .i64] x.fit.cells := PH.fitsK (PH.fit_wide x)
    have hS1 := hH.old hS
    repeat (first | refine WS_seq ?_ | refine WS_region ?_ | refine WL_nil ?_ | refine WS_block ?_ | refine WS_inBlock ?_ | refine WS_skip ?_ | refine WS_label ?_ | refine WS_scope ?_ | refine WS_inScope ?_ | refine WS_exit rfl ?_ | refine WS_true rfl ?_ | refine WS_false rfl ?_ | refine WS_yes rfl (by omega) ?_ | refine WS_no rfl (by omega) ?_ | refine WL_gyes rfl rfl rfl ?_ | refine WL_gno rfl rfl rfl rfl rfl ?_ | refine WL_gund rfl rfl rfl ?_ | refine WL_gyes rfl rfl (congrArg Value.bool (decide_eq_false (by omega))) ?_ | refine WL_gyes rfl rfl (congrArg Value.bool (decide_eq_true (by omega))) ?_ | refine WL_gno (b := false) rfl rfl (congrArg Value.bool (decide_eq_false (by omega))) rfl rfl ?_ | refine WL_gno (b := true) rfl rfl (congrArg Value.bool (decide_eq_true (by omega))) rfl rfl ?_ | (refine WL_r (by first | refine k_ix rfl rfl hS1 hCl (by decide) (Ty.sle rfl) (by omega) | refine k_loadC (cs := x.cells) rfl hS1 hx4 rfl (Ty.shp rfl) | refine Run_pev rfl | refine k_add64 rfl rfl (by omega) | refine k_sub64 rfl rfl (by omega) | refine k_len rfl (Ty.isl rfl) | refine k_lens rfl (Ty.iss rfl) | refine k_not rfl | refine k_notb rfl | refine k_min rfl rfl | refine k_max rfl rfl | refine k_min3 rfl rfl rfl | refine k_max3 rfl rfl rfl | refine k_mul64 rfl rfl (by omega) | refine k_quo64 rfl rfl (by omega) | refine k_rem rfl rfl (by omega) | refine k_extract rfl rfl | apply k_makeFunc | refine k_conv_i64 rfl (Ty.und rfl) (Ty.knd rfl) (by omega) | refine k_conv_fit (qd := .u16) rfl (Ty.und rfl) (Ty.knd rfl) (fit16 (by omega)) | refine k_conv_fit (qd := .u64) rfl (Ty.und rfl) (Ty.knd rfl) (fit64 (by omega)) | refine k_conv_fit (qd := .u8) rfl (Ty.und rfl) (Ty.knd rfl) (fit8 (by omega)) | refine k_conv_u8 rfl (Ty.und rfl) (Ty.knd rfl) | refine k_conv_u16 rfl (Ty.und rfl) (Ty.knd rfl) | refine k_conv_u64 rfl (Ty.und rfl) (Ty.knd rfl) | refine k_pick_f (congrArg Value.bool (decide_eq_false (by omega))) rfl | refine k_pick_t (congrArg Value.bool (decide_eq_true (by omega))) rfl) rfl ?_))
    refine WL_s (H_alloc hH (Ty.zer rfl) rfl ?_)
    try clear hH
    intro w6 b11 hH
    first | change Hp _ _ _ [] at hH | change Hp _ _ _ [_] at hH | change Hp _ _ _ [_, _] at hH | change Hp _ _ _ [_, _, _] at hH | change Hp _ _ _ [_, _, _, _] at hH | change Hp _ _ _ [_, _, _, _, _] at hH | change Hp _ _ _ [_, _, _, _, _, _] at hH | change Hp _ _ _ [_, _, _, _, _, _, _] at hH | change Hp _ _ _ [_, _, _, _, _, _, _, _] at hH | change Hp _ _ _ [_, _, _, _, _, _, _, _, _] at hH
    repeat (first | refine WS_seq ?_ | refine WS_region ?_ | refine WL_nil ?_ | refine WS_block ?_ | refine WS_inBlock ?_ | refine WS_skip ?_ | refine WS_label ?_ | refine WS_scope ?_ | refine WS_inScope ?_ | refine WS_exit rfl ?_ | refine WS_true rfl ?_ | refine WS_false rfl ?_ | refine WS_yes rfl (by omega) ?_ | refine WS_no rfl (by omega) ?_ | refine WL_gyes rfl rfl rfl ?_ | refine WL_gno rfl rfl rfl rfl rfl ?_ | refine WL_gund rfl rfl rfl ?_ | refine WL_gyes rfl rfl (congrArg Value.bool (decide_eq_false (by omega))) ?_ | refine WL_gyes rfl rfl (congrArg Value.bool (decide_eq_true (by omega))) ?_ | refine WL_gno (b := false) rfl rfl (congrArg Value.bool (decide_eq_false (by omega))) rfl rfl ?_ | refine WL_gno (b := true) rfl rfl (congrArg Value.bool (decide_eq_true (by omega))) rfl rfl ?_ | (refine WL_r (by first | refine Run_pev rfl | refine k_add64 rfl rfl (by omega) | refine k_sub64 rfl rfl (by omega) | refine k_len rfl (Ty.isl rfl) | refine k_lens rfl (Ty.iss rfl) | refine k_not rfl | refine k_notb rfl | refine k_min rfl rfl | refine k_max rfl rfl | refine k_min3 rfl rfl rfl | refine k_max3 rfl rfl rfl | refine k_mul64 rfl rfl (by omega) | refine k_quo64 rfl rfl (by omega) | refine k_rem rfl rfl (by omega) | refine k_extract rfl rfl | apply k_makeFunc | refine k_conv_i64 rfl (Ty.und rfl) (Ty.knd rfl) (by omega) | refine k_conv_fit (qd := .u16) rfl (Ty.und rfl) (Ty.knd rfl) (fit16 (by omega)) | refine k_conv_fit (qd := .u64) rfl (Ty.und rfl) (Ty.knd rfl) (fit64 (by omega)) | refine k_conv_fit (qd := .u8) rfl (Ty.und rfl) (Ty.knd rfl) (fit8 (by omega)) | refine k_conv_u8 rfl (Ty.und rfl) (Ty.knd rfl) | refine k_conv_u16 rfl (Ty.und rfl) (Ty.knd rfl) | refine k_conv_u64 rfl (Ty.und rfl) (Ty.knd rfl) | refine k_pick_f (congrArg Value.bool (decide_eq_false (by omega))) rfl | refine k_pick_t (congrArg Value.bool (decide_eq_true (by omega))) rfl) rfl ?_))
    refine WL_s (H_storeA 3 hH rfl rfl rfl rfl rfl (PH.one x) (Ty.shp rfl) ?_)
    try clear hH
    intro w7 hH
    first | change Hp _ _ _ [] at hH | change Hp _ _ _ [_] at hH | change Hp _ _ _ [_, _] at hH | change Hp _ _ _ [_, _, _] at hH | change Hp _ _ _ [_, _, _, _] at hH | change Hp _ _ _ [_, _, _, _, _] at hH | change Hp _ _ _ [_, _, _, _, _, _] at hH | change Hp _ _ _ [_, _, _, _, _, _, _] at hH | change Hp _ _ _ [_, _, _, _, _, _, _, _] at hH | change Hp _ _ _ [_, _, _, _, _, _, _, _, _] at hH
    repeat (first | refine WS_seq ?_ | refine WS_region ?_ | refine WL_nil ?_ | refine WS_block ?_ | refine WS_inBlock ?_ | refine WS_skip ?_ | refine WS_label ?_ | refine WS_scope ?_ | refine WS_inScope ?_ | refine WS_exit rfl ?_ | refine WS_true rfl ?_ | refine WS_false rfl ?_ | refine WS_yes rfl (by omega) ?_ | refine WS_no rfl (by omega) ?_ | refine WL_gyes rfl rfl rfl ?_ | refine WL_gno rfl rfl rfl rfl rfl ?_ | refine WL_gund rfl rfl rfl ?_ | refine WL_gyes rfl rfl (congrArg Value.bool (decide_eq_false (by omega))) ?_ | refine WL_gyes rfl rfl (congrArg Value.bool (decide_eq_true (by omega))) ?_ | refine WL_gno (b := false) rfl rfl (congrArg Value.bool (decide_eq_false (by omega))) rfl rfl ?_ | refine WL_gno (b := true) rfl rfl (congrArg Value.bool (decide_eq_true (by omega))) rfl rfl ?_ | (refine WL_r (by first | refine Run_pev rfl | refine k_add64 rfl rfl (by omega) | refine k_sub64 rfl rfl (by omega) | refine k_len rfl (Ty.isl rfl) | refine k_lens rfl (Ty.iss rfl) | refine k_not rfl | refine k_notb rfl | refine k_min rfl rfl | refine k_max rfl rfl | refine k_min3 rfl rfl rfl | refine k_max3 rfl rfl rfl | refine k_mul64 rfl rfl (by omega) | refine k_quo64 rfl rfl (by omega) | refine k_rem rfl rfl (by omega) | refine k_extract rfl rfl | apply k_makeFunc | refine k_conv_i64 rfl (Ty.und rfl) (Ty.knd rfl) (by omega) | refine k_conv_fit (qd := .u16) rfl (Ty.und rfl) (Ty.knd rfl) (fit16 (by omega)) | refine k_conv_fit (qd := .u64) rfl (Ty.und rfl) (Ty.knd rfl) (fit64 (by omega)) | refine k_conv_fit (qd := .u8) rfl (Ty.und rfl) (Ty.knd rfl) (fit8 (by omega)) | refine k_conv_u8 rfl (Ty.und rfl) (Ty.knd rfl) | refine k_conv_u16 rfl (Ty.und rfl) (Ty.knd rfl) | refine k_conv_u64 rfl (Ty.und rfl) (Ty.knd rfl) | refine k_pick_f (congrArg Value.bool (decide_eq_false (by omega))) rfl | refine k_pick_t (congrArg Value.bool (decide_eq_true (by omega))) rfl) rfl ?_))
    refine WS_draw Ty.mixed (fun w'' => Ext (Rd p a3 c3 ⟨[], false⟩).fp w7 w'') 5 rfl ?_
    replace hH := hH.ext0 (Ext.drew0 (S := []))
    have hx0 : Ext (Rd p a3 c3 ⟨[], false⟩).fp w7 w7.drew := Ext.drew0
    have hB11 : Blk w7.drew b11 27 x.cells.toArray := hH.b 3 rfl
    have hdj := hH.dj 1 3 rfl rfl (by decide)
    generalize w7.drew = w8 at *
    refine WA_now _ hx0 ?_
    have hx1 : Ext (Rd p a3 c3 ⟨[], false⟩).fp w8 w8 := .refl
    refine WA_take 0 rfl (by kernel_rfl) hx1 rfl rfl (fun w' hw' => by first | refine Run_pev rfl) ?_
    refine WA_take 2 rfl (by kernel_rfl) hx1 rfl rfl (fun w' hw' => by first | refine k_loadA rfl (hB11.ext hw' (fun h => hdj _ h (by simp [Rb]))) rfl (Ty.shp rfl)) ?_
    refine WA_one 1 (by kernel_rfl) rfl rfl (S_call (ptake_spec (hH.at 1 rfl)) rfl rfl ?_)
    rintro v w9 hT
    obtain ⟨rfl, hU⟩ := hT.good (PH.rd_bits hxo) rfl hxo
    have hx2 := hx1.then1' hU.ext
    replace hH := hH.up 1 rfl hU
    first | change Hp _ _ _ [] at hH | change Hp _ _ _ [_] at hH | change Hp _ _ _ [_, _] at hH | change Hp _ _ _ [_, _, _] at hH | change Hp _ _ _ [_, _, _, _] at hH | change Hp _ _ _ [_, _, _, _, _] at hH | change Hp _ _ _ [_, _, _, _, _, _] at hH | change Hp _ _ _ [_, _, _, _, _, _, _] at hH | change Hp _ _ _ [_, _, _, _, _, _, _, _] at hH | change Hp _ _ _ [_, _, _, _, _, _, _, _, _] at hH
    refine ⟨hx2, ?_⟩
    refine WA_one 3 (by kernel_rfl) rfl rfl (S_call (pfit_spec x w9) rfl rfl ?_)
    rintro v w10 ⟨rfl, hE⟩
    have hx3 := hx2.then0 hE
    replace hH := hH.ext0 hE
    refine ⟨hx3, ?_⟩
    refine WA_take 4 rfl (by kernel_rfl) hx3 rfl rfl (fun w' hw' => by first | refine (k_neqA (p := True) (xs := x.fit.cells) (ys := x.fit.cells) rfl rfl (Ty.kds rfl) hfz hfz ⟨fun _ => trivial, fun _ => rfl⟩).is (v' := .bool false) rfl | refine Run_pev rfl) ?_
    refine WA_done (by kernel_rfl) ?_
    repeat (first | refine WS_seq ?_ | refine WS_region ?_ | refine WL_nil ?_ | refine WS_block ?_ | refine WS_inBlock ?_ | refine WS_skip ?_ | refine WS_label ?_ | refine WS_scope ?_ | refine WS_inScope ?_ | refine WS_exit rfl ?_ | refine WS_true rfl ?_ | refine WS_false rfl ?_ | refine WS_yes rfl (by omega) ?_ | refine WS_no rfl (by omega) ?_ | refine WL_gyes rfl rfl rfl ?_ | refine WL_gno rfl rfl rfl rfl rfl ?_ | refine WL_gund rfl rfl rfl ?_ | refine WL_gyes rfl rfl (congrArg Value.bool (decide_eq_false (by omega))) ?_ | refine WL_gyes rfl rfl (congrArg Value.bool (decide_eq_true (by omega))) ?_ | refine WL_gno (b := false) rfl rfl (congrArg Value.bool (decide_eq_false (by omega))) rfl rfl ?_ | refine WL_gno (b := true) rfl rfl (congrArg Value.bool (decide_eq_true (by omega))) rfl rfl ?_ | (refine WL_r (by first | refine Run_pev rfl | refine k_add64 rfl rfl (by omega) | refine k_sub64 rfl rfl (by omega) | refine k_len rfl (Ty.isl rfl) | refine k_lens rfl (Ty.iss rfl) | refine k_not rfl | refine k_notb rfl | refine k_min rfl rfl | refine k_max rfl rfl | refine k_min3 rfl rfl rfl | refine k_max3 rfl rfl rfl | refine k_mul64 rfl rfl (by omega) | refine k_quo64 rfl rfl (by omega) | refine k_rem rfl rfl (by omega) | refine k_extract rfl rfl | apply k_makeFunc | refine k_conv_i64 rfl (Ty.und rfl) (Ty.knd rfl) (by omega) | refine k_conv_fit (qd := .u16) rfl (Ty.und rfl) (Ty.knd rfl) (fit16 (by omega)) | refine k_conv_fit (qd := .u64) rfl (Ty.und rfl) (Ty.knd rfl) (fit64 (by omega)) | refine k_conv_fit (qd := .u8) rfl (Ty.und rfl) (Ty.knd rfl) (fit8 (by omega)) | refine k_conv_u8 rfl (Ty.und rfl) (Ty.knd rfl) | refine k_conv_u16 rfl (Ty.und rfl) (Ty.knd rfl) | refine k_conv_u64 rfl (Ty.und rfl) (Ty.knd rfl) | refine k_pick_f (congrArg Value.bool (decide_eq_false (by omega))) rfl | refine k_pick_t (congrArg Value.bool (decide_eq_true (by omega))) rfl) rfl ?_))
    try refine WL_gyes rfl rfl rfl ?_
    refine WL_s (S_call (ptake_spec (hH.at 2 rfl)) rfl rfl ?_)
    rintro v w11 hT
    by_cases hl : i + 1 = hs.length
    · have hsh : (PH.rd (⟨(x.fit.bits ++ fb (hs.drop (i + 1))).take (e2 - 23 * i), false⟩ : RS)).2.ended = true := PH.rd_short (by rw [List.length_take]; omega)
      obtain ⟨rfl, s', hs', hU⟩ : v = PH.zero.v ∧ ∃ s', s'.ended = true ∧ Upd (Rd t a5 c5 ⟨(x.fit.bits ++ fb (hs.drop (i + 1))).take (e2 - 23 * i), false⟩) (Rd t a5 c5 s') w10 w11 := by
        rcases hT with ⟨h, _⟩ | ⟨_, h1, h2⟩
        · rw [hsh] at h; cases h
        · exact ⟨h1, h2⟩
      replace hH := hH.up 2 rfl hU
      first | change Hp _ _ _ [] at hH | change Hp _ _ _ [_] at hH | change Hp _ _ _ [_, _] at hH | change Hp _ _ _ [_, _, _] at hH | change Hp _ _ _ [_, _, _, _] at hH | change Hp _ _ _ [_, _, _, _, _] at hH | change Hp _ _ _ [_, _, _, _, _, _] at hH | change Hp _ _ _ [_, _, _, _, _, _, _] at hH | change Hp _ _ _ [_, _, _, _, _, _, _, _] at hH | change Hp _ _ _ [_, _, _, _, _, _, _, _, _] at hH
      repeat (first | refine WS_seq ?_ | refine WS_region ?_ | refine WL_nil ?_ | refine WS_block ?_ | refine WS_inBlock ?_ | refine WS_skip ?_ | refine WS_label ?_ | refine WS_scope ?_ | refine WS_inScope ?_ | refine WS_exit rfl ?_ | refine WS_true rfl ?_ | refine WS_false rfl ?_ | refine WS_yes rfl (by omega) ?_ | refine WS_no rfl (by omega) ?_ | refine WL_gyes rfl rfl rfl ?_ | refine WL_gno rfl rfl rfl rfl rfl ?_ | refine WL_gund rfl rfl rfl ?_ | refine WL_gyes rfl rfl (congrArg Value.bool (decide_eq_false (by omega))) ?_ | refine WL_gyes rfl rfl (congrArg Value.bool (decide_eq_true (by omega))) ?_ | refine WL_gno (b := false) rfl rfl (congrArg Value.bool (decide_eq_false (by omega))) rfl rfl ?_ | refine WL_gno (b := true) rfl rfl (congrArg Value.bool (decide_eq_true (by omega))) rfl rfl ?_ | (refine WL_r (by first | refine Run_pev rfl | refine k_add64 rfl rfl (by omega) | refine k_sub64 rfl rfl (by omega) | refine k_len rfl (Ty.isl rfl) | refine k_lens rfl (Ty.iss rfl) | refine k_not rfl | refine k_notb rfl | refine k_min rfl rfl | refine k_max rfl rfl | refine k_min3 rfl rfl rfl | refine k_max3 rfl rfl rfl | refine k_mul64 rfl rfl (by omega) | refine k_quo64 rfl rfl (by omega) | refine k_rem rfl rfl (by omega) | refine k_extract rfl rfl | apply k_makeFunc | refine k_conv_i64 rfl (Ty.und rfl) (Ty.knd rfl) (by omega) | refine k_conv_fit (qd := .u16) rfl (Ty.und rfl) (Ty.knd rfl) (fit16 (by omega)) | refine k_conv_fit (qd := .u64) rfl (Ty.und rfl) (Ty.knd rfl) (fit64 (by omega)) | refine k_conv_fit (qd := .u8) rfl (Ty.und rfl) (Ty.knd rfl) (fit8 (by omega)) | refine k_conv_u8 rfl (Ty.und rfl) (Ty.knd rfl) | refine k_conv_u16 rfl (Ty.und rfl) (Ty.knd rfl) | refine k_conv_u64 rfl (Ty.und rfl) (Ty.knd rfl) | refine k_pick_f (congrArg Value.bool (decide_eq_false (by omega))) rfl | refine k_pick_t (congrArg Value.bool (decide_eq_true (by omega))) rfl) rfl ?_))
      refine WL_s (H_alloc hH (Ty.zer rfl) rfl ?_)
      try clear hH
      intro w12 b12 hH
      first | change Hp _ _ _ [] at hH | change Hp _ _ _ [_] at hH | change Hp _ _ _ [_, _] at hH | change Hp _ _ _ [_, _, _] at hH | change Hp _ _ _ [_, _, _, _] at hH | change Hp _ _ _ [_, _, _, _, _] at hH | change Hp _ _ _ [_, _, _, _, _, _] at hH | change Hp _ _ _ [_, _, _, _, _, _, _] at hH | change Hp _ _ _ [_, _, _, _, _, _, _, _] at hH | change Hp _ _ _ [_, _, _, _, _, _, _, _, _] at hH
      repeat (first | refine WS_seq ?_ | refine WS_region ?_ | refine WL_nil ?_ | refine WS_block ?_ | refine WS_inBlock ?_ | refine WS_skip ?_ | refine WS_label ?_ | refine WS_scope ?_ | refine WS_inScope ?_ | refine WS_exit rfl ?_ | refine WS_true rfl ?_ | refine WS_false rfl ?_ | refine WS_yes rfl (by omega) ?_ | refine WS_no rfl (by omega) ?_ | refine WL_gyes rfl rfl rfl ?_ | refine WL_gno rfl rfl rfl rfl rfl ?_ | refine WL_gund rfl rfl rfl ?_ | refine WL_gyes rfl rfl (congrArg Value.bool (decide_eq_false (by omega))) ?_ | refine WL_gyes rfl rfl (congrArg Value.bool (decide_eq_true (by omega))) ?_ | refine WL_gno (b := false) rfl rfl (congrArg Value.bool (decide_eq_false (by omega))) rfl rfl ?_ | refine WL_gno (b := true) rfl rfl (congrArg Value.bool (decide_eq_true (by omega))) rfl rfl ?_ | (refine WL_r (by first | refine Run_pev rfl | refine k_add64 rfl rfl (by omega) | refine k_sub64 rfl rfl (by omega) | refine k_len rfl (Ty.isl rfl) | refine k_lens rfl (Ty.iss rfl) | refine k_not rfl | refine k_notb rfl | refine k_min rfl rfl | refine k_max rfl rfl | refine k_min3 rfl rfl rfl | refine k_max3 rfl rfl rfl | refine k_mul64 rfl rfl (by omega) | refine k_quo64 rfl rfl (by omega) | refine k_rem rfl rfl (by omega) | refine k_extract rfl rfl | apply k_makeFunc | refine k_conv_i64 rfl (Ty.und rfl) (Ty.knd rfl) (by omega) | refine k_conv_fit (qd := .u16) rfl (Ty.und rfl) (Ty.knd rfl) (fit16 (by omega)) | refine k_conv_fit (qd := .u64) rfl (Ty.und rfl) (Ty.knd rfl) (fit64 (by omega)) | refine k_conv_fit (qd := .u8) rfl (Ty.und rfl) (Ty.knd rfl) (fit8 (by omega)) | refine k_conv_u8 rfl (Ty.und rfl) (Ty.knd rfl) | refine k_conv_u16 rfl (Ty.und rfl) (Ty.knd rfl) | refine k_conv_u64 rfl (Ty.und rfl) (Ty.knd rfl) | refine k_pick_f (congrArg Value.bool (decide_eq_false (by omega))) rfl | refine k_pick_t (congrArg Value.bool (decide_eq_true (by omega))) rfl) rfl ?_))
      refine WL_s (H_storeA 4 hH rfl rfl rfl rfl rfl (PH.one PH.zero) (Ty.shp rfl) ?_)
      try clear hH
      intro w13 hH
      first | change Hp _ _ _ [] at hH | change Hp _ _ _ [_] at hH | change Hp _ _ _ [_, _] at hH | change Hp _ _ _ [_, _, _] at hH | change Hp _ _ _ [_, _, _, _] at hH | change Hp _ _ _ [_, _, _, _, _] at hH | change Hp _ _ _ [_, _, _, _, _, _] at hH | change Hp _ _ _ [_, _, _, _, _, _, _] at hH | change Hp _ _ _ [_, _, _, _, _, _, _, _] at hH | change Hp _ _ _ [_, _, _, _, _, _, _, _, _] at hH
      repeat (first | refine WS_seq ?_ | refine WS_region ?_ | refine WL_nil ?_ | refine WS_block ?_ | refine WS_inBlock ?_ | refine WS_skip ?_ | refine WS_label ?_ | refine WS_scope ?_ | refine WS_inScope ?_ | refine WS_exit rfl ?_ | refine WS_true rfl ?_ | refine WS_false rfl ?_ | refine WS_yes rfl (by omega) ?_ | refine WS_no rfl (by omega) ?_ | refine WL_gyes rfl rfl rfl ?_ | refine WL_gno rfl rfl rfl rfl rfl ?_ | refine WL_gund rfl rfl rfl ?_ | refine WL_gyes rfl rfl (congrArg Value.bool (decide_eq_false (by omega))) ?_ | refine WL_gyes rfl rfl (congrArg Value.bool (decide_eq_true (by omega))) ?_ | refine WL_gno (b := false) rfl rfl (congrArg Value.bool (decide_eq_false (by omega))) rfl rfl ?_ | refine WL_gno (b := true) rfl rfl (congrArg Value.bool (decide_eq_true (by omega))) rfl rfl ?_ | (refine WL_r (by first | refine (k_eql rfl rfl).is (bT (by omega)) | refine Run_pev rfl | refine k_add64 rfl rfl (by omega) | refine k_sub64 rfl rfl (by omega) | refine k_len rfl (Ty.isl rfl) | refine k_lens rfl (Ty.iss rfl) | refine k_not rfl | refine k_notb rfl | refine k_min rfl rfl | refine k_max rfl rfl | refine k_min3 rfl rfl rfl | refine k_max3 rfl rfl rfl | refine k_mul64 rfl rfl (by omega) | refine k_quo64 rfl rfl (by omega) | refine k_rem rfl rfl (by omega) | refine k_extract rfl rfl | apply k_makeFunc | refine k_conv_i64 rfl (Ty.und rfl) (Ty.knd rfl) (by omega) | refine k_conv_fit (qd := .u16) rfl (Ty.und rfl) (Ty.knd rfl) (fit16 (by omega)) | refine k_conv_fit (qd := .u64) rfl (Ty.und rfl) (Ty.knd rfl) (fit64 (by omega)) | refine k_conv_fit (qd := .u8) rfl (Ty.und rfl) (Ty.knd rfl) (fit8 (by omega)) | refine k_conv_u8 rfl (Ty.und rfl) (Ty.knd rfl) | refine k_conv_u16 rfl (Ty.und rfl) (Ty.knd rfl) | refine k_conv_u64 rfl (Ty.und rfl) (Ty.knd rfl) | refine k_pick_f (congrArg Value.bool (decide_eq_false (by omega))) rfl | refine k_pick_t (congrArg Value.bool (decide_eq_true (by omega))) rfl) rfl ?_))
      have hB12 : Blk w13 b12 27 PH.zero.cells.toArray := hH.b 4 rfl
      have hRd := hH.at 2 rfl
      have hfz0 : FitsK [some .i64, none, none, some .i64] PH.zero.cells := PH.fitsK ⟨⟨by decide, by decide⟩, by decide, by decide⟩
      refine WS_specK [Is (pt t), Is (.bool true), Is (.bool true), Is (.bool false), Is (.bool false), Is (.bool true), Is (.bool false), Is (.bool false), Is undef, Is undef, Is undef, Is undef, Is (.bool false), Is (.bool false), Is (.bool false), Is (.bool true), Is (.bool true), Is PH.zero.v, Is PH.zero.v, Is (.bool false), Is (.bool false), Is (.bool false)] Ty.mixed [(1237938858693759557487820800, [], true), (1237932070291940432372826112, [(0, 68)], true), (1237936202362612943312388096, [], true), (1237932660587750791078477824, [(1, 69), (2, 70)], true), (1234242131181388163343974400, [(3, 71)], true), (1237911409938577877675016192, [], true), (1237883075739680659803734016, [(5, 73)], true), (1235559671430108794358595584, [(6, 74)], true), (1237259723363941866635526144, [], false), (1237486396955119609605783552, [], false), (1232197346494305606966444032, [(9, 77)], false), (1236126355408053151784239104, [(8, 76), (10, 78)], false), (1234312966678631208022179840, [(7, 75), (11, 79)], true), (1230686189219787320498061312, [(4, 72), (12, 80)], true), (275634791724230272480182272, [(13, 81)], true), (1208925524466723995353350144, [], true), (638312537608619024892035072, [(15, 83)], true), (1044511612999134427593310208, [], true), (1005825986771466294002712576, [], true), (773712229405457492459126784, [(17, 85), (18, 86)], true), (309484714673439889371955200, [(16, 84), (19, 87)], true), (618969724494784958096736256, [(14, 82), (20, 88)], true)] 1237939744137475095546298368 [(21, 89)] (by kernel_rfl) (by kernel_rfl) (by kernel_rfl) (by kernel_rfl) (by kernel_rfl) ⟨Is.st, Is.st, Is.st, Is.st, Is.st, Is.st, Is.st, Is.st, Is.st, Is.st, Is.st, Is.st, Is.st, Is.st, Is.st, Is.st, Is.st, Is.st, Is.st, Is.st, Is.st, Is.st, trivial⟩ ⟨⟨GOk.none, ?_⟩, ⟨GOk.none, ?_⟩, ⟨GOk.none, ?_⟩, ⟨GOk.none, ?_⟩, ⟨GOk.none, ?_⟩, ⟨GOk.of (fun _ _ h => h), ?_⟩, ⟨GOk.of (fun _ _ h => h), ?_⟩, ⟨GOk.of (fun _ _ h => h), ?_⟩, ⟨GOk.of (fun _ _ h => .inl h), fun _ => rfl⟩, ⟨GOk.of (fun _ _ h => .inl h), fun _ => rfl⟩, ⟨GOk.of (fun _ _ h => .inl h), fun _ => rfl⟩, ⟨GOk.of (fun _ _ h => .inl h), fun _ => rfl⟩, ⟨GOk.of (fun _ _ h => h), ?_⟩, ⟨GOk.none, ?_⟩, ⟨GOk.none, ?_⟩, ⟨GOk.of (fun _ _ h => h), ?_⟩, ⟨GOk.of (fun _ _ h => h), ?_⟩, ⟨GOk.of (fun _ _ h => h), ?_⟩, ⟨GOk.of (fun _ _ h => h), ?_⟩, ⟨GOk.of (fun _ _ h => h), ?_⟩, ⟨GOk.of (fun _ _ h => h), ?_⟩, ⟨GOk.none, ?_⟩, trivial⟩ ?_
      · intro w'' hE''
        intro σ''
        exact sp_is (by first | refine Run_pev rfl) rfl
      · intro w'' hE''
        rintro _ rfl
        intro σ''
        refine S_call (rended_spec ((Rd _ _ _ _).keep hRd hE'' (by simp))) rfl rfl ?_
        rintro v w3'' ⟨rfl, rfl⟩
        exact ⟨.refl, _, rfl, congrArg Value.bool hs'⟩
      · intro w'' hE''
        intro σ''
        exact sp_is (by first | refine Run_pev rfl) rfl
      · intro w'' hE''
        rintro _ rfl
        rintro _ rfl
        intro σ''
        exact sp_is (by first | refine k_neqbF rfl rfl (by kernel_rfl) rfl | refine Run_pev rfl) rfl
      · intro w'' hE''
        rintro _ rfl
        intro σ''
        exact sp_is (by first | refine Run_pev rfl) rfl
      · intro w'' hE''
        intro σ''
        exact sp_is (by first | refine Run_pev rfl) rfl
      · intro w'' hE''
        rintro _ rfl
        intro σ''
        exact sp_is (by first | refine Run_pev rfl | refine k_not rfl | refine k_notb rfl) rfl
      · intro w'' hE''
        rintro _ rfl
        intro σ''
        exact sp_is (by first | refine Run_pev rfl) rfl
      · intro w'' hE''
        rintro _ rfl
        rintro _ rfl
        intro σ''
        exact sp_is (by first | refine Run_pev rfl | refine k_pick_f (congrArg Value.bool (decide_eq_false (by omega))) rfl | refine k_pick_t (congrArg Value.bool (decide_eq_true (by omega))) rfl) rfl
      · intro w'' hE''
        rintro _ rfl
        rintro _ rfl
        intro σ''
        exact sp_is (by first | refine Run_pev rfl | refine k_pick_f (congrArg Value.bool (decide_eq_false (by omega))) rfl | refine k_pick_t (congrArg Value.bool (decide_eq_true (by omega))) rfl) rfl
      · intro w'' hE''
        rintro _ rfl
        intro σ''
        exact sp_is (by first | refine Run_pev rfl) rfl
      · intro w'' hE''
        intro σ''
        exact sp_is (by first | refine Run_pev rfl) rfl
      · intro w'' hE''
        rintro _ rfl
        intro σ''
        exact sp_is (by first | refine Run_pev rfl) rfl
      · intro w'' hE''
        intro σ''
        exact sp_is (by first | refine k_loadA rfl (hB12.ext0 hE'') rfl (Ty.shp rfl)) rfl
      · intro w'' hE''
        intro σ''
        exact sp_is (by first | refine k_buildS (cs := PH.zero.cells) (Ty.zer rfl) (Ty.plc rfl) rfl) rfl
      · intro w'' hE''
        rintro _ rfl
        rintro _ rfl
        intro σ''
        exact sp_is (by first | refine (k_neqA (p := True) (xs := PH.zero.cells) (ys := PH.zero.cells) rfl rfl (Ty.kds rfl) hfz0 hfz0 ⟨fun _ => trivial, fun _ => rfl⟩).is (v' := .bool false) rfl | refine Run_pev rfl) rfl
      · intro w'' hE''
        rintro _ rfl
        rintro _ rfl
        intro σ''
        exact sp_is (by first | refine Run_pev rfl | refine k_pick_f (congrArg Value.bool (decide_eq_false (by omega))) rfl | refine k_pick_t (congrArg Value.bool (decide_eq_true (by omega))) rfl) rfl
      · intro w'' hE''
        rintro _ rfl
        rintro _ rfl
        intro σ''
        exact sp_is (by first | refine Run_pev rfl | refine k_pick_f (congrArg Value.bool (decide_eq_false (by omega))) rfl | refine k_pick_t (congrArg Value.bool (decide_eq_true (by omega))) rfl) rfl
      intro w'' hE''
      rintro _ rfl
      intro σ''
      replace hH := (hH.ext0 hE'').take 3
      first | change Hp _ _ _ [] at hH | change Hp _ _ _ [_] at hH | change Hp _ _ _ [_, _] at hH | change Hp _ _ _ [_, _, _] at hH | change Hp _ _ _ [_, _, _, _] at hH | change Hp _ _ _ [_, _, _, _, _] at hH | change Hp _ _ _ [_, _, _, _, _, _] at hH | change Hp _ _ _ [_, _, _, _, _, _, _] at hH | change Hp _ _ _ [_, _, _, _, _, _, _, _] at hH | change Hp _ _ _ [_, _, _, _, _, _, _, _, _] at hH
      repeat (first | refine WS_seq ?_ | refine WS_region ?_ | refine WL_nil ?_ | refine WS_block ?_ | refine WS_inBlock ?_ | refine WS_skip ?_ | refine WS_label ?_ | refine WS_scope ?_ | refine WS_inScope ?_ | refine WS_exit rfl ?_ | refine WS_true rfl ?_ | refine WS_false rfl ?_ | refine WS_yes rfl (by omega) ?_ | refine WS_no rfl (by omega) ?_ | refine WL_gyes rfl rfl rfl ?_ | refine WL_gno rfl rfl rfl rfl rfl ?_ | refine WL_gund rfl rfl rfl ?_ | refine WL_gyes rfl rfl (congrArg Value.bool (decide_eq_false (by omega))) ?_ | refine WL_gyes rfl rfl (congrArg Value.bool (decide_eq_true (by omega))) ?_ | refine WL_gno (b := false) rfl rfl (congrArg Value.bool (decide_eq_false (by omega))) rfl rfl ?_ | refine WL_gno (b := true) rfl rfl (congrArg Value.bool (decide_eq_true (by omega))) rfl rfl ?_ | (refine WL_r (by first | refine Run_pev rfl | refine k_add64 rfl rfl (by omega) | refine k_sub64 rfl rfl (by omega) | refine k_len rfl (Ty.isl rfl) | refine k_lens rfl (Ty.iss rfl) | refine k_not rfl | refine k_notb rfl | refine k_min rfl rfl | refine k_max rfl rfl | refine k_min3 rfl rfl rfl | refine k_max3 rfl rfl rfl | refine k_mul64 rfl rfl (by omega) | refine k_quo64 rfl rfl (by omega) | refine k_rem rfl rfl (by omega) | refine k_extract rfl rfl | apply k_makeFunc | refine k_conv_i64 rfl (Ty.und rfl) (Ty.knd rfl) (by omega) | refine k_conv_fit (qd := .u16) rfl (Ty.und rfl) (Ty.knd rfl) (fit16 (by omega)) | refine k_conv_fit (qd := .u64) rfl (Ty.und rfl) (Ty.knd rfl) (fit64 (by omega)) | refine k_conv_fit (qd := .u8) rfl (Ty.und rfl) (Ty.knd rfl) (fit8 (by omega)) | refine k_conv_u8 rfl (Ty.und rfl) (Ty.knd rfl) | refine k_conv_u16 rfl (Ty.und rfl) (Ty.knd rfl) | refine k_conv_u64 rfl (Ty.und rfl) (Ty.knd rfl) | refine k_pick_f (congrArg Value.bool (decide_eq_false (by omega))) rfl | refine k_pick_t (congrArg Value.bool (decide_eq_true (by omega))) rfl) rfl ?_))
      refine IH (i + 1, s') _ _ ?_ ?_ ?_ ?_
      · simp only; omega
      · exact ⟨rfl, trivial⟩
      · exact (by repeat (first | with_reducible apply Agr.refl | refine Agr.upd rfl ?_ | refine Agr.updo rfl ?_ | refine Agr.updL rfl ?_ | refine Agr.mrg rfl ?_ | exact Agr.refl | refine Agr.updn ?_))
      · exact ⟨by omega, fun h => absurd h (by omega), hH⟩
    · have hsp : (x.fit.bits ++ fb (hs.drop (i + 1))).take (e2 - 23 * i) = x.fit.bits ++ (fb (hs.drop (i + 1))).take (e2 - 23 * (i + 1)) := by
        rw [List.take_append, List.take_of_length_le (by omega), hxb]
        congr 2 <;> omega
      rw [hsp] at hT
      obtain ⟨rfl, hU⟩ := hT.good (PH.rd_bits hxo) rfl hxo
      rw [← hsp] at hU
      replace hH := hH.up 2 rfl hU
      first | change Hp _ _ _ [] at hH | change Hp _ _ _ [_] at hH | change Hp _ _ _ [_, _] at hH | change Hp _ _ _ [_, _, _] at hH | change Hp _ _ _ [_, _, _, _] at hH | change Hp _ _ _ [_, _, _, _, _] at hH | change Hp _ _ _ [_, _, _, _, _, _] at hH | change Hp _ _ _ [_, _, _, _, _, _, _] at hH | change Hp _ _ _ [_, _, _, _, _, _, _, _] at hH | change Hp _ _ _ [_, _, _, _, _, _, _, _, _] at hH
      repeat (first | refine WS_seq ?_ | refine WS_region ?_ | refine WL_nil ?_ | refine WS_block ?_ | refine WS_inBlock ?_ | refine WS_skip ?_ | refine WS_label ?_ | refine WS_scope ?_ | refine WS_inScope ?_ | refine WS_exit rfl ?_ | refine WS_true rfl ?_ | refine WS_false rfl ?_ | refine WS_yes rfl (by omega) ?_ | refine WS_no rfl (by omega) ?_ | refine WL_gyes rfl rfl rfl ?_ | refine WL_gno rfl rfl rfl rfl rfl ?_ | refine WL_gund rfl rfl rfl ?_ | refine WL_gyes rfl rfl (congrArg Value.bool (decide_eq_false (by omega))) ?_ | refine WL_gyes rfl rfl (congrArg Value.bool (decide_eq_true (by omega))) ?_ | refine WL_gno (b := false) rfl rfl (congrArg Value.bool (decide_eq_false (by omega))) rfl rfl ?_ | refine WL_gno (b := true) rfl rfl (congrArg Value.bool (decide_eq_true (by omega))) rfl rfl ?_ | (refine WL_r (by first | refine Run_pev rfl | refine k_add64 rfl rfl (by omega) | refine k_sub64 rfl rfl (by omega) | refine k_len rfl (Ty.isl rfl) | refine k_lens rfl (Ty.iss rfl) | refine k_not rfl | refine k_notb rfl | refine k_min rfl rfl | refine k_max rfl rfl | refine k_min3 rfl rfl rfl | refine k_max3 rfl rfl rfl | refine k_mul64 rfl rfl (by omega) | refine k_quo64 rfl rfl (by omega) | refine k_rem rfl rfl (by omega) | refine k_extract rfl rfl | apply k_makeFunc | refine k_conv_i64 rfl (Ty.und rfl) (Ty.knd rfl) (by omega) | refine k_conv_fit (qd := .u16) rfl (Ty.und rfl) (Ty.knd rfl) (fit16 (by omega)) | refine k_conv_fit (qd := .u64) rfl (Ty.und rfl) (Ty.knd rfl) (fit64 (by omega)) | refine k_conv_fit (qd := .u8) rfl (Ty.und rfl) (Ty.knd rfl) (fit8 (by omega)) | refine k_conv_u8 rfl (Ty.und rfl) (Ty.knd rfl) | refine k_conv_u16 rfl (Ty.und rfl) (Ty.knd rfl) | refine k_conv_u64 rfl (Ty.und rfl) (Ty.knd rfl) | refine k_pick_f (congrArg Value.bool (decide_eq_false (by omega))) rfl | refine k_pick_t (congrArg Value.bool (decide_eq_true (by omega))) rfl) rfl ?_))
      refine WL_s (H_alloc hH (Ty.zer rfl) rfl ?_)
      try clear hH
      intro w12 b12 hH
      first | change Hp _ _ _ [] at hH | change Hp _ _ _ [_] at hH | change Hp _ _ _ [_, _] at hH | change Hp _ _ _ [_, _, _] at hH | change Hp _ _ _ [_, _, _, _] at hH | change Hp _ _ _ [_, _, _, _, _] at hH | change Hp _ _ _ [_, _, _, _, _, _] at hH | change Hp _ _ _ [_, _, _, _, _, _, _] at hH | change Hp _ _ _ [_, _, _, _, _, _, _, _] at hH | change Hp _ _ _ [_, _, _, _, _, _, _, _, _] at hH
      repeat (first | refine WS_seq ?_ | refine WS_region ?_ | refine WL_nil ?_ | refine WS_block ?_ | refine WS_inBlock ?_ | refine WS_skip ?_ | refine WS_label ?_ | refine WS_scope ?_ | refine WS_inScope ?_ | refine WS_exit rfl ?_ | refine WS_true rfl ?_ | refine WS_false rfl ?_ | refine WS_yes rfl (by omega) ?_ | refine WS_no rfl (by omega) ?_ | refine WL_gyes rfl rfl rfl ?_ | refine WL_gno rfl rfl rfl rfl rfl ?_ | refine WL_gund rfl rfl rfl ?_ | refine WL_gyes rfl rfl (congrArg Value.bool (decide_eq_false (by omega))) ?_ | refine WL_gyes rfl rfl (congrArg Value.bool (decide_eq_true (by omega))) ?_ | refine WL_gno (b := false) rfl rfl (congrArg Value.bool (decide_eq_false (by omega))) rfl rfl ?_ | refine WL_gno (b := true) rfl rfl (congrArg Value.bool (decide_eq_true (by omega))) rfl rfl ?_ | (refine WL_r (by first | refine Run_pev rfl | refine k_add64 rfl rfl (by omega) | refine k_sub64 rfl rfl (by omega) | refine k_len rfl (Ty.isl rfl) | refine k_lens rfl (Ty.iss rfl) | refine k_not rfl | refine k_notb rfl | refine k_min rfl rfl | refine k_max rfl rfl | refine k_min3 rfl rfl rfl | refine k_max3 rfl rfl rfl | refine k_mul64 rfl rfl (by omega) | refine k_quo64 rfl rfl (by omega) | refine k_rem rfl rfl (by omega) | refine k_extract rfl rfl | apply k_makeFunc | refine k_conv_i64 rfl (Ty.und rfl) (Ty.knd rfl) (by omega) | refine k_conv_fit (qd := .u16) rfl (Ty.und rfl) (Ty.knd rfl) (fit16 (by omega)) | refine k_conv_fit (qd := .u64) rfl (Ty.und rfl) (Ty.knd rfl) (fit64 (by omega)) | refine k_conv_fit (qd := .u8) rfl (Ty.und rfl) (Ty.knd rfl) (fit8 (by omega)) | refine k_conv_u8 rfl (Ty.und rfl) (Ty.knd rfl) | refine k_conv_u16 rfl (Ty.und rfl) (Ty.knd rfl) | refine k_conv_u64 rfl (Ty.und rfl) (Ty.knd rfl) | refine k_pick_f (congrArg Value.bool (decide_eq_false (by omega))) rfl | refine k_pick_t (congrArg Value.bool (decide_eq_true (by omega))) rfl) rfl ?_))
      refine WL_s (H_storeA 4 hH rfl rfl rfl rfl rfl (PH.one x.fit) (Ty.shp rfl) ?_)
      try clear hH
      intro w13 hH
      first | change Hp _ _ _ [] at hH | change Hp _ _ _ [_] at hH | change Hp _ _ _ [_, _] at hH | change Hp _ _ _ [_, _, _] at hH | change Hp _ _ _ [_, _, _, _] at hH | change Hp _ _ _ [_, _, _, _, _] at hH | change Hp _ _ _ [_, _, _, _, _, _] at hH | change Hp _ _ _ [_, _, _, _, _, _, _] at hH | change Hp _ _ _ [_, _, _, _, _, _, _, _] at hH | change Hp _ _ _ [_, _, _, _, _, _, _, _, _] at hH
      repeat (first | refine WS_seq ?_ | refine WS_region ?_ | refine WL_nil ?_ | refine WS_block ?_ | refine WS_inBlock ?_ | refine WS_skip ?_ | refine WS_label ?_ | refine WS_scope ?_ | refine WS_inScope ?_ | refine WS_exit rfl ?_ | refine WS_true rfl ?_ | refine WS_false rfl ?_ | refine WS_yes rfl (by omega) ?_ | refine WS_no rfl (by omega) ?_ | refine WL_gyes rfl rfl rfl ?_ | refine WL_gno rfl rfl rfl rfl rfl ?_ | refine WL_gund rfl rfl rfl ?_ | refine WL_gyes rfl rfl (congrArg Value.bool (decide_eq_false (by omega))) ?_ | refine WL_gyes rfl rfl (congrArg Value.bool (decide_eq_true (by omega))) ?_ | refine WL_gno (b := false) rfl rfl (congrArg Value.bool (decide_eq_false (by omega))) rfl rfl ?_ | refine WL_gno (b := true) rfl rfl (congrArg Value.bool (decide_eq_true (by omega))) rfl rfl ?_ | (refine WL_r (by first | refine (k_eql rfl rfl).is (bF (by omega)) | refine Run_pev rfl | refine k_add64 rfl rfl (by omega) | refine k_sub64 rfl rfl (by omega) | refine k_len rfl (Ty.isl rfl) | refine k_lens rfl (Ty.iss rfl) | refine k_not rfl | refine k_notb rfl | refine k_min rfl rfl | refine k_max rfl rfl | refine k_min3 rfl rfl rfl | refine k_max3 rfl rfl rfl | refine k_mul64 rfl rfl (by omega) | refine k_quo64 rfl rfl (by omega) | refine k_rem rfl rfl (by omega) | refine k_extract rfl rfl | apply k_makeFunc | refine k_conv_i64 rfl (Ty.und rfl) (Ty.knd rfl) (by omega) | refine k_conv_fit (qd := .u16) rfl (Ty.und rfl) (Ty.knd rfl) (fit16 (by omega)) | refine k_conv_fit (qd := .u64) rfl (Ty.und rfl) (Ty.knd rfl) (fit64 (by omega)) | refine k_conv_fit (qd := .u8) rfl (Ty.und rfl) (Ty.knd rfl) (fit8 (by omega)) | refine k_conv_u8 rfl (Ty.und rfl) (Ty.knd rfl) | refine k_conv_u16 rfl (Ty.und rfl) (Ty.knd rfl) | refine k_conv_u64 rfl (Ty.und rfl) (Ty.knd rfl) | refine k_pick_f (congrArg Value.bool (decide_eq_false (by omega))) rfl | refine k_pick_t (congrArg Value.bool (decide_eq_true (by omega))) rfl) rfl ?_))
      have hB12 : Blk w13 b12 27 x.fit.cells.toArray := hH.b 4 rfl
      have hB11' : Blk w13 b11 27 x.cells.toArray := hH.b 3 rfl
      have hRd := hH.at 2 rfl
      refine WS_specK [Is (pt t), Is (.bool false), Is (.bool false), Is (.bool false), Is (.bool false), Is (.bool false), Is (.bool true), Is (.bool true), Is x.fit.v, Is x.v, Is x.fit.v, Is (.bool false), Is (.bool false), Is (.bool false), Is (.bool false), Is (.bool false), Is (.bool false), Is undef, Is undef, Is undef, Is (.bool false), Is (.bool false)] Ty.mixed [(1237938858693759557487820800, [], true), (1237932070291940432372826112, [(0, 68)], true), (1237936202362612943312388096, [], true), (1237932660587750791078477824, [(1, 69), (2, 70)], true), (1234242131181388163343974400, [(3, 71)], true), (1237911409938577877675016192, [], true), (1237883075739680659803734016, [(5, 73)], true), (1235559671430108794358595584, [(6, 74)], true), (1237259723363941866635526144, [], true), (1237486396955119609605783552, [], true), (1232197346494305606966444032, [(9, 77)], true), (1236126355408053151784239104, [(8, 76), (10, 78)], true), (1234312966678631208022179840, [(7, 75), (11, 79)], true), (1230686189219787320498061312, [(4, 72), (12, 80)], true), (275634791724230272480182272, [(13, 81)], true), (1208925524466723995353350144, [], true), (638312537608619024892035072, [(15, 83)], true), (1044511612999134427593310208, [], false), (1005825986771466294002712576, [], false), (773712229405457492459126784, [(17, 85), (18, 86)], false), (309484714673439889371955200, [(16, 84), (19, 87)], true), (618969724494784958096736256, [(14, 82), (20, 88)], true)] 1237939744137475095546298368 [(21, 89)] (by kernel_rfl) (by kernel_rfl) (by kernel_rfl) (by kernel_rfl) (by kernel_rfl) ⟨Is.st, Is.st, Is.st, Is.st, Is.st, Is.st, Is.st, Is.st, Is.st, Is.st, Is.st, Is.st, Is.st, Is.st, Is.st, Is.st, Is.st, Is.st, Is.st, Is.st, Is.st, Is.st, trivial⟩ ⟨⟨GOk.none, ?_⟩, ⟨GOk.none, ?_⟩, ⟨GOk.none, ?_⟩, ⟨GOk.none, ?_⟩, ⟨GOk.none, ?_⟩, ⟨GOk.of (fun _ _ h => h), ?_⟩, ⟨GOk.of (fun _ _ h => h), ?_⟩, ⟨GOk.of (fun _ _ h => h), ?_⟩, ⟨GOk.of (fun _ _ h => h), ?_⟩, ⟨GOk.of (fun _ _ h => h), ?_⟩, ⟨GOk.of (fun _ _ h => h), ?_⟩, ⟨GOk.of (fun _ _ h => h), ?_⟩, ⟨GOk.of (fun _ _ h => h), ?_⟩, ⟨GOk.none, ?_⟩, ⟨GOk.none, ?_⟩, ⟨GOk.of (fun _ _ h => h), ?_⟩, ⟨GOk.of (fun _ _ h => h), ?_⟩, ⟨GOk.of (fun _ _ h => .inl h), fun _ => rfl⟩, ⟨GOk.of (fun _ _ h => .inl h), fun _ => rfl⟩, ⟨GOk.of (fun _ _ h => .inl h), fun _ => rfl⟩, ⟨GOk.of (fun _ _ h => h), ?_⟩, ⟨GOk.none, ?_⟩, trivial⟩ ?_
      · intro w'' hE''
        intro σ''
        exact sp_is (by first | refine Run_pev rfl) rfl
      · intro w'' hE''
        rintro _ rfl
        intro σ''
        refine S_call (rended_spec ((Rd _ _ _ _).keep hRd hE'' (by simp))) rfl rfl ?_
        rintro v w3'' ⟨rfl, rfl⟩
        exact ⟨.refl, _, rfl, rfl⟩
      · intro w'' hE''
        intro σ''
        exact sp_is (by first | refine Run_pev rfl) rfl
      · intro w'' hE''
        rintro _ rfl
        rintro _ rfl
        intro σ''
        exact sp_is (by first | refine k_neqbF rfl rfl (by kernel_rfl) rfl | refine Run_pev rfl) rfl
      · intro w'' hE''
        rintro _ rfl
        intro σ''
        exact sp_is (by first | refine Run_pev rfl) rfl
      · intro w'' hE''
        intro σ''
        exact sp_is (by first | refine Run_pev rfl) rfl
      · intro w'' hE''
        rintro _ rfl
        intro σ''
        exact sp_is (by first | refine Run_pev rfl | refine k_not rfl | refine k_notb rfl) rfl
      · intro w'' hE''
        rintro _ rfl
        intro σ''
        exact sp_is (by first | refine Run_pev rfl) rfl
      · intro w'' hE''
        intro σ''
        exact sp_is (by first | refine k_loadA rfl (hB12.ext0 hE'') rfl (Ty.shp rfl)) rfl
      · intro w'' hE''
        intro σ''
        exact sp_is (by first | refine k_loadA rfl (hB11'.ext0 hE'') rfl (Ty.shp rfl)) rfl
      · intro w'' hE''
        rintro _ rfl
        intro σ''
        refine S_call (pfit_spec x _) rfl rfl ?_
        rintro v w3'' ⟨rfl, hE3⟩
        exact ⟨hE3, _, rfl, rfl⟩
      · intro w'' hE''
        rintro _ rfl
        rintro _ rfl
        intro σ''
        exact sp_is (by first | refine (k_neqA (p := True) (xs := x.fit.cells) (ys := x.fit.cells) rfl rfl (Ty.kds rfl) hfz hfz ⟨fun _ => trivial, fun _ => rfl⟩).is (v' := .bool false) rfl | refine Run_pev rfl) rfl
      · intro w'' hE''
        rintro _ rfl
        rintro _ rfl
        intro σ''
        exact sp_is (by first | refine Run_pev rfl | refine k_pick_f (congrArg Value.bool (decide_eq_false (by omega))) rfl | refine k_pick_t (congrArg Value.bool (decide_eq_true (by omega))) rfl) rfl
      · intro w'' hE''
        rintro _ rfl
        rintro _ rfl
        intro σ''
        exact sp_is (by first | refine Run_pev rfl | refine k_pick_f (congrArg Value.bool (decide_eq_false (by omega))) rfl | refine k_pick_t (congrArg Value.bool (decide_eq_true (by omega))) rfl) rfl
      · intro w'' hE''
        rintro _ rfl
        intro σ''
        exact sp_is (by first | refine Run_pev rfl) rfl
      · intro w'' hE''
        intro σ''
        exact sp_is (by first | refine Run_pev rfl) rfl
      · intro w'' hE''
        rintro _ rfl
        intro σ''
        exact sp_is (by first | refine Run_pev rfl) rfl
      · intro w'' hE''
        rintro _ rfl
        rintro _ rfl
        intro σ''
        exact sp_is (by first | refine Run_pev rfl | refine k_pick_f (congrArg Value.bool (decide_eq_false (by omega))) rfl | refine k_pick_t (congrArg Value.bool (decide_eq_true (by omega))) rfl) rfl
      · intro w'' hE''
        rintro _ rfl
        rintro _ rfl
        intro σ''
        exact sp_is (by first | refine Run_pev rfl | refine k_pick_f (congrArg Value.bool (decide_eq_false (by omega))) rfl | refine k_pick_t (congrArg Value.bool (decide_eq_true (by omega))) rfl) rfl
      intro w'' hE''
      rintro _ rfl
      intro σ''
      replace hH := (hH.ext0 hE'').take 3
      first | change Hp _ _ _ [] at hH | change Hp _ _ _ [_] at hH | change Hp _ _ _ [_, _] at hH | change Hp _ _ _ [_, _, _] at hH | change Hp _ _ _ [_, _, _, _] at hH | change Hp _ _ _ [_, _, _, _, _] at hH | change Hp _ _ _ [_, _, _, _, _, _] at hH | change Hp _ _ _ [_, _, _, _, _, _, _] at hH | change Hp _ _ _ [_, _, _, _, _, _, _, _] at hH | change Hp _ _ _ [_, _, _, _, _, _, _, _, _] at hH
      repeat (first | refine WS_seq ?_ | refine WS_region ?_ | refine WL_nil ?_ | refine WS_block ?_ | refine WS_inBlock ?_ | refine WS_skip ?_ | refine WS_label ?_ | refine WS_scope ?_ | refine WS_inScope ?_ | refine WS_exit rfl ?_ | refine WS_true rfl ?_ | refine WS_false rfl ?_ | refine WS_yes rfl (by omega) ?_ | refine WS_no rfl (by omega) ?_ | refine WL_gyes rfl rfl rfl ?_ | refine WL_gno rfl rfl rfl rfl rfl ?_ | refine WL_gund rfl rfl rfl ?_ | refine WL_gyes rfl rfl (congrArg Value.bool (decide_eq_false (by omega))) ?_ | refine WL_gyes rfl rfl (congrArg Value.bool (decide_eq_true (by omega))) ?_ | refine WL_gno (b := false) rfl rfl (congrArg Value.bool (decide_eq_false (by omega))) rfl rfl ?_ | refine WL_gno (b := true) rfl rfl (congrArg Value.bool (decide_eq_true (by omega))) rfl rfl ?_ | (refine WL_r (by first | refine Run_pev rfl | refine k_add64 rfl rfl (by omega) | refine k_sub64 rfl rfl (by omega) | refine k_len rfl (Ty.isl rfl) | refine k_lens rfl (Ty.iss rfl) | refine k_not rfl | refine k_notb rfl | refine k_min rfl rfl | refine k_max rfl rfl | refine k_min3 rfl rfl rfl | refine k_max3 rfl rfl rfl | refine k_mul64 rfl rfl (by omega) | refine k_quo64 rfl rfl (by omega) | refine k_rem rfl rfl (by omega) | refine k_extract rfl rfl | apply k_makeFunc | refine k_conv_i64 rfl (Ty.und rfl) (Ty.knd rfl) (by omega) | refine k_conv_fit (qd := .u16) rfl (Ty.und rfl) (Ty.knd rfl) (fit16 (by omega)) | refine k_conv_fit (qd := .u64) rfl (Ty.und rfl) (Ty.knd rfl) (fit64 (by omega)) | refine k_conv_fit (qd := .u8) rfl (Ty.und rfl) (Ty.knd rfl) (fit8 (by omega)) | refine k_conv_u8 rfl (Ty.und rfl) (Ty.knd rfl) | refine k_conv_u16 rfl (Ty.und rfl) (Ty.knd rfl) | refine k_conv_u64 rfl (Ty.und rfl) (Ty.knd rfl) | refine k_pick_f (congrArg Value.bool (decide_eq_false (by omega))) rfl | refine k_pick_t (congrArg Value.bool (decide_eq_true (by omega))) rfl) rfl ?_))
      refine IH (i + 1, ⟨(fb (hs.drop (i + 1))).take (e2 - 23 * (i + 1)), false⟩) _ _ ?_ ?_ ?_ ?_
      · simp only; omega
      · exact ⟨rfl, trivial⟩
      · exact (by repeat (first | with_reducible apply Agr.refl | refine Agr.upd rfl ?_ | refine Agr.updo rfl ?_ | refine Agr.updL rfl ?_ | refine Agr.mrg rfl ?_ | exact Agr.refl | refine Agr.updn ?_))
      · exact ⟨by omega, fun _ => rfl, hH⟩
  obtain rfl : i = hs.length := by omega
  clear IH
  rw [List.drop_length] at hH
  repeat (first | refine WS_seq ?_ | refine WS_region ?_ | refine WL_nil ?_ | refine WS_block ?_ | refine WS_inBlock ?_ | refine WS_skip ?_ | refine WS_label ?_ | refine WS_scope ?_ | refine WS_inScope ?_ | refine WS_exit rfl ?_ | refine WS_true rfl ?_ | refine WS_false rfl ?_ | refine WS_yes rfl (by omega) ?_ | refine WS_no rfl (by omega) ?_ | refine WL_gyes rfl rfl rfl ?_ | refine WL_gno rfl rfl rfl rfl rfl ?_ | refine WL_gund rfl rfl rfl ?_ | refine WL_gyes rfl rfl (congrArg Value.bool (decide_eq_false (by omega))) ?_ | refine WL_gyes rfl rfl (congrArg Value.bool (decide_eq_true (by omega))) ?_ | refine WL_gno (b := false) rfl rfl (congrArg Value.bool (decide_eq_false (by omega))) rfl rfl ?_ | refine WL_gno (b := true) rfl rfl (congrArg Value.bool (decide_eq_true (by omega))) rfl rfl ?_ | (refine WL_r (by first | refine Run_pev rfl | refine k_add64 rfl rfl (by omega) | refine k_sub64 rfl rfl (by omega) | refine k_len rfl (Ty.isl rfl) | refine k_lens rfl (Ty.iss rfl) | refine k_not rfl | refine k_notb rfl | refine k_min rfl rfl | refine k_max rfl rfl | refine k_min3 rfl rfl rfl | refine k_max3 rfl rfl rfl | refine k_mul64 rfl rfl (by omega) | refine k_quo64 rfl rfl (by omega) | refine k_rem rfl rfl (by omega) | refine k_extract rfl rfl | apply k_makeFunc | refine k_conv_i64 rfl (Ty.und rfl) (Ty.knd rfl) (by omega) | refine k_conv_fit (qd := .u16) rfl (Ty.und rfl) (Ty.knd rfl) (fit16 (by omega)) | refine k_conv_fit (qd := .u64) rfl (Ty.und rfl) (Ty.knd rfl) (fit64 (by omega)) | refine k_conv_fit (qd := .u8) rfl (Ty.und rfl) (Ty.knd rfl) (fit8 (by omega)) | refine k_conv_u8 rfl (Ty.und rfl) (Ty.knd rfl) | refine k_conv_u16 rfl (Ty.und rfl) (Ty.knd rfl) | refine k_conv_u64 rfl (Ty.und rfl) (Ty.knd rfl) | refine k_pick_f (congrArg Value.bool (decide_eq_false (by omega))) rfl | refine k_pick_t (congrArg Value.bool (decide_eq_true (by omega))) rfl) rfl ?_))
  try refine WL_gyes rfl rfl rfl ?_
  refine WL_s (S_call (wlen_spec (hH.at 0 rfl)) rfl rfl ?_)
  rintro v w6 ⟨rfl, rfl⟩
  repeat (first | refine WS_seq ?_ | refine WS_region ?_ | refine WL_nil ?_ | refine WS_block ?_ | refine WS_inBlock ?_ | refine WS_skip ?_ | refine WS_label ?_ | refine WS_scope ?_ | refine WS_inScope ?_ | refine WS_exit rfl ?_ | refine WS_true rfl ?_ | refine WS_false rfl ?_ | refine WS_yes rfl (by omega) ?_ | refine WS_no rfl (by omega) ?_ | refine WL_gyes rfl rfl rfl ?_ | refine WL_gno rfl rfl rfl rfl rfl ?_ | refine WL_gund rfl rfl rfl ?_ | refine WL_gyes rfl rfl (congrArg Value.bool (decide_eq_false (by omega))) ?_ | refine WL_gyes rfl rfl (congrArg Value.bool (decide_eq_true (by omega))) ?_ | refine WL_gno (b := false) rfl rfl (congrArg Value.bool (decide_eq_false (by omega))) rfl rfl ?_ | refine WL_gno (b := true) rfl rfl (congrArg Value.bool (decide_eq_true (by omega))) rfl rfl ?_ | (refine WL_r (by first | refine (k_eql rfl rfl).is (bT (by omega)) | refine Run_pev rfl | refine k_add64 rfl rfl (by omega) | refine k_sub64 rfl rfl (by omega) | refine k_len rfl (Ty.isl rfl) | refine k_lens rfl (Ty.iss rfl) | refine k_not rfl | refine k_notb rfl | refine k_min rfl rfl | refine k_max rfl rfl | refine k_min3 rfl rfl rfl | refine k_max3 rfl rfl rfl | refine k_mul64 rfl rfl (by omega) | refine k_quo64 rfl rfl (by omega) | refine k_rem rfl rfl (by omega) | refine k_extract rfl rfl | apply k_makeFunc | refine k_conv_i64 rfl (Ty.und rfl) (Ty.knd rfl) (by omega) | refine k_conv_fit (qd := .u16) rfl (Ty.und rfl) (Ty.knd rfl) (fit16 (by omega)) | refine k_conv_fit (qd := .u64) rfl (Ty.und rfl) (Ty.knd rfl) (fit64 (by omega)) | refine k_conv_fit (qd := .u8) rfl (Ty.und rfl) (Ty.knd rfl) (fit8 (by omega)) | refine k_conv_u8 rfl (Ty.und rfl) (Ty.knd rfl) | refine k_conv_u16 rfl (Ty.und rfl) (Ty.knd rfl) | refine k_conv_u64 rfl (Ty.und rfl) (Ty.knd rfl) | refine k_pick_f (congrArg Value.bool (decide_eq_false (by omega))) rfl | refine k_pick_t (congrArg Value.bool (decide_eq_true (by omega))) rfl) rfl ?_))
  try refine WL_gyes rfl rfl rfl ?_
  refine WL_s (S_call (rend_spec (hH.at 1 rfl)) rfl rfl ?_)
  rintro v w7 ⟨rfl, hE⟩
  rw [show rend (⟨fb [], false⟩ : RS) = 0 from rfl]
  repeat (first | refine WS_seq ?_ | refine WS_region ?_ | refine WL_nil ?_ | refine WS_block ?_ | refine WS_inBlock ?_ | refine WS_skip ?_ | refine WS_label ?_ | refine WS_scope ?_ | refine WS_inScope ?_ | refine WS_exit rfl ?_ | refine WS_true rfl ?_ | refine WS_false rfl ?_ | refine WS_yes rfl (by omega) ?_ | refine WS_no rfl (by omega) ?_ | refine WL_gyes rfl rfl rfl ?_ | refine WL_gno rfl rfl rfl rfl rfl ?_ | refine WL_gund rfl rfl rfl ?_ | refine WL_gyes rfl rfl (congrArg Value.bool (decide_eq_false (by omega))) ?_ | refine WL_gyes rfl rfl (congrArg Value.bool (decide_eq_true (by omega))) ?_ | refine WL_gno (b := false) rfl rfl (congrArg Value.bool (decide_eq_false (by omega))) rfl rfl ?_ | refine WL_gno (b := true) rfl rfl (congrArg Value.bool (decide_eq_true (by omega))) rfl rfl ?_ | (refine WL_r (by first | refine Run_pev rfl | refine k_add64 rfl rfl (by omega) | refine k_sub64 rfl rfl (by omega) | refine k_len rfl (Ty.isl rfl) | refine k_lens rfl (Ty.iss rfl) | refine k_not rfl | refine k_notb rfl | refine k_min rfl rfl | refine k_max rfl rfl | refine k_min3 rfl rfl rfl | refine k_max3 rfl rfl rfl | refine k_mul64 rfl rfl (by omega) | refine k_quo64 rfl rfl (by omega) | refine k_rem rfl rfl (by omega) | refine k_extract rfl rfl | apply k_makeFunc | refine k_conv_i64 rfl (Ty.und rfl) (Ty.knd rfl) (by omega) | refine k_conv_fit (qd := .u16) rfl (Ty.und rfl) (Ty.knd rfl) (fit16 (by omega)) | refine k_conv_fit (qd := .u64) rfl (Ty.und rfl) (Ty.knd rfl) (fit64 (by omega)) | refine k_conv_fit (qd := .u8) rfl (Ty.und rfl) (Ty.knd rfl) (fit8 (by omega)) | refine k_conv_u8 rfl (Ty.und rfl) (Ty.knd rfl) | refine k_conv_u16 rfl (Ty.und rfl) (Ty.knd rfl) | refine k_conv_u64 rfl (Ty.und rfl) (Ty.knd rfl) | refine k_pick_f (congrArg Value.bool (decide_eq_false (by omega))) rfl | refine k_pick_t (congrArg Value.bool (decide_eq_true (by omega))) rfl) rfl ?_))
  exact WS_ret1 Try.func6 rfl ⟨rfl, hH.ext.then0 hE⟩
theorem own_pichRow : ownKnob Try.prog.godebug = none := by kernel_rfl
theorem laid_pichRow : laidOutB Try.prog = true := by kernel_rfl
set_option maxRecDepth 100000 in
theorem pichRow_lifted (os : Os) (started : os.Started) (H : Type) (enc : TypeId × Value → H) :
    ReturnsInHanded {} Try.checked os 6 .any (Rows.pichRowSpec.pre6 enc Try.prog Try.f6 Rows.pichRowRow.domain false) (Rows.pichRowSpec.post enc Try.prog Try.f6 false true false false) := by
  refine returnsInHanded_of_change (C := Try.checked) own_pichRow started (by kernel_rfl) Try.func6
    (ChangeSpec.witness6 (enc := enc) (C := Try.checked) false ⟨#[], #[.slice none 0 0, .int .u8 0], []⟩ 8 (by kernel_rfl) (by kernel_rfl) (by kernel_rfl) (by kernel_rfl)) ?_
  intro W base args ds gs before hval0 hW _ _
  have hval : ∀ (j : Nat) t v, Try.f6.params[j]? = some t → args[j]? = some v → Value.okWide Try.prog W .any base t v := hval0
  have hW' := hW
  obtain ⟨p, q, hA0, hV, rfl, hfz, hnd⟩ := hW
  have hA : DataW.TrodAll enc Try.prog W 0 (fun _ => true) true Try.f6.params.toList args.toList ds p := hA0
  rw [Try.params6] at hA hval
  obtain ⟨v0, r0, d0, e0, p0, q0, ha0, rfl, rfl, h0, hA⟩ := trodAll_cons hA
  obtain ⟨v1, r1, d1, e1, p1, q1, ha1, rfl, rfl, h1, hA⟩ := trodAll_cons hA
  obtain ⟨hnil, rfl, rfl⟩ := trodAll_nil hA
  obtain rfl : args = #[v0, v1] := by cases args; simp_all
  have hv0 := hval 0 _ v0 rfl rfl
  have hv1 := hval 1 _ v1 rfl rfl
  clear hA0 hval0 ha0 ha1 hnil
  obtain ⟨a, n, cap, ess, hc, hn, hS, hps, hcap, hm⟩ := rd_arg (.sl (.str (.cons (.int .i64) (.cons .bool (.cons .bool (.cons (.int .i64) .nil)))))) (by kernel_rfl) h0
  obtain ⟨a', n', cap', rfl⟩ := okWide_slice (sle_spec (Ty.sle rfl)).1 hv0
  obtain ⟨rfl, rfl, rfl⟩ : a' = a ∧ n' = n ∧ cap' = cap := by simpa [Value.cells] using hc
  obtain ⟨hs, rfl, hws⟩ := heads_of hps
  rw [List.length_map] at hn
  obtain ⟨y, rfl, hy⟩ := rd_int (Ty.knd rfl) hv1 h1
  obtain ⟨u, rfl, hu⟩ := fits_u8 hy
  have hlen : n' ≤ 9223372036854775807 := by simp only [maxLen] at hm; omega
  refine ((prow_spec hS hn hlen hu).enter Try.func6 rfl rfl).mono ?_
  rintro e W' ⟨v, rfl, rfl, hE⟩
  exact ⟨_, rfl, law_post laid_pichRow (by kernel_rfl) hW' rfl rfl (by kernel_rfl) ⟨rfl, rfl, rfl⟩ hE⟩
theorem pichRow_holds : Rows.PichRowSaid :=
  OpenClaim.holds_of_wide 6 Try.f6 rfl rfl rfl rfl rfl rfl rfl ⟨rfl, rfl, rfl, rfl, rfl⟩ rfl rfl rfl rfl rfl (by kernel_rfl) Try.func6 (by kernel_rfl)
    (of_decide_eq_true (by kernel_rfl)) (by unfold Func.isWrapper; first | (rw [if_pos (by decide +kernel)]; kernel_rfl) | (rw [if_neg (by decide +kernel)]; exact ⟨rfl, rfl⟩))
    (fun os started H enc _ => pichRow_lifted os started H enc)
#print axioms pichRow_holds
end Go.Proofs.Ytepddofhlohipaa
