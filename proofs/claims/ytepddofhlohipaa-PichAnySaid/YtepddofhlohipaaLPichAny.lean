/- The law PichAny: any bits: a head that makes them, or they end; no condition. -/
import Derived.Test.YtepddofhlohipaaLaw16
import Derived.Test.YtepddofhlohipaaRef01
namespace Go.Proofs.Ytepddofhlohipaa
open Go Go.K Go.P Go.RowKit Go.Proofs Go.ChangeShapes Go.WideShapes Go.ChangeAt
theorem bl_pre {l : List Nat} {k e : Nat} (hk : k ≤ e) (he : e ≤ 8 * l.length) : bl l 0 k = (bl l 0 e).take k := by
  rw [← toNat_inj, List.map_take, ← bl_take l k (by omega), ← bl_take l e he, List.take_take, Nat.min_eq_left hk]
set_option maxRecDepth 20000 in
set_option maxHeartbeats 4000000 in
theorem pany_spec {a : Option Addr} {n cap m : Nat} {l : List Nat} {w : World} (hS : SlA w a (l.map B)) (hl : Byt l) (hn : l.length = n) (_hlen : n ≤ 9223372036854775807) (_hm : m < 256) :
    Does Try.prog 3 #[.slice a n cap, .int .u8 m] w fun v w' => v = .bool true ∧ Ext [] w w' := by
  subst hn
  refine Does_of (args := [_, _]) Try.func3 rfl rfl Try.ntmps3 rfl ?_
  repeat (first | refine WS_seq ?_ | refine WS_region ?_ | refine WL_nil ?_ | refine WS_block ?_ | refine WS_inBlock ?_ | refine WS_skip ?_ | refine WS_label ?_ | refine WS_scope ?_ | refine WS_inScope ?_ | refine WS_exit rfl ?_ | refine WS_true rfl ?_ | refine WS_false rfl ?_ | refine WS_yes rfl (by omega) ?_ | refine WS_no rfl (by omega) ?_ | refine WL_gyes rfl rfl rfl ?_ | refine WL_gno rfl rfl rfl rfl rfl ?_ | refine WL_gund rfl rfl rfl ?_ | refine WL_gyes rfl rfl (congrArg Value.bool (decide_eq_false (by omega))) ?_ | refine WL_gyes rfl rfl (congrArg Value.bool (decide_eq_true (by omega))) ?_ | refine WL_gno (b := false) rfl rfl (congrArg Value.bool (decide_eq_false (by omega))) rfl rfl ?_ | refine WL_gno (b := true) rfl rfl (congrArg Value.bool (decide_eq_true (by omega))) rfl rfl ?_ | (refine WL_r (by first | refine Run_pev rfl | refine k_add64 rfl rfl (by omega) | refine k_sub64 rfl rfl (by omega) | refine k_len rfl (Ty.isl rfl) | refine k_lens rfl (Ty.iss rfl) | refine k_not rfl | refine k_notb rfl | refine k_min rfl rfl | refine k_max rfl rfl | refine k_min3 rfl rfl rfl | refine k_max3 rfl rfl rfl | refine k_mul64 rfl rfl (by omega) | refine k_quo64 rfl rfl (by omega) | refine k_rem rfl rfl (by omega) | refine k_extract rfl rfl | apply k_makeFunc | refine k_conv_i64 rfl (Ty.und rfl) (Ty.knd rfl) (by omega) | refine k_conv_fit (qd := .u16) rfl (Ty.und rfl) (Ty.knd rfl) (fit16 (by omega)) | refine k_conv_fit (qd := .u64) rfl (Ty.und rfl) (Ty.knd rfl) (fit64 (by omega)) | refine k_conv_fit (qd := .u8) rfl (Ty.und rfl) (Ty.knd rfl) (fit8 (by omega)) | refine k_conv_u8 rfl (Ty.und rfl) (Ty.knd rfl) | refine k_conv_u16 rfl (Ty.und rfl) (Ty.knd rfl) | refine k_conv_u64 rfl (Ty.und rfl) (Ty.knd rfl) | refine k_pick_f (congrArg Value.bool (decide_eq_false (by omega))) rfl | refine k_pick_t (congrArg Value.bool (decide_eq_true (by omega))) rfl) rfl ?_))
  try refine WL_gyes rfl rfl rfl ?_
  refine WL_s (S_call (awake16 w) rfl rfl ?_)
  rintro v w1 ⟨rfl, hW1⟩
  have hH := (Hp.start w).ext0 hW1
  clear hW1
  by_cases h50 : 50 < l.length
  · repeat (first | refine WS_seq ?_ | refine WS_region ?_ | refine WL_nil ?_ | refine WS_block ?_ | refine WS_inBlock ?_ | refine WS_skip ?_ | refine WS_label ?_ | refine WS_scope ?_ | refine WS_inScope ?_ | refine WS_exit rfl ?_ | refine WS_true rfl ?_ | refine WS_false rfl ?_ | refine WS_yes rfl (by omega) ?_ | refine WS_no rfl (by omega) ?_ | refine WL_gyes rfl rfl rfl ?_ | refine WL_gno rfl rfl rfl rfl rfl ?_ | refine WL_gund rfl rfl rfl ?_ | refine WL_gyes rfl rfl (congrArg Value.bool (decide_eq_false (by omega))) ?_ | refine WL_gyes rfl rfl (congrArg Value.bool (decide_eq_true (by omega))) ?_ | refine WL_gno (b := false) rfl rfl (congrArg Value.bool (decide_eq_false (by omega))) rfl rfl ?_ | refine WL_gno (b := true) rfl rfl (congrArg Value.bool (decide_eq_true (by omega))) rfl rfl ?_ | (refine WL_r (by first | refine Run_pev rfl | refine k_add64 rfl rfl (by omega) | refine k_sub64 rfl rfl (by omega) | refine k_len rfl (Ty.isl rfl) | refine k_lens rfl (Ty.iss rfl) | refine k_not rfl | refine k_notb rfl | refine k_min rfl rfl | refine k_max rfl rfl | refine k_min3 rfl rfl rfl | refine k_max3 rfl rfl rfl | refine k_mul64 rfl rfl (by omega) | refine k_quo64 rfl rfl (by omega) | refine k_rem rfl rfl (by omega) | refine k_extract rfl rfl | apply k_makeFunc | refine k_conv_i64 rfl (Ty.und rfl) (Ty.knd rfl) (by omega) | refine k_conv_fit (qd := .u16) rfl (Ty.und rfl) (Ty.knd rfl) (fit16 (by omega)) | refine k_conv_fit (qd := .u64) rfl (Ty.und rfl) (Ty.knd rfl) (fit64 (by omega)) | refine k_conv_fit (qd := .u8) rfl (Ty.und rfl) (Ty.knd rfl) (fit8 (by omega)) | refine k_conv_u8 rfl (Ty.und rfl) (Ty.knd rfl) | refine k_conv_u16 rfl (Ty.und rfl) (Ty.knd rfl) | refine k_conv_u64 rfl (Ty.und rfl) (Ty.knd rfl) | refine k_pick_f (congrArg Value.bool (decide_eq_false (by omega))) rfl | refine k_pick_t (congrArg Value.bool (decide_eq_true (by omega))) rfl) rfl ?_))
    exact WS_ret1 Try.func3 rfl ⟨rfl, hH.ext⟩
  obtain ⟨e, he⟩ : ∃ e : Nat, min (m : Int) (8 * (l.length : Int)) = (e : Int) := ⟨min m (8 * l.length), by omega⟩
  have hel : e ≤ 8 * l.length := by omega
  repeat (first | refine WS_seq ?_ | refine WS_region ?_ | refine WL_nil ?_ | refine WS_block ?_ | refine WS_inBlock ?_ | refine WS_skip ?_ | refine WS_label ?_ | refine WS_scope ?_ | refine WS_inScope ?_ | refine WS_exit rfl ?_ | refine WS_true rfl ?_ | refine WS_false rfl ?_ | refine WS_yes rfl (by omega) ?_ | refine WS_no rfl (by omega) ?_ | refine WL_gyes rfl rfl rfl ?_ | refine WL_gno rfl rfl rfl rfl rfl ?_ | refine WL_gund rfl rfl rfl ?_ | refine WL_gyes rfl rfl (congrArg Value.bool (decide_eq_false (by omega))) ?_ | refine WL_gyes rfl rfl (congrArg Value.bool (decide_eq_true (by omega))) ?_ | refine WL_gno (b := false) rfl rfl (congrArg Value.bool (decide_eq_false (by omega))) rfl rfl ?_ | refine WL_gno (b := true) rfl rfl (congrArg Value.bool (decide_eq_true (by omega))) rfl rfl ?_ | (refine WL_r (by first | refine Run_pev rfl | refine k_add64 rfl rfl (by omega) | refine k_sub64 rfl rfl (by omega) | refine k_len rfl (Ty.isl rfl) | refine k_lens rfl (Ty.iss rfl) | refine k_not rfl | refine k_notb rfl | refine k_min rfl rfl | refine k_max rfl rfl | refine k_min3 rfl rfl rfl | refine k_max3 rfl rfl rfl | refine k_mul64 rfl rfl (by omega) | refine k_quo64 rfl rfl (by omega) | refine k_rem rfl rfl (by omega) | refine k_extract rfl rfl | apply k_makeFunc | refine k_conv_i64 rfl (Ty.und rfl) (Ty.knd rfl) (by omega) | refine k_conv_fit (qd := .u16) rfl (Ty.und rfl) (Ty.knd rfl) (fit16 (by omega)) | refine k_conv_fit (qd := .u64) rfl (Ty.und rfl) (Ty.knd rfl) (fit64 (by omega)) | refine k_conv_fit (qd := .u8) rfl (Ty.und rfl) (Ty.knd rfl) (fit8 (by omega)) | refine k_conv_u8 rfl (Ty.und rfl) (Ty.knd rfl) | refine k_conv_u16 rfl (Ty.und rfl) (Ty.knd rfl) | refine k_conv_u64 rfl (Ty.und rfl) (Ty.knd rfl) | refine k_pick_f (congrArg Value.bool (decide_eq_false (by omega))) rfl | refine k_pick_t (congrArg Value.bool (decide_eq_true (by omega))) rfl) rfl ?_))
  rw [he]
  repeat (first | refine WS_seq ?_ | refine WS_region ?_ | refine WL_nil ?_ | refine WS_block ?_ | refine WS_inBlock ?_ | refine WS_skip ?_ | refine WS_label ?_ | refine WS_scope ?_ | refine WS_inScope ?_ | refine WS_exit rfl ?_ | refine WS_true rfl ?_ | refine WS_false rfl ?_ | refine WS_yes rfl (by omega) ?_ | refine WS_no rfl (by omega) ?_ | refine WL_gyes rfl rfl rfl ?_ | refine WL_gno rfl rfl rfl rfl rfl ?_ | refine WL_gund rfl rfl rfl ?_ | refine WL_gyes rfl rfl (congrArg Value.bool (decide_eq_false (by omega))) ?_ | refine WL_gyes rfl rfl (congrArg Value.bool (decide_eq_true (by omega))) ?_ | refine WL_gno (b := false) rfl rfl (congrArg Value.bool (decide_eq_false (by omega))) rfl rfl ?_ | refine WL_gno (b := true) rfl rfl (congrArg Value.bool (decide_eq_true (by omega))) rfl rfl ?_ | (refine WL_r (by first | refine Run_pev rfl | refine k_add64 rfl rfl (by omega) | refine k_sub64 rfl rfl (by omega) | refine k_len rfl (Ty.isl rfl) | refine k_lens rfl (Ty.iss rfl) | refine k_not rfl | refine k_notb rfl | refine k_min rfl rfl | refine k_max rfl rfl | refine k_min3 rfl rfl rfl | refine k_max3 rfl rfl rfl | refine k_mul64 rfl rfl (by omega) | refine k_quo64 rfl rfl (by omega) | refine k_rem rfl rfl (by omega) | refine k_extract rfl rfl | apply k_makeFunc | refine k_conv_i64 rfl (Ty.und rfl) (Ty.knd rfl) (by omega) | refine k_conv_fit (qd := .u16) rfl (Ty.und rfl) (Ty.knd rfl) (fit16 (by omega)) | refine k_conv_fit (qd := .u64) rfl (Ty.und rfl) (Ty.knd rfl) (fit64 (by omega)) | refine k_conv_fit (qd := .u8) rfl (Ty.und rfl) (Ty.knd rfl) (fit8 (by omega)) | refine k_conv_u8 rfl (Ty.und rfl) (Ty.knd rfl) | refine k_conv_u16 rfl (Ty.und rfl) (Ty.knd rfl) | refine k_conv_u64 rfl (Ty.und rfl) (Ty.knd rfl) | refine k_pick_f (congrArg Value.bool (decide_eq_false (by omega))) rfl | refine k_pick_t (congrArg Value.bool (decide_eq_true (by omega))) rfl) rfl ?_))
  try refine WL_gyes rfl rfl rfl ?_
  refine WL_s (S_call (read_spec (hH.old hS) rfl (by omega) (e := e) (by omega)) rfl rfl ?_)
  rintro v w3 ⟨p, a3, c3, rfl, hN⟩
  replace hH := hH.nu (Rr.rd hN hel (by omega) hl)
  clear hN
  first | change Hp _ _ _ [] at hH | change Hp _ _ _ [_] at hH | change Hp _ _ _ [_, _] at hH | change Hp _ _ _ [_, _, _] at hH | change Hp _ _ _ [_, _, _, _] at hH | change Hp _ _ _ [_, _, _, _, _] at hH | change Hp _ _ _ [_, _, _, _, _, _] at hH | change Hp _ _ _ [_, _, _, _, _, _, _] at hH | change Hp _ _ _ [_, _, _, _, _, _, _, _] at hH | change Hp _ _ _ [_, _, _, _, _, _, _, _, _] at hH
  have hX : (bl l 0 e).length = e := by rw [bl_len]; omega
  have hpre : ∀ k, k ≤ e → bl l 0 k = (bl l 0 e).take k := fun k hk => bl_pre hk hel
  generalize bl l 0 e = X at *
  repeat (first | refine WS_seq ?_ | refine WS_region ?_ | refine WL_nil ?_ | refine WS_block ?_ | refine WS_inBlock ?_ | refine WS_skip ?_ | refine WS_label ?_ | refine WS_scope ?_ | refine WS_inScope ?_ | refine WS_exit rfl ?_ | refine WS_true rfl ?_ | refine WS_false rfl ?_ | refine WS_yes rfl (by omega) ?_ | refine WS_no rfl (by omega) ?_ | refine WL_gyes rfl rfl rfl ?_ | refine WL_gno rfl rfl rfl rfl rfl ?_ | refine WL_gund rfl rfl rfl ?_ | refine WL_gyes rfl rfl (congrArg Value.bool (decide_eq_false (by omega))) ?_ | refine WL_gyes rfl rfl (congrArg Value.bool (decide_eq_true (by omega))) ?_ | refine WL_gno (b := false) rfl rfl (congrArg Value.bool (decide_eq_false (by omega))) rfl rfl ?_ | refine WL_gno (b := true) rfl rfl (congrArg Value.bool (decide_eq_true (by omega))) rfl rfl ?_ | (refine WL_r (by first | refine Run_pev rfl | refine k_add64 rfl rfl (by omega) | refine k_sub64 rfl rfl (by omega) | refine k_len rfl (Ty.isl rfl) | refine k_lens rfl (Ty.iss rfl) | refine k_not rfl | refine k_notb rfl | refine k_min rfl rfl | refine k_max rfl rfl | refine k_min3 rfl rfl rfl | refine k_max3 rfl rfl rfl | refine k_mul64 rfl rfl (by omega) | refine k_quo64 rfl rfl (by omega) | refine k_rem rfl rfl (by omega) | refine k_extract rfl rfl | apply k_makeFunc | refine k_conv_i64 rfl (Ty.und rfl) (Ty.knd rfl) (by omega) | refine k_conv_fit (qd := .u16) rfl (Ty.und rfl) (Ty.knd rfl) (fit16 (by omega)) | refine k_conv_fit (qd := .u64) rfl (Ty.und rfl) (Ty.knd rfl) (fit64 (by omega)) | refine k_conv_fit (qd := .u8) rfl (Ty.und rfl) (Ty.knd rfl) (fit8 (by omega)) | refine k_conv_u8 rfl (Ty.und rfl) (Ty.knd rfl) | refine k_conv_u16 rfl (Ty.und rfl) (Ty.knd rfl) | refine k_conv_u64 rfl (Ty.und rfl) (Ty.knd rfl) | refine k_pick_f (congrArg Value.bool (decide_eq_false (by omega))) rfl | refine k_pick_t (congrArg Value.bool (decide_eq_true (by omega))) rfl) rfl ?_))
  try refine WL_gyes rfl rfl rfl ?_
  refine WL_s (S_call (ptake_spec (hH.at 0 rfl)) rfl rfl ?_)
  rintro v w4 hT
  rcases hT with ⟨hen, herr, rfl, hU⟩ | ⟨hbad, rfl, s', hs', hU⟩
  · replace hH := hH.up 0 rfl hU
    first | change Hp _ _ _ [] at hH | change Hp _ _ _ [_] at hH | change Hp _ _ _ [_, _] at hH | change Hp _ _ _ [_, _, _] at hH | change Hp _ _ _ [_, _, _, _] at hH | change Hp _ _ _ [_, _, _, _, _] at hH | change Hp _ _ _ [_, _, _, _, _, _] at hH | change Hp _ _ _ [_, _, _, _, _, _, _] at hH | change Hp _ _ _ [_, _, _, _, _, _, _, _] at hH | change Hp _ _ _ [_, _, _, _, _, _, _, _, _] at hH
    obtain ⟨r, hXr, hs2, _, _⟩ := PH.rd_ok hen
    rw [hs2] at hH
    have hw := PH.wide_of_ok herr
    generalize (PH.rd ⟨X, false⟩).1 = hd at *
    obtain rfl : X = hd.bits ++ r := congrArg RS.rest hXr
    have hbl := PH.bits_len hd
    have hrl : r.length + 23 = e := by rw [← hX, List.length_append, hbl, Nat.add_comm]
    repeat (first | refine WS_seq ?_ | refine WS_region ?_ | refine WL_nil ?_ | refine WS_block ?_ | refine WS_inBlock ?_ | refine WS_skip ?_ | refine WS_label ?_ | refine WS_scope ?_ | refine WS_inScope ?_ | refine WS_exit rfl ?_ | refine WS_true rfl ?_ | refine WS_false rfl ?_ | refine WS_yes rfl (by omega) ?_ | refine WS_no rfl (by omega) ?_ | refine WL_gyes rfl rfl rfl ?_ | refine WL_gno rfl rfl rfl rfl rfl ?_ | refine WL_gund rfl rfl rfl ?_ | refine WL_gyes rfl rfl (congrArg Value.bool (decide_eq_false (by omega))) ?_ | refine WL_gyes rfl rfl (congrArg Value.bool (decide_eq_true (by omega))) ?_ | refine WL_gno (b := false) rfl rfl (congrArg Value.bool (decide_eq_false (by omega))) rfl rfl ?_ | refine WL_gno (b := true) rfl rfl (congrArg Value.bool (decide_eq_true (by omega))) rfl rfl ?_ | (refine WL_r (by first | refine Run_pev rfl | refine k_add64 rfl rfl (by omega) | refine k_sub64 rfl rfl (by omega) | refine k_len rfl (Ty.isl rfl) | refine k_lens rfl (Ty.iss rfl) | refine k_not rfl | refine k_notb rfl | refine k_min rfl rfl | refine k_max rfl rfl | refine k_min3 rfl rfl rfl | refine k_max3 rfl rfl rfl | refine k_mul64 rfl rfl (by omega) | refine k_quo64 rfl rfl (by omega) | refine k_rem rfl rfl (by omega) | refine k_extract rfl rfl | apply k_makeFunc | refine k_conv_i64 rfl (Ty.und rfl) (Ty.knd rfl) (by omega) | refine k_conv_fit (qd := .u16) rfl (Ty.und rfl) (Ty.knd rfl) (fit16 (by omega)) | refine k_conv_fit (qd := .u64) rfl (Ty.und rfl) (Ty.knd rfl) (fit64 (by omega)) | refine k_conv_fit (qd := .u8) rfl (Ty.und rfl) (Ty.knd rfl) (fit8 (by omega)) | refine k_conv_u8 rfl (Ty.und rfl) (Ty.knd rfl) | refine k_conv_u16 rfl (Ty.und rfl) (Ty.knd rfl) | refine k_conv_u64 rfl (Ty.und rfl) (Ty.knd rfl) | refine k_pick_f (congrArg Value.bool (decide_eq_false (by omega))) rfl | refine k_pick_t (congrArg Value.bool (decide_eq_true (by omega))) rfl) rfl ?_))
    refine WL_s (H_alloc hH (Ty.zer rfl) rfl ?_)
    try clear hH
    intro w5 b7 hH
    first | change Hp _ _ _ [] at hH | change Hp _ _ _ [_] at hH | change Hp _ _ _ [_, _] at hH | change Hp _ _ _ [_, _, _] at hH | change Hp _ _ _ [_, _, _, _] at hH | change Hp _ _ _ [_, _, _, _, _] at hH | change Hp _ _ _ [_, _, _, _, _, _] at hH | change Hp _ _ _ [_, _, _, _, _, _, _] at hH | change Hp _ _ _ [_, _, _, _, _, _, _, _] at hH | change Hp _ _ _ [_, _, _, _, _, _, _, _, _] at hH
    repeat (first | refine WS_seq ?_ | refine WS_region ?_ | refine WL_nil ?_ | refine WS_block ?_ | refine WS_inBlock ?_ | refine WS_skip ?_ | refine WS_label ?_ | refine WS_scope ?_ | refine WS_inScope ?_ | refine WS_exit rfl ?_ | refine WS_true rfl ?_ | refine WS_false rfl ?_ | refine WS_yes rfl (by omega) ?_ | refine WS_no rfl (by omega) ?_ | refine WL_gyes rfl rfl rfl ?_ | refine WL_gno rfl rfl rfl rfl rfl ?_ | refine WL_gund rfl rfl rfl ?_ | refine WL_gyes rfl rfl (congrArg Value.bool (decide_eq_false (by omega))) ?_ | refine WL_gyes rfl rfl (congrArg Value.bool (decide_eq_true (by omega))) ?_ | refine WL_gno (b := false) rfl rfl (congrArg Value.bool (decide_eq_false (by omega))) rfl rfl ?_ | refine WL_gno (b := true) rfl rfl (congrArg Value.bool (decide_eq_true (by omega))) rfl rfl ?_ | (refine WL_r (by first | refine Run_pev rfl | refine k_add64 rfl rfl (by omega) | refine k_sub64 rfl rfl (by omega) | refine k_len rfl (Ty.isl rfl) | refine k_lens rfl (Ty.iss rfl) | refine k_not rfl | refine k_notb rfl | refine k_min rfl rfl | refine k_max rfl rfl | refine k_min3 rfl rfl rfl | refine k_max3 rfl rfl rfl | refine k_mul64 rfl rfl (by omega) | refine k_quo64 rfl rfl (by omega) | refine k_rem rfl rfl (by omega) | refine k_extract rfl rfl | apply k_makeFunc | refine k_conv_i64 rfl (Ty.und rfl) (Ty.knd rfl) (by omega) | refine k_conv_fit (qd := .u16) rfl (Ty.und rfl) (Ty.knd rfl) (fit16 (by omega)) | refine k_conv_fit (qd := .u64) rfl (Ty.und rfl) (Ty.knd rfl) (fit64 (by omega)) | refine k_conv_fit (qd := .u8) rfl (Ty.und rfl) (Ty.knd rfl) (fit8 (by omega)) | refine k_conv_u8 rfl (Ty.und rfl) (Ty.knd rfl) | refine k_conv_u16 rfl (Ty.und rfl) (Ty.knd rfl) | refine k_conv_u64 rfl (Ty.und rfl) (Ty.knd rfl) | refine k_pick_f (congrArg Value.bool (decide_eq_false (by omega))) rfl | refine k_pick_t (congrArg Value.bool (decide_eq_true (by omega))) rfl) rfl ?_))
    refine WL_s (H_storeA 1 hH rfl rfl rfl rfl rfl (PH.one hd) (Ty.shp rfl) ?_)
    try clear hH
    intro w6 hH
    first | change Hp _ _ _ [] at hH | change Hp _ _ _ [_] at hH | change Hp _ _ _ [_, _] at hH | change Hp _ _ _ [_, _, _] at hH | change Hp _ _ _ [_, _, _, _] at hH | change Hp _ _ _ [_, _, _, _, _] at hH | change Hp _ _ _ [_, _, _, _, _, _] at hH | change Hp _ _ _ [_, _, _, _, _, _, _] at hH | change Hp _ _ _ [_, _, _, _, _, _, _, _] at hH | change Hp _ _ _ [_, _, _, _, _, _, _, _, _] at hH
    repeat (first | refine WS_seq ?_ | refine WS_region ?_ | refine WL_nil ?_ | refine WS_block ?_ | refine WS_inBlock ?_ | refine WS_skip ?_ | refine WS_label ?_ | refine WS_scope ?_ | refine WS_inScope ?_ | refine WS_exit rfl ?_ | refine WS_true rfl ?_ | refine WS_false rfl ?_ | refine WS_yes rfl (by omega) ?_ | refine WS_no rfl (by omega) ?_ | refine WL_gyes rfl rfl rfl ?_ | refine WL_gno rfl rfl rfl rfl rfl ?_ | refine WL_gund rfl rfl rfl ?_ | refine WL_gyes rfl rfl (congrArg Value.bool (decide_eq_false (by omega))) ?_ | refine WL_gyes rfl rfl (congrArg Value.bool (decide_eq_true (by omega))) ?_ | refine WL_gno (b := false) rfl rfl (congrArg Value.bool (decide_eq_false (by omega))) rfl rfl ?_ | refine WL_gno (b := true) rfl rfl (congrArg Value.bool (decide_eq_true (by omega))) rfl rfl ?_ | (refine WL_r (by first | refine Run_pev rfl | refine k_add64 rfl rfl (by omega) | refine k_sub64 rfl rfl (by omega) | refine k_len rfl (Ty.isl rfl) | refine k_lens rfl (Ty.iss rfl) | refine k_not rfl | refine k_notb rfl | refine k_min rfl rfl | refine k_max rfl rfl | refine k_min3 rfl rfl rfl | refine k_max3 rfl rfl rfl | refine k_mul64 rfl rfl (by omega) | refine k_quo64 rfl rfl (by omega) | refine k_rem rfl rfl (by omega) | refine k_extract rfl rfl | apply k_makeFunc | refine k_conv_i64 rfl (Ty.und rfl) (Ty.knd rfl) (by omega) | refine k_conv_fit (qd := .u16) rfl (Ty.und rfl) (Ty.knd rfl) (fit16 (by omega)) | refine k_conv_fit (qd := .u64) rfl (Ty.und rfl) (Ty.knd rfl) (fit64 (by omega)) | refine k_conv_fit (qd := .u8) rfl (Ty.und rfl) (Ty.knd rfl) (fit8 (by omega)) | refine k_conv_u8 rfl (Ty.und rfl) (Ty.knd rfl) | refine k_conv_u16 rfl (Ty.und rfl) (Ty.knd rfl) | refine k_conv_u64 rfl (Ty.und rfl) (Ty.knd rfl) | refine k_pick_f (congrArg Value.bool (decide_eq_false (by omega))) rfl | refine k_pick_t (congrArg Value.bool (decide_eq_true (by omega))) rfl) rfl ?_))
    try refine WL_gyes rfl rfl rfl ?_
    refine WL_s (S_call (rended_spec (hH.at 0 rfl)) rfl rfl ?_)
    rintro v w7 ⟨rfl, rfl⟩
    repeat (first | refine WS_seq ?_ | refine WS_region ?_ | refine WL_nil ?_ | refine WS_block ?_ | refine WS_inBlock ?_ | refine WS_skip ?_ | refine WS_label ?_ | refine WS_scope ?_ | refine WS_inScope ?_ | refine WS_exit rfl ?_ | refine WS_true rfl ?_ | refine WS_false rfl ?_ | refine WS_yes rfl (by omega) ?_ | refine WS_no rfl (by omega) ?_ | refine WL_gyes rfl rfl rfl ?_ | refine WL_gno rfl rfl rfl rfl rfl ?_ | refine WL_gund rfl rfl rfl ?_ | refine WL_gyes rfl rfl (congrArg Value.bool (decide_eq_false (by omega))) ?_ | refine WL_gyes rfl rfl (congrArg Value.bool (decide_eq_true (by omega))) ?_ | refine WL_gno (b := false) rfl rfl (congrArg Value.bool (decide_eq_false (by omega))) rfl rfl ?_ | refine WL_gno (b := true) rfl rfl (congrArg Value.bool (decide_eq_true (by omega))) rfl rfl ?_ | (refine WL_r (by first | refine k_buildS (cs := [.slice none 0 0, .int .i64 0]) (Ty.zer rfl) (Ty.plc rfl) rfl | refine Run_pev rfl | refine k_add64 rfl rfl (by omega) | refine k_sub64 rfl rfl (by omega) | refine k_len rfl (Ty.isl rfl) | refine k_lens rfl (Ty.iss rfl) | refine k_not rfl | refine k_notb rfl | refine k_min rfl rfl | refine k_max rfl rfl | refine k_min3 rfl rfl rfl | refine k_max3 rfl rfl rfl | refine k_mul64 rfl rfl (by omega) | refine k_quo64 rfl rfl (by omega) | refine k_rem rfl rfl (by omega) | refine k_extract rfl rfl | apply k_makeFunc | refine k_conv_i64 rfl (Ty.und rfl) (Ty.knd rfl) (by omega) | refine k_conv_fit (qd := .u16) rfl (Ty.und rfl) (Ty.knd rfl) (fit16 (by omega)) | refine k_conv_fit (qd := .u64) rfl (Ty.und rfl) (Ty.knd rfl) (fit64 (by omega)) | refine k_conv_fit (qd := .u8) rfl (Ty.und rfl) (Ty.knd rfl) (fit8 (by omega)) | refine k_conv_u8 rfl (Ty.und rfl) (Ty.knd rfl) | refine k_conv_u16 rfl (Ty.und rfl) (Ty.knd rfl) | refine k_conv_u64 rfl (Ty.und rfl) (Ty.knd rfl) | refine k_pick_f (congrArg Value.bool (decide_eq_false (by omega))) rfl | refine k_pick_t (congrArg Value.bool (decide_eq_true (by omega))) rfl) rfl ?_))
    refine WL_s (H_box hH rfl rfl rfl ?_)
    try clear hH
    intro w8 q hH
    replace hH : Hp [] w _ [Rd p a3 c3 ⟨r, false⟩, Rb b7 27 hd.cells.toArray, Rw q none 0 []] := hH.as 2 rfl (fun x hx => by simpa [Rw, sep, Rb, RBy, Ro, blk] using hx) (fun hB => ⟨hB, Own.nil, fun _ _ hb => by simp [RBy, Ro, blk] at hb⟩)
    have hB : Blk w8 b7 27 hd.cells.toArray := hH.b 1 rfl
    repeat (first | refine WS_seq ?_ | refine WS_region ?_ | refine WL_nil ?_ | refine WS_block ?_ | refine WS_inBlock ?_ | refine WS_skip ?_ | refine WS_label ?_ | refine WS_scope ?_ | refine WS_inScope ?_ | refine WS_exit rfl ?_ | refine WS_true rfl ?_ | refine WS_false rfl ?_ | refine WS_yes rfl (by omega) ?_ | refine WS_no rfl (by omega) ?_ | refine WL_gyes rfl rfl rfl ?_ | refine WL_gno rfl rfl rfl rfl rfl ?_ | refine WL_gund rfl rfl rfl ?_ | refine WL_gyes rfl rfl (congrArg Value.bool (decide_eq_false (by omega))) ?_ | refine WL_gyes rfl rfl (congrArg Value.bool (decide_eq_true (by omega))) ?_ | refine WL_gno (b := false) rfl rfl (congrArg Value.bool (decide_eq_false (by omega))) rfl rfl ?_ | refine WL_gno (b := true) rfl rfl (congrArg Value.bool (decide_eq_true (by omega))) rfl rfl ?_ | (refine WL_r (by first | refine k_loadA rfl hB rfl (Ty.shp rfl) | refine Run_pev rfl | refine k_add64 rfl rfl (by omega) | refine k_sub64 rfl rfl (by omega) | refine k_len rfl (Ty.isl rfl) | refine k_lens rfl (Ty.iss rfl) | refine k_not rfl | refine k_notb rfl | refine k_min rfl rfl | refine k_max rfl rfl | refine k_min3 rfl rfl rfl | refine k_max3 rfl rfl rfl | refine k_mul64 rfl rfl (by omega) | refine k_quo64 rfl rfl (by omega) | refine k_rem rfl rfl (by omega) | refine k_extract rfl rfl | apply k_makeFunc | refine k_conv_i64 rfl (Ty.und rfl) (Ty.knd rfl) (by omega) | refine k_conv_fit (qd := .u16) rfl (Ty.und rfl) (Ty.knd rfl) (fit16 (by omega)) | refine k_conv_fit (qd := .u64) rfl (Ty.und rfl) (Ty.knd rfl) (fit64 (by omega)) | refine k_conv_fit (qd := .u8) rfl (Ty.und rfl) (Ty.knd rfl) (fit8 (by omega)) | refine k_conv_u8 rfl (Ty.und rfl) (Ty.knd rfl) | refine k_conv_u16 rfl (Ty.und rfl) (Ty.knd rfl) | refine k_conv_u64 rfl (Ty.und rfl) (Ty.knd rfl) | refine k_pick_f (congrArg Value.bool (decide_eq_false (by omega))) rfl | refine k_pick_t (congrArg Value.bool (decide_eq_true (by omega))) rfl) rfl ?_))
    try refine WL_gyes rfl rfl rfl ?_
    refine WL_s (S_call (pput_spec herr (by decide) (hH.at 2 rfl)) rfl rfl ?_)
    rintro v w9 ⟨rfl, a9, c9, hU9⟩
    replace hH := hH.up 2 rfl hU9
    first | change Hp _ _ _ [] at hH | change Hp _ _ _ [_] at hH | change Hp _ _ _ [_, _] at hH | change Hp _ _ _ [_, _, _] at hH | change Hp _ _ _ [_, _, _, _] at hH | change Hp _ _ _ [_, _, _, _, _] at hH | change Hp _ _ _ [_, _, _, _, _, _] at hH | change Hp _ _ _ [_, _, _, _, _, _, _] at hH | change Hp _ _ _ [_, _, _, _, _, _, _, _] at hH | change Hp _ _ _ [_, _, _, _, _, _, _, _, _] at hH
    rw [List.nil_append] at hH
    have hRw := hH.at 2 rfl
    have hRd := hH.at 0 rfl
    have hSl := hH.old hS
    have hpl := pk_len hd.bits
    have htk : (ofB (pk hd.bits)).take 23 = hd.bits.map Bool.toNat := by rw [bl_take _ _ (by omega)]; have := bl_pk hd.bits; rw [hbl] at this; rw [this]
    have htk2 : (ofB l).take 23 = hd.bits.map Bool.toNat := by rw [bl_take _ _ (by omega), hpre 23 (by omega), List.take_left' hbl]
    have hbyt := bits_byt hd.bits
    have hml : (hd.bits.map Bool.toNat).length = 23 := by rw [List.length_map, hbl]
    repeat (first | refine WS_seq ?_ | refine WS_region ?_ | refine WL_nil ?_ | refine WS_block ?_ | refine WS_inBlock ?_ | refine WS_skip ?_ | refine WS_label ?_ | refine WS_scope ?_ | refine WS_inScope ?_ | refine WS_exit rfl ?_ | refine WS_true rfl ?_ | refine WS_false rfl ?_ | refine WS_yes rfl (by omega) ?_ | refine WS_no rfl (by omega) ?_ | refine WL_gyes rfl rfl rfl ?_ | refine WL_gno rfl rfl rfl rfl rfl ?_ | refine WL_gund rfl rfl rfl ?_ | refine WL_gyes rfl rfl (congrArg Value.bool (decide_eq_false (by omega))) ?_ | refine WL_gyes rfl rfl (congrArg Value.bool (decide_eq_true (by omega))) ?_ | refine WL_gno (b := false) rfl rfl (congrArg Value.bool (decide_eq_false (by omega))) rfl rfl ?_ | refine WL_gno (b := true) rfl rfl (congrArg Value.bool (decide_eq_true (by omega))) rfl rfl ?_ | (refine WL_r (by first | refine Run_pev rfl | refine k_add64 rfl rfl (by omega) | refine k_sub64 rfl rfl (by omega) | refine k_len rfl (Ty.isl rfl) | refine k_lens rfl (Ty.iss rfl) | refine k_not rfl | refine k_notb rfl | refine k_min rfl rfl | refine k_max rfl rfl | refine k_min3 rfl rfl rfl | refine k_max3 rfl rfl rfl | refine k_mul64 rfl rfl (by omega) | refine k_quo64 rfl rfl (by omega) | refine k_rem rfl rfl (by omega) | refine k_extract rfl rfl | apply k_makeFunc | refine k_conv_i64 rfl (Ty.und rfl) (Ty.knd rfl) (by omega) | refine k_conv_fit (qd := .u16) rfl (Ty.und rfl) (Ty.knd rfl) (fit16 (by omega)) | refine k_conv_fit (qd := .u64) rfl (Ty.und rfl) (Ty.knd rfl) (fit64 (by omega)) | refine k_conv_fit (qd := .u8) rfl (Ty.und rfl) (Ty.knd rfl) (fit8 (by omega)) | refine k_conv_u8 rfl (Ty.und rfl) (Ty.knd rfl) | refine k_conv_u16 rfl (Ty.und rfl) (Ty.knd rfl) | refine k_conv_u64 rfl (Ty.und rfl) (Ty.knd rfl) | refine k_pick_f (congrArg Value.bool (decide_eq_false (by omega))) rfl | refine k_pick_t (congrArg Value.bool (decide_eq_true (by omega))) rfl) rfl ?_))
    refine WS_specK [Is (.int .i64 0), Is (.bool true), Is (.bool true), Is (pt p), Is (.int .i64 r.length), Is (.int .i64 e), Is (.int .i64 ((e : Int) - 23)), Is (.bool true), Is (.bool true), Is (.bool true), Is (pt q), IsSl (pk hd.bits), IsSc (ofB (pk hd.bits)), IsSl (hd.bits.map Bool.toNat), Is (.string (strOf (hd.bits.map Bool.toNat))), Is (.slice a l.length cap), IsSc (ofB l), IsSl (hd.bits.map Bool.toNat), Is (.string (strOf (hd.bits.map Bool.toNat))), Is (.bool true), Is (.bool true), Is (.bool true)] Ty.mixed [(144114913197948928, [], true), (144114707039518720, [(0, 36)], true), (144080209862197248, [(1, 37)], true), (144113470088937472, [], true), (144070039379640320, [(3, 39)], true), (144108522286612480, [], true), (144101925216845824, [(5, 41)], true), (144088731077312512, [(4, 40), (6, 42)], true), (144062342798245888, [(2, 38), (7, 43)], true), (35115652612096, [(8, 44)], true), (143904013123846144, [], true), (143692906891313152, [(10, 46)], true), (138767094798876672, [(11, 47)], true), (142426269496115200, [(12, 48)], true), (106960422430572544, [(13, 49)], true), (137359719915323392, [], true), (130604320474267648, [(15, 51)], true), (117093521592156160, [(16, 52)], true), (90071923827933184, [(17, 53)], true), (36028728299487232, [(14, 50), (18, 54)], true), (72057525318451200, [(9, 45), (19, 55)], true), (144115119356379136, [(20, 56)], true)] 144115119356379152 [(21, 4)] (by kernel_rfl) (by kernel_rfl) (by kernel_rfl) (by kernel_rfl) (by kernel_rfl) ⟨Is.st, Is.st, Is.st, Is.st, Is.st, Is.st, Is.st, Is.st, Is.st, Is.st, Is.st, IsSl.st, (by exact IsSc.st), IsSl.st, Is.st, Is.st, (by exact IsSc.st), IsSl.st, Is.st, Is.st, Is.st, Is.st, trivial⟩ ⟨⟨GOk.none, ?_⟩, ⟨GOk.none, ?_⟩, ⟨GOk.none, ?_⟩, ⟨GOk.of (fun _ _ h => h), ?_⟩, ⟨GOk.of (fun _ _ h => h), ?_⟩, ⟨GOk.of (fun _ _ h => h), ?_⟩, ⟨GOk.of (fun _ _ h => h), ?_⟩, ⟨GOk.of (fun _ _ h => h), ?_⟩, ⟨GOk.none, ?_⟩, ⟨GOk.none, ?_⟩, ⟨GOk.of (fun _ _ h => h), ?_⟩, ⟨GOk.of (fun _ _ h => h), ?_⟩, ⟨GOk.of (fun _ _ h => h), ?_⟩, ⟨GOk.of (fun _ _ h => h), ?_⟩, ⟨GOk.of (fun _ _ h => h), ?_⟩, ⟨GOk.of (fun _ _ h => h), ?_⟩, ⟨GOk.of (fun _ _ h => h), ?_⟩, ⟨GOk.of (fun _ _ h => h), ?_⟩, ⟨GOk.of (fun _ _ h => h), ?_⟩, ⟨GOk.of (fun _ _ h => h), ?_⟩, ⟨GOk.none, ?_⟩, ⟨GOk.none, ?_⟩, trivial⟩ ?_
    · intro w'' hE''
      intro σ''
      exact sp_is (by first | refine Run_pev rfl) rfl
    · intro w'' hE''
      rintro _ rfl
      intro σ''
      exact sp_is (by first | refine Run_pev rfl) rfl
    · intro w'' hE''
      rintro _ rfl
      intro σ''
      exact sp_is (by first | refine Run_pev rfl) rfl
    · intro w'' hE''
      intro σ''
      exact sp_is (by first | refine Run_pev rfl) rfl
    · intro w'' hE''
      rintro _ rfl
      intro σ''
      refine S_call (rleft_spec ((Rd _ _ _ _).keep hRd hE'' (by simp))) rfl rfl ?_
      rintro v w3'' ⟨rfl, hE3⟩
      exact ⟨hE3, _, rfl, rfl⟩
    · intro w'' hE''
      intro σ''
      exact sp_is (by first | refine Run_pev rfl) rfl
    · intro w'' hE''
      rintro _ rfl
      intro σ''
      exact sp_is (by first | refine k_sub64 rfl rfl (by omega)) rfl
    · intro w'' hE''
      rintro _ rfl
      rintro _ rfl
      intro σ''
      exact sp_is (by first | refine (k_eql rfl rfl).is (bT (by omega)) | refine Run_pev rfl) rfl
    · intro w'' hE''
      rintro _ rfl
      rintro _ rfl
      intro σ''
      exact sp_is (by first | refine Run_pev rfl | refine k_pick_f (congrArg Value.bool (decide_eq_false (by omega))) rfl | refine k_pick_t (congrArg Value.bool (decide_eq_true (by omega))) rfl) rfl
    · intro w'' hE''
      rintro _ rfl
      intro σ''
      exact sp_is (by first | refine Run_pev rfl) rfl
    · intro w'' hE''
      intro σ''
      exact sp_is (by first | refine Run_pev rfl) rfl
    · intro w'' hE''
      rintro _ rfl
      intro σ''
      refine S_call (wbytes_spec ((Rw _ _ _ _).keep hRw hE'' (by simp)) (by omega)) rfl rfl ?_
      rintro v w3'' ⟨a', c', rfl, hN⟩
      exact ⟨hN.ext, _, rfl, a', c', rfl, (hN.holds : Own _ _ _ _ _ _ _).sl⟩
    · intro w'' hE''
      rintro _ ⟨a11, c11, rfl, hS11⟩
      intro σ''
      refine S_call (rof_spec hS11 (pk_byt _) rfl (by omega)) rfl rfl ?_
      rintro v w3'' ⟨a', c', rfl, hN⟩
      exact ⟨hN.ext, _, rfl, a', c', congrArg (fun n => Value.slice a' n c') (ofB_len _).symm, (hN.holds : Own _ _ _ _ _ _ _).sl, by rw [ofB_len]; exact (hN.holds : Own _ _ _ _ _ _ _).2.1⟩
    · intro w'' hE''
      rintro _ h12
      intro σ''
      obtain ⟨a4, c4, rfl, hS4, hc4⟩ := h12
      have hle : 23 ≤ (ofB (pk hd.bits)).length := by rw [ofB_len]; omega
      refine S_run (k_slchN (h := 23) rfl rfl (Ty.sle rfl) (by omega)) rfl ⟨.refl, _, rfl, _, _, congrArg (fun n => Value.slice _ n _) hml.symm, ?_⟩
      have h9 := take_cells (k := 23) hS4 hle hc4
      rw [← List.map_take, htk] at h9
      exact h9
    · intro w'' hE''
      rintro _ ⟨a13, c13, rfl, hS13⟩
      intro σ''
      exact sp_is (by first | refine k_str rfl hS13 (Ty.sle rfl) (Ty.knd rfl) (Ty.iss rfl) | refine k_conv_i64 rfl (Ty.und rfl) (Ty.knd rfl) (by omega) | refine k_conv_fit (qd := .u16) rfl (Ty.und rfl) (Ty.knd rfl) (fit16 (by omega)) | refine k_conv_fit (qd := .u64) rfl (Ty.und rfl) (Ty.knd rfl) (fit64 (by omega)) | refine k_conv_fit (qd := .u8) rfl (Ty.und rfl) (Ty.knd rfl) (fit8 (by omega)) | refine k_conv_u8 rfl (Ty.und rfl) (Ty.knd rfl) | refine k_conv_u16 rfl (Ty.und rfl) (Ty.knd rfl) | refine k_conv_u64 rfl (Ty.und rfl) (Ty.knd rfl)) rfl
    · intro w'' hE''
      intro σ''
      exact sp_is (by first | refine Run_pev rfl) rfl
    · intro w'' hE''
      rintro _ rfl
      intro σ''
      refine S_call (rof_spec (hSl.ext0 hE'') hl rfl (by omega)) rfl rfl ?_
      rintro v w3'' ⟨a', c', rfl, hN⟩
      exact ⟨hN.ext, _, rfl, a', c', congrArg (fun n => Value.slice a' n c') (ofB_len _).symm, (hN.holds : Own _ _ _ _ _ _ _).sl, by rw [ofB_len]; exact (hN.holds : Own _ _ _ _ _ _ _).2.1⟩
    · intro w'' hE''
      rintro _ h16
      intro σ''
      obtain ⟨a4, c4, rfl, hS4, hc4⟩ := h16
      have hle : 23 ≤ (ofB l).length := by rw [ofB_len]; omega
      refine S_run (k_slchN (h := 23) rfl rfl (Ty.sle rfl) (by omega)) rfl ⟨.refl, _, rfl, _, _, congrArg (fun n => Value.slice _ n _) hml.symm, ?_⟩
      have h9 := take_cells (k := 23) hS4 hle hc4
      rw [← List.map_take, htk2] at h9
      exact h9
    · intro w'' hE''
      rintro _ ⟨a17, c17, rfl, hS17⟩
      intro σ''
      exact sp_is (by first | refine k_str rfl hS17 (Ty.sle rfl) (Ty.knd rfl) (Ty.iss rfl) | refine k_conv_i64 rfl (Ty.und rfl) (Ty.knd rfl) (by omega) | refine k_conv_fit (qd := .u16) rfl (Ty.und rfl) (Ty.knd rfl) (fit16 (by omega)) | refine k_conv_fit (qd := .u64) rfl (Ty.und rfl) (Ty.knd rfl) (fit64 (by omega)) | refine k_conv_fit (qd := .u8) rfl (Ty.und rfl) (Ty.knd rfl) (fit8 (by omega)) | refine k_conv_u8 rfl (Ty.und rfl) (Ty.knd rfl) | refine k_conv_u16 rfl (Ty.und rfl) (Ty.knd rfl) | refine k_conv_u64 rfl (Ty.und rfl) (Ty.knd rfl)) rfl
    · intro w'' hE''
      rintro _ rfl
      rintro _ rfl
      intro σ''
      exact sp_is (by first | refine (k_eqls rfl rfl hbyt hbyt).is (bT rfl) | refine Run_pev rfl) rfl
    · intro w'' hE''
      rintro _ rfl
      rintro _ rfl
      intro σ''
      exact sp_is (by first | refine Run_pev rfl | refine k_pick_f (congrArg Value.bool (decide_eq_false (by omega))) rfl | refine k_pick_t (congrArg Value.bool (decide_eq_true (by omega))) rfl) rfl
    · intro w'' hE''
      rintro _ rfl
      intro σ''
      exact sp_is (by first | refine Run_pev rfl) rfl
    intro w'' hE''
    rintro _ rfl
    intro σ''
    repeat (first | refine WS_seq ?_ | refine WS_region ?_ | refine WL_nil ?_ | refine WS_block ?_ | refine WS_inBlock ?_ | refine WS_skip ?_ | refine WS_label ?_ | refine WS_scope ?_ | refine WS_inScope ?_ | refine WS_exit rfl ?_ | refine WS_true rfl ?_ | refine WS_false rfl ?_ | refine WS_yes rfl (by omega) ?_ | refine WS_no rfl (by omega) ?_ | refine WL_gyes rfl rfl rfl ?_ | refine WL_gno rfl rfl rfl rfl rfl ?_ | refine WL_gund rfl rfl rfl ?_ | refine WL_gyes rfl rfl (congrArg Value.bool (decide_eq_false (by omega))) ?_ | refine WL_gyes rfl rfl (congrArg Value.bool (decide_eq_true (by omega))) ?_ | refine WL_gno (b := false) rfl rfl (congrArg Value.bool (decide_eq_false (by omega))) rfl rfl ?_ | refine WL_gno (b := true) rfl rfl (congrArg Value.bool (decide_eq_true (by omega))) rfl rfl ?_ | (refine WL_r (by first | refine Run_pev rfl | refine k_add64 rfl rfl (by omega) | refine k_sub64 rfl rfl (by omega) | refine k_len rfl (Ty.isl rfl) | refine k_lens rfl (Ty.iss rfl) | refine k_not rfl | refine k_notb rfl | refine k_min rfl rfl | refine k_max rfl rfl | refine k_min3 rfl rfl rfl | refine k_max3 rfl rfl rfl | refine k_mul64 rfl rfl (by omega) | refine k_quo64 rfl rfl (by omega) | refine k_rem rfl rfl (by omega) | refine k_extract rfl rfl | apply k_makeFunc | refine k_conv_i64 rfl (Ty.und rfl) (Ty.knd rfl) (by omega) | refine k_conv_fit (qd := .u16) rfl (Ty.und rfl) (Ty.knd rfl) (fit16 (by omega)) | refine k_conv_fit (qd := .u64) rfl (Ty.und rfl) (Ty.knd rfl) (fit64 (by omega)) | refine k_conv_fit (qd := .u8) rfl (Ty.und rfl) (Ty.knd rfl) (fit8 (by omega)) | refine k_conv_u8 rfl (Ty.und rfl) (Ty.knd rfl) | refine k_conv_u16 rfl (Ty.und rfl) (Ty.knd rfl) | refine k_conv_u64 rfl (Ty.und rfl) (Ty.knd rfl) | refine k_pick_f (congrArg Value.bool (decide_eq_false (by omega))) rfl | refine k_pick_t (congrArg Value.bool (decide_eq_true (by omega))) rfl) rfl ?_))
    exact WS_ret1 Try.func3 rfl ⟨rfl, hH.ext.then0 hE''⟩
  · replace hH := hH.up 0 rfl hU
    first | change Hp _ _ _ [] at hH | change Hp _ _ _ [_] at hH | change Hp _ _ _ [_, _] at hH | change Hp _ _ _ [_, _, _] at hH | change Hp _ _ _ [_, _, _, _] at hH | change Hp _ _ _ [_, _, _, _, _] at hH | change Hp _ _ _ [_, _, _, _, _, _] at hH | change Hp _ _ _ [_, _, _, _, _, _, _] at hH | change Hp _ _ _ [_, _, _, _, _, _, _, _] at hH | change Hp _ _ _ [_, _, _, _, _, _, _, _, _] at hH
    repeat (first | refine WS_seq ?_ | refine WS_region ?_ | refine WL_nil ?_ | refine WS_block ?_ | refine WS_inBlock ?_ | refine WS_skip ?_ | refine WS_label ?_ | refine WS_scope ?_ | refine WS_inScope ?_ | refine WS_exit rfl ?_ | refine WS_true rfl ?_ | refine WS_false rfl ?_ | refine WS_yes rfl (by omega) ?_ | refine WS_no rfl (by omega) ?_ | refine WL_gyes rfl rfl rfl ?_ | refine WL_gno rfl rfl rfl rfl rfl ?_ | refine WL_gund rfl rfl rfl ?_ | refine WL_gyes rfl rfl (congrArg Value.bool (decide_eq_false (by omega))) ?_ | refine WL_gyes rfl rfl (congrArg Value.bool (decide_eq_true (by omega))) ?_ | refine WL_gno (b := false) rfl rfl (congrArg Value.bool (decide_eq_false (by omega))) rfl rfl ?_ | refine WL_gno (b := true) rfl rfl (congrArg Value.bool (decide_eq_true (by omega))) rfl rfl ?_ | (refine WL_r (by first | refine Run_pev rfl | refine k_add64 rfl rfl (by omega) | refine k_sub64 rfl rfl (by omega) | refine k_len rfl (Ty.isl rfl) | refine k_lens rfl (Ty.iss rfl) | refine k_not rfl | refine k_notb rfl | refine k_min rfl rfl | refine k_max rfl rfl | refine k_min3 rfl rfl rfl | refine k_max3 rfl rfl rfl | refine k_mul64 rfl rfl (by omega) | refine k_quo64 rfl rfl (by omega) | refine k_rem rfl rfl (by omega) | refine k_extract rfl rfl | apply k_makeFunc | refine k_conv_i64 rfl (Ty.und rfl) (Ty.knd rfl) (by omega) | refine k_conv_fit (qd := .u16) rfl (Ty.und rfl) (Ty.knd rfl) (fit16 (by omega)) | refine k_conv_fit (qd := .u64) rfl (Ty.und rfl) (Ty.knd rfl) (fit64 (by omega)) | refine k_conv_fit (qd := .u8) rfl (Ty.und rfl) (Ty.knd rfl) (fit8 (by omega)) | refine k_conv_u8 rfl (Ty.und rfl) (Ty.knd rfl) | refine k_conv_u16 rfl (Ty.und rfl) (Ty.knd rfl) | refine k_conv_u64 rfl (Ty.und rfl) (Ty.knd rfl) | refine k_pick_f (congrArg Value.bool (decide_eq_false (by omega))) rfl | refine k_pick_t (congrArg Value.bool (decide_eq_true (by omega))) rfl) rfl ?_))
    refine WL_s (H_alloc hH (Ty.zer rfl) rfl ?_)
    try clear hH
    intro w5 b7 hH
    first | change Hp _ _ _ [] at hH | change Hp _ _ _ [_] at hH | change Hp _ _ _ [_, _] at hH | change Hp _ _ _ [_, _, _] at hH | change Hp _ _ _ [_, _, _, _] at hH | change Hp _ _ _ [_, _, _, _, _] at hH | change Hp _ _ _ [_, _, _, _, _, _] at hH | change Hp _ _ _ [_, _, _, _, _, _, _] at hH | change Hp _ _ _ [_, _, _, _, _, _, _, _] at hH | change Hp _ _ _ [_, _, _, _, _, _, _, _, _] at hH
    repeat (first | refine WS_seq ?_ | refine WS_region ?_ | refine WL_nil ?_ | refine WS_block ?_ | refine WS_inBlock ?_ | refine WS_skip ?_ | refine WS_label ?_ | refine WS_scope ?_ | refine WS_inScope ?_ | refine WS_exit rfl ?_ | refine WS_true rfl ?_ | refine WS_false rfl ?_ | refine WS_yes rfl (by omega) ?_ | refine WS_no rfl (by omega) ?_ | refine WL_gyes rfl rfl rfl ?_ | refine WL_gno rfl rfl rfl rfl rfl ?_ | refine WL_gund rfl rfl rfl ?_ | refine WL_gyes rfl rfl (congrArg Value.bool (decide_eq_false (by omega))) ?_ | refine WL_gyes rfl rfl (congrArg Value.bool (decide_eq_true (by omega))) ?_ | refine WL_gno (b := false) rfl rfl (congrArg Value.bool (decide_eq_false (by omega))) rfl rfl ?_ | refine WL_gno (b := true) rfl rfl (congrArg Value.bool (decide_eq_true (by omega))) rfl rfl ?_ | (refine WL_r (by first | refine Run_pev rfl | refine k_add64 rfl rfl (by omega) | refine k_sub64 rfl rfl (by omega) | refine k_len rfl (Ty.isl rfl) | refine k_lens rfl (Ty.iss rfl) | refine k_not rfl | refine k_notb rfl | refine k_min rfl rfl | refine k_max rfl rfl | refine k_min3 rfl rfl rfl | refine k_max3 rfl rfl rfl | refine k_mul64 rfl rfl (by omega) | refine k_quo64 rfl rfl (by omega) | refine k_rem rfl rfl (by omega) | refine k_extract rfl rfl | apply k_makeFunc | refine k_conv_i64 rfl (Ty.und rfl) (Ty.knd rfl) (by omega) | refine k_conv_fit (qd := .u16) rfl (Ty.und rfl) (Ty.knd rfl) (fit16 (by omega)) | refine k_conv_fit (qd := .u64) rfl (Ty.und rfl) (Ty.knd rfl) (fit64 (by omega)) | refine k_conv_fit (qd := .u8) rfl (Ty.und rfl) (Ty.knd rfl) (fit8 (by omega)) | refine k_conv_u8 rfl (Ty.und rfl) (Ty.knd rfl) | refine k_conv_u16 rfl (Ty.und rfl) (Ty.knd rfl) | refine k_conv_u64 rfl (Ty.und rfl) (Ty.knd rfl) | refine k_pick_f (congrArg Value.bool (decide_eq_false (by omega))) rfl | refine k_pick_t (congrArg Value.bool (decide_eq_true (by omega))) rfl) rfl ?_))
    refine WL_s (H_storeA 1 hH rfl rfl rfl rfl rfl (PH.one PH.zero) (Ty.shp rfl) ?_)
    try clear hH
    intro w6 hH
    first | change Hp _ _ _ [] at hH | change Hp _ _ _ [_] at hH | change Hp _ _ _ [_, _] at hH | change Hp _ _ _ [_, _, _] at hH | change Hp _ _ _ [_, _, _, _] at hH | change Hp _ _ _ [_, _, _, _, _] at hH | change Hp _ _ _ [_, _, _, _, _, _] at hH | change Hp _ _ _ [_, _, _, _, _, _, _] at hH | change Hp _ _ _ [_, _, _, _, _, _, _, _] at hH | change Hp _ _ _ [_, _, _, _, _, _, _, _, _] at hH
    repeat (first | refine WS_seq ?_ | refine WS_region ?_ | refine WL_nil ?_ | refine WS_block ?_ | refine WS_inBlock ?_ | refine WS_skip ?_ | refine WS_label ?_ | refine WS_scope ?_ | refine WS_inScope ?_ | refine WS_exit rfl ?_ | refine WS_true rfl ?_ | refine WS_false rfl ?_ | refine WS_yes rfl (by omega) ?_ | refine WS_no rfl (by omega) ?_ | refine WL_gyes rfl rfl rfl ?_ | refine WL_gno rfl rfl rfl rfl rfl ?_ | refine WL_gund rfl rfl rfl ?_ | refine WL_gyes rfl rfl (congrArg Value.bool (decide_eq_false (by omega))) ?_ | refine WL_gyes rfl rfl (congrArg Value.bool (decide_eq_true (by omega))) ?_ | refine WL_gno (b := false) rfl rfl (congrArg Value.bool (decide_eq_false (by omega))) rfl rfl ?_ | refine WL_gno (b := true) rfl rfl (congrArg Value.bool (decide_eq_true (by omega))) rfl rfl ?_ | (refine WL_r (by first | refine Run_pev rfl | refine k_add64 rfl rfl (by omega) | refine k_sub64 rfl rfl (by omega) | refine k_len rfl (Ty.isl rfl) | refine k_lens rfl (Ty.iss rfl) | refine k_not rfl | refine k_notb rfl | refine k_min rfl rfl | refine k_max rfl rfl | refine k_min3 rfl rfl rfl | refine k_max3 rfl rfl rfl | refine k_mul64 rfl rfl (by omega) | refine k_quo64 rfl rfl (by omega) | refine k_rem rfl rfl (by omega) | refine k_extract rfl rfl | apply k_makeFunc | refine k_conv_i64 rfl (Ty.und rfl) (Ty.knd rfl) (by omega) | refine k_conv_fit (qd := .u16) rfl (Ty.und rfl) (Ty.knd rfl) (fit16 (by omega)) | refine k_conv_fit (qd := .u64) rfl (Ty.und rfl) (Ty.knd rfl) (fit64 (by omega)) | refine k_conv_fit (qd := .u8) rfl (Ty.und rfl) (Ty.knd rfl) (fit8 (by omega)) | refine k_conv_u8 rfl (Ty.und rfl) (Ty.knd rfl) | refine k_conv_u16 rfl (Ty.und rfl) (Ty.knd rfl) | refine k_conv_u64 rfl (Ty.und rfl) (Ty.knd rfl) | refine k_pick_f (congrArg Value.bool (decide_eq_false (by omega))) rfl | refine k_pick_t (congrArg Value.bool (decide_eq_true (by omega))) rfl) rfl ?_))
    try refine WL_gyes rfl rfl rfl ?_
    refine WL_s (S_call (rended_spec (hH.at 0 rfl)) rfl rfl ?_)
    rintro v w7 ⟨rfl, rfl⟩
    rw [hs']
    have hB : Blk w7 b7 27 PH.zero.cells.toArray := hH.b 1 rfl
    have hfz : FitsK [some .i64, none, none, some .i64] PH.zero.cells := PH.fitsK ⟨⟨by decide, by decide⟩, by decide, by decide⟩
    repeat (first | refine WS_seq ?_ | refine WS_region ?_ | refine WL_nil ?_ | refine WS_block ?_ | refine WS_inBlock ?_ | refine WS_skip ?_ | refine WS_label ?_ | refine WS_scope ?_ | refine WS_inScope ?_ | refine WS_exit rfl ?_ | refine WS_true rfl ?_ | refine WS_false rfl ?_ | refine WS_yes rfl (by omega) ?_ | refine WS_no rfl (by omega) ?_ | refine WL_gyes rfl rfl rfl ?_ | refine WL_gno rfl rfl rfl rfl rfl ?_ | refine WL_gund rfl rfl rfl ?_ | refine WL_gyes rfl rfl (congrArg Value.bool (decide_eq_false (by omega))) ?_ | refine WL_gyes rfl rfl (congrArg Value.bool (decide_eq_true (by omega))) ?_ | refine WL_gno (b := false) rfl rfl (congrArg Value.bool (decide_eq_false (by omega))) rfl rfl ?_ | refine WL_gno (b := true) rfl rfl (congrArg Value.bool (decide_eq_true (by omega))) rfl rfl ?_ | (refine WL_r (by first | refine k_loadA rfl hB rfl (Ty.shp rfl) | refine k_buildS (cs := PH.zero.cells) (Ty.zer rfl) (Ty.plc rfl) rfl | refine (k_eqlA (p := True) (xs := PH.zero.cells) (ys := PH.zero.cells) rfl rfl (Ty.kds rfl) hfz hfz ⟨fun _ => trivial, fun _ => rfl⟩).is (bT trivial) | refine Run_pev rfl | refine k_add64 rfl rfl (by omega) | refine k_sub64 rfl rfl (by omega) | refine k_len rfl (Ty.isl rfl) | refine k_lens rfl (Ty.iss rfl) | refine k_not rfl | refine k_notb rfl | refine k_min rfl rfl | refine k_max rfl rfl | refine k_min3 rfl rfl rfl | refine k_max3 rfl rfl rfl | refine k_mul64 rfl rfl (by omega) | refine k_quo64 rfl rfl (by omega) | refine k_rem rfl rfl (by omega) | refine k_extract rfl rfl | apply k_makeFunc | refine k_conv_i64 rfl (Ty.und rfl) (Ty.knd rfl) (by omega) | refine k_conv_fit (qd := .u16) rfl (Ty.und rfl) (Ty.knd rfl) (fit16 (by omega)) | refine k_conv_fit (qd := .u64) rfl (Ty.und rfl) (Ty.knd rfl) (fit64 (by omega)) | refine k_conv_fit (qd := .u8) rfl (Ty.und rfl) (Ty.knd rfl) (fit8 (by omega)) | refine k_conv_u8 rfl (Ty.und rfl) (Ty.knd rfl) | refine k_conv_u16 rfl (Ty.und rfl) (Ty.knd rfl) | refine k_conv_u64 rfl (Ty.und rfl) (Ty.knd rfl) | refine k_pick_f (congrArg Value.bool (decide_eq_false (by omega))) rfl | refine k_pick_t (congrArg Value.bool (decide_eq_true (by omega))) rfl) rfl ?_))
    exact WS_ret1 Try.func3 rfl ⟨rfl, hH.ext⟩
theorem own_pichAny : ownKnob Try.prog.godebug = none := by kernel_rfl
theorem laid_pichAny : laidOutB Try.prog = true := by kernel_rfl
set_option maxRecDepth 100000 in
theorem pichAny_lifted (os : Os) (started : os.Started) (H : Type) (enc : TypeId × Value → H) :
    ReturnsInHanded {} Try.checked os 3 .any (Rows.pichAnySpec.pre6 enc Try.prog Try.f3 Rows.pichAnyRow.domain false) (Rows.pichAnySpec.post enc Try.prog Try.f3 false true false false) := by
  refine returnsInHanded_of_change (C := Try.checked) own_pichAny started (by kernel_rfl) Try.func3
    (ChangeSpec.witness6 (enc := enc) (C := Try.checked) false ⟨#[], #[.slice none 0 0, .int .u8 0], []⟩ 8 (by kernel_rfl) (by kernel_rfl) (by kernel_rfl) (by kernel_rfl)) ?_
  intro W base args ds gs before hval0 hW _ _
  have hval : ∀ (j : Nat) t v, Try.f3.params[j]? = some t → args[j]? = some v → Value.okWide Try.prog W .any base t v := hval0
  have hW' := hW
  obtain ⟨p, q, hA0, hV, rfl, hfz, hnd⟩ := hW
  have hA : DataW.TrodAll enc Try.prog W 0 (fun _ => true) true Try.f3.params.toList args.toList ds p := hA0
  rw [Try.params3] at hA hval
  obtain ⟨v0, r0, d0, e0, p0, q0, ha0, rfl, rfl, h0, hA⟩ := trodAll_cons hA
  obtain ⟨v1, r1, d1, e1, p1, q1, ha1, rfl, rfl, h1, hA⟩ := trodAll_cons hA
  obtain ⟨hnil, rfl, rfl⟩ := trodAll_nil hA
  obtain rfl : args = #[v0, v1] := by cases args; simp_all
  have hv0 := hval 0 _ v0 rfl rfl
  have hv1 := hval 1 _ v1 rfl rfl
  clear hA0 hval0 ha0 ha1 hnil
  obtain ⟨a, n, cap, l, rfl, hn, hS, hl, hlen⟩ := rd_bytes (Ty.sle rfl) (Ty.knd rfl) hv0 h0
  obtain ⟨y, rfl, hy⟩ := rd_int (Ty.knd rfl) hv1 h1
  obtain ⟨m, rfl, hm⟩ := fits_u8 hy
  refine ((pany_spec hS hl hn hlen hm).enter Try.func3 rfl rfl).mono ?_
  rintro e W' ⟨v, rfl, rfl, hE⟩
  exact ⟨_, rfl, law_post laid_pichAny (by kernel_rfl) hW' rfl rfl (by kernel_rfl) ⟨rfl, rfl, rfl⟩ hE⟩
theorem pichAny_holds : Rows.PichAnySaid :=
  OpenClaim.holds_of_wide 3 Try.f3 rfl rfl rfl rfl rfl rfl rfl ⟨rfl, rfl, rfl, rfl, rfl⟩ rfl rfl rfl rfl rfl (by kernel_rfl) Try.func3 (by kernel_rfl)
    (of_decide_eq_true (by kernel_rfl)) (by unfold Func.isWrapper; first | (rw [if_pos (by decide +kernel)]; kernel_rfl) | (rw [if_neg (by decide +kernel)]; exact ⟨rfl, rfl⟩))
    (fun os started H enc _ => pichAny_lifted os started H enc)
#print axioms pichAny_holds
end Go.Proofs.Ytepddofhlohipaa
