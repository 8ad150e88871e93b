/- Layer 17's own helpers: packets that may be, of any; are their parts short? -/
import Derived.Test.YtepddofhlohipaaSh
import Derived.Test.YtepddofhlohipaaLaw17
import Derived.Test.YtepddofhlohipaaLaw16
import Derived.Test.YtepddofhlohipaaK21
namespace Go.Proofs.Ytepddofhlohipaa
open Go Go.K Go.P Go.RowKit Go.Proofs
theorem light_spec {h : PH} {f c : Int} {a1 a2 : Option Addr} {n1 c1 n2 c2 : Nat} {w : World} :
    Does Try.prog 47 #[.agg (pkc h f c (.slice a1 n1 c1) (.slice a2 n2 c2)).toArray] w fun v w' => v = .bool (decide (n1 ≤ 300 ∧ n2 ≤ 300)) ∧ Ext [] w w' := by
  refine Does_of (args := [_]) Try.func47 rfl rfl Try.ntmps47 rfl ?_
  have hH := Hp.start w
  repeat (first | refine WS_seq ?_ | refine WS_region ?_ | refine WL_nil ?_ | refine WS_block ?_ | refine WS_inBlock ?_ | refine WS_skip ?_ | refine WS_label ?_ | refine WS_scope ?_ | refine WS_inScope ?_ | refine WS_exit rfl ?_ | refine WS_true rfl ?_ | refine WS_false rfl ?_ | refine WS_yes rfl (by omega) ?_ | refine WS_no rfl (by omega) ?_ | refine WL_gyes rfl rfl rfl ?_ | refine WL_gno rfl rfl rfl rfl rfl ?_ | refine WL_gund rfl rfl rfl ?_ | refine WL_gyes rfl rfl (dF (by omega)) ?_ | refine WL_gyes rfl rfl (dT (by omega)) ?_ | refine WL_gno (b := false) rfl rfl (dF (by omega)) rfl rfl ?_ | refine WL_gno (b := true) rfl rfl (dT (by omega)) rfl rfl ?_ | (refine WL_r (by first | refine Run_pev rfl | refine k_add64 rfl rfl (by omega) | refine k_sub64 rfl rfl (by omega) | refine k_len rfl (Ty.isl rfl) | refine k_lens rfl (Ty.iss rfl) | refine k_not rfl | refine k_notb rfl | refine k_min rfl rfl | refine k_max rfl rfl | refine k_min3 rfl rfl rfl | refine k_max3 rfl rfl rfl | refine k_mul64 rfl rfl (by omega) | refine k_quo64 rfl rfl (by omega) | refine k_rem rfl rfl (by omega) | refine k_extract rfl rfl | apply k_makeFunc | refine k_convI rfl rfl rfl (by omega) | refine k_conv16 rfl rfl rfl (by omega) | refine k_conv64 rfl rfl rfl (by omega) | refine k_conv8 rfl rfl rfl (by omega) | refine k_convB rfl rfl rfl | refine k_convH rfl rfl rfl | refine k_convQ rfl rfl rfl | refine k_pick_f (dF (by omega)) rfl | refine k_pick_t (dT (by omega)) rfl) rfl ?_))
  refine WL_s (H_box (cs := (pkc h f c (.slice a1 n1 c1) (.slice a2 n2 c2)).toArray) hH rfl rfl rfl ?_)
  try clear hH
  intro w1 b hH
  have hB : pkB w1 b h f c a1 n1 c1 a2 n2 c2 := hH.b 0 rfl
  by_cases k1 : n1 ≤ 300
  · by_cases k2 : n2 ≤ 300
    · rw [decide_eq_true ⟨k1, k2⟩]
      repeat (first | refine WS_seq ?_ | refine WS_region ?_ | refine WL_nil ?_ | refine WS_block ?_ | refine WS_inBlock ?_ | refine WS_skip ?_ | refine WS_label ?_ | refine WS_scope ?_ | refine WS_inScope ?_ | refine WS_exit rfl ?_ | refine WS_true rfl ?_ | refine WS_false rfl ?_ | refine WS_yes rfl (by omega) ?_ | refine WS_no rfl (by omega) ?_ | refine WL_gyes rfl rfl rfl ?_ | refine WL_gno rfl rfl rfl rfl rfl ?_ | refine WL_gund rfl rfl rfl ?_ | refine WL_gyes rfl rfl (dF (by omega)) ?_ | refine WL_gyes rfl rfl (dT (by omega)) ?_ | refine WL_gno (b := false) rfl rfl (dF (by omega)) rfl rfl ?_ | refine WL_gno (b := true) rfl rfl (dT (by omega)) rfl rfl ?_ | (refine WL_r (by first | refine k_nilCheck rfl | refine k_fa rfl (Ty.fld rfl rfl) | refine k_loadb rfl hB rfl (Ty.shp rfl) | refine (k_leq rfl rfl).is (bT (by omega)) | refine Run_pev rfl | refine k_add64 rfl rfl (by omega) | refine k_sub64 rfl rfl (by omega) | refine k_len rfl (Ty.isl rfl) | refine k_lens rfl (Ty.iss rfl) | refine k_not rfl | refine k_notb rfl | refine k_min rfl rfl | refine k_max rfl rfl | refine k_min3 rfl rfl rfl | refine k_max3 rfl rfl rfl | refine k_mul64 rfl rfl (by omega) | refine k_quo64 rfl rfl (by omega) | refine k_rem rfl rfl (by omega) | refine k_extract rfl rfl | apply k_makeFunc | refine k_convI rfl rfl rfl (by omega) | refine k_conv16 rfl rfl rfl (by omega) | refine k_conv64 rfl rfl rfl (by omega) | refine k_conv8 rfl rfl rfl (by omega) | refine k_convB rfl rfl rfl | refine k_convH rfl rfl rfl | refine k_convQ rfl rfl rfl | refine k_pick_f (dF (by omega)) rfl | refine k_pick_t (dT (by omega)) rfl) rfl ?_))
      exact WS_ret1 Try.func47 rfl ⟨rfl, hH.ext⟩
    · rw [decide_eq_false (fun h => k2 h.2)]
      repeat (first | refine WS_seq ?_ | refine WS_region ?_ | refine WL_nil ?_ | refine WS_block ?_ | refine WS_inBlock ?_ | refine WS_skip ?_ | refine WS_label ?_ | refine WS_scope ?_ | refine WS_inScope ?_ | refine WS_exit rfl ?_ | refine WS_true rfl ?_ | refine WS_false rfl ?_ | refine WS_yes rfl (by omega) ?_ | refine WS_no rfl (by omega) ?_ | refine WL_gyes rfl rfl rfl ?_ | refine WL_gno rfl rfl rfl rfl rfl ?_ | refine WL_gund rfl rfl rfl ?_ | refine WL_gyes rfl rfl (dF (by omega)) ?_ | refine WL_gyes rfl rfl (dT (by omega)) ?_ | refine WL_gno (b := false) rfl rfl (dF (by omega)) rfl rfl ?_ | refine WL_gno (b := true) rfl rfl (dT (by omega)) rfl rfl ?_ | (refine WL_r (by first | refine k_nilCheck rfl | refine k_fa rfl (Ty.fld rfl rfl) | refine k_loadb rfl hB rfl (Ty.shp rfl) | refine (k_leq rfl rfl).is (bT (by omega)) | refine (k_leq rfl rfl).is (bF (by omega)) | refine Run_pev rfl | refine k_add64 rfl rfl (by omega) | refine k_sub64 rfl rfl (by omega) | refine k_len rfl (Ty.isl rfl) | refine k_lens rfl (Ty.iss rfl) | refine k_not rfl | refine k_notb rfl | refine k_min rfl rfl | refine k_max rfl rfl | refine k_min3 rfl rfl rfl | refine k_max3 rfl rfl rfl | refine k_mul64 rfl rfl (by omega) | refine k_quo64 rfl rfl (by omega) | refine k_rem rfl rfl (by omega) | refine k_extract rfl rfl | apply k_makeFunc | refine k_convI rfl rfl rfl (by omega) | refine k_conv16 rfl rfl rfl (by omega) | refine k_conv64 rfl rfl rfl (by omega) | refine k_conv8 rfl rfl rfl (by omega) | refine k_convB rfl rfl rfl | refine k_convH rfl rfl rfl | refine k_convQ rfl rfl rfl | refine k_pick_f (dF (by omega)) rfl | refine k_pick_t (dT (by omega)) rfl) rfl ?_))
      exact WS_ret1 Try.func47 rfl ⟨rfl, hH.ext⟩
  · rw [decide_eq_false (fun h => k1 h.1)]
    repeat (first | refine WS_seq ?_ | refine WS_region ?_ | refine WL_nil ?_ | refine WS_block ?_ | refine WS_inBlock ?_ | refine WS_skip ?_ | refine WS_label ?_ | refine WS_scope ?_ | refine WS_inScope ?_ | refine WS_exit rfl ?_ | refine WS_true rfl ?_ | refine WS_false rfl ?_ | refine WS_yes rfl (by omega) ?_ | refine WS_no rfl (by omega) ?_ | refine WL_gyes rfl rfl rfl ?_ | refine WL_gno rfl rfl rfl rfl rfl ?_ | refine WL_gund rfl rfl rfl ?_ | refine WL_gyes rfl rfl (dF (by omega)) ?_ | refine WL_gyes rfl rfl (dT (by omega)) ?_ | refine WL_gno (b := false) rfl rfl (dF (by omega)) rfl rfl ?_ | refine WL_gno (b := true) rfl rfl (dT (by omega)) rfl rfl ?_ | (refine WL_r (by first | refine k_nilCheck rfl | refine k_fa rfl (Ty.fld rfl rfl) | refine k_loadb rfl hB rfl (Ty.shp rfl) | refine (k_leq rfl rfl).is (bF (by omega)) | refine Run_pev rfl | refine k_add64 rfl rfl (by omega) | refine k_sub64 rfl rfl (by omega) | refine k_len rfl (Ty.isl rfl) | refine k_lens rfl (Ty.iss rfl) | refine k_not rfl | refine k_notb rfl | refine k_min rfl rfl | refine k_max rfl rfl | refine k_min3 rfl rfl rfl | refine k_max3 rfl rfl rfl | refine k_mul64 rfl rfl (by omega) | refine k_quo64 rfl rfl (by omega) | refine k_rem rfl rfl (by omega) | refine k_extract rfl rfl | apply k_makeFunc | refine k_convI rfl rfl rfl (by omega) | refine k_conv16 rfl rfl rfl (by omega) | refine k_conv64 rfl rfl rfl (by omega) | refine k_conv8 rfl rfl rfl (by omega) | refine k_convB rfl rfl rfl | refine k_convH rfl rfl rfl | refine k_convQ rfl rfl rfl | refine k_pick_f (dF (by omega)) rfl | refine k_pick_t (dT (by omega)) rfl) rfl ?_))
    exact WS_ret1 Try.func47 rfl ⟨rfl, hH.ext⟩
/-- The first one, how many, of a packet that may be. -/
def fitF (f : Int) (al : Nat) : Nat := (f % 128).toNat % al
def fitC (f c : Int) (al : Nat) : Nat := 1 + (c % 128).toNat % (al - fitF f al)
theorem fit_ok {f c : Int} {al : Nat} (h : 1 ≤ al) : fitF f al < al ∧ 1 ≤ fitC f c al ∧ fitC f c al ≤ al - fitF f al := by
  have h1 := Nat.mod_lt (f % 128).toNat (show 0 < al by omega)
  have h2 : fitF f al < al := h1
  have h3 := Nat.mod_lt (c % 128).toNat (show 0 < al - fitF f al by omega)
  unfold fitC; omega
theorem fit_perr {h : PH} {f c : Int} {al la lb : Nat} (h1 : 1 ≤ al) (h64 : al ≤ 64) (ha : 1 ≤ la ∧ la ≤ 30000) (hb : 1 ≤ lb ∧ lb ≤ 30000) : perr h.fit (fitF f al : Nat) (fitC f c al : Nat) la lb al = 0 := by
  have h2 := fit_ok (f := f) (c := c) h1
  unfold perr
  rw [if_neg (by have := PH.fit_ok h; omega), if_neg (by omega), if_neg (by omega)]
/-- A packet that may be. -/
def IsPk (W0 : Nat) (h : PH) (f c : Nat) (A Bb : List Nat) : Value → World → Prop := fun v w => ∃ a1 c1 a2 c2, v = .agg (pkc h f c (.slice a1 A.length c1) (.slice a2 Bb.length c2)).toArray ∧ SlA w a1 (A.map B) ∧ SlA w a2 (Bb.map B) ∧ (∀ x ∈ blk a1, W0 ≤ x) ∧ ∀ x ∈ blk a2, W0 ≤ x
theorem IsPk.st {W0 : Nat} {h : PH} {f c : Nat} {A Bb : List Nat} : Stable (IsPk W0 h f c A Bb) := fun _ _ _ ⟨a1, c1, a2, c2, h, h1, h2, f1, f2⟩ hE => ⟨a1, c1, a2, c2, h, h1.ext0 hE, h2.ext0 hE, f1, f2⟩
set_option maxRecDepth 20000 in
set_option maxHeartbeats 4000000 in
theorem pkfit_spec {h : PH} {f c : Int} {a1 a2 : Option Addr} {c1 c2 al : Nat} {A Bb : List Nat} {w : World} (h1 : 1 ≤ al) (h64 : al ≤ 64) (hSA : SlA w a1 (A.map B)) (hSB : SlA w a2 (Bb.map B)) (hla : A.length ≤ 1000000) (hlb : Bb.length ≤ 1000000) :
    Does Try.prog 48 #[.agg (pkc h f c (.slice a1 A.length c1) (.slice a2 Bb.length c2)).toArray, .int .i64 (al : Nat)] w fun v w' => Ext [] w w' ∧ IsPk w.heap.size h.fit (fitF f al) (fitC f c al) (1 :: A) (2 :: Bb) v w' := by
  refine Does_of (args := [_, _]) Try.func48 rfl rfl Try.ntmps48 rfl ?_
  have hH := Hp.start w
  have hfo := fit_ok (f := f) (c := c) h1
  repeat (first | refine WS_seq ?_ | refine WS_region ?_ | refine WL_nil ?_ | refine WS_block ?_ | refine WS_inBlock ?_ | refine WS_skip ?_ | refine WS_label ?_ | refine WS_scope ?_ | refine WS_inScope ?_ | refine WS_exit rfl ?_ | refine WS_true rfl ?_ | refine WS_false rfl ?_ | refine WS_yes rfl (by omega) ?_ | refine WS_no rfl (by omega) ?_ | refine WL_gyes rfl rfl rfl ?_ | refine WL_gno rfl rfl rfl rfl rfl ?_ | refine WL_gund rfl rfl rfl ?_ | refine WL_gyes rfl rfl (dF (by omega)) ?_ | refine WL_gyes rfl rfl (dT (by omega)) ?_ | refine WL_gno (b := false) rfl rfl (dF (by omega)) rfl rfl ?_ | refine WL_gno (b := true) rfl rfl (dT (by omega)) rfl rfl ?_ | (refine WL_r (by first | refine Run_pev rfl | refine k_add64 rfl rfl (by omega) | refine k_sub64 rfl rfl (by omega) | refine k_len rfl (Ty.isl rfl) | refine k_lens rfl (Ty.iss rfl) | refine k_not rfl | refine k_notb rfl | refine k_min rfl rfl | refine k_max rfl rfl | refine k_min3 rfl rfl rfl | refine k_max3 rfl rfl rfl | refine k_mul64 rfl rfl (by omega) | refine k_quo64 rfl rfl (by omega) | refine k_rem rfl rfl (by omega) | refine k_extract rfl rfl | apply k_makeFunc | refine k_convI rfl rfl rfl (by omega) | refine k_conv16 rfl rfl rfl (by omega) | refine k_conv64 rfl rfl rfl (by omega) | refine k_conv8 rfl rfl rfl (by omega) | refine k_convB rfl rfl rfl | refine k_convH rfl rfl rfl | refine k_convQ rfl rfl rfl | refine k_pick_f (dF (by omega)) rfl | refine k_pick_t (dT (by omega)) rfl) rfl ?_))
  refine WL_s (H_box (cs := (pkc h f c (.slice a1 A.length c1) (.slice a2 Bb.length c2)).toArray) hH rfl rfl rfl ?_)
  try clear hH
  intro w1 b hH
  first | change Hp _ _ _ [] at hH | change Hp _ _ _ [_] at hH | change Hp _ _ _ [_, _] at hH | change Hp _ _ _ [_, _, _] at hH | change Hp _ _ _ [_, _, _, _] at hH | change Hp _ _ _ [_, _, _, _, _] at hH | change Hp _ _ _ [_, _, _, _, _, _] at hH | change Hp _ _ _ [_, _, _, _, _, _, _] at hH | change Hp _ _ _ [_, _, _, _, _, _, _, _] at hH | change Hp _ _ _ [_, _, _, _, _, _, _, _, _] at hH
  repeat (first | refine WS_seq ?_ | refine WS_region ?_ | refine WL_nil ?_ | refine WS_block ?_ | refine WS_inBlock ?_ | refine WS_skip ?_ | refine WS_label ?_ | refine WS_scope ?_ | refine WS_inScope ?_ | refine WS_exit rfl ?_ | refine WS_true rfl ?_ | refine WS_false rfl ?_ | refine WS_yes rfl (by omega) ?_ | refine WS_no rfl (by omega) ?_ | refine WL_gyes rfl rfl rfl ?_ | refine WL_gno rfl rfl rfl rfl rfl ?_ | refine WL_gund rfl rfl rfl ?_ | refine WL_gyes rfl rfl (dF (by omega)) ?_ | refine WL_gyes rfl rfl (dT (by omega)) ?_ | refine WL_gno (b := false) rfl rfl (dF (by omega)) rfl rfl ?_ | refine WL_gno (b := true) rfl rfl (dT (by omega)) rfl rfl ?_ | (refine WL_r (by first | refine Run_pev rfl | refine k_add64 rfl rfl (by omega) | refine k_sub64 rfl rfl (by omega) | refine k_len rfl (Ty.isl rfl) | refine k_lens rfl (Ty.iss rfl) | refine k_not rfl | refine k_notb rfl | refine k_min rfl rfl | refine k_max rfl rfl | refine k_min3 rfl rfl rfl | refine k_max3 rfl rfl rfl | refine k_mul64 rfl rfl (by omega) | refine k_quo64 rfl rfl (by omega) | refine k_rem rfl rfl (by omega) | refine k_extract rfl rfl | apply k_makeFunc | refine k_convI rfl rfl rfl (by omega) | refine k_conv16 rfl rfl rfl (by omega) | refine k_conv64 rfl rfl rfl (by omega) | refine k_conv8 rfl rfl rfl (by omega) | refine k_convB rfl rfl rfl | refine k_convH rfl rfl rfl | refine k_convQ rfl rfl rfl | refine k_pick_f (dF (by omega)) rfl | refine k_pick_t (dT (by omega)) rfl) rfl ?_))
  refine WL_s (H_alloc hH (Ty.zer rfl) rfl ?_)
  try clear hH
  intro w2 b4 hH
  first | change Hp _ _ _ [] at hH | change Hp _ _ _ [_] at hH | change Hp _ _ _ [_, _] at hH | change Hp _ _ _ [_, _, _] at hH | change Hp _ _ _ [_, _, _, _] at hH | change Hp _ _ _ [_, _, _, _, _] at hH | change Hp _ _ _ [_, _, _, _, _, _] at hH | change Hp _ _ _ [_, _, _, _, _, _, _] at hH | change Hp _ _ _ [_, _, _, _, _, _, _, _] at hH | change Hp _ _ _ [_, _, _, _, _, _, _, _, _] at hH
  have hB : pkB w2 b h f c a1 A.length c1 a2 Bb.length c2 := hH.b 0 rfl
  have hS : SlA w2 (some ⟨b, 0, none⟩) (pkc h f c (.slice a1 A.length c1) (.slice a2 Bb.length c2)) := hB.sl0
  have e1 : f % ((2 ^ 7 : Nat) : Int) = f % 128 := rfl
  have e2 : c % ((2 ^ 7 : Nat) : Int) = c % 128 := rfl
  have e3 : (f % 128) % (al : Int) = (fitF f al : Nat) := by
    unfold fitF
    rw [Int.natCast_emod, Int.toNat_of_nonneg (by omega)]
  have e4 : (al : Int) - (fitF f al : Nat) = ((al - fitF f al : Nat) : Int) := by omega
  have e5 : (c % 128) % ((al - fitF f al : Nat) : Int) = (((c % 128).toNat % (al - fitF f al) : Nat) : Int) := by
    rw [Int.natCast_emod, Int.toNat_of_nonneg (by omega)]
  have e6 : 1 + (((c % 128).toNat % (al - fitF f al) : Nat) : Int) = (fitC f c al : Nat) := by unfold fitC; omega
  have hm := Nat.mod_lt (c % 128).toNat (show 0 < al - fitF f al by omega)
  repeat (first | refine WS_seq ?_ | refine WS_region ?_ | refine WL_nil ?_ | refine WS_block ?_ | refine WS_inBlock ?_ | refine WS_skip ?_ | refine WS_label ?_ | refine WS_scope ?_ | refine WS_inScope ?_ | refine WS_exit rfl ?_ | refine WS_true rfl ?_ | refine WS_false rfl ?_ | refine WS_yes rfl (by omega) ?_ | refine WS_no rfl (by omega) ?_ | refine WL_gyes rfl rfl rfl ?_ | refine WL_gno rfl rfl rfl rfl rfl ?_ | refine WL_gund rfl rfl rfl ?_ | refine WL_gyes rfl rfl (dF (by omega)) ?_ | refine WL_gyes rfl rfl (dT (by omega)) ?_ | refine WL_gno (b := false) rfl rfl (dF (by omega)) rfl rfl ?_ | refine WL_gno (b := true) rfl rfl (dT (by omega)) rfl rfl ?_ | (refine WL_r (by first | refine k_nilCheck rfl | refine k_fa rfl (Ty.fld rfl rfl) | refine k_loadb rfl hB rfl (Ty.shp rfl) | refine (k_andm (i := f) (k := 7) rfl rfl (by decide)).is (congrArg (Value.int .i64) e1) | refine (k_rem (m := f % 128) (n := (al : Int)) rfl rfl ⟨by omega, by omega⟩).is (congrArg (Value.int .i64) e3) | refine Run_pev rfl | refine k_add64 rfl rfl (by omega) | refine k_sub64 rfl rfl (by omega) | refine k_len rfl (Ty.isl rfl) | refine k_lens rfl (Ty.iss rfl) | refine k_not rfl | refine k_notb rfl | refine k_min rfl rfl | refine k_max rfl rfl | refine k_min3 rfl rfl rfl | refine k_max3 rfl rfl rfl | refine k_mul64 rfl rfl (by omega) | refine k_quo64 rfl rfl (by omega) | refine k_rem rfl rfl (by omega) | refine k_extract rfl rfl | apply k_makeFunc | refine k_convI rfl rfl rfl (by omega) | refine k_conv16 rfl rfl rfl (by omega) | refine k_conv64 rfl rfl rfl (by omega) | refine k_conv8 rfl rfl rfl (by omega) | refine k_convB rfl rfl rfl | refine k_convH rfl rfl rfl | refine k_convQ rfl rfl rfl | refine k_pick_f (dF (by omega)) rfl | refine k_pick_t (dT (by omega)) rfl) rfl ?_))
  have hSA2 := hH.old hSA
  have hSB2 := hH.old hSB
  have hsz := hH.size
  have hb4 := (hH.b 1 rfl).lt
  refine WS_specT 21 rfl (by kernel_rfl) (by kernel_rfl) [Is (.pointer (some ⟨b, 0 + 0, none⟩)), Is h.v, Is h.fit.v, Is (.int .i64 (fitF f al : Nat)), Is (.pointer (some ⟨b, 0 + 5, none⟩)), Is (.int .i64 c), Is (.int .i64 (c % 128)), Is (.int .i64 (al : Nat)), Is (.int .i64 (fitF f al : Nat)), Is (.int .i64 ((al - fitF f al : Nat) : Int)), Is (.int .i64 (((c % 128).toNat % (al - fitF f al) : Nat) : Int)), Is (.int .i64 (fitC f c al : Nat)), NewLit w2.heap.size 5 1 #[B 1], Is (.pointer (some ⟨b, 0 + 6, none⟩)), Is (.slice a1 A.length c1), IsSlN w2.heap.size (1 :: A), NewLit w2.heap.size 5 1 #[B 2], Is (.pointer (some ⟨b, 0 + 7, none⟩)), Is (.slice a2 Bb.length c2), IsSlN w2.heap.size (2 :: Bb), IsPk w2.heap.size h.fit (fitF f al) (fitC f c al) (1 :: A) (2 :: Bb)] Ty.mixed [(4294959104, [], true), (4294952960, [(0, 11)], true), (2080364544, [(1, 12)], true), (2147465216, [], true), (4294866944, [], true), (4294768640, [(4, 15)], true), (4292737024, [(5, 16)], true), (4293654528, [], true), (4293392384, [], true), (4291819520, [(7, 18), (8, 19)], true), (4288673792, [(6, 17), (9, 20)], true), (2143287296, [(10, 21)], true), (4219467776, [], true), (4244633600, [], true), (4194301952, [(13, 24)], true), (1006630912, [(12, 23), (14, 25)], true), (3087005696, [], true), (3489658880, [], true), (2684352512, [(17, 28)], true), (1073739776, [(16, 27), (18, 29)], true), (2147481600, [(2, 13), (3, 14), (11, 22), (15, 26), (19, 30)], true)] 4294965248 [(20, 31)] (by kernel_rfl) (by kernel_rfl) (by kernel_rfl) (by kernel_rfl) (by kernel_rfl) ⟨Is.st, Is.st, Is.st, Is.st, Is.st, Is.st, Is.st, Is.st, Is.st, Is.st, Is.st, Is.st, (by exact NewLit.st), Is.st, Is.st, (by exact IsSlN.st), (by exact NewLit.st), Is.st, Is.st, (by exact IsSlN.st), (by exact IsPk.st), trivial⟩ ⟨⟨GOk.none, ?_⟩, ⟨GOk.none, ?_⟩, ⟨GOk.none, ?_⟩, ⟨GOk.none, ?_⟩, ⟨GOk.none, ?_⟩, ⟨GOk.none, ?_⟩, ⟨GOk.none, ?_⟩, ⟨GOk.none, ?_⟩, ⟨GOk.none, ?_⟩, ⟨GOk.none, ?_⟩, ⟨GOk.none, ?_⟩, ⟨GOk.none, ?_⟩, ⟨GOk.none, ?_⟩, ⟨GOk.none, ?_⟩, ⟨GOk.none, ?_⟩, ⟨GOk.none, ?_⟩, ⟨GOk.none, ?_⟩, ⟨GOk.none, ?_⟩, ⟨GOk.none, ?_⟩, ⟨GOk.none, ?_⟩, ⟨GOk.none, ?_⟩, trivial⟩ ?_
  · intro w'' hE''
    intro σ''
    exact sp_is (by first | refine k_fa rfl (Ty.fld rfl rfl)) rfl
  · intro w'' hE''
    rintro _ rfl
    intro σ''
    exact sp_is (by first | refine k_loadC (cs := h.cells) (j := 0) rfl (hS.ext0 hE'') rfl rfl (Ty.shp rfl)) rfl
  · intro w'' hE''
    rintro _ rfl
    intro σ''
    refine S_call (pfit_spec h _) rfl rfl ?_
    rintro v w3'' ⟨rfl, hE3⟩
    exact ⟨hE3, _, rfl, rfl⟩
  · intro w'' hE''
    intro σ''
    exact sp_is (by first | refine Run_pev rfl) rfl
  · intro w'' hE''
    intro σ''
    exact sp_is (by first | refine k_fa rfl (Ty.fld rfl rfl)) rfl
  · intro w'' hE''
    rintro _ rfl
    intro σ''
    exact sp_is (by first | refine k_loadb rfl (hB.ext0 hE'') rfl (Ty.shp rfl)) rfl
  · intro w'' hE''
    rintro _ rfl
    intro σ''
    exact sp_is (by first | refine (k_andm (i := c) (k := 7) rfl rfl (by decide)).is (congrArg (Value.int .i64) e2)) rfl
  · intro w'' hE''
    intro σ''
    exact sp_is (by first | refine Run_pev rfl) rfl
  · intro w'' hE''
    intro σ''
    exact sp_is (by first | refine Run_pev rfl) rfl
  · intro w'' hE''
    rintro _ rfl
    rintro _ rfl
    intro σ''
    exact sp_is (by first | refine (k_sub64 (m := (al : Int)) (n := (fitF f al : Nat)) rfl rfl (by omega)).is (congrArg (Value.int .i64) e4) | refine k_sub64 rfl rfl (by omega)) rfl
  · intro w'' hE''
    rintro _ rfl
    rintro _ rfl
    intro σ''
    exact sp_is (by first | refine (k_rem (m := c % 128) (n := ((al - fitF f al : Nat) : Int)) rfl rfl ⟨by omega, by omega⟩).is (congrArg (Value.int .i64) e5) | refine k_rem rfl rfl (by omega)) rfl
  · intro w'' hE''
    rintro _ rfl
    intro σ''
    exact sp_is (by first | refine (k_add64 (m := 1) (n := (((c % 128).toNat % (al - fitF f al) : Nat) : Int)) rfl rfl (by omega)).is (congrArg (Value.int .i64) e6) | refine k_add64 rfl rfl (by omega)) rfl
  · intro w'' hE''
    intro σ''
    refine S_lit (out := [B 1]) (Ty.sle rfl) (Ty.zer rfl) rfl rfl rfl (by decide) rfl ?_
    intro w3'' b'' hb'' hE3'' hB'' hs''
    exact ⟨hE3'', _, rfl, b'', rfl, hB'', by have := hE''.size; omega⟩
  · intro w'' hE''
    intro σ''
    exact sp_is (by first | refine k_fa rfl (Ty.fld rfl rfl)) rfl
  · intro w'' hE''
    rintro _ rfl
    intro σ''
    exact sp_is (by first | refine k_loadb rfl (hB.ext0 hE'') rfl (Ty.shp rfl)) rfl
  · intro w'' hE''
    rintro _ h12
    rintro _ rfl
    intro σ''
    obtain ⟨b12, rfl, hB12, hb12⟩ := h12
    refine S_appendD (Ty.sle rfl) (Ty.zer rfl) (Ty.byt rfl) rfl hB12 rfl rfl (hSA2.ext0 hE'') (by simp) (by omega) (by simp only [maxLen]; omega) rfl ?_
    intro w3'' a' c' hE3 hS3 hf
    exact ⟨hE3, _, rfl, a', c', congrArg (fun n => Value.slice a' n c') (by simp; omega), hS3, fun x hx => by rcases hf x hx with h | h; omega; have := hE''.size; omega⟩
  · intro w'' hE''
    intro σ''
    refine S_lit (out := [B 2]) (Ty.sle rfl) (Ty.zer rfl) rfl rfl rfl (by decide) rfl ?_
    intro w3'' b'' hb'' hE3'' hB'' hs''
    exact ⟨hE3'', _, rfl, b'', rfl, hB'', by have := hE''.size; omega⟩
  · intro w'' hE''
    intro σ''
    exact sp_is (by first | refine k_fa rfl (Ty.fld rfl rfl)) rfl
  · intro w'' hE''
    rintro _ rfl
    intro σ''
    exact sp_is (by first | refine k_loadb rfl (hB.ext0 hE'') rfl (Ty.shp rfl)) rfl
  · intro w'' hE''
    rintro _ h16
    rintro _ rfl
    intro σ''
    obtain ⟨b16, rfl, hB16, hb16⟩ := h16
    refine S_appendD (Ty.sle rfl) (Ty.zer rfl) (Ty.byt rfl) rfl hB16 rfl rfl (hSB2.ext0 hE'') (by simp) (by omega) (by simp only [maxLen]; omega) rfl ?_
    intro w3'' a' c' hE3 hS3 hf
    exact ⟨hE3, _, rfl, a', c', congrArg (fun n => Value.slice a' n c') (by simp; omega), hS3, fun x hx => by rcases hf x hx with h | h; omega; have := hE''.size; omega⟩
  · intro w'' hE''
    rintro _ rfl
    rintro _ rfl
    rintro _ rfl
    rintro _ h15
    rintro _ h19
    intro σ''
    obtain ⟨a15, c15, rfl, hS15, hf15⟩ := h15
    obtain ⟨a19, c19, rfl, hS19, hf19⟩ := h19
    refine S_run (k_buildS (cs := pkc h.fit (fitF f al : Nat) (fitC f c al : Nat) (.slice a15 (1 :: A).length c15) (.slice a19 (2 :: Bb).length c19)) (Ty.zer rfl) (Ty.plc rfl) rfl) rfl ⟨.refl, _, rfl, a15, c15, a19, c19, rfl, hS15, hS19, hf15, hf19⟩
  intro w'' hE''
  rintro _ h20
  intro σ''
  obtain ⟨a15, c15, a19, c19, rfl, hS15, hS19, hf15, hf19⟩ := h20
  replace hH := hH.ext0 hE''
  refine WL_s (S_storeA rfl rfl (hH.b 1 rfl) rfl rfl (pkc_one _ _ _ _ _ _ _ _ _) (Ty.shp rfl) ?_)
  intro w6 hE6 hB6 _
  replace hS15 := hS15.ext hE6 (fun s hs hb => by simp at hs; have := hf15 s hb; omega)
  replace hS19 := hS19.ext hE6 (fun s hs hb => by simp at hs; have := hf19 s hb; omega)
  replace hH := hH.up 1 rfl (r' := Rb b4 74 _) ⟨hE6, hB6, fun _ hx => .inl hx⟩
  repeat (first | refine WS_seq ?_ | refine WS_region ?_ | refine WL_nil ?_ | refine WS_block ?_ | refine WS_inBlock ?_ | refine WS_skip ?_ | refine WS_label ?_ | refine WS_scope ?_ | refine WS_inScope ?_ | refine WS_exit rfl ?_ | refine WS_true rfl ?_ | refine WS_false rfl ?_ | refine WS_yes rfl (by omega) ?_ | refine WS_no rfl (by omega) ?_ | refine WL_gyes rfl rfl rfl ?_ | refine WL_gno rfl rfl rfl rfl rfl ?_ | refine WL_gund rfl rfl rfl ?_ | refine WL_gyes rfl rfl (dF (by omega)) ?_ | refine WL_gyes rfl rfl (dT (by omega)) ?_ | refine WL_gno (b := false) rfl rfl (dF (by omega)) rfl rfl ?_ | refine WL_gno (b := true) rfl rfl (dT (by omega)) rfl rfl ?_ | (refine WL_r (by first | refine Run_pev rfl | refine k_add64 rfl rfl (by omega) | refine k_sub64 rfl rfl (by omega) | refine k_len rfl (Ty.isl rfl) | refine k_lens rfl (Ty.iss rfl) | refine k_not rfl | refine k_notb rfl | refine k_min rfl rfl | refine k_max rfl rfl | refine k_min3 rfl rfl rfl | refine k_max3 rfl rfl rfl | refine k_mul64 rfl rfl (by omega) | refine k_quo64 rfl rfl (by omega) | refine k_rem rfl rfl (by omega) | refine k_extract rfl rfl | apply k_makeFunc | refine k_convI rfl rfl rfl (by omega) | refine k_conv16 rfl rfl rfl (by omega) | refine k_conv64 rfl rfl rfl (by omega) | refine k_conv8 rfl rfl rfl (by omega) | refine k_convB rfl rfl rfl | refine k_convH rfl rfl rfl | refine k_convQ rfl rfl rfl | refine k_pick_f (dF (by omega)) rfl | refine k_pick_t (dT (by omega)) rfl) rfl ?_))
  exact WS_retc1 Try.func48 rfl rfl hB6 rfl (Ty.shp rfl) ⟨hH.ext, a15, c15, a19, c19, rfl, hS15, hS19, fun x hx => Nat.le_trans hsz (hf15 x hx), fun x hx => Nat.le_trans hsz (hf19 x hx)⟩
end Go.Proofs.Ytepddofhlohipaa
