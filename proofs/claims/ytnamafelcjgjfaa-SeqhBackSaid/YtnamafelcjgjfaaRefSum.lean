/- The walk of the reference's sum: it is the program's; no condition but sizes of memory. -/
import Derived.Test.YtnamafelcjgjfaaSh
import Derived.Test.YtnamafelcjgjfaaRef01
import Derived.Test.YtnamafelcjgjfaaPSum
namespace Go.Proofs.Ytnamafelcjgjfaa
open Go Go.K Go.P Go.RowKit Go.Proofs
theorem ofB_zeros (l : List Nat) : ofB l ++ List.replicate 16 0 = arr (8 * l.length + 16) (bitAt l) := by
  rw [arr_append, ofB_arr]
  congr 1
  refine List.ext_getElem? (fun j => ?_)
  by_cases hj : j < 16
  · rw [arr_get hj]
    rw [List.getElem?_replicate, if_pos hj]
    simp [bitAt, show l.length ≤ (8 * l.length + j) / 8 by omega]
  · rw [List.getElem?_eq_none (by simpa using hj), List.getElem?_eq_none (by rw [arr_len]; omega)]
theorem left_congr {M : Nat → Bool} {N i : Nat} {f g : Nat → Bool} (h : LeftB M N i f) (hg : ∀ j, g j = f j) : LeftB M N i g := fun j h1 h2 => by rw [hg, h j h1 h2]
theorem bool_le (b : Bool) : b.toNat ≤ 1 := by cases b <;> decide
set_option maxHeartbeats 2000000 in
theorem rsum_spec {a : Option Addr} {n cap : Nat} {l : List Nat} {w : World} (hS : SlA w a (l.map B)) (hl : Byt l) (hn : l.length = n) (hlen : n ≤ 1073741824) :
    Does Try.prog 55 #[.slice a n cap] w fun v w' => v = .int .u16 (crcAdd 65535 l : Nat) ∧ Ext [] w w' := by
  subst hn
  refine Does_of (args := [_]) Try.func55 rfl rfl Try.ntmps55 rfl ?_
  have hH := Hp.start w
  repeat (first | refine WS_seq ?_ | refine WS_region ?_ | refine WL_nil ?_ | refine WS_block ?_ | refine WS_inBlock ?_ | refine WS_skip ?_ | refine WS_label ?_ | refine WS_scope ?_ | refine WS_inScope ?_ | refine WS_exit rfl ?_ | refine WS_true rfl ?_ | refine WS_false rfl ?_ | refine WS_yes rfl (by omega) ?_ | refine WS_no rfl (by omega) ?_ | refine WL_gyes rfl rfl rfl ?_ | refine WL_gno rfl rfl rfl rfl rfl ?_ | refine WL_gund rfl rfl rfl ?_ | refine WL_gyes rfl rfl (dF (by omega)) ?_ | refine WL_gyes rfl rfl (dT (by omega)) ?_ | refine WL_gno (b := false) rfl rfl (dF (by omega)) rfl rfl ?_ | refine WL_gno (b := true) rfl rfl (dT (by omega)) rfl rfl ?_ | (refine WL_r (by first | refine Run_pev rfl | refine k_add64 rfl rfl (by omega) | refine k_sub64 rfl rfl (by omega) | refine k_len rfl (Ty.isl rfl) | refine k_lens rfl (Ty.iss rfl) | refine k_not rfl | refine k_notb rfl | refine k_min rfl rfl | refine k_max rfl rfl | refine k_min3 rfl rfl rfl | refine k_max3 rfl rfl rfl | refine k_mul64 rfl rfl (by omega) | refine k_quo64 rfl rfl (by omega) | refine k_rem rfl rfl (by omega) | refine k_extract rfl rfl | apply k_makeFunc | refine k_convI rfl rfl rfl (by omega) | refine k_conv16 rfl rfl rfl (by omega) | refine k_conv64 rfl rfl rfl (by omega) | refine k_conv8 rfl rfl rfl (by omega) | refine k_convB rfl rfl rfl | refine k_convH rfl rfl rfl | refine k_convQ rfl rfl rfl | refine k_pick_f (dF (by omega)) rfl | refine k_pick_t (dT (by omega)) rfl) rfl ?_))
  try refine WL_gyes rfl rfl rfl ?_
  refine WL_s (S_call (rof_spec hS hl rfl (by omega)) rfl rfl ?_)
  rintro v w1 ⟨a1, c1, rfl, hN⟩
  replace hH := hH.nu hN
  clear hN
  first | change Hp _ _ _ [] at hH | change Hp _ _ _ [_] at hH | change Hp _ _ _ [_, _] at hH | change Hp _ _ _ [_, _, _] at hH | change Hp _ _ _ [_, _, _, _] at hH | change Hp _ _ _ [_, _, _, _, _] at hH | change Hp _ _ _ [_, _, _, _, _, _] at hH | change Hp _ _ _ [_, _, _, _, _, _, _] at hH | change Hp _ _ _ [_, _, _, _, _, _, _, _] at hH | change Hp _ _ _ [_, _, _, _, _, _, _, _, _] at hH
  refine WL_s (H_appendN 0 (m := 16) hH rfl (Ty.sle rfl) (Ty.knd rfl) (Ty.zer rfl) (Ty.byt rfl) rfl rfl rfl (by decide) (by omega) (by simp only [maxLen]; omega) rfl ?_)
  clear hH
  intro _ a2 c2 hH
  first | change Hp _ _ _ [] at hH | change Hp _ _ _ [_] at hH | change Hp _ _ _ [_, _] at hH | change Hp _ _ _ [_, _, _] at hH | change Hp _ _ _ [_, _, _, _] at hH | change Hp _ _ _ [_, _, _, _, _] at hH | change Hp _ _ _ [_, _, _, _, _, _] at hH | change Hp _ _ _ [_, _, _, _, _, _, _] at hH | change Hp _ _ _ [_, _, _, _, _, _, _, _] at hH | change Hp _ _ _ [_, _, _, _, _, _, _, _, _] at hH
  have e0 : (ofB l).map B ++ List.replicate 16 (.int .u8 0) = (arr (8 * l.length + 16) (bitAt l)).map B := by rw [← ofB_zeros]; simp [B]
  rw [e0] at hH
  have hNn : 8 * l.length + 16 ≤ 8 * 1073741824 + 16 := by omega
  obtain ⟨N, hN⟩ : ∃ N, N = 8 * l.length + 16 := ⟨_, rfl⟩
  rw [← hN] at hH hNn ⊢
  repeat (first | refine WS_seq ?_ | refine WS_region ?_ | refine WL_nil ?_ | refine WS_block ?_ | refine WS_inBlock ?_ | refine WS_skip ?_ | refine WS_label ?_ | refine WS_scope ?_ | refine WS_inScope ?_ | refine WS_exit rfl ?_ | refine WS_true rfl ?_ | refine WS_false rfl ?_ | refine WS_yes rfl (by omega) ?_ | refine WS_no rfl (by omega) ?_ | refine WL_gyes rfl rfl rfl ?_ | refine WL_gno rfl rfl rfl rfl rfl ?_ | refine WL_gund rfl rfl rfl ?_ | refine WL_gyes rfl rfl (dF (by omega)) ?_ | refine WL_gyes rfl rfl (dT (by omega)) ?_ | refine WL_gno (b := false) rfl rfl (dF (by omega)) rfl rfl ?_ | refine WL_gno (b := true) rfl rfl (dT (by omega)) rfl rfl ?_ | (refine WL_r (by first | refine Run_pev rfl | refine k_add64 rfl rfl (by omega) | refine k_sub64 rfl rfl (by omega) | refine k_len rfl (Ty.isl rfl) | refine k_lens rfl (Ty.iss rfl) | refine k_not rfl | refine k_notb rfl | refine k_min rfl rfl | refine k_max rfl rfl | refine k_min3 rfl rfl rfl | refine k_max3 rfl rfl rfl | refine k_mul64 rfl rfl (by omega) | refine k_quo64 rfl rfl (by omega) | refine k_rem rfl rfl (by omega) | refine k_extract rfl rfl | apply k_makeFunc | refine k_convI rfl rfl rfl (by omega) | refine k_conv16 rfl rfl rfl (by omega) | refine k_conv64 rfl rfl rfl (by omega) | refine k_conv8 rfl rfl rfl (by omega) | refine k_convB rfl rfl rfl | refine k_convH rfl rfl rfl | refine k_convQ rfl rfl rfl | refine k_pick_f (dF (by omega)) rfl | refine k_pick_t (dT (by omega)) rfl) rfl ?_))
  refine WS_loop (G := (Nat)) (fun i => 16 - i) 8386576 (fun i => [(4, .int .i64 i)]) (fun i w' => i ≤ 16 ∧ Hp [] w w' [Ro 5 1 a2 N c2 ((arr N (fun j => bitAt l j != decide (j < i))).map B)]) (0) ⟨rfl, trivial⟩ ⟨by omega, by simpa using hH⟩ ?_
  rintro i w' σ ⟨hi, hH⟩ IH
  show WS _ _ _ _ _ (updL [(4, .int .i64 i)] _) _
  by_cases hlt : i < 16
  · have hSo := (hH.o 0 rfl).sl
    have hv : ((arr N (fun j => bitAt l j != decide (j < i))).map B)[i]? = some (B (bitAt l i).toNat) := by rw [List.getElem?_map, arr_get (by omega)]; simp
    have hle := bool_le (bitAt l i)
    have hln : ((arr N (fun j => bitAt l j != decide (j < i))).map B).length = N := by simp [arr_len]
    repeat (first | refine WS_seq ?_ | refine WS_region ?_ | refine WL_nil ?_ | refine WS_block ?_ | refine WS_inBlock ?_ | refine WS_skip ?_ | refine WS_label ?_ | refine WS_scope ?_ | refine WS_inScope ?_ | refine WS_exit rfl ?_ | refine WS_true rfl ?_ | refine WS_false rfl ?_ | refine WS_yes rfl (by omega) ?_ | refine WS_no rfl (by omega) ?_ | refine WL_gyes rfl rfl rfl ?_ | refine WL_gno rfl rfl rfl rfl rfl ?_ | refine WL_gund rfl rfl rfl ?_ | refine WL_gyes rfl rfl (dF (by omega)) ?_ | refine WL_gyes rfl rfl (dT (by omega)) ?_ | refine WL_gno (b := false) rfl rfl (dF (by omega)) rfl rfl ?_ | refine WL_gno (b := true) rfl rfl (dT (by omega)) rfl rfl ?_ | (refine WL_r (by first | refine k_ix1 rfl rfl hSo hln (Ty.sle rfl) (by omega) | refine k_loads rfl hSo hv (Ty.shp rfl) | refine k_subu (m := 1) (q := .u8) rfl rfl rfl hle (by decide) | refine Run_pev rfl | refine k_add64 rfl rfl (by omega) | refine k_sub64 rfl rfl (by omega) | refine k_len rfl (Ty.isl rfl) | refine k_lens rfl (Ty.iss rfl) | refine k_not rfl | refine k_notb rfl | refine k_min rfl rfl | refine k_max rfl rfl | refine k_min3 rfl rfl rfl | refine k_max3 rfl rfl rfl | refine k_mul64 rfl rfl (by omega) | refine k_quo64 rfl rfl (by omega) | refine k_rem rfl rfl (by omega) | refine k_extract rfl rfl | apply k_makeFunc | refine k_convI rfl rfl rfl (by omega) | refine k_conv16 rfl rfl rfl (by omega) | refine k_conv64 rfl rfl rfl (by omega) | refine k_conv8 rfl rfl rfl (by omega) | refine k_convB rfl rfl rfl | refine k_convH rfl rfl rfl | refine k_convQ rfl rfl rfl | refine k_pick_f (dF (by omega)) rfl | refine k_pick_t (dT (by omega)) rfl) rfl ?_))
    refine WL_s (H_storeO 0 (v := B (1 - (bitAt l i).toNat)) hH rfl rfl rfl (by omega) rfl (Ty.shp rfl) ?_)
    clear hH
    intro _ hH
    first | change Hp _ _ _ [] at hH | change Hp _ _ _ [_] at hH | change Hp _ _ _ [_, _] at hH | change Hp _ _ _ [_, _, _] at hH | change Hp _ _ _ [_, _, _, _] at hH | change Hp _ _ _ [_, _, _, _, _] at hH | change Hp _ _ _ [_, _, _, _, _, _] at hH | change Hp _ _ _ [_, _, _, _, _, _, _] at hH | change Hp _ _ _ [_, _, _, _, _, _, _, _] at hH | change Hp _ _ _ [_, _, _, _, _, _, _, _, _] at hH
    have e1 : (arr N (fun j => bitAt l j != decide (j < i))).set i (1 - (bitAt l i).toNat) = arr N (fun j => bitAt l j != decide (j < i + 1)) := by
      have h := arr_flip (N := N) (f := fun j => bitAt l j != decide (j < i)) (i := i)
      simp only [Nat.lt_irrefl, decide_false, Bool.bne_false] at h
      rw [h]
      refine arr_congr (fun j hj => ?_)
      by_cases h1 : j < i
      · simp [h1, show j < i + 1 by omega, show ¬ j = i by omega]
      · by_cases h2 : j = i
        · subst h2; simp
        · simp [h1, h2, show ¬ j < i + 1 by omega]
    rw [← List.map_set, show ((i : Int)).toNat = i by omega, e1] at hH
    repeat (first | refine WS_seq ?_ | refine WS_region ?_ | refine WL_nil ?_ | refine WS_block ?_ | refine WS_inBlock ?_ | refine WS_skip ?_ | refine WS_label ?_ | refine WS_scope ?_ | refine WS_inScope ?_ | refine WS_exit rfl ?_ | refine WS_true rfl ?_ | refine WS_false rfl ?_ | refine WS_yes rfl (by omega) ?_ | refine WS_no rfl (by omega) ?_ | refine WL_gyes rfl rfl rfl ?_ | refine WL_gno rfl rfl rfl rfl rfl ?_ | refine WL_gund rfl rfl rfl ?_ | refine WL_gyes rfl rfl (dF (by omega)) ?_ | refine WL_gyes rfl rfl (dT (by omega)) ?_ | refine WL_gno (b := false) rfl rfl (dF (by omega)) rfl rfl ?_ | refine WL_gno (b := true) rfl rfl (dT (by omega)) rfl rfl ?_ | (refine WL_r (by first | refine Run_pev rfl | refine k_add64 rfl rfl (by omega) | refine k_sub64 rfl rfl (by omega) | refine k_len rfl (Ty.isl rfl) | refine k_lens rfl (Ty.iss rfl) | refine k_not rfl | refine k_notb rfl | refine k_min rfl rfl | refine k_max rfl rfl | refine k_min3 rfl rfl rfl | refine k_max3 rfl rfl rfl | refine k_mul64 rfl rfl (by omega) | refine k_quo64 rfl rfl (by omega) | refine k_rem rfl rfl (by omega) | refine k_extract rfl rfl | apply k_makeFunc | refine k_convI rfl rfl rfl (by omega) | refine k_conv16 rfl rfl rfl (by omega) | refine k_conv64 rfl rfl rfl (by omega) | refine k_conv8 rfl rfl rfl (by omega) | refine k_convB rfl rfl rfl | refine k_convH rfl rfl rfl | refine k_convQ rfl rfl rfl | refine k_pick_f (dF (by omega)) rfl | refine k_pick_t (dT (by omega)) rfl) rfl ?_))
    refine IH (i + 1) _ _ ?_ ?_ ?_ ?_
    · omega
    · exact ⟨rfl, trivial⟩
    · exact (by repeat (first | with_reducible apply Agr.refl | refine Agr.upd rfl ?_ | refine Agr.updo rfl ?_ | refine Agr.updL rfl ?_ | refine Agr.mrg rfl ?_ | exact Agr.refl | refine Agr.updn ?_))
    · exact ⟨by omega, hH⟩
  obtain rfl : i = 16 := by omega
  clear IH
  repeat (first | refine WS_seq ?_ | refine WS_region ?_ | refine WL_nil ?_ | refine WS_block ?_ | refine WS_inBlock ?_ | refine WS_skip ?_ | refine WS_label ?_ | refine WS_scope ?_ | refine WS_inScope ?_ | refine WS_exit rfl ?_ | refine WS_true rfl ?_ | refine WS_false rfl ?_ | refine WS_yes rfl (by omega) ?_ | refine WS_no rfl (by omega) ?_ | refine WL_gyes rfl rfl rfl ?_ | refine WL_gno rfl rfl rfl rfl rfl ?_ | refine WL_gund rfl rfl rfl ?_ | refine WL_gyes rfl rfl (dF (by omega)) ?_ | refine WL_gyes rfl rfl (dT (by omega)) ?_ | refine WL_gno (b := false) rfl rfl (dF (by omega)) rfl rfl ?_ | refine WL_gno (b := true) rfl rfl (dT (by omega)) rfl rfl ?_ | (refine WL_r (by first | refine Run_pev rfl | refine k_add64 rfl rfl (by omega) | refine k_sub64 rfl rfl (by omega) | refine k_len rfl (Ty.isl rfl) | refine k_lens rfl (Ty.iss rfl) | refine k_not rfl | refine k_notb rfl | refine k_min rfl rfl | refine k_max rfl rfl | refine k_min3 rfl rfl rfl | refine k_max3 rfl rfl rfl | refine k_mul64 rfl rfl (by omega) | refine k_quo64 rfl rfl (by omega) | refine k_rem rfl rfl (by omega) | refine k_extract rfl rfl | apply k_makeFunc | refine k_convI rfl rfl rfl (by omega) | refine k_conv16 rfl rfl rfl (by omega) | refine k_conv64 rfl rfl rfl (by omega) | refine k_conv8 rfl rfl rfl (by omega) | refine k_convB rfl rfl rfl | refine k_convH rfl rfl rfl | refine k_convQ rfl rfl rfl | refine k_pick_f (dF (by omega)) rfl | refine k_pick_t (dT (by omega)) rfl) rfl ?_))
  refine WS_loop (G := (Nat) × (Nat → Bool)) (fun | (i, f) => 8 * l.length - i) 36893488147410714656 (fun | (i, f) => [(5, .int .i64 i)]) (fun | (i, f), w' => i ≤ 8 * l.length ∧ LeftB (bitAt l) N i f ∧ Hp [] w w' [Ro 5 1 a2 N c2 ((arr N f).map B)]) (0, fun j => bitAt l j != decide (j < 16)) ⟨rfl, trivial⟩ ⟨by omega, left_zero, hH⟩ ?_
  rintro ⟨i, f⟩ w' σ2 ⟨hi, hL, hH⟩ IH
  show WS _ _ _ _ _ (updL [(5, .int .i64 i)] _) _
  by_cases hlt : i < 8 * l.length
  · have hSo := (hH.o 0 rfl).sl
    have hv : ((arr N f).map B)[i]? = some (B (f i).toNat) := by rw [List.getElem?_map, arr_get (by omega)]; rfl
    have hln : ∀ g, ((arr N g).map B).length = N := fun g => by simp [arr_len]
    have hst := left_step hL (by omega)
    by_cases hf : f i = true
    · rw [hf] at hv hst
      repeat (first | refine WS_seq ?_ | refine WS_region ?_ | refine WL_nil ?_ | refine WS_block ?_ | refine WS_inBlock ?_ | refine WS_skip ?_ | refine WS_label ?_ | refine WS_scope ?_ | refine WS_inScope ?_ | refine WS_exit rfl ?_ | refine WS_true rfl ?_ | refine WS_false rfl ?_ | refine WS_yes rfl (by omega) ?_ | refine WS_no rfl (by omega) ?_ | refine WL_gyes rfl rfl rfl ?_ | refine WL_gno rfl rfl rfl rfl rfl ?_ | refine WL_gund rfl rfl rfl ?_ | refine WL_gyes rfl rfl (dF (by omega)) ?_ | refine WL_gyes rfl rfl (dT (by omega)) ?_ | refine WL_gno (b := false) rfl rfl (dF (by omega)) rfl rfl ?_ | refine WL_gno (b := true) rfl rfl (dT (by omega)) rfl rfl ?_ | (refine WL_r (by first | refine k_ix1 rfl rfl hSo (hln _) (Ty.sle rfl) (by omega) | refine k_loads rfl hSo hv (Ty.shp rfl) | refine Run_pev rfl | refine k_add64 rfl rfl (by omega) | refine k_sub64 rfl rfl (by omega) | refine k_len rfl (Ty.isl rfl) | refine k_lens rfl (Ty.iss rfl) | refine k_not rfl | refine k_notb rfl | refine k_min rfl rfl | refine k_max rfl rfl | refine k_min3 rfl rfl rfl | refine k_max3 rfl rfl rfl | refine k_mul64 rfl rfl (by omega) | refine k_quo64 rfl rfl (by omega) | refine k_rem rfl rfl (by omega) | refine k_extract rfl rfl | apply k_makeFunc | refine k_convI rfl rfl rfl (by omega) | refine k_conv16 rfl rfl rfl (by omega) | refine k_conv64 rfl rfl rfl (by omega) | refine k_conv8 rfl rfl rfl (by omega) | refine k_convB rfl rfl rfl | refine k_convH rfl rfl rfl | refine k_convQ rfl rfl rfl | refine k_pick_f (dF (by omega)) rfl | refine k_pick_t (dT (by omega)) rfl) rfl ?_))
      have hSo4 := (hH.o 0 rfl).sl
      have hv4 : ((arr N f).map B)[((i : Int) + 4).toNat]? = some (B (f (i + 4)).toNat) := by rw [show ((i : Int) + 4).toNat = i + 4 by omega, List.getElem?_map, arr_get (by omega)]; rfl
      have hle4 := bool_le (f (i + 4))
      repeat (first | refine WS_seq ?_ | refine WS_region ?_ | refine WL_nil ?_ | refine WS_block ?_ | refine WS_inBlock ?_ | refine WS_skip ?_ | refine WS_label ?_ | refine WS_scope ?_ | refine WS_inScope ?_ | refine WS_exit rfl ?_ | refine WS_true rfl ?_ | refine WS_false rfl ?_ | refine WS_yes rfl (by omega) ?_ | refine WS_no rfl (by omega) ?_ | refine WL_gyes rfl rfl rfl ?_ | refine WL_gno rfl rfl rfl rfl rfl ?_ | refine WL_gund rfl rfl rfl ?_ | refine WL_gyes rfl rfl (dF (by omega)) ?_ | refine WL_gyes rfl rfl (dT (by omega)) ?_ | refine WL_gno (b := false) rfl rfl (dF (by omega)) rfl rfl ?_ | refine WL_gno (b := true) rfl rfl (dT (by omega)) rfl rfl ?_ | (refine WL_r (by first | refine k_ix1 rfl rfl hSo4 (hln _) (Ty.sle rfl) (by omega) | refine k_loads rfl hSo4 hv4 (Ty.shp rfl) | refine k_subu (m := 1) (q := .u8) rfl rfl rfl hle4 (by decide) | refine Run_pev rfl | refine k_add64 rfl rfl (by omega) | refine k_sub64 rfl rfl (by omega) | refine k_len rfl (Ty.isl rfl) | refine k_lens rfl (Ty.iss rfl) | refine k_not rfl | refine k_notb rfl | refine k_min rfl rfl | refine k_max rfl rfl | refine k_min3 rfl rfl rfl | refine k_max3 rfl rfl rfl | refine k_mul64 rfl rfl (by omega) | refine k_quo64 rfl rfl (by omega) | refine k_rem rfl rfl (by omega) | refine k_extract rfl rfl | apply k_makeFunc | refine k_convI rfl rfl rfl (by omega) | refine k_conv16 rfl rfl rfl (by omega) | refine k_conv64 rfl rfl rfl (by omega) | refine k_conv8 rfl rfl rfl (by omega) | refine k_convB rfl rfl rfl | refine k_convH rfl rfl rfl | refine k_convQ rfl rfl rfl | refine k_pick_f (dF (by omega)) rfl | refine k_pick_t (dT (by omega)) rfl) rfl ?_))
      refine WL_s (H_storeO 0 (v := B (1 - (f (i + 4)).toNat)) hH rfl rfl rfl (by omega) rfl (Ty.shp rfl) ?_)
      clear hH
      intro _ hH
      first | change Hp _ _ _ [] at hH | change Hp _ _ _ [_] at hH | change Hp _ _ _ [_, _] at hH | change Hp _ _ _ [_, _, _] at hH | change Hp _ _ _ [_, _, _, _] at hH | change Hp _ _ _ [_, _, _, _, _] at hH | change Hp _ _ _ [_, _, _, _, _, _] at hH | change Hp _ _ _ [_, _, _, _, _, _, _] at hH | change Hp _ _ _ [_, _, _, _, _, _, _, _] at hH | change Hp _ _ _ [_, _, _, _, _, _, _, _, _] at hH
      rw [← List.map_set, show ((i : Int) + 4).toNat = i + 4 by omega, arr_flip] at hH
      obtain ⟨g4, hg4⟩ : ∃ g, g = fun j => f j != decide (j = i + 4) := ⟨_, rfl⟩
      rw [← hg4] at hH
      have hSo11 := (hH.o 0 rfl).sl
      have hv11 : ((arr N g4).map B)[((i : Int) + 11).toNat]? = some (B (g4 (i + 11)).toNat) := by rw [show ((i : Int) + 11).toNat = i + 11 by omega, List.getElem?_map, arr_get (by omega)]; rfl
      have hle11 := bool_le (g4 (i + 11))
      repeat (first | refine WS_seq ?_ | refine WS_region ?_ | refine WL_nil ?_ | refine WS_block ?_ | refine WS_inBlock ?_ | refine WS_skip ?_ | refine WS_label ?_ | refine WS_scope ?_ | refine WS_inScope ?_ | refine WS_exit rfl ?_ | refine WS_true rfl ?_ | refine WS_false rfl ?_ | refine WS_yes rfl (by omega) ?_ | refine WS_no rfl (by omega) ?_ | refine WL_gyes rfl rfl rfl ?_ | refine WL_gno rfl rfl rfl rfl rfl ?_ | refine WL_gund rfl rfl rfl ?_ | refine WL_gyes rfl rfl (dF (by omega)) ?_ | refine WL_gyes rfl rfl (dT (by omega)) ?_ | refine WL_gno (b := false) rfl rfl (dF (by omega)) rfl rfl ?_ | refine WL_gno (b := true) rfl rfl (dT (by omega)) rfl rfl ?_ | (refine WL_r (by first | refine k_ix1 rfl rfl hSo11 (hln _) (Ty.sle rfl) (by omega) | refine k_loads rfl hSo11 hv11 (Ty.shp rfl) | refine k_subu (m := 1) (q := .u8) rfl rfl rfl hle11 (by decide) | refine Run_pev rfl | refine k_add64 rfl rfl (by omega) | refine k_sub64 rfl rfl (by omega) | refine k_len rfl (Ty.isl rfl) | refine k_lens rfl (Ty.iss rfl) | refine k_not rfl | refine k_notb rfl | refine k_min rfl rfl | refine k_max rfl rfl | refine k_min3 rfl rfl rfl | refine k_max3 rfl rfl rfl | refine k_mul64 rfl rfl (by omega) | refine k_quo64 rfl rfl (by omega) | refine k_rem rfl rfl (by omega) | refine k_extract rfl rfl | apply k_makeFunc | refine k_convI rfl rfl rfl (by omega) | refine k_conv16 rfl rfl rfl (by omega) | refine k_conv64 rfl rfl rfl (by omega) | refine k_conv8 rfl rfl rfl (by omega) | refine k_convB rfl rfl rfl | refine k_convH rfl rfl rfl | refine k_convQ rfl rfl rfl | refine k_pick_f (dF (by omega)) rfl | refine k_pick_t (dT (by omega)) rfl) rfl ?_))
      refine WL_s (H_storeO 0 (v := B (1 - (g4 (i + 11)).toNat)) hH rfl rfl rfl (by omega) rfl (Ty.shp rfl) ?_)
      clear hH
      intro _ hH
      first | change Hp _ _ _ [] at hH | change Hp _ _ _ [_] at hH | change Hp _ _ _ [_, _] at hH | change Hp _ _ _ [_, _, _] at hH | change Hp _ _ _ [_, _, _, _] at hH | change Hp _ _ _ [_, _, _, _, _] at hH | change Hp _ _ _ [_, _, _, _, _, _] at hH | change Hp _ _ _ [_, _, _, _, _, _, _] at hH | change Hp _ _ _ [_, _, _, _, _, _, _, _] at hH | change Hp _ _ _ [_, _, _, _, _, _, _, _, _] at hH
      rw [← List.map_set, show ((i : Int) + 11).toNat = i + 11 by omega, arr_flip] at hH
      obtain ⟨g11, hg11⟩ : ∃ g, g = fun j => g4 j != decide (j = i + 11) := ⟨_, rfl⟩
      rw [← hg11] at hH
      have hSo16 := (hH.o 0 rfl).sl
      have hv16 : ((arr N g11).map B)[((i : Int) + 16).toNat]? = some (B (g11 (i + 16)).toNat) := by rw [show ((i : Int) + 16).toNat = i + 16 by omega, List.getElem?_map, arr_get (by omega)]; rfl
      have hle16 := bool_le (g11 (i + 16))
      repeat (first | refine WS_seq ?_ | refine WS_region ?_ | refine WL_nil ?_ | refine WS_block ?_ | refine WS_inBlock ?_ | refine WS_skip ?_ | refine WS_label ?_ | refine WS_scope ?_ | refine WS_inScope ?_ | refine WS_exit rfl ?_ | refine WS_true rfl ?_ | refine WS_false rfl ?_ | refine WS_yes rfl (by omega) ?_ | refine WS_no rfl (by omega) ?_ | refine WL_gyes rfl rfl rfl ?_ | refine WL_gno rfl rfl rfl rfl rfl ?_ | refine WL_gund rfl rfl rfl ?_ | refine WL_gyes rfl rfl (dF (by omega)) ?_ | refine WL_gyes rfl rfl (dT (by omega)) ?_ | refine WL_gno (b := false) rfl rfl (dF (by omega)) rfl rfl ?_ | refine WL_gno (b := true) rfl rfl (dT (by omega)) rfl rfl ?_ | (refine WL_r (by first | refine k_ix1 rfl rfl hSo16 (hln _) (Ty.sle rfl) (by omega) | refine k_loads rfl hSo16 hv16 (Ty.shp rfl) | refine k_subu (m := 1) (q := .u8) rfl rfl rfl hle16 (by decide) | refine Run_pev rfl | refine k_add64 rfl rfl (by omega) | refine k_sub64 rfl rfl (by omega) | refine k_len rfl (Ty.isl rfl) | refine k_lens rfl (Ty.iss rfl) | refine k_not rfl | refine k_notb rfl | refine k_min rfl rfl | refine k_max rfl rfl | refine k_min3 rfl rfl rfl | refine k_max3 rfl rfl rfl | refine k_mul64 rfl rfl (by omega) | refine k_quo64 rfl rfl (by omega) | refine k_rem rfl rfl (by omega) | refine k_extract rfl rfl | apply k_makeFunc | refine k_convI rfl rfl rfl (by omega) | refine k_conv16 rfl rfl rfl (by omega) | refine k_conv64 rfl rfl rfl (by omega) | refine k_conv8 rfl rfl rfl (by omega) | refine k_convB rfl rfl rfl | refine k_convH rfl rfl rfl | refine k_convQ rfl rfl rfl | refine k_pick_f (dF (by omega)) rfl | refine k_pick_t (dT (by omega)) rfl) rfl ?_))
      refine WL_s (H_storeO 0 (v := B (1 - (g11 (i + 16)).toNat)) hH rfl rfl rfl (by omega) rfl (Ty.shp rfl) ?_)
      clear hH
      intro _ hH
      first | change Hp _ _ _ [] at hH | change Hp _ _ _ [_] at hH | change Hp _ _ _ [_, _] at hH | change Hp _ _ _ [_, _, _] at hH | change Hp _ _ _ [_, _, _, _] at hH | change Hp _ _ _ [_, _, _, _, _] at hH | change Hp _ _ _ [_, _, _, _, _, _] at hH | change Hp _ _ _ [_, _, _, _, _, _, _] at hH | change Hp _ _ _ [_, _, _, _, _, _, _, _] at hH | change Hp _ _ _ [_, _, _, _, _, _, _, _, _] at hH
      rw [← List.map_set, show ((i : Int) + 16).toNat = i + 16 by omega, arr_flip] at hH
      obtain ⟨g16, hg16⟩ : ∃ g, g = fun j => g11 j != decide (j = i + 16) := ⟨_, rfl⟩
      rw [← hg16] at hH
      have hL2 : LeftB (bitAt l) N (i + 1) g16 := left_congr hst (fun j => by
        subst hg16; subst hg11; subst hg4
        simp only [Bool.true_and]
        by_cases h4 : j = i + 4
        · simp [h4]
        · by_cases h11 : j = i + 11
          · simp [h11]
          · simp [h4, h11])
      repeat (first | refine WS_seq ?_ | refine WS_region ?_ | refine WL_nil ?_ | refine WS_block ?_ | refine WS_inBlock ?_ | refine WS_skip ?_ | refine WS_label ?_ | refine WS_scope ?_ | refine WS_inScope ?_ | refine WS_exit rfl ?_ | refine WS_true rfl ?_ | refine WS_false rfl ?_ | refine WS_yes rfl (by omega) ?_ | refine WS_no rfl (by omega) ?_ | refine WL_gyes rfl rfl rfl ?_ | refine WL_gno rfl rfl rfl rfl rfl ?_ | refine WL_gund rfl rfl rfl ?_ | refine WL_gyes rfl rfl (dF (by omega)) ?_ | refine WL_gyes rfl rfl (dT (by omega)) ?_ | refine WL_gno (b := false) rfl rfl (dF (by omega)) rfl rfl ?_ | refine WL_gno (b := true) rfl rfl (dT (by omega)) rfl rfl ?_ | (refine WL_r (by first | refine Run_pev rfl | refine k_add64 rfl rfl (by omega) | refine k_sub64 rfl rfl (by omega) | refine k_len rfl (Ty.isl rfl) | refine k_lens rfl (Ty.iss rfl) | refine k_not rfl | refine k_notb rfl | refine k_min rfl rfl | refine k_max rfl rfl | refine k_min3 rfl rfl rfl | refine k_max3 rfl rfl rfl | refine k_mul64 rfl rfl (by omega) | refine k_quo64 rfl rfl (by omega) | refine k_rem rfl rfl (by omega) | refine k_extract rfl rfl | apply k_makeFunc | refine k_convI rfl rfl rfl (by omega) | refine k_conv16 rfl rfl rfl (by omega) | refine k_conv64 rfl rfl rfl (by omega) | refine k_conv8 rfl rfl rfl (by omega) | refine k_convB rfl rfl rfl | refine k_convH rfl rfl rfl | refine k_convQ rfl rfl rfl | refine k_pick_f (dF (by omega)) rfl | refine k_pick_t (dT (by omega)) rfl) rfl ?_))
      refine IH (i + 1, g16) _ _ ?_ ?_ ?_ ?_
      · simp only; omega
      · exact ⟨rfl, trivial⟩
      · exact (by repeat (first | with_reducible apply Agr.refl | refine Agr.upd rfl ?_ | refine Agr.updo rfl ?_ | refine Agr.updL rfl ?_ | refine Agr.mrg rfl ?_ | exact Agr.refl | refine Agr.updn ?_))
      · exact ⟨by omega, hL2, hH⟩
    · have hf0 : f i = false := by simpa using hf
      rw [hf0] at hv hst
      have hL2 : LeftB (bitAt l) N (i + 1) f := left_congr hst (fun j => by simp)
      repeat (first | refine WS_seq ?_ | refine WS_region ?_ | refine WL_nil ?_ | refine WS_block ?_ | refine WS_inBlock ?_ | refine WS_skip ?_ | refine WS_label ?_ | refine WS_scope ?_ | refine WS_inScope ?_ | refine WS_exit rfl ?_ | refine WS_true rfl ?_ | refine WS_false rfl ?_ | refine WS_yes rfl (by omega) ?_ | refine WS_no rfl (by omega) ?_ | refine WL_gyes rfl rfl rfl ?_ | refine WL_gno rfl rfl rfl rfl rfl ?_ | refine WL_gund rfl rfl rfl ?_ | refine WL_gyes rfl rfl (dF (by omega)) ?_ | refine WL_gyes rfl rfl (dT (by omega)) ?_ | refine WL_gno (b := false) rfl rfl (dF (by omega)) rfl rfl ?_ | refine WL_gno (b := true) rfl rfl (dT (by omega)) rfl rfl ?_ | (refine WL_r (by first | refine k_ix1 rfl rfl hSo (hln _) (Ty.sle rfl) (by omega) | refine k_loads rfl hSo hv (Ty.shp rfl) | refine Run_pev rfl | refine k_add64 rfl rfl (by omega) | refine k_sub64 rfl rfl (by omega) | refine k_len rfl (Ty.isl rfl) | refine k_lens rfl (Ty.iss rfl) | refine k_not rfl | refine k_notb rfl | refine k_min rfl rfl | refine k_max rfl rfl | refine k_min3 rfl rfl rfl | refine k_max3 rfl rfl rfl | refine k_mul64 rfl rfl (by omega) | refine k_quo64 rfl rfl (by omega) | refine k_rem rfl rfl (by omega) | refine k_extract rfl rfl | apply k_makeFunc | refine k_convI rfl rfl rfl (by omega) | refine k_conv16 rfl rfl rfl (by omega) | refine k_conv64 rfl rfl rfl (by omega) | refine k_conv8 rfl rfl rfl (by omega) | refine k_convB rfl rfl rfl | refine k_convH rfl rfl rfl | refine k_convQ rfl rfl rfl | refine k_pick_f (dF (by omega)) rfl | refine k_pick_t (dT (by omega)) rfl) rfl ?_))
      refine IH (i + 1, f) _ _ ?_ ?_ ?_ ?_
      · simp only; omega
      · exact ⟨rfl, trivial⟩
      · exact (by repeat (first | with_reducible apply Agr.refl | refine Agr.upd rfl ?_ | refine Agr.updo rfl ?_ | refine Agr.updL rfl ?_ | refine Agr.mrg rfl ?_ | exact Agr.refl | refine Agr.updn ?_))
      · exact ⟨by omega, hL2, hH⟩
  obtain rfl : i = 8 * l.length := by omega
  clear IH
  have hreg := reg_crc hl l.length (Nat.le_refl _)
  have hregl := reg_lt (bitAt l) (8 * l.length)
  rw [List.take_length] at hreg
  rw [hreg] at hregl
  have hbit : ∀ k, k < 16 → f (8 * l.length + k) = (crcAdd 65535 l).testBit (15 - k) := fun k hk => by
    have h := hL (8 * l.length + k) (by omega) (by omega)
    have hz : bitAt l (8 * l.length + k) = false := by simp [bitAt, show l.length ≤ (8 * l.length + k) / 8 by omega]
    rw [h, hz, hreg]
    simp [hk]
  generalize crcAdd 65535 l = s at *
  clear hL hreg
  repeat (first | refine WS_seq ?_ | refine WS_region ?_ | refine WL_nil ?_ | refine WS_block ?_ | refine WS_inBlock ?_ | refine WS_skip ?_ | refine WS_label ?_ | refine WS_scope ?_ | refine WS_inScope ?_ | refine WS_exit rfl ?_ | refine WS_true rfl ?_ | refine WS_false rfl ?_ | refine WS_yes rfl (by omega) ?_ | refine WS_no rfl (by omega) ?_ | refine WL_gyes rfl rfl rfl ?_ | refine WL_gno rfl rfl rfl rfl rfl ?_ | refine WL_gund rfl rfl rfl ?_ | refine WL_gyes rfl rfl (dF (by omega)) ?_ | refine WL_gyes rfl rfl (dT (by omega)) ?_ | refine WL_gno (b := false) rfl rfl (dF (by omega)) rfl rfl ?_ | refine WL_gno (b := true) rfl rfl (dT (by omega)) rfl rfl ?_ | (refine WL_r (by first | refine Run_pev rfl | refine k_add64 rfl rfl (by omega) | refine k_sub64 rfl rfl (by omega) | refine k_len rfl (Ty.isl rfl) | refine k_lens rfl (Ty.iss rfl) | refine k_not rfl | refine k_notb rfl | refine k_min rfl rfl | refine k_max rfl rfl | refine k_min3 rfl rfl rfl | refine k_max3 rfl rfl rfl | refine k_mul64 rfl rfl (by omega) | refine k_quo64 rfl rfl (by omega) | refine k_rem rfl rfl (by omega) | refine k_extract rfl rfl | apply k_makeFunc | refine k_convI rfl rfl rfl (by omega) | refine k_conv16 rfl rfl rfl (by omega) | refine k_conv64 rfl rfl rfl (by omega) | refine k_conv8 rfl rfl rfl (by omega) | refine k_convB rfl rfl rfl | refine k_convH rfl rfl rfl | refine k_convQ rfl rfl rfl | refine k_pick_f (dF (by omega)) rfl | refine k_pick_t (dT (by omega)) rfl) rfl ?_))
  refine WS_loop (G := (Nat)) (fun k => 16 - k) 4835408130553337345999040 (fun k => [(6, .int .u16 (s / 2 ^ (16 - k) : Nat)), (7, .int .i64 ((8 * l.length + k : Nat) : Int))]) (fun k w' => k ≤ 16 ∧ Hp [] w w' [Ro 5 1 a2 N c2 ((arr N f).map B)]) (0) ⟨congrArg (Value.int .u16) (by omega), congrArg (Value.int .i64) (by omega), trivial⟩ ⟨by omega, hH⟩ ?_
  rintro k w' σ3 ⟨hk, hH⟩ IH
  show WS _ _ _ _ _ (updL [(6, .int .u16 (s / 2 ^ (16 - k) : Nat)), (7, .int .i64 ((8 * l.length + k : Nat) : Int))] _) _
  by_cases hlt : k < 16
  · have hSo := (hH.o 0 rfl).sl
    have hv : ((arr N f).map B)[8 * l.length + k]? = some (B (s.testBit (15 - k)).toNat) := by rw [List.getElem?_map, arr_get (by omega), hbit k hlt]; rfl
    have hln : ((arr N f).map B).length = N := by simp [arr_len]
    have hst := num_step (s := s) hlt
    have hle := bool_le (s.testBit (15 - k))
    have hlt2 : s / 2 ^ (16 - (k + 1)) ≤ s := Nat.div_le_self _ _
    generalize s / 2 ^ (16 - k) = x at *
    generalize (s.testBit (15 - k)).toNat = y at *
    repeat (first | refine WS_seq ?_ | refine WS_region ?_ | refine WL_nil ?_ | refine WS_block ?_ | refine WS_inBlock ?_ | refine WS_skip ?_ | refine WS_label ?_ | refine WS_scope ?_ | refine WS_inScope ?_ | refine WS_exit rfl ?_ | refine WS_true rfl ?_ | refine WS_false rfl ?_ | refine WS_yes rfl (by omega) ?_ | refine WS_no rfl (by omega) ?_ | refine WL_gyes rfl rfl rfl ?_ | refine WL_gno rfl rfl rfl rfl rfl ?_ | refine WL_gund rfl rfl rfl ?_ | refine WL_gyes rfl rfl (dF (by omega)) ?_ | refine WL_gyes rfl rfl (dT (by omega)) ?_ | refine WL_gno (b := false) rfl rfl (dF (by omega)) rfl rfl ?_ | refine WL_gno (b := true) rfl rfl (dT (by omega)) rfl rfl ?_ | (refine WL_r (by first | refine k_ix1 rfl rfl hSo hln (Ty.sle rfl) (by omega) | refine k_loads rfl hSo hv (Ty.shp rfl) | refine k_mul16 (n := 2) rfl rfl (by omega) | refine k_add16 rfl rfl (by omega) | refine Run_pev rfl | refine k_add64 rfl rfl (by omega) | refine k_sub64 rfl rfl (by omega) | refine k_len rfl (Ty.isl rfl) | refine k_lens rfl (Ty.iss rfl) | refine k_not rfl | refine k_notb rfl | refine k_min rfl rfl | refine k_max rfl rfl | refine k_min3 rfl rfl rfl | refine k_max3 rfl rfl rfl | refine k_mul64 rfl rfl (by omega) | refine k_quo64 rfl rfl (by omega) | refine k_rem rfl rfl (by omega) | refine k_extract rfl rfl | apply k_makeFunc | refine k_convI rfl rfl rfl (by omega) | refine k_conv16 rfl rfl rfl (by omega) | refine k_conv64 rfl rfl rfl (by omega) | refine k_conv8 rfl rfl rfl (by omega) | refine k_convB rfl rfl rfl | refine k_convH rfl rfl rfl | refine k_convQ rfl rfl rfl | refine k_pick_f (dF (by omega)) rfl | refine k_pick_t (dT (by omega)) rfl) rfl ?_))
    refine IH (k + 1) _ _ ?_ ?_ ?_ ?_
    · omega
    · exact ⟨congrArg (Value.int .u16) (by omega), congrArg (Value.int .i64) (by omega), trivial⟩
    · exact (by repeat (first | with_reducible apply Agr.refl | refine Agr.upd rfl ?_ | refine Agr.updo rfl ?_ | refine Agr.updL rfl ?_ | refine Agr.mrg rfl ?_ | exact Agr.refl | refine Agr.updn ?_))
    · exact ⟨by omega, hH⟩
  · obtain rfl : k = 16 := by omega
    repeat (first | refine WS_seq ?_ | refine WS_region ?_ | refine WL_nil ?_ | refine WS_block ?_ | refine WS_inBlock ?_ | refine WS_skip ?_ | refine WS_label ?_ | refine WS_scope ?_ | refine WS_inScope ?_ | refine WS_exit rfl ?_ | refine WS_true rfl ?_ | refine WS_false rfl ?_ | refine WS_yes rfl (by omega) ?_ | refine WS_no rfl (by omega) ?_ | refine WL_gyes rfl rfl rfl ?_ | refine WL_gno rfl rfl rfl rfl rfl ?_ | refine WL_gund rfl rfl rfl ?_ | refine WL_gyes rfl rfl (dF (by omega)) ?_ | refine WL_gyes rfl rfl (dT (by omega)) ?_ | refine WL_gno (b := false) rfl rfl (dF (by omega)) rfl rfl ?_ | refine WL_gno (b := true) rfl rfl (dT (by omega)) rfl rfl ?_ | (refine WL_r (by first | refine Run_pev rfl | refine k_add64 rfl rfl (by omega) | refine k_sub64 rfl rfl (by omega) | refine k_len rfl (Ty.isl rfl) | refine k_lens rfl (Ty.iss rfl) | refine k_not rfl | refine k_notb rfl | refine k_min rfl rfl | refine k_max rfl rfl | refine k_min3 rfl rfl rfl | refine k_max3 rfl rfl rfl | refine k_mul64 rfl rfl (by omega) | refine k_quo64 rfl rfl (by omega) | refine k_rem rfl rfl (by omega) | refine k_extract rfl rfl | apply k_makeFunc | refine k_convI rfl rfl rfl (by omega) | refine k_conv16 rfl rfl rfl (by omega) | refine k_conv64 rfl rfl rfl (by omega) | refine k_conv8 rfl rfl rfl (by omega) | refine k_convB rfl rfl rfl | refine k_convH rfl rfl rfl | refine k_convQ rfl rfl rfl | refine k_pick_f (dF (by omega)) rfl | refine k_pick_t (dT (by omega)) rfl) rfl ?_))
    exact WS_ret1 Try.func55 rfl ⟨congrArg (Value.int .u16) (by simp), hH.ext⟩
end Go.Proofs.Ytnamafelcjgjfaa
