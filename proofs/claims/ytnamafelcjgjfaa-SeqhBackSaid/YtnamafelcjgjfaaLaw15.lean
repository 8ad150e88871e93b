/- Layer 15's own helpers: the fixed fact; heads that may be, of any. -/
import Derived.Test.YtnamafelcjgjfaaSh
import Derived.Test.YtnamafelcjgjfaaSeqhPut
import Derived.Test.YtnamafelcjgjfaaK8
import Derived.Test.YtnamafelcjgjfaaRows
namespace Go.Proofs.Ytnamafelcjgjfaa
open Go Go.K Go.P Go.RowKit Go.Proofs
/-- The first weights are made fit. -/
def mx (i : Nat) (A : List Nat) : List Nat := (A.take i).map (max · 8) ++ A.drop i
theorem mx_len (i : Nat) (A : List Nat) : (mx i A).length = A.length := by
  simp only [mx, List.length_append, List.length_map, List.length_take, List.length_drop]; omega
theorem mx_byt {i : Nat} {A : List Nat} (h : Byt A) : Byt (mx i A) := by
  refine Byt.append ?_ (fun x hx => h x (List.mem_of_mem_drop hx))
  intro x hx
  obtain ⟨y, hy, rfl⟩ := List.mem_map.1 hx
  have := h y (List.mem_of_mem_take hy); omega
theorem mx_at {i : Nat} {A : List Nat} (h : i < A.length) : (mx i A)[i]? = some A[i] := by
  unfold mx
  rw [List.getElem?_append_right (by simp; omega)]
  simp [Nat.min_eq_left (Nat.le_of_lt h), h]
theorem mx_next {i : Nat} {A : List Nat} (h : i < A.length) : (mx i A).set i (max A[i] 8) = mx (i + 1) A := by
  unfold mx
  have hl : ((A.take i).map (max · 8)).length = i := by rw [List.length_map, List.length_take]; omega
  rw [List.set_append_right _ _ (by omega), hl, Nat.sub_self, List.drop_eq_getElem_cons h, List.take_succ_eq_append_getElem h, List.map_append, List.append_assoc]
  rfl
theorem mx_all {A : List Nat} {i : Nat} (h : A.length ≤ i) : mx i A = A.map (max · 8) := by
  unfold mx; rw [List.take_of_length_le h, List.drop_of_length_le h, List.append_nil]
/-- A store into a table. -/
theorem tab_setA {wt : Bool} {A Bb : List Nat} {i x : Nat} (h : i < A.length) : (SH.tc ⟨0, 0, wt, A, Bb⟩).toArray.setIfInBounds (0 + 1 + i) (B x) = (SH.tc ⟨0, 0, wt, A.set i x, Bb⟩).toArray := by
  rw [List.setIfInBounds_toArray, show 0 + 1 + i = i + 1 by omega]
  simp only [SH.tc, List.set_cons_succ]
  rw [List.set_append_left _ _ (by simpa using h), List.map_set]
theorem tab_setB {wt : Bool} {A Bb : List Nat} {i x : Nat} (ha : A.length = 64) : (SH.tc ⟨0, 0, wt, A, Bb⟩).toArray.setIfInBounds (0 + 65 + i) (B x) = (SH.tc ⟨0, 0, wt, A, Bb.set i x⟩).toArray := by
  rw [List.setIfInBounds_toArray, show 0 + 65 + i = (i + 64) + 1 by omega]
  simp only [SH.tc, List.set_cons_succ]
  rw [List.set_append_right _ _ (by simp [ha]), List.map_set]
  simp [ha]
set_option maxRecDepth 20000 in
set_option maxHeartbeats 4000000 in
theorem tfit_spec {h : SH} (ho : h.ok) {w : World} : Does Try.prog 45 #[.agg h.tc.toArray] w fun v w' => v = .agg h.fit.tc.toArray ∧ Ext [] w w' := by
  refine Does_of (args := [_]) Try.func45 rfl rfl Try.ntmps45 rfl ?_
  have hH := Hp.start w
  have hla := ho.la
  have hlb := ho.lb
  have hba := ho.ba
  have hbb := ho.bb
  obtain ⟨c, r, wt, A, Bb⟩ := h
  simp only at hla hlb hba hbb
  rw [show SH.tc ⟨c, r, wt, A, Bb⟩ = SH.tc ⟨0, 0, wt, A, Bb⟩ from rfl]
  repeat (first | refine WS_seq ?_ | refine WS_region ?_ | refine WL_nil ?_ | refine WS_block ?_ | refine WS_inBlock ?_ | refine WS_skip ?_ | refine WS_label ?_ | refine WS_scope ?_ | refine WS_inScope ?_ | refine WS_exit rfl ?_ | refine WS_true rfl ?_ | refine WS_false rfl ?_ | refine WS_yes rfl (by omega) ?_ | refine WS_no rfl (by omega) ?_ | refine WL_gyes rfl rfl rfl ?_ | refine WL_gno rfl rfl rfl rfl rfl ?_ | refine WL_gund rfl rfl rfl ?_ | refine WL_gyes rfl rfl (dF (by omega)) ?_ | refine WL_gyes rfl rfl (dT (by omega)) ?_ | refine WL_gno (b := false) rfl rfl (dF (by omega)) rfl rfl ?_ | refine WL_gno (b := true) rfl rfl (dT (by omega)) rfl rfl ?_ | (refine WL_r (by first | refine Run_pev rfl | refine k_add64 rfl rfl (by omega) | refine k_sub64 rfl rfl (by omega) | refine k_len rfl (Ty.isl rfl) | refine k_lens rfl (Ty.iss rfl) | refine k_not rfl | refine k_notb rfl | refine k_min rfl rfl | refine k_max rfl rfl | refine k_min3 rfl rfl rfl | refine k_max3 rfl rfl rfl | refine k_mul64 rfl rfl (by omega) | refine k_quo64 rfl rfl (by omega) | refine k_rem rfl rfl (by omega) | refine k_extract rfl rfl | apply k_makeFunc | refine k_convI rfl rfl rfl (by omega) | refine k_conv16 rfl rfl rfl (by omega) | refine k_conv64 rfl rfl rfl (by omega) | refine k_conv8 rfl rfl rfl (by omega) | refine k_convB rfl rfl rfl | refine k_convH rfl rfl rfl | refine k_convQ rfl rfl rfl | refine k_pick_f (dF (by omega)) rfl | refine k_pick_t (dT (by omega)) rfl) rfl ?_))
  refine WL_s (H_box (cs := (SH.tc ⟨0, 0, wt, A, Bb⟩).toArray) hH rfl rfl rfl ?_)
  try clear hH
  intro w1 b1 hH
  first | change Hp _ _ _ [] at hH | change Hp _ _ _ [_] at hH | change Hp _ _ _ [_, _] at hH | change Hp _ _ _ [_, _, _] at hH | change Hp _ _ _ [_, _, _, _] at hH | change Hp _ _ _ [_, _, _, _, _] at hH | change Hp _ _ _ [_, _, _, _, _, _] at hH | change Hp _ _ _ [_, _, _, _, _, _, _] at hH | change Hp _ _ _ [_, _, _, _, _, _, _, _] at hH | change Hp _ _ _ [_, _, _, _, _, _, _, _, _] at hH
  repeat (first | refine WS_seq ?_ | refine WS_region ?_ | refine WL_nil ?_ | refine WS_block ?_ | refine WS_inBlock ?_ | refine WS_skip ?_ | refine WS_label ?_ | refine WS_scope ?_ | refine WS_inScope ?_ | refine WS_exit rfl ?_ | refine WS_true rfl ?_ | refine WS_false rfl ?_ | refine WS_yes rfl (by omega) ?_ | refine WS_no rfl (by omega) ?_ | refine WL_gyes rfl rfl rfl ?_ | refine WL_gno rfl rfl rfl rfl rfl ?_ | refine WL_gund rfl rfl rfl ?_ | refine WL_gyes rfl rfl (dF (by omega)) ?_ | refine WL_gyes rfl rfl (dT (by omega)) ?_ | refine WL_gno (b := false) rfl rfl (dF (by omega)) rfl rfl ?_ | refine WL_gno (b := true) rfl rfl (dT (by omega)) rfl rfl ?_ | (refine WL_r (by first | refine Run_pev rfl | refine k_add64 rfl rfl (by omega) | refine k_sub64 rfl rfl (by omega) | refine k_len rfl (Ty.isl rfl) | refine k_lens rfl (Ty.iss rfl) | refine k_not rfl | refine k_notb rfl | refine k_min rfl rfl | refine k_max rfl rfl | refine k_min3 rfl rfl rfl | refine k_max3 rfl rfl rfl | refine k_mul64 rfl rfl (by omega) | refine k_quo64 rfl rfl (by omega) | refine k_rem rfl rfl (by omega) | refine k_extract rfl rfl | apply k_makeFunc | refine k_convI rfl rfl rfl (by omega) | refine k_conv16 rfl rfl rfl (by omega) | refine k_conv64 rfl rfl rfl (by omega) | refine k_conv8 rfl rfl rfl (by omega) | refine k_convB rfl rfl rfl | refine k_convH rfl rfl rfl | refine k_convQ rfl rfl rfl | refine k_pick_f (dF (by omega)) rfl | refine k_pick_t (dT (by omega)) rfl) rfl ?_))
  refine WL_s (H_alloc hH (Ty.zer rfl) rfl ?_)
  try clear hH
  intro w2 b2 hH
  first | change Hp _ _ _ [] at hH | change Hp _ _ _ [_] at hH | change Hp _ _ _ [_, _] at hH | change Hp _ _ _ [_, _, _] at hH | change Hp _ _ _ [_, _, _, _] at hH | change Hp _ _ _ [_, _, _, _, _] at hH | change Hp _ _ _ [_, _, _, _, _, _] at hH | change Hp _ _ _ [_, _, _, _, _, _, _] at hH | change Hp _ _ _ [_, _, _, _, _, _, _, _] at hH | change Hp _ _ _ [_, _, _, _, _, _, _, _, _] at hH
  have hB : Blk w2 b1 24 (SH.tc ⟨0, 0, wt, A, Bb⟩).toArray := hH.b 0 rfl
  cases wt with
  | false =>
    repeat (first | refine WS_seq ?_ | refine WS_region ?_ | refine WL_nil ?_ | refine WS_block ?_ | refine WS_inBlock ?_ | refine WS_skip ?_ | refine WS_label ?_ | refine WS_scope ?_ | refine WS_inScope ?_ | refine WS_exit rfl ?_ | refine WS_true rfl ?_ | refine WS_false rfl ?_ | refine WS_yes rfl (by omega) ?_ | refine WS_no rfl (by omega) ?_ | refine WL_gyes rfl rfl rfl ?_ | refine WL_gno rfl rfl rfl rfl rfl ?_ | refine WL_gund rfl rfl rfl ?_ | refine WL_gyes rfl rfl (dF (by omega)) ?_ | refine WL_gyes rfl rfl (dT (by omega)) ?_ | refine WL_gno (b := false) rfl rfl (dF (by omega)) rfl rfl ?_ | refine WL_gno (b := true) rfl rfl (dT (by omega)) rfl rfl ?_ | (refine WL_r (by first | refine k_nilCheck rfl | refine k_fa rfl (Ty.fld rfl rfl) | refine k_loadb rfl hB rfl (Ty.shp rfl) | refine k_buildS (cs := SH.tc SH.zero) (Ty.zer rfl) (Ty.plc rfl) rfl | refine Run_pev rfl | refine k_add64 rfl rfl (by omega) | refine k_sub64 rfl rfl (by omega) | refine k_len rfl (Ty.isl rfl) | refine k_lens rfl (Ty.iss rfl) | refine k_not rfl | refine k_notb rfl | refine k_min rfl rfl | refine k_max rfl rfl | refine k_min3 rfl rfl rfl | refine k_max3 rfl rfl rfl | refine k_mul64 rfl rfl (by omega) | refine k_quo64 rfl rfl (by omega) | refine k_rem rfl rfl (by omega) | refine k_extract rfl rfl | apply k_makeFunc | refine k_convI rfl rfl rfl (by omega) | refine k_conv16 rfl rfl rfl (by omega) | refine k_conv64 rfl rfl rfl (by omega) | refine k_conv8 rfl rfl rfl (by omega) | refine k_convB rfl rfl rfl | refine k_convH rfl rfl rfl | refine k_convQ rfl rfl rfl | refine k_pick_f (dF (by omega)) rfl | refine k_pick_t (dT (by omega)) rfl) rfl ?_))
    refine WL_s (H_storeA 1 hH rfl rfl rfl rfl rfl (tc_one SH.zero) (Ty.shp rfl) ?_)
    try clear hH
    intro w3 hH
    first | change Hp _ _ _ [] at hH | change Hp _ _ _ [_] at hH | change Hp _ _ _ [_, _] at hH | change Hp _ _ _ [_, _, _] at hH | change Hp _ _ _ [_, _, _, _] at hH | change Hp _ _ _ [_, _, _, _, _] at hH | change Hp _ _ _ [_, _, _, _, _, _] at hH | change Hp _ _ _ [_, _, _, _, _, _, _] at hH | change Hp _ _ _ [_, _, _, _, _, _, _, _] at hH | change Hp _ _ _ [_, _, _, _, _, _, _, _, _] at hH
    repeat (first | refine WS_seq ?_ | refine WS_region ?_ | refine WL_nil ?_ | refine WS_block ?_ | refine WS_inBlock ?_ | refine WS_skip ?_ | refine WS_label ?_ | refine WS_scope ?_ | refine WS_inScope ?_ | refine WS_exit rfl ?_ | refine WS_true rfl ?_ | refine WS_false rfl ?_ | refine WS_yes rfl (by omega) ?_ | refine WS_no rfl (by omega) ?_ | refine WL_gyes rfl rfl rfl ?_ | refine WL_gno rfl rfl rfl rfl rfl ?_ | refine WL_gund rfl rfl rfl ?_ | refine WL_gyes rfl rfl (dF (by omega)) ?_ | refine WL_gyes rfl rfl (dT (by omega)) ?_ | refine WL_gno (b := false) rfl rfl (dF (by omega)) rfl rfl ?_ | refine WL_gno (b := true) rfl rfl (dT (by omega)) rfl rfl ?_ | (refine WL_r (by first | refine Run_pev rfl | refine k_add64 rfl rfl (by omega) | refine k_sub64 rfl rfl (by omega) | refine k_len rfl (Ty.isl rfl) | refine k_lens rfl (Ty.iss rfl) | refine k_not rfl | refine k_notb rfl | refine k_min rfl rfl | refine k_max rfl rfl | refine k_min3 rfl rfl rfl | refine k_max3 rfl rfl rfl | refine k_mul64 rfl rfl (by omega) | refine k_quo64 rfl rfl (by omega) | refine k_rem rfl rfl (by omega) | refine k_extract rfl rfl | apply k_makeFunc | refine k_convI rfl rfl rfl (by omega) | refine k_conv16 rfl rfl rfl (by omega) | refine k_conv64 rfl rfl rfl (by omega) | refine k_conv8 rfl rfl rfl (by omega) | refine k_convB rfl rfl rfl | refine k_convH rfl rfl rfl | refine k_convQ rfl rfl rfl | refine k_pick_f (dF (by omega)) rfl | refine k_pick_t (dT (by omega)) rfl) rfl ?_))
    exact WS_retc1 Try.func45 rfl rfl (hH.b 1 rfl) rfl (Ty.shp rfl) ⟨rfl, hH.ext⟩
  | true =>
    repeat (first | refine WS_seq ?_ | refine WS_region ?_ | refine WL_nil ?_ | refine WS_block ?_ | refine WS_inBlock ?_ | refine WS_skip ?_ | refine WS_label ?_ | refine WS_scope ?_ | refine WS_inScope ?_ | refine WS_exit rfl ?_ | refine WS_true rfl ?_ | refine WS_false rfl ?_ | refine WS_yes rfl (by omega) ?_ | refine WS_no rfl (by omega) ?_ | refine WL_gyes rfl rfl rfl ?_ | refine WL_gno rfl rfl rfl rfl rfl ?_ | refine WL_gund rfl rfl rfl ?_ | refine WL_gyes rfl rfl (dF (by omega)) ?_ | refine WL_gyes rfl rfl (dT (by omega)) ?_ | refine WL_gno (b := false) rfl rfl (dF (by omega)) rfl rfl ?_ | refine WL_gno (b := true) rfl rfl (dT (by omega)) rfl rfl ?_ | (refine WL_r (by first | refine k_nilCheck rfl | refine k_fa rfl (Ty.fld rfl rfl) | refine k_loadb rfl hB rfl (Ty.shp rfl) | refine Run_pev rfl | refine k_add64 rfl rfl (by omega) | refine k_sub64 rfl rfl (by omega) | refine k_len rfl (Ty.isl rfl) | refine k_lens rfl (Ty.iss rfl) | refine k_not rfl | refine k_notb rfl | refine k_min rfl rfl | refine k_max rfl rfl | refine k_min3 rfl rfl rfl | refine k_max3 rfl rfl rfl | refine k_mul64 rfl rfl (by omega) | refine k_quo64 rfl rfl (by omega) | refine k_rem rfl rfl (by omega) | refine k_extract rfl rfl | apply k_makeFunc | refine k_convI rfl rfl rfl (by omega) | refine k_conv16 rfl rfl rfl (by omega) | refine k_conv64 rfl rfl rfl (by omega) | refine k_conv8 rfl rfl rfl (by omega) | refine k_convB rfl rfl rfl | refine k_convH rfl rfl rfl | refine k_convQ rfl rfl rfl | refine k_pick_f (dF (by omega)) rfl | refine k_pick_t (dT (by omega)) rfl) rfl ?_))
    clear hB
    obtain ⟨z, hz⟩ : ∃ z : Array Value, z.size = 129 ∧ Hp [] w w2 [Rb b1 24 (SH.tc ⟨0, 0, true, A, Bb⟩).toArray, Rb b2 24 z] := ⟨_, rfl, hH⟩
    clear hH
    obtain ⟨hzs, hH⟩ := hz
    refine WS_loop (G := (Nat)) (fun i => 64 - i) 268435208 (fun i => [(8, .int .i64 i)]) (fun i w' => i ≤ 64 ∧ Hp [] w w' [Rb b1 24 (SH.tc ⟨0, 0, true, mx i A, mx i Bb⟩).toArray, Rb b2 24 z]) (0) ⟨rfl, trivial⟩ ⟨by omega, hH⟩ ?_
    rintro i w' σ ⟨hi, hH⟩ IH
    show WS _ _ _ _ _ (updL [(8, .int .i64 i)] _) _
    by_cases hlt : i < 64
    · have hmA := mx_len i A
      have hmB := mx_len i Bb
      have hvA : ((mx i A).map B)[i]? = some (B (A[i]'(by omega))) := by rw [List.getElem?_map, mx_at (by omega)]; rfl
      have hvB : ((mx i Bb).map B)[i]? = some (B (Bb[i]'(by omega))) := by rw [List.getElem?_map, mx_at (by omega)]; rfl
      have hnA := mx_next (i := i) (A := A) (by omega)
      have hnB := mx_next (i := i) (A := Bb) (by omega)
      generalize A[i]'(by omega) = xA at *
      generalize Bb[i]'(by omega) = xB at *
      repeat (first | refine WS_seq ?_ | refine WS_region ?_ | refine WL_nil ?_ | refine WS_block ?_ | refine WS_inBlock ?_ | refine WS_skip ?_ | refine WS_label ?_ | refine WS_scope ?_ | refine WS_inScope ?_ | refine WS_exit rfl ?_ | refine WS_true rfl ?_ | refine WS_false rfl ?_ | refine WS_yes rfl (by omega) ?_ | refine WS_no rfl (by omega) ?_ | refine WL_gyes rfl rfl rfl ?_ | refine WL_gno rfl rfl rfl rfl rfl ?_ | refine WL_gund rfl rfl rfl ?_ | refine WL_gyes rfl rfl (dF (by omega)) ?_ | refine WL_gyes rfl rfl (dT (by omega)) ?_ | refine WL_gno (b := false) rfl rfl (dF (by omega)) rfl rfl ?_ | refine WL_gno (b := true) rfl rfl (dT (by omega)) rfl rfl ?_ | (refine WL_r (by first | refine Run_pev rfl | refine k_add64 rfl rfl (by omega) | refine k_sub64 rfl rfl (by omega) | refine k_len rfl (Ty.isl rfl) | refine k_lens rfl (Ty.iss rfl) | refine k_not rfl | refine k_notb rfl | refine k_min rfl rfl | refine k_max rfl rfl | refine k_min3 rfl rfl rfl | refine k_max3 rfl rfl rfl | refine k_mul64 rfl rfl (by omega) | refine k_quo64 rfl rfl (by omega) | refine k_rem rfl rfl (by omega) | refine k_extract rfl rfl | apply k_makeFunc | refine k_convI rfl rfl rfl (by omega) | refine k_conv16 rfl rfl rfl (by omega) | refine k_conv64 rfl rfl rfl (by omega) | refine k_conv8 rfl rfl rfl (by omega) | refine k_convB rfl rfl rfl | refine k_convH rfl rfl rfl | refine k_convQ rfl rfl rfl | refine k_pick_f (dF (by omega)) rfl | refine k_pick_t (dT (by omega)) rfl) rfl ?_))
      refine WS_draw Ty.mixed (fun u => Ext [b1] w' u) 18 rfl ?_
      replace hH := hH.ext0 (Ext.drew0 (S := []))
      have hx0 : Ext [b1] w' w'.drew := Ext.drew0
      generalize w'.drew = u0 at *
      have hBt : Blk u0 b1 24 (SH.tc ⟨0, 0, true, mx i A, mx i Bb⟩).toArray := hH.b 0 rfl
      have hmo : SH.ok ⟨0, 0, true, mx i A, mx i Bb⟩ := ⟨by simp only; omega, by simp only; omega, mx_byt hba, mx_byt hbb⟩
      obtain ⟨_, hSA, hSB⟩ := tc_sl hmo hBt.sl0
      have htz : (SH.tc ⟨0, 0, true, mx i A, mx i Bb⟩).toArray.size = 129 := by rw [List.size_toArray]; exact SH.tc_len hmo
      have htz2 : (SH.tc ⟨0, 0, true, mx (i + 1) A, mx i Bb⟩).toArray.size = 129 := by
        rw [List.size_toArray]
        simp [SH.tc, mx_len, hla, hlb]
      have eA : max (xA : Int) 8 = ((max xA 8 : Nat) : Int) := by omega
      have eB : max (xB : Int) 8 = ((max xB 8 : Nat) : Int) := by omega
      refine WA_take 0 rfl (by kernel_rfl) hx0 rfl rfl (fun w' hw' => by first | refine Run_pev rfl) ?_
      refine WA_take 1 rfl (by kernel_rfl) hx0 rfl rfl (fun w' hw' => by first | refine Run_pev rfl) ?_
      refine WA_take 2 rfl (by kernel_rfl) hx0 rfl rfl (fun w' hw' => by first | refine Run_pev rfl) ?_
      refine WA_take 3 rfl (by kernel_rfl) hx0 rfl rfl (fun w' hw' => by first | refine k_fa rfl (Ty.fld rfl rfl)) ?_
      refine WA_take 4 rfl (by kernel_rfl) hx0 rfl rfl (fun w' hw' => by first | refine k_ixa1 rfl rfl (Ty.arr rfl) (by omega)) ?_
      refine WA_take 7 rfl (by kernel_rfl) hx0 rfl rfl (fun w' hw' => by first | refine Run_pev rfl) ?_
      refine WA_take 8 rfl (by kernel_rfl) hx0 rfl rfl (fun w' hw' => by first | refine k_fa rfl (Ty.fld rfl rfl)) ?_
      refine WA_take 9 rfl (by kernel_rfl) hx0 rfl rfl (fun w' hw' => by first | refine k_ixa1 rfl rfl (Ty.arr rfl) (by omega)) ?_
      refine WA_take 12 rfl (by kernel_rfl) hx0 rfl rfl (fun w' hw' => by first | refine k_fa rfl (Ty.fld rfl rfl)) ?_
      refine WA_take 15 rfl (by kernel_rfl) hx0 rfl rfl (fun w' hw' => by first | refine k_fa rfl (Ty.fld rfl rfl)) ?_
      refine WA_two 5 10 (by kernel_rfl) rfl rfl rfl rfl ?_ ?_
      · refine S_run (k_loads rfl hSA hvA (Ty.shp rfl)) rfl ⟨hx0, ?_⟩
        refine WA_take 6 rfl (by kernel_rfl) hx0 rfl rfl (fun w' hw' => by first | refine (k_max rfl rfl).is (congrArg (Value.int .u8) eA) | refine k_max rfl rfl | refine k_max3 rfl rfl rfl) ?_
        refine WA_one 10 (by kernel_rfl) rfl rfl (S_run (k_loads rfl hSB hvB (Ty.shp rfl)) rfl ⟨hx0, ?_⟩)
        refine WA_take 11 rfl (by kernel_rfl) hx0 rfl rfl (fun w' hw' => by first | refine (k_max rfl rfl).is (congrArg (Value.int .u8) eB) | refine k_max rfl rfl | refine k_max3 rfl rfl rfl) ?_
        refine WA_take 13 rfl (by kernel_rfl) hx0 rfl rfl (fun w' hw' => by first | refine k_ixa1 rfl rfl (Ty.arr rfl) (by omega)) ?_
        refine WA_one 14 (by kernel_rfl) rfl rfl (S_store (v := B (max xA 8)) rfl rfl hBt (by rw [htz]; simp; omega) rfl (Ty.shp rfl) ?_)
        intro u1 hE1 hB1 _
        have hB1' : Blk u1 b1 24 ((SH.tc ⟨0, 0, true, mx i A, mx i Bb⟩).toArray.setIfInBounds (0 + 1 + i) (B (max xA 8))) := hB1
        rw [tab_setA (by omega), hnA] at hB1'
        clear hB1
        replace hH := hH.up 0 rfl (r' := Rb b1 24 _) ⟨hE1, hB1', fun _ hx => .inl hx⟩
        first | change Hp _ _ _ [] at hH | change Hp _ _ _ [_] at hH | change Hp _ _ _ [_, _] at hH | change Hp _ _ _ [_, _, _] at hH | change Hp _ _ _ [_, _, _, _] at hH | change Hp _ _ _ [_, _, _, _, _] at hH | change Hp _ _ _ [_, _, _, _, _, _] at hH | change Hp _ _ _ [_, _, _, _, _, _, _] at hH | change Hp _ _ _ [_, _, _, _, _, _, _, _] at hH | change Hp _ _ _ [_, _, _, _, _, _, _, _, _] at hH
        have hx1 := hx0.then1' hE1
        refine ⟨hx1, ?_⟩
        refine WA_take 16 rfl (by kernel_rfl) hx1 rfl rfl (fun w' hw' => by first | refine k_ixa1 rfl rfl (Ty.arr rfl) (by omega)) ?_
        refine WA_one 17 (by kernel_rfl) rfl rfl (S_store (v := B (max xB 8)) rfl rfl hB1' (by rw [htz2]; simp; omega) rfl (Ty.shp rfl) ?_)
        intro u2 hE2 hB2 _
        have hB2' : Blk u2 b1 24 ((SH.tc ⟨0, 0, true, mx (i + 1) A, mx i Bb⟩).toArray.setIfInBounds (0 + 65 + i) (B (max xB 8))) := hB2
        rw [tab_setB (by rw [mx_len]; exact hla), hnB] at hB2'
        clear hB2
        replace hH := hH.up 0 rfl (r' := Rb b1 24 _) ⟨hE2, hB2', fun _ hx => .inl hx⟩
        first | change Hp _ _ _ [] at hH | change Hp _ _ _ [_] at hH | change Hp _ _ _ [_, _] at hH | change Hp _ _ _ [_, _, _] at hH | change Hp _ _ _ [_, _, _, _] at hH | change Hp _ _ _ [_, _, _, _, _] at hH | change Hp _ _ _ [_, _, _, _, _, _] at hH | change Hp _ _ _ [_, _, _, _, _, _, _] at hH | change Hp _ _ _ [_, _, _, _, _, _, _, _] at hH | change Hp _ _ _ [_, _, _, _, _, _, _, _, _] at hH
        refine ⟨hx1.then1' hE2, ?_⟩
        refine WA_done (by kernel_rfl) ?_
        repeat (first | refine WS_seq ?_ | refine WS_region ?_ | refine WL_nil ?_ | refine WS_block ?_ | refine WS_inBlock ?_ | refine WS_skip ?_ | refine WS_label ?_ | refine WS_scope ?_ | refine WS_inScope ?_ | refine WS_exit rfl ?_ | refine WS_true rfl ?_ | refine WS_false rfl ?_ | refine WS_yes rfl (by omega) ?_ | refine WS_no rfl (by omega) ?_ | refine WL_gyes rfl rfl rfl ?_ | refine WL_gno rfl rfl rfl rfl rfl ?_ | refine WL_gund rfl rfl rfl ?_ | refine WL_gyes rfl rfl (dF (by omega)) ?_ | refine WL_gyes rfl rfl (dT (by omega)) ?_ | refine WL_gno (b := false) rfl rfl (dF (by omega)) rfl rfl ?_ | refine WL_gno (b := true) rfl rfl (dT (by omega)) rfl rfl ?_ | (refine WL_r (by first | refine Run_pev rfl | refine k_add64 rfl rfl (by omega) | refine k_sub64 rfl rfl (by omega) | refine k_len rfl (Ty.isl rfl) | refine k_lens rfl (Ty.iss rfl) | refine k_not rfl | refine k_notb rfl | refine k_min rfl rfl | refine k_max rfl rfl | refine k_min3 rfl rfl rfl | refine k_max3 rfl rfl rfl | refine k_mul64 rfl rfl (by omega) | refine k_quo64 rfl rfl (by omega) | refine k_rem rfl rfl (by omega) | refine k_extract rfl rfl | apply k_makeFunc | refine k_convI rfl rfl rfl (by omega) | refine k_conv16 rfl rfl rfl (by omega) | refine k_conv64 rfl rfl rfl (by omega) | refine k_conv8 rfl rfl rfl (by omega) | refine k_convB rfl rfl rfl | refine k_convH rfl rfl rfl | refine k_convQ rfl rfl rfl | refine k_pick_f (dF (by omega)) rfl | refine k_pick_t (dT (by omega)) rfl) rfl ?_))
        refine IH (i + 1) _ _ ?_ ?_ ?_ ?_
        · omega
        · exact ⟨rfl, trivial⟩
        · exact (by repeat (first | with_reducible apply Agr.refl | refine Agr.upd rfl ?_ | refine Agr.updo rfl ?_ | refine Agr.updL rfl ?_ | refine Agr.mrg rfl ?_ | exact Agr.refl | refine Agr.updn ?_))
        · exact ⟨by omega, hH⟩
      · refine S_run (k_loads rfl hSB hvB (Ty.shp rfl)) rfl ⟨hx0, ?_⟩
        refine WA_take 11 rfl (by kernel_rfl) hx0 rfl rfl (fun w' hw' => by first | refine (k_max rfl rfl).is (congrArg (Value.int .u8) eB) | refine k_max rfl rfl | refine k_max3 rfl rfl rfl) ?_
        refine WA_one 5 (by kernel_rfl) rfl rfl (S_run (k_loads rfl hSA hvA (Ty.shp rfl)) rfl ⟨hx0, ?_⟩)
        refine WA_take 6 rfl (by kernel_rfl) hx0 rfl rfl (fun w' hw' => by first | refine (k_max rfl rfl).is (congrArg (Value.int .u8) eA) | refine k_max rfl rfl | refine k_max3 rfl rfl rfl) ?_
        refine WA_take 13 rfl (by kernel_rfl) hx0 rfl rfl (fun w' hw' => by first | refine k_ixa1 rfl rfl (Ty.arr rfl) (by omega)) ?_
        refine WA_one 14 (by kernel_rfl) rfl rfl (S_store (v := B (max xA 8)) rfl rfl hBt (by rw [htz]; simp; omega) rfl (Ty.shp rfl) ?_)
        intro u1 hE1 hB1 _
        have hB1' : Blk u1 b1 24 ((SH.tc ⟨0, 0, true, mx i A, mx i Bb⟩).toArray.setIfInBounds (0 + 1 + i) (B (max xA 8))) := hB1
        rw [tab_setA (by omega), hnA] at hB1'
        clear hB1
        replace hH := hH.up 0 rfl (r' := Rb b1 24 _) ⟨hE1, hB1', fun _ hx => .inl hx⟩
        first | change Hp _ _ _ [] at hH | change Hp _ _ _ [_] at hH | change Hp _ _ _ [_, _] at hH | change Hp _ _ _ [_, _, _] at hH | change Hp _ _ _ [_, _, _, _] at hH | change Hp _ _ _ [_, _, _, _, _] at hH | change Hp _ _ _ [_, _, _, _, _, _] at hH | change Hp _ _ _ [_, _, _, _, _, _, _] at hH | change Hp _ _ _ [_, _, _, _, _, _, _, _] at hH | change Hp _ _ _ [_, _, _, _, _, _, _, _, _] at hH
        have hx1 := hx0.then1' hE1
        refine ⟨hx1, ?_⟩
        refine WA_take 16 rfl (by kernel_rfl) hx1 rfl rfl (fun w' hw' => by first | refine k_ixa1 rfl rfl (Ty.arr rfl) (by omega)) ?_
        refine WA_one 17 (by kernel_rfl) rfl rfl (S_store (v := B (max xB 8)) rfl rfl hB1' (by rw [htz2]; simp; omega) rfl (Ty.shp rfl) ?_)
        intro u2 hE2 hB2 _
        have hB2' : Blk u2 b1 24 ((SH.tc ⟨0, 0, true, mx (i + 1) A, mx i Bb⟩).toArray.setIfInBounds (0 + 65 + i) (B (max xB 8))) := hB2
        rw [tab_setB (by rw [mx_len]; exact hla), hnB] at hB2'
        clear hB2
        replace hH := hH.up 0 rfl (r' := Rb b1 24 _) ⟨hE2, hB2', fun _ hx => .inl hx⟩
        first | change Hp _ _ _ [] at hH | change Hp _ _ _ [_] at hH | change Hp _ _ _ [_, _] at hH | change Hp _ _ _ [_, _, _] at hH | change Hp _ _ _ [_, _, _, _] at hH | change Hp _ _ _ [_, _, _, _, _] at hH | change Hp _ _ _ [_, _, _, _, _, _] at hH | change Hp _ _ _ [_, _, _, _, _, _, _] at hH | change Hp _ _ _ [_, _, _, _, _, _, _, _] at hH | change Hp _ _ _ [_, _, _, _, _, _, _, _, _] at hH
        refine ⟨hx1.then1' hE2, ?_⟩
        refine WA_done (by kernel_rfl) ?_
        repeat (first | refine WS_seq ?_ | refine WS_region ?_ | refine WL_nil ?_ | refine WS_block ?_ | refine WS_inBlock ?_ | refine WS_skip ?_ | refine WS_label ?_ | refine WS_scope ?_ | refine WS_inScope ?_ | refine WS_exit rfl ?_ | refine WS_true rfl ?_ | refine WS_false rfl ?_ | refine WS_yes rfl (by omega) ?_ | refine WS_no rfl (by omega) ?_ | refine WL_gyes rfl rfl rfl ?_ | refine WL_gno rfl rfl rfl rfl rfl ?_ | refine WL_gund rfl rfl rfl ?_ | refine WL_gyes rfl rfl (dF (by omega)) ?_ | refine WL_gyes rfl rfl (dT (by omega)) ?_ | refine WL_gno (b := false) rfl rfl (dF (by omega)) rfl rfl ?_ | refine WL_gno (b := true) rfl rfl (dT (by omega)) rfl rfl ?_ | (refine WL_r (by first | refine Run_pev rfl | refine k_add64 rfl rfl (by omega) | refine k_sub64 rfl rfl (by omega) | refine k_len rfl (Ty.isl rfl) | refine k_lens rfl (Ty.iss rfl) | refine k_not rfl | refine k_notb rfl | refine k_min rfl rfl | refine k_max rfl rfl | refine k_min3 rfl rfl rfl | refine k_max3 rfl rfl rfl | refine k_mul64 rfl rfl (by omega) | refine k_quo64 rfl rfl (by omega) | refine k_rem rfl rfl (by omega) | refine k_extract rfl rfl | apply k_makeFunc | refine k_convI rfl rfl rfl (by omega) | refine k_conv16 rfl rfl rfl (by omega) | refine k_conv64 rfl rfl rfl (by omega) | refine k_conv8 rfl rfl rfl (by omega) | refine k_convB rfl rfl rfl | refine k_convH rfl rfl rfl | refine k_convQ rfl rfl rfl | refine k_pick_f (dF (by omega)) rfl | refine k_pick_t (dT (by omega)) rfl) rfl ?_))
        refine IH (i + 1) _ _ ?_ ?_ ?_ ?_
        · omega
        · exact ⟨rfl, trivial⟩
        · exact (by repeat (first | with_reducible apply Agr.refl | refine Agr.upd rfl ?_ | refine Agr.updo rfl ?_ | refine Agr.updL rfl ?_ | refine Agr.mrg rfl ?_ | exact Agr.refl | refine Agr.updn ?_))
        · exact ⟨by omega, hH⟩
    · obtain rfl : i = 64 := by omega
      clear IH
      rw [mx_all (by omega), mx_all (by omega)] at hH
      have hft : SH.tc ⟨0, 0, true, A.map (max · 8), Bb.map (max · 8)⟩ = (SH.fit ⟨c, r, true, A, Bb⟩).tc := by simp [SH.tc, SH.fit]
      rw [hft] at hH
      have hfl : (SH.fit ⟨c, r, true, A, Bb⟩).tc.toArray.size = 129 := by rw [List.size_toArray]; exact SH.tc_len (SH.fit_ok ho)
      have hBt : Blk w' b1 24 (SH.fit ⟨c, r, true, A, Bb⟩).tc.toArray := hH.b 0 rfl
      repeat (first | refine WS_seq ?_ | refine WS_region ?_ | refine WL_nil ?_ | refine WS_block ?_ | refine WS_inBlock ?_ | refine WS_skip ?_ | refine WS_label ?_ | refine WS_scope ?_ | refine WS_inScope ?_ | refine WS_exit rfl ?_ | refine WS_true rfl ?_ | refine WS_false rfl ?_ | refine WS_yes rfl (by omega) ?_ | refine WS_no rfl (by omega) ?_ | refine WL_gyes rfl rfl rfl ?_ | refine WL_gno rfl rfl rfl rfl rfl ?_ | refine WL_gund rfl rfl rfl ?_ | refine WL_gyes rfl rfl (dF (by omega)) ?_ | refine WL_gyes rfl rfl (dT (by omega)) ?_ | refine WL_gno (b := false) rfl rfl (dF (by omega)) rfl rfl ?_ | refine WL_gno (b := true) rfl rfl (dT (by omega)) rfl rfl ?_ | (refine WL_r (by first | refine k_loadA rfl hBt hfl (Ty.shp rfl) | refine Run_pev rfl | refine k_add64 rfl rfl (by omega) | refine k_sub64 rfl rfl (by omega) | refine k_len rfl (Ty.isl rfl) | refine k_lens rfl (Ty.iss rfl) | refine k_not rfl | refine k_notb rfl | refine k_min rfl rfl | refine k_max rfl rfl | refine k_min3 rfl rfl rfl | refine k_max3 rfl rfl rfl | refine k_mul64 rfl rfl (by omega) | refine k_quo64 rfl rfl (by omega) | refine k_rem rfl rfl (by omega) | refine k_extract rfl rfl | apply k_makeFunc | refine k_convI rfl rfl rfl (by omega) | refine k_conv16 rfl rfl rfl (by omega) | refine k_conv64 rfl rfl rfl (by omega) | refine k_conv8 rfl rfl rfl (by omega) | refine k_convB rfl rfl rfl | refine k_convH rfl rfl rfl | refine k_convQ rfl rfl rfl | refine k_pick_f (dF (by omega)) rfl | refine k_pick_t (dT (by omega)) rfl) rfl ?_))
      refine WL_s (H_storeA 1 hH rfl rfl rfl hfl hzs (tc_one _) (Ty.shp rfl) ?_)
      try clear hH
      intro w3 hH
      first | change Hp _ _ _ [] at hH | change Hp _ _ _ [_] at hH | change Hp _ _ _ [_, _] at hH | change Hp _ _ _ [_, _, _] at hH | change Hp _ _ _ [_, _, _, _] at hH | change Hp _ _ _ [_, _, _, _, _] at hH | change Hp _ _ _ [_, _, _, _, _, _] at hH | change Hp _ _ _ [_, _, _, _, _, _, _] at hH | change Hp _ _ _ [_, _, _, _, _, _, _, _] at hH | change Hp _ _ _ [_, _, _, _, _, _, _, _, _] at hH
      repeat (first | refine WS_seq ?_ | refine WS_region ?_ | refine WL_nil ?_ | refine WS_block ?_ | refine WS_inBlock ?_ | refine WS_skip ?_ | refine WS_label ?_ | refine WS_scope ?_ | refine WS_inScope ?_ | refine WS_exit rfl ?_ | refine WS_true rfl ?_ | refine WS_false rfl ?_ | refine WS_yes rfl (by omega) ?_ | refine WS_no rfl (by omega) ?_ | refine WL_gyes rfl rfl rfl ?_ | refine WL_gno rfl rfl rfl rfl rfl ?_ | refine WL_gund rfl rfl rfl ?_ | refine WL_gyes rfl rfl (dF (by omega)) ?_ | refine WL_gyes rfl rfl (dT (by omega)) ?_ | refine WL_gno (b := false) rfl rfl (dF (by omega)) rfl rfl ?_ | refine WL_gno (b := true) rfl rfl (dT (by omega)) rfl rfl ?_ | (refine WL_r (by first | refine Run_pev rfl | refine k_add64 rfl rfl (by omega) | refine k_sub64 rfl rfl (by omega) | refine k_len rfl (Ty.isl rfl) | refine k_lens rfl (Ty.iss rfl) | refine k_not rfl | refine k_notb rfl | refine k_min rfl rfl | refine k_max rfl rfl | refine k_min3 rfl rfl rfl | refine k_max3 rfl rfl rfl | refine k_mul64 rfl rfl (by omega) | refine k_quo64 rfl rfl (by omega) | refine k_rem rfl rfl (by omega) | refine k_extract rfl rfl | apply k_makeFunc | refine k_convI rfl rfl rfl (by omega) | refine k_conv16 rfl rfl rfl (by omega) | refine k_conv64 rfl rfl rfl (by omega) | refine k_conv8 rfl rfl rfl (by omega) | refine k_convB rfl rfl rfl | refine k_convH rfl rfl rfl | refine k_convQ rfl rfl rfl | refine k_pick_f (dF (by omega)) rfl | refine k_pick_t (dT (by omega)) rfl) rfl ?_))
      exact WS_retc1 Try.func45 rfl rfl (hH.b 1 rfl) hfl (Ty.shp rfl) ⟨rfl, hH.ext⟩
theorem fill3 {zs tc : List Value} {a b : Int} (hz : zs.length = 131) (ht : tc.length = 129) : fillL (fun i => ([(0, 1), (1, 1), (2, 129)] : List (Nat × Nat))[i]?) zs [(0, .int .i64 a), (1, .int .i64 b), (2, .agg tc.toArray)] = some (.int .i64 a :: .int .i64 b :: tc) := by
  match zs, hz with
  | x :: y :: zs, hz =>
    have hz' : zs.length = 129 := by simpa using hz
    simp [fillL, splice, Value.cells, hz', ht]
    rw [List.drop_of_length_le (by omega), List.append_nil]
    rfl
set_option maxRecDepth 20000 in
set_option maxHeartbeats 4000000 in
theorem sfit_spec {h : SH} (ho : h.ok) {w : World} : Does Try.prog 14 #[.agg h.cells.toArray] w fun v w' => v = .agg h.fit.cells.toArray ∧ Ext [] w w' := by
  refine Does_of (args := [_]) Try.func14 rfl rfl Try.ntmps14 rfl ?_
  have hH := Hp.start w
  repeat (first | refine WS_seq ?_ | refine WS_region ?_ | refine WL_nil ?_ | refine WS_block ?_ | refine WS_inBlock ?_ | refine WS_skip ?_ | refine WS_label ?_ | refine WS_scope ?_ | refine WS_inScope ?_ | refine WS_exit rfl ?_ | refine WS_true rfl ?_ | refine WS_false rfl ?_ | refine WS_yes rfl (by omega) ?_ | refine WS_no rfl (by omega) ?_ | refine WL_gyes rfl rfl rfl ?_ | refine WL_gno rfl rfl rfl rfl rfl ?_ | refine WL_gund rfl rfl rfl ?_ | refine WL_gyes rfl rfl (dF (by omega)) ?_ | refine WL_gyes rfl rfl (dT (by omega)) ?_ | refine WL_gno (b := false) rfl rfl (dF (by omega)) rfl rfl ?_ | refine WL_gno (b := true) rfl rfl (dT (by omega)) rfl rfl ?_ | (refine WL_r (by first | refine Run_pev rfl | refine k_add64 rfl rfl (by omega) | refine k_sub64 rfl rfl (by omega) | refine k_len rfl (Ty.isl rfl) | refine k_lens rfl (Ty.iss rfl) | refine k_not rfl | refine k_notb rfl | refine k_min rfl rfl | refine k_max rfl rfl | refine k_min3 rfl rfl rfl | refine k_max3 rfl rfl rfl | refine k_mul64 rfl rfl (by omega) | refine k_quo64 rfl rfl (by omega) | refine k_rem rfl rfl (by omega) | refine k_extract rfl rfl | apply k_makeFunc | refine k_convI rfl rfl rfl (by omega) | refine k_conv16 rfl rfl rfl (by omega) | refine k_conv64 rfl rfl rfl (by omega) | refine k_conv8 rfl rfl rfl (by omega) | refine k_convB rfl rfl rfl | refine k_convH rfl rfl rfl | refine k_convQ rfl rfl rfl | refine k_pick_f (dF (by omega)) rfl | refine k_pick_t (dT (by omega)) rfl) rfl ?_))
  refine WL_s (H_box (cs := h.cells.toArray) hH rfl rfl rfl ?_)
  try clear hH
  intro w1 b1 hH
  first | change Hp _ _ _ [] at hH | change Hp _ _ _ [_] at hH | change Hp _ _ _ [_, _] at hH | change Hp _ _ _ [_, _, _] at hH | change Hp _ _ _ [_, _, _, _] at hH | change Hp _ _ _ [_, _, _, _, _] at hH | change Hp _ _ _ [_, _, _, _, _, _] at hH | change Hp _ _ _ [_, _, _, _, _, _, _] at hH | change Hp _ _ _ [_, _, _, _, _, _, _, _] at hH | change Hp _ _ _ [_, _, _, _, _, _, _, _, _] at hH
  repeat (first | refine WS_seq ?_ | refine WS_region ?_ | refine WL_nil ?_ | refine WS_block ?_ | refine WS_inBlock ?_ | refine WS_skip ?_ | refine WS_label ?_ | refine WS_scope ?_ | refine WS_inScope ?_ | refine WS_exit rfl ?_ | refine WS_true rfl ?_ | refine WS_false rfl ?_ | refine WS_yes rfl (by omega) ?_ | refine WS_no rfl (by omega) ?_ | refine WL_gyes rfl rfl rfl ?_ | refine WL_gno rfl rfl rfl rfl rfl ?_ | refine WL_gund rfl rfl rfl ?_ | refine WL_gyes rfl rfl (dF (by omega)) ?_ | refine WL_gyes rfl rfl (dT (by omega)) ?_ | refine WL_gno (b := false) rfl rfl (dF (by omega)) rfl rfl ?_ | refine WL_gno (b := true) rfl rfl (dT (by omega)) rfl rfl ?_ | (refine WL_r (by first | refine Run_pev rfl | refine k_add64 rfl rfl (by omega) | refine k_sub64 rfl rfl (by omega) | refine k_len rfl (Ty.isl rfl) | refine k_lens rfl (Ty.iss rfl) | refine k_not rfl | refine k_notb rfl | refine k_min rfl rfl | refine k_max rfl rfl | refine k_min3 rfl rfl rfl | refine k_max3 rfl rfl rfl | refine k_mul64 rfl rfl (by omega) | refine k_quo64 rfl rfl (by omega) | refine k_rem rfl rfl (by omega) | refine k_extract rfl rfl | apply k_makeFunc | refine k_convI rfl rfl rfl (by omega) | refine k_conv16 rfl rfl rfl (by omega) | refine k_conv64 rfl rfl rfl (by omega) | refine k_conv8 rfl rfl rfl (by omega) | refine k_convB rfl rfl rfl | refine k_convH rfl rfl rfl | refine k_convQ rfl rfl rfl | refine k_pick_f (dF (by omega)) rfl | refine k_pick_t (dT (by omega)) rfl) rfl ?_))
  refine WL_s (H_alloc hH (Ty.zer rfl) rfl ?_)
  try clear hH
  intro w2 b2 hH
  first | change Hp _ _ _ [] at hH | change Hp _ _ _ [_] at hH | change Hp _ _ _ [_, _] at hH | change Hp _ _ _ [_, _, _] at hH | change Hp _ _ _ [_, _, _, _] at hH | change Hp _ _ _ [_, _, _, _, _] at hH | change Hp _ _ _ [_, _, _, _, _, _] at hH | change Hp _ _ _ [_, _, _, _, _, _, _] at hH | change Hp _ _ _ [_, _, _, _, _, _, _, _] at hH | change Hp _ _ _ [_, _, _, _, _, _, _, _, _] at hH
  have hB : Blk w2 b1 26 h.cells.toArray := hH.b 0 rfl
  have hS : SlA w2 (some ⟨b1, 0, none⟩) h.cells := hB.sl0
  have htc := cells_tc ho
  have htl := SH.tc_len ho
  have hfl := SH.tc_len (SH.fit_ok ho)
  have hfc : h.fit.cells.toArray.size = 131 := by rw [List.size_toArray]; exact SH.cells_len (SH.fit_ok ho)
  have e1 : h.c % ((2 ^ 3 : Nat) : Int) = h.c % 8 := rfl
  have e2 : h.r % ((2 ^ 3 : Nat) : Int) = h.r % 8 := rfl
  repeat (first | refine WS_seq ?_ | refine WS_region ?_ | refine WL_nil ?_ | refine WS_block ?_ | refine WS_inBlock ?_ | refine WS_skip ?_ | refine WS_label ?_ | refine WS_scope ?_ | refine WS_inScope ?_ | refine WS_exit rfl ?_ | refine WS_true rfl ?_ | refine WS_false rfl ?_ | refine WS_yes rfl (by omega) ?_ | refine WS_no rfl (by omega) ?_ | refine WL_gyes rfl rfl rfl ?_ | refine WL_gno rfl rfl rfl rfl rfl ?_ | refine WL_gund rfl rfl rfl ?_ | refine WL_gyes rfl rfl (dF (by omega)) ?_ | refine WL_gyes rfl rfl (dT (by omega)) ?_ | refine WL_gno (b := false) rfl rfl (dF (by omega)) rfl rfl ?_ | refine WL_gno (b := true) rfl rfl (dT (by omega)) rfl rfl ?_ | (refine WL_r (by first | refine Run_pev rfl | refine k_add64 rfl rfl (by omega) | refine k_sub64 rfl rfl (by omega) | refine k_len rfl (Ty.isl rfl) | refine k_lens rfl (Ty.iss rfl) | refine k_not rfl | refine k_notb rfl | refine k_min rfl rfl | refine k_max rfl rfl | refine k_min3 rfl rfl rfl | refine k_max3 rfl rfl rfl | refine k_mul64 rfl rfl (by omega) | refine k_quo64 rfl rfl (by omega) | refine k_rem rfl rfl (by omega) | refine k_extract rfl rfl | apply k_makeFunc | refine k_convI rfl rfl rfl (by omega) | refine k_conv16 rfl rfl rfl (by omega) | refine k_conv64 rfl rfl rfl (by omega) | refine k_conv8 rfl rfl rfl (by omega) | refine k_convB rfl rfl rfl | refine k_convH rfl rfl rfl | refine k_convQ rfl rfl rfl | refine k_pick_f (dF (by omega)) rfl | refine k_pick_t (dT (by omega)) rfl) rfl ?_))
  refine WS_specT 12 rfl (by kernel_rfl) (by kernel_rfl) [Is (.pointer (some ⟨b1, 0 + 0, none⟩)), Is (.int .i64 h.c), Is (.int .i64 (h.c % 8)), Is (.int .i64 (1 + h.c % 8)), Is (.pointer (some ⟨b1, 0 + 1, none⟩)), Is (.int .i64 h.r), Is (.int .i64 (h.r % 8)), Is (.int .i64 (1 + h.r % 8)), Is (.pointer (some ⟨b1, 0 + 2, none⟩)), Is (.agg h.tc.toArray), Is (.agg h.fit.tc.toArray), Is (.agg h.fit.cells.toArray)] Ty.mixed [(32736, [], true), (32712, [(0, 3)], true), (32664, [(1, 4)], true), (16312, [(2, 5)], true), (32376, [], true), (31992, [(4, 7)], true), (31224, [(5, 8)], true), (15352, [(6, 9)], true), (26616, [], true), (20472, [(8, 11)], true), (8184, [(9, 12)], true), (16376, [(3, 6), (7, 10), (10, 13)], true)] 32760 [(11, 14)] (by kernel_rfl) (by kernel_rfl) (by kernel_rfl) (by kernel_rfl) (by kernel_rfl) ⟨Is.st, Is.st, Is.st, Is.st, Is.st, Is.st, Is.st, Is.st, Is.st, Is.st, Is.st, Is.st, trivial⟩ ⟨⟨GOk.none, ?_⟩, ⟨GOk.none, ?_⟩, ⟨GOk.none, ?_⟩, ⟨GOk.none, ?_⟩, ⟨GOk.none, ?_⟩, ⟨GOk.none, ?_⟩, ⟨GOk.none, ?_⟩, ⟨GOk.none, ?_⟩, ⟨GOk.none, ?_⟩, ⟨GOk.none, ?_⟩, ⟨GOk.none, ?_⟩, ⟨GOk.none, ?_⟩, trivial⟩ ?_
  · intro w'' hE''
    intro σ''
    exact sp_is (by first | refine k_fa rfl (Ty.fld rfl rfl)) rfl
  · intro w'' hE''
    rintro _ rfl
    intro σ''
    exact sp_is (by first | refine k_loadb rfl (hB.ext0 hE'') rfl (Ty.shp rfl)) rfl
  · intro w'' hE''
    rintro _ rfl
    intro σ''
    exact sp_is (by first | refine (k_andm (i := h.c) (k := 3) rfl rfl (by decide)).is (congrArg (Value.int .i64) e1)) rfl
  · intro w'' hE''
    rintro _ rfl
    intro σ''
    exact sp_is (by first | refine k_add64 rfl rfl (by omega) | refine k_add64 rfl rfl (by omega)) rfl
  · intro w'' hE''
    intro σ''
    exact sp_is (by first | refine k_fa rfl (Ty.fld rfl rfl)) rfl
  · intro w'' hE''
    rintro _ rfl
    intro σ''
    exact sp_is (by first | refine k_loadb rfl (hB.ext0 hE'') rfl (Ty.shp rfl)) rfl
  · intro w'' hE''
    rintro _ rfl
    intro σ''
    exact sp_is (by first | refine (k_andm (i := h.r) (k := 3) rfl rfl (by decide)).is (congrArg (Value.int .i64) e2)) rfl
  · intro w'' hE''
    rintro _ rfl
    intro σ''
    exact sp_is (by first | refine k_add64 rfl rfl (by omega) | refine k_add64 rfl rfl (by omega)) rfl
  · intro w'' hE''
    intro σ''
    exact sp_is (by first | refine k_fa rfl (Ty.fld rfl rfl)) rfl
  · intro w'' hE''
    rintro _ rfl
    intro σ''
    exact sp_is (by first | refine k_loadC (j := 2) rfl (hS.ext0 hE'') htc htl (Ty.shp rfl)) rfl
  · intro w'' hE''
    rintro _ rfl
    intro σ''
    refine S_call (tfit_spec ho) rfl rfl ?_
    rintro v w3'' ⟨rfl, hE3⟩
    exact ⟨hE3, _, rfl, rfl⟩
  · intro w'' hE''
    rintro _ rfl
    rintro _ rfl
    rintro _ rfl
    intro σ''
    exact sp_is (by first | refine k_buildS (cs := h.fit.cells) (Ty.zer rfl) (Ty.plc rfl) (fill3 rfl hfl)) rfl
  intro w'' hE''
  rintro _ rfl
  intro σ''
  replace hH := hH.ext0 hE''
  refine WL_s (H_storeA 1 hH rfl rfl rfl hfc rfl (cells_one h.fit) (Ty.shp rfl) ?_)
  try clear hH
  intro w6 hH
  first | change Hp _ _ _ [] at hH | change Hp _ _ _ [_] at hH | change Hp _ _ _ [_, _] at hH | change Hp _ _ _ [_, _, _] at hH | change Hp _ _ _ [_, _, _, _] at hH | change Hp _ _ _ [_, _, _, _, _] at hH | change Hp _ _ _ [_, _, _, _, _, _] at hH | change Hp _ _ _ [_, _, _, _, _, _, _] at hH | change Hp _ _ _ [_, _, _, _, _, _, _, _] at hH | change Hp _ _ _ [_, _, _, _, _, _, _, _, _] at hH
  repeat (first | refine WS_seq ?_ | refine WS_region ?_ | refine WL_nil ?_ | refine WS_block ?_ | refine WS_inBlock ?_ | refine WS_skip ?_ | refine WS_label ?_ | refine WS_scope ?_ | refine WS_inScope ?_ | refine WS_exit rfl ?_ | refine WS_true rfl ?_ | refine WS_false rfl ?_ | refine WS_yes rfl (by omega) ?_ | refine WS_no rfl (by omega) ?_ | refine WL_gyes rfl rfl rfl ?_ | refine WL_gno rfl rfl rfl rfl rfl ?_ | refine WL_gund rfl rfl rfl ?_ | refine WL_gyes rfl rfl (dF (by omega)) ?_ | refine WL_gyes rfl rfl (dT (by omega)) ?_ | refine WL_gno (b := false) rfl rfl (dF (by omega)) rfl rfl ?_ | refine WL_gno (b := true) rfl rfl (dT (by omega)) rfl rfl ?_ | (refine WL_r (by first | refine Run_pev rfl | refine k_add64 rfl rfl (by omega) | refine k_sub64 rfl rfl (by omega) | refine k_len rfl (Ty.isl rfl) | refine k_lens rfl (Ty.iss rfl) | refine k_not rfl | refine k_notb rfl | refine k_min rfl rfl | refine k_max rfl rfl | refine k_min3 rfl rfl rfl | refine k_max3 rfl rfl rfl | refine k_mul64 rfl rfl (by omega) | refine k_quo64 rfl rfl (by omega) | refine k_rem rfl rfl (by omega) | refine k_extract rfl rfl | apply k_makeFunc | refine k_convI rfl rfl rfl (by omega) | refine k_conv16 rfl rfl rfl (by omega) | refine k_conv64 rfl rfl rfl (by omega) | refine k_conv8 rfl rfl rfl (by omega) | refine k_convB rfl rfl rfl | refine k_convH rfl rfl rfl | refine k_convQ rfl rfl rfl | refine k_pick_f (dF (by omega)) rfl | refine k_pick_t (dT (by omega)) rfl) rfl ?_))
  exact WS_retc1 Try.func14 rfl rfl (hH.b 1 rfl) hfc (Ty.shp rfl) ⟨rfl, hH.ext⟩
def SH.one : SH := ⟨1, 1, false, List.replicate 64 0, List.replicate 64 0⟩
theorem SH.one_ok : SH.one.ok := ⟨rfl, rfl, fun x hx => by simp [SH.one] at hx; omega, fun x hx => by simp [SH.one] at hx; omega⟩
theorem SH.one_err : SH.one.err = 0 := by decide +kernel
theorem SH.one_out : SH.one.out.length = 10 ∧ SH.one.out.take 7 = [0, 0, 1, 176, 1, 1, 64] := by decide +kernel
set_option maxRecDepth 20000 in
set_option maxHeartbeats 4000000 in
theorem awake15 (w : World) : Does Try.prog 13 #[] w fun v w' => v = .bool true ∧ Ext [] w w' := by
  refine Does_of (args := []) Try.func13 rfl rfl Try.ntmps13 rfl ?_
  have hH := Hp.start w
  repeat (first | refine WS_seq ?_ | refine WS_region ?_ | refine WL_nil ?_ | refine WS_block ?_ | refine WS_inBlock ?_ | refine WS_skip ?_ | refine WS_label ?_ | refine WS_scope ?_ | refine WS_inScope ?_ | refine WS_exit rfl ?_ | refine WS_true rfl ?_ | refine WS_false rfl ?_ | refine WS_yes rfl (by omega) ?_ | refine WS_no rfl (by omega) ?_ | refine WL_gyes rfl rfl rfl ?_ | refine WL_gno rfl rfl rfl rfl rfl ?_ | refine WL_gund rfl rfl rfl ?_ | refine WL_gyes rfl rfl (dF (by omega)) ?_ | refine WL_gyes rfl rfl (dT (by omega)) ?_ | refine WL_gno (b := false) rfl rfl (dF (by omega)) rfl rfl ?_ | refine WL_gno (b := true) rfl rfl (dT (by omega)) rfl rfl ?_ | (refine WL_r (by first | refine k_buildS (cs := SH.one.cells) (Ty.zer rfl) (Ty.plc rfl) rfl | refine Run_pev rfl | refine k_add64 rfl rfl (by omega) | refine k_sub64 rfl rfl (by omega) | refine k_len rfl (Ty.isl rfl) | refine k_lens rfl (Ty.iss rfl) | refine k_not rfl | refine k_notb rfl | refine k_min rfl rfl | refine k_max rfl rfl | refine k_min3 rfl rfl rfl | refine k_max3 rfl rfl rfl | refine k_mul64 rfl rfl (by omega) | refine k_quo64 rfl rfl (by omega) | refine k_rem rfl rfl (by omega) | refine k_extract rfl rfl | apply k_makeFunc | refine k_convI rfl rfl rfl (by omega) | refine k_conv16 rfl rfl rfl (by omega) | refine k_conv64 rfl rfl rfl (by omega) | refine k_conv8 rfl rfl rfl (by omega) | refine k_convB rfl rfl rfl | refine k_convH rfl rfl rfl | refine k_convQ rfl rfl rfl | refine k_pick_f (dF (by omega)) rfl | refine k_pick_t (dT (by omega)) rfl) rfl ?_))
  refine WL_s (H_alloc hH (Ty.zer rfl) rfl ?_)
  try clear hH
  intro w1 b1 hH
  first | change Hp _ _ _ [] at hH | change Hp _ _ _ [_] at hH | change Hp _ _ _ [_, _] at hH | change Hp _ _ _ [_, _, _] at hH | change Hp _ _ _ [_, _, _, _] at hH | change Hp _ _ _ [_, _, _, _, _] at hH | change Hp _ _ _ [_, _, _, _, _, _] at hH | change Hp _ _ _ [_, _, _, _, _, _, _] at hH | change Hp _ _ _ [_, _, _, _, _, _, _, _] at hH | change Hp _ _ _ [_, _, _, _, _, _, _, _, _] at hH
  repeat (first | refine WS_seq ?_ | refine WS_region ?_ | refine WL_nil ?_ | refine WS_block ?_ | refine WS_inBlock ?_ | refine WS_skip ?_ | refine WS_label ?_ | refine WS_scope ?_ | refine WS_inScope ?_ | refine WS_exit rfl ?_ | refine WS_true rfl ?_ | refine WS_false rfl ?_ | refine WS_yes rfl (by omega) ?_ | refine WS_no rfl (by omega) ?_ | refine WL_gyes rfl rfl rfl ?_ | refine WL_gno rfl rfl rfl rfl rfl ?_ | refine WL_gund rfl rfl rfl ?_ | refine WL_gyes rfl rfl (dF (by omega)) ?_ | refine WL_gyes rfl rfl (dT (by omega)) ?_ | refine WL_gno (b := false) rfl rfl (dF (by omega)) rfl rfl ?_ | refine WL_gno (b := true) rfl rfl (dT (by omega)) rfl rfl ?_ | (refine WL_r (by first | refine Run_pev rfl | refine k_add64 rfl rfl (by omega) | refine k_sub64 rfl rfl (by omega) | refine k_len rfl (Ty.isl rfl) | refine k_lens rfl (Ty.iss rfl) | refine k_not rfl | refine k_notb rfl | refine k_min rfl rfl | refine k_max rfl rfl | refine k_min3 rfl rfl rfl | refine k_max3 rfl rfl rfl | refine k_mul64 rfl rfl (by omega) | refine k_quo64 rfl rfl (by omega) | refine k_rem rfl rfl (by omega) | refine k_extract rfl rfl | apply k_makeFunc | refine k_convI rfl rfl rfl (by omega) | refine k_conv16 rfl rfl rfl (by omega) | refine k_conv64 rfl rfl rfl (by omega) | refine k_conv8 rfl rfl rfl (by omega) | refine k_convB rfl rfl rfl | refine k_convH rfl rfl rfl | refine k_convQ rfl rfl rfl | refine k_pick_f (dF (by omega)) rfl | refine k_pick_t (dT (by omega)) rfl) rfl ?_))
  refine WL_s (H_storeA 0 hH rfl rfl rfl rfl rfl (cells_one SH.one) (Ty.shp rfl) ?_)
  try clear hH
  intro w2 hH
  first | change Hp _ _ _ [] at hH | change Hp _ _ _ [_] at hH | change Hp _ _ _ [_, _] at hH | change Hp _ _ _ [_, _, _] at hH | change Hp _ _ _ [_, _, _, _] at hH | change Hp _ _ _ [_, _, _, _, _] at hH | change Hp _ _ _ [_, _, _, _, _, _] at hH | change Hp _ _ _ [_, _, _, _, _, _, _] at hH | change Hp _ _ _ [_, _, _, _, _, _, _, _] at hH | change Hp _ _ _ [_, _, _, _, _, _, _, _, _] at hH
  have hB : Blk w2 b1 26 SH.one.cells.toArray := hH.b 0 rfl
  repeat (first | refine WS_seq ?_ | refine WS_region ?_ | refine WL_nil ?_ | refine WS_block ?_ | refine WS_inBlock ?_ | refine WS_skip ?_ | refine WS_label ?_ | refine WS_scope ?_ | refine WS_inScope ?_ | refine WS_exit rfl ?_ | refine WS_true rfl ?_ | refine WS_false rfl ?_ | refine WS_yes rfl (by omega) ?_ | refine WS_no rfl (by omega) ?_ | refine WL_gyes rfl rfl rfl ?_ | refine WL_gno rfl rfl rfl rfl rfl ?_ | refine WL_gund rfl rfl rfl ?_ | refine WL_gyes rfl rfl (dF (by omega)) ?_ | refine WL_gyes rfl rfl (dT (by omega)) ?_ | refine WL_gno (b := false) rfl rfl (dF (by omega)) rfl rfl ?_ | refine WL_gno (b := true) rfl rfl (dT (by omega)) rfl rfl ?_ | (refine WL_r (by first | refine k_loadA rfl hB rfl (Ty.shp rfl) | refine Run_pev rfl | refine k_add64 rfl rfl (by omega) | refine k_sub64 rfl rfl (by omega) | refine k_len rfl (Ty.isl rfl) | refine k_lens rfl (Ty.iss rfl) | refine k_not rfl | refine k_notb rfl | refine k_min rfl rfl | refine k_max rfl rfl | refine k_min3 rfl rfl rfl | refine k_max3 rfl rfl rfl | refine k_mul64 rfl rfl (by omega) | refine k_quo64 rfl rfl (by omega) | refine k_rem rfl rfl (by omega) | refine k_extract rfl rfl | apply k_makeFunc | refine k_convI rfl rfl rfl (by omega) | refine k_conv16 rfl rfl rfl (by omega) | refine k_conv64 rfl rfl rfl (by omega) | refine k_conv8 rfl rfl rfl (by omega) | refine k_convB rfl rfl rfl | refine k_convH rfl rfl rfl | refine k_convQ rfl rfl rfl | refine k_pick_f (dF (by omega)) rfl | refine k_pick_t (dT (by omega)) rfl) rfl ?_))
  try refine WL_gyes rfl rfl rfl ?_
  refine WL_s (S_call (hput_spec SH.one_ok SH.one_err) rfl rfl ?_)
  rintro v w4 ⟨a6, c6, rfl, hN⟩
  obtain ⟨ho1, ho2⟩ := SH.one_out
  have hO : Own w4 5 1 a6 SH.one.out.length c6 (SH.one.out.map B) := hN.holds
  have hcap : 10 ≤ c6 := by rw [← ho1]; exact hO.2.1
  have hsl : SlA w4 (if c6 = 0 then a6 else a6.map (·.add 0)) (([0, 0, 1, 176, 1, 1, 64] : List Nat).map B) := by
    rw [← ho2, List.map_take]
    exact take_cells (n := 10) hO.sl (by decide) hcap
  rw [ho1]
  repeat (first | refine WS_seq ?_ | refine WS_region ?_ | refine WL_nil ?_ | refine WS_block ?_ | refine WS_inBlock ?_ | refine WS_skip ?_ | refine WS_label ?_ | refine WS_scope ?_ | refine WS_inScope ?_ | refine WS_exit rfl ?_ | refine WS_true rfl ?_ | refine WS_false rfl ?_ | refine WS_yes rfl (by omega) ?_ | refine WS_no rfl (by omega) ?_ | refine WL_gyes rfl rfl rfl ?_ | refine WL_gno rfl rfl rfl rfl rfl ?_ | refine WL_gund rfl rfl rfl ?_ | refine WL_gyes rfl rfl (dF (by omega)) ?_ | refine WL_gyes rfl rfl (dT (by omega)) ?_ | refine WL_gno (b := false) rfl rfl (dF (by omega)) rfl rfl ?_ | refine WL_gno (b := true) rfl rfl (dT (by omega)) rfl rfl ?_ | (refine WL_r (by first | refine (k_eql rfl rfl).is (bT rfl) | refine k_slchN (h := 7) rfl rfl (Ty.sle rfl) (by omega) | refine k_str (l := [0, 0, 1, 176, 1, 1, 64]) rfl hsl (Ty.sle rfl) (Ty.knd rfl) (Ty.iss rfl) | refine (k_eqls (l := [0, 0, 1, 176, 1, 1, 64]) (m := [0, 0, 1, 176, 1, 1, 64]) rfl rfl (bytB rfl) (bytB rfl)).is (bT rfl) | refine Run_pev rfl | refine k_add64 rfl rfl (by omega) | refine k_sub64 rfl rfl (by omega) | refine k_len rfl (Ty.isl rfl) | refine k_lens rfl (Ty.iss rfl) | refine k_not rfl | refine k_notb rfl | refine k_min rfl rfl | refine k_max rfl rfl | refine k_min3 rfl rfl rfl | refine k_max3 rfl rfl rfl | refine k_mul64 rfl rfl (by omega) | refine k_quo64 rfl rfl (by omega) | refine k_rem rfl rfl (by omega) | refine k_extract rfl rfl | apply k_makeFunc | refine k_convI rfl rfl rfl (by omega) | refine k_conv16 rfl rfl rfl (by omega) | refine k_conv64 rfl rfl rfl (by omega) | refine k_conv8 rfl rfl rfl (by omega) | refine k_convB rfl rfl rfl | refine k_convH rfl rfl rfl | refine k_convQ rfl rfl rfl | refine k_pick_f (dF (by omega)) rfl | refine k_pick_t (dT (by omega)) rfl) rfl ?_))
  exact WS_ret1 Try.func13 rfl ⟨rfl, hH.ext.then0 hN.ext⟩
end Go.Proofs.Ytnamafelcjgjfaa
