/- The law SalvageRight: a part that is right is had whole, from the beginning; no condition. -/
import Derived.Test.YtnamafelcjgjfaaSh
import Derived.Test.YtnamafelcjgjfaaLaw24b
import Derived.Test.YtnamafelcjgjfaaK19
import Derived.Test.YtnamafelcjgjfaaK8
import Derived.Test.YtnamafelcjgjfaaRows
namespace Go.Proofs.Ytnamafelcjgjfaa
open Go Go.K Go.P Go.RowKit Go.Proofs
theorem evC_one (ps : List (Nat × Int)) : ∀ u ∈ evC ps, u.oneCell' = true := by rw [evC_mk]; exact evM_one _
/-- What Kept answers. -/
def Kpt (P : List PS) (f k m : Nat) (v : Value) (w w' : World) : Prop :=
  ∃ (Y : List EL) (b : Nat), pse Y = kp P f k ∧ v = .slice (some ⟨b, 0, none⟩) m m ∧ Hp [] w w' [Ro 46 1 (some ⟨b, 0, none⟩) m m (elvs Y), Rl Y]
/-- So many are left out. -/
def lss (f m : Nat) (less : Int) : Nat := if f = m then 0 else less.toNat
set_option maxRecDepth 20000 in
set_option maxHeartbeats 8000000 in
theorem kept_spec {ae : Option Addr} {ce f k m : Nat} {E : List EL} {less : Int} {w : World} (hS : SlA w ae (elvs E)) (hR : (Rl E).holds w) (hE : ∀ x ∈ E, x.2.2.length ≤ 64) (hn : E.length = m) (hm : m ≤ 384) (hf : f ≤ m) (hk : k ≤ m) (hl : -9223372036854775808 ≤ less ∧ less ≤ 9223372036854775807) :
    Does Try.prog 40 #[.agg #[.slice ae m ce, .int .i64 (f : Nat), .int .i64 (k : Nat)], .int .i64 less] w fun v w' => Kpt (pse E) (f - lss f m less) (k - lss f m less) m v w w' := by
  refine Does_of (args := [_, _]) Try.func40 rfl rfl Try.ntmps40 rfl ?_
  have hH := Hp.start w
  have hel := elvs_len E
  have hpl := pse_len E
  repeat (first | refine WS_seq ?_ | refine WS_region ?_ | refine WL_nil ?_ | refine WS_block ?_ | refine WS_inBlock ?_ | refine WS_skip ?_ | refine WS_label ?_ | refine WS_scope ?_ | refine WS_inScope ?_ | refine WS_exit rfl ?_ | refine WS_true rfl ?_ | refine WS_false rfl ?_ | refine WS_yes rfl (by omega) ?_ | refine WS_no rfl (by omega) ?_ | refine WL_gyes rfl rfl rfl ?_ | refine WL_gno rfl rfl rfl rfl rfl ?_ | refine WL_gund rfl rfl rfl ?_ | refine WL_gyes rfl rfl (dF (by omega)) ?_ | refine WL_gyes rfl rfl (dT (by omega)) ?_ | refine WL_gno (b := false) rfl rfl (dF (by omega)) rfl rfl ?_ | refine WL_gno (b := true) rfl rfl (dT (by omega)) rfl rfl ?_ | (refine WL_r (by first | refine Run_pev rfl | refine k_add64 rfl rfl (by omega) | refine k_sub64 rfl rfl (by omega) | refine k_len rfl (Ty.isl rfl) | refine k_not rfl | refine k_notb rfl | refine k_min rfl rfl | refine k_max rfl rfl | refine k_mul64 rfl rfl (by omega) | refine k_quo64 rfl rfl (by omega) | refine k_rem rfl rfl (by omega) | refine k_extract rfl rfl | refine k_convI rfl rfl rfl (by omega) | refine k_conv16 rfl rfl rfl (by omega) | refine k_conv64 rfl rfl rfl (by omega) | refine k_conv8 rfl rfl rfl (by omega) | refine k_convB rfl rfl rfl | refine k_convH rfl rfl rfl | refine k_convQ rfl rfl rfl | refine k_pick_f (dF (by omega)) rfl | refine k_pick_t (dT (by omega)) rfl) rfl ?_))
  refine WL_s (H_box (cs := #[.slice ae m ce, .int .i64 (f : Nat), .int .i64 (k : Nat)]) hH rfl rfl rfl ?_)
  try clear hH
  intro w1 b2 hH
  first | change Hp _ _ _ [] at hH | change Hp _ _ _ [_] at hH | change Hp _ _ _ [_, _] at hH | change Hp _ _ _ [_, _, _] at hH | change Hp _ _ _ [_, _, _, _] at hH | change Hp _ _ _ [_, _, _, _, _] at hH | change Hp _ _ _ [_, _, _, _, _, _] at hH | change Hp _ _ _ [_, _, _, _, _, _, _] at hH | change Hp _ _ _ [_, _, _, _, _, _, _, _] at hH | change Hp _ _ _ [_, _, _, _, _, _, _, _, _] at hH
  have hB2 : Blk _ b2 71 #[.slice ae m ce, .int .i64 (f : Nat), .int .i64 (k : Nat)] := hH.b 0 rfl
  repeat (first | refine WS_seq ?_ | refine WS_region ?_ | refine WL_nil ?_ | refine WS_block ?_ | refine WS_inBlock ?_ | refine WS_skip ?_ | refine WS_label ?_ | refine WS_scope ?_ | refine WS_inScope ?_ | refine WS_exit rfl ?_ | refine WS_true rfl ?_ | refine WS_false rfl ?_ | refine WS_yes rfl (by omega) ?_ | refine WS_no rfl (by omega) ?_ | refine WL_gyes rfl rfl rfl ?_ | refine WL_gno rfl rfl rfl rfl rfl ?_ | refine WL_gund rfl rfl rfl ?_ | refine WL_gyes rfl rfl (dF (by omega)) ?_ | refine WL_gyes rfl rfl (dT (by omega)) ?_ | refine WL_gno (b := false) rfl rfl (dF (by omega)) rfl rfl ?_ | refine WL_gno (b := true) rfl rfl (dT (by omega)) rfl rfl ?_ | (refine WL_r (by first | refine k_nilCheck rfl | refine k_fa rfl (Ty.fld rfl rfl) | refine k_loadb rfl hB2 rfl (Ty.shp rfl) | refine Run_pev rfl | refine k_add64 rfl rfl (by omega) | refine k_sub64 rfl rfl (by omega) | refine k_len rfl (Ty.isl rfl) | refine k_not rfl | refine k_notb rfl | refine k_min rfl rfl | refine k_max rfl rfl | refine k_mul64 rfl rfl (by omega) | refine k_quo64 rfl rfl (by omega) | refine k_rem rfl rfl (by omega) | refine k_extract rfl rfl | refine k_convI rfl rfl rfl (by omega) | refine k_conv16 rfl rfl rfl (by omega) | refine k_conv64 rfl rfl rfl (by omega) | refine k_conv8 rfl rfl rfl (by omega) | refine k_convB rfl rfl rfl | refine k_convH rfl rfl rfl | refine k_convQ rfl rfl rfl | refine k_pick_f (dF (by omega)) rfl | refine k_pick_t (dT (by omega)) rfl) rfl ?_))
  refine WL_s (H_make (n := m) hH (Ty.sle rfl) (Ty.zer rfl) (Ty.byt rfl) rfl rfl rfl (by omega) (by omega) (by simp only [maxLen]; omega) rfl ?_)
  clear hH hB2
  intro w2 bo hH
  first | change Hp _ _ _ [] at hH | change Hp _ _ _ [_] at hH | change Hp _ _ _ [_, _] at hH | change Hp _ _ _ [_, _, _] at hH | change Hp _ _ _ [_, _, _, _] at hH | change Hp _ _ _ [_, _, _, _, _] at hH | change Hp _ _ _ [_, _, _, _, _, _] at hH | change Hp _ _ _ [_, _, _, _, _, _, _] at hH | change Hp _ _ _ [_, _, _, _, _, _, _, _] at hH | change Hp _ _ _ [_, _, _, _, _, _, _, _, _] at hH
  replace hH := (hH.made 1 rfl (by omega)).nu (Rl.zero m)
  first | change Hp _ _ _ [] at hH | change Hp _ _ _ [_] at hH | change Hp _ _ _ [_, _] at hH | change Hp _ _ _ [_, _, _] at hH | change Hp _ _ _ [_, _, _, _] at hH | change Hp _ _ _ [_, _, _, _, _] at hH | change Hp _ _ _ [_, _, _, _, _, _] at hH | change Hp _ _ _ [_, _, _, _, _, _, _] at hH | change Hp _ _ _ [_, _, _, _, _, _, _, _] at hH | change Hp _ _ _ [_, _, _, _, _, _, _, _, _] at hH
  rw [← elvs_zel] at hH
  have hB2 : Blk _ b2 71 #[.slice ae m ce, .int .i64 (f : Nat), .int .i64 (k : Nat)] := hH.b 0 rfl
  obtain ⟨d, hd⟩ : ∃ d, d = lss f m less := ⟨_, rfl⟩
  rw [← hd]
  have hd64 : d ≤ 9223372036854775807 := by rw [hd]; unfold lss; split <;> omega
  apply join
  · intro key
    by_cases hfm : f = m
    · have hd0 : d = 0 := by rw [hd]; exact if_pos hfm
      repeat (first | refine WS_seq ?_ | refine WS_region ?_ | refine WL_nil ?_ | refine WS_block ?_ | refine WS_inBlock ?_ | refine WS_skip ?_ | refine WS_label ?_ | refine WS_scope ?_ | refine WS_inScope ?_ | refine WS_exit rfl ?_ | refine WS_true rfl ?_ | refine WS_false rfl ?_ | refine WS_yes rfl (by omega) ?_ | refine WS_no rfl (by omega) ?_ | refine WL_gyes rfl rfl rfl ?_ | refine WL_gno rfl rfl rfl rfl rfl ?_ | refine WL_gund rfl rfl rfl ?_ | refine WL_gyes rfl rfl (dF (by omega)) ?_ | refine WL_gyes rfl rfl (dT (by omega)) ?_ | refine WL_gno (b := false) rfl rfl (dF (by omega)) rfl rfl ?_ | refine WL_gno (b := true) rfl rfl (dT (by omega)) rfl rfl ?_ | (refine WL_r (by first | refine k_nilCheck rfl | refine k_fa rfl (Ty.fld rfl rfl) | refine k_loadb rfl hB2 rfl (Ty.shp rfl) | refine (k_eql (q := .i64) rfl rfl).is (bT (by omega)) | refine Run_pev rfl | refine k_add64 rfl rfl (by omega) | refine k_sub64 rfl rfl (by omega) | refine k_len rfl (Ty.isl rfl) | refine k_not rfl | refine k_notb rfl | refine k_min rfl rfl | refine k_max rfl rfl | refine k_mul64 rfl rfl (by omega) | refine k_quo64 rfl rfl (by omega) | refine k_rem rfl rfl (by omega) | refine k_extract rfl rfl | refine k_convI rfl rfl rfl (by omega) | refine k_conv16 rfl rfl rfl (by omega) | refine k_conv64 rfl rfl rfl (by omega) | refine k_conv8 rfl rfl rfl (by omega) | refine k_convB rfl rfl rfl | refine k_convH rfl rfl rfl | refine k_convQ rfl rfl rfl | refine k_pick_f (dF (by omega)) rfl | refine k_pick_t (dT (by omega)) rfl) rfl ?_))
      refine WS_keep [(1, .int .i64 (d : Nat)), (2, pt b2), (5, .slice (some ⟨bo, 0, none⟩) m m), (6, .int .i64 0)] ⟨congrArg (Value.int .i64) (by omega), rfl, rfl, rfl, trivial⟩ (fun σ => ?_)
      exact key σ
    · have hd0 : max less 0 = (d : Int) := by rw [hd]; unfold lss; rw [if_neg hfm]; omega
      repeat (first | refine WS_seq ?_ | refine WS_region ?_ | refine WL_nil ?_ | refine WS_block ?_ | refine WS_inBlock ?_ | refine WS_skip ?_ | refine WS_label ?_ | refine WS_scope ?_ | refine WS_inScope ?_ | refine WS_exit rfl ?_ | refine WS_true rfl ?_ | refine WS_false rfl ?_ | refine WS_yes rfl (by omega) ?_ | refine WS_no rfl (by omega) ?_ | refine WL_gyes rfl rfl rfl ?_ | refine WL_gno rfl rfl rfl rfl rfl ?_ | refine WL_gund rfl rfl rfl ?_ | refine WL_gyes rfl rfl (dF (by omega)) ?_ | refine WL_gyes rfl rfl (dT (by omega)) ?_ | refine WL_gno (b := false) rfl rfl (dF (by omega)) rfl rfl ?_ | refine WL_gno (b := true) rfl rfl (dT (by omega)) rfl rfl ?_ | (refine WL_r (by first | refine k_nilCheck rfl | refine k_fa rfl (Ty.fld rfl rfl) | refine k_loadb rfl hB2 rfl (Ty.shp rfl) | refine (k_eql (q := .i64) rfl rfl).is (bF (by omega)) | refine Run_pev rfl | refine k_add64 rfl rfl (by omega) | refine k_sub64 rfl rfl (by omega) | refine k_len rfl (Ty.isl rfl) | refine k_not rfl | refine k_notb rfl | refine k_min rfl rfl | refine k_max rfl rfl | refine k_mul64 rfl rfl (by omega) | refine k_quo64 rfl rfl (by omega) | refine k_rem rfl rfl (by omega) | refine k_extract rfl rfl | refine k_convI rfl rfl rfl (by omega) | refine k_conv16 rfl rfl rfl (by omega) | refine k_conv64 rfl rfl rfl (by omega) | refine k_conv8 rfl rfl rfl (by omega) | refine k_convB rfl rfl rfl | refine k_convH rfl rfl rfl | refine k_convQ rfl rfl rfl | refine k_pick_f (dF (by omega)) rfl | refine k_pick_t (dT (by omega)) rfl) rfl ?_))
      refine WS_keep [(1, .int .i64 (d : Nat)), (2, pt b2), (5, .slice (some ⟨bo, 0, none⟩) m m), (6, .int .i64 0)] ⟨congrArg (Value.int .i64) (by omega), rfl, rfl, rfl, trivial⟩ (fun σ => ?_)
      exact key σ
  clear hd hB2
  intro σ
  obtain ⟨f2, hf2⟩ : ∃ f2, f2 = f - d := ⟨_, rfl⟩
  obtain ⟨k2, hk2⟩ : ∃ k2, k2 = k - d := ⟨_, rfl⟩
  rw [← hf2, ← hk2]
  refine WS_loop (G := (Nat) × (List EL)) (fun | (i, Y) => f2 - i) 4398045462592 (fun | (i, Y) => [(6, .int .i64 i)]) (fun | (i, Y), w' => i ≤ f2 ∧ pse Y = kp (pse E) i 0 ∧ Hp [] w w' [Rb b2 71 #[.slice ae m ce, .int .i64 (f : Nat), .int .i64 (k : Nat)], Ro 46 1 (some ⟨bo, 0, none⟩) m m (elvs Y), Rl Y]) (0, zel m) ⟨rfl, trivial⟩ ⟨by omega, by rw [kp_zero, hpl, hn, pse_zel, sE_nil], hH⟩ ?_
  rintro ⟨i, Y⟩ w' σ ⟨hi, hY, hH⟩ IH
  show WS _ _ _ _ _ (updL [(6, .int .i64 i)] _) _
  have hB2 : Blk _ b2 71 #[.slice ae m ce, .int .i64 (f : Nat), .int .i64 (k : Nat)] := hH.b 0 rfl
  by_cases hlt : i < f2
  · have hiE : i < E.length := by omega
    have hSe := hH.old hS
    have hat := elvs_at E hiE
    have hxs : SlA w E[i].1 (evC E[i].2.2) := Rl.at hR hiE
    have hx64 := hE _ (List.getElem_mem hiE)
    have hkf := kp_front (P := pse E) (i := i) (by omega)
    rw [show (pse E)[i]'(by omega) = E[i].2.2 by simp [pse]] at hkf
    generalize E[i] = x at *
    obtain ⟨ax, cx, ps⟩ := x
    simp only at hxs hx64 hkf
    replace hat : (elvs E)[i]? = some (.slice ax ps.length cx) := hat
    have hcl := evC_len ps
    repeat (first | refine WS_seq ?_ | refine WS_region ?_ | refine WL_nil ?_ | refine WS_block ?_ | refine WS_inBlock ?_ | refine WS_skip ?_ | refine WS_label ?_ | refine WS_scope ?_ | refine WS_inScope ?_ | refine WS_exit rfl ?_ | refine WS_true rfl ?_ | refine WS_false rfl ?_ | refine WS_yes rfl (by omega) ?_ | refine WS_no rfl (by omega) ?_ | refine WL_gyes rfl rfl rfl ?_ | refine WL_gno rfl rfl rfl rfl rfl ?_ | refine WL_gund rfl rfl rfl ?_ | refine WL_gyes rfl rfl (dF (by omega)) ?_ | refine WL_gyes rfl rfl (dT (by omega)) ?_ | refine WL_gno (b := false) rfl rfl (dF (by omega)) rfl rfl ?_ | refine WL_gno (b := true) rfl rfl (dT (by omega)) rfl rfl ?_ | (refine WL_r (by first | refine k_nilCheck rfl | refine k_fa rfl (Ty.fld rfl rfl) | refine k_loadb rfl hB2 rfl (Ty.shp rfl) | refine Run_pev rfl | refine k_add64 rfl rfl (by omega) | refine k_sub64 rfl rfl (by omega) | refine k_len rfl (Ty.isl rfl) | refine k_not rfl | refine k_notb rfl | refine k_min rfl rfl | refine k_max rfl rfl | refine k_mul64 rfl rfl (by omega) | refine k_quo64 rfl rfl (by omega) | refine k_rem rfl rfl (by omega) | refine k_extract rfl rfl | refine k_convI rfl rfl rfl (by omega) | refine k_conv16 rfl rfl rfl (by omega) | refine k_conv64 rfl rfl rfl (by omega) | refine k_conv8 rfl rfl rfl (by omega) | refine k_convB rfl rfl rfl | refine k_convH rfl rfl rfl | refine k_convQ rfl rfl rfl | refine k_pick_f (dF (by omega)) rfl | refine k_pick_t (dT (by omega)) rfl) rfl ?_))
    clear hB2
    try refine WL_gyes rfl rfl rfl ?_
    refine WL_s (H_lit (out := []) hH (Ty.sle rfl) (Ty.zer rfl) rfl rfl rfl (by decide) rfl ?_)
    try clear hH
    intro _ b34 hH
    first | change Hp _ _ _ [] at hH | change Hp _ _ _ [_] at hH | change Hp _ _ _ [_, _] at hH | change Hp _ _ _ [_, _, _] at hH | change Hp _ _ _ [_, _, _, _] at hH | change Hp _ _ _ [_, _, _, _, _] at hH | change Hp _ _ _ [_, _, _, _, _, _] at hH | change Hp _ _ _ [_, _, _, _, _, _, _] at hH | change Hp _ _ _ [_, _, _, _, _, _, _, _] at hH | change Hp _ _ _ [_, _, _, _, _, _, _, _, _] at hH
    replace hH := hH.as 3 rfl (r' := Re (some ⟨b34, 0, none⟩) 0 0 []) (fun _ h => h) (fun h => (h : Blk _ _ _ _).own (n := 0) (sz := 3) rfl (by decide))
    first | change Hp _ _ _ [] at hH | change Hp _ _ _ [_] at hH | change Hp _ _ _ [_, _] at hH | change Hp _ _ _ [_, _, _] at hH | change Hp _ _ _ [_, _, _, _] at hH | change Hp _ _ _ [_, _, _, _, _] at hH | change Hp _ _ _ [_, _, _, _, _, _] at hH | change Hp _ _ _ [_, _, _, _, _, _, _] at hH | change Hp _ _ _ [_, _, _, _, _, _, _, _] at hH | change Hp _ _ _ [_, _, _, _, _, _, _, _, _] at hH
    have hB2 : Blk _ b2 71 #[.slice ae m ce, .int .i64 (f : Nat), .int .i64 (k : Nat)] := hH.b 0 rfl
    have hSe := hH.old hS
    repeat (first | refine WS_seq ?_ | refine WS_region ?_ | refine WL_nil ?_ | refine WS_block ?_ | refine WS_inBlock ?_ | refine WS_skip ?_ | refine WS_label ?_ | refine WS_scope ?_ | refine WS_inScope ?_ | refine WS_exit rfl ?_ | refine WS_true rfl ?_ | refine WS_false rfl ?_ | refine WS_yes rfl (by omega) ?_ | refine WS_no rfl (by omega) ?_ | refine WL_gyes rfl rfl rfl ?_ | refine WL_gno rfl rfl rfl rfl rfl ?_ | refine WL_gund rfl rfl rfl ?_ | refine WL_gyes rfl rfl (dF (by omega)) ?_ | refine WL_gyes rfl rfl (dT (by omega)) ?_ | refine WL_gno (b := false) rfl rfl (dF (by omega)) rfl rfl ?_ | refine WL_gno (b := true) rfl rfl (dT (by omega)) rfl rfl ?_ | (refine WL_r (by first | refine k_nilCheck rfl | refine k_fa rfl (Ty.fld rfl rfl) | refine k_loadb rfl hB2 rfl (Ty.shp rfl) | refine k_ix1 rfl rfl hSe (by omega) (Ty.sle rfl) (by omega) | refine k_loads rfl hSe hat (Ty.shp rfl) | refine Run_pev rfl | refine k_add64 rfl rfl (by omega) | refine k_sub64 rfl rfl (by omega) | refine k_len rfl (Ty.isl rfl) | refine k_not rfl | refine k_notb rfl | refine k_min rfl rfl | refine k_max rfl rfl | refine k_mul64 rfl rfl (by omega) | refine k_quo64 rfl rfl (by omega) | refine k_rem rfl rfl (by omega) | refine k_extract rfl rfl | refine k_convI rfl rfl rfl (by omega) | refine k_conv16 rfl rfl rfl (by omega) | refine k_conv64 rfl rfl rfl (by omega) | refine k_conv8 rfl rfl rfl (by omega) | refine k_convB rfl rfl rfl | refine k_convH rfl rfl rfl | refine k_convQ rfl rfl rfl | refine k_pick_f (dF (by omega)) rfl | refine k_pick_t (dT (by omega)) rfl) rfl ?_))
    clear hB2
    refine WL_s (H_append 3 hH rfl (Ty.sle rfl) (Ty.zer rfl) rfl (Ty.byt rfl) (by decide) rfl rfl (hH.old hxs) hcl (evC_one ps) (by omega) (by simp only [maxLen]; omega) rfl ?_)
    clear hH
    intro w5 a5 c5 hH
    first | change Hp _ _ _ [] at hH | change Hp _ _ _ [_] at hH | change Hp _ _ _ [_, _] at hH | change Hp _ _ _ [_, _, _] at hH | change Hp _ _ _ [_, _, _, _] at hH | change Hp _ _ _ [_, _, _, _, _] at hH | change Hp _ _ _ [_, _, _, _, _, _] at hH | change Hp _ _ _ [_, _, _, _, _, _, _] at hH | change Hp _ _ _ [_, _, _, _, _, _, _, _] at hH | change Hp _ _ _ [_, _, _, _, _, _, _, _, _] at hH
    rw [Nat.zero_add ps.length, List.nil_append] at hH
    rw [Nat.zero_add ps.length]
    repeat (first | refine WS_seq ?_ | refine WS_region ?_ | refine WL_nil ?_ | refine WS_block ?_ | refine WS_inBlock ?_ | refine WS_skip ?_ | refine WS_label ?_ | refine WS_scope ?_ | refine WS_inScope ?_ | refine WS_exit rfl ?_ | refine WS_true rfl ?_ | refine WS_false rfl ?_ | refine WS_yes rfl (by omega) ?_ | refine WS_no rfl (by omega) ?_ | refine WL_gyes rfl rfl rfl ?_ | refine WL_gno rfl rfl rfl rfl rfl ?_ | refine WL_gund rfl rfl rfl ?_ | refine WL_gyes rfl rfl (dF (by omega)) ?_ | refine WL_gyes rfl rfl (dT (by omega)) ?_ | refine WL_gno (b := false) rfl rfl (dF (by omega)) rfl rfl ?_ | refine WL_gno (b := true) rfl rfl (dT (by omega)) rfl rfl ?_ | (refine WL_r (by first | refine k_ix1S rfl rfl (Ty.sle rfl) (by omega) | refine Run_pev rfl | refine k_add64 rfl rfl (by omega) | refine k_sub64 rfl rfl (by omega) | refine k_len rfl (Ty.isl rfl) | refine k_not rfl | refine k_notb rfl | refine k_min rfl rfl | refine k_max rfl rfl | refine k_mul64 rfl rfl (by omega) | refine k_quo64 rfl rfl (by omega) | refine k_rem rfl rfl (by omega) | refine k_extract rfl rfl | refine k_convI rfl rfl rfl (by omega) | refine k_conv16 rfl rfl rfl (by omega) | refine k_conv64 rfl rfl rfl (by omega) | refine k_conv8 rfl rfl rfl (by omega) | refine k_convB rfl rfl rfl | refine k_convH rfl rfl rfl | refine k_convQ rfl rfl rfl | refine k_pick_f (dF (by omega)) rfl | refine k_pick_t (dT (by omega)) rfl) rfl ?_))
    refine WL_s (H_storeO 1 (v := elv (a5, c5, ps)) hH rfl rfl rfl (by omega) rfl (Ty.shp rfl) ?_)
    clear hH
    intro w6 hH
    first | change Hp _ _ _ [] at hH | change Hp _ _ _ [_] at hH | change Hp _ _ _ [_, _] at hH | change Hp _ _ _ [_, _, _] at hH | change Hp _ _ _ [_, _, _, _] at hH | change Hp _ _ _ [_, _, _, _, _] at hH | change Hp _ _ _ [_, _, _, _, _, _] at hH | change Hp _ _ _ [_, _, _, _, _, _, _] at hH | change Hp _ _ _ [_, _, _, _, _, _, _, _] at hH | change Hp _ _ _ [_, _, _, _, _, _, _, _, _] at hH
    rw [show ((i : Nat) : Int).toNat = i from rfl, elvs_set] at hH
    replace hH := Rl.put (Y := Y.set (i) (a5, c5, ps)) 2 3 hH rfl rfl (by decide) (fun y hy => by
      rcases List.mem_or_eq_of_mem_set hy with h | h
      · exact .inl h
      · exact .inr h)
    first | change Hp _ _ _ [] at hH | change Hp _ _ _ [_] at hH | change Hp _ _ _ [_, _] at hH | change Hp _ _ _ [_, _, _] at hH | change Hp _ _ _ [_, _, _, _] at hH | change Hp _ _ _ [_, _, _, _, _] at hH | change Hp _ _ _ [_, _, _, _, _, _] at hH | change Hp _ _ _ [_, _, _, _, _, _, _] at hH | change Hp _ _ _ [_, _, _, _, _, _, _, _] at hH | change Hp _ _ _ [_, _, _, _, _, _, _, _, _] at hH
    have hY2 : pse (Y.set (i) (a5, c5, ps)) = kp (pse E) (i + 1) 0 := by rw [pse_set, hY]; exact hkf
    generalize Y.set (i) (a5, c5, ps) = Y2 at *
    repeat (first | refine WS_seq ?_ | refine WS_region ?_ | refine WL_nil ?_ | refine WS_block ?_ | refine WS_inBlock ?_ | refine WS_skip ?_ | refine WS_label ?_ | refine WS_scope ?_ | refine WS_inScope ?_ | refine WS_exit rfl ?_ | refine WS_true rfl ?_ | refine WS_false rfl ?_ | refine WS_yes rfl (by omega) ?_ | refine WS_no rfl (by omega) ?_ | refine WL_gyes rfl rfl rfl ?_ | refine WL_gno rfl rfl rfl rfl rfl ?_ | refine WL_gund rfl rfl rfl ?_ | refine WL_gyes rfl rfl (dF (by omega)) ?_ | refine WL_gyes rfl rfl (dT (by omega)) ?_ | refine WL_gno (b := false) rfl rfl (dF (by omega)) rfl rfl ?_ | refine WL_gno (b := true) rfl rfl (dT (by omega)) rfl rfl ?_ | (refine WL_r (by first | refine Run_pev rfl | refine k_add64 rfl rfl (by omega) | refine k_sub64 rfl rfl (by omega) | refine k_len rfl (Ty.isl rfl) | refine k_not rfl | refine k_notb rfl | refine k_min rfl rfl | refine k_max rfl rfl | refine k_mul64 rfl rfl (by omega) | refine k_quo64 rfl rfl (by omega) | refine k_rem rfl rfl (by omega) | refine k_extract rfl rfl | refine k_convI rfl rfl rfl (by omega) | refine k_conv16 rfl rfl rfl (by omega) | refine k_conv64 rfl rfl rfl (by omega) | refine k_conv8 rfl rfl rfl (by omega) | refine k_convB rfl rfl rfl | refine k_convH rfl rfl rfl | refine k_convQ rfl rfl rfl | refine k_pick_f (dF (by omega)) rfl | refine k_pick_t (dT (by omega)) rfl) rfl ?_))
    refine IH (i + 1, Y2) _ _ ?_ ?_ ?_ ?_
    · simp only; omega
    · exact ⟨rfl, trivial⟩
    · exact (by repeat (first | with_reducible apply Agr.refl | refine Agr.upd rfl ?_ | refine Agr.updo rfl ?_ | refine Agr.updL rfl ?_ | refine Agr.mrg rfl ?_ | exact Agr.refl | refine Agr.updn ?_))
    · exact ⟨by omega, hY2, hH⟩
  obtain rfl : i = f2 := by omega
  clear IH
  repeat (first | refine WS_seq ?_ | refine WS_region ?_ | refine WL_nil ?_ | refine WS_block ?_ | refine WS_inBlock ?_ | refine WS_skip ?_ | refine WS_label ?_ | refine WS_scope ?_ | refine WS_inScope ?_ | refine WS_exit rfl ?_ | refine WS_true rfl ?_ | refine WS_false rfl ?_ | refine WS_yes rfl (by omega) ?_ | refine WS_no rfl (by omega) ?_ | refine WL_gyes rfl rfl rfl ?_ | refine WL_gno rfl rfl rfl rfl rfl ?_ | refine WL_gund rfl rfl rfl ?_ | refine WL_gyes rfl rfl (dF (by omega)) ?_ | refine WL_gyes rfl rfl (dT (by omega)) ?_ | refine WL_gno (b := false) rfl rfl (dF (by omega)) rfl rfl ?_ | refine WL_gno (b := true) rfl rfl (dT (by omega)) rfl rfl ?_ | (refine WL_r (by first | refine k_nilCheck rfl | refine k_fa rfl (Ty.fld rfl rfl) | refine k_loadb rfl hB2 rfl (Ty.shp rfl) | refine Run_pev rfl | refine k_add64 rfl rfl (by omega) | refine k_sub64 rfl rfl (by omega) | refine k_len rfl (Ty.isl rfl) | refine k_not rfl | refine k_notb rfl | refine k_min rfl rfl | refine k_max rfl rfl | refine k_mul64 rfl rfl (by omega) | refine k_quo64 rfl rfl (by omega) | refine k_rem rfl rfl (by omega) | refine k_extract rfl rfl | refine k_convI rfl rfl rfl (by omega) | refine k_conv16 rfl rfl rfl (by omega) | refine k_conv64 rfl rfl rfl (by omega) | refine k_conv8 rfl rfl rfl (by omega) | refine k_convB rfl rfl rfl | refine k_convH rfl rfl rfl | refine k_convQ rfl rfl rfl | refine k_pick_f (dF (by omega)) rfl | refine k_pick_t (dT (by omega)) rfl) rfl ?_))
  clear hB2
  refine WS_loop (G := (Nat) × (List EL)) (fun | (j, Y) => k2 - j) 1180591616319364792448 (fun | (j, Y) => [(7, .int .i64 ((j : Int) + 1))]) (fun | (j, Y), w' => j ≤ k2 ∧ pse Y = kp (pse E) i j ∧ Hp [] w w' [Rb b2 71 #[.slice ae m ce, .int .i64 (f : Nat), .int .i64 (k : Nat)], Ro 46 1 (some ⟨bo, 0, none⟩) m m (elvs Y), Rl Y]) (0, Y) ⟨rfl, trivial⟩ ⟨by omega, hY, hH⟩ ?_
  rintro ⟨j, Y⟩ w' σ ⟨hj, hY, hH⟩ IH
  show WS _ _ _ _ _ (updL [(7, .int .i64 ((j : Int) + 1))] _) _
  have hB2 : Blk _ b2 71 #[.slice ae m ce, .int .i64 (f : Nat), .int .i64 (k : Nat)] := hH.b 0 rfl
  by_cases hlt : j < k2
  · have hiE : m - (j + 1) < E.length := by omega
    have hSe := hH.old hS
    have hat := elvs_at E hiE
    have hxs : SlA w E[m - (j + 1)].1 (evC E[m - (j + 1)].2.2) := Rl.at hR hiE
    have hx64 := hE _ (List.getElem_mem hiE)
    have hkf := kp_back (P := pse E) (f := i) (k := j) (by omega)
    simp only [hpl, hn] at hkf
    rw [show (pse E)[m - (j + 1)]'(by omega) = E[m - (j + 1)].2.2 by simp [pse]] at hkf
    generalize E[m - (j + 1)] = x at *
    obtain ⟨ax, cx, ps⟩ := x
    simp only at hxs hx64 hkf
    replace hat : (elvs E)[m - (j + 1)]? = some (.slice ax ps.length cx) := hat
    have hcl := evC_len ps
    have hix : ((m : Int) - ((j : Int) + 1)).toNat = m - (j + 1) := by omega
    repeat (first | refine WS_seq ?_ | refine WS_region ?_ | refine WL_nil ?_ | refine WS_block ?_ | refine WS_inBlock ?_ | refine WS_skip ?_ | refine WS_label ?_ | refine WS_scope ?_ | refine WS_inScope ?_ | refine WS_exit rfl ?_ | refine WS_true rfl ?_ | refine WS_false rfl ?_ | refine WS_yes rfl (by omega) ?_ | refine WS_no rfl (by omega) ?_ | refine WL_gyes rfl rfl rfl ?_ | refine WL_gno rfl rfl rfl rfl rfl ?_ | refine WL_gund rfl rfl rfl ?_ | refine WL_gyes rfl rfl (dF (by omega)) ?_ | refine WL_gyes rfl rfl (dT (by omega)) ?_ | refine WL_gno (b := false) rfl rfl (dF (by omega)) rfl rfl ?_ | refine WL_gno (b := true) rfl rfl (dT (by omega)) rfl rfl ?_ | (refine WL_r (by first | refine k_nilCheck rfl | refine k_fa rfl (Ty.fld rfl rfl) | refine k_loadb rfl hB2 rfl (Ty.shp rfl) | refine Run_pev rfl | refine k_add64 rfl rfl (by omega) | refine k_sub64 rfl rfl (by omega) | refine k_len rfl (Ty.isl rfl) | refine k_not rfl | refine k_notb rfl | refine k_min rfl rfl | refine k_max rfl rfl | refine k_mul64 rfl rfl (by omega) | refine k_quo64 rfl rfl (by omega) | refine k_rem rfl rfl (by omega) | refine k_extract rfl rfl | refine k_convI rfl rfl rfl (by omega) | refine k_conv16 rfl rfl rfl (by omega) | refine k_conv64 rfl rfl rfl (by omega) | refine k_conv8 rfl rfl rfl (by omega) | refine k_convB rfl rfl rfl | refine k_convH rfl rfl rfl | refine k_convQ rfl rfl rfl | refine k_pick_f (dF (by omega)) rfl | refine k_pick_t (dT (by omega)) rfl) rfl ?_))
    clear hB2
    try refine WL_gyes rfl rfl rfl ?_
    refine WL_s (H_lit (out := []) hH (Ty.sle rfl) (Ty.zer rfl) rfl rfl rfl (by decide) rfl ?_)
    try clear hH
    intro _ b34 hH
    first | change Hp _ _ _ [] at hH | change Hp _ _ _ [_] at hH | change Hp _ _ _ [_, _] at hH | change Hp _ _ _ [_, _, _] at hH | change Hp _ _ _ [_, _, _, _] at hH | change Hp _ _ _ [_, _, _, _, _] at hH | change Hp _ _ _ [_, _, _, _, _, _] at hH | change Hp _ _ _ [_, _, _, _, _, _, _] at hH | change Hp _ _ _ [_, _, _, _, _, _, _, _] at hH | change Hp _ _ _ [_, _, _, _, _, _, _, _, _] at hH
    replace hH := hH.as 3 rfl (r' := Re (some ⟨b34, 0, none⟩) 0 0 []) (fun _ h => h) (fun h => (h : Blk _ _ _ _).own (n := 0) (sz := 3) rfl (by decide))
    first | change Hp _ _ _ [] at hH | change Hp _ _ _ [_] at hH | change Hp _ _ _ [_, _] at hH | change Hp _ _ _ [_, _, _] at hH | change Hp _ _ _ [_, _, _, _] at hH | change Hp _ _ _ [_, _, _, _, _] at hH | change Hp _ _ _ [_, _, _, _, _, _] at hH | change Hp _ _ _ [_, _, _, _, _, _, _] at hH | change Hp _ _ _ [_, _, _, _, _, _, _, _] at hH | change Hp _ _ _ [_, _, _, _, _, _, _, _, _] at hH
    have hB2 : Blk _ b2 71 #[.slice ae m ce, .int .i64 (f : Nat), .int .i64 (k : Nat)] := hH.b 0 rfl
    have hSe := hH.old hS
    rw [← hix] at hat
    repeat (first | refine WS_seq ?_ | refine WS_region ?_ | refine WL_nil ?_ | refine WS_block ?_ | refine WS_inBlock ?_ | refine WS_skip ?_ | refine WS_label ?_ | refine WS_scope ?_ | refine WS_inScope ?_ | refine WS_exit rfl ?_ | refine WS_true rfl ?_ | refine WS_false rfl ?_ | refine WS_yes rfl (by omega) ?_ | refine WS_no rfl (by omega) ?_ | refine WL_gyes rfl rfl rfl ?_ | refine WL_gno rfl rfl rfl rfl rfl ?_ | refine WL_gund rfl rfl rfl ?_ | refine WL_gyes rfl rfl (dF (by omega)) ?_ | refine WL_gyes rfl rfl (dT (by omega)) ?_ | refine WL_gno (b := false) rfl rfl (dF (by omega)) rfl rfl ?_ | refine WL_gno (b := true) rfl rfl (dT (by omega)) rfl rfl ?_ | (refine WL_r (by first | refine k_nilCheck rfl | refine k_fa rfl (Ty.fld rfl rfl) | refine k_loadb rfl hB2 rfl (Ty.shp rfl) | refine k_ix1 rfl rfl hSe (by omega) (Ty.sle rfl) (by omega) | refine k_loads rfl hSe hat (Ty.shp rfl) | refine Run_pev rfl | refine k_add64 rfl rfl (by omega) | refine k_sub64 rfl rfl (by omega) | refine k_len rfl (Ty.isl rfl) | refine k_not rfl | refine k_notb rfl | refine k_min rfl rfl | refine k_max rfl rfl | refine k_mul64 rfl rfl (by omega) | refine k_quo64 rfl rfl (by omega) | refine k_rem rfl rfl (by omega) | refine k_extract rfl rfl | refine k_convI rfl rfl rfl (by omega) | refine k_conv16 rfl rfl rfl (by omega) | refine k_conv64 rfl rfl rfl (by omega) | refine k_conv8 rfl rfl rfl (by omega) | refine k_convB rfl rfl rfl | refine k_convH rfl rfl rfl | refine k_convQ rfl rfl rfl | refine k_pick_f (dF (by omega)) rfl | refine k_pick_t (dT (by omega)) rfl) rfl ?_))
    clear hB2
    refine WL_s (H_append 3 hH rfl (Ty.sle rfl) (Ty.zer rfl) rfl (Ty.byt rfl) (by decide) rfl rfl (hH.old hxs) hcl (evC_one ps) (by omega) (by simp only [maxLen]; omega) rfl ?_)
    clear hH
    intro w5 a5 c5 hH
    first | change Hp _ _ _ [] at hH | change Hp _ _ _ [_] at hH | change Hp _ _ _ [_, _] at hH | change Hp _ _ _ [_, _, _] at hH | change Hp _ _ _ [_, _, _, _] at hH | change Hp _ _ _ [_, _, _, _, _] at hH | change Hp _ _ _ [_, _, _, _, _, _] at hH | change Hp _ _ _ [_, _, _, _, _, _, _] at hH | change Hp _ _ _ [_, _, _, _, _, _, _, _] at hH | change Hp _ _ _ [_, _, _, _, _, _, _, _, _] at hH
    rw [Nat.zero_add ps.length, List.nil_append] at hH
    rw [Nat.zero_add ps.length]
    repeat (first | refine WS_seq ?_ | refine WS_region ?_ | refine WL_nil ?_ | refine WS_block ?_ | refine WS_inBlock ?_ | refine WS_skip ?_ | refine WS_label ?_ | refine WS_scope ?_ | refine WS_inScope ?_ | refine WS_exit rfl ?_ | refine WS_true rfl ?_ | refine WS_false rfl ?_ | refine WS_yes rfl (by omega) ?_ | refine WS_no rfl (by omega) ?_ | refine WL_gyes rfl rfl rfl ?_ | refine WL_gno rfl rfl rfl rfl rfl ?_ | refine WL_gund rfl rfl rfl ?_ | refine WL_gyes rfl rfl (dF (by omega)) ?_ | refine WL_gyes rfl rfl (dT (by omega)) ?_ | refine WL_gno (b := false) rfl rfl (dF (by omega)) rfl rfl ?_ | refine WL_gno (b := true) rfl rfl (dT (by omega)) rfl rfl ?_ | (refine WL_r (by first | refine k_ix1S rfl rfl (Ty.sle rfl) (by omega) | refine Run_pev rfl | refine k_add64 rfl rfl (by omega) | refine k_sub64 rfl rfl (by omega) | refine k_len rfl (Ty.isl rfl) | refine k_not rfl | refine k_notb rfl | refine k_min rfl rfl | refine k_max rfl rfl | refine k_mul64 rfl rfl (by omega) | refine k_quo64 rfl rfl (by omega) | refine k_rem rfl rfl (by omega) | refine k_extract rfl rfl | refine k_convI rfl rfl rfl (by omega) | refine k_conv16 rfl rfl rfl (by omega) | refine k_conv64 rfl rfl rfl (by omega) | refine k_conv8 rfl rfl rfl (by omega) | refine k_convB rfl rfl rfl | refine k_convH rfl rfl rfl | refine k_convQ rfl rfl rfl | refine k_pick_f (dF (by omega)) rfl | refine k_pick_t (dT (by omega)) rfl) rfl ?_))
    refine WL_s (H_storeO 1 (v := elv (a5, c5, ps)) hH rfl rfl rfl (by omega) rfl (Ty.shp rfl) ?_)
    clear hH
    intro w6 hH
    first | change Hp _ _ _ [] at hH | change Hp _ _ _ [_] at hH | change Hp _ _ _ [_, _] at hH | change Hp _ _ _ [_, _, _] at hH | change Hp _ _ _ [_, _, _, _] at hH | change Hp _ _ _ [_, _, _, _, _] at hH | change Hp _ _ _ [_, _, _, _, _, _] at hH | change Hp _ _ _ [_, _, _, _, _, _, _] at hH | change Hp _ _ _ [_, _, _, _, _, _, _, _] at hH | change Hp _ _ _ [_, _, _, _, _, _, _, _, _] at hH
    rw [hix, elvs_set] at hH
    replace hH := Rl.put (Y := Y.set (m - (j + 1)) (a5, c5, ps)) 2 3 hH rfl rfl (by decide) (fun y hy => by
      rcases List.mem_or_eq_of_mem_set hy with h | h
      · exact .inl h
      · exact .inr h)
    first | change Hp _ _ _ [] at hH | change Hp _ _ _ [_] at hH | change Hp _ _ _ [_, _] at hH | change Hp _ _ _ [_, _, _] at hH | change Hp _ _ _ [_, _, _, _] at hH | change Hp _ _ _ [_, _, _, _, _] at hH | change Hp _ _ _ [_, _, _, _, _, _] at hH | change Hp _ _ _ [_, _, _, _, _, _, _] at hH | change Hp _ _ _ [_, _, _, _, _, _, _, _] at hH | change Hp _ _ _ [_, _, _, _, _, _, _, _, _] at hH
    have hY2 : pse (Y.set (m - (j + 1)) (a5, c5, ps)) = kp (pse E) i (j + 1) := by rw [pse_set, hY]; exact hkf
    generalize Y.set (m - (j + 1)) (a5, c5, ps) = Y2 at *
    repeat (first | refine WS_seq ?_ | refine WS_region ?_ | refine WL_nil ?_ | refine WS_block ?_ | refine WS_inBlock ?_ | refine WS_skip ?_ | refine WS_label ?_ | refine WS_scope ?_ | refine WS_inScope ?_ | refine WS_exit rfl ?_ | refine WS_true rfl ?_ | refine WS_false rfl ?_ | refine WS_yes rfl (by omega) ?_ | refine WS_no rfl (by omega) ?_ | refine WL_gyes rfl rfl rfl ?_ | refine WL_gno rfl rfl rfl rfl rfl ?_ | refine WL_gund rfl rfl rfl ?_ | refine WL_gyes rfl rfl (dF (by omega)) ?_ | refine WL_gyes rfl rfl (dT (by omega)) ?_ | refine WL_gno (b := false) rfl rfl (dF (by omega)) rfl rfl ?_ | refine WL_gno (b := true) rfl rfl (dT (by omega)) rfl rfl ?_ | (refine WL_r (by first | refine Run_pev rfl | refine k_add64 rfl rfl (by omega) | refine k_sub64 rfl rfl (by omega) | refine k_len rfl (Ty.isl rfl) | refine k_not rfl | refine k_notb rfl | refine k_min rfl rfl | refine k_max rfl rfl | refine k_mul64 rfl rfl (by omega) | refine k_quo64 rfl rfl (by omega) | refine k_rem rfl rfl (by omega) | refine k_extract rfl rfl | refine k_convI rfl rfl rfl (by omega) | refine k_conv16 rfl rfl rfl (by omega) | refine k_conv64 rfl rfl rfl (by omega) | refine k_conv8 rfl rfl rfl (by omega) | refine k_convB rfl rfl rfl | refine k_convH rfl rfl rfl | refine k_convQ rfl rfl rfl | refine k_pick_f (dF (by omega)) rfl | refine k_pick_t (dT (by omega)) rfl) rfl ?_))
    refine IH (j + 1, Y2) _ _ ?_ ?_ ?_ ?_
    · simp only; omega
    · exact ⟨rfl, trivial⟩
    · exact (by repeat (first | with_reducible apply Agr.refl | refine Agr.upd rfl ?_ | refine Agr.updo rfl ?_ | refine Agr.updL rfl ?_ | refine Agr.mrg rfl ?_ | exact Agr.refl | refine Agr.updn ?_))
    · exact ⟨by omega, hY2, hH⟩
  obtain rfl : j = k2 := by omega
  clear IH
  repeat (first | refine WS_seq ?_ | refine WS_region ?_ | refine WL_nil ?_ | refine WS_block ?_ | refine WS_inBlock ?_ | refine WS_skip ?_ | refine WS_label ?_ | refine WS_scope ?_ | refine WS_inScope ?_ | refine WS_exit rfl ?_ | refine WS_true rfl ?_ | refine WS_false rfl ?_ | refine WS_yes rfl (by omega) ?_ | refine WS_no rfl (by omega) ?_ | refine WL_gyes rfl rfl rfl ?_ | refine WL_gno rfl rfl rfl rfl rfl ?_ | refine WL_gund rfl rfl rfl ?_ | refine WL_gyes rfl rfl (dF (by omega)) ?_ | refine WL_gyes rfl rfl (dT (by omega)) ?_ | refine WL_gno (b := false) rfl rfl (dF (by omega)) rfl rfl ?_ | refine WL_gno (b := true) rfl rfl (dT (by omega)) rfl rfl ?_ | (refine WL_r (by first | refine k_nilCheck rfl | refine k_fa rfl (Ty.fld rfl rfl) | refine k_loadb rfl hB2 rfl (Ty.shp rfl) | refine Run_pev rfl | refine k_add64 rfl rfl (by omega) | refine k_sub64 rfl rfl (by omega) | refine k_len rfl (Ty.isl rfl) | refine k_not rfl | refine k_notb rfl | refine k_min rfl rfl | refine k_max rfl rfl | refine k_mul64 rfl rfl (by omega) | refine k_quo64 rfl rfl (by omega) | refine k_rem rfl rfl (by omega) | refine k_extract rfl rfl | refine k_convI rfl rfl rfl (by omega) | refine k_conv16 rfl rfl rfl (by omega) | refine k_conv64 rfl rfl rfl (by omega) | refine k_conv8 rfl rfl rfl (by omega) | refine k_convB rfl rfl rfl | refine k_convH rfl rfl rfl | refine k_convQ rfl rfl rfl | refine k_pick_f (dF (by omega)) rfl | refine k_pick_t (dT (by omega)) rfl) rfl ?_))
  exact WS_ret1 Try.func40 rfl ⟨Y, bo, hY, rfl, hH.del 0⟩
/-- A part that is right. -/
theorem SOf.right {X : List PS} {m : Nat} {v : Value} {w w' : World} (hX : GP X) (hm : X.length ≤ m) (h : SOf (escF 0 (pk (bP X ++ [true]))) m v w w') : ∃ (E : List EL) (b : Nat), pse E = sE m X [] ∧ v = .agg #[.slice (some ⟨b, 0, none⟩) m m, .int .i64 (X.length : Nat), .int .i64 0] ∧ Hp [] w w' [Ro 46 1 (some ⟨b, 0, none⟩) m m (elvs E), Rl E] := by
  obtain ⟨bs, E, b, hb, hE, rfl, hQ⟩ := h
  obtain rfl := hb.esc
  obtain ⟨h1, h2⟩ := s_right hX hm
  rw [h1, h2] at hE ⊢
  exact ⟨E, b, hE, rfl, hQ⟩
set_option maxHeartbeats 4000000 in
theorem awake24 (w : World) : Does Try.prog 37 #[] w fun v w' => v = .bool true ∧ Ext [] w w' := by
  refine Does_of (args := []) Try.func37 rfl rfl Try.ntmps37 rfl ?_
  have hH := Hp.start w
  have hg : GB [(0, (1 : Int))] := ⟨by simp, by simp, fun p hp => by simp at hp; subst hp; decide⟩
  repeat (first | refine WS_seq ?_ | refine WS_region ?_ | refine WL_nil ?_ | refine WS_block ?_ | refine WS_inBlock ?_ | refine WS_skip ?_ | refine WS_label ?_ | refine WS_scope ?_ | refine WS_inScope ?_ | refine WS_exit rfl ?_ | refine WS_true rfl ?_ | refine WS_false rfl ?_ | refine WS_yes rfl (by omega) ?_ | refine WS_no rfl (by omega) ?_ | refine WL_gyes rfl rfl rfl ?_ | refine WL_gno rfl rfl rfl rfl rfl ?_ | refine WL_gund rfl rfl rfl ?_ | refine WL_gyes rfl rfl (dF (by omega)) ?_ | refine WL_gyes rfl rfl (dT (by omega)) ?_ | refine WL_gno (b := false) rfl rfl (dF (by omega)) rfl rfl ?_ | refine WL_gno (b := true) rfl rfl (dT (by omega)) rfl rfl ?_ | (refine WL_r (by first | refine k_buildS (cs := [.slice none 0 0, .int .i64 0]) (Ty.zer rfl) (Ty.plc rfl) rfl | refine Run_pev rfl | refine k_add64 rfl rfl (by omega) | refine k_sub64 rfl rfl (by omega) | refine k_len rfl (Ty.isl rfl) | refine k_not rfl | refine k_notb rfl | refine k_min rfl rfl | refine k_max rfl rfl | refine k_mul64 rfl rfl (by omega) | refine k_quo64 rfl rfl (by omega) | refine k_rem rfl rfl (by omega) | refine k_extract rfl rfl | refine k_convI rfl rfl rfl (by omega) | refine k_conv16 rfl rfl rfl (by omega) | refine k_conv64 rfl rfl rfl (by omega) | refine k_conv8 rfl rfl rfl (by omega) | refine k_convB rfl rfl rfl | refine k_convH rfl rfl rfl | refine k_convQ rfl rfl rfl | refine k_pick_f (dF (by omega)) rfl | refine k_pick_t (dT (by omega)) rfl) rfl ?_))
  refine WL_s (H_box hH rfl rfl rfl ?_)
  try clear hH
  intro w1 q hH
  replace hH : Hp [] w w1 [Rw q none 0 []] := hH.as 0 rfl (fun x hx => by simpa [Rw, sep, Rb, RBy, Ro, blk] using hx) (fun hB => ⟨hB, Own.nil, fun _ _ hb => by simp [RBy, Ro, blk] at hb⟩)
  repeat (first | refine WS_seq ?_ | refine WS_region ?_ | refine WL_nil ?_ | refine WS_block ?_ | refine WS_inBlock ?_ | refine WS_skip ?_ | refine WS_label ?_ | refine WS_scope ?_ | refine WS_inScope ?_ | refine WS_exit rfl ?_ | refine WS_true rfl ?_ | refine WS_false rfl ?_ | refine WS_yes rfl (by omega) ?_ | refine WS_no rfl (by omega) ?_ | refine WL_gyes rfl rfl rfl ?_ | refine WL_gno rfl rfl rfl rfl rfl ?_ | refine WL_gund rfl rfl rfl ?_ | refine WL_gyes rfl rfl (dF (by omega)) ?_ | refine WL_gyes rfl rfl (dT (by omega)) ?_ | refine WL_gno (b := false) rfl rfl (dF (by omega)) rfl rfl ?_ | refine WL_gno (b := true) rfl rfl (dT (by omega)) rfl rfl ?_ | (refine WL_r (by first | refine k_buildS (cs := evc 0 1 true) (Ty.zer rfl) (Ty.plc rfl) rfl | refine Run_pev rfl | refine k_add64 rfl rfl (by omega) | refine k_sub64 rfl rfl (by omega) | refine k_len rfl (Ty.isl rfl) | refine k_not rfl | refine k_notb rfl | refine k_min rfl rfl | refine k_max rfl rfl | refine k_mul64 rfl rfl (by omega) | refine k_quo64 rfl rfl (by omega) | refine k_rem rfl rfl (by omega) | refine k_extract rfl rfl | refine k_convI rfl rfl rfl (by omega) | refine k_conv16 rfl rfl rfl (by omega) | refine k_conv64 rfl rfl rfl (by omega) | refine k_conv8 rfl rfl rfl (by omega) | refine k_convB rfl rfl rfl | refine k_convH rfl rfl rfl | refine k_convQ rfl rfl rfl | refine k_pick_f (dF (by omega)) rfl | refine k_pick_t (dT (by omega)) rfl) rfl ?_))
  try refine WL_gyes rfl rfl rfl ?_
  refine WL_s (H_lit (out := (evc 0 1 true)) hH (Ty.sle rfl) (Ty.zer rfl) rfl rfl rfl (by decide) rfl ?_)
  try clear hH
  intro _ b6 hH
  first | change Hp _ _ _ [] at hH | change Hp _ _ _ [_] at hH | change Hp _ _ _ [_, _] at hH | change Hp _ _ _ [_, _, _] at hH | change Hp _ _ _ [_, _, _, _] at hH | change Hp _ _ _ [_, _, _, _, _] at hH | change Hp _ _ _ [_, _, _, _, _, _] at hH | change Hp _ _ _ [_, _, _, _, _, _, _] at hH | change Hp _ _ _ [_, _, _, _, _, _, _, _] at hH | change Hp _ _ _ [_, _, _, _, _, _, _, _, _] at hH
  repeat (first | refine WS_seq ?_ | refine WS_region ?_ | refine WL_nil ?_ | refine WS_block ?_ | refine WS_inBlock ?_ | refine WS_skip ?_ | refine WS_label ?_ | refine WS_scope ?_ | refine WS_inScope ?_ | refine WS_exit rfl ?_ | refine WS_true rfl ?_ | refine WS_false rfl ?_ | refine WS_yes rfl (by omega) ?_ | refine WS_no rfl (by omega) ?_ | refine WL_gyes rfl rfl rfl ?_ | refine WL_gno rfl rfl rfl rfl rfl ?_ | refine WL_gund rfl rfl rfl ?_ | refine WL_gyes rfl rfl (dF (by omega)) ?_ | refine WL_gyes rfl rfl (dT (by omega)) ?_ | refine WL_gno (b := false) rfl rfl (dF (by omega)) rfl rfl ?_ | refine WL_gno (b := true) rfl rfl (dT (by omega)) rfl rfl ?_ | (refine WL_r (by first | refine Run_pev rfl | refine k_add64 rfl rfl (by omega) | refine k_sub64 rfl rfl (by omega) | refine k_len rfl (Ty.isl rfl) | refine k_not rfl | refine k_notb rfl | refine k_min rfl rfl | refine k_max rfl rfl | refine k_mul64 rfl rfl (by omega) | refine k_quo64 rfl rfl (by omega) | refine k_rem rfl rfl (by omega) | refine k_extract rfl rfl | refine k_convI rfl rfl rfl (by omega) | refine k_conv16 rfl rfl rfl (by omega) | refine k_conv64 rfl rfl rfl (by omega) | refine k_conv8 rfl rfl rfl (by omega) | refine k_convB rfl rfl rfl | refine k_convH rfl rfl rfl | refine k_convQ rfl rfl rfl | refine k_pick_f (dF (by omega)) rfl | refine k_pick_t (dT (by omega)) rfl) rfl ?_))
  try refine WL_gyes rfl rfl rfl ?_
  refine WL_s (S_call (bput_spec hg rfl (by decide) ((hH.b 1 rfl).sl0) (hH.at 0 rfl) (hH.dj 0 1 rfl rfl (by decide))) rfl rfl ?_)
  rintro v w2 ⟨rfl, a2, c2, hU⟩
  replace hH := hH.up 0 rfl hU
  clear hU
  first | change Hp _ _ _ [] at hH | change Hp _ _ _ [_] at hH | change Hp _ _ _ [_, _] at hH | change Hp _ _ _ [_, _, _] at hH | change Hp _ _ _ [_, _, _, _] at hH | change Hp _ _ _ [_, _, _, _, _] at hH | change Hp _ _ _ [_, _, _, _, _, _] at hH | change Hp _ _ _ [_, _, _, _, _, _, _] at hH | change Hp _ _ _ [_, _, _, _, _, _, _, _] at hH | change Hp _ _ _ [_, _, _, _, _, _, _, _, _] at hH
  have eb : [] ++ bb [(0, (1 : Int))] = bP [[(0, 1)]] := by simp [bP]
  have hbl : (bP [[(0, (1 : Int))]]).length = 4 := by decide +kernel
  rw [eb] at hH
  have hX : GP [[(0, (1 : Int))]] := fun x hx => by simp at hx; subst hx; exact hg
  have hXl : ([[(0, (1 : Int))]] : List PS).length = 1 := rfl
  generalize hXX : ([[(0, (1 : Int))]] : List PS) = X at *
  have hpl := pk_len (bP X ++ [true])
  rw [List.length_append, List.length_singleton, hbl] at hpl
  have hel := escF_len (pk (bP X ++ [true])) 0
  repeat (first | refine WS_seq ?_ | refine WS_region ?_ | refine WL_nil ?_ | refine WS_block ?_ | refine WS_inBlock ?_ | refine WS_skip ?_ | refine WS_label ?_ | refine WS_scope ?_ | refine WS_inScope ?_ | refine WS_exit rfl ?_ | refine WS_true rfl ?_ | refine WS_false rfl ?_ | refine WS_yes rfl (by omega) ?_ | refine WS_no rfl (by omega) ?_ | refine WL_gyes rfl rfl rfl ?_ | refine WL_gno rfl rfl rfl rfl rfl ?_ | refine WL_gund rfl rfl rfl ?_ | refine WL_gyes rfl rfl (dF (by omega)) ?_ | refine WL_gyes rfl rfl (dT (by omega)) ?_ | refine WL_gno (b := false) rfl rfl (dF (by omega)) rfl rfl ?_ | refine WL_gno (b := true) rfl rfl (dT (by omega)) rfl rfl ?_ | (refine WL_r (by first | refine Run_pev rfl | refine k_add64 rfl rfl (by omega) | refine k_sub64 rfl rfl (by omega) | refine k_len rfl (Ty.isl rfl) | refine k_not rfl | refine k_notb rfl | refine k_min rfl rfl | refine k_max rfl rfl | refine k_mul64 rfl rfl (by omega) | refine k_quo64 rfl rfl (by omega) | refine k_rem rfl rfl (by omega) | refine k_extract rfl rfl | refine k_convI rfl rfl rfl (by omega) | refine k_conv16 rfl rfl rfl (by omega) | refine k_conv64 rfl rfl rfl (by omega) | refine k_conv8 rfl rfl rfl (by omega) | refine k_convB rfl rfl rfl | refine k_convH rfl rfl rfl | refine k_convQ rfl rfl rfl | refine k_pick_f (dF (by omega)) rfl | refine k_pick_t (dT (by omega)) rfl) rfl ?_))
  try refine WL_gyes rfl rfl rfl ?_
  refine WL_s (S_call (wdone_spec (hH.at 0 rfl) (by omega)) rfl rfl ?_)
  rintro v w8 ⟨a8, c8, rfl, hN⟩
  replace hH := hH.nu hN
  clear hN
  first | change Hp _ _ _ [] at hH | change Hp _ _ _ [_] at hH | change Hp _ _ _ [_, _] at hH | change Hp _ _ _ [_, _, _] at hH | change Hp _ _ _ [_, _, _, _] at hH | change Hp _ _ _ [_, _, _, _, _] at hH | change Hp _ _ _ [_, _, _, _, _, _] at hH | change Hp _ _ _ [_, _, _, _, _, _, _] at hH | change Hp _ _ _ [_, _, _, _, _, _, _, _] at hH | change Hp _ _ _ [_, _, _, _, _, _, _, _, _] at hH
  repeat (first | refine WS_seq ?_ | refine WS_region ?_ | refine WL_nil ?_ | refine WS_block ?_ | refine WS_inBlock ?_ | refine WS_skip ?_ | refine WS_label ?_ | refine WS_scope ?_ | refine WS_inScope ?_ | refine WS_exit rfl ?_ | refine WS_true rfl ?_ | refine WS_false rfl ?_ | refine WS_yes rfl (by omega) ?_ | refine WS_no rfl (by omega) ?_ | refine WL_gyes rfl rfl rfl ?_ | refine WL_gno rfl rfl rfl rfl rfl ?_ | refine WL_gund rfl rfl rfl ?_ | refine WL_gyes rfl rfl (dF (by omega)) ?_ | refine WL_gyes rfl rfl (dT (by omega)) ?_ | refine WL_gno (b := false) rfl rfl (dF (by omega)) rfl rfl ?_ | refine WL_gno (b := true) rfl rfl (dT (by omega)) rfl rfl ?_ | (refine WL_r (by first | refine Run_pev rfl | refine k_add64 rfl rfl (by omega) | refine k_sub64 rfl rfl (by omega) | refine k_len rfl (Ty.isl rfl) | refine k_not rfl | refine k_notb rfl | refine k_min rfl rfl | refine k_max rfl rfl | refine k_mul64 rfl rfl (by omega) | refine k_quo64 rfl rfl (by omega) | refine k_rem rfl rfl (by omega) | refine k_extract rfl rfl | refine k_convI rfl rfl rfl (by omega) | refine k_conv16 rfl rfl rfl (by omega) | refine k_conv64 rfl rfl rfl (by omega) | refine k_conv8 rfl rfl rfl (by omega) | refine k_convB rfl rfl rfl | refine k_convH rfl rfl rfl | refine k_convQ rfl rfl rfl | refine k_pick_f (dF (by omega)) rfl | refine k_pick_t (dT (by omega)) rfl) rfl ?_))
  try refine WL_gyes rfl rfl rfl ?_
  refine WL_s (S_call (put_spec (hH.o 2 rfl).sl (pk_byt _) rfl (by omega)) rfl rfl ?_)
  rintro v w9 ⟨a9, c9, rfl, hN⟩
  replace hH := hH.nu hN
  clear hN
  first | change Hp _ _ _ [] at hH | change Hp _ _ _ [_] at hH | change Hp _ _ _ [_, _] at hH | change Hp _ _ _ [_, _, _] at hH | change Hp _ _ _ [_, _, _, _] at hH | change Hp _ _ _ [_, _, _, _, _] at hH | change Hp _ _ _ [_, _, _, _, _, _] at hH | change Hp _ _ _ [_, _, _, _, _, _, _] at hH | change Hp _ _ _ [_, _, _, _, _, _, _, _] at hH | change Hp _ _ _ [_, _, _, _, _, _, _, _, _] at hH
  repeat (first | refine WS_seq ?_ | refine WS_region ?_ | refine WL_nil ?_ | refine WS_block ?_ | refine WS_inBlock ?_ | refine WS_skip ?_ | refine WS_label ?_ | refine WS_scope ?_ | refine WS_inScope ?_ | refine WS_exit rfl ?_ | refine WS_true rfl ?_ | refine WS_false rfl ?_ | refine WS_yes rfl (by omega) ?_ | refine WS_no rfl (by omega) ?_ | refine WL_gyes rfl rfl rfl ?_ | refine WL_gno rfl rfl rfl rfl rfl ?_ | refine WL_gund rfl rfl rfl ?_ | refine WL_gyes rfl rfl (dF (by omega)) ?_ | refine WL_gyes rfl rfl (dT (by omega)) ?_ | refine WL_gno (b := false) rfl rfl (dF (by omega)) rfl rfl ?_ | refine WL_gno (b := true) rfl rfl (dT (by omega)) rfl rfl ?_ | (refine WL_r (by first | refine Run_pev rfl | refine k_add64 rfl rfl (by omega) | refine k_sub64 rfl rfl (by omega) | refine k_len rfl (Ty.isl rfl) | refine k_not rfl | refine k_notb rfl | refine k_min rfl rfl | refine k_max rfl rfl | refine k_mul64 rfl rfl (by omega) | refine k_quo64 rfl rfl (by omega) | refine k_rem rfl rfl (by omega) | refine k_extract rfl rfl | refine k_convI rfl rfl rfl (by omega) | refine k_conv16 rfl rfl rfl (by omega) | refine k_conv64 rfl rfl rfl (by omega) | refine k_conv8 rfl rfl rfl (by omega) | refine k_convB rfl rfl rfl | refine k_convH rfl rfl rfl | refine k_convQ rfl rfl rfl | refine k_pick_f (dF (by omega)) rfl | refine k_pick_t (dT (by omega)) rfl) rfl ?_))
  try refine WL_gyes rfl rfl rfl ?_
  refine WL_s (S_call (sof_spec (m := 1) (hH.o 3 rfl).sl (escF_byt _ _ (pk_byt _)) rfl (by omega) (by decide)) rfl rfl ?_)
  rintro v w10 hSO
  obtain ⟨E, b, hpE, rfl, hQ⟩ := SOf.right hX (by omega) hSO
  replace hH := Hp.cat hH hQ
  clear hQ hSO
  first | change Hp _ _ _ [] at hH | change Hp _ _ _ [_] at hH | change Hp _ _ _ [_, _] at hH | change Hp _ _ _ [_, _, _] at hH | change Hp _ _ _ [_, _, _, _] at hH | change Hp _ _ _ [_, _, _, _, _] at hH | change Hp _ _ _ [_, _, _, _, _, _] at hH | change Hp _ _ _ [_, _, _, _, _, _, _] at hH | change Hp _ _ _ [_, _, _, _, _, _, _, _] at hH | change Hp _ _ _ [_, _, _, _, _, _, _, _, _] at hH
  obtain ⟨x, rfl⟩ : ∃ x, E = [x] := by
    have := congrArg List.length hpE
    rw [pse_len, sE_len (by simp; omega)] at this
    exact List.length_eq_one_iff.1 this
  obtain ⟨ax, cx, ps⟩ := x
  have hps : ps = [(0, 1)] := by
    have h1 := congrArg (·[0]?) hpE
    simp only [sE_at1 (m := 1) (F := X) (B := []) (i := 0) (by omega)] at h1
    subst hXX
    simpa [pse] using h1
  subst hps
  repeat (first | refine WS_seq ?_ | refine WS_region ?_ | refine WL_nil ?_ | refine WS_block ?_ | refine WS_inBlock ?_ | refine WS_skip ?_ | refine WS_label ?_ | refine WS_scope ?_ | refine WS_inScope ?_ | refine WS_exit rfl ?_ | refine WS_true rfl ?_ | refine WS_false rfl ?_ | refine WS_yes rfl (by omega) ?_ | refine WS_no rfl (by omega) ?_ | refine WL_gyes rfl rfl rfl ?_ | refine WL_gno rfl rfl rfl rfl rfl ?_ | refine WL_gund rfl rfl rfl ?_ | refine WL_gyes rfl rfl (dF (by omega)) ?_ | refine WL_gyes rfl rfl (dT (by omega)) ?_ | refine WL_gno (b := false) rfl rfl (dF (by omega)) rfl rfl ?_ | refine WL_gno (b := true) rfl rfl (dT (by omega)) rfl rfl ?_ | (refine WL_r (by first | refine Run_pev rfl | refine k_add64 rfl rfl (by omega) | refine k_sub64 rfl rfl (by omega) | refine k_len rfl (Ty.isl rfl) | refine k_not rfl | refine k_notb rfl | refine k_min rfl rfl | refine k_max rfl rfl | refine k_mul64 rfl rfl (by omega) | refine k_quo64 rfl rfl (by omega) | refine k_rem rfl rfl (by omega) | refine k_extract rfl rfl | refine k_convI rfl rfl rfl (by omega) | refine k_conv16 rfl rfl rfl (by omega) | refine k_conv64 rfl rfl rfl (by omega) | refine k_conv8 rfl rfl rfl (by omega) | refine k_convB rfl rfl rfl | refine k_convH rfl rfl rfl | refine k_convQ rfl rfl rfl | refine k_pick_f (dF (by omega)) rfl | refine k_pick_t (dT (by omega)) rfl) rfl ?_))
  refine WL_s (H_alloc hH (Ty.zer rfl) rfl ?_)
  try clear hH
  intro w11 b2 hH
  first | change Hp _ _ _ [] at hH | change Hp _ _ _ [_] at hH | change Hp _ _ _ [_, _] at hH | change Hp _ _ _ [_, _, _] at hH | change Hp _ _ _ [_, _, _, _] at hH | change Hp _ _ _ [_, _, _, _, _] at hH | change Hp _ _ _ [_, _, _, _, _, _] at hH | change Hp _ _ _ [_, _, _, _, _, _, _] at hH | change Hp _ _ _ [_, _, _, _, _, _, _, _] at hH | change Hp _ _ _ [_, _, _, _, _, _, _, _, _] at hH
  repeat (first | refine WS_seq ?_ | refine WS_region ?_ | refine WL_nil ?_ | refine WS_block ?_ | refine WS_inBlock ?_ | refine WS_skip ?_ | refine WS_label ?_ | refine WS_scope ?_ | refine WS_inScope ?_ | refine WS_exit rfl ?_ | refine WS_true rfl ?_ | refine WS_false rfl ?_ | refine WS_yes rfl (by omega) ?_ | refine WS_no rfl (by omega) ?_ | refine WL_gyes rfl rfl rfl ?_ | refine WL_gno rfl rfl rfl rfl rfl ?_ | refine WL_gund rfl rfl rfl ?_ | refine WL_gyes rfl rfl (dF (by omega)) ?_ | refine WL_gyes rfl rfl (dT (by omega)) ?_ | refine WL_gno (b := false) rfl rfl (dF (by omega)) rfl rfl ?_ | refine WL_gno (b := true) rfl rfl (dT (by omega)) rfl rfl ?_ | (refine WL_r (by first | refine Run_pev rfl | refine k_add64 rfl rfl (by omega) | refine k_sub64 rfl rfl (by omega) | refine k_len rfl (Ty.isl rfl) | refine k_not rfl | refine k_notb rfl | refine k_min rfl rfl | refine k_max rfl rfl | refine k_mul64 rfl rfl (by omega) | refine k_quo64 rfl rfl (by omega) | refine k_rem rfl rfl (by omega) | refine k_extract rfl rfl | refine k_convI rfl rfl rfl (by omega) | refine k_conv16 rfl rfl rfl (by omega) | refine k_conv64 rfl rfl rfl (by omega) | refine k_conv8 rfl rfl rfl (by omega) | refine k_convB rfl rfl rfl | refine k_convH rfl rfl rfl | refine k_convQ rfl rfl rfl | refine k_pick_f (dF (by omega)) rfl | refine k_pick_t (dT (by omega)) rfl) rfl ?_))
  refine WL_s (H_storeA 6 hH rfl rfl rfl rfl rfl b3_one (Ty.shp rfl) ?_)
  try clear hH
  intro w12 hH
  first | change Hp _ _ _ [] at hH | change Hp _ _ _ [_] at hH | change Hp _ _ _ [_, _] at hH | change Hp _ _ _ [_, _, _] at hH | change Hp _ _ _ [_, _, _, _] at hH | change Hp _ _ _ [_, _, _, _, _] at hH | change Hp _ _ _ [_, _, _, _, _, _] at hH | change Hp _ _ _ [_, _, _, _, _, _, _] at hH | change Hp _ _ _ [_, _, _, _, _, _, _, _] at hH | change Hp _ _ _ [_, _, _, _, _, _, _, _, _] at hH
  have hB2 := hH.b 6 rfl
  have hO := (hH.o 4 rfl).sl
  rw [hXl] at hB2
  have hat : (elvs [((ax, cx, [(0, (1 : Int))]) : EL)])[0]? = some (.slice ax 1 cx) := rfl
  repeat (first | refine WS_seq ?_ | refine WS_region ?_ | refine WL_nil ?_ | refine WS_block ?_ | refine WS_inBlock ?_ | refine WS_skip ?_ | refine WS_label ?_ | refine WS_scope ?_ | refine WS_inScope ?_ | refine WS_exit rfl ?_ | refine WS_true rfl ?_ | refine WS_false rfl ?_ | refine WS_yes rfl (by omega) ?_ | refine WS_no rfl (by omega) ?_ | refine WL_gyes rfl rfl rfl ?_ | refine WL_gno rfl rfl rfl rfl rfl ?_ | refine WL_gund rfl rfl rfl ?_ | refine WL_gyes rfl rfl (dF (by omega)) ?_ | refine WL_gyes rfl rfl (dT (by omega)) ?_ | refine WL_gno (b := false) rfl rfl (dF (by omega)) rfl rfl ?_ | refine WL_gno (b := true) rfl rfl (dT (by omega)) rfl rfl ?_ | (refine WL_r (by first | refine k_nilCheck rfl | refine k_fa rfl (Ty.fld rfl rfl) | refine k_loadb rfl hB2 rfl (Ty.shp rfl) | refine (k_eql (q := .i64) rfl rfl).is (bT rfl) | refine k_ix1 rfl rfl hO rfl (Ty.sle rfl) (by omega) | refine k_loads rfl hO hat (Ty.shp rfl) | refine Run_pev rfl | refine k_add64 rfl rfl (by omega) | refine k_sub64 rfl rfl (by omega) | refine k_len rfl (Ty.isl rfl) | refine k_not rfl | refine k_notb rfl | refine k_min rfl rfl | refine k_max rfl rfl | refine k_mul64 rfl rfl (by omega) | refine k_quo64 rfl rfl (by omega) | refine k_rem rfl rfl (by omega) | refine k_extract rfl rfl | refine k_convI rfl rfl rfl (by omega) | refine k_conv16 rfl rfl rfl (by omega) | refine k_conv64 rfl rfl rfl (by omega) | refine k_conv8 rfl rfl rfl (by omega) | refine k_convB rfl rfl rfl | refine k_convH rfl rfl rfl | refine k_convQ rfl rfl rfl | refine k_pick_f (dF (by omega)) rfl | refine k_pick_t (dT (by omega)) rfl) rfl ?_))
  exact WS_ret1 Try.func37 rfl ⟨rfl, hH.ext⟩
end Go.Proofs.Ytnamafelcjgjfaa

namespace Go.Proofs.Ytnamafelcjgjfaa
open Go Go.K Go.P Go.RowKit Go.Proofs Go.ChangeShapes Go.WideShapes Go.ChangeAt
theorem prt_eq (X : List EL) : prt X = escF 0 (pk (bP (pse X) ++ [true])) := by unfold prt; rw [pse_bits]
theorem pse_get {E : List EL} {P : List PS} {i : Nat} (h : pse E = P) (hi : i < E.length) : P[i]? = some E[i].2.2 := h ▸ pse_at E hi
theorem prt_len {X : List EL} (hG : GX X) (h : X.length ≤ 10) : (prt X).length ≤ 10000 := by
  have h1 := escF_len (pk (bL X ++ [true])) 0
  have h2 := pk_len (bL X ++ [true])
  have h3 := bL_le hG
  rw [List.length_append, List.length_singleton] at h2
  unfold prt
  omega
theorem GX.le {X : List EL} (h : GX X) : ∀ x ∈ X, x.2.2.length ≤ 64 := fun x hx => (h x hx).len
set_option maxRecDepth 20000 in
set_option maxHeartbeats 8000000 in
theorem sright_spec {a : Option Addr} {cap m : Nat} {ms : List SM} {less : Int} {w : World} (hS : SlA w a (smcs ms)) (hok : ∀ x ∈ ms, x.ok) (hlen : ms.length ≤ 9223372036854775807) (hl : -9223372036854775808 ≤ less ∧ less ≤ 9223372036854775807) :
    Does Try.prog 9 #[.slice a ms.length cap, .int .i64 less, .int .u8 m] w fun v w' => v = .bool true ∧ Ext [] w w' := by
  refine Does_of (args := [_, _, _]) Try.func9 rfl rfl Try.ntmps9 rfl ?_
  repeat (first | refine WS_seq ?_ | refine WS_region ?_ | refine WL_nil ?_ | refine WS_block ?_ | refine WS_inBlock ?_ | refine WS_skip ?_ | refine WS_label ?_ | refine WS_scope ?_ | refine WS_inScope ?_ | refine WS_exit rfl ?_ | refine WS_true rfl ?_ | refine WS_false rfl ?_ | refine WS_yes rfl (by omega) ?_ | refine WS_no rfl (by omega) ?_ | refine WL_gyes rfl rfl rfl ?_ | refine WL_gno rfl rfl rfl rfl rfl ?_ | refine WL_gund rfl rfl rfl ?_ | refine WL_gyes rfl rfl (dF (by omega)) ?_ | refine WL_gyes rfl rfl (dT (by omega)) ?_ | refine WL_gno (b := false) rfl rfl (dF (by omega)) rfl rfl ?_ | refine WL_gno (b := true) rfl rfl (dT (by omega)) rfl rfl ?_ | (refine WL_r (by first | refine Run_pev rfl | refine k_add64 rfl rfl (by omega) | refine k_sub64 rfl rfl (by omega) | refine k_len rfl (Ty.isl rfl) | refine k_not rfl | refine k_notb rfl | refine k_min rfl rfl | refine k_max rfl rfl | refine k_mul64 rfl rfl (by omega) | refine k_quo64 rfl rfl (by omega) | refine k_rem rfl rfl (by omega) | refine k_extract rfl rfl | refine k_convI rfl rfl rfl (by omega) | refine k_conv16 rfl rfl rfl (by omega) | refine k_conv64 rfl rfl rfl (by omega) | refine k_conv8 rfl rfl rfl (by omega) | refine k_convB rfl rfl rfl | refine k_convH rfl rfl rfl | refine k_convQ rfl rfl rfl | refine k_pick_f (dF (by omega)) rfl | refine k_pick_t (dT (by omega)) rfl) rfl ?_))
  try refine WL_gyes rfl rfl rfl ?_
  refine WL_s (S_call (awake24 w) rfl rfl ?_)
  rintro v w1 ⟨rfl, hW1⟩
  have hH := (Hp.start w).ext0 hW1
  clear hW1
  repeat (first | refine WS_seq ?_ | refine WS_region ?_ | refine WL_nil ?_ | refine WS_block ?_ | refine WS_inBlock ?_ | refine WS_skip ?_ | refine WS_label ?_ | refine WS_scope ?_ | refine WS_inScope ?_ | refine WS_exit rfl ?_ | refine WS_true rfl ?_ | refine WS_false rfl ?_ | refine WS_yes rfl (by omega) ?_ | refine WS_no rfl (by omega) ?_ | refine WL_gyes rfl rfl rfl ?_ | refine WL_gno rfl rfl rfl rfl rfl ?_ | refine WL_gund rfl rfl rfl ?_ | refine WL_gyes rfl rfl (dF (by omega)) ?_ | refine WL_gyes rfl rfl (dT (by omega)) ?_ | refine WL_gno (b := false) rfl rfl (dF (by omega)) rfl rfl ?_ | refine WL_gno (b := true) rfl rfl (dT (by omega)) rfl rfl ?_ | (refine WL_r (by first | refine Run_pev rfl | refine k_add64 rfl rfl (by omega) | refine k_sub64 rfl rfl (by omega) | refine k_len rfl (Ty.isl rfl) | refine k_not rfl | refine k_notb rfl | refine k_min rfl rfl | refine k_max rfl rfl | refine k_mul64 rfl rfl (by omega) | refine k_quo64 rfl rfl (by omega) | refine k_rem rfl rfl (by omega) | refine k_extract rfl rfl | refine k_convI rfl rfl rfl (by omega) | refine k_conv16 rfl rfl rfl (by omega) | refine k_conv64 rfl rfl rfl (by omega) | refine k_conv8 rfl rfl rfl (by omega) | refine k_convB rfl rfl rfl | refine k_convH rfl rfl rfl | refine k_convQ rfl rfl rfl | refine k_pick_f (dF (by omega)) rfl | refine k_pick_t (dT (by omega)) rfl) rfl ?_))
  try refine WL_gyes rfl rfl rfl ?_
  refine WL_s (S_call (part_spec (hH.old hS) hok hlen) rfl rfl ?_)
  rintro v w2 ⟨X, al, cl, ab, cb, hG, hX10, rfl, hQ⟩
  replace hH := Hp.cat hH hQ
  clear hQ
  first | change Hp _ _ _ [] at hH | change Hp _ _ _ [_] at hH | change Hp _ _ _ [_, _] at hH | change Hp _ _ _ [_, _, _] at hH | change Hp _ _ _ [_, _, _, _] at hH | change Hp _ _ _ [_, _, _, _, _] at hH | change Hp _ _ _ [_, _, _, _, _, _] at hH | change Hp _ _ _ [_, _, _, _, _, _, _] at hH | change Hp _ _ _ [_, _, _, _, _, _, _, _] at hH | change Hp _ _ _ [_, _, _, _, _, _, _, _, _] at hH
  have hpl := prt_len hG hX10
  repeat (first | refine WS_seq ?_ | refine WS_region ?_ | refine WL_nil ?_ | refine WS_block ?_ | refine WS_inBlock ?_ | refine WS_skip ?_ | refine WS_label ?_ | refine WS_scope ?_ | refine WS_inScope ?_ | refine WS_exit rfl ?_ | refine WS_true rfl ?_ | refine WS_false rfl ?_ | refine WS_yes rfl (by omega) ?_ | refine WS_no rfl (by omega) ?_ | refine WL_gyes rfl rfl rfl ?_ | refine WL_gno rfl rfl rfl rfl rfl ?_ | refine WL_gund rfl rfl rfl ?_ | refine WL_gyes rfl rfl (dF (by omega)) ?_ | refine WL_gyes rfl rfl (dT (by omega)) ?_ | refine WL_gno (b := false) rfl rfl (dF (by omega)) rfl rfl ?_ | refine WL_gno (b := true) rfl rfl (dT (by omega)) rfl rfl ?_ | (refine WL_r (by first | refine Run_pev rfl | refine k_add64 rfl rfl (by omega) | refine k_sub64 rfl rfl (by omega) | refine k_len rfl (Ty.isl rfl) | refine k_not rfl | refine k_notb rfl | refine k_min rfl rfl | refine k_max rfl rfl | refine k_mul64 rfl rfl (by omega) | refine k_quo64 rfl rfl (by omega) | refine k_rem rfl rfl (by omega) | refine k_extract rfl rfl | refine k_convI rfl rfl rfl (by omega) | refine k_conv16 rfl rfl rfl (by omega) | refine k_conv64 rfl rfl rfl (by omega) | refine k_conv8 rfl rfl rfl (by omega) | refine k_convB rfl rfl rfl | refine k_convH rfl rfl rfl | refine k_convQ rfl rfl rfl | refine k_pick_f (dF (by omega)) rfl | refine k_pick_t (dT (by omega)) rfl) rfl ?_))
  try refine WL_gyes rfl rfl rfl ?_
  refine WL_s (S_call (sof_spec (m := X.length) (hH.o 2 rfl).sl (prt_byt X) rfl (by omega) (by omega)) rfl rfl ?_)
  rintro v w3 hSO
  have hSO2 := prt_eq X ▸ hSO
  obtain ⟨E, be, hpE, rfl, hQ⟩ := SOf.right (pse_good hG) (by rw [pse_len]; exact Nat.le_refl _) hSO2
  clear hSO hSO2
  replace hH := Hp.cat hH hQ
  clear hQ
  first | change Hp _ _ _ [] at hH | change Hp _ _ _ [_] at hH | change Hp _ _ _ [_, _] at hH | change Hp _ _ _ [_, _, _] at hH | change Hp _ _ _ [_, _, _, _] at hH | change Hp _ _ _ [_, _, _, _, _] at hH | change Hp _ _ _ [_, _, _, _, _, _] at hH | change Hp _ _ _ [_, _, _, _, _, _, _] at hH | change Hp _ _ _ [_, _, _, _, _, _, _, _] at hH | change Hp _ _ _ [_, _, _, _, _, _, _, _, _] at hH
  rw [pse_len]
  have hpE' : pse E = pse X := by rw [hpE]; simp [sE, pse_len]
  clear hpE
  have hEX : E.length = X.length := by rw [← pse_len, hpE', pse_len]
  have hE64 : ∀ x ∈ E, x.2.2.length ≤ 64 := fun x hx => by
    have : x.2.2 ∈ pse X := hpE' ▸ List.mem_map_of_mem hx
    exact (pse_good hG _ this).len
  repeat (first | refine WS_seq ?_ | refine WS_region ?_ | refine WL_nil ?_ | refine WS_block ?_ | refine WS_inBlock ?_ | refine WS_skip ?_ | refine WS_label ?_ | refine WS_scope ?_ | refine WS_inScope ?_ | refine WS_exit rfl ?_ | refine WS_true rfl ?_ | refine WS_false rfl ?_ | refine WS_yes rfl (by omega) ?_ | refine WS_no rfl (by omega) ?_ | refine WL_gyes rfl rfl rfl ?_ | refine WL_gno rfl rfl rfl rfl rfl ?_ | refine WL_gund rfl rfl rfl ?_ | refine WL_gyes rfl rfl (dF (by omega)) ?_ | refine WL_gyes rfl rfl (dT (by omega)) ?_ | refine WL_gno (b := false) rfl rfl (dF (by omega)) rfl rfl ?_ | refine WL_gno (b := true) rfl rfl (dT (by omega)) rfl rfl ?_ | (refine WL_r (by first | refine Run_pev rfl | refine k_add64 rfl rfl (by omega) | refine k_sub64 rfl rfl (by omega) | refine k_len rfl (Ty.isl rfl) | refine k_not rfl | refine k_notb rfl | refine k_min rfl rfl | refine k_max rfl rfl | refine k_mul64 rfl rfl (by omega) | refine k_quo64 rfl rfl (by omega) | refine k_rem rfl rfl (by omega) | refine k_extract rfl rfl | refine k_convI rfl rfl rfl (by omega) | refine k_conv16 rfl rfl rfl (by omega) | refine k_conv64 rfl rfl rfl (by omega) | refine k_conv8 rfl rfl rfl (by omega) | refine k_convB rfl rfl rfl | refine k_convH rfl rfl rfl | refine k_convQ rfl rfl rfl | refine k_pick_f (dF (by omega)) rfl | refine k_pick_t (dT (by omega)) rfl) rfl ?_))
  refine WL_s (H_alloc hH (Ty.zer rfl) rfl ?_)
  try clear hH
  intro w4 b9 hH
  first | change Hp _ _ _ [] at hH | change Hp _ _ _ [_] at hH | change Hp _ _ _ [_, _] at hH | change Hp _ _ _ [_, _, _] at hH | change Hp _ _ _ [_, _, _, _] at hH | change Hp _ _ _ [_, _, _, _, _] at hH | change Hp _ _ _ [_, _, _, _, _, _] at hH | change Hp _ _ _ [_, _, _, _, _, _, _] at hH | change Hp _ _ _ [_, _, _, _, _, _, _, _] at hH | change Hp _ _ _ [_, _, _, _, _, _, _, _, _] at hH
  repeat (first | refine WS_seq ?_ | refine WS_region ?_ | refine WL_nil ?_ | refine WS_block ?_ | refine WS_inBlock ?_ | refine WS_skip ?_ | refine WS_label ?_ | refine WS_scope ?_ | refine WS_inScope ?_ | refine WS_exit rfl ?_ | refine WS_true rfl ?_ | refine WS_false rfl ?_ | refine WS_yes rfl (by omega) ?_ | refine WS_no rfl (by omega) ?_ | refine WL_gyes rfl rfl rfl ?_ | refine WL_gno rfl rfl rfl rfl rfl ?_ | refine WL_gund rfl rfl rfl ?_ | refine WL_gyes rfl rfl (dF (by omega)) ?_ | refine WL_gyes rfl rfl (dT (by omega)) ?_ | refine WL_gno (b := false) rfl rfl (dF (by omega)) rfl rfl ?_ | refine WL_gno (b := true) rfl rfl (dT (by omega)) rfl rfl ?_ | (refine WL_r (by first | refine Run_pev rfl | refine k_add64 rfl rfl (by omega) | refine k_sub64 rfl rfl (by omega) | refine k_len rfl (Ty.isl rfl) | refine k_not rfl | refine k_notb rfl | refine k_min rfl rfl | refine k_max rfl rfl | refine k_mul64 rfl rfl (by omega) | refine k_quo64 rfl rfl (by omega) | refine k_rem rfl rfl (by omega) | refine k_extract rfl rfl | refine k_convI rfl rfl rfl (by omega) | refine k_conv16 rfl rfl rfl (by omega) | refine k_conv64 rfl rfl rfl (by omega) | refine k_conv8 rfl rfl rfl (by omega) | refine k_convB rfl rfl rfl | refine k_convH rfl rfl rfl | refine k_convQ rfl rfl rfl | refine k_pick_f (dF (by omega)) rfl | refine k_pick_t (dT (by omega)) rfl) rfl ?_))
  refine WL_s (H_storeA 5 hH rfl rfl rfl rfl rfl b3_one (Ty.shp rfl) ?_)
  clear hH
  intro w5 hH
  first | change Hp _ _ _ [] at hH | change Hp _ _ _ [_] at hH | change Hp _ _ _ [_, _] at hH | change Hp _ _ _ [_, _, _] at hH | change Hp _ _ _ [_, _, _, _] at hH | change Hp _ _ _ [_, _, _, _, _] at hH | change Hp _ _ _ [_, _, _, _, _, _] at hH | change Hp _ _ _ [_, _, _, _, _, _, _] at hH | change Hp _ _ _ [_, _, _, _, _, _, _, _] at hH | change Hp _ _ _ [_, _, _, _, _, _, _, _, _] at hH
  have hB9 : Blk _ b9 71 #[.slice (some ⟨be, 0, none⟩) X.length X.length, .int .i64 (X.length : Nat), .int .i64 0] := hH.b 5 rfl
  repeat (first | refine WS_seq ?_ | refine WS_region ?_ | refine WL_nil ?_ | refine WS_block ?_ | refine WS_inBlock ?_ | refine WS_skip ?_ | refine WS_label ?_ | refine WS_scope ?_ | refine WS_inScope ?_ | refine WS_exit rfl ?_ | refine WS_true rfl ?_ | refine WS_false rfl ?_ | refine WS_yes rfl (by omega) ?_ | refine WS_no rfl (by omega) ?_ | refine WL_gyes rfl rfl rfl ?_ | refine WL_gno rfl rfl rfl rfl rfl ?_ | refine WL_gund rfl rfl rfl ?_ | refine WL_gyes rfl rfl (dF (by omega)) ?_ | refine WL_gyes rfl rfl (dT (by omega)) ?_ | refine WL_gno (b := false) rfl rfl (dF (by omega)) rfl rfl ?_ | refine WL_gno (b := true) rfl rfl (dT (by omega)) rfl rfl ?_ | (refine WL_r (by first | refine k_nilCheck rfl | refine k_fa rfl (Ty.fld rfl rfl) | refine k_loadb rfl hB9 rfl (Ty.shp rfl) | refine (k_neq (q := .i64) rfl rfl).is (bF (fun h => h rfl)) | refine k_loadA rfl hB9 rfl (Ty.shp rfl) | refine Run_pev rfl | refine k_add64 rfl rfl (by omega) | refine k_sub64 rfl rfl (by omega) | refine k_len rfl (Ty.isl rfl) | refine k_not rfl | refine k_notb rfl | refine k_min rfl rfl | refine k_max rfl rfl | refine k_mul64 rfl rfl (by omega) | refine k_quo64 rfl rfl (by omega) | refine k_rem rfl rfl (by omega) | refine k_extract rfl rfl | refine k_convI rfl rfl rfl (by omega) | refine k_conv16 rfl rfl rfl (by omega) | refine k_conv64 rfl rfl rfl (by omega) | refine k_conv8 rfl rfl rfl (by omega) | refine k_convB rfl rfl rfl | refine k_convH rfl rfl rfl | refine k_convQ rfl rfl rfl | refine k_pick_f (dF (by omega)) rfl | refine k_pick_t (dT (by omega)) rfl) rfl ?_))
  try refine WL_gyes rfl rfl rfl ?_
  refine WL_s (S_call (kept_spec (k := 0) (hH.o 3 rfl).sl (hH.at 4 rfl) hE64 hEX (by omega) (Nat.le_refl _) (by omega) hl) rfl rfl ?_)
  rintro v w6 ⟨Y, bk, hpY, rfl, hQ⟩
  replace hH := Hp.cat hH hQ
  clear hQ hB9
  first | change Hp _ _ _ [] at hH | change Hp _ _ _ [_] at hH | change Hp _ _ _ [_, _] at hH | change Hp _ _ _ [_, _, _] at hH | change Hp _ _ _ [_, _, _, _] at hH | change Hp _ _ _ [_, _, _, _, _] at hH | change Hp _ _ _ [_, _, _, _, _, _] at hH | change Hp _ _ _ [_, _, _, _, _, _, _] at hH | change Hp _ _ _ [_, _, _, _, _, _, _, _] at hH | change Hp _ _ _ [_, _, _, _, _, _, _, _, _] at hH
  have hpY' : pse Y = pse X := by
    rw [hpY, show lss X.length X.length less = 0 from if_pos rfl, hpE']
    refine List.ext_getElem? (fun i => ?_)
    by_cases h : i < (pse X).length
    · rw [kp_at h, if_pos (by rw [pse_len] at h; omega), List.getElem?_eq_getElem h]
    · rw [List.getElem?_eq_none (by rw [kp_len]; omega), List.getElem?_eq_none (by omega)]
  clear hpY
  have hYX : Y.length = X.length := by rw [← pse_len, hpY', pse_len]
  repeat (first | refine WS_seq ?_ | refine WS_region ?_ | refine WL_nil ?_ | refine WS_block ?_ | refine WS_inBlock ?_ | refine WS_skip ?_ | refine WS_label ?_ | refine WS_scope ?_ | refine WS_inScope ?_ | refine WS_exit rfl ?_ | refine WS_true rfl ?_ | refine WS_false rfl ?_ | refine WS_yes rfl (by omega) ?_ | refine WS_no rfl (by omega) ?_ | refine WL_gyes rfl rfl rfl ?_ | refine WL_gno rfl rfl rfl rfl rfl ?_ | refine WL_gund rfl rfl rfl ?_ | refine WL_gyes rfl rfl (dF (by omega)) ?_ | refine WL_gyes rfl rfl (dT (by omega)) ?_ | refine WL_gno (b := false) rfl rfl (dF (by omega)) rfl rfl ?_ | refine WL_gno (b := true) rfl rfl (dT (by omega)) rfl rfl ?_ | (refine WL_r (by first | refine Run_pev rfl | refine k_add64 rfl rfl (by omega) | refine k_sub64 rfl rfl (by omega) | refine k_len rfl (Ty.isl rfl) | refine k_not rfl | refine k_notb rfl | refine k_min rfl rfl | refine k_max rfl rfl | refine k_mul64 rfl rfl (by omega) | refine k_quo64 rfl rfl (by omega) | refine k_rem rfl rfl (by omega) | refine k_extract rfl rfl | refine k_convI rfl rfl rfl (by omega) | refine k_conv16 rfl rfl rfl (by omega) | refine k_conv64 rfl rfl rfl (by omega) | refine k_conv8 rfl rfl rfl (by omega) | refine k_convB rfl rfl rfl | refine k_convH rfl rfl rfl | refine k_convQ rfl rfl rfl | refine k_pick_f (dF (by omega)) rfl | refine k_pick_t (dT (by omega)) rfl) rfl ?_))
  refine WS_loop (G := (Nat)) (fun i => X.length - i) 37778931581482185001024 (fun i => [(48, .int .i64 i)]) (fun i w' => i ≤ X.length ∧ Ext [] w6 w') (0) ⟨rfl, trivial⟩ ⟨by omega, .refl⟩ ?_
  rintro i w' σ ⟨hi, hW⟩ IH
  show WS _ _ _ _ _ (updL [(48, .int .i64 i)] _) _
  replace hH := hH.ext0 hW
  have hB9 : Blk _ b9 71 #[.slice (some ⟨be, 0, none⟩) X.length X.length, .int .i64 (X.length : Nat), .int .i64 0] := hH.b 5 rfl
  by_cases hlt : i < X.length
  · have hOX : SlA w' al (elvs X) := (hH.o 0 rfl).sl
    have hOE : SlA w' (some ⟨be, 0, none⟩) (elvs E) := (hH.o 3 rfl).sl
    have hOY : SlA w' (some ⟨bk, 0, none⟩) (elvs Y) := (hH.o 6 rfl).sl
    have hsX := Rl.at (hH.at 1 rfl) hlt
    have hsE := Rl.at (hH.at 4 rfl) (show i < E.length by omega)
    have hsY := Rl.at (hH.at 7 rfl) (show i < Y.length by omega)
    have hg := hG.at hlt
    have hxi := elvs_at X hlt
    have hei := elvs_at E (show i < E.length by omega)
    have hyi := elvs_at Y (show i < Y.length by omega)
    have h1 := pse_get hpE' (show i < E.length by omega)
    have h2 := pse_get hpY' (show i < Y.length by omega)
    rw [pse_at X hlt] at h1 h2
    have hlX := elvs_len X
    have hlE := elvs_len E
    have hlY := elvs_len Y
    generalize X[i] = x at *
    generalize E[i]'(show i < E.length by omega) = e at *
    generalize Y[i]'(show i < Y.length by omega) = y at *
    obtain ⟨ax, cx, ps⟩ := x
    obtain ⟨ae, ce, pe⟩ := e
    obtain ⟨ay, cy, py⟩ := y
    obtain rfl : ps = pe := Option.some.inj h1
    obtain rfl : ps = py := Option.some.inj h2
    replace hxi : (elvs X)[i]? = some (.slice ax ps.length cx) := hxi
    replace hei : (elvs E)[i]? = some (.slice ae ps.length ce) := hei
    replace hyi : (elvs Y)[i]? = some (.slice ay ps.length cy) := hyi
    simp only at hsX hsE hsY hg
    repeat (first | refine WS_seq ?_ | refine WS_region ?_ | refine WL_nil ?_ | refine WS_block ?_ | refine WS_inBlock ?_ | refine WS_skip ?_ | refine WS_label ?_ | refine WS_scope ?_ | refine WS_inScope ?_ | refine WS_exit rfl ?_ | refine WS_true rfl ?_ | refine WS_false rfl ?_ | refine WS_yes rfl (by omega) ?_ | refine WS_no rfl (by omega) ?_ | refine WL_gyes rfl rfl rfl ?_ | refine WL_gno rfl rfl rfl rfl rfl ?_ | refine WL_gund rfl rfl rfl ?_ | refine WL_gyes rfl rfl (dF (by omega)) ?_ | refine WL_gyes rfl rfl (dT (by omega)) ?_ | refine WL_gno (b := false) rfl rfl (dF (by omega)) rfl rfl ?_ | refine WL_gno (b := true) rfl rfl (dT (by omega)) rfl rfl ?_ | (refine WL_r (by first | refine Run_pev rfl | refine k_add64 rfl rfl (by omega) | refine k_sub64 rfl rfl (by omega) | refine k_len rfl (Ty.isl rfl) | refine k_not rfl | refine k_notb rfl | refine k_min rfl rfl | refine k_max rfl rfl | refine k_mul64 rfl rfl (by omega) | refine k_quo64 rfl rfl (by omega) | refine k_rem rfl rfl (by omega) | refine k_extract rfl rfl | refine k_convI rfl rfl rfl (by omega) | refine k_conv16 rfl rfl rfl (by omega) | refine k_conv64 rfl rfl rfl (by omega) | refine k_conv8 rfl rfl rfl (by omega) | refine k_convB rfl rfl rfl | refine k_convH rfl rfl rfl | refine k_convQ rfl rfl rfl | refine k_pick_f (dF (by omega)) rfl | refine k_pick_t (dT (by omega)) rfl) rfl ?_))
    refine WS_draw Ty.mixed (fun u => Ext [] w' u) 23 rfl ?_
    have hx0 : Ext [] w' w'.drew := Ext.drew0
    refine WA_take 0 rfl (by kernel_rfl) hx0 rfl rfl (fun w' hw' => by first | refine k_fa rfl (Ty.fld rfl rfl)) ?_
    refine WA_take 1 rfl (by kernel_rfl) hx0 rfl rfl (fun w' hw' => by first | refine k_loadb rfl (hB9.ext0 hw') rfl (Ty.shp rfl) | refine k_loads rfl (hOE.ext0 hw') hei (Ty.shp rfl)) ?_
    refine WA_take 2 rfl (by kernel_rfl) hx0 rfl rfl (fun w' hw' => by first | refine Run_pev rfl) ?_
    refine WA_take 3 rfl (by kernel_rfl) hx0 rfl rfl (fun w' hw' => by first | refine k_ix1 rfl rfl (hOE.ext0 hw') (by omega) (Ty.sle rfl) (by omega)) ?_
    refine WA_take 4 rfl (by kernel_rfl) hx0 rfl rfl (fun w' hw' => by first | refine k_loadb rfl (hB9.ext0 hw') rfl (Ty.shp rfl) | refine k_loads rfl (hOE.ext0 hw') hei (Ty.shp rfl)) ?_
    refine WA_take 5 rfl (by kernel_rfl) hx0 rfl rfl (fun w' hw' => by first | refine Run_pev rfl) ?_
    refine WA_take 6 rfl (by kernel_rfl) hx0 rfl rfl (fun w' hw' => by first | refine Run_pev rfl) ?_
    refine WA_take 7 rfl (by kernel_rfl) hx0 rfl rfl (fun w' hw' => by first | refine k_ix1 rfl rfl (hOX.ext0 hw') (by omega) (Ty.sle rfl) (by omega)) ?_
    refine WA_take 8 rfl (by kernel_rfl) hx0 rfl rfl (fun w' hw' => by first | refine k_loads rfl (hOX.ext0 hw') hxi (Ty.shp rfl)) ?_
    refine WA_one 9 (by kernel_rfl) rfl rfl (S_call (same24_spec hg.ok hg.len rfl (hsE.ext0 hx0) (hsX.ext0 hx0)) rfl rfl ?_)
    rintro v u ⟨rfl, hE⟩
    have hx1 := hx0.then0 hE
    refine ⟨hx1, ?_⟩
    refine WA_take 10 rfl (by kernel_rfl) hx1 rfl rfl (fun w' hw' => by first | refine Run_pev rfl | refine k_not rfl | refine k_notb rfl) ?_
    refine WA_take 11 rfl (by kernel_rfl) hx1 rfl rfl (fun w' hw' => by first | refine Run_pev rfl) ?_
    first | refine WA_takey 12 rfl (by kernel_rfl) hx1 rfl rfl rfl rfl rfl (fun w' hw' => by first | refine Run_pev rfl) ?_ | refine WA_takey 12 rfl (by kernel_rfl) hx1 rfl rfl rfl (dF (by omega)) rfl (fun w' hw' => by first | refine Run_pev rfl) ?_ | refine WA_takey 12 rfl (by kernel_rfl) hx1 rfl rfl rfl (dT (by omega)) rfl (fun w' hw' => by first | refine Run_pev rfl) ?_ | refine WA_taken (b := false) 12 rfl (by kernel_rfl) hx1 rfl rfl rfl rfl rfl rfl ?_ | refine WA_taken (b := true) 12 rfl (by kernel_rfl) hx1 rfl rfl rfl rfl rfl rfl ?_ | refine WA_taken (b := false) 12 rfl (by kernel_rfl) hx1 rfl rfl rfl (dF (by omega)) rfl rfl ?_ | refine WA_taken (b := true) 12 rfl (by kernel_rfl) hx1 rfl rfl rfl (dT (by omega)) rfl rfl ?_ | refine WA_takeu 12 rfl (by kernel_rfl) hx1 rfl rfl rfl rfl ?_
    first | refine WA_takey 13 rfl (by kernel_rfl) hx1 rfl rfl rfl rfl rfl (fun w' hw' => by first | refine Run_pev rfl) ?_ | refine WA_takey 13 rfl (by kernel_rfl) hx1 rfl rfl rfl (dF (by omega)) rfl (fun w' hw' => by first | refine Run_pev rfl) ?_ | refine WA_takey 13 rfl (by kernel_rfl) hx1 rfl rfl rfl (dT (by omega)) rfl (fun w' hw' => by first | refine Run_pev rfl) ?_ | refine WA_taken (b := false) 13 rfl (by kernel_rfl) hx1 rfl rfl rfl rfl rfl rfl ?_ | refine WA_taken (b := true) 13 rfl (by kernel_rfl) hx1 rfl rfl rfl rfl rfl rfl ?_ | refine WA_taken (b := false) 13 rfl (by kernel_rfl) hx1 rfl rfl rfl (dF (by omega)) rfl rfl ?_ | refine WA_taken (b := true) 13 rfl (by kernel_rfl) hx1 rfl rfl rfl (dT (by omega)) rfl rfl ?_ | refine WA_takeu 13 rfl (by kernel_rfl) hx1 rfl rfl rfl rfl ?_
    first | refine WA_takey 14 rfl (by kernel_rfl) hx1 rfl rfl rfl rfl rfl (fun w' hw' => by first | refine k_ix1 rfl rfl (hOY.ext0 hw') (by omega) (Ty.sle rfl) (by omega)) ?_ | refine WA_takey 14 rfl (by kernel_rfl) hx1 rfl rfl rfl (dF (by omega)) rfl (fun w' hw' => by first | refine k_ix1 rfl rfl (hOY.ext0 hw') (by omega) (Ty.sle rfl) (by omega)) ?_ | refine WA_takey 14 rfl (by kernel_rfl) hx1 rfl rfl rfl (dT (by omega)) rfl (fun w' hw' => by first | refine k_ix1 rfl rfl (hOY.ext0 hw') (by omega) (Ty.sle rfl) (by omega)) ?_ | refine WA_taken (b := false) 14 rfl (by kernel_rfl) hx1 rfl rfl rfl rfl rfl rfl ?_ | refine WA_taken (b := true) 14 rfl (by kernel_rfl) hx1 rfl rfl rfl rfl rfl rfl ?_ | refine WA_taken (b := false) 14 rfl (by kernel_rfl) hx1 rfl rfl rfl (dF (by omega)) rfl rfl ?_ | refine WA_taken (b := true) 14 rfl (by kernel_rfl) hx1 rfl rfl rfl (dT (by omega)) rfl rfl ?_ | refine WA_takeu 14 rfl (by kernel_rfl) hx1 rfl rfl rfl rfl ?_
    first | refine WA_takey 15 rfl (by kernel_rfl) hx1 rfl rfl rfl rfl rfl (fun w' hw' => by first | refine k_loads rfl (hOY.ext0 hw') hyi (Ty.shp rfl)) ?_ | refine WA_takey 15 rfl (by kernel_rfl) hx1 rfl rfl rfl (dF (by omega)) rfl (fun w' hw' => by first | refine k_loads rfl (hOY.ext0 hw') hyi (Ty.shp rfl)) ?_ | refine WA_takey 15 rfl (by kernel_rfl) hx1 rfl rfl rfl (dT (by omega)) rfl (fun w' hw' => by first | refine k_loads rfl (hOY.ext0 hw') hyi (Ty.shp rfl)) ?_ | refine WA_taken (b := false) 15 rfl (by kernel_rfl) hx1 rfl rfl rfl rfl rfl rfl ?_ | refine WA_taken (b := true) 15 rfl (by kernel_rfl) hx1 rfl rfl rfl rfl rfl rfl ?_ | refine WA_taken (b := false) 15 rfl (by kernel_rfl) hx1 rfl rfl rfl (dF (by omega)) rfl rfl ?_ | refine WA_taken (b := true) 15 rfl (by kernel_rfl) hx1 rfl rfl rfl (dT (by omega)) rfl rfl ?_ | refine WA_takeu 15 rfl (by kernel_rfl) hx1 rfl rfl rfl rfl ?_
    first | refine WA_takey 16 rfl (by kernel_rfl) hx1 rfl rfl rfl rfl rfl (fun w' hw' => by first | refine Run_pev rfl) ?_ | refine WA_takey 16 rfl (by kernel_rfl) hx1 rfl rfl rfl (dF (by omega)) rfl (fun w' hw' => by first | refine Run_pev rfl) ?_ | refine WA_takey 16 rfl (by kernel_rfl) hx1 rfl rfl rfl (dT (by omega)) rfl (fun w' hw' => by first | refine Run_pev rfl) ?_ | refine WA_taken (b := false) 16 rfl (by kernel_rfl) hx1 rfl rfl rfl rfl rfl rfl ?_ | refine WA_taken (b := true) 16 rfl (by kernel_rfl) hx1 rfl rfl rfl rfl rfl rfl ?_ | refine WA_taken (b := false) 16 rfl (by kernel_rfl) hx1 rfl rfl rfl (dF (by omega)) rfl rfl ?_ | refine WA_taken (b := true) 16 rfl (by kernel_rfl) hx1 rfl rfl rfl (dT (by omega)) rfl rfl ?_ | refine WA_takeu 16 rfl (by kernel_rfl) hx1 rfl rfl rfl rfl ?_
    first | refine WA_takey 17 rfl (by kernel_rfl) hx1 rfl rfl rfl rfl rfl (fun w' hw' => by first | refine Run_pev rfl) ?_ | refine WA_takey 17 rfl (by kernel_rfl) hx1 rfl rfl rfl (dF (by omega)) rfl (fun w' hw' => by first | refine Run_pev rfl) ?_ | refine WA_takey 17 rfl (by kernel_rfl) hx1 rfl rfl rfl (dT (by omega)) rfl (fun w' hw' => by first | refine Run_pev rfl) ?_ | refine WA_taken (b := false) 17 rfl (by kernel_rfl) hx1 rfl rfl rfl rfl rfl rfl ?_ | refine WA_taken (b := true) 17 rfl (by kernel_rfl) hx1 rfl rfl rfl rfl rfl rfl ?_ | refine WA_taken (b := false) 17 rfl (by kernel_rfl) hx1 rfl rfl rfl (dF (by omega)) rfl rfl ?_ | refine WA_taken (b := true) 17 rfl (by kernel_rfl) hx1 rfl rfl rfl (dT (by omega)) rfl rfl ?_ | refine WA_takeu 17 rfl (by kernel_rfl) hx1 rfl rfl rfl rfl ?_
    first | refine WA_takey 18 rfl (by kernel_rfl) hx1 rfl rfl rfl rfl rfl (fun w' hw' => by first | refine k_ix1 rfl rfl (hOX.ext0 hw') (by omega) (Ty.sle rfl) (by omega)) ?_ | refine WA_takey 18 rfl (by kernel_rfl) hx1 rfl rfl rfl (dF (by omega)) rfl (fun w' hw' => by first | refine k_ix1 rfl rfl (hOX.ext0 hw') (by omega) (Ty.sle rfl) (by omega)) ?_ | refine WA_takey 18 rfl (by kernel_rfl) hx1 rfl rfl rfl (dT (by omega)) rfl (fun w' hw' => by first | refine k_ix1 rfl rfl (hOX.ext0 hw') (by omega) (Ty.sle rfl) (by omega)) ?_ | refine WA_taken (b := false) 18 rfl (by kernel_rfl) hx1 rfl rfl rfl rfl rfl rfl ?_ | refine WA_taken (b := true) 18 rfl (by kernel_rfl) hx1 rfl rfl rfl rfl rfl rfl ?_ | refine WA_taken (b := false) 18 rfl (by kernel_rfl) hx1 rfl rfl rfl (dF (by omega)) rfl rfl ?_ | refine WA_taken (b := true) 18 rfl (by kernel_rfl) hx1 rfl rfl rfl (dT (by omega)) rfl rfl ?_ | refine WA_takeu 18 rfl (by kernel_rfl) hx1 rfl rfl rfl rfl ?_
    first | refine WA_takey 19 rfl (by kernel_rfl) hx1 rfl rfl rfl rfl rfl (fun w' hw' => by first | refine k_loads rfl (hOX.ext0 hw') hxi (Ty.shp rfl)) ?_ | refine WA_takey 19 rfl (by kernel_rfl) hx1 rfl rfl rfl (dF (by omega)) rfl (fun w' hw' => by first | refine k_loads rfl (hOX.ext0 hw') hxi (Ty.shp rfl)) ?_ | refine WA_takey 19 rfl (by kernel_rfl) hx1 rfl rfl rfl (dT (by omega)) rfl (fun w' hw' => by first | refine k_loads rfl (hOX.ext0 hw') hxi (Ty.shp rfl)) ?_ | refine WA_taken (b := false) 19 rfl (by kernel_rfl) hx1 rfl rfl rfl rfl rfl rfl ?_ | refine WA_taken (b := true) 19 rfl (by kernel_rfl) hx1 rfl rfl rfl rfl rfl rfl ?_ | refine WA_taken (b := false) 19 rfl (by kernel_rfl) hx1 rfl rfl rfl (dF (by omega)) rfl rfl ?_ | refine WA_taken (b := true) 19 rfl (by kernel_rfl) hx1 rfl rfl rfl (dT (by omega)) rfl rfl ?_ | refine WA_takeu 19 rfl (by kernel_rfl) hx1 rfl rfl rfl rfl ?_
    refine WA_oney 20 (by kernel_rfl) rfl rfl rfl rfl rfl (S_call (same24_spec hg.ok hg.len rfl (hsY.ext0 hx1) (hsX.ext0 hx1)) rfl rfl ?_)
    rintro v u2 ⟨rfl, hE⟩
    have hx2 := hx1.then0 hE
    refine ⟨hx2, ?_⟩
    first | refine WA_takey 21 rfl (by kernel_rfl) hx2 rfl rfl rfl rfl rfl (fun w' hw' => by first | refine Run_pev rfl | refine k_not rfl | refine k_notb rfl) ?_ | refine WA_takey 21 rfl (by kernel_rfl) hx2 rfl rfl rfl (dF (by omega)) rfl (fun w' hw' => by first | refine Run_pev rfl | refine k_not rfl | refine k_notb rfl) ?_ | refine WA_takey 21 rfl (by kernel_rfl) hx2 rfl rfl rfl (dT (by omega)) rfl (fun w' hw' => by first | refine Run_pev rfl | refine k_not rfl | refine k_notb rfl) ?_ | refine WA_taken (b := false) 21 rfl (by kernel_rfl) hx2 rfl rfl rfl rfl rfl rfl ?_ | refine WA_taken (b := true) 21 rfl (by kernel_rfl) hx2 rfl rfl rfl rfl rfl rfl ?_ | refine WA_taken (b := false) 21 rfl (by kernel_rfl) hx2 rfl rfl rfl (dF (by omega)) rfl rfl ?_ | refine WA_taken (b := true) 21 rfl (by kernel_rfl) hx2 rfl rfl rfl (dT (by omega)) rfl rfl ?_ | refine WA_takeu 21 rfl (by kernel_rfl) hx2 rfl rfl rfl rfl ?_
    refine WA_take 22 rfl (by kernel_rfl) hx2 rfl rfl (fun w' hw' => by first | refine Run_pev rfl | refine k_pick_f (dF (by omega)) rfl | refine k_pick_t (dT (by omega)) rfl) ?_
    refine WA_done (by kernel_rfl) ?_
    repeat (first | refine WS_seq ?_ | refine WS_region ?_ | refine WL_nil ?_ | refine WS_block ?_ | refine WS_inBlock ?_ | refine WS_skip ?_ | refine WS_label ?_ | refine WS_scope ?_ | refine WS_inScope ?_ | refine WS_exit rfl ?_ | refine WS_true rfl ?_ | refine WS_false rfl ?_ | refine WS_yes rfl (by omega) ?_ | refine WS_no rfl (by omega) ?_ | refine WL_gyes rfl rfl rfl ?_ | refine WL_gno rfl rfl rfl rfl rfl ?_ | refine WL_gund rfl rfl rfl ?_ | refine WL_gyes rfl rfl (dF (by omega)) ?_ | refine WL_gyes rfl rfl (dT (by omega)) ?_ | refine WL_gno (b := false) rfl rfl (dF (by omega)) rfl rfl ?_ | refine WL_gno (b := true) rfl rfl (dT (by omega)) rfl rfl ?_ | (refine WL_r (by first | refine Run_pev rfl | refine k_add64 rfl rfl (by omega) | refine k_sub64 rfl rfl (by omega) | refine k_len rfl (Ty.isl rfl) | refine k_not rfl | refine k_notb rfl | refine k_min rfl rfl | refine k_max rfl rfl | refine k_mul64 rfl rfl (by omega) | refine k_quo64 rfl rfl (by omega) | refine k_rem rfl rfl (by omega) | refine k_extract rfl rfl | refine k_convI rfl rfl rfl (by omega) | refine k_conv16 rfl rfl rfl (by omega) | refine k_conv64 rfl rfl rfl (by omega) | refine k_conv8 rfl rfl rfl (by omega) | refine k_convB rfl rfl rfl | refine k_convH rfl rfl rfl | refine k_convQ rfl rfl rfl | refine k_pick_f (dF (by omega)) rfl | refine k_pick_t (dT (by omega)) rfl) rfl ?_))
    refine IH (i + 1) _ _ ?_ ?_ ?_ ?_
    · omega
    · exact ⟨rfl, trivial⟩
    · exact (by repeat (first | with_reducible apply Agr.refl | refine Agr.upd rfl ?_ | refine Agr.updo rfl ?_ | refine Agr.updL rfl ?_ | refine Agr.mrg rfl ?_ | exact Agr.refl | refine Agr.updn ?_))
    · exact ⟨by omega, hW.then0 hx2⟩
  clear IH
  replace hH := hH.take 3
  first | change Hp _ _ _ [] at hH | change Hp _ _ _ [_] at hH | change Hp _ _ _ [_, _] at hH | change Hp _ _ _ [_, _, _] at hH | change Hp _ _ _ [_, _, _, _] at hH | change Hp _ _ _ [_, _, _, _, _] at hH | change Hp _ _ _ [_, _, _, _, _, _] at hH | change Hp _ _ _ [_, _, _, _, _, _, _] at hH | change Hp _ _ _ [_, _, _, _, _, _, _, _] at hH | change Hp _ _ _ [_, _, _, _, _, _, _, _, _] at hH
  obtain ⟨n, hn⟩ : ∃ n : Nat, n = X.length + 1 + m % 5 := ⟨_, rfl⟩
  have hnI : (X.length : Int) + 1 + ((m % 5 : Nat) : Int) = (n : Int) := by omega
  have hn5 : m % 5 < 5 := Nat.mod_lt _ (by decide)
  repeat (first | refine WS_seq ?_ | refine WS_region ?_ | refine WL_nil ?_ | refine WS_block ?_ | refine WS_inBlock ?_ | refine WS_skip ?_ | refine WS_label ?_ | refine WS_scope ?_ | refine WS_inScope ?_ | refine WS_exit rfl ?_ | refine WS_true rfl ?_ | refine WS_false rfl ?_ | refine WS_yes rfl (by omega) ?_ | refine WS_no rfl (by omega) ?_ | refine WL_gyes rfl rfl rfl ?_ | refine WL_gno rfl rfl rfl rfl rfl ?_ | refine WL_gund rfl rfl rfl ?_ | refine WL_gyes rfl rfl (dF (by omega)) ?_ | refine WL_gyes rfl rfl (dT (by omega)) ?_ | refine WL_gno (b := false) rfl rfl (dF (by omega)) rfl rfl ?_ | refine WL_gno (b := true) rfl rfl (dT (by omega)) rfl rfl ?_ | (refine WL_r (by first | refine k_remu (n := 5) rfl rfl (by decide) | refine (k_add64 rfl rfl (by omega)).is (congrArg (Value.int .i64) hnI) | refine Run_pev rfl | refine k_add64 rfl rfl (by omega) | refine k_sub64 rfl rfl (by omega) | refine k_len rfl (Ty.isl rfl) | refine k_not rfl | refine k_notb rfl | refine k_min rfl rfl | refine k_max rfl rfl | refine k_mul64 rfl rfl (by omega) | refine k_quo64 rfl rfl (by omega) | refine k_rem rfl rfl (by omega) | refine k_extract rfl rfl | refine k_convI rfl rfl rfl (by omega) | refine k_conv16 rfl rfl rfl (by omega) | refine k_conv64 rfl rfl rfl (by omega) | refine k_conv8 rfl rfl rfl (by omega) | refine k_convB rfl rfl rfl | refine k_convH rfl rfl rfl | refine k_convQ rfl rfl rfl | refine k_pick_f (dF (by omega)) rfl | refine k_pick_t (dT (by omega)) rfl) rfl ?_))
  try refine WL_gyes rfl rfl rfl ?_
  refine WL_s (S_call (sof_spec (m := n) (hH.o 2 rfl).sl (prt_byt X) rfl (by omega) (by omega)) rfl rfl ?_)
  rintro v w7 hSO
  have hSO2 := prt_eq X ▸ hSO
  obtain ⟨E, be, hpE, rfl, hQ⟩ := SOf.right (pse_good hG) (by rw [pse_len]; omega) hSO2
  clear hSO hSO2
  replace hH := Hp.cat hH hQ
  clear hQ
  first | change Hp _ _ _ [] at hH | change Hp _ _ _ [_] at hH | change Hp _ _ _ [_, _] at hH | change Hp _ _ _ [_, _, _] at hH | change Hp _ _ _ [_, _, _, _] at hH | change Hp _ _ _ [_, _, _, _, _] at hH | change Hp _ _ _ [_, _, _, _, _, _] at hH | change Hp _ _ _ [_, _, _, _, _, _, _] at hH | change Hp _ _ _ [_, _, _, _, _, _, _, _] at hH | change Hp _ _ _ [_, _, _, _, _, _, _, _, _] at hH
  rw [pse_len]
  have hEn : E.length = n := by rw [← pse_len, hpE, sE_len (by rw [pse_len]; simp; omega)]
  repeat (first | refine WS_seq ?_ | refine WS_region ?_ | refine WL_nil ?_ | refine WS_block ?_ | refine WS_inBlock ?_ | refine WS_skip ?_ | refine WS_label ?_ | refine WS_scope ?_ | refine WS_inScope ?_ | refine WS_exit rfl ?_ | refine WS_true rfl ?_ | refine WS_false rfl ?_ | refine WS_yes rfl (by omega) ?_ | refine WS_no rfl (by omega) ?_ | refine WL_gyes rfl rfl rfl ?_ | refine WL_gno rfl rfl rfl rfl rfl ?_ | refine WL_gund rfl rfl rfl ?_ | refine WL_gyes rfl rfl (dF (by omega)) ?_ | refine WL_gyes rfl rfl (dT (by omega)) ?_ | refine WL_gno (b := false) rfl rfl (dF (by omega)) rfl rfl ?_ | refine WL_gno (b := true) rfl rfl (dT (by omega)) rfl rfl ?_ | (refine WL_r (by first | refine Run_pev rfl | refine k_add64 rfl rfl (by omega) | refine k_sub64 rfl rfl (by omega) | refine k_len rfl (Ty.isl rfl) | refine k_not rfl | refine k_notb rfl | refine k_min rfl rfl | refine k_max rfl rfl | refine k_mul64 rfl rfl (by omega) | refine k_quo64 rfl rfl (by omega) | refine k_rem rfl rfl (by omega) | refine k_extract rfl rfl | refine k_convI rfl rfl rfl (by omega) | refine k_conv16 rfl rfl rfl (by omega) | refine k_conv64 rfl rfl rfl (by omega) | refine k_conv8 rfl rfl rfl (by omega) | refine k_convB rfl rfl rfl | refine k_convH rfl rfl rfl | refine k_convQ rfl rfl rfl | refine k_pick_f (dF (by omega)) rfl | refine k_pick_t (dT (by omega)) rfl) rfl ?_))
  refine WL_s (H_alloc hH (Ty.zer rfl) rfl ?_)
  try clear hH
  intro w8 b13 hH
  first | change Hp _ _ _ [] at hH | change Hp _ _ _ [_] at hH | change Hp _ _ _ [_, _] at hH | change Hp _ _ _ [_, _, _] at hH | change Hp _ _ _ [_, _, _, _] at hH | change Hp _ _ _ [_, _, _, _, _] at hH | change Hp _ _ _ [_, _, _, _, _, _] at hH | change Hp _ _ _ [_, _, _, _, _, _, _] at hH | change Hp _ _ _ [_, _, _, _, _, _, _, _] at hH | change Hp _ _ _ [_, _, _, _, _, _, _, _, _] at hH
  repeat (first | refine WS_seq ?_ | refine WS_region ?_ | refine WL_nil ?_ | refine WS_block ?_ | refine WS_inBlock ?_ | refine WS_skip ?_ | refine WS_label ?_ | refine WS_scope ?_ | refine WS_inScope ?_ | refine WS_exit rfl ?_ | refine WS_true rfl ?_ | refine WS_false rfl ?_ | refine WS_yes rfl (by omega) ?_ | refine WS_no rfl (by omega) ?_ | refine WL_gyes rfl rfl rfl ?_ | refine WL_gno rfl rfl rfl rfl rfl ?_ | refine WL_gund rfl rfl rfl ?_ | refine WL_gyes rfl rfl (dF (by omega)) ?_ | refine WL_gyes rfl rfl (dT (by omega)) ?_ | refine WL_gno (b := false) rfl rfl (dF (by omega)) rfl rfl ?_ | refine WL_gno (b := true) rfl rfl (dT (by omega)) rfl rfl ?_ | (refine WL_r (by first | refine Run_pev rfl | refine k_add64 rfl rfl (by omega) | refine k_sub64 rfl rfl (by omega) | refine k_len rfl (Ty.isl rfl) | refine k_not rfl | refine k_notb rfl | refine k_min rfl rfl | refine k_max rfl rfl | refine k_mul64 rfl rfl (by omega) | refine k_quo64 rfl rfl (by omega) | refine k_rem rfl rfl (by omega) | refine k_extract rfl rfl | refine k_convI rfl rfl rfl (by omega) | refine k_conv16 rfl rfl rfl (by omega) | refine k_conv64 rfl rfl rfl (by omega) | refine k_conv8 rfl rfl rfl (by omega) | refine k_convB rfl rfl rfl | refine k_convH rfl rfl rfl | refine k_convQ rfl rfl rfl | refine k_pick_f (dF (by omega)) rfl | refine k_pick_t (dT (by omega)) rfl) rfl ?_))
  refine WL_s (H_storeA 5 hH rfl rfl rfl rfl rfl b3_one (Ty.shp rfl) ?_)
  clear hH
  intro w9 hH
  first | change Hp _ _ _ [] at hH | change Hp _ _ _ [_] at hH | change Hp _ _ _ [_, _] at hH | change Hp _ _ _ [_, _, _] at hH | change Hp _ _ _ [_, _, _, _] at hH | change Hp _ _ _ [_, _, _, _, _] at hH | change Hp _ _ _ [_, _, _, _, _, _] at hH | change Hp _ _ _ [_, _, _, _, _, _, _] at hH | change Hp _ _ _ [_, _, _, _, _, _, _, _] at hH | change Hp _ _ _ [_, _, _, _, _, _, _, _, _] at hH
  have hB13 : Blk _ b13 71 #[.slice (some ⟨be, 0, none⟩) n n, .int .i64 (X.length : Nat), .int .i64 0] := hH.b 5 rfl
  have hOE : SlA _ (some ⟨be, 0, none⟩) (elvs E) := (hH.o 3 rfl).sl
  have hlE := elvs_len E
  have hei := elvs_at E (show n - 1 < E.length by omega)
  have h1 := pse_get hpE (show n - 1 < E.length by omega)
  rw [sE_at2 (by rw [pse_len]; simp; omega) (by rw [pse_len]; omega) (by simp; omega)] at h1
  generalize E[n - 1]'(show n - 1 < E.length by omega) = e at *
  obtain ⟨ae, ce, pe⟩ := e
  obtain rfl : [] = pe := Option.some.inj h1
  replace hei : (elvs E)[((n : Int) - 1).toNat]? = some (.slice ae 0 ce) := by rw [show ((n : Int) - 1).toNat = n - 1 by omega]; exact hei
  repeat (first | refine WS_seq ?_ | refine WS_region ?_ | refine WL_nil ?_ | refine WS_block ?_ | refine WS_inBlock ?_ | refine WS_skip ?_ | refine WS_label ?_ | refine WS_scope ?_ | refine WS_inScope ?_ | refine WS_exit rfl ?_ | refine WS_true rfl ?_ | refine WS_false rfl ?_ | refine WS_yes rfl (by omega) ?_ | refine WS_no rfl (by omega) ?_ | refine WL_gyes rfl rfl rfl ?_ | refine WL_gno rfl rfl rfl rfl rfl ?_ | refine WL_gund rfl rfl rfl ?_ | refine WL_gyes rfl rfl (dF (by omega)) ?_ | refine WL_gyes rfl rfl (dT (by omega)) ?_ | refine WL_gno (b := false) rfl rfl (dF (by omega)) rfl rfl ?_ | refine WL_gno (b := true) rfl rfl (dT (by omega)) rfl rfl ?_ | (refine WL_r (by first | refine k_nilCheck rfl | refine k_fa rfl (Ty.fld rfl rfl) | refine k_loadb rfl hB13 rfl (Ty.shp rfl) | refine (k_eql (q := .i64) rfl rfl).is (bT rfl) | refine k_ix1 rfl rfl hOE (by omega) (Ty.sle rfl) (by omega) | refine k_loads rfl hOE hei (Ty.shp rfl) | refine Run_pev rfl | refine k_add64 rfl rfl (by omega) | refine k_sub64 rfl rfl (by omega) | refine k_len rfl (Ty.isl rfl) | refine k_not rfl | refine k_notb rfl | refine k_min rfl rfl | refine k_max rfl rfl | refine k_mul64 rfl rfl (by omega) | refine k_quo64 rfl rfl (by omega) | refine k_rem rfl rfl (by omega) | refine k_extract rfl rfl | refine k_convI rfl rfl rfl (by omega) | refine k_conv16 rfl rfl rfl (by omega) | refine k_conv64 rfl rfl rfl (by omega) | refine k_conv8 rfl rfl rfl (by omega) | refine k_convB rfl rfl rfl | refine k_convH rfl rfl rfl | refine k_convQ rfl rfl rfl | refine k_pick_f (dF (by omega)) rfl | refine k_pick_t (dT (by omega)) rfl) rfl ?_))
  exact WS_ret1 Try.func9 rfl ⟨rfl, hH.ext⟩
theorem own_salvageRight : ownKnob Try.prog.godebug = none := by kernel_rfl
theorem laid_salvageRight : laidOutB Try.prog = true := by kernel_rfl
set_option maxRecDepth 100000 in
theorem salvageRight_lifted (os : Os) (started : os.Started) (H : Type) (enc : TypeId × Value → H) :
    ReturnsInHanded {} Try.checked os 9 .any (Rows.salvageRightSpec.pre6 enc Try.prog Try.f9 Rows.salvageRightRow.domain false) (Rows.salvageRightSpec.post enc Try.prog Try.f9 false true false false) := by
  refine returnsInHanded_of_change (C := Try.checked) own_salvageRight started (by kernel_rfl) Try.func9
    (ChangeSpec.witness6 (enc := enc) (C := Try.checked) false ⟨#[], #[.slice none 0 0, .int .i64 0, .int .u8 0], []⟩ 8 (by kernel_rfl) (by kernel_rfl) (by kernel_rfl) (by kernel_rfl)) ?_
  intro W base args ds gs before hval0 hW _ _
  have hval : ∀ (j : Nat) t v, Try.f9.params[j]? = some t → args[j]? = some v → Value.okWide Try.prog W .any base t v := hval0
  have hW' := hW
  obtain ⟨p, q, hA0, hV, rfl, hfz, hnd⟩ := hW
  have hA : DataW.TrodAll enc Try.prog W 0 (fun _ => true) true Try.f9.params.toList args.toList ds p := hA0
  rw [Try.params9] at hA hval
  obtain ⟨v0, r0, d0, e0, p0, q0, ha0, rfl, rfl, h0, hA⟩ := trodAll_cons hA
  obtain ⟨v1, r1, d1, e1, p1, q1, ha1, rfl, rfl, h1, hA⟩ := trodAll_cons hA
  obtain ⟨v2, r2, d2, e2, p2, q2, ha2, rfl, rfl, h2, hA⟩ := trodAll_cons hA
  obtain ⟨hnil, rfl, rfl⟩ := trodAll_nil hA
  obtain rfl : args = #[v0, v1, v2] := by cases args; simp_all
  have hv0 := hval 0 _ v0 rfl rfl
  have hv1 := hval 1 _ v1 rfl rfl
  have hv2 := hval 2 _ v2 rfl rfl
  clear hA0 hval0 ha0 ha1 ha2 hnil
  obtain ⟨a, cap, ms, hc, hS, hok, hlen⟩ := rd_sms (rd_arg (.sl SMD) (by kernel_rfl) h0)
  obtain ⟨a', n', cap', rfl⟩ := okWide_slice (sle_spec (Ty.sle rfl)).1 hv0
  obtain ⟨rfl, rfl, rfl⟩ : a' = a ∧ n' = ms.length ∧ cap' = cap := by simpa [Value.cells] using hc
  obtain ⟨less, rfl, hless⟩ := rd_int (Ty.knd rfl) hv1 h1
  obtain ⟨m0, rfl, hm0⟩ := rd_int (Ty.knd rfl) hv2 h2
  obtain ⟨m, rfl, _⟩ := fits_u8 hm0
  refine ((sright_spec hS hok hlen (fits_i64 hless)).enter Try.func9 rfl rfl).mono ?_
  rintro e W' ⟨v, rfl, rfl, hE⟩
  exact ⟨_, rfl, law_post laid_salvageRight (by kernel_rfl) hW' rfl rfl (by kernel_rfl) ⟨rfl, rfl, rfl⟩ hE⟩
theorem salvageRight_holds : Rows.SalvageRightSaid :=
  OpenClaim.holds_of_wide 9 Try.f9 rfl rfl rfl rfl rfl rfl rfl ⟨rfl, rfl, rfl, rfl, rfl⟩ rfl rfl rfl rfl rfl (by kernel_rfl) Try.func9 (by kernel_rfl)
    (of_decide_eq_true (by kernel_rfl)) (by unfold Func.isWrapper; first | (rw [if_pos (by decide +kernel)]; kernel_rfl) | (rw [if_neg (by decide +kernel)]; exact ⟨rfl, rfl⟩))
    (fun os started H enc _ => salvageRight_lifted os started H enc)
#print axioms salvageRight_holds
end Go.Proofs.Ytnamafelcjgjfaa
