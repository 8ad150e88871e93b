/- The walks of the package block; no condition but sizes of memory. -/
import Derived.Test.YtnamafelcjgjfaaSh
import Derived.Test.YtnamafelcjgjfaaRvSig
import Derived.Test.YtnamafelcjgjfaaRvTake
import Derived.Test.YtnamafelcjgjfaaPBlock
import Derived.Test.YtnamafelcjgjfaaK26
namespace Go.Proofs.Ytnamafelcjgjfaa
open Go Go.K Go.P Go.RowKit Go.Proofs
/-- An event's cells. -/
abbrev evc (r x : Int) (b : Bool) : List Value := [I r, I x, .bool b]
/-- A row of events of one's own. -/
abbrev Re (a : Option Addr) (n c : Nat) (cs : List Value) : Res := Ro 92 3 a n c cs
theorem evc_one (r x : Int) (b : Bool) : ∀ u ∈ (evc r x b).toArray.toList, u.oneCell' = true := by
  intro u hu
  simp [evc] at hu
  rcases hu with rfl | rfl | rfl <;> rfl
theorem right_spec {r : Nat} {x : Int} {b : Bool} {w : World} : Does Try.prog 65 #[.agg (evc r x b).toArray] w fun v w' => v = .bool (decide (okE (r, x))) ∧ Ext [] w w' := by
  refine Does_of (args := [_]) Try.func65 rfl rfl Try.ntmps65 rfl ?_
  have hH := Hp.start w
  repeat (first | refine WS_seq ?_ | refine WS_region ?_)
  refine WL_s (H_box (cs := (evc r x b).toArray) hH rfl rfl rfl ?_)
  try clear hH
  intro w1 b1 hH
  change Hp _ _ _ [_] at hH
  have hB : Blk w1 b1 92 (evc r x b).toArray := hH.b 0 rfl
  by_cases h1 : r ≤ 63
  · by_cases h2 : x = 0
    · skip
      rw [decide_eq_false (show ¬ okE (r, x) from fun h => by obtain ⟨g1, g2, g3, g4⟩ := h; simp only at g1 g2 g3 g4; omega)]
      repeat (first | refine WS_seq ?_ | refine WS_region ?_ | refine WL_nil ?_ | refine WL_gyes rfl rfl rfl ?_ | refine WL_gno rfl rfl rfl rfl rfl ?_ | refine WL_gno (b := false) rfl rfl (dF (by omega)) rfl rfl ?_ | (refine WL_r (by first | refine k_fa rfl (Ty.fld rfl rfl) | refine k_loadb rfl hB rfl (Ty.shp rfl) | refine (k_leq rfl rfl).is (bT (by omega)) | refine Run_pev rfl | apply k_makeFunc | refine k_pick_f (dF (by omega)) rfl) rfl ?_))
      exact WS_ret1 Try.func65 rfl ⟨rfl, hH.ext⟩
    by_cases h3 : -2047 ≤ x
    · by_cases h4 : x ≤ 2047
      · rw [decide_eq_true (show okE (r, x) from ⟨h1, h2, h3, h4⟩)]
        repeat (first | refine WS_seq ?_ | refine WS_region ?_ | refine WL_nil ?_ | refine WL_gyes rfl rfl rfl ?_ | refine WL_gyes rfl rfl (dT (by omega)) ?_ | (refine WL_r (by first | refine k_fa rfl (Ty.fld rfl rfl) | refine k_loadb rfl hB rfl (Ty.shp rfl) | refine (k_leq rfl rfl).is (bT (by omega)) | refine Run_pev rfl | apply k_makeFunc | refine k_pick_t (dT (by omega)) rfl) rfl ?_))
        exact WS_ret1 Try.func65 rfl ⟨rfl, hH.ext⟩
      · skip
        rw [decide_eq_false (show ¬ okE (r, x) from fun h => by obtain ⟨g1, g2, g3, g4⟩ := h; simp only at g1 g2 g3 g4; omega)]
        repeat (first | refine WS_seq ?_ | refine WS_region ?_ | refine WL_nil ?_ | refine WL_gyes rfl rfl rfl ?_ | refine WL_gyes rfl rfl (dT (by omega)) ?_ | (refine WL_r (by first | refine k_fa rfl (Ty.fld rfl rfl) | refine k_loadb rfl hB rfl (Ty.shp rfl) | refine (k_leq rfl rfl).is (bT (by omega)) | refine (k_leq rfl rfl).is (bF (by omega)) | refine Run_pev rfl | apply k_makeFunc | refine k_pick_t (dT (by omega)) rfl) rfl ?_))
        exact WS_ret1 Try.func65 rfl ⟨rfl, hH.ext⟩
    · skip
      rw [decide_eq_false (show ¬ okE (r, x) from fun h => by obtain ⟨g1, g2, g3, g4⟩ := h; simp only at g1 g2 g3 g4; omega)]
      repeat (first | refine WS_seq ?_ | refine WS_region ?_ | refine WL_nil ?_ | refine WL_gyes rfl rfl rfl ?_ | refine WL_gyes rfl rfl (dT (by omega)) ?_ | refine WL_gno (b := false) rfl rfl (dF (by omega)) rfl rfl ?_ | (refine WL_r (by first | refine k_fa rfl (Ty.fld rfl rfl) | refine k_loadb rfl hB rfl (Ty.shp rfl) | refine (k_leq rfl rfl).is (bT (by omega)) | refine Run_pev rfl | apply k_makeFunc | refine k_pick_f (dF (by omega)) rfl | refine k_pick_t (dT (by omega)) rfl) rfl ?_))
      exact WS_ret1 Try.func65 rfl ⟨rfl, hH.ext⟩
  · skip
    rw [decide_eq_false (show ¬ okE (r, x) from fun h => by obtain ⟨g1, g2, g3, g4⟩ := h; simp only at g1 g2 g3 g4; omega)]
    repeat (first | refine WS_seq ?_ | refine WS_region ?_ | refine WL_nil ?_ | refine WL_gyes rfl rfl rfl ?_ | refine WL_gno rfl rfl rfl rfl rfl ?_ | (refine WL_r (by first | refine k_fa rfl (Ty.fld rfl rfl) | refine k_loadb rfl hB rfl (Ty.shp rfl) | refine (k_leq rfl rfl).is (bF (by omega)) | refine Run_pev rfl | apply k_makeFunc) rfl ?_))
    exact WS_ret1 Try.func65 rfl ⟨rfl, hH.ext⟩
set_option maxHeartbeats 1000000 in
theorem event_spec {n m : Nat} {w : World} (hn : n ≤ 8190) (hm : m ≤ 8190) : Does Try.prog 58 #[.int .i64 (n : Nat), .int .i64 (m : Nat)] w fun v w' =>
    v = .tuple #[.agg (evc (evOf n m).1 (evOf n m).2 (decide (n % 2 = 1))).toArray, .bool (decide (okE (evOf n m)))] ∧ Ext [] w w' := by
  refine Does_of (args := [_, _]) Try.func58 rfl rfl Try.ntmps58 rfl ?_
  have hH := Hp.start w
  repeat (first | refine WS_seq ?_ | refine WS_region ?_)
  refine WL_s (H_alloc hH (Ty.zer rfl) rfl ?_)
  try clear hH
  intro w1 b4 hH
  change Hp _ _ _ [_] at hH
  have e1 : (n : Int) / 2 = ((n / 2 : Nat) : Int) := by omega
  have e2 : (m : Int) + 1 = ((m + 1 : Nat) : Int) := by omega
  repeat (first | refine WS_seq ?_ | refine WS_region ?_ | refine WL_nil ?_ | (refine WL_r (by first | refine (k_quo64 (m := (n : Int)) (n := 2) rfl rfl (by omega)).is (congrArg (Value.int .i64) e1) | refine (k_add64 (m := (m : Int)) (n := 1) rfl rfl (by omega)).is (congrArg (Value.int .i64) e2) | refine Run_pev rfl) rfl ?_))
  try refine WL_gyes rfl rfl rfl ?_
  refine WL_s (S_call (unsigned_spec (n := m + 1) (by omega)) rfl rfl ?_)
  rintro v w2 ⟨rfl, rfl⟩
  have e3 : decide ((n : Int) % 2 = 1) = decide (n % 2 = 1) := by congr 1; exact propext ⟨fun h => by omega, fun h => by omega⟩
  have huns : -4096 ≤ uns (m + 1) ∧ uns (m + 1) ≤ 4096 := by unfold uns; split <;> omega
  repeat ((refine WL_r (by first | refine (k_eql (q := .i64) rfl rfl).is (congrArg Value.bool e3) | refine k_buildS (cs := evc (evOf n m).1 (evOf n m).2 (decide (n % 2 = 1))) (Ty.zer rfl) (Ty.plc rfl) rfl | refine Run_pev rfl | refine k_rem rfl rfl (by omega)) rfl ?_))
  refine WL_s (H_alloc hH (Ty.zer rfl) rfl ?_)
  try clear hH
  intro w3 b6 hH
  change Hp _ _ _ [_, _] at hH
  refine WL_s (H_storeA 1 hH rfl rfl rfl rfl rfl (evc_one _ _ _) (Ty.shp rfl) ?_)
  clear hH
  intro w4 hH
  change Hp _ _ _ [_, _] at hH
  repeat (first | refine WS_seq ?_ | refine WL_nil ?_)
  refine WS_draw Ty.mixed (fun u => Ext [] w u ∧ Blk u b6 92 (evc (evOf n m).1 (evOf n m).2 (decide (n % 2 = 1))).toArray) 5 rfl ?_
  replace hH := hH.ext0 (Ext.drew0 (S := []))
  generalize w4.drew = u0 at *
  have hx0 : Ext [] w u0 ∧ Blk u0 b6 92 (evc (evOf n m).1 (evOf n m).2 (decide (n % 2 = 1))).toArray := ⟨hH.ext, hH.b 1 rfl⟩
  refine WA_take 0 rfl (by kernel_rfl) hx0 rfl rfl (fun w' hw' => by refine k_loadA rfl hw'.2 rfl (Ty.shp rfl)) ?_
  refine WA_take 1 rfl (by kernel_rfl) hx0 rfl rfl (fun w' hw' => by refine k_loadA rfl hw'.2 rfl (Ty.shp rfl)) ?_
  refine WA_one 2 (by kernel_rfl) rfl rfl (S_call (right_spec (r := (evOf n m).1)) rfl rfl ?_)
  rintro v u1 ⟨rfl, hE⟩
  replace hH := hH.ext0 hE
  clear hE
  refine ⟨⟨hH.ext, hH.b 1 rfl⟩, ?_⟩
  refine WA_one 3 (by kernel_rfl) rfl rfl (H_storeA 0 hH rfl rfl rfl rfl rfl (evc_one _ _ _) (Ty.shp rfl) ?_)
  clear hH
  intro u2 hH
  change Hp _ _ _ [_, _] at hH
  refine ⟨⟨hH.ext, hH.b 1 rfl⟩, ?_⟩
  have hx2 : Ext [] w u2 ∧ Blk u2 b6 92 (evc (evOf n m).1 (evOf n m).2 (decide (n % 2 = 1))).toArray := ⟨hH.ext, hH.b 1 rfl⟩
  refine WA_take 4 rfl (by kernel_rfl) hx2 rfl rfl (fun w' hw' => by refine Run_pev rfl) ?_
  refine WA_done (by kernel_rfl) ?_
  skip
  exact WS_retc2 Try.func58 rfl rfl (hH.b 0 rfl) rfl (Ty.shp rfl) ⟨rfl, hH.ext⟩
end Go.Proofs.Ytnamafelcjgjfaa
