/- The walks of the package mode: steps; the smallest macroblock; no condition. -/
import Derived.Test.YtccnhnijglnbmaaSh
import Derived.Test.YtccnhnijglnbmaaVec
import Derived.Test.YtccnhnijglnbmaaK22
namespace Go.Proofs.Ytccnhnijglnbmaa
open Go Go.K Go.P Go.RowKit Go.Proofs
/-- The steps. -/
def stL : List Int := [-2, -1, 1, 2]
abbrev Iv (n : Int) : Value := .int .i64 n
theorem steps_spec (w : World) : Does Try.prog 11 #[] w fun v w' => v = .agg (stL.map Iv).toArray ∧ Ext [] w w' := by
  refine Does_of (args := []) Try.func11 rfl rfl Try.ntmps11 rfl ?_
  have hH := Hp.start w
  repeat (first | refine WS_seq ?_ | refine WS_region ?_)
  refine WL_s (H_alloc hH (Ty.zer rfl) rfl ?_)
  try clear hH
  intro w1 b hH
  change Hp _ _ _ [_] at hH
  repeat (first | refine WS_seq ?_ | refine WS_region ?_ | refine WL_nil ?_ | (refine WL_r (by first | refine k_buildA (cs := stL.map Iv) (Ty.zer rfl) (Ty.arr rfl) rfl | apply k_makeFunc) rfl ?_))
  refine WL_s (H_storeA 0 hH rfl rfl rfl rfl rfl (by intro v hv; simp [stL] at hv; rcases hv with rfl | rfl | rfl | rfl <;> rfl) (Ty.shp rfl) ?_)
  try clear hH
  intro w2 hH
  change Hp _ _ _ [_] at hH
  repeat (refine WL_nil ?_)
  exact WS_retc1 Try.func11 rfl rfl (hH.b 0 rfl) rfl (Ty.shp rfl) ⟨rfl, hH.ext⟩
theorem st_at {i : Nat} (h : i < 4) : ∃ d, stL[i]? = some d ∧ (stL.map Iv).toArray[i]? = some (Iv d) ∧ (d = -2 ∨ d = -1 ∨ d = 1 ∨ d = 2) := by
  rcases (show i = 0 ∨ i = 1 ∨ i = 2 ∨ i = 3 by omega) with rfl | rfl | rfl | rfl
  · exact ⟨-2, rfl, rfl, by omega⟩
  · exact ⟨-1, rfl, rfl, by omega⟩
  · exact ⟨1, rfl, rfl, by omega⟩
  · exact ⟨2, rfl, rfl, by omega⟩
/-- What Step answers. -/
def StR (p q : Int) (v : Value) : Prop :=
  (∃ i : Nat, i < 4 ∧ stL[i]? = some (q - p) ∧ (1 ≤ q ∧ q ≤ 31) ∧ v = .tuple #[.int .i64 i, .bool true]) ∨ ((∀ (i : Nat) (d : Int), stL[i]? = some d → ¬ (p + d = q ∧ 1 ≤ q ∧ q ≤ 31)) ∧ v = .tuple #[.int .i64 0, .bool false])
theorem st_lt {i : Nat} {d : Int} (h : stL[i]? = some d) : i < 4 := (List.getElem?_eq_some_iff.1 h).1
set_option maxHeartbeats 1000000 in
theorem step_spec {p q : Int} {w : World} (hp : -1000 ≤ p ∧ p ≤ 1000) : Does Try.prog 40 #[.int .i64 p, .int .i64 q] w fun v w' => StR p q v ∧ Ext [] w w' := by
  refine Does_of (args := [_, _]) Try.func40 rfl rfl Try.ntmps40 rfl ?_
  repeat (first | refine WS_seq ?_ | refine WS_region ?_ | refine WL_nil ?_ | (refine WL_r (by refine Run_pev rfl) rfl ?_))
  try refine WL_gyes rfl rfl rfl ?_
  refine WL_s (S_call (steps_spec w) rfl rfl ?_)
  rintro v w1 ⟨rfl, hE⟩
  repeat (first | refine WL_nil ?_ | refine WS_block ?_ | (refine WL_r (by first | refine Run_pev rfl | apply k_makeFunc) rfl ?_))
  refine WS_loop (G := (Nat)) (fun i => 4 - i) 268435184 (fun i => [(9, .int .i64 i)]) (fun i w' => i ≤ 4 ∧ (∀ (j : Nat) (d : Int), j < i → stL[j]? = some d → ¬ (p + d = q ∧ 1 ≤ q ∧ q ≤ 31)) ∧ w' = w1) (0) ⟨rfl, trivial⟩ ⟨by omega, fun j d h => by omega, rfl⟩ ?_
  rintro i w' σ ⟨hi, hno, hw⟩ IH
  show WS _ _ _ _ _ (updL [(9, .int .i64 i)] _) _
  subst hw
  by_cases hlt : i < 4
  · obtain ⟨d, hd, hv, hdd⟩ := st_at hlt
    have hnx : ¬ (p + d = q ∧ 1 ≤ q ∧ q ≤ 31) → ∀ j e, j < i + 1 → stL[j]? = some e → ¬ (p + e = q ∧ 1 ≤ q ∧ q ≤ 31) := fun h j e hj he => by
      rcases Nat.lt_or_ge j i with h1 | h1
      · exact hno j e h1 he
      · obtain rfl : j = i := by omega
        rw [hd] at he; cases he; exact h
    by_cases k1 : p + d = q
    · by_cases k2 : 1 ≤ q
      · by_cases k3 : q ≤ 31
        · repeat (first | refine WS_seq ?_ | refine WS_region ?_ | refine WL_nil ?_ | refine WS_block ?_ | refine WS_skip ?_ | refine WS_yes rfl (by omega) ?_ | refine WL_gyes rfl rfl (dT (by omega)) ?_ | (refine WL_r (by first | refine k_index1 rfl rfl (Ty.arr rfl) (by omega) hv | refine Run_pev rfl | refine k_add64 rfl rfl (by omega) | apply k_makeFunc | refine k_pick_t (dT (by omega)) rfl) rfl ?_))
          exact WS_ret2 Try.func40 rfl ⟨.inl ⟨i, hlt, by rw [hd]; congr 1; omega, ⟨k2, k3⟩, rfl⟩, hE⟩
        · repeat (first | refine WS_seq ?_ | refine WS_region ?_ | refine WL_nil ?_ | refine WS_block ?_ | refine WS_inBlock ?_ | refine WS_skip ?_ | refine WS_yes rfl (by omega) ?_ | refine WS_no rfl (by omega) ?_ | refine WL_gyes rfl rfl (dT (by omega)) ?_ | (refine WL_r (by first | refine k_index1 rfl rfl (Ty.arr rfl) (by omega) hv | refine Run_pev rfl | refine k_add64 rfl rfl (by omega) | apply k_makeFunc | refine k_pick_t (dT (by omega)) rfl) rfl ?_))
          refine IH (i + 1) _ _ ?_ ?_ ?_ ?_
          · omega
          · exact ⟨rfl, trivial⟩
          · exact (by repeat (first | with_reducible apply Agr.refl | refine Agr.upd rfl ?_ | refine Agr.updL rfl ?_ | refine Agr.mrg rfl ?_))
          · exact ⟨by omega, hnx (by omega), rfl⟩
      · repeat (first | refine WS_seq ?_ | refine WS_region ?_ | refine WL_nil ?_ | refine WS_block ?_ | refine WS_inBlock ?_ | refine WS_skip ?_ | refine WS_false rfl ?_ | refine WS_yes rfl (by omega) ?_ | refine WL_gyes rfl rfl (dT (by omega)) ?_ | refine WL_gno (b := false) rfl rfl (dF (by omega)) rfl rfl ?_ | (refine WL_r (by first | refine k_index1 rfl rfl (Ty.arr rfl) (by omega) hv | refine Run_pev rfl | refine k_add64 rfl rfl (by omega) | apply k_makeFunc | refine k_pick_f (dF (by omega)) rfl | refine k_pick_t (dT (by omega)) rfl) rfl ?_))
        refine IH (i + 1) _ _ ?_ ?_ ?_ ?_
        · omega
        · exact ⟨rfl, trivial⟩
        · exact (by repeat (first | with_reducible apply Agr.refl | refine Agr.upd rfl ?_ | refine Agr.updL rfl ?_ | refine Agr.mrg rfl ?_))
        · exact ⟨by omega, hnx (by omega), rfl⟩
    · repeat (first | refine WS_seq ?_ | refine WS_region ?_ | refine WL_nil ?_ | refine WS_block ?_ | refine WS_inBlock ?_ | refine WS_skip ?_ | refine WS_false rfl ?_ | refine WS_yes rfl (by omega) ?_ | refine WL_gno rfl rfl rfl rfl rfl ?_ | refine WL_gno (b := false) rfl rfl (dF (by omega)) rfl rfl ?_ | (refine WL_r (by first | refine k_index1 rfl rfl (Ty.arr rfl) (by omega) hv | refine Run_pev rfl | refine k_add64 rfl rfl (by omega) | apply k_makeFunc | refine k_pick_f (dF (by omega)) rfl) rfl ?_))
      refine IH (i + 1) _ _ ?_ ?_ ?_ ?_
      · omega
      · exact ⟨rfl, trivial⟩
      · exact (by repeat (first | with_reducible apply Agr.refl | refine Agr.upd rfl ?_ | refine Agr.updL rfl ?_ | refine Agr.mrg rfl ?_))
      · exact ⟨by omega, hnx (by omega), rfl⟩
  · repeat (first | refine WS_seq ?_ | refine WS_region ?_ | refine WL_nil ?_ | refine WS_exit rfl ?_ | refine WS_no rfl (by omega) ?_ | (refine WL_r (by first | refine Run_pev rfl | apply k_makeFunc) rfl ?_))
    exact WS_ret2 Try.func40 rfl ⟨.inr ⟨fun j d hj => hno j d (by have := st_lt hj; omega) hj, rfl⟩, hE⟩
set_option maxHeartbeats 1000000 in
theorem step_far {p : Int} {w : World} : Does Try.prog 40 #[.int .i64 p, .int .i64 p] w fun v w' => v = .tuple #[.int .i64 0, .bool false] ∧ Ext [] w w' := by
  refine Does_of (args := [_, _]) Try.func40 rfl rfl Try.ntmps40 rfl ?_
  repeat (first | refine WS_seq ?_ | refine WS_region ?_ | refine WL_nil ?_ | (refine WL_r (by refine Run_pev rfl) rfl ?_))
  try refine WL_gyes rfl rfl rfl ?_
  refine WL_s (S_call (steps_spec w) rfl rfl ?_)
  rintro v w1 ⟨rfl, hE⟩
  repeat (first | refine WL_nil ?_ | refine WS_block ?_ | (refine WL_r (by first | refine Run_pev rfl | apply k_makeFunc) rfl ?_))
  refine WS_loop (G := (Nat)) (fun i => 4 - i) 268435184 (fun i => [(9, .int .i64 i)]) (fun i w' => i ≤ 4 ∧ w' = w1) (0) ⟨rfl, trivial⟩ ⟨by omega, rfl⟩ ?_
  rintro i w' σ ⟨hi, hw⟩ IH
  show WS _ _ _ _ _ (updL [(9, .int .i64 i)] _) _
  subst hw
  by_cases hlt : i < 4
  · obtain ⟨d, hd, hv, hdd⟩ := st_at hlt
    have hne := wrap_ne (m := p) hdd
    repeat (first | refine WS_seq ?_ | refine WS_region ?_ | refine WL_nil ?_ | refine WS_block ?_ | refine WS_inBlock ?_ | refine WS_skip ?_ | refine WS_false rfl ?_ | refine WS_yes rfl (by omega) ?_ | refine WL_gno rfl rfl rfl rfl rfl ?_ | (refine WL_r (by first | refine k_index1 rfl rfl (Ty.arr rfl) (by omega) hv | refine k_add (m := p) rfl rfl | refine (k_eql rfl rfl).is (bF hne) | refine Run_pev rfl | refine k_add64 rfl rfl (by omega) | apply k_makeFunc) rfl ?_))
    refine IH (i + 1) _ _ ?_ ?_ ?_ ?_
    · omega
    · exact ⟨rfl, trivial⟩
    · exact (by repeat (first | with_reducible apply Agr.refl | refine Agr.upd rfl ?_ | refine Agr.updL rfl ?_ | refine Agr.mrg rfl ?_))
    · exact ⟨by omega, rfl⟩
  · repeat (first | refine WS_seq ?_ | refine WS_region ?_ | refine WL_nil ?_ | refine WS_exit rfl ?_ | refine WS_no rfl (by omega) ?_ | (refine WL_r (by first | refine Run_pev rfl | apply k_makeFunc) rfl ?_))
    exact WS_ret2 Try.func40 rfl ⟨rfl, hE⟩
/-! ### The smallest macroblock -/
def mz (q : Int) : List Value := [.int .u8 0, .int .i64 q] ++ (List.replicate 4 (.complex .f64 0 0) ++ ([.bool false] ++ List.replicate 384 (.int .i64 0)))
theorem mz_len (q : Int) : (mz q).length = 391 := by simp only [mz, List.length_append, List.length_replicate, List.length_cons, List.length_nil]
theorem mz0 (q : Int) : (mz q)[0]? = some (.int .u8 0) := rfl
theorem mz1 (q : Int) : (mz q)[1]? = some (.int .i64 q) := rfl
theorem mz6 (q : Int) : (mz q)[6]? = some (.bool false) := rfl
theorem alone_spec {q : Int} {w : World} : Does Try.prog 31 #[.agg (mz q).toArray] w fun v w' => v = .bool false ∧ Ext [] w w' := by
  refine Does_of (args := [_]) Try.func31 rfl rfl Try.ntmps31 rfl ?_
  have hH := Hp.start w
  repeat (first | refine WS_seq ?_ | refine WS_region ?_)
  refine WL_s (H_box (cs := (mz q).toArray) hH rfl rfl rfl ?_)
  try clear hH
  intro w1 b hH
  have hS : SlA w1 (some ⟨b, 0, none⟩) (mz q) := (hH.b 0 rfl).sl0
  repeat (first | refine WS_seq ?_ | refine WS_region ?_ | refine WL_nil ?_ | refine WL_gyes rfl rfl rfl ?_ | (refine WL_r (by first | refine k_fa rfl (Ty.fld rfl rfl) | refine k_loads rfl hS (mz0 q) (Ty.shp rfl) | refine Run_pev rfl | apply k_makeFunc) rfl ?_))
  exact WS_ret1 Try.func31 rfl ⟨rfl, hH.ext⟩
theorem z4 {i : Nat} (h : i < 4) : (List.replicate 4 (Value.complex .f64 0 0)).toArray[i]? = some (.complex .f64 0 0) := by rw [List.getElem?_toArray, List.getElem?_replicate, if_pos h]
theorem z64 {i : Nat} (h : i < 64) : (List.replicate 64 (Value.int .i64 0)).toArray[i]? = some (.int .i64 0) := by rw [List.getElem?_toArray, List.getElem?_replicate, if_pos h]
theorem feq0 : (!(feq 0 0 && feq 0 0)) = false := by decide +kernel
set_option maxRecDepth 20000 in
set_option maxHeartbeats 1000000 in
theorem vectors_spec {q : Int} {w : World} : Does Try.prog 41 #[.agg (mz q).toArray] w fun v w' => v = .int .i64 0 ∧ Ext [] w w' := by
  refine Does_of (args := [_]) Try.func41 rfl rfl Try.ntmps41 rfl ?_
  have hH := Hp.start w
  repeat (first | refine WS_seq ?_ | refine WS_region ?_)
  refine WL_s (H_box (cs := (mz q).toArray) hH rfl rfl rfl ?_)
  try clear hH
  intro w1 b hH
  have hS : SlA w1 (some ⟨b, 0, none⟩) (mz q) := (hH.b 0 rfl).sl0
  have hv2 : (mz q)[2]? = some (.complex .f64 0 0) := rfl
  repeat (first | refine WS_seq ?_ | refine WS_region ?_ | refine WL_nil ?_ | refine WS_block ?_ | (refine WL_r (by first | refine k_fa rfl (Ty.fld rfl rfl) | refine k_loadC (cs := List.replicate 4 (.complex .f64 0 0)) (j := 2) rfl hS rfl rfl (Ty.shp rfl) | refine Run_pev rfl | apply k_makeFunc) rfl ?_))
  refine WS_loop (G := (Nat)) (fun i => 4 - i) 274877906836 (fun i => [(7, .int .i64 i)]) (fun i w' => i ≤ 4 ∧ w' = w1) (0) ⟨rfl, trivial⟩ ⟨by omega, rfl⟩ ?_
  rintro i w' σ ⟨hi, hw⟩ IH
  show WS _ _ _ _ _ (updL [(7, .int .i64 i)] _) _
  subst hw
  by_cases hlt : i < 4
  · repeat (first | refine WS_seq ?_ | refine WS_region ?_ | refine WL_nil ?_ | refine WS_block ?_ | refine WS_skip ?_ | refine WS_yes rfl (by omega) ?_ | (refine WL_r (by first | refine k_index1 rfl rfl (Ty.arr rfl) (by omega) (z4 hlt) | refine Run_pev rfl) rfl ?_))
    try refine WL_gyes rfl rfl rfl ?_
    refine WL_s (S_call (right_spec) rfl rfl ?_)
    rintro v w2 ⟨rfl, rfl⟩
    rw [show isR 0 0 = true by decide +kernel]
    repeat (first | refine WS_seq ?_ | refine WS_region ?_ | refine WL_nil ?_ | refine WS_inBlock ?_ | refine WS_skip ?_ | refine WS_false rfl ?_ | refine WL_gyes rfl rfl rfl ?_ | (refine WL_r (by first | refine k_fa rfl (Ty.fld rfl rfl) | refine k_loads rfl hS (mz0 q) (Ty.shp rfl) | refine k_ixa1 rfl rfl (Ty.arr rfl) (by decide) | refine k_loads (j := 2) rfl hS hv2 (Ty.shp rfl) | refine (k_cneq rfl rfl).is (congrArg Value.bool feq0) | refine Run_pev rfl | refine k_add64 rfl rfl (by omega) | apply k_makeFunc) rfl ?_))
    refine IH (i + 1) _ _ ?_ ?_ ?_ ?_
    · omega
    · exact ⟨rfl, trivial⟩
    · exact (by repeat (first | with_reducible apply Agr.refl | refine Agr.upd rfl ?_ | refine Agr.updL rfl ?_ | refine Agr.mrg rfl ?_))
    · exact ⟨by omega, rfl⟩
  · repeat (first | refine WS_seq ?_ | refine WS_region ?_ | refine WL_nil ?_ | refine WS_exit rfl ?_ | refine WS_no rfl (by omega) ?_ | (refine WL_r (by first | refine Run_pev rfl | apply k_makeFunc) rfl ?_))
    exact WS_ret1 Try.func41 rfl ⟨rfl, hH.ext⟩
set_option maxRecDepth 20000 in
set_option maxHeartbeats 2000000 in
theorem levels_spec {q : Int} {w : World} : Does Try.prog 42 #[.agg (mz q).toArray] w fun v w' => v = .int .i64 0 ∧ Ext [] w w' := by
  refine Does_of (args := [_]) Try.func42 rfl rfl Try.ntmps42 rfl ?_
  have hH := Hp.start w
  repeat (first | refine WS_seq ?_ | refine WS_region ?_)
  refine WL_s (H_box (cs := (mz q).toArray) hH rfl rfl rfl ?_)
  try clear hH
  intro w1 b hH
  change Hp _ _ _ [_] at hH
  have hS : SlA w1 (some ⟨b, 0, none⟩) (mz q) := (hH.b 0 rfl).sl0
  repeat (first | refine WS_seq ?_ | refine WS_region ?_ | refine WL_nil ?_ | refine WS_block ?_ | (refine WL_r (by first | refine k_fa rfl (Ty.fld rfl rfl) | refine k_loadC (cs := List.replicate 384 (.int .i64 0)) (j := 7) rfl hS rfl rfl (Ty.shp rfl) | refine Run_pev rfl | apply k_makeFunc) rfl ?_))
  clear hS
  refine WS_loop (G := (Nat)) (fun i => 6 - i) 281474976710260 (fun i => [(9, .int .i64 i)]) (fun i w' => i ≤ 6 ∧ Hp [] w w' [Rb b 39 (mz q).toArray]) (0) ⟨rfl, trivial⟩ ⟨by omega, hH⟩ ?_
  rintro i w' σ ⟨hi, hH⟩ IH
  show WS _ _ _ _ _ (updL [(9, .int .i64 i)] _) _
  by_cases hlt : i < 6
  · have hex : (List.replicate 384 (Value.int .i64 0)).toArray.extract (i * 64) (i * 64 + 64) = (List.replicate 64 (Value.int .i64 0)).toArray := by
      apply Array.toList_inj.1
      rw [Array.toList_extract]
      simp only [List.extract, List.drop_replicate, List.take_replicate]
      congr 1
      omega
    repeat (first | refine WS_seq ?_ | refine WS_region ?_ | refine WL_nil ?_ | refine WS_block ?_ | refine WS_skip ?_ | refine WS_yes rfl (by omega) ?_ | (refine WL_r (by first | refine (k_indexN rfl rfl (Ty.arr rfl) (by omega)).is (congrArg Value.agg hex) | refine Run_pev rfl) rfl ?_))
    refine WL_s (H_alloc hH (Ty.zer rfl) rfl ?_)
    try clear hH
    intro w2 b4 hH
    change Hp _ _ _ [_, _] at hH
    skip
    refine WL_s (H_storeA 1 hH rfl rfl rfl rfl rfl (by intro v hv; simp at hv; subst hv; rfl) (Ty.shp rfl) ?_)
    try clear hH
    intro w3 hH
    change Hp _ _ _ [_, _] at hH
    have hB4 := hH.b 1 rfl
    repeat (first | refine WS_seq ?_ | refine WS_region ?_ | refine WL_nil ?_ | refine WS_block ?_ | (refine WL_r (by first | refine k_loadA rfl hB4 rfl (Ty.shp rfl) | refine Run_pev rfl | apply k_makeFunc) rfl ?_))
    refine WS_loop (G := (Nat)) (fun j => 64 - j) 140737488347236 (fun j => [(13, .int .i64 j)]) (fun j w' => j ≤ 64 ∧ Hp [] w w' [Rb b 39 (mz q).toArray]) (0) ⟨rfl, trivial⟩ ⟨by omega, hH.take 1⟩ ?_
    rintro j w' σ ⟨hj, hH⟩ IH2
    show WS _ _ _ _ _ (updL [(13, .int .i64 j)] _) _
    have hS : SlA w' (some ⟨b, 0, none⟩) (mz q) := (hH.b 0 rfl).sl0
    have hB : Blk w' b 39 (mz q).toArray := hH.b 0 rfl
    by_cases hlt2 : j < 64
    · by_cases hj0 : j = 0
      · subst hj0
        repeat (first | refine WS_seq ?_ | refine WS_region ?_ | refine WL_nil ?_ | refine WS_block ?_ | refine WS_skip ?_ | refine WS_true rfl ?_ | refine WS_false rfl ?_ | refine WL_gyes rfl rfl rfl ?_ | (refine WL_r (by first | refine k_fa rfl (Ty.fld rfl rfl) | refine k_index1 rfl rfl (Ty.arr rfl) (by omega) (z64 (by decide)) | refine k_loads rfl hS (mz0 q) (Ty.shp rfl) | refine k_loadA rfl hB (mz_len q) (Ty.shp rfl) | refine Run_pev rfl) rfl ?_))
        try refine WL_gyes rfl rfl rfl ?_
        refine WL_s (S_call (alone_spec) rfl rfl ?_)
        rintro v w4 ⟨rfl, hE⟩
        replace hH := hH.ext0 hE
        repeat (first | refine WS_region ?_ | refine WL_nil ?_ | refine WS_inBlock ?_ | refine WS_skip ?_ | refine WS_false rfl ?_ | refine WL_gno rfl rfl rfl rfl rfl ?_ | refine WL_gund rfl rfl rfl ?_ | (refine WL_r (by first | refine Run_pev rfl | refine k_add64 rfl rfl (by omega) | apply k_makeFunc) rfl ?_))
        refine IH2 1 _ _ ?_ ?_ ?_ ?_
        · omega
        · exact ⟨rfl, trivial⟩
        · exact (by repeat (first | with_reducible apply Agr.refl | refine Agr.upd rfl ?_ | refine Agr.updL rfl ?_ | refine Agr.mrg rfl ?_))
        · exact ⟨by omega, hH⟩
      · repeat (first | refine WS_seq ?_ | refine WS_region ?_ | refine WL_nil ?_ | refine WS_block ?_ | refine WS_inBlock ?_ | refine WS_skip ?_ | refine WS_false rfl ?_ | refine WS_yes rfl (by omega) ?_ | refine WL_gyes rfl rfl rfl ?_ | refine WL_gno rfl rfl rfl rfl rfl ?_ | refine WL_gund rfl rfl rfl ?_ | refine WL_gno (b := false) rfl rfl (dF (by omega)) rfl rfl ?_ | (refine WL_r (by first | refine k_fa rfl (Ty.fld rfl rfl) | refine k_index1 rfl rfl (Ty.arr rfl) (by omega) (z64 hlt2) | refine k_loads rfl hS (mz0 q) (Ty.shp rfl) | refine Run_pev rfl | refine k_add64 rfl rfl (by omega) | apply k_makeFunc | refine k_pick_f (dF (by omega)) rfl) rfl ?_))
        refine IH2 (j + 1) _ _ ?_ ?_ ?_ ?_
        · omega
        · exact ⟨rfl, trivial⟩
        · exact (by repeat (first | with_reducible apply Agr.refl | refine Agr.upd rfl ?_ | refine Agr.updL rfl ?_ | refine Agr.mrg rfl ?_))
        · exact ⟨by omega, hH⟩
    · repeat (first | refine WS_seq ?_ | refine WS_region ?_ | refine WL_nil ?_ | refine WS_inBlock ?_ | refine WS_exit rfl ?_ | refine WS_no rfl (by omega) ?_ | (refine WL_r (by first | refine Run_pev rfl | refine k_add64 rfl rfl (by omega) | apply k_makeFunc) rfl ?_))
      refine IH (i + 1) _ _ ?_ ?_ ?_ ?_
      · omega
      · exact ⟨rfl, trivial⟩
      · exact (by repeat (first | with_reducible apply Agr.refl | refine Agr.upd rfl ?_ | refine Agr.updL rfl ?_ | refine Agr.mrg rfl ?_))
      · exact ⟨by omega, hH⟩
  · repeat (first | refine WS_seq ?_ | refine WS_region ?_ | refine WL_nil ?_ | refine WS_exit rfl ?_ | refine WS_no rfl (by omega) ?_ | (refine WL_r (by first | refine Run_pev rfl | apply k_makeFunc) rfl ?_))
    exact WS_ret1 Try.func42 rfl ⟨rfl, hH.ext⟩
set_option maxRecDepth 20000 in
set_option maxHeartbeats 1000000 in
theorem mcheck_spec {w : World} {inter : Bool} : Does Try.prog 28 #[.agg (mz 3).toArray, .bool inter, .int .i64 3] w fun v w' => v = .int .i64 (if inter then 0 else 5) ∧ Ext [] w w' := by
  refine Does_of (args := [_, _, _]) Try.func28 rfl rfl Try.ntmps28 rfl ?_
  have hH := Hp.start w
  repeat (first | refine WS_seq ?_ | refine WS_region ?_)
  refine WL_s (H_box (cs := (mz 3).toArray) hH rfl rfl rfl ?_)
  try clear hH
  intro w1 b hH
  have hS : SlA w1 (some ⟨b, 0, none⟩) (mz 3) := (hH.b 0 rfl).sl0
  have hB : Blk w1 b 39 (mz 3).toArray := hH.b 0 rfl
  cases inter with
  | false =>
    repeat (first | refine WS_seq ?_ | refine WS_region ?_ | refine WL_nil ?_ | refine WS_block ?_ | refine WS_false rfl ?_ | refine WL_gyes rfl rfl rfl ?_ | (refine WL_r (by first | refine k_fa rfl (Ty.fld rfl rfl) | refine k_loads rfl hS (mz0 3) (Ty.shp rfl) | refine k_loadA rfl hB (mz_len 3) (Ty.shp rfl) | refine Run_pev rfl) rfl ?_))
    try refine WL_gyes rfl rfl rfl ?_
    refine WL_s (S_call (alone_spec) rfl rfl ?_)
    rintro v w2 ⟨rfl, hE⟩
    repeat (first | refine WS_seq ?_ | refine WS_region ?_ | refine WL_nil ?_ | refine WS_true rfl ?_ | refine WL_gyes rfl rfl rfl ?_ | (refine WL_r (by first | refine Run_pev rfl | apply k_makeFunc) rfl ?_))
    exact WS_ret1 Try.func28 rfl ⟨rfl, hH.ext.then0 hE⟩
  | true =>
    repeat (first | refine WS_seq ?_ | refine WS_region ?_ | refine WL_nil ?_ | refine WS_block ?_ | refine WS_inBlock ?_ | refine WS_skip ?_ | refine WS_false rfl ?_ | refine WL_gno rfl rfl rfl rfl rfl ?_ | (refine WL_r (by first | refine k_fa rfl (Ty.fld rfl rfl) | refine k_loads rfl hS (mz0 3) (Ty.shp rfl) | refine k_loads rfl hS (mz1 3) (Ty.shp rfl) | refine k_loads rfl hS (mz6 3) (Ty.shp rfl) | refine k_loadA rfl hB (mz_len 3) (Ty.shp rfl) | refine Run_pev rfl) rfl ?_))
    try refine WL_gyes rfl rfl rfl ?_
    refine WL_s (S_call (vectors_spec) rfl rfl ?_)
    rintro v w2 ⟨rfl, hE⟩
    replace hH := hH.ext0 hE
    have hB : Blk w2 b 39 (mz 3).toArray := hH.b 0 rfl
    repeat (first | refine WS_seq ?_ | refine WS_region ?_ | refine WL_nil ?_ | refine WS_skip ?_ | refine WS_false rfl ?_ | (refine WL_r (by first | refine k_loadA rfl hB (mz_len 3) (Ty.shp rfl) | refine Run_pev rfl) rfl ?_))
    try refine WL_gyes rfl rfl rfl ?_
    refine WL_s (S_call (levels_spec) rfl rfl ?_)
    rintro v w3 ⟨rfl, hE⟩
    repeat (first | refine WL_nil ?_ | (refine WL_r (by first | refine Run_pev rfl | apply k_makeFunc) rfl ?_))
    exact WS_ret1 Try.func28 rfl ⟨rfl, hH.ext.then0 hE⟩
end Go.Proofs.Ytccnhnijglnbmaa
