/- The law SeqhSizes: heads without weights have ten bytes, with them 138; heads that differ have other bytes; no condition. -/
import Derived.Test.YtnamafelcjgjfaaSh
import Derived.Test.YtnamafelcjgjfaaLaw15b
import Derived.Test.YtnamafelcjgjfaaK23
namespace Go.Proofs.Ytnamafelcjgjfaa
open Go Go.K Go.P Go.RowKit Go.Proofs Go.ChangeShapes Go.WideShapes Go.ChangeAt
theorem joinG {A : Prop} {Y : Nat → Nat → Fr → World → Prop} (Z : Nat → Nat → World → Prop) (h1 : (∀ a b σ w, Z a b w → Y a b σ w) → A) (h2 : ∀ a b σ w, Z a b w → Y a b σ w) : A := h1 h2
theorem WA_three {P : Program} {N : Nat} {C : Fr → World → Prop} {ops : Array Oper} {S : World → Prop} {n fuel : Nat} {done : List Nat} {ρ : Fr} {w : World} (i j k : Nat) {oi oj ok : Oper} (hr : Region.ready .any ops (lst n done) = [i, j, k]) (hi : ops[i]? = some oi) (hgi : oi.guard = none) (hj : ops[j]? = some oj) (hgj : oj.guard = none) (hk : ops[k]? = some ok) (hgk : ok.guard = none)
    (h1 : Stp P N ρ oi w (fun ρ' w' => S w' ∧ WA P N C ops S n fuel (i :: done) ρ' w')) (h2 : Stp P N ρ oj w (fun ρ' w' => S w' ∧ WA P N C ops S n fuel (j :: done) ρ' w')) (h3 : Stp P N ρ ok w (fun ρ' w' => S w' ∧ WA P N C ops S n fuel (k :: done) ρ' w')) : WA P N C ops S n (fuel + 1) done ρ w := by
  refine ⟨fun a ha => ?_⟩
  refine wpAnyH_all hr (by simp) (fun m hm => ?_)
  simp only [List.mem_cons, List.not_mem_nil, or_false] at hm
  unfold wpOp
  rcases hm with rfl | rfl | rfl
  · rw [hi]
    simp only
    rw [if_pos (by simp [Region.wanted, hgi])]
    exact .inl (Oper.wp_mono (fun a' w' ⟨ρ', hr', hs, hw⟩ => ⟨hs, hw.out a' hr'⟩) (h1.out a ha _))
  · rw [hj]
    simp only
    rw [if_pos (by simp [Region.wanted, hgj])]
    exact .inl (Oper.wp_mono (fun a' w' ⟨ρ', hr', hs, hw⟩ => ⟨hs, hw.out a' hr'⟩) (h2.out a ha _))
  · rw [hk]
    simp only
    rw [if_pos (by simp [Region.wanted, hgk])]
    exact .inl (Oper.wp_mono (fun a' w' ⟨ρ', hr', hs, hw⟩ => ⟨hs, hw.out a' hr'⟩) (h3.out a ha _))
set_option maxRecDepth 20000 in
set_option maxHeartbeats 8000000 in
theorem sizes_spec {h g : SH} (ho : h.ok) (go : g.ok) {w : World} : Does Try.prog 3 #[.agg h.cells.toArray, .agg g.cells.toArray] w fun v w' => v = .bool true ∧ Ext [] w w' := by
  refine Does_of (args := [_, _]) Try.func3 rfl rfl Try.ntmps3 rfl ?_
  have hH := Hp.start w
  repeat (first | refine WS_seq ?_ | refine WS_region ?_ | refine WL_nil ?_ | refine WS_block ?_ | refine WS_inBlock ?_ | refine WS_skip ?_ | refine WS_label ?_ | refine WS_scope ?_ | refine WS_inScope ?_ | refine WS_exit rfl ?_ | refine WS_true rfl ?_ | refine WS_false rfl ?_ | refine WS_yes rfl (by omega) ?_ | refine WS_no rfl (by omega) ?_ | refine WL_gyes rfl rfl rfl ?_ | refine WL_gno rfl rfl rfl rfl rfl ?_ | refine WL_gund rfl rfl rfl ?_ | refine WL_gyes rfl rfl (dF (by omega)) ?_ | refine WL_gyes rfl rfl (dT (by omega)) ?_ | refine WL_gno (b := false) rfl rfl (dF (by omega)) rfl rfl ?_ | refine WL_gno (b := true) rfl rfl (dT (by omega)) rfl rfl ?_ | (refine WL_r (by first | refine Run_pev rfl | refine k_add64 rfl rfl (by omega) | refine k_sub64 rfl rfl (by omega) | refine k_len rfl (Ty.isl rfl) | refine k_lens rfl (Ty.iss rfl) | refine k_not rfl | refine k_notb rfl | refine k_min rfl rfl | refine k_max rfl rfl | refine k_min3 rfl rfl rfl | refine k_max3 rfl rfl rfl | refine k_mul64 rfl rfl (by omega) | refine k_quo64 rfl rfl (by omega) | refine k_rem rfl rfl (by omega) | refine k_extract rfl rfl | apply k_makeFunc | refine k_convI rfl rfl rfl (by omega) | refine k_conv16 rfl rfl rfl (by omega) | refine k_conv64 rfl rfl rfl (by omega) | refine k_conv8 rfl rfl rfl (by omega) | refine k_convB rfl rfl rfl | refine k_convH rfl rfl rfl | refine k_convQ rfl rfl rfl | refine k_pick_f (dF (by omega)) rfl | refine k_pick_t (dT (by omega)) rfl) rfl ?_))
  refine WL_s (H_box (cs := h.cells.toArray) hH rfl rfl rfl ?_)
  try clear hH
  intro w1 b2 hH
  first | change Hp _ _ _ [] at hH | change Hp _ _ _ [_] at hH | change Hp _ _ _ [_, _] at hH | change Hp _ _ _ [_, _, _] at hH | change Hp _ _ _ [_, _, _, _] at hH | change Hp _ _ _ [_, _, _, _, _] at hH | change Hp _ _ _ [_, _, _, _, _, _] at hH | change Hp _ _ _ [_, _, _, _, _, _, _] at hH | change Hp _ _ _ [_, _, _, _, _, _, _, _] at hH | change Hp _ _ _ [_, _, _, _, _, _, _, _, _] at hH
  repeat (first | refine WS_seq ?_ | refine WS_region ?_ | refine WL_nil ?_ | refine WS_block ?_ | refine WS_inBlock ?_ | refine WS_skip ?_ | refine WS_label ?_ | refine WS_scope ?_ | refine WS_inScope ?_ | refine WS_exit rfl ?_ | refine WS_true rfl ?_ | refine WS_false rfl ?_ | refine WS_yes rfl (by omega) ?_ | refine WS_no rfl (by omega) ?_ | refine WL_gyes rfl rfl rfl ?_ | refine WL_gno rfl rfl rfl rfl rfl ?_ | refine WL_gund rfl rfl rfl ?_ | refine WL_gyes rfl rfl (dF (by omega)) ?_ | refine WL_gyes rfl rfl (dT (by omega)) ?_ | refine WL_gno (b := false) rfl rfl (dF (by omega)) rfl rfl ?_ | refine WL_gno (b := true) rfl rfl (dT (by omega)) rfl rfl ?_ | (refine WL_r (by first | refine Run_pev rfl | refine k_add64 rfl rfl (by omega) | refine k_sub64 rfl rfl (by omega) | refine k_len rfl (Ty.isl rfl) | refine k_lens rfl (Ty.iss rfl) | refine k_not rfl | refine k_notb rfl | refine k_min rfl rfl | refine k_max rfl rfl | refine k_min3 rfl rfl rfl | refine k_max3 rfl rfl rfl | refine k_mul64 rfl rfl (by omega) | refine k_quo64 rfl rfl (by omega) | refine k_rem rfl rfl (by omega) | refine k_extract rfl rfl | apply k_makeFunc | refine k_convI rfl rfl rfl (by omega) | refine k_conv16 rfl rfl rfl (by omega) | refine k_conv64 rfl rfl rfl (by omega) | refine k_conv8 rfl rfl rfl (by omega) | refine k_convB rfl rfl rfl | refine k_convH rfl rfl rfl | refine k_convQ rfl rfl rfl | refine k_pick_f (dF (by omega)) rfl | refine k_pick_t (dT (by omega)) rfl) rfl ?_))
  refine WL_s (H_box (cs := g.cells.toArray) hH rfl rfl rfl ?_)
  try clear hH
  intro w2 b3 hH
  first | change Hp _ _ _ [] at hH | change Hp _ _ _ [_] at hH | change Hp _ _ _ [_, _] at hH | change Hp _ _ _ [_, _, _] at hH | change Hp _ _ _ [_, _, _, _] at hH | change Hp _ _ _ [_, _, _, _, _] at hH | change Hp _ _ _ [_, _, _, _, _, _] at hH | change Hp _ _ _ [_, _, _, _, _, _, _] at hH | change Hp _ _ _ [_, _, _, _, _, _, _, _] at hH | change Hp _ _ _ [_, _, _, _, _, _, _, _, _] at hH
  repeat (first | refine WS_seq ?_ | refine WS_region ?_ | refine WL_nil ?_ | refine WS_block ?_ | refine WS_inBlock ?_ | refine WS_skip ?_ | refine WS_label ?_ | refine WS_scope ?_ | refine WS_inScope ?_ | refine WS_exit rfl ?_ | refine WS_true rfl ?_ | refine WS_false rfl ?_ | refine WS_yes rfl (by omega) ?_ | refine WS_no rfl (by omega) ?_ | refine WL_gyes rfl rfl rfl ?_ | refine WL_gno rfl rfl rfl rfl rfl ?_ | refine WL_gund rfl rfl rfl ?_ | refine WL_gyes rfl rfl (dF (by omega)) ?_ | refine WL_gyes rfl rfl (dT (by omega)) ?_ | refine WL_gno (b := false) rfl rfl (dF (by omega)) rfl rfl ?_ | refine WL_gno (b := true) rfl rfl (dT (by omega)) rfl rfl ?_ | (refine WL_r (by first | refine Run_pev rfl | refine k_add64 rfl rfl (by omega) | refine k_sub64 rfl rfl (by omega) | refine k_len rfl (Ty.isl rfl) | refine k_lens rfl (Ty.iss rfl) | refine k_not rfl | refine k_notb rfl | refine k_min rfl rfl | refine k_max rfl rfl | refine k_min3 rfl rfl rfl | refine k_max3 rfl rfl rfl | refine k_mul64 rfl rfl (by omega) | refine k_quo64 rfl rfl (by omega) | refine k_rem rfl rfl (by omega) | refine k_extract rfl rfl | apply k_makeFunc | refine k_convI rfl rfl rfl (by omega) | refine k_conv16 rfl rfl rfl (by omega) | refine k_conv64 rfl rfl rfl (by omega) | refine k_conv8 rfl rfl rfl (by omega) | refine k_convB rfl rfl rfl | refine k_convH rfl rfl rfl | refine k_convQ rfl rfl rfl | refine k_pick_f (dF (by omega)) rfl | refine k_pick_t (dT (by omega)) rfl) rfl ?_))
  try refine WL_gyes rfl rfl rfl ?_
  refine WL_s (S_call (awake15 w2) rfl rfl ?_)
  rintro v w3 ⟨rfl, hE⟩
  replace hH := hH.ext0 hE
  clear hE
  have hB2 : Blk w3 b2 26 h.cells.toArray := hH.b 0 rfl
  have hB3 : Blk w3 b3 26 g.cells.toArray := hH.b 1 rfl
  have hW3 : Ext [] w w3 := hH.ext
  clear hH
  have hlh : h.cells.toArray.size = 131 := by rw [List.size_toArray]; exact SH.cells_len ho
  have hlg : g.cells.toArray.size = 131 := by rw [List.size_toArray]; exact SH.cells_len go
  have hH := Hp.start w3
  repeat (first | refine WS_seq ?_ | refine WS_region ?_ | refine WL_nil ?_ | refine WS_block ?_ | refine WS_inBlock ?_ | refine WS_skip ?_ | refine WS_label ?_ | refine WS_scope ?_ | refine WS_inScope ?_ | refine WS_exit rfl ?_ | refine WS_true rfl ?_ | refine WS_false rfl ?_ | refine WS_yes rfl (by omega) ?_ | refine WS_no rfl (by omega) ?_ | refine WL_gyes rfl rfl rfl ?_ | refine WL_gno rfl rfl rfl rfl rfl ?_ | refine WL_gund rfl rfl rfl ?_ | refine WL_gyes rfl rfl (dF (by omega)) ?_ | refine WL_gyes rfl rfl (dT (by omega)) ?_ | refine WL_gno (b := false) rfl rfl (dF (by omega)) rfl rfl ?_ | refine WL_gno (b := true) rfl rfl (dT (by omega)) rfl rfl ?_ | (refine WL_r (by first | refine Run_pev rfl | refine k_add64 rfl rfl (by omega) | refine k_sub64 rfl rfl (by omega) | refine k_len rfl (Ty.isl rfl) | refine k_lens rfl (Ty.iss rfl) | refine k_not rfl | refine k_notb rfl | refine k_min rfl rfl | refine k_max rfl rfl | refine k_min3 rfl rfl rfl | refine k_max3 rfl rfl rfl | refine k_mul64 rfl rfl (by omega) | refine k_quo64 rfl rfl (by omega) | refine k_rem rfl rfl (by omega) | refine k_extract rfl rfl | apply k_makeFunc | refine k_convI rfl rfl rfl (by omega) | refine k_conv16 rfl rfl rfl (by omega) | refine k_conv64 rfl rfl rfl (by omega) | refine k_conv8 rfl rfl rfl (by omega) | refine k_convB rfl rfl rfl | refine k_convH rfl rfl rfl | refine k_convQ rfl rfl rfl | refine k_pick_f (dF (by omega)) rfl | refine k_pick_t (dT (by omega)) rfl) rfl ?_))
  refine WS_tailS Ty.mixed 6 rfl (by kernel_rfl) rfl (fun u => Ext [] w3 u) ?_
  obtain ⟨z, hzr, hz⟩ : ∃ z : List Value, K.zer Try.prog 26 = some z ∧ z.toArray.size = 131 := ⟨_, Ty.zer rfl, rfl⟩
  apply joinG (fun b5 b6 u => Hp [] w3 u [Rb b5 26 z.toArray, Rb b6 26 z.toArray])
  · intro key
    replace hH := hH.ext0 (Ext.drew0 (S := []))
    have hx0 : Ext [] w3 w3.drew := Ext.drew0
    generalize w3.drew = u0 at *
    refine WA_take 0 rfl (by kernel_rfl) hx0 rfl rfl (fun w' hw' => by first | refine k_loadA rfl (hB2.ext0 hw') hlh (Ty.shp rfl)) ?_
    refine WA_take 2 rfl (by kernel_rfl) hx0 rfl rfl (fun w' hw' => by first | refine k_loadA rfl (hB3.ext0 hw') hlg (Ty.shp rfl)) ?_
    refine WA_three 1 4 5 (by kernel_rfl) rfl rfl rfl rfl rfl rfl ?_ ?_ ?_
    · refine S_call (sfit_spec ho) rfl rfl ?_
      rintro v u ⟨rfl, hE⟩
      replace hH := hH.ext0 hE
      clear hE
      refine ⟨hH.ext, ?_⟩
      refine WA_three 3 4 5 (by kernel_rfl) rfl rfl rfl rfl rfl rfl ?_ ?_ ?_
      · refine S_call (sfit_spec go) rfl rfl ?_
        rintro v u ⟨rfl, hE⟩
        replace hH := hH.ext0 hE
        clear hE
        refine ⟨hH.ext, ?_⟩
        refine WA_two 4 5 (by kernel_rfl) rfl rfl rfl rfl ?_ ?_
        · refine H_alloc hH hzr rfl ?_
          try clear hH
          intro u b5 hH
          first | change Hp _ _ _ [] at hH | change Hp _ _ _ [_] at hH | change Hp _ _ _ [_, _] at hH | change Hp _ _ _ [_, _, _] at hH | change Hp _ _ _ [_, _, _, _] at hH | change Hp _ _ _ [_, _, _, _, _] at hH | change Hp _ _ _ [_, _, _, _, _, _] at hH | change Hp _ _ _ [_, _, _, _, _, _, _] at hH | change Hp _ _ _ [_, _, _, _, _, _, _, _] at hH | change Hp _ _ _ [_, _, _, _, _, _, _, _, _] at hH
          refine ⟨hH.ext, ?_⟩
          refine WA_one 5 (by kernel_rfl) rfl rfl ?_
          refine H_alloc hH hzr rfl ?_
          try clear hH
          intro u b6 hH
          first | change Hp _ _ _ [] at hH | change Hp _ _ _ [_] at hH | change Hp _ _ _ [_, _] at hH | change Hp _ _ _ [_, _, _] at hH | change Hp _ _ _ [_, _, _, _] at hH | change Hp _ _ _ [_, _, _, _, _] at hH | change Hp _ _ _ [_, _, _, _, _, _] at hH | change Hp _ _ _ [_, _, _, _, _, _, _] at hH | change Hp _ _ _ [_, _, _, _, _, _, _, _] at hH | change Hp _ _ _ [_, _, _, _, _, _, _, _, _] at hH
          refine ⟨hH.ext, ?_⟩
          refine WA_done (by kernel_rfl) ?_
          refine WL_keep [(15, .agg h.fit.cells.toArray), (17, .agg g.fit.cells.toArray), (5, pt b5), (6, pt b6)] ⟨rfl, rfl, rfl, rfl, trivial⟩ (fun σ => ?_)
          exact key b5 b6 σ _ hH
        · refine H_alloc hH hzr rfl ?_
          try clear hH
          intro u b6 hH
          first | change Hp _ _ _ [] at hH | change Hp _ _ _ [_] at hH | change Hp _ _ _ [_, _] at hH | change Hp _ _ _ [_, _, _] at hH | change Hp _ _ _ [_, _, _, _] at hH | change Hp _ _ _ [_, _, _, _, _] at hH | change Hp _ _ _ [_, _, _, _, _, _] at hH | change Hp _ _ _ [_, _, _, _, _, _, _] at hH | change Hp _ _ _ [_, _, _, _, _, _, _, _] at hH | change Hp _ _ _ [_, _, _, _, _, _, _, _, _] at hH
          refine ⟨hH.ext, ?_⟩
          refine WA_one 4 (by kernel_rfl) rfl rfl ?_
          refine H_alloc hH hzr rfl ?_
          try clear hH
          intro u b5 hH
          first | change Hp _ _ _ [] at hH | change Hp _ _ _ [_] at hH | change Hp _ _ _ [_, _] at hH | change Hp _ _ _ [_, _, _] at hH | change Hp _ _ _ [_, _, _, _] at hH | change Hp _ _ _ [_, _, _, _, _] at hH | change Hp _ _ _ [_, _, _, _, _, _] at hH | change Hp _ _ _ [_, _, _, _, _, _, _] at hH | change Hp _ _ _ [_, _, _, _, _, _, _, _] at hH | change Hp _ _ _ [_, _, _, _, _, _, _, _, _] at hH
          refine ⟨hH.ext, ?_⟩
          replace hH := hH.swap (List.Perm.swap _ _ _)
          first | change Hp _ _ _ [] at hH | change Hp _ _ _ [_] at hH | change Hp _ _ _ [_, _] at hH | change Hp _ _ _ [_, _, _] at hH | change Hp _ _ _ [_, _, _, _] at hH | change Hp _ _ _ [_, _, _, _, _] at hH | change Hp _ _ _ [_, _, _, _, _, _] at hH | change Hp _ _ _ [_, _, _, _, _, _, _] at hH | change Hp _ _ _ [_, _, _, _, _, _, _, _] at hH | change Hp _ _ _ [_, _, _, _, _, _, _, _, _] at hH
          refine WA_done (by kernel_rfl) ?_
          refine WL_keep [(15, .agg h.fit.cells.toArray), (17, .agg g.fit.cells.toArray), (5, pt b5), (6, pt b6)] ⟨rfl, rfl, rfl, rfl, trivial⟩ (fun σ => ?_)
          exact key b5 b6 σ _ hH
      · refine H_alloc hH hzr rfl ?_
        try clear hH
        intro u b5 hH
        first | change Hp _ _ _ [] at hH | change Hp _ _ _ [_] at hH | change Hp _ _ _ [_, _] at hH | change Hp _ _ _ [_, _, _] at hH | change Hp _ _ _ [_, _, _, _] at hH | change Hp _ _ _ [_, _, _, _, _] at hH | change Hp _ _ _ [_, _, _, _, _, _] at hH | change Hp _ _ _ [_, _, _, _, _, _, _] at hH | change Hp _ _ _ [_, _, _, _, _, _, _, _] at hH | change Hp _ _ _ [_, _, _, _, _, _, _, _, _] at hH
        refine ⟨hH.ext, ?_⟩
        refine WA_two 3 5 (by kernel_rfl) rfl rfl rfl rfl ?_ ?_
        · refine S_call (sfit_spec go) rfl rfl ?_
          rintro v u ⟨rfl, hE⟩
          replace hH := hH.ext0 hE
          clear hE
          refine ⟨hH.ext, ?_⟩
          refine WA_one 5 (by kernel_rfl) rfl rfl ?_
          refine H_alloc hH hzr rfl ?_
          try clear hH
          intro u b6 hH
          first | change Hp _ _ _ [] at hH | change Hp _ _ _ [_] at hH | change Hp _ _ _ [_, _] at hH | change Hp _ _ _ [_, _, _] at hH | change Hp _ _ _ [_, _, _, _] at hH | change Hp _ _ _ [_, _, _, _, _] at hH | change Hp _ _ _ [_, _, _, _, _, _] at hH | change Hp _ _ _ [_, _, _, _, _, _, _] at hH | change Hp _ _ _ [_, _, _, _, _, _, _, _] at hH | change Hp _ _ _ [_, _, _, _, _, _, _, _, _] at hH
          refine ⟨hH.ext, ?_⟩
          refine WA_done (by kernel_rfl) ?_
          refine WL_keep [(15, .agg h.fit.cells.toArray), (17, .agg g.fit.cells.toArray), (5, pt b5), (6, pt b6)] ⟨rfl, rfl, rfl, rfl, trivial⟩ (fun σ => ?_)
          exact key b5 b6 σ _ hH
        · refine H_alloc hH hzr rfl ?_
          try clear hH
          intro u b6 hH
          first | change Hp _ _ _ [] at hH | change Hp _ _ _ [_] at hH | change Hp _ _ _ [_, _] at hH | change Hp _ _ _ [_, _, _] at hH | change Hp _ _ _ [_, _, _, _] at hH | change Hp _ _ _ [_, _, _, _, _] at hH | change Hp _ _ _ [_, _, _, _, _, _] at hH | change Hp _ _ _ [_, _, _, _, _, _, _] at hH | change Hp _ _ _ [_, _, _, _, _, _, _, _] at hH | change Hp _ _ _ [_, _, _, _, _, _, _, _, _] at hH
          refine ⟨hH.ext, ?_⟩
          refine WA_one 3 (by kernel_rfl) rfl rfl ?_
          refine S_call (sfit_spec go) rfl rfl ?_
          rintro v u ⟨rfl, hE⟩
          replace hH := hH.ext0 hE
          clear hE
          refine ⟨hH.ext, ?_⟩
          refine WA_done (by kernel_rfl) ?_
          refine WL_keep [(15, .agg h.fit.cells.toArray), (17, .agg g.fit.cells.toArray), (5, pt b5), (6, pt b6)] ⟨rfl, rfl, rfl, rfl, trivial⟩ (fun σ => ?_)
          exact key b5 b6 σ _ hH
      · refine H_alloc hH hzr rfl ?_
        try clear hH
        intro u b6 hH
        first | change Hp _ _ _ [] at hH | change Hp _ _ _ [_] at hH | change Hp _ _ _ [_, _] at hH | change Hp _ _ _ [_, _, _] at hH | change Hp _ _ _ [_, _, _, _] at hH | change Hp _ _ _ [_, _, _, _, _] at hH | change Hp _ _ _ [_, _, _, _, _, _] at hH | change Hp _ _ _ [_, _, _, _, _, _, _] at hH | change Hp _ _ _ [_, _, _, _, _, _, _, _] at hH | change Hp _ _ _ [_, _, _, _, _, _, _, _, _] at hH
        refine ⟨hH.ext, ?_⟩
        refine WA_two 3 4 (by kernel_rfl) rfl rfl rfl rfl ?_ ?_
        · refine S_call (sfit_spec go) rfl rfl ?_
          rintro v u ⟨rfl, hE⟩
          replace hH := hH.ext0 hE
          clear hE
          refine ⟨hH.ext, ?_⟩
          refine WA_one 4 (by kernel_rfl) rfl rfl ?_
          refine H_alloc hH hzr rfl ?_
          try clear hH
          intro u b5 hH
          first | change Hp _ _ _ [] at hH | change Hp _ _ _ [_] at hH | change Hp _ _ _ [_, _] at hH | change Hp _ _ _ [_, _, _] at hH | change Hp _ _ _ [_, _, _, _] at hH | change Hp _ _ _ [_, _, _, _, _] at hH | change Hp _ _ _ [_, _, _, _, _, _] at hH | change Hp _ _ _ [_, _, _, _, _, _, _] at hH | change Hp _ _ _ [_, _, _, _, _, _, _, _] at hH | change Hp _ _ _ [_, _, _, _, _, _, _, _, _] at hH
          refine ⟨hH.ext, ?_⟩
          replace hH := hH.swap (List.Perm.swap _ _ _)
          first | change Hp _ _ _ [] at hH | change Hp _ _ _ [_] at hH | change Hp _ _ _ [_, _] at hH | change Hp _ _ _ [_, _, _] at hH | change Hp _ _ _ [_, _, _, _] at hH | change Hp _ _ _ [_, _, _, _, _] at hH | change Hp _ _ _ [_, _, _, _, _, _] at hH | change Hp _ _ _ [_, _, _, _, _, _, _] at hH | change Hp _ _ _ [_, _, _, _, _, _, _, _] at hH | change Hp _ _ _ [_, _, _, _, _, _, _, _, _] at hH
          refine WA_done (by kernel_rfl) ?_
          refine WL_keep [(15, .agg h.fit.cells.toArray), (17, .agg g.fit.cells.toArray), (5, pt b5), (6, pt b6)] ⟨rfl, rfl, rfl, rfl, trivial⟩ (fun σ => ?_)
          exact key b5 b6 σ _ hH
        · refine H_alloc hH hzr rfl ?_
          try clear hH
          intro u b5 hH
          first | change Hp _ _ _ [] at hH | change Hp _ _ _ [_] at hH | change Hp _ _ _ [_, _] at hH | change Hp _ _ _ [_, _, _] at hH | change Hp _ _ _ [_, _, _, _] at hH | change Hp _ _ _ [_, _, _, _, _] at hH | change Hp _ _ _ [_, _, _, _, _, _] at hH | change Hp _ _ _ [_, _, _, _, _, _, _] at hH | change Hp _ _ _ [_, _, _, _, _, _, _, _] at hH | change Hp _ _ _ [_, _, _, _, _, _, _, _, _] at hH
          refine ⟨hH.ext, ?_⟩
          refine WA_one 3 (by kernel_rfl) rfl rfl ?_
          refine S_call (sfit_spec go) rfl rfl ?_
          rintro v u ⟨rfl, hE⟩
          replace hH := hH.ext0 hE
          clear hE
          refine ⟨hH.ext, ?_⟩
          replace hH := hH.swap (List.Perm.swap _ _ _)
          first | change Hp _ _ _ [] at hH | change Hp _ _ _ [_] at hH | change Hp _ _ _ [_, _] at hH | change Hp _ _ _ [_, _, _] at hH | change Hp _ _ _ [_, _, _, _] at hH | change Hp _ _ _ [_, _, _, _, _] at hH | change Hp _ _ _ [_, _, _, _, _, _] at hH | change Hp _ _ _ [_, _, _, _, _, _, _] at hH | change Hp _ _ _ [_, _, _, _, _, _, _, _] at hH | change Hp _ _ _ [_, _, _, _, _, _, _, _, _] at hH
          refine WA_done (by kernel_rfl) ?_
          refine WL_keep [(15, .agg h.fit.cells.toArray), (17, .agg g.fit.cells.toArray), (5, pt b5), (6, pt b6)] ⟨rfl, rfl, rfl, rfl, trivial⟩ (fun σ => ?_)
          exact key b5 b6 σ _ hH
    · refine H_alloc hH hzr rfl ?_
      try clear hH
      intro u b5 hH
      first | change Hp _ _ _ [] at hH | change Hp _ _ _ [_] at hH | change Hp _ _ _ [_, _] at hH | change Hp _ _ _ [_, _, _] at hH | change Hp _ _ _ [_, _, _, _] at hH | change Hp _ _ _ [_, _, _, _, _] at hH | change Hp _ _ _ [_, _, _, _, _, _] at hH | change Hp _ _ _ [_, _, _, _, _, _, _] at hH | change Hp _ _ _ [_, _, _, _, _, _, _, _] at hH | change Hp _ _ _ [_, _, _, _, _, _, _, _, _] at hH
      refine ⟨hH.ext, ?_⟩
      refine WA_two 1 5 (by kernel_rfl) rfl rfl rfl rfl ?_ ?_
      · refine S_call (sfit_spec ho) rfl rfl ?_
        rintro v u ⟨rfl, hE⟩
        replace hH := hH.ext0 hE
        clear hE
        refine ⟨hH.ext, ?_⟩
        refine WA_two 3 5 (by kernel_rfl) rfl rfl rfl rfl ?_ ?_
        · refine S_call (sfit_spec go) rfl rfl ?_
          rintro v u ⟨rfl, hE⟩
          replace hH := hH.ext0 hE
          clear hE
          refine ⟨hH.ext, ?_⟩
          refine WA_one 5 (by kernel_rfl) rfl rfl ?_
          refine H_alloc hH hzr rfl ?_
          try clear hH
          intro u b6 hH
          first | change Hp _ _ _ [] at hH | change Hp _ _ _ [_] at hH | change Hp _ _ _ [_, _] at hH | change Hp _ _ _ [_, _, _] at hH | change Hp _ _ _ [_, _, _, _] at hH | change Hp _ _ _ [_, _, _, _, _] at hH | change Hp _ _ _ [_, _, _, _, _, _] at hH | change Hp _ _ _ [_, _, _, _, _, _, _] at hH | change Hp _ _ _ [_, _, _, _, _, _, _, _] at hH | change Hp _ _ _ [_, _, _, _, _, _, _, _, _] at hH
          refine ⟨hH.ext, ?_⟩
          refine WA_done (by kernel_rfl) ?_
          refine WL_keep [(15, .agg h.fit.cells.toArray), (17, .agg g.fit.cells.toArray), (5, pt b5), (6, pt b6)] ⟨rfl, rfl, rfl, rfl, trivial⟩ (fun σ => ?_)
          exact key b5 b6 σ _ hH
        · refine H_alloc hH hzr rfl ?_
          try clear hH
          intro u b6 hH
          first | change Hp _ _ _ [] at hH | change Hp _ _ _ [_] at hH | change Hp _ _ _ [_, _] at hH | change Hp _ _ _ [_, _, _] at hH | change Hp _ _ _ [_, _, _, _] at hH | change Hp _ _ _ [_, _, _, _, _] at hH | change Hp _ _ _ [_, _, _, _, _, _] at hH | change Hp _ _ _ [_, _, _, _, _, _, _] at hH | change Hp _ _ _ [_, _, _, _, _, _, _, _] at hH | change Hp _ _ _ [_, _, _, _, _, _, _, _, _] at hH
          refine ⟨hH.ext, ?_⟩
          refine WA_one 3 (by kernel_rfl) rfl rfl ?_
          refine S_call (sfit_spec go) rfl rfl ?_
          rintro v u ⟨rfl, hE⟩
          replace hH := hH.ext0 hE
          clear hE
          refine ⟨hH.ext, ?_⟩
          refine WA_done (by kernel_rfl) ?_
          refine WL_keep [(15, .agg h.fit.cells.toArray), (17, .agg g.fit.cells.toArray), (5, pt b5), (6, pt b6)] ⟨rfl, rfl, rfl, rfl, trivial⟩ (fun σ => ?_)
          exact key b5 b6 σ _ hH
      · refine H_alloc hH hzr rfl ?_
        try clear hH
        intro u b6 hH
        first | change Hp _ _ _ [] at hH | change Hp _ _ _ [_] at hH | change Hp _ _ _ [_, _] at hH | change Hp _ _ _ [_, _, _] at hH | change Hp _ _ _ [_, _, _, _] at hH | change Hp _ _ _ [_, _, _, _, _] at hH | change Hp _ _ _ [_, _, _, _, _, _] at hH | change Hp _ _ _ [_, _, _, _, _, _, _] at hH | change Hp _ _ _ [_, _, _, _, _, _, _, _] at hH | change Hp _ _ _ [_, _, _, _, _, _, _, _, _] at hH
        refine ⟨hH.ext, ?_⟩
        refine WA_one 1 (by kernel_rfl) rfl rfl ?_
        refine S_call (sfit_spec ho) rfl rfl ?_
        rintro v u ⟨rfl, hE⟩
        replace hH := hH.ext0 hE
        clear hE
        refine ⟨hH.ext, ?_⟩
        refine WA_one 3 (by kernel_rfl) rfl rfl ?_
        refine S_call (sfit_spec go) rfl rfl ?_
        rintro v u ⟨rfl, hE⟩
        replace hH := hH.ext0 hE
        clear hE
        refine ⟨hH.ext, ?_⟩
        refine WA_done (by kernel_rfl) ?_
        refine WL_keep [(15, .agg h.fit.cells.toArray), (17, .agg g.fit.cells.toArray), (5, pt b5), (6, pt b6)] ⟨rfl, rfl, rfl, rfl, trivial⟩ (fun σ => ?_)
        exact key b5 b6 σ _ hH
    · refine H_alloc hH hzr rfl ?_
      try clear hH
      intro u b6 hH
      first | change Hp _ _ _ [] at hH | change Hp _ _ _ [_] at hH | change Hp _ _ _ [_, _] at hH | change Hp _ _ _ [_, _, _] at hH | change Hp _ _ _ [_, _, _, _] at hH | change Hp _ _ _ [_, _, _, _, _] at hH | change Hp _ _ _ [_, _, _, _, _, _] at hH | change Hp _ _ _ [_, _, _, _, _, _, _] at hH | change Hp _ _ _ [_, _, _, _, _, _, _, _] at hH | change Hp _ _ _ [_, _, _, _, _, _, _, _, _] at hH
      refine ⟨hH.ext, ?_⟩
      refine WA_two 1 4 (by kernel_rfl) rfl rfl rfl rfl ?_ ?_
      · refine S_call (sfit_spec ho) rfl rfl ?_
        rintro v u ⟨rfl, hE⟩
        replace hH := hH.ext0 hE
        clear hE
        refine ⟨hH.ext, ?_⟩
        refine WA_two 3 4 (by kernel_rfl) rfl rfl rfl rfl ?_ ?_
        · refine S_call (sfit_spec go) rfl rfl ?_
          rintro v u ⟨rfl, hE⟩
          replace hH := hH.ext0 hE
          clear hE
          refine ⟨hH.ext, ?_⟩
          refine WA_one 4 (by kernel_rfl) rfl rfl ?_
          refine H_alloc hH hzr rfl ?_
          try clear hH
          intro u b5 hH
          first | change Hp _ _ _ [] at hH | change Hp _ _ _ [_] at hH | change Hp _ _ _ [_, _] at hH | change Hp _ _ _ [_, _, _] at hH | change Hp _ _ _ [_, _, _, _] at hH | change Hp _ _ _ [_, _, _, _, _] at hH | change Hp _ _ _ [_, _, _, _, _, _] at hH | change Hp _ _ _ [_, _, _, _, _, _, _] at hH | change Hp _ _ _ [_, _, _, _, _, _, _, _] at hH | change Hp _ _ _ [_, _, _, _, _, _, _, _, _] at hH
          refine ⟨hH.ext, ?_⟩
          replace hH := hH.swap (List.Perm.swap _ _ _)
          first | change Hp _ _ _ [] at hH | change Hp _ _ _ [_] at hH | change Hp _ _ _ [_, _] at hH | change Hp _ _ _ [_, _, _] at hH | change Hp _ _ _ [_, _, _, _] at hH | change Hp _ _ _ [_, _, _, _, _] at hH | change Hp _ _ _ [_, _, _, _, _, _] at hH | change Hp _ _ _ [_, _, _, _, _, _, _] at hH | change Hp _ _ _ [_, _, _, _, _, _, _, _] at hH | change Hp _ _ _ [_, _, _, _, _, _, _, _, _] at hH
          refine WA_done (by kernel_rfl) ?_
          refine WL_keep [(15, .agg h.fit.cells.toArray), (17, .agg g.fit.cells.toArray), (5, pt b5), (6, pt b6)] ⟨rfl, rfl, rfl, rfl, trivial⟩ (fun σ => ?_)
          exact key b5 b6 σ _ hH
        · refine H_alloc hH hzr rfl ?_
          try clear hH
          intro u b5 hH
          first | change Hp _ _ _ [] at hH | change Hp _ _ _ [_] at hH | change Hp _ _ _ [_, _] at hH | change Hp _ _ _ [_, _, _] at hH | change Hp _ _ _ [_, _, _, _] at hH | change Hp _ _ _ [_, _, _, _, _] at hH | change Hp _ _ _ [_, _, _, _, _, _] at hH | change Hp _ _ _ [_, _, _, _, _, _, _] at hH | change Hp _ _ _ [_, _, _, _, _, _, _, _] at hH | change Hp _ _ _ [_, _, _, _, _, _, _, _, _] at hH
          refine ⟨hH.ext, ?_⟩
          refine WA_one 3 (by kernel_rfl) rfl rfl ?_
          refine S_call (sfit_spec go) rfl rfl ?_
          rintro v u ⟨rfl, hE⟩
          replace hH := hH.ext0 hE
          clear hE
          refine ⟨hH.ext, ?_⟩
          replace hH := hH.swap (List.Perm.swap _ _ _)
          first | change Hp _ _ _ [] at hH | change Hp _ _ _ [_] at hH | change Hp _ _ _ [_, _] at hH | change Hp _ _ _ [_, _, _] at hH | change Hp _ _ _ [_, _, _, _] at hH | change Hp _ _ _ [_, _, _, _, _] at hH | change Hp _ _ _ [_, _, _, _, _, _] at hH | change Hp _ _ _ [_, _, _, _, _, _, _] at hH | change Hp _ _ _ [_, _, _, _, _, _, _, _] at hH | change Hp _ _ _ [_, _, _, _, _, _, _, _, _] at hH
          refine WA_done (by kernel_rfl) ?_
          refine WL_keep [(15, .agg h.fit.cells.toArray), (17, .agg g.fit.cells.toArray), (5, pt b5), (6, pt b6)] ⟨rfl, rfl, rfl, rfl, trivial⟩ (fun σ => ?_)
          exact key b5 b6 σ _ hH
      · refine H_alloc hH hzr rfl ?_
        try clear hH
        intro u b5 hH
        first | change Hp _ _ _ [] at hH | change Hp _ _ _ [_] at hH | change Hp _ _ _ [_, _] at hH | change Hp _ _ _ [_, _, _] at hH | change Hp _ _ _ [_, _, _, _] at hH | change Hp _ _ _ [_, _, _, _, _] at hH | change Hp _ _ _ [_, _, _, _, _, _] at hH | change Hp _ _ _ [_, _, _, _, _, _, _] at hH | change Hp _ _ _ [_, _, _, _, _, _, _, _] at hH | change Hp _ _ _ [_, _, _, _, _, _, _, _, _] at hH
        refine ⟨hH.ext, ?_⟩
        refine WA_one 1 (by kernel_rfl) rfl rfl ?_
        refine S_call (sfit_spec ho) rfl rfl ?_
        rintro v u ⟨rfl, hE⟩
        replace hH := hH.ext0 hE
        clear hE
        refine ⟨hH.ext, ?_⟩
        refine WA_one 3 (by kernel_rfl) rfl rfl ?_
        refine S_call (sfit_spec go) rfl rfl ?_
        rintro v u ⟨rfl, hE⟩
        replace hH := hH.ext0 hE
        clear hE
        refine ⟨hH.ext, ?_⟩
        replace hH := hH.swap (List.Perm.swap _ _ _)
        first | change Hp _ _ _ [] at hH | change Hp _ _ _ [_] at hH | change Hp _ _ _ [_, _] at hH | change Hp _ _ _ [_, _, _] at hH | change Hp _ _ _ [_, _, _, _] at hH | change Hp _ _ _ [_, _, _, _, _] at hH | change Hp _ _ _ [_, _, _, _, _, _] at hH | change Hp _ _ _ [_, _, _, _, _, _, _] at hH | change Hp _ _ _ [_, _, _, _, _, _, _, _] at hH | change Hp _ _ _ [_, _, _, _, _, _, _, _, _] at hH
        refine WA_done (by kernel_rfl) ?_
        refine WL_keep [(15, .agg h.fit.cells.toArray), (17, .agg g.fit.cells.toArray), (5, pt b5), (6, pt b6)] ⟨rfl, rfl, rfl, rfl, trivial⟩ (fun σ => ?_)
        exact key b5 b6 σ _ hH
  intro b5 b6 σ w4 hH
  have hxo := SH.fit_ok ho
  have hyo := SH.fit_ok go
  have hxe := SH.fit_err h
  have hye := SH.fit_err g
  clear hB2 hB3 hlh hlg
  generalize h.fit = x at *
  generalize g.fit = y at *
  have hxc : x.cells.toArray.size = 131 := by rw [List.size_toArray]; exact SH.cells_len hxo
  have hyc : y.cells.toArray.size = 131 := by rw [List.size_toArray]; exact SH.cells_len hyo
  refine WL_s (H_storeA 0 hH rfl rfl rfl hxc hz (cells_one x) (Ty.shp rfl) ?_)
  clear hH
  intro w5 hH
  first | change Hp _ _ _ [] at hH | change Hp _ _ _ [_] at hH | change Hp _ _ _ [_, _] at hH | change Hp _ _ _ [_, _, _] at hH | change Hp _ _ _ [_, _, _, _] at hH | change Hp _ _ _ [_, _, _, _, _] at hH | change Hp _ _ _ [_, _, _, _, _, _] at hH | change Hp _ _ _ [_, _, _, _, _, _, _] at hH | change Hp _ _ _ [_, _, _, _, _, _, _, _] at hH | change Hp _ _ _ [_, _, _, _, _, _, _, _, _] at hH
  refine WL_s (H_storeA 1 hH rfl rfl rfl hyc hz (cells_one y) (Ty.shp rfl) ?_)
  clear hH
  intro w6 hH
  first | change Hp _ _ _ [] at hH | change Hp _ _ _ [_] at hH | change Hp _ _ _ [_, _] at hH | change Hp _ _ _ [_, _, _] at hH | change Hp _ _ _ [_, _, _, _] at hH | change Hp _ _ _ [_, _, _, _, _] at hH | change Hp _ _ _ [_, _, _, _, _, _] at hH | change Hp _ _ _ [_, _, _, _, _, _, _] at hH | change Hp _ _ _ [_, _, _, _, _, _, _, _] at hH | change Hp _ _ _ [_, _, _, _, _, _, _, _, _] at hH
  have hB5 : Blk w6 b5 26 x.cells.toArray := hH.b 0 rfl
  repeat (first | refine WS_seq ?_ | refine WS_region ?_ | refine WL_nil ?_ | refine WS_block ?_ | refine WS_inBlock ?_ | refine WS_skip ?_ | refine WS_label ?_ | refine WS_scope ?_ | refine WS_inScope ?_ | refine WS_exit rfl ?_ | refine WS_true rfl ?_ | refine WS_false rfl ?_ | refine WS_yes rfl (by omega) ?_ | refine WS_no rfl (by omega) ?_ | refine WL_gyes rfl rfl rfl ?_ | refine WL_gno rfl rfl rfl rfl rfl ?_ | refine WL_gund rfl rfl rfl ?_ | refine WL_gyes rfl rfl (dF (by omega)) ?_ | refine WL_gyes rfl rfl (dT (by omega)) ?_ | refine WL_gno (b := false) rfl rfl (dF (by omega)) rfl rfl ?_ | refine WL_gno (b := true) rfl rfl (dT (by omega)) rfl rfl ?_ | (refine WL_r (by first | refine k_loadA rfl hB5 hxc (Ty.shp rfl) | refine Run_pev rfl | refine k_add64 rfl rfl (by omega) | refine k_sub64 rfl rfl (by omega) | refine k_len rfl (Ty.isl rfl) | refine k_lens rfl (Ty.iss rfl) | refine k_not rfl | refine k_notb rfl | refine k_min rfl rfl | refine k_max rfl rfl | refine k_min3 rfl rfl rfl | refine k_max3 rfl rfl rfl | refine k_mul64 rfl rfl (by omega) | refine k_quo64 rfl rfl (by omega) | refine k_rem rfl rfl (by omega) | refine k_extract rfl rfl | apply k_makeFunc | refine k_convI rfl rfl rfl (by omega) | refine k_conv16 rfl rfl rfl (by omega) | refine k_conv64 rfl rfl rfl (by omega) | refine k_conv8 rfl rfl rfl (by omega) | refine k_convB rfl rfl rfl | refine k_convH rfl rfl rfl | refine k_convQ rfl rfl rfl | refine k_pick_f (dF (by omega)) rfl | refine k_pick_t (dT (by omega)) rfl) rfl ?_))
  try refine WL_gyes rfl rfl rfl ?_
  refine WL_s (S_call (hput_spec hxo hxe) rfl rfl ?_)
  rintro v w7 ⟨a7, c7, rfl, hN⟩
  replace hH := hH.nu hN
  clear hN hB5
  first | change Hp _ _ _ [] at hH | change Hp _ _ _ [_] at hH | change Hp _ _ _ [_, _] at hH | change Hp _ _ _ [_, _, _] at hH | change Hp _ _ _ [_, _, _, _] at hH | change Hp _ _ _ [_, _, _, _, _] at hH | change Hp _ _ _ [_, _, _, _, _, _] at hH | change Hp _ _ _ [_, _, _, _, _, _, _] at hH | change Hp _ _ _ [_, _, _, _, _, _, _, _] at hH | change Hp _ _ _ [_, _, _, _, _, _, _, _, _] at hH
  have hB6 : Blk w7 b6 26 y.cells.toArray := hH.b 1 rfl
  repeat (first | refine WS_seq ?_ | refine WS_region ?_ | refine WL_nil ?_ | refine WS_block ?_ | refine WS_inBlock ?_ | refine WS_skip ?_ | refine WS_label ?_ | refine WS_scope ?_ | refine WS_inScope ?_ | refine WS_exit rfl ?_ | refine WS_true rfl ?_ | refine WS_false rfl ?_ | refine WS_yes rfl (by omega) ?_ | refine WS_no rfl (by omega) ?_ | refine WL_gyes rfl rfl rfl ?_ | refine WL_gno rfl rfl rfl rfl rfl ?_ | refine WL_gund rfl rfl rfl ?_ | refine WL_gyes rfl rfl (dF (by omega)) ?_ | refine WL_gyes rfl rfl (dT (by omega)) ?_ | refine WL_gno (b := false) rfl rfl (dF (by omega)) rfl rfl ?_ | refine WL_gno (b := true) rfl rfl (dT (by omega)) rfl rfl ?_ | (refine WL_r (by first | refine k_loadA rfl hB6 hyc (Ty.shp rfl) | refine Run_pev rfl | refine k_add64 rfl rfl (by omega) | refine k_sub64 rfl rfl (by omega) | refine k_len rfl (Ty.isl rfl) | refine k_lens rfl (Ty.iss rfl) | refine k_not rfl | refine k_notb rfl | refine k_min rfl rfl | refine k_max rfl rfl | refine k_min3 rfl rfl rfl | refine k_max3 rfl rfl rfl | refine k_mul64 rfl rfl (by omega) | refine k_quo64 rfl rfl (by omega) | refine k_rem rfl rfl (by omega) | refine k_extract rfl rfl | apply k_makeFunc | refine k_convI rfl rfl rfl (by omega) | refine k_conv16 rfl rfl rfl (by omega) | refine k_conv64 rfl rfl rfl (by omega) | refine k_conv8 rfl rfl rfl (by omega) | refine k_convB rfl rfl rfl | refine k_convH rfl rfl rfl | refine k_convQ rfl rfl rfl | refine k_pick_f (dF (by omega)) rfl | refine k_pick_t (dT (by omega)) rfl) rfl ?_))
  try refine WL_gyes rfl rfl rfl ?_
  refine WL_s (S_call (hput_spec hyo hye) rfl rfl ?_)
  rintro v w8 ⟨a8, c8, rfl, hN⟩
  replace hH := hH.nu hN
  clear hN hB6
  first | change Hp _ _ _ [] at hH | change Hp _ _ _ [_] at hH | change Hp _ _ _ [_, _] at hH | change Hp _ _ _ [_, _, _] at hH | change Hp _ _ _ [_, _, _, _] at hH | change Hp _ _ _ [_, _, _, _, _] at hH | change Hp _ _ _ [_, _, _, _, _, _] at hH | change Hp _ _ _ [_, _, _, _, _, _, _] at hH | change Hp _ _ _ [_, _, _, _, _, _, _, _] at hH | change Hp _ _ _ [_, _, _, _, _, _, _, _, _] at hH
  have hB5 : Blk w8 b5 26 x.cells.toArray := hH.b 0 rfl
  have hB6 : Blk w8 b6 26 y.cells.toArray := hH.b 1 rfl
  have hSx : SlA w8 a7 (x.out.map B) := (hH.o 2 rfl).sl
  have hSy : SlA w8 a8 (y.out.map B) := (hH.o 3 rfl).sl
  have hlen := SH.out_len hxo hxe
  have hinj := SH.out_inj hxo hyo hxe hye
  have hxb := SH.out_byt x
  have hyb := SH.out_byt y
  have hfx := fits_seqh hxo
  have hfy := fits_seqh hyo
  have hall := all2_seqh hxo hyo (x.out = y.out) hinj.symm
  have hE8 := hW3.then0 hH.ext
  clear hH
  cases hw : x.wt with
  | true =>
    rw [hw, if_pos rfl] at hlen
    repeat (first | refine WS_seq ?_ | refine WS_region ?_ | refine WL_nil ?_ | refine WS_block ?_ | refine WS_inBlock ?_ | refine WS_skip ?_ | refine WS_label ?_ | refine WS_scope ?_ | refine WS_inScope ?_ | refine WS_exit rfl ?_ | refine WS_true rfl ?_ | refine WS_false rfl ?_ | refine WS_yes rfl (by omega) ?_ | refine WS_no rfl (by omega) ?_ | refine WL_gyes rfl rfl rfl ?_ | refine WL_gno rfl rfl rfl rfl rfl ?_ | refine WL_gund rfl rfl rfl ?_ | refine WL_gyes rfl rfl (dF (by omega)) ?_ | refine WL_gyes rfl rfl (dT (by omega)) ?_ | refine WL_gno (b := false) rfl rfl (dF (by omega)) rfl rfl ?_ | refine WL_gno (b := true) rfl rfl (dT (by omega)) rfl rfl ?_ | (refine WL_r (by first | refine k_nilCheck rfl | refine k_fa rfl (Ty.fld rfl rfl) | refine (k_loadb rfl hB5 rfl (Ty.shp rfl)).is (congrArg Value.bool hw) | refine Run_pev rfl | refine k_add64 rfl rfl (by omega) | refine k_sub64 rfl rfl (by omega) | refine k_len rfl (Ty.isl rfl) | refine k_lens rfl (Ty.iss rfl) | refine k_not rfl | refine k_notb rfl | refine k_min rfl rfl | refine k_max rfl rfl | refine k_min3 rfl rfl rfl | refine k_max3 rfl rfl rfl | refine k_mul64 rfl rfl (by omega) | refine k_quo64 rfl rfl (by omega) | refine k_rem rfl rfl (by omega) | refine k_extract rfl rfl | apply k_makeFunc | refine k_convI rfl rfl rfl (by omega) | refine k_conv16 rfl rfl rfl (by omega) | refine k_conv64 rfl rfl rfl (by omega) | refine k_conv8 rfl rfl rfl (by omega) | refine k_convB rfl rfl rfl | refine k_convH rfl rfl rfl | refine k_convQ rfl rfl rfl | refine k_pick_f (dF (by omega)) rfl | refine k_pick_t (dT (by omega)) rfl) rfl ?_))
    refine WS_drawE Ty.mixed 24 rfl (fun w1 hx1 => ?_)
    refine WA_take 0 rfl (by kernel_rfl) hx1 rfl rfl (fun w' hw' => by first | refine Run_pev rfl) ?_
    refine WA_take 1 rfl (by kernel_rfl) hx1 rfl rfl (fun w' hw' => by first | refine (k_eql rfl rfl).is (bT (by omega)) | refine k_eqls rfl rfl hxb hyb | refine k_eqlC rfl rfl (Ty.eqv SHK_eq) hfx hfy hall | refine k_eqlbT rfl rfl (by kernel_rfl) rfl | refine Run_pev rfl) ?_
    refine WA_take 2 rfl (by kernel_rfl) hx1 rfl rfl (fun w' hw' => by first | refine Run_pev rfl) ?_
    first | refine WA_takey 3 rfl (by kernel_rfl) hx1 rfl rfl rfl rfl rfl (fun w' hw' => by first | refine Run_pev rfl) ?_ | refine WA_takey 3 rfl (by kernel_rfl) hx1 rfl rfl rfl (dF (by omega)) rfl (fun w' hw' => by first | refine Run_pev rfl) ?_ | refine WA_takey 3 rfl (by kernel_rfl) hx1 rfl rfl rfl (dT (by omega)) rfl (fun w' hw' => by first | refine Run_pev rfl) ?_ | refine WA_taken (b := false) 3 rfl (by kernel_rfl) hx1 rfl rfl rfl rfl rfl rfl ?_ | refine WA_taken (b := true) 3 rfl (by kernel_rfl) hx1 rfl rfl rfl rfl rfl rfl ?_ | refine WA_taken (b := false) 3 rfl (by kernel_rfl) hx1 rfl rfl rfl (dF (by omega)) rfl rfl ?_ | refine WA_taken (b := true) 3 rfl (by kernel_rfl) hx1 rfl rfl rfl (dT (by omega)) rfl rfl ?_ | refine WA_takeu 3 rfl (by kernel_rfl) hx1 rfl rfl rfl rfl ?_
    first | refine WA_takey 4 rfl (by kernel_rfl) hx1 rfl rfl rfl rfl rfl (fun w' hw' => by first | refine (k_eql rfl rfl).is (bT (by omega)) | refine k_eqls rfl rfl hxb hyb | refine k_eqlC rfl rfl (Ty.eqv SHK_eq) hfx hfy hall | refine k_eqlbT rfl rfl (by kernel_rfl) rfl | refine Run_pev rfl) ?_ | refine WA_takey 4 rfl (by kernel_rfl) hx1 rfl rfl rfl (dF (by omega)) rfl (fun w' hw' => by first | refine (k_eql rfl rfl).is (bT (by omega)) | refine k_eqls rfl rfl hxb hyb | refine k_eqlC rfl rfl (Ty.eqv SHK_eq) hfx hfy hall | refine k_eqlbT rfl rfl (by kernel_rfl) rfl | refine Run_pev rfl) ?_ | refine WA_takey 4 rfl (by kernel_rfl) hx1 rfl rfl rfl (dT (by omega)) rfl (fun w' hw' => by first | refine (k_eql rfl rfl).is (bT (by omega)) | refine k_eqls rfl rfl hxb hyb | refine k_eqlC rfl rfl (Ty.eqv SHK_eq) hfx hfy hall | refine k_eqlbT rfl rfl (by kernel_rfl) rfl | refine Run_pev rfl) ?_ | refine WA_taken (b := false) 4 rfl (by kernel_rfl) hx1 rfl rfl rfl rfl rfl rfl ?_ | refine WA_taken (b := true) 4 rfl (by kernel_rfl) hx1 rfl rfl rfl rfl rfl rfl ?_ | refine WA_taken (b := false) 4 rfl (by kernel_rfl) hx1 rfl rfl rfl (dF (by omega)) rfl rfl ?_ | refine WA_taken (b := true) 4 rfl (by kernel_rfl) hx1 rfl rfl rfl (dT (by omega)) rfl rfl ?_ | refine WA_takeu 4 rfl (by kernel_rfl) hx1 rfl rfl rfl rfl ?_
    refine WA_take 5 rfl (by kernel_rfl) hx1 rfl rfl (fun w' hw' => by first | refine Run_pev rfl | refine k_pick_f (dF (by omega)) rfl | refine k_pick_t (dT (by omega)) rfl) ?_
    refine WA_take 6 rfl (by kernel_rfl) hx1 rfl rfl (fun w' hw' => by first | refine Run_pev rfl) ?_
    first | refine WA_takey 7 rfl (by kernel_rfl) hx1 rfl rfl rfl rfl rfl (fun w' hw' => by first | refine Run_pev rfl) ?_ | refine WA_takey 7 rfl (by kernel_rfl) hx1 rfl rfl rfl (dF (by omega)) rfl (fun w' hw' => by first | refine Run_pev rfl) ?_ | refine WA_takey 7 rfl (by kernel_rfl) hx1 rfl rfl rfl (dT (by omega)) rfl (fun w' hw' => by first | refine Run_pev rfl) ?_ | refine WA_taken (b := false) 7 rfl (by kernel_rfl) hx1 rfl rfl rfl rfl rfl rfl ?_ | refine WA_taken (b := true) 7 rfl (by kernel_rfl) hx1 rfl rfl rfl rfl rfl rfl ?_ | refine WA_taken (b := false) 7 rfl (by kernel_rfl) hx1 rfl rfl rfl (dF (by omega)) rfl rfl ?_ | refine WA_taken (b := true) 7 rfl (by kernel_rfl) hx1 rfl rfl rfl (dT (by omega)) rfl rfl ?_ | refine WA_takeu 7 rfl (by kernel_rfl) hx1 rfl rfl rfl rfl ?_
    first | refine WA_takey 8 rfl (by kernel_rfl) hx1 rfl rfl rfl rfl rfl (fun w' hw' => by first | refine k_len rfl (Ty.isl rfl) | refine k_lens rfl (Ty.iss rfl)) ?_ | refine WA_takey 8 rfl (by kernel_rfl) hx1 rfl rfl rfl (dF (by omega)) rfl (fun w' hw' => by first | refine k_len rfl (Ty.isl rfl) | refine k_lens rfl (Ty.iss rfl)) ?_ | refine WA_takey 8 rfl (by kernel_rfl) hx1 rfl rfl rfl (dT (by omega)) rfl (fun w' hw' => by first | refine k_len rfl (Ty.isl rfl) | refine k_lens rfl (Ty.iss rfl)) ?_ | refine WA_taken (b := false) 8 rfl (by kernel_rfl) hx1 rfl rfl rfl rfl rfl rfl ?_ | refine WA_taken (b := true) 8 rfl (by kernel_rfl) hx1 rfl rfl rfl rfl rfl rfl ?_ | refine WA_taken (b := false) 8 rfl (by kernel_rfl) hx1 rfl rfl rfl (dF (by omega)) rfl rfl ?_ | refine WA_taken (b := true) 8 rfl (by kernel_rfl) hx1 rfl rfl rfl (dT (by omega)) rfl rfl ?_ | refine WA_takeu 8 rfl (by kernel_rfl) hx1 rfl rfl rfl rfl ?_
    first | refine WA_takey 9 rfl (by kernel_rfl) hx1 rfl rfl rfl rfl rfl (fun w' hw' => by first | refine Run_pev rfl) ?_ | refine WA_takey 9 rfl (by kernel_rfl) hx1 rfl rfl rfl (dF (by omega)) rfl (fun w' hw' => by first | refine Run_pev rfl) ?_ | refine WA_takey 9 rfl (by kernel_rfl) hx1 rfl rfl rfl (dT (by omega)) rfl (fun w' hw' => by first | refine Run_pev rfl) ?_ | refine WA_taken (b := false) 9 rfl (by kernel_rfl) hx1 rfl rfl rfl rfl rfl rfl ?_ | refine WA_taken (b := true) 9 rfl (by kernel_rfl) hx1 rfl rfl rfl rfl rfl rfl ?_ | refine WA_taken (b := false) 9 rfl (by kernel_rfl) hx1 rfl rfl rfl (dF (by omega)) rfl rfl ?_ | refine WA_taken (b := true) 9 rfl (by kernel_rfl) hx1 rfl rfl rfl (dT (by omega)) rfl rfl ?_ | refine WA_takeu 9 rfl (by kernel_rfl) hx1 rfl rfl rfl rfl ?_
    first | refine WA_takey 10 rfl (by kernel_rfl) hx1 rfl rfl rfl rfl rfl (fun w' hw' => by first | refine (k_eql rfl rfl).is (bT (by omega)) | refine k_eqls rfl rfl hxb hyb | refine k_eqlC rfl rfl (Ty.eqv SHK_eq) hfx hfy hall | refine k_eqlbT rfl rfl (by kernel_rfl) rfl | refine Run_pev rfl) ?_ | refine WA_takey 10 rfl (by kernel_rfl) hx1 rfl rfl rfl (dF (by omega)) rfl (fun w' hw' => by first | refine (k_eql rfl rfl).is (bT (by omega)) | refine k_eqls rfl rfl hxb hyb | refine k_eqlC rfl rfl (Ty.eqv SHK_eq) hfx hfy hall | refine k_eqlbT rfl rfl (by kernel_rfl) rfl | refine Run_pev rfl) ?_ | refine WA_takey 10 rfl (by kernel_rfl) hx1 rfl rfl rfl (dT (by omega)) rfl (fun w' hw' => by first | refine (k_eql rfl rfl).is (bT (by omega)) | refine k_eqls rfl rfl hxb hyb | refine k_eqlC rfl rfl (Ty.eqv SHK_eq) hfx hfy hall | refine k_eqlbT rfl rfl (by kernel_rfl) rfl | refine Run_pev rfl) ?_ | refine WA_taken (b := false) 10 rfl (by kernel_rfl) hx1 rfl rfl rfl rfl rfl rfl ?_ | refine WA_taken (b := true) 10 rfl (by kernel_rfl) hx1 rfl rfl rfl rfl rfl rfl ?_ | refine WA_taken (b := false) 10 rfl (by kernel_rfl) hx1 rfl rfl rfl (dF (by omega)) rfl rfl ?_ | refine WA_taken (b := true) 10 rfl (by kernel_rfl) hx1 rfl rfl rfl (dT (by omega)) rfl rfl ?_ | refine WA_takeu 10 rfl (by kernel_rfl) hx1 rfl rfl rfl rfl ?_
    refine WA_take 11 rfl (by kernel_rfl) hx1 rfl rfl (fun w' hw' => by first | refine Run_pev rfl | refine k_pick_f (dF (by omega)) rfl | refine k_pick_t (dT (by omega)) rfl) ?_
    refine WA_take 12 rfl (by kernel_rfl) hx1 rfl rfl (fun w' hw' => by first | refine Run_pev rfl) ?_
    first | refine WA_takey 13 rfl (by kernel_rfl) hx1 rfl rfl rfl rfl rfl (fun w' hw' => by first | refine Run_pev rfl) ?_ | refine WA_takey 13 rfl (by kernel_rfl) hx1 rfl rfl rfl (dF (by omega)) rfl (fun w' hw' => by first | refine Run_pev rfl) ?_ | refine WA_takey 13 rfl (by kernel_rfl) hx1 rfl rfl rfl (dT (by omega)) rfl (fun w' hw' => by first | refine Run_pev rfl) ?_ | refine WA_taken (b := false) 13 rfl (by kernel_rfl) hx1 rfl rfl rfl rfl rfl rfl ?_ | refine WA_taken (b := true) 13 rfl (by kernel_rfl) hx1 rfl rfl rfl rfl rfl rfl ?_ | refine WA_taken (b := false) 13 rfl (by kernel_rfl) hx1 rfl rfl rfl (dF (by omega)) rfl rfl ?_ | refine WA_taken (b := true) 13 rfl (by kernel_rfl) hx1 rfl rfl rfl (dT (by omega)) rfl rfl ?_ | refine WA_takeu 13 rfl (by kernel_rfl) hx1 rfl rfl rfl rfl ?_
    first | refine WA_takey 14 rfl (by kernel_rfl) hx1 rfl rfl rfl rfl rfl (fun w' hw' => by first | refine k_str rfl (hSx.ext0 hw') (Ty.sle rfl) (Ty.knd rfl) (Ty.iss rfl) | refine k_str rfl (hSy.ext0 hw') (Ty.sle rfl) (Ty.knd rfl) (Ty.iss rfl) | refine k_convI rfl rfl rfl (by omega) | refine k_conv16 rfl rfl rfl (by omega) | refine k_conv64 rfl rfl rfl (by omega) | refine k_conv8 rfl rfl rfl (by omega) | refine k_convB rfl rfl rfl | refine k_convH rfl rfl rfl | refine k_convQ rfl rfl rfl) ?_ | refine WA_takey 14 rfl (by kernel_rfl) hx1 rfl rfl rfl (dF (by omega)) rfl (fun w' hw' => by first | refine k_str rfl (hSx.ext0 hw') (Ty.sle rfl) (Ty.knd rfl) (Ty.iss rfl) | refine k_str rfl (hSy.ext0 hw') (Ty.sle rfl) (Ty.knd rfl) (Ty.iss rfl) | refine k_convI rfl rfl rfl (by omega) | refine k_conv16 rfl rfl rfl (by omega) | refine k_conv64 rfl rfl rfl (by omega) | refine k_conv8 rfl rfl rfl (by omega) | refine k_convB rfl rfl rfl | refine k_convH rfl rfl rfl | refine k_convQ rfl rfl rfl) ?_ | refine WA_takey 14 rfl (by kernel_rfl) hx1 rfl rfl rfl (dT (by omega)) rfl (fun w' hw' => by first | refine k_str rfl (hSx.ext0 hw') (Ty.sle rfl) (Ty.knd rfl) (Ty.iss rfl) | refine k_str rfl (hSy.ext0 hw') (Ty.sle rfl) (Ty.knd rfl) (Ty.iss rfl) | refine k_convI rfl rfl rfl (by omega) | refine k_conv16 rfl rfl rfl (by omega) | refine k_conv64 rfl rfl rfl (by omega) | refine k_conv8 rfl rfl rfl (by omega) | refine k_convB rfl rfl rfl | refine k_convH rfl rfl rfl | refine k_convQ rfl rfl rfl) ?_ | refine WA_taken (b := false) 14 rfl (by kernel_rfl) hx1 rfl rfl rfl rfl rfl rfl ?_ | refine WA_taken (b := true) 14 rfl (by kernel_rfl) hx1 rfl rfl rfl rfl rfl rfl ?_ | refine WA_taken (b := false) 14 rfl (by kernel_rfl) hx1 rfl rfl rfl (dF (by omega)) rfl rfl ?_ | refine WA_taken (b := true) 14 rfl (by kernel_rfl) hx1 rfl rfl rfl (dT (by omega)) rfl rfl ?_ | refine WA_takeu 14 rfl (by kernel_rfl) hx1 rfl rfl rfl rfl ?_
    first | refine WA_takey 15 rfl (by kernel_rfl) hx1 rfl rfl rfl rfl rfl (fun w' hw' => by first | refine Run_pev rfl) ?_ | refine WA_takey 15 rfl (by kernel_rfl) hx1 rfl rfl rfl (dF (by omega)) rfl (fun w' hw' => by first | refine Run_pev rfl) ?_ | refine WA_takey 15 rfl (by kernel_rfl) hx1 rfl rfl rfl (dT (by omega)) rfl (fun w' hw' => by first | refine Run_pev rfl) ?_ | refine WA_taken (b := false) 15 rfl (by kernel_rfl) hx1 rfl rfl rfl rfl rfl rfl ?_ | refine WA_taken (b := true) 15 rfl (by kernel_rfl) hx1 rfl rfl rfl rfl rfl rfl ?_ | refine WA_taken (b := false) 15 rfl (by kernel_rfl) hx1 rfl rfl rfl (dF (by omega)) rfl rfl ?_ | refine WA_taken (b := true) 15 rfl (by kernel_rfl) hx1 rfl rfl rfl (dT (by omega)) rfl rfl ?_ | refine WA_takeu 15 rfl (by kernel_rfl) hx1 rfl rfl rfl rfl ?_
    first | refine WA_takey 16 rfl (by kernel_rfl) hx1 rfl rfl rfl rfl rfl (fun w' hw' => by first | refine k_str rfl (hSx.ext0 hw') (Ty.sle rfl) (Ty.knd rfl) (Ty.iss rfl) | refine k_str rfl (hSy.ext0 hw') (Ty.sle rfl) (Ty.knd rfl) (Ty.iss rfl) | refine k_convI rfl rfl rfl (by omega) | refine k_conv16 rfl rfl rfl (by omega) | refine k_conv64 rfl rfl rfl (by omega) | refine k_conv8 rfl rfl rfl (by omega) | refine k_convB rfl rfl rfl | refine k_convH rfl rfl rfl | refine k_convQ rfl rfl rfl) ?_ | refine WA_takey 16 rfl (by kernel_rfl) hx1 rfl rfl rfl (dF (by omega)) rfl (fun w' hw' => by first | refine k_str rfl (hSx.ext0 hw') (Ty.sle rfl) (Ty.knd rfl) (Ty.iss rfl) | refine k_str rfl (hSy.ext0 hw') (Ty.sle rfl) (Ty.knd rfl) (Ty.iss rfl) | refine k_convI rfl rfl rfl (by omega) | refine k_conv16 rfl rfl rfl (by omega) | refine k_conv64 rfl rfl rfl (by omega) | refine k_conv8 rfl rfl rfl (by omega) | refine k_convB rfl rfl rfl | refine k_convH rfl rfl rfl | refine k_convQ rfl rfl rfl) ?_ | refine WA_takey 16 rfl (by kernel_rfl) hx1 rfl rfl rfl (dT (by omega)) rfl (fun w' hw' => by first | refine k_str rfl (hSx.ext0 hw') (Ty.sle rfl) (Ty.knd rfl) (Ty.iss rfl) | refine k_str rfl (hSy.ext0 hw') (Ty.sle rfl) (Ty.knd rfl) (Ty.iss rfl) | refine k_convI rfl rfl rfl (by omega) | refine k_conv16 rfl rfl rfl (by omega) | refine k_conv64 rfl rfl rfl (by omega) | refine k_conv8 rfl rfl rfl (by omega) | refine k_convB rfl rfl rfl | refine k_convH rfl rfl rfl | refine k_convQ rfl rfl rfl) ?_ | refine WA_taken (b := false) 16 rfl (by kernel_rfl) hx1 rfl rfl rfl rfl rfl rfl ?_ | refine WA_taken (b := true) 16 rfl (by kernel_rfl) hx1 rfl rfl rfl rfl rfl rfl ?_ | refine WA_taken (b := false) 16 rfl (by kernel_rfl) hx1 rfl rfl rfl (dF (by omega)) rfl rfl ?_ | refine WA_taken (b := true) 16 rfl (by kernel_rfl) hx1 rfl rfl rfl (dT (by omega)) rfl rfl ?_ | refine WA_takeu 16 rfl (by kernel_rfl) hx1 rfl rfl rfl rfl ?_
    first | refine WA_takey 17 rfl (by kernel_rfl) hx1 rfl rfl rfl rfl rfl (fun w' hw' => by first | refine (k_eql rfl rfl).is (bT (by omega)) | refine k_eqls rfl rfl hxb hyb | refine k_eqlC rfl rfl (Ty.eqv SHK_eq) hfx hfy hall | refine k_eqlbT rfl rfl (by kernel_rfl) rfl | refine Run_pev rfl) ?_ | refine WA_takey 17 rfl (by kernel_rfl) hx1 rfl rfl rfl (dF (by omega)) rfl (fun w' hw' => by first | refine (k_eql rfl rfl).is (bT (by omega)) | refine k_eqls rfl rfl hxb hyb | refine k_eqlC rfl rfl (Ty.eqv SHK_eq) hfx hfy hall | refine k_eqlbT rfl rfl (by kernel_rfl) rfl | refine Run_pev rfl) ?_ | refine WA_takey 17 rfl (by kernel_rfl) hx1 rfl rfl rfl (dT (by omega)) rfl (fun w' hw' => by first | refine (k_eql rfl rfl).is (bT (by omega)) | refine k_eqls rfl rfl hxb hyb | refine k_eqlC rfl rfl (Ty.eqv SHK_eq) hfx hfy hall | refine k_eqlbT rfl rfl (by kernel_rfl) rfl | refine Run_pev rfl) ?_ | refine WA_taken (b := false) 17 rfl (by kernel_rfl) hx1 rfl rfl rfl rfl rfl rfl ?_ | refine WA_taken (b := true) 17 rfl (by kernel_rfl) hx1 rfl rfl rfl rfl rfl rfl ?_ | refine WA_taken (b := false) 17 rfl (by kernel_rfl) hx1 rfl rfl rfl (dF (by omega)) rfl rfl ?_ | refine WA_taken (b := true) 17 rfl (by kernel_rfl) hx1 rfl rfl rfl (dT (by omega)) rfl rfl ?_ | refine WA_takeu 17 rfl (by kernel_rfl) hx1 rfl rfl rfl rfl ?_
    first | refine WA_takey 18 rfl (by kernel_rfl) hx1 rfl rfl rfl rfl rfl (fun w' hw' => by first | refine k_loadA rfl (hB5.ext0 hw') hxc (Ty.shp rfl) | refine k_loadA rfl (hB6.ext0 hw') hyc (Ty.shp rfl)) ?_ | refine WA_takey 18 rfl (by kernel_rfl) hx1 rfl rfl rfl (dF (by omega)) rfl (fun w' hw' => by first | refine k_loadA rfl (hB5.ext0 hw') hxc (Ty.shp rfl) | refine k_loadA rfl (hB6.ext0 hw') hyc (Ty.shp rfl)) ?_ | refine WA_takey 18 rfl (by kernel_rfl) hx1 rfl rfl rfl (dT (by omega)) rfl (fun w' hw' => by first | refine k_loadA rfl (hB5.ext0 hw') hxc (Ty.shp rfl) | refine k_loadA rfl (hB6.ext0 hw') hyc (Ty.shp rfl)) ?_ | refine WA_taken (b := false) 18 rfl (by kernel_rfl) hx1 rfl rfl rfl rfl rfl rfl ?_ | refine WA_taken (b := true) 18 rfl (by kernel_rfl) hx1 rfl rfl rfl rfl rfl rfl ?_ | refine WA_taken (b := false) 18 rfl (by kernel_rfl) hx1 rfl rfl rfl (dF (by omega)) rfl rfl ?_ | refine WA_taken (b := true) 18 rfl (by kernel_rfl) hx1 rfl rfl rfl (dT (by omega)) rfl rfl ?_ | refine WA_takeu 18 rfl (by kernel_rfl) hx1 rfl rfl rfl rfl ?_
    first | refine WA_takey 19 rfl (by kernel_rfl) hx1 rfl rfl rfl rfl rfl (fun w' hw' => by first | refine k_loadA rfl (hB5.ext0 hw') hxc (Ty.shp rfl) | refine k_loadA rfl (hB6.ext0 hw') hyc (Ty.shp rfl)) ?_ | refine WA_takey 19 rfl (by kernel_rfl) hx1 rfl rfl rfl (dF (by omega)) rfl (fun w' hw' => by first | refine k_loadA rfl (hB5.ext0 hw') hxc (Ty.shp rfl) | refine k_loadA rfl (hB6.ext0 hw') hyc (Ty.shp rfl)) ?_ | refine WA_takey 19 rfl (by kernel_rfl) hx1 rfl rfl rfl (dT (by omega)) rfl (fun w' hw' => by first | refine k_loadA rfl (hB5.ext0 hw') hxc (Ty.shp rfl) | refine k_loadA rfl (hB6.ext0 hw') hyc (Ty.shp rfl)) ?_ | refine WA_taken (b := false) 19 rfl (by kernel_rfl) hx1 rfl rfl rfl rfl rfl rfl ?_ | refine WA_taken (b := true) 19 rfl (by kernel_rfl) hx1 rfl rfl rfl rfl rfl rfl ?_ | refine WA_taken (b := false) 19 rfl (by kernel_rfl) hx1 rfl rfl rfl (dF (by omega)) rfl rfl ?_ | refine WA_taken (b := true) 19 rfl (by kernel_rfl) hx1 rfl rfl rfl (dT (by omega)) rfl rfl ?_ | refine WA_takeu 19 rfl (by kernel_rfl) hx1 rfl rfl rfl rfl ?_
    first | refine WA_takey 20 rfl (by kernel_rfl) hx1 rfl rfl rfl rfl rfl (fun w' hw' => by first | refine (k_eql rfl rfl).is (bT (by omega)) | refine k_eqls rfl rfl hxb hyb | refine k_eqlC rfl rfl (Ty.eqv SHK_eq) hfx hfy hall | refine k_eqlbT rfl rfl (by kernel_rfl) rfl | refine Run_pev rfl) ?_ | refine WA_takey 20 rfl (by kernel_rfl) hx1 rfl rfl rfl (dF (by omega)) rfl (fun w' hw' => by first | refine (k_eql rfl rfl).is (bT (by omega)) | refine k_eqls rfl rfl hxb hyb | refine k_eqlC rfl rfl (Ty.eqv SHK_eq) hfx hfy hall | refine k_eqlbT rfl rfl (by kernel_rfl) rfl | refine Run_pev rfl) ?_ | refine WA_takey 20 rfl (by kernel_rfl) hx1 rfl rfl rfl (dT (by omega)) rfl (fun w' hw' => by first | refine (k_eql rfl rfl).is (bT (by omega)) | refine k_eqls rfl rfl hxb hyb | refine k_eqlC rfl rfl (Ty.eqv SHK_eq) hfx hfy hall | refine k_eqlbT rfl rfl (by kernel_rfl) rfl | refine Run_pev rfl) ?_ | refine WA_taken (b := false) 20 rfl (by kernel_rfl) hx1 rfl rfl rfl rfl rfl rfl ?_ | refine WA_taken (b := true) 20 rfl (by kernel_rfl) hx1 rfl rfl rfl rfl rfl rfl ?_ | refine WA_taken (b := false) 20 rfl (by kernel_rfl) hx1 rfl rfl rfl (dF (by omega)) rfl rfl ?_ | refine WA_taken (b := true) 20 rfl (by kernel_rfl) hx1 rfl rfl rfl (dT (by omega)) rfl rfl ?_ | refine WA_takeu 20 rfl (by kernel_rfl) hx1 rfl rfl rfl rfl ?_
    first | refine WA_takey 21 rfl (by kernel_rfl) hx1 rfl rfl rfl rfl rfl (fun w' hw' => by first | refine (k_eql rfl rfl).is (bT (by omega)) | refine k_eqls rfl rfl hxb hyb | refine k_eqlC rfl rfl (Ty.eqv SHK_eq) hfx hfy hall | refine k_eqlbT rfl rfl (by kernel_rfl) rfl | refine Run_pev rfl) ?_ | refine WA_takey 21 rfl (by kernel_rfl) hx1 rfl rfl rfl (dF (by omega)) rfl (fun w' hw' => by first | refine (k_eql rfl rfl).is (bT (by omega)) | refine k_eqls rfl rfl hxb hyb | refine k_eqlC rfl rfl (Ty.eqv SHK_eq) hfx hfy hall | refine k_eqlbT rfl rfl (by kernel_rfl) rfl | refine Run_pev rfl) ?_ | refine WA_takey 21 rfl (by kernel_rfl) hx1 rfl rfl rfl (dT (by omega)) rfl (fun w' hw' => by first | refine (k_eql rfl rfl).is (bT (by omega)) | refine k_eqls rfl rfl hxb hyb | refine k_eqlC rfl rfl (Ty.eqv SHK_eq) hfx hfy hall | refine k_eqlbT rfl rfl (by kernel_rfl) rfl | refine Run_pev rfl) ?_ | refine WA_taken (b := false) 21 rfl (by kernel_rfl) hx1 rfl rfl rfl rfl rfl rfl ?_ | refine WA_taken (b := true) 21 rfl (by kernel_rfl) hx1 rfl rfl rfl rfl rfl rfl ?_ | refine WA_taken (b := false) 21 rfl (by kernel_rfl) hx1 rfl rfl rfl (dF (by omega)) rfl rfl ?_ | refine WA_taken (b := true) 21 rfl (by kernel_rfl) hx1 rfl rfl rfl (dT (by omega)) rfl rfl ?_ | refine WA_takeu 21 rfl (by kernel_rfl) hx1 rfl rfl rfl rfl ?_
    refine WA_take 22 rfl (by kernel_rfl) hx1 rfl rfl (fun w' hw' => by first | refine Run_pev rfl | refine k_pick_f (dF (by omega)) rfl | refine k_pick_t (dT (by omega)) rfl) ?_
    refine WA_take 23 rfl (by kernel_rfl) hx1 rfl rfl (fun w' hw' => by first | refine Run_pev rfl) ?_
    refine WA_done (by kernel_rfl) ?_
    repeat (first | refine WS_seq ?_ | refine WS_region ?_ | refine WL_nil ?_ | refine WS_block ?_ | refine WS_inBlock ?_ | refine WS_skip ?_ | refine WS_label ?_ | refine WS_scope ?_ | refine WS_inScope ?_ | refine WS_exit rfl ?_ | refine WS_true rfl ?_ | refine WS_false rfl ?_ | refine WS_yes rfl (by omega) ?_ | refine WS_no rfl (by omega) ?_ | refine WL_gyes rfl rfl rfl ?_ | refine WL_gno rfl rfl rfl rfl rfl ?_ | refine WL_gund rfl rfl rfl ?_ | refine WL_gyes rfl rfl (dF (by omega)) ?_ | refine WL_gyes rfl rfl (dT (by omega)) ?_ | refine WL_gno (b := false) rfl rfl (dF (by omega)) rfl rfl ?_ | refine WL_gno (b := true) rfl rfl (dT (by omega)) rfl rfl ?_ | (refine WL_r (by first | refine Run_pev rfl | refine k_add64 rfl rfl (by omega) | refine k_sub64 rfl rfl (by omega) | refine k_len rfl (Ty.isl rfl) | refine k_lens rfl (Ty.iss rfl) | refine k_not rfl | refine k_notb rfl | refine k_min rfl rfl | refine k_max rfl rfl | refine k_min3 rfl rfl rfl | refine k_max3 rfl rfl rfl | refine k_mul64 rfl rfl (by omega) | refine k_quo64 rfl rfl (by omega) | refine k_rem rfl rfl (by omega) | refine k_extract rfl rfl | apply k_makeFunc | refine k_convI rfl rfl rfl (by omega) | refine k_conv16 rfl rfl rfl (by omega) | refine k_conv64 rfl rfl rfl (by omega) | refine k_conv8 rfl rfl rfl (by omega) | refine k_convB rfl rfl rfl | refine k_convH rfl rfl rfl | refine k_convQ rfl rfl rfl | refine k_pick_f (dF (by omega)) rfl | refine k_pick_t (dT (by omega)) rfl) rfl ?_))
    exact WS_ret1 Try.func3 rfl ⟨rfl, hE8.then0 hx1⟩
  | false =>
    rw [hw, if_neg (by decide)] at hlen
    repeat (first | refine WS_seq ?_ | refine WS_region ?_ | refine WL_nil ?_ | refine WS_block ?_ | refine WS_inBlock ?_ | refine WS_skip ?_ | refine WS_label ?_ | refine WS_scope ?_ | refine WS_inScope ?_ | refine WS_exit rfl ?_ | refine WS_true rfl ?_ | refine WS_false rfl ?_ | refine WS_yes rfl (by omega) ?_ | refine WS_no rfl (by omega) ?_ | refine WL_gyes rfl rfl rfl ?_ | refine WL_gno rfl rfl rfl rfl rfl ?_ | refine WL_gund rfl rfl rfl ?_ | refine WL_gyes rfl rfl (dF (by omega)) ?_ | refine WL_gyes rfl rfl (dT (by omega)) ?_ | refine WL_gno (b := false) rfl rfl (dF (by omega)) rfl rfl ?_ | refine WL_gno (b := true) rfl rfl (dT (by omega)) rfl rfl ?_ | (refine WL_r (by first | refine k_nilCheck rfl | refine k_fa rfl (Ty.fld rfl rfl) | refine (k_loadb rfl hB5 rfl (Ty.shp rfl)).is (congrArg Value.bool hw) | refine Run_pev rfl | refine k_add64 rfl rfl (by omega) | refine k_sub64 rfl rfl (by omega) | refine k_len rfl (Ty.isl rfl) | refine k_lens rfl (Ty.iss rfl) | refine k_not rfl | refine k_notb rfl | refine k_min rfl rfl | refine k_max rfl rfl | refine k_min3 rfl rfl rfl | refine k_max3 rfl rfl rfl | refine k_mul64 rfl rfl (by omega) | refine k_quo64 rfl rfl (by omega) | refine k_rem rfl rfl (by omega) | refine k_extract rfl rfl | apply k_makeFunc | refine k_convI rfl rfl rfl (by omega) | refine k_conv16 rfl rfl rfl (by omega) | refine k_conv64 rfl rfl rfl (by omega) | refine k_conv8 rfl rfl rfl (by omega) | refine k_convB rfl rfl rfl | refine k_convH rfl rfl rfl | refine k_convQ rfl rfl rfl | refine k_pick_f (dF (by omega)) rfl | refine k_pick_t (dT (by omega)) rfl) rfl ?_))
    refine WS_drawE Ty.mixed 24 rfl (fun w1 hx1 => ?_)
    refine WA_take 0 rfl (by kernel_rfl) hx1 rfl rfl (fun w' hw' => by first | refine Run_pev rfl) ?_
    refine WA_take 1 rfl (by kernel_rfl) hx1 rfl rfl (fun w' hw' => by first | refine (k_eql rfl rfl).is (bT (by omega)) | refine k_eqls rfl rfl hxb hyb | refine k_eqlC rfl rfl (Ty.eqv SHK_eq) hfx hfy hall | refine k_eqlbT rfl rfl (by kernel_rfl) rfl | refine Run_pev rfl) ?_
    refine WA_take 2 rfl (by kernel_rfl) hx1 rfl rfl (fun w' hw' => by first | refine Run_pev rfl) ?_
    first | refine WA_takey 3 rfl (by kernel_rfl) hx1 rfl rfl rfl rfl rfl (fun w' hw' => by first | refine Run_pev rfl) ?_ | refine WA_takey 3 rfl (by kernel_rfl) hx1 rfl rfl rfl (dF (by omega)) rfl (fun w' hw' => by first | refine Run_pev rfl) ?_ | refine WA_takey 3 rfl (by kernel_rfl) hx1 rfl rfl rfl (dT (by omega)) rfl (fun w' hw' => by first | refine Run_pev rfl) ?_ | refine WA_taken (b := false) 3 rfl (by kernel_rfl) hx1 rfl rfl rfl rfl rfl rfl ?_ | refine WA_taken (b := true) 3 rfl (by kernel_rfl) hx1 rfl rfl rfl rfl rfl rfl ?_ | refine WA_taken (b := false) 3 rfl (by kernel_rfl) hx1 rfl rfl rfl (dF (by omega)) rfl rfl ?_ | refine WA_taken (b := true) 3 rfl (by kernel_rfl) hx1 rfl rfl rfl (dT (by omega)) rfl rfl ?_ | refine WA_takeu 3 rfl (by kernel_rfl) hx1 rfl rfl rfl rfl ?_
    first | refine WA_takey 4 rfl (by kernel_rfl) hx1 rfl rfl rfl rfl rfl (fun w' hw' => by first | refine (k_eql rfl rfl).is (bT (by omega)) | refine k_eqls rfl rfl hxb hyb | refine k_eqlC rfl rfl (Ty.eqv SHK_eq) hfx hfy hall | refine k_eqlbT rfl rfl (by kernel_rfl) rfl | refine Run_pev rfl) ?_ | refine WA_takey 4 rfl (by kernel_rfl) hx1 rfl rfl rfl (dF (by omega)) rfl (fun w' hw' => by first | refine (k_eql rfl rfl).is (bT (by omega)) | refine k_eqls rfl rfl hxb hyb | refine k_eqlC rfl rfl (Ty.eqv SHK_eq) hfx hfy hall | refine k_eqlbT rfl rfl (by kernel_rfl) rfl | refine Run_pev rfl) ?_ | refine WA_takey 4 rfl (by kernel_rfl) hx1 rfl rfl rfl (dT (by omega)) rfl (fun w' hw' => by first | refine (k_eql rfl rfl).is (bT (by omega)) | refine k_eqls rfl rfl hxb hyb | refine k_eqlC rfl rfl (Ty.eqv SHK_eq) hfx hfy hall | refine k_eqlbT rfl rfl (by kernel_rfl) rfl | refine Run_pev rfl) ?_ | refine WA_taken (b := false) 4 rfl (by kernel_rfl) hx1 rfl rfl rfl rfl rfl rfl ?_ | refine WA_taken (b := true) 4 rfl (by kernel_rfl) hx1 rfl rfl rfl rfl rfl rfl ?_ | refine WA_taken (b := false) 4 rfl (by kernel_rfl) hx1 rfl rfl rfl (dF (by omega)) rfl rfl ?_ | refine WA_taken (b := true) 4 rfl (by kernel_rfl) hx1 rfl rfl rfl (dT (by omega)) rfl rfl ?_ | refine WA_takeu 4 rfl (by kernel_rfl) hx1 rfl rfl rfl rfl ?_
    refine WA_take 5 rfl (by kernel_rfl) hx1 rfl rfl (fun w' hw' => by first | refine Run_pev rfl | refine k_pick_f (dF (by omega)) rfl | refine k_pick_t (dT (by omega)) rfl) ?_
    refine WA_take 6 rfl (by kernel_rfl) hx1 rfl rfl (fun w' hw' => by first | refine Run_pev rfl) ?_
    first | refine WA_takey 7 rfl (by kernel_rfl) hx1 rfl rfl rfl rfl rfl (fun w' hw' => by first | refine Run_pev rfl) ?_ | refine WA_takey 7 rfl (by kernel_rfl) hx1 rfl rfl rfl (dF (by omega)) rfl (fun w' hw' => by first | refine Run_pev rfl) ?_ | refine WA_takey 7 rfl (by kernel_rfl) hx1 rfl rfl rfl (dT (by omega)) rfl (fun w' hw' => by first | refine Run_pev rfl) ?_ | refine WA_taken (b := false) 7 rfl (by kernel_rfl) hx1 rfl rfl rfl rfl rfl rfl ?_ | refine WA_taken (b := true) 7 rfl (by kernel_rfl) hx1 rfl rfl rfl rfl rfl rfl ?_ | refine WA_taken (b := false) 7 rfl (by kernel_rfl) hx1 rfl rfl rfl (dF (by omega)) rfl rfl ?_ | refine WA_taken (b := true) 7 rfl (by kernel_rfl) hx1 rfl rfl rfl (dT (by omega)) rfl rfl ?_ | refine WA_takeu 7 rfl (by kernel_rfl) hx1 rfl rfl rfl rfl ?_
    first | refine WA_takey 8 rfl (by kernel_rfl) hx1 rfl rfl rfl rfl rfl (fun w' hw' => by first | refine k_len rfl (Ty.isl rfl) | refine k_lens rfl (Ty.iss rfl)) ?_ | refine WA_takey 8 rfl (by kernel_rfl) hx1 rfl rfl rfl (dF (by omega)) rfl (fun w' hw' => by first | refine k_len rfl (Ty.isl rfl) | refine k_lens rfl (Ty.iss rfl)) ?_ | refine WA_takey 8 rfl (by kernel_rfl) hx1 rfl rfl rfl (dT (by omega)) rfl (fun w' hw' => by first | refine k_len rfl (Ty.isl rfl) | refine k_lens rfl (Ty.iss rfl)) ?_ | refine WA_taken (b := false) 8 rfl (by kernel_rfl) hx1 rfl rfl rfl rfl rfl rfl ?_ | refine WA_taken (b := true) 8 rfl (by kernel_rfl) hx1 rfl rfl rfl rfl rfl rfl ?_ | refine WA_taken (b := false) 8 rfl (by kernel_rfl) hx1 rfl rfl rfl (dF (by omega)) rfl rfl ?_ | refine WA_taken (b := true) 8 rfl (by kernel_rfl) hx1 rfl rfl rfl (dT (by omega)) rfl rfl ?_ | refine WA_takeu 8 rfl (by kernel_rfl) hx1 rfl rfl rfl rfl ?_
    first | refine WA_takey 9 rfl (by kernel_rfl) hx1 rfl rfl rfl rfl rfl (fun w' hw' => by first | refine Run_pev rfl) ?_ | refine WA_takey 9 rfl (by kernel_rfl) hx1 rfl rfl rfl (dF (by omega)) rfl (fun w' hw' => by first | refine Run_pev rfl) ?_ | refine WA_takey 9 rfl (by kernel_rfl) hx1 rfl rfl rfl (dT (by omega)) rfl (fun w' hw' => by first | refine Run_pev rfl) ?_ | refine WA_taken (b := false) 9 rfl (by kernel_rfl) hx1 rfl rfl rfl rfl rfl rfl ?_ | refine WA_taken (b := true) 9 rfl (by kernel_rfl) hx1 rfl rfl rfl rfl rfl rfl ?_ | refine WA_taken (b := false) 9 rfl (by kernel_rfl) hx1 rfl rfl rfl (dF (by omega)) rfl rfl ?_ | refine WA_taken (b := true) 9 rfl (by kernel_rfl) hx1 rfl rfl rfl (dT (by omega)) rfl rfl ?_ | refine WA_takeu 9 rfl (by kernel_rfl) hx1 rfl rfl rfl rfl ?_
    first | refine WA_takey 10 rfl (by kernel_rfl) hx1 rfl rfl rfl rfl rfl (fun w' hw' => by first | refine (k_eql rfl rfl).is (bT (by omega)) | refine k_eqls rfl rfl hxb hyb | refine k_eqlC rfl rfl (Ty.eqv SHK_eq) hfx hfy hall | refine k_eqlbT rfl rfl (by kernel_rfl) rfl | refine Run_pev rfl) ?_ | refine WA_takey 10 rfl (by kernel_rfl) hx1 rfl rfl rfl (dF (by omega)) rfl (fun w' hw' => by first | refine (k_eql rfl rfl).is (bT (by omega)) | refine k_eqls rfl rfl hxb hyb | refine k_eqlC rfl rfl (Ty.eqv SHK_eq) hfx hfy hall | refine k_eqlbT rfl rfl (by kernel_rfl) rfl | refine Run_pev rfl) ?_ | refine WA_takey 10 rfl (by kernel_rfl) hx1 rfl rfl rfl (dT (by omega)) rfl (fun w' hw' => by first | refine (k_eql rfl rfl).is (bT (by omega)) | refine k_eqls rfl rfl hxb hyb | refine k_eqlC rfl rfl (Ty.eqv SHK_eq) hfx hfy hall | refine k_eqlbT rfl rfl (by kernel_rfl) rfl | refine Run_pev rfl) ?_ | refine WA_taken (b := false) 10 rfl (by kernel_rfl) hx1 rfl rfl rfl rfl rfl rfl ?_ | refine WA_taken (b := true) 10 rfl (by kernel_rfl) hx1 rfl rfl rfl rfl rfl rfl ?_ | refine WA_taken (b := false) 10 rfl (by kernel_rfl) hx1 rfl rfl rfl (dF (by omega)) rfl rfl ?_ | refine WA_taken (b := true) 10 rfl (by kernel_rfl) hx1 rfl rfl rfl (dT (by omega)) rfl rfl ?_ | refine WA_takeu 10 rfl (by kernel_rfl) hx1 rfl rfl rfl rfl ?_
    refine WA_take 11 rfl (by kernel_rfl) hx1 rfl rfl (fun w' hw' => by first | refine Run_pev rfl | refine k_pick_f (dF (by omega)) rfl | refine k_pick_t (dT (by omega)) rfl) ?_
    refine WA_take 12 rfl (by kernel_rfl) hx1 rfl rfl (fun w' hw' => by first | refine Run_pev rfl) ?_
    first | refine WA_takey 13 rfl (by kernel_rfl) hx1 rfl rfl rfl rfl rfl (fun w' hw' => by first | refine Run_pev rfl) ?_ | refine WA_takey 13 rfl (by kernel_rfl) hx1 rfl rfl rfl (dF (by omega)) rfl (fun w' hw' => by first | refine Run_pev rfl) ?_ | refine WA_takey 13 rfl (by kernel_rfl) hx1 rfl rfl rfl (dT (by omega)) rfl (fun w' hw' => by first | refine Run_pev rfl) ?_ | refine WA_taken (b := false) 13 rfl (by kernel_rfl) hx1 rfl rfl rfl rfl rfl rfl ?_ | refine WA_taken (b := true) 13 rfl (by kernel_rfl) hx1 rfl rfl rfl rfl rfl rfl ?_ | refine WA_taken (b := false) 13 rfl (by kernel_rfl) hx1 rfl rfl rfl (dF (by omega)) rfl rfl ?_ | refine WA_taken (b := true) 13 rfl (by kernel_rfl) hx1 rfl rfl rfl (dT (by omega)) rfl rfl ?_ | refine WA_takeu 13 rfl (by kernel_rfl) hx1 rfl rfl rfl rfl ?_
    first | refine WA_takey 14 rfl (by kernel_rfl) hx1 rfl rfl rfl rfl rfl (fun w' hw' => by first | refine k_str rfl (hSx.ext0 hw') (Ty.sle rfl) (Ty.knd rfl) (Ty.iss rfl) | refine k_str rfl (hSy.ext0 hw') (Ty.sle rfl) (Ty.knd rfl) (Ty.iss rfl) | refine k_convI rfl rfl rfl (by omega) | refine k_conv16 rfl rfl rfl (by omega) | refine k_conv64 rfl rfl rfl (by omega) | refine k_conv8 rfl rfl rfl (by omega) | refine k_convB rfl rfl rfl | refine k_convH rfl rfl rfl | refine k_convQ rfl rfl rfl) ?_ | refine WA_takey 14 rfl (by kernel_rfl) hx1 rfl rfl rfl (dF (by omega)) rfl (fun w' hw' => by first | refine k_str rfl (hSx.ext0 hw') (Ty.sle rfl) (Ty.knd rfl) (Ty.iss rfl) | refine k_str rfl (hSy.ext0 hw') (Ty.sle rfl) (Ty.knd rfl) (Ty.iss rfl) | refine k_convI rfl rfl rfl (by omega) | refine k_conv16 rfl rfl rfl (by omega) | refine k_conv64 rfl rfl rfl (by omega) | refine k_conv8 rfl rfl rfl (by omega) | refine k_convB rfl rfl rfl | refine k_convH rfl rfl rfl | refine k_convQ rfl rfl rfl) ?_ | refine WA_takey 14 rfl (by kernel_rfl) hx1 rfl rfl rfl (dT (by omega)) rfl (fun w' hw' => by first | refine k_str rfl (hSx.ext0 hw') (Ty.sle rfl) (Ty.knd rfl) (Ty.iss rfl) | refine k_str rfl (hSy.ext0 hw') (Ty.sle rfl) (Ty.knd rfl) (Ty.iss rfl) | refine k_convI rfl rfl rfl (by omega) | refine k_conv16 rfl rfl rfl (by omega) | refine k_conv64 rfl rfl rfl (by omega) | refine k_conv8 rfl rfl rfl (by omega) | refine k_convB rfl rfl rfl | refine k_convH rfl rfl rfl | refine k_convQ rfl rfl rfl) ?_ | refine WA_taken (b := false) 14 rfl (by kernel_rfl) hx1 rfl rfl rfl rfl rfl rfl ?_ | refine WA_taken (b := true) 14 rfl (by kernel_rfl) hx1 rfl rfl rfl rfl rfl rfl ?_ | refine WA_taken (b := false) 14 rfl (by kernel_rfl) hx1 rfl rfl rfl (dF (by omega)) rfl rfl ?_ | refine WA_taken (b := true) 14 rfl (by kernel_rfl) hx1 rfl rfl rfl (dT (by omega)) rfl rfl ?_ | refine WA_takeu 14 rfl (by kernel_rfl) hx1 rfl rfl rfl rfl ?_
    first | refine WA_takey 15 rfl (by kernel_rfl) hx1 rfl rfl rfl rfl rfl (fun w' hw' => by first | refine Run_pev rfl) ?_ | refine WA_takey 15 rfl (by kernel_rfl) hx1 rfl rfl rfl (dF (by omega)) rfl (fun w' hw' => by first | refine Run_pev rfl) ?_ | refine WA_takey 15 rfl (by kernel_rfl) hx1 rfl rfl rfl (dT (by omega)) rfl (fun w' hw' => by first | refine Run_pev rfl) ?_ | refine WA_taken (b := false) 15 rfl (by kernel_rfl) hx1 rfl rfl rfl rfl rfl rfl ?_ | refine WA_taken (b := true) 15 rfl (by kernel_rfl) hx1 rfl rfl rfl rfl rfl rfl ?_ | refine WA_taken (b := false) 15 rfl (by kernel_rfl) hx1 rfl rfl rfl (dF (by omega)) rfl rfl ?_ | refine WA_taken (b := true) 15 rfl (by kernel_rfl) hx1 rfl rfl rfl (dT (by omega)) rfl rfl ?_ | refine WA_takeu 15 rfl (by kernel_rfl) hx1 rfl rfl rfl rfl ?_
    first | refine WA_takey 16 rfl (by kernel_rfl) hx1 rfl rfl rfl rfl rfl (fun w' hw' => by first | refine k_str rfl (hSx.ext0 hw') (Ty.sle rfl) (Ty.knd rfl) (Ty.iss rfl) | refine k_str rfl (hSy.ext0 hw') (Ty.sle rfl) (Ty.knd rfl) (Ty.iss rfl) | refine k_convI rfl rfl rfl (by omega) | refine k_conv16 rfl rfl rfl (by omega) | refine k_conv64 rfl rfl rfl (by omega) | refine k_conv8 rfl rfl rfl (by omega) | refine k_convB rfl rfl rfl | refine k_convH rfl rfl rfl | refine k_convQ rfl rfl rfl) ?_ | refine WA_takey 16 rfl (by kernel_rfl) hx1 rfl rfl rfl (dF (by omega)) rfl (fun w' hw' => by first | refine k_str rfl (hSx.ext0 hw') (Ty.sle rfl) (Ty.knd rfl) (Ty.iss rfl) | refine k_str rfl (hSy.ext0 hw') (Ty.sle rfl) (Ty.knd rfl) (Ty.iss rfl) | refine k_convI rfl rfl rfl (by omega) | refine k_conv16 rfl rfl rfl (by omega) | refine k_conv64 rfl rfl rfl (by omega) | refine k_conv8 rfl rfl rfl (by omega) | refine k_convB rfl rfl rfl | refine k_convH rfl rfl rfl | refine k_convQ rfl rfl rfl) ?_ | refine WA_takey 16 rfl (by kernel_rfl) hx1 rfl rfl rfl (dT (by omega)) rfl (fun w' hw' => by first | refine k_str rfl (hSx.ext0 hw') (Ty.sle rfl) (Ty.knd rfl) (Ty.iss rfl) | refine k_str rfl (hSy.ext0 hw') (Ty.sle rfl) (Ty.knd rfl) (Ty.iss rfl) | refine k_convI rfl rfl rfl (by omega) | refine k_conv16 rfl rfl rfl (by omega) | refine k_conv64 rfl rfl rfl (by omega) | refine k_conv8 rfl rfl rfl (by omega) | refine k_convB rfl rfl rfl | refine k_convH rfl rfl rfl | refine k_convQ rfl rfl rfl) ?_ | refine WA_taken (b := false) 16 rfl (by kernel_rfl) hx1 rfl rfl rfl rfl rfl rfl ?_ | refine WA_taken (b := true) 16 rfl (by kernel_rfl) hx1 rfl rfl rfl rfl rfl rfl ?_ | refine WA_taken (b := false) 16 rfl (by kernel_rfl) hx1 rfl rfl rfl (dF (by omega)) rfl rfl ?_ | refine WA_taken (b := true) 16 rfl (by kernel_rfl) hx1 rfl rfl rfl (dT (by omega)) rfl rfl ?_ | refine WA_takeu 16 rfl (by kernel_rfl) hx1 rfl rfl rfl rfl ?_
    first | refine WA_takey 17 rfl (by kernel_rfl) hx1 rfl rfl rfl rfl rfl (fun w' hw' => by first | refine (k_eql rfl rfl).is (bT (by omega)) | refine k_eqls rfl rfl hxb hyb | refine k_eqlC rfl rfl (Ty.eqv SHK_eq) hfx hfy hall | refine k_eqlbT rfl rfl (by kernel_rfl) rfl | refine Run_pev rfl) ?_ | refine WA_takey 17 rfl (by kernel_rfl) hx1 rfl rfl rfl (dF (by omega)) rfl (fun w' hw' => by first | refine (k_eql rfl rfl).is (bT (by omega)) | refine k_eqls rfl rfl hxb hyb | refine k_eqlC rfl rfl (Ty.eqv SHK_eq) hfx hfy hall | refine k_eqlbT rfl rfl (by kernel_rfl) rfl | refine Run_pev rfl) ?_ | refine WA_takey 17 rfl (by kernel_rfl) hx1 rfl rfl rfl (dT (by omega)) rfl (fun w' hw' => by first | refine (k_eql rfl rfl).is (bT (by omega)) | refine k_eqls rfl rfl hxb hyb | refine k_eqlC rfl rfl (Ty.eqv SHK_eq) hfx hfy hall | refine k_eqlbT rfl rfl (by kernel_rfl) rfl | refine Run_pev rfl) ?_ | refine WA_taken (b := false) 17 rfl (by kernel_rfl) hx1 rfl rfl rfl rfl rfl rfl ?_ | refine WA_taken (b := true) 17 rfl (by kernel_rfl) hx1 rfl rfl rfl rfl rfl rfl ?_ | refine WA_taken (b := false) 17 rfl (by kernel_rfl) hx1 rfl rfl rfl (dF (by omega)) rfl rfl ?_ | refine WA_taken (b := true) 17 rfl (by kernel_rfl) hx1 rfl rfl rfl (dT (by omega)) rfl rfl ?_ | refine WA_takeu 17 rfl (by kernel_rfl) hx1 rfl rfl rfl rfl ?_
    first | refine WA_takey 18 rfl (by kernel_rfl) hx1 rfl rfl rfl rfl rfl (fun w' hw' => by first | refine k_loadA rfl (hB5.ext0 hw') hxc (Ty.shp rfl) | refine k_loadA rfl (hB6.ext0 hw') hyc (Ty.shp rfl)) ?_ | refine WA_takey 18 rfl (by kernel_rfl) hx1 rfl rfl rfl (dF (by omega)) rfl (fun w' hw' => by first | refine k_loadA rfl (hB5.ext0 hw') hxc (Ty.shp rfl) | refine k_loadA rfl (hB6.ext0 hw') hyc (Ty.shp rfl)) ?_ | refine WA_takey 18 rfl (by kernel_rfl) hx1 rfl rfl rfl (dT (by omega)) rfl (fun w' hw' => by first | refine k_loadA rfl (hB5.ext0 hw') hxc (Ty.shp rfl) | refine k_loadA rfl (hB6.ext0 hw') hyc (Ty.shp rfl)) ?_ | refine WA_taken (b := false) 18 rfl (by kernel_rfl) hx1 rfl rfl rfl rfl rfl rfl ?_ | refine WA_taken (b := true) 18 rfl (by kernel_rfl) hx1 rfl rfl rfl rfl rfl rfl ?_ | refine WA_taken (b := false) 18 rfl (by kernel_rfl) hx1 rfl rfl rfl (dF (by omega)) rfl rfl ?_ | refine WA_taken (b := true) 18 rfl (by kernel_rfl) hx1 rfl rfl rfl (dT (by omega)) rfl rfl ?_ | refine WA_takeu 18 rfl (by kernel_rfl) hx1 rfl rfl rfl rfl ?_
    first | refine WA_takey 19 rfl (by kernel_rfl) hx1 rfl rfl rfl rfl rfl (fun w' hw' => by first | refine k_loadA rfl (hB5.ext0 hw') hxc (Ty.shp rfl) | refine k_loadA rfl (hB6.ext0 hw') hyc (Ty.shp rfl)) ?_ | refine WA_takey 19 rfl (by kernel_rfl) hx1 rfl rfl rfl (dF (by omega)) rfl (fun w' hw' => by first | refine k_loadA rfl (hB5.ext0 hw') hxc (Ty.shp rfl) | refine k_loadA rfl (hB6.ext0 hw') hyc (Ty.shp rfl)) ?_ | refine WA_takey 19 rfl (by kernel_rfl) hx1 rfl rfl rfl (dT (by omega)) rfl (fun w' hw' => by first | refine k_loadA rfl (hB5.ext0 hw') hxc (Ty.shp rfl) | refine k_loadA rfl (hB6.ext0 hw') hyc (Ty.shp rfl)) ?_ | refine WA_taken (b := false) 19 rfl (by kernel_rfl) hx1 rfl rfl rfl rfl rfl rfl ?_ | refine WA_taken (b := true) 19 rfl (by kernel_rfl) hx1 rfl rfl rfl rfl rfl rfl ?_ | refine WA_taken (b := false) 19 rfl (by kernel_rfl) hx1 rfl rfl rfl (dF (by omega)) rfl rfl ?_ | refine WA_taken (b := true) 19 rfl (by kernel_rfl) hx1 rfl rfl rfl (dT (by omega)) rfl rfl ?_ | refine WA_takeu 19 rfl (by kernel_rfl) hx1 rfl rfl rfl rfl ?_
    first | refine WA_takey 20 rfl (by kernel_rfl) hx1 rfl rfl rfl rfl rfl (fun w' hw' => by first | refine (k_eql rfl rfl).is (bT (by omega)) | refine k_eqls rfl rfl hxb hyb | refine k_eqlC rfl rfl (Ty.eqv SHK_eq) hfx hfy hall | refine k_eqlbT rfl rfl (by kernel_rfl) rfl | refine Run_pev rfl) ?_ | refine WA_takey 20 rfl (by kernel_rfl) hx1 rfl rfl rfl (dF (by omega)) rfl (fun w' hw' => by first | refine (k_eql rfl rfl).is (bT (by omega)) | refine k_eqls rfl rfl hxb hyb | refine k_eqlC rfl rfl (Ty.eqv SHK_eq) hfx hfy hall | refine k_eqlbT rfl rfl (by kernel_rfl) rfl | refine Run_pev rfl) ?_ | refine WA_takey 20 rfl (by kernel_rfl) hx1 rfl rfl rfl (dT (by omega)) rfl (fun w' hw' => by first | refine (k_eql rfl rfl).is (bT (by omega)) | refine k_eqls rfl rfl hxb hyb | refine k_eqlC rfl rfl (Ty.eqv SHK_eq) hfx hfy hall | refine k_eqlbT rfl rfl (by kernel_rfl) rfl | refine Run_pev rfl) ?_ | refine WA_taken (b := false) 20 rfl (by kernel_rfl) hx1 rfl rfl rfl rfl rfl rfl ?_ | refine WA_taken (b := true) 20 rfl (by kernel_rfl) hx1 rfl rfl rfl rfl rfl rfl ?_ | refine WA_taken (b := false) 20 rfl (by kernel_rfl) hx1 rfl rfl rfl (dF (by omega)) rfl rfl ?_ | refine WA_taken (b := true) 20 rfl (by kernel_rfl) hx1 rfl rfl rfl (dT (by omega)) rfl rfl ?_ | refine WA_takeu 20 rfl (by kernel_rfl) hx1 rfl rfl rfl rfl ?_
    first | refine WA_takey 21 rfl (by kernel_rfl) hx1 rfl rfl rfl rfl rfl (fun w' hw' => by first | refine (k_eql rfl rfl).is (bT (by omega)) | refine k_eqls rfl rfl hxb hyb | refine k_eqlC rfl rfl (Ty.eqv SHK_eq) hfx hfy hall | refine k_eqlbT rfl rfl (by kernel_rfl) rfl | refine Run_pev rfl) ?_ | refine WA_takey 21 rfl (by kernel_rfl) hx1 rfl rfl rfl (dF (by omega)) rfl (fun w' hw' => by first | refine (k_eql rfl rfl).is (bT (by omega)) | refine k_eqls rfl rfl hxb hyb | refine k_eqlC rfl rfl (Ty.eqv SHK_eq) hfx hfy hall | refine k_eqlbT rfl rfl (by kernel_rfl) rfl | refine Run_pev rfl) ?_ | refine WA_takey 21 rfl (by kernel_rfl) hx1 rfl rfl rfl (dT (by omega)) rfl (fun w' hw' => by first | refine (k_eql rfl rfl).is (bT (by omega)) | refine k_eqls rfl rfl hxb hyb | refine k_eqlC rfl rfl (Ty.eqv SHK_eq) hfx hfy hall | refine k_eqlbT rfl rfl (by kernel_rfl) rfl | refine Run_pev rfl) ?_ | refine WA_taken (b := false) 21 rfl (by kernel_rfl) hx1 rfl rfl rfl rfl rfl rfl ?_ | refine WA_taken (b := true) 21 rfl (by kernel_rfl) hx1 rfl rfl rfl rfl rfl rfl ?_ | refine WA_taken (b := false) 21 rfl (by kernel_rfl) hx1 rfl rfl rfl (dF (by omega)) rfl rfl ?_ | refine WA_taken (b := true) 21 rfl (by kernel_rfl) hx1 rfl rfl rfl (dT (by omega)) rfl rfl ?_ | refine WA_takeu 21 rfl (by kernel_rfl) hx1 rfl rfl rfl rfl ?_
    refine WA_take 22 rfl (by kernel_rfl) hx1 rfl rfl (fun w' hw' => by first | refine Run_pev rfl | refine k_pick_f (dF (by omega)) rfl | refine k_pick_t (dT (by omega)) rfl) ?_
    refine WA_take 23 rfl (by kernel_rfl) hx1 rfl rfl (fun w' hw' => by first | refine Run_pev rfl) ?_
    refine WA_done (by kernel_rfl) ?_
    repeat (first | refine WS_seq ?_ | refine WS_region ?_ | refine WL_nil ?_ | refine WS_block ?_ | refine WS_inBlock ?_ | refine WS_skip ?_ | refine WS_label ?_ | refine WS_scope ?_ | refine WS_inScope ?_ | refine WS_exit rfl ?_ | refine WS_true rfl ?_ | refine WS_false rfl ?_ | refine WS_yes rfl (by omega) ?_ | refine WS_no rfl (by omega) ?_ | refine WL_gyes rfl rfl rfl ?_ | refine WL_gno rfl rfl rfl rfl rfl ?_ | refine WL_gund rfl rfl rfl ?_ | refine WL_gyes rfl rfl (dF (by omega)) ?_ | refine WL_gyes rfl rfl (dT (by omega)) ?_ | refine WL_gno (b := false) rfl rfl (dF (by omega)) rfl rfl ?_ | refine WL_gno (b := true) rfl rfl (dT (by omega)) rfl rfl ?_ | (refine WL_r (by first | refine Run_pev rfl | refine k_add64 rfl rfl (by omega) | refine k_sub64 rfl rfl (by omega) | refine k_len rfl (Ty.isl rfl) | refine k_lens rfl (Ty.iss rfl) | refine k_not rfl | refine k_notb rfl | refine k_min rfl rfl | refine k_max rfl rfl | refine k_min3 rfl rfl rfl | refine k_max3 rfl rfl rfl | refine k_mul64 rfl rfl (by omega) | refine k_quo64 rfl rfl (by omega) | refine k_rem rfl rfl (by omega) | refine k_extract rfl rfl | apply k_makeFunc | refine k_convI rfl rfl rfl (by omega) | refine k_conv16 rfl rfl rfl (by omega) | refine k_conv64 rfl rfl rfl (by omega) | refine k_conv8 rfl rfl rfl (by omega) | refine k_convB rfl rfl rfl | refine k_convH rfl rfl rfl | refine k_convQ rfl rfl rfl | refine k_pick_f (dF (by omega)) rfl | refine k_pick_t (dT (by omega)) rfl) rfl ?_))
    exact WS_ret1 Try.func3 rfl ⟨rfl, hE8.then0 hx1⟩
theorem own_seqhSizes : ownKnob Try.prog.godebug = none := by kernel_rfl
theorem laid_seqhSizes : laidOutB Try.prog = true := by kernel_rfl
set_option maxRecDepth 100000 in
theorem seqhSizes_lifted (os : Os) (started : os.Started) (H : Type) (enc : TypeId × Value → H) :
    ReturnsInHanded {} Try.checked os 3 .any (Rows.seqhSizesSpec.pre6 enc Try.prog Try.f3 Rows.seqhSizesRow.domain false) (Rows.seqhSizesSpec.post enc Try.prog Try.f3 false true false false) := by
  refine returnsInHanded_of_change (C := Try.checked) own_seqhSizes started (by kernel_rfl) Try.func3
    (ChangeSpec.witness6 (enc := enc) (C := Try.checked) false ⟨#[], #[.agg SH.zero.cells.toArray, .agg SH.zero.cells.toArray], []⟩ 8 (by kernel_rfl) (by kernel_rfl) (by kernel_rfl) (by kernel_rfl)) ?_
  intro W base args ds gs before hval0 hW _ _
  have hval : ∀ (j : Nat) t v, Try.f3.params[j]? = some t → args[j]? = some v → Value.okWide Try.prog W .any base t v := hval0
  have hW' := hW
  obtain ⟨p, q, hA0, hV, rfl, hfz, hnd⟩ := hW
  have hA : DataW.TrodAll enc Try.prog W 0 (fun _ => true) true Try.f3.params.toList args.toList ds p := hA0
  rw [Try.params3] at hA hval
  obtain ⟨v0, r0, d0, e0, p0, q0, ha0, rfl, rfl, h0, hA⟩ := trodAll_cons hA
  obtain ⟨v1, r1, d1, e1, p1, q1, ha1, rfl, rfl, h1, hA⟩ := trodAll_cons hA
  obtain ⟨hnil, rfl, rfl⟩ := trodAll_nil hA
  obtain rfl : args = #[v0, v1] := by cases args; simp_all
  have hv0 := hval 0 _ v0 rfl rfl
  have hv1 := hval 1 _ v1 rfl rfl
  clear hA0 hval0 ha0 ha1 hnil
  obtain ⟨cs0, rfl⟩ := rd_agg (Ty.shp rfl) hv0
  obtain ⟨x, rfl, hxo, _⟩ := rd_seqh (rd_arg SHD (by kernel_rfl) h0)
  obtain ⟨cs1, rfl⟩ := rd_agg (Ty.shp rfl) hv1
  obtain ⟨y, rfl, hyo, _⟩ := rd_seqh (rd_arg SHD (by kernel_rfl) h1)
  refine ((sizes_spec hxo hyo).enter Try.func3 rfl rfl).mono ?_
  rintro e W' ⟨v, rfl, rfl, hE⟩
  exact ⟨_, rfl, law_post laid_seqhSizes (by kernel_rfl) hW' rfl rfl (by kernel_rfl) ⟨rfl, rfl, rfl⟩ hE⟩
theorem seqhSizes_holds : Rows.SeqhSizesSaid :=
  OpenClaim.holds_of_wide 3 Try.f3 rfl rfl rfl rfl rfl rfl rfl ⟨rfl, rfl, rfl, rfl, rfl⟩ rfl rfl rfl rfl rfl (by kernel_rfl) Try.func3 (by kernel_rfl)
    (of_decide_eq_true (by kernel_rfl)) (by unfold Func.isWrapper; first | (rw [if_pos (by decide +kernel)]; kernel_rfl) | (rw [if_neg (by decide +kernel)]; exact ⟨rfl, rfl⟩))
    (fun os started H enc _ => seqhSizes_lifted os started H enc)
#print axioms seqhSizes_holds
end Go.Proofs.Ytnamafelcjgjfaa
