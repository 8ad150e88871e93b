/- The walks of the package runs: events out of numbers. -/
import Derived.Test.YtnamafelcjgjfaaSh
import Derived.Test.YtnamafelcjgjfaaTy
import Derived.Test.YtnamafelcjgjfaaPRuns
namespace Go.Proofs.Ytnamafelcjgjfaa
open Go Go.K Go.P Go.RowKit Go.Proofs
set_option maxHeartbeats 1000000 in
theorem of_spec {vs : List Int} {fr : Int} {f : Nat} {w : World} (hv : vs.length = 64) (hf : min (max fr 0) 64 = (f : Int)) :
    Does Try.prog 63 #[.agg (vs.map I).toArray, .int .i64 fr] w fun v w' => ∃ a cap, v = .slice a (pairs 0 (vs.drop f)).length cap ∧ Own w' 92 3 a (pairs 0 (vs.drop f)).length cap (evC (pairs 0 (vs.drop f))) ∧ Fresh w.heap.size a ∧ Ext [] w w' := by
  refine Does_of (args := [_, _]) Try.func63 rfl rfl Try.ntmps63 rfl ?_
  repeat (first | refine WS_seq ?_ | refine WS_region ?_)
  refine WL_s (S_box rfl rfl rfl ?_)
  intro w1 b1 hb1 hE1 hB1 hs1
  repeat (first | refine WS_seq ?_ | refine WS_region ?_ | refine WL_nil ?_ | refine WS_block ?_ | (refine WL_r (by first | refine Run_pev rfl | refine k_min rfl rfl | refine k_max rfl rfl | apply k_makeFunc) rfl ?_))
  have hS1 : SlA w1 (some ⟨b1, 0, none⟩) (vs.map I) := hB1.sl0
  rw [hf]
  refine WS_loop (G := (Nat) × (Nat) × (List (Nat × Int)) × (Option Addr) × (Nat)) (fun | (k, r, done, a, c) => 64 - k) 1073737952 (fun | (k, r, done, a, c) => [(5, .slice a done.length c), (6, .int .i64 r), (7, .int .i64 k)]) (fun | (k, r, done, a, c), w' => k ≤ 64 ∧ r ≤ k ∧ done.length ≤ k ∧ done ++ pairs r (vs.drop k) = pairs 0 (vs.drop f) ∧ Ext [] w1 w' ∧ Fresh w1.heap.size a ∧ Own w' 92 3 a done.length c (evF done)) (f, 0, [], none, 0) ⟨rfl, rfl, rfl, trivial⟩ ⟨by omega, Nat.zero_le _, Nat.zero_le _, rfl, .refl, .none, .nil⟩ ?_
  rintro ⟨k, r, done, a, c⟩ w2 σ ⟨hk, hr, hd, hp, hW2, hF2, hO2⟩ IH
  show WS _ _ _ _ _ (updL [(5, .slice a done.length c), (6, .int .i64 r), (7, .int .i64 k)] _) _
  by_cases hlt : k < 64
  · have hx : (vs.map I)[k]? = some (I vs[k]) := by simp [hv, hlt]
    have hS2 := hS1.ext0 hW2
    have hcut : vs.drop k = vs[k] :: vs.drop (k + 1) := List.drop_eq_getElem_cons (by omega)
    rw [hcut, pairs] at hp
    repeat (first | refine WS_seq ?_ | refine WS_region ?_ | refine WL_nil ?_ | refine WS_block ?_ | refine WS_skip ?_ | refine WS_yes rfl (by omega) ?_ | (refine WL_r (by first | refine k_ixa1 rfl rfl (Ty.arr rfl) (by omega) | refine k_loads rfl hS2 hx (Ty.shp rfl) | refine Run_pev rfl | apply k_makeFunc) rfl ?_))
    refine WS_ite rfl (fun h0 => ?_) (fun h0 => ?_)
    · rw [if_pos h0] at hp
      repeat (first | refine WS_seq ?_ | refine WS_region ?_ | refine WL_nil ?_ | refine WS_exit rfl ?_ | (refine WL_r (by first | refine Run_pev rfl | refine k_add64 rfl rfl (by omega) | apply k_makeFunc) rfl ?_))
      refine IH (k + 1, r + 1, done, a, c) _ _ ?_ ?_ ?_ ?_
      · simp only; omega
      · exact ⟨rfl, rfl, rfl, trivial⟩
      · exact (by repeat (first | with_reducible apply Agr.refl | refine Agr.upd rfl ?_ | refine Agr.updL rfl ?_ | refine Agr.mrg rfl ?_))
      · exact ⟨by omega, by omega, by omega, hp, hW2, hF2, hO2⟩
    · rw [if_neg h0] at hp
      repeat (first | refine WS_seq ?_ | refine WS_region ?_ | refine WS_skip ?_ | (refine WL_r (by first | refine k_ixa1 rfl rfl (Ty.arr rfl) (by omega) | refine k_loads rfl hS2 hx (Ty.shp rfl) | refine k_buildS (cs := [I r, I vs[k], .bool false]) (Ty.zer rfl) (Ty.plc rfl) rfl | refine Run_pev rfl) rfl ?_))
      try refine WL_gyes rfl rfl rfl ?_
      refine WL_s (S_lit (out := [I r, I vs[k], .bool false]) (Ty.sle rfl) (Ty.zer rfl) rfl rfl rfl (by decide) rfl ?_)
      intro w3 b3 hb3 hE3 hB3 hs3
      have hW3 := hW2.then0 hE3
      have hF3 : Fresh _ (some ⟨b3, 0, none⟩) := Fresh.at hW2 hb3
      try refine WL_gyes rfl rfl rfl ?_
      refine WL_s (S_append (Ty.sle rfl) (Ty.zer rfl) rfl (Ty.byt rfl) (by decide) rfl (hO2.ext0 hE3) rfl (hB3.sl0) (by simp; try omega) (by simp) (by omega) (by simp only [maxLen]; omega) rfl ?_)
      intro w4 a4 c4 hE4 hO4 hf4 hn4
      have hW4 := hW3.thenF hE4 hF2
      have hF4 := hF2.step hf4 hW3.size
      repeat (first | refine WS_region ?_ | refine WL_nil ?_ | refine WS_inBlock ?_ | (refine WL_r (by first | refine Run_pev rfl | refine k_add64 rfl rfl (by omega) | apply k_makeFunc) rfl ?_))
      refine IH (k + 1, 0, done ++ [(r, vs[k])], a4, c4) _ _ ?_ ?_ ?_ ?_
      · simp only; omega
      · exact ⟨by simp; rfl, rfl, rfl, trivial⟩
      · exact (by repeat (first | with_reducible apply Agr.refl | refine Agr.upd rfl ?_ | refine Agr.updL rfl ?_ | refine Agr.mrg rfl ?_))
      · exact ⟨by omega, by omega, by simp; omega, by simpa using hp, hW4, hF4, by simpa [evF] using hO4⟩
  · obtain rfl : k = 64 := by omega
    have hdn : vs.drop 64 = [] := List.drop_of_length_le (by omega)
    rw [hdn, pairs, List.append_nil] at hp
    rw [← hp]
    repeat (first | refine WS_seq ?_ | refine WS_region ?_ | refine WL_nil ?_ | refine WS_exit rfl ?_ | refine WS_false rfl ?_ | (refine WL_r (by first | refine Run_pev rfl | refine k_len rfl (Ty.isl rfl) | apply k_makeFunc) rfl ?_))
    refine WS_ite rfl (fun h0 => ?_) (fun h0 => ?_)
    · have hne : done ≠ [] := fun e => by subst e; simp at h0
      have hpos : 0 < done.length := by omega
      repeat (first | refine WS_region ?_ | (refine WL_r (by first | refine k_ix rfl rfl hO2.sl (evF_len done) (by decide) (Ty.sle rfl) (by omega) | refine k_faA rfl (Ty.fld rfl rfl) | refine Run_pev rfl | refine k_sub64 rfl rfl (by omega) | apply k_makeFunc) rfl ?_))
      refine WL_s (S_storeO (v := .bool true) rfl rfl hO2 (by omega) rfl (Ty.shp rfl) ?_)
      intro w3 hE3 hO3 hs3
      rw [show ((done.length : Int) - 1).toNat * 3 + 2 = (done.length - 1) * 3 + 2 by omega, evF_set done hne] at hO3
      have hW3 := hW2.thenF hE3 hF2
      repeat (first | refine WS_seq ?_ | refine WS_region ?_ | refine WL_nil ?_ | (refine WL_r (by first | refine Run_pev rfl | apply k_makeFunc) rfl ?_))
      exact WS_ret1 Try.func63 rfl ⟨a, c, rfl, hO3, fun b hb => by have := hF2 b hb; omega, hE1.then0 hW3⟩
    · have hne : done = [] := List.eq_nil_of_length_eq_zero (by omega)
      repeat (first | refine WS_seq ?_ | refine WS_region ?_ | refine WL_nil ?_ | refine WS_skip ?_ | (refine WL_r (by first | refine Run_pev rfl | apply k_makeFunc) rfl ?_))
      refine WS_ret1 Try.func63 rfl ⟨a, c, rfl, ?_, fun b hb => by have := hF2 b hb; omega, hE1.then0 hW2⟩
      rw [show evC done = evF done by rw [hne]; rfl]
      exact hO2
end Go.Proofs.Ytnamafelcjgjfaa
