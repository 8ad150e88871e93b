/- The walk of few numbers that aren't nought; no condition. -/
import Derived.Test.YtnamafelcjgjfaaSh
import Derived.Test.YtnamafelcjgjfaaRuns
import Derived.Test.YtnamafelcjgjfaaK9
namespace Go.Proofs.Ytnamafelcjgjfaa
open Go Go.K Go.P Go.RowKit Go.Proofs
theorem agr_ev (r : Nat) (x : Int) (b : Bool) (hr : r ≤ 9223372036854775807) (hx : -9223372036854775808 ≤ x ∧ x ≤ 9223372036854775807) : FitsK [some .i64, some .i64, none] [I r, I x, .bool b] :=
  ⟨⟨rfl, by show (-9223372036854775808 : Int) ≤ r; omega, by show (r : Int) ≤ 9223372036854775807; omega⟩, ⟨rfl, hx.1, hx.2⟩, trivial, trivial⟩
set_option maxHeartbeats 1000000 in
theorem sparse_spec {vs : List Int} {kp : Nat} {w : World} (hv : vs.length = 64) (hk : kp < 18446744073709551616) :
    Does Try.prog 64 #[.agg (vs.map I).toArray, .int .u64 kp] w fun v w' => v = .agg ((spar kp vs).map I).toArray ∧ Ext [] w w' := by
  refine Does_of (args := [_, _]) Try.func64 rfl rfl Try.ntmps64 rfl ?_
  repeat (first | refine WS_seq ?_ | refine WS_region ?_)
  refine WL_s (S_box rfl rfl rfl ?_)
  intro w1 b1 hb1 hE1 hB1 hs1
  refine WL_s (S_alloc (Ty.zer rfl) rfl ?_)
  intro w2 b2 hb2 hE2 hB2 hs2
  replace hB1 : Blk w2 b1 100 (vs.map I).toArray := hB1.ext0 hE2
  repeat (first | refine WS_seq ?_ | refine WS_region ?_ | refine WL_nil ?_ | refine WS_block ?_ | (refine WL_r (by first | refine k_loadA rfl hB1 (by simp [hv]) (Ty.shp rfl) | refine Run_pev rfl | apply k_makeFunc) rfl ?_))
  have hl := spar_len kp vs
  refine WS_loop (G := (Nat)) (fun k => 64 - k) 33554272 (fun k => [(8, .int .i64 k)]) (fun k w' => k ≤ 64 ∧ Ext [b1] w2 w' ∧ Blk w' b1 100 (((spar kp vs).take k ++ vs.drop k).map I).toArray) (0) ⟨rfl, trivial⟩ ⟨by omega, .refl, hB1⟩ ?_
  rintro k w3 σ ⟨hk64, hW3, hB3⟩ IH
  show WS _ _ _ _ _ (updL [(8, .int .i64 k)] _) _
  have hll : ((spar kp vs).take k ++ vs.drop k).length = 64 := by simp [hl, hv]; omega
  by_cases hlt : k < 64
  · have hx : (vs.map I).toArray[k]? = some (I vs[k]) := by simp [hv, hlt]
    have hsg := spar_get kp vs k (by omega)
    repeat (first | refine WS_seq ?_ | refine WS_region ?_ | refine WL_nil ?_ | refine WS_block ?_ | refine WS_skip ?_ | refine WS_yes rfl (by omega) ?_ | (refine WL_r (by first | refine k_index1 rfl rfl (Ty.arr rfl) (by omega) hx | refine k_ixa1 rfl rfl (Ty.arr rfl) (by omega) | refine Run_pev rfl | refine k_min rfl rfl | refine k_max rfl rfl | apply k_makeFunc) rfl ?_))
    refine WL_s (S_storeB (v := I (min (max vs[k] (-2047)) 2047)) rfl rfl hB3 (by rw [List.length_map, hll]; exact hlt) rfl (Ty.shp rfl) ?_)
    intro w4 hE4 hB4 hs4
    have hW4 := hW3.then1 hE4 (.inl (by simp))
    rw [← List.map_set] at hB4
    simp only [Int.toNat_natCast] at hB4
    repeat (first | refine WS_seq ?_ | refine WS_region ?_ | refine WL_nil ?_ | (refine WL_r (by first | refine k_shr rfl rfl (fit64 hk) | refine k_and rfl (n := 1) rfl (fit64 (Nat.lt_of_le_of_lt (Nat.div_le_self _ _) hk)) rfl | refine Run_pev rfl | apply k_makeFunc) rfl ?_))
    refine WS_ite rfl (fun h0 => ?_) (fun h0 => ?_)
    · have h0' : kp / 2 ^ k &&& 1 = 0 := Int.ofNat.inj h0
      rw [if_pos h0'] at hsg
      repeat (first | refine WS_region ?_ | (refine WL_r (by first | refine k_ixa1 rfl rfl (Ty.arr rfl) (by omega) | refine Run_pev rfl | apply k_makeFunc) rfl ?_))
      refine WL_s (S_storeB (v := I 0) rfl rfl hB4 (by rw [List.length_map, List.length_set, hll]; exact hlt) rfl (Ty.shp rfl) ?_)
      intro w5 hE5 hB5 hs5
      have hW5 := hW4.then1 hE5 (.inl (by simp))
      rw [← List.map_set] at hB5
      simp only [Int.toNat_natCast, List.set_set] at hB5
      rw [weave _ _ _ _ hsg (by omega)] at hB5
      repeat (first | refine WS_region ?_ | refine WL_nil ?_ | refine WS_inBlock ?_ | (refine WL_r (by first | refine Run_pev rfl | refine k_add64 rfl rfl (by omega) | apply k_makeFunc) rfl ?_))
      refine IH (k + 1) _ _ ?_ ?_ ?_ ?_
      · omega
      · exact ⟨rfl, trivial⟩
      · exact (by repeat (first | with_reducible apply Agr.refl | refine Agr.upd rfl ?_ | refine Agr.updL rfl ?_ | refine Agr.mrg rfl ?_))
      · exact ⟨by omega, hW5, hB5⟩
    · have h0' : ¬ (kp / 2 ^ k &&& 1 = 0) := fun h => h0 (by rw [h]; rfl)
      rw [if_neg h0'] at hsg
      rw [weave _ _ _ _ hsg (by omega)] at hB4
      repeat (first | refine WS_region ?_ | refine WL_nil ?_ | refine WS_inBlock ?_ | refine WS_skip ?_ | (refine WL_r (by first | refine Run_pev rfl | refine k_add64 rfl rfl (by omega) | apply k_makeFunc) rfl ?_))
      refine IH (k + 1) _ _ ?_ ?_ ?_ ?_
      · omega
      · exact ⟨rfl, trivial⟩
      · exact (by repeat (first | with_reducible apply Agr.refl | refine Agr.upd rfl ?_ | refine Agr.updL rfl ?_ | refine Agr.mrg rfl ?_))
      · exact ⟨by omega, hW4, hB4⟩
  · obtain rfl : k = 64 := by omega
    have e : (spar kp vs).take 64 ++ vs.drop 64 = spar kp vs := by rw [List.take_of_length_le (by omega), List.drop_of_length_le (by omega), List.append_nil]
    rw [e] at hB3
    repeat (first | refine WS_seq ?_ | refine WS_region ?_ | refine WL_nil ?_ | refine WS_exit rfl ?_ | refine WS_false rfl ?_ | (refine WL_r (by first | refine k_loadA rfl hB3 (by simp [hl, hv]) (Ty.shp rfl) | refine Run_pev rfl | apply k_makeFunc) rfl ?_))
    refine WL_s (S_storeA rfl rfl (hB2.ext hW3 (by simp; omega)) (by simp [hl, hv]) (by rfl) (by simp) (Ty.shp rfl) ?_)
    intro w4 hE4 hB4 hs4
    repeat (refine WL_nil ?_)
    exact WS_retc1 Try.func64 rfl rfl hB4 (by simp [hl, hv]) (Ty.shp rfl) ⟨rfl, ((hE1.then0 hE2).then1 hW3 (.inr (by omega))).then1 hE4 (.inr (by have := hE1.size; omega))⟩
end Go.Proofs.Ytnamafelcjgjfaa
