/- The walk of escape.Take; no condition but that lengths are below two to the 40th. -/
import Derived.Test.YtnamafelcjgjfaaSh
import Derived.Test.YtnamafelcjgjfaaEsc
namespace Go.Proofs.Ytnamafelcjgjfaa
open Go Go.K Go.P Go.RowKit Go.Proofs
/-- What Take answers. -/
def Took (l : List Nat) (v : Value) (w w' : World) : Prop :=
  (∃ y a' c', tk 0 l = some y ∧ v = .tuple #[.slice a' y.length c', .int .i64 0] ∧ New (RB a' c' y) w w') ∨ (tk 0 l = none ∧ v = .tuple #[.slice none 0 0, .int .i64 15] ∧ Ext [] w w')
theorem drop_at {α : Type} {l : List α} {i : Nat} (h : i < l.length) : l.drop i = l[i] :: l.drop (i + 1) := List.drop_eq_getElem_cons h
set_option maxHeartbeats 1000000 in
theorem etake_spec {a : Option Addr} {n cap : Nat} {l : List Nat} {w : World} (hS : SlA w a (l.map B)) (hl : Byt l) (hn : l.length = n) (hlen : n ≤ 1099511627776) :
    Does Try.prog 42 #[.slice a n cap] w fun v w' => Took l v w w' := by
  subst hn
  refine Does_of (args := [_]) Try.func42 rfl rfl Try.ntmps42 rfl ?_
  have hH := (Hp.start w).nu (New.nilO (e := 5) (sz := 1))
  repeat (first | refine WS_seq ?_ | refine WS_region ?_ | refine WL_nil ?_ | refine WS_scope ?_ | (refine WL_r (by first | refine Run_pev rfl | apply k_makeFunc) rfl ?_))
  repeat (first | refine WS_label ?_ | refine WS_seq ?_)
  refine WS_goal (G := (Nat) × (Nat) × (List Nat) × (Option Addr) × (Nat)) (fun | (i, z, o, a1, c1) => l.length - i) 2305843009213693948 (fun | (i, z, o, a1, c1) => [(4, .slice a1 o.length c1), (5, .int .i64 z), (6, .int .i64 i)]) (fun | (i, z, o, a1, c1), w' => i ≤ l.length ∧ z ≤ 2 ∧ o.length ≤ i ∧ tk 0 l = (tk z (l.drop i)).map (o ++ ·) ∧ Hp [] w w' [RB a1 c1 o]) _ _ ?_ (0, 0, [], none, 0) _ _ ⟨rfl, rfl, rfl, trivial⟩ .refl ⟨by omega, by omega, by simp, by simp, hH⟩
  rintro ⟨i, z, o, a1, c1⟩ w' σ ⟨hi, hz, ho, ht, hH⟩ IH
  show WS _ _ _ _ _ (updL [(4, .slice a1 o.length c1), (5, .int .i64 z), (6, .int .i64 i)] _) _
  by_cases hlt : i < l.length
  · have hv : (l.map B)[i]? = some (B l[i]) := by simp [hlt]
    have hc : l[i] < 256 := hl _ (List.getElem_mem hlt)
    rw [drop_at hlt, tk_cons] at ht
    have hlast : i + 1 < l.length → (l.map B)[i + 1]? = some (B (l.getD (i + 1) 0)) := fun h => by simp [h]
    have hd3 : hd3 (l.drop (i + 1)) = decide (i + 1 = l.length ∨ 3 < l.getD (i + 1) 0) := by
      by_cases h : i + 1 < l.length
      · rw [drop_at h]
        simp [P.hd3, h]
        omega
      · rw [List.drop_of_length_le (by omega)]
        simp [P.hd3]; omega
    generalize l.getD (i + 1) 0 = d at *
    generalize hcd : l[i] = c at *
    have hSk := hH.old hS
    have hr : Bool.not (decide (z = 2 ∧ c = 3)) = true → ¬ (z = 2 ∧ c < 3) → tk 0 l = (tk (if c = 0 then z + 1 else 0) (l.drop (i + 1))).map ((o ++ [c]) ++ ·) := fun h1 h2 => by
      rw [ht, if_neg h2, if_neg (by intro h; simp [h] at h1), Option.map_map]
      congr 1
      funext x; simp
    by_cases hz2 : z = 2
    · rcases Nat.lt_trichotomy c 3 with hc3 | hc3 | hc3
      · rw [if_pos ⟨hz2, hc3⟩] at ht
        repeat (first | refine WS_seq ?_ | refine WS_region ?_ | refine WL_nil ?_ | refine WS_block ?_ | refine WS_skip ?_ | refine WS_yes rfl (by omega) ?_ | refine WS_no rfl (by omega) ?_ | refine WL_gyes rfl rfl (dT (by omega)) ?_ | (refine WL_r (by first | refine k_ix1 rfl rfl hSk (by simp) (Ty.sle rfl) (by omega) | refine k_loads rfl hSk hv (Ty.shp rfl) | refine Run_pev rfl | refine k_add64 rfl rfl (by omega) | refine k_len rfl (Ty.isl rfl) | apply k_makeFunc | refine k_pick_t (dT (by omega)) rfl) rfl ?_))
        exact WS_ret2 Try.func42 rfl (.inr ⟨by simpa using ht, rfl, hH.ext⟩)
      · rw [if_neg (by omega), if_pos ⟨hz2, hc3⟩, hd3] at ht
        by_cases h4 : i + 1 = l.length
        · rw [if_pos (by simp [h4])] at ht
          repeat (first | refine WS_seq ?_ | refine WS_region ?_ | refine WL_nil ?_ | refine WS_block ?_ | refine WS_skip ?_ | refine WS_true rfl ?_ | refine WS_no rfl (by omega) ?_ | refine WL_gyes rfl rfl (dT (by omega)) ?_ | refine WL_gno (b := true) rfl rfl (dT (by omega)) rfl rfl ?_ | (refine WL_r (by first | refine k_ix1 rfl rfl hSk (by simp) (Ty.sle rfl) (by omega) | refine k_loads rfl hSk hv (Ty.shp rfl) | refine Run_pev rfl | refine k_add64 rfl rfl (by omega) | refine k_len rfl (Ty.isl rfl) | apply k_makeFunc | refine k_pick_t (dT (by omega)) rfl) rfl ?_))
          exact WS_ret2 Try.func42 rfl (.inr ⟨by simpa using ht, rfl, hH.ext⟩)
        · have hv1 := hlast (by omega)
          by_cases h5 : 3 < d
          · rw [if_pos (by simp [h5])] at ht
            repeat (first | refine WS_seq ?_ | refine WS_region ?_ | refine WL_nil ?_ | refine WS_block ?_ | refine WS_skip ?_ | refine WS_yes rfl (by omega) ?_ | refine WS_no rfl (by omega) ?_ | refine WL_gyes rfl rfl (dF (by omega)) ?_ | refine WL_gyes rfl rfl (dT (by omega)) ?_ | (refine WL_r (by first | refine k_ix1 rfl rfl hSk (by simp) (Ty.sle rfl) (by omega) | refine k_loads rfl hSk hv (Ty.shp rfl) | refine k_loads rfl hSk hv1 (Ty.shp rfl) | refine Run_pev rfl | refine k_add64 rfl rfl (by omega) | refine k_len rfl (Ty.isl rfl) | apply k_makeFunc | refine k_pick_f (dF (by omega)) rfl | refine k_pick_t (dT (by omega)) rfl) rfl ?_))
            exact WS_ret2 Try.func42 rfl (.inr ⟨by simpa using ht, rfl, hH.ext⟩)
          · rw [if_neg (by simp [h4, h5])] at ht
            repeat (first | refine WS_seq ?_ | refine WS_region ?_ | refine WL_nil ?_ | refine WS_block ?_ | refine WS_skip ?_ | refine WS_yes rfl (by omega) ?_ | refine WS_no rfl (by omega) ?_ | refine WL_gyes rfl rfl (dF (by omega)) ?_ | refine WL_gyes rfl rfl (dT (by omega)) ?_ | (refine WL_r (by first | refine k_ix1 rfl rfl hSk (by simp) (Ty.sle rfl) (by omega) | refine k_loads rfl hSk hv (Ty.shp rfl) | refine k_loads rfl hSk hv1 (Ty.shp rfl) | refine Run_pev rfl | refine k_add64 rfl rfl (by omega) | refine k_len rfl (Ty.isl rfl) | apply k_makeFunc | refine k_pick_f (dF (by omega)) rfl | refine k_pick_t (dT (by omega)) rfl) rfl ?_))
            refine WS_goto rfl ?_; repeat (first | refine WS_seq ?_ | refine WS_skip ?_)
            refine IH (i + 1, 0, o, a1, c1) _ _ ?_ ?_ ?_ ?_
            · simp only; omega
            · exact ⟨rfl, rfl, rfl, trivial⟩
            · exact (by repeat (first | with_reducible apply Agr.refl | refine Agr.upd rfl ?_ | refine Agr.updL rfl ?_ | refine Agr.mrg rfl ?_))
            · exact ⟨by omega, by omega, by omega, ht, hH⟩
      · have hr' := hr (by simp; omega) (by omega)
        rw [if_neg (show ¬ c = 0 by omega)] at hr'
        repeat (first | refine WS_seq ?_ | refine WS_region ?_ | refine WL_nil ?_ | refine WS_block ?_ | refine WS_inBlock ?_ | refine WS_skip ?_ | refine WS_false rfl ?_ | refine WS_no rfl (by omega) ?_ | refine WL_gund rfl rfl rfl ?_ | refine WL_gyes rfl rfl (dT (by omega)) ?_ | refine WL_gno (b := false) rfl rfl (dF (by omega)) rfl rfl ?_ | (refine WL_r (by first | refine k_ix1 rfl rfl hSk (by simp) (Ty.sle rfl) (by omega) | refine k_loads rfl hSk hv (Ty.shp rfl) | refine Run_pev rfl | refine k_add64 rfl rfl (by omega) | refine k_len rfl (Ty.isl rfl) | refine k_pick_f (dF (by omega)) rfl | refine k_pick_t (dT (by omega)) rfl) rfl ?_))
        try refine WL_gyes rfl rfl rfl ?_
        refine WL_s (H_lit (out := [B c]) hH (Ty.sle rfl) (Ty.zer rfl) rfl rfl rfl (by decide) rfl ?_)
        try clear hH
        intro _ blit hH
        change Hp _ _ _ [_, _] at hH
        try refine WL_gyes rfl rfl rfl ?_
        refine WL_s (H_append 0 hH rfl (Ty.sle rfl) (Ty.zer rfl) rfl (Ty.byt rfl) (by decide) rfl rfl ((hH.b 1 rfl).sl0) (by simp; try omega) (by simp) (by omega) (by simp only [maxLen]; omega) rfl ?_)
        try clear hH
        intro _ a3 c3 hH
        change Hp _ _ _ [_, _] at hH
        replace hH := hH.del 1
        change Hp _ _ _ [_] at hH
        repeat (first | refine WL_nil ?_ | (refine WL_r (by first | refine Run_pev rfl | apply k_makeFunc) rfl ?_))
        refine WS_goto rfl ?_; repeat (first | refine WS_seq ?_ | refine WS_skip ?_)
        refine IH (i + 1, 0, o ++ [c], a3, c3) _ _ ?_ ?_ ?_ ?_
        · simp only; omega
        · exact ⟨by simp; rfl, rfl, rfl, trivial⟩
        · exact (by repeat (first | with_reducible apply Agr.refl | refine Agr.upd rfl ?_ | refine Agr.updL rfl ?_ | refine Agr.mrg rfl ?_))
        · exact ⟨by omega, by omega, by simp; omega, hr', by simpa [RB] using hH⟩
    · have hr' := hr (by simp; omega) (by omega)
      by_cases h0 : c = 0
      · rw [if_pos h0] at hr'
        repeat (first | refine WS_seq ?_ | refine WS_region ?_ | refine WL_nil ?_ | refine WS_block ?_ | refine WS_inBlock ?_ | refine WS_skip ?_ | refine WS_false rfl ?_ | refine WS_yes rfl (by omega) ?_ | refine WS_no rfl (by omega) ?_ | refine WL_gno rfl rfl rfl rfl rfl ?_ | refine WL_gund rfl rfl rfl ?_ | refine WL_gno (b := false) rfl rfl (dF (by omega)) rfl rfl ?_ | (refine WL_r (by first | refine k_ix1 rfl rfl hSk (by simp) (Ty.sle rfl) (by omega) | refine k_loads rfl hSk hv (Ty.shp rfl) | refine Run_pev rfl | refine k_add64 rfl rfl (by omega) | refine k_len rfl (Ty.isl rfl) | refine k_pick_f (dF (by omega)) rfl) rfl ?_))
        try refine WL_gyes rfl rfl rfl ?_
        refine WL_s (H_lit (out := [B c]) hH (Ty.sle rfl) (Ty.zer rfl) rfl rfl rfl (by decide) rfl ?_)
        try clear hH
        intro _ blit hH
        change Hp _ _ _ [_, _] at hH
        try refine WL_gyes rfl rfl rfl ?_
        refine WL_s (H_append 0 hH rfl (Ty.sle rfl) (Ty.zer rfl) rfl (Ty.byt rfl) (by decide) rfl rfl ((hH.b 1 rfl).sl0) (by simp; try omega) (by simp) (by omega) (by simp only [maxLen]; omega) rfl ?_)
        try clear hH
        intro _ a3 c3 hH
        change Hp _ _ _ [_, _] at hH
        replace hH := hH.del 1
        change Hp _ _ _ [_] at hH
        repeat (first | refine WL_nil ?_ | (refine WL_r (by first | refine Run_pev rfl | apply k_makeFunc) rfl ?_))
        refine WS_goto rfl ?_; repeat (first | refine WS_seq ?_ | refine WS_skip ?_)
        refine IH (i + 1, z + 1, o ++ [c], a3, c3) _ _ ?_ ?_ ?_ ?_
        · simp only; omega
        · exact ⟨by simp; rfl, rfl, rfl, trivial⟩
        · exact (by repeat (first | with_reducible apply Agr.refl | refine Agr.upd rfl ?_ | refine Agr.updL rfl ?_ | refine Agr.mrg rfl ?_))
        · exact ⟨by omega, by omega, by simp; omega, hr', by simpa [RB] using hH⟩
      · rw [if_neg h0] at hr'
        repeat (first | refine WS_seq ?_ | refine WS_region ?_ | refine WL_nil ?_ | refine WS_block ?_ | refine WS_inBlock ?_ | refine WS_skip ?_ | refine WS_false rfl ?_ | refine WS_no rfl (by omega) ?_ | refine WL_gno rfl rfl rfl rfl rfl ?_ | refine WL_gund rfl rfl rfl ?_ | refine WL_gno (b := false) rfl rfl (dF (by omega)) rfl rfl ?_ | (refine WL_r (by first | refine k_ix1 rfl rfl hSk (by simp) (Ty.sle rfl) (by omega) | refine k_loads rfl hSk hv (Ty.shp rfl) | refine Run_pev rfl | refine k_add64 rfl rfl (by omega) | refine k_len rfl (Ty.isl rfl) | refine k_pick_f (dF (by omega)) rfl) rfl ?_))
        try refine WL_gyes rfl rfl rfl ?_
        refine WL_s (H_lit (out := [B c]) hH (Ty.sle rfl) (Ty.zer rfl) rfl rfl rfl (by decide) rfl ?_)
        try clear hH
        intro _ blit hH
        change Hp _ _ _ [_, _] at hH
        try refine WL_gyes rfl rfl rfl ?_
        refine WL_s (H_append 0 hH rfl (Ty.sle rfl) (Ty.zer rfl) rfl (Ty.byt rfl) (by decide) rfl rfl ((hH.b 1 rfl).sl0) (by simp; try omega) (by simp) (by omega) (by simp only [maxLen]; omega) rfl ?_)
        try clear hH
        intro _ a3 c3 hH
        change Hp _ _ _ [_, _] at hH
        replace hH := hH.del 1
        change Hp _ _ _ [_] at hH
        repeat (first | refine WL_nil ?_ | (refine WL_r (by first | refine Run_pev rfl | apply k_makeFunc) rfl ?_))
        refine WS_goto rfl ?_; repeat (first | refine WS_seq ?_ | refine WS_skip ?_)
        refine IH (i + 1, 0, o ++ [c], a3, c3) _ _ ?_ ?_ ?_ ?_
        · simp only; omega
        · exact ⟨by simp; rfl, rfl, rfl, trivial⟩
        · exact (by repeat (first | with_reducible apply Agr.refl | refine Agr.upd rfl ?_ | refine Agr.updL rfl ?_ | refine Agr.mrg rfl ?_))
        · exact ⟨by omega, by omega, by simp; omega, hr', by simpa [RB] using hH⟩
  · obtain rfl : i = l.length := by omega
    repeat (first | refine WS_seq ?_ | refine WS_region ?_ | refine WL_nil ?_ | refine WS_yes rfl (by omega) ?_ | (refine WL_r (by first | refine Run_pev rfl | refine k_len rfl (Ty.isl rfl) | apply k_makeFunc) rfl ?_))
    refine WS_ret2 Try.func42 rfl (.inl ⟨o, a1, c1, by simpa [tk] using ht, rfl, hH.new1 0 rfl⟩)
end Go.Proofs.Ytnamafelcjgjfaa
