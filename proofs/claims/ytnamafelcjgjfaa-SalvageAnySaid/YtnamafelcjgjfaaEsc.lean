/- The walks of the package escape: what its functions return; no condition but that lengths are below two to the 40th. -/
import Derived.Test.YtnamafelcjgjfaaSh
import Derived.Test.YtnamafelcjgjfaaTy
import Derived.Test.YtnamafelcjgjfaaK13
import Derived.Test.YtnamafelcjgjfaaPEsc
namespace Go.Proofs.Ytnamafelcjgjfaa
open Go Go.K Go.P Go.RowKit Go.Proofs
/-- A slice of bytes of one's own. -/
abbrev RB (a : Option Addr) (c : Nat) (l : List Nat) : Res := Ro 5 1 a l.length c (l.map B)
set_option maxHeartbeats 1000000 in
theorem put_spec {a : Option Addr} {n cap : Nat} {l : List Nat} {w : World} (hS : SlA w a (l.map B)) (hl : Byt l) (hn : l.length = n) (hlen : n ≤ 1099511627776) :
    Does Try.prog 44 #[.slice a n cap] w fun v w' => ∃ a' c', v = .slice a' (escF 0 l).length c' ∧ New (RB a' c' (escF 0 l)) w w' := by
  subst hn
  refine Does_of (args := [_]) Try.func44 rfl rfl Try.ntmps44 rfl ?_
  have hH := (Hp.start w).nu (New.nilO (e := 5) (sz := 1))
  repeat (first | refine WS_seq ?_ | refine WS_region ?_ | refine WL_nil ?_ | refine WS_block ?_ | (refine WL_r (by first | refine Run_pev rfl | refine k_len rfl (Ty.isl rfl) | apply k_makeFunc) rfl ?_))
  refine WS_loop (G := (Nat) × (Option Addr) × (Nat)) (fun | (k, a1, c1) => l.length - k) 2147483224 (fun | (k, a1, c1) => [(9, .int .i64 k), (3, .slice a1 (escF 0 (l.take k)).length c1), (4, .int .i64 (escZ 0 (l.take k) : Nat))]) (fun | (k, a1, c1), w' => k ≤ l.length ∧ Hp [] w w' [RB a1 c1 (escF 0 (l.take k))]) (0, none, 0) ⟨rfl, rfl, rfl, trivial⟩ ⟨by omega, hH⟩ ?_
  rintro ⟨k, a1, c1⟩ w' σ ⟨hk, hH⟩ IH
  show WS _ _ _ _ _ (updL [(9, .int .i64 k), (3, .slice a1 (escF 0 (l.take k)).length c1), (4, .int .i64 (escZ 0 (l.take k) : Nat))] _) _
  by_cases hlt : k < l.length
  · have hv : (l.map B)[k]? = some (B l[k]) := by simp [hlt]
    have e1 := escF_take hlt
    have e2 := escZ_take hlt
    have hc : l[k] < 256 := hl _ (List.getElem_mem hlt)
    have ho := escF_len (l.take k) 0
    have hz := escZ_le (l.take k) 0 (by omega)
    have hol : (escF 0 (l.take k)).length ≤ 2 * l.length := by simp at ho; omega
    clear ho
    generalize escF 0 (l.take k) = o at *
    generalize escZ 0 (l.take k) = z at *
    generalize hcd : l[k] = c at *
    have hSk := hH.old hS
    repeat (first | refine WS_seq ?_ | refine WS_region ?_ | refine WL_nil ?_ | refine WS_block ?_ | refine WS_skip ?_ | refine WS_yes rfl (by omega) ?_ | (refine WL_r (by first | refine k_ix1 rfl rfl hSk (by simp) (Ty.sle rfl) (by omega) | refine k_loads rfl hSk hv (Ty.shp rfl) | refine Run_pev rfl | apply k_makeFunc) rfl ?_))
    by_cases h2 : 2 ≤ z ∧ c ≤ 3
    · have h21 := h2.1; have h22 := h2.2
      simp only [escO, escS, if_pos h2] at e1 e2
      repeat (first | refine WS_seq ?_ | refine WS_region ?_ | refine WL_nil ?_ | refine WS_yes rfl (by omega) ?_ | refine WL_gyes rfl rfl (dT (by omega)) ?_ | (refine WL_r (by first | refine Run_pev rfl | refine k_pick_t (dT (by omega)) rfl) rfl ?_))
      try refine WL_gyes rfl rfl rfl ?_
      refine WL_s (H_lit (out := [B 3]) hH (Ty.sle rfl) (Ty.zer rfl) rfl rfl rfl (by decide) rfl ?_)
      try clear hH
      intro _ blit hH
      change Hp _ _ _ [_, _] at hH
      try refine WL_gyes rfl rfl rfl ?_
      refine WL_s (H_append 0 hH rfl (Ty.sle rfl) (Ty.zer rfl) rfl (Ty.byt rfl) (by decide) rfl rfl ((hH.b 1 rfl).sl0) (by simp; try omega) (by simp) (by omega) (by simp only [maxLen]; omega) rfl ?_)
      try clear hH
      intro _ a2 c2 hH
      change Hp _ _ _ [_, _] at hH
      replace hH := hH.del 1
      change Hp _ _ _ [_] at hH
      repeat (first | refine WS_seq ?_ | refine WS_region ?_ | refine WL_nil ?_ | (refine WL_r (by refine Run_pev rfl) rfl ?_))
      skip
      try refine WL_gyes rfl rfl rfl ?_
      refine WL_s (H_lit (out := [B c]) hH (Ty.sle rfl) (Ty.zer rfl) rfl rfl rfl (by decide) rfl ?_)
      try clear hH
      intro _ blit hH
      change Hp _ _ _ [_, _] at hH
      try refine WL_gyes rfl rfl rfl ?_
      refine WL_s (H_append 0 hH rfl (Ty.sle rfl) (Ty.zer rfl) rfl (Ty.byt rfl) (by decide) rfl rfl ((hH.b 1 rfl).sl0) (by simp; try omega) (by simp) (by omega) (by simp only [maxLen]; omega) rfl ?_)
      try clear hH
      intro _ a3 c3 hH
      change Hp _ _ _ [_, _] at hH
      replace hH := hH.del 1
      change Hp _ _ _ [_] at hH
      repeat (first | refine WS_seq ?_ | refine WS_region ?_ | refine WL_nil ?_ | (refine WL_r (by first | refine Run_pev rfl | apply k_makeFunc) rfl ?_))
      by_cases h0 : c = 0
      · simp only [if_pos h0] at e2
        repeat (first | refine WS_region ?_ | refine WL_nil ?_ | refine WS_inBlock ?_ | refine WS_yes rfl (by omega) ?_ | (refine WL_r (by first | refine Run_pev rfl | refine k_add64 rfl rfl (by omega) | apply k_makeFunc) rfl ?_))
        refine IH (k + 1, a3, c3) _ _ ?_ ?_ ?_ ?_
        · simp only; omega
        · exact ⟨rfl, by simp only [e1]; simp; rfl, by simp only [e2]; rfl, trivial⟩
        · exact (by repeat (first | with_reducible apply Agr.refl | refine Agr.upd rfl ?_ | refine Agr.updL rfl ?_ | refine Agr.mrg rfl ?_))
        · exact ⟨by omega, by simp only [e1, RB]; simpa using hH⟩
      · simp only [if_neg h0] at e2
        repeat (first | refine WS_region ?_ | refine WL_nil ?_ | refine WS_inBlock ?_ | refine WS_no rfl (by omega) ?_ | (refine WL_r (by first | refine Run_pev rfl | refine k_add64 rfl rfl (by omega) | apply k_makeFunc) rfl ?_))
        refine IH (k + 1, a3, c3) _ _ ?_ ?_ ?_ ?_
        · simp only; omega
        · exact ⟨rfl, by simp only [e1]; simp; rfl, by simp only [e2]; rfl, trivial⟩
        · exact (by repeat (first | with_reducible apply Agr.refl | refine Agr.upd rfl ?_ | refine Agr.updL rfl ?_ | refine Agr.mrg rfl ?_))
        · exact ⟨by omega, by simp only [e1, RB]; simpa using hH⟩
    · simp only [escO, escS, if_neg h2] at e1 e2
      by_cases h21 : 2 ≤ z
      · have h22 : ¬ c ≤ 3 := fun h => h2 ⟨h21, h⟩
        simp only [if_neg (show ¬ c = 0 by omega)] at e2
        repeat (first | refine WS_seq ?_ | refine WS_region ?_ | refine WL_nil ?_ | refine WS_skip ?_ | refine WS_no rfl (by omega) ?_ | refine WL_gyes rfl rfl (dT (by omega)) ?_ | (refine WL_r (by first | refine Run_pev rfl | refine k_pick_t (dT (by omega)) rfl) rfl ?_))
        try refine WL_gyes rfl rfl rfl ?_
        refine WL_s (H_lit (out := [B c]) hH (Ty.sle rfl) (Ty.zer rfl) rfl rfl rfl (by decide) rfl ?_)
        try clear hH
        intro _ blit hH
        change Hp _ _ _ [_, _] at hH
        try refine WL_gyes rfl rfl rfl ?_
        refine WL_s (H_append 0 hH rfl (Ty.sle rfl) (Ty.zer rfl) rfl (Ty.byt rfl) (by decide) rfl rfl ((hH.b 1 rfl).sl0) (by simp; try omega) (by simp) (by omega) (by simp only [maxLen]; omega) rfl ?_)
        try clear hH
        intro _ a3 c3 hH
        change Hp _ _ _ [_, _] at hH
        replace hH := hH.del 1
        change Hp _ _ _ [_] at hH
        repeat (first | refine WS_seq ?_ | refine WS_region ?_ | refine WL_nil ?_ | refine WS_inBlock ?_ | refine WS_no rfl (by omega) ?_ | (refine WL_r (by first | refine Run_pev rfl | refine k_add64 rfl rfl (by omega) | apply k_makeFunc) rfl ?_))
        refine IH (k + 1, a3, c3) _ _ ?_ ?_ ?_ ?_
        · simp only; omega
        · exact ⟨rfl, by simp only [e1]; simp; rfl, by simp only [e2]; rfl, trivial⟩
        · exact (by repeat (first | with_reducible apply Agr.refl | refine Agr.upd rfl ?_ | refine Agr.updL rfl ?_ | refine Agr.mrg rfl ?_))
        · exact ⟨by omega, by simp only [e1, RB]; simpa using hH⟩
      · skip
        repeat (first | refine WS_seq ?_ | refine WS_region ?_ | refine WL_nil ?_ | refine WS_skip ?_ | refine WS_false rfl ?_ | refine WL_gno (b := false) rfl rfl (dF (by omega)) rfl rfl ?_ | (refine WL_r (by first | refine Run_pev rfl | refine k_pick_f (dF (by omega)) rfl) rfl ?_))
        try refine WL_gyes rfl rfl rfl ?_
        refine WL_s (H_lit (out := [B c]) hH (Ty.sle rfl) (Ty.zer rfl) rfl rfl rfl (by decide) rfl ?_)
        try clear hH
        intro _ blit hH
        change Hp _ _ _ [_, _] at hH
        try refine WL_gyes rfl rfl rfl ?_
        refine WL_s (H_append 0 hH rfl (Ty.sle rfl) (Ty.zer rfl) rfl (Ty.byt rfl) (by decide) rfl rfl ((hH.b 1 rfl).sl0) (by simp; try omega) (by simp) (by omega) (by simp only [maxLen]; omega) rfl ?_)
        try clear hH
        intro _ a3 c3 hH
        change Hp _ _ _ [_, _] at hH
        replace hH := hH.del 1
        change Hp _ _ _ [_] at hH
        repeat (first | refine WS_seq ?_ | refine WS_region ?_ | refine WL_nil ?_ | (refine WL_r (by first | refine Run_pev rfl | apply k_makeFunc) rfl ?_))
        by_cases h0 : c = 0
        · simp only [if_pos h0] at e2
          repeat (first | refine WS_region ?_ | refine WL_nil ?_ | refine WS_inBlock ?_ | refine WS_yes rfl (by omega) ?_ | (refine WL_r (by first | refine Run_pev rfl | refine k_add64 rfl rfl (by omega) | apply k_makeFunc) rfl ?_))
          refine IH (k + 1, a3, c3) _ _ ?_ ?_ ?_ ?_
          · simp only; omega
          · exact ⟨rfl, by simp only [e1]; simp; rfl, by simp only [e2]; rfl, trivial⟩
          · exact (by repeat (first | with_reducible apply Agr.refl | refine Agr.upd rfl ?_ | refine Agr.updL rfl ?_ | refine Agr.mrg rfl ?_))
          · exact ⟨by omega, by simp only [e1, RB]; simpa using hH⟩
        · simp only [if_neg h0] at e2
          repeat (first | refine WS_region ?_ | refine WL_nil ?_ | refine WS_inBlock ?_ | refine WS_no rfl (by omega) ?_ | (refine WL_r (by first | refine Run_pev rfl | refine k_add64 rfl rfl (by omega) | apply k_makeFunc) rfl ?_))
          refine IH (k + 1, a3, c3) _ _ ?_ ?_ ?_ ?_
          · simp only; omega
          · exact ⟨rfl, by simp only [e1]; simp; rfl, by simp only [e2]; rfl, trivial⟩
          · exact (by repeat (first | with_reducible apply Agr.refl | refine Agr.upd rfl ?_ | refine Agr.updL rfl ?_ | refine Agr.mrg rfl ?_))
          · exact ⟨by omega, by simp only [e1, RB]; simpa using hH⟩
  · obtain rfl : k = l.length := by omega
    rw [List.take_length] at hH ⊢
    repeat (first | refine WS_seq ?_ | refine WS_region ?_ | refine WL_nil ?_ | refine WS_exit rfl ?_ | refine WS_no rfl (by omega) ?_ | (refine WL_r (by first | refine Run_pev rfl | apply k_makeFunc) rfl ?_))
    exact WS_ret1 Try.func44 rfl ⟨_, _, rfl, hH.new1 0 rfl⟩
theorem marker_spec {w : World} : Does Try.prog 50 #[] w fun v w' => ∃ b, v = .slice (some ⟨b, 0, none⟩) 3 3 ∧ New (Rb b 5 #[B 0, B 0, B 1]) w w' := by
  refine Does_of (args := []) Try.func50 rfl rfl Try.ntmps50 rfl ?_
  have hH := Hp.start w
  repeat (first | refine WS_seq ?_ | refine WS_region ?_ | refine WL_nil ?_ | (refine WL_r (by refine Run_pev rfl) rfl ?_))
  try refine WL_gyes rfl rfl rfl ?_
  refine WL_s (H_lit (out := [B 0, B 0, B 1]) hH (Ty.sle rfl) (Ty.zer rfl) rfl rfl rfl (by decide) rfl ?_)
  try clear hH
  intro _ b hH
  change Hp _ _ _ [_] at hH
  repeat (first | refine WL_nil ?_ | (refine WL_r (by first | refine Run_pev rfl | apply k_makeFunc) rfl ?_))
  exact WS_ret1 Try.func50 rfl ⟨_, rfl, hH.new1 0 rfl⟩
/-- What Find answers: the first marker from a place on, or none. -/
def Found (l : List Nat) (from' : Int) (v : Value) : Prop :=
  (∃ i : Nat, v = .tuple #[.int .i64 i, .bool true] ∧ from' ≤ i ∧ IsM l i ∧ ∀ j : Nat, from' ≤ j → j < i → ¬ IsM l j) ∨ (v = .tuple #[.int .i64 0, .bool false] ∧ ∀ j : Nat, from' ≤ j → ¬ IsM l j)
theorem noM_step {l : List Nat} {f : Int} {k : Nat} (hno : ∀ j : Nat, f ≤ j → j < k → ¬ IsM l j) (h : ¬ IsM l k) : ∀ j : Nat, f ≤ j → j < k + 1 → ¬ IsM l j := fun j h3 h4 => by
  rcases Nat.lt_or_ge j k with h5 | h5
  · exact hno j h3 h5
  · obtain rfl : j = k := by omega
    exact h
theorem nat_max (f : Int) (h : f ≤ 9223372036854775807) : ∃ m : Nat, max f 0 = (m : Int) := ⟨(max f 0).toNat, by omega⟩
set_option maxHeartbeats 1000000 in
theorem find_spec {a : Option Addr} {n cap : Nat} {l : List Nat} {f : Int} {w : World} (hS : SlA w a (l.map B)) (hl : Byt l) (hn : l.length = n) (hlen : n ≤ 1099511627776) (hf : f ≤ 9223372036854775807) :
    Does Try.prog 51 #[.slice a n cap, .int .i64 f] w fun v w' => Found l f v ∧ w' = w := by
  subst hn
  refine Does_of (args := [_, _]) Try.func51 rfl rfl Try.ntmps51 rfl ?_
  obtain ⟨m, hm⟩ := nat_max f hf
  repeat (first | refine WS_seq ?_ | refine WS_region ?_ | refine WL_nil ?_ | refine WS_block ?_ | (refine WL_r (by first | refine Run_pev rfl | refine k_max rfl rfl | apply k_makeFunc) rfl ?_))
  rw [hm]
  refine WS_loop (G := (Nat)) (fun k => l.length - k) 274877906544 (fun k => [(6, .int .i64 k), (4, .int .i64 0), (5, .bool false)]) (fun k w' => w' = w ∧ m ≤ k ∧ ∀ j : Nat, f ≤ j → j < k → ¬ IsM l j) (m) ⟨rfl, rfl, rfl, trivial⟩ ⟨rfl, Nat.le_refl _, fun j h1 h2 => by omega⟩ ?_
  rintro k w' σ ⟨hw, hmk, hno⟩ IH
  show WS _ _ _ _ _ (updL [(6, .int .i64 k), (4, .int .i64 0), (5, .bool false)] _) _
  subst hw
  by_cases hlt : k + 2 < l.length
  · have hv0 : (l.map B)[k]? = some (B l[k]) := by simp [show k < l.length by omega]
    have hv1 : (l.map B)[k + 1]? = some (B l[k + 1]) := by simp [show k + 1 < l.length by omega]
    have hv2 : (l.map B)[k + 2]? = some (B l[k + 2]) := by simp [hlt]
    have hM : IsM l k ↔ l[k] = 0 ∧ l[k + 1] = 0 ∧ l[k + 2] = 1 := by simp [IsM, hlt, show k < l.length by omega, show k + 1 < l.length by omega]
    have b0 : l[k] < 256 := hl _ (List.getElem_mem _)
    generalize l[k] = c0 at *
    generalize l[k + 1] = c1 at *
    generalize l[k + 2] = c2 at *
    by_cases h0 : c0 = 0
    · by_cases h1 : c1 = 0
      · by_cases h2 : c2 = 1
        · repeat (first | refine WS_seq ?_ | refine WS_region ?_ | refine WL_nil ?_ | refine WS_block ?_ | refine WS_skip ?_ | refine WS_yes rfl (by omega) ?_ | refine WL_gyes rfl rfl (dT (by omega)) ?_ | (refine WL_r (by first | refine k_ix1 rfl rfl hS (by simp) (Ty.sle rfl) (by omega) | refine k_loads rfl hS hv0 (Ty.shp rfl) | refine k_loads rfl hS hv1 (Ty.shp rfl) | refine k_loads rfl hS hv2 (Ty.shp rfl) | refine Run_pev rfl | refine k_add64 rfl rfl (by omega) | refine k_sub64 rfl rfl (by omega) | refine k_len rfl (Ty.isl rfl) | apply k_makeFunc | refine k_pick_t (dT (by omega)) rfl) rfl ?_))
          exact WS_ret2 Try.func51 rfl ⟨.inl ⟨k, rfl, by omega, hM.2 ⟨h0, h1, h2⟩, hno⟩, rfl⟩
        · repeat (first | refine WS_seq ?_ | refine WS_region ?_ | refine WL_nil ?_ | refine WS_block ?_ | refine WS_inBlock ?_ | refine WS_skip ?_ | refine WS_yes rfl (by omega) ?_ | refine WS_no rfl (by omega) ?_ | refine WL_gyes rfl rfl (dT (by omega)) ?_ | (refine WL_r (by first | refine k_ix1 rfl rfl hS (by simp) (Ty.sle rfl) (by omega) | refine k_loads rfl hS hv0 (Ty.shp rfl) | refine k_loads rfl hS hv1 (Ty.shp rfl) | refine k_loads rfl hS hv2 (Ty.shp rfl) | refine Run_pev rfl | refine k_add64 rfl rfl (by omega) | refine k_sub64 rfl rfl (by omega) | refine k_len rfl (Ty.isl rfl) | apply k_makeFunc | refine k_pick_t (dT (by omega)) rfl) rfl ?_))
          refine IH (k + 1) _ _ ?_ ?_ ?_ ?_
          · omega
          · exact ⟨rfl, rfl, rfl, trivial⟩
          · exact (by repeat (first | with_reducible apply Agr.refl | refine Agr.upd rfl ?_ | refine Agr.updL rfl ?_ | refine Agr.mrg rfl ?_))
          · exact ⟨rfl, by omega, noM_step hno (by rw [hM]; omega)⟩
      · repeat (first | refine WS_seq ?_ | refine WS_region ?_ | refine WL_nil ?_ | refine WS_block ?_ | refine WS_inBlock ?_ | refine WS_skip ?_ | refine WS_false rfl ?_ | refine WS_yes rfl (by omega) ?_ | refine WL_gyes rfl rfl (dT (by omega)) ?_ | refine WL_gno (b := false) rfl rfl (dF (by omega)) rfl rfl ?_ | (refine WL_r (by first | refine k_ix1 rfl rfl hS (by simp) (Ty.sle rfl) (by omega) | refine k_loads rfl hS hv0 (Ty.shp rfl) | refine k_loads rfl hS hv1 (Ty.shp rfl) | refine Run_pev rfl | refine k_add64 rfl rfl (by omega) | refine k_sub64 rfl rfl (by omega) | refine k_len rfl (Ty.isl rfl) | apply k_makeFunc | refine k_pick_f (dF (by omega)) rfl | refine k_pick_t (dT (by omega)) rfl) rfl ?_))
        refine IH (k + 1) _ _ ?_ ?_ ?_ ?_
        · omega
        · exact ⟨rfl, rfl, rfl, trivial⟩
        · exact (by repeat (first | with_reducible apply Agr.refl | refine Agr.upd rfl ?_ | refine Agr.updL rfl ?_ | refine Agr.mrg rfl ?_))
        · exact ⟨rfl, by omega, noM_step hno (by rw [hM]; omega)⟩
    · repeat (first | refine WS_seq ?_ | refine WS_region ?_ | refine WL_nil ?_ | refine WS_block ?_ | refine WS_inBlock ?_ | refine WS_skip ?_ | refine WS_false rfl ?_ | refine WS_yes rfl (by omega) ?_ | refine WL_gno rfl rfl rfl rfl rfl ?_ | refine WL_gno (b := false) rfl rfl (dF (by omega)) rfl rfl ?_ | (refine WL_r (by first | refine k_ix1 rfl rfl hS (by simp) (Ty.sle rfl) (by omega) | refine k_loads rfl hS hv0 (Ty.shp rfl) | refine Run_pev rfl | refine k_add64 rfl rfl (by omega) | refine k_sub64 rfl rfl (by omega) | refine k_len rfl (Ty.isl rfl) | apply k_makeFunc | refine k_pick_f (dF (by omega)) rfl) rfl ?_))
      refine IH (k + 1) _ _ ?_ ?_ ?_ ?_
      · omega
      · exact ⟨rfl, rfl, rfl, trivial⟩
      · exact (by repeat (first | with_reducible apply Agr.refl | refine Agr.upd rfl ?_ | refine Agr.updL rfl ?_ | refine Agr.mrg rfl ?_))
      · exact ⟨rfl, by omega, noM_step hno (by rw [hM]; omega)⟩
  · repeat (first | refine WS_seq ?_ | refine WS_region ?_ | refine WL_nil ?_ | refine WS_exit rfl ?_ | refine WS_no rfl (by omega) ?_ | (refine WL_r (by first | refine Run_pev rfl | refine k_sub64 rfl rfl (by omega) | refine k_len rfl (Ty.isl rfl) | apply k_makeFunc) rfl ?_))
    refine WS_ret2 Try.func51 rfl ⟨.inr ⟨rfl, fun j h3 h4 => ?_⟩, rfl⟩
    rcases Nat.lt_or_ge j k with h5 | h5
    · exact hno j h3 h5 h4
    · have := (List.getElem?_eq_some_iff.1 h4.2.2).1
      omega
end Go.Proofs.Ytnamafelcjgjfaa
