/- Layer 24's own helpers: two lists held together; blocks as a part; no condition but sizes of memory. -/
import Derived.Test.YtnamafelcjgjfaaSh
import Derived.Test.YtnamafelcjgjfaaLaw18b
import Derived.Test.YtnamafelcjgjfaaEsc
import Derived.Test.YtnamafelcjgjfaaBits2
import Derived.Test.YtnamafelcjgjfaaPSalv
import Derived.Test.YtnamafelcjgjfaaK19
import Derived.Test.YtnamafelcjgjfaaK20
namespace Go.Proofs.Ytnamafelcjgjfaa
open Go Go.K Go.P Go.RowKit Go.Proofs
/-- More pieces, all of them new. -/
theorem Hp.cat {S : List Nat} {W w w' : World} {H Q : List Res} (h : Hp S W w H) (hQ : Hp [] w w' Q) : Hp S W w' (H ++ Q) := by
  have hd := h.ext0 hQ.ext
  refine ⟨hd.ext, fun x hx => ?_, fun x hx y hy => ?_, ?_⟩
  · rcases List.mem_append.1 hx with h1 | h1
    · exact hd.all x h1
    · exact hQ.all x h1
  · rcases List.mem_append.1 hx with h1 | h1
    · exact hd.new x h1 y hy
    · rcases hQ.new x h1 y hy with h2 | h2
      · cases h2
      · exact .inr (Nat.le_trans h.size h2)
  · refine List.pairwise_append.2 ⟨hd.apart, hQ.apart, fun x hx q hq y hyx hyq => ?_⟩
    rcases hQ.new q hq y hyq with h2 | h2
    · cases h2
    · have := x.lt (h.all x hx) y hyx; omega
/-- The blocks alone. -/
def pse (X : List EL) : List PS := X.map fun x => x.2.2
theorem pse_len (X : List EL) : (pse X).length = X.length := by simp [pse]
theorem pse_at (X : List EL) {i : Nat} (h : i < X.length) : (pse X)[i]? = some X[i].2.2 := by simp [pse, h]
theorem pse_bits (X : List EL) : bL X = bP (pse X) := by simp [bL, bP, pse, List.flatMap_map]
theorem pse_good {X : List EL} (h : GX X) : GP (pse X) := fun x hx => by
  obtain ⟨y, hy, rfl⟩ := List.mem_map.1 hx
  exact h y hy
/-- Two lists that are the same. -/
theorem same24_spec {n0 c0 c1 : Nat} {a0 a1 : Option Addr} {ps : List (Nat × Int)} {w : World} (hok : ∀ p ∈ ps, okE p) (h64 : ps.length ≤ 64) (hn : ps.length = n0) (hS : SlA w a0 (evC ps)) (hS2 : SlA w a1 (evC ps)) :
    Does Try.prog 41 #[.slice a0 n0 c0, .slice a1 n0 c1] w fun v w' => v = .bool true ∧ Ext [] w w' := by
  subst hn
  refine Does_of (args := [_, _]) Try.func41 rfl rfl Try.ntmps41 rfl ?_
  have hle := evC_len ps
  repeat (first | refine WS_seq ?_ | refine WS_region ?_ | refine WL_nil ?_ | refine WS_block ?_ | refine WS_skip ?_ | refine WS_false rfl ?_ | (refine WL_r (by first | refine (k_neq (q := .i64) rfl rfl).is (bF (fun h => h rfl)) | refine Run_pev rfl | refine k_len rfl (Ty.isl rfl) | apply k_makeFunc) rfl ?_))
  refine WS_loop (G := (Nat)) (fun i => ps.length - i) 67100720 (fun i => [(13, .int .i64 i)]) (fun i w' => i ≤ ps.length ∧ Ext [] w w') (0) ⟨rfl, trivial⟩ ⟨by omega, .refl⟩ ?_
  rintro i w' σ ⟨hi, hW⟩ IH
  show WS _ _ _ _ _ (updL [(13, .int .i64 i)] _) _
  have hT1 := hS.ext0 hW
  have hT2 := hS2.ext0 hW
  by_cases hlt : i < ps.length
  · have hev := evC_ev ps i hlt
    have hpo := hok _ (List.getElem_mem hlt)
    obtain ⟨h1, h2, h3, h4⟩ := hpo
    generalize ps[i] = q at *
    have hfz := agr_ev q.1 q.2 (decide (i + 1 = ps.length)) (by omega) (by omega)
    repeat (first | refine WS_seq ?_ | refine WS_region ?_ | refine WL_nil ?_ | refine WS_block ?_ | refine WS_skip ?_ | refine WS_yes rfl (by omega) ?_ | (refine WL_r (by first | refine Run_pev rfl | apply k_makeFunc) rfl ?_))
    refine WS_drawE Ty.mixed 9 rfl (fun w1 hx1 => ?_)
    refine WA_take 0 rfl (by kernel_rfl) hx1 rfl rfl (fun w' hw' => by refine Run_pev rfl) ?_
    refine WA_take 1 rfl (by kernel_rfl) hx1 rfl rfl (fun w' hw' => by refine Run_pev rfl) ?_
    refine WA_take 2 rfl (by kernel_rfl) hx1 rfl rfl (fun w' hw' => by refine k_ix rfl rfl (hT1.ext0 hw') hle (by decide) (Ty.sle rfl) (by omega)) ?_
    refine WA_take 3 rfl (by kernel_rfl) hx1 rfl rfl (fun w' hw' => by refine k_loadC rfl (hT1.ext0 hw') hev rfl (Ty.shp rfl)) ?_
    refine WA_take 4 rfl (by kernel_rfl) hx1 rfl rfl (fun w' hw' => by refine Run_pev rfl) ?_
    refine WA_take 5 rfl (by kernel_rfl) hx1 rfl rfl (fun w' hw' => by refine Run_pev rfl) ?_
    refine WA_take 6 rfl (by kernel_rfl) hx1 rfl rfl (fun w' hw' => by refine k_ix rfl rfl (hT2.ext0 hw') hle (by decide) (Ty.sle rfl) (by omega)) ?_
    refine WA_take 7 rfl (by kernel_rfl) hx1 rfl rfl (fun w' hw' => by refine k_loadC rfl (hT2.ext0 hw') hev rfl (Ty.shp rfl)) ?_
    refine WA_take 8 rfl (by kernel_rfl) hx1 rfl rfl (fun w' hw' => by refine (k_neqA (p := True) rfl rfl (Ty.kds rfl) hfz hfz ⟨fun _ => trivial, fun _ => rfl⟩).is (v' := .bool false) rfl) ?_
    refine WA_done (by kernel_rfl) ?_
    repeat (first | refine WS_region ?_ | refine WL_nil ?_ | refine WS_inBlock ?_ | refine WS_skip ?_ | refine WS_false rfl ?_ | (refine WL_r (by first | refine Run_pev rfl | refine k_add64 rfl rfl (by omega) | apply k_makeFunc) rfl ?_))
    refine IH (i + 1) _ _ ?_ ?_ ?_ ?_
    · omega
    · exact ⟨rfl, trivial⟩
    · exact (by repeat (first | with_reducible apply Agr.refl | refine Agr.upd rfl ?_ | refine Agr.updL rfl ?_ | refine Agr.mrg rfl ?_))
    · exact ⟨by omega, hW.then0 hx1⟩
  · repeat (first | refine WS_seq ?_ | refine WS_region ?_ | refine WL_nil ?_ | refine WS_exit rfl ?_ | refine WS_no rfl (by omega) ?_ | (refine WL_r (by first | refine Run_pev rfl | apply k_makeFunc) rfl ?_))
    exact WS_ret1 Try.func41 rfl ⟨rfl, hW⟩
/-- A part of blocks. -/
def prt (X : List EL) : List Nat := escF 0 (pk (bL X ++ [true]))
theorem prt_byt (X : List EL) : Byt (prt X) := escF_byt _ _ (pk_byt _)
theorem prt_pos (X : List EL) : 0 < (prt X).length := by
  unfold prt
  have h1 := pk_len (bL X ++ [true])
  rw [List.length_append, List.length_singleton] at h1
  have h2 := tk_esc (pk (bL X ++ [true])) 0 (by omega)
  rcases Nat.eq_zero_or_pos (escF 0 (pk (bL X ++ [true]))).length with h3 | h3
  · rw [List.eq_nil_of_length_eq_zero h3] at h2
    have h4 : [] = pk (bL X ++ [true]) := by simpa [tk] using h2
    rw [← h4] at h1; simp at h1; omega
  · exact h3
set_option maxRecDepth 20000 in
set_option maxHeartbeats 4000000 in
theorem part_spec {a : Option Addr} {cap : Nat} {ms : List SM} {w : World} (hS : SlA w a (smcs ms)) (hok : ∀ x ∈ ms, x.ok) (hlen : ms.length ≤ 9223372036854775807) :
    Does Try.prog 38 #[.slice a ms.length cap] w fun v w' => ∃ (X : List EL) (al : Option Addr) (cl : Nat) (ab : Option Addr) (cb : Nat), GX X ∧ X.length ≤ 10 ∧ v = .tuple #[.slice al X.length cl, .slice ab (prt X).length cb] ∧
      Hp [] w w' [Ro 46 1 al X.length cl (elvs X), Rl X, RB ab cb (prt X)] := by
  refine Does_of (args := [_]) Try.func38 rfl rfl Try.ntmps38 rfl ?_
  have hH := Hp.start w
  repeat (first | refine WS_seq ?_ | refine WS_region ?_ | refine WL_nil ?_ | (refine WL_r (by first | refine k_buildS (cs := [.slice none 0 0, .int .i64 0]) (Ty.zer rfl) (Ty.plc rfl) rfl | refine Run_pev rfl) rfl ?_))
  refine WL_s (H_box hH rfl rfl rfl ?_)
  try clear hH
  intro w2 q hH
  replace hH : Hp [] w w2 [Rw q none 0 []] := hH.as 0 rfl (fun x hx => by simpa [Rw, sep, Rb, RBy, Ro, blk] using hx) (fun hB => ⟨hB, Own.nil, fun _ _ hb => by simp [RBy, Ro, blk] at hb⟩)
  replace hH := (hH.nu (New.nilO (e := 46) (sz := 1))).nu Rl.nil
  change Hp _ _ _ [_, _, _] at hH
  repeat (first | refine WS_seq ?_ | refine WS_region ?_ | refine WL_nil ?_ | refine WS_block ?_ | (refine WL_r (by first | refine Run_pev rfl | refine k_len rfl (Ty.isl rfl) | apply k_makeFunc) rfl ?_))
  refine WS_loop (G := (Nat) × (List EL) × (Option Addr) × (Nat) × (Option Addr) × (Nat)) (fun | (i, X, al, cl, a1, c1) => ms.length - i) 34359730656 (fun | (i, X, al, cl, a1, c1) => [(13, .int .i64 i), (5, .slice al X.length cl)]) (fun | (i, X, al, cl, a1, c1), w' => i ≤ ms.length ∧ X.length ≤ i ∧ X.length ≤ 10 ∧ GX X ∧ Hp [] w w' [Rw q a1 c1 (bL X), Ro 46 1 al X.length cl (elvs X), Rl X]) (0, [], none, 0, none, 0) ⟨rfl, rfl, trivial⟩ ⟨by omega, by simp, by simp, by intro x hx; simp at hx, hH⟩ ?_
  rintro ⟨i, X, al, cl, a1, c1⟩ w' σ ⟨hi, hXi, hX10, hG, hH⟩ IH
  show WS _ _ _ _ _ (updL [(13, .int .i64 i), (5, .slice al X.length cl)] _) _
  by_cases hlt : i < ms.length
  · have hS1 := hH.old hS
    have hml := smcs_len ms
    have hat := smcs_at ms i hlt
    have hmo := hok _ (List.getElem_mem hlt)
    generalize ms[i] = x at *
    have hle := bL_le hG
    repeat (first | refine WS_seq ?_ | refine WS_region ?_ | refine WL_nil ?_ | refine WS_block ?_ | refine WS_skip ?_ | refine WS_yes rfl (by omega) ?_ | (refine WL_r (by first | refine k_ix rfl rfl hS1 hml (by decide) (Ty.sle rfl) (by omega) | refine k_loadC rfl hS1 hat rfl (Ty.shp rfl) | refine Run_pev rfl) rfl ?_))
    refine WL_s (H_alloc hH (Ty.zer rfl) rfl ?_)
    try clear hH
    intro w3 b8 hH
    change Hp _ _ _ [_, _, _, _] at hH
    repeat ((refine WL_r (by first | refine Run_pev rfl | apply k_makeFunc) rfl ?_))
    refine WL_s (H_storeA 3 hH rfl rfl rfl rfl rfl x.one (Ty.shp rfl) ?_)
    clear hH
    intro w4 hH
    change Hp _ _ _ [_, _, _, _] at hH
    have hB8 : Blk w4 b8 59 x.cells.toArray := hH.b 3 rfl
    repeat (first | refine WS_seq ?_ | refine WS_region ?_ | refine WL_nil ?_ | (refine WL_r (by refine k_loadA rfl hB8 rfl (Ty.shp rfl)) rfl ?_))
    try refine WL_gyes rfl rfl rfl ?_
    refine WL_s (S_call (events_spec hmo) rfl rfl ?_)
    rintro v w5 ⟨ps, a5, c5, hps, rfl, hN⟩
    replace hH := (hH.nu hN).del 3
    clear hN hB8
    change Hp _ _ _ [_, _, _, _] at hH
    by_cases hp0 : ps = [] ∨ ¬ i < 10
    · replace hH := hH.take 3
      change Hp _ _ _ [_, _, _] at hH
      rcases hp0 with rfl | h10
      · repeat (first | refine WS_seq ?_ | refine WS_region ?_ | refine WL_nil ?_ | refine WS_inBlock ?_ | refine WS_skip ?_ | refine WS_false rfl ?_ | refine WL_gno rfl rfl rfl rfl rfl ?_ | (refine WL_r (by first | refine Run_pev rfl | refine k_add64 rfl rfl (by omega) | refine k_len rfl (Ty.isl rfl) | apply k_makeFunc) rfl ?_))
        refine IH (i + 1, X, al, cl, a1, c1) _ _ ?_ ?_ ?_ ?_
        · simp only; omega
        · exact ⟨rfl, rfl, trivial⟩
        · exact (by repeat (first | with_reducible apply Agr.refl | refine Agr.upd rfl ?_ | refine Agr.updL rfl ?_ | refine Agr.mrg rfl ?_))
        · exact ⟨by omega, by omega, hX10, hG, hH⟩
      · by_cases hp0 : ps = []
        · subst hp0
          repeat (first | refine WS_seq ?_ | refine WS_region ?_ | refine WL_nil ?_ | refine WS_inBlock ?_ | refine WS_skip ?_ | refine WS_false rfl ?_ | refine WL_gno rfl rfl rfl rfl rfl ?_ | (refine WL_r (by first | refine Run_pev rfl | refine k_add64 rfl rfl (by omega) | refine k_len rfl (Ty.isl rfl) | apply k_makeFunc) rfl ?_))
          refine IH (i + 1, X, al, cl, a1, c1) _ _ ?_ ?_ ?_ ?_
          · simp only; omega
          · exact ⟨rfl, rfl, trivial⟩
          · exact (by repeat (first | with_reducible apply Agr.refl | refine Agr.upd rfl ?_ | refine Agr.updL rfl ?_ | refine Agr.mrg rfl ?_))
          · exact ⟨by omega, by omega, hX10, hG, hH⟩
        · have hpl : 0 < ps.length := by cases ps with | nil => exact absurd rfl hp0 | cons _ _ => simp
          repeat (first | refine WS_seq ?_ | refine WS_region ?_ | refine WL_nil ?_ | refine WS_inBlock ?_ | refine WS_skip ?_ | refine WS_no rfl (by omega) ?_ | refine WL_gyes rfl rfl (dT (by omega)) ?_ | (refine WL_r (by first | refine Run_pev rfl | refine k_add64 rfl rfl (by omega) | refine k_len rfl (Ty.isl rfl) | apply k_makeFunc | refine k_pick_t (dT (by omega)) rfl) rfl ?_))
          refine IH (i + 1, X, al, cl, a1, c1) _ _ ?_ ?_ ?_ ?_
          · simp only; omega
          · exact ⟨rfl, rfl, trivial⟩
          · exact (by repeat (first | with_reducible apply Agr.refl | refine Agr.upd rfl ?_ | refine Agr.updL rfl ?_ | refine Agr.mrg rfl ?_))
          · exact ⟨by omega, by omega, hX10, hG, hH⟩
    · have hp1 : ps ≠ [] := fun h => hp0 (.inl h)
      have h10 : i < 10 := by
        rcases Nat.lt_or_ge i 10 with h | h
        · exact h
        · exact absurd (.inr (by omega)) hp0
      have hg : GB ps := hps.resolve_left hp1
      have hpl : 0 < ps.length := by cases ps with | nil => exact absurd rfl hp1 | cons _ _ => simp
      repeat (first | refine WS_seq ?_ | refine WS_region ?_ | refine WL_nil ?_ | refine WS_yes rfl (by omega) ?_ | refine WL_gyes rfl rfl (dT (by omega)) ?_ | (refine WL_r (by first | refine Run_pev rfl | refine k_len rfl (Ty.isl rfl) | refine k_pick_t (dT (by omega)) rfl) rfl ?_))
      try refine WL_gyes rfl rfl rfl ?_
      refine WL_s (H_lit (out := [.slice a5 ps.length c5]) hH (Ty.sle rfl) (Ty.zer rfl) rfl rfl rfl (by decide) rfl ?_)
      try clear hH
      intro _ b36 hH
      change Hp _ _ _ [_, _, _, _, _] at hH
      skip
      try refine WL_gyes rfl rfl rfl ?_
      refine WL_s (H_append 1 hH rfl (Ty.sle rfl) (Ty.zer rfl) rfl (Ty.byt rfl) (by decide) rfl rfl ((hH.b 4 rfl).sl0) (by simp; try omega) (by simp) (by omega) (by simp only [maxLen]; omega) rfl ?_)
      try clear hH
      intro _ a6 c6 hH
      change Hp _ _ _ [_, _, _, _, _] at hH
      replace hH := hH.take 4
      change Hp _ _ _ [_, _, _, _] at hH
      repeat (first | refine WS_region ?_ | refine WL_nil ?_ | (refine WL_r (by refine Run_pev rfl) rfl ?_))
      try refine WL_gyes rfl rfl rfl ?_
      refine WL_s (S_call (bput_spec hg rfl (by omega) ((hH.o 3 rfl).sl) (hH.at 0 rfl) (hH.dj 0 3 rfl rfl (by decide))) rfl rfl ?_)
      rintro v w7 ⟨rfl, a7, c7, hU⟩
      replace hH := hH.up 0 rfl hU
      clear hU
      change Hp _ _ _ [_, _, _, _] at hH
      replace hH := Rl.put (Y := X ++ [(a5, c5, ps)]) 2 3 hH rfl rfl (by decide) (fun y hy => by simpa using hy)
      change Hp _ _ _ [_, _, _] at hH
      rw [← bL_snoc X (a5, c5, ps)] at hH
      replace hH : Hp [] w w7 [Rw q a7 c7 (bL (X ++ [(a5, c5, ps)])), Ro 46 1 a6 (X ++ [(a5, c5, ps)]).length c6 (elvs (X ++ [(a5, c5, ps)])), Rl (X ++ [(a5, c5, ps)])] := by
        have e1 : (X ++ [(a5, c5, ps)]).length = X.length + 1 := by simp
        rw [e1, ← elvs_app]; exact hH
      have hG2 := hG.snoc (x := (a5, c5, ps)) hg
      have e1 : (X ++ [(a5, c5, ps)]).length = X.length + 1 := by simp
      repeat (first | refine WS_region ?_ | refine WL_nil ?_ | refine WS_inBlock ?_ | (refine WL_r (by first | refine Run_pev rfl | refine k_add64 rfl rfl (by omega) | apply k_makeFunc) rfl ?_))
      refine IH (i + 1, X ++ [(a5, c5, ps)], a6, c6, a7, c7) _ _ ?_ ?_ ?_ ?_
      · simp only; omega
      · exact ⟨rfl, (by rw [e1]; rfl), trivial⟩
      · exact (by repeat (first | with_reducible apply Agr.refl | refine Agr.upd rfl ?_ | refine Agr.updL rfl ?_ | refine Agr.mrg rfl ?_))
      · exact ⟨by omega, by omega, by omega, hG2, hH⟩
  clear IH
  have hle := bL_le hG
  have hpl := pk_len (bL X ++ [true])
  rw [List.length_append, List.length_singleton] at hpl
  repeat (first | refine WS_seq ?_ | refine WS_region ?_ | refine WL_nil ?_ | refine WS_exit rfl ?_ | refine WS_no rfl (by omega) ?_ | (refine WL_r (by refine Run_pev rfl) rfl ?_))
  try refine WL_gyes rfl rfl rfl ?_
  refine WL_s (S_call (wdone_spec (hH.at 0 rfl) (by omega)) rfl rfl ?_)
  rintro v w8 ⟨a8, c8, rfl, hN⟩
  replace hH := hH.nu hN
  clear hN
  change Hp _ _ _ [_, _, _, _] at hH
  skip
  try refine WL_gyes rfl rfl rfl ?_
  refine WL_s (S_call (put_spec (hH.o 3 rfl).sl (pk_byt _) rfl (by omega)) rfl rfl ?_)
  rintro v w9 ⟨a9, c9, rfl, hN⟩
  replace hH := (hH.nu hN).del 3
  clear hN
  change Hp _ _ _ [_, _, _, _] at hH
  repeat (first | refine WL_nil ?_ | (refine WL_r (by first | refine Run_pev rfl | apply k_makeFunc) rfl ?_))
  exact WS_ret2 Try.func38 rfl ⟨X, al, cl, a9, c9, hG, hX10, rfl, hH.del 0⟩
end Go.Proofs.Ytnamafelcjgjfaa
