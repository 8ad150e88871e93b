/- The law SalvageEnds: of a part of which one bit is turned: the blocks ahead of it are had as they were, and those behind it that are read from the end; no condition. -/
import Derived.Test.YtnamafelcjgjfaaSh
import Derived.Test.YtnamafelcjgjfaaLaw24b
import Derived.Test.YtnamafelcjgjfaaK19
import Derived.Test.YtnamafelcjgjfaaK8
import Derived.Test.YtnamafelcjgjfaaRows
namespace Go.Proofs.Ytnamafelcjgjfaa
open Go Go.K Go.P Go.RowKit Go.Proofs
theorem evC_one (ps : List (Nat × Int)) : ∀ u ∈ evC ps, u.oneCell' = true := by rw [evC_mk]; exact evM_one _
/-- What Kept answers. -/
def Kpt (P : List PS) (f k m : Nat) (v : Value) (w w' : World) : Prop :=
  ∃ (Y : List EL) (b : Nat), pse Y = kp P f k ∧ v = .slice (some ⟨b, 0, none⟩) m m ∧ Hp [] w w' [Ro 46 1 (some ⟨b, 0, none⟩) m m (elvs Y), Rl Y]
/-- So many are left out. -/
def lss (f m : Nat) (less : Int) : Nat := if f = m then 0 else less.toNat
set_option maxRecDepth 20000 in
set_option maxHeartbeats 8000000 in
theorem kept_spec {ae : Option Addr} {ce f k m : Nat} {E : List EL} {less : Int} {w : World} (hS : SlA w ae (elvs E)) (hR : (Rl E).holds w) (hE : ∀ x ∈ E, x.2.2.length ≤ 64) (hn : E.length = m) (hm : m ≤ 384) (hf : f ≤ m) (hk : k ≤ m) (hl : -9223372036854775808 ≤ less ∧ less ≤ 9223372036854775807) :
    Does Try.prog 40 #[.agg #[.slice ae m ce, .int .i64 (f : Nat), .int .i64 (k : Nat)], .int .i64 less] w fun v w' => Kpt (pse E) (f - lss f m less) (k - lss f m less) m v w w' := by
  refine Does_of (args := [_, _]) Try.func40 rfl rfl Try.ntmps40 rfl ?_
  have hH := Hp.start w
  have hel := elvs_len E
  have hpl := pse_len E
  repeat (first | refine WS_seq ?_ | refine WS_region ?_)
  refine WL_s (H_box (cs := #[.slice ae m ce, .int .i64 (f : Nat), .int .i64 (k : Nat)]) hH rfl rfl rfl ?_)
  try clear hH
  intro w1 b2 hH
  change Hp _ _ _ [_] at hH
  have hB2 : Blk _ b2 71 #[.slice ae m ce, .int .i64 (f : Nat), .int .i64 (k : Nat)] := hH.b 0 rfl
  repeat (first | refine WS_seq ?_ | refine WS_region ?_ | refine WL_nil ?_ | (refine WL_r (by first | refine k_fa rfl (Ty.fld rfl rfl) | refine k_loadb rfl hB2 rfl (Ty.shp rfl) | refine Run_pev rfl | refine k_len rfl (Ty.isl rfl)) rfl ?_))
  refine WL_s (H_make (n := m) hH (Ty.sle rfl) (Ty.zer rfl) (Ty.byt rfl) rfl rfl rfl (by omega) (by omega) (by simp only [maxLen]; omega) rfl ?_)
  clear hH hB2
  intro w2 bo hH
  change Hp _ _ _ [_, _] at hH
  replace hH := (hH.made 1 rfl (by omega)).nu (Rl.zero m)
  change Hp _ _ _ [_, _, _] at hH
  rw [← elvs_zel] at hH
  have hB2 : Blk _ b2 71 #[.slice ae m ce, .int .i64 (f : Nat), .int .i64 (k : Nat)] := hH.b 0 rfl
  obtain ⟨d, hd⟩ : ∃ d, d = lss f m less := ⟨_, rfl⟩
  rw [← hd]
  have hd64 : d ≤ 9223372036854775807 := by rw [hd]; unfold lss; split <;> omega
  apply join
  · intro key
    by_cases hfm : f = m
    · have hd0 : d = 0 := by rw [hd]; exact if_pos hfm
      repeat (first | refine WS_seq ?_ | refine WS_region ?_ | refine WL_nil ?_ | refine WS_block ?_ | refine WS_true rfl ?_ | (refine WL_r (by first | refine k_fa rfl (Ty.fld rfl rfl) | refine k_loadb rfl hB2 rfl (Ty.shp rfl) | refine (k_eql (q := .i64) rfl rfl).is (bT (by omega)) | refine Run_pev rfl | refine k_len rfl (Ty.isl rfl) | refine k_max rfl rfl | apply k_makeFunc) rfl ?_))
      refine WS_keep [(1, .int .i64 (d : Nat)), (2, pt b2), (5, .slice (some ⟨bo, 0, none⟩) m m), (6, .int .i64 0)] ⟨congrArg (Value.int .i64) (by omega), rfl, rfl, rfl, trivial⟩ (fun σ => ?_)
      exact key σ
    · have hd0 : max less 0 = (d : Int) := by rw [hd]; unfold lss; rw [if_neg hfm]; omega
      repeat (first | refine WS_seq ?_ | refine WS_region ?_ | refine WL_nil ?_ | refine WS_block ?_ | refine WS_skip ?_ | refine WS_false rfl ?_ | (refine WL_r (by first | refine k_fa rfl (Ty.fld rfl rfl) | refine k_loadb rfl hB2 rfl (Ty.shp rfl) | refine (k_eql (q := .i64) rfl rfl).is (bF (by omega)) | refine Run_pev rfl | refine k_len rfl (Ty.isl rfl) | refine k_max rfl rfl | apply k_makeFunc) rfl ?_))
      refine WS_keep [(1, .int .i64 (d : Nat)), (2, pt b2), (5, .slice (some ⟨bo, 0, none⟩) m m), (6, .int .i64 0)] ⟨congrArg (Value.int .i64) (by omega), rfl, rfl, rfl, trivial⟩ (fun σ => ?_)
      exact key σ
  clear hd hB2
  intro σ
  obtain ⟨f2, hf2⟩ : ∃ f2, f2 = f - d := ⟨_, rfl⟩
  obtain ⟨k2, hk2⟩ : ∃ k2, k2 = k - d := ⟨_, rfl⟩
  rw [← hf2, ← hk2]
  refine WS_loop (G := (Nat) × (List EL)) (fun | (i, Y) => f2 - i) 4398045462592 (fun | (i, Y) => [(6, .int .i64 i)]) (fun | (i, Y), w' => i ≤ f2 ∧ pse Y = kp (pse E) i 0 ∧ Hp [] w w' [Rb b2 71 #[.slice ae m ce, .int .i64 (f : Nat), .int .i64 (k : Nat)], Ro 46 1 (some ⟨bo, 0, none⟩) m m (elvs Y), Rl Y]) (0, zel m) ⟨rfl, trivial⟩ ⟨by omega, by rw [kp_zero, hpl, hn, pse_zel, sE_nil], hH⟩ ?_
  rintro ⟨i, Y⟩ w' σ ⟨hi, hY, hH⟩ IH
  show WS _ _ _ _ _ (updL [(6, .int .i64 i)] _) _
  have hB2 : Blk _ b2 71 #[.slice ae m ce, .int .i64 (f : Nat), .int .i64 (k : Nat)] := hH.b 0 rfl
  by_cases hlt : i < f2
  · have hiE : i < E.length := by omega
    have hSe := hH.old hS
    have hat := elvs_at E hiE
    have hxs : SlA w E[i].1 (evC E[i].2.2) := Rl.at hR hiE
    have hx64 := hE _ (List.getElem_mem hiE)
    have hkf := kp_front (P := pse E) (i := i) (by omega)
    rw [show (pse E)[i]'(by omega) = E[i].2.2 by simp [pse]] at hkf
    generalize E[i] = x at *
    obtain ⟨ax, cx, ps⟩ := x
    simp only at hxs hx64 hkf
    replace hat : (elvs E)[i]? = some (.slice ax ps.length cx) := hat
    have hcl := evC_len ps
    repeat (first | refine WS_seq ?_ | refine WS_region ?_ | refine WL_nil ?_ | refine WS_block ?_ | refine WS_skip ?_ | refine WS_yes rfl (by omega) ?_ | (refine WL_r (by first | refine k_fa rfl (Ty.fld rfl rfl) | refine k_loadb rfl hB2 rfl (Ty.shp rfl) | refine Run_pev rfl | refine k_sub64 rfl rfl (by omega) | refine k_len rfl (Ty.isl rfl) | refine k_min rfl rfl | refine k_max rfl rfl) rfl ?_))
    clear hB2
    try refine WL_gyes rfl rfl rfl ?_
    refine WL_s (H_lit (out := []) hH (Ty.sle rfl) (Ty.zer rfl) rfl rfl rfl (by decide) rfl ?_)
    try clear hH
    intro _ b34 hH
    change Hp _ _ _ [_, _, _, _] at hH
    replace hH := hH.as 3 rfl (r' := Re (some ⟨b34, 0, none⟩) 0 0 []) (fun _ h => h) (fun h => (h : Blk _ _ _ _).own (n := 0) (sz := 3) rfl (by decide))
    change Hp _ _ _ [_, _, _, _] at hH
    have hB2 : Blk _ b2 71 #[.slice ae m ce, .int .i64 (f : Nat), .int .i64 (k : Nat)] := hH.b 0 rfl
    have hSe := hH.old hS
    repeat ((refine WL_r (by first | refine k_fa rfl (Ty.fld rfl rfl) | refine k_loadb rfl hB2 rfl (Ty.shp rfl) | refine k_ix1 rfl rfl hSe (by omega) (Ty.sle rfl) (by omega) | refine k_loads rfl hSe hat (Ty.shp rfl) | refine Run_pev rfl) rfl ?_))
    clear hB2
    refine WL_s (H_append 3 hH rfl (Ty.sle rfl) (Ty.zer rfl) rfl (Ty.byt rfl) (by decide) rfl rfl (hH.old hxs) hcl (evC_one ps) (by omega) (by simp only [maxLen]; omega) rfl ?_)
    clear hH
    intro w5 a5 c5 hH
    change Hp _ _ _ [_, _, _, _] at hH
    rw [Nat.zero_add ps.length, List.nil_append] at hH
    rw [Nat.zero_add ps.length]
    repeat ((refine WL_r (by first | refine k_ix1S rfl rfl (Ty.sle rfl) (by omega) | apply k_makeFunc) rfl ?_))
    refine WL_s (H_storeO 1 (v := elv (a5, c5, ps)) hH rfl rfl rfl (by omega) rfl (Ty.shp rfl) ?_)
    clear hH
    intro w6 hH
    change Hp _ _ _ [_, _, _, _] at hH
    rw [show ((i : Nat) : Int).toNat = i from rfl, elvs_set] at hH
    replace hH := Rl.put (Y := Y.set (i) (a5, c5, ps)) 2 3 hH rfl rfl (by decide) (fun y hy => by
      rcases List.mem_or_eq_of_mem_set hy with h | h
      · exact .inl h
      · exact .inr h)
    change Hp _ _ _ [_, _, _] at hH
    have hY2 : pse (Y.set (i) (a5, c5, ps)) = kp (pse E) (i + 1) 0 := by rw [pse_set, hY]; exact hkf
    generalize Y.set (i) (a5, c5, ps) = Y2 at *
    repeat (first | refine WS_region ?_ | refine WL_nil ?_ | refine WS_inBlock ?_ | (refine WL_r (by first | refine Run_pev rfl | refine k_add64 rfl rfl (by omega) | apply k_makeFunc) rfl ?_))
    refine IH (i + 1, Y2) _ _ ?_ ?_ ?_ ?_
    · simp only; omega
    · exact ⟨rfl, trivial⟩
    · exact (by repeat (first | with_reducible apply Agr.refl | refine Agr.upd rfl ?_ | refine Agr.updL rfl ?_ | refine Agr.mrg rfl ?_))
    · exact ⟨by omega, hY2, hH⟩
  obtain rfl : i = f2 := by omega
  clear IH
  repeat (first | refine WS_seq ?_ | refine WS_region ?_ | refine WL_nil ?_ | refine WS_block ?_ | refine WS_exit rfl ?_ | refine WS_no rfl (by omega) ?_ | (refine WL_r (by first | refine k_fa rfl (Ty.fld rfl rfl) | refine k_loadb rfl hB2 rfl (Ty.shp rfl) | refine Run_pev rfl | refine k_sub64 rfl rfl (by omega) | refine k_len rfl (Ty.isl rfl) | refine k_min rfl rfl | refine k_max rfl rfl | apply k_makeFunc) rfl ?_))
  clear hB2
  refine WS_loop (G := (Nat) × (List EL)) (fun | (j, Y) => k2 - j) 1180591616319364792448 (fun | (j, Y) => [(7, .int .i64 ((j : Int) + 1))]) (fun | (j, Y), w' => j ≤ k2 ∧ pse Y = kp (pse E) i j ∧ Hp [] w w' [Rb b2 71 #[.slice ae m ce, .int .i64 (f : Nat), .int .i64 (k : Nat)], Ro 46 1 (some ⟨bo, 0, none⟩) m m (elvs Y), Rl Y]) (0, Y) ⟨rfl, trivial⟩ ⟨by omega, hY, hH⟩ ?_
  rintro ⟨j, Y⟩ w' σ ⟨hj, hY, hH⟩ IH
  show WS _ _ _ _ _ (updL [(7, .int .i64 ((j : Int) + 1))] _) _
  have hB2 : Blk _ b2 71 #[.slice ae m ce, .int .i64 (f : Nat), .int .i64 (k : Nat)] := hH.b 0 rfl
  by_cases hlt : j < k2
  · have hiE : m - (j + 1) < E.length := by omega
    have hSe := hH.old hS
    have hat := elvs_at E hiE
    have hxs : SlA w E[m - (j + 1)].1 (evC E[m - (j + 1)].2.2) := Rl.at hR hiE
    have hx64 := hE _ (List.getElem_mem hiE)
    have hkf := kp_back (P := pse E) (f := i) (k := j) (by omega)
    simp only [hpl, hn] at hkf
    rw [show (pse E)[m - (j + 1)]'(by omega) = E[m - (j + 1)].2.2 by simp [pse]] at hkf
    generalize E[m - (j + 1)] = x at *
    obtain ⟨ax, cx, ps⟩ := x
    simp only at hxs hx64 hkf
    replace hat : (elvs E)[m - (j + 1)]? = some (.slice ax ps.length cx) := hat
    have hcl := evC_len ps
    have hix : ((m : Int) - ((j : Int) + 1)).toNat = m - (j + 1) := by omega
    repeat (first | refine WS_seq ?_ | refine WS_region ?_ | refine WL_nil ?_ | refine WS_block ?_ | refine WS_skip ?_ | refine WS_yes rfl (by omega) ?_ | (refine WL_r (by first | refine k_fa rfl (Ty.fld rfl rfl) | refine k_loadb rfl hB2 rfl (Ty.shp rfl) | refine Run_pev rfl | refine k_sub64 rfl rfl (by omega) | refine k_len rfl (Ty.isl rfl) | refine k_min rfl rfl | refine k_max rfl rfl) rfl ?_))
    clear hB2
    try refine WL_gyes rfl rfl rfl ?_
    refine WL_s (H_lit (out := []) hH (Ty.sle rfl) (Ty.zer rfl) rfl rfl rfl (by decide) rfl ?_)
    try clear hH
    intro _ b34 hH
    change Hp _ _ _ [_, _, _, _] at hH
    replace hH := hH.as 3 rfl (r' := Re (some ⟨b34, 0, none⟩) 0 0 []) (fun _ h => h) (fun h => (h : Blk _ _ _ _).own (n := 0) (sz := 3) rfl (by decide))
    change Hp _ _ _ [_, _, _, _] at hH
    have hB2 : Blk _ b2 71 #[.slice ae m ce, .int .i64 (f : Nat), .int .i64 (k : Nat)] := hH.b 0 rfl
    have hSe := hH.old hS
    rw [← hix] at hat
    repeat ((refine WL_r (by first | refine k_fa rfl (Ty.fld rfl rfl) | refine k_loadb rfl hB2 rfl (Ty.shp rfl) | refine k_ix1 rfl rfl hSe (by omega) (Ty.sle rfl) (by omega) | refine k_loads rfl hSe hat (Ty.shp rfl) | refine Run_pev rfl | refine k_sub64 rfl rfl (by omega) | refine k_len rfl (Ty.isl rfl)) rfl ?_))
    clear hB2
    refine WL_s (H_append 3 hH rfl (Ty.sle rfl) (Ty.zer rfl) rfl (Ty.byt rfl) (by decide) rfl rfl (hH.old hxs) hcl (evC_one ps) (by omega) (by simp only [maxLen]; omega) rfl ?_)
    clear hH
    intro w5 a5 c5 hH
    change Hp _ _ _ [_, _, _, _] at hH
    rw [Nat.zero_add ps.length, List.nil_append] at hH
    rw [Nat.zero_add ps.length]
    repeat ((refine WL_r (by first | refine k_ix1S rfl rfl (Ty.sle rfl) (by omega) | apply k_makeFunc) rfl ?_))
    refine WL_s (H_storeO 1 (v := elv (a5, c5, ps)) hH rfl rfl rfl (by omega) rfl (Ty.shp rfl) ?_)
    clear hH
    intro w6 hH
    change Hp _ _ _ [_, _, _, _] at hH
    rw [hix, elvs_set] at hH
    replace hH := Rl.put (Y := Y.set (m - (j + 1)) (a5, c5, ps)) 2 3 hH rfl rfl (by decide) (fun y hy => by
      rcases List.mem_or_eq_of_mem_set hy with h | h
      · exact .inl h
      · exact .inr h)
    change Hp _ _ _ [_, _, _] at hH
    have hY2 : pse (Y.set (m - (j + 1)) (a5, c5, ps)) = kp (pse E) i (j + 1) := by rw [pse_set, hY]; exact hkf
    generalize Y.set (m - (j + 1)) (a5, c5, ps) = Y2 at *
    repeat (first | refine WS_region ?_ | refine WL_nil ?_ | refine WS_inBlock ?_ | (refine WL_r (by first | refine Run_pev rfl | refine k_add64 rfl rfl (by omega) | apply k_makeFunc) rfl ?_))
    refine IH (j + 1, Y2) _ _ ?_ ?_ ?_ ?_
    · simp only; omega
    · exact ⟨rfl, trivial⟩
    · exact (by repeat (first | with_reducible apply Agr.refl | refine Agr.upd rfl ?_ | refine Agr.updL rfl ?_ | refine Agr.mrg rfl ?_))
    · exact ⟨by omega, hY2, hH⟩
  obtain rfl : j = k2 := by omega
  clear IH
  repeat (first | refine WS_seq ?_ | refine WS_region ?_ | refine WL_nil ?_ | refine WS_exit rfl ?_ | refine WS_no rfl (by omega) ?_ | (refine WL_r (by first | refine k_fa rfl (Ty.fld rfl rfl) | refine k_loadb rfl hB2 rfl (Ty.shp rfl) | refine Run_pev rfl | refine k_sub64 rfl rfl (by omega) | refine k_len rfl (Ty.isl rfl) | refine k_min rfl rfl | refine k_max rfl rfl | apply k_makeFunc) rfl ?_))
  exact WS_ret1 Try.func40 rfl ⟨Y, bo, hY, rfl, hH.del 0⟩
/-- A part that is right. -/
theorem SOf.right {X : List PS} {m : Nat} {v : Value} {w w' : World} (hX : GP X) (hm : X.length ≤ m) (h : SOf (escF 0 (pk (bP X ++ [true]))) m v w w') : ∃ (E : List EL) (b : Nat), pse E = sE m X [] ∧ v = .agg #[.slice (some ⟨b, 0, none⟩) m m, .int .i64 (X.length : Nat), .int .i64 0] ∧ Hp [] w w' [Ro 46 1 (some ⟨b, 0, none⟩) m m (elvs E), Rl E] := by
  obtain ⟨bs, E, b, hb, hE, rfl, hQ⟩ := h
  obtain rfl := hb.esc
  obtain ⟨h1, h2⟩ := s_right hX hm
  rw [h1, h2] at hE ⊢
  exact ⟨E, b, hE, rfl, hQ⟩
set_option maxHeartbeats 4000000 in
theorem awake24 (w : World) : Does Try.prog 37 #[] w fun v w' => v = .bool true ∧ Ext [] w w' := by
  refine Does_of (args := []) Try.func37 rfl rfl Try.ntmps37 rfl ?_
  have hH := Hp.start w
  have hg : GB [(0, (1 : Int))] := ⟨by simp, by simp, fun p hp => by simp at hp; subst hp; decide⟩
  repeat (first | refine WS_seq ?_ | refine WS_region ?_ | refine WL_nil ?_ | (refine WL_r (by first | refine k_buildS (cs := [.slice none 0 0, .int .i64 0]) (Ty.zer rfl) (Ty.plc rfl) rfl | refine Run_pev rfl) rfl ?_))
  refine WL_s (H_box hH rfl rfl rfl ?_)
  try clear hH
  intro w1 q hH
  replace hH : Hp [] w w1 [Rw q none 0 []] := hH.as 0 rfl (fun x hx => by simpa [Rw, sep, Rb, RBy, Ro, blk] using hx) (fun hB => ⟨hB, Own.nil, fun _ _ hb => by simp [RBy, Ro, blk] at hb⟩)
  repeat (first | refine WS_seq ?_ | refine WS_region ?_ | refine WL_nil ?_ | (refine WL_r (by first | refine k_buildS (cs := evc 0 1 true) (Ty.zer rfl) (Ty.plc rfl) rfl | refine Run_pev rfl) rfl ?_))
  try refine WL_gyes rfl rfl rfl ?_
  refine WL_s (H_lit (out := (evc 0 1 true)) hH (Ty.sle rfl) (Ty.zer rfl) rfl rfl rfl (by decide) rfl ?_)
  try clear hH
  intro _ b6 hH
  change Hp _ _ _ [_, _] at hH
  skip
  try refine WL_gyes rfl rfl rfl ?_
  refine WL_s (S_call (bput_spec hg rfl (by decide) ((hH.b 1 rfl).sl0) (hH.at 0 rfl) (hH.dj 0 1 rfl rfl (by decide))) rfl rfl ?_)
  rintro v w2 ⟨rfl, a2, c2, hU⟩
  replace hH := hH.up 0 rfl hU
  clear hU
  change Hp _ _ _ [_, _] at hH
  have eb : [] ++ bb [(0, (1 : Int))] = bP [[(0, 1)]] := by simp [bP]
  have hbl : (bP [[(0, (1 : Int))]]).length = 4 := by decide +kernel
  rw [eb] at hH
  have hX : GP [[(0, (1 : Int))]] := fun x hx => by simp at hx; subst hx; exact hg
  have hXl : ([[(0, (1 : Int))]] : List PS).length = 1 := rfl
  generalize hXX : ([[(0, (1 : Int))]] : List PS) = X at *
  have hpl := pk_len (bP X ++ [true])
  rw [List.length_append, List.length_singleton, hbl] at hpl
  have hel := escF_len (pk (bP X ++ [true])) 0
  repeat (first | refine WS_seq ?_ | refine WS_region ?_ | refine WL_nil ?_ | (refine WL_r (by refine Run_pev rfl) rfl ?_))
  try refine WL_gyes rfl rfl rfl ?_
  refine WL_s (S_call (wdone_spec (hH.at 0 rfl) (by omega)) rfl rfl ?_)
  rintro v w8 ⟨a8, c8, rfl, hN⟩
  replace hH := hH.nu hN
  clear hN
  change Hp _ _ _ [_, _, _] at hH
  skip
  try refine WL_gyes rfl rfl rfl ?_
  refine WL_s (S_call (put_spec (hH.o 2 rfl).sl (pk_byt _) rfl (by omega)) rfl rfl ?_)
  rintro v w9 ⟨a9, c9, rfl, hN⟩
  replace hH := hH.nu hN
  clear hN
  change Hp _ _ _ [_, _, _, _] at hH
  skip
  try refine WL_gyes rfl rfl rfl ?_
  refine WL_s (S_call (sof_spec (m := 1) (hH.o 3 rfl).sl (escF_byt _ _ (pk_byt _)) rfl (by omega) (by decide)) rfl rfl ?_)
  rintro v w10 hSO
  obtain ⟨E, b, hpE, rfl, hQ⟩ := SOf.right hX (by omega) hSO
  replace hH := Hp.cat hH hQ
  clear hQ hSO
  change Hp _ _ _ [_, _, _, _, _, _] at hH
  obtain ⟨x, rfl⟩ : ∃ x, E = [x] := by
    have := congrArg List.length hpE
    rw [pse_len, sE_len (by simp; omega)] at this
    exact List.length_eq_one_iff.1 this
  obtain ⟨ax, cx, ps⟩ := x
  have hps : ps = [(0, 1)] := by
    have h1 := congrArg (·[0]?) hpE
    simp only [sE_at1 (m := 1) (F := X) (B := []) (i := 0) (by omega)] at h1
    subst hXX
    simpa [pse] using h1
  subst hps
  skip
  refine WL_s (H_alloc hH (Ty.zer rfl) rfl ?_)
  try clear hH
  intro w11 b2 hH
  change Hp _ _ _ [_, _, _, _, _, _, _] at hH
  skip
  refine WL_s (H_storeA 6 hH rfl rfl rfl rfl rfl b3_one (Ty.shp rfl) ?_)
  try clear hH
  intro w12 hH
  change Hp _ _ _ [_, _, _, _, _, _, _] at hH
  have hB2 := hH.b 6 rfl
  have hO := (hH.o 4 rfl).sl
  rw [hXl] at hB2
  have hat : (elvs [((ax, cx, [(0, (1 : Int))]) : EL)])[0]? = some (.slice ax 1 cx) := rfl
  repeat (first | refine WS_seq ?_ | refine WS_region ?_ | refine WL_nil ?_ | refine WL_gyes rfl rfl rfl ?_ | (refine WL_r (by first | refine k_fa rfl (Ty.fld rfl rfl) | refine k_loadb rfl hB2 rfl (Ty.shp rfl) | refine (k_eql (q := .i64) rfl rfl).is (bT rfl) | refine k_ix1 rfl rfl hO rfl (Ty.sle rfl) (by omega) | refine k_loads rfl hO hat (Ty.shp rfl) | refine Run_pev rfl | refine k_len rfl (Ty.isl rfl) | apply k_makeFunc) rfl ?_))
  exact WS_ret1 Try.func37 rfl ⟨rfl, hH.ext⟩
/-! ### For the laws -/
theorem prt_eq (X : List EL) : prt X = escF 0 (pk (bP (pse X) ++ [true])) := by unfold prt; rw [pse_bits]
theorem pse_get {E : List EL} {P : List PS} {i : Nat} (h : pse E = P) (hi : i < E.length) : P[i]? = some E[i].2.2 := h ▸ pse_at E hi
theorem prt_len {X : List EL} (hG : GX X) (h : X.length ≤ 10) : (prt X).length ≤ 10000 := by
  have h1 := escF_len (pk (bL X ++ [true])) 0
  have h2 := pk_len (bL X ++ [true])
  have h3 := bL_le hG
  rw [List.length_append, List.length_singleton] at h2
  unfold prt
  omega
theorem GX.le {X : List EL} (h : GX X) : ∀ x ∈ X, x.2.2.length ≤ 64 := fun x hx => (h x hx).len
theorem sE_good {m : Nat} {bs : List Bool} {x : PS} (h : x ∈ sE m (sF m bs) (sB m bs)) : x = [] ∨ GB x := by
  unfold sE at h
  rcases List.mem_append.1 h with h | h
  · exact .inr (sF_good m bs x h)
  · rcases List.mem_append.1 h with h | h
    · exact .inl (List.mem_replicate.1 h).2
    · exact .inr (sB_good m bs x (List.mem_reverse.1 h))
theorem sE_le {m : Nat} {bs : List Bool} {E : List EL} (hE : pse E = sE m (sF m bs) (sB m bs)) : ∀ x ∈ E, x.2.2.length ≤ 64 := fun x hx => by
  have h1 : x.2.2 ∈ pse E := List.mem_map_of_mem hx
  rw [hE] at h1
  rcases sE_good h1 with h | h
  · rw [h]; simp
  · exact h.len
end Go.Proofs.Ytnamafelcjgjfaa

namespace Go.Proofs.Ytnamafelcjgjfaa
open Go Go.K Go.P Go.RowKit Go.Proofs Go.ChangeShapes Go.WideShapes Go.ChangeAt
theorem pk_turn {bs : List Bool} {k c : Nat} (hk : k < bs.length) (hc : (pk bs)[k / 8]? = some c) : (pk bs).set (k / 8) (c ^^^ 128 / 2 ^ (k % 8)) = pk (bs.set k (!bs[k])) := by
  have hcb : c < 256 := pk_byt bs c (List.mem_of_getElem? hc)
  have hlt : k / 8 < (pk bs).length := (List.getElem?_eq_some_iff.1 hc).1
  refine bits_ext (fun x hx => ?_) (pk_byt _) (by rw [List.length_set, pk_len, pk_len, List.length_set]) (fun j => ?_)
  · rcases List.mem_or_eq_of_mem_set hx with h | h
    · exact pk_byt bs x h
    · subst h; exact Nat.xor_lt_two_pow (n := 8) hcb (Nat.lt_of_le_of_lt (Nat.div_le_self _ _) (by decide))
  · rw [pk_bit]
    have hb := pk_bit bs j
    unfold bitAt at hb ⊢
    simp only [List.getD_eq_getElem?_getD] at hb ⊢
    by_cases hj : k / 8 = j / 8
    · rw [hj, List.getElem?_set_self (by omega)]
      rw [hj] at hc
      rw [hc] at hb
      simp only [Option.getD_some] at hb ⊢
      rw [Nat.testBit_xor, hb, bit128 (k % 8) (by omega) (j % 8) (by omega)]
      by_cases hkj : k = j
      · subst hkj
        rw [List.getElem?_set_self hk, List.getElem?_eq_getElem hk]
        simp
      · rw [List.getElem?_set_ne hkj, decide_eq_false (by omega)]
        simp
    · rw [List.getElem?_set_ne hj, hb, List.getElem?_set_ne (by omega)]
theorem ahead_at {X : List EL} (hG : GX X) {k i : Nat} (hi : i < X.length) (h : (bL (X.take (i + 1))).length ≤ k) (b : Bool) : (sF X.length ((bL X).set k b))[i]? = some X[i].2.2 := by
  have e : bL X = bP (pse (X.take (i + 1))) ++ bL (X.drop (i + 1)) := by rw [← pse_bits, ← bL_app, List.take_append_drop]
  rw [e, List.set_append_right _ _ (by rw [← pse_bits]; exact h)]
  have hl : (pse (X.take (i + 1))).length = i + 1 := by rw [pse_len, List.length_take]; omega
  have := s_ahead (X := pse (X.take (i + 1))) (r := (bL (X.drop (i + 1))).set (k - (bP (pse (X.take (i + 1)))).length) b) (m := X.length) (i := i) (pse_good (fun x hx => hG x (List.mem_of_mem_take hx))) (by omega) (by omega)
  rw [this]
  simp [pse]
theorem behind_at {X : List EL} (hG : GX X) {k i j : Nat} (h0 : 0 < i) (hi : i < X.length) (h : k < (bL (X.take (i - 1))).length) (b : Bool) (hj : j = X.length - 1 - i) (hl : j < (sB X.length ((bL X).set k b)).length) : (sB X.length ((bL X).set k b))[j]? = some X[i].2.2 := by
  obtain ⟨i, rfl⟩ : ∃ i', i = i' + 1 := ⟨i - 1, by omega⟩
  rw [Nat.add_sub_cancel] at h
  have e : bL X = bL (X.take i) ++ (bb X[i].2.2 ++ bP (pse (X.drop (i + 1)))) := by rw [← pse_bits, ← bL_drop X (by omega), ← bL_app, List.take_append_drop]
  rw [e, List.set_append_left _ _ h, ← List.append_assoc] at hl ⊢
  have hY : (pse (X.drop (i + 1))).length = X.length - (i + 1) := by rw [pse_len, List.length_drop]
  rw [s_behind (hG.at (by omega)) (pse_good (fun x hx => hG x (List.mem_of_mem_drop hx))) hl (by omega), hY]
  rw [show X.length - (i + 1) - 1 - j = 0 by omega, pse_at _ (by rw [List.length_drop]; omega)]
  simp
theorem SizeR.at {l : List Nat} {v : Value} {n : Nat} (h : SizeR l v) (hn : LastAt l n) : v = .tuple #[.int .i64 (n : Nat), .bool true] := by
  rcases h.la with ⟨h0, _⟩ | ⟨m, hm, rfl⟩
  · exact absurd h0 hn.nz
  · rw [hm.uniq hn]
set_option maxRecDepth 20000 in
set_option maxHeartbeats 8000000 in
theorem sends_spec {a : Option Addr} {cap t : Nat} {ms : List SM} {w : World} (hS : SlA w a (smcs ms)) (hok : ∀ x ∈ ms, x.ok) (hlen : ms.length ≤ 9223372036854775807) (ht : t < 65536) :
    Does Try.prog 11 #[.slice a ms.length cap, .int .u16 t] w fun v w' => v = .bool true ∧ Ext [] w w' := by
  refine Does_of (args := [_, _]) Try.func11 rfl rfl Try.ntmps11 rfl ?_
  repeat (first | refine WS_seq ?_ | refine WS_region ?_ | refine WL_nil ?_ | (refine WL_r (by refine Run_pev rfl) rfl ?_))
  try refine WL_gyes rfl rfl rfl ?_
  refine WL_s (S_call (awake24 w) rfl rfl ?_)
  rintro v w1 ⟨rfl, hW1⟩
  have hH := (Hp.start w).ext0 hW1
  clear hW1
  repeat (first | refine WS_seq ?_ | refine WS_region ?_ | refine WL_nil ?_ | refine WS_skip ?_ | refine WS_false rfl ?_ | (refine WL_r (by refine Run_pev rfl) rfl ?_))
  try refine WL_gyes rfl rfl rfl ?_
  refine WL_s (S_call (part_spec (hH.old hS) hok hlen) rfl rfl ?_)
  rintro v w2 ⟨X, al, cl, ab, cb, hG, hX10, rfl, hQ⟩
  replace hH := Hp.cat hH hQ
  clear hQ
  change Hp _ _ _ [_, _, _] at hH
  have hbl := bL_le hG
  have hpl := prt_len hG hX10
  have hpb := prt_byt X
  have htk : tk 0 (prt X) = some (pk (bL X ++ [true])) := tk_esc _ 0 (by omega)
  have hyl := pk_len (bL X ++ [true])
  rw [List.length_append, List.length_singleton] at hyl
  repeat (first | refine WS_seq ?_ | refine WS_region ?_ | refine WL_nil ?_ | (refine WL_r (by first | refine Run_pev rfl | refine k_extract rfl rfl) rfl ?_))
  try refine WL_gyes rfl rfl rfl ?_
  refine WL_s (S_call (etake_spec (hH.o 2 rfl).sl hpb rfl (by omega)) rfl rfl ?_)
  rintro v w3 (⟨y, ay, cy, hty, rfl, hN⟩ | ⟨hty, _, _⟩)
  rotate_left
  · rw [htk] at hty; cases hty
  obtain rfl := Option.some.inj (htk.symm.trans hty)
  clear hty htk hpb hpl
  replace hH := (hH.nu hN).del 2
  clear hN
  change Hp _ _ _ [_, _, _] at hH
  repeat (first | refine WS_seq ?_ | refine WS_region ?_ | refine WL_nil ?_ | (refine WL_r (by first | refine Run_pev rfl | refine k_extract rfl rfl) rfl ?_))
  try refine WL_gyes rfl rfl rfl ?_
  refine WL_s (S_call (size_spec (hH.o 2 rfl).sl (pk_byt _) rfl (by omega)) rfl rfl ?_)
  rintro v w4 ⟨hsz, rfl⟩
  obtain rfl := hsz.at (pk_last (bL X))
  clear hsz
  by_cases h0 : (bL X).length = 0
  · repeat (first | refine WS_seq ?_ | refine WS_region ?_ | refine WL_nil ?_ | refine WS_true rfl ?_ | refine WL_gyes rfl rfl rfl ?_ | (refine WL_r (by first | refine (k_eql (q := .i64) rfl rfl).is (bT (by omega)) | refine Run_pev rfl | refine k_extract rfl rfl | apply k_makeFunc) rfl ?_))
    exact WS_ret1 Try.func11 rfl ⟨rfl, hH.ext⟩
  obtain ⟨k, hk⟩ : ∃ k, t % (bL X).length = k := ⟨_, rfl⟩
  have hkl : k < (bL X).length := by have := Nat.mod_lt t (show 0 < (bL X).length by omega); omega
  have hkI : (t : Int) % ((bL X).length : Int) = (k : Int) := by rw [← hk]; simp
  clear hk
  repeat (first | refine WS_seq ?_ | refine WS_region ?_ | refine WL_nil ?_ | refine WS_skip ?_ | refine WS_false rfl ?_ | refine WL_gyes rfl rfl rfl ?_ | (refine WL_r (by first | refine (k_eql (q := .i64) rfl rfl).is (bF (by omega)) | refine (k_rem (m := (t : Int)) (n := ((bL X).length : Int)) rfl rfl ⟨by omega, by omega⟩).is (congrArg (Value.int .i64) hkI) | refine Run_pev rfl | refine k_extract rfl rfl | refine k_convI rfl rfl rfl (by omega)) rfl ?_))
  obtain ⟨c, hc⟩ : ∃ c, (pk (bL X ++ [true]))[k / 8]? = some c := ⟨_, List.getElem?_eq_getElem (by omega)⟩
  have hcb : c < 256 := pk_byt _ c (List.mem_of_getElem? hc)
  have h128 : 128 / 2 ^ (k % 8) < 256 := Nat.lt_of_le_of_lt (Nat.div_le_self _ _) (by decide)
  have hv : ((pk (bL X ++ [true])).map B)[k / 8]? = some (B c) := by rw [List.getElem?_map, hc]; rfl
  have htu := pk_turn (bs := bL X ++ [true]) (k := k) (by rw [List.length_append]; omega) hc
  rw [List.getElem_append_left hkl, List.set_append_left _ _ hkl] at htu
  have hly : ((pk (bL X ++ [true])).map B).length = (pk (bL X ++ [true])).length := by simp
  have hOy : SlA _ ay ((pk (bL X ++ [true])).map B) := (hH.o 2 rfl).sl
  refine WS_tail Ty.mixed 10 rfl (by kernel_rfl) rfl (fun w1 hx1 => ?_)
  refine WA_take 0 rfl (by kernel_rfl) hx1 rfl rfl (fun w' hw' => by refine Run_pev rfl) ?_
  refine WA_take 1 rfl (by kernel_rfl) hx1 rfl rfl (fun w' hw' => by refine Run_pev rfl) ?_
  refine WA_take 2 rfl (by kernel_rfl) hx1 rfl rfl (fun w' hw' => by refine (k_quo64 (m := (k : Int)) (n := 8) rfl rfl (by omega)).is (congrArg (Value.int .i64) (show (k : Int) / 8 = ((k / 8 : Nat) : Int) by omega))) ?_
  refine WA_take 3 rfl (by kernel_rfl) hx1 rfl rfl (fun w' hw' => by refine k_ix1 rfl rfl (hOy.ext0 hw') hly (Ty.sle rfl) (by omega)) ?_
  refine WA_take 4 rfl (by kernel_rfl) hx1 rfl rfl (fun w' hw' => by refine k_loads rfl (hOy.ext0 hw') hv (Ty.shp rfl)) ?_
  refine WA_take 5 rfl (by kernel_rfl) hx1 rfl rfl (fun w' hw' => by refine Run_pev rfl) ?_
  refine WA_take 6 rfl (by kernel_rfl) hx1 rfl rfl (fun w' hw' => by refine k_remu (n := 8) rfl rfl (by decide)) ?_
  refine WA_take 7 rfl (by kernel_rfl) hx1 rfl rfl (fun w' hw' => by refine k_shr (m := 128) rfl rfl rfl) ?_
  refine WA_take 8 rfl (by kernel_rfl) hx1 rfl rfl (fun w' hw' => by refine k_xor rfl rfl (fit8 hcb) (fit8 h128)) ?_
  refine WA_take 9 rfl (by kernel_rfl) hx1 rfl rfl (fun w' hw' => by refine k_ix1 rfl rfl (hOy.ext0 hw') hly (Ty.sle rfl) (by omega)) ?_
  refine WA_done (by kernel_rfl) ?_
  replace hH := hH.ext0 hx1
  refine WL_s (H_storeO 2 (v := B (c ^^^ 128 / 2 ^ (k % 8))) hH rfl rfl rfl (by omega) rfl (Ty.shp rfl) ?_)
  clear hH hOy hx1
  intro w5 hH
  change Hp _ _ _ [_, _, _] at hH
  rw [← List.map_set, show ((k / 8 : Nat) : Int).toNat = k / 8 from rfl, htu] at hH
  clear htu hv hc hly
  obtain ⟨bt, hbt⟩ : ∃ bt, (bL X).set k (!(bL X)[k]) = bt := ⟨_, rfl⟩
  rw [hbt] at hH
  have hbl' : bt.length = (bL X).length := by rw [← hbt, List.length_set]
  have hpl' := pk_len (bt ++ [true])
  rw [List.length_append, List.length_singleton] at hpl'
  have hpe : (pk (bL X ++ [true])).length = (pk (bt ++ [true])).length := by omega
  rw [hpe] at hH ⊢
  have hel := escF_len (pk (bt ++ [true])) 0
  repeat (first | refine WS_seq ?_ | refine WS_region ?_ | refine WL_nil ?_ | (refine WL_r (by refine Run_pev rfl) rfl ?_))
  try refine WL_gyes rfl rfl rfl ?_
  refine WL_s (S_call (put_spec (hH.o 2 rfl).sl (pk_byt _) rfl (by omega)) rfl rfl ?_)
  rintro v w6 ⟨a6, c6, rfl, hN⟩
  replace hH := (hH.nu hN).del 2
  clear hN
  change Hp _ _ _ [_, _, _] at hH
  repeat ((refine WL_r (by first | refine Run_pev rfl | refine k_len rfl (Ty.isl rfl)) rfl ?_))
  try refine WL_gyes rfl rfl rfl ?_
  refine WL_s (S_call (sof_spec (m := X.length) (hH.o 2 rfl).sl (escF_byt _ _ (pk_byt _)) rfl (by omega) (by omega)) rfl rfl ?_)
  rintro v w7 ⟨bs, E, be, hPB, hpE, rfl, hQ⟩
  obtain rfl := hPB.esc
  clear hPB
  replace hH := (Hp.cat hH hQ).del 2
  clear hQ
  change Hp _ _ _ [_, _, _, _] at hH
  have hsl := sB_len X.length bs
  have hEX : E.length = X.length := by rw [← pse_len, hpE, sE_len hsl]
  obtain ⟨F, hF⟩ : ∃ F, sF X.length bs = F := ⟨_, rfl⟩
  obtain ⟨Z, hZ⟩ : ∃ Z, sB X.length bs = Z := ⟨_, rfl⟩
  rw [hF, hZ] at hsl hpE ⊢
  have hah : ∀ i (hi : i < X.length), (bL (X.take (i + 1))).length ≤ k → F[i]? = some X[i].2.2 := fun i hi h => by rw [← hF, ← hbt]; exact ahead_at hG hi h _
  have hbe : ∀ i (hi : i < X.length), 0 < i → k < (bL (X.take (i - 1))).length → X.length - 1 - i < Z.length → Z[X.length - 1 - i]? = some X[i].2.2 := fun i hi h0 h hl => by
    rw [← hZ, ← hbt] at hl ⊢; exact behind_at hG h0 hi h _ rfl hl
  clear hF hZ hbt hbl' hpl' hpe hel hcb h128
  skip
  refine WL_s (H_alloc hH (Ty.zer rfl) rfl ?_)
  try clear hH
  intro w8 b12 hH
  change Hp _ _ _ [_, _, _, _, _] at hH
  skip
  refine WL_s (H_storeA 4 hH rfl rfl rfl rfl rfl b3_one (Ty.shp rfl) ?_)
  clear hH
  intro w9 hH
  change Hp _ _ _ [_, _, _, _, _] at hH
  have hpre : ∀ i, i ≤ X.length → (bL (X.take i)).length ≤ (bL X).length := fun i hi => by
    have := bL_pre X hi; rwa [List.take_length] at this
  repeat (first | refine WS_seq ?_ | refine WS_region ?_ | refine WL_nil ?_ | refine WS_block ?_ | (refine WL_r (by first | refine Run_pev rfl | refine k_len rfl (Ty.isl rfl) | apply k_makeFunc) rfl ?_))
  refine WS_loop (G := (Nat) × (Nat)) (fun | (i, h) => X.length - i) 19342222818023708089769984 (fun | (i, h) => [(13, .int .i64 h), (14, .int .i64 ((bL (X.take i)).length : Nat)), (69, .int .i64 i)]) (fun | (i, h), w' => i ≤ X.length ∧ (h = 0 ∨ (h ≤ X.length ∧ (bL (X.take h)).length ≤ k)) ∧ Ext [] w9 w') (0, 0) ⟨rfl, rfl, rfl, trivial⟩ ⟨by omega, .inl rfl, .refl⟩ ?_
  rintro ⟨i, h⟩ u1 σ ⟨hi, hh, hW⟩ IH
  show WS _ _ _ _ _ (updL [(13, .int .i64 h), (14, .int .i64 ((bL (X.take i)).length : Nat)), (69, .int .i64 i)] _) _
  by_cases hlt : i < X.length
  · have hOX : SlA u1 al (elvs X) := ((hH.o 0 rfl).sl).ext0 hW
    have hsX := (Rl.at (hH.at 1 rfl) hlt).ext0 hW
    have hg := hG.at hlt
    have hxi := elvs_at X hlt
    have hlX := elvs_len X
    have htk : (bL (X.take (i + 1))).length = (bL (X.take i)).length + (bb X[i].2.2).length := by rw [bL_take X hlt, List.length_append]
    have hp1 := hpre (i + 1) (by omega)
    generalize X[i] = x at *
    obtain ⟨ax, cx, ps⟩ := x
    replace hxi : (elvs X)[i]? = some (.slice ax ps.length cx) := hxi
    simp only at hsX hg htk
    repeat (first | refine WS_seq ?_ | refine WS_region ?_ | refine WL_nil ?_ | refine WS_block ?_ | refine WS_skip ?_ | refine WS_yes rfl (by omega) ?_ | (refine WL_r (by first | refine k_ix1 rfl rfl hOX (by omega) (Ty.sle rfl) (by omega) | refine k_loads rfl hOX hxi (Ty.shp rfl) | refine Run_pev rfl) rfl ?_))
    try refine WL_gyes rfl rfl rfl ?_
    refine WL_s (S_call (bsize_spec hg rfl hsX) rfl rfl ?_)
    rintro v w10 ⟨rfl, hE⟩
    replace hW := hW.then0 hE
    have hsm : ((bL (X.take i)).length : Int) + ((bb ps).length : Int) = ((bL (X.take (i + 1))).length : Int) := by omega
    by_cases hle : (bL (X.take (i + 1))).length ≤ k
    · repeat (first | refine WS_seq ?_ | refine WS_region ?_ | refine WL_nil ?_ | refine WS_inBlock ?_ | refine WS_yes rfl (by omega) ?_ | (refine WL_r (by first | refine (k_add64 rfl rfl (by omega)).is (congrArg (Value.int .i64) hsm) | refine Run_pev rfl | refine k_add64 rfl rfl (by omega) | apply k_makeFunc) rfl ?_))
      refine IH (i + 1, i + 1) _ _ ?_ ?_ ?_ ?_
      · simp only; omega
      · exact ⟨rfl, rfl, rfl, trivial⟩
      · exact (by repeat (first | with_reducible apply Agr.refl | refine Agr.upd rfl ?_ | refine Agr.updL rfl ?_ | refine Agr.mrg rfl ?_))
      · exact ⟨by omega, .inr ⟨by omega, hle⟩, hW⟩
    · repeat (first | refine WS_seq ?_ | refine WS_region ?_ | refine WL_nil ?_ | refine WS_inBlock ?_ | refine WS_skip ?_ | refine WS_no rfl (by omega) ?_ | (refine WL_r (by first | refine (k_add64 rfl rfl (by omega)).is (congrArg (Value.int .i64) hsm) | refine Run_pev rfl | refine k_add64 rfl rfl (by omega) | apply k_makeFunc) rfl ?_))
      refine IH (i + 1, h) _ _ ?_ ?_ ?_ ?_
      · simp only; omega
      · exact ⟨rfl, rfl, rfl, trivial⟩
      · exact (by repeat (first | with_reducible apply Agr.refl | refine Agr.upd rfl ?_ | refine Agr.updL rfl ?_ | refine Agr.mrg rfl ?_))
      · exact ⟨by omega, hh, hW⟩
  clear IH
  replace hH := hH.ext0 hW
  have hO0 : SlA u1 al (elvs X) := (hH.o 0 rfl).sl
  have hOE : SlA u1 (some ⟨be, 0, none⟩) (elvs E) := (hH.o 2 rfl).sl
  have hB12 : Blk u1 b12 71 #[.slice (some ⟨be, 0, none⟩) X.length X.length, .int .i64 (F.length : Nat), .int .i64 (Z.length : Nat)] := hH.b 4 rfl
  have hRX := hH.at 1 rfl
  have hRE := hH.at 3 rfl
  have hlX := elvs_len X
  have hlE := elvs_len E
  clear hW
  repeat (first | refine WS_seq ?_ | refine WS_region ?_ | refine WL_nil ?_ | refine WS_block ?_ | refine WS_exit rfl ?_ | refine WS_no rfl (by omega) ?_ | (refine WL_r (by first | refine Run_pev rfl | apply k_makeFunc) rfl ?_))
  clear hi hlt
  refine WS_loop (G := (Nat)) (fun i => h - i) 81129599728980454027655414677520 (fun i => [(85, .int .i64 i)]) (fun i w' => i ≤ h ∧ Ext [] u1 w') (0) ⟨rfl, trivial⟩ ⟨by omega, .refl⟩ ?_
  rintro i u2 σ ⟨hi, hW⟩ IH
  show WS _ _ _ _ _ (updL [(85, .int .i64 i)] _) _
  by_cases hlt : i < h
  · have hiX : i < X.length := by omega
    have hFi := hah i hiX (Nat.le_trans (bL_pre X (k := i + 1) (m := h) (by omega)) (by omega))
    have hiF : i < F.length := (List.getElem?_eq_some_iff.1 hFi).1
    have hEi := pse_get hpE (show i < E.length by omega)
    rw [sE_at1 hiF, ← List.getElem?_eq_getElem hiF, hFi] at hEi
    have hsX := Rl.at hRX hiX
    have hsE := Rl.at hRE (show i < E.length by omega)
    have hg := hG.at hiX
    have hxi := elvs_at X hiX
    have hei := elvs_at E (show i < E.length by omega)
    generalize X[i] = x at *
    generalize E[i]'(show i < E.length by omega) = e at *
    obtain ⟨ax, cx, ps⟩ := x
    obtain ⟨ae, ce, pe⟩ := e
    replace hxi : (elvs X)[i]? = some (.slice ax ps.length cx) := hxi
    replace hei : (elvs E)[i]? = some (.slice ae pe.length ce) := hei
    simp only at hsX hsE hg hEi
    obtain rfl : ps = pe := Option.some.inj hEi
    repeat (first | refine WS_seq ?_ | refine WS_region ?_ | refine WL_nil ?_ | refine WS_block ?_ | refine WS_skip ?_ | refine WS_yes rfl (by omega) ?_ | (refine WL_r (by first | refine Run_pev rfl | apply k_makeFunc) rfl ?_))
    refine WS_draw Ty.mixed (fun u => Ext [] u2 u) 17 rfl ?_
    have hx0 : Ext [] u2 u2.drew := Ext.drew0
    refine WA_take 0 rfl (by kernel_rfl) hx0 rfl rfl (fun w' hw' => by refine Run_pev rfl) ?_
    refine WA_take 1 rfl (by kernel_rfl) hx0 rfl rfl (fun w' hw' => by refine k_fa rfl (Ty.fld rfl rfl)) ?_
    refine WA_take 2 rfl (by kernel_rfl) hx0 rfl rfl (fun w' hw' => by refine k_loadb rfl ((hB12.ext0 hW).ext0 hw') rfl (Ty.shp rfl)) ?_
    refine WA_take 3 rfl (by kernel_rfl) hx0 rfl rfl (fun w' hw' => by refine (k_geq (q := .i64) rfl rfl).is (bF (by omega))) ?_
    refine WA_take 4 rfl (by kernel_rfl) hx0 rfl rfl (fun w' hw' => by refine Run_pev rfl) ?_
    refine WA_takey 5 rfl (by kernel_rfl) hx0 rfl rfl rfl rfl rfl (fun w' hw' => by refine k_fa rfl (Ty.fld rfl rfl)) ?_
    refine WA_takey 6 rfl (by kernel_rfl) hx0 rfl rfl rfl rfl rfl (fun w' hw' => by refine k_loadb rfl ((hB12.ext0 hW).ext0 hw') rfl (Ty.shp rfl)) ?_
    refine WA_takey 7 rfl (by kernel_rfl) hx0 rfl rfl rfl rfl rfl (fun w' hw' => by refine Run_pev rfl) ?_
    refine WA_takey 8 rfl (by kernel_rfl) hx0 rfl rfl rfl rfl rfl (fun w' hw' => by refine k_ix1 rfl rfl ((hOE.ext0 hW).ext0 hw') (by omega) (Ty.sle rfl) (by omega)) ?_
    refine WA_takey 9 rfl (by kernel_rfl) hx0 rfl rfl rfl rfl rfl (fun w' hw' => by refine k_loads rfl ((hOE.ext0 hW).ext0 hw') hei (Ty.shp rfl)) ?_
    refine WA_takey 10 rfl (by kernel_rfl) hx0 rfl rfl rfl rfl rfl (fun w' hw' => by refine Run_pev rfl) ?_
    refine WA_takey 11 rfl (by kernel_rfl) hx0 rfl rfl rfl rfl rfl (fun w' hw' => by refine Run_pev rfl) ?_
    refine WA_takey 12 rfl (by kernel_rfl) hx0 rfl rfl rfl rfl rfl (fun w' hw' => by refine k_ix1 rfl rfl (by exact (hO0.ext0 hW).ext0 hw') (by omega) (Ty.sle rfl) (by omega)) ?_
    refine WA_takey 13 rfl (by kernel_rfl) hx0 rfl rfl rfl rfl rfl (fun w' hw' => by refine k_loads rfl (by exact (hO0.ext0 hW).ext0 hw') hxi (Ty.shp rfl)) ?_
    refine WA_oney 14 (by kernel_rfl) rfl rfl rfl rfl rfl (S_call (same24_spec hg.ok hg.len rfl ((hsE.ext0 hW).ext0 hx0) ((hsX.ext0 hW).ext0 hx0)) rfl rfl ?_)
    rintro v u3 ⟨rfl, hE⟩
    have hx2 := hx0.then0 hE
    refine ⟨hx2, ?_⟩
    refine WA_takey 15 rfl (by kernel_rfl) hx2 rfl rfl rfl rfl rfl (fun w' hw' => by refine Run_pev rfl) ?_
    refine WA_take 16 rfl (by kernel_rfl) hx2 rfl rfl (fun w' hw' => by refine Run_pev rfl) ?_
    refine WA_done (by kernel_rfl) ?_
    repeat (first | refine WS_region ?_ | refine WL_nil ?_ | refine WS_inBlock ?_ | refine WS_skip ?_ | refine WS_false rfl ?_ | (refine WL_r (by first | refine Run_pev rfl | refine k_add64 rfl rfl (by omega) | apply k_makeFunc) rfl ?_))
    refine IH (i + 1) _ _ ?_ ?_ ?_ ?_
    · omega
    · exact ⟨rfl, trivial⟩
    · exact (by repeat (first | with_reducible apply Agr.refl | refine Agr.upd rfl ?_ | refine Agr.updL rfl ?_ | refine Agr.mrg rfl ?_))
    · exact ⟨by omega, hW.then0 hx2⟩
  clear IH
  replace hH := hH.ext0 hW
  replace hO0 := hO0.ext0 hW
  replace hOE := hOE.ext0 hW
  replace hB12 := hB12.ext0 hW
  replace hRX := hH.at 1 rfl
  replace hRE := hH.at 3 rfl
  clear hW
  repeat (first | refine WS_seq ?_ | refine WS_region ?_ | refine WL_nil ?_ | refine WS_block ?_ | refine WS_exit rfl ?_ | refine WS_no rfl (by omega) ?_ | (refine WL_r (by first | refine Run_pev rfl | refine k_len rfl (Ty.isl rfl) | apply k_makeFunc) rfl ?_))
  clear hi hlt
  refine WS_loop (G := (Nat)) (fun i => X.length - i) 23384026197294446366740403665033801531338901962768 (fun i => [(14, .int .i64 ((bL (X.take i)).length : Nat)), (18, .int .i64 ((bL (X.take (i - 1))).length : Nat)), (108, .int .i64 i)]) (fun i w' => i ≤ X.length ∧ Ext [] u2 w') (0) ⟨rfl, rfl, rfl, trivial⟩ ⟨by omega, .refl⟩ ?_
  rintro i u4 σ ⟨hi, hW⟩ IH
  show WS _ _ _ _ _ (updL [(14, .int .i64 ((bL (X.take i)).length : Nat)), (18, .int .i64 ((bL (X.take (i - 1))).length : Nat)), (108, .int .i64 i)] _) _
  by_cases hlt : i < X.length
  · have hiX : i < X.length := hlt
    have htk : (bL (X.take (i + 1))).length = (bL (X.take i)).length + (bb X[i].2.2).length := by rw [bL_take X hlt, List.length_append]
    have hp1 := hpre (i + 1) (by omega)
    have hEi := pse_get hpE (show i < E.length by omega)
    have hbi := hbe i hiX
    have hz : i < F.length ∨ i < X.length - Z.length ∨ (F.length ≤ i ∧ X.length - Z.length ≤ i ∧ X.length - 1 - i < Z.length ∧ Z[X.length - 1 - i]? = some (E[i]'(by omega)).2.2) := by
      rcases Nat.lt_or_ge i F.length with h1 | h1
      · exact .inl h1
      rcases Nat.lt_or_ge i (X.length - Z.length) with h2 | h2
      · exact .inr (.inl h2)
      refine .inr (.inr ⟨h1, h2, by omega, ?_⟩)
      have h3 := sE_at3 (F := F) (B := Z) (m := X.length) (j := X.length - 1 - i) hsl (by omega)
      rw [show X.length - 1 - (X.length - 1 - i) = i by omega, hEi] at h3
      rw [List.getElem?_eq_getElem (by omega)]; exact h3.symm
    have hsX := Rl.at hRX hiX
    have hsE := Rl.at hRE (show i < E.length by omega)
    have hg := hG.at hiX
    have hxi := elvs_at X hiX
    have hei := elvs_at E (show i < E.length by omega)
    generalize X[i] = x at *
    generalize E[i]'(show i < E.length by omega) = e at *
    obtain ⟨ax, cx, ps⟩ := x
    obtain ⟨ae, ce, pe⟩ := e
    replace hxi : (elvs X)[i]? = some (.slice ax ps.length cx) := hxi
    replace hei : (elvs E)[i]? = some (.slice ae pe.length ce) := hei
    simp only at hsX hsE hg hEi
    simp only at htk hbi hz
    have hsX4 := hsX.ext0 hW
    have hsm : ((bL (X.take i)).length : Int) + ((bb ps).length : Int) = ((bL (X.take (i + 1))).length : Int) := by omega
    repeat (first | refine WS_seq ?_ | refine WS_region ?_ | refine WL_nil ?_ | refine WS_block ?_ | refine WS_skip ?_ | refine WS_yes rfl (by omega) ?_ | (refine WL_r (by first | refine k_ix1 rfl rfl (by exact hO0.ext0 hW) (by omega) (Ty.sle rfl) (by omega) | refine k_loads rfl (by exact hO0.ext0 hW) hxi (Ty.shp rfl) | refine Run_pev rfl | apply k_makeFunc) rfl ?_))
    refine WS_draw Ty.mixed (fun u => Ext [] u4 u) 45 rfl ?_
    have hx0 : Ext [] u4 u4.drew := Ext.drew0
    by_cases h1 : 0 < i
    · skip
      refine WA_take 0 rfl (by kernel_rfl) hx0 rfl rfl (fun w' hw' => by refine Run_pev rfl) ?_
      refine WA_take 1 rfl (by kernel_rfl) hx0 rfl rfl (fun w' hw' => by refine (k_gtr (q := .i64) rfl rfl).is (bT (by omega))) ?_
      refine WA_take 2 rfl (by kernel_rfl) hx0 rfl rfl (fun w' hw' => by refine Run_pev rfl) ?_
      refine WA_takey 3 rfl (by kernel_rfl) hx0 rfl rfl rfl rfl rfl (fun w' hw' => by refine Run_pev rfl) ?_
      refine WA_takey 4 rfl (by kernel_rfl) hx0 rfl rfl rfl rfl rfl (fun w' hw' => by refine Run_pev rfl) ?_
      by_cases h2 : k < (bL (X.take (i - 1))).length
      · skip
        refine WA_takey 5 rfl (by kernel_rfl) hx0 rfl rfl rfl rfl rfl (fun w' hw' => by refine (k_gtr (q := .i64) rfl rfl).is (bT (by omega))) ?_
        refine WA_take 6 rfl (by kernel_rfl) hx0 rfl rfl (fun w' hw' => by refine Run_pev rfl) ?_
        refine WA_take 7 rfl (by kernel_rfl) hx0 rfl rfl (fun w' hw' => by refine Run_pev rfl) ?_
        refine WA_takey 8 rfl (by kernel_rfl) hx0 rfl rfl rfl rfl rfl (fun w' hw' => by refine Run_pev rfl) ?_
        refine WA_takey 9 rfl (by kernel_rfl) hx0 rfl rfl rfl rfl rfl (fun w' hw' => by refine Run_pev rfl) ?_
        refine WA_takey 10 rfl (by kernel_rfl) hx0 rfl rfl rfl rfl rfl (fun w' hw' => by refine k_len rfl (Ty.isl rfl)) ?_
        refine WA_takey 11 rfl (by kernel_rfl) hx0 rfl rfl rfl rfl rfl (fun w' hw' => by refine k_fa rfl (Ty.fld rfl rfl)) ?_
        refine WA_takey 12 rfl (by kernel_rfl) hx0 rfl rfl rfl rfl rfl (fun w' hw' => by refine k_loadb rfl ((hB12.ext0 hW).ext0 hw') rfl (Ty.shp rfl)) ?_
        refine WA_takey 13 rfl (by kernel_rfl) hx0 rfl rfl rfl rfl rfl (fun w' hw' => by refine k_sub64 rfl rfl (by omega)) ?_
        by_cases h3 : X.length - Z.length ≤ i
        · skip
          refine WA_takey 14 rfl (by kernel_rfl) hx0 rfl rfl rfl rfl rfl (fun w' hw' => by refine (k_geq (q := .i64) rfl rfl).is (bT (by omega))) ?_
          refine WA_take 15 rfl (by kernel_rfl) hx0 rfl rfl (fun w' hw' => by refine Run_pev rfl) ?_
          refine WA_take 16 rfl (by kernel_rfl) hx0 rfl rfl (fun w' hw' => by refine Run_pev rfl) ?_
          refine WA_takey 17 rfl (by kernel_rfl) hx0 rfl rfl rfl rfl rfl (fun w' hw' => by refine k_fa rfl (Ty.fld rfl rfl)) ?_
          refine WA_takey 18 rfl (by kernel_rfl) hx0 rfl rfl rfl rfl rfl (fun w' hw' => by refine k_loadb rfl ((hB12.ext0 hW).ext0 hw') rfl (Ty.shp rfl)) ?_
          refine WA_takey 19 rfl (by kernel_rfl) hx0 rfl rfl rfl rfl rfl (fun w' hw' => by refine k_fa rfl (Ty.fld rfl rfl)) ?_
          refine WA_takey 20 rfl (by kernel_rfl) hx0 rfl rfl rfl rfl rfl (fun w' hw' => by refine k_loadb rfl ((hB12.ext0 hW).ext0 hw') rfl (Ty.shp rfl)) ?_
          refine WA_takey 21 rfl (by kernel_rfl) hx0 rfl rfl rfl rfl rfl (fun w' hw' => by refine k_add64 rfl rfl (by omega)) ?_
          refine WA_takey 22 rfl (by kernel_rfl) hx0 rfl rfl rfl rfl rfl (fun w' hw' => by refine Run_pev rfl) ?_
          refine WA_takey 23 rfl (by kernel_rfl) hx0 rfl rfl rfl rfl rfl (fun w' hw' => by refine k_len rfl (Ty.isl rfl)) ?_
          by_cases h4 : F.length + Z.length = X.length
          · skip
            refine WA_takey 24 rfl (by kernel_rfl) hx0 rfl rfl rfl rfl rfl (fun w' hw' => by refine (k_eql (q := .i64) rfl rfl).is (bT (by omega))) ?_
            refine WA_take 25 rfl (by kernel_rfl) hx0 rfl rfl (fun w' hw' => by refine Run_pev rfl) ?_
            refine WA_take 26 rfl (by kernel_rfl) hx0 rfl rfl (fun w' hw' => by refine Run_pev rfl) ?_
            refine WA_takey 27 rfl (by kernel_rfl) hx0 rfl rfl rfl rfl rfl (fun w' hw' => by refine Run_pev rfl) ?_
            refine WA_takey 28 rfl (by kernel_rfl) hx0 rfl rfl rfl rfl rfl (fun w' hw' => by refine k_fa rfl (Ty.fld rfl rfl)) ?_
            refine WA_takey 29 rfl (by kernel_rfl) hx0 rfl rfl rfl rfl rfl (fun w' hw' => by refine k_loadb rfl ((hB12.ext0 hW).ext0 hw') rfl (Ty.shp rfl)) ?_
            by_cases h5 : F.length ≤ i
            · skip
              refine WA_takey 30 rfl (by kernel_rfl) hx0 rfl rfl rfl rfl rfl (fun w' hw' => by refine (k_geq (q := .i64) rfl rfl).is (bT (by omega))) ?_
              refine WA_take 31 rfl (by kernel_rfl) hx0 rfl rfl (fun w' hw' => by refine Run_pev rfl) ?_
              refine WA_take 32 rfl (by kernel_rfl) hx0 rfl rfl (fun w' hw' => by refine Run_pev rfl) ?_
              obtain ⟨_, _, hjl, hzz⟩ : F.length ≤ i ∧ X.length - Z.length ≤ i ∧ X.length - 1 - i < Z.length ∧ Z[X.length - 1 - i]? = some pe := by
                rcases hz with h | h | h
                · omega
                · omega
                · exact h
              obtain rfl : ps = pe := Option.some.inj ((hbi h1 h2 hjl).symm.trans hzz)
              refine WA_takey 33 rfl (by kernel_rfl) hx0 rfl rfl rfl rfl rfl (fun w' hw' => by refine k_fa rfl (Ty.fld rfl rfl)) ?_
              refine WA_takey 34 rfl (by kernel_rfl) hx0 rfl rfl rfl rfl rfl (fun w' hw' => by refine k_loadb rfl ((hB12.ext0 hW).ext0 hw') rfl (Ty.shp rfl)) ?_
              refine WA_takey 35 rfl (by kernel_rfl) hx0 rfl rfl rfl rfl rfl (fun w' hw' => by refine Run_pev rfl) ?_
              refine WA_takey 36 rfl (by kernel_rfl) hx0 rfl rfl rfl rfl rfl (fun w' hw' => by refine k_ix1 rfl rfl ((hOE.ext0 hW).ext0 hw') (by omega) (Ty.sle rfl) (by omega)) ?_
              refine WA_takey 37 rfl (by kernel_rfl) hx0 rfl rfl rfl rfl rfl (fun w' hw' => by refine k_loads rfl ((hOE.ext0 hW).ext0 hw') hei (Ty.shp rfl)) ?_
              refine WA_takey 38 rfl (by kernel_rfl) hx0 rfl rfl rfl rfl rfl (fun w' hw' => by refine Run_pev rfl) ?_
              refine WA_takey 39 rfl (by kernel_rfl) hx0 rfl rfl rfl rfl rfl (fun w' hw' => by refine Run_pev rfl) ?_
              refine WA_takey 40 rfl (by kernel_rfl) hx0 rfl rfl rfl rfl rfl (fun w' hw' => by refine k_ix1 rfl rfl (by exact (hO0.ext0 hW).ext0 hw') (by omega) (Ty.sle rfl) (by omega)) ?_
              refine WA_takey 41 rfl (by kernel_rfl) hx0 rfl rfl rfl rfl rfl (fun w' hw' => by refine k_loads rfl (by exact (hO0.ext0 hW).ext0 hw') hxi (Ty.shp rfl)) ?_
              refine WA_oney 42 (by kernel_rfl) rfl rfl rfl rfl rfl (S_call (same24_spec hg.ok hg.len rfl ((hsE.ext0 hW).ext0 hx0) (hsX4.ext0 hx0)) rfl rfl ?_)
              rintro v u5 ⟨rfl, hE⟩
              have hx2 := hx0.then0 hE
              refine ⟨hx2, ?_⟩
              refine WA_takey 43 rfl (by kernel_rfl) hx2 rfl rfl rfl rfl rfl (fun w' hw' => by refine Run_pev rfl) ?_
              refine WA_take 44 rfl (by kernel_rfl) hx2 rfl rfl (fun w' hw' => by refine Run_pev rfl) ?_
              refine WA_done (by kernel_rfl) ?_
              repeat (first | refine WS_seq ?_ | refine WS_region ?_ | refine WL_nil ?_ | refine WS_skip ?_ | refine WS_false rfl ?_ | (refine WL_r (by refine Run_pev rfl) rfl ?_))
              try refine WL_gyes rfl rfl rfl ?_
              refine WL_s (S_call (bsize_spec hg rfl (hsX4.ext0 hx2)) rfl rfl ?_)
              rintro v u6 ⟨rfl, hE⟩
              replace hE := hx2.then0 hE
              repeat (first | refine WS_region ?_ | refine WL_nil ?_ | refine WS_inBlock ?_ | (refine WL_r (by first | refine (k_add64 rfl rfl (by omega)).is (congrArg (Value.int .i64) hsm) | refine Run_pev rfl | refine k_add64 rfl rfl (by omega) | apply k_makeFunc) rfl ?_))
              refine IH (i + 1) _ _ ?_ ?_ ?_ ?_
              · omega
              · exact ⟨rfl, rfl, rfl, trivial⟩
              · exact (by repeat (first | with_reducible apply Agr.refl | refine Agr.upd rfl ?_ | refine Agr.updL rfl ?_ | refine Agr.mrg rfl ?_))
              · exact ⟨by omega, hW.then0 hE⟩
            · skip
              refine WA_takey 30 rfl (by kernel_rfl) hx0 rfl rfl rfl rfl rfl (fun w' hw' => by refine (k_geq (q := .i64) rfl rfl).is (bF (by omega))) ?_
              refine WA_take 31 rfl (by kernel_rfl) hx0 rfl rfl (fun w' hw' => by refine Run_pev rfl) ?_
              refine WA_take 32 rfl (by kernel_rfl) hx0 rfl rfl (fun w' hw' => by refine Run_pev rfl) ?_
              refine WA_taken (b := false) 33 rfl (by kernel_rfl) hx0 rfl rfl rfl rfl rfl rfl ?_
              refine WA_taken (b := false) 34 rfl (by kernel_rfl) hx0 rfl rfl rfl rfl rfl rfl ?_
              refine WA_taken (b := false) 35 rfl (by kernel_rfl) hx0 rfl rfl rfl rfl rfl rfl ?_
              refine WA_taken (b := false) 36 rfl (by kernel_rfl) hx0 rfl rfl rfl rfl rfl rfl ?_
              refine WA_taken (b := false) 37 rfl (by kernel_rfl) hx0 rfl rfl rfl rfl rfl rfl ?_
              refine WA_taken (b := false) 38 rfl (by kernel_rfl) hx0 rfl rfl rfl rfl rfl rfl ?_
              refine WA_taken (b := false) 39 rfl (by kernel_rfl) hx0 rfl rfl rfl rfl rfl rfl ?_
              refine WA_taken (b := false) 40 rfl (by kernel_rfl) hx0 rfl rfl rfl rfl rfl rfl ?_
              refine WA_taken (b := false) 41 rfl (by kernel_rfl) hx0 rfl rfl rfl rfl rfl rfl ?_
              refine WA_taken (b := false) 42 rfl (by kernel_rfl) hx0 rfl rfl rfl rfl rfl rfl ?_
              refine WA_taken (b := false) 43 rfl (by kernel_rfl) hx0 rfl rfl rfl rfl rfl rfl ?_
              refine WA_take 44 rfl (by kernel_rfl) hx0 rfl rfl (fun w' hw' => by refine Run_pev rfl) ?_
              refine WA_done (by kernel_rfl) ?_
              repeat (first | refine WS_seq ?_ | refine WS_region ?_ | refine WL_nil ?_ | refine WS_skip ?_ | refine WS_false rfl ?_ | (refine WL_r (by refine Run_pev rfl) rfl ?_))
              try refine WL_gyes rfl rfl rfl ?_
              refine WL_s (S_call (bsize_spec hg rfl (hsX4.ext0 hx0)) rfl rfl ?_)
              rintro v u6 ⟨rfl, hE⟩
              replace hE := hx0.then0 hE
              repeat (first | refine WS_region ?_ | refine WL_nil ?_ | refine WS_inBlock ?_ | (refine WL_r (by first | refine (k_add64 rfl rfl (by omega)).is (congrArg (Value.int .i64) hsm) | refine Run_pev rfl | refine k_add64 rfl rfl (by omega) | apply k_makeFunc) rfl ?_))
              refine IH (i + 1) _ _ ?_ ?_ ?_ ?_
              · omega
              · exact ⟨rfl, rfl, rfl, trivial⟩
              · exact (by repeat (first | with_reducible apply Agr.refl | refine Agr.upd rfl ?_ | refine Agr.updL rfl ?_ | refine Agr.mrg rfl ?_))
              · exact ⟨by omega, hW.then0 hE⟩
          · skip
            refine WA_takey 24 rfl (by kernel_rfl) hx0 rfl rfl rfl rfl rfl (fun w' hw' => by refine (k_eql (q := .i64) rfl rfl).is (bF (by omega))) ?_
            refine WA_take 25 rfl (by kernel_rfl) hx0 rfl rfl (fun w' hw' => by refine Run_pev rfl) ?_
            refine WA_take 26 rfl (by kernel_rfl) hx0 rfl rfl (fun w' hw' => by refine Run_pev rfl) ?_
            refine WA_taken (b := false) 27 rfl (by kernel_rfl) hx0 rfl rfl rfl rfl rfl rfl ?_
            refine WA_taken (b := false) 28 rfl (by kernel_rfl) hx0 rfl rfl rfl rfl rfl rfl ?_
            refine WA_taken (b := false) 29 rfl (by kernel_rfl) hx0 rfl rfl rfl rfl rfl rfl ?_
            refine WA_taken (b := false) 30 rfl (by kernel_rfl) hx0 rfl rfl rfl rfl rfl rfl ?_
            refine WA_take 31 rfl (by kernel_rfl) hx0 rfl rfl (fun w' hw' => by refine Run_pev rfl) ?_
            refine WA_take 32 rfl (by kernel_rfl) hx0 rfl rfl (fun w' hw' => by refine Run_pev rfl) ?_
            refine WA_taken (b := false) 33 rfl (by kernel_rfl) hx0 rfl rfl rfl rfl rfl rfl ?_
            refine WA_taken (b := false) 34 rfl (by kernel_rfl) hx0 rfl rfl rfl rfl rfl rfl ?_
            refine WA_taken (b := false) 35 rfl (by kernel_rfl) hx0 rfl rfl rfl rfl rfl rfl ?_
            refine WA_taken (b := false) 36 rfl (by kernel_rfl) hx0 rfl rfl rfl rfl rfl rfl ?_
            refine WA_taken (b := false) 37 rfl (by kernel_rfl) hx0 rfl rfl rfl rfl rfl rfl ?_
            refine WA_taken (b := false) 38 rfl (by kernel_rfl) hx0 rfl rfl rfl rfl rfl rfl ?_
            refine WA_taken (b := false) 39 rfl (by kernel_rfl) hx0 rfl rfl rfl rfl rfl rfl ?_
            refine WA_taken (b := false) 40 rfl (by kernel_rfl) hx0 rfl rfl rfl rfl rfl rfl ?_
            refine WA_taken (b := false) 41 rfl (by kernel_rfl) hx0 rfl rfl rfl rfl rfl rfl ?_
            refine WA_taken (b := false) 42 rfl (by kernel_rfl) hx0 rfl rfl rfl rfl rfl rfl ?_
            refine WA_taken (b := false) 43 rfl (by kernel_rfl) hx0 rfl rfl rfl rfl rfl rfl ?_
            refine WA_take 44 rfl (by kernel_rfl) hx0 rfl rfl (fun w' hw' => by refine Run_pev rfl) ?_
            refine WA_done (by kernel_rfl) ?_
            repeat (first | refine WS_seq ?_ | refine WS_region ?_ | refine WL_nil ?_ | refine WS_skip ?_ | refine WS_false rfl ?_ | (refine WL_r (by refine Run_pev rfl) rfl ?_))
            try refine WL_gyes rfl rfl rfl ?_
            refine WL_s (S_call (bsize_spec hg rfl (hsX4.ext0 hx0)) rfl rfl ?_)
            rintro v u6 ⟨rfl, hE⟩
            replace hE := hx0.then0 hE
            repeat (first | refine WS_region ?_ | refine WL_nil ?_ | refine WS_inBlock ?_ | (refine WL_r (by first | refine (k_add64 rfl rfl (by omega)).is (congrArg (Value.int .i64) hsm) | refine Run_pev rfl | refine k_add64 rfl rfl (by omega) | apply k_makeFunc) rfl ?_))
            refine IH (i + 1) _ _ ?_ ?_ ?_ ?_
            · omega
            · exact ⟨rfl, rfl, rfl, trivial⟩
            · exact (by repeat (first | with_reducible apply Agr.refl | refine Agr.upd rfl ?_ | refine Agr.updL rfl ?_ | refine Agr.mrg rfl ?_))
            · exact ⟨by omega, hW.then0 hE⟩
        · skip
          refine WA_takey 14 rfl (by kernel_rfl) hx0 rfl rfl rfl rfl rfl (fun w' hw' => by refine (k_geq (q := .i64) rfl rfl).is (bF (by omega))) ?_
          refine WA_take 15 rfl (by kernel_rfl) hx0 rfl rfl (fun w' hw' => by refine Run_pev rfl) ?_
          refine WA_take 16 rfl (by kernel_rfl) hx0 rfl rfl (fun w' hw' => by refine Run_pev rfl) ?_
          refine WA_taken (b := false) 17 rfl (by kernel_rfl) hx0 rfl rfl rfl rfl rfl rfl ?_
          refine WA_taken (b := false) 18 rfl (by kernel_rfl) hx0 rfl rfl rfl rfl rfl rfl ?_
          refine WA_taken (b := false) 19 rfl (by kernel_rfl) hx0 rfl rfl rfl rfl rfl rfl ?_
          refine WA_taken (b := false) 20 rfl (by kernel_rfl) hx0 rfl rfl rfl rfl rfl rfl ?_
          refine WA_taken (b := false) 21 rfl (by kernel_rfl) hx0 rfl rfl rfl rfl rfl rfl ?_
          refine WA_taken (b := false) 22 rfl (by kernel_rfl) hx0 rfl rfl rfl rfl rfl rfl ?_
          refine WA_taken (b := false) 23 rfl (by kernel_rfl) hx0 rfl rfl rfl rfl rfl rfl ?_
          refine WA_taken (b := false) 24 rfl (by kernel_rfl) hx0 rfl rfl rfl rfl rfl rfl ?_
          refine WA_take 25 rfl (by kernel_rfl) hx0 rfl rfl (fun w' hw' => by refine Run_pev rfl) ?_
          refine WA_take 26 rfl (by kernel_rfl) hx0 rfl rfl (fun w' hw' => by refine Run_pev rfl) ?_
          refine WA_taken (b := false) 27 rfl (by kernel_rfl) hx0 rfl rfl rfl rfl rfl rfl ?_
          refine WA_taken (b := false) 28 rfl (by kernel_rfl) hx0 rfl rfl rfl rfl rfl rfl ?_
          refine WA_taken (b := false) 29 rfl (by kernel_rfl) hx0 rfl rfl rfl rfl rfl rfl ?_
          refine WA_taken (b := false) 30 rfl (by kernel_rfl) hx0 rfl rfl rfl rfl rfl rfl ?_
          refine WA_take 31 rfl (by kernel_rfl) hx0 rfl rfl (fun w' hw' => by refine Run_pev rfl) ?_
          refine WA_take 32 rfl (by kernel_rfl) hx0 rfl rfl (fun w' hw' => by refine Run_pev rfl) ?_
          refine WA_taken (b := false) 33 rfl (by kernel_rfl) hx0 rfl rfl rfl rfl rfl rfl ?_
          refine WA_taken (b := false) 34 rfl (by kernel_rfl) hx0 rfl rfl rfl rfl rfl rfl ?_
          refine WA_taken (b := false) 35 rfl (by kernel_rfl) hx0 rfl rfl rfl rfl rfl rfl ?_
          refine WA_taken (b := false) 36 rfl (by kernel_rfl) hx0 rfl rfl rfl rfl rfl rfl ?_
          refine WA_taken (b := false) 37 rfl (by kernel_rfl) hx0 rfl rfl rfl rfl rfl rfl ?_
          refine WA_taken (b := false) 38 rfl (by kernel_rfl) hx0 rfl rfl rfl rfl rfl rfl ?_
          refine WA_taken (b := false) 39 rfl (by kernel_rfl) hx0 rfl rfl rfl rfl rfl rfl ?_
          refine WA_taken (b := false) 40 rfl (by kernel_rfl) hx0 rfl rfl rfl rfl rfl rfl ?_
          refine WA_taken (b := false) 41 rfl (by kernel_rfl) hx0 rfl rfl rfl rfl rfl rfl ?_
          refine WA_taken (b := false) 42 rfl (by kernel_rfl) hx0 rfl rfl rfl rfl rfl rfl ?_
          refine WA_taken (b := false) 43 rfl (by kernel_rfl) hx0 rfl rfl rfl rfl rfl rfl ?_
          refine WA_take 44 rfl (by kernel_rfl) hx0 rfl rfl (fun w' hw' => by refine Run_pev rfl) ?_
          refine WA_done (by kernel_rfl) ?_
          repeat (first | refine WS_seq ?_ | refine WS_region ?_ | refine WL_nil ?_ | refine WS_skip ?_ | refine WS_false rfl ?_ | (refine WL_r (by refine Run_pev rfl) rfl ?_))
          try refine WL_gyes rfl rfl rfl ?_
          refine WL_s (S_call (bsize_spec hg rfl (hsX4.ext0 hx0)) rfl rfl ?_)
          rintro v u6 ⟨rfl, hE⟩
          replace hE := hx0.then0 hE
          repeat (first | refine WS_region ?_ | refine WL_nil ?_ | refine WS_inBlock ?_ | (refine WL_r (by first | refine (k_add64 rfl rfl (by omega)).is (congrArg (Value.int .i64) hsm) | refine Run_pev rfl | refine k_add64 rfl rfl (by omega) | apply k_makeFunc) rfl ?_))
          refine IH (i + 1) _ _ ?_ ?_ ?_ ?_
          · omega
          · exact ⟨rfl, rfl, rfl, trivial⟩
          · exact (by repeat (first | with_reducible apply Agr.refl | refine Agr.upd rfl ?_ | refine Agr.updL rfl ?_ | refine Agr.mrg rfl ?_))
          · exact ⟨by omega, hW.then0 hE⟩
      · skip
        refine WA_takey 5 rfl (by kernel_rfl) hx0 rfl rfl rfl rfl rfl (fun w' hw' => by refine (k_gtr (q := .i64) rfl rfl).is (bF (by omega))) ?_
        refine WA_take 6 rfl (by kernel_rfl) hx0 rfl rfl (fun w' hw' => by refine Run_pev rfl) ?_
        refine WA_take 7 rfl (by kernel_rfl) hx0 rfl rfl (fun w' hw' => by refine Run_pev rfl) ?_
        refine WA_taken (b := false) 8 rfl (by kernel_rfl) hx0 rfl rfl rfl rfl rfl rfl ?_
        refine WA_taken (b := false) 9 rfl (by kernel_rfl) hx0 rfl rfl rfl rfl rfl rfl ?_
        refine WA_taken (b := false) 10 rfl (by kernel_rfl) hx0 rfl rfl rfl rfl rfl rfl ?_
        refine WA_taken (b := false) 11 rfl (by kernel_rfl) hx0 rfl rfl rfl rfl rfl rfl ?_
        refine WA_taken (b := false) 12 rfl (by kernel_rfl) hx0 rfl rfl rfl rfl rfl rfl ?_
        refine WA_taken (b := false) 13 rfl (by kernel_rfl) hx0 rfl rfl rfl rfl rfl rfl ?_
        refine WA_taken (b := false) 14 rfl (by kernel_rfl) hx0 rfl rfl rfl rfl rfl rfl ?_
        refine WA_take 15 rfl (by kernel_rfl) hx0 rfl rfl (fun w' hw' => by refine Run_pev rfl) ?_
        refine WA_take 16 rfl (by kernel_rfl) hx0 rfl rfl (fun w' hw' => by refine Run_pev rfl) ?_
        refine WA_taken (b := false) 17 rfl (by kernel_rfl) hx0 rfl rfl rfl rfl rfl rfl ?_
        refine WA_taken (b := false) 18 rfl (by kernel_rfl) hx0 rfl rfl rfl rfl rfl rfl ?_
        refine WA_taken (b := false) 19 rfl (by kernel_rfl) hx0 rfl rfl rfl rfl rfl rfl ?_
        refine WA_taken (b := false) 20 rfl (by kernel_rfl) hx0 rfl rfl rfl rfl rfl rfl ?_
        refine WA_taken (b := false) 21 rfl (by kernel_rfl) hx0 rfl rfl rfl rfl rfl rfl ?_
        refine WA_taken (b := false) 22 rfl (by kernel_rfl) hx0 rfl rfl rfl rfl rfl rfl ?_
        refine WA_taken (b := false) 23 rfl (by kernel_rfl) hx0 rfl rfl rfl rfl rfl rfl ?_
        refine WA_taken (b := false) 24 rfl (by kernel_rfl) hx0 rfl rfl rfl rfl rfl rfl ?_
        refine WA_take 25 rfl (by kernel_rfl) hx0 rfl rfl (fun w' hw' => by refine Run_pev rfl) ?_
        refine WA_take 26 rfl (by kernel_rfl) hx0 rfl rfl (fun w' hw' => by refine Run_pev rfl) ?_
        refine WA_taken (b := false) 27 rfl (by kernel_rfl) hx0 rfl rfl rfl rfl rfl rfl ?_
        refine WA_taken (b := false) 28 rfl (by kernel_rfl) hx0 rfl rfl rfl rfl rfl rfl ?_
        refine WA_taken (b := false) 29 rfl (by kernel_rfl) hx0 rfl rfl rfl rfl rfl rfl ?_
        refine WA_taken (b := false) 30 rfl (by kernel_rfl) hx0 rfl rfl rfl rfl rfl rfl ?_
        refine WA_take 31 rfl (by kernel_rfl) hx0 rfl rfl (fun w' hw' => by refine Run_pev rfl) ?_
        refine WA_take 32 rfl (by kernel_rfl) hx0 rfl rfl (fun w' hw' => by refine Run_pev rfl) ?_
        refine WA_taken (b := false) 33 rfl (by kernel_rfl) hx0 rfl rfl rfl rfl rfl rfl ?_
        refine WA_taken (b := false) 34 rfl (by kernel_rfl) hx0 rfl rfl rfl rfl rfl rfl ?_
        refine WA_taken (b := false) 35 rfl (by kernel_rfl) hx0 rfl rfl rfl rfl rfl rfl ?_
        refine WA_taken (b := false) 36 rfl (by kernel_rfl) hx0 rfl rfl rfl rfl rfl rfl ?_
        refine WA_taken (b := false) 37 rfl (by kernel_rfl) hx0 rfl rfl rfl rfl rfl rfl ?_
        refine WA_taken (b := false) 38 rfl (by kernel_rfl) hx0 rfl rfl rfl rfl rfl rfl ?_
        refine WA_taken (b := false) 39 rfl (by kernel_rfl) hx0 rfl rfl rfl rfl rfl rfl ?_
        refine WA_taken (b := false) 40 rfl (by kernel_rfl) hx0 rfl rfl rfl rfl rfl rfl ?_
        refine WA_taken (b := false) 41 rfl (by kernel_rfl) hx0 rfl rfl rfl rfl rfl rfl ?_
        refine WA_taken (b := false) 42 rfl (by kernel_rfl) hx0 rfl rfl rfl rfl rfl rfl ?_
        refine WA_taken (b := false) 43 rfl (by kernel_rfl) hx0 rfl rfl rfl rfl rfl rfl ?_
        refine WA_take 44 rfl (by kernel_rfl) hx0 rfl rfl (fun w' hw' => by refine Run_pev rfl) ?_
        refine WA_done (by kernel_rfl) ?_
        repeat (first | refine WS_seq ?_ | refine WS_region ?_ | refine WL_nil ?_ | refine WS_skip ?_ | refine WS_false rfl ?_ | (refine WL_r (by refine Run_pev rfl) rfl ?_))
        try refine WL_gyes rfl rfl rfl ?_
        refine WL_s (S_call (bsize_spec hg rfl (hsX4.ext0 hx0)) rfl rfl ?_)
        rintro v u6 ⟨rfl, hE⟩
        replace hE := hx0.then0 hE
        repeat (first | refine WS_region ?_ | refine WL_nil ?_ | refine WS_inBlock ?_ | (refine WL_r (by first | refine (k_add64 rfl rfl (by omega)).is (congrArg (Value.int .i64) hsm) | refine Run_pev rfl | refine k_add64 rfl rfl (by omega) | apply k_makeFunc) rfl ?_))
        refine IH (i + 1) _ _ ?_ ?_ ?_ ?_
        · omega
        · exact ⟨rfl, rfl, rfl, trivial⟩
        · exact (by repeat (first | with_reducible apply Agr.refl | refine Agr.upd rfl ?_ | refine Agr.updL rfl ?_ | refine Agr.mrg rfl ?_))
        · exact ⟨by omega, hW.then0 hE⟩
    · skip
      refine WA_take 0 rfl (by kernel_rfl) hx0 rfl rfl (fun w' hw' => by refine Run_pev rfl) ?_
      refine WA_take 1 rfl (by kernel_rfl) hx0 rfl rfl (fun w' hw' => by refine (k_gtr (q := .i64) rfl rfl).is (bF (by omega))) ?_
      refine WA_take 2 rfl (by kernel_rfl) hx0 rfl rfl (fun w' hw' => by refine Run_pev rfl) ?_
      refine WA_taken (b := false) 3 rfl (by kernel_rfl) hx0 rfl rfl rfl rfl rfl rfl ?_
      refine WA_taken (b := false) 4 rfl (by kernel_rfl) hx0 rfl rfl rfl rfl rfl rfl ?_
      refine WA_taken (b := false) 5 rfl (by kernel_rfl) hx0 rfl rfl rfl rfl rfl rfl ?_
      refine WA_take 6 rfl (by kernel_rfl) hx0 rfl rfl (fun w' hw' => by refine Run_pev rfl) ?_
      refine WA_take 7 rfl (by kernel_rfl) hx0 rfl rfl (fun w' hw' => by refine Run_pev rfl) ?_
      refine WA_taken (b := false) 8 rfl (by kernel_rfl) hx0 rfl rfl rfl rfl rfl rfl ?_
      refine WA_taken (b := false) 9 rfl (by kernel_rfl) hx0 rfl rfl rfl rfl rfl rfl ?_
      refine WA_taken (b := false) 10 rfl (by kernel_rfl) hx0 rfl rfl rfl rfl rfl rfl ?_
      refine WA_taken (b := false) 11 rfl (by kernel_rfl) hx0 rfl rfl rfl rfl rfl rfl ?_
      refine WA_taken (b := false) 12 rfl (by kernel_rfl) hx0 rfl rfl rfl rfl rfl rfl ?_
      refine WA_taken (b := false) 13 rfl (by kernel_rfl) hx0 rfl rfl rfl rfl rfl rfl ?_
      refine WA_taken (b := false) 14 rfl (by kernel_rfl) hx0 rfl rfl rfl rfl rfl rfl ?_
      refine WA_take 15 rfl (by kernel_rfl) hx0 rfl rfl (fun w' hw' => by refine Run_pev rfl) ?_
      refine WA_take 16 rfl (by kernel_rfl) hx0 rfl rfl (fun w' hw' => by refine Run_pev rfl) ?_
      refine WA_taken (b := false) 17 rfl (by kernel_rfl) hx0 rfl rfl rfl rfl rfl rfl ?_
      refine WA_taken (b := false) 18 rfl (by kernel_rfl) hx0 rfl rfl rfl rfl rfl rfl ?_
      refine WA_taken (b := false) 19 rfl (by kernel_rfl) hx0 rfl rfl rfl rfl rfl rfl ?_
      refine WA_taken (b := false) 20 rfl (by kernel_rfl) hx0 rfl rfl rfl rfl rfl rfl ?_
      refine WA_taken (b := false) 21 rfl (by kernel_rfl) hx0 rfl rfl rfl rfl rfl rfl ?_
      refine WA_taken (b := false) 22 rfl (by kernel_rfl) hx0 rfl rfl rfl rfl rfl rfl ?_
      refine WA_taken (b := false) 23 rfl (by kernel_rfl) hx0 rfl rfl rfl rfl rfl rfl ?_
      refine WA_taken (b := false) 24 rfl (by kernel_rfl) hx0 rfl rfl rfl rfl rfl rfl ?_
      refine WA_take 25 rfl (by kernel_rfl) hx0 rfl rfl (fun w' hw' => by refine Run_pev rfl) ?_
      refine WA_take 26 rfl (by kernel_rfl) hx0 rfl rfl (fun w' hw' => by refine Run_pev rfl) ?_
      refine WA_taken (b := false) 27 rfl (by kernel_rfl) hx0 rfl rfl rfl rfl rfl rfl ?_
      refine WA_taken (b := false) 28 rfl (by kernel_rfl) hx0 rfl rfl rfl rfl rfl rfl ?_
      refine WA_taken (b := false) 29 rfl (by kernel_rfl) hx0 rfl rfl rfl rfl rfl rfl ?_
      refine WA_taken (b := false) 30 rfl (by kernel_rfl) hx0 rfl rfl rfl rfl rfl rfl ?_
      refine WA_take 31 rfl (by kernel_rfl) hx0 rfl rfl (fun w' hw' => by refine Run_pev rfl) ?_
      refine WA_take 32 rfl (by kernel_rfl) hx0 rfl rfl (fun w' hw' => by refine Run_pev rfl) ?_
      refine WA_taken (b := false) 33 rfl (by kernel_rfl) hx0 rfl rfl rfl rfl rfl rfl ?_
      refine WA_taken (b := false) 34 rfl (by kernel_rfl) hx0 rfl rfl rfl rfl rfl rfl ?_
      refine WA_taken (b := false) 35 rfl (by kernel_rfl) hx0 rfl rfl rfl rfl rfl rfl ?_
      refine WA_taken (b := false) 36 rfl (by kernel_rfl) hx0 rfl rfl rfl rfl rfl rfl ?_
      refine WA_taken (b := false) 37 rfl (by kernel_rfl) hx0 rfl rfl rfl rfl rfl rfl ?_
      refine WA_taken (b := false) 38 rfl (by kernel_rfl) hx0 rfl rfl rfl rfl rfl rfl ?_
      refine WA_taken (b := false) 39 rfl (by kernel_rfl) hx0 rfl rfl rfl rfl rfl rfl ?_
      refine WA_taken (b := false) 40 rfl (by kernel_rfl) hx0 rfl rfl rfl rfl rfl rfl ?_
      refine WA_taken (b := false) 41 rfl (by kernel_rfl) hx0 rfl rfl rfl rfl rfl rfl ?_
      refine WA_taken (b := false) 42 rfl (by kernel_rfl) hx0 rfl rfl rfl rfl rfl rfl ?_
      refine WA_taken (b := false) 43 rfl (by kernel_rfl) hx0 rfl rfl rfl rfl rfl rfl ?_
      refine WA_take 44 rfl (by kernel_rfl) hx0 rfl rfl (fun w' hw' => by refine Run_pev rfl) ?_
      refine WA_done (by kernel_rfl) ?_
      repeat (first | refine WS_seq ?_ | refine WS_region ?_ | refine WL_nil ?_ | refine WS_skip ?_ | refine WS_false rfl ?_ | (refine WL_r (by refine Run_pev rfl) rfl ?_))
      try refine WL_gyes rfl rfl rfl ?_
      refine WL_s (S_call (bsize_spec hg rfl (hsX4.ext0 hx0)) rfl rfl ?_)
      rintro v u6 ⟨rfl, hE⟩
      replace hE := hx0.then0 hE
      repeat (first | refine WS_region ?_ | refine WL_nil ?_ | refine WS_inBlock ?_ | (refine WL_r (by first | refine (k_add64 rfl rfl (by omega)).is (congrArg (Value.int .i64) hsm) | refine Run_pev rfl | refine k_add64 rfl rfl (by omega) | apply k_makeFunc) rfl ?_))
      refine IH (i + 1) _ _ ?_ ?_ ?_ ?_
      · omega
      · exact ⟨rfl, rfl, rfl, trivial⟩
      · exact (by repeat (first | with_reducible apply Agr.refl | refine Agr.upd rfl ?_ | refine Agr.updL rfl ?_ | refine Agr.mrg rfl ?_))
      · exact ⟨by omega, hW.then0 hE⟩
  clear IH
  repeat (first | refine WS_seq ?_ | refine WS_region ?_ | refine WL_nil ?_ | refine WS_exit rfl ?_ | refine WS_no rfl (by omega) ?_ | (refine WL_r (by first | refine Run_pev rfl | apply k_makeFunc) rfl ?_))
  exact WS_ret1 Try.func11 rfl ⟨rfl, hH.ext.then0 hW⟩
theorem own_salvageEnds : ownKnob Try.prog.godebug = none := by kernel_rfl
theorem laid_salvageEnds : laidOutB Try.prog = true := by kernel_rfl
set_option maxRecDepth 100000 in
theorem salvageEnds_lifted (os : Os) (started : os.Started) (H : Type) (enc : TypeId × Value → H) :
    ReturnsInHanded {} Try.checked os 11 .any (Rows.salvageEndsSpec.pre6 enc Try.prog Try.f11 Rows.salvageEndsRow.domain false) (Rows.salvageEndsSpec.post enc Try.prog Try.f11 false true false false) := by
  refine returnsInHanded_of_change (C := Try.checked) own_salvageEnds started (by kernel_rfl) Try.func11
    (ChangeSpec.witness6 (enc := enc) (C := Try.checked) false ⟨#[], #[.slice none 0 0, .int .u16 0], []⟩ 8 (by kernel_rfl) (by kernel_rfl) (by kernel_rfl) (by kernel_rfl)) ?_
  intro W base args ds gs before hval0 hW _ _
  have hval : ∀ (j : Nat) t v, Try.f11.params[j]? = some t → args[j]? = some v → Value.okWide Try.prog W .any base t v := hval0
  have hW' := hW
  obtain ⟨p, q, hA0, hV, rfl, hfz, hnd⟩ := hW
  have hA : DataW.TrodAll enc Try.prog W 0 (fun _ => true) true Try.f11.params.toList args.toList ds p := hA0
  rw [Try.params11] at hA hval
  obtain ⟨v0, r0, d0, e0, p0, q0, ha0, rfl, rfl, h0, hA⟩ := trodAll_cons hA
  obtain ⟨v1, r1, d1, e1, p1, q1, ha1, rfl, rfl, h1, hA⟩ := trodAll_cons hA
  obtain ⟨hnil, rfl, rfl⟩ := trodAll_nil hA
  obtain rfl : args = #[v0, v1] := by cases args; simp_all
  have hv0 := hval 0 _ v0 rfl rfl
  have hv1 := hval 1 _ v1 rfl rfl
  clear hA0 hval0 ha0 ha1 hnil
  obtain ⟨a, cap, ms, hc, hS, hok, hlen⟩ := rd_sms (rd_arg (.sl SMD) (by kernel_rfl) h0)
  obtain ⟨a', n', cap', rfl⟩ := okWide_slice (sle_spec (Ty.sle rfl)).1 hv0
  obtain ⟨rfl, rfl, rfl⟩ : a' = a ∧ n' = ms.length ∧ cap' = cap := by simpa [Value.cells] using hc
  obtain ⟨t0, rfl, ht0⟩ := rd_int (Ty.knd rfl) hv1 h1
  obtain ⟨t, rfl, ht⟩ := fits_u16 ht0
  refine ((sends_spec hS hok hlen ht).enter Try.func11 rfl rfl).mono ?_
  rintro e W' ⟨v, rfl, rfl, hE⟩
  exact ⟨_, rfl, law_post laid_salvageEnds (by kernel_rfl) hW' rfl rfl (by kernel_rfl) ⟨rfl, rfl, rfl⟩ hE⟩
theorem salvageEnds_holds : Rows.SalvageEndsSaid :=
  OpenClaim.holds_of_wide 11 Try.f11 rfl rfl rfl rfl rfl rfl rfl ⟨rfl, rfl, rfl, rfl, rfl⟩ rfl rfl rfl rfl rfl (by kernel_rfl) Try.func11 (by kernel_rfl)
    (of_decide_eq_true (by kernel_rfl)) (by unfold Func.isWrapper; (rw [if_neg (by decide +kernel)]; exact ⟨rfl, rfl⟩))
    (fun os started H enc _ => salvageEnds_lifted os started H enc)
#print axioms salvageEnds_holds
end Go.Proofs.Ytnamafelcjgjfaa
