/- The law SalvageAny: of any bytes and any number of blocks: blocks that may be, as many from either end as it says, in bits that don't meet; no condition. -/
import Derived.Test.YtnamafelcjgjfaaSh
import Derived.Test.YtnamafelcjgjfaaLaw24b
import Derived.Test.YtnamafelcjgjfaaK19
import Derived.Test.YtnamafelcjgjfaaK8
import Derived.Test.YtnamafelcjgjfaaRows
namespace Go.Proofs.Ytnamafelcjgjfaa
open Go Go.K Go.P Go.RowKit Go.Proofs
theorem evC_one (ps : List (Nat × Int)) : ∀ u ∈ evC ps, u.oneCell' = true := by rw [evC_mk]; exact evM_one _
/-- What Kept answers. -/
def Kpt (P : List PS) (f k m : Nat) (v : Value) (w w' : World) : Prop :=
  ∃ (Y : List EL) (b : Nat), pse Y = kp P f k ∧ v = .slice (some ⟨b, 0, none⟩) m m ∧ Hp [] w w' [Ro 46 1 (some ⟨b, 0, none⟩) m m (elvs Y), Rl Y]
/-- So many are left out. -/
def lss (f m : Nat) (less : Int) : Nat := if f = m then 0 else less.toNat
set_option maxRecDepth 20000 in
set_option maxHeartbeats 8000000 in
theorem kept_spec {ae : Option Addr} {ce f k m : Nat} {E : List EL} {less : Int} {w : World} (hS : SlA w ae (elvs E)) (hR : (Rl E).holds w) (hE : ∀ x ∈ E, x.2.2.length ≤ 64) (hn : E.length = m) (hm : m ≤ 384) (hf : f ≤ m) (hk : k ≤ m) (hl : -9223372036854775808 ≤ less ∧ less ≤ 9223372036854775807) :
    Does Try.prog 40 #[.agg #[.slice ae m ce, .int .i64 (f : Nat), .int .i64 (k : Nat)], .int .i64 less] w fun v w' => Kpt (pse E) (f - lss f m less) (k - lss f m less) m v w w' := by
  refine Does_of (args := [_, _]) Try.func40 rfl rfl Try.ntmps40 rfl ?_
  have hH := Hp.start w
  have hel := elvs_len E
  have hpl := pse_len E
  repeat (first | refine WS_seq ?_ | refine WS_region ?_)
  refine WL_s (H_box (cs := #[.slice ae m ce, .int .i64 (f : Nat), .int .i64 (k : Nat)]) hH rfl rfl rfl ?_)
  try clear hH
  intro w1 b2 hH
  change Hp _ _ _ [_] at hH
  have hB2 : Blk _ b2 71 #[.slice ae m ce, .int .i64 (f : Nat), .int .i64 (k : Nat)] := hH.b 0 rfl
  repeat (first | refine WS_seq ?_ | refine WS_region ?_ | refine WL_nil ?_ | (refine WL_r (by first | refine k_fa rfl (Ty.fld rfl rfl) | refine k_loadb rfl hB2 rfl (Ty.shp rfl) | refine Run_pev rfl | refine k_len rfl (Ty.isl rfl)) rfl ?_))
  refine WL_s (H_make (n := m) hH (Ty.sle rfl) (Ty.zer rfl) (Ty.byt rfl) rfl rfl rfl (by omega) (by omega) (by simp only [maxLen]; omega) rfl ?_)
  clear hH hB2
  intro w2 bo hH
  change Hp _ _ _ [_, _] at hH
  replace hH := (hH.made 1 rfl (by omega)).nu (Rl.zero m)
  change Hp _ _ _ [_, _, _] at hH
  rw [← elvs_zel] at hH
  have hB2 : Blk _ b2 71 #[.slice ae m ce, .int .i64 (f : Nat), .int .i64 (k : Nat)] := hH.b 0 rfl
  obtain ⟨d, hd⟩ : ∃ d, d = lss f m less := ⟨_, rfl⟩
  rw [← hd]
  have hd64 : d ≤ 9223372036854775807 := by rw [hd]; unfold lss; split <;> omega
  apply join
  · intro key
    by_cases hfm : f = m
    · have hd0 : d = 0 := by rw [hd]; exact if_pos hfm
      repeat (first | refine WS_seq ?_ | refine WS_region ?_ | refine WL_nil ?_ | refine WS_block ?_ | refine WS_true rfl ?_ | (refine WL_r (by first | refine k_fa rfl (Ty.fld rfl rfl) | refine k_loadb rfl hB2 rfl (Ty.shp rfl) | refine (k_eql (q := .i64) rfl rfl).is (bT (by omega)) | refine Run_pev rfl | refine k_len rfl (Ty.isl rfl) | refine k_max rfl rfl | apply k_makeFunc) rfl ?_))
      refine WS_keep [(1, .int .i64 (d : Nat)), (2, pt b2), (5, .slice (some ⟨bo, 0, none⟩) m m), (6, .int .i64 0)] ⟨congrArg (Value.int .i64) (by omega), rfl, rfl, rfl, trivial⟩ (fun σ => ?_)
      exact key σ
    · have hd0 : max less 0 = (d : Int) := by rw [hd]; unfold lss; rw [if_neg hfm]; omega
      repeat (first | refine WS_seq ?_ | refine WS_region ?_ | refine WL_nil ?_ | refine WS_block ?_ | refine WS_skip ?_ | refine WS_false rfl ?_ | (refine WL_r (by first | refine k_fa rfl (Ty.fld rfl rfl) | refine k_loadb rfl hB2 rfl (Ty.shp rfl) | refine (k_eql (q := .i64) rfl rfl).is (bF (by omega)) | refine Run_pev rfl | refine k_len rfl (Ty.isl rfl) | refine k_max rfl rfl | apply k_makeFunc) rfl ?_))
      refine WS_keep [(1, .int .i64 (d : Nat)), (2, pt b2), (5, .slice (some ⟨bo, 0, none⟩) m m), (6, .int .i64 0)] ⟨congrArg (Value.int .i64) (by omega), rfl, rfl, rfl, trivial⟩ (fun σ => ?_)
      exact key σ
  clear hd hB2
  intro σ
  obtain ⟨f2, hf2⟩ : ∃ f2, f2 = f - d := ⟨_, rfl⟩
  obtain ⟨k2, hk2⟩ : ∃ k2, k2 = k - d := ⟨_, rfl⟩
  rw [← hf2, ← hk2]
  refine WS_loop (G := (Nat) × (List EL)) (fun | (i, Y) => f2 - i) 4398045462592 (fun | (i, Y) => [(6, .int .i64 i)]) (fun | (i, Y), w' => i ≤ f2 ∧ pse Y = kp (pse E) i 0 ∧ Hp [] w w' [Rb b2 71 #[.slice ae m ce, .int .i64 (f : Nat), .int .i64 (k : Nat)], Ro 46 1 (some ⟨bo, 0, none⟩) m m (elvs Y), Rl Y]) (0, zel m) ⟨rfl, trivial⟩ ⟨by omega, by rw [kp_zero, hpl, hn, pse_zel, sE_nil], hH⟩ ?_
  rintro ⟨i, Y⟩ w' σ ⟨hi, hY, hH⟩ IH
  show WS _ _ _ _ _ (updL [(6, .int .i64 i)] _) _
  have hB2 : Blk _ b2 71 #[.slice ae m ce, .int .i64 (f : Nat), .int .i64 (k : Nat)] := hH.b 0 rfl
  by_cases hlt : i < f2
  · have hiE : i < E.length := by omega
    have hSe := hH.old hS
    have hat := elvs_at E hiE
    have hxs : SlA w E[i].1 (evC E[i].2.2) := Rl.at hR hiE
    have hx64 := hE _ (List.getElem_mem hiE)
    have hkf := kp_front (P := pse E) (i := i) (by omega)
    rw [show (pse E)[i]'(by omega) = E[i].2.2 by simp [pse]] at hkf
    generalize E[i] = x at *
    obtain ⟨ax, cx, ps⟩ := x
    simp only at hxs hx64 hkf
    replace hat : (elvs E)[i]? = some (.slice ax ps.length cx) := hat
    have hcl := evC_len ps
    repeat (first | refine WS_seq ?_ | refine WS_region ?_ | refine WL_nil ?_ | refine WS_block ?_ | refine WS_skip ?_ | refine WS_yes rfl (by omega) ?_ | (refine WL_r (by first | refine k_fa rfl (Ty.fld rfl rfl) | refine k_loadb rfl hB2 rfl (Ty.shp rfl) | refine Run_pev rfl | refine k_sub64 rfl rfl (by omega) | refine k_len rfl (Ty.isl rfl) | refine k_min rfl rfl | refine k_max rfl rfl) rfl ?_))
    clear hB2
    try refine WL_gyes rfl rfl rfl ?_
    refine WL_s (H_lit (out := []) hH (Ty.sle rfl) (Ty.zer rfl) rfl rfl rfl (by decide) rfl ?_)
    try clear hH
    intro _ b34 hH
    change Hp _ _ _ [_, _, _, _] at hH
    replace hH := hH.as 3 rfl (r' := Re (some ⟨b34, 0, none⟩) 0 0 []) (fun _ h => h) (fun h => (h : Blk _ _ _ _).own (n := 0) (sz := 3) rfl (by decide))
    change Hp _ _ _ [_, _, _, _] at hH
    have hB2 : Blk _ b2 71 #[.slice ae m ce, .int .i64 (f : Nat), .int .i64 (k : Nat)] := hH.b 0 rfl
    have hSe := hH.old hS
    repeat ((refine WL_r (by first | refine k_fa rfl (Ty.fld rfl rfl) | refine k_loadb rfl hB2 rfl (Ty.shp rfl) | refine k_ix1 rfl rfl hSe (by omega) (Ty.sle rfl) (by omega) | refine k_loads rfl hSe hat (Ty.shp rfl) | refine Run_pev rfl) rfl ?_))
    clear hB2
    refine WL_s (H_append 3 hH rfl (Ty.sle rfl) (Ty.zer rfl) rfl (Ty.byt rfl) (by decide) rfl rfl (hH.old hxs) hcl (evC_one ps) (by omega) (by simp only [maxLen]; omega) rfl ?_)
    clear hH
    intro w5 a5 c5 hH
    change Hp _ _ _ [_, _, _, _] at hH
    rw [Nat.zero_add ps.length, List.nil_append] at hH
    rw [Nat.zero_add ps.length]
    repeat ((refine WL_r (by first | refine k_ix1S rfl rfl (Ty.sle rfl) (by omega) | apply k_makeFunc) rfl ?_))
    refine WL_s (H_storeO 1 (v := elv (a5, c5, ps)) hH rfl rfl rfl (by omega) rfl (Ty.shp rfl) ?_)
    clear hH
    intro w6 hH
    change Hp _ _ _ [_, _, _, _] at hH
    rw [show ((i : Nat) : Int).toNat = i from rfl, elvs_set] at hH
    replace hH := Rl.put (Y := Y.set (i) (a5, c5, ps)) 2 3 hH rfl rfl (by decide) (fun y hy => by
      rcases List.mem_or_eq_of_mem_set hy with h | h
      · exact .inl h
      · exact .inr h)
    change Hp _ _ _ [_, _, _] at hH
    have hY2 : pse (Y.set (i) (a5, c5, ps)) = kp (pse E) (i + 1) 0 := by rw [pse_set, hY]; exact hkf
    generalize Y.set (i) (a5, c5, ps) = Y2 at *
    repeat (first | refine WS_region ?_ | refine WL_nil ?_ | refine WS_inBlock ?_ | (refine WL_r (by first | refine Run_pev rfl | refine k_add64 rfl rfl (by omega) | apply k_makeFunc) rfl ?_))
    refine IH (i + 1, Y2) _ _ ?_ ?_ ?_ ?_
    · simp only; omega
    · exact ⟨rfl, trivial⟩
    · exact (by repeat (first | with_reducible apply Agr.refl | refine Agr.upd rfl ?_ | refine Agr.updL rfl ?_ | refine Agr.mrg rfl ?_))
    · exact ⟨by omega, hY2, hH⟩
  obtain rfl : i = f2 := by omega
  clear IH
  repeat (first | refine WS_seq ?_ | refine WS_region ?_ | refine WL_nil ?_ | refine WS_block ?_ | refine WS_exit rfl ?_ | refine WS_no rfl (by omega) ?_ | (refine WL_r (by first | refine k_fa rfl (Ty.fld rfl rfl) | refine k_loadb rfl hB2 rfl (Ty.shp rfl) | refine Run_pev rfl | refine k_sub64 rfl rfl (by omega) | refine k_len rfl (Ty.isl rfl) | refine k_min rfl rfl | refine k_max rfl rfl | apply k_makeFunc) rfl ?_))
  clear hB2
  refine WS_loop (G := (Nat) × (List EL)) (fun | (j, Y) => k2 - j) 1180591616319364792448 (fun | (j, Y) => [(7, .int .i64 ((j : Int) + 1))]) (fun | (j, Y), w' => j ≤ k2 ∧ pse Y = kp (pse E) i j ∧ Hp [] w w' [Rb b2 71 #[.slice ae m ce, .int .i64 (f : Nat), .int .i64 (k : Nat)], Ro 46 1 (some ⟨bo, 0, none⟩) m m (elvs Y), Rl Y]) (0, Y) ⟨rfl, trivial⟩ ⟨by omega, hY, hH⟩ ?_
  rintro ⟨j, Y⟩ w' σ ⟨hj, hY, hH⟩ IH
  show WS _ _ _ _ _ (updL [(7, .int .i64 ((j : Int) + 1))] _) _
  have hB2 : Blk _ b2 71 #[.slice ae m ce, .int .i64 (f : Nat), .int .i64 (k : Nat)] := hH.b 0 rfl
  by_cases hlt : j < k2
  · have hiE : m - (j + 1) < E.length := by omega
    have hSe := hH.old hS
    have hat := elvs_at E hiE
    have hxs : SlA w E[m - (j + 1)].1 (evC E[m - (j + 1)].2.2) := Rl.at hR hiE
    have hx64 := hE _ (List.getElem_mem hiE)
    have hkf := kp_back (P := pse E) (f := i) (k := j) (by omega)
    simp only [hpl, hn] at hkf
    rw [show (pse E)[m - (j + 1)]'(by omega) = E[m - (j + 1)].2.2 by simp [pse]] at hkf
    generalize E[m - (j + 1)] = x at *
    obtain ⟨ax, cx, ps⟩ := x
    simp only at hxs hx64 hkf
    replace hat : (elvs E)[m - (j + 1)]? = some (.slice ax ps.length cx) := hat
    have hcl := evC_len ps
    have hix : ((m : Int) - ((j : Int) + 1)).toNat = m - (j + 1) := by omega
    repeat (first | refine WS_seq ?_ | refine WS_region ?_ | refine WL_nil ?_ | refine WS_block ?_ | refine WS_skip ?_ | refine WS_yes rfl (by omega) ?_ | (refine WL_r (by first | refine k_fa rfl (Ty.fld rfl rfl) | refine k_loadb rfl hB2 rfl (Ty.shp rfl) | refine Run_pev rfl | refine k_sub64 rfl rfl (by omega) | refine k_len rfl (Ty.isl rfl) | refine k_min rfl rfl | refine k_max rfl rfl) rfl ?_))
    clear hB2
    try refine WL_gyes rfl rfl rfl ?_
    refine WL_s (H_lit (out := []) hH (Ty.sle rfl) (Ty.zer rfl) rfl rfl rfl (by decide) rfl ?_)
    try clear hH
    intro _ b34 hH
    change Hp _ _ _ [_, _, _, _] at hH
    replace hH := hH.as 3 rfl (r' := Re (some ⟨b34, 0, none⟩) 0 0 []) (fun _ h => h) (fun h => (h : Blk _ _ _ _).own (n := 0) (sz := 3) rfl (by decide))
    change Hp _ _ _ [_, _, _, _] at hH
    have hB2 : Blk _ b2 71 #[.slice ae m ce, .int .i64 (f : Nat), .int .i64 (k : Nat)] := hH.b 0 rfl
    have hSe := hH.old hS
    rw [← hix] at hat
    repeat ((refine WL_r (by first | refine k_fa rfl (Ty.fld rfl rfl) | refine k_loadb rfl hB2 rfl (Ty.shp rfl) | refine k_ix1 rfl rfl hSe (by omega) (Ty.sle rfl) (by omega) | refine k_loads rfl hSe hat (Ty.shp rfl) | refine Run_pev rfl | refine k_sub64 rfl rfl (by omega) | refine k_len rfl (Ty.isl rfl)) rfl ?_))
    clear hB2
    refine WL_s (H_append 3 hH rfl (Ty.sle rfl) (Ty.zer rfl) rfl (Ty.byt rfl) (by decide) rfl rfl (hH.old hxs) hcl (evC_one ps) (by omega) (by simp only [maxLen]; omega) rfl ?_)
    clear hH
    intro w5 a5 c5 hH
    change Hp _ _ _ [_, _, _, _] at hH
    rw [Nat.zero_add ps.length, List.nil_append] at hH
    rw [Nat.zero_add ps.length]
    repeat ((refine WL_r (by first | refine k_ix1S rfl rfl (Ty.sle rfl) (by omega) | apply k_makeFunc) rfl ?_))
    refine WL_s (H_storeO 1 (v := elv (a5, c5, ps)) hH rfl rfl rfl (by omega) rfl (Ty.shp rfl) ?_)
    clear hH
    intro w6 hH
    change Hp _ _ _ [_, _, _, _] at hH
    rw [hix, elvs_set] at hH
    replace hH := Rl.put (Y := Y.set (m - (j + 1)) (a5, c5, ps)) 2 3 hH rfl rfl (by decide) (fun y hy => by
      rcases List.mem_or_eq_of_mem_set hy with h | h
      · exact .inl h
      · exact .inr h)
    change Hp _ _ _ [_, _, _] at hH
    have hY2 : pse (Y.set (m - (j + 1)) (a5, c5, ps)) = kp (pse E) i (j + 1) := by rw [pse_set, hY]; exact hkf
    generalize Y.set (m - (j + 1)) (a5, c5, ps) = Y2 at *
    repeat (first | refine WS_region ?_ | refine WL_nil ?_ | refine WS_inBlock ?_ | (refine WL_r (by first | refine Run_pev rfl | refine k_add64 rfl rfl (by omega) | apply k_makeFunc) rfl ?_))
    refine IH (j + 1, Y2) _ _ ?_ ?_ ?_ ?_
    · simp only; omega
    · exact ⟨rfl, trivial⟩
    · exact (by repeat (first | with_reducible apply Agr.refl | refine Agr.upd rfl ?_ | refine Agr.updL rfl ?_ | refine Agr.mrg rfl ?_))
    · exact ⟨by omega, hY2, hH⟩
  obtain rfl : j = k2 := by omega
  clear IH
  repeat (first | refine WS_seq ?_ | refine WS_region ?_ | refine WL_nil ?_ | refine WS_exit rfl ?_ | refine WS_no rfl (by omega) ?_ | (refine WL_r (by first | refine k_fa rfl (Ty.fld rfl rfl) | refine k_loadb rfl hB2 rfl (Ty.shp rfl) | refine Run_pev rfl | refine k_sub64 rfl rfl (by omega) | refine k_len rfl (Ty.isl rfl) | refine k_min rfl rfl | refine k_max rfl rfl | apply k_makeFunc) rfl ?_))
  exact WS_ret1 Try.func40 rfl ⟨Y, bo, hY, rfl, hH.del 0⟩
/-- A part that is right. -/
theorem SOf.right {X : List PS} {m : Nat} {v : Value} {w w' : World} (hX : GP X) (hm : X.length ≤ m) (h : SOf (escF 0 (pk (bP X ++ [true]))) m v w w') : ∃ (E : List EL) (b : Nat), pse E = sE m X [] ∧ v = .agg #[.slice (some ⟨b, 0, none⟩) m m, .int .i64 (X.length : Nat), .int .i64 0] ∧ Hp [] w w' [Ro 46 1 (some ⟨b, 0, none⟩) m m (elvs E), Rl E] := by
  obtain ⟨bs, E, b, hb, hE, rfl, hQ⟩ := h
  obtain rfl := hb.esc
  obtain ⟨h1, h2⟩ := s_right hX hm
  rw [h1, h2] at hE ⊢
  exact ⟨E, b, hE, rfl, hQ⟩
set_option maxHeartbeats 4000000 in
theorem awake24 (w : World) : Does Try.prog 37 #[] w fun v w' => v = .bool true ∧ Ext [] w w' := by
  refine Does_of (args := []) Try.func37 rfl rfl Try.ntmps37 rfl ?_
  have hH := Hp.start w
  have hg : GB [(0, (1 : Int))] := ⟨by simp, by simp, fun p hp => by simp at hp; subst hp; decide⟩
  repeat (first | refine WS_seq ?_ | refine WS_region ?_ | refine WL_nil ?_ | (refine WL_r (by first | refine k_buildS (cs := [.slice none 0 0, .int .i64 0]) (Ty.zer rfl) (Ty.plc rfl) rfl | refine Run_pev rfl) rfl ?_))
  refine WL_s (H_box hH rfl rfl rfl ?_)
  try clear hH
  intro w1 q hH
  replace hH : Hp [] w w1 [Rw q none 0 []] := hH.as 0 rfl (fun x hx => by simpa [Rw, sep, Rb, RBy, Ro, blk] using hx) (fun hB => ⟨hB, Own.nil, fun _ _ hb => by simp [RBy, Ro, blk] at hb⟩)
  repeat (first | refine WS_seq ?_ | refine WS_region ?_ | refine WL_nil ?_ | (refine WL_r (by first | refine k_buildS (cs := evc 0 1 true) (Ty.zer rfl) (Ty.plc rfl) rfl | refine Run_pev rfl) rfl ?_))
  try refine WL_gyes rfl rfl rfl ?_
  refine WL_s (H_lit (out := (evc 0 1 true)) hH (Ty.sle rfl) (Ty.zer rfl) rfl rfl rfl (by decide) rfl ?_)
  try clear hH
  intro _ b6 hH
  change Hp _ _ _ [_, _] at hH
  skip
  try refine WL_gyes rfl rfl rfl ?_
  refine WL_s (S_call (bput_spec hg rfl (by decide) ((hH.b 1 rfl).sl0) (hH.at 0 rfl) (hH.dj 0 1 rfl rfl (by decide))) rfl rfl ?_)
  rintro v w2 ⟨rfl, a2, c2, hU⟩
  replace hH := hH.up 0 rfl hU
  clear hU
  change Hp _ _ _ [_, _] at hH
  have eb : [] ++ bb [(0, (1 : Int))] = bP [[(0, 1)]] := by simp [bP]
  have hbl : (bP [[(0, (1 : Int))]]).length = 4 := by decide +kernel
  rw [eb] at hH
  have hX : GP [[(0, (1 : Int))]] := fun x hx => by simp at hx; subst hx; exact hg
  have hXl : ([[(0, (1 : Int))]] : List PS).length = 1 := rfl
  generalize hXX : ([[(0, (1 : Int))]] : List PS) = X at *
  have hpl := pk_len (bP X ++ [true])
  rw [List.length_append, List.length_singleton, hbl] at hpl
  have hel := escF_len (pk (bP X ++ [true])) 0
  repeat (first | refine WS_seq ?_ | refine WS_region ?_ | refine WL_nil ?_ | (refine WL_r (by refine Run_pev rfl) rfl ?_))
  try refine WL_gyes rfl rfl rfl ?_
  refine WL_s (S_call (wdone_spec (hH.at 0 rfl) (by omega)) rfl rfl ?_)
  rintro v w8 ⟨a8, c8, rfl, hN⟩
  replace hH := hH.nu hN
  clear hN
  change Hp _ _ _ [_, _, _] at hH
  skip
  try refine WL_gyes rfl rfl rfl ?_
  refine WL_s (S_call (put_spec (hH.o 2 rfl).sl (pk_byt _) rfl (by omega)) rfl rfl ?_)
  rintro v w9 ⟨a9, c9, rfl, hN⟩
  replace hH := hH.nu hN
  clear hN
  change Hp _ _ _ [_, _, _, _] at hH
  skip
  try refine WL_gyes rfl rfl rfl ?_
  refine WL_s (S_call (sof_spec (m := 1) (hH.o 3 rfl).sl (escF_byt _ _ (pk_byt _)) rfl (by omega) (by decide)) rfl rfl ?_)
  rintro v w10 hSO
  obtain ⟨E, b, hpE, rfl, hQ⟩ := SOf.right hX (by omega) hSO
  replace hH := Hp.cat hH hQ
  clear hQ hSO
  change Hp _ _ _ [_, _, _, _, _, _] at hH
  obtain ⟨x, rfl⟩ : ∃ x, E = [x] := by
    have := congrArg List.length hpE
    rw [pse_len, sE_len (by simp; omega)] at this
    exact List.length_eq_one_iff.1 this
  obtain ⟨ax, cx, ps⟩ := x
  have hps : ps = [(0, 1)] := by
    have h1 := congrArg (·[0]?) hpE
    simp only [sE_at1 (m := 1) (F := X) (B := []) (i := 0) (by omega)] at h1
    subst hXX
    simpa [pse] using h1
  subst hps
  skip
  refine WL_s (H_alloc hH (Ty.zer rfl) rfl ?_)
  try clear hH
  intro w11 b2 hH
  change Hp _ _ _ [_, _, _, _, _, _, _] at hH
  skip
  refine WL_s (H_storeA 6 hH rfl rfl rfl rfl rfl b3_one (Ty.shp rfl) ?_)
  try clear hH
  intro w12 hH
  change Hp _ _ _ [_, _, _, _, _, _, _] at hH
  have hB2 := hH.b 6 rfl
  have hO := (hH.o 4 rfl).sl
  rw [hXl] at hB2
  have hat : (elvs [((ax, cx, [(0, (1 : Int))]) : EL)])[0]? = some (.slice ax 1 cx) := rfl
  repeat (first | refine WS_seq ?_ | refine WS_region ?_ | refine WL_nil ?_ | refine WL_gyes rfl rfl rfl ?_ | (refine WL_r (by first | refine k_fa rfl (Ty.fld rfl rfl) | refine k_loadb rfl hB2 rfl (Ty.shp rfl) | refine (k_eql (q := .i64) rfl rfl).is (bT rfl) | refine k_ix1 rfl rfl hO rfl (Ty.sle rfl) (by omega) | refine k_loads rfl hO hat (Ty.shp rfl) | refine Run_pev rfl | refine k_len rfl (Ty.isl rfl) | apply k_makeFunc) rfl ?_))
  exact WS_ret1 Try.func37 rfl ⟨rfl, hH.ext⟩
/-! ### For the laws -/
theorem prt_eq (X : List EL) : prt X = escF 0 (pk (bP (pse X) ++ [true])) := by unfold prt; rw [pse_bits]
theorem pse_get {E : List EL} {P : List PS} {i : Nat} (h : pse E = P) (hi : i < E.length) : P[i]? = some E[i].2.2 := h ▸ pse_at E hi
theorem prt_len {X : List EL} (hG : GX X) (h : X.length ≤ 10) : (prt X).length ≤ 10000 := by
  have h1 := escF_len (pk (bL X ++ [true])) 0
  have h2 := pk_len (bL X ++ [true])
  have h3 := bL_le hG
  rw [List.length_append, List.length_singleton] at h2
  unfold prt
  omega
theorem GX.le {X : List EL} (h : GX X) : ∀ x ∈ X, x.2.2.length ≤ 64 := fun x hx => (h x hx).len
theorem sE_good {m : Nat} {bs : List Bool} {x : PS} (h : x ∈ sE m (sF m bs) (sB m bs)) : x = [] ∨ GB x := by
  unfold sE at h
  rcases List.mem_append.1 h with h | h
  · exact .inr (sF_good m bs x h)
  · rcases List.mem_append.1 h with h | h
    · exact .inl (List.mem_replicate.1 h).2
    · exact .inr (sB_good m bs x (List.mem_reverse.1 h))
theorem sE_le {m : Nat} {bs : List Bool} {E : List EL} (hE : pse E = sE m (sF m bs) (sB m bs)) : ∀ x ∈ E, x.2.2.length ≤ 64 := fun x hx => by
  have h1 : x.2.2 ∈ pse E := List.mem_map_of_mem hx
  rw [hE] at h1
  rcases sE_good h1 with h | h
  · rw [h]; simp
  · exact h.len
end Go.Proofs.Ytnamafelcjgjfaa

namespace Go.Proofs.Ytnamafelcjgjfaa
open Go Go.K Go.P Go.RowKit Go.Proofs Go.ChangeShapes Go.WideShapes Go.ChangeAt
theorem sE_in {m j : Nat} {bs : List Bool} (hj : j < m) : ∃ x, (sE m (sF m bs) (sB m bs))[j]? = some x ∧ ((j < (sF m bs).length ∨ m - (sB m bs).length ≤ j) → GB x) ∧ (¬ (j < (sF m bs).length ∨ m - (sB m bs).length ≤ j) → x = []) := by
  have hs := sB_len m bs
  by_cases h1 : j < (sF m bs).length
  · exact ⟨_, sE_at1 h1, fun _ => sF_good m bs _ (List.getElem_mem h1), fun h => absurd (.inl h1) h⟩
  · by_cases h2 : m - (sB m bs).length ≤ j
    · have h3 := sE_at3 hs (j := m - 1 - j) (by omega)
      rw [show m - 1 - (m - 1 - j) = j by omega] at h3
      exact ⟨_, h3, fun _ => sB_good m bs _ (List.getElem_mem _), fun h => absurd (.inr h2) h⟩
    · exact ⟨_, sE_at2 hs (by omega) (by omega), fun h => by omega, fun _ => rfl⟩
theorem bP_rep (n : Nat) : bP (List.replicate n []) = [] := by
  induction n with
  | zero => rfl
  | succ n ih => rw [List.replicate_succ, bP_cons, ih]; rfl
theorem bP_rev (X : List PS) : (bP X.reverse).length = (bP X).length := by
  induction X with
  | nil => rfl
  | cons x X ih => rw [List.reverse_cons, bP_snoc, List.length_append, ih, bP_cons, List.length_append]; omega
theorem sE_bits (m : Nat) (F Z : List PS) : (bP (sE m F Z)).length = (bP F).length + (bP Z).length := by
  unfold sE
  rw [bP_app, bP_app, bP_rep, List.nil_append, List.length_append, bP_rev]
theorem bP_take {L : List PS} {j : Nat} {x : PS} (h : L[j]? = some x) : (bP (L.take (j + 1))).length = (bP (L.take j)).length + (bb x).length := by
  rw [List.take_add_one, h, bP_app, List.length_append]
  simp [bP]
theorem bP_pre (L : List PS) (j : Nat) : (bP (L.take j)).length ≤ (bP L).length := by
  have e := congrArg (fun l => (bP l).length) (List.take_append_drop j L)
  simp only [bP_app, List.length_append] at e
  omega
/-- One of three lists. -/
def pick3 (b z y : List Nat) (i : Nat) : List Nat := if i = 0 then b else if i = 1 then z else y
set_option maxRecDepth 20000 in
set_option maxHeartbeats 8000000 in
theorem sany_spec {a ar : Option Addr} {cap capr t bt mn : Nat} {b : List Nat} {ms : List SM} {less : Int} {w : World} (hSb : SlA w ar (b.map B)) (hbb : Byt b) (hblen : b.length ≤ 9223372036854775807) (hS : SlA w a (smcs ms)) (hok : ∀ x ∈ ms, x.ok) (hlen : ms.length ≤ 9223372036854775807) (ht : t < 65536) (hbt : bt < 256) (hmn : mn < 256) (hl : -9223372036854775808 ≤ less ∧ less ≤ 9223372036854775807) :
    Does Try.prog 12 #[.slice ar b.length capr, .slice a ms.length cap, .int .u16 t, .int .u8 bt, .int .u8 mn, .int .i64 less] w fun v w' => v = .bool true ∧ Ext [] w w' := by
  refine Does_of (args := [_, _, _, _, _, _]) Try.func12 rfl rfl Try.ntmps12 rfl ?_
  repeat (first | refine WS_seq ?_ | refine WS_region ?_ | refine WL_nil ?_ | (refine WL_r (by refine Run_pev rfl) rfl ?_))
  try refine WL_gyes rfl rfl rfl ?_
  refine WL_s (S_call (awake24 w) rfl rfl ?_)
  rintro v w1 ⟨rfl, hW1⟩
  have hH := (Hp.start w).ext0 hW1
  clear hW1
  by_cases hb2 : 200 < b.length
  · repeat (first | refine WS_seq ?_ | refine WS_region ?_ | refine WL_nil ?_ | refine WS_skip ?_ | refine WS_false rfl ?_ | refine WS_yes rfl (by omega) ?_ | (refine WL_r (by first | refine Run_pev rfl | refine k_len rfl (Ty.isl rfl) | apply k_makeFunc) rfl ?_))
    exact WS_ret1 Try.func12 rfl ⟨rfl, hH.ext⟩
  repeat (first | refine WS_seq ?_ | refine WS_region ?_ | refine WL_nil ?_ | refine WS_skip ?_ | refine WS_false rfl ?_ | refine WS_no rfl (by omega) ?_ | (refine WL_r (by first | refine Run_pev rfl | refine k_len rfl (Ty.isl rfl)) rfl ?_))
  try refine WL_gyes rfl rfl rfl ?_
  refine WL_s (S_call (part_spec (hH.old hS) hok hlen) rfl rfl ?_)
  rintro v w2 ⟨X, al, cl, ab, cb, hG, hX10, rfl, hQ⟩
  replace hH := Hp.cat hH hQ
  clear hQ
  change Hp _ _ _ [_, _, _] at hH
  have hpl := prt_len hG hX10
  have hpp := prt_pos X
  have hpb := prt_byt X
  generalize prt X = o at *
  obtain ⟨i, hi⟩ : ∃ i, t % o.length = i := ⟨_, rfl⟩
  have hil : i < o.length := by have := Nat.mod_lt t (show 0 < o.length by omega); omega
  have hiI : (t : Int) % (o.length : Int) = (i : Int) := by rw [← hi]; simp
  have hcI : o[i]? = some o[i] := List.getElem?_eq_getElem hil
  have hcb : o[i] < 256 := hpb _ (List.getElem_mem hil)
  have hv : (o.map B)[i]? = some (B o[i]) := by rw [List.getElem?_map, hcI]; rfl
  have hoy : (o.map B).length = o.length := by simp
  generalize o[i] = c at *
  have hOy : SlA _ ab (o.map B) := (hH.o 2 rfl).sl
  repeat (first | refine WS_seq ?_ | refine WS_region ?_ | refine WL_nil ?_ | (refine WL_r (by first | refine (k_rem (m := (t : Int)) (n := (o.length : Int)) rfl rfl ⟨by omega, by omega⟩).is (congrArg (Value.int .i64) hiI) | refine k_ix1 rfl rfl hOy hoy (Ty.sle rfl) (by omega) | refine k_loads rfl hOy hv (Ty.shp rfl) | refine k_xor rfl rfl (fit8 hcb) (fit8 hbt) | refine Run_pev rfl | refine k_len rfl (Ty.isl rfl) | refine k_extract rfl rfl | refine k_convI rfl rfl rfl (by omega)) rfl ?_))
  refine WL_s (H_storeO 2 (v := B (c ^^^ bt)) hH rfl rfl rfl (by omega) rfl (Ty.shp rfl) ?_)
  try clear hH
  intro w3 hH
  change Hp _ _ _ [_, _, _] at hH
  rw [← List.map_set, show ((i : Int)).toNat = i from rfl] at hH
  have hzl : (o.set i (c ^^^ bt)).length = o.length := List.length_set
  have hzb : Byt (o.set i (c ^^^ bt)) := fun y hy => by
    rcases List.mem_or_eq_of_mem_set hy with h | h
    · exact hpb y h
    · subst h; exact Nat.xor_lt_two_pow (n := 8) hcb hbt
  clear hOy hv hcI
  generalize o.set i (c ^^^ bt) = z at *
  rw [← hzl] at hH hpl ⊢
  replace hH := (hH.del 1).del 0
  change Hp _ _ _ [_] at hH
  clear hoy hiI hi hil hpb hcb hpp hzl
  have hbl : (b.map B).length = b.length := by simp
  repeat (first | refine WS_seq ?_ | refine WS_region ?_ | refine WL_nil ?_ | (refine WL_r (by refine Run_pev rfl) rfl ?_))
  try refine WL_gyes rfl rfl rfl ?_
  refine WL_s (H_lit (out := []) hH (Ty.sle rfl) (Ty.zer rfl) rfl rfl rfl (by decide) rfl ?_)
  try clear hH
  intro _ b5 hH
  change Hp _ _ _ [_, _] at hH
  replace hH := hH.as 1 rfl (r' := RB (some ⟨b5, 0, none⟩) 0 []) (fun _ h => h) (fun h => (h : Blk _ _ _ _).own (n := 0) (sz := 1) rfl (by decide))
  change Hp _ _ _ [_, _] at hH
  repeat ((refine WL_r (by refine Run_pev rfl) rfl ?_))
  refine WL_s (H_append 1 hH rfl (Ty.sle rfl) (Ty.zer rfl) rfl (Ty.byt rfl) (by decide) rfl rfl (hH.old hSb) (by simp) (fun u hu => by obtain ⟨x, _, rfl⟩ := List.mem_map.1 hu; rfl) (by simp; omega) (by simp only [maxLen, List.length_nil]; omega) rfl ?_)
  clear hH
  intro w4 a4 c4 hH
  change Hp _ _ _ [_, _] at hH
  skip
  try refine WL_gyes rfl rfl rfl ?_
  refine WL_s (H_lit (out := [.int .u8 1]) hH (Ty.sle rfl) (Ty.zer rfl) rfl rfl rfl (by decide) rfl ?_)
  try clear hH
  intro _ b6 hH
  change Hp _ _ _ [_, _, _] at hH
  skip
  refine WL_s (H_append 1 hH rfl (Ty.sle rfl) (Ty.zer rfl) rfl (Ty.byt rfl) (by decide) rfl rfl (hH.b 2 rfl).sl0 (by rfl) (by simp; try rfl) (by simp; omega) (by simp only [maxLen, List.length_nil]; omega) rfl ?_)
  clear hH
  intro w5 a5 c5 hH
  replace hH := hH.del 2
  change Hp _ _ _ [_, _] at hH
  have hb1 : Byt (b ++ [1]) := fun x hx => by
    rcases List.mem_append.1 hx with h | h
    · exact hbb x h
    · simp at h; omega
  have hSb1 : SlA w5 a5 ((b ++ [1]).map B) := by
    have := (hH.o 1 rfl).sl
    rw [List.map_append]; exact this
  have hl1 : (b ++ [1]).length = 0 + b.length + 1 := by simp
  skip
  try refine WL_gyes rfl rfl rfl ?_
  refine WL_s (S_call (put_spec hSb1 hb1 hl1 (by omega)) rfl rfl ?_)
  rintro v w6 ⟨a6, c6, rfl, hN⟩
  replace hH := (hH.nu hN).del 1
  clear hN
  change Hp _ _ _ [_, _] at hH
  have hyl := escF_len (b ++ [1]) 0
  have hyb := escF_byt (b ++ [1]) 0 hb1
  rw [hl1] at hyl
  clear hl1 hb1 hSb1
  generalize escF 0 (b ++ [1]) = y at *
  skip
  try refine WL_gyes rfl rfl rfl ?_
  refine WL_s (H_lit (out := [.slice ar b.length capr, .slice ab z.length cb, .slice a6 y.length c6]) hH (Ty.sle rfl) (Ty.zer rfl) rfl rfl rfl (by decide) rfl ?_)
  try clear hH
  intro _ b8 hH
  change Hp _ _ _ [_, _, _] at hH
  repeat (first | refine WL_nil ?_ | refine WS_block ?_ | (refine WL_r (by first | refine Run_pev rfl | refine k_len rfl (Ty.isl rfl) | apply k_makeFunc) rfl ?_))
  refine WS_loop (G := (Nat)) (fun i => 3 - i) 401734511064747568885490523085290650630549595524194138820608 (fun i => [(60, .int .i64 i)]) (fun i w' => i ≤ 3 ∧ Hp [] w w' [RB ab cb z, RB a6 c6 y, Rb b8 29 #[.slice ar b.length capr, .slice ab z.length cb, .slice a6 y.length c6]]) (0) ⟨rfl, trivial⟩ ⟨by omega, hH⟩ ?_
  rintro i u1 σ ⟨hi, hH⟩ IH
  show WS _ _ _ _ _ (updL [(60, .int .i64 i)] _) _
  by_cases hlt : i < 3
  · obtain ⟨x, ax, cx, hxi, hSx, hxb, hxl⟩ : ∃ (x : List Nat) (ax : Option Addr) (cx : Nat), [Value.slice ar b.length capr, .slice ab z.length cb, .slice a6 y.length c6][i]? = some (.slice ax x.length cx) ∧ SlA u1 ax (x.map B) ∧ Byt x ∧ x.length ≤ 1000000 := by
      rcases (show i = 0 ∨ i = 1 ∨ i = 2 by omega) with rfl | rfl | rfl
      · exact ⟨b, ar, capr, rfl, hH.old hSb, hbb, by omega⟩
      · exact ⟨z, ab, cb, rfl, (hH.o 0 rfl).sl, hzb, by omega⟩
      · exact ⟨y, a6, c6, rfl, (hH.o 1 rfl).sl, hyb, by omega⟩
    have hS8 : SlA u1 (some ⟨b8, 0, none⟩) [Value.slice ar b.length capr, .slice ab z.length cb, .slice a6 y.length c6] := (hH.b 2 rfl).sl0
    obtain ⟨n, hn⟩ : ∃ n, n = if i = 1 then X.length else mn % 20 := ⟨_, rfl⟩
    have hn19 : n ≤ 19 := by rw [hn]; split <;> omega
    apply join
    · intro key
      by_cases h1 : i = 1
      · repeat (first | refine WS_seq ?_ | refine WS_region ?_ | refine WL_nil ?_ | refine WS_block ?_ | refine WS_skip ?_ | refine WS_true rfl ?_ | refine WS_yes rfl (by omega) ?_ | (refine WL_r (by first | refine k_ix1 rfl rfl hS8 rfl (Ty.sle rfl) (by omega) | refine k_loads rfl hS8 hxi (Ty.shp rfl) | refine k_remu (n := 20) rfl rfl (by decide) | refine (k_eql (q := .i64) rfl rfl).is (bT (by omega)) | refine Run_pev rfl | refine k_len rfl (Ty.isl rfl) | refine k_convI rfl rfl rfl (by omega)) rfl ?_))
        apply WL_keepM 401734511064747568885490523085290650630549595524194138820608 [(60, .int .i64 i), (16, .slice ax x.length cx), (17, .int .i64 n), (72, .slice ax x.length cx), (73, .int .i64 n)]
        · exact ⟨rfl, rfl, congrArg (fun n : Nat => Value.int .i64 (n : Int)) (show X.length = n by rw [hn, if_pos h1]), rfl, congrArg (fun n : Nat => Value.int .i64 (n : Int)) (show X.length = n by rw [hn, if_pos h1]), trivial⟩
        · repeat (first | ((with_reducible apply Agr.upd); · exact rfl) | ((with_reducible apply Agr.consL); · exact rfl) | (with_reducible apply Agr.nilL) | ((with_reducible apply Agr.mrg); (· exact rfl); apply Agr.refl))
        intro σ
        exact key σ
      · repeat (first | refine WS_seq ?_ | refine WS_region ?_ | refine WL_nil ?_ | refine WS_block ?_ | refine WS_skip ?_ | refine WS_false rfl ?_ | refine WS_yes rfl (by omega) ?_ | (refine WL_r (by first | refine k_ix1 rfl rfl hS8 rfl (Ty.sle rfl) (by omega) | refine k_loads rfl hS8 hxi (Ty.shp rfl) | refine k_remu (n := 20) rfl rfl (by decide) | refine (k_eql (q := .i64) rfl rfl).is (bF (by omega)) | refine Run_pev rfl | refine k_convI rfl rfl rfl (by omega)) rfl ?_))
        apply WL_keepM 401734511064747568885490523085290650630549595524194138820608 [(60, .int .i64 i), (16, .slice ax x.length cx), (17, .int .i64 n), (72, .slice ax x.length cx), (73, .int .i64 n)]
        · exact ⟨rfl, rfl, congrArg (fun n : Nat => Value.int .i64 (n : Int)) (show mn % 20 = n by rw [hn, if_neg h1]), rfl, congrArg (fun n : Nat => Value.int .i64 (n : Int)) (show mn % 20 = n by rw [hn, if_neg h1]), trivial⟩
        · repeat (first | ((with_reducible apply Agr.upd); · exact rfl) | ((with_reducible apply Agr.consL); · exact rfl) | (with_reducible apply Agr.nilL) | ((with_reducible apply Agr.mrg); (· exact rfl); apply Agr.refl))
        intro σ
        exact key σ
    clear hn hxi hS8
    intro σ
    try refine WL_gyes rfl rfl rfl ?_
    refine WL_s (S_call (sof_spec (m := n) hSx hxb rfl (by omega) (by omega)) rfl rfl ?_)
    rintro v u2 ⟨bs, E, be, hPB, hpE, rfl, hQ⟩
    have hbs := hPB.len
    clear hPB hSx
    replace hH := Hp.cat hH hQ
    clear hQ
    change Hp _ _ _ [_, _, _, _, _] at hH
    have hsl := sB_len n bs
    have hbits := s_bits n bs
    rw [← sE_bits n, ← hpE] at hbits
    have hE64 := sE_le hpE
    have hEX : E.length = n := by rw [← pse_len, hpE, sE_len hsl]
    have hin : ∀ j (hj : j < E.length), ((j < (sF n bs).length ∨ n - (sB n bs).length ≤ j) → GB E[j].2.2) ∧ (¬ (j < (sF n bs).length ∨ n - (sB n bs).length ≤ j) → E[j].2.2 = []) := fun j hj => by
      obtain ⟨x, h1, h2, h3⟩ := sE_in (bs := bs) (show j < n by omega)
      have h4 := pse_get hpE hj
      rw [h1] at h4
      obtain rfl := Option.some.inj h4
      exact ⟨h2, h3⟩
    obtain ⟨f, hf⟩ : ∃ f, f = (sF n bs).length := ⟨_, rfl⟩
    obtain ⟨k, hk⟩ : ∃ k, k = (sB n bs).length := ⟨_, rfl⟩
    rw [← hf, ← hk] at hsl ⊢
    simp only [← hf, ← hk] at hin
    clear hpE hf hk
    skip
    refine WL_s (H_alloc hH (Ty.zer rfl) rfl ?_)
    try clear hH
    intro w11 b18 hH
    change Hp _ _ _ [_, _, _, _, _, _] at hH
    skip
    refine WL_s (H_storeA 5 hH rfl rfl rfl rfl rfl b3_one (Ty.shp rfl) ?_)
    clear hH
    intro w12 hH
    change Hp _ _ _ [_, _, _, _, _, _] at hH
    have hB : Blk w12 b18 71 #[.slice (some ⟨be, 0, none⟩) n n, .int .i64 (f : Nat), .int .i64 (k : Nat)] := hH.b 5 rfl
    have hOE : SlA w12 (some ⟨be, 0, none⟩) (elvs E) := (hH.o 3 rfl).sl
    have hRE := hH.at 4 rfl
    have hlE := elvs_len E
    have hHo := hH
    clear hH
    repeat (first | refine WS_seq ?_ | refine WS_region ?_ | refine WL_nil ?_ | refine WS_block ?_ | refine WS_skip ?_ | refine WS_false rfl ?_ | refine WL_gyes rfl rfl rfl ?_ | (refine WL_r (by first | refine k_fa rfl (Ty.fld rfl rfl) | refine k_loadb rfl hB rfl (Ty.shp rfl) | refine (k_lss (q := .i64) rfl rfl).is (bF (by omega)) | refine (k_gtr (q := .i64) rfl rfl).is (bF (by omega)) | refine (k_neq (q := .i64) rfl rfl).is (bF (fun h => h rfl)) | refine Run_pev rfl | refine k_add64 rfl rfl (by omega) | refine k_len rfl (Ty.isl rfl) | apply k_makeFunc) rfl ?_))
    refine WS_loop (G := (Nat)) (fun j => n - j) 348449143721970384185582680404143851966464 (fun j => [(19, .int .i64 ((bP ((pse E).take j)).length : Nat)), (102, .int .i64 j)]) (fun j w' => j ≤ n ∧ Ext [] w12 w') (0) ⟨rfl, rfl, trivial⟩ ⟨by omega, .refl⟩ ?_
    rintro j u3 σ ⟨hj, hW⟩ IH
    show WS _ _ _ _ _ (updL [(19, .int .i64 ((bP ((pse E).take j)).length : Nat)), (102, .int .i64 j)] _) _
    by_cases hjl : j < n
    · have hjE : j < E.length := by omega
      have hH := Hp.start u3
      have hsE := (Rl.at hRE hjE).ext0 hW
      have hOE3 := hOE.ext0 hW
      have hB3 := hB.ext0 hW
      have hei := elvs_at E hjE
      obtain ⟨hin1, hin2⟩ := hin j hjE
      have htk := bP_take (pse_at E hjE)
      have hp1 := bP_pre (pse E) (j + 1)
      generalize E[j] = e at *
      obtain ⟨ae, ce, pe⟩ := e
      replace hei : (elvs E)[j]? = some (.slice ae pe.length ce) := hei
      simp only at hsE hin1 hin2 htk
      have hsm : ((bP ((pse E).take j)).length : Int) + ((bb pe).length : Int) = ((bP ((pse E).take (j + 1))).length : Int) := by omega
      by_cases h1 : j < f
      · have hg := hin1 (.inl h1)
        have hpl : 0 < pe.length := by have := hg.ne; cases pe with | nil => exact absurd rfl this | cons _ _ => simp
        repeat (first | refine WS_seq ?_ | refine WS_region ?_ | refine WL_nil ?_ | refine WS_block ?_ | refine WS_skip ?_ | refine WS_true rfl ?_ | refine WS_false rfl ?_ | refine WL_gno rfl rfl rfl rfl rfl ?_ | (refine WL_r (by first | refine k_fa rfl (Ty.fld rfl rfl) | refine k_loadb rfl hB3 rfl (Ty.shp rfl) | refine k_ix1 rfl rfl hOE3 (by omega) (Ty.sle rfl) (by omega) | refine k_loads rfl hOE3 hei (Ty.shp rfl) | refine (k_lss (q := .i64) rfl rfl).is (bT (by omega)) | refine (k_gtr (q := .i64) rfl rfl).is (bT (by omega)) | refine k_neqbF rfl rfl (by kernel_rfl) rfl | refine k_buildS (cs := [.slice none 0 0, .int .i64 0]) (Ty.zer rfl) (Ty.plc rfl) rfl | refine Run_pev rfl | refine k_len rfl (Ty.isl rfl)) rfl ?_))
        refine WL_s (H_box hH rfl rfl rfl ?_)
        clear hH
        intro u4 q hH
        replace hH : Hp [] u3 u4 [Rw q none 0 []] := hH.as 0 rfl (fun x hx => by simpa [Rw, sep, Rb, RBy, Ro, blk] using hx) (fun hB => ⟨hB, Own.nil, fun _ _ hb => by simp [RBy, Ro, blk] at hb⟩)
        have hne : evC pe ≠ [] := fun e => by have := evC_len pe; rw [e] at this; simp at this; omega
        repeat (first | refine WS_seq ?_ | refine WS_region ?_ | refine WL_nil ?_ | refine WL_gyes rfl rfl rfl ?_ | (refine WL_r (by refine Run_pev rfl) rfl ?_))
        try refine WL_gyes rfl rfl rfl ?_
        refine WL_s (S_call (bput_spec hg rfl (by simp) (hH.old hsE) (hH.at 0 rfl) (fun s hs hb => by have h1 := hsE.lt hne s hb; have h2 := hH.new _ (List.mem_of_getElem? (i := 0) rfl) s hs; simp at h2; omega)) rfl rfl ?_)
        rintro v u5 ⟨rfl, a5, c5, hU⟩
        replace hH := hH.up 0 rfl hU
        clear hU
        change Hp _ _ _ [_] at hH
        repeat (first | refine WS_region ?_ | refine WL_nil ?_ | refine WS_skip ?_ | refine WS_false rfl ?_ | refine WL_gyes rfl rfl rfl ?_ | (refine WL_r (by refine Run_pev rfl) rfl ?_))
        try refine WL_gyes rfl rfl rfl ?_
        refine WL_s (S_call (wlen_spec (hH.at 0 rfl)) rfl rfl ?_)
        rintro v u6 ⟨rfl, rfl⟩
        rw [List.nil_append]
        repeat (first | refine WS_region ?_ | refine WL_nil ?_ | refine WS_inBlock ?_ | (refine WL_r (by first | refine (k_add64 rfl rfl (by omega)).is (congrArg (Value.int .i64) hsm) | refine Run_pev rfl | refine k_add64 rfl rfl (by omega) | apply k_makeFunc) rfl ?_))
        refine IH (j + 1) _ _ ?_ ?_ ?_ ?_
        · omega
        · exact ⟨rfl, rfl, trivial⟩
        · exact (by repeat (first | with_reducible apply Agr.refl | refine Agr.upd rfl ?_ | refine Agr.updL rfl ?_ | refine Agr.mrg rfl ?_))
        · exact ⟨by omega, hW.then0 hH.ext⟩
      · by_cases h2 : n - k ≤ j
        · have hg := hin1 (.inr h2)
          have hpl : 0 < pe.length := by have := hg.ne; cases pe with | nil => exact absurd rfl this | cons _ _ => simp
          repeat (first | refine WS_seq ?_ | refine WS_region ?_ | refine WL_nil ?_ | refine WS_block ?_ | refine WS_skip ?_ | refine WS_true rfl ?_ | refine WS_false rfl ?_ | refine WL_gyes rfl rfl rfl ?_ | (refine WL_r (by first | refine k_fa rfl (Ty.fld rfl rfl) | refine k_loadb rfl hB3 rfl (Ty.shp rfl) | refine k_ix1 rfl rfl hOE3 (by omega) (Ty.sle rfl) (by omega) | refine k_loads rfl hOE3 hei (Ty.shp rfl) | refine (k_lss (q := .i64) rfl rfl).is (bT (by omega)) | refine (k_lss (q := .i64) rfl rfl).is (bF (by omega)) | refine (k_gtr (q := .i64) rfl rfl).is (bT (by omega)) | refine (k_geq (q := .i64) rfl rfl).is (bT (by omega)) | refine k_neqbF rfl rfl (by kernel_rfl) rfl | refine k_buildS (cs := [.slice none 0 0, .int .i64 0]) (Ty.zer rfl) (Ty.plc rfl) rfl | refine Run_pev rfl | refine k_sub64 rfl rfl (by omega) | refine k_len rfl (Ty.isl rfl)) rfl ?_))
          refine WL_s (H_box hH rfl rfl rfl ?_)
          clear hH
          intro u4 q hH
          replace hH : Hp [] u3 u4 [Rw q none 0 []] := hH.as 0 rfl (fun x hx => by simpa [Rw, sep, Rb, RBy, Ro, blk] using hx) (fun hB => ⟨hB, Own.nil, fun _ _ hb => by simp [RBy, Ro, blk] at hb⟩)
          have hne : evC pe ≠ [] := fun e => by have := evC_len pe; rw [e] at this; simp at this; omega
          repeat (first | refine WS_seq ?_ | refine WS_region ?_ | refine WL_nil ?_ | refine WL_gyes rfl rfl rfl ?_ | (refine WL_r (by refine Run_pev rfl) rfl ?_))
          try refine WL_gyes rfl rfl rfl ?_
          refine WL_s (S_call (bput_spec hg rfl (by simp) (hH.old hsE) (hH.at 0 rfl) (fun s hs hb => by have h1 := hsE.lt hne s hb; have h2 := hH.new _ (List.mem_of_getElem? (i := 0) rfl) s hs; simp at h2; omega)) rfl rfl ?_)
          rintro v u5 ⟨rfl, a5, c5, hU⟩
          replace hH := hH.up 0 rfl hU
          clear hU
          change Hp _ _ _ [_] at hH
          repeat (first | refine WS_region ?_ | refine WL_nil ?_ | refine WS_skip ?_ | refine WS_false rfl ?_ | refine WL_gyes rfl rfl rfl ?_ | (refine WL_r (by refine Run_pev rfl) rfl ?_))
          try refine WL_gyes rfl rfl rfl ?_
          refine WL_s (S_call (wlen_spec (hH.at 0 rfl)) rfl rfl ?_)
          rintro v u6 ⟨rfl, rfl⟩
          rw [List.nil_append]
          repeat (first | refine WS_region ?_ | refine WL_nil ?_ | refine WS_inBlock ?_ | (refine WL_r (by first | refine (k_add64 rfl rfl (by omega)).is (congrArg (Value.int .i64) hsm) | refine Run_pev rfl | refine k_add64 rfl rfl (by omega) | apply k_makeFunc) rfl ?_))
          refine IH (j + 1) _ _ ?_ ?_ ?_ ?_
          · omega
          · exact ⟨rfl, rfl, trivial⟩
          · exact (by repeat (first | with_reducible apply Agr.refl | refine Agr.upd rfl ?_ | refine Agr.updL rfl ?_ | refine Agr.mrg rfl ?_))
          · exact ⟨by omega, hW.then0 hH.ext⟩
        · obtain rfl := hin2 (by omega)
          repeat (first | refine WS_seq ?_ | refine WS_region ?_ | refine WL_nil ?_ | refine WS_block ?_ | refine WS_skip ?_ | refine WS_true rfl ?_ | refine WS_false rfl ?_ | refine WL_gyes rfl rfl rfl ?_ | (refine WL_r (by first | refine k_fa rfl (Ty.fld rfl rfl) | refine k_loadb rfl hB3 rfl (Ty.shp rfl) | refine k_ix1 rfl rfl hOE3 (by omega) (Ty.sle rfl) (by omega) | refine k_loads rfl hOE3 hei (Ty.shp rfl) | refine (k_lss (q := .i64) rfl rfl).is (bT (by omega)) | refine (k_lss (q := .i64) rfl rfl).is (bF (by omega)) | refine (k_geq (q := .i64) rfl rfl).is (bF (by omega)) | refine k_neqbF rfl rfl (by kernel_rfl) rfl | refine k_buildS (cs := [.slice none 0 0, .int .i64 0]) (Ty.zer rfl) (Ty.plc rfl) rfl | refine Run_pev rfl | refine k_sub64 rfl rfl (by omega) | refine k_len rfl (Ty.isl rfl)) rfl ?_))
          refine WL_s (H_box hH rfl rfl rfl ?_)
          clear hH
          intro u4 q hH
          replace hH : Hp [] u3 u4 [Rw q none 0 []] := hH.as 0 rfl (fun x hx => by simpa [Rw, sep, Rb, RBy, Ro, blk] using hx) (fun hB => ⟨hB, Own.nil, fun _ _ hb => by simp [RBy, Ro, blk] at hb⟩)
          repeat (first | refine WS_seq ?_ | refine WS_region ?_ | refine WL_nil ?_ | refine WS_skip ?_ | refine WS_false rfl ?_ | refine WL_gno rfl rfl rfl rfl rfl ?_ | (refine WL_r (by refine Run_pev rfl) rfl ?_))
          try refine WL_gyes rfl rfl rfl ?_
          refine WL_s (S_call (wlen_spec (hH.at 0 rfl)) rfl rfl ?_)
          rintro v u6 ⟨rfl, rfl⟩
          have hsm0 : ((bP ((pse E).take j)).length : Int) + (([] : List Bool).length : Int) = ((bP ((pse E).take (j + 1))).length : Int) := hsm
          repeat (first | refine WS_region ?_ | refine WL_nil ?_ | refine WS_inBlock ?_ | (refine WL_r (by first | refine (k_add64 rfl rfl (by simp; omega)).is (congrArg (Value.int .i64) hsm0) | refine Run_pev rfl | refine k_add64 rfl rfl (by omega) | apply k_makeFunc) rfl ?_))
          refine IH (j + 1) _ _ ?_ ?_ ?_ ?_
          · omega
          · exact ⟨rfl, rfl, trivial⟩
          · exact (by repeat (first | with_reducible apply Agr.refl | refine Agr.upd rfl ?_ | refine Agr.updL rfl ?_ | refine Agr.mrg rfl ?_))
          · exact ⟨by omega, hW.then0 hH.ext⟩
    obtain rfl : n = j := by omega
    clear IH
    have hH := hHo.ext0 hW
    replace hB := hB.ext0 hW
    replace hOE := hOE.ext0 hW
    replace hRE := hH.at 4 rfl
    clear hHo hW
    have hbt : (bP ((pse E).take n)).length ≤ 8 * x.length := by have := bP_pre (pse E) n; omega
    repeat (first | refine WS_seq ?_ | refine WS_region ?_ | refine WL_nil ?_ | refine WS_skip ?_ | refine WS_exit rfl ?_ | refine WS_false rfl ?_ | refine WS_no rfl (by omega) ?_ | (refine WL_r (by first | refine (k_mul64 (m := 8) (n := (x.length : Int)) rfl rfl (by omega)) | refine (k_gtr (q := .i64) rfl rfl).is (bF (by omega)) | refine k_loadA rfl hB rfl (Ty.shp rfl) | refine Run_pev rfl | refine k_len rfl (Ty.isl rfl)) rfl ?_))
    try refine WL_gyes rfl rfl rfl ?_
    refine WL_s (S_call (kept_spec hOE hRE hE64 hEX (by omega) (by omega) (by omega) hl) rfl rfl ?_)
    rintro v u4 ⟨Y, bk, hpY, rfl, hQ⟩
    replace hH := Hp.cat hH hQ
    clear hQ
    change Hp _ _ _ [_, _, _, _, _, _, _, _] at hH
    replace hB : Blk u4 b18 71 #[.slice (some ⟨be, 0, none⟩) n n, .int .i64 (f : Nat), .int .i64 (k : Nat)] := hH.b 5 rfl
    obtain ⟨d, hd⟩ : ∃ d, d = lss f n less := ⟨_, rfl⟩
    rw [← hd] at hpY
    have hd64 : d ≤ 9223372036854775807 := by rw [hd]; unfold lss; split <;> omega
    apply join
    · intro key
      by_cases hfm : f = n
      · have hd0 : (0 : Int) = (d : Int) := by rw [hd]; unfold lss; rw [if_pos hfm]; rfl
        repeat (first | refine WS_seq ?_ | refine WS_region ?_ | refine WL_nil ?_ | refine WS_block ?_ | refine WS_true rfl ?_ | (refine WL_r (by first | refine k_fa rfl (Ty.fld rfl rfl) | refine k_loadb rfl hB rfl (Ty.shp rfl) | refine (k_eql (q := .i64) rfl rfl).is (bT (by omega)) | refine Run_pev rfl | refine k_len rfl (Ty.isl rfl) | refine k_max rfl rfl | apply k_makeFunc) rfl ?_))
        apply WS_keepM 401734511064747568885490523085290650630549595524194138820608 [(60, .int .i64 i), (17, .int .i64 n), (18, pt b18), (24, .slice (some ⟨bk, 0, none⟩) n n), (25, .int .i64 (d : Nat)), (152, .slice (some ⟨bk, 0, none⟩) n n), (153, .int .i64 n), (154, .int .i64 0)]
        · exact ⟨rfl, rfl, rfl, rfl, congrArg (Value.int .i64) hd0, rfl, rfl, rfl, trivial⟩
        · repeat (first | ((with_reducible apply Agr.upd); · exact rfl) | ((with_reducible apply Agr.consL); · exact rfl) | (with_reducible apply Agr.nilL) | ((with_reducible apply Agr.mrg); (· exact rfl); apply Agr.refl))
        intro σ
        exact key σ
      · have hd0 : max less 0 = (d : Int) := by rw [hd]; unfold lss; rw [if_neg hfm]; omega
        repeat (first | refine WS_seq ?_ | refine WS_region ?_ | refine WL_nil ?_ | refine WS_block ?_ | refine WS_skip ?_ | refine WS_false rfl ?_ | (refine WL_r (by first | refine k_fa rfl (Ty.fld rfl rfl) | refine k_loadb rfl hB rfl (Ty.shp rfl) | refine (k_eql (q := .i64) rfl rfl).is (bF (by omega)) | refine Run_pev rfl | refine k_len rfl (Ty.isl rfl) | refine k_max rfl rfl | apply k_makeFunc) rfl ?_))
        apply WS_keepM 401734511064747568885490523085290650630549595524194138820608 [(60, .int .i64 i), (17, .int .i64 n), (18, pt b18), (24, .slice (some ⟨bk, 0, none⟩) n n), (25, .int .i64 (d : Nat)), (152, .slice (some ⟨bk, 0, none⟩) n n), (153, .int .i64 n), (154, .int .i64 0)]
        · exact ⟨rfl, rfl, rfl, rfl, congrArg (Value.int .i64) hd0, rfl, rfl, rfl, trivial⟩
        · repeat (first | ((with_reducible apply Agr.upd); · exact rfl) | ((with_reducible apply Agr.consL); · exact rfl) | (with_reducible apply Agr.nilL) | ((with_reducible apply Agr.mrg); (· exact rfl); apply Agr.refl))
        intro σ
        exact key σ
    clear hd
    intro σ
    have hlY : Y.length = n := by rw [← pse_len, hpY, kp_len, pse_len, hEX]
    have hlY' := elvs_len Y
    have hOY : SlA u4 (some ⟨bk, 0, none⟩) (elvs Y) := (hH.o 6 rfl).sl
    have hRY := hH.at 7 rfl
    replace hOE : SlA u4 (some ⟨be, 0, none⟩) (elvs E) := (hH.o 3 rfl).sl
    replace hRE := hH.at 4 rfl
    skip
    refine WS_loop (G := (Nat)) (fun j => n - j) 200867255532350948479661966184548392739764182300667450232832 (fun j => [(154, .int .i64 j)]) (fun j w' => j ≤ n ∧ Ext [] u4 w') (0) ⟨rfl, trivial⟩ ⟨by omega, .refl⟩ ?_
    rintro j u3 σ ⟨hj, hW⟩ IH
    show WS _ _ _ _ _ (updL [(154, .int .i64 j)] _) _
    by_cases hjl : j < n
    · have hjE : j < E.length := by omega
      have hjY : j < Y.length := by omega
      have hsE := (Rl.at hRE hjE).ext0 hW
      have hsY := (Rl.at hRY hjY).ext0 hW
      have hOE3 := hOE.ext0 hW
      have hOY3 := hOY.ext0 hW
      have hB3 := hB.ext0 hW
      have hei := elvs_at E hjE
      have hyi := elvs_at Y hjY
      obtain ⟨hin1, hin2⟩ := hin j hjE
      have hky := pse_get hpY hjY
      rw [kp_at (by rw [pse_len]; exact hjE)] at hky
      rw [show (pse E)[j]'(by rw [pse_len]; exact hjE) = E[j].2.2 by simp [pse], pse_len] at hky
      generalize E[j] = e at *
      generalize Y[j] = ye at *
      rw [hEX] at hky
      obtain ⟨ae, ce, pe⟩ := e
      obtain ⟨ay, cy, py⟩ := ye
      replace hei : (elvs E)[j]? = some (.slice ae pe.length ce) := hei
      replace hyi : (elvs Y)[j]? = some (.slice ay py.length cy) := hyi
      simp only at hsE hsY hin1 hin2 hky
      by_cases h1 : j < f - d
      · rw [if_pos (.inl h1)] at hky
        obtain rfl : pe = py := Option.some.inj hky
        have hg := hin1 (by omega)
        repeat (first | refine WS_seq ?_ | refine WS_region ?_ | refine WL_nil ?_ | refine WS_block ?_ | refine WS_skip ?_ | refine WS_true rfl ?_ | refine WL_gyes rfl rfl rfl ?_ | refine WL_gno rfl rfl rfl rfl rfl ?_ | (refine WL_r (by first | refine k_fa rfl (Ty.fld rfl rfl) | refine k_loadb rfl hB3 rfl (Ty.shp rfl) | refine k_ix1 rfl rfl hOE3 (by omega) (Ty.sle rfl) (by omega) | refine k_ix1 rfl rfl hOY3 (by omega) (Ty.sle rfl) (by omega) | refine k_loads rfl hOE3 hei (Ty.shp rfl) | refine k_loads rfl hOY3 hyi (Ty.shp rfl) | refine (k_lss (q := .i64) rfl rfl).is (bT (by omega)) | refine Run_pev rfl | refine k_sub64 rfl rfl (by omega)) rfl ?_))
        try refine WL_gyes rfl rfl rfl ?_
        refine WL_s (S_call (same24_spec hg.ok hg.len rfl hsY hsE) rfl rfl ?_)
        rintro v u5 ⟨rfl, hE⟩
        repeat (first | refine WS_region ?_ | refine WL_nil ?_ | refine WS_inBlock ?_ | refine WS_skip ?_ | refine WS_false rfl ?_ | refine WL_gyes rfl rfl rfl ?_ | refine WL_gno rfl rfl rfl rfl rfl ?_ | (refine WL_r (by first | refine Run_pev rfl | refine k_add64 rfl rfl (by omega) | apply k_makeFunc) rfl ?_))
        refine IH (j + 1) _ _ ?_ ?_ ?_ ?_
        · omega
        · exact ⟨rfl, trivial⟩
        · exact (by repeat (first | with_reducible apply Agr.refl | refine Agr.upd rfl ?_ | refine Agr.updL rfl ?_ | refine Agr.mrg rfl ?_))
        · exact ⟨by omega, hW.then0 hE⟩
      · by_cases h2 : n - (k - d) ≤ j
        · rw [if_pos (.inr h2)] at hky
          obtain rfl : pe = py := Option.some.inj hky
          have hg := hin1 (by omega)
          repeat (first | refine WS_seq ?_ | refine WS_region ?_ | refine WL_nil ?_ | refine WS_block ?_ | refine WS_skip ?_ | refine WS_yes rfl (by omega) ?_ | refine WL_gyes rfl rfl rfl ?_ | (refine WL_r (by first | refine k_fa rfl (Ty.fld rfl rfl) | refine k_loadb rfl hB3 rfl (Ty.shp rfl) | refine k_ix1 rfl rfl hOE3 (by omega) (Ty.sle rfl) (by omega) | refine k_ix1 rfl rfl hOY3 (by omega) (Ty.sle rfl) (by omega) | refine k_loads rfl hOE3 hei (Ty.shp rfl) | refine k_loads rfl hOY3 hyi (Ty.shp rfl) | refine (k_lss (q := .i64) rfl rfl).is (bF (by omega)) | refine (k_geq (q := .i64) rfl rfl).is (bT (by omega)) | refine Run_pev rfl | refine k_sub64 rfl rfl (by omega) | refine k_max rfl rfl) rfl ?_))
          try refine WL_gyes rfl rfl rfl ?_
          refine WL_s (S_call (same24_spec hg.ok hg.len rfl hsY hsE) rfl rfl ?_)
          rintro v u5 ⟨rfl, hE⟩
          repeat (first | refine WS_region ?_ | refine WL_nil ?_ | refine WS_inBlock ?_ | refine WS_skip ?_ | refine WS_false rfl ?_ | refine WL_gyes rfl rfl rfl ?_ | refine WL_gno rfl rfl rfl rfl rfl ?_ | (refine WL_r (by first | refine Run_pev rfl | refine k_add64 rfl rfl (by omega) | apply k_makeFunc) rfl ?_))
          refine IH (j + 1) _ _ ?_ ?_ ?_ ?_
          · omega
          · exact ⟨rfl, trivial⟩
          · exact (by repeat (first | with_reducible apply Agr.refl | refine Agr.upd rfl ?_ | refine Agr.updL rfl ?_ | refine Agr.mrg rfl ?_))
          · exact ⟨by omega, hW.then0 hE⟩
        · rw [if_neg (by omega)] at hky
          obtain rfl : [] = py := Option.some.inj hky
          repeat (first | refine WS_seq ?_ | refine WS_region ?_ | refine WL_nil ?_ | refine WS_block ?_ | refine WS_inBlock ?_ | refine WS_skip ?_ | refine WS_false rfl ?_ | refine WS_yes rfl (by omega) ?_ | refine WL_gyes rfl rfl rfl ?_ | refine WL_gno rfl rfl rfl rfl rfl ?_ | (refine WL_r (by first | refine k_fa rfl (Ty.fld rfl rfl) | refine k_loadb rfl hB3 rfl (Ty.shp rfl) | refine k_ix1 rfl rfl hOY3 (by omega) (Ty.sle rfl) (by omega) | refine k_loads rfl hOY3 hyi (Ty.shp rfl) | refine (k_lss (q := .i64) rfl rfl).is (bF (by omega)) | refine (k_geq (q := .i64) rfl rfl).is (bF (by omega)) | refine Run_pev rfl | refine k_add64 rfl rfl (by omega) | refine k_sub64 rfl rfl (by omega) | refine k_len rfl (Ty.isl rfl) | refine k_max rfl rfl | apply k_makeFunc) rfl ?_))
          refine IH (j + 1) _ _ ?_ ?_ ?_ ?_
          · omega
          · exact ⟨rfl, trivial⟩
          · exact (by repeat (first | with_reducible apply Agr.refl | refine Agr.upd rfl ?_ | refine Agr.updL rfl ?_ | refine Agr.mrg rfl ?_))
          · exact ⟨by omega, hW⟩
    clear IH
    replace hH := (hH.take 3).ext0 hW
    change Hp _ _ _ [_, _, _] at hH
    repeat (first | refine WS_seq ?_ | refine WS_region ?_ | refine WL_nil ?_ | refine WS_inBlock ?_ | refine WS_exit rfl ?_ | refine WS_no rfl (by omega) ?_ | (refine WL_r (by first | refine Run_pev rfl | refine k_add64 rfl rfl (by omega) | apply k_makeFunc) rfl ?_))
    refine IH (i + 1) _ _ ?_ ?_ ?_ ?_
    · omega
    · exact ⟨rfl, trivial⟩
    · exact (by repeat (first | with_reducible apply Agr.refl | refine Agr.upd rfl ?_ | refine Agr.updL rfl ?_ | refine Agr.mrg rfl ?_))
    · exact ⟨by omega, hH⟩
  clear IH
  repeat (first | refine WS_seq ?_ | refine WS_region ?_ | refine WL_nil ?_ | refine WS_exit rfl ?_ | refine WS_no rfl (by omega) ?_ | (refine WL_r (by first | refine Run_pev rfl | apply k_makeFunc) rfl ?_))
  exact WS_ret1 Try.func12 rfl ⟨rfl, hH.ext⟩
theorem own_salvageAny : ownKnob Try.prog.godebug = none := by kernel_rfl
theorem laid_salvageAny : laidOutB Try.prog = true := by kernel_rfl
set_option maxRecDepth 100000 in
theorem salvageAny_lifted (os : Os) (started : os.Started) (H : Type) (enc : TypeId × Value → H) :
    ReturnsInHanded {} Try.checked os 12 .any (Rows.salvageAnySpec.pre6 enc Try.prog Try.f12 Rows.salvageAnyRow.domain false) (Rows.salvageAnySpec.post enc Try.prog Try.f12 false true false false) := by
  refine returnsInHanded_of_change (C := Try.checked) own_salvageAny started (by kernel_rfl) Try.func12
    (ChangeSpec.witness6 (enc := enc) (C := Try.checked) false ⟨#[], #[.slice none 0 0, .slice none 0 0, .int .u16 0, .int .u8 0, .int .u8 0, .int .i64 0], []⟩ 8 (by kernel_rfl) (by kernel_rfl) (by kernel_rfl) (by kernel_rfl)) ?_
  intro W base args ds gs before hval0 hW _ _
  have hval : ∀ (j : Nat) t v, Try.f12.params[j]? = some t → args[j]? = some v → Value.okWide Try.prog W .any base t v := hval0
  have hW' := hW
  obtain ⟨p, q, hA0, hV, rfl, hfz, hnd⟩ := hW
  have hA : DataW.TrodAll enc Try.prog W 0 (fun _ => true) true Try.f12.params.toList args.toList ds p := hA0
  rw [Try.params12] at hA hval
  obtain ⟨v0, r0, d0, e0, p0, q0, ha0, rfl, rfl, h0, hA⟩ := trodAll_cons hA
  obtain ⟨v1, r1, d1, e1, p1, q1, ha1, rfl, rfl, h1, hA⟩ := trodAll_cons hA
  obtain ⟨v2, r2, d2, e2, p2, q2, ha2, rfl, rfl, h2, hA⟩ := trodAll_cons hA
  obtain ⟨v3, r3, d3, e3, p3, q3, ha3, rfl, rfl, h3, hA⟩ := trodAll_cons hA
  obtain ⟨v4, r4, d4, e4, p4, q4, ha4, rfl, rfl, h4, hA⟩ := trodAll_cons hA
  obtain ⟨v5, r5, d5, e5, p5, q5, ha5, rfl, rfl, h5, hA⟩ := trodAll_cons hA
  obtain ⟨hnil, rfl, rfl⟩ := trodAll_nil hA
  obtain rfl : args = #[v0, v1, v2, v3, v4, v5] := by cases args; simp_all
  have hv0 := hval 0 _ v0 rfl rfl
  have hv1 := hval 1 _ v1 rfl rfl
  have hv2 := hval 2 _ v2 rfl rfl
  have hv3 := hval 3 _ v3 rfl rfl
  have hv4 := hval 4 _ v4 rfl rfl
  have hv5 := hval 5 _ v5 rfl rfl
  clear hA0 hval0 ha0 ha1 ha2 ha3 ha4 ha5 hnil
  obtain ⟨ar, nr, capr, b, rfl, rfl, hSb, hbb, hblen⟩ := rd_bytes (Ty.sle rfl) (Ty.knd rfl) hv0 h0
  obtain ⟨a, cap, ms, hc, hS, hok, hlen⟩ := rd_sms (rd_arg (.sl SMD) (by kernel_rfl) h1)
  obtain ⟨a', n', cap', rfl⟩ := okWide_slice (sle_spec (Ty.sle rfl)).1 hv1
  obtain ⟨rfl, rfl, rfl⟩ : a' = a ∧ n' = ms.length ∧ cap' = cap := by simpa [Value.cells] using hc
  obtain ⟨t0, rfl, ht0⟩ := rd_int (Ty.knd rfl) hv2 h2
  obtain ⟨t, rfl, ht⟩ := fits_u16 ht0
  obtain ⟨bt0, rfl, hbt0⟩ := rd_int (Ty.knd rfl) hv3 h3
  obtain ⟨bt, rfl, hbt⟩ := fits_u8 hbt0
  obtain ⟨mn0, rfl, hmn0⟩ := rd_int (Ty.knd rfl) hv4 h4
  obtain ⟨mn, rfl, hmn⟩ := fits_u8 hmn0
  obtain ⟨less, rfl, hless⟩ := rd_int (Ty.knd rfl) hv5 h5
  refine ((sany_spec hSb hbb hblen hS hok hlen ht hbt hmn (fits_i64 hless)).enter Try.func12 rfl rfl).mono ?_
  rintro e W' ⟨v, rfl, rfl, hE⟩
  exact ⟨_, rfl, law_post laid_salvageAny (by kernel_rfl) hW' rfl rfl (by kernel_rfl) ⟨rfl, rfl, rfl⟩ hE⟩
theorem salvageAny_holds : Rows.SalvageAnySaid :=
  OpenClaim.holds_of_wide 12 Try.f12 rfl rfl rfl rfl rfl rfl rfl ⟨rfl, rfl, rfl, rfl, rfl⟩ rfl rfl rfl rfl rfl (by kernel_rfl) Try.func12 (by kernel_rfl)
    (of_decide_eq_true (by kernel_rfl)) (by unfold Func.isWrapper; (rw [if_neg (by decide +kernel)]; exact ⟨rfl, rfl⟩))
    (fun os started H enc _ => salvageAny_lifted os started H enc)
#print axioms salvageAny_holds
end Go.Proofs.Ytnamafelcjgjfaa
