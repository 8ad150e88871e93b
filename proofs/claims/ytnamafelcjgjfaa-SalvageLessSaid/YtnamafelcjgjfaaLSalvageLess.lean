/- The law SalvageLess: the more is left out, the less is kept, and nothing else; no condition. -/
import Derived.Test.YtnamafelcjgjfaaSh
import Derived.Test.YtnamafelcjgjfaaLaw24b
import Derived.Test.YtnamafelcjgjfaaK19
import Derived.Test.YtnamafelcjgjfaaK8
import Derived.Test.YtnamafelcjgjfaaRows
namespace Go.Proofs.Ytnamafelcjgjfaa
open Go Go.K Go.P Go.RowKit Go.Proofs
theorem evC_one (ps : List (Nat × Int)) : ∀ u ∈ evC ps, u.oneCell' = true := by rw [evC_mk]; exact evM_one _
/-- What Kept answers. -/
def Kpt (P : List PS) (f k m : Nat) (v : Value) (w w' : World) : Prop :=
  ∃ (Y : List EL) (b : Nat), pse Y = kp P f k ∧ v = .slice (some ⟨b, 0, none⟩) m m ∧ Hp [] w w' [Ro 46 1 (some ⟨b, 0, none⟩) m m (elvs Y), Rl Y]
/-- So many are left out. -/
def lss (f m : Nat) (less : Int) : Nat := if f = m then 0 else less.toNat
set_option maxRecDepth 20000 in
set_option maxHeartbeats 8000000 in
theorem kept_spec {ae : Option Addr} {ce f k m : Nat} {E : List EL} {less : Int} {w : World} (hS : SlA w ae (elvs E)) (hR : (Rl E).holds w) (hE : ∀ x ∈ E, x.2.2.length ≤ 64) (hn : E.length = m) (hm : m ≤ 384) (hf : f ≤ m) (hk : k ≤ m) (hl : -9223372036854775808 ≤ less ∧ less ≤ 9223372036854775807) :
    Does Try.prog 40 #[.agg #[.slice ae m ce, .int .i64 (f : Nat), .int .i64 (k : Nat)], .int .i64 less] w fun v w' => Kpt (pse E) (f - lss f m less) (k - lss f m less) m v w w' := by
  refine Does_of (args := [_, _]) Try.func40 rfl rfl Try.ntmps40 rfl ?_
  have hH := Hp.start w
  have hel := elvs_len E
  have hpl := pse_len E
  repeat (first | refine WS_seq ?_ | refine WS_region ?_)
  refine WL_s (H_box (cs := #[.slice ae m ce, .int .i64 (f : Nat), .int .i64 (k : Nat)]) hH rfl rfl rfl ?_)
  try clear hH
  intro w1 b2 hH
  change Hp _ _ _ [_] at hH
  have hB2 : Blk _ b2 71 #[.slice ae m ce, .int .i64 (f : Nat), .int .i64 (k : Nat)] := hH.b 0 rfl
  repeat (first | refine WS_seq ?_ | refine WS_region ?_ | refine WL_nil ?_ | (refine WL_r (by first | refine k_fa rfl (Ty.fld rfl rfl) | refine k_loadb rfl hB2 rfl (Ty.shp rfl) | refine Run_pev rfl | refine k_len rfl (Ty.isl rfl)) rfl ?_))
  refine WL_s (H_make (n := m) hH (Ty.sle rfl) (Ty.zer rfl) (Ty.byt rfl) rfl rfl rfl (by omega) (by omega) (by simp only [maxLen]; omega) rfl ?_)
  clear hH hB2
  intro w2 bo hH
  change Hp _ _ _ [_, _] at hH
  replace hH := (hH.made 1 rfl (by omega)).nu (Rl.zero m)
  change Hp _ _ _ [_, _, _] at hH
  rw [← elvs_zel] at hH
  have hB2 : Blk _ b2 71 #[.slice ae m ce, .int .i64 (f : Nat), .int .i64 (k : Nat)] := hH.b 0 rfl
  obtain ⟨d, hd⟩ : ∃ d, d = lss f m less := ⟨_, rfl⟩
  rw [← hd]
  have hd64 : d ≤ 9223372036854775807 := by rw [hd]; unfold lss; split <;> omega
  apply join
  · intro key
    by_cases hfm : f = m
    · have hd0 : d = 0 := by rw [hd]; exact if_pos hfm
      repeat (first | refine WS_seq ?_ | refine WS_region ?_ | refine WL_nil ?_ | refine WS_block ?_ | refine WS_true rfl ?_ | (refine WL_r (by first | refine k_fa rfl (Ty.fld rfl rfl) | refine k_loadb rfl hB2 rfl (Ty.shp rfl) | refine (k_eql (q := .i64) rfl rfl).is (bT (by omega)) | refine Run_pev rfl | refine k_len rfl (Ty.isl rfl) | refine k_max rfl rfl | apply k_makeFunc) rfl ?_))
      refine WS_keep [(1, .int .i64 (d : Nat)), (2, pt b2), (5, .slice (some ⟨bo, 0, none⟩) m m), (6, .int .i64 0)] ⟨congrArg (Value.int .i64) (by omega), rfl, rfl, rfl, trivial⟩ (fun σ => ?_)
      exact key σ
    · have hd0 : max less 0 = (d : Int) := by rw [hd]; unfold lss; rw [if_neg hfm]; omega
      repeat (first | refine WS_seq ?_ | refine WS_region ?_ | refine WL_nil ?_ | refine WS_block ?_ | refine WS_skip ?_ | refine WS_false rfl ?_ | (refine WL_r (by first | refine k_fa rfl (Ty.fld rfl rfl) | refine k_loadb rfl hB2 rfl (Ty.shp rfl) | refine (k_eql (q := .i64) rfl rfl).is (bF (by omega)) | refine Run_pev rfl | refine k_len rfl (Ty.isl rfl) | refine k_max rfl rfl | apply k_makeFunc) rfl ?_))
      refine WS_keep [(1, .int .i64 (d : Nat)), (2, pt b2), (5, .slice (some ⟨bo, 0, none⟩) m m), (6, .int .i64 0)] ⟨congrArg (Value.int .i64) (by omega), rfl, rfl, rfl, trivial⟩ (fun σ => ?_)
      exact key σ
  clear hd hB2
  intro σ
  obtain ⟨f2, hf2⟩ : ∃ f2, f2 = f - d := ⟨_, rfl⟩
  obtain ⟨k2, hk2⟩ : ∃ k2, k2 = k - d := ⟨_, rfl⟩
  rw [← hf2, ← hk2]
  refine WS_loop (G := (Nat) × (List EL)) (fun | (i, Y) => f2 - i) 4398045462592 (fun | (i, Y) => [(6, .int .i64 i)]) (fun | (i, Y), w' => i ≤ f2 ∧ pse Y = kp (pse E) i 0 ∧ Hp [] w w' [Rb b2 71 #[.slice ae m ce, .int .i64 (f : Nat), .int .i64 (k : Nat)], Ro 46 1 (some ⟨bo, 0, none⟩) m m (elvs Y), Rl Y]) (0, zel m) ⟨rfl, trivial⟩ ⟨by omega, by rw [kp_zero, hpl, hn, pse_zel, sE_nil], hH⟩ ?_
  rintro ⟨i, Y⟩ w' σ ⟨hi, hY, hH⟩ IH
  show WS _ _ _ _ _ (updL [(6, .int .i64 i)] _) _
  have hB2 : Blk _ b2 71 #[.slice ae m ce, .int .i64 (f : Nat), .int .i64 (k : Nat)] := hH.b 0 rfl
  by_cases hlt : i < f2
  · have hiE : i < E.length := by omega
    have hSe := hH.old hS
    have hat := elvs_at E hiE
    have hxs : SlA w E[i].1 (evC E[i].2.2) := Rl.at hR hiE
    have hx64 := hE _ (List.getElem_mem hiE)
    have hkf := kp_front (P := pse E) (i := i) (by omega)
    rw [show (pse E)[i]'(by omega) = E[i].2.2 by simp [pse]] at hkf
    generalize E[i] = x at *
    obtain ⟨ax, cx, ps⟩ := x
    simp only at hxs hx64 hkf
    replace hat : (elvs E)[i]? = some (.slice ax ps.length cx) := hat
    have hcl := evC_len ps
    repeat (first | refine WS_seq ?_ | refine WS_region ?_ | refine WL_nil ?_ | refine WS_block ?_ | refine WS_skip ?_ | refine WS_yes rfl (by omega) ?_ | (refine WL_r (by first | refine k_fa rfl (Ty.fld rfl rfl) | refine k_loadb rfl hB2 rfl (Ty.shp rfl) | refine Run_pev rfl | refine k_sub64 rfl rfl (by omega) | refine k_len rfl (Ty.isl rfl) | refine k_min rfl rfl | refine k_max rfl rfl) rfl ?_))
    clear hB2
    try refine WL_gyes rfl rfl rfl ?_
    refine WL_s (H_lit (out := []) hH (Ty.sle rfl) (Ty.zer rfl) rfl rfl rfl (by decide) rfl ?_)
    try clear hH
    intro _ b34 hH
    change Hp _ _ _ [_, _, _, _] at hH
    replace hH := hH.as 3 rfl (r' := Re (some ⟨b34, 0, none⟩) 0 0 []) (fun _ h => h) (fun h => (h : Blk _ _ _ _).own (n := 0) (sz := 3) rfl (by decide))
    change Hp _ _ _ [_, _, _, _] at hH
    have hB2 : Blk _ b2 71 #[.slice ae m ce, .int .i64 (f : Nat), .int .i64 (k : Nat)] := hH.b 0 rfl
    have hSe := hH.old hS
    repeat ((refine WL_r (by first | refine k_fa rfl (Ty.fld rfl rfl) | refine k_loadb rfl hB2 rfl (Ty.shp rfl) | refine k_ix1 rfl rfl hSe (by omega) (Ty.sle rfl) (by omega) | refine k_loads rfl hSe hat (Ty.shp rfl) | refine Run_pev rfl) rfl ?_))
    clear hB2
    refine WL_s (H_append 3 hH rfl (Ty.sle rfl) (Ty.zer rfl) rfl (Ty.byt rfl) (by decide) rfl rfl (hH.old hxs) hcl (evC_one ps) (by omega) (by simp only [maxLen]; omega) rfl ?_)
    clear hH
    intro w5 a5 c5 hH
    change Hp _ _ _ [_, _, _, _] at hH
    rw [Nat.zero_add ps.length, List.nil_append] at hH
    rw [Nat.zero_add ps.length]
    repeat ((refine WL_r (by first | refine k_ix1S rfl rfl (Ty.sle rfl) (by omega) | apply k_makeFunc) rfl ?_))
    refine WL_s (H_storeO 1 (v := elv (a5, c5, ps)) hH rfl rfl rfl (by omega) rfl (Ty.shp rfl) ?_)
    clear hH
    intro w6 hH
    change Hp _ _ _ [_, _, _, _] at hH
    rw [show ((i : Nat) : Int).toNat = i from rfl, elvs_set] at hH
    replace hH := Rl.put (Y := Y.set (i) (a5, c5, ps)) 2 3 hH rfl rfl (by decide) (fun y hy => by
      rcases List.mem_or_eq_of_mem_set hy with h | h
      · exact .inl h
      · exact .inr h)
    change Hp _ _ _ [_, _, _] at hH
    have hY2 : pse (Y.set (i) (a5, c5, ps)) = kp (pse E) (i + 1) 0 := by rw [pse_set, hY]; exact hkf
    generalize Y.set (i) (a5, c5, ps) = Y2 at *
    repeat (first | refine WS_region ?_ | refine WL_nil ?_ | refine WS_inBlock ?_ | (refine WL_r (by first | refine Run_pev rfl | refine k_add64 rfl rfl (by omega) | apply k_makeFunc) rfl ?_))
    refine IH (i + 1, Y2) _ _ ?_ ?_ ?_ ?_
    · simp only; omega
    · exact ⟨rfl, trivial⟩
    · exact (by repeat (first | with_reducible apply Agr.refl | refine Agr.upd rfl ?_ | refine Agr.updL rfl ?_ | refine Agr.mrg rfl ?_))
    · exact ⟨by omega, hY2, hH⟩
  obtain rfl : i = f2 := by omega
  clear IH
  repeat (first | refine WS_seq ?_ | refine WS_region ?_ | refine WL_nil ?_ | refine WS_block ?_ | refine WS_exit rfl ?_ | refine WS_no rfl (by omega) ?_ | (refine WL_r (by first | refine k_fa rfl (Ty.fld rfl rfl) | refine k_loadb rfl hB2 rfl (Ty.shp rfl) | refine Run_pev rfl | refine k_sub64 rfl rfl (by omega) | refine k_len rfl (Ty.isl rfl) | refine k_min rfl rfl | refine k_max rfl rfl | apply k_makeFunc) rfl ?_))
  clear hB2
  refine WS_loop (G := (Nat) × (List EL)) (fun | (j, Y) => k2 - j) 1180591616319364792448 (fun | (j, Y) => [(7, .int .i64 ((j : Int) + 1))]) (fun | (j, Y), w' => j ≤ k2 ∧ pse Y = kp (pse E) i j ∧ Hp [] w w' [Rb b2 71 #[.slice ae m ce, .int .i64 (f : Nat), .int .i64 (k : Nat)], Ro 46 1 (some ⟨bo, 0, none⟩) m m (elvs Y), Rl Y]) (0, Y) ⟨rfl, trivial⟩ ⟨by omega, hY, hH⟩ ?_
  rintro ⟨j, Y⟩ w' σ ⟨hj, hY, hH⟩ IH
  show WS _ _ _ _ _ (updL [(7, .int .i64 ((j : Int) + 1))] _) _
  have hB2 : Blk _ b2 71 #[.slice ae m ce, .int .i64 (f : Nat), .int .i64 (k : Nat)] := hH.b 0 rfl
  by_cases hlt : j < k2
  · have hiE : m - (j + 1) < E.length := by omega
    have hSe := hH.old hS
    have hat := elvs_at E hiE
    have hxs : SlA w E[m - (j + 1)].1 (evC E[m - (j + 1)].2.2) := Rl.at hR hiE
    have hx64 := hE _ (List.getElem_mem hiE)
    have hkf := kp_back (P := pse E) (f := i) (k := j) (by omega)
    simp only [hpl, hn] at hkf
    rw [show (pse E)[m - (j + 1)]'(by omega) = E[m - (j + 1)].2.2 by simp [pse]] at hkf
    generalize E[m - (j + 1)] = x at *
    obtain ⟨ax, cx, ps⟩ := x
    simp only at hxs hx64 hkf
    replace hat : (elvs E)[m - (j + 1)]? = some (.slice ax ps.length cx) := hat
    have hcl := evC_len ps
    have hix : ((m : Int) - ((j : Int) + 1)).toNat = m - (j + 1) := by omega
    repeat (first | refine WS_seq ?_ | refine WS_region ?_ | refine WL_nil ?_ | refine WS_block ?_ | refine WS_skip ?_ | refine WS_yes rfl (by omega) ?_ | (refine WL_r (by first | refine k_fa rfl (Ty.fld rfl rfl) | refine k_loadb rfl hB2 rfl (Ty.shp rfl) | refine Run_pev rfl | refine k_sub64 rfl rfl (by omega) | refine k_len rfl (Ty.isl rfl) | refine k_min rfl rfl | refine k_max rfl rfl) rfl ?_))
    clear hB2
    try refine WL_gyes rfl rfl rfl ?_
    refine WL_s (H_lit (out := []) hH (Ty.sle rfl) (Ty.zer rfl) rfl rfl rfl (by decide) rfl ?_)
    try clear hH
    intro _ b34 hH
    change Hp _ _ _ [_, _, _, _] at hH
    replace hH := hH.as 3 rfl (r' := Re (some ⟨b34, 0, none⟩) 0 0 []) (fun _ h => h) (fun h => (h : Blk _ _ _ _).own (n := 0) (sz := 3) rfl (by decide))
    change Hp _ _ _ [_, _, _, _] at hH
    have hB2 : Blk _ b2 71 #[.slice ae m ce, .int .i64 (f : Nat), .int .i64 (k : Nat)] := hH.b 0 rfl
    have hSe := hH.old hS
    rw [← hix] at hat
    repeat ((refine WL_r (by first | refine k_fa rfl (Ty.fld rfl rfl) | refine k_loadb rfl hB2 rfl (Ty.shp rfl) | refine k_ix1 rfl rfl hSe (by omega) (Ty.sle rfl) (by omega) | refine k_loads rfl hSe hat (Ty.shp rfl) | refine Run_pev rfl | refine k_sub64 rfl rfl (by omega) | refine k_len rfl (Ty.isl rfl)) rfl ?_))
    clear hB2
    refine WL_s (H_append 3 hH rfl (Ty.sle rfl) (Ty.zer rfl) rfl (Ty.byt rfl) (by decide) rfl rfl (hH.old hxs) hcl (evC_one ps) (by omega) (by simp only [maxLen]; omega) rfl ?_)
    clear hH
    intro w5 a5 c5 hH
    change Hp _ _ _ [_, _, _, _] at hH
    rw [Nat.zero_add ps.length, List.nil_append] at hH
    rw [Nat.zero_add ps.length]
    repeat ((refine WL_r (by first | refine k_ix1S rfl rfl (Ty.sle rfl) (by omega) | apply k_makeFunc) rfl ?_))
    refine WL_s (H_storeO 1 (v := elv (a5, c5, ps)) hH rfl rfl rfl (by omega) rfl (Ty.shp rfl) ?_)
    clear hH
    intro w6 hH
    change Hp _ _ _ [_, _, _, _] at hH
    rw [hix, elvs_set] at hH
    replace hH := Rl.put (Y := Y.set (m - (j + 1)) (a5, c5, ps)) 2 3 hH rfl rfl (by decide) (fun y hy => by
      rcases List.mem_or_eq_of_mem_set hy with h | h
      · exact .inl h
      · exact .inr h)
    change Hp _ _ _ [_, _, _] at hH
    have hY2 : pse (Y.set (m - (j + 1)) (a5, c5, ps)) = kp (pse E) i (j + 1) := by rw [pse_set, hY]; exact hkf
    generalize Y.set (m - (j + 1)) (a5, c5, ps) = Y2 at *
    repeat (first | refine WS_region ?_ | refine WL_nil ?_ | refine WS_inBlock ?_ | (refine WL_r (by first | refine Run_pev rfl | refine k_add64 rfl rfl (by omega) | apply k_makeFunc) rfl ?_))
    refine IH (j + 1, Y2) _ _ ?_ ?_ ?_ ?_
    · simp only; omega
    · exact ⟨rfl, trivial⟩
    · exact (by repeat (first | with_reducible apply Agr.refl | refine Agr.upd rfl ?_ | refine Agr.updL rfl ?_ | refine Agr.mrg rfl ?_))
    · exact ⟨by omega, hY2, hH⟩
  obtain rfl : j = k2 := by omega
  clear IH
  repeat (first | refine WS_seq ?_ | refine WS_region ?_ | refine WL_nil ?_ | refine WS_exit rfl ?_ | refine WS_no rfl (by omega) ?_ | (refine WL_r (by first | refine k_fa rfl (Ty.fld rfl rfl) | refine k_loadb rfl hB2 rfl (Ty.shp rfl) | refine Run_pev rfl | refine k_sub64 rfl rfl (by omega) | refine k_len rfl (Ty.isl rfl) | refine k_min rfl rfl | refine k_max rfl rfl | apply k_makeFunc) rfl ?_))
  exact WS_ret1 Try.func40 rfl ⟨Y, bo, hY, rfl, hH.del 0⟩
/-- A part that is right. -/
theorem SOf.right {X : List PS} {m : Nat} {v : Value} {w w' : World} (hX : GP X) (hm : X.length ≤ m) (h : SOf (escF 0 (pk (bP X ++ [true]))) m v w w') : ∃ (E : List EL) (b : Nat), pse E = sE m X [] ∧ v = .agg #[.slice (some ⟨b, 0, none⟩) m m, .int .i64 (X.length : Nat), .int .i64 0] ∧ Hp [] w w' [Ro 46 1 (some ⟨b, 0, none⟩) m m (elvs E), Rl E] := by
  obtain ⟨bs, E, b, hb, hE, rfl, hQ⟩ := h
  obtain rfl := hb.esc
  obtain ⟨h1, h2⟩ := s_right hX hm
  rw [h1, h2] at hE ⊢
  exact ⟨E, b, hE, rfl, hQ⟩
set_option maxHeartbeats 4000000 in
theorem awake24 (w : World) : Does Try.prog 37 #[] w fun v w' => v = .bool true ∧ Ext [] w w' := by
  refine Does_of (args := []) Try.func37 rfl rfl Try.ntmps37 rfl ?_
  have hH := Hp.start w
  have hg : GB [(0, (1 : Int))] := ⟨by simp, by simp, fun p hp => by simp at hp; subst hp; decide⟩
  repeat (first | refine WS_seq ?_ | refine WS_region ?_ | refine WL_nil ?_ | (refine WL_r (by first | refine k_buildS (cs := [.slice none 0 0, .int .i64 0]) (Ty.zer rfl) (Ty.plc rfl) rfl | refine Run_pev rfl) rfl ?_))
  refine WL_s (H_box hH rfl rfl rfl ?_)
  try clear hH
  intro w1 q hH
  replace hH : Hp [] w w1 [Rw q none 0 []] := hH.as 0 rfl (fun x hx => by simpa [Rw, sep, Rb, RBy, Ro, blk] using hx) (fun hB => ⟨hB, Own.nil, fun _ _ hb => by simp [RBy, Ro, blk] at hb⟩)
  repeat (first | refine WS_seq ?_ | refine WS_region ?_ | refine WL_nil ?_ | (refine WL_r (by first | refine k_buildS (cs := evc 0 1 true) (Ty.zer rfl) (Ty.plc rfl) rfl | refine Run_pev rfl) rfl ?_))
  try refine WL_gyes rfl rfl rfl ?_
  refine WL_s (H_lit (out := (evc 0 1 true)) hH (Ty.sle rfl) (Ty.zer rfl) rfl rfl rfl (by decide) rfl ?_)
  try clear hH
  intro _ b6 hH
  change Hp _ _ _ [_, _] at hH
  skip
  try refine WL_gyes rfl rfl rfl ?_
  refine WL_s (S_call (bput_spec hg rfl (by decide) ((hH.b 1 rfl).sl0) (hH.at 0 rfl) (hH.dj 0 1 rfl rfl (by decide))) rfl rfl ?_)
  rintro v w2 ⟨rfl, a2, c2, hU⟩
  replace hH := hH.up 0 rfl hU
  clear hU
  change Hp _ _ _ [_, _] at hH
  have eb : [] ++ bb [(0, (1 : Int))] = bP [[(0, 1)]] := by simp [bP]
  have hbl : (bP [[(0, (1 : Int))]]).length = 4 := by decide +kernel
  rw [eb] at hH
  have hX : GP [[(0, (1 : Int))]] := fun x hx => by simp at hx; subst hx; exact hg
  have hXl : ([[(0, (1 : Int))]] : List PS).length = 1 := rfl
  generalize hXX : ([[(0, (1 : Int))]] : List PS) = X at *
  have hpl := pk_len (bP X ++ [true])
  rw [List.length_append, List.length_singleton, hbl] at hpl
  have hel := escF_len (pk (bP X ++ [true])) 0
  repeat (first | refine WS_seq ?_ | refine WS_region ?_ | refine WL_nil ?_ | (refine WL_r (by refine Run_pev rfl) rfl ?_))
  try refine WL_gyes rfl rfl rfl ?_
  refine WL_s (S_call (wdone_spec (hH.at 0 rfl) (by omega)) rfl rfl ?_)
  rintro v w8 ⟨a8, c8, rfl, hN⟩
  replace hH := hH.nu hN
  clear hN
  change Hp _ _ _ [_, _, _] at hH
  skip
  try refine WL_gyes rfl rfl rfl ?_
  refine WL_s (S_call (put_spec (hH.o 2 rfl).sl (pk_byt _) rfl (by omega)) rfl rfl ?_)
  rintro v w9 ⟨a9, c9, rfl, hN⟩
  replace hH := hH.nu hN
  clear hN
  change Hp _ _ _ [_, _, _, _] at hH
  skip
  try refine WL_gyes rfl rfl rfl ?_
  refine WL_s (S_call (sof_spec (m := 1) (hH.o 3 rfl).sl (escF_byt _ _ (pk_byt _)) rfl (by omega) (by decide)) rfl rfl ?_)
  rintro v w10 hSO
  obtain ⟨E, b, hpE, rfl, hQ⟩ := SOf.right hX (by omega) hSO
  replace hH := Hp.cat hH hQ
  clear hQ hSO
  change Hp _ _ _ [_, _, _, _, _, _] at hH
  obtain ⟨x, rfl⟩ : ∃ x, E = [x] := by
    have := congrArg List.length hpE
    rw [pse_len, sE_len (by simp; omega)] at this
    exact List.length_eq_one_iff.1 this
  obtain ⟨ax, cx, ps⟩ := x
  have hps : ps = [(0, 1)] := by
    have h1 := congrArg (·[0]?) hpE
    simp only [sE_at1 (m := 1) (F := X) (B := []) (i := 0) (by omega)] at h1
    subst hXX
    simpa [pse] using h1
  subst hps
  skip
  refine WL_s (H_alloc hH (Ty.zer rfl) rfl ?_)
  try clear hH
  intro w11 b2 hH
  change Hp _ _ _ [_, _, _, _, _, _, _] at hH
  skip
  refine WL_s (H_storeA 6 hH rfl rfl rfl rfl rfl b3_one (Ty.shp rfl) ?_)
  try clear hH
  intro w12 hH
  change Hp _ _ _ [_, _, _, _, _, _, _] at hH
  have hB2 := hH.b 6 rfl
  have hO := (hH.o 4 rfl).sl
  rw [hXl] at hB2
  have hat : (elvs [((ax, cx, [(0, (1 : Int))]) : EL)])[0]? = some (.slice ax 1 cx) := rfl
  repeat (first | refine WS_seq ?_ | refine WS_region ?_ | refine WL_nil ?_ | refine WL_gyes rfl rfl rfl ?_ | (refine WL_r (by first | refine k_fa rfl (Ty.fld rfl rfl) | refine k_loadb rfl hB2 rfl (Ty.shp rfl) | refine (k_eql (q := .i64) rfl rfl).is (bT rfl) | refine k_ix1 rfl rfl hO rfl (Ty.sle rfl) (by omega) | refine k_loads rfl hO hat (Ty.shp rfl) | refine Run_pev rfl | refine k_len rfl (Ty.isl rfl) | apply k_makeFunc) rfl ?_))
  exact WS_ret1 Try.func37 rfl ⟨rfl, hH.ext⟩
/-! ### For the laws -/
theorem prt_eq (X : List EL) : prt X = escF 0 (pk (bP (pse X) ++ [true])) := by unfold prt; rw [pse_bits]
theorem pse_get {E : List EL} {P : List PS} {i : Nat} (h : pse E = P) (hi : i < E.length) : P[i]? = some E[i].2.2 := h ▸ pse_at E hi
theorem prt_len {X : List EL} (hG : GX X) (h : X.length ≤ 10) : (prt X).length ≤ 10000 := by
  have h1 := escF_len (pk (bL X ++ [true])) 0
  have h2 := pk_len (bL X ++ [true])
  have h3 := bL_le hG
  rw [List.length_append, List.length_singleton] at h2
  unfold prt
  omega
theorem GX.le {X : List EL} (h : GX X) : ∀ x ∈ X, x.2.2.length ≤ 64 := fun x hx => (h x hx).len
theorem sE_good {m : Nat} {bs : List Bool} {x : PS} (h : x ∈ sE m (sF m bs) (sB m bs)) : x = [] ∨ GB x := by
  unfold sE at h
  rcases List.mem_append.1 h with h | h
  · exact .inr (sF_good m bs x h)
  · rcases List.mem_append.1 h with h | h
    · exact .inl (List.mem_replicate.1 h).2
    · exact .inr (sB_good m bs x (List.mem_reverse.1 h))
theorem sE_le {m : Nat} {bs : List Bool} {E : List EL} (hE : pse E = sE m (sF m bs) (sB m bs)) : ∀ x ∈ E, x.2.2.length ≤ 64 := fun x hx => by
  have h1 : x.2.2 ∈ pse E := List.mem_map_of_mem hx
  rw [hE] at h1
  rcases sE_good h1 with h | h
  · rw [h]; simp
  · exact h.len
end Go.Proofs.Ytnamafelcjgjfaa

namespace Go.Proofs.Ytnamafelcjgjfaa
open Go Go.K Go.P Go.RowKit Go.Proofs Go.ChangeShapes Go.WideShapes Go.ChangeAt
theorem kp_get {P : List PS} {Y : List EL} {f k i : Nat} (h : pse Y = kp P f k) (hi : i < Y.length) (hP : i < P.length) : Y[i].2.2 = if i < f ∨ P.length - k ≤ i then P[i] else [] := by
  have h1 := pse_get h hi
  rw [kp_at hP] at h1
  exact (Option.some.inj h1).symm
set_option maxRecDepth 20000 in
set_option maxHeartbeats 8000000 in
theorem sless_spec {a : Option Addr} {cap t bt : Nat} {ms : List SM} {less : Int} {w : World} (hS : SlA w a (smcs ms)) (hok : ∀ x ∈ ms, x.ok) (hlen : ms.length ≤ 9223372036854775807) (ht : t < 65536) (hbt : bt < 256) (hl : -9223372036854775808 ≤ less ∧ less ≤ 9223372036854775807) :
    Does Try.prog 10 #[.slice a ms.length cap, .int .u16 t, .int .u8 bt, .int .i64 less] w fun v w' => v = .bool true ∧ Ext [] w w' := by
  refine Does_of (args := [_, _, _, _]) Try.func10 rfl rfl Try.ntmps10 rfl ?_
  repeat (first | refine WS_seq ?_ | refine WS_region ?_ | refine WL_nil ?_ | (refine WL_r (by refine Run_pev rfl) rfl ?_))
  try refine WL_gyes rfl rfl rfl ?_
  refine WL_s (S_call (awake24 w) rfl rfl ?_)
  rintro v w1 ⟨rfl, hW1⟩
  have hH := (Hp.start w).ext0 hW1
  clear hW1
  repeat (first | refine WS_seq ?_ | refine WS_region ?_ | refine WL_nil ?_ | refine WS_skip ?_ | refine WS_false rfl ?_ | (refine WL_r (by refine Run_pev rfl) rfl ?_))
  try refine WL_gyes rfl rfl rfl ?_
  refine WL_s (S_call (part_spec (hH.old hS) hok hlen) rfl rfl ?_)
  rintro v w2 ⟨X, al, cl, ab, cb, hG, hX10, rfl, hQ⟩
  replace hH := Hp.cat hH hQ
  clear hQ
  change Hp _ _ _ [_, _, _] at hH
  have hpl := prt_len hG hX10
  have hpp := prt_pos X
  have hpb := prt_byt X
  generalize prt X = o at *
  obtain ⟨i, hi⟩ : ∃ i, t % o.length = i := ⟨_, rfl⟩
  have hil : i < o.length := by have := Nat.mod_lt t (show 0 < o.length by omega); omega
  have hiI : (t : Int) % (o.length : Int) = (i : Int) := by rw [← hi]; simp
  have hcI : o[i]? = some o[i] := List.getElem?_eq_getElem hil
  have hcb : o[i] < 256 := hpb _ (List.getElem_mem hil)
  have hv : (o.map B)[i]? = some (B o[i]) := by rw [List.getElem?_map, hcI]; rfl
  have hoy : (o.map B).length = o.length := by simp
  generalize o[i] = c at *
  have hOy : SlA _ ab (o.map B) := (hH.o 2 rfl).sl
  repeat (first | refine WS_seq ?_ | refine WS_region ?_ | refine WL_nil ?_ | (refine WL_r (by first | refine (k_rem (m := (t : Int)) (n := (o.length : Int)) rfl rfl ⟨by omega, by omega⟩).is (congrArg (Value.int .i64) hiI) | refine k_ix1 rfl rfl hOy hoy (Ty.sle rfl) (by omega) | refine k_loads rfl hOy hv (Ty.shp rfl) | refine k_xor rfl rfl (fit8 hcb) (fit8 hbt) | refine Run_pev rfl | refine k_len rfl (Ty.isl rfl) | refine k_extract rfl rfl | refine k_convI rfl rfl rfl (by omega)) rfl ?_))
  refine WL_s (H_storeO 2 (v := B (c ^^^ bt)) hH rfl rfl rfl (by omega) rfl (Ty.shp rfl) ?_)
  try clear hH
  intro w3 hH
  change Hp _ _ _ [_, _, _] at hH
  rw [← List.map_set, show ((i : Int)).toNat = i from rfl] at hH
  have hzl : (o.set i (c ^^^ bt)).length = o.length := List.length_set
  have hzb : Byt (o.set i (c ^^^ bt)) := fun y hy => by
    rcases List.mem_or_eq_of_mem_set hy with h | h
    · exact hpb y h
    · subst h; exact Nat.xor_lt_two_pow (n := 8) hcb hbt
  clear hOy hv hcI
  generalize o.set i (c ^^^ bt) = z at *
  have hOz : SlA w3 ab (z.map B) := (hH.o 2 rfl).sl
  repeat (first | refine WS_seq ?_ | refine WS_region ?_ | refine WL_nil ?_ | (refine WL_r (by first | refine Run_pev rfl | refine k_len rfl (Ty.isl rfl)) rfl ?_))
  try refine WL_gyes rfl rfl rfl ?_
  refine WL_s (S_call (sof_spec (m := X.length) hOz hzb hzl (by omega) (by omega)) rfl rfl ?_)
  rintro v w4 ⟨bs, E, be, _, hpE, rfl, hQ⟩
  replace hH := Hp.cat hH hQ
  clear hQ hOz
  change Hp _ _ _ [_, _, _, _, _] at hH
  have hsl := sB_len X.length bs
  have hE64 := sE_le hpE
  have hgE : ∀ x ∈ pse E, x = [] ∨ GB x := fun x hx => sE_good (hpE ▸ hx)
  have hEX : E.length = X.length := by rw [← pse_len, hpE, sE_len hsl]
  obtain ⟨f, hf⟩ : ∃ f, f = (sF X.length bs).length := ⟨_, rfl⟩
  obtain ⟨k, hk⟩ : ∃ k, k = (sB X.length bs).length := ⟨_, rfl⟩
  rw [← hf, ← hk] at hsl ⊢
  clear hpE hf hk
  skip
  refine WL_s (H_alloc hH (Ty.zer rfl) rfl ?_)
  try clear hH
  intro w5 b11 hH
  change Hp _ _ _ [_, _, _, _, _, _] at hH
  skip
  refine WL_s (H_storeA 5 hH rfl rfl rfl rfl rfl b3_one (Ty.shp rfl) ?_)
  clear hH
  intro w6 hH
  change Hp _ _ _ [_, _, _, _, _, _] at hH
  obtain ⟨n, hn⟩ : ∃ n : Nat, less % 8 = (n : Int) := ⟨(less % 8).toNat, by omega⟩
  have hn8 : n < 8 := by omega
  repeat (first | refine WS_seq ?_ | refine WS_region ?_ | refine WL_nil ?_ | (refine WL_r (by first | refine (k_andm (k := 3) rfl rfl (by decide)).is (congrArg (Value.int .i64) hn) | refine Run_pev rfl | apply k_makeFunc) rfl ?_))
  refine WS_draw Ty.mixed (fun u => Ext [] w6 u) 9 rfl ?_
  replace hH := hH.ext0 (Ext.drew0 (S := []))
  have hx0 : Ext [] w6 w6.drew := Ext.drew0
  generalize w6.drew = w7 at *
  have hB11 : Blk w7 b11 71 #[.slice (some ⟨be, 0, none⟩) X.length X.length, .int .i64 (f : Nat), .int .i64 (k : Nat)] := hH.b 5 rfl
  have hx1 : Ext [] w7 w7 := .refl
  refine WA_now _ hx0 ?_
  clear hx0
  refine WA_take 0 rfl (by kernel_rfl) hx1 rfl rfl (fun w' hw' => by refine k_loadA rfl (hB11.ext0 hw') rfl (Ty.shp rfl)) ?_
  refine WA_take 1 rfl (by kernel_rfl) hx1 rfl rfl (fun w' hw' => by refine Run_pev rfl) ?_
  refine WA_take 3 rfl (by kernel_rfl) hx1 rfl rfl (fun w' hw' => by refine k_loadA rfl (hB11.ext0 hw') rfl (Ty.shp rfl)) ?_
  refine WA_take 4 rfl (by kernel_rfl) hx1 rfl rfl (fun w' hw' => by refine Run_pev rfl) ?_
  refine WA_take 5 rfl (by kernel_rfl) hx1 rfl rfl (fun w' hw' => by refine k_add64 rfl rfl (by omega)) ?_
  refine WA_one 2 (by kernel_rfl) rfl rfl (S_call (kept_spec (hH.o 3 rfl).sl (hH.at 4 rfl) hE64 hEX (by omega) (by omega) (by omega) (by omega)) rfl rfl ?_)
  rintro v w8 ⟨Y1, b1, hY1, rfl, hQ⟩
  have hx2 := hx1.then0 hQ.ext
  replace hH := Hp.cat hH hQ
  clear hQ
  change Hp _ _ _ [_, _, _, _, _, _, _, _] at hH
  refine ⟨hx2, ?_⟩
  refine WA_one 6 (by kernel_rfl) rfl rfl (S_call (kept_spec (hH.o 3 rfl).sl (hH.at 4 rfl) hE64 hEX (by omega) (by omega) (by omega) (by omega)) rfl rfl ?_)
  rintro v w9 ⟨Y2, b2, hY2, rfl, hQ⟩
  have hx3 := hx2.then0 hQ.ext
  replace hH := Hp.cat hH hQ
  clear hQ
  change Hp _ _ _ [_, _, _, _, _, _, _, _, _, _] at hH
  refine ⟨hx3, ?_⟩
  refine WA_take 7 rfl (by kernel_rfl) hx3 rfl rfl (fun w' hw' => by refine Run_pev rfl) ?_
  refine WA_take 8 rfl (by kernel_rfl) hx3 rfl rfl (fun w' hw' => by refine Run_pev rfl) ?_
  refine WA_done (by kernel_rfl) ?_
  have hd : lss f X.length (n : Int) ≤ lss f X.length ((n : Int) + 1) := by unfold lss; split <;> omega
  generalize lss f X.length (n : Int) = d1 at *
  generalize lss f X.length ((n : Int) + 1) = d2 at *
  have hl1 : Y1.length = X.length := by rw [← pse_len, hY1, kp_len, pse_len, hEX]
  have hl2 : Y2.length = X.length := by rw [← pse_len, hY2, kp_len, pse_len, hEX]
  clear hx3 hx2 hx1 hB11
  repeat (first | refine WS_seq ?_ | refine WS_region ?_ | refine WL_nil ?_ | refine WS_block ?_ | refine WS_skip ?_ | refine WS_false rfl ?_ | refine WL_gyes rfl rfl rfl ?_ | (refine WL_r (by first | refine (k_neq (q := .i64) rfl rfl).is (bF (fun h => h rfl)) | refine Run_pev rfl | refine k_len rfl (Ty.isl rfl) | apply k_makeFunc) rfl ?_))
  refine WS_loop (G := (Nat)) (fun i => X.length - i) 20282409603649364580938037625088 (fun i => [(61, .int .i64 i)]) (fun i w' => i ≤ X.length ∧ Ext [] w9 w') (0) ⟨rfl, trivial⟩ ⟨by omega, .refl⟩ ?_
  rintro i w' σ ⟨hi, hW⟩ IH
  show WS _ _ _ _ _ (updL [(61, .int .i64 i)] _) _
  replace hH := hH.ext0 hW
  by_cases hlt : i < X.length
  · have hB11 : Blk _ b11 71 #[.slice (some ⟨be, 0, none⟩) X.length X.length, .int .i64 (f : Nat), .int .i64 (k : Nat)] := hH.b 5 rfl
    have hOE : SlA w' (some ⟨be, 0, none⟩) (elvs E) := (hH.o 3 rfl).sl
    have hO1 : SlA w' (some ⟨b1, 0, none⟩) (elvs Y1) := (hH.o 6 rfl).sl
    have hO2 : SlA w' (some ⟨b2, 0, none⟩) (elvs Y2) := (hH.o 8 rfl).sl
    have hsE := Rl.at (hH.at 4 rfl) (show i < E.length by omega)
    have hs1 := Rl.at (hH.at 7 rfl) (show i < Y1.length by omega)
    have hs2 := Rl.at (hH.at 9 rfl) (show i < Y2.length by omega)
    have hei := elvs_at E (show i < E.length by omega)
    have h1i := elvs_at Y1 (show i < Y1.length by omega)
    have h2i := elvs_at Y2 (show i < Y2.length by omega)
    have hpi : i < (pse E).length := by rw [pse_len]; omega
    have k1 := kp_get hY1 (show i < Y1.length by omega) hpi
    have k2 := kp_get hY2 (show i < Y2.length by omega) hpi
    have hee : (pse E)[i] = (E[i]'(show i < E.length by omega)).2.2 := by simp [pse]
    have hge := hgE _ (List.getElem_mem hpi)
    rw [hee] at k1 k2 hge
    rw [pse_len] at k1 k2
    have hlE := elvs_len E
    have hl1' := elvs_len Y1
    have hl2' := elvs_len Y2
    clear hee
    generalize E[i]'(show i < E.length by omega) = e at *
    generalize Y1[i]'(show i < Y1.length by omega) = y1 at *
    generalize Y2[i]'(show i < Y2.length by omega) = y2 at *
    rw [hEX] at k1 k2
    obtain ⟨ae, ce, pe⟩ := e
    obtain ⟨a1, c1, p1⟩ := y1
    obtain ⟨a2, c2, p2⟩ := y2
    replace hei : (elvs E)[i]? = some (.slice ae pe.length ce) := hei
    replace h1i : (elvs Y1)[i]? = some (.slice a1 p1.length c1) := h1i
    replace h2i : (elvs Y2)[i]? = some (.slice a2 p2.length c2) := h2i
    simp only at hsE hs1 hs2 k1 k2 hge
    repeat (first | refine WS_seq ?_ | refine WS_region ?_ | refine WL_nil ?_ | refine WS_block ?_ | refine WS_skip ?_ | refine WS_yes rfl (by omega) ?_ | (refine WL_r (by first | refine Run_pev rfl | apply k_makeFunc) rfl ?_))
    refine WS_draw Ty.mixed (fun u => Ext [] w' u) 39 rfl ?_
    have hx0 : Ext [] w' w'.drew := Ext.drew0
    by_cases h2e : p2 = []
    · have hp2 : p2.length = 0 := by rw [h2e]; rfl
      refine WA_take 0 rfl (by kernel_rfl) hx0 rfl rfl (fun w' hw' => by refine Run_pev rfl) ?_
      refine WA_take 1 rfl (by kernel_rfl) hx0 rfl rfl (fun w' hw' => by refine Run_pev rfl) ?_
      refine WA_take 2 rfl (by kernel_rfl) hx0 rfl rfl (fun w' hw' => by refine k_ix1 rfl rfl (hO2.ext0 hw') (by omega) (Ty.sle rfl) (by omega)) ?_
      refine WA_take 3 rfl (by kernel_rfl) hx0 rfl rfl (fun w' hw' => by refine k_loads rfl (hO2.ext0 hw') h2i (Ty.shp rfl)) ?_
      refine WA_take 4 rfl (by kernel_rfl) hx0 rfl rfl (fun w' hw' => by refine k_len rfl (Ty.isl rfl)) ?_
      refine WA_take 5 rfl (by kernel_rfl) hx0 rfl rfl (fun w' hw' => by refine (k_gtr (q := .i64) rfl rfl).is (bF (by omega))) ?_
      refine WA_take 6 rfl (by kernel_rfl) hx0 rfl rfl (fun w' hw' => by refine Run_pev rfl) ?_
      refine WA_taken (b := false) 7 rfl (by kernel_rfl) hx0 rfl rfl rfl rfl rfl rfl ?_
      refine WA_taken (b := false) 8 rfl (by kernel_rfl) hx0 rfl rfl rfl rfl rfl rfl ?_
      refine WA_taken (b := false) 9 rfl (by kernel_rfl) hx0 rfl rfl rfl rfl rfl rfl ?_
      refine WA_taken (b := false) 10 rfl (by kernel_rfl) hx0 rfl rfl rfl rfl rfl rfl ?_
      refine WA_taken (b := false) 11 rfl (by kernel_rfl) hx0 rfl rfl rfl rfl rfl rfl ?_
      refine WA_taken (b := false) 12 rfl (by kernel_rfl) hx0 rfl rfl rfl rfl rfl rfl ?_
      refine WA_taken (b := false) 13 rfl (by kernel_rfl) hx0 rfl rfl rfl rfl rfl rfl ?_
      refine WA_taken (b := false) 14 rfl (by kernel_rfl) hx0 rfl rfl rfl rfl rfl rfl ?_
      refine WA_taken (b := false) 15 rfl (by kernel_rfl) hx0 rfl rfl rfl rfl rfl rfl ?_
      refine WA_taken (b := false) 16 rfl (by kernel_rfl) hx0 rfl rfl rfl rfl rfl rfl ?_
      refine WA_take 17 rfl (by kernel_rfl) hx0 rfl rfl (fun w' hw' => by refine Run_pev rfl) ?_
      refine WA_take 18 rfl (by kernel_rfl) hx0 rfl rfl (fun w' hw' => by refine Run_pev rfl) ?_
      refine WA_takey 19 rfl (by kernel_rfl) hx0 rfl rfl rfl rfl rfl (fun w' hw' => by refine Run_pev rfl) ?_
      refine WA_takey 20 rfl (by kernel_rfl) hx0 rfl rfl rfl rfl rfl (fun w' hw' => by refine Run_pev rfl) ?_
      refine WA_takey 21 rfl (by kernel_rfl) hx0 rfl rfl rfl rfl rfl (fun w' hw' => by refine k_ix1 rfl rfl (hO1.ext0 hw') (by omega) (Ty.sle rfl) (by omega)) ?_
      refine WA_takey 22 rfl (by kernel_rfl) hx0 rfl rfl rfl rfl rfl (fun w' hw' => by refine k_loads rfl (hO1.ext0 hw') h1i (Ty.shp rfl)) ?_
      by_cases h1e : p1 = []
      · have hp1 : p1.length = 0 := by rw [h1e]; rfl
        refine WA_takey 23 rfl (by kernel_rfl) hx0 rfl rfl rfl rfl rfl (fun w' hw' => by refine k_len rfl (Ty.isl rfl)) ?_
        refine WA_takey 24 rfl (by kernel_rfl) hx0 rfl rfl rfl rfl rfl (fun w' hw' => by refine (k_gtr (q := .i64) rfl rfl).is (bF (by omega))) ?_
        refine WA_takey 25 rfl (by kernel_rfl) hx0 rfl rfl rfl rfl rfl (fun w' hw' => by refine Run_pev rfl) ?_
        refine WA_taken (b := false) 26 rfl (by kernel_rfl) hx0 rfl rfl rfl rfl rfl rfl ?_
        refine WA_taken (b := false) 27 rfl (by kernel_rfl) hx0 rfl rfl rfl rfl rfl rfl ?_
        refine WA_taken (b := false) 28 rfl (by kernel_rfl) hx0 rfl rfl rfl rfl rfl rfl ?_
        refine WA_taken (b := false) 29 rfl (by kernel_rfl) hx0 rfl rfl rfl rfl rfl rfl ?_
        refine WA_taken (b := false) 30 rfl (by kernel_rfl) hx0 rfl rfl rfl rfl rfl rfl ?_
        refine WA_taken (b := false) 31 rfl (by kernel_rfl) hx0 rfl rfl rfl rfl rfl rfl ?_
        refine WA_taken (b := false) 32 rfl (by kernel_rfl) hx0 rfl rfl rfl rfl rfl rfl ?_
        refine WA_taken (b := false) 33 rfl (by kernel_rfl) hx0 rfl rfl rfl rfl rfl rfl ?_
        refine WA_taken (b := false) 34 rfl (by kernel_rfl) hx0 rfl rfl rfl rfl rfl rfl ?_
        refine WA_taken (b := false) 35 rfl (by kernel_rfl) hx0 rfl rfl rfl rfl rfl rfl ?_
        refine WA_taken (b := false) 36 rfl (by kernel_rfl) hx0 rfl rfl rfl rfl rfl rfl ?_
        refine WA_takey 37 rfl (by kernel_rfl) hx0 rfl rfl rfl rfl rfl (fun w' hw' => by refine Run_pev rfl) ?_
        refine WA_take 38 rfl (by kernel_rfl) hx0 rfl rfl (fun w' hw' => by refine Run_pev rfl) ?_
        refine WA_done (by kernel_rfl) ?_
        repeat (first | refine WS_region ?_ | refine WL_nil ?_ | refine WS_inBlock ?_ | refine WS_skip ?_ | refine WS_false rfl ?_ | (refine WL_r (by first | refine Run_pev rfl | refine k_add64 rfl rfl (by omega) | apply k_makeFunc) rfl ?_))
        refine IH (i + 1) _ _ ?_ ?_ ?_ ?_
        · omega
        · exact ⟨rfl, trivial⟩
        · exact (by repeat (first | with_reducible apply Agr.refl | refine Agr.upd rfl ?_ | refine Agr.updL rfl ?_ | refine Agr.mrg rfl ?_))
        · exact ⟨by omega, hW.then0 hx0⟩
      · obtain rfl : p1 = pe := by
          rw [k1] at h1e ⊢
          split
          · rfl
          · rename_i h; rw [if_neg h] at h1e; exact absurd rfl h1e
        have hg : GB p1 := hge.resolve_left h1e
        have hp1 : 0 < p1.length := by cases p1 with | nil => exact absurd rfl h1e | cons _ _ => simp
        refine WA_takey 23 rfl (by kernel_rfl) hx0 rfl rfl rfl rfl rfl (fun w' hw' => by refine k_len rfl (Ty.isl rfl)) ?_
        refine WA_takey 24 rfl (by kernel_rfl) hx0 rfl rfl rfl rfl rfl (fun w' hw' => by refine (k_gtr (q := .i64) rfl rfl).is (bT (by omega))) ?_
        refine WA_takey 25 rfl (by kernel_rfl) hx0 rfl rfl rfl rfl rfl (fun w' hw' => by refine Run_pev rfl) ?_
        refine WA_takey 26 rfl (by kernel_rfl) hx0 rfl rfl rfl rfl rfl (fun w' hw' => by refine Run_pev rfl) ?_
        refine WA_takey 27 rfl (by kernel_rfl) hx0 rfl rfl rfl rfl rfl (fun w' hw' => by refine Run_pev rfl) ?_
        refine WA_takey 28 rfl (by kernel_rfl) hx0 rfl rfl rfl rfl rfl (fun w' hw' => by refine k_ix1 rfl rfl (hO1.ext0 hw') (by omega) (Ty.sle rfl) (by omega)) ?_
        refine WA_takey 29 rfl (by kernel_rfl) hx0 rfl rfl rfl rfl rfl (fun w' hw' => by refine k_loads rfl (hO1.ext0 hw') h1i (Ty.shp rfl)) ?_
        refine WA_takey 30 rfl (by kernel_rfl) hx0 rfl rfl rfl rfl rfl (fun w' hw' => by refine k_fa rfl (Ty.fld rfl rfl)) ?_
        refine WA_takey 31 rfl (by kernel_rfl) hx0 rfl rfl rfl rfl rfl (fun w' hw' => by refine k_loadb rfl (hB11.ext0 hw') rfl (Ty.shp rfl)) ?_
        refine WA_takey 32 rfl (by kernel_rfl) hx0 rfl rfl rfl rfl rfl (fun w' hw' => by refine Run_pev rfl) ?_
        refine WA_takey 33 rfl (by kernel_rfl) hx0 rfl rfl rfl rfl rfl (fun w' hw' => by refine k_ix1 rfl rfl (hOE.ext0 hw') (by omega) (Ty.sle rfl) (by omega)) ?_
        refine WA_takey 34 rfl (by kernel_rfl) hx0 rfl rfl rfl rfl rfl (fun w' hw' => by refine k_loads rfl (hOE.ext0 hw') hei (Ty.shp rfl)) ?_
        refine WA_oney 35 (by kernel_rfl) rfl rfl rfl rfl rfl (S_call (same24_spec hg.ok hg.len rfl (hs1.ext0 hx0) (hsE.ext0 hx0)) rfl rfl ?_)
        rintro v u2 ⟨rfl, hE⟩
        have hx3 := Ext.then0 hx0 hE
        refine ⟨hx3, ?_⟩
        refine WA_takey 36 rfl (by kernel_rfl) hx3 rfl rfl rfl rfl rfl (fun w' hw' => by refine Run_pev rfl) ?_
        refine WA_takey 37 rfl (by kernel_rfl) hx3 rfl rfl rfl rfl rfl (fun w' hw' => by refine Run_pev rfl) ?_
        refine WA_take 38 rfl (by kernel_rfl) hx3 rfl rfl (fun w' hw' => by refine Run_pev rfl) ?_
        refine WA_done (by kernel_rfl) ?_
        repeat (first | refine WS_region ?_ | refine WL_nil ?_ | refine WS_inBlock ?_ | refine WS_skip ?_ | refine WS_false rfl ?_ | (refine WL_r (by first | refine Run_pev rfl | refine k_add64 rfl rfl (by omega) | apply k_makeFunc) rfl ?_))
        refine IH (i + 1) _ _ ?_ ?_ ?_ ?_
        · omega
        · exact ⟨rfl, trivial⟩
        · exact (by repeat (first | with_reducible apply Agr.refl | refine Agr.upd rfl ?_ | refine Agr.updL rfl ?_ | refine Agr.mrg rfl ?_))
        · exact ⟨by omega, hW.then0 hx3⟩
    · have hc2 : i < f - d2 ∨ X.length - (k - d2) ≤ i := by
        rcases Decidable.em (i < f - d2 ∨ X.length - (k - d2) ≤ i) with h | h
        · exact h
        · rw [if_neg h] at k2; exact absurd k2 h2e
      rw [if_pos hc2] at k2
      rw [if_pos (by omega)] at k1
      subst k1
      obtain rfl := k2.symm
      have hg : GB p1 := hge.resolve_left h2e
      have hp1 : 0 < p1.length := by cases p1 with | nil => exact absurd rfl h2e | cons _ _ => simp
      refine WA_take 0 rfl (by kernel_rfl) hx0 rfl rfl (fun w' hw' => by refine Run_pev rfl) ?_
      refine WA_take 1 rfl (by kernel_rfl) hx0 rfl rfl (fun w' hw' => by refine Run_pev rfl) ?_
      refine WA_take 2 rfl (by kernel_rfl) hx0 rfl rfl (fun w' hw' => by refine k_ix1 rfl rfl (hO2.ext0 hw') (by omega) (Ty.sle rfl) (by omega)) ?_
      refine WA_take 3 rfl (by kernel_rfl) hx0 rfl rfl (fun w' hw' => by refine k_loads rfl (hO2.ext0 hw') h2i (Ty.shp rfl)) ?_
      refine WA_take 4 rfl (by kernel_rfl) hx0 rfl rfl (fun w' hw' => by refine k_len rfl (Ty.isl rfl)) ?_
      refine WA_take 5 rfl (by kernel_rfl) hx0 rfl rfl (fun w' hw' => by refine (k_gtr (q := .i64) rfl rfl).is (bT (by omega))) ?_
      refine WA_take 6 rfl (by kernel_rfl) hx0 rfl rfl (fun w' hw' => by refine Run_pev rfl) ?_
      refine WA_takey 7 rfl (by kernel_rfl) hx0 rfl rfl rfl rfl rfl (fun w' hw' => by refine Run_pev rfl) ?_
      refine WA_takey 8 rfl (by kernel_rfl) hx0 rfl rfl rfl rfl rfl (fun w' hw' => by refine Run_pev rfl) ?_
      refine WA_takey 9 rfl (by kernel_rfl) hx0 rfl rfl rfl rfl rfl (fun w' hw' => by refine k_ix1 rfl rfl (hO1.ext0 hw') (by omega) (Ty.sle rfl) (by omega)) ?_
      refine WA_takey 10 rfl (by kernel_rfl) hx0 rfl rfl rfl rfl rfl (fun w' hw' => by refine k_loads rfl (hO1.ext0 hw') h1i (Ty.shp rfl)) ?_
      refine WA_takey 11 rfl (by kernel_rfl) hx0 rfl rfl rfl rfl rfl (fun w' hw' => by refine Run_pev rfl) ?_
      refine WA_takey 12 rfl (by kernel_rfl) hx0 rfl rfl rfl rfl rfl (fun w' hw' => by refine Run_pev rfl) ?_
      refine WA_takey 13 rfl (by kernel_rfl) hx0 rfl rfl rfl rfl rfl (fun w' hw' => by refine k_ix1 rfl rfl (hO2.ext0 hw') (by omega) (Ty.sle rfl) (by omega)) ?_
      refine WA_takey 14 rfl (by kernel_rfl) hx0 rfl rfl rfl rfl rfl (fun w' hw' => by refine k_loads rfl (hO2.ext0 hw') h2i (Ty.shp rfl)) ?_
      refine WA_oney 15 (by kernel_rfl) rfl rfl rfl rfl rfl (S_call (same24_spec hg.ok hg.len rfl (hs1.ext0 hx0) (hs2.ext0 hx0)) rfl rfl ?_)
      rintro v u2 ⟨rfl, hE⟩
      have hx4 := hx0.then0 hE
      refine ⟨hx4, ?_⟩
      refine WA_takey 16 rfl (by kernel_rfl) hx4 rfl rfl rfl rfl rfl (fun w' hw' => by refine Run_pev rfl) ?_
      refine WA_take 17 rfl (by kernel_rfl) hx4 rfl rfl (fun w' hw' => by refine Run_pev rfl) ?_
      refine WA_take 18 rfl (by kernel_rfl) hx4 rfl rfl (fun w' hw' => by refine Run_pev rfl) ?_
      refine WA_takey 19 rfl (by kernel_rfl) hx4 rfl rfl rfl rfl rfl (fun w' hw' => by refine Run_pev rfl) ?_
      refine WA_takey 20 rfl (by kernel_rfl) hx4 rfl rfl rfl rfl rfl (fun w' hw' => by refine Run_pev rfl) ?_
      refine WA_takey 21 rfl (by kernel_rfl) hx4 rfl rfl rfl rfl rfl (fun w' hw' => by refine k_ix1 rfl rfl (hO1.ext0 hw') (by omega) (Ty.sle rfl) (by omega)) ?_
      refine WA_takey 22 rfl (by kernel_rfl) hx4 rfl rfl rfl rfl rfl (fun w' hw' => by refine k_loads rfl (hO1.ext0 hw') h1i (Ty.shp rfl)) ?_
      refine WA_takey 23 rfl (by kernel_rfl) hx4 rfl rfl rfl rfl rfl (fun w' hw' => by refine k_len rfl (Ty.isl rfl)) ?_
      refine WA_takey 24 rfl (by kernel_rfl) hx4 rfl rfl rfl rfl rfl (fun w' hw' => by refine (k_gtr (q := .i64) rfl rfl).is (bT (by omega))) ?_
      refine WA_takey 25 rfl (by kernel_rfl) hx4 rfl rfl rfl rfl rfl (fun w' hw' => by refine Run_pev rfl) ?_
      refine WA_takey 26 rfl (by kernel_rfl) hx4 rfl rfl rfl rfl rfl (fun w' hw' => by refine Run_pev rfl) ?_
      refine WA_takey 27 rfl (by kernel_rfl) hx4 rfl rfl rfl rfl rfl (fun w' hw' => by refine Run_pev rfl) ?_
      refine WA_takey 28 rfl (by kernel_rfl) hx4 rfl rfl rfl rfl rfl (fun w' hw' => by refine k_ix1 rfl rfl (hO1.ext0 hw') (by omega) (Ty.sle rfl) (by omega)) ?_
      refine WA_takey 29 rfl (by kernel_rfl) hx4 rfl rfl rfl rfl rfl (fun w' hw' => by refine k_loads rfl (hO1.ext0 hw') h1i (Ty.shp rfl)) ?_
      refine WA_takey 30 rfl (by kernel_rfl) hx4 rfl rfl rfl rfl rfl (fun w' hw' => by refine k_fa rfl (Ty.fld rfl rfl)) ?_
      refine WA_takey 31 rfl (by kernel_rfl) hx4 rfl rfl rfl rfl rfl (fun w' hw' => by refine k_loadb rfl (hB11.ext0 hw') rfl (Ty.shp rfl)) ?_
      refine WA_takey 32 rfl (by kernel_rfl) hx4 rfl rfl rfl rfl rfl (fun w' hw' => by refine Run_pev rfl) ?_
      refine WA_takey 33 rfl (by kernel_rfl) hx4 rfl rfl rfl rfl rfl (fun w' hw' => by refine k_ix1 rfl rfl (hOE.ext0 hw') (by omega) (Ty.sle rfl) (by omega)) ?_
      refine WA_takey 34 rfl (by kernel_rfl) hx4 rfl rfl rfl rfl rfl (fun w' hw' => by refine k_loads rfl (hOE.ext0 hw') hei (Ty.shp rfl)) ?_
      refine WA_oney 35 (by kernel_rfl) rfl rfl rfl rfl rfl (S_call (same24_spec hg.ok hg.len rfl (hs1.ext0 hx4) (hsE.ext0 hx4)) rfl rfl ?_)
      rintro v u2 ⟨rfl, hE⟩
      have hx3 := Ext.then0 hx4 hE
      refine ⟨hx3, ?_⟩
      refine WA_takey 36 rfl (by kernel_rfl) hx3 rfl rfl rfl rfl rfl (fun w' hw' => by refine Run_pev rfl) ?_
      refine WA_takey 37 rfl (by kernel_rfl) hx3 rfl rfl rfl rfl rfl (fun w' hw' => by refine Run_pev rfl) ?_
      refine WA_take 38 rfl (by kernel_rfl) hx3 rfl rfl (fun w' hw' => by refine Run_pev rfl) ?_
      refine WA_done (by kernel_rfl) ?_
      repeat (first | refine WS_region ?_ | refine WL_nil ?_ | refine WS_inBlock ?_ | refine WS_skip ?_ | refine WS_false rfl ?_ | (refine WL_r (by first | refine Run_pev rfl | refine k_add64 rfl rfl (by omega) | apply k_makeFunc) rfl ?_))
      refine IH (i + 1) _ _ ?_ ?_ ?_ ?_
      · omega
      · exact ⟨rfl, trivial⟩
      · exact (by repeat (first | with_reducible apply Agr.refl | refine Agr.upd rfl ?_ | refine Agr.updL rfl ?_ | refine Agr.mrg rfl ?_))
      · exact ⟨by omega, hW.then0 hx3⟩
  clear IH
  repeat (first | refine WS_seq ?_ | refine WS_region ?_ | refine WL_nil ?_ | refine WS_exit rfl ?_ | refine WS_no rfl (by omega) ?_ | (refine WL_r (by first | refine Run_pev rfl | apply k_makeFunc) rfl ?_))
  exact WS_ret1 Try.func10 rfl ⟨rfl, hH.ext⟩
theorem own_salvageLess : ownKnob Try.prog.godebug = none := by kernel_rfl
theorem laid_salvageLess : laidOutB Try.prog = true := by kernel_rfl
set_option maxRecDepth 100000 in
theorem salvageLess_lifted (os : Os) (started : os.Started) (H : Type) (enc : TypeId × Value → H) :
    ReturnsInHanded {} Try.checked os 10 .any (Rows.salvageLessSpec.pre6 enc Try.prog Try.f10 Rows.salvageLessRow.domain false) (Rows.salvageLessSpec.post enc Try.prog Try.f10 false true false false) := by
  refine returnsInHanded_of_change (C := Try.checked) own_salvageLess started (by kernel_rfl) Try.func10
    (ChangeSpec.witness6 (enc := enc) (C := Try.checked) false ⟨#[], #[.slice none 0 0, .int .u16 0, .int .u8 0, .int .i64 0], []⟩ 8 (by kernel_rfl) (by kernel_rfl) (by kernel_rfl) (by kernel_rfl)) ?_
  intro W base args ds gs before hval0 hW _ _
  have hval : ∀ (j : Nat) t v, Try.f10.params[j]? = some t → args[j]? = some v → Value.okWide Try.prog W .any base t v := hval0
  have hW' := hW
  obtain ⟨p, q, hA0, hV, rfl, hfz, hnd⟩ := hW
  have hA : DataW.TrodAll enc Try.prog W 0 (fun _ => true) true Try.f10.params.toList args.toList ds p := hA0
  rw [Try.params10] at hA hval
  obtain ⟨v0, r0, d0, e0, p0, q0, ha0, rfl, rfl, h0, hA⟩ := trodAll_cons hA
  obtain ⟨v1, r1, d1, e1, p1, q1, ha1, rfl, rfl, h1, hA⟩ := trodAll_cons hA
  obtain ⟨v2, r2, d2, e2, p2, q2, ha2, rfl, rfl, h2, hA⟩ := trodAll_cons hA
  obtain ⟨v3, r3, d3, e3, p3, q3, ha3, rfl, rfl, h3, hA⟩ := trodAll_cons hA
  obtain ⟨hnil, rfl, rfl⟩ := trodAll_nil hA
  obtain rfl : args = #[v0, v1, v2, v3] := by cases args; simp_all
  have hv0 := hval 0 _ v0 rfl rfl
  have hv1 := hval 1 _ v1 rfl rfl
  have hv2 := hval 2 _ v2 rfl rfl
  have hv3 := hval 3 _ v3 rfl rfl
  clear hA0 hval0 ha0 ha1 ha2 ha3 hnil
  obtain ⟨a, cap, ms, hc, hS, hok, hlen⟩ := rd_sms (rd_arg (.sl SMD) (by kernel_rfl) h0)
  obtain ⟨a', n', cap', rfl⟩ := okWide_slice (sle_spec (Ty.sle rfl)).1 hv0
  obtain ⟨rfl, rfl, rfl⟩ : a' = a ∧ n' = ms.length ∧ cap' = cap := by simpa [Value.cells] using hc
  obtain ⟨t0, rfl, ht0⟩ := rd_int (Ty.knd rfl) hv1 h1
  obtain ⟨t, rfl, ht⟩ := fits_u16 ht0
  obtain ⟨bt0, rfl, hbt0⟩ := rd_int (Ty.knd rfl) hv2 h2
  obtain ⟨bt, rfl, hbt⟩ := fits_u8 hbt0
  obtain ⟨less, rfl, hless⟩ := rd_int (Ty.knd rfl) hv3 h3
  refine ((sless_spec hS hok hlen ht hbt (fits_i64 hless)).enter Try.func10 rfl rfl).mono ?_
  rintro e W' ⟨v, rfl, rfl, hE⟩
  exact ⟨_, rfl, law_post laid_salvageLess (by kernel_rfl) hW' rfl rfl (by kernel_rfl) ⟨rfl, rfl, rfl⟩ hE⟩
theorem salvageLess_holds : Rows.SalvageLessSaid :=
  OpenClaim.holds_of_wide 10 Try.f10 rfl rfl rfl rfl rfl rfl rfl ⟨rfl, rfl, rfl, rfl, rfl⟩ rfl rfl rfl rfl rfl (by kernel_rfl) Try.func10 (by kernel_rfl)
    (of_decide_eq_true (by kernel_rfl)) (by unfold Func.isWrapper; (rw [if_neg (by decide +kernel)]; exact ⟨rfl, rfl⟩))
    (fun os started H enc _ => salvageLess_lifted os started H enc)
#print axioms salvageLess_holds
end Go.Proofs.Ytnamafelcjgjfaa
