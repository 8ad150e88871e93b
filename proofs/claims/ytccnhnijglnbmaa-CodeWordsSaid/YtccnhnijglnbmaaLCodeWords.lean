/- The law CodeWords: of any sizes the words, or what is wrong; no condition. -/
import Derived.Test.YtccnhnijglnbmaaSh
import Derived.Test.YtccnhnijglnbmaaLaw04
import Derived.Test.YtccnhnijglnbmaaK8
import Derived.Test.YtccnhnijglnbmaaRows
namespace Go.Proofs.Ytccnhnijglnbmaa
open Go Go.K Go.P Go.RowKit Go.Proofs Go.ChangeShapes Go.WideShapes Go.ChangeAt
/-- Sizes from 1 to 8. -/
def nr (l : List Nat) : List Int := l.map fun n => 1 + ((n % 8 : Nat) : Int)
theorem nr_snoc (l : List Nat) (n : Nat) : nr (l ++ [n]) = nr l ++ [1 + ((n % 8 : Nat) : Int)] := by simp [nr]
/-- May all be sizes? -/
def okl (l : List Int) : Bool := l.all fun x => decide (1 ≤ x ∧ x ≤ 32)
theorem okl_snoc (l : List Int) (x : Int) : okl (l ++ [x]) = (okl l && decide (1 ≤ x ∧ x ≤ 32)) := by simp [okl]
def wnt (b : Bool) : Nat := if b then 0 else 2
set_option maxRecDepth 20000 in
set_option maxHeartbeats 8000000 in
theorem cwords_spec {n0 cap n1 cap1 : Nat} {a a1 : Option Addr} {l : List Int} {sm : List Nat} {w : World} (hS : SlA w a (l.map (Value.int .i64))) (hn : l.length = n0) (hlen : n0 ≤ 9223372036854775807) (hS2 : SlA w a1 (sm.map B)) (hsb : Byt sm) (hn1 : sm.length = n1) (hlen1 : n1 ≤ 9223372036854775807) :
    Does Try.prog 4 #[.slice a n0 cap, .slice a1 n1 cap1] w fun v w' => v = .bool true ∧ Ext [] w w' := by
  subst hn
  subst hn1
  refine Does_of (args := [_, _]) Try.func4 rfl rfl Try.ntmps4 rfl ?_
  repeat (first | refine WS_seq ?_ | refine WS_region ?_ | refine WL_nil ?_ | (refine WL_r (by refine Run_pev rfl) rfl ?_))
  try refine WL_gyes rfl rfl rfl ?_
  refine WL_s (S_call (awake04 w) rfl rfl ?_)
  rintro v w1 ⟨rfl, hW1⟩
  have hH := (Hp.start w).ext0 hW1
  clear hW1
  by_cases h50 : 100 < l.length
  · repeat (first | refine WS_seq ?_ | refine WS_region ?_ | refine WL_nil ?_ | refine WS_skip ?_ | refine WS_true rfl ?_ | refine WS_false rfl ?_ | refine WL_gno (b := true) rfl rfl (dT (by omega)) rfl rfl ?_ | (refine WL_r (by first | refine Run_pev rfl | refine k_len rfl (Ty.isl rfl) | refine k_pick_t (dT (by omega)) rfl) rfl ?_))
    exact WS_ret1 Try.func4 rfl ⟨rfl, hH.ext⟩
  by_cases h60 : 100 < sm.length
  · repeat (first | refine WS_seq ?_ | refine WS_region ?_ | refine WL_nil ?_ | refine WS_skip ?_ | refine WS_false rfl ?_ | refine WS_yes rfl (by omega) ?_ | refine WL_gyes rfl rfl (dF (by omega)) ?_ | (refine WL_r (by first | refine Run_pev rfl | refine k_len rfl (Ty.isl rfl) | refine k_pick_f (dF (by omega)) rfl) rfl ?_))
    exact WS_ret1 Try.func4 rfl ⟨rfl, hH.ext⟩
  replace hH := hH.nu (New.nilO (e := 3) (sz := 1))
  change Hp _ _ _ [_] at hH
  have hsl : (sm.map B).length = sm.length := by simp
  repeat (first | refine WS_seq ?_ | refine WS_region ?_ | refine WL_nil ?_ | refine WS_block ?_ | refine WS_skip ?_ | refine WS_false rfl ?_ | refine WS_no rfl (by omega) ?_ | refine WL_gyes rfl rfl (dF (by omega)) ?_ | (refine WL_r (by first | refine Run_pev rfl | refine k_len rfl (Ty.isl rfl) | refine k_pick_f (dF (by omega)) rfl) rfl ?_))
  refine WS_loop (G := (Nat) × (Option Addr) × (Nat)) (fun | (i, an, cn) => sm.length - i) 4396972769440 (fun | (i, an, cn) => [(5, .slice an i cn), (30, .int .i64 i)]) (fun | (i, an, cn), w' => i ≤ sm.length ∧ Hp [] w w' [Ro 3 1 an i cn ((nr (sm.take i)).map (Value.int .i64))]) (0, none, 0) ⟨rfl, rfl, trivial⟩ ⟨by omega, hH⟩ ?_
  rintro ⟨i, an, cn⟩ u1 σ ⟨hi, hH⟩ IH
  show WS _ _ _ _ _ (updL [(5, .slice an i cn), (30, .int .i64 i)] _) _
  by_cases hlt : i < sm.length
  · have hv : (sm.map B)[i]? = some (B sm[i]) := by simp [hlt]
    have hS3 := hH.old hS2
    have htk : nr (sm.take (i + 1)) = nr (sm.take i) ++ [1 + ((sm[i] % 8 : Nat) : Int)] := by rw [List.take_succ_eq_append_getElem hlt, nr_snoc]
    have hn256 := hsb _ (List.getElem_mem hlt)
    generalize sm[i] = n at *
    repeat (first | refine WS_seq ?_ | refine WS_region ?_ | refine WL_nil ?_ | refine WS_block ?_ | refine WS_skip ?_ | refine WS_yes rfl (by omega) ?_ | (refine WL_r (by first | refine k_ix1 rfl rfl hS3 hsl (Ty.sle rfl) (by omega) | refine k_loads rfl hS3 hv (Ty.shp rfl) | refine k_remu (n := 8) rfl rfl (by decide) | refine Run_pev rfl | refine k_add64 rfl rfl (by omega) | refine k_convI rfl rfl rfl (by omega)) rfl ?_))
    try refine WL_gyes rfl rfl rfl ?_
    refine WL_s (H_lit (out := [.int .i64 (1 + ((n % 8 : Nat) : Int))]) hH (Ty.sle rfl) (Ty.zer rfl) rfl rfl rfl (by decide) rfl ?_)
    try clear hH
    intro _ blit hH
    change Hp _ _ _ [_, _] at hH
    try refine WL_gyes rfl rfl rfl ?_
    refine WL_s (H_append 0 hH rfl (Ty.sle rfl) (Ty.zer rfl) rfl (Ty.byt rfl) (by decide) rfl rfl ((hH.b 1 rfl).sl0) (by simp; try omega) (by simp) (by omega) (by simp only [maxLen]; omega) rfl ?_)
    try clear hH
    intro _ a4 c4 hH
    change Hp _ _ _ [_, _] at hH
    replace hH := hH.del 1
    change Hp _ _ _ [_] at hH
    repeat (first | refine WS_region ?_ | refine WL_nil ?_ | refine WS_inBlock ?_ | (refine WL_r (by first | refine Run_pev rfl | refine k_add64 rfl rfl (by omega) | apply k_makeFunc) rfl ?_))
    refine IH (i + 1, a4, c4) _ _ ?_ ?_ ?_ ?_
    · simp only; omega
    · exact ⟨rfl, rfl, trivial⟩
    · exact (by repeat (first | with_reducible apply Agr.refl | refine Agr.upd rfl ?_ | refine Agr.updL rfl ?_ | refine Agr.mrg rfl ?_))
    · exact ⟨by omega, by rw [htk, List.map_append]; exact hH⟩
  obtain rfl : i = sm.length := by omega
  clear IH
  rw [List.take_length] at hH
  have hnl : (nr sm).length = sm.length := by simp [nr]
  repeat (first | refine WS_seq ?_ | refine WS_region ?_ | refine WL_nil ?_ | refine WS_exit rfl ?_ | refine WS_no rfl (by omega) ?_ | (refine WL_r (by refine Run_pev rfl) rfl ?_))
  try refine WL_gyes rfl rfl rfl ?_
  refine WL_s (H_lit (out := [.slice a l.length cap, .slice an sm.length cn]) hH (Ty.sle rfl) (Ty.zer rfl) rfl rfl rfl (by decide) rfl ?_)
  try clear hH
  intro _ b44 hH
  change Hp _ _ _ [_, _] at hH
  repeat (first | refine WL_nil ?_ | refine WS_block ?_ | (refine WL_r (by first | refine Run_pev rfl | refine k_len rfl (Ty.isl rfl) | apply k_makeFunc) rfl ?_))
  clear hi hlt
  refine WS_loop (G := (Nat)) (fun i => 2 - i) 21778071482940061661655974805264421608976 (fun i => [(46, .int .i64 i)]) (fun i w' => i ≤ 2 ∧ Hp [] w w' [Ro 3 1 an sm.length cn ((nr sm).map (Value.int .i64)), Rb b44 45 #[.slice a l.length cap, .slice an sm.length cn]]) (0) ⟨rfl, trivial⟩ ⟨by omega, hH⟩ ?_
  rintro i u1 σ ⟨hi, hH⟩ IH
  show WS _ _ _ _ _ (updL [(46, .int .i64 i)] _) _
  by_cases hlt : i < 2
  · obtain ⟨L, aL, nL, cL, hxi, hSL, hLn, hL100⟩ : ∃ (L : List Int) (aL : Option Addr) (nL cL : Nat), [Value.slice a l.length cap, .slice an sm.length cn][i]? = some (.slice aL nL cL) ∧ SlA u1 aL (L.map (Value.int .i64)) ∧ L.length = nL ∧ nL ≤ 100 := by
      rcases (show i = 0 ∨ i = 1 by omega) with rfl | rfl
      · exact ⟨l, a, l.length, cap, rfl, hH.old hS, rfl, by omega⟩
      · exact ⟨nr sm, an, sm.length, cn, rfl, (hH.o 0 rfl).sl, hnl, by omega⟩
    subst hLn
    have hS4 : SlA u1 (some ⟨b44, 0, none⟩) [Value.slice a l.length cap, .slice an sm.length cn] := (hH.b 1 rfl).sl0
    repeat (first | refine WS_seq ?_ | refine WS_region ?_ | refine WL_nil ?_ | refine WS_block ?_ | refine WS_skip ?_ | refine WS_yes rfl (by omega) ?_ | (refine WL_r (by first | refine k_ix1 rfl rfl hS4 rfl (Ty.sle rfl) (by omega) | refine k_loads rfl hS4 hxi (Ty.shp rfl) | refine Run_pev rfl) rfl ?_))
    try refine WL_gyes rfl rfl rfl ?_
    refine WL_s (S_call (cnew_spec hSL rfl (by omega)) rfl rfl ?_)
    rintro v w3 hCN
    have hll : (L.map (Value.int .i64)).length = L.length := by simp
    clear hxi hS4
    by_cases hbad : ¬ (1 ≤ L.length ∧ L.length ≤ 64)
    · rcases hCN with ⟨_, rfl, hE⟩ | ⟨h1, _⟩ | ⟨sz, rfl, h1, _⟩
      · replace hH := hH.ext0 hE
        rcases (show L.length < 1 ∨ 64 < L.length by omega) with h | h
        · repeat (first | refine WS_seq ?_ | refine WS_region ?_ | refine WL_nil ?_ | refine WS_block ?_ | refine WS_inBlock ?_ | refine WS_skip ?_ | refine WS_true rfl ?_ | refine WS_false rfl ?_ | refine WL_gyes rfl rfl rfl ?_ | refine WL_gno (b := true) rfl rfl (dT (by omega)) rfl rfl ?_ | (refine WL_r (by first | refine Run_pev rfl | refine k_len rfl (Ty.isl rfl) | refine k_extract rfl rfl | refine k_pick_t (dT (by omega)) rfl) rfl ?_))
          repeat (first | refine WS_seq ?_ | refine WS_region ?_ | refine WL_nil ?_ | refine WS_block ?_ | refine WS_skip ?_ | refine WS_false rfl ?_ | refine WL_gyes rfl rfl rfl ?_ | (refine WL_r (by first | refine k_pnnil rfl rfl (.inl rfl) ptrC | refine k_neqbF rfl rfl (by kernel_rfl) rfl | refine Run_pev rfl | refine k_len rfl (Ty.isl rfl) | apply k_makeFunc) rfl ?_))
          refine WS_loop0 ?_
          repeat (first | refine WS_seq ?_ | refine WS_region ?_ | refine WL_nil ?_ | refine WS_exit rfl ?_ | refine WS_false rfl ?_ | (refine WL_r (by refine Run_pev rfl) rfl ?_))
          try refine WL_gyes rfl rfl rfl ?_
          refine WL_s (S_call (clen_nil) rfl rfl ?_)
          rintro v w6 ⟨rfl, rfl⟩
          repeat (first | refine WL_gyes rfl rfl rfl ?_ | (refine WL_r (by first | refine (k_neq (q := .i64) rfl rfl).is (bF (fun h => h rfl)) | refine Run_pev rfl | refine k_len rfl (Ty.isl rfl)) rfl ?_))
          try refine WL_gyes rfl rfl rfl ?_
          refine WL_s (S_call (csize_nil) rfl rfl ?_)
          rintro v w6 ⟨rfl, rfl⟩
          repeat (first | refine WL_gyes rfl rfl rfl ?_ | (refine WL_r (by first | refine (k_neq (q := .i64) rfl rfl).is (bF (fun h => h rfl)) | refine Run_pev rfl | refine k_len rfl (Ty.isl rfl)) rfl ?_))
          try refine WL_gyes rfl rfl rfl ?_
          refine WL_s (S_call (csize_nil) rfl rfl ?_)
          rintro v w6 ⟨rfl, rfl⟩
          repeat (first | refine WS_region ?_ | refine WL_nil ?_ | refine WS_inBlock ?_ | refine WS_skip ?_ | refine WS_false rfl ?_ | refine WL_gyes rfl rfl rfl ?_ | (refine WL_r (by first | refine (k_neq (q := .i64) rfl rfl).is (bF (fun h => h rfl)) | refine Run_pev rfl | refine k_add64 rfl rfl (by omega) | apply k_makeFunc) rfl ?_))
          refine IH (i + 1) _ _ ?_ ?_ ?_ ?_
          · omega
          · exact ⟨rfl, trivial⟩
          · exact (by repeat (first | with_reducible apply Agr.refl | refine Agr.upd rfl ?_ | refine Agr.updL rfl ?_ | refine Agr.mrg rfl ?_))
          · exact ⟨by omega, hH⟩
        · repeat (first | refine WS_seq ?_ | refine WS_region ?_ | refine WL_nil ?_ | refine WS_block ?_ | refine WS_inBlock ?_ | refine WS_skip ?_ | refine WS_false rfl ?_ | refine WS_yes rfl (by omega) ?_ | refine WL_gyes rfl rfl rfl ?_ | refine WL_gyes rfl rfl (dF (by omega)) ?_ | (refine WL_r (by first | refine Run_pev rfl | refine k_len rfl (Ty.isl rfl) | refine k_extract rfl rfl | refine k_pick_f (dF (by omega)) rfl) rfl ?_))
          repeat (first | refine WS_seq ?_ | refine WS_region ?_ | refine WL_nil ?_ | refine WS_block ?_ | refine WS_skip ?_ | refine WS_false rfl ?_ | refine WL_gyes rfl rfl rfl ?_ | (refine WL_r (by first | refine k_pnnil rfl rfl (.inl rfl) ptrC | refine k_neqbF rfl rfl (by kernel_rfl) rfl | refine Run_pev rfl | refine k_len rfl (Ty.isl rfl) | apply k_makeFunc) rfl ?_))
          refine WS_loop0 ?_
          repeat (first | refine WS_seq ?_ | refine WS_region ?_ | refine WL_nil ?_ | refine WS_exit rfl ?_ | refine WS_false rfl ?_ | (refine WL_r (by refine Run_pev rfl) rfl ?_))
          try refine WL_gyes rfl rfl rfl ?_
          refine WL_s (S_call (clen_nil) rfl rfl ?_)
          rintro v w6 ⟨rfl, rfl⟩
          repeat (first | refine WL_gyes rfl rfl rfl ?_ | (refine WL_r (by first | refine (k_neq (q := .i64) rfl rfl).is (bF (fun h => h rfl)) | refine Run_pev rfl | refine k_len rfl (Ty.isl rfl)) rfl ?_))
          try refine WL_gyes rfl rfl rfl ?_
          refine WL_s (S_call (csize_nil) rfl rfl ?_)
          rintro v w6 ⟨rfl, rfl⟩
          repeat (first | refine WL_gyes rfl rfl rfl ?_ | (refine WL_r (by first | refine (k_neq (q := .i64) rfl rfl).is (bF (fun h => h rfl)) | refine Run_pev rfl | refine k_len rfl (Ty.isl rfl)) rfl ?_))
          try refine WL_gyes rfl rfl rfl ?_
          refine WL_s (S_call (csize_nil) rfl rfl ?_)
          rintro v w6 ⟨rfl, rfl⟩
          repeat (first | refine WS_region ?_ | refine WL_nil ?_ | refine WS_inBlock ?_ | refine WS_skip ?_ | refine WS_false rfl ?_ | refine WL_gyes rfl rfl rfl ?_ | (refine WL_r (by first | refine (k_neq (q := .i64) rfl rfl).is (bF (fun h => h rfl)) | refine Run_pev rfl | refine k_add64 rfl rfl (by omega) | apply k_makeFunc) rfl ?_))
          refine IH (i + 1) _ _ ?_ ?_ ?_ ?_
          · omega
          · exact ⟨rfl, trivial⟩
          · exact (by repeat (first | with_reducible apply Agr.refl | refine Agr.upd rfl ?_ | refine Agr.updL rfl ?_ | refine Agr.mrg rfl ?_))
          · exact ⟨by omega, hH⟩
      · exact absurd h1 hbad
      · rw [List.length_map] at hbad; exact absurd h1 hbad
    have hgd : 1 ≤ L.length ∧ L.length ≤ 64 := Decidable.not_not.1 hbad
    obtain ⟨hgd1, hgd2⟩ := hgd
    obtain ⟨qp, ve, hv2, hE3, hdo⟩ : ∃ (qp : Option Addr) (ve : Nat), v = .tuple #[.pointer qp, .int .i64 (ve : Nat)] ∧ Ext [] u1 w3 ∧
        ((okl L = false ∧ qp = none ∧ ve = 2) ∨ (okl L = true ∧ ∃ sz : List Nat, L = sz.map (fun (n : Nat) => (n : Int)) ∧ sz.length = L.length ∧ ((codeOf sz = none ∧ qp = none ∧ ve = 8) ∨ ∃ p D, D.sz = sz ∧ D.ok ∧ qp = some ⟨p, 0, none⟩ ∧ ve = 0 ∧ New (RC p D) u1 w3))) := by
      rcases hCN with ⟨h1, _⟩ | ⟨_, ⟨x, hx, h1⟩, hv, hE⟩ | ⟨sz, hsz, _, hszk, h2⟩
      · exact absurd ⟨hgd1, hgd2⟩ h1
      · refine ⟨none, 2, hv, hE, .inl ⟨?_, rfl, rfl⟩⟩
        rw [Bool.eq_false_iff]
        intro h3
        exact h1 (of_decide_eq_true (List.all_eq_true.1 h3 x hx))
      · have h3 : okl L = true := List.all_eq_true.2 (fun x hx => by
          rw [hsz] at hx
          obtain ⟨n, hn, rfl⟩ := List.mem_map.1 hx
          have := hszk n hn
          exact decide_eq_true (by omega))
        rcases h2 with ⟨hno, hv, hE⟩ | ⟨p, D, hD, hok, hv, hN⟩
        · exact ⟨none, 8, hv, hE, .inr ⟨h3, sz, hsz, by rw [hsz, List.length_map], .inl ⟨hno, rfl, rfl⟩⟩⟩
        · exact ⟨some ⟨p, 0, none⟩, 0, hv, hN.ext, .inr ⟨h3, sz, hsz, by rw [hsz, List.length_map], .inr ⟨p, D, hD, hok, rfl, rfl, hN⟩⟩⟩
    clear hCN hbad
    subst hv2
    replace hSL := hSL.ext0 hE3
    replace hH := hH.ext0 hE3
    repeat (first | refine WS_seq ?_ | refine WS_region ?_ | refine WL_nil ?_ | refine WS_block ?_ | refine WS_no rfl (by omega) ?_ | refine WL_gyes rfl rfl (dF (by omega)) ?_ | (refine WL_r (by first | refine Run_pev rfl | refine k_len rfl (Ty.isl rfl) | refine k_extract rfl rfl | refine k_pick_f (dF (by omega)) rfl) rfl ?_))
    refine WS_loop (G := (Nat)) (fun j => L.length - j) 295003789991276990464 (fun j => [(12, .int .i64 (wnt (okl (L.take j)) : Nat)), (57, .int .i64 j)]) (fun j w' => j ≤ L.length ∧ Ext [] w3 w') (0) ⟨rfl, rfl, trivial⟩ ⟨by omega, .refl⟩ ?_
    rintro j u2 σ ⟨hj, hW⟩ IH
    show WS _ _ _ _ _ (updL [(12, .int .i64 (wnt (okl (L.take j)) : Nat)), (57, .int .i64 j)] _) _
    by_cases hjl : j < L.length
    · have hv : (L.map (Value.int .i64))[j]? = some (.int .i64 L[j]) := by simp [hjl]
      have hS5 := hSL.ext0 hW
      have htk : okl (L.take (j + 1)) = (okl (L.take j) && decide (1 ≤ L[j] ∧ L[j] ≤ 32)) := by rw [List.take_succ_eq_append_getElem hjl, okl_snoc]
      generalize L[j] = x at *
      by_cases h1 : x < 1
      · rw [decide_eq_false (by omega), Bool.and_false] at htk
        repeat (first | refine WS_seq ?_ | refine WS_region ?_ | refine WL_nil ?_ | refine WS_block ?_ | refine WS_inBlock ?_ | refine WS_skip ?_ | refine WS_true rfl ?_ | refine WS_yes rfl (by omega) ?_ | refine WL_gno (b := true) rfl rfl (dT (by omega)) rfl rfl ?_ | (refine WL_r (by first | refine k_ix1 rfl rfl hS5 hll (Ty.sle rfl) (by omega) | refine k_loads rfl hS5 hv (Ty.shp rfl) | refine Run_pev rfl | refine k_add64 rfl rfl (by omega) | refine k_pick_t (dT (by omega)) rfl) rfl ?_))
        refine IH (j + 1) _ _ ?_ ?_ ?_ ?_
        · omega
        · exact ⟨congrArg (fun b => Value.int .i64 ((wnt b : Nat) : Int)) htk.symm, rfl, trivial⟩
        · exact (by repeat (first | with_reducible apply Agr.refl | refine Agr.upd rfl ?_ | refine Agr.updL rfl ?_ | refine Agr.mrg rfl ?_))
        · exact ⟨by omega, hW⟩
      by_cases h2 : 32 < x
      · rw [decide_eq_false (by omega), Bool.and_false] at htk
        repeat (first | refine WS_seq ?_ | refine WS_region ?_ | refine WL_nil ?_ | refine WS_block ?_ | refine WS_inBlock ?_ | refine WS_skip ?_ | refine WS_yes rfl (by omega) ?_ | refine WL_gyes rfl rfl (dF (by omega)) ?_ | (refine WL_r (by first | refine k_ix1 rfl rfl hS5 hll (Ty.sle rfl) (by omega) | refine k_loads rfl hS5 hv (Ty.shp rfl) | refine Run_pev rfl | refine k_add64 rfl rfl (by omega) | refine k_pick_f (dF (by omega)) rfl) rfl ?_))
        refine IH (j + 1) _ _ ?_ ?_ ?_ ?_
        · omega
        · exact ⟨congrArg (fun b => Value.int .i64 ((wnt b : Nat) : Int)) htk.symm, rfl, trivial⟩
        · exact (by repeat (first | with_reducible apply Agr.refl | refine Agr.upd rfl ?_ | refine Agr.updL rfl ?_ | refine Agr.mrg rfl ?_))
        · exact ⟨by omega, hW⟩
      · rw [decide_eq_true (by omega), Bool.and_true] at htk
        repeat (first | refine WS_seq ?_ | refine WS_region ?_ | refine WL_nil ?_ | refine WS_block ?_ | refine WS_inBlock ?_ | refine WS_skip ?_ | refine WS_yes rfl (by omega) ?_ | refine WS_no rfl (by omega) ?_ | refine WL_gyes rfl rfl (dF (by omega)) ?_ | (refine WL_r (by first | refine k_ix1 rfl rfl hS5 hll (Ty.sle rfl) (by omega) | refine k_loads rfl hS5 hv (Ty.shp rfl) | refine Run_pev rfl | refine k_add64 rfl rfl (by omega) | refine k_pick_f (dF (by omega)) rfl) rfl ?_))
        refine IH (j + 1) _ _ ?_ ?_ ?_ ?_
        · omega
        · exact ⟨congrArg (fun b => Value.int .i64 ((wnt b : Nat) : Int)) htk.symm, rfl, trivial⟩
        · exact (by repeat (first | with_reducible apply Agr.refl | refine Agr.upd rfl ?_ | refine Agr.updL rfl ?_ | refine Agr.mrg rfl ?_))
        · exact ⟨by omega, hW⟩
    obtain rfl : j = L.length := by omega
    clear IH
    rw [List.take_length]
    replace hH := hH.ext0 hW
    replace hSL := hSL.ext0 hW
    rcases hdo with ⟨hno, rfl, rfl⟩ | ⟨hyes, sz, hsz, hszl, ⟨hno, rfl, rfl⟩ | ⟨p, D, rfl, hok, rfl, rfl, hN⟩⟩
    · rw [hno]
      repeat (first | refine WS_seq ?_ | refine WS_region ?_ | refine WL_nil ?_ | refine WS_inBlock ?_ | refine WS_skip ?_ | refine WS_exit rfl ?_ | refine WS_false rfl ?_ | refine WS_no rfl (by omega) ?_ | refine WL_gyes rfl rfl rfl ?_ | (refine WL_r (by refine Run_pev rfl) rfl ?_))
      repeat (first | refine WS_seq ?_ | refine WS_region ?_ | refine WL_nil ?_ | refine WS_block ?_ | refine WS_skip ?_ | refine WS_false rfl ?_ | refine WL_gyes rfl rfl rfl ?_ | (refine WL_r (by first | refine k_pnnil rfl rfl (.inl rfl) ptrC | refine k_neqbF rfl rfl (by kernel_rfl) rfl | refine Run_pev rfl | refine k_len rfl (Ty.isl rfl) | apply k_makeFunc) rfl ?_))
      refine WS_loop0 ?_
      repeat (first | refine WS_seq ?_ | refine WS_region ?_ | refine WL_nil ?_ | refine WS_exit rfl ?_ | refine WS_false rfl ?_ | (refine WL_r (by refine Run_pev rfl) rfl ?_))
      try refine WL_gyes rfl rfl rfl ?_
      refine WL_s (S_call (clen_nil) rfl rfl ?_)
      rintro v w6 ⟨rfl, rfl⟩
      repeat (first | refine WL_gyes rfl rfl rfl ?_ | (refine WL_r (by first | refine (k_neq (q := .i64) rfl rfl).is (bF (fun h => h rfl)) | refine Run_pev rfl | refine k_len rfl (Ty.isl rfl)) rfl ?_))
      try refine WL_gyes rfl rfl rfl ?_
      refine WL_s (S_call (csize_nil) rfl rfl ?_)
      rintro v w6 ⟨rfl, rfl⟩
      repeat (first | refine WL_gyes rfl rfl rfl ?_ | (refine WL_r (by first | refine (k_neq (q := .i64) rfl rfl).is (bF (fun h => h rfl)) | refine Run_pev rfl | refine k_len rfl (Ty.isl rfl)) rfl ?_))
      try refine WL_gyes rfl rfl rfl ?_
      refine WL_s (S_call (csize_nil) rfl rfl ?_)
      rintro v w6 ⟨rfl, rfl⟩
      repeat (first | refine WS_region ?_ | refine WL_nil ?_ | refine WS_inBlock ?_ | refine WS_skip ?_ | refine WS_false rfl ?_ | refine WL_gyes rfl rfl rfl ?_ | (refine WL_r (by first | refine (k_neq (q := .i64) rfl rfl).is (bF (fun h => h rfl)) | refine Run_pev rfl | refine k_add64 rfl rfl (by omega) | apply k_makeFunc) rfl ?_))
      refine IH (i + 1) _ _ ?_ ?_ ?_ ?_
      · omega
      · exact ⟨rfl, trivial⟩
      · exact (by repeat (first | with_reducible apply Agr.refl | refine Agr.upd rfl ?_ | refine Agr.updL rfl ?_ | refine Agr.mrg rfl ?_))
      · exact ⟨by omega, hH⟩
    · rw [hyes]
      have hnv : L.map (Value.int .i64) = nv sz := by rw [hsz, List.map_map]; rfl
      rw [hnv] at hSL
      repeat (first | refine WS_seq ?_ | refine WS_region ?_ | refine WL_nil ?_ | refine WS_inBlock ?_ | refine WS_exit rfl ?_ | refine WS_true rfl ?_ | refine WS_no rfl (by omega) ?_ | (refine WL_r (by refine Run_pev rfl) rfl ?_))
      try refine WL_gyes rfl rfl rfl ?_
      refine WL_s (S_call (rwords_spec hSL hszl (by omega)) rfl rfl ?_)
      rintro v w4 (⟨_, rfl, hE⟩ | ⟨A, X, b, hco, _⟩)
      · replace hH := hH.ext0 hE
        repeat (first | refine WS_seq ?_ | refine WS_region ?_ | refine WL_nil ?_ | refine WS_true rfl ?_ | refine WL_gyes rfl rfl rfl ?_ | (refine WL_r (by first | refine k_slnil rfl rfl (.inl rfl) (Ty.sle rfl) | refine Run_pev rfl) rfl ?_))
        repeat (first | refine WS_seq ?_ | refine WS_region ?_ | refine WL_nil ?_ | refine WS_block ?_ | refine WS_skip ?_ | refine WS_false rfl ?_ | refine WL_gyes rfl rfl rfl ?_ | (refine WL_r (by first | refine k_pnnil rfl rfl (.inl rfl) ptrC | refine k_neqbF rfl rfl (by kernel_rfl) rfl | refine Run_pev rfl | refine k_len rfl (Ty.isl rfl) | apply k_makeFunc) rfl ?_))
        refine WS_loop0 ?_
        repeat (first | refine WS_seq ?_ | refine WS_region ?_ | refine WL_nil ?_ | refine WS_exit rfl ?_ | refine WS_false rfl ?_ | (refine WL_r (by refine Run_pev rfl) rfl ?_))
        try refine WL_gyes rfl rfl rfl ?_
        refine WL_s (S_call (clen_nil) rfl rfl ?_)
        rintro v w6 ⟨rfl, rfl⟩
        repeat (first | refine WL_gyes rfl rfl rfl ?_ | (refine WL_r (by first | refine (k_neq (q := .i64) rfl rfl).is (bF (fun h => h rfl)) | refine Run_pev rfl | refine k_len rfl (Ty.isl rfl)) rfl ?_))
        try refine WL_gyes rfl rfl rfl ?_
        refine WL_s (S_call (csize_nil) rfl rfl ?_)
        rintro v w6 ⟨rfl, rfl⟩
        repeat (first | refine WL_gyes rfl rfl rfl ?_ | (refine WL_r (by first | refine (k_neq (q := .i64) rfl rfl).is (bF (fun h => h rfl)) | refine Run_pev rfl | refine k_len rfl (Ty.isl rfl)) rfl ?_))
        try refine WL_gyes rfl rfl rfl ?_
        refine WL_s (S_call (csize_nil) rfl rfl ?_)
        rintro v w6 ⟨rfl, rfl⟩
        repeat (first | refine WS_region ?_ | refine WL_nil ?_ | refine WS_inBlock ?_ | refine WS_skip ?_ | refine WS_false rfl ?_ | refine WL_gyes rfl rfl rfl ?_ | (refine WL_r (by first | refine (k_neq (q := .i64) rfl rfl).is (bF (fun h => h rfl)) | refine Run_pev rfl | refine k_add64 rfl rfl (by omega) | apply k_makeFunc) rfl ?_))
        refine IH (i + 1) _ _ ?_ ?_ ?_ ?_
        · omega
        · exact ⟨rfl, trivial⟩
        · exact (by repeat (first | with_reducible apply Agr.refl | refine Agr.upd rfl ?_ | refine Agr.updL rfl ?_ | refine Agr.mrg rfl ?_))
        · exact ⟨by omega, hH⟩
      · rw [hno] at hco; cases hco
    · rw [hyes]
      have hnv : L.map (Value.int .i64) = nv D.sz := by rw [hsz, List.map_map]; rfl
      rw [hnv] at hSL
      have hD := hok.1
      have hRC := (RC p D).keep hN.holds hW (by simp)
      clear hN
      repeat (first | refine WS_seq ?_ | refine WS_region ?_ | refine WL_nil ?_ | refine WS_inBlock ?_ | refine WS_exit rfl ?_ | refine WS_true rfl ?_ | refine WS_no rfl (by omega) ?_ | (refine WL_r (by refine Run_pev rfl) rfl ?_))
      try refine WL_gyes rfl rfl rfl ?_
      refine WL_s (S_call (rwords_spec hSL hszl (by omega)) rfl rfl ?_)
      rintro v w4 (⟨hno, _⟩ | ⟨A, X, b, hco, hXl, hX, rfl, hQ⟩)
      · obtain ⟨A, _, _, hco, _⟩ := hD.it
        rw [hno] at hco; cases hco
      replace hX : ∀ {i : Nat} (hi : i < D.sz.length), ∃ x, X[i]? = some x ∧ x.2.2 = cw D.sz D.ws i := fun {i} hi => by
        obtain ⟨A', wd, hc', _, hm⟩ := hD.ent hi
        obtain rfl := Option.some.inj (hc'.symm.trans hco)
        exact hX _ hm
      replace hRC := (RC p D).keep hRC hQ.ext (by simp)
      replace hH := Hp.cats hH hQ
      clear hQ
      change Hp _ _ _ [_, _, _, _] at hH
      have hrl := rws_len X
      rw [hszl] at hH ⊢
      repeat (first | refine WS_seq ?_ | refine WS_region ?_ | refine WL_nil ?_ | refine WS_block ?_ | refine WS_skip ?_ | refine WS_false rfl ?_ | refine WL_gyes rfl rfl rfl ?_ | (refine WL_r (by first | refine k_slnil rfl rfl (.inr rfl) (Ty.sle rfl) | refine k_pnnil rfl rfl (.inr rfl) ptrC | refine k_neqbF rfl rfl (by kernel_rfl) rfl | refine (k_neq (q := .i64) rfl rfl).is (bF (fun h => h rfl)) | refine Run_pev rfl | refine k_len rfl (Ty.isl rfl) | apply k_makeFunc) rfl ?_))
      refine WS_loop (G := (Nat)) (fun j => L.length - j) 83076710122475984924319144495742992 (fun j => [(95, .int .i64 j)]) (fun j w' => j ≤ L.length ∧ Ext [] w4 w') (0) ⟨rfl, trivial⟩ ⟨by omega, .refl⟩ ?_
      rintro j u3 σ ⟨hj, hW⟩ IH
      show WS _ _ _ _ _ (updL [(95, .int .i64 j)] _) _
      by_cases hjl : j < L.length
      · have hjz : j < D.sz.length := by omega
        obtain ⟨x, hx, hxw⟩ := hX hjz
        have hO : SlA u3 (some ⟨b, 0, none⟩) (rws X) := ((hH.o 2 rfl).sl).ext0 hW
        have hxs : SlA u3 x.1 (bq x.2.2) := SlA.ext0 ((hH.at 3 rfl : ∀ y ∈ X, _) x (List.mem_of_getElem? hx)) hW
        have hxr : (rws X)[j]? = some (.slice x.1 (cw D.sz D.ws j).length x.2.1) := by
          rw [rws_at X (by omega)]
          rw [List.getElem?_eq_getElem (by omega)] at hx
          rw [Option.some.inj hx]
          unfold rwv
          rw [hxw]
        rw [hxw] at hxs
        have hR3 := (RC p D).keep hRC hW (by simp)
        have hby := bits_byt (cw D.sz D.ws j)
        have hcl : (cw D.sz D.ws j).length = D.sz.getD j 0 := cw_len
        have hml : ((cw D.sz D.ws j).map Bool.toNat).length = (cw D.sz D.ws j).length := by simp
        repeat (first | refine WS_seq ?_ | refine WS_region ?_ | refine WL_nil ?_ | refine WS_block ?_ | refine WS_skip ?_ | refine WS_yes rfl (by omega) ?_ | (refine WL_r (by first | refine k_ix1 rfl rfl hO (by omega) (Ty.sle rfl) (by omega) | refine k_loads rfl hO hxr (Ty.shp rfl) | refine Run_pev rfl | apply k_makeFunc) rfl ?_))
        refine WS_specK [Is (pt p), Is (.int .i64 j), Is (.int .i64 (D.sz.getD j 0 : Nat)), Is (.slice x.1 (cw D.sz D.ws j).length x.2.1), Is (.int .i64 (cw D.sz D.ws j).length), Is (.bool false), Is (.bool false), Is (pt p), Is (.int .i64 j), IsSl ((cw D.sz D.ws j).map Bool.toNat), Is (.string (strOf ((cw D.sz D.ws j).map Bool.toNat))), Is (.slice x.1 (cw D.sz D.ws j).length x.2.1), Is (.string (strOf ((cw D.sz D.ws j).map Bool.toNat))), Is (.bool false), Is (.bool false)] Ty.mixed [(41530768964677251651834990414528512, [], true), (41529501314077023422433493711323136, [], true), (41410342157655569858692803610017792, [(0, 100), (1, 101)], true), (41506683603272915293206553053626368, [], true), (41476259988867437787570632176697344, [(3, 103)], true), (41415412760056482776298790422839296, [(2, 102), (4, 104)], true), (79861987814378452294292301938688, [(5, 105)], true), (40725810833532325981884583879114752, [], true), (40563551556703112618493005868826624, [], true), (39589995895727832438143537807097856, [(7, 107), (8, 108)], true), (29854439285975030634648857189810176, [(9, 109)], true), (33748661929876151356046729436725248, [], true), (25960216642073909913250984942895104, [(11, 111)], true), (10383326066469427027659495955234816, [(10, 110), (12, 112)], true), (20767919783539082284720488613675008, [(6, 106), (13, 113)], true)] 41537107217678392798842473930555392 [(14, 114)] (by kernel_rfl) (by kernel_rfl) (by kernel_rfl) (by kernel_rfl) (by kernel_rfl) ⟨Is.st, Is.st, Is.st, Is.st, Is.st, Is.st, Is.st, Is.st, Is.st, IsSl.st, Is.st, Is.st, Is.st, Is.st, Is.st, trivial⟩ ⟨⟨GOk.none, ?_⟩, ⟨GOk.none, ?_⟩, ⟨GOk.none, ?_⟩, ⟨GOk.none, ?_⟩, ⟨GOk.none, ?_⟩, ⟨GOk.none, ?_⟩, ⟨GOk.none, ?_⟩, ⟨GOk.of (fun _ _ h => h), ?_⟩, ⟨GOk.of (fun _ _ h => h), ?_⟩, ⟨GOk.of (fun _ _ h => h), ?_⟩, ⟨GOk.of (fun _ _ h => h), ?_⟩, ⟨GOk.of (fun _ _ h => h), ?_⟩, ⟨GOk.of (fun _ _ h => h), ?_⟩, ⟨GOk.of (fun _ _ h => h), ?_⟩, ⟨GOk.none, ?_⟩, trivial⟩ ?_
        · intro w'' hE''
          intro σ''
          exact sp_is (by refine Run_pev rfl) rfl
        · intro w'' hE''
          intro σ''
          exact sp_is (by refine Run_pev rfl) rfl
        · intro w'' hE''
          rintro _ rfl
          rintro _ rfl
          intro σ''
          refine S_call (csize_in ((RC p D).keep hR3 hE'' (by simp)) hjz) rfl rfl ?_
          rintro v w3'' ⟨rfl, rfl⟩
          exact ⟨.refl, _, rfl, rfl⟩
        · intro w'' hE''
          intro σ''
          exact sp_is (by refine Run_pev rfl) rfl
        · intro w'' hE''
          rintro _ rfl
          intro σ''
          exact sp_is (by refine k_len rfl (Ty.isl rfl)) rfl
        · intro w'' hE''
          rintro _ rfl
          rintro _ rfl
          intro σ''
          exact sp_is (by refine (k_neq (q := .i64) rfl rfl).is (bF (fun h => h (by rw [hcl])))) rfl
        · intro w'' hE''
          rintro _ rfl
          intro σ''
          exact sp_is (by refine Run_pev rfl) rfl
        · intro w'' hE''
          intro σ''
          exact sp_is (by refine Run_pev rfl) rfl
        · intro w'' hE''
          intro σ''
          exact sp_is (by refine Run_pev rfl) rfl
        · intro w'' hE''
          rintro _ rfl
          rintro _ rfl
          intro σ''
          refine S_call (written04 hok hjz ((RC p D).keep hR3 hE'' (by simp))) rfl rfl ?_
          rintro v w3'' ⟨a', c', _, rfl, hN⟩
          exact ⟨hN.ext, _, rfl, a', c', congrArg (fun n => Value.slice a' n c') hml.symm, hN.holds⟩
        · intro w'' hE''
          rintro _ ⟨a9, c9, rfl, hS9⟩
          intro σ''
          exact sp_is (by refine k_str rfl hS9 (Ty.sle rfl) (Ty.knd rfl) (Ty.iss rfl)) rfl
        · intro w'' hE''
          intro σ''
          exact sp_is (by refine Run_pev rfl) rfl
        · intro w'' hE''
          rintro _ rfl
          intro σ''
          exact sp_is (by refine k_strN (l := (cw D.sz D.ws j).map Bool.toNat) rfl hml (hxs.ext0 hE'') (Ty.sle rfl) (Ty.knd rfl) (Ty.iss rfl)) rfl
        · intro w'' hE''
          rintro _ rfl
          rintro _ rfl
          intro σ''
          exact sp_is (by refine (k_neqs rfl rfl hby hby).is (bF (by simp))) rfl
        · intro w'' hE''
          rintro _ rfl
          rintro _ rfl
          intro σ''
          exact sp_is (by refine Run_pev rfl) rfl
        intro w'' hE''
        rintro _ rfl
        intro σ''
        repeat (first | refine WS_region ?_ | refine WL_nil ?_ | refine WS_inBlock ?_ | refine WS_skip ?_ | refine WS_false rfl ?_ | (refine WL_r (by first | refine Run_pev rfl | refine k_add64 rfl rfl (by omega) | apply k_makeFunc) rfl ?_))
        refine IH (j + 1) _ _ ?_ ?_ ?_ ?_
        · omega
        · exact ⟨rfl, trivial⟩
        · exact (by repeat (first | with_reducible apply Agr.refl | refine Agr.upd rfl ?_ | refine Agr.updL rfl ?_ | refine Agr.mrg rfl ?_))
        · exact ⟨by omega, hW.then0 hE''⟩
      obtain rfl : j = L.length := by omega
      clear IH
      replace hRC := (RC p D).keep hRC hW (by simp)
      replace hH := (hH.take 2).ext0 hW
      change Hp _ _ _ [_, _] at hH
      repeat (first | refine WS_seq ?_ | refine WS_region ?_ | refine WL_nil ?_ | refine WS_exit rfl ?_ | refine WS_no rfl (by omega) ?_ | (refine WL_r (by refine Run_pev rfl) rfl ?_))
      try refine WL_gyes rfl rfl rfl ?_
      refine WL_s (S_call (clen_spec hRC) rfl rfl ?_)
      rintro v w6 ⟨rfl, rfl⟩
      repeat (first | refine WL_gyes rfl rfl rfl ?_ | (refine WL_r (by first | refine (k_neq (q := .i64) rfl rfl).is (bF (by omega)) | refine Run_pev rfl | refine k_len rfl (Ty.isl rfl)) rfl ?_))
      try refine WL_gyes rfl rfl rfl ?_
      refine WL_s (S_call (csize_out (n := -1) hRC (by omega)) rfl rfl ?_)
      rintro v w6 ⟨rfl, rfl⟩
      repeat (first | refine WL_gyes rfl rfl rfl ?_ | (refine WL_r (by first | refine (k_neq (q := .i64) rfl rfl).is (bF (by omega)) | refine Run_pev rfl | refine k_len rfl (Ty.isl rfl)) rfl ?_))
      try refine WL_gyes rfl rfl rfl ?_
      refine WL_s (S_call (csize_out (n := (L.length : Int)) hRC (by omega)) rfl rfl ?_)
      rintro v w6 ⟨rfl, rfl⟩
      repeat (first | refine WS_region ?_ | refine WL_nil ?_ | refine WS_inBlock ?_ | refine WS_skip ?_ | refine WS_false rfl ?_ | refine WL_gyes rfl rfl rfl ?_ | (refine WL_r (by first | refine (k_neq (q := .i64) rfl rfl).is (bF (by omega)) | refine Run_pev rfl | refine k_add64 rfl rfl (by omega) | apply k_makeFunc) rfl ?_))
      refine IH (i + 1) _ _ ?_ ?_ ?_ ?_
      · omega
      · exact ⟨rfl, trivial⟩
      · exact (by repeat (first | with_reducible apply Agr.refl | refine Agr.upd rfl ?_ | refine Agr.updL rfl ?_ | refine Agr.mrg rfl ?_))
      · exact ⟨by omega, hH⟩
  clear IH
  repeat (first | refine WS_seq ?_ | refine WS_region ?_ | refine WL_nil ?_ | refine WS_exit rfl ?_ | refine WS_no rfl (by omega) ?_ | (refine WL_r (by first | refine Run_pev rfl | apply k_makeFunc) rfl ?_))
  exact WS_ret1 Try.func4 rfl ⟨rfl, hH.ext⟩
theorem own_codeWords : ownKnob Try.prog.godebug = none := by kernel_rfl
theorem laid_codeWords : laidOutB Try.prog = true := by kernel_rfl
set_option maxRecDepth 100000 in
theorem codeWords_lifted (os : Os) (started : os.Started) (H : Type) (enc : TypeId × Value → H) :
    ReturnsInHanded {} Try.checked os 4 .any (Rows.codeWordsSpec.pre6 enc Try.prog Try.f4 Rows.codeWordsRow.domain false) (Rows.codeWordsSpec.post enc Try.prog Try.f4 false true false false) := by
  refine returnsInHanded_of_change (C := Try.checked) own_codeWords started (by kernel_rfl) Try.func4
    (ChangeSpec.witness6 (enc := enc) (C := Try.checked) false ⟨#[], #[.slice none 0 0, .slice none 0 0], []⟩ 8 (by kernel_rfl) (by kernel_rfl) (by kernel_rfl) (by kernel_rfl)) ?_
  intro W base args ds gs before hval0 hW _ _
  have hval : ∀ (j : Nat) t v, Try.f4.params[j]? = some t → args[j]? = some v → Value.okWide Try.prog W .any base t v := hval0
  have hW' := hW
  obtain ⟨p, q, hA0, hV, rfl, hfz, hnd⟩ := hW
  have hA : DataW.TrodAll enc Try.prog W 0 (fun _ => true) true Try.f4.params.toList args.toList ds p := hA0
  rw [Try.params4] at hA hval
  obtain ⟨v0, r0, d0, e0, p0, q0, ha0, rfl, rfl, h0, hA⟩ := trodAll_cons hA
  obtain ⟨v1, r1, d1, e1, p1, q1, ha1, rfl, rfl, h1, hA⟩ := trodAll_cons hA
  obtain ⟨hnil, rfl, rfl⟩ := trodAll_nil hA
  obtain rfl : args = #[v0, v1] := by cases args; simp_all
  have hv0 := hval 0 _ v0 rfl rfl
  have hv1 := hval 1 _ v1 rfl rfl
  clear hA0 hval0 ha0 ha1 hnil
  obtain ⟨a, n, cap, l, rfl, hn, hS, _, hlen⟩ := rd_ints (Ty.sle rfl) (Ty.knd rfl) hv0 h0
  obtain ⟨a1, n1, cap1, sm, rfl, hn1, hS2, hsb, hlen1⟩ := rd_bytes (Ty.sle rfl) (Ty.knd rfl) hv1 h1
  refine ((cwords_spec hS hn hlen hS2 hsb hn1 hlen1).enter Try.func4 rfl rfl).mono ?_
  rintro e W' ⟨v, rfl, rfl, hE⟩
  exact ⟨_, rfl, law_post laid_codeWords (by kernel_rfl) hW' rfl rfl (by kernel_rfl) ⟨rfl, rfl, rfl⟩ hE⟩
theorem codeWords_holds : Rows.CodeWordsSaid :=
  OpenClaim.holds_of_wide 4 Try.f4 rfl rfl rfl rfl rfl rfl rfl ⟨rfl, rfl, rfl, rfl, rfl⟩ rfl rfl rfl rfl rfl (by kernel_rfl) Try.func4 (by kernel_rfl)
    (of_decide_eq_true (by kernel_rfl)) (by unfold Func.isWrapper; (rw [if_neg (by decide +kernel)]; exact ⟨rfl, rfl⟩))
    (fun os started H enc _ => codeWords_lifted os started H enc)
#print axioms codeWords_holds
end Go.Proofs.Ytccnhnijglnbmaa
