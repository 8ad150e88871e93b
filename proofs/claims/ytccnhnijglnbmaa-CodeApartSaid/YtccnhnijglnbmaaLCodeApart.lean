/- The law CodeApart: no word of a code is another one's beginning; shorter ones come first; no condition. -/
import Derived.Test.YtccnhnijglnbmaaSh
import Derived.Test.YtccnhnijglnbmaaLaw04
import Derived.Test.YtccnhnijglnbmaaK8
import Derived.Test.YtccnhnijglnbmaaRows
namespace Go.Proofs.Ytccnhnijglnbmaa
open Go Go.K Go.P Go.RowKit Go.Proofs Go.ChangeShapes Go.WideShapes Go.ChangeAt
/-- Sizes from 1 to 8. -/
def nr (l : List Nat) : List Int := l.map fun n => 1 + ((n % 8 : Nat) : Int)
theorem nr_snoc (l : List Nat) (n : Nat) : nr (l ++ [n]) = nr l ++ [1 + ((n % 8 : Nat) : Int)] := by simp [nr]
theorem joinC {A : Prop} {Y : Fr → Nat → CD → World → Prop} (Z : Nat → CD → World → Prop) (h1 : (∀ σ p D u, Z p D u → Y σ p D u) → A) (h2 : ∀ σ p D u, Z p D u → Y σ p D u) : A := h1 h2
theorem less_bits {A C p r r' : List Bool} (h1 : A = p ++ false :: r) (h2 : C = p ++ true :: r') : Op.bytesLess ((A.map Bool.toNat).map UInt8.ofNat) ((C.map Bool.toNat).map UInt8.ofNat) = true := by
  subst h1 h2
  simp only [List.map_append, List.map_cons]
  exact less_at _ _ _ (by decide)
set_option maxRecDepth 20000 in
set_option maxHeartbeats 8000000 in
theorem capart_spec {k n1 cap1 : Nat} {a1 : Option Addr} {sm : List Nat} {w : World} (hS2 : SlA w a1 (sm.map B)) (hsb : Byt sm) (hn1 : sm.length = n1) (hlen1 : n1 ≤ 9223372036854775807) :
    Does Try.prog 5 #[.slice a1 n1 cap1, .int .u8 k] w fun v w' => v = .bool true ∧ Ext [] w w' := by
  subst hn1
  refine Does_of (args := [_, _]) Try.func5 rfl rfl Try.ntmps5 rfl ?_
  repeat (first | refine WS_seq ?_ | refine WS_region ?_ | refine WL_nil ?_ | (refine WL_r (by refine Run_pev rfl) rfl ?_))
  try refine WL_gyes rfl rfl rfl ?_
  refine WL_s (S_call (awake04 w) rfl rfl ?_)
  rintro v w1 ⟨rfl, hW1⟩
  have hH := (Hp.start w).ext0 hW1
  clear hW1
  by_cases h40 : 40 < sm.length
  · repeat (first | refine WS_seq ?_ | refine WS_region ?_ | refine WL_nil ?_ | refine WS_skip ?_ | refine WS_false rfl ?_ | refine WS_yes rfl (by omega) ?_ | (refine WL_r (by first | refine Run_pev rfl | refine k_len rfl (Ty.isl rfl) | apply k_makeFunc) rfl ?_))
    exact WS_ret1 Try.func5 rfl ⟨rfl, hH.ext⟩
  replace hH := hH.nu (New.nilO (e := 3) (sz := 1))
  change Hp _ _ _ [_] at hH
  have hsl : (sm.map B).length = sm.length := by simp
  repeat (first | refine WS_seq ?_ | refine WS_region ?_ | refine WL_nil ?_ | refine WS_block ?_ | refine WS_skip ?_ | refine WS_false rfl ?_ | refine WS_no rfl (by omega) ?_ | (refine WL_r (by first | refine Run_pev rfl | refine k_len rfl (Ty.isl rfl) | apply k_makeFunc) rfl ?_))
  refine WS_loop (G := (Nat) × (Option Addr) × (Nat)) (fun | (i, an, cn) => sm.length - i) 8587837600 (fun | (i, an, cn) => [(5, .slice an i cn), (21, .int .i64 i)]) (fun | (i, an, cn), w' => i ≤ sm.length ∧ Hp [] w w' [Ro 3 1 an i cn ((nr (sm.take i)).map (Value.int .i64))]) (0, none, 0) ⟨rfl, rfl, trivial⟩ ⟨by omega, hH⟩ ?_
  rintro ⟨i, an, cn⟩ u1 σ ⟨hi, hH⟩ IH
  show WS _ _ _ _ _ (updL [(5, .slice an i cn), (21, .int .i64 i)] _) _
  by_cases hlt : i < sm.length
  · have hv : (sm.map B)[i]? = some (B sm[i]) := by simp [hlt]
    have hS3 := hH.old hS2
    have htk : nr (sm.take (i + 1)) = nr (sm.take i) ++ [1 + ((sm[i] % 8 : Nat) : Int)] := by rw [List.take_succ_eq_append_getElem hlt, nr_snoc]
    have hn256 := hsb _ (List.getElem_mem hlt)
    generalize sm[i] = n at *
    repeat (first | refine WS_seq ?_ | refine WS_region ?_ | refine WL_nil ?_ | refine WS_block ?_ | refine WS_skip ?_ | refine WS_yes rfl (by omega) ?_ | (refine WL_r (by first | refine k_ix1 rfl rfl hS3 hsl (Ty.sle rfl) (by omega) | refine k_loads rfl hS3 hv (Ty.shp rfl) | refine k_remu (n := 8) rfl rfl (by decide) | refine Run_pev rfl | refine k_add64 rfl rfl (by omega) | refine k_convI rfl rfl rfl (by omega)) rfl ?_))
    try refine WL_gyes rfl rfl rfl ?_
    refine WL_s (H_lit (out := [.int .i64 (1 + ((n % 8 : Nat) : Int))]) hH (Ty.sle rfl) (Ty.zer rfl) rfl rfl rfl (by decide) rfl ?_)
    try clear hH
    intro _ blit hH
    change Hp _ _ _ [_, _] at hH
    try refine WL_gyes rfl rfl rfl ?_
    refine WL_s (H_append 0 hH rfl (Ty.sle rfl) (Ty.zer rfl) rfl (Ty.byt rfl) (by decide) rfl rfl ((hH.b 1 rfl).sl0) (by simp; try omega) (by simp) (by omega) (by simp only [maxLen]; omega) rfl ?_)
    try clear hH
    intro _ a4 c4 hH
    change Hp _ _ _ [_, _] at hH
    replace hH := hH.del 1
    change Hp _ _ _ [_] at hH
    repeat (first | refine WS_region ?_ | refine WL_nil ?_ | refine WS_inBlock ?_ | (refine WL_r (by first | refine Run_pev rfl | refine k_add64 rfl rfl (by omega) | apply k_makeFunc) rfl ?_))
    refine IH (i + 1, a4, c4) _ _ ?_ ?_ ?_ ?_
    · simp only; omega
    · exact ⟨rfl, rfl, trivial⟩
    · exact (by repeat (first | with_reducible apply Agr.refl | refine Agr.upd rfl ?_ | refine Agr.updL rfl ?_ | refine Agr.mrg rfl ?_))
    · exact ⟨by omega, by rw [htk, List.map_append]; exact hH⟩
  obtain rfl : i = sm.length := by omega
  clear IH
  rw [List.take_length] at hH
  have hnl : (nr sm).length = sm.length := by simp [nr]
  repeat (first | refine WS_seq ?_ | refine WS_region ?_ | refine WL_nil ?_ | refine WS_exit rfl ?_ | refine WS_no rfl (by omega) ?_ | (refine WL_r (by refine Run_pev rfl) rfl ?_))
  try refine WL_gyes rfl rfl rfl ?_
  refine WL_s (S_call (cnew_spec (l := nr sm) (hH.o 0 rfl).sl hnl (by omega)) rfl rfl ?_)
  rintro v w3 hCN
  apply joinC (Z := fun p D u => D.ok ∧ Hp [] w u [RC p D])
  · intro key
    have hCN2 := hCN
    rcases hCN2 with ⟨_, hv, hE⟩ | ⟨_, _, hv, hE⟩ | ⟨sz, hsz, _, _, ⟨_, hv, hE⟩ | ⟨p2, D2, _, hok2, hv, hN⟩⟩ <;> rw [hv]
    · repeat (first | refine WS_seq ?_ | refine WS_region ?_ | refine WL_nil ?_ | refine WS_true rfl ?_ | (refine WL_r (by first | refine Run_pev rfl | refine k_extract rfl rfl) rfl ?_))
      try refine WL_gyes rfl rfl rfl ?_
      refine WL_s (S_call (own_spec) rfl rfl ?_)
      rintro v w4 ⟨p, D, b, hok, rfl, hQ⟩
      repeat (first | refine WS_seq ?_ | refine WS_region ?_ | refine WL_nil ?_ | (refine WL_r (by first | refine Run_pev rfl | refine k_extract rfl rfl) rfl ?_))
      refine WL_keep [(8, pt p), (45, pt p)] ⟨rfl, rfl, trivial⟩ (fun σ => ?_)
      exact key σ p D _ ⟨hok, (((Hp.cats (hH.ext0 hE) hQ).del 2).del 0)⟩
    · repeat (first | refine WS_seq ?_ | refine WS_region ?_ | refine WL_nil ?_ | refine WS_true rfl ?_ | (refine WL_r (by first | refine Run_pev rfl | refine k_extract rfl rfl) rfl ?_))
      try refine WL_gyes rfl rfl rfl ?_
      refine WL_s (S_call (own_spec) rfl rfl ?_)
      rintro v w4 ⟨p, D, b, hok, rfl, hQ⟩
      repeat (first | refine WS_seq ?_ | refine WS_region ?_ | refine WL_nil ?_ | (refine WL_r (by first | refine Run_pev rfl | refine k_extract rfl rfl) rfl ?_))
      refine WL_keep [(8, pt p), (45, pt p)] ⟨rfl, rfl, trivial⟩ (fun σ => ?_)
      exact key σ p D _ ⟨hok, (((Hp.cats (hH.ext0 hE) hQ).del 2).del 0)⟩
    · repeat (first | refine WS_seq ?_ | refine WS_region ?_ | refine WL_nil ?_ | refine WS_true rfl ?_ | (refine WL_r (by first | refine Run_pev rfl | refine k_extract rfl rfl) rfl ?_))
      try refine WL_gyes rfl rfl rfl ?_
      refine WL_s (S_call (own_spec) rfl rfl ?_)
      rintro v w4 ⟨p, D, b, hok, rfl, hQ⟩
      repeat (first | refine WS_seq ?_ | refine WS_region ?_ | refine WL_nil ?_ | (refine WL_r (by first | refine Run_pev rfl | refine k_extract rfl rfl) rfl ?_))
      refine WL_keep [(8, pt p), (45, pt p)] ⟨rfl, rfl, trivial⟩ (fun σ => ?_)
      exact key σ p D _ ⟨hok, (((Hp.cats (hH.ext0 hE) hQ).del 2).del 0)⟩
    · repeat (first | refine WS_seq ?_ | refine WS_region ?_ | refine WL_nil ?_ | refine WS_skip ?_ | refine WS_false rfl ?_ | (refine WL_r (by first | refine Run_pev rfl | refine k_extract rfl rfl) rfl ?_))
      refine WL_keep [(8, pt p2), (45, pt p2)] ⟨rfl, rfl, trivial⟩ (fun σ => ?_)
      exact key σ p2 D2 _ ⟨hok2, ((hH.nu hN).del 0)⟩
  clear hCN hH
  rintro σ p D u ⟨hok, hH⟩
  have hD := hok.1
  have hle := hD.le
  try refine WL_gyes rfl rfl rfl ?_
  refine WL_s (S_call (clen_spec (hH.at 0 rfl)) rfl rfl ?_)
  rintro v w4 ⟨rfl, rfl⟩
  repeat (first | refine WL_nil ?_ | refine WS_block ?_ | (refine WL_r (by first | refine Run_pev rfl | apply k_makeFunc) rfl ?_))
  refine WS_loop (G := (Nat)) (fun i => D.sz.length - i) 162259276829213363250840521948176 (fun i => [(47, .int .i64 i)]) (fun i w' => i ≤ D.sz.length ∧ Hp [] w w' [RC p D]) (0) ⟨rfl, trivial⟩ ⟨by omega, hH⟩ ?_
  rintro i u1 σ ⟨hi, hH⟩ IH
  show WS _ _ _ _ _ (updL [(47, .int .i64 i)] _) _
  by_cases hil : i < D.sz.length
  · repeat (first | refine WS_seq ?_ | refine WS_region ?_ | refine WL_nil ?_ | refine WS_block ?_ | refine WS_skip ?_ | refine WS_yes rfl (by omega) ?_ | (refine WL_r (by refine Run_pev rfl) rfl ?_))
    try refine WL_gyes rfl rfl rfl ?_
    refine WL_s (S_call (clen_spec (hH.at 0 rfl)) rfl rfl ?_)
    rintro v w5 ⟨rfl, rfl⟩
    repeat (first | refine WL_nil ?_ | refine WS_block ?_ | (refine WL_r (by first | refine Run_pev rfl | apply k_makeFunc) rfl ?_))
    refine WS_loop (G := (Nat)) (fun j => D.sz.length - j) 81129638414606677192189377787920 (fun j => [(52, .int .i64 j)]) (fun j w' => j ≤ D.sz.length ∧ Hp [] w w' [RC p D]) (0) ⟨rfl, trivial⟩ ⟨by omega, hH⟩ ?_
    rintro j u2 σ ⟨hj, hH⟩ IH
    show WS _ _ _ _ _ (updL [(52, .int .i64 j)] _) _
    by_cases hjl : j < D.sz.length
    · repeat (first | refine WS_seq ?_ | refine WS_region ?_ | refine WL_nil ?_ | refine WS_block ?_ | refine WS_skip ?_ | refine WS_yes rfl (by omega) ?_ | (refine WL_r (by refine Run_pev rfl) rfl ?_))
      try refine WL_gyes rfl rfl rfl ?_
      refine WL_s (S_call (written04 hok hil (hH.at 0 rfl)) rfl rfl ?_)
      rintro v w6 ⟨aa, ca, hca, rfl, hN⟩
      replace hH := hH.nu hN
      clear hN
      change Hp _ _ _ [_, _] at hH
      repeat ((refine WL_r (by refine Run_pev rfl) rfl ?_))
      try refine WL_gyes rfl rfl rfl ?_
      refine WL_s (S_call (written04 hok hjl (hH.at 0 rfl)) rfl rfl ?_)
      rintro v w7 ⟨ac, cc, hcc, rfl, hN⟩
      replace hH := hH.nu hN
      clear hN
      change Hp _ _ _ [_, _, _] at hH
      have hSa : SlA w7 aa (bq (cw D.sz D.ws i)) := hH.s 1 rfl
      have hSc : SlA w7 ac (bq (cw D.sz D.ws j)) := hH.s 2 rfl
      have hfr : i ≠ j → ¬ cw D.sz D.ws i <+: cw D.sz D.ws j := hD.free hil hjl
      have hls : ((cw D.sz D.ws i).length < (cw D.sz D.ws j).length ∨ ((cw D.sz D.ws i).length = (cw D.sz D.ws j).length ∧ i < j)) → ∃ p r r', cw D.sz D.ws i = p ++ false :: r ∧ cw D.sz D.ws j = p ++ true :: r' := by
        rw [cw_len, cw_len]; exact hD.less hil hjl
      have hsame : i = j → (cw D.sz D.ws i).length = (cw D.sz D.ws j).length := fun h => by rw [h]
      generalize cw D.sz D.ws i = A at *
      generalize cw D.sz D.ws j = C at *
      by_cases hij : i = j
      · have hlen := hsame hij
        repeat (first | refine WS_seq ?_ | refine WL_nil ?_ | (refine WL_r (by first | refine Run_pev rfl | apply k_makeFunc) rfl ?_))
        refine WS_drawE Ty.mixed 20 rfl (fun w1 hx1 => ?_)
        refine WA_take 0 rfl (by kernel_rfl) hx1 rfl rfl (fun w' hw' => by refine Run_pev rfl) ?_
        refine WA_take 1 rfl (by kernel_rfl) hx1 rfl rfl (fun w' hw' => by refine Run_pev rfl) ?_
        refine WA_take 2 rfl (by kernel_rfl) hx1 rfl rfl (fun w' hw' => by refine (k_neq (q := .i64) rfl rfl).is (bF (by omega))) ?_
        refine WA_take 3 rfl (by kernel_rfl) hx1 rfl rfl (fun w' hw' => by refine Run_pev rfl) ?_
        refine WA_taken (b := false) 4 rfl (by kernel_rfl) hx1 rfl rfl rfl rfl rfl rfl ?_
        refine WA_taken (b := false) 5 rfl (by kernel_rfl) hx1 rfl rfl rfl rfl rfl rfl ?_
        refine WA_taken (b := false) 6 rfl (by kernel_rfl) hx1 rfl rfl rfl rfl rfl rfl ?_
        refine WA_taken (b := false) 7 rfl (by kernel_rfl) hx1 rfl rfl rfl rfl rfl rfl ?_
        refine WA_taken (b := false) 8 rfl (by kernel_rfl) hx1 rfl rfl rfl rfl rfl rfl ?_
        refine WA_take 9 rfl (by kernel_rfl) hx1 rfl rfl (fun w' hw' => by refine Run_pev rfl) ?_
        refine WA_take 10 rfl (by kernel_rfl) hx1 rfl rfl (fun w' hw' => by refine Run_pev rfl) ?_
        refine WA_taken (b := false) 11 rfl (by kernel_rfl) hx1 rfl rfl rfl rfl rfl rfl ?_
        refine WA_taken (b := false) 12 rfl (by kernel_rfl) hx1 rfl rfl rfl rfl rfl rfl ?_
        refine WA_taken (b := false) 13 rfl (by kernel_rfl) hx1 rfl rfl rfl rfl rfl rfl ?_
        refine WA_taken (b := false) 14 rfl (by kernel_rfl) hx1 rfl rfl rfl rfl rfl rfl ?_
        refine WA_taken (b := false) 15 rfl (by kernel_rfl) hx1 rfl rfl rfl rfl rfl rfl ?_
        refine WA_taken (b := false) 16 rfl (by kernel_rfl) hx1 rfl rfl rfl rfl rfl rfl ?_
        refine WA_taken (b := false) 17 rfl (by kernel_rfl) hx1 rfl rfl rfl rfl rfl rfl ?_
        refine WA_taken (b := false) 18 rfl (by kernel_rfl) hx1 rfl rfl rfl rfl rfl rfl ?_
        refine WA_take 19 rfl (by kernel_rfl) hx1 rfl rfl (fun w' hw' => by refine Run_pev rfl) ?_
        refine WA_done (by kernel_rfl) ?_
        replace hH := hH.ext0 hx1
        replace hSa := SlA.ext0 hSa hx1
        replace hSc := SlA.ext0 hSc hx1
        repeat (first | refine WS_seq ?_ | refine WS_region ?_ | refine WL_nil ?_ | refine WS_inBlock ?_ | refine WS_skip ?_ | refine WS_false rfl ?_ | refine WL_gyes rfl rfl rfl ?_ | refine WL_gno rfl rfl rfl rfl rfl ?_ | (refine WL_r (by first | refine (k_lss (q := .i64) rfl rfl).is (bF (by omega)) | refine (k_eql (q := .i64) rfl rfl).is (bT (by omega)) | refine Run_pev rfl | refine k_add64 rfl rfl (by omega) | refine k_len rfl (Ty.isl rfl) | apply k_makeFunc) rfl ?_))
        refine IH (j + 1) _ _ ?_ ?_ ?_ ?_
        · omega
        · exact ⟨rfl, trivial⟩
        · exact (by repeat (first | with_reducible apply Agr.refl | refine Agr.upd rfl ?_ | refine Agr.updL rfl ?_ | refine Agr.mrg rfl ?_))
        · exact ⟨by omega, hH.take 1⟩
      have hfr' := hfr hij
      by_cases hlt : C.length < A.length
      · skip
        repeat (first | refine WS_seq ?_ | refine WL_nil ?_ | (refine WL_r (by first | refine Run_pev rfl | apply k_makeFunc) rfl ?_))
        refine WS_drawE Ty.mixed 20 rfl (fun w1 hx1 => ?_)
        refine WA_take 0 rfl (by kernel_rfl) hx1 rfl rfl (fun w' hw' => by refine Run_pev rfl) ?_
        refine WA_take 1 rfl (by kernel_rfl) hx1 rfl rfl (fun w' hw' => by refine Run_pev rfl) ?_
        refine WA_take 2 rfl (by kernel_rfl) hx1 rfl rfl (fun w' hw' => by refine Run_pev rfl) ?_
        refine WA_take 3 rfl (by kernel_rfl) hx1 rfl rfl (fun w' hw' => by refine Run_pev rfl) ?_
        refine WA_takey 4 rfl (by kernel_rfl) hx1 rfl rfl rfl (dT (by omega)) rfl (fun w' hw' => by refine Run_pev rfl) ?_
        refine WA_takey 5 rfl (by kernel_rfl) hx1 rfl rfl rfl (dT (by omega)) rfl (fun w' hw' => by refine k_len rfl (Ty.isl rfl)) ?_
        refine WA_takey 6 rfl (by kernel_rfl) hx1 rfl rfl rfl (dT (by omega)) rfl (fun w' hw' => by refine Run_pev rfl) ?_
        refine WA_takey 7 rfl (by kernel_rfl) hx1 rfl rfl rfl (dT (by omega)) rfl (fun w' hw' => by refine k_len rfl (Ty.isl rfl)) ?_
        refine WA_takey 8 rfl (by kernel_rfl) hx1 rfl rfl rfl (dT (by omega)) rfl (fun w' hw' => by refine (k_leq (q := .i64) rfl rfl).is (bF (by omega))) ?_
        refine WA_take 9 rfl (by kernel_rfl) hx1 rfl rfl (fun w' hw' => by refine k_pick_t (dT (by omega)) rfl) ?_
        refine WA_take 10 rfl (by kernel_rfl) hx1 rfl rfl (fun w' hw' => by refine Run_pev rfl) ?_
        refine WA_taken (b := false) 11 rfl (by kernel_rfl) hx1 rfl rfl rfl rfl rfl rfl ?_
        refine WA_taken (b := false) 12 rfl (by kernel_rfl) hx1 rfl rfl rfl rfl rfl rfl ?_
        refine WA_taken (b := false) 13 rfl (by kernel_rfl) hx1 rfl rfl rfl rfl rfl rfl ?_
        refine WA_taken (b := false) 14 rfl (by kernel_rfl) hx1 rfl rfl rfl rfl rfl rfl ?_
        refine WA_taken (b := false) 15 rfl (by kernel_rfl) hx1 rfl rfl rfl rfl rfl rfl ?_
        refine WA_taken (b := false) 16 rfl (by kernel_rfl) hx1 rfl rfl rfl rfl rfl rfl ?_
        refine WA_taken (b := false) 17 rfl (by kernel_rfl) hx1 rfl rfl rfl rfl rfl rfl ?_
        refine WA_taken (b := false) 18 rfl (by kernel_rfl) hx1 rfl rfl rfl rfl rfl rfl ?_
        refine WA_take 19 rfl (by kernel_rfl) hx1 rfl rfl (fun w' hw' => by refine Run_pev rfl) ?_
        refine WA_done (by kernel_rfl) ?_
        replace hH := hH.ext0 hx1
        replace hSa := SlA.ext0 hSa hx1
        replace hSc := SlA.ext0 hSc hx1
        repeat (first | refine WS_seq ?_ | refine WS_region ?_ | refine WL_nil ?_ | refine WS_inBlock ?_ | refine WS_skip ?_ | refine WS_false rfl ?_ | refine WL_gyes rfl rfl rfl ?_ | refine WL_gno rfl rfl rfl rfl rfl ?_ | (refine WL_r (by first | refine (k_lss (q := .i64) rfl rfl).is (bF (by omega)) | refine (k_eql (q := .i64) rfl rfl).is (bF (by omega)) | refine Run_pev rfl | refine k_add64 rfl rfl (by omega) | refine k_len rfl (Ty.isl rfl) | apply k_makeFunc) rfl ?_))
        refine IH (j + 1) _ _ ?_ ?_ ?_ ?_
        · omega
        · exact ⟨rfl, trivial⟩
        · exact (by repeat (first | with_reducible apply Agr.refl | refine Agr.upd rfl ?_ | refine Agr.updL rfl ?_ | refine Agr.mrg rfl ?_))
        · exact ⟨by omega, hH.take 1⟩
      have htc := take_cells (k := A.length) hSc (show A.length ≤ C.length by omega) hcc
      rw [← List.map_take] at htc
      have hne : A.map Bool.toNat ≠ (C.map Bool.toNat).take A.length := fun e => by
        rw [← List.map_take] at e
        have := toNat_inj.1 e
        exact hfr' (List.prefix_iff_eq_take.2 this)
      have hbA := bits_byt A
      have hbC : Byt ((C.map Bool.toNat).take A.length) := fun x hx => bits_byt C x (List.mem_of_mem_take hx)
      by_cases hll : A.length < C.length ∨ (A.length = C.length ∧ i < j)
      · obtain ⟨q, r, r', h1, h2⟩ := hls hll
        have hbl := less_bits h1 h2
        clear h1 h2
        by_cases hl2 : A.length < C.length
        · skip
          repeat (first | refine WS_seq ?_ | refine WL_nil ?_ | (refine WL_r (by first | refine Run_pev rfl | apply k_makeFunc) rfl ?_))
          refine WS_drawE Ty.mixed 20 rfl (fun w1 hx1 => ?_)
          refine WA_take 0 rfl (by kernel_rfl) hx1 rfl rfl (fun w' hw' => by refine Run_pev rfl) ?_
          refine WA_take 1 rfl (by kernel_rfl) hx1 rfl rfl (fun w' hw' => by refine Run_pev rfl) ?_
          refine WA_take 2 rfl (by kernel_rfl) hx1 rfl rfl (fun w' hw' => by refine (k_neq (q := .i64) rfl rfl).is (bT (by omega))) ?_
          refine WA_take 3 rfl (by kernel_rfl) hx1 rfl rfl (fun w' hw' => by refine Run_pev rfl) ?_
          refine WA_takey 4 rfl (by kernel_rfl) hx1 rfl rfl rfl rfl rfl (fun w' hw' => by refine Run_pev rfl) ?_
          refine WA_takey 5 rfl (by kernel_rfl) hx1 rfl rfl rfl rfl rfl (fun w' hw' => by refine k_len rfl (Ty.isl rfl)) ?_
          refine WA_takey 6 rfl (by kernel_rfl) hx1 rfl rfl rfl rfl rfl (fun w' hw' => by refine Run_pev rfl) ?_
          refine WA_takey 7 rfl (by kernel_rfl) hx1 rfl rfl rfl rfl rfl (fun w' hw' => by refine k_len rfl (Ty.isl rfl)) ?_
          refine WA_takey 8 rfl (by kernel_rfl) hx1 rfl rfl rfl rfl rfl (fun w' hw' => by refine (k_leq (q := .i64) rfl rfl).is (bT (by omega))) ?_
          refine WA_take 9 rfl (by kernel_rfl) hx1 rfl rfl (fun w' hw' => by refine Run_pev rfl) ?_
          refine WA_take 10 rfl (by kernel_rfl) hx1 rfl rfl (fun w' hw' => by refine Run_pev rfl) ?_
          refine WA_takey 11 rfl (by kernel_rfl) hx1 rfl rfl rfl rfl rfl (fun w' hw' => by refine Run_pev rfl) ?_
          refine WA_takey 12 rfl (by kernel_rfl) hx1 rfl rfl rfl rfl rfl (fun w' hw' => by refine k_strN (l := A.map Bool.toNat) rfl (by simp) (hSa.ext0 hw') (Ty.sle rfl) (Ty.knd rfl) (Ty.iss rfl)) ?_
          refine WA_takey 13 rfl (by kernel_rfl) hx1 rfl rfl rfl rfl rfl (fun w' hw' => by refine Run_pev rfl) ?_
          refine WA_takey 14 rfl (by kernel_rfl) hx1 rfl rfl rfl rfl rfl (fun w' hw' => by refine Run_pev rfl) ?_
          refine WA_takey 15 rfl (by kernel_rfl) hx1 rfl rfl rfl rfl rfl (fun w' hw' => by refine k_len rfl (Ty.isl rfl)) ?_
          refine WA_takey 16 rfl (by kernel_rfl) hx1 rfl rfl rfl rfl rfl (fun w' hw' => by refine k_slchN (h := A.length) rfl rfl (Ty.sle rfl) (by omega)) ?_
          refine WA_takey 17 rfl (by kernel_rfl) hx1 rfl rfl rfl rfl rfl (fun w' hw' => by refine k_strN (l := (C.map Bool.toNat).take A.length) rfl (by simp; omega) (htc.ext0 hw') (Ty.sle rfl) (Ty.knd rfl) (Ty.iss rfl)) ?_
          refine WA_takey 18 rfl (by kernel_rfl) hx1 rfl rfl rfl rfl rfl (fun w' hw' => by refine (k_eqls rfl rfl hbA hbC).is (bF hne)) ?_
          refine WA_take 19 rfl (by kernel_rfl) hx1 rfl rfl (fun w' hw' => by refine Run_pev rfl) ?_
          refine WA_done (by kernel_rfl) ?_
          replace hH := hH.ext0 hx1
          replace hSa := SlA.ext0 hSa hx1
          replace hSc := SlA.ext0 hSc hx1
          repeat (first | refine WS_seq ?_ | refine WS_region ?_ | refine WL_nil ?_ | refine WS_inBlock ?_ | refine WS_skip ?_ | refine WS_false rfl ?_ | refine WL_gyes rfl rfl rfl ?_ | refine WL_gno rfl rfl rfl rfl rfl ?_ | refine WL_gund rfl rfl rfl ?_ | (refine WL_r (by first | refine (k_lss (q := .i64) rfl rfl).is (bT (by omega)) | refine k_strN (l := A.map Bool.toNat) rfl (by simp) hSa (Ty.sle rfl) (Ty.knd rfl) (Ty.iss rfl) | refine k_strN (l := C.map Bool.toNat) rfl (by simp) hSc (Ty.sle rfl) (Ty.knd rfl) (Ty.iss rfl) | refine k_geqs rfl rfl hbl | refine Run_pev rfl | refine k_add64 rfl rfl (by omega) | refine k_len rfl (Ty.isl rfl) | apply k_makeFunc) rfl ?_))
          refine IH (j + 1) _ _ ?_ ?_ ?_ ?_
          · omega
          · exact ⟨rfl, trivial⟩
          · exact (by repeat (first | with_reducible apply Agr.refl | refine Agr.upd rfl ?_ | refine Agr.updL rfl ?_ | refine Agr.mrg rfl ?_))
          · exact ⟨by omega, hH.take 1⟩
        · skip
          repeat (first | refine WS_seq ?_ | refine WL_nil ?_ | (refine WL_r (by first | refine Run_pev rfl | apply k_makeFunc) rfl ?_))
          refine WS_drawE Ty.mixed 20 rfl (fun w1 hx1 => ?_)
          refine WA_take 0 rfl (by kernel_rfl) hx1 rfl rfl (fun w' hw' => by refine Run_pev rfl) ?_
          refine WA_take 1 rfl (by kernel_rfl) hx1 rfl rfl (fun w' hw' => by refine Run_pev rfl) ?_
          refine WA_take 2 rfl (by kernel_rfl) hx1 rfl rfl (fun w' hw' => by refine (k_neq (q := .i64) rfl rfl).is (bT (by omega))) ?_
          refine WA_take 3 rfl (by kernel_rfl) hx1 rfl rfl (fun w' hw' => by refine Run_pev rfl) ?_
          refine WA_takey 4 rfl (by kernel_rfl) hx1 rfl rfl rfl rfl rfl (fun w' hw' => by refine Run_pev rfl) ?_
          refine WA_takey 5 rfl (by kernel_rfl) hx1 rfl rfl rfl rfl rfl (fun w' hw' => by refine k_len rfl (Ty.isl rfl)) ?_
          refine WA_takey 6 rfl (by kernel_rfl) hx1 rfl rfl rfl rfl rfl (fun w' hw' => by refine Run_pev rfl) ?_
          refine WA_takey 7 rfl (by kernel_rfl) hx1 rfl rfl rfl rfl rfl (fun w' hw' => by refine k_len rfl (Ty.isl rfl)) ?_
          refine WA_takey 8 rfl (by kernel_rfl) hx1 rfl rfl rfl rfl rfl (fun w' hw' => by refine (k_leq (q := .i64) rfl rfl).is (bT (by omega))) ?_
          refine WA_take 9 rfl (by kernel_rfl) hx1 rfl rfl (fun w' hw' => by refine Run_pev rfl) ?_
          refine WA_take 10 rfl (by kernel_rfl) hx1 rfl rfl (fun w' hw' => by refine Run_pev rfl) ?_
          refine WA_takey 11 rfl (by kernel_rfl) hx1 rfl rfl rfl rfl rfl (fun w' hw' => by refine Run_pev rfl) ?_
          refine WA_takey 12 rfl (by kernel_rfl) hx1 rfl rfl rfl rfl rfl (fun w' hw' => by refine k_strN (l := A.map Bool.toNat) rfl (by simp) (hSa.ext0 hw') (Ty.sle rfl) (Ty.knd rfl) (Ty.iss rfl)) ?_
          refine WA_takey 13 rfl (by kernel_rfl) hx1 rfl rfl rfl rfl rfl (fun w' hw' => by refine Run_pev rfl) ?_
          refine WA_takey 14 rfl (by kernel_rfl) hx1 rfl rfl rfl rfl rfl (fun w' hw' => by refine Run_pev rfl) ?_
          refine WA_takey 15 rfl (by kernel_rfl) hx1 rfl rfl rfl rfl rfl (fun w' hw' => by refine k_len rfl (Ty.isl rfl)) ?_
          refine WA_takey 16 rfl (by kernel_rfl) hx1 rfl rfl rfl rfl rfl (fun w' hw' => by refine k_slchN (h := A.length) rfl rfl (Ty.sle rfl) (by omega)) ?_
          refine WA_takey 17 rfl (by kernel_rfl) hx1 rfl rfl rfl rfl rfl (fun w' hw' => by refine k_strN (l := (C.map Bool.toNat).take A.length) rfl (by simp; omega) (htc.ext0 hw') (Ty.sle rfl) (Ty.knd rfl) (Ty.iss rfl)) ?_
          refine WA_takey 18 rfl (by kernel_rfl) hx1 rfl rfl rfl rfl rfl (fun w' hw' => by refine (k_eqls rfl rfl hbA hbC).is (bF hne)) ?_
          refine WA_take 19 rfl (by kernel_rfl) hx1 rfl rfl (fun w' hw' => by refine Run_pev rfl) ?_
          refine WA_done (by kernel_rfl) ?_
          replace hH := hH.ext0 hx1
          replace hSa := SlA.ext0 hSa hx1
          replace hSc := SlA.ext0 hSc hx1
          repeat (first | refine WS_seq ?_ | refine WS_region ?_ | refine WL_nil ?_ | refine WS_inBlock ?_ | refine WS_skip ?_ | refine WS_false rfl ?_ | refine WL_gyes rfl rfl rfl ?_ | (refine WL_r (by first | refine (k_lss (q := .i64) rfl rfl).is (bT (by omega)) | refine (k_lss (q := .i64) rfl rfl).is (bF (by omega)) | refine (k_eql (q := .i64) rfl rfl).is (bT (by omega)) | refine k_strN (l := A.map Bool.toNat) rfl (by simp) hSa (Ty.sle rfl) (Ty.knd rfl) (Ty.iss rfl) | refine k_strN (l := C.map Bool.toNat) rfl (by simp) hSc (Ty.sle rfl) (Ty.knd rfl) (Ty.iss rfl) | refine k_geqs rfl rfl hbl | refine Run_pev rfl | refine k_add64 rfl rfl (by omega) | refine k_len rfl (Ty.isl rfl) | apply k_makeFunc) rfl ?_))
          refine IH (j + 1) _ _ ?_ ?_ ?_ ?_
          · omega
          · exact ⟨rfl, trivial⟩
          · exact (by repeat (first | with_reducible apply Agr.refl | refine Agr.upd rfl ?_ | refine Agr.updL rfl ?_ | refine Agr.mrg rfl ?_))
          · exact ⟨by omega, hH.take 1⟩
      · skip
        repeat (first | refine WS_seq ?_ | refine WL_nil ?_ | (refine WL_r (by first | refine Run_pev rfl | apply k_makeFunc) rfl ?_))
        refine WS_drawE Ty.mixed 20 rfl (fun w1 hx1 => ?_)
        refine WA_take 0 rfl (by kernel_rfl) hx1 rfl rfl (fun w' hw' => by refine Run_pev rfl) ?_
        refine WA_take 1 rfl (by kernel_rfl) hx1 rfl rfl (fun w' hw' => by refine Run_pev rfl) ?_
        refine WA_take 2 rfl (by kernel_rfl) hx1 rfl rfl (fun w' hw' => by refine (k_neq (q := .i64) rfl rfl).is (bT (by omega))) ?_
        refine WA_take 3 rfl (by kernel_rfl) hx1 rfl rfl (fun w' hw' => by refine Run_pev rfl) ?_
        refine WA_takey 4 rfl (by kernel_rfl) hx1 rfl rfl rfl rfl rfl (fun w' hw' => by refine Run_pev rfl) ?_
        refine WA_takey 5 rfl (by kernel_rfl) hx1 rfl rfl rfl rfl rfl (fun w' hw' => by refine k_len rfl (Ty.isl rfl)) ?_
        refine WA_takey 6 rfl (by kernel_rfl) hx1 rfl rfl rfl rfl rfl (fun w' hw' => by refine Run_pev rfl) ?_
        refine WA_takey 7 rfl (by kernel_rfl) hx1 rfl rfl rfl rfl rfl (fun w' hw' => by refine k_len rfl (Ty.isl rfl)) ?_
        refine WA_takey 8 rfl (by kernel_rfl) hx1 rfl rfl rfl rfl rfl (fun w' hw' => by refine (k_leq (q := .i64) rfl rfl).is (bT (by omega))) ?_
        refine WA_take 9 rfl (by kernel_rfl) hx1 rfl rfl (fun w' hw' => by refine Run_pev rfl) ?_
        refine WA_take 10 rfl (by kernel_rfl) hx1 rfl rfl (fun w' hw' => by refine Run_pev rfl) ?_
        refine WA_takey 11 rfl (by kernel_rfl) hx1 rfl rfl rfl rfl rfl (fun w' hw' => by refine Run_pev rfl) ?_
        refine WA_takey 12 rfl (by kernel_rfl) hx1 rfl rfl rfl rfl rfl (fun w' hw' => by refine k_strN (l := A.map Bool.toNat) rfl (by simp) (hSa.ext0 hw') (Ty.sle rfl) (Ty.knd rfl) (Ty.iss rfl)) ?_
        refine WA_takey 13 rfl (by kernel_rfl) hx1 rfl rfl rfl rfl rfl (fun w' hw' => by refine Run_pev rfl) ?_
        refine WA_takey 14 rfl (by kernel_rfl) hx1 rfl rfl rfl rfl rfl (fun w' hw' => by refine Run_pev rfl) ?_
        refine WA_takey 15 rfl (by kernel_rfl) hx1 rfl rfl rfl rfl rfl (fun w' hw' => by refine k_len rfl (Ty.isl rfl)) ?_
        refine WA_takey 16 rfl (by kernel_rfl) hx1 rfl rfl rfl rfl rfl (fun w' hw' => by refine k_slchN (h := A.length) rfl rfl (Ty.sle rfl) (by omega)) ?_
        refine WA_takey 17 rfl (by kernel_rfl) hx1 rfl rfl rfl rfl rfl (fun w' hw' => by refine k_strN (l := (C.map Bool.toNat).take A.length) rfl (by simp; omega) (htc.ext0 hw') (Ty.sle rfl) (Ty.knd rfl) (Ty.iss rfl)) ?_
        refine WA_takey 18 rfl (by kernel_rfl) hx1 rfl rfl rfl rfl rfl (fun w' hw' => by refine (k_eqls rfl rfl hbA hbC).is (bF hne)) ?_
        refine WA_take 19 rfl (by kernel_rfl) hx1 rfl rfl (fun w' hw' => by refine Run_pev rfl) ?_
        refine WA_done (by kernel_rfl) ?_
        replace hH := hH.ext0 hx1
        replace hSa := SlA.ext0 hSa hx1
        replace hSc := SlA.ext0 hSc hx1
        repeat (first | refine WS_seq ?_ | refine WS_region ?_ | refine WL_nil ?_ | refine WS_inBlock ?_ | refine WS_skip ?_ | refine WS_false rfl ?_ | refine WL_gyes rfl rfl rfl ?_ | refine WL_gno rfl rfl rfl rfl rfl ?_ | (refine WL_r (by first | refine (k_lss (q := .i64) rfl rfl).is (bF (by omega)) | refine (k_eql (q := .i64) rfl rfl).is (bT (by omega)) | refine Run_pev rfl | refine k_add64 rfl rfl (by omega) | refine k_len rfl (Ty.isl rfl) | apply k_makeFunc) rfl ?_))
        refine IH (j + 1) _ _ ?_ ?_ ?_ ?_
        · omega
        · exact ⟨rfl, trivial⟩
        · exact (by repeat (first | with_reducible apply Agr.refl | refine Agr.upd rfl ?_ | refine Agr.updL rfl ?_ | refine Agr.mrg rfl ?_))
        · exact ⟨by omega, hH.take 1⟩
    clear IH
    repeat (first | refine WS_seq ?_ | refine WS_region ?_ | refine WL_nil ?_ | refine WS_inBlock ?_ | refine WS_exit rfl ?_ | refine WS_no rfl (by omega) ?_ | (refine WL_r (by first | refine Run_pev rfl | refine k_add64 rfl rfl (by omega) | apply k_makeFunc) rfl ?_))
    refine IH (i + 1) _ _ ?_ ?_ ?_ ?_
    · omega
    · exact ⟨rfl, trivial⟩
    · exact (by repeat (first | with_reducible apply Agr.refl | refine Agr.upd rfl ?_ | refine Agr.updL rfl ?_ | refine Agr.mrg rfl ?_))
    · exact ⟨by omega, hH⟩
  clear IH
  repeat (first | refine WS_seq ?_ | refine WS_region ?_ | refine WL_nil ?_ | refine WS_exit rfl ?_ | refine WS_no rfl (by omega) ?_ | (refine WL_r (by first | refine Run_pev rfl | apply k_makeFunc) rfl ?_))
  exact WS_ret1 Try.func5 rfl ⟨rfl, hH.ext⟩
theorem own_codeApart : ownKnob Try.prog.godebug = none := by kernel_rfl
theorem laid_codeApart : laidOutB Try.prog = true := by kernel_rfl
set_option maxRecDepth 100000 in
theorem codeApart_lifted (os : Os) (started : os.Started) (H : Type) (enc : TypeId × Value → H) :
    ReturnsInHanded {} Try.checked os 5 .any (Rows.codeApartSpec.pre6 enc Try.prog Try.f5 Rows.codeApartRow.domain false) (Rows.codeApartSpec.post enc Try.prog Try.f5 false true false false) := by
  refine returnsInHanded_of_change (C := Try.checked) own_codeApart started (by kernel_rfl) Try.func5
    (ChangeSpec.witness6 (enc := enc) (C := Try.checked) false ⟨#[], #[.slice none 0 0, .int .u8 0], []⟩ 8 (by kernel_rfl) (by kernel_rfl) (by kernel_rfl) (by kernel_rfl)) ?_
  intro W base args ds gs before hval0 hW _ _
  have hval : ∀ (j : Nat) t v, Try.f5.params[j]? = some t → args[j]? = some v → Value.okWide Try.prog W .any base t v := hval0
  have hW' := hW
  obtain ⟨p, q, hA0, hV, rfl, hfz, hnd⟩ := hW
  have hA : DataW.TrodAll enc Try.prog W 0 (fun _ => true) true Try.f5.params.toList args.toList ds p := hA0
  rw [Try.params5] at hA hval
  obtain ⟨v0, r0, d0, e0, p0, q0, ha0, rfl, rfl, h0, hA⟩ := trodAll_cons hA
  obtain ⟨v1, r1, d1, e1, p1, q1, ha1, rfl, rfl, h1, hA⟩ := trodAll_cons hA
  obtain ⟨hnil, rfl, rfl⟩ := trodAll_nil hA
  obtain rfl : args = #[v0, v1] := by cases args; simp_all
  have hv0 := hval 0 _ v0 rfl rfl
  have hv1 := hval 1 _ v1 rfl rfl
  clear hA0 hval0 ha0 ha1 hnil
  obtain ⟨a1, n1, cap1, sm, rfl, hn1, hS2, hsb, hlen1⟩ := rd_bytes (Ty.sle rfl) (Ty.knd rfl) hv0 h0
  obtain ⟨k0, rfl, hk0⟩ := rd_int (Ty.knd rfl) hv1 h1
  obtain ⟨k, rfl, _⟩ := fits_u8 hk0
  refine ((capart_spec hS2 hsb hn1 hlen1).enter Try.func5 rfl rfl).mono ?_
  rintro e W' ⟨v, rfl, rfl, hE⟩
  exact ⟨_, rfl, law_post laid_codeApart (by kernel_rfl) hW' rfl rfl (by kernel_rfl) ⟨rfl, rfl, rfl⟩ hE⟩
theorem codeApart_holds : Rows.CodeApartSaid :=
  OpenClaim.holds_of_wide 5 Try.f5 rfl rfl rfl rfl rfl rfl rfl ⟨rfl, rfl, rfl, rfl, rfl⟩ rfl rfl rfl rfl rfl (by kernel_rfl) Try.func5 (by kernel_rfl)
    (of_decide_eq_true (by kernel_rfl)) (by unfold Func.isWrapper; (rw [if_neg (by decide +kernel)]; exact ⟨rfl, rfl⟩))
    (fun os started H enc _ => codeApart_lifted os started H enc)
#print axioms codeApart_holds
end Go.Proofs.Ytccnhnijglnbmaa
