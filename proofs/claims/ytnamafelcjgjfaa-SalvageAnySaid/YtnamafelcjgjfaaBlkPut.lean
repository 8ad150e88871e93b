/- The walks of the package block: events that are written, how many bits they have; no condition but sizes of memory. -/
import Derived.Test.YtnamafelcjgjfaaSh
import Derived.Test.YtnamafelcjgjfaaBlock
namespace Go.Proofs.Ytnamafelcjgjfaa
open Go Go.K Go.P Go.RowKit Go.Proofs
theorem sgn_lvn {r : Nat} {x : Int} (h : okE (r, x)) : sgn x - 1 = (lvn x : Nat) ∧ -2305843009213693952 ≤ x ∧ x ≤ 2305843009213693952 := by
  obtain ⟨_, h2, h3, h4⟩ := h
  simp only at h2 h3 h4
  unfold lvn
  have : 0 < sgn x := by unfold sgn; split <;> omega
  omega
/-- One event of a block, at its place. -/
theorem ev_at {ps : List (Nat × Int)} (hg : GB ps) {i : Nat} (hi : i < ps.length) : ∃ (r : Nat) (x : Int) (b : Bool), ((evC ps).drop (i * 3)).take 3 = evc r x b ∧ okE (r, x) ∧ b = decide (i + 1 = ps.length) ∧ evB ((mk ps).take (i + 1)) = evB ((mk ps).take i) ++ evb b (r, x) := by
  have hl : i < (mk ps).length := by rw [mk_len]; exact hi
  have hm := mk_get ps i hi
  have hs := evB_snoc (mk ps) hl
  rw [List.getElem?_eq_getElem hl] at hm
  have hm2 := Option.some.inj hm
  rw [hm2] at hs
  exact ⟨ps[i].1, ps[i].2, _, evC_ev ps i hi, hg.ok _ (List.getElem_mem hi), rfl, hs⟩
theorem evB_le {ps : List (Nat × Int)} (hg : GB ps) (i : Nat) : (evB ((mk ps).take i)).length ≤ 3200 := by
  have h1 := bb_len_le hg
  have h2 := hg.len
  have e : evB (mk ps) = evB ((mk ps).take i) ++ evB ((mk ps).drop i) := by rw [← evB_app, List.take_append_drop]
  rw [bb_mk, e, List.length_append] at h1
  omega
set_option maxRecDepth 20000 in
set_option maxHeartbeats 4000000 in
theorem bput_spec {p c n0 c0 : Nat} {a ax : Option Addr} {bs : List Bool} {ps : List (Nat × Int)} {w : World} (hg : GB ps) (hn : ps.length = n0) (hbl : bs.length ≤ 100000000) (hS : SlA w ax (evC ps)) (hR : (Rw p a c bs).holds w) (hd : ∀ s ∈ (Rw p a c bs).fp, s ∉ blk ax) :
    Does Try.prog 30 #[pt p, .slice ax n0 c0] w fun v w' => v = .int .i64 0 ∧ ∃ a' c', Upd (Rw p a c bs) (Rw p a' c' (bs ++ bb ps)) w w' := by
  subst hn
  refine Does_of (args := [_, _]) Try.func30 rfl rfl Try.ntmps30 rfl ?_
  have hH := Hp.start1 hR
  have hne : 0 < ps.length := by cases ps; exact absurd rfl hg.ne; simp
  have h64 := hg.len
  have hle := evC_len ps
  repeat (first | refine WS_seq ?_ | refine WS_region ?_ | refine WL_nil ?_ | refine WS_block ?_ | refine WS_skip ?_ | refine WS_false rfl ?_ | refine WS_no rfl (by omega) ?_ | refine WL_gyes rfl rfl (dF (by omega)) ?_ | (refine WL_r (by first | refine k_pnil rfl rfl (.inr rfl) ptrW | refine Run_pev rfl | refine k_len rfl (Ty.isl rfl) | apply k_makeFunc | refine k_pick_f (dF (by omega)) rfl) rfl ?_))
  refine WS_loop (G := (Nat)) (fun i => ps.length - i) 2199019061360 (fun i => [(22, .int .i64 i)]) (fun i w' => i ≤ ps.length ∧ Hp (Rw p a c bs).fp w w' [Rw p a c bs]) (0) ⟨rfl, trivial⟩ ⟨by omega, hH⟩ ?_
  rintro i w' σ ⟨hi, hH⟩ IH
  show WS _ _ _ _ _ (updL [(22, .int .i64 i)] _) _
  have hS1 := hH.oldS hS hd
  by_cases hlt : i < ps.length
  · obtain ⟨r, x, b, hev, hok, hb, _⟩ := ev_at hg hlt
    have hbI : b = decide ((i : Int) = (ps.length : Int) - 1) := by rw [hb]; congr 1; exact propext ⟨fun h => by omega, fun h => by omega⟩
    repeat (first | refine WS_seq ?_ | refine WS_region ?_ | refine WL_nil ?_ | refine WS_block ?_ | refine WS_skip ?_ | refine WS_yes rfl (by omega) ?_ | (refine WL_r (by first | refine k_ix rfl rfl hS1 hle (by decide) (Ty.sle rfl) (by omega) | refine k_loadC rfl hS1 hev rfl (Ty.shp rfl) | refine Run_pev rfl) rfl ?_))
    refine WL_s (H_alloc hH (Ty.zer rfl) rfl ?_)
    try clear hH
    intro w1 b6 hH
    change Hp _ _ _ [_, _] at hH
    repeat ((refine WL_r (by first | refine Run_pev rfl | apply k_makeFunc) rfl ?_))
    refine WL_s (H_storeA 1 hH rfl rfl rfl rfl rfl (evc_one _ _ _) (Ty.shp rfl) ?_)
    clear hH
    intro w2 hH
    change Hp _ _ _ [_, _] at hH
    have hB6 : Blk w2 b6 92 (evc r x b).toArray := hH.b 1 rfl
    repeat (first | refine WS_seq ?_ | refine WS_region ?_ | refine WL_nil ?_ | refine WS_block ?_ | (refine WL_r (by refine k_loadA rfl hB6 rfl (Ty.shp rfl)) rfl ?_))
    try refine WL_gyes rfl rfl rfl ?_
    refine WL_s (S_call (right_spec) rfl rfl ?_)
    rintro v w3 ⟨rfl, hE⟩
    replace hH := hH.ext0 hE
    clear hE hB6
    rw [decide_eq_true hok]
    have hB6 : Blk w3 b6 92 (evc r x b).toArray := hH.b 1 rfl
    replace hH := hH.take 1
    change Hp _ _ _ [_] at hH
    repeat (first | refine WS_seq ?_ | refine WS_region ?_ | refine WL_nil ?_ | refine WS_inBlock ?_ | refine WS_skip ?_ | refine WS_false rfl ?_ | (refine WL_r (by first | refine k_fa rfl (Ty.fld rfl rfl) | refine k_loadb rfl hB6 rfl (Ty.shp rfl) | refine k_neqbF rfl rfl (by kernel_rfl) hbI | refine Run_pev rfl | refine k_add64 rfl rfl (by omega) | refine k_sub64 rfl rfl (by omega) | refine k_len rfl (Ty.isl rfl) | apply k_makeFunc) rfl ?_))
    refine IH (i + 1) _ _ ?_ ?_ ?_ ?_
    · omega
    · exact ⟨rfl, trivial⟩
    · exact (by repeat (first | with_reducible apply Agr.refl | refine Agr.upd rfl ?_ | refine Agr.updL rfl ?_ | refine Agr.mrg rfl ?_))
    · exact ⟨by omega, hH⟩
  · clear IH
    repeat (first | refine WS_seq ?_ | refine WS_region ?_ | refine WL_nil ?_ | refine WS_block ?_ | refine WS_exit rfl ?_ | refine WS_no rfl (by omega) ?_ | (refine WL_r (by first | refine Run_pev rfl | refine k_len rfl (Ty.isl rfl) | apply k_makeFunc) rfl ?_))
    refine WS_loop (G := (Nat) × (Option Addr) × (Nat)) (fun | (j, ao, co) => ps.length - j) 18446735277616530176 (fun | (j, ao, co) => [(43, .int .i64 j)]) (fun | (j, ao, co), w' => j ≤ ps.length ∧ Hp (Rw p a c bs).fp w w' [Rw p ao co (bs ++ evB ((mk ps).take j))]) (0, a, c) ⟨rfl, trivial⟩ ⟨by omega, by simpa [evB] using hH⟩ ?_
    rintro ⟨j, ao, co⟩ w' σ ⟨hj, hH⟩ IH
    show WS _ _ _ _ _ (updL [(43, .int .i64 j)] _) _
    have hS2 := hH.oldS hS hd
    by_cases hlt : j < ps.length
    · obtain ⟨r, x, b, hev, hok, _, hnx⟩ := ev_at hg hlt
      obtain ⟨hsg, hx1, hx2⟩ := sgn_lvn hok
      have hnum := hok.num b
      simp only at hnum
      have hel := evB_le hg j
      have hel2 := evB_le hg (j + 1)
      rw [hnx, List.length_append, evb, List.length_append] at hel2
      repeat (first | refine WS_seq ?_ | refine WS_region ?_ | refine WL_nil ?_ | refine WS_block ?_ | refine WS_skip ?_ | refine WS_yes rfl (by omega) ?_ | (refine WL_r (by first | refine k_ix rfl rfl hS2 hle (by decide) (Ty.sle rfl) (by omega) | refine k_loadC rfl hS2 hev rfl (Ty.shp rfl) | refine Run_pev rfl) rfl ?_))
      refine WL_s (H_alloc hH (Ty.zer rfl) rfl ?_)
      try clear hH
      intro w1 b8 hH
      change Hp _ _ _ [_, _] at hH
      skip
      refine WL_s (H_storeA 1 hH rfl rfl rfl rfl rfl (evc_one _ _ _) (Ty.shp rfl) ?_)
      clear hH
      intro w2 hH
      change Hp _ _ _ [_, _] at hH
      have hB8 : Blk w2 b8 92 (evc r x b).toArray := hH.b 1 rfl
      have hr63 : r ≤ 63 := hok.1
      have hm1 : (2 : Int) * (r : Int) = ((2 * r : Nat) : Int) := by simp
      have hm2 : ((2 * r : Nat) : Int) + 1 = ((2 * r + 1 : Nat) : Int) := by simp
      cases b with
      | true =>
        repeat (first | refine WS_seq ?_ | refine WS_region ?_ | refine WL_nil ?_ | refine WS_true rfl ?_ | (refine WL_r (by first | refine k_fa rfl (Ty.fld rfl rfl) | refine k_loadb rfl hB8 rfl (Ty.shp rfl) | refine (k_mul64 rfl rfl (by omega)).is (congrArg (Value.int .i64) hm1) | refine (k_add64 rfl rfl (by omega)).is (congrArg (Value.int .i64) hm2) | refine Run_pev rfl) rfl ?_))
        try refine WL_gyes rfl rfl rfl ?_
        refine WL_s (S_call (rput_spec (n := 2 * r + true.toNat) (by omega) (by rw [List.length_append]; omega) (hH.at 0 rfl)) rfl rfl ?_)
        rintro v w3 ⟨rfl, a3, c3, hU⟩
        replace hH := hH.up 0 rfl hU
        clear hU
        change Hp _ _ _ [_, _] at hH
        have hB8 : Blk w3 b8 92 (evc r x true).toArray := hH.b 1 rfl
        repeat (first | refine WS_region ?_ | refine WL_nil ?_ | (refine WL_r (by first | refine k_fa rfl (Ty.fld rfl rfl) | refine k_loadb rfl hB8 rfl (Ty.shp rfl) | refine Run_pev rfl) rfl ?_))
        try refine WL_gyes rfl rfl rfl ?_
        refine WL_s (S_call (signed_spec ⟨hx1, hx2⟩) rfl rfl ?_)
        rintro v w4 ⟨rfl, rfl⟩
        repeat ((refine WL_r (by refine (k_sub64 rfl rfl (by omega)).is (congrArg (Value.int .i64) hsg)) rfl ?_))
        try refine WL_gyes rfl rfl rfl ?_
        refine WL_s (S_call (rput_spec (n := lvn x) (by omega) (by simp at hel2 ⊢; omega) (hH.at 0 rfl)) rfl rfl ?_)
        rintro v w5 ⟨rfl, a5, c5, hU⟩
        replace hH := (hH.up 0 rfl hU).take 1
        clear hU
        change Hp _ _ _ [_] at hH
        rw [List.append_assoc, List.append_assoc, show rv (2 * r + true.toNat) ++ rv (lvn x) = evb true (r, x) from rfl, ← hnx] at hH
        repeat (first | refine WS_region ?_ | refine WL_nil ?_ | refine WS_inBlock ?_ | (refine WL_r (by first | refine Run_pev rfl | refine k_add64 rfl rfl (by omega) | apply k_makeFunc) rfl ?_))
        refine IH (j + 1, a5, c5) _ _ ?_ ?_ ?_ ?_
        · simp only; omega
        · exact ⟨rfl, trivial⟩
        · exact (by repeat (first | with_reducible apply Agr.refl | refine Agr.upd rfl ?_ | refine Agr.updL rfl ?_ | refine Agr.mrg rfl ?_))
        · exact ⟨by omega, hH⟩
      | false =>
        repeat (first | refine WS_seq ?_ | refine WS_region ?_ | refine WL_nil ?_ | refine WS_skip ?_ | refine WS_false rfl ?_ | (refine WL_r (by first | refine k_fa rfl (Ty.fld rfl rfl) | refine k_loadb rfl hB8 rfl (Ty.shp rfl) | refine (k_mul64 rfl rfl (by omega)).is (congrArg (Value.int .i64) hm1) | refine Run_pev rfl) rfl ?_))
        try refine WL_gyes rfl rfl rfl ?_
        refine WL_s (S_call (rput_spec (n := 2 * r + false.toNat) (by omega) (by rw [List.length_append]; omega) (hH.at 0 rfl)) rfl rfl ?_)
        rintro v w3 ⟨rfl, a3, c3, hU⟩
        replace hH := hH.up 0 rfl hU
        clear hU
        change Hp _ _ _ [_, _] at hH
        have hB8 : Blk w3 b8 92 (evc r x false).toArray := hH.b 1 rfl
        repeat (first | refine WS_region ?_ | refine WL_nil ?_ | (refine WL_r (by first | refine k_fa rfl (Ty.fld rfl rfl) | refine k_loadb rfl hB8 rfl (Ty.shp rfl) | refine Run_pev rfl) rfl ?_))
        try refine WL_gyes rfl rfl rfl ?_
        refine WL_s (S_call (signed_spec ⟨hx1, hx2⟩) rfl rfl ?_)
        rintro v w4 ⟨rfl, rfl⟩
        repeat ((refine WL_r (by refine (k_sub64 rfl rfl (by omega)).is (congrArg (Value.int .i64) hsg)) rfl ?_))
        try refine WL_gyes rfl rfl rfl ?_
        refine WL_s (S_call (rput_spec (n := lvn x) (by omega) (by simp at hel2 ⊢; omega) (hH.at 0 rfl)) rfl rfl ?_)
        rintro v w5 ⟨rfl, a5, c5, hU⟩
        replace hH := (hH.up 0 rfl hU).take 1
        clear hU
        change Hp _ _ _ [_] at hH
        rw [List.append_assoc, List.append_assoc, show rv (2 * r + false.toNat) ++ rv (lvn x) = evb false (r, x) from rfl, ← hnx] at hH
        repeat (first | refine WS_region ?_ | refine WL_nil ?_ | refine WS_inBlock ?_ | (refine WL_r (by first | refine Run_pev rfl | refine k_add64 rfl rfl (by omega) | apply k_makeFunc) rfl ?_))
        refine IH (j + 1, a5, c5) _ _ ?_ ?_ ?_ ?_
        · simp only; omega
        · exact ⟨rfl, trivial⟩
        · exact (by repeat (first | with_reducible apply Agr.refl | refine Agr.upd rfl ?_ | refine Agr.updL rfl ?_ | refine Agr.mrg rfl ?_))
        · exact ⟨by omega, hH⟩
    · obtain rfl : j = ps.length := by omega
      rw [List.take_of_length_le (by rw [mk_len]; omega), ← bb_mk] at hH
      repeat (first | refine WS_seq ?_ | refine WS_region ?_ | refine WL_nil ?_ | refine WS_exit rfl ?_ | refine WS_no rfl (by omega) ?_ | (refine WL_r (by first | refine Run_pev rfl | apply k_makeFunc) rfl ?_))
      exact WS_ret1 Try.func30 rfl ⟨rfl, ao, co, hH.upd 0 rfl⟩
set_option maxRecDepth 20000 in
set_option maxHeartbeats 4000000 in
theorem bsize_spec {n0 c0 : Nat} {ax : Option Addr} {ps : List (Nat × Int)} {w : World} (hg : GB ps) (hn : ps.length = n0) (hS : SlA w ax (evC ps)) :
    Does Try.prog 34 #[.slice ax n0 c0] w fun v w' => v = .int .i64 ((bb ps).length : Nat) ∧ Ext [] w w' := by
  subst hn
  refine Does_of (args := [_]) Try.func34 rfl rfl Try.ntmps34 rfl ?_
  have hle := evC_len ps
  have h64 := hg.len
  repeat (first | refine WS_seq ?_ | refine WS_region ?_ | refine WL_nil ?_ | refine WS_block ?_ | (refine WL_r (by first | refine Run_pev rfl | refine k_len rfl (Ty.isl rfl) | apply k_makeFunc) rfl ?_))
  refine WS_loop (G := (Nat)) (fun i => ps.length - i) 2199023255336 (fun i => [(8, .int .i64 i), (3, .int .i64 ((evB ((mk ps).take i)).length : Nat))]) (fun i w' => i ≤ ps.length ∧ Ext [] w w') (0) ⟨rfl, rfl, trivial⟩ ⟨by omega, .refl⟩ ?_
  rintro i w' σ ⟨hi, hW⟩ IH
  show WS _ _ _ _ _ (updL [(8, .int .i64 i), (3, .int .i64 ((evB ((mk ps).take i)).length : Nat))] _) _
  have hS1 := hS.ext0 hW
  have hH := Hp.start w'
  by_cases hlt : i < ps.length
  · obtain ⟨r, x, b, hev, hok, hb, hnx⟩ := ev_at hg hlt
    obtain ⟨hsg, hx1, hx2⟩ := sgn_lvn hok
    have hn1 := hok.num true
    have hn2 := hok.num false
    simp only [Bool.toNat_true, Bool.toNat_false] at hn1 hn2
    have hel := evB_le hg i
    have hel2 := evB_le hg (i + 1)
    have hl2 : (evB ((mk ps).take (i + 1))).length = (evB ((mk ps).take i)).length + ((rv (2 * r + b.toNat)).length + (rv (lvn x)).length) := by rw [hnx, List.length_append, evb_len]
    rw [hl2] at hel2
    have s1 := rv_len (2 * r + 1)
    have s2 := rv_len (2 * r)
    have s3 := rv_len (lvn x)
    have t1 := blen_le (x := 2 * r + 1 + 1) (m := 13) (by omega)
    have t2 := blen_le (x := 2 * r + 1) (m := 13) (by omega)
    have t3 := blen_le (x := lvn x + 1) (m := 13) (by omega)
    repeat (first | refine WS_seq ?_ | refine WS_region ?_ | refine WL_nil ?_ | refine WS_block ?_ | refine WS_skip ?_ | refine WS_yes rfl (by omega) ?_ | (refine WL_r (by first | refine k_ix rfl rfl hS1 hle (by decide) (Ty.sle rfl) (by omega) | refine k_loadC rfl hS1 hev rfl (Ty.shp rfl) | refine Run_pev rfl) rfl ?_))
    refine WL_s (H_alloc hH (Ty.zer rfl) rfl ?_)
    try clear hH
    intro w1 b5 hH
    change Hp _ _ _ [_] at hH
    skip
    refine WL_s (H_storeA 0 hH rfl rfl rfl rfl rfl (evc_one _ _ _) (Ty.shp rfl) ?_)
    clear hH
    intro w2 hH
    change Hp _ _ _ [_] at hH
    have hr63 : r ≤ 63 := hok.1
    generalize hE1 : (evB ((mk ps).take i)).length = E at *
    repeat (first | refine WS_seq ?_ | refine WL_nil ?_)
    refine WS_draw Ty.mixed (fun u => Ext [] w' u ∧ Blk u b5 92 (evc r x b).toArray) 14 rfl ?_
    replace hH := hH.ext0 (Ext.drew0 (S := []))
    generalize w2.drew = u0 at *
    have hx0 : Ext [] w' u0 ∧ Blk u0 b5 92 (evc r x b).toArray := ⟨hH.ext, hH.b 0 rfl⟩
    have hm1 : (2 : Int) * (r : Int) = ((2 * r : Nat) : Int) := by simp
    have hm2 : ((2 * r : Nat) : Int) + 1 = ((2 * r + 1 : Nat) : Int) := by simp
    refine WA_take 0 rfl (by kernel_rfl) hx0 rfl rfl (fun w' hw' => by refine Run_pev rfl) ?_
    refine WA_take 1 rfl (by kernel_rfl) hx0 rfl rfl (fun w' hw' => by refine k_fa rfl (Ty.fld rfl rfl)) ?_
    refine WA_take 2 rfl (by kernel_rfl) hx0 rfl rfl (fun w' hw' => by refine k_loadb rfl hw'.2 rfl (Ty.shp rfl)) ?_
    refine WA_take 3 rfl (by kernel_rfl) hx0 rfl rfl (fun w' hw' => by refine (k_mul64 rfl rfl (by omega)).is (congrArg (Value.int .i64) hm1)) ?_
    refine WA_take 4 rfl (by kernel_rfl) hx0 rfl rfl (fun w' hw' => by refine (k_add64 rfl rfl (by omega)).is (congrArg (Value.int .i64) hm2)) ?_
    refine WA_take 6 rfl (by kernel_rfl) hx0 rfl rfl (fun w' hw' => by refine k_fa rfl (Ty.fld rfl rfl)) ?_
    refine WA_take 7 rfl (by kernel_rfl) hx0 rfl rfl (fun w' hw' => by refine k_loadb rfl hw'.2 rfl (Ty.shp rfl)) ?_
    refine WA_one 5 (by kernel_rfl) rfl rfl (S_call (rsize_spec hn1.1) rfl rfl ?_)
    rintro v u1 ⟨rfl, rfl⟩
    refine ⟨hx0, ?_⟩
    refine WA_one 8 (by kernel_rfl) rfl rfl (S_call (signed_spec ⟨hx1, hx2⟩) rfl rfl ?_)
    rintro v u1 ⟨rfl, rfl⟩
    refine ⟨hx0, ?_⟩
    refine WA_take 9 rfl (by kernel_rfl) hx0 rfl rfl (fun w' hw' => by refine (k_sub64 rfl rfl (by omega)).is (congrArg (Value.int .i64) hsg)) ?_
    refine WA_one 10 (by kernel_rfl) rfl rfl (S_call (rsize_spec hn1.2) rfl rfl ?_)
    rintro v u1 ⟨rfl, rfl⟩
    refine ⟨hx0, ?_⟩
    refine WA_take 11 rfl (by kernel_rfl) hx0 rfl rfl (fun w' hw' => by refine k_add64 rfl rfl (by omega)) ?_
    refine WA_take 12 rfl (by kernel_rfl) hx0 rfl rfl (fun w' hw' => by refine k_add64 rfl rfl (by omega)) ?_
    refine WA_take 13 rfl (by kernel_rfl) hx0 rfl rfl (fun w' hw' => by refine Run_pev rfl) ?_
    refine WA_done (by kernel_rfl) ?_
    have hB5 := hx0.2
    cases b with
    | true =>
      repeat (first | refine WS_seq ?_ | refine WS_region ?_ | refine WL_nil ?_ | refine WS_inBlock ?_ | refine WS_skip ?_ | refine WS_false rfl ?_ | (refine WL_r (by first | refine k_fa rfl (Ty.fld rfl rfl) | refine k_loadb rfl hB5 rfl (Ty.shp rfl) | refine Run_pev rfl | refine k_add64 rfl rfl (by omega) | apply k_makeFunc) rfl ?_))
      simp only [Bool.toNat_true] at hl2
      refine IH (i + 1) _ _ ?_ ?_ ?_ ?_
      · omega
      · exact ⟨rfl, congrArg (Value.int .i64) (by rw [hl2]; omega), trivial⟩
      · exact (by repeat (first | with_reducible apply Agr.refl | refine Agr.upd rfl ?_ | refine Agr.updL rfl ?_ | refine Agr.mrg rfl ?_))
      · exact ⟨by omega, hW.then0 hx0.1⟩
    | false =>
      simp only [Bool.toNat_false, Nat.add_zero] at hl2
      repeat (first | refine WS_seq ?_ | refine WS_region ?_ | refine WL_nil ?_ | refine WS_true rfl ?_ | (refine WL_r (by first | refine k_fa rfl (Ty.fld rfl rfl) | refine k_loadb rfl hB5 rfl (Ty.shp rfl) | refine Run_pev rfl | apply k_makeFunc) rfl ?_))
      refine WS_draw Ty.mixed (fun u => Ext [] w' u ∧ Blk u b5 92 (evc r x false).toArray) 13 rfl ?_
      replace hH := hH.ext0 (Ext.drew0 (S := []))
      clear hx0 hB5
      generalize u1.drew = u2 at *
      have hx0 : Ext [] w' u2 ∧ Blk u2 b5 92 (evc r x false).toArray := ⟨hH.ext, hH.b 0 rfl⟩
      refine WA_take 0 rfl (by kernel_rfl) hx0 rfl rfl (fun w' hw' => by refine Run_pev rfl) ?_
      refine WA_take 1 rfl (by kernel_rfl) hx0 rfl rfl (fun w' hw' => by refine k_fa rfl (Ty.fld rfl rfl)) ?_
      refine WA_take 2 rfl (by kernel_rfl) hx0 rfl rfl (fun w' hw' => by refine k_loadb rfl hw'.2 rfl (Ty.shp rfl)) ?_
      refine WA_take 3 rfl (by kernel_rfl) hx0 rfl rfl (fun w' hw' => by refine (k_mul64 rfl rfl (by omega)).is (congrArg (Value.int .i64) hm1)) ?_
      refine WA_take 5 rfl (by kernel_rfl) hx0 rfl rfl (fun w' hw' => by refine k_fa rfl (Ty.fld rfl rfl)) ?_
      refine WA_take 6 rfl (by kernel_rfl) hx0 rfl rfl (fun w' hw' => by refine k_loadb rfl hw'.2 rfl (Ty.shp rfl)) ?_
      refine WA_take 7 rfl (by kernel_rfl) hx0 rfl rfl (fun w' hw' => by refine (k_mul64 rfl rfl (by omega)).is (congrArg (Value.int .i64) hm1)) ?_
      refine WA_take 8 rfl (by kernel_rfl) hx0 rfl rfl (fun w' hw' => by refine (k_add64 rfl rfl (by omega)).is (congrArg (Value.int .i64) hm2)) ?_
      refine WA_one 4 (by kernel_rfl) rfl rfl (S_call (rsize_spec hn2.1) rfl rfl ?_)
      rintro v u1 ⟨rfl, rfl⟩
      refine ⟨hx0, ?_⟩
      refine WA_one 9 (by kernel_rfl) rfl rfl (S_call (rsize_spec hn1.1) rfl rfl ?_)
      rintro v u1 ⟨rfl, rfl⟩
      refine ⟨hx0, ?_⟩
      simp only [Nat.add_zero]
      refine WA_take 10 rfl (by kernel_rfl) hx0 rfl rfl (fun w' hw' => by refine k_sub64 rfl rfl (by omega)) ?_
      refine WA_take 11 rfl (by kernel_rfl) hx0 rfl rfl (fun w' hw' => by refine k_add64 rfl rfl (by omega)) ?_
      refine WA_take 12 rfl (by kernel_rfl) hx0 rfl rfl (fun w' hw' => by refine Run_pev rfl) ?_
      refine WA_done (by kernel_rfl) ?_
      repeat (first | refine WS_region ?_ | refine WL_nil ?_ | refine WS_inBlock ?_ | (refine WL_r (by first | refine Run_pev rfl | refine k_add64 rfl rfl (by omega) | apply k_makeFunc) rfl ?_))
      refine IH (i + 1) _ _ ?_ ?_ ?_ ?_
      · omega
      · exact ⟨rfl, congrArg (Value.int .i64) (by rw [hl2]; omega), trivial⟩
      · exact (by repeat (first | with_reducible apply Agr.refl | refine Agr.upd rfl ?_ | refine Agr.updL rfl ?_ | refine Agr.mrg rfl ?_))
      · exact ⟨by omega, hW.then0 hx0.1⟩
  · obtain rfl : i = ps.length := by omega
    rw [List.take_of_length_le (by rw [mk_len]; omega), ← bb_mk]
    repeat (first | refine WS_seq ?_ | refine WS_region ?_ | refine WL_nil ?_ | refine WS_exit rfl ?_ | refine WS_no rfl (by omega) ?_ | (refine WL_r (by first | refine Run_pev rfl | apply k_makeFunc) rfl ?_))
    exact WS_ret1 Try.func34 rfl ⟨rfl, hW⟩
end Go.Proofs.Ytnamafelcjgjfaa
