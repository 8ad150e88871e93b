/- The walks of the reference's numbers as bits, bytes as bits; no condition but sizes of memory. -/
import Derived.Test.YtccnhnijglnbmaaSh
import Derived.Test.YtccnhnijglnbmaaTy
import Derived.Test.YtccnhnijglnbmaaK15
import Derived.Test.YtccnhnijglnbmaaPBits
namespace Go.Proofs.Ytccnhnijglnbmaa
open Go Go.K Go.P Go.RowKit Go.Proofs
theorem set_rep {α : Type} (i : Nat) (z x : α) (tl : List α) : (List.replicate (i + 1) z ++ tl).set i x = List.replicate i z ++ x :: tl := by
  rw [List.replicate_succ', List.append_assoc, List.set_append_right (h := by simp)]
  simp
set_option maxHeartbeats 1000000 in
theorem rbits_spec {n s : Nat} {sz : Int} {w : World} (hn : n < 18446744073709551616) (hsz : -9223372036854775808 ≤ sz ∧ sz ≤ 9223372036854775807) (hs : min (max sz 0) 64 = (s : Int)) :
    Does Try.prog 34 #[.int .u64 n, .int .i64 sz] w fun v w' => ∃ a c, v = .slice a s c ∧ New (Ro 5 1 a s c ((nbits n s).map B)) w w' := by
  refine Does_of (args := [_, _]) Try.func34 rfl rfl Try.ntmps34 rfl ?_
  have hs64 : s ≤ 64 := by omega
  rcases (show 64 < sz ∨ sz < 0 ∨ (0 ≤ sz ∧ sz ≤ 64) by omega) with h | h | h
  · skip
    have hH := Hp.start w
    repeat (first | refine WS_seq ?_ | refine WS_region ?_ | refine WL_nil ?_ | refine WS_skip ?_ | refine WS_false rfl ?_ | refine WS_yes rfl (by omega) ?_ | (refine WL_r (by refine Run_pev rfl) rfl ?_))
    refine WL_keep [(0, .int .u64 n), (1, .int .i64 s), (11, .int .i64 s)] ⟨rfl, congrArg (Value.int .i64) (by omega), congrArg (Value.int .i64) (by omega), trivial⟩ (fun σ0 => ?_)
    refine WL_s (H_make (n := s) hH (Ty.sle rfl) (Ty.zer rfl) (Ty.byt rfl) rfl rfl rfl (by omega) (by omega) (by simp only [maxLen]; omega) rfl ?_)
    clear hH
    intro _ b hH
    replace hH := hH.made 0 rfl (by omega)
    simp only [List.nil_append, List.set_cons_zero] at hH
    repeat (first | refine WS_seq ?_ | refine WS_region ?_ | refine WL_nil ?_ | refine WS_block ?_ | (refine WL_r (by first | refine Run_pev rfl | refine k_sub64 rfl rfl (by omega) | apply k_makeFunc) rfl ?_))
    refine WS_loop (G := (Nat) × (Nat) × (List Nat)) (fun | (j, m, tl) => j) 134185025 (fun | (j, m, tl) => [(0, .int .u64 m), (6, .int .i64 ((j : Int) - 1))]) (fun | (j, m, tl), w' => j ≤ s ∧ m < 18446744073709551616 ∧ nbits n s = nbits m j ++ tl ∧ tl.length + j = s ∧ Hp [] w w' [Ro 5 1 (some ⟨b, 0, none⟩) s s ((List.replicate j 0 ++ tl).map B)]) (s, n, []) ⟨rfl, rfl, trivial⟩ ⟨by omega, hn, by simp, by simp, by rw [List.append_nil, List.map_replicate]; exact hH⟩ ?_
    rintro ⟨j, m, tl⟩ w' σ ⟨hj, hm, hb, hl, hH⟩ IH
    show WS _ _ _ _ _ (updL [(0, .int .u64 m), (6, .int .i64 ((j : Int) - 1))] _) _
    by_cases hlt : 0 < j
    · obtain ⟨i, rfl⟩ : ∃ i, j = i + 1 := ⟨j - 1, by omega⟩
      simp only [nbits, List.append_assoc, List.singleton_append] at hb
      repeat (first | refine WS_seq ?_ | refine WS_region ?_ | refine WL_nil ?_ | refine WS_block ?_ | refine WS_skip ?_ | refine WS_yes rfl (by omega) ?_ | (refine WL_r (by first | refine k_remu (n := 2) rfl rfl (by decide) | refine k_ix1S rfl rfl (Ty.sle rfl) (by omega) | refine Run_pev rfl | apply k_makeFunc | refine k_conv8 rfl rfl rfl (by omega)) rfl ?_))
      refine WL_s (H_storeO 0 (v := B (m % 2)) hH rfl rfl rfl (by omega) rfl (Ty.shp rfl) ?_)
      clear hH
      intro _ hH
      have e : (((i + 1 : Nat) : Int) - 1).toNat = i := by omega
      rw [e] at hH
      simp only [List.set_cons_zero] at hH
      rw [← List.map_set, set_rep] at hH
      repeat (first | refine WS_region ?_ | refine WL_nil ?_ | refine WS_inBlock ?_ | (refine WL_r (by first | refine k_quou (n := 2) rfl rfl (by decide) (fit64 hm) | refine Run_pev rfl | refine k_sub64 rfl rfl (by omega) | apply k_makeFunc) rfl ?_))
      refine IH (i, m / 2, m % 2 :: tl) _ _ ?_ ?_ ?_ ?_
      · simp only; omega
      · exact ⟨rfl, congrArg (Value.int .i64) (by omega), trivial⟩
      · exact (by repeat (first | with_reducible apply Agr.refl | refine Agr.upd rfl ?_ | refine Agr.updL rfl ?_ | refine Agr.mrg rfl ?_))
      · exact ⟨by omega, by omega, hb, by simp; omega, hH⟩
    · obtain rfl : j = 0 := by omega
      have hb' : nbits n s = tl := by simpa [nbits] using hb
      simp only [List.replicate_zero, List.nil_append] at hH
      rw [← hb'] at hH
      repeat (first | refine WS_seq ?_ | refine WS_region ?_ | refine WL_nil ?_ | refine WS_exit rfl ?_ | refine WS_false rfl ?_ | (refine WL_r (by first | refine Run_pev rfl | apply k_makeFunc) rfl ?_))
      exact WS_ret1 Try.func34 rfl ⟨_, _, rfl, hH.new1 0 rfl⟩
  · skip
    have hH := Hp.start w
    repeat (first | refine WS_seq ?_ | refine WS_region ?_ | refine WL_nil ?_ | refine WS_skip ?_ | refine WS_yes rfl (by omega) ?_ | refine WS_no rfl (by omega) ?_ | (refine WL_r (by refine Run_pev rfl) rfl ?_))
    refine WL_keep [(0, .int .u64 n), (1, .int .i64 s), (11, .int .i64 s)] ⟨rfl, congrArg (Value.int .i64) (by omega), congrArg (Value.int .i64) (by omega), trivial⟩ (fun σ0 => ?_)
    refine WL_s (H_make (n := s) hH (Ty.sle rfl) (Ty.zer rfl) (Ty.byt rfl) rfl rfl rfl (by omega) (by omega) (by simp only [maxLen]; omega) rfl ?_)
    clear hH
    intro _ b hH
    replace hH := hH.made 0 rfl (by omega)
    simp only [List.nil_append, List.set_cons_zero] at hH
    repeat (first | refine WS_seq ?_ | refine WS_region ?_ | refine WL_nil ?_ | refine WS_block ?_ | (refine WL_r (by first | refine Run_pev rfl | refine k_sub64 rfl rfl (by omega) | apply k_makeFunc) rfl ?_))
    refine WS_loop (G := (Nat) × (Nat) × (List Nat)) (fun | (j, m, tl) => j) 134185025 (fun | (j, m, tl) => [(0, .int .u64 m), (6, .int .i64 ((j : Int) - 1))]) (fun | (j, m, tl), w' => j ≤ s ∧ m < 18446744073709551616 ∧ nbits n s = nbits m j ++ tl ∧ tl.length + j = s ∧ Hp [] w w' [Ro 5 1 (some ⟨b, 0, none⟩) s s ((List.replicate j 0 ++ tl).map B)]) (s, n, []) ⟨rfl, rfl, trivial⟩ ⟨by omega, hn, by simp, by simp, by rw [List.append_nil, List.map_replicate]; exact hH⟩ ?_
    rintro ⟨j, m, tl⟩ w' σ ⟨hj, hm, hb, hl, hH⟩ IH
    show WS _ _ _ _ _ (updL [(0, .int .u64 m), (6, .int .i64 ((j : Int) - 1))] _) _
    by_cases hlt : 0 < j
    · obtain ⟨i, rfl⟩ : ∃ i, j = i + 1 := ⟨j - 1, by omega⟩
      simp only [nbits, List.append_assoc, List.singleton_append] at hb
      repeat (first | refine WS_seq ?_ | refine WS_region ?_ | refine WL_nil ?_ | refine WS_block ?_ | refine WS_skip ?_ | refine WS_yes rfl (by omega) ?_ | (refine WL_r (by first | refine k_remu (n := 2) rfl rfl (by decide) | refine k_ix1S rfl rfl (Ty.sle rfl) (by omega) | refine Run_pev rfl | apply k_makeFunc | refine k_conv8 rfl rfl rfl (by omega)) rfl ?_))
      refine WL_s (H_storeO 0 (v := B (m % 2)) hH rfl rfl rfl (by omega) rfl (Ty.shp rfl) ?_)
      clear hH
      intro _ hH
      have e : (((i + 1 : Nat) : Int) - 1).toNat = i := by omega
      rw [e] at hH
      simp only [List.set_cons_zero] at hH
      rw [← List.map_set, set_rep] at hH
      repeat (first | refine WS_region ?_ | refine WL_nil ?_ | refine WS_inBlock ?_ | (refine WL_r (by first | refine k_quou (n := 2) rfl rfl (by decide) (fit64 hm) | refine Run_pev rfl | refine k_sub64 rfl rfl (by omega) | apply k_makeFunc) rfl ?_))
      refine IH (i, m / 2, m % 2 :: tl) _ _ ?_ ?_ ?_ ?_
      · simp only; omega
      · exact ⟨rfl, congrArg (Value.int .i64) (by omega), trivial⟩
      · exact (by repeat (first | with_reducible apply Agr.refl | refine Agr.upd rfl ?_ | refine Agr.updL rfl ?_ | refine Agr.mrg rfl ?_))
      · exact ⟨by omega, by omega, hb, by simp; omega, hH⟩
    · obtain rfl : j = 0 := by omega
      have hb' : nbits n s = tl := by simpa [nbits] using hb
      simp only [List.replicate_zero, List.nil_append] at hH
      rw [← hb'] at hH
      repeat (first | refine WS_seq ?_ | refine WS_region ?_ | refine WL_nil ?_ | refine WS_exit rfl ?_ | refine WS_false rfl ?_ | (refine WL_r (by first | refine Run_pev rfl | apply k_makeFunc) rfl ?_))
      exact WS_ret1 Try.func34 rfl ⟨_, _, rfl, hH.new1 0 rfl⟩
  · skip
    have hH := Hp.start w
    repeat (first | refine WS_seq ?_ | refine WS_region ?_ | refine WL_nil ?_ | refine WS_skip ?_ | refine WS_no rfl (by omega) ?_ | (refine WL_r (by refine Run_pev rfl) rfl ?_))
    refine WL_keep [(0, .int .u64 n), (1, .int .i64 s), (11, .int .i64 s)] ⟨rfl, congrArg (Value.int .i64) (by omega), congrArg (Value.int .i64) (by omega), trivial⟩ (fun σ0 => ?_)
    refine WL_s (H_make (n := s) hH (Ty.sle rfl) (Ty.zer rfl) (Ty.byt rfl) rfl rfl rfl (by omega) (by omega) (by simp only [maxLen]; omega) rfl ?_)
    clear hH
    intro _ b hH
    replace hH := hH.made 0 rfl (by omega)
    simp only [List.nil_append, List.set_cons_zero] at hH
    repeat (first | refine WS_seq ?_ | refine WS_region ?_ | refine WL_nil ?_ | refine WS_block ?_ | (refine WL_r (by first | refine Run_pev rfl | refine k_sub64 rfl rfl (by omega) | apply k_makeFunc) rfl ?_))
    refine WS_loop (G := (Nat) × (Nat) × (List Nat)) (fun | (j, m, tl) => j) 134185025 (fun | (j, m, tl) => [(0, .int .u64 m), (6, .int .i64 ((j : Int) - 1))]) (fun | (j, m, tl), w' => j ≤ s ∧ m < 18446744073709551616 ∧ nbits n s = nbits m j ++ tl ∧ tl.length + j = s ∧ Hp [] w w' [Ro 5 1 (some ⟨b, 0, none⟩) s s ((List.replicate j 0 ++ tl).map B)]) (s, n, []) ⟨rfl, rfl, trivial⟩ ⟨by omega, hn, by simp, by simp, by rw [List.append_nil, List.map_replicate]; exact hH⟩ ?_
    rintro ⟨j, m, tl⟩ w' σ ⟨hj, hm, hb, hl, hH⟩ IH
    show WS _ _ _ _ _ (updL [(0, .int .u64 m), (6, .int .i64 ((j : Int) - 1))] _) _
    by_cases hlt : 0 < j
    · obtain ⟨i, rfl⟩ : ∃ i, j = i + 1 := ⟨j - 1, by omega⟩
      simp only [nbits, List.append_assoc, List.singleton_append] at hb
      repeat (first | refine WS_seq ?_ | refine WS_region ?_ | refine WL_nil ?_ | refine WS_block ?_ | refine WS_skip ?_ | refine WS_yes rfl (by omega) ?_ | (refine WL_r (by first | refine k_remu (n := 2) rfl rfl (by decide) | refine k_ix1S rfl rfl (Ty.sle rfl) (by omega) | refine Run_pev rfl | apply k_makeFunc | refine k_conv8 rfl rfl rfl (by omega)) rfl ?_))
      refine WL_s (H_storeO 0 (v := B (m % 2)) hH rfl rfl rfl (by omega) rfl (Ty.shp rfl) ?_)
      clear hH
      intro _ hH
      have e : (((i + 1 : Nat) : Int) - 1).toNat = i := by omega
      rw [e] at hH
      simp only [List.set_cons_zero] at hH
      rw [← List.map_set, set_rep] at hH
      repeat (first | refine WS_region ?_ | refine WL_nil ?_ | refine WS_inBlock ?_ | (refine WL_r (by first | refine k_quou (n := 2) rfl rfl (by decide) (fit64 hm) | refine Run_pev rfl | refine k_sub64 rfl rfl (by omega) | apply k_makeFunc) rfl ?_))
      refine IH (i, m / 2, m % 2 :: tl) _ _ ?_ ?_ ?_ ?_
      · simp only; omega
      · exact ⟨rfl, congrArg (Value.int .i64) (by omega), trivial⟩
      · exact (by repeat (first | with_reducible apply Agr.refl | refine Agr.upd rfl ?_ | refine Agr.updL rfl ?_ | refine Agr.mrg rfl ?_))
      · exact ⟨by omega, by omega, hb, by simp; omega, hH⟩
    · obtain rfl : j = 0 := by omega
      have hb' : nbits n s = tl := by simpa [nbits] using hb
      simp only [List.replicate_zero, List.nil_append] at hH
      rw [← hb'] at hH
      repeat (first | refine WS_seq ?_ | refine WS_region ?_ | refine WL_nil ?_ | refine WS_exit rfl ?_ | refine WS_false rfl ?_ | (refine WL_r (by first | refine Run_pev rfl | apply k_makeFunc) rfl ?_))
      exact WS_ret1 Try.func34 rfl ⟨_, _, rfl, hH.new1 0 rfl⟩
set_option maxHeartbeats 1000000 in
theorem rof_spec {a : Option Addr} {n cap : Nat} {l : List Nat} {w : World} (hS : SlA w a (l.map B)) (hl : Byt l) (hn : l.length = n) (hlen : n ≤ 1099511627776) :
    Does Try.prog 23 #[.slice a n cap] w fun v w' => ∃ a' c', v = .slice a' (8 * n) c' ∧ New (Ro 5 1 a' (8 * n) c' ((ofB l).map B)) w w' := by
  subst hn
  refine Does_of (args := [_]) Try.func23 rfl rfl Try.ntmps23 rfl ?_
  have hH := (Hp.start w).nu (New.nilO (e := 5) (sz := 1))
  repeat (first | refine WS_seq ?_ | refine WS_region ?_ | refine WL_nil ?_ | refine WS_block ?_ | (refine WL_r (by first | refine Run_pev rfl | apply k_makeFunc) rfl ?_))
  refine WS_loop (G := (Nat) × (Option Addr) × (Nat)) (fun | (k, a1, c1) => l.length - k) 524280 (fun | (k, a1, c1) => [(4, .int .i64 k), (3, .slice a1 (8 * k) c1)]) (fun | (k, a1, c1), w' => k ≤ l.length ∧ Hp [] w w' [Ro 5 1 a1 (8 * k) c1 ((ofB (l.take k)).map B)]) (0, none, 0) ⟨rfl, rfl, trivial⟩ ⟨by omega, hH⟩ ?_
  rintro ⟨k, a1, c1⟩ w' σ ⟨hk, hH⟩ IH
  show WS _ _ _ _ _ (updL [(4, .int .i64 k), (3, .slice a1 (8 * k) c1)] _) _
  by_cases hlt : k < l.length
  · have hv : (l.map B)[k]? = some (B l[k]) := by simp [hlt]
    have hc : l[k] < 256 := hl _ (List.getElem_mem hlt)
    have e1 : (ofB (l.take (k + 1))).map B = (ofB (l.take k)).map B ++ (nbits l[k] 8).map B := by rw [List.take_succ_eq_append_getElem hlt, ofB_snoc, List.map_append]
    generalize l[k] = c at *
    have hSk := hH.old hS
    repeat (first | refine WS_seq ?_ | refine WS_region ?_ | refine WL_nil ?_ | refine WS_block ?_ | refine WS_skip ?_ | refine WS_yes rfl (by omega) ?_ | (refine WL_r (by first | refine k_ix1 rfl rfl hSk (by simp) (Ty.sle rfl) (by omega) | refine k_loads rfl hSk hv (Ty.shp rfl) | refine Run_pev rfl | refine k_len rfl (Ty.isl rfl) | refine k_conv64 rfl rfl rfl (by omega)) rfl ?_))
    try refine WL_gyes rfl rfl rfl ?_
    refine WL_s (S_call (rbits_spec (s := 8) (show c < 18446744073709551616 by omega) (by omega) (by decide)) rfl rfl ?_)
    rintro v w2 ⟨a2, c2, rfl, hN⟩
    replace hH := hH.nu hN
    have hnl : ((nbits c 8).map B).length = 8 * 1 := by simp [nbits_len]
    refine WL_s (H_append 0 hH rfl (Ty.sle rfl) (Ty.zer rfl) rfl (Ty.byt rfl) (by decide) rfl rfl ((hH.o 1 rfl).sl) hnl (by simp) (by omega) (by simp only [maxLen]; omega) rfl ?_)
    clear hH hN
    intro _ a3 c3 hH
    replace hH := hH.take 1
    simp only [List.cons_append, List.nil_append, List.set_cons_zero, List.take_succ_cons, List.take_zero] at hH
    repeat (first | refine WS_region ?_ | refine WL_nil ?_ | refine WS_inBlock ?_ | (refine WL_r (by first | refine Run_pev rfl | refine k_add64 rfl rfl (by omega) | apply k_makeFunc) rfl ?_))
    refine IH (k + 1, a3, c3) _ _ ?_ ?_ ?_ ?_
    · simp only; omega
    · exact ⟨rfl, rfl, trivial⟩
    · exact (by repeat (first | with_reducible apply Agr.refl | refine Agr.upd rfl ?_ | refine Agr.updL rfl ?_ | refine Agr.mrg rfl ?_))
    · exact ⟨by omega, by rw [e1]; exact hH⟩
  · obtain rfl : k = l.length := by omega
    rw [List.take_length] at hH
    repeat (first | refine WS_seq ?_ | refine WS_region ?_ | refine WL_nil ?_ | refine WS_exit rfl ?_ | refine WS_no rfl (by omega) ?_ | (refine WL_r (by first | refine Run_pev rfl | refine k_len rfl (Ty.isl rfl) | apply k_makeFunc) rfl ?_))
    exact WS_ret1 Try.func23 rfl ⟨_, _, rfl, hH.new1 0 rfl⟩
end Go.Proofs.Ytccnhnijglnbmaa
