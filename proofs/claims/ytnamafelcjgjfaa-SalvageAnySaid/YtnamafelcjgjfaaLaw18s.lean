/- Layer 18's blocks by small numbers: their events; no condition. -/
import Derived.Test.YtnamafelcjgjfaaSh
import Derived.Test.YtnamafelcjgjfaaBlkPut
import Derived.Test.YtnamafelcjgjfaaSparse
namespace Go.Proofs.Ytnamafelcjgjfaa
open Go Go.K Go.P Go.RowKit Go.Proofs
/-- A block by small numbers. -/
structure SM where
  k : Nat
  s : Nat
  b : Bool
structure SM.ok (m : SM) : Prop where
  k : m.k < 18446744073709551616
  s : m.s < 4294967296
def SM.cells (m : SM) : List Value := [.int .u64 m.k, .int .u32 m.s, .bool m.b]
theorem SM.one (m : SM) : ∀ u ∈ m.cells.toArray.toList, u.oneCell' = true := by
  intro u hu
  simp [SM.cells] at hu
  rcases hu with rfl | rfl | rfl <;> rfl
/-- A list of numbers in bounds that may be levels. -/
def Lv (xs : List Int) : Prop := xs.length = 64 ∧ ∀ x ∈ xs, -2047 ≤ x ∧ x ≤ 2047
theorem Lv.set {xs : List Int} (h : Lv xs) (i : Nat) {x : Int} (hx : -2047 ≤ x ∧ x ≤ 2047) : Lv (xs.set i x) :=
  ⟨by rw [List.length_set]; exact h.1, fun y hy => by
    rcases List.mem_or_eq_of_mem_set hy with h1 | h1
    · exact h.2 y h1
    · subst h1; exact hx⟩
set_option maxRecDepth 20000 in
set_option maxHeartbeats 4000000 in
theorem events_spec {m : SM} (hm : m.ok) {w : World} : Does Try.prog 29 #[.agg m.cells.toArray] w fun v w' =>
    ∃ ps a' c', (ps = [] ∨ GB ps) ∧ v = .slice a' ps.length c' ∧ New (Re a' ps.length c' (evC ps)) w w' := by
  refine Does_of (args := [_]) Try.func29 rfl rfl Try.ntmps29 rfl ?_
  obtain ⟨k, s, b⟩ := m
  obtain ⟨hk, hs⟩ := hm
  simp only at hk hs
  have hH := Hp.start w
  repeat (first | refine WS_seq ?_ | refine WS_region ?_)
  refine WL_s (H_box (cs := (SM.cells ⟨k, s, b⟩).toArray) hH rfl rfl rfl ?_)
  try clear hH
  intro w1 b1 hH
  change Hp _ _ _ [_] at hH
  repeat (first | refine WS_seq ?_ | refine WS_region ?_ | refine WL_nil ?_ | (refine WL_r (by refine Run_pev rfl) rfl ?_))
  refine WL_s (H_alloc hH (Ty.zer rfl) rfl ?_)
  try clear hH
  intro w2 b3 hH
  change Hp _ _ _ [_, _] at hH
  have hB : Blk w2 b1 59 (SM.cells ⟨k, s, b⟩).toArray := hH.b 0 rfl
  repeat (first | refine WS_seq ?_ | refine WS_region ?_ | refine WL_nil ?_ | refine WS_block ?_ | (refine WL_r (by first | refine k_fa rfl (Ty.fld rfl rfl) | refine k_loadb rfl hB rfl (Ty.shp rfl) | refine Run_pev rfl | apply k_makeFunc) rfl ?_))
  clear hB
  refine WS_loop (G := (Nat) × (Nat) × (List Int)) (fun | (i, n, xs) => 64 - i) 2147483440 (fun | (i, n, xs) => [(8, .int .i64 i), (4, .int .u32 n)]) (fun | (i, n, xs), w' => i ≤ 64 ∧ n < 4294967296 ∧ Lv xs ∧ Hp [] w w' [Rb b1 59 (SM.cells ⟨k, s, b⟩).toArray, Rb b3 100 (xs.map I).toArray]) (0, s, List.replicate 64 0) ⟨rfl, rfl, trivial⟩ ⟨by omega, hs, ⟨rfl, fun x hx => by simp at hx; omega⟩, hH⟩ ?_
  rintro ⟨i, n, xs⟩ w' σ ⟨hi, hn, hxs, hH⟩ IH
  show WS _ _ _ _ _ (updL [(8, .int .i64 i), (4, .int .u32 n)] _) _
  by_cases hlt : i < 64
  · have hB : Blk w' b1 59 (SM.cells ⟨k, s, b⟩).toArray := hH.b 0 rfl
    obtain ⟨n2, hn2⟩ : ∃ n2, (n * 1664525 % 4294967296 + 1013904223) % 4294967296 = n2 := ⟨_, rfl⟩
    have hlt2 : n2 < 4294967296 := by omega
    obtain ⟨h16, hh⟩ : ∃ h16, n2 / 2 ^ 16 = h16 := ⟨_, rfl⟩
    have hh2 : h16 < 65536 := by omega
    have hlx : (xs.map I).length = 64 := by rw [List.length_map, hxs.1]
    have hr1 : (h16 : Int) % 9 < 9 ∧ 0 ≤ (h16 : Int) % 9 := by omega
    have hr2 : (h16 : Int) % 4095 < 4095 ∧ 0 ≤ (h16 : Int) % 4095 := by omega
    repeat (first | refine WS_seq ?_ | refine WS_region ?_ | refine WL_nil ?_ | refine WS_block ?_ | refine WS_skip ?_ | refine WS_yes rfl (by omega) ?_ | (refine WL_r (by first | refine (k_mulu (q := .u32) rfl rfl rfl).is (v' := .int .u32 ((n * 1664525 % 4294967296 : Nat) : Int)) rfl | refine (k_addu (q := .u32) rfl rfl rfl).is (congrArg (fun n : Nat => Value.int .u32 (n : Int)) hn2) | refine (k_shr (q := .u32) (n := 16) rfl rfl (fit32 hlt2)).is (congrArg (fun n : Nat => Value.int .u32 (n : Int)) hh) | refine k_ixa1 rfl rfl (Ty.arr rfl) (by omega) | refine Run_pev rfl | refine k_sub64 rfl rfl (by omega) | refine k_rem rfl rfl (by omega) | apply k_makeFunc | refine k_convI rfl rfl rfl (by omega)) rfl ?_))
    refine WL_s (H_storeB 1 (v := I ((h16 : Int) % 9 - 4)) hH rfl rfl rfl (by rw [hlx]; omega) rfl (Ty.shp rfl) ?_)
    clear hH
    intro w3 hH
    change Hp _ _ _ [_, _] at hH
    rw [← List.map_set] at hH
    have hxs2 := hxs.set (Int.toNat i) (x := (h16 : Int) % 9 - 4) (by omega)
    generalize xs.set (Int.toNat i) ((h16 : Int) % 9 - 4) = ys at *
    have hB2 : Blk w3 b1 59 (SM.cells ⟨k, s, b⟩).toArray := hH.b 0 rfl
    cases b with
    | false =>
      repeat (first | refine WS_seq ?_ | refine WS_region ?_ | refine WL_nil ?_ | refine WS_inBlock ?_ | refine WS_skip ?_ | refine WS_false rfl ?_ | (refine WL_r (by first | refine k_fa rfl (Ty.fld rfl rfl) | refine k_loadb rfl hB2 rfl (Ty.shp rfl) | refine Run_pev rfl | refine k_add64 rfl rfl (by omega) | apply k_makeFunc) rfl ?_))
      refine IH (i + 1, n2, ys) _ _ ?_ ?_ ?_ ?_
      · simp only; omega
      · exact ⟨rfl, rfl, trivial⟩
      · exact (by repeat (first | with_reducible apply Agr.refl | refine Agr.upd rfl ?_ | refine Agr.updL rfl ?_ | refine Agr.mrg rfl ?_))
      · exact ⟨by omega, hlt2, hxs2, hH⟩
    | true =>
      have hly : (ys.map I).length = 64 := by rw [List.length_map, hxs2.1]
      repeat (first | refine WS_seq ?_ | refine WS_region ?_ | refine WL_nil ?_ | refine WS_true rfl ?_ | (refine WL_r (by first | refine k_fa rfl (Ty.fld rfl rfl) | refine (k_shr (q := .u32) (n := 16) rfl rfl (fit32 hlt2)).is (congrArg (fun n : Nat => Value.int .u32 (n : Int)) hh) | refine k_ixa1 rfl rfl (Ty.arr rfl) (by omega) | refine k_loadb rfl hB2 rfl (Ty.shp rfl) | refine Run_pev rfl | refine k_sub64 rfl rfl (by omega) | refine k_rem rfl rfl (by omega) | apply k_makeFunc | refine k_convI rfl rfl rfl (by omega)) rfl ?_))
      refine WL_s (H_storeB 1 (v := I ((h16 : Int) % 4095 - 2047)) hH rfl rfl rfl (by rw [hly]; omega) rfl (Ty.shp rfl) ?_)
      clear hH
      intro w4 hH
      change Hp _ _ _ [_, _] at hH
      rw [← List.map_set] at hH
      have hxs3 := hxs2.set (Int.toNat i) (x := (h16 : Int) % 4095 - 2047) (by omega)
      generalize ys.set (Int.toNat i) ((h16 : Int) % 4095 - 2047) = zs at *
      repeat (first | refine WS_region ?_ | refine WL_nil ?_ | refine WS_inBlock ?_ | (refine WL_r (by first | refine Run_pev rfl | refine k_add64 rfl rfl (by omega) | apply k_makeFunc) rfl ?_))
      refine IH (i + 1, n2, zs) _ _ ?_ ?_ ?_ ?_
      · simp only; omega
      · exact ⟨rfl, rfl, trivial⟩
      · exact (by repeat (first | with_reducible apply Agr.refl | refine Agr.upd rfl ?_ | refine Agr.updL rfl ?_ | refine Agr.mrg rfl ?_))
      · exact ⟨by omega, hlt2, hxs3, hH⟩
  · have hB : Blk w' b1 59 (SM.cells ⟨k, s, b⟩).toArray := hH.b 0 rfl
    have hB3 : Blk w' b3 100 (xs.map I).toArray := hH.b 1 rfl
    have hlx : (xs.map I).toArray.size = 64 := by simp [hxs.1]
    repeat (first | refine WS_seq ?_ | refine WS_region ?_ | refine WL_nil ?_ | refine WS_exit rfl ?_ | refine WS_no rfl (by omega) ?_ | (refine WL_r (by first | refine k_fa rfl (Ty.fld rfl rfl) | refine k_loadA rfl hB3 hlx (Ty.shp rfl) | refine k_loadb rfl hB rfl (Ty.shp rfl) | refine Run_pev rfl) rfl ?_))
    try refine WL_gyes rfl rfl rfl ?_
    refine WL_s (S_call (sparse_spec hxs.1 hk) rfl rfl ?_)
    rintro v w3 ⟨rfl, hE⟩
    replace hH := hH.ext0 hE
    clear hE
    have hsl := spar_len k xs
    rw [hxs.1] at hsl
    have hpg := pairs_good hsl (spar_in k xs)
    generalize spar k xs = ss at *
    skip
    try refine WL_gyes rfl rfl rfl ?_
    refine WL_s (S_call (of_spec (f := 0) hsl (by decide)) rfl rfl ?_)
    rintro v w4 ⟨a4, c4, rfl, hO, hF, hE⟩
    have hN : New (Re a4 (pairs 0 (ss.drop 0)).length c4 (evC (pairs 0 (ss.drop 0)))) w3 w4 := ⟨hE, hO, hF⟩
    replace hH := hH.nu hN
    repeat (first | refine WL_nil ?_ | (refine WL_r (by first | refine Run_pev rfl | apply k_makeFunc) rfl ?_))
    refine WS_ret1 Try.func29 rfl ⟨pairs 0 (ss.drop 0), a4, c4, ?_, rfl, hH.new1 2 rfl⟩
    rw [List.drop_zero]
    by_cases h0 : pairs 0 ss = []
    · exact .inl h0
    · exact .inr ⟨h0, hpg.1, hpg.2⟩
end Go.Proofs.Ytnamafelcjgjfaa
