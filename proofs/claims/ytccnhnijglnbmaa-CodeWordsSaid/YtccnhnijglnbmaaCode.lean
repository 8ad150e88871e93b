/- The walk of a code's put: a word into the tree; no condition but sizes of memory. -/
import Derived.Test.YtccnhnijglnbmaaSh
import Derived.Test.YtccnhnijglnbmaaPCode
import Derived.Test.YtccnhnijglnbmaaBits2
import Derived.Test.YtccnhnijglnbmaaK17
import Derived.Test.YtccnhnijglnbmaaK23
import Derived.Test.YtccnhnijglnbmaaK27
namespace Go.Proofs.Ytccnhnijglnbmaa
open Go Go.K Go.P Go.RowKit Go.Proofs
abbrev iv (T : List Int) : List Value := T.map (Value.int .i64)
theorem iv_len (T : List Int) : (iv T).length = T.length := by simp
theorem slot_at {T : List Int} {k : Nat} {b : Bool} (h : 2 * k + b.toNat < T.length) : (iv T)[k * 2 + 0 + b.toNat]? = some (.int .i64 (slot T k b)) := by
  unfold slot
  rw [show k * 2 + 0 + b.toNat = 2 * k + b.toNat by omega, List.getElem?_map, List.getD_eq_getElem?_getD, List.getElem?_eq_getElem h]
  rfl
/-- The code under way: its own block, its tree. -/
def Rk (p : Nat) (v0 v1 : Value) (a : Option Addr) (n c : Nat) (T : List Int) : Res := sep (Rb p 81 #[v0, v1, .slice a n c]) (Ro 88 2 a n c (iv T))
set_option maxRecDepth 20000 in
set_option maxHeartbeats 4000000 in
theorem cput_spec {p c n wd s i : Nat} {a : Option Addr} {v0 v1 : Value} {T : List Int} {P : List (List Bool)} {W : List (List Bool × Nat)} {w : World} (hT : TI T P W []) (hP : P.length = n) (hn : n ≤ 1000000) (hf : ∀ u ∈ W, ¬ u.1 <+: nb wd s ∧ ¬ nb wd s <+: u.1) (hs : 1 ≤ s ∧ s ≤ 32) (hw : wd < 18446744073709551616) (hi : i < 64) (hR : (Rk p v0 v1 a n c T).holds w) :
    Does Try.prog 33 #[pt p, .int .u64 wd, .int .i64 s, .int .i64 i] w fun v w' => v = .tuple #[] ∧ ∃ a' c' n' T' P', P'.length = n' ∧ n' ≤ n + 31 ∧ TI T' P' (W ++ [(nb wd s, i)]) [] ∧ Upd (Rk p v0 v1 a n c T) (Rk p v0 v1 a' n' c' T') w w' := by
  subst hP
  refine Does_of (args := [_, _, _, _]) Try.func33 rfl rfl Try.ntmps33 rfl ?_
  have hH := (Hp.start1 hR).split 0 rfl
  change Hp _ _ _ [_, _] at hH
  obtain ⟨fp, hfp⟩ : ∃ fp, (Rk p v0 v1 a P.length c T).fp = fp := ⟨_, rfl⟩
  rw [hfp] at hH
  repeat (first | refine WS_seq ?_ | refine WS_region ?_ | refine WL_nil ?_ | refine WS_block ?_ | (refine WL_r (by first | refine Run_pev rfl | refine k_sub64 rfl rfl (by omega) | apply k_makeFunc) rfl ?_))
  refine WS_loop (G := (Nat) × (List Int) × (List (List Bool)) × (Option Addr) × (Nat) × (Nat) × (List Bool)) (fun | (k, T1, P1, a1, c1, at', q) => k) 147573952589676406528 (fun | (k, T1, P1, a1, c1, at', q) => [(8, .int .i64 at'), (9, .int .i64 k)]) (fun | (k, T1, P1, a1, c1, at', q), w' => k < s ∧ TI T1 P1 W (nb wd s) ∧ P1.length + k ≤ P.length + (s - 1) ∧ nb wd s = q ++ nb wd (k + 1) ∧ P1[at']? = some q ∧ reach T1 0 q at' ∧ Hp fp w w' [Rb p 81 #[v0, v1, .slice a1 P1.length c1], Ro 88 2 a1 P1.length c1 (iv T1)]) (s - 1, T, P, a, c, 0, []) ⟨rfl, congrArg (Value.int .i64) (show (s : Int) - 1 = ((s - 1 : Nat) : Int) by omega), trivial⟩ ⟨by omega, hT.want _, by omega, by rw [show s - 1 + 1 = s by omega]; rfl, hT.root, rfl, hH⟩ ?_
  rintro ⟨k, T1, P1, a1, c1, at', q⟩ w' σ ⟨hk, hT1, hPl, hx, hat, hre, hH⟩ IH
  show WS _ _ _ _ _ (updL [(8, .int .i64 at'), (9, .int .i64 k)] _) _
  have hatl := (List.getElem?_eq_some_iff.1 hat).1
  have hq64 : wd / 2 ^ k < 18446744073709551616 := Nat.lt_of_le_of_lt (Nat.div_le_self _ _) hw
  have hbit := bitc wd k
  rw [nb_cons] at hx
  obtain ⟨b, hb⟩ : ∃ b, wd.testBit k = b := ⟨_, rfl⟩
  rw [hb] at hbit hx
  have hb2 : b.toNat < 2 := by cases b <;> decide
  have hdn := hT1.down hx hat hre (fun u hu => (hf u hu).1)
  by_cases hlt : 0 < k
  · have hqn : nb wd k ≠ [] := fun e => by have := congrArg List.length e; rw [nb_len] at this; simp at this; omega
    obtain ⟨j, rfl⟩ : ∃ j, k = j + 1 := ⟨k - 1, by omega⟩
    have hx2 : nb wd s = (q ++ [b]) ++ nb wd (j + 1) := by rw [hx]; simp
    have hB1 := hH.b 0 rfl
    have hO1 := (hH.o 1 rfl).sl
    have hl1 : (iv T1).length = P1.length * 2 := by rw [iv_len, hT1.len]; omega
    have hv := slot_at (hT1.lt hat b)
    repeat (first | refine WS_seq ?_ | refine WS_region ?_ | refine WL_nil ?_ | refine WS_block ?_ | refine WS_skip ?_ | refine WS_yes rfl (by omega) ?_ | (refine WL_r (by first | refine k_nilCheck rfl | refine k_fa rfl (Ty.fld rfl rfl) | refine k_loadb rfl hB1 rfl (Ty.shp rfl) | refine k_shr rfl rfl (fit64 hw) | refine (k_and (n := 1) rfl rfl (fit64 hq64) rfl).is (congrArg (fun n : Nat => Value.int .u64 (n : Int)) hbit) | refine k_ix (sz := 2) rfl rfl hO1 hl1 (by decide) (Ty.sle rfl) (by omega) | refine k_ixaA rfl rfl (Ty.arr rfl) (by omega) | refine k_loads rfl hO1 hv (Ty.shp rfl) | refine Run_pev rfl | apply k_makeFunc) rfl ?_))
    rcases hdn with h0 | ⟨m, hm, hm0, hPm, hrm⟩
    · rw [h0]
      repeat (first | refine WS_seq ?_ | refine WS_region ?_ | refine WS_true rfl ?_ | (refine WL_r (by first | refine k_nilCheck rfl | refine k_fa rfl (Ty.fld rfl rfl) | refine k_loadb rfl hB1 rfl (Ty.shp rfl) | refine k_buildS (cs := [.int .i64 0, .int .i64 0]) (Ty.zer rfl) (Ty.plc rfl) rfl | refine Run_pev rfl) rfl ?_))
      try refine WL_gyes rfl rfl rfl ?_
      refine WL_s (H_lit (out := [.int .i64 0, .int .i64 0]) hH (Ty.sle rfl) (Ty.zer rfl) rfl rfl rfl (by decide) rfl ?_)
      try clear hH
      intro _ b38 hH
      change Hp _ _ _ [_, _, _] at hH
      skip
      refine WL_s (H_append 1 hH rfl (Ty.sle rfl) (Ty.zer rfl) rfl (Ty.byt rfl) (by decide) rfl rfl (hH.b 2 rfl).sl0 (by rfl) (by simp [Value.oneCell']) (by omega) (by simp only [maxLen]; omega) rfl ?_)
      clear hH
      intro w4 a5 c5 hH
      replace hH := hH.del 2
      change Hp _ _ _ [_, _] at hH
      repeat ((refine WL_r (by first | refine k_nilCheck rfl | refine k_fa rfl (Ty.fld rfl rfl) | apply k_makeFunc) rfl ?_))
      refine WL_s (H_store 0 (v := .slice a5 (P1.length + 1) c5) hH rfl rfl rfl (Nat.le_of_ble_eq_true rfl) rfl (Ty.shp rfl) ?_)
      clear hH
      intro w5 hH
      replace hH : Hp fp w w5 [Rb p 81 #[v0, v1, .slice a5 (P1.length + 1) c5], Ro 88 2 a5 (P1.length + 1) c5 (iv T1 ++ [Value.int .i64 0, Value.int .i64 0])] := hH
      obtain ⟨hT2, hs2, hr2⟩ := hT1.grow hx hqn hat hre h0
      have e2 : (P1 ++ [q ++ [b]]).length = P1.length + 1 := by simp
      have e3 : (iv T1 ++ [Value.int .i64 0, Value.int .i64 0]).set (at' * 2 + 0 + b.toNat) (.int .i64 (P1.length : Nat)) = iv ((T1 ++ [0, 0]).set (2 * at' + b.toNat) (P1.length : Nat)) := by
        rw [show at' * 2 + 0 + b.toNat = 2 * at' + b.toNat by omega]
        show _ = ((T1 ++ [0, 0]).set _ _).map (Value.int .i64)
        rw [List.map_set, List.map_append]; rfl
      have hB1 := hH.b 0 rfl
      have hO1 := (hH.o 1 rfl).sl
      have hl1 : (iv T1 ++ [Value.int .i64 0, Value.int .i64 0]).length = (P1.length + 1) * 2 := by rw [List.length_append, iv_len, hT1.len]; simp; omega
      clear hv
      repeat (refine WL_nil ?_)
      refine WS_tailS Ty.mixed 15 rfl (by kernel_rfl) rfl (fun u => Ext [] w5 u) ?_
      have hx1 : Ext [] w5 w5.drew := Ext.drew0
      refine WA_take 0 rfl (by kernel_rfl) hx1 rfl rfl (fun w' hw' => by refine Run_pev rfl) ?_
      refine WA_take 1 rfl (by kernel_rfl) hx1 rfl rfl (fun w' hw' => by refine k_nilCheck rfl) ?_
      refine WA_take 2 rfl (by kernel_rfl) hx1 rfl rfl (fun w' hw' => by refine k_fa rfl (Ty.fld rfl rfl)) ?_
      refine WA_take 3 rfl (by kernel_rfl) hx1 rfl rfl (fun w' hw' => by refine k_loadb rfl (hB1.ext0 hw') rfl (Ty.shp rfl)) ?_
      refine WA_take 4 rfl (by kernel_rfl) hx1 rfl rfl (fun w' hw' => by refine Run_pev rfl) ?_
      refine WA_take 5 rfl (by kernel_rfl) hx1 rfl rfl (fun w' hw' => by refine Run_pev rfl) ?_
      refine WA_take 6 rfl (by kernel_rfl) hx1 rfl rfl (fun w' hw' => by refine Run_pev rfl) ?_
      refine WA_take 7 rfl (by kernel_rfl) hx1 rfl rfl (fun w' hw' => by refine k_nilCheck rfl) ?_
      refine WA_take 8 rfl (by kernel_rfl) hx1 rfl rfl (fun w' hw' => by refine k_fa rfl (Ty.fld rfl rfl)) ?_
      refine WA_take 9 rfl (by kernel_rfl) hx1 rfl rfl (fun w' hw' => by refine k_loadb rfl (hB1.ext0 hw') rfl (Ty.shp rfl)) ?_
      refine WA_take 10 rfl (by kernel_rfl) hx1 rfl rfl (fun w' hw' => by refine k_len rfl (Ty.isl rfl)) ?_
      refine WA_take 11 rfl (by kernel_rfl) hx1 rfl rfl (fun w' hw' => by refine k_sub64 rfl rfl (by omega)) ?_
      refine WA_take 12 rfl (by kernel_rfl) hx1 rfl rfl (fun w' hw' => by refine k_ix (sz := 2) rfl rfl (hO1.ext0 hw') hl1 (by decide) (Ty.sle rfl) (by omega)) ?_
      refine WA_take 13 rfl (by kernel_rfl) hx1 rfl rfl (fun w' hw' => by refine k_fa rfl (Ty.fld rfl rfl)) ?_
      refine WA_take 14 rfl (by kernel_rfl) hx1 rfl rfl (fun w' hw' => by refine k_ixaA rfl rfl (Ty.arr rfl) (by omega)) ?_
      refine WA_done (by kernel_rfl) ?_
      replace hH := hH.ext0 hx1
      refine WL_s (H_storeO 1 (v := .int .i64 (P1.length : Nat)) hH rfl rfl (congrArg (Value.int .i64) (by omega)) (by omega) rfl (Ty.shp rfl) ?_)
      clear hH hB1 hO1 hl1
      intro w6 hH
      replace hH : Hp fp w w6 [Rb p 81 #[v0, v1, .slice a5 (P1.length + 1) c5], Ro 88 2 a5 (P1.length + 1) c5 ((iv T1 ++ [Value.int .i64 0, Value.int .i64 0]).set (at' * 2 + 0 + b.toNat) (.int .i64 (P1.length : Nat)))] := hH
      rw [e3, ← e2] at hH
      clear e3
      generalize (T1 ++ [0, 0]).set (2 * at' + b.toNat) ((P1.length : Nat) : Int) = T2 at *
      have hB1 := hH.b 0 rfl
      have hO1 := (hH.o 1 rfl).sl
      have hl1 : (iv T2).length = (P1 ++ [q ++ [b]]).length * 2 := by rw [iv_len, hT2.len]; omega
      have hat2 : (P1 ++ [q ++ [b]])[at']? = some q := by rw [List.getElem?_append_left hatl]; exact hat
      have hv := slot_at (hT2.lt hat2 b)
      rw [hs2] at hv
      have hnew : (P1 ++ [q ++ [b]])[P1.length]? = some (q ++ [b]) := by simp
      repeat (first | refine WS_region ?_ | refine WL_nil ?_ | refine WS_inBlock ?_ | (refine WL_r (by first | refine k_nilCheck rfl | refine k_fa rfl (Ty.fld rfl rfl) | refine k_loadb rfl hB1 rfl (Ty.shp rfl) | refine k_ix (sz := 2) rfl rfl hO1 hl1 (by decide) (Ty.sle rfl) (by omega) | refine k_ixaA rfl rfl (Ty.arr rfl) (by omega) | refine k_loads rfl hO1 hv (Ty.shp rfl) | refine Run_pev rfl | refine k_sub64 rfl rfl (by omega) | apply k_makeFunc) rfl ?_))
      refine IH (j, T2, P1 ++ [q ++ [b]], a5, c5, P1.length, q ++ [b]) _ _ ?_ ?_ ?_ ?_
      · simp only; omega
      · exact ⟨rfl, congrArg (Value.int .i64) (by omega), trivial⟩
      · exact (by repeat (first | with_reducible apply Agr.refl | refine Agr.upd rfl ?_ | refine Agr.updL rfl ?_ | refine Agr.mrg rfl ?_))
      · exact ⟨by omega, hT2, by omega, hx2, hnew, hr2, hH⟩
    · rw [hm] at hv ⊢
      repeat (first | refine WS_region ?_ | refine WL_nil ?_ | refine WS_inBlock ?_ | refine WS_skip ?_ | refine WS_no rfl (by omega) ?_ | (refine WL_r (by first | refine k_nilCheck rfl | refine k_fa rfl (Ty.fld rfl rfl) | refine k_loadb rfl hB1 rfl (Ty.shp rfl) | refine k_ix (sz := 2) rfl rfl hO1 hl1 (by decide) (Ty.sle rfl) (by omega) | refine k_ixaA rfl rfl (Ty.arr rfl) (by omega) | refine k_loads rfl hO1 hv (Ty.shp rfl) | refine Run_pev rfl | refine k_sub64 rfl rfl (by omega) | apply k_makeFunc) rfl ?_))
      refine IH (j, T1, P1, a1, c1, m, q ++ [b]) _ _ ?_ ?_ ?_ ?_
      · simp only; omega
      · exact ⟨rfl, congrArg (Value.int .i64) (by omega), trivial⟩
      · exact (by repeat (first | with_reducible apply Agr.refl | refine Agr.upd rfl ?_ | refine Agr.updL rfl ?_ | refine Agr.mrg rfl ?_))
      · exact ⟨by omega, hT1, by omega, hx2, hPm, hrm, hH⟩
  · obtain rfl : k = 0 := by omega
    clear IH hdn
    have hx2 : nb wd s = q ++ [b] := by rw [hx]; rfl
    have hb0 : wd &&& 1 = b.toNat := by simpa using hbit
    obtain ⟨h0, hT2⟩ := hT1.done hx2 hat hre hf i
    have hB1 := hH.b 0 rfl
    have hO1 := (hH.o 1 rfl).sl
    have hl1 : (iv T1).length = P1.length * 2 := by rw [iv_len, hT1.len]; omega
    have e3 : (iv T1).set (at' * 2 + 0 + b.toNat) (.int .i64 (-1 - (i : Int))) = iv (T1.set (2 * at' + b.toNat) (-1 - (i : Int))) := by
      rw [show at' * 2 + 0 + b.toNat = 2 * at' + b.toNat by omega, ← List.map_set]
    repeat (first | refine WS_seq ?_ | refine WS_region ?_ | refine WL_nil ?_ | refine WS_exit rfl ?_ | refine WS_false rfl ?_ | (refine WL_r (by first | refine k_nilCheck rfl | refine k_fa rfl (Ty.fld rfl rfl) | refine k_loadb rfl hB1 rfl (Ty.shp rfl) | refine (k_and (n := 1) rfl rfl (fit64 hw) rfl).is (congrArg (fun n : Nat => Value.int .u64 (n : Int)) hb0) | refine k_ix (sz := 2) rfl rfl hO1 hl1 (by decide) (Ty.sle rfl) (by omega) | refine k_ixaA rfl rfl (Ty.arr rfl) (by omega) | refine Run_pev rfl | refine k_sub64 rfl rfl (by omega) | apply k_makeFunc) rfl ?_))
    refine WL_s (H_storeO 1 (v := .int .i64 (-1 - (i : Int))) hH rfl rfl rfl (by omega) rfl (Ty.shp rfl) ?_)
    clear hH hB1 hO1 hl1
    intro w6 hH
    replace hH : Hp fp w w6 [Rb p 81 #[v0, v1, .slice a1 P1.length c1], Ro 88 2 a1 P1.length c1 ((iv T1).set (at' * 2 + 0 + b.toNat) (.int .i64 (-1 - (i : Int))))] := hH
    rw [e3] at hH
    replace hH := hH.merge 0 1 rfl rfl (by decide)
    repeat (refine WL_nil ?_)
    rw [← hfp] at hH
    exact WS_end0 Try.func33 rfl ⟨rfl, a1, c1, P1.length, _, P1, rfl, by omega, hT2, hH.upd 0 rfl⟩
end Go.Proofs.Ytccnhnijglnbmaa
