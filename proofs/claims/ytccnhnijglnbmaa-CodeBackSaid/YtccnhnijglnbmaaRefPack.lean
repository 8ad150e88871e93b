/- The walks of the reference's bits as bytes; no condition but sizes of memory. -/
import Derived.Test.YtccnhnijglnbmaaSh
import Derived.Test.YtccnhnijglnbmaaRef01
import Derived.Test.YtccnhnijglnbmaaPPz
import Derived.Test.YtccnhnijglnbmaaK19
namespace Go.Proofs.Ytccnhnijglnbmaa
open Go Go.K Go.P Go.RowKit Go.Proofs
set_option maxRecDepth 20000 in
set_option maxHeartbeats 2000000 in
theorem rpack_spec {a : Option Addr} {n cap : Nat} {bs : List Bool} {w : World} (hS : SlA w a ((bs.map Bool.toNat).map B)) (hn : bs.length = n) (hlen : n ≤ 1099511627776) :
    Does Try.prog 26 #[.slice a n cap] w fun v w' => ∃ a' c', v = .slice a' (pk bs).length c' ∧ New (Ro 5 1 a' (pk bs).length c' ((pk bs).map B)) w w' := by
  subst hn
  refine Does_of (args := [_]) Try.func26 rfl rfl Try.ntmps26 rfl ?_
  have hH := Hp.start w
  obtain ⟨m, hm⟩ : ∃ m, (bs.length + 7) / 8 = m := ⟨_, rfl⟩
  have hpl := pk_len bs
  rw [hm] at hpl
  have hmI : ((bs.length : Int) + 7) / 8 = (m : Int) := by omega
  repeat (first | refine WS_seq ?_ | refine WS_region ?_ | refine WL_nil ?_ | (refine WL_r (by first | refine (k_quo64 (m := (bs.length : Int) + 7) (n := 8) rfl rfl (by omega)).is (congrArg (Value.int .i64) hmI) | refine Run_pev rfl | refine k_add64 rfl rfl (by omega) | refine k_len rfl (Ty.isl rfl)) rfl ?_))
  refine WL_s (H_make (n := m) hH (Ty.sle rfl) (Ty.zer rfl) (Ty.byt rfl) rfl rfl rfl rfl (by omega) (by simp only [maxLen]; omega) rfl ?_)
  try clear hH
  intro _ b hH
  replace hH := hH.made 0 rfl (by omega)
  change Hp _ _ _ [_] at hH
  rw [show List.replicate m (Value.int .u8 0) = (pz m []).map B by rw [pz_nil, List.map_replicate]; rfl] at hH
  repeat (first | refine WS_seq ?_ | refine WS_region ?_ | refine WL_nil ?_ | refine WS_block ?_ | (refine WL_r (by first | refine Run_pev rfl | apply k_makeFunc) rfl ?_))
  refine WS_loop (G := (Nat)) (fun i => bs.length - i) 17179868176 (fun i => [(4, .int .i64 i)]) (fun i w' => i ≤ bs.length ∧ Hp [] w w' [Ro 5 1 (some ⟨b, 0, none⟩) m m ((pz m (bs.take i)).map B)]) (0) ⟨rfl, trivial⟩ ⟨by omega, hH⟩ ?_
  rintro i w' σ ⟨hi, hH⟩ IH
  show WS _ _ _ _ _ (updL [(4, .int .i64 i)] _) _
  by_cases hlt : i < bs.length
  · have htl : (bs.take i).length = i := by rw [List.length_take]; omega
    have him : i / 8 < m := by omega
    have hst := pz_step (n := m) (bs := bs.take i) (by rw [htl]; exact him) bs[i]
    rw [← List.take_succ_eq_append_getElem hlt, htl] at hst
    have hv : ((bs.map Bool.toNat).map B)[i]? = some (B bs[i].toNat) := by simp [hlt]
    have hb1 : bs[i].toNat ≤ 1 := by cases bs[i] <;> decide
    have hln : ((bs.map Bool.toNat).map B).length = bs.length := by simp
    have hx : (pz m (bs.take i)).getD (i / 8) 0 < 256 := pz_lt him
    have hx2 : (pz m (bs.take (i + 1))).getD (i / 8) 0 < 256 := pz_lt him
    rw [hst, List.getD_eq_getElem?_getD, List.getElem?_set_self (by rw [pz_len]; exact him), Option.getD_some] at hx2
    have hpv : ((pz m (bs.take i)).map B)[((i : Int) / 8).toNat]? = some (B ((pz m (bs.take i)).getD (i / 8) 0)) := by
      rw [show ((i : Int) / 8).toNat = i / 8 by omega, List.getElem?_map, List.getD_eq_getElem?_getD, List.getElem?_eq_getElem (by rw [pz_len]; exact him)]; rfl
    have hpn : ((pz m (bs.take i)).map B).length = m := by rw [List.length_map, pz_len]
    have hS1 := hH.old hS
    have hO := (hH.o 0 rfl).sl
    generalize (pz m (bs.take i)).getD (i / 8) 0 = x at *
    generalize bs[i].toNat = y at *
    have hsub : 7 - (i : Int) % 8 = ((7 - i % 8 : Nat) : Int) := by omega
    have hsm : y * 2 ^ (7 - i % 8) % 256 = y * 2 ^ (7 - i % 8) := Nat.mod_eq_of_lt (by omega)
    have hsum : (x + y * 2 ^ (7 - i % 8)) % 256 = x + y * 2 ^ (7 - i % 8) := Nat.mod_eq_of_lt hx2
    repeat (first | refine WS_seq ?_ | refine WS_region ?_ | refine WL_nil ?_ | refine WS_block ?_ | refine WS_skip ?_ | refine WS_yes rfl (by omega) ?_ | (refine WL_r (by first | refine Run_pev rfl | refine k_len rfl (Ty.isl rfl) | apply k_makeFunc) rfl ?_))
    refine WS_tail Ty.mixed 17 rfl (by kernel_rfl) rfl (fun w1 hx1 => ?_)
    refine WA_take 0 rfl (by kernel_rfl) hx1 rfl rfl (fun w' hw' => by refine Run_pev rfl) ?_
    refine WA_take 1 rfl (by kernel_rfl) hx1 rfl rfl (fun w' hw' => by refine Run_pev rfl) ?_
    refine WA_take 2 rfl (by kernel_rfl) hx1 rfl rfl (fun w' hw' => by refine k_quo64 rfl rfl (by omega)) ?_
    refine WA_take 3 rfl (by kernel_rfl) hx1 rfl rfl (fun w' hw' => by refine Run_pev rfl) ?_
    refine WA_take 4 rfl (by kernel_rfl) hx1 rfl rfl (fun w' hw' => by refine Run_pev rfl) ?_
    refine WA_take 5 rfl (by kernel_rfl) hx1 rfl rfl (fun w' hw' => by refine k_quo64 rfl rfl (by omega)) ?_
    refine WA_take 6 rfl (by kernel_rfl) hx1 rfl rfl (fun w' hw' => by refine k_ix1 rfl rfl (hO.ext0 hw') hpn (Ty.sle rfl) (by omega)) ?_
    refine WA_take 7 rfl (by kernel_rfl) hx1 rfl rfl (fun w' hw' => by refine k_loads rfl (hO.ext0 hw') hpv (Ty.shp rfl)) ?_
    refine WA_take 8 rfl (by kernel_rfl) hx1 rfl rfl (fun w' hw' => by refine Run_pev rfl) ?_
    refine WA_take 9 rfl (by kernel_rfl) hx1 rfl rfl (fun w' hw' => by refine Run_pev rfl) ?_
    refine WA_take 10 rfl (by kernel_rfl) hx1 rfl rfl (fun w' hw' => by refine k_ix1 rfl rfl (hS1.ext0 hw') hln (Ty.sle rfl) (by omega)) ?_
    refine WA_take 11 rfl (by kernel_rfl) hx1 rfl rfl (fun w' hw' => by refine k_loads rfl (hS1.ext0 hw') hv (Ty.shp rfl)) ?_
    refine WA_take 12 rfl (by kernel_rfl) hx1 rfl rfl (fun w' hw' => by refine Run_pev rfl) ?_
    refine WA_take 13 rfl (by kernel_rfl) hx1 rfl rfl (fun w' hw' => by refine k_rem rfl rfl (by omega)) ?_
    refine WA_take 14 rfl (by kernel_rfl) hx1 rfl rfl (fun w' hw' => by refine (k_sub64 (m := 7) (n := (i : Int) % 8) rfl rfl (by omega)).is (congrArg (Value.int .i64) hsub)) ?_
    refine WA_take 15 rfl (by kernel_rfl) hx1 rfl rfl (fun w' hw' => by refine (k_shl8 (m := y) rfl rfl).is (congrArg (fun n : Nat => Value.int .u8 (n : Int)) hsm)) ?_
    refine WA_take 16 rfl (by kernel_rfl) hx1 rfl rfl (fun w' hw' => by refine (k_addu (q := .u8) rfl rfl rfl).is (congrArg (fun n : Nat => Value.int .u8 (n : Int)) hsum)) ?_
    refine WA_done (by kernel_rfl) ?_
    replace hH := hH.ext0 hx1
    have hO2 := (hH.o 0 rfl).sl
    repeat ((refine WL_r (by first | refine k_ix1 rfl rfl hO2 hpn (Ty.sle rfl) (by omega) | apply k_makeFunc) rfl ?_))
    refine WL_s (H_storeO 0 (v := B (x + y * 2 ^ (7 - i % 8))) hH rfl rfl rfl (by omega) rfl (Ty.shp rfl) ?_)
    try clear hH
    intro _ hH
    change Hp _ _ _ [_] at hH
    rw [← List.map_set, show ((i : Int) / 8).toNat = i / 8 by omega, ← hst] at hH
    repeat (first | refine WS_region ?_ | refine WL_nil ?_ | refine WS_inBlock ?_ | (refine WL_r (by first | refine Run_pev rfl | refine k_add64 rfl rfl (by omega) | apply k_makeFunc) rfl ?_))
    refine IH (i + 1) _ _ ?_ ?_ ?_ ?_
    · omega
    · exact ⟨rfl, trivial⟩
    · exact (by repeat (first | with_reducible apply Agr.refl | refine Agr.upd rfl ?_ | refine Agr.updL rfl ?_ | refine Agr.mrg rfl ?_))
    · exact ⟨by omega, hH⟩
  · obtain rfl : i = bs.length := by omega
    rw [List.take_length, ← hm, pz_pk, hm, ← hpl] at hH
    repeat (first | refine WS_seq ?_ | refine WS_region ?_ | refine WL_nil ?_ | refine WS_exit rfl ?_ | refine WS_no rfl (by omega) ?_ | (refine WL_r (by first | refine Run_pev rfl | refine k_len rfl (Ty.isl rfl) | apply k_makeFunc) rfl ?_))
    rw [← hpl]
    exact WS_ret1 Try.func26 rfl ⟨_, _, rfl, hH.new1 0 rfl⟩
end Go.Proofs.Ytccnhnijglnbmaa
