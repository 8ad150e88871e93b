/- The law CodeBack: numbers of one of the three codes, one behind the other: read they are the same; no condition. -/
import Derived.Test.YtccnhnijglnbmaaSh
import Derived.Test.YtccnhnijglnbmaaLaw04
import Derived.Test.YtccnhnijglnbmaaRefPack
import Derived.Test.YtccnhnijglnbmaaK8
import Derived.Test.YtccnhnijglnbmaaRows
namespace Go.Proofs.Ytccnhnijglnbmaa
open Go Go.K Go.P Go.RowKit Go.Proofs Go.ChangeShapes Go.WideShapes Go.ChangeAt
/-- The words of numbers, one behind the other. -/
def wds (sz ws : List Nat) (l : List Nat) : List Bool := l.flatMap fun n => cw sz ws (n % sz.length)
theorem wds_snoc (sz ws l : List Nat) (n : Nat) : wds sz ws (l ++ [n]) = wds sz ws l ++ cw sz ws (n % sz.length) := by simp [wds]
theorem wds_cons (sz ws l : List Nat) (n : Nat) : wds sz ws (n :: l) = cw sz ws (n % sz.length) ++ wds sz ws l := by simp [wds]
theorem wds_le {sz ws : List Nat} {T : List Int} (h : GC sz ws T) : ∀ (l : List Nat), (wds sz ws l).length ≤ 32 * l.length
  | [] => by simp [wds]
  | n :: l => by
    have ih := wds_le h l
    have h1 := (h.szd (Nat.mod_lt n (show 0 < sz.length by have := h.le.1; omega))).2
    rw [wds_cons, List.length_append, cw_len, List.length_cons]
    omega
theorem rows_cw {sz ws : List Nat} {T : List Int} {A : List CE} {X : List RW} (h : GC sz ws T) (hc : codeOf sz = some A) (hX : ∀ a ∈ A, ∃ x, X[a.1]? = some x ∧ x.2.2 = nb a.2.1 a.2.2) {i : Nat} (hi : i < sz.length) : ∃ x, X[i]? = some x ∧ x.2.2 = cw sz ws i := by
  obtain ⟨A', wd, hc', _, hm⟩ := h.ent hi
  obtain rfl := Option.some.inj (hc'.symm.trans hc)
  exact hX _ hm
set_option maxRecDepth 20000 in
set_option maxHeartbeats 8000000 in
theorem cback_spec {k n0 cap : Nat} {a : Option Addr} {l : List Nat} {w : World} (hS : SlA w a (l.map B)) (hlb : Byt l) (hn : l.length = n0) (hlen : n0 ≤ 9223372036854775807) :
    Does Try.prog 7 #[.int .u8 k, .slice a n0 cap] w fun v w' => v = .bool true ∧ Ext [] w w' := by
  subst hn
  refine Does_of (args := [_, _]) Try.func7 rfl rfl Try.ntmps7 rfl ?_
  repeat (first | refine WS_seq ?_ | refine WS_region ?_ | refine WL_nil ?_ | (refine WL_r (by refine Run_pev rfl) rfl ?_))
  try refine WL_gyes rfl rfl rfl ?_
  refine WL_s (S_call (awake04 w) rfl rfl ?_)
  rintro v w1 ⟨rfl, hW1⟩
  have hH := (Hp.start w).ext0 hW1
  clear hW1
  by_cases h100 : 100 < l.length
  · repeat (first | refine WS_seq ?_ | refine WS_region ?_ | refine WL_nil ?_ | refine WS_skip ?_ | refine WS_false rfl ?_ | refine WS_yes rfl (by omega) ?_ | (refine WL_r (by first | refine Run_pev rfl | refine k_len rfl (Ty.isl rfl) | apply k_makeFunc) rfl ?_))
    exact WS_ret1 Try.func7 rfl ⟨rfl, hH.ext⟩
  repeat (first | refine WS_seq ?_ | refine WS_region ?_ | refine WL_nil ?_ | refine WS_skip ?_ | refine WS_false rfl ?_ | refine WS_no rfl (by omega) ?_ | (refine WL_r (by first | refine Run_pev rfl | refine k_len rfl (Ty.isl rfl)) rfl ?_))
  try refine WL_gyes rfl rfl rfl ?_
  refine WL_s (S_call (own_spec) rfl rfl ?_)
  rintro v w2 ⟨p, D, b, hok, rfl, hQ⟩
  replace hH := Hp.cats hH hQ
  clear hQ
  change Hp _ _ _ [_, _] at hH
  have hD := hok.1
  have hle := hD.le
  repeat (first | refine WS_seq ?_ | refine WS_region ?_ | refine WL_nil ?_ | (refine WL_r (by first | refine Run_pev rfl | refine k_extract rfl rfl) rfl ?_))
  try refine WL_gyes rfl rfl rfl ?_
  refine WL_s (S_call (rwords_spec (a := some ⟨b, 0, none⟩) (hH.b 1 rfl).sl0 rfl hle.2) rfl rfl ?_)
  rintro v w3 hRW
  obtain ⟨A, wd, P, hco, _⟩ := hD.it
  rcases hRW with ⟨hno, _⟩ | ⟨A', X, br, hco', hXl, hX, rfl, hQ⟩
  · rw [hno] at hco; cases hco
  obtain rfl := Option.some.inj (hco.symm.trans hco')
  replace hX := fun {i : Nat} (hi : i < D.sz.length) => rows_cw hD hco hX hi
  clear hco'
  replace hH := Hp.cats hH hQ
  clear hQ
  change Hp _ _ _ [_, _, _, _] at hH
  have hrl := rws_len X
  repeat (first | refine WS_seq ?_ | refine WS_region ?_ | refine WL_nil ?_ | (refine WL_r (by first | refine k_buildS (cs := [.slice none 0 0, .int .i64 0]) (Ty.zer rfl) (Ty.plc rfl) rfl | refine Run_pev rfl) rfl ?_))
  refine WL_s (H_box hH rfl rfl rfl ?_)
  clear hH
  intro w4 q hH
  replace hH : Hp [] w w4 [RC p D, Rb b 3 (nv D.sz).toArray, Ro 46 1 (some ⟨br, 0, none⟩) D.sz.length D.sz.length (rws X), Rz X, Rw q none 0 []] := hH.as 4 rfl (fun x hx => by simpa [Rw, sep, Rb, RBy, Ro, blk] using hx) (fun hB => ⟨hB, Own.nil, fun _ _ hb => by simp [RBy, Ro, blk] at hb⟩)
  replace hH := hH.nu (New.nilO (e := 5) (sz := 1))
  change Hp _ _ _ [_, _, _, _, _, _] at hH
  repeat (first | refine WS_seq ?_ | refine WS_region ?_ | refine WL_nil ?_ | refine WS_block ?_ | (refine WL_r (by first | refine Run_pev rfl | refine k_len rfl (Ty.isl rfl) | apply k_makeFunc) rfl ?_))
  refine WS_loop (G := (Nat) × (Option Addr) × (Nat) × (Option Addr) × (Nat)) (fun | (i, aw, c1, a9, c9) => l.length - i) 9007194959780368 (fun | (i, aw, c1, a9, c9) => [(9, .slice a9 (wds D.sz D.ws (l.take i)).length c9), (32, .int .i64 i)]) (fun | (i, aw, c1, a9, c9), w' => i ≤ l.length ∧ Hp [] w w' [RC p D, Rb b 3 (nv D.sz).toArray, Ro 46 1 (some ⟨br, 0, none⟩) D.sz.length D.sz.length (rws X), Rz X, Rw q aw c1 (wds D.sz D.ws (l.take i)), Ro 5 1 a9 (wds D.sz D.ws (l.take i)).length c9 (bq (wds D.sz D.ws (l.take i)))]) (0, none, 0, none, 0) ⟨rfl, rfl, trivial⟩ ⟨by omega, hH⟩ ?_
  rintro ⟨i, aw, c1, a9, c9⟩ u1 σ ⟨hi, hH⟩ IH
  show WS _ _ _ _ _ (updL [(9, .slice a9 (wds D.sz D.ws (l.take i)).length c9), (32, .int .i64 i)] _) _
  have hS1 := hH.old hS
  have hll : (l.map B).length = l.length := by simp
  by_cases hlt : i < l.length
  · have hv : (l.map B)[i]? = some (B l[i]) := by simp [hlt]
    have htk : wds D.sz D.ws (l.take (i + 1)) = wds D.sz D.ws (l.take i) ++ cw D.sz D.ws (l[i] % D.sz.length) := by rw [List.take_succ_eq_append_getElem hlt, wds_snoc]
    have hwl := wds_le hD (l.take (i + 1))
    have hwl0 := wds_le hD (l.take i)
    rw [List.length_take] at hwl hwl0
    have hn256 := hlb _ (List.getElem_mem hlt)
    generalize l[i] = n at *
    obtain ⟨j, hj⟩ : ∃ j, n % D.sz.length = j := ⟨_, rfl⟩
    have hjl : j < D.sz.length := by have := Nat.mod_lt n (show 0 < D.sz.length by omega); omega
    have hjI : (n : Int) % (D.sz.length : Int) = (j : Int) := by rw [← hj]; simp
    rw [hj] at htk
    obtain ⟨x, hx, hxw⟩ := hX hjl
    have hxr : (rws X)[j]? = some (rwv x) := by rw [rws_at X (by omega)]; rw [List.getElem?_eq_getElem (by omega)] at hx; rw [Option.some.inj hx]
    repeat (first | refine WS_seq ?_ | refine WS_region ?_ | refine WL_nil ?_ | refine WS_block ?_ | refine WS_skip ?_ | refine WS_yes rfl (by omega) ?_ | (refine WL_r (by first | refine k_ix1 rfl rfl hS1 hll (Ty.sle rfl) (by omega) | refine k_loads rfl hS1 hv (Ty.shp rfl) | refine (k_rem (m := (n : Int)) (n := (D.sz.length : Int)) rfl rfl ⟨by omega, by omega⟩).is (congrArg (Value.int .i64) hjI) | refine Run_pev rfl | refine k_len rfl (Ty.isl rfl) | refine k_convI rfl rfl rfl (by omega)) rfl ?_))
    try refine WL_gyes rfl rfl rfl ?_
    refine WL_s (S_call (cputw_spec hok hjl (by omega) (hH.at 0 rfl) (hH.at 4 rfl)) rfl rfl ?_)
    rintro v w5 ⟨rfl, a5, c5, hU⟩
    replace hH := hH.up 4 rfl hU
    clear hU
    change Hp _ _ _ [_, _, _, _, _, _] at hH
    have hO := (hH.o 2 rfl).sl
    have hxs : SlA w5 x.1 (bq x.2.2) := (hH.at 3 rfl : ∀ y ∈ X, _) x (List.mem_of_getElem? hx)
    rw [hxw] at hxs
    have hxv : rwv x = .slice x.1 (cw D.sz D.ws j).length x.2.1 := by unfold rwv; rw [hxw]
    rw [hxv] at hxr
    have hbl := bq_len (cw D.sz D.ws j)
    rw [htk, List.length_append] at hwl
    repeat (first | refine WS_region ?_ | refine WL_nil ?_ | refine WS_skip ?_ | refine WS_false rfl ?_ | (refine WL_r (by first | refine k_ix1 rfl rfl hO (by omega) (Ty.sle rfl) (by omega) | refine k_loads rfl hO hxr (Ty.shp rfl) | refine Run_pev rfl) rfl ?_))
    refine WL_s (H_append 5 hH rfl (Ty.sle rfl) (Ty.zer rfl) rfl (Ty.byt rfl) (by decide) rfl rfl hxs (by omega) (bq_one _) (by omega) (by simp only [maxLen]; omega) rfl ?_)
    clear hH
    intro w6 a6 c6 hH
    change Hp _ _ _ [_, _, _, _, _, _] at hH
    rw [← bq_app, ← List.length_append, ← htk] at hH
    rw [← List.length_append, ← htk]
    repeat (first | refine WS_region ?_ | refine WL_nil ?_ | refine WS_inBlock ?_ | (refine WL_r (by first | refine Run_pev rfl | refine k_add64 rfl rfl (by omega) | apply k_makeFunc) rfl ?_))
    refine IH (i + 1, a5, c5, a6, c6) _ _ ?_ ?_ ?_ ?_
    · simp only; omega
    · exact ⟨rfl, rfl, trivial⟩
    · exact (by repeat (first | with_reducible apply Agr.refl | refine Agr.upd rfl ?_ | refine Agr.updL rfl ?_ | refine Agr.mrg rfl ?_))
    · exact ⟨by omega, hH⟩
  obtain rfl : i = l.length := by omega
  clear IH
  rw [List.take_length] at hH ⊢
  have hwl := wds_le hD l
  obtain ⟨W, hWd⟩ : ∃ W, wds D.sz D.ws l = W := ⟨_, rfl⟩
  rw [hWd] at hH hwl ⊢
  have hC := hH.at 0 rfl
  have hRw := hH.at 4 rfl
  have hSw := (hH.o 5 rfl).sl
  have hpb := pk_byt W
  have hpl := pk_len W
  have hbl := bl_pk W
  repeat (first | refine WS_seq ?_ | refine WS_region ?_ | refine WL_nil ?_ | refine WS_exit rfl ?_ | refine WS_no rfl (by omega) ?_ | (refine WL_r (by first | refine Run_pev rfl | apply k_makeFunc) rfl ?_))
  refine WS_specK [Is (pt p), Is (.int .i64 D.sz.length), Is (.slice (some ⟨b, 0, none⟩) D.sz.length D.sz.length), Is (.int .i64 D.sz.length), Is (.bool false), Is (.bool false), Is (pt q), IsSl (pk W), Is (.string (strOf (pk W))), Is (.slice a9 W.length c9), IsSl (pk W), Is (.string (strOf (pk W))), Is (.bool false), Is (.bool false)] Ty.mixed [(147537923792657448960, [], true), (147114585427684622336, [(0, 53)], true), (147456858999364780032, [], true), (147348772608307888128, [(2, 55)], true), (147132599826194104320, [(1, 54), (3, 56)], true), (279223176896970752, [(4, 57)], true), (145835563133511401472, [], true), (134882808839746355200, [(6, 59)], true), (108365614233788874752, [(7, 60)], true), (133729887335139508224, [], true), (119894829279857344512, [(9, 62)], true), (92224713169293017088, [(10, 63)], true), (36884480948164362240, [(8, 61), (11, 64)], true), (73777969095583465472, [(5, 58), (12, 65)], true)] 147564945390421671936 [(13, 66)] (by kernel_rfl) (by kernel_rfl) (by kernel_rfl) (by kernel_rfl) (by kernel_rfl) ⟨Is.st, Is.st, Is.st, Is.st, Is.st, Is.st, Is.st, IsSl.st, Is.st, Is.st, IsSl.st, Is.st, Is.st, Is.st, trivial⟩ ⟨⟨GOk.none, ?_⟩, ⟨GOk.none, ?_⟩, ⟨GOk.none, ?_⟩, ⟨GOk.none, ?_⟩, ⟨GOk.none, ?_⟩, ⟨GOk.none, ?_⟩, ⟨GOk.of (fun _ _ h => h), ?_⟩, ⟨GOk.of (fun _ _ h => h), ?_⟩, ⟨GOk.of (fun _ _ h => h), ?_⟩, ⟨GOk.of (fun _ _ h => h), ?_⟩, ⟨GOk.of (fun _ _ h => h), ?_⟩, ⟨GOk.of (fun _ _ h => h), ?_⟩, ⟨GOk.of (fun _ _ h => h), ?_⟩, ⟨GOk.none, ?_⟩, trivial⟩ ?_
  · intro w'' hE''
    intro σ''
    exact sp_is (by refine Run_pev rfl) rfl
  · intro w'' hE''
    rintro _ rfl
    intro σ''
    refine S_call (clen_spec ((RC p D).keep hC hE'' (by simp))) rfl rfl ?_
    rintro v w3'' ⟨rfl, rfl⟩
    exact ⟨.refl, _, rfl, rfl⟩
  · intro w'' hE''
    intro σ''
    exact sp_is (by refine Run_pev rfl) rfl
  · intro w'' hE''
    rintro _ rfl
    intro σ''
    exact sp_is (by refine k_len rfl (Ty.isl rfl)) rfl
  · intro w'' hE''
    rintro _ rfl
    rintro _ rfl
    intro σ''
    exact sp_is (by refine (k_neq rfl rfl).is (bF (fun h => h rfl))) rfl
  · intro w'' hE''
    rintro _ rfl
    intro σ''
    exact sp_is (by refine Run_pev rfl) rfl
  · intro w'' hE''
    intro σ''
    exact sp_is (by refine Run_pev rfl) rfl
  · intro w'' hE''
    rintro _ rfl
    intro σ''
    refine S_call (wbytes_spec ((Rw _ _ _ _).keep hRw hE'' (by simp)) (by omega)) rfl rfl ?_
    rintro v w3'' ⟨a', c', rfl, hN⟩
    exact ⟨hN.ext, _, rfl, a', c', rfl, (hN.holds : Own _ _ _ _ _ _ _).sl⟩
  · intro w'' hE''
    rintro _ ⟨a7, c7, rfl, hS7⟩
    intro σ''
    exact sp_is (by refine k_str rfl hS7 (Ty.sle rfl) (Ty.knd rfl) (Ty.iss rfl)) rfl
  · intro w'' hE''
    intro σ''
    exact sp_is (by refine Run_pev rfl) rfl
  · intro w'' hE''
    rintro _ rfl
    intro σ''
    refine S_call (rpack_spec (hSw.ext0 hE'') rfl (by omega)) rfl rfl ?_
    rintro v w3'' ⟨a', c', rfl, hN⟩
    exact ⟨hN.ext, _, rfl, a', c', rfl, (hN.holds : Own _ _ _ _ _ _ _).sl⟩
  · intro w'' hE''
    rintro _ ⟨a10, c10, rfl, hS10⟩
    intro σ''
    exact sp_is (by refine k_str rfl hS10 (Ty.sle rfl) (Ty.knd rfl) (Ty.iss rfl)) rfl
  · intro w'' hE''
    rintro _ rfl
    rintro _ rfl
    intro σ''
    exact sp_is (by refine (k_neqs rfl rfl hpb hpb).is (bF (by simp))) rfl
  · intro w'' hE''
    rintro _ rfl
    rintro _ rfl
    intro σ''
    exact sp_is (by refine Run_pev rfl) rfl
  intro w'' hE''
  rintro _ rfl
  intro σ''
  replace hH := (hH.ext0 hE'').take 5
  change Hp _ _ _ [_, _, _, _, _] at hH
  clear hRw hSw hC
  repeat (first | refine WS_seq ?_ | refine WS_region ?_ | refine WS_skip ?_ | refine WS_false rfl ?_ | (refine WL_r (by refine Run_pev rfl) rfl ?_))
  try refine WL_gyes rfl rfl rfl ?_
  refine WL_s (S_call (wbytes_spec (hH.at 4 rfl) (by omega)) rfl rfl ?_)
  rintro v w7 ⟨a2, c2, rfl, hN⟩
  replace hH := hH.nu hN
  clear hN
  change Hp _ _ _ [_, _, _, _, _, _] at hH
  repeat ((refine WL_r (by refine Run_pev rfl) rfl ?_))
  try refine WL_gyes rfl rfl rfl ?_
  refine WL_s (S_call (wlen_spec (hH.at 4 rfl)) rfl rfl ?_)
  rintro v w8 ⟨rfl, rfl⟩
  skip
  try refine WL_gyes rfl rfl rfl ?_
  refine WL_s (S_call (read_spec (e := W.length) (hH.o 5 rfl).sl rfl (by omega) (by omega)) rfl rfl ?_)
  rintro v w9 ⟨r, a3, c3, rfl, hN⟩
  replace hN := Rr.rq hN (by omega) (by omega) hpb
  rw [hbl] at hN
  replace hH := hH.nu hN
  clear hN
  replace hH := ((hH.del 5).del 3).del 2
  change Hp _ _ _ [_, _, _, _] at hH
  repeat (first | refine WS_seq ?_ | refine WS_region ?_ | refine WL_nil ?_ | refine WS_block ?_ | (refine WL_r (by first | refine Run_pev rfl | refine k_len rfl (Ty.isl rfl) | apply k_makeFunc) rfl ?_))
  refine WS_loop (G := (Nat)) (fun i => l.length - i) 309466120355413590143959056 (fun i => [(74, .int .i64 i)]) (fun i w' => i ≤ l.length ∧ Hp [] w w' [RC p D, Rb b 3 (nv D.sz).toArray, Rw q aw c1 W, Rq r a3 c3 (pk W) W.length ⟨wds D.sz D.ws (l.drop i), false⟩]) (0) ⟨rfl, trivial⟩ ⟨by omega, by rw [List.drop_zero, hWd]; exact hH⟩ ?_
  rintro i u1 σ ⟨hi, hH⟩ IH
  show WS _ _ _ _ _ (updL [(74, .int .i64 i)] _) _
  have hS1 := hH.old hS
  by_cases hlt : i < l.length
  · have hv : (l.map B)[i]? = some (B l[i]) := by simp [hlt]
    have htk : wds D.sz D.ws (l.drop i) = cw D.sz D.ws (l[i] % D.sz.length) ++ wds D.sz D.ws (l.drop (i + 1)) := by rw [List.drop_eq_getElem_cons hlt, wds_cons]
    have hn256 := hlb _ (List.getElem_mem hlt)
    generalize l[i] = n at *
    obtain ⟨j, hj⟩ : ∃ j, n % D.sz.length = j := ⟨_, rfl⟩
    have hjl : j < D.sz.length := by have := Nat.mod_lt n (show 0 < D.sz.length by omega); omega
    have hjI : (n : Int) % (D.sz.length : Int) = (j : Int) := by rw [← hj]; simp
    rw [hj] at htk
    rw [htk] at hH
    have hC := hH.at 0 rfl
    have hRq := hH.at 3 rfl
    have hdj := hH.dj 3 0 rfl rfl (by decide)
    have hde := hD.dec_word hjl (wds D.sz D.ws (l.drop (i + 1)))
    repeat (first | refine WS_seq ?_ | refine WS_region ?_ | refine WL_nil ?_ | refine WS_block ?_ | refine WS_skip ?_ | refine WS_yes rfl (by omega) ?_ | (refine WL_r (by first | refine k_ix1 rfl rfl hS1 hll (Ty.sle rfl) (by omega) | refine k_loads rfl hS1 hv (Ty.shp rfl) | refine Run_pev rfl | apply k_makeFunc) rfl ?_))
    refine WS_draw Ty.mixed (fun v => Ext ([r] ++ blk a3) u1 v) 9 rfl ?_
    have hx0 : Ext ([r] ++ blk a3) u1 u1.drew := Ext.drew0
    have hx00 : Ext [] u1 u1.drew := Ext.drew0
    refine WA_take 0 rfl (by kernel_rfl) hx0 rfl rfl (fun w' hw' => by refine Run_pev rfl) ?_
    refine WA_take 1 rfl (by kernel_rfl) hx0 rfl rfl (fun w' hw' => by refine Run_pev rfl) ?_
    refine WA_take 3 rfl (by kernel_rfl) hx0 rfl rfl (fun w' hw' => by refine Run_pev rfl) ?_
    refine WA_take 4 rfl (by kernel_rfl) hx0 rfl rfl (fun w' hw' => by refine k_convI rfl rfl rfl (by omega)) ?_
    refine WA_take 5 rfl (by kernel_rfl) hx0 rfl rfl (fun w' hw' => by refine Run_pev rfl) ?_
    refine WA_take 6 rfl (by kernel_rfl) hx0 rfl rfl (fun w' hw' => by refine k_len rfl (Ty.isl rfl)) ?_
    refine WA_take 7 rfl (by kernel_rfl) hx0 rfl rfl (fun w' hw' => by refine (k_rem (m := (n : Int)) (n := (D.sz.length : Int)) rfl rfl ⟨by omega, by omega⟩).is (congrArg (Value.int .i64) hjI)) ?_
    refine WA_one 2 (by kernel_rfl) rfl rfl (S_call (ctake_spec hok ((RC p D).keep hC hx00 (by simp)) ((Rq _ _ _ _ _ _).keep hRq hx00 (by simp)) hdj) rfl rfl ?_)
    rintro v u2 hT
    rw [hde] at hT
    rcases hT with ⟨i2, r2, h2, rfl, hU⟩ | ⟨h2, _⟩
    · simp only [Option.some.injEq, Prod.mk.injEq] at h2
      obtain ⟨rfl, rfl⟩ := h2
      have hx2 : Ext ([r] ++ blk a3) u1 u2 := hx0.trans hU.ext (fun t ht => .inl ht)
      refine ⟨hx2, ?_⟩
      refine WA_take 8 rfl (by kernel_rfl) hx2 rfl rfl (fun w' hw' => by refine (k_neq (q := .i64) rfl rfl).is (bF (fun h => h rfl))) ?_
      refine WA_done (by kernel_rfl) ?_
      replace hH := (hH.ext0 hx00).up 3 rfl hU
      change Hp _ _ _ [_, _, _, _] at hH
      repeat (first | refine WS_region ?_ | refine WL_nil ?_ | refine WS_inBlock ?_ | refine WS_skip ?_ | refine WS_false rfl ?_ | (refine WL_r (by first | refine Run_pev rfl | refine k_add64 rfl rfl (by omega) | apply k_makeFunc) rfl ?_))
      refine IH (i + 1) _ _ ?_ ?_ ?_ ?_
      · omega
      · exact ⟨rfl, trivial⟩
      · exact (by repeat (first | with_reducible apply Agr.refl | refine Agr.upd rfl ?_ | refine Agr.updL rfl ?_ | refine Agr.mrg rfl ?_))
      · exact ⟨by omega, hH⟩
    · cases h2
  obtain rfl : i = l.length := by omega
  clear IH
  rw [List.drop_length] at hH
  have hend : rend ⟨wds D.sz D.ws [], false⟩ = 0 := rfl
  repeat (first | refine WS_seq ?_ | refine WS_region ?_ | refine WL_nil ?_ | refine WS_exit rfl ?_ | refine WS_no rfl (by omega) ?_ | (refine WL_r (by refine Run_pev rfl) rfl ?_))
  try refine WL_gyes rfl rfl rfl ?_
  refine WL_s (S_call (rend_spec (Rq.rd (hH.at 3 rfl))) rfl rfl ?_)
  rintro v w10 ⟨rfl, hE10⟩
  replace hH := hH.ext0 hE10
  rw [hend]
  repeat (first | refine WL_gyes rfl rfl rfl ?_ | (refine WL_r (by first | refine Run_pev rfl | refine k_len rfl (Ty.isl rfl)) rfl ?_))
  try refine WL_gyes rfl rfl rfl ?_
  refine WL_s (S_call (cputw_out (n := (D.sz.length : Int)) (hH.at 0 rfl) (by omega)) rfl rfl ?_)
  rintro v w11 ⟨rfl, rfl⟩
  repeat (first | refine WL_gyes rfl rfl rfl ?_ | (refine WL_r (by refine Run_pev rfl) rfl ?_))
  try refine WL_gyes rfl rfl rfl ?_
  refine WL_s (S_call (cputw_out (n := -1) (hH.at 0 rfl) (by omega)) rfl rfl ?_)
  rintro v w12 ⟨rfl, rfl⟩
  repeat (first | refine WL_gyes rfl rfl rfl ?_ | (refine WL_r (by refine Run_pev rfl) rfl ?_))
  try refine WL_gyes rfl rfl rfl ?_
  refine WL_s (S_call (cputw_nilw (p := p) (n := 0)) rfl rfl ?_)
  rintro v w13 ⟨rfl, rfl⟩
  repeat (first | refine WL_nil ?_ | refine WL_gyes rfl rfl rfl ?_ | (refine WL_r (by first | refine Run_pev rfl | apply k_makeFunc) rfl ?_))
  exact WS_ret1 Try.func7 rfl ⟨rfl, hH.ext⟩
theorem own_codeBack : ownKnob Try.prog.godebug = none := by kernel_rfl
theorem laid_codeBack : laidOutB Try.prog = true := by kernel_rfl
set_option maxRecDepth 100000 in
theorem codeBack_lifted (os : Os) (started : os.Started) (H : Type) (enc : TypeId × Value → H) :
    ReturnsInHanded {} Try.checked os 7 .any (Rows.codeBackSpec.pre6 enc Try.prog Try.f7 Rows.codeBackRow.domain false) (Rows.codeBackSpec.post enc Try.prog Try.f7 false true false false) := by
  refine returnsInHanded_of_change (C := Try.checked) own_codeBack started (by kernel_rfl) Try.func7
    (ChangeSpec.witness6 (enc := enc) (C := Try.checked) false ⟨#[], #[.int .u8 0, .slice none 0 0], []⟩ 8 (by kernel_rfl) (by kernel_rfl) (by kernel_rfl) (by kernel_rfl)) ?_
  intro W base args ds gs before hval0 hW _ _
  have hval : ∀ (j : Nat) t v, Try.f7.params[j]? = some t → args[j]? = some v → Value.okWide Try.prog W .any base t v := hval0
  have hW' := hW
  obtain ⟨p, q, hA0, hV, rfl, hfz, hnd⟩ := hW
  have hA : DataW.TrodAll enc Try.prog W 0 (fun _ => true) true Try.f7.params.toList args.toList ds p := hA0
  rw [Try.params7] at hA hval
  obtain ⟨v0, r0, d0, e0, p0, q0, ha0, rfl, rfl, h0, hA⟩ := trodAll_cons hA
  obtain ⟨v1, r1, d1, e1, p1, q1, ha1, rfl, rfl, h1, hA⟩ := trodAll_cons hA
  obtain ⟨hnil, rfl, rfl⟩ := trodAll_nil hA
  obtain rfl : args = #[v0, v1] := by cases args; simp_all
  have hv0 := hval 0 _ v0 rfl rfl
  have hv1 := hval 1 _ v1 rfl rfl
  clear hA0 hval0 ha0 ha1 hnil
  obtain ⟨k0, rfl, hk0⟩ := rd_int (Ty.knd rfl) hv0 h0
  obtain ⟨k, rfl, _⟩ := fits_u8 hk0
  obtain ⟨a, n, cap, l, rfl, hn, hS, hl, hlen⟩ := rd_bytes (Ty.sle rfl) (Ty.knd rfl) hv1 h1
  refine ((cback_spec hS hl hn hlen).enter Try.func7 rfl rfl).mono ?_
  rintro e W' ⟨v, rfl, rfl, hE⟩
  exact ⟨_, rfl, law_post laid_codeBack (by kernel_rfl) hW' rfl rfl (by kernel_rfl) ⟨rfl, rfl, rfl⟩ hE⟩
theorem codeBack_holds : Rows.CodeBackSaid :=
  OpenClaim.holds_of_wide 7 Try.f7 rfl rfl rfl rfl rfl rfl rfl ⟨rfl, rfl, rfl, rfl, rfl⟩ rfl rfl rfl rfl rfl (by kernel_rfl) Try.func7 (by kernel_rfl)
    (of_decide_eq_true (by kernel_rfl)) (by unfold Func.isWrapper; (rw [if_neg (by decide +kernel)]; exact ⟨rfl, rfl⟩))
    (fun os started H enc _ => codeBack_lifted os started H enc)
#print axioms codeBack_holds
end Go.Proofs.Ytccnhnijglnbmaa
