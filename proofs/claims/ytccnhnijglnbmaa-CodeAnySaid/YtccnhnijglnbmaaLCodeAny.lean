/- The law CodeAny: any bits, read by a code: the numbers whose words they are, one behind the other, till there is none; no condition. -/
import Derived.Test.YtccnhnijglnbmaaSh
import Derived.Test.YtccnhnijglnbmaaLaw04
import Derived.Test.YtccnhnijglnbmaaK8
import Derived.Test.YtccnhnijglnbmaaRows
namespace Go.Proofs.Ytccnhnijglnbmaa
open Go Go.K Go.P Go.RowKit Go.Proofs Go.ChangeShapes Go.WideShapes Go.ChangeAt
/-- Sizes from 1 to 8. -/
def nr (l : List Nat) : List Int := l.map fun n => 1 + ((n % 8 : Nat) : Int)
theorem nr_snoc (l : List Nat) (n : Nat) : nr (l ++ [n]) = nr l ++ [1 + ((n % 8 : Nat) : Int)] := by simp [nr]
theorem SlA.far {w w' : World} {a : Option Addr} {vs : List Value} {F : List Nat} (h : SlA w a vs) (hE : Ext F w w') (hF : ∀ x ∈ F, w.heap.size ≤ x) : SlA w' a vs := by
  by_cases h0 : vs = []
  · subst h0; exact SlA.nil
  · exact SlA.ext h hE (fun s hs hb => by have h1 := SlA.lt h h0 s hb; have h2 := hF s hs; omega)
theorem joinC {A : Prop} {Y : Fr → Nat → CD → World → Prop} (Z : Nat → CD → World → Prop) (h1 : (∀ σ p D u, Z p D u → Y σ p D u) → A) (h2 : ∀ σ p D u, Z p D u → Y σ p D u) : A := h1 h2
set_option maxRecDepth 20000 in
set_option maxHeartbeats 8000000 in
theorem cany_spec {k n0 cap n1 cap1 : Nat} {a a1 : Option Addr} {l sm : List Nat} {w : World} (hS : SlA w a (l.map B)) (hlb : Byt l) (hn : l.length = n0) (hlen : n0 ≤ 9223372036854775807) (hS2 : SlA w a1 (sm.map B)) (hsb : Byt sm) (hn1 : sm.length = n1) (hlen1 : n1 ≤ 9223372036854775807) :
    Does Try.prog 6 #[.slice a n0 cap, .int .u8 k, .slice a1 n1 cap1] w fun v w' => v = .bool true ∧ Ext [] w w' := by
  subst hn
  subst hn1
  refine Does_of (args := [_, _, _]) Try.func6 rfl rfl Try.ntmps6 rfl ?_
  repeat (first | refine WS_seq ?_ | refine WS_region ?_ | refine WL_nil ?_ | (refine WL_r (by refine Run_pev rfl) rfl ?_))
  try refine WL_gyes rfl rfl rfl ?_
  refine WL_s (S_call (awake04 w) rfl rfl ?_)
  rintro v w1 ⟨rfl, hW1⟩
  have hH := (Hp.start w).ext0 hW1
  clear hW1
  by_cases h50 : 50 < l.length
  · repeat (first | refine WS_seq ?_ | refine WS_region ?_ | refine WL_nil ?_ | refine WS_skip ?_ | refine WS_true rfl ?_ | refine WS_false rfl ?_ | refine WL_gno (b := true) rfl rfl (dT (by omega)) rfl rfl ?_ | (refine WL_r (by first | refine Run_pev rfl | refine k_len rfl (Ty.isl rfl) | refine k_pick_t (dT (by omega)) rfl) rfl ?_))
    exact WS_ret1 Try.func6 rfl ⟨rfl, hH.ext⟩
  by_cases h60 : 60 < sm.length
  · repeat (first | refine WS_seq ?_ | refine WS_region ?_ | refine WL_nil ?_ | refine WS_skip ?_ | refine WS_false rfl ?_ | refine WS_yes rfl (by omega) ?_ | refine WL_gyes rfl rfl (dF (by omega)) ?_ | (refine WL_r (by first | refine Run_pev rfl | refine k_len rfl (Ty.isl rfl) | refine k_pick_f (dF (by omega)) rfl) rfl ?_))
    exact WS_ret1 Try.func6 rfl ⟨rfl, hH.ext⟩
  replace hH := hH.nu (New.nilO (e := 3) (sz := 1))
  change Hp _ _ _ [_] at hH
  have hsl : (sm.map B).length = sm.length := by simp
  repeat (first | refine WS_seq ?_ | refine WS_region ?_ | refine WL_nil ?_ | refine WS_block ?_ | refine WS_skip ?_ | refine WS_false rfl ?_ | refine WS_no rfl (by omega) ?_ | refine WL_gyes rfl rfl (dF (by omega)) ?_ | (refine WL_r (by first | refine Run_pev rfl | refine k_len rfl (Ty.isl rfl) | refine k_pick_f (dF (by omega)) rfl) rfl ?_))
  refine WS_loop (G := (Nat) × (Option Addr) × (Nat)) (fun | (i, an, cn) => sm.length - i) 70351564309120 (fun | (i, an, cn) => [(7, .slice an i cn), (34, .int .i64 i)]) (fun | (i, an, cn), w' => i ≤ sm.length ∧ Hp [] w w' [Ro 3 1 an i cn ((nr (sm.take i)).map (Value.int .i64))]) (0, none, 0) ⟨rfl, rfl, trivial⟩ ⟨by omega, hH⟩ ?_
  rintro ⟨i, an, cn⟩ u1 σ ⟨hi, hH⟩ IH
  show WS _ _ _ _ _ (updL [(7, .slice an i cn), (34, .int .i64 i)] _) _
  by_cases hlt : i < sm.length
  · have hv : (sm.map B)[i]? = some (B sm[i]) := by simp [hlt]
    have hS3 := hH.old hS2
    have htk : nr (sm.take (i + 1)) = nr (sm.take i) ++ [1 + ((sm[i] % 8 : Nat) : Int)] := by rw [List.take_succ_eq_append_getElem hlt, nr_snoc]
    have hn256 := hsb _ (List.getElem_mem hlt)
    generalize sm[i] = n at *
    repeat (first | refine WS_seq ?_ | refine WS_region ?_ | refine WL_nil ?_ | refine WS_block ?_ | refine WS_skip ?_ | refine WS_yes rfl (by omega) ?_ | (refine WL_r (by first | refine k_ix1 rfl rfl hS3 hsl (Ty.sle rfl) (by omega) | refine k_loads rfl hS3 hv (Ty.shp rfl) | refine k_remu (n := 8) rfl rfl (by decide) | refine Run_pev rfl | refine k_add64 rfl rfl (by omega) | refine k_convI rfl rfl rfl (by omega)) rfl ?_))
    try refine WL_gyes rfl rfl rfl ?_
    refine WL_s (H_lit (out := [.int .i64 (1 + ((n % 8 : Nat) : Int))]) hH (Ty.sle rfl) (Ty.zer rfl) rfl rfl rfl (by decide) rfl ?_)
    try clear hH
    intro _ blit hH
    change Hp _ _ _ [_, _] at hH
    try refine WL_gyes rfl rfl rfl ?_
    refine WL_s (H_append 0 hH rfl (Ty.sle rfl) (Ty.zer rfl) rfl (Ty.byt rfl) (by decide) rfl rfl ((hH.b 1 rfl).sl0) (by simp; try omega) (by simp) (by omega) (by simp only [maxLen]; omega) rfl ?_)
    try clear hH
    intro _ a4 c4 hH
    change Hp _ _ _ [_, _] at hH
    replace hH := hH.del 1
    change Hp _ _ _ [_] at hH
    repeat (first | refine WS_region ?_ | refine WL_nil ?_ | refine WS_inBlock ?_ | (refine WL_r (by first | refine Run_pev rfl | refine k_add64 rfl rfl (by omega) | apply k_makeFunc) rfl ?_))
    refine IH (i + 1, a4, c4) _ _ ?_ ?_ ?_ ?_
    · simp only; omega
    · exact ⟨rfl, rfl, trivial⟩
    · exact (by repeat (first | with_reducible apply Agr.refl | refine Agr.upd rfl ?_ | refine Agr.updL rfl ?_ | refine Agr.mrg rfl ?_))
    · exact ⟨by omega, by rw [htk, List.map_append]; exact hH⟩
  obtain rfl : i = sm.length := by omega
  clear IH
  rw [List.take_length] at hH
  have hnl : (nr sm).length = sm.length := by simp [nr]
  repeat (first | refine WS_seq ?_ | refine WS_region ?_ | refine WL_nil ?_ | refine WS_exit rfl ?_ | refine WS_no rfl (by omega) ?_ | (refine WL_r (by refine Run_pev rfl) rfl ?_))
  try refine WL_gyes rfl rfl rfl ?_
  refine WL_s (S_call (own_spec) rfl rfl ?_)
  rintro v w2 ⟨p, D, b, hok, rfl, hQ⟩
  replace hH := Hp.cats hH hQ
  clear hQ
  change Hp _ _ _ [_, _, _] at hH
  repeat (first | refine WS_seq ?_ | refine WS_region ?_ | refine WL_nil ?_ | (refine WL_r (by first | refine Run_pev rfl | refine k_extract rfl rfl) rfl ?_))
  try refine WL_gyes rfl rfl rfl ?_
  refine WL_s (S_call (cnew_spec (l := nr sm) (hH.o 0 rfl).sl hnl (by omega)) rfl rfl ?_)
  rintro v w3 hCN
  apply joinC (Z := fun p D u => D.ok ∧ Hp [] w u [RC p D])
  · intro key
    have hCN2 := hCN
    rcases hCN2 with ⟨_, hv, hE⟩ | ⟨_, _, hv, hE⟩ | ⟨sz, hsz, _, _, ⟨_, hv, hE⟩ | ⟨p2, D2, _, hok2, hv, hN⟩⟩ <;> rw [hv]
    · repeat (first | refine WS_seq ?_ | refine WS_region ?_ | refine WL_nil ?_ | refine WS_skip ?_ | refine WS_false rfl ?_ | refine WL_gno rfl rfl rfl rfl rfl ?_ | (refine WL_r (by first | refine Run_pev rfl | refine k_len rfl (Ty.isl rfl) | refine k_mul64 rfl rfl (by omega) | refine k_extract rfl rfl) rfl ?_))
      obtain ⟨p3, D3, hok3, hH3, hp3⟩ : ∃ p3 D3, D3.ok ∧ Hp [] w w3 [RC p3 D3] ∧ p = p3 := ⟨p, D, hok, ((hH.ext0 hE).del 2).del 0, rfl⟩
      refine WL_keep [(0, .slice a l.length cap), (10, pt p3), (64, .slice a l.length cap), (67, .int .i64 ((l.length : Int) * 8))] ⟨rfl, congrArg pt hp3, rfl, rfl, trivial⟩ (fun σ => ?_)
      exact key σ p3 D3 _ ⟨hok3, hH3⟩
    · repeat (first | refine WS_seq ?_ | refine WS_region ?_ | refine WL_nil ?_ | refine WS_skip ?_ | refine WS_false rfl ?_ | refine WL_gno rfl rfl rfl rfl rfl ?_ | (refine WL_r (by first | refine Run_pev rfl | refine k_len rfl (Ty.isl rfl) | refine k_mul64 rfl rfl (by omega) | refine k_extract rfl rfl) rfl ?_))
      obtain ⟨p3, D3, hok3, hH3, hp3⟩ : ∃ p3 D3, D3.ok ∧ Hp [] w w3 [RC p3 D3] ∧ p = p3 := ⟨p, D, hok, ((hH.ext0 hE).del 2).del 0, rfl⟩
      refine WL_keep [(0, .slice a l.length cap), (10, pt p3), (64, .slice a l.length cap), (67, .int .i64 ((l.length : Int) * 8))] ⟨rfl, congrArg pt hp3, rfl, rfl, trivial⟩ (fun σ => ?_)
      exact key σ p3 D3 _ ⟨hok3, hH3⟩
    · repeat (first | refine WS_seq ?_ | refine WS_region ?_ | refine WL_nil ?_ | refine WS_skip ?_ | refine WS_false rfl ?_ | refine WL_gno rfl rfl rfl rfl rfl ?_ | (refine WL_r (by first | refine Run_pev rfl | refine k_len rfl (Ty.isl rfl) | refine k_mul64 rfl rfl (by omega) | refine k_extract rfl rfl) rfl ?_))
      obtain ⟨p3, D3, hok3, hH3, hp3⟩ : ∃ p3 D3, D3.ok ∧ Hp [] w w3 [RC p3 D3] ∧ p = p3 := ⟨p, D, hok, ((hH.ext0 hE).del 2).del 0, rfl⟩
      refine WL_keep [(0, .slice a l.length cap), (10, pt p3), (64, .slice a l.length cap), (67, .int .i64 ((l.length : Int) * 8))] ⟨rfl, congrArg pt hp3, rfl, rfl, trivial⟩ (fun σ => ?_)
      exact key σ p3 D3 _ ⟨hok3, hH3⟩
    · by_cases hk2 : k % 2 = 0
      · repeat (first | refine WS_seq ?_ | refine WS_region ?_ | refine WL_nil ?_ | refine WS_yes rfl (by omega) ?_ | refine WL_gyes rfl rfl rfl ?_ | (refine WL_r (by first | refine k_remu (n := 2) rfl rfl (by decide) | refine Run_pev rfl | refine k_len rfl (Ty.isl rfl) | refine k_mul64 rfl rfl (by omega) | refine k_extract rfl rfl) rfl ?_))
        refine WL_keep [(0, .slice a l.length cap), (10, pt p2), (64, .slice a l.length cap), (67, .int .i64 ((l.length : Int) * 8))] ⟨rfl, rfl, rfl, rfl, trivial⟩ (fun σ => ?_)
        exact key σ p2 D2 _ ⟨hok2, (((hH.nu hN).del 2).del 1).del 0⟩
      · repeat (first | refine WS_seq ?_ | refine WS_region ?_ | refine WL_nil ?_ | refine WS_skip ?_ | refine WS_no rfl (by omega) ?_ | refine WL_gyes rfl rfl rfl ?_ | (refine WL_r (by first | refine k_remu (n := 2) rfl rfl (by decide) | refine Run_pev rfl | refine k_len rfl (Ty.isl rfl) | refine k_mul64 rfl rfl (by omega) | refine k_extract rfl rfl) rfl ?_))
        obtain ⟨p3, D3, hok3, hH3, hp3⟩ : ∃ p3 D3, D3.ok ∧ Hp [] w w3 [RC p3 D3] ∧ p = p3 := ⟨p, D, hok, (((hH.nu hN).del 3).del 2).del 0, rfl⟩
        refine WL_keep [(0, .slice a l.length cap), (10, pt p3), (64, .slice a l.length cap), (67, .int .i64 ((l.length : Int) * 8))] ⟨rfl, congrArg pt hp3, rfl, rfl, trivial⟩ (fun σ => ?_)
        exact key σ p3 D3 _ ⟨hok3, hH3⟩
  clear hCN hok hH
  rintro σ p D u ⟨hok, hH⟩
  have hD := hok.1
  have hle := hD.le
  skip
  try refine WL_gyes rfl rfl rfl ?_
  refine WL_s (S_call (read_spec (e := 8 * l.length) (hH.old hS) rfl (by omega) (by omega)) rfl rfl ?_)
  rintro v w4 ⟨r, ar, cr, rfl, hN⟩
  replace hN := Rr.rq hN (by omega) (by omega) hlb
  replace hH := hH.nu hN
  clear hN
  change Hp _ _ _ [_, _] at hH
  have hXl : (bl l 0 (8 * l.length)).length = 8 * l.length := bl_len _ _ _
  repeat (first | refine WS_seq ?_ | refine WS_region ?_ | refine WL_nil ?_ | (refine WL_r (by first | refine k_buildS (cs := [.slice none 0 0, .int .i64 0]) (Ty.zer rfl) (Ty.plc rfl) rfl | refine Run_pev rfl) rfl ?_))
  refine WL_s (H_box hH rfl rfl rfl ?_)
  clear hH
  intro w5 q hH
  replace hH : Hp [] w w5 [RC p D, Rq r ar cr l (8 * l.length) ⟨bl l 0 (8 * l.length), false⟩, Rw q none 0 []] := hH.as 2 rfl (fun x hx => by simpa [Rw, sep, Rb, RBy, Ro, blk] using hx) (fun hB => ⟨hB, Own.nil, fun _ _ hb => by simp [RBy, Ro, blk] at hb⟩)
  change Hp _ _ _ [_, _, _] at hH
  repeat (first | refine WS_seq ?_ | refine WS_region ?_ | refine WL_nil ?_ | refine WS_block ?_ | (refine WL_r (by first | refine Run_pev rfl | apply k_makeFunc) rfl ?_))
  refine WS_loopX (G := (Nat) × (List Bool) × (List Bool) × (Option Addr) × (Nat)) (G2 := (List Bool) × (List Bool) × (Option Addr) × (Nat)) (fun | (i, G, T, aw, cw') => 400 - i) 4951757795958279664773955648 (fun | (i, G, T, aw, cw') => [(71, .int .i64 i)]) (fun | (i, G, T, aw, cw'), w' => i ≤ 400 ∧ bl l 0 (8 * l.length) = G ++ T ∧ Hp [] w w' [RC p D, Rq r ar cr l (8 * l.length) ⟨T, false⟩, Rw q aw cw' G]) (fun | (G, T, aw, cw') => []) (fun | (G, T, aw, cw'), w' => bl l 0 (8 * l.length) = G ++ T ∧ Hp [] w w' [RC p D, Rw q aw cw' G]) (0, [], bl l 0 (8 * l.length), none, 0) ⟨rfl, trivial⟩ ⟨by omega, rfl, hH⟩ ?_ ?_
  · skip
    rintro ⟨i, G, T, aw, cw'⟩ u1 σ ⟨hi, hGT, hH⟩ IH EX
    show WS _ _ _ _ _ (updL [(71, .int .i64 i)] _) _
    have hGl := congrArg List.length hGT
    rw [hXl, List.length_append] at hGl
    by_cases hlt : i < 400
    · repeat (first | refine WS_seq ?_ | refine WS_region ?_ | refine WL_nil ?_ | refine WS_block ?_ | refine WS_skip ?_ | refine WS_yes rfl (by omega) ?_ | (refine WL_r (by refine Run_pev rfl) rfl ?_))
      try refine WL_gyes rfl rfl rfl ?_
      refine WL_s (S_call (ctake_spec hok (hH.at 0 rfl) (hH.at 1 rfl) (hH.dj 1 0 rfl rfl (by decide))) rfl rfl ?_)
      rintro v w6 (⟨j, r2, hde, rfl, hU⟩ | ⟨_, rfl, s', hs', hU⟩)
      · replace hH := hH.up 1 rfl hU
        clear hU
        change Hp _ _ _ [_, _, _] at hH
        obtain ⟨hj, rfl⟩ := hD.dec_some hde
        have hsz := hD.szd hj
        repeat (first | refine WS_seq ?_ | refine WS_region ?_ | refine WL_nil ?_ | (refine WL_r (by refine Run_pev rfl) rfl ?_))
        try refine WL_gyes rfl rfl rfl ?_
        refine WL_s (S_call (rended_spec (Rq.rd (hH.at 1 rfl))) rfl rfl ?_)
        rintro v w7 ⟨rfl, rfl⟩
        repeat (first | refine WS_seq ?_ | refine WS_region ?_ | refine WL_nil ?_ | refine WS_skip ?_ | refine WS_false rfl ?_ | (refine WL_r (by refine Run_pev rfl) rfl ?_))
        try refine WL_gyes rfl rfl rfl ?_
        refine WL_s (S_call (cputw_spec hok hj (by omega) (hH.at 0 rfl) (hH.at 2 rfl)) rfl rfl ?_)
        rintro v w8 ⟨rfl, a5, c5, hU⟩
        replace hH := hH.up 2 rfl hU
        clear hU
        change Hp _ _ _ [_, _, _] at hH
        repeat (first | refine WL_gyes rfl rfl rfl ?_ | (refine WL_r (by refine Run_pev rfl) rfl ?_))
        try refine WL_gyes rfl rfl rfl ?_
        refine WL_s (S_call (csize_in (hH.at 0 rfl) hj) rfl rfl ?_)
        rintro v w9 ⟨rfl, rfl⟩
        repeat (first | refine WS_region ?_ | refine WL_nil ?_ | refine WS_inBlock ?_ | refine WS_skip ?_ | refine WS_false rfl ?_ | refine WL_gyes rfl rfl rfl ?_ | (refine WL_r (by first | refine (k_eql (q := .i64) rfl rfl).is (bF (by omega)) | refine Run_pev rfl | refine k_add64 rfl rfl (by omega) | apply k_makeFunc) rfl ?_))
        refine IH (i + 1, G ++ cw D.sz D.ws j, r2, a5, c5) _ _ ?_ ?_ ?_ ?_
        · simp only; omega
        · exact ⟨rfl, trivial⟩
        · exact (by repeat (first | with_reducible apply Agr.refl | refine Agr.upd rfl ?_ | refine Agr.updL rfl ?_ | refine Agr.mrg rfl ?_))
        · exact ⟨by omega, by rw [hGT, List.append_assoc], hH⟩
      · replace hH := hH.up 1 rfl hU
        clear hU
        change Hp _ _ _ [_, _, _] at hH
        repeat (first | refine WS_seq ?_ | refine WS_region ?_ | refine WL_nil ?_ | (refine WL_r (by refine Run_pev rfl) rfl ?_))
        try refine WL_gyes rfl rfl rfl ?_
        refine WL_s (S_call (rended_spec (Rq.rd (hH.at 1 rfl))) rfl rfl ?_)
        rintro v w7 ⟨rfl, rfl⟩
        rw [hs']
        replace hH := hH.del 1
        change Hp _ _ _ [_, _] at hH
        repeat (first | refine WS_seq ?_ | refine WS_region ?_ | refine WL_nil ?_ | refine WS_skip ?_ | refine WS_true rfl ?_ | refine WS_false rfl ?_ | (refine WL_r (by first | refine Run_pev rfl | apply k_makeFunc) rfl ?_))
        refine WS_exit rfl ?_
        refine EX (G, T, aw, cw') _ _ ?_ ?_ ?_
        · exact trivial
        · exact (by repeat (first | with_reducible apply Agr.refl | refine Agr.upd rfl ?_ | refine Agr.updL rfl ?_ | refine Agr.mrg rfl ?_))
        · exact ⟨hGT, hH⟩
    · replace hH := hH.del 1
      change Hp _ _ _ [_, _] at hH
      repeat (first | refine WS_seq ?_ | refine WS_region ?_ | refine WL_nil ?_ | refine WS_no rfl (by omega) ?_ | (refine WL_r (by first | refine Run_pev rfl | apply k_makeFunc) rfl ?_))
      refine WS_exit rfl ?_
      refine EX (G, T, aw, cw') _ _ ?_ ?_ ?_
      · exact trivial
      · exact (by repeat (first | with_reducible apply Agr.refl | refine Agr.upd rfl ?_ | refine Agr.updL rfl ?_ | refine Agr.mrg rfl ?_))
      · exact ⟨hGT, hH⟩
  · skip
    rintro ⟨G, T, aw, cw'⟩ u1 σ ⟨hGT, hH⟩
    show WS _ _ _ _ _ (updL [] _) _
    have hGl := congrArg List.length hGT
    rw [hXl, List.length_append] at hGl
    have hgl : (G.map Bool.toNat).length = G.length := by simp
    have hol := ofB_len l
    have hpb := pk_byt G
    have hpl := pk_len G
    have hRw := hH.at 1 rfl
    have hS1 := hH.old hS
    have htk0 : (ofB (pk G)).take G.length = G.map Bool.toNat := by rw [bl_take _ _ (by omega), bl_pk]
    have htk : (ofB l).take (G.map Bool.toNat).length = G.map Bool.toNat := by
      rw [ofB_bl, hGT, List.map_append, List.take_left]
    have hbG := bits_byt G
    repeat (refine WS_seq ?_)
    refine WS_specK [Is (pt q), IsSl (pk G), IsSc (ofB (pk G)), Is (pt q), Is (.int .i64 G.length), IsSl (G.map Bool.toNat), Is (.slice a l.length cap), IsSc (ofB l), IsSl (G.map Bool.toNat), IsSc (ofB l)] Ty.mixed [(1247843559599663317098317217792, [], true), (1232988279128238753799527727104, [(0, 92)], true), (1005207311899728783218088869888, [(1, 93)], true), (1143856596299691374006790782976, [], true), (391189052414180166868123254784, [(3, 95)], true), (1104242515042559205210018807808, [(2, 94), (4, 96)], true), (311960889899915829274579435520, [], true), (628873539956973179648755105792, [(6, 98)], true), (1262698840071087880397106708480, [(5, 97)], true), (1262698840071087880397106839552, [(7, 99)], true)] 1262698840071087880397107101696 [(8, 17), (9, 18)] (by kernel_rfl) (by kernel_rfl) (by kernel_rfl) (by kernel_rfl) (by kernel_rfl) ⟨Is.st, IsSl.st, (by exact IsSc.st), Is.st, Is.st, IsSl.st, Is.st, (by exact IsSc.st), IsSl.st, (by exact IsSc.st), trivial⟩ ⟨⟨GOk.none, ?_⟩, ⟨GOk.none, ?_⟩, ⟨GOk.none, ?_⟩, ⟨GOk.none, ?_⟩, ⟨GOk.none, ?_⟩, ⟨GOk.none, ?_⟩, ⟨GOk.none, ?_⟩, ⟨GOk.none, ?_⟩, ⟨GOk.none, ?_⟩, ⟨GOk.none, ?_⟩, trivial⟩ ?_
    · intro w'' hE''
      intro σ''
      exact sp_is (by refine Run_pev rfl) rfl
    · intro w'' hE''
      rintro _ rfl
      intro σ''
      refine S_call (wbytes_spec ((Rw _ _ _ _).keep hRw hE'' (by simp)) (by omega)) rfl rfl ?_
      rintro v w3'' ⟨a', c', rfl, hN⟩
      exact ⟨hN.ext, _, rfl, a', c', rfl, (hN.holds : Own _ _ _ _ _ _ _).sl⟩
    · intro w'' hE''
      rintro _ ⟨a1, c1, rfl, hS1⟩
      intro σ''
      refine S_call (rof_spec hS1 hpb rfl (by omega)) rfl rfl ?_
      rintro v w3'' ⟨a', c', rfl, hN⟩
      exact ⟨hN.ext, _, rfl, a', c', congrArg (fun n => Value.slice a' n c') (ofB_len _).symm, (hN.holds : Own _ _ _ _ _ _ _).sl, by rw [ofB_len]; exact (hN.holds : Own _ _ _ _ _ _ _).2.1⟩
    · intro w'' hE''
      intro σ''
      exact sp_is (by refine Run_pev rfl) rfl
    · intro w'' hE''
      rintro _ rfl
      intro σ''
      refine S_call (wlen_spec ((Rw _ _ _ _).keep hRw hE'' (by simp))) rfl rfl ?_
      rintro v w3'' ⟨rfl, rfl⟩
      exact ⟨.refl, _, rfl, rfl⟩
    · intro w'' hE''
      rintro _ h2
      rintro _ rfl
      intro σ''
      obtain ⟨a4, c4, rfl, hS4, hc4⟩ := h2
      have hle : G.length ≤ (ofB (pk G)).length := by rw [ofB_len]; omega
      refine S_run (k_slchN (h := G.length) rfl rfl (Ty.sle rfl) (by omega)) rfl ⟨.refl, _, rfl, _, _, congrArg (fun n => Value.slice _ n _) (by simp), ?_⟩
      have h9 := take_cells (k := G.length) hS4 hle hc4
      rw [← List.map_take, htk0] at h9
      exact h9
    · intro w'' hE''
      intro σ''
      exact sp_is (by refine Run_pev rfl) rfl
    · intro w'' hE''
      rintro _ rfl
      intro σ''
      refine S_call (rof_spec ((hH.old hS).ext0 hE'') hlb rfl (by omega)) rfl rfl ?_
      rintro v w3'' ⟨a', c', rfl, hN⟩
      exact ⟨hN.ext, _, rfl, a', c', congrArg (fun n => Value.slice a' n c') (ofB_len _).symm, (hN.holds : Own _ _ _ _ _ _ _).sl, by rw [ofB_len]; exact (hN.holds : Own _ _ _ _ _ _ _).2.1⟩
    · intro w'' hE''
      rintro _ ⟨a5, c5, rfl, hS5⟩
      intro σ''
      exact S_run (k_assign rfl) rfl ⟨.refl, _, rfl, a5, c5, rfl, hS5⟩
    · intro w'' hE''
      rintro _ h7
      intro σ''
      exact S_run (k_assign rfl) rfl ⟨.refl, _, rfl, h7⟩
    intro w'' hE''
    rintro _ ⟨a8, c8, rfl, hS8⟩
    rintro _ h9
    intro σ''
    obtain ⟨a9, c9, rfl, hS9, hc9⟩ := h9
    replace hH := hH.ext0 hE''
    clear hRw hS1
    repeat (first | refine WS_seq ?_ | refine WS_region ?_ | refine WL_nil ?_ | (refine WL_r (by first | refine Run_pev rfl | refine k_len rfl (Ty.isl rfl) | refine k_mul64 rfl rfl (by omega)) rfl ?_))
    try refine WL_gyes rfl rfl rfl ?_
    refine WL_s (S_call (read_spec (e := 8 * l.length) (hH.old hS) rfl (by omega) (by omega)) rfl rfl ?_)
    rintro v w6 ⟨x, ax, cx, rfl, hN⟩
    replace hN := Rr.rq hN (by omega) (by omega) hlb
    have hnx : ∀ y ∈ ([x] ++ blk ax : List Nat), w''.heap.size ≤ y := hN.fp
    have hNe := hN.ext
    replace hH := hH.nu hN
    clear hN
    change Hp _ _ _ [_, _, _] at hH
    repeat (first | refine WS_seq ?_ | refine WS_region ?_ | refine WL_nil ?_ | (refine WL_r (by refine Run_pev rfl) rfl ?_))
    try refine WL_gyes rfl rfl rfl ?_
    refine WL_s (S_call (ctake_nil (hH.at 2 rfl)) rfl rfl ?_)
    rintro v w7 (⟨_, _, hno, _⟩ | ⟨_, rfl, s', hs', hU⟩)
    · cases hno
    have hE7 : Ext ([x] ++ blk ax) w'' w7 := (hNe.weaken (by simp)).trans hU.ext (fun t ht => .inl ht)
    replace hS8 := SlA.far hS8 hE7 hnx
    replace hS9 := SlA.far hS9 hE7 hnx
    clear hE'' hNe hE7
    replace hH := hH.up 2 rfl hU
    change Hp _ _ _ [_, _, _] at hH
    have hRx := hH.at 2 rfl
    have hlec : (G.map Bool.toNat).length ≤ c9 := by omega
    repeat (first | refine WS_seq ?_ | refine WL_nil ?_ | (refine WL_r (by first | refine Run_pev rfl | apply k_makeFunc) rfl ?_))
    refine WS_specK [Is (.slice a8 (G.map Bool.toNat).length c8), Is (.int .i64 (G.map Bool.toNat).length), Is (.slice a9 (ofB l).length c9), Is (.int .i64 (ofB l).length), Is (.bool true), Is (.bool true), Is (.slice a8 (G.map Bool.toNat).length c8), Is (.string (strOf (G.map Bool.toNat))), Is (.slice a9 (ofB l).length c9), Is (.slice a8 (G.map Bool.toNat).length c8), Is (.int .i64 (G.map Bool.toNat).length), IsSl (G.map Bool.toNat), Is (.string (strOf (G.map Bool.toNat))), Is (.bool true), Is (.bool true), Is (.bool true), Is (.int .i64 0), Is (.bool true), Is (.bool true), Is (.bool true), Is (pt x), Is (.bool true), Is (.bool true), Is (.bool true), Is np, Is (.int .i64 0), Is np, Is (.int .i64 0), Is (.int .i64 0), Is (.bool true), Is (.bool true), Is (.bool true), Is np, Is (pt q), Is (.int .i64 1), Is (.bool true), Is (.bool true), Is (.bool true)] Ty.mixed [(44601490395763172068437729638164098929655808, [], true), (44601490390895393763561328736416758621011968, [(0, 108)], true), (44601490392842505085511889097115694744469504, [], true), (44601490388948282441610768375717822497554432, [(2, 110)], true), (44601490381159837153808526932922078003724288, [(1, 109), (3, 111)], true), (44601469139473388887828698614661595164311552, [(4, 112)], true), (44601490334429165426995078276147611040743424, [], true), (44601487696742361291302642982655475796934656, [(6, 114)], true), (44601489649045980100397831310122095583690752, [], true), (44601489898276229310069557479585919386255360, [], true), (44601489399815730890726105140658271781126144, [(9, 117)], true), (44601488402894734052039200462802976570867712, [(8, 116), (10, 118)], true), (44601486409052740374665391107092386150350848, [(11, 119)], true), (44601482421368753019917772395671205309317120, [(7, 115), (12, 120)], true), (44601474446000778310422534972828843627249664, [(5, 113), (13, 121)], true), (44601160748193773070276529674362617465929728, [(14, 122)], true), (44601426593792930053451110435774673534844928, [], true), (44601362790849132377489211053035780078305280, [(16, 124)], true), (44601235184961537025565412287557993165225984, [(15, 123), (17, 125)], true), (44598938278984820690937034508957828729798656, [(18, 126)], true), (44600469549635964914022619694691271686750208, [], true), (44596726443599834590924522574009522236424192, [(20, 128)], true), (44597407008333676467851449323224385772847104, [(19, 127), (21, 129)], true), (43907314368218013263947725619352759840014336, [(22, 130)], true), (44585156843124522683166767837356842117234688, [], true), (44459932932097617328612245981821951415418880, [(24, 132)], true), (44536156182287907544428041893886667494785024, [], true), (43773923680385005386270082773239506701123584, [(26, 134)], true), (44340153538941446989473138120005969004986368, [(25, 133), (27, 135)], true), (44078816681146166249533266421498371018588160, [(28, 136)], true), (43556142965555604769653523024483175045791744, [(23, 131), (29, 137)], true), (696898287129563419514564469237105276485632, [(30, 138)], true), (37632507522195907997683097858310954020765696, [], true), (36238710947287744051337115466270431426641920, [], true), (27875931497838760373261221114027295861899264, [(32, 140), (33, 141)], true), (11150372598940793017109432409541024732413952, [(34, 142)], true), (22300745198206104587877291545865205485404160, [(31, 139), (35, 143)], true), (44601490396736727729413009818513566991384576, [(36, 144)], true)] 44601490396736727729413009818513566991384640 [(37, 6)] (by kernel_rfl) (by kernel_rfl) (by kernel_rfl) (by kernel_rfl) (by kernel_rfl) ⟨Is.st, Is.st, Is.st, Is.st, Is.st, Is.st, Is.st, Is.st, Is.st, Is.st, Is.st, IsSl.st, Is.st, Is.st, Is.st, Is.st, Is.st, Is.st, Is.st, Is.st, Is.st, Is.st, Is.st, Is.st, Is.st, Is.st, Is.st, Is.st, Is.st, Is.st, Is.st, Is.st, Is.st, Is.st, Is.st, Is.st, Is.st, Is.st, trivial⟩ ⟨⟨GOk.none, ?_⟩, ⟨GOk.none, ?_⟩, ⟨GOk.none, ?_⟩, ⟨GOk.none, ?_⟩, ⟨GOk.none, ?_⟩, ⟨GOk.none, ?_⟩, ⟨GOk.of (fun _ _ h => h), ?_⟩, ⟨GOk.of (fun _ _ h => h), ?_⟩, ⟨GOk.of (fun _ _ h => h), ?_⟩, ⟨GOk.of (fun _ _ h => h), ?_⟩, ⟨GOk.of (fun _ _ h => h), ?_⟩, ⟨GOk.of (fun _ _ h => h), ?_⟩, ⟨GOk.of (fun _ _ h => h), ?_⟩, ⟨GOk.of (fun _ _ h => h), ?_⟩, ⟨GOk.none, ?_⟩, ⟨GOk.none, ?_⟩, ⟨GOk.of (fun _ _ h => h), ?_⟩, ⟨GOk.of (fun _ _ h => h), ?_⟩, ⟨GOk.none, ?_⟩, ⟨GOk.none, ?_⟩, ⟨GOk.of (fun _ _ h => h), ?_⟩, ⟨GOk.of (fun _ _ h => h), ?_⟩, ⟨GOk.none, ?_⟩, ⟨GOk.none, ?_⟩, ⟨GOk.of (fun _ _ h => h), ?_⟩, ⟨GOk.of (fun _ _ h => h), ?_⟩, ⟨GOk.of (fun _ _ h => h), ?_⟩, ⟨GOk.of (fun _ _ h => h), ?_⟩, ⟨GOk.of (fun _ _ h => h), ?_⟩, ⟨GOk.of (fun _ _ h => h), ?_⟩, ⟨GOk.none, ?_⟩, ⟨GOk.none, ?_⟩, ⟨GOk.of (fun _ _ h => h), ?_⟩, ⟨GOk.of (fun _ _ h => h), ?_⟩, ⟨GOk.of (fun _ _ h => h), ?_⟩, ⟨GOk.of (fun _ _ h => h), ?_⟩, ⟨GOk.none, ?_⟩, ⟨GOk.none, ?_⟩, trivial⟩ ?_
    · intro w'' hE''
      intro σ''
      exact sp_is (by refine Run_pev rfl) rfl
    · intro w'' hE''
      rintro _ rfl
      intro σ''
      exact sp_is (by refine k_len rfl (Ty.isl rfl)) rfl
    · intro w'' hE''
      intro σ''
      exact sp_is (by refine Run_pev rfl) rfl
    · intro w'' hE''
      rintro _ rfl
      intro σ''
      exact sp_is (by refine k_len rfl (Ty.isl rfl)) rfl
    · intro w'' hE''
      rintro _ rfl
      rintro _ rfl
      intro σ''
      exact sp_is (by refine (k_leq (q := .i64) rfl rfl).is (bT (by omega))) rfl
    · intro w'' hE''
      rintro _ rfl
      intro σ''
      exact sp_is (by refine Run_pev rfl) rfl
    · intro w'' hE''
      intro σ''
      exact sp_is (by refine Run_pev rfl) rfl
    · intro w'' hE''
      rintro _ rfl
      intro σ''
      exact sp_is (by refine k_str rfl (hS8.ext0 hE'') (Ty.sle rfl) (Ty.knd rfl) (Ty.iss rfl)) rfl
    · intro w'' hE''
      intro σ''
      exact sp_is (by refine Run_pev rfl) rfl
    · intro w'' hE''
      intro σ''
      exact sp_is (by refine Run_pev rfl) rfl
    · intro w'' hE''
      rintro _ rfl
      intro σ''
      exact sp_is (by refine k_len rfl (Ty.isl rfl)) rfl
    · intro w'' hE''
      rintro _ rfl
      rintro _ rfl
      intro σ''
      refine S_run (k_slchN (h := (G.map Bool.toNat).length) rfl rfl (Ty.sle rfl) (by omega)) rfl ⟨.refl, _, rfl, _, _, rfl, ?_⟩
      have h9 := take_cells (k := (G.map Bool.toNat).length) (hS9.ext0 hE'') (by omega) hc9
      rw [← List.map_take, htk] at h9
      exact h9
    · intro w'' hE''
      rintro _ ⟨a11, c11, rfl, hS11⟩
      intro σ''
      exact sp_is (by refine k_str rfl hS11 (Ty.sle rfl) (Ty.knd rfl) (Ty.iss rfl)) rfl
    · intro w'' hE''
      rintro _ rfl
      rintro _ rfl
      intro σ''
      exact sp_is (by refine (k_eqls rfl rfl hbG hbG).is (bT rfl)) rfl
    · intro w'' hE''
      rintro _ rfl
      rintro _ rfl
      intro σ''
      exact sp_is (by refine Run_pev rfl) rfl
    · intro w'' hE''
      rintro _ rfl
      intro σ''
      exact sp_is (by refine Run_pev rfl) rfl
    · intro w'' hE''
      intro σ''
      exact sp_is (by refine Run_pev rfl) rfl
    · intro w'' hE''
      rintro _ rfl
      intro σ''
      exact sp_is (by refine Run_pev rfl) rfl
    · intro w'' hE''
      rintro _ rfl
      rintro _ rfl
      intro σ''
      exact sp_is (by refine Run_pev rfl) rfl
    · intro w'' hE''
      rintro _ rfl
      intro σ''
      exact sp_is (by refine Run_pev rfl) rfl
    · intro w'' hE''
      intro σ''
      exact sp_is (by refine Run_pev rfl) rfl
    · intro w'' hE''
      rintro _ rfl
      intro σ''
      refine S_call (rended_spec (Rq.rd ((Rq _ _ _ _ _ _).keep hRx hE'' (by simp)))) rfl rfl ?_
      rintro v w3'' ⟨rfl, rfl⟩
      exact ⟨.refl, _, rfl, congrArg Value.bool hs'⟩
    · intro w'' hE''
      rintro _ rfl
      rintro _ rfl
      intro σ''
      exact sp_is (by refine Run_pev rfl) rfl
    · intro w'' hE''
      rintro _ rfl
      intro σ''
      exact sp_is (by refine Run_pev rfl) rfl
    · intro w'' hE''
      intro σ''
      exact sp_is (by refine Run_pev rfl) rfl
    · intro w'' hE''
      rintro _ rfl
      intro σ''
      refine S_call clen_nil rfl rfl ?_
      rintro v w3'' ⟨rfl, rfl⟩
      exact ⟨.refl, _, rfl, rfl⟩
    · intro w'' hE''
      intro σ''
      exact sp_is (by refine Run_pev rfl) rfl
    · intro w'' hE''
      rintro _ rfl
      intro σ''
      refine S_call csize_nil rfl rfl ?_
      rintro v w3'' ⟨rfl, rfl⟩
      exact ⟨.refl, _, rfl, rfl⟩
    · intro w'' hE''
      rintro _ rfl
      rintro _ rfl
      intro σ''
      exact sp_is (by refine k_add64 (m := 0) (n := 0) rfl rfl (by decide)) rfl
    · intro w'' hE''
      rintro _ rfl
      intro σ''
      exact sp_is (by refine Run_pev rfl) rfl
    · intro w'' hE''
      rintro _ rfl
      rintro _ rfl
      intro σ''
      exact sp_is (by refine Run_pev rfl) rfl
    · intro w'' hE''
      rintro _ rfl
      intro σ''
      exact sp_is (by refine Run_pev rfl) rfl
    · intro w'' hE''
      intro σ''
      exact sp_is (by refine Run_pev rfl) rfl
    · intro w'' hE''
      intro σ''
      exact sp_is (by refine Run_pev rfl) rfl
    · intro w'' hE''
      rintro _ rfl
      rintro _ rfl
      intro σ''
      refine S_call cputw_nilc rfl rfl ?_
      rintro v w3'' ⟨rfl, rfl⟩
      exact ⟨.refl, _, rfl, rfl⟩
    · intro w'' hE''
      rintro _ rfl
      intro σ''
      exact sp_is (by refine Run_pev rfl) rfl
    · intro w'' hE''
      rintro _ rfl
      rintro _ rfl
      intro σ''
      exact sp_is (by refine Run_pev rfl) rfl
    · intro w'' hE''
      rintro _ rfl
      intro σ''
      exact sp_is (by refine Run_pev rfl) rfl
    intro w'' hE''
    rintro _ rfl
    intro σ''
    skip
    exact WS_ret1 Try.func6 rfl ⟨rfl, (hH.ext0 hE'').ext⟩
theorem own_codeAny : ownKnob Try.prog.godebug = none := by kernel_rfl
theorem laid_codeAny : laidOutB Try.prog = true := by kernel_rfl
set_option maxRecDepth 100000 in
theorem codeAny_lifted (os : Os) (started : os.Started) (H : Type) (enc : TypeId × Value → H) :
    ReturnsInHanded {} Try.checked os 6 .any (Rows.codeAnySpec.pre6 enc Try.prog Try.f6 Rows.codeAnyRow.domain false) (Rows.codeAnySpec.post enc Try.prog Try.f6 false true false false) := by
  refine returnsInHanded_of_change (C := Try.checked) own_codeAny started (by kernel_rfl) Try.func6
    (ChangeSpec.witness6 (enc := enc) (C := Try.checked) false ⟨#[], #[.slice none 0 0, .int .u8 0, .slice none 0 0], []⟩ 8 (by kernel_rfl) (by kernel_rfl) (by kernel_rfl) (by kernel_rfl)) ?_
  intro W base args ds gs before hval0 hW _ _
  have hval : ∀ (j : Nat) t v, Try.f6.params[j]? = some t → args[j]? = some v → Value.okWide Try.prog W .any base t v := hval0
  have hW' := hW
  obtain ⟨p, q, hA0, hV, rfl, hfz, hnd⟩ := hW
  have hA : DataW.TrodAll enc Try.prog W 0 (fun _ => true) true Try.f6.params.toList args.toList ds p := hA0
  rw [Try.params6] at hA hval
  obtain ⟨v0, r0, d0, e0, p0, q0, ha0, rfl, rfl, h0, hA⟩ := trodAll_cons hA
  obtain ⟨v1, r1, d1, e1, p1, q1, ha1, rfl, rfl, h1, hA⟩ := trodAll_cons hA
  obtain ⟨v2, r2, d2, e2, p2, q2, ha2, rfl, rfl, h2, hA⟩ := trodAll_cons hA
  obtain ⟨hnil, rfl, rfl⟩ := trodAll_nil hA
  obtain rfl : args = #[v0, v1, v2] := by cases args; simp_all
  have hv0 := hval 0 _ v0 rfl rfl
  have hv1 := hval 1 _ v1 rfl rfl
  have hv2 := hval 2 _ v2 rfl rfl
  clear hA0 hval0 ha0 ha1 ha2 hnil
  obtain ⟨a, n, cap, l, rfl, hn, hS, hl, hlen⟩ := rd_bytes (Ty.sle rfl) (Ty.knd rfl) hv0 h0
  obtain ⟨k0, rfl, hk0⟩ := rd_int (Ty.knd rfl) hv1 h1
  obtain ⟨k, rfl, _⟩ := fits_u8 hk0
  obtain ⟨a1, n1, cap1, sm, rfl, hn1, hS2, hsb, hlen1⟩ := rd_bytes (Ty.sle rfl) (Ty.knd rfl) hv2 h2
  refine ((cany_spec hS hl hn hlen hS2 hsb hn1 hlen1).enter Try.func6 rfl rfl).mono ?_
  rintro e W' ⟨v, rfl, rfl, hE⟩
  exact ⟨_, rfl, law_post laid_codeAny (by kernel_rfl) hW' rfl rfl (by kernel_rfl) ⟨rfl, rfl, rfl⟩ hE⟩
theorem codeAny_holds : Rows.CodeAnySaid :=
  OpenClaim.holds_of_wide 6 Try.f6 rfl rfl rfl rfl rfl rfl rfl ⟨rfl, rfl, rfl, rfl, rfl⟩ rfl rfl rfl rfl rfl (by kernel_rfl) Try.func6 (by kernel_rfl)
    (of_decide_eq_true (by kernel_rfl)) (by unfold Func.isWrapper; (rw [if_neg (by decide +kernel)]; exact ⟨rfl, rfl⟩))
    (fun os started H enc _ => codeAny_lifted os started H enc)
#print axioms codeAny_holds
end Go.Proofs.Ytccnhnijglnbmaa
