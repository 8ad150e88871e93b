/- Layer 4's three codes, its fixed fact, a number written by a code; no condition but sizes of memory. -/
import Derived.Test.YtccnhnijglnbmaaSh
import Derived.Test.YtccnhnijglnbmaaRefWords
import Derived.Test.YtccnhnijglnbmaaK20
namespace Go.Proofs.Ytccnhnijglnbmaa
open Go Go.K Go.P Go.RowKit Go.Proofs
theorem sz_of {l : List Int} {sz : List Nat} (h : l = sz.map (fun (n : Nat) => (n : Int))) : sz = l.map Int.toNat := by
  subst h
  rw [List.map_map]
  exact (List.map_id' sz).symm
/-- A code is made of these sizes. -/
theorem CNew.ok {l : List Int} {v : Value} {w w' : World} (h : CNew l v w w') (h1 : 1 ≤ l.length ∧ l.length ≤ 64) (h2 : l.all (fun x => decide (1 ≤ x ∧ x ≤ 32)) = true) (h3 : (codeOf (l.map Int.toNat)).isSome = true) :
    ∃ p D, D.sz = l.map Int.toNat ∧ D.ok ∧ v = .tuple #[pt p, .int .i64 0] ∧ New (RC p D) w w' := by
  rcases h with ⟨h, _⟩ | ⟨_, ⟨x, hx, h⟩, _⟩ | ⟨sz, hl, _, _, ⟨hn, _⟩ | ⟨p, D, hD, hok, rfl, hN⟩⟩
  · exact absurd h1 h
  · exact absurd (of_decide_eq_true (List.all_eq_true.1 h2 x hx)) h
  · rw [← sz_of hl, hn] at h3; cases h3
  · exact ⟨p, D, by rw [hD]; exact sz_of hl, hok, rfl, hN⟩
def szM : List Int := [2, 1, 3, 4, 4]
def szS : List Int := [3, 2, 2, 3, 3, 4, 5, 6, 7, 8, 9, 10, 10]
def szP : List Int := [3, 4, 4, 4, 4, 4, 5, 4, 4, 5, 4, 4, 4, 5, 5, 3]
set_option maxRecDepth 20000 in
theorem modes_spec {w : World} : Does Try.prog 32 #[] w fun v w' => ∃ p D, D.sz = szM.map Int.toNat ∧ D.ok ∧ v = pt p ∧ New (RC p D) w w' := by
  refine Does_of (args := []) Try.func32 rfl rfl Try.ntmps32 rfl ?_
  have hH := Hp.start w
  repeat (first | refine WS_seq ?_ | refine WS_region ?_ | refine WL_nil ?_ | (refine WL_r (by refine Run_pev rfl) rfl ?_))
  try refine WL_gyes rfl rfl rfl ?_
  refine WL_s (H_lit (out := (szM.map (Value.int .i64))) hH (Ty.sle rfl) (Ty.zer rfl) rfl rfl rfl (by decide) rfl ?_)
  try clear hH
  intro _ b4 hH
  change Hp _ _ _ [_] at hH
  skip
  try refine WL_gyes rfl rfl rfl ?_
  refine WL_s (S_call (cnew_spec (l := szM) (hH.b 0 rfl).sl0 rfl (by decide)) rfl rfl ?_)
  rintro v w2 hCN
  obtain ⟨p, D, hsz, hok, rfl, hN⟩ := hCN.ok (by decide) (by decide) (by decide +kernel)
  replace hH := (hH.nu hN).del 0
  change Hp _ _ _ [_] at hH
  repeat (first | refine WS_seq ?_ | refine WS_region ?_ | refine WL_nil ?_ | (refine WL_r (by first | refine Run_pev rfl | refine k_extract rfl rfl | apply k_makeFunc) rfl ?_))
  exact WS_ret1 Try.func32 rfl ⟨p, D, hsz, hok, rfl, hH.new1 0 rfl⟩
set_option maxRecDepth 20000 in
theorem sizes_spec {w : World} : Does Try.prog 35 #[] w fun v w' => ∃ p D, D.sz = szS.map Int.toNat ∧ D.ok ∧ v = pt p ∧ New (RC p D) w w' := by
  refine Does_of (args := []) Try.func35 rfl rfl Try.ntmps35 rfl ?_
  have hH := Hp.start w
  repeat (first | refine WS_seq ?_ | refine WS_region ?_ | refine WL_nil ?_ | (refine WL_r (by refine Run_pev rfl) rfl ?_))
  try refine WL_gyes rfl rfl rfl ?_
  refine WL_s (H_lit (out := (szS.map (Value.int .i64))) hH (Ty.sle rfl) (Ty.zer rfl) rfl rfl rfl (by decide) rfl ?_)
  try clear hH
  intro _ b4 hH
  change Hp _ _ _ [_] at hH
  skip
  try refine WL_gyes rfl rfl rfl ?_
  refine WL_s (S_call (cnew_spec (l := szS) (hH.b 0 rfl).sl0 rfl (by decide)) rfl rfl ?_)
  rintro v w2 hCN
  obtain ⟨p, D, hsz, hok, rfl, hN⟩ := hCN.ok (by decide) (by decide) (by decide +kernel)
  replace hH := (hH.nu hN).del 0
  change Hp _ _ _ [_] at hH
  repeat (first | refine WS_seq ?_ | refine WS_region ?_ | refine WL_nil ?_ | (refine WL_r (by first | refine Run_pev rfl | refine k_extract rfl rfl | apply k_makeFunc) rfl ?_))
  exact WS_ret1 Try.func35 rfl ⟨p, D, hsz, hok, rfl, hH.new1 0 rfl⟩
set_option maxRecDepth 20000 in
theorem patterns_spec {w : World} : Does Try.prog 36 #[] w fun v w' => ∃ p D, D.sz = szP.map Int.toNat ∧ D.ok ∧ v = pt p ∧ New (RC p D) w w' := by
  refine Does_of (args := []) Try.func36 rfl rfl Try.ntmps36 rfl ?_
  have hH := Hp.start w
  repeat (first | refine WS_seq ?_ | refine WS_region ?_ | refine WL_nil ?_ | (refine WL_r (by refine Run_pev rfl) rfl ?_))
  try refine WL_gyes rfl rfl rfl ?_
  refine WL_s (H_lit (out := (szP.map (Value.int .i64))) hH (Ty.sle rfl) (Ty.zer rfl) rfl rfl rfl (by decide) rfl ?_)
  try clear hH
  intro _ b4 hH
  change Hp _ _ _ [_] at hH
  skip
  try refine WL_gyes rfl rfl rfl ?_
  refine WL_s (S_call (cnew_spec (l := szP) (hH.b 0 rfl).sl0 rfl (by decide)) rfl rfl ?_)
  rintro v w2 hCN
  obtain ⟨p, D, hsz, hok, rfl, hN⟩ := hCN.ok (by decide) (by decide) (by decide +kernel)
  replace hH := (hH.nu hN).del 0
  change Hp _ _ _ [_] at hH
  repeat (first | refine WS_seq ?_ | refine WS_region ?_ | refine WL_nil ?_ | (refine WL_r (by first | refine Run_pev rfl | refine k_extract rfl rfl | apply k_makeFunc) rfl ?_))
  exact WS_ret1 Try.func36 rfl ⟨p, D, hsz, hok, rfl, hH.new1 0 rfl⟩
/-- One of the three codes, and its sizes. -/
def Own04 (v : Value) (w w' : World) : Prop := ∃ p D b, D.ok ∧ v = .tuple #[pt p, .slice (some ⟨b, 0, none⟩) D.sz.length D.sz.length] ∧ Hp [] w w' [RC p D, Rb b 3 (nv D.sz).toArray]
theorem nv_int {sz : List Nat} {l : List Int} (h : sz = l.map Int.toNat) (h2 : l.all (fun x => decide (1 ≤ x ∧ x ≤ 32)) = true) : nv sz = l.map (Value.int .i64) := by
  subst h
  show (l.map Int.toNat).map _ = _
  rw [List.map_map]
  refine List.map_congr_left fun x hx => ?_
  have := of_decide_eq_true (List.all_eq_true.1 h2 x hx)
  show Value.int .i64 ((x.toNat : Nat) : Int) = Value.int .i64 x
  congr 1; omega
set_option maxRecDepth 20000 in
set_option maxHeartbeats 1000000 in
theorem own_spec {k : Nat} {w : World} : Does Try.prog 18 #[.int .u8 k] w fun v w' => Own04 v w w' := by
  refine Does_of (args := [_]) Try.func18 rfl rfl Try.ntmps18 rfl ?_
  have h3 := Nat.mod_lt k (show 0 < 3 by decide)
  by_cases h0 : k % 3 = 0
  · repeat (first | refine WS_seq ?_ | refine WS_region ?_ | refine WL_nil ?_ | refine WS_block ?_ | refine WS_yes rfl (by omega) ?_ | (refine WL_r (by first | refine k_remu (n := 3) rfl rfl (by decide) | refine Run_pev rfl) rfl ?_))
    try refine WL_gyes rfl rfl rfl ?_
    refine WL_s (S_call (modes_spec) rfl rfl ?_)
    rintro v w1 ⟨p, D, hsz, hok, rfl, hN⟩
    have hl : D.sz.length = 5 := by rw [hsz]; rfl
    have hH := (Hp.start w).nu hN
    change Hp _ _ _ [_] at hH
    skip
    try refine WL_gyes rfl rfl rfl ?_
    refine WL_s (H_lit (out := (szM.map (Value.int .i64))) hH (Ty.sle rfl) (Ty.zer rfl) rfl rfl rfl (by decide) rfl ?_)
    try clear hH
    intro _ b9 hH
    change Hp _ _ _ [_, _] at hH
    repeat (first | refine WL_nil ?_ | (refine WL_r (by first | refine Run_pev rfl | apply k_makeFunc) rfl ?_))
    exact WS_ret2 Try.func18 rfl ⟨p, D, b9, hok, by rw [hl]; rfl, by rw [nv_int hsz (by decide)]; exact hH⟩
  by_cases h1 : k % 3 = 1
  · repeat (first | refine WS_seq ?_ | refine WS_region ?_ | refine WL_nil ?_ | refine WS_block ?_ | refine WS_yes rfl (by omega) ?_ | refine WS_no rfl (by omega) ?_ | (refine WL_r (by first | refine k_remu (n := 3) rfl rfl (by decide) | refine Run_pev rfl) rfl ?_))
    try refine WL_gyes rfl rfl rfl ?_
    refine WL_s (S_call (sizes_spec) rfl rfl ?_)
    rintro v w1 ⟨p, D, hsz, hok, rfl, hN⟩
    have hl : D.sz.length = 13 := by rw [hsz]; rfl
    have hH := (Hp.start w).nu hN
    change Hp _ _ _ [_] at hH
    skip
    try refine WL_gyes rfl rfl rfl ?_
    refine WL_s (H_lit (out := (szS.map (Value.int .i64))) hH (Ty.sle rfl) (Ty.zer rfl) rfl rfl rfl (by decide) rfl ?_)
    try clear hH
    intro _ b9 hH
    change Hp _ _ _ [_, _] at hH
    repeat (first | refine WL_nil ?_ | (refine WL_r (by first | refine Run_pev rfl | apply k_makeFunc) rfl ?_))
    exact WS_ret2 Try.func18 rfl ⟨p, D, b9, hok, by rw [hl]; rfl, by rw [nv_int hsz (by decide)]; exact hH⟩
  · repeat (first | refine WS_seq ?_ | refine WS_region ?_ | refine WL_nil ?_ | refine WS_block ?_ | refine WS_inBlock ?_ | refine WS_skip ?_ | refine WS_no rfl (by omega) ?_ | (refine WL_r (by first | refine k_remu (n := 3) rfl rfl (by decide) | refine Run_pev rfl) rfl ?_))
    try refine WL_gyes rfl rfl rfl ?_
    refine WL_s (S_call (patterns_spec) rfl rfl ?_)
    rintro v w1 ⟨p, D, hsz, hok, rfl, hN⟩
    have hl : D.sz.length = 16 := by rw [hsz]; rfl
    have hH := (Hp.start w).nu hN
    change Hp _ _ _ [_] at hH
    skip
    try refine WL_gyes rfl rfl rfl ?_
    refine WL_s (H_lit (out := (szP.map (Value.int .i64))) hH (Ty.sle rfl) (Ty.zer rfl) rfl rfl rfl (by decide) rfl ?_)
    try clear hH
    intro _ b9 hH
    change Hp _ _ _ [_, _] at hH
    repeat (first | refine WL_nil ?_ | (refine WL_r (by first | refine Run_pev rfl | apply k_makeFunc) rfl ?_))
    exact WS_ret2 Try.func18 rfl ⟨p, D, b9, hok, by rw [hl]; rfl, by rw [nv_int hsz (by decide)]; exact hH⟩
set_option maxRecDepth 20000 in
set_option maxHeartbeats 1000000 in
theorem written04 {p i : Nat} {D : CD} {w : World} (hD : D.ok) (hi : i < D.sz.length) (hC : (RC p D).holds w) :
    Does Try.prog 16 #[pt p, .int .i64 i] w fun v w' => ∃ a' c', (cw D.sz D.ws i).length ≤ c' ∧ v = .slice a' (cw D.sz D.ws i).length c' ∧ New (Rs a' (bq (cw D.sz D.ws i))) w w' := by
  refine Does_of (args := [_, _]) Try.func16 rfl rfl Try.ntmps16 rfl ?_
  have hH := Hp.start w
  have hcl : (cw D.sz D.ws i).length ≤ 32 := by rw [cw_len]; exact (hD.1.szd hi).2
  have hpl := pk_len (cw D.sz D.ws i)
  repeat (first | refine WS_seq ?_ | refine WS_region ?_ | refine WL_nil ?_ | (refine WL_r (by first | refine k_buildS (cs := [.slice none 0 0, .int .i64 0]) (Ty.zer rfl) (Ty.plc rfl) rfl | refine Run_pev rfl) rfl ?_))
  refine WL_s (H_box hH rfl rfl rfl ?_)
  try clear hH
  intro w1 q hH
  replace hH : Hp [] _ w1 [Rw q none 0 []] := hH.as 0 rfl (fun x hx => by simpa [Rw, sep, Rb, RBy, Ro, blk] using hx) (fun hB => ⟨hB, Own.nil, fun _ _ hb => by simp [RBy, Ro, blk] at hb⟩)
  repeat (first | refine WS_seq ?_ | refine WS_region ?_ | refine WL_nil ?_ | (refine WL_r (by refine Run_pev rfl) rfl ?_))
  try refine WL_gyes rfl rfl rfl ?_
  refine WL_s (S_call (cputw_spec hD hi (by decide) ((RC p D).keep hC hH.ext (by simp)) (hH.at 0 rfl)) rfl rfl ?_)
  rintro v w2 ⟨rfl, a2, c2, hU⟩
  replace hH := hH.up 0 rfl hU
  clear hU
  change Hp _ _ _ [_] at hH
  rw [List.nil_append] at hH
  generalize cw D.sz D.ws i = x at *
  repeat (first | refine WS_seq ?_ | refine WS_region ?_ | refine WL_nil ?_ | (refine WL_r (by refine Run_pev rfl) rfl ?_))
  try refine WL_gyes rfl rfl rfl ?_
  refine WL_s (S_call (wbytes_spec (hH.at 0 rfl) (by omega)) rfl rfl ?_)
  rintro v w3 ⟨a3, c3, rfl, hN⟩
  replace hH := hH.nu hN
  clear hN
  change Hp _ _ _ [_, _] at hH
  skip
  try refine WL_gyes rfl rfl rfl ?_
  refine WL_s (S_call (rof_spec (hH.o 1 rfl).sl (pk_byt _) rfl (by omega)) rfl rfl ?_)
  rintro v w4 ⟨a4, c4, rfl, hN⟩
  replace hH := hH.nu hN
  clear hN
  change Hp _ _ _ [_, _, _] at hH
  repeat ((refine WL_r (by refine Run_pev rfl) rfl ?_))
  try refine WL_gyes rfl rfl rfl ?_
  refine WL_s (S_call (wlen_spec (hH.at 0 rfl)) rfl rfl ?_)
  rintro v w5 ⟨rfl, rfl⟩
  have hoc : 8 * (pk x).length ≤ c4 := (hH.o 2 rfl).2.1
  replace hH := Rs.of 2 hH rfl
  replace hH := Rs.take (k := x.length) (n := 8 * (pk x).length) (cap := c4) 2 hH rfl (by omega) hoc
  rw [← List.map_take, bl_take _ _ (by omega), bl_pk] at hH
  repeat (first | refine WL_nil ?_ | (refine WL_r (by first | refine k_slchN (h := x.length) rfl rfl (Ty.sle rfl) (by omega) | refine Run_pev rfl | apply k_makeFunc) rfl ?_))
  exact WS_ret1 Try.func16 rfl ⟨_, c4, by omega, rfl, hH.new1 2 rfl⟩
theorem modes_cw {ws : List Nat} {T : List Int} (h : GC (szM.map Int.toNat) ws T) : cw (szM.map Int.toNat) ws 0 = [true, false] ∧ cw (szM.map Int.toNat) ws 1 = [false] := by
  obtain ⟨A, wd, P, hc, hci, hw, hT⟩ := h.it
  have hA : codeOf (szM.map Int.toNat) = some [(1, 0, 1), (0, 2, 2), (2, 6, 3), (3, 14, 4), (4, 15, 4)] := by decide +kernel
  obtain rfl := Option.some.inj (hA.symm.trans hc)
  have h0 := hw (0, 2, 2) (by simp)
  have h1 := hw (1, 0, 1) (by simp)
  simp only at h0 h1
  unfold cw
  rw [List.getD_eq_getElem?_getD (l := ws), List.getD_eq_getElem?_getD (l := ws), h0, h1]
  exact ⟨by decide +kernel, by decide +kernel⟩
set_option maxRecDepth 20000 in
set_option maxHeartbeats 1000000 in
theorem awake04 (w : World) : Does Try.prog 12 #[] w fun v w' => v = .bool true ∧ Ext [] w w' := by
  refine Does_of (args := []) Try.func12 rfl rfl Try.ntmps12 rfl ?_
  repeat (first | refine WS_seq ?_ | refine WS_region ?_ | refine WL_nil ?_ | (refine WL_r (by refine Run_pev rfl) rfl ?_))
  try refine WL_gyes rfl rfl rfl ?_
  refine WL_s (S_call (modes_spec) rfl rfl ?_)
  rintro v w1 ⟨p, D, hsz, hok, rfl, hN⟩
  have hH := (Hp.start w).nu hN
  clear hN
  change Hp _ _ _ [_] at hH
  have hl : D.sz.length = 5 := by rw [hsz]; rfl
  obtain ⟨hc0, hc1⟩ := modes_cw (hsz ▸ hok.1)
  rw [← hsz] at hc0 hc1
  repeat (first | refine WS_seq ?_ | refine WS_region ?_ | refine WL_nil ?_ | (refine WL_r (by first | refine k_buildS (cs := [.slice none 0 0, .int .i64 0]) (Ty.zer rfl) (Ty.plc rfl) rfl | refine Run_pev rfl) rfl ?_))
  refine WL_s (H_box hH rfl rfl rfl ?_)
  try clear hH
  intro w1 q hH
  replace hH : Hp [] _ w1 [RC p D,Rw q none 0 []] := hH.as 1 rfl (fun x hx => by simpa [Rw, sep, Rb, RBy, Ro, blk] using hx) (fun hB => ⟨hB, Own.nil, fun _ _ hb => by simp [RBy, Ro, blk] at hb⟩)
  repeat (first | refine WS_seq ?_ | refine WS_region ?_ | refine WL_nil ?_ | (refine WL_r (by refine Run_pev rfl) rfl ?_))
  try refine WL_gyes rfl rfl rfl ?_
  refine WL_s (S_call (cputw_spec (i := 0) hok (by omega) (by decide) (hH.at 0 rfl) (hH.at 1 rfl)) rfl rfl ?_)
  rintro v w2 ⟨rfl, a2, c2, hU⟩
  replace hH := hH.up 1 rfl hU
  clear hU
  change Hp _ _ _ [_, _] at hH
  rw [hc0] at hH
  repeat (first | refine WL_gyes rfl rfl rfl ?_ | (refine WL_r (by refine Run_pev rfl) rfl ?_))
  try refine WL_gyes rfl rfl rfl ?_
  refine WL_s (S_call (cputw_spec (i := 1) hok (by omega) (by decide) (hH.at 0 rfl) (hH.at 1 rfl)) rfl rfl ?_)
  rintro v w3 ⟨rfl, a3, c3, hU⟩
  replace hH := hH.up 1 rfl hU
  clear hU
  change Hp _ _ _ [_, _] at hH
  rw [hc1] at hH
  replace hH : Hp [] w w3 [RC p D, Rw q a3 c3 [true, false, false]] := hH
  repeat (first | refine WL_gyes rfl rfl rfl ?_ | (refine WL_r (by refine Run_pev rfl) rfl ?_))
  try refine WL_gyes rfl rfl rfl ?_
  refine WL_s (S_call (wbytes_spec (hH.at 1 rfl) (by decide)) rfl rfl ?_)
  rintro v w4 ⟨a4, c4, rfl, hN⟩
  replace hH := hH.nu hN
  rw [show pk [true, false, false] = [128] by decide +kernel] at hH ⊢
  have hO := (hH.o 2 rfl).sl
  repeat (first | refine WL_gyes rfl rfl rfl ?_ | (refine WL_r (by first | refine k_str (l := [128]) rfl hO (Ty.sle rfl) (Ty.knd rfl) (Ty.iss rfl) | refine (k_eqls (l := [128]) (m := [128]) rfl rfl (bytB rfl) (bytB rfl)).is (bT rfl) | refine Run_pev rfl) rfl ?_))
  try refine WL_gyes rfl rfl rfl ?_
  refine WL_s (S_call (wlen_spec (hH.at 1 rfl)) rfl rfl ?_)
  rintro v w5 ⟨rfl, rfl⟩
  repeat (first | refine WL_nil ?_ | refine WL_gyes rfl rfl rfl ?_ | (refine WL_r (by first | refine Run_pev rfl | apply k_makeFunc) rfl ?_))
  exact WS_ret1 Try.func12 rfl ⟨rfl, hH.ext⟩
end Go.Proofs.Ytccnhnijglnbmaa
