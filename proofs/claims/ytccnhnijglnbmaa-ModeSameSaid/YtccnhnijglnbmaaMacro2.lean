/- The walk of layer 19's macroblock by small numbers, whole; no condition. -/
import Derived.Test.YtccnhnijglnbmaaSh
import Derived.Test.YtccnhnijglnbmaaMacro
import Derived.Test.YtccnhnijglnbmaaK19
namespace Go.Proofs.Ytccnhnijglnbmaa
open Go Go.K Go.P Go.RowKit Go.Proofs
/-- The cells of a macroblock by small numbers. -/
structure ZM (zs : List Value) : Prop where
  len : zs.length = 20
  kd : ∃ k : Nat, k < 256 ∧ zs[0]? = some (.int .u8 k)
  st : ∃ k : Nat, k < 256 ∧ zs[1]? = some (.int .u8 k)
  ws : W9 ((zs.drop 2).take 9)
  ed : ∃ b : Bool, zs[11]? = some (.bool b)
  kp : ∀ i, i < 6 → ∃ n : Nat, n < 18446744073709551616 ∧ zs[12 + i]? = some (.int .u64 n)
  sd : ∃ n : Nat, n < 4294967296 ∧ zs[18]? = some (.int .u32 n)
  gr : ∃ b : Bool, zs[19]? = some (.bool b)
theorem WL_w {P : Program} {N : Nat} {C : Fr → World → Prop} {ops : Array Oper} {l : List Oper} {ρ : Fr} {w : World} (h : ∀ u, u = w → WL P N C ops l ρ u) : WL P N C ops l ρ w := h w rfl
abbrev pm (p : Nat) : Value := .pointer (some ⟨p, 0, none⟩)
abbrev h3 (b3 b6 b7 : Nat) (zs cs : List Value) : List Res := [Rb b3 30 zs.toArray, Rb b6 39 (mk0 0 0).toArray, Rb b7 39 cs.toArray]
set_option maxRecDepth 20000 in
set_option maxHeartbeats 8000000 in
theorem macro_spec {zs : List Value} {inter : Bool} {w : World} (hz : ZM zs) : Does Try.prog 9 #[.agg zs.toArray, .bool inter, .int .i64 9] w fun v w' => ∃ cs, MC cs ∧ v = .agg cs.toArray ∧ Ext [] w w' := by
  refine Does_of (args := [_, _, _]) Try.func9 rfl rfl Try.ntmps9 rfl ?_
  have hH := Hp.start w
  obtain ⟨kd, hkd, hkv⟩ := hz.kd
  obtain ⟨st, hst, hsv⟩ := hz.st
  obtain ⟨ed, hev⟩ := hz.ed
  obtain ⟨sd, hsd, hdv⟩ := hz.sd
  obtain ⟨gr, hgv⟩ := hz.gr
  repeat (first | refine WS_seq ?_ | refine WS_region ?_)
  refine WL_s (H_box (cs := zs.toArray) hH rfl rfl rfl ?_)
  try clear hH
  intro w1 b3 hH
  change Hp _ _ _ [_] at hH
  skip
  refine WL_s (H_alloc (zs := mk0 0 0) hH (Ty.zer rfl) rfl ?_)
  try clear hH
  intro w2 b6 hH
  change Hp _ _ _ [_, _] at hH
  have hS3 : SlA w2 (some ⟨b3, 0, none⟩) zs := (hH.b 0 rfl).sl0
  repeat (first | refine WS_seq ?_ | refine WS_region ?_ | refine WL_nil ?_ | (refine WL_r (by first | refine k_fa rfl (Ty.fld rfl rfl) | refine k_loads rfl hS3 hkv (Ty.shp rfl) | refine k_remu (n := 5) rfl rfl (by decide) | refine k_buildS (cs := mk0 (kd % 5) 9) (Ty.zer rfl) (Ty.plc rfl) rfl | refine Run_pev rfl) rfl ?_))
  clear hS3
  refine WL_s (H_alloc (zs := mk0 0 0) hH (Ty.zer rfl) rfl ?_)
  try clear hH
  intro w3 b7 hH
  change Hp _ _ _ [_, _, _] at hH
  have hM0 : MC (mk0 0 0) := mk0_mc (by decide) (by decide)
  have hM : MC (mk0 (kd % 5) 9) := mk0_mc (by omega) (by decide)
  skip
  refine WL_s (H_storeA 2 (vs := (mk0 (kd % 5) 9).toArray) (s := 391) hH rfl rfl rfl (by simpa using hM.len) (by simpa using hM0.len) (fun u hu => hM.one u (by simpa using hu)) (Ty.shp rfl) ?_)
  clear hH
  intro w4 hH
  change Hp _ _ _ [_, _, _] at hH
  generalize mk0 (kd % 5) 9 = cs at *
  apply joinW (Z := fun u => ∃ cs, MC cs ∧ Hp [] w u (h3 b3 b6 b7 zs cs))
  · intro key
    by_cases hin : inter = true
    · repeat (first | refine WS_seq ?_ | refine WS_region ?_ | refine WL_nil ?_ | refine WS_skip ?_ | refine WS_false rfl ?_ | (refine WL_r (by first | refine (k_notb rfl).is (v' := .bool false) (congrArg Value.bool (by rw [hin]; rfl)) | refine Run_pev rfl) rfl ?_))
      refine WL_keep [(2, .int .i64 9), (3, pm b3), (6, pm b6), (7, pm b7)] ⟨rfl, rfl, rfl, rfl, trivial⟩ (fun σ => WL_w fun u hu => ?_)
      exact key σ u ⟨_, hM, hu ▸ hH⟩
    · have hin2 : inter = false := by simpa using hin
      have hS3 : SlA w4 (some ⟨b3, 0, none⟩) zs := (hH.b 0 rfl).sl0
      repeat (first | refine WS_seq ?_ | refine WS_region ?_ | refine WL_nil ?_ | refine WS_true rfl ?_ | (refine WL_r (by first | refine (k_notb rfl).is (v' := .bool true) (congrArg Value.bool (by rw [hin2]; rfl)) | refine k_fa rfl (Ty.fld rfl rfl) | refine k_loads rfl hS3 hkv (Ty.shp rfl) | refine k_remu (n := 2) rfl rfl (by decide) | refine (k_addu (q := .u8) (m := 3) (n := kd % 2) rfl rfl rfl) | refine Run_pev rfl | apply k_makeFunc) rfl ?_))
      refine WL_s (H_storeL 2 (o := 0 + 0) (v := .int .u8 (((3 + kd % 2) % 256 : Nat) : Int)) hH rfl rfl rfl (by rw [hM.len]; omega) rfl (Ty.shp rfl) ?_)
      try clear hH
      intro _ hH
      change Hp _ _ _ [_, _, _] at hH
      replace hM := hM.set (o := 0 + 0) (v := .int .u8 (((3 + kd % 2) % 256 : Nat) : Int)) (mgood.kind (by omega) rfl)
      generalize cs.set (0 + 0) (.int .u8 (((3 + kd % 2) % 256 : Nat) : Int)) = cs at *
      repeat (first | refine WS_seq ?_ | refine WS_region ?_ | refine WL_nil ?_)
      refine WL_keep [(2, .int .i64 9), (3, pm b3), (6, pm b6), (7, pm b7)] ⟨rfl, rfl, rfl, rfl, trivial⟩ (fun σ => WL_w fun u hu => ?_)
      exact key σ u ⟨_, hM, hu ▸ hH⟩
  clear hM hH
  rintro σ u1 ⟨cs, hM, hH⟩
  obtain ⟨k, hk, hk0⟩ := hM.k
  have hS7 : SlA u1 (some ⟨b7, 0, none⟩) cs := (hH.b 2 rfl).sl0
  apply joinW (Z := fun u => ∃ cs, MC cs ∧ Hp [] w u (h3 b3 b6 b7 zs cs))
  · intro key
    by_cases h4 : k = 4
    · repeat (first | refine WS_seq ?_ | refine WS_region ?_ | refine WL_nil ?_ | refine WS_true rfl ?_ | (refine WL_r (by first | refine k_fa rfl (Ty.fld rfl rfl) | refine k_loads rfl hS7 hk0 (Ty.shp rfl) | refine (k_eql (q := .u8) rfl rfl).is (bT (by omega)) | apply k_makeFunc) rfl ?_))
      refine WL_s (H_storeL 2 (o := 0 + 0) (v := .int .u8 3) hH rfl rfl rfl (by rw [hM.len]; omega) rfl (Ty.shp rfl) ?_)
      try clear hH
      intro _ hH
      change Hp _ _ _ [_, _, _] at hH
      replace hM := hM.set (o := 0 + 0) (v := .int .u8 3) (mgood.kind (k := 3) (by decide) rfl)
      generalize cs.set (0 + 0) (.int .u8 3) = cs at *
      obtain ⟨d, hd, hdx, hdd⟩ := st_at (i := st % 4) (Nat.mod_lt _ (by decide))
      have hS3 : SlA _ (some ⟨b3, 0, none⟩) zs := (hH.b 0 rfl).sl0
      repeat (first | refine WS_seq ?_ | refine WL_nil ?_)
      refine WS_specK [Is (.int .i64 9), Is (.agg (stL.map Iv).toArray), Is (.pointer (some ⟨b3, 0 + 1, none⟩)), Is (.int .u8 st), Is (.int .u8 (st % 4 : Nat)), Is (Iv d), Is (.int .i64 (9 + d)), Is (.int .i64 (9 + d))] Ty.mixed [(33285996544, [], true), (49928994816, [], true), (61740154880, [], true), (55297703936, [(2, 31)], true), (42412802048, [(3, 32)], true), (16642998272, [(1, 30), (4, 33)], true), (33822867456, [(0, 29), (5, 34)], true), (68182605824, [(6, 35)], true)] 68182606080 [(7, 8)] (by kernel_rfl) (by kernel_rfl) (by kernel_rfl) (by kernel_rfl) (by kernel_rfl) ⟨Is.st, Is.st, Is.st, Is.st, Is.st, Is.st, Is.st, Is.st, trivial⟩ ⟨⟨GOk.none, ?_⟩, ⟨GOk.none, ?_⟩, ⟨GOk.none, ?_⟩, ⟨GOk.none, ?_⟩, ⟨GOk.none, ?_⟩, ⟨GOk.none, ?_⟩, ⟨GOk.none, ?_⟩, ⟨GOk.none, ?_⟩, trivial⟩ ?_
      · intro w'' hE''
        intro σ''
        exact sp_is (by refine Run_pev rfl) rfl
      · intro w'' hE''
        intro σ''
        refine S_call (steps_spec _) rfl rfl ?_
        rintro v w3'' ⟨rfl, hE⟩
        exact ⟨hE, _, rfl, rfl⟩
      · intro w'' hE''
        intro σ''
        exact sp_is (by refine k_fa rfl (Ty.fld rfl rfl)) rfl
      · intro w'' hE''
        rintro _ rfl
        intro σ''
        exact sp_is (by refine k_loads (j := 1) rfl (hS3.ext0 hE'') hsv (Ty.shp rfl)) rfl
      · intro w'' hE''
        rintro _ rfl
        intro σ''
        exact sp_is (by refine k_remu (n := 4) rfl rfl (by decide)) rfl
      · intro w'' hE''
        rintro _ rfl
        rintro _ rfl
        intro σ''
        exact sp_is (by refine k_index1 rfl rfl (Ty.arr rfl) (by omega) hdx) rfl
      · intro w'' hE''
        rintro _ rfl
        rintro _ rfl
        intro σ''
        exact sp_is (by refine k_add64 rfl rfl (by omega)) rfl
      · intro w'' hE''
        rintro _ rfl
        intro σ''
        exact sp_is (by refine Run_pev rfl) rfl
      intro w'' hE''
      rintro _ rfl
      intro σ''
      replace hH := hH.ext0 hE''
      clear hE'' hS3
      repeat (first | refine WS_seq ?_ | refine WS_region ?_ | refine WL_nil ?_ | refine WS_yes rfl (by omega) ?_ | refine WL_gyes rfl rfl (dT (by omega)) ?_ | (refine WL_r (by first | refine k_fa rfl (Ty.fld rfl rfl) | refine Run_pev rfl | apply k_makeFunc | refine k_pick_t (dT (by omega)) rfl) rfl ?_))
      refine WL_s (H_storeL 2 (o := 0 + 0) (v := .int .u8 4) hH rfl rfl rfl (by rw [hM.len]; omega) rfl (Ty.shp rfl) ?_)
      try clear hH
      intro _ hH
      change Hp _ _ _ [_, _, _] at hH
      replace hM := hM.set (o := 0 + 0) (v := .int .u8 4) (mgood.kind (k := 4) (by decide) rfl)
      generalize cs.set (0 + 0) (.int .u8 4) = cs at *
      repeat ((refine WL_r (by first | refine k_fa rfl (Ty.fld rfl rfl) | apply k_makeFunc) rfl ?_))
      refine WL_s (H_storeL 2 (o := 0 + 1) (v := .int .i64 (9 + d)) hH rfl rfl rfl (by rw [hM.len]; omega) rfl (Ty.shp rfl) ?_)
      try clear hH
      intro _ hH
      change Hp _ _ _ [_, _, _] at hH
      replace hM := hM.set (o := 0 + 1) (v := .int .i64 (9 + d)) (mgood.qp (q := 9 + d) (by omega) rfl)
      generalize cs.set (0 + 1) (.int .i64 (9 + d)) = cs at *
      repeat (first | refine WS_seq ?_ | refine WS_region ?_ | refine WL_nil ?_)
      refine WL_keep [(2, .int .i64 9), (3, pm b3), (6, pm b6), (7, pm b7)] ⟨rfl, rfl, rfl, rfl, trivial⟩ (fun σ => WL_w fun u hu => ?_)
      exact key σ u ⟨_, hM, hu ▸ hH⟩
    · repeat (first | refine WS_seq ?_ | refine WS_region ?_ | refine WL_nil ?_ | refine WS_skip ?_ | refine WS_false rfl ?_ | (refine WL_r (by first | refine k_fa (b := b7) rfl (Ty.fld rfl rfl) | refine k_loads rfl hS7 hk0 (Ty.shp rfl) | refine (k_eql (q := .u8) rfl rfl).is (bF (by omega))) rfl ?_))
      refine WL_keep [(2, .int .i64 9), (3, pm b3), (6, pm b6), (7, pm b7)] ⟨rfl, rfl, rfl, rfl, trivial⟩ (fun σ => WL_w fun u hu => ?_)
      exact key σ u ⟨_, hM, hu ▸ hH⟩
  clear hM hH hS7 hk0 hk
  rintro σ u2 ⟨cs, hM, hH⟩
  obtain ⟨k, hk, hk0⟩ := hM.k
  have hS3 : SlA u2 (some ⟨b3, 0, none⟩) zs := (hH.b 0 rfl).sl0
  repeat ((refine WL_r (by first | refine k_fa rfl (Ty.fld rfl rfl) | refine k_loadC (j := 0 + 2) (cs := (zs.drop 2).take 9) rfl hS3 rfl hz.ws.len (Ty.shp rfl)) rfl ?_))
  clear hS3
  try refine WL_gyes rfl rfl rfl ?_
  refine WL_s (S_call (vectors19 hz.ws) rfl rfl ?_)
  rintro v u3 ⟨vs, hvl, hvg, rfl, hE⟩
  replace hH := hH.ext0 hE
  clear hE
  skip
  refine WL_s (H_alloc (zs := List.replicate 4 (Value.complex .f64 0 0)) hH (Ty.zer rfl) rfl ?_)
  clear hH
  intro u4 b9 hH
  change Hp _ _ _ [_, _, _, _] at hH
  skip
  refine WL_s (H_storeA 3 (vs := vs.toArray) (s := 4) hH rfl rfl rfl (by simpa using hvl) (by simp) (fun u hu => (hvg u (by simpa using hu)).one) (Ty.shp rfl) ?_)
  clear hH
  intro u5 hH
  change Hp _ _ _ [_, _, _, _] at hH
  have hS7 : SlA u5 (some ⟨b7, 0, none⟩) cs := (hH.b 2 rfl).sl0
  by_cases hk00 : k = 0
  · have hB7 : Blk u5 b7 39 cs.toArray := hH.b 2 rfl
    have hM0 : MC (mk0 0 0) := mk0_mc (by decide) (by decide)
    repeat (first | refine WS_seq ?_ | refine WS_region ?_ | refine WL_nil ?_ | refine WS_block ?_ | refine WS_true rfl ?_ | (refine WL_r (by first | refine k_fa rfl (Ty.fld rfl rfl) | refine k_loads rfl hS7 hk0 (Ty.shp rfl) | refine (k_eql (q := .u8) rfl rfl).is (bT (by omega)) | refine k_loadA rfl hB7 (by simpa using hM.len) (Ty.shp rfl) | refine Run_pev rfl | apply k_makeFunc) rfl ?_))
    refine WL_s (H_storeA 1 (vs := cs.toArray) (s := 391) hH rfl rfl rfl (by simpa using hM.len) (by simpa using hM0.len) (fun u hu => hM.one u (by simpa using hu)) (Ty.shp rfl) ?_)
    clear hH
    intro u6 hH
    change Hp _ _ _ [_, _, _, _] at hH
    repeat (refine WL_nil ?_)
    exact WS_retc1 Try.func9 rfl rfl (hH.b 1 rfl) (by simpa using hM.len) (Ty.shp rfl) ⟨cs, hM, rfl, hH.ext⟩
  apply joinW (Z := fun u => ∃ cs, MC cs ∧ Hp [] w u (h3 b3 b6 b7 zs cs))
  · intro key
    have hB9 : Blk u5 b9 35 vs.toArray := hH.b 3 rfl
    by_cases hk1 : k = 1
    · have hv0 : vs[0]? = some vs[0] := List.getElem?_eq_getElem _
      have hg0 := hvg vs[0] (List.getElem_mem _)
      generalize vs[0] = v0 at *
      have hS9 : SlA u5 (some ⟨b9, 0, none⟩) vs := hB9.sl0
      repeat (first | refine WS_seq ?_ | refine WS_region ?_ | refine WL_nil ?_ | refine WS_block ?_ | refine WS_true rfl ?_ | refine WS_false rfl ?_ | (refine WL_r (by first | refine k_fa rfl (Ty.fld rfl rfl) | refine k_loads rfl hS7 hk0 (Ty.shp rfl) | refine (k_eql (q := .u8) rfl rfl).is (bT (by omega)) | refine (k_eql (q := .u8) rfl rfl).is (bF (by omega)) | refine k_ixa1 rfl rfl (Ty.arr rfl) (by decide) | refine k_loads (j := 0) rfl hS9 hv0 (Ty.shp rfl) | refine Run_pev rfl) rfl ?_))
      try refine WL_gyes rfl rfl rfl ?_
      refine WL_s (S_call (all_spec hg0) rfl rfl ?_)
      rintro v u6 ⟨hv, hE⟩
      rw [hv]
      have hH2 := hH.ext0 hE
      repeat ((refine WL_r (by first | refine k_fa rfl (Ty.fld rfl rfl) | apply k_makeFunc) rfl ?_))
      refine WL_s (H_storeN 2 (o := 0 + 2) (vs := [v0, v0, v0, v0]) (s := 4) hH2 rfl rfl rfl (by rw [hM.len]; simp) (fun u hu => by simp at hu; subst hu; exact hg0.one) (Ty.shp rfl) rfl ?_)
      intro u7 hH3
      have hM2 := hM.vecs (vs := [v0, v0, v0, v0]) rfl (fun u hu => by simp at hu; subst hu; exact hg0)
      replace hH3 : Hp [] w u7 (h3 b3 b6 b7 zs (cs.take 2 ++ [v0, v0, v0, v0] ++ cs.drop 6)) := hH3.take 3
      repeat (first | refine WS_seq ?_ | refine WS_region ?_ | refine WL_nil ?_ | refine WS_inBlock ?_)
      refine WL_keep [(3, pm b3), (6, pm b6), (7, pm b7)] ⟨rfl, rfl, rfl, trivial⟩ (fun σ => WL_w fun u hu => ?_)
      exact key σ u ⟨_, hM2, hu ▸ hH3⟩
    by_cases hk2 : k = 2
    · repeat (first | refine WS_seq ?_ | refine WS_region ?_ | refine WL_nil ?_ | refine WS_block ?_ | refine WS_true rfl ?_ | refine WS_false rfl ?_ | (refine WL_r (by first | refine k_fa rfl (Ty.fld rfl rfl) | refine k_loads rfl hS7 hk0 (Ty.shp rfl) | refine (k_eql (q := .u8) rfl rfl).is (bT (by omega)) | refine (k_eql (q := .u8) rfl rfl).is (bF (by omega)) | refine k_loadA rfl hB9 (by simpa using hvl) (Ty.shp rfl) | refine Run_pev rfl | apply k_makeFunc) rfl ?_))
      refine WL_s (H_storeN 2 (o := 0 + 2) (vs := vs) (s := 4) hH rfl rfl rfl (by rw [hM.len, hvl]; omega) (fun u hu => (hvg u hu).one) (Ty.shp rfl) hvl ?_)
      intro u7 hH3
      have hM2 := hM.vecs hvl hvg
      replace hH3 : Hp [] w u7 (h3 b3 b6 b7 zs (cs.take 2 ++ vs ++ cs.drop 6)) := by
        have := hH3.take 3
        rw [hvl] at this
        exact this
      repeat (first | refine WS_seq ?_ | refine WS_region ?_ | refine WL_nil ?_ | refine WS_inBlock ?_)
      refine WL_keep [(3, pm b3), (6, pm b6), (7, pm b7)] ⟨rfl, rfl, rfl, trivial⟩ (fun σ => WL_w fun u hu => ?_)
      exact key σ u ⟨_, hM2, hu ▸ hH3⟩
    · have hS3 : SlA u5 (some ⟨b3, 0, none⟩) zs := (hH.b 0 rfl).sl0
      repeat (first | refine WS_seq ?_ | refine WS_region ?_ | refine WL_nil ?_ | refine WS_block ?_ | refine WS_false rfl ?_ | (refine WL_r (by first | refine k_fa rfl (Ty.fld rfl rfl) | refine k_loads rfl hS7 hk0 (Ty.shp rfl) | refine (k_eql (q := .u8) rfl rfl).is (bF (by omega)) | refine k_loads rfl hS3 hev (Ty.shp rfl) | refine Run_pev rfl | apply k_makeFunc) rfl ?_))
      refine WL_s (H_storeL 2 (o := 0 + 6) (v := .bool ed) hH rfl rfl rfl (by rw [hM.len]; omega) rfl (Ty.shp rfl) ?_)
      intro u7 hH3
      have hM2 := hM.set (o := 0 + 6) (mgood.edge ed)
      replace hH3 : Hp [] w u7 (h3 b3 b6 b7 zs (cs.set (0 + 6) (.bool ed))) := hH3.take 3
      repeat (first | refine WS_seq ?_ | refine WS_region ?_ | refine WL_nil ?_ | refine WS_inBlock ?_)
      refine WL_keep [(3, pm b3), (6, pm b6), (7, pm b7)] ⟨rfl, rfl, rfl, trivial⟩ (fun σ => WL_w fun u hu => ?_)
      exact key σ u ⟨_, hM2, hu ▸ hH3⟩
  clear hM hH hS7 hk0 hk hk00 hvg hvl
  rintro σ u6 ⟨cs, hM, hH⟩
  have hS3 : SlA u6 (some ⟨b3, 0, none⟩) zs := (hH.b 0 rfl).sl0
  repeat (first | refine WS_seq ?_ | refine WS_region ?_ | refine WL_nil ?_ | refine WS_block ?_ | (refine WL_r (by first | refine k_fa rfl (Ty.fld rfl rfl) | refine k_loads rfl hS3 hdv (Ty.shp rfl) | refine Run_pev rfl | apply k_makeFunc) rfl ?_))
  clear hS3
  refine WS_loop (G := (Nat) × (Nat) × (List Value)) (fun | (k, n, cs) => 6 - k) 664613997892457641303998350787353600 (fun | (k, n, cs) => [(10, .int .u32 n), (68, .int .i64 k)]) (fun | (k, n, cs), w' => k ≤ 6 ∧ n < 4294967296 ∧ MC cs ∧ Hp [] w w' (h3 b3 b6 b7 zs cs)) (0, sd, cs) ⟨rfl, rfl, trivial⟩ ⟨by omega, hsd, hM, hH⟩ ?_
  rintro ⟨k, n, cs⟩ u7 σ ⟨hk, hn, hM, hH⟩ IH
  show WS _ _ _ _ _ (updL [(10, .int .u32 n), (68, .int .i64 k)] _) _
  by_cases hkl : k < 6
  · obtain ⟨kp, hkp, hkpv⟩ := hz.kp k hkl
    repeat (first | refine WS_seq ?_ | refine WS_region ?_ | refine WL_nil ?_ | refine WS_block ?_ | refine WS_skip ?_ | refine WS_yes rfl (by omega) ?_ | (refine WL_r (by first | refine Run_pev rfl | apply k_makeFunc) rfl ?_))
    refine WS_loop (G := (Nat) × (Nat) × (List Value)) (fun | (i, n, cs) => 64 - i) 324518553656065543541721197974528 (fun | (i, n, cs) => [(10, .int .u32 n), (71, .int .i64 i)]) (fun | (i, n, cs), w' => i ≤ 64 ∧ n < 4294967296 ∧ MC cs ∧ Hp [] w w' (h3 b3 b6 b7 zs cs)) (0, n, cs) ⟨rfl, rfl, trivial⟩ ⟨by omega, hn, hM, hH⟩ ?_
    rintro ⟨i, n, cs⟩ u8 σ ⟨hi, hn, hM, hH⟩ IH
    show WS _ _ _ _ _ (updL [(10, .int .u32 n), (71, .int .i64 i)] _) _
    by_cases hil : i < 64
    · obtain ⟨n2, hn2⟩ : ∃ n2, (n * 1664525 % 4294967296 + 1013904223) % 4294967296 = n2 := ⟨_, rfl⟩
      have hlt2 : n2 < 4294967296 := by omega
      obtain ⟨h16, hh⟩ : ∃ h16, n2 / 2 ^ 16 = h16 := ⟨_, rfl⟩
      have hh2 : h16 < 65536 := by omega
      have hr1 : (h16 : Int) % 7 < 7 ∧ 0 ≤ (h16 : Int) % 7 := by omega
      have hr2 : (h16 : Int) % 1001 < 1001 ∧ 0 ≤ (h16 : Int) % 1001 := by omega
      have hB3 : Blk u8 b3 30 zs.toArray := hH.b 0 rfl
      have hSk : SlA u8 (some ⟨b3, 0 + 12, none⟩) (zs.drop 12) := hB3.sl (fun j v hj => by rw [List.getElem?_drop] at hj; rw [List.getElem?_toArray, Nat.zero_add]; exact hj)
      have hkt : (zs.drop 12)[(k : Int).toNat]? = some (.int .u64 kp) := by rw [show (k : Int).toNat = k from rfl, List.getElem?_drop]; exact hkpv
      have hq64 : kp / 2 ^ i < 18446744073709551616 := Nat.lt_of_le_of_lt (Nat.div_le_self _ _) hkp
      have hS3 : SlA u8 (some ⟨b3, 0, none⟩) zs := hB3.sl0
      repeat (first | refine WS_seq ?_ | refine WS_region ?_ | refine WL_nil ?_ | refine WS_block ?_ | refine WS_skip ?_ | refine WS_yes rfl (by omega) ?_ | (refine WL_r (by first | refine k_fa rfl (Ty.fld rfl rfl) | refine (k_mulu (q := .u32) rfl rfl rfl).is (v' := .int .u32 ((n * 1664525 % 4294967296 : Nat) : Int)) rfl | refine (k_addu (q := .u32) rfl rfl rfl).is (congrArg (fun n : Nat => Value.int .u32 (n : Int)) hn2) | refine k_ixa1 rfl rfl (Ty.arr rfl) (by omega) | refine k_loads rfl hSk hkt (Ty.shp rfl) | refine k_shr rfl rfl (fit64 hkp) | refine k_and (n := 1) rfl rfl (fit64 hq64) rfl | refine Run_pev rfl | apply k_makeFunc) rfl ?_))
      clear hSk hB3
      refine WS_ite rfl (fun h1 => ?_) (fun h1 => ?_)
      · skip
        repeat (first | refine WS_seq ?_ | refine WS_region ?_ | (refine WL_r (by first | refine k_fa rfl (Ty.fld rfl rfl) | refine (k_shr (q := .u32) (n := 16) rfl rfl (fit32 hlt2)).is (congrArg (fun n : Nat => Value.int .u32 (n : Int)) hh) | refine k_ixaA rfl rfl (Ty.arr rfl) (by omega) | refine k_ixaN rfl rfl (Ty.arr rfl) (by omega) | refine Run_pev rfl | refine k_sub64 rfl rfl (by omega) | refine k_rem rfl rfl (by omega) | apply k_makeFunc | refine k_convI rfl rfl rfl (by omega)) rfl ?_))
        refine WL_s (H_storeL 2 (o := 0 + 7 + ((k : Int).toNat * 64 + (i : Int).toNat)) (v := .int .i64 ((h16 : Int) % 7 - 3)) hH rfl rfl rfl (by rw [hM.len]; omega) rfl (Ty.shp rfl) ?_)
        try clear hH
        intro _ hH
        change Hp _ _ _ [_, _, _] at hH
        replace hM := hM.set (o := 0 + 7 + ((k : Int).toNat * 64 + (i : Int).toNat)) (v := .int .i64 ((h16 : Int) % 7 - 3)) (mgood.level (by omega) (by omega))
        generalize cs.set (0 + 7 + ((k : Int).toNat * 64 + (i : Int).toNat)) (.int .i64 ((h16 : Int) % 7 - 3)) = cs at *
        have hS3 : SlA _ (some ⟨b3, 0, none⟩) zs := (hH.b 0 rfl).sl0
        cases gr with
        | false =>
          repeat (first | refine WS_seq ?_ | refine WS_region ?_ | refine WL_nil ?_ | refine WS_inBlock ?_ | refine WS_skip ?_ | refine WS_false rfl ?_ | (refine WL_r (by first | refine k_fa rfl (Ty.fld rfl rfl) | refine k_loads rfl hS3 hgv (Ty.shp rfl) | refine Run_pev rfl | refine k_add64 rfl rfl (by omega) | apply k_makeFunc) rfl ?_))
          refine IH (i + 1, n2, cs) _ _ ?_ ?_ ?_ ?_
          · simp only; omega
          · exact ⟨rfl, rfl, trivial⟩
          · exact (by repeat (first | with_reducible apply Agr.refl | refine Agr.upd rfl ?_ | refine Agr.updL rfl ?_ | refine Agr.mrg rfl ?_))
          · exact ⟨by omega, hlt2, hM, hH⟩
        | true =>
          repeat (first | refine WS_seq ?_ | refine WS_region ?_ | refine WL_nil ?_ | refine WS_true rfl ?_ | (refine WL_r (by first | refine k_fa rfl (Ty.fld rfl rfl) | refine k_loads rfl hS3 hgv (Ty.shp rfl) | refine (k_shr (q := .u32) (n := 16) rfl rfl (fit32 hlt2)).is (congrArg (fun n : Nat => Value.int .u32 (n : Int)) hh) | refine k_ixaA rfl rfl (Ty.arr rfl) (by omega) | refine k_ixaN rfl rfl (Ty.arr rfl) (by omega) | refine Run_pev rfl | refine k_sub64 rfl rfl (by omega) | refine k_rem rfl rfl (by omega) | apply k_makeFunc | refine k_convI rfl rfl rfl (by omega)) rfl ?_))
          refine WL_s (H_storeL 2 (o := 0 + 7 + ((k : Int).toNat * 64 + (i : Int).toNat)) (v := .int .i64 ((h16 : Int) % 1001 - 500)) hH rfl rfl rfl (by rw [hM.len]; omega) rfl (Ty.shp rfl) ?_)
          try clear hH
          intro _ hH
          change Hp _ _ _ [_, _, _] at hH
          replace hM := hM.set (o := 0 + 7 + ((k : Int).toNat * 64 + (i : Int).toNat)) (v := .int .i64 ((h16 : Int) % 1001 - 500)) (mgood.level (by omega) (by omega))
          generalize cs.set (0 + 7 + ((k : Int).toNat * 64 + (i : Int).toNat)) (.int .i64 ((h16 : Int) % 1001 - 500)) = cs at *
          repeat (first | refine WS_region ?_ | refine WL_nil ?_ | refine WS_inBlock ?_ | (refine WL_r (by first | refine Run_pev rfl | refine k_add64 rfl rfl (by omega) | apply k_makeFunc) rfl ?_))
          refine IH (i + 1, n2, cs) _ _ ?_ ?_ ?_ ?_
          · simp only; omega
          · exact ⟨rfl, rfl, trivial⟩
          · exact (by repeat (first | with_reducible apply Agr.refl | refine Agr.upd rfl ?_ | refine Agr.updL rfl ?_ | refine Agr.mrg rfl ?_))
          · exact ⟨by omega, hlt2, hM, hH⟩
      · repeat (first | refine WS_region ?_ | refine WL_nil ?_ | refine WS_inBlock ?_ | refine WS_skip ?_ | (refine WL_r (by first | refine Run_pev rfl | refine k_add64 rfl rfl (by omega) | apply k_makeFunc) rfl ?_))
        refine IH (i + 1, n2, cs) _ _ ?_ ?_ ?_ ?_
        · simp only; omega
        · exact ⟨rfl, rfl, trivial⟩
        · exact (by repeat (first | with_reducible apply Agr.refl | refine Agr.upd rfl ?_ | refine Agr.updL rfl ?_ | refine Agr.mrg rfl ?_))
        · exact ⟨by omega, hlt2, hM, hH⟩
    clear IH
    have hB7 : Blk u8 b7 39 cs.toArray := hH.b 2 rfl
    repeat (first | refine WS_seq ?_ | refine WS_region ?_ | refine WL_nil ?_ | refine WS_exit rfl ?_ | refine WS_no rfl (by omega) ?_ | (refine WL_r (by first | refine k_loadA rfl hB7 (by simpa using hM.len) (Ty.shp rfl) | refine Run_pev rfl) rfl ?_))
    try refine WL_gyes rfl rfl rfl ?_
    refine WL_s (S_call (alone19 hM) rfl rfl ?_)
    rintro v u9 ⟨⟨b, rfl⟩, hE⟩
    replace hH := hH.ext0 hE
    clear hB7 hE
    cases b with
    | false =>
      repeat (first | refine WS_region ?_ | refine WL_nil ?_ | refine WS_inBlock ?_ | refine WS_skip ?_ | refine WS_false rfl ?_ | (refine WL_r (by first | refine Run_pev rfl | refine k_add64 rfl rfl (by omega) | apply k_makeFunc) rfl ?_))
      refine IH (k + 1, n, cs) _ _ ?_ ?_ ?_ ?_
      · simp only; omega
      · exact ⟨rfl, rfl, trivial⟩
      · exact (by repeat (first | with_reducible apply Agr.refl | refine Agr.upd rfl ?_ | refine Agr.updL rfl ?_ | refine Agr.mrg rfl ?_))
      · exact ⟨by omega, hn, hM, hH⟩
    | true =>
      obtain ⟨h20, hh⟩ : ∃ h20, n / 2 ^ 20 = h20 := ⟨_, rfl⟩
      have hh2 : h20 < 4096 := by omega
      have hr1 : (h20 : Int) % 128 < 128 ∧ 0 ≤ (h20 : Int) % 128 := by omega
      repeat (first | refine WS_region ?_ | refine WL_nil ?_ | refine WS_true rfl ?_ | (refine WL_r (by first | refine k_fa rfl (Ty.fld rfl rfl) | refine (k_shr (q := .u32) (n := 20) rfl rfl (fit32 hn)).is (congrArg (fun n : Nat => Value.int .u32 (n : Int)) hh) | refine k_ixaA (i := 0) rfl rfl (Ty.arr rfl) (by decide) | refine k_ixaN rfl rfl (Ty.arr rfl) (by omega) | refine Run_pev rfl | refine k_rem rfl rfl (by omega) | apply k_makeFunc | refine k_convI rfl rfl rfl (by omega)) rfl ?_))
      refine WL_s (H_storeL 2 (o := 0 + 7 + ((k : Int).toNat * 64 + (0 : Int).toNat)) (v := .int .i64 ((h20 : Int) % 128)) hH rfl rfl rfl (by rw [hM.len]; omega) rfl (Ty.shp rfl) ?_)
      try clear hH
      intro _ hH
      change Hp _ _ _ [_, _, _] at hH
      replace hM := hM.set (o := 0 + 7 + ((k : Int).toNat * 64 + (0 : Int).toNat)) (v := .int .i64 ((h20 : Int) % 128)) (mgood.level (by omega) (by omega))
      generalize cs.set (0 + 7 + ((k : Int).toNat * 64 + (0 : Int).toNat)) (.int .i64 ((h20 : Int) % 128)) = cs at *
      repeat (first | refine WS_region ?_ | refine WL_nil ?_ | refine WS_inBlock ?_ | (refine WL_r (by first | refine Run_pev rfl | refine k_add64 rfl rfl (by omega) | apply k_makeFunc) rfl ?_))
      refine IH (k + 1, n, cs) _ _ ?_ ?_ ?_ ?_
      · simp only; omega
      · exact ⟨rfl, rfl, trivial⟩
      · exact (by repeat (first | with_reducible apply Agr.refl | refine Agr.upd rfl ?_ | refine Agr.updL rfl ?_ | refine Agr.mrg rfl ?_))
      · exact ⟨by omega, hn, hM, hH⟩
  clear IH
  have hB7 : Blk u7 b7 39 cs.toArray := hH.b 2 rfl
  have hM0 : MC (mk0 0 0) := mk0_mc (by decide) (by decide)
  repeat (first | refine WS_seq ?_ | refine WS_region ?_ | refine WL_nil ?_ | refine WS_exit rfl ?_ | refine WS_no rfl (by omega) ?_ | (refine WL_r (by first | refine k_loadA rfl hB7 (by simpa using hM.len) (Ty.shp rfl) | refine Run_pev rfl | apply k_makeFunc) rfl ?_))
  refine WL_s (H_storeA 1 (vs := cs.toArray) (s := 391) hH rfl rfl rfl (by simpa using hM.len) (by simpa using hM0.len) (fun u hu => hM.one u (by simpa using hu)) (Ty.shp rfl) ?_)
  clear hH
  intro u8 hH
  change Hp _ _ _ [_, _, _] at hH
  repeat (refine WL_nil ?_)
  exact WS_retc1 Try.func9 rfl rfl (hH.b 1 rfl) (by simpa using hM.len) (Ty.shp rfl) ⟨cs, hM, rfl, hH.ext⟩
end Go.Proofs.Ytccnhnijglnbmaa
