/- The walk of salvage.Of; no condition but sizes of memory. -/
import Derived.Test.YtnamafelcjgjfaaSh
import Derived.Test.YtnamafelcjgjfaaLaw24
import Derived.Test.YtnamafelcjgjfaaEscTake
import Derived.Test.YtnamafelcjgjfaaBlkBack
namespace Go.Proofs.Ytnamafelcjgjfaa
open Go Go.K Go.P Go.RowKit Go.Proofs
theorem SizeR.la {l : List Nat} {v : Value} (h : SizeR l v) : (l.getD (l.length - 1) 0 = 0 ∧ v = .tuple #[.int .i64 0, .bool false]) ∨ ∃ n, LastAt l n ∧ v = .tuple #[.int .i64 (n : Nat), .bool true] := by
  rcases h with h | ⟨h0, n, h1, h2, h3, rfl⟩
  · exact .inl h
  · exact .inr ⟨n, ⟨h0, h1, h2, h3⟩, rfl⟩
/-- Many places without a block. -/
def zel (m : Nat) : List EL := List.replicate m (none, 0, [])
theorem Rl.zero {w : World} (m : Nat) : New (Rl (zel m)) w w := ⟨.refl, fun x hx => by rw [(List.mem_replicate.1 hx).2]; exact .nil, fun s hs => by
  obtain ⟨x, hx, hb⟩ := List.mem_flatMap.1 hs
  rw [(List.mem_replicate.1 hx).2] at hb
  simp at hb⟩
theorem elvs_zel (m : Nat) : elvs (zel m) = List.replicate m (.slice none 0 0) := by simp [elvs, zel, elv]
theorem pse_zel (m : Nat) : pse (zel m) = sE m [] [] := by simp [pse, zel, sE_nil]
theorem pse_set (E : List EL) (i : Nat) (x : EL) : pse (E.set i x) = (pse E).set i x.2.2 := by simp [pse, List.map_set]
theorem elvs_set (E : List EL) (i : Nat) (x : EL) : (elvs E).set i (elv x) = elvs (E.set i x) := by simp [elvs, List.map_set]
theorem b3_one {a : Option Addr} {n c : Nat} {x y : Int} : ∀ u ∈ (#[.slice a n c, .int .i64 x, .int .i64 y] : Array Value).toList, u.oneCell' = true := by
  intro u hu; simp at hu; rcases hu with rfl | rfl | rfl <;> rfl
/-- What Of answers. -/
def SOf (l : List Nat) (m : Nat) (v : Value) (w w' : World) : Prop :=
  ∃ (bs : List Bool) (E : List EL) (b : Nat), PB l bs ∧ pse E = sE m (sF m bs) (sB m bs) ∧ v = .agg #[.slice (some ⟨b, 0, none⟩) m m, .int .i64 (sF m bs).length, .int .i64 (sB m bs).length] ∧ Hp [] w w' [Ro 46 1 (some ⟨b, 0, none⟩) m m (elvs E), Rl E]
theorem sF_nil (m : Nat) : sF m [] = [] := by unfold sF; rw [fwd_none tkb_nil]
theorem sB_nil (m : Nat) : sB m [] = [] := by
  have := s_bits m []
  have h2 := sB_good m []
  cases h : sB m [] with
  | nil => rfl
  | cons x X =>
    rw [h] at this h2
    have h3 := bb_pos (h2 x (by simp))
    rw [bP_cons, List.length_append, List.length_nil] at this
    omega
set_option maxRecDepth 20000 in
set_option maxHeartbeats 8000000 in
theorem sof_spec {n0 cap m : Nat} {a : Option Addr} {l : List Nat} {many : Int} {w : World} (hS : SlA w a (l.map B)) (hl : Byt l) (hn : l.length = n0) (hlen : n0 ≤ 1073741824) (hm : min (max many 0) 384 = (m : Int)) :
    Does Try.prog 39 #[.slice a n0 cap, .int .i64 many] w fun v w' => SOf l m v w w' := by
  subst hn
  refine Does_of (args := [_, _]) Try.func39 rfl rfl Try.ntmps39 rfl ?_
  have hH := Hp.start w
  have hm384 : m ≤ 384 := by omega
  repeat (first | refine WS_seq ?_ | refine WS_region ?_)
  refine WL_s (H_alloc hH (Ty.zer rfl) rfl ?_)
  try clear hH
  intro w1 b4 hH
  change Hp _ _ _ [_] at hH
  repeat (first | refine WS_seq ?_ | refine WS_region ?_ | refine WL_nil ?_ | (refine WL_r (by first | refine (k_min rfl rfl).is (congrArg (Value.int .i64) hm) | refine Run_pev rfl | refine k_max rfl rfl) rfl ?_))
  refine WL_s (H_make (n := m) hH (Ty.sle rfl) (Ty.zer rfl) (Ty.byt rfl) rfl rfl rfl (by omega) (by omega) (by simp only [maxLen]; omega) rfl ?_)
  clear hH
  intro w2 be hH
  change Hp _ _ _ [_, _] at hH
  replace hH := hH.made 1 rfl (by omega)
  change Hp _ _ _ [_, _] at hH
  repeat ((refine WL_r (by refine k_buildS (cs := [.slice (some ⟨be, 0, none⟩) m m, .int .i64 0, .int .i64 0]) (Ty.zer rfl) (Ty.plc rfl) rfl) rfl ?_))
  refine WL_s (H_alloc hH (Ty.zer rfl) rfl ?_)
  try clear hH
  intro w3 b5 hH
  change Hp _ _ _ [_, _, _] at hH
  skip
  refine WL_s (H_storeA 2 hH rfl rfl rfl rfl rfl b3_one (Ty.shp rfl) ?_)
  clear hH
  intro w4 hH
  change Hp _ _ _ [_, _, _] at hH
  replace hH := hH.nu (Rl.zero m)
  change Hp _ _ _ [_, _, _, _] at hH
  rw [← elvs_zel] at hH
  repeat (first | refine WS_seq ?_ | refine WS_region ?_ | refine WL_nil ?_ | (refine WL_r (by refine Run_pev rfl) rfl ?_))
  try refine WL_gyes rfl rfl rfl ?_
  refine WL_s (S_call (etake_spec (hH.old hS) hl rfl (by omega)) rfl rfl ?_)
  rintro v w5 (⟨y, ay, cy, hty, rfl, hN⟩ | ⟨hty, rfl, hE⟩)
  rotate_left
  · replace hH := hH.ext0 hE
    clear hE
    repeat (first | refine WS_seq ?_ | refine WS_region ?_ | refine WL_nil ?_ | (refine WL_r (by first | refine Run_pev rfl | refine k_extract rfl rfl) rfl ?_))
    try refine WL_gyes rfl rfl rfl ?_
    refine WL_s (S_call (size_spec (l := []) .nil (by simp [Byt]) rfl (by decide)) rfl rfl ?_)
    rintro v w6 ⟨hsz, rfl⟩
    rcases hsz.la with ⟨_, rfl⟩ | ⟨n, hla, _⟩
    rotate_left
    · have := hla.lt; simp at this
    repeat (first | refine WS_seq ?_ | refine WS_region ?_ | refine WL_nil ?_ | refine WS_true rfl ?_ | refine WL_gno rfl rfl rfl rfl rfl ?_ | (refine WL_r (by first | refine k_loadA rfl (hH.b 2 rfl) rfl (Ty.shp rfl) | refine Run_pev rfl | refine k_extract rfl rfl | apply k_makeFunc) rfl ?_))
    refine WL_s (H_storeA 0 hH rfl rfl rfl rfl rfl b3_one (Ty.shp rfl) ?_)
    clear hH
    intro w9 hH
    change Hp _ _ _ [_, _, _, _] at hH
    repeat (refine WL_nil ?_)
    exact WS_retc1 Try.func39 rfl rfl (hH.b 0 rfl) rfl (Ty.shp rfl) ⟨[], zel m, be, .inl ⟨rfl, (fun raw n h1 => by rw [hty] at h1; cases h1)⟩, by rw [sF_nil, sB_nil, pse_zel], by rw [sF_nil, sB_nil]; rfl, (hH.del 2).del 0⟩
  replace hH := hH.nu hN
  clear hN
  change Hp _ _ _ [_, _, _, _, _] at hH
  have hyb : Byt y := fun c hc => hl c (tk_mem l.length l y 0 (Nat.le_refl _) hty c hc)
  have hyl := tk_len l.length l y 0 (Nat.le_refl _) hty
  repeat (first | refine WS_seq ?_ | refine WS_region ?_ | refine WL_nil ?_ | (refine WL_r (by first | refine Run_pev rfl | refine k_extract rfl rfl) rfl ?_))
  try refine WL_gyes rfl rfl rfl ?_
  refine WL_s (S_call (size_spec (hH.o 4 rfl).sl hyb rfl (by omega)) rfl rfl ?_)
  rintro v w6 ⟨hsz, rfl⟩
  rcases hsz.la with ⟨hz0, rfl⟩ | ⟨e, hla, rfl⟩
  · replace hH := hH.del 4
    change Hp _ _ _ [_, _, _, _] at hH
    repeat (first | refine WS_seq ?_ | refine WS_region ?_ | refine WL_nil ?_ | refine WS_true rfl ?_ | refine WL_gyes rfl rfl rfl ?_ | (refine WL_r (by first | refine k_loadA rfl (hH.b 2 rfl) rfl (Ty.shp rfl) | refine Run_pev rfl | refine k_extract rfl rfl | apply k_makeFunc) rfl ?_))
    refine WL_s (H_storeA 0 hH rfl rfl rfl rfl rfl b3_one (Ty.shp rfl) ?_)
    clear hH
    intro w9 hH
    change Hp _ _ _ [_, _, _, _] at hH
    repeat (refine WL_nil ?_)
    exact WS_retc1 Try.func39 rfl rfl (hH.b 0 rfl) rfl (Ty.shp rfl) ⟨[], zel m, be, .inl ⟨rfl, (fun raw n h1 h2 => by rw [hty] at h1; cases h1; exact h2.nz hz0)⟩, by rw [sF_nil, sB_nil, pse_zel], by rw [sF_nil, sB_nil]; rfl, (hH.del 2).del 0⟩
  clear hsz
  have he8 := hla.lt
  have hPB : PB l (bl y 0 e) := .inr ⟨y, e, hty, hla, rfl⟩
  repeat (first | refine WS_seq ?_ | refine WS_region ?_ | refine WL_nil ?_ | refine WS_skip ?_ | refine WS_false rfl ?_ | refine WL_gyes rfl rfl rfl ?_ | (refine WL_r (by first | refine Run_pev rfl | refine k_extract rfl rfl) rfl ?_))
  try refine WL_gyes rfl rfl rfl ?_
  refine WL_s (S_call (read_spec (e := e) (hH.o 4 rfl).sl rfl (by omega) (by omega)) rfl rfl ?_)
  rintro v w7 ⟨p, a7, c7, rfl, hN⟩
  replace hN := Rr.rq hN (by omega) (by omega) hyb
  replace hH := hH.nu hN
  clear hN
  change Hp _ _ _ [_, _, _, _, _, _] at hH
  have hXl : (bl y 0 e).length = e := by rw [bl_len]; omega
  generalize hXe : bl y 0 e = X at *
  repeat (first | refine WS_seq ?_ | refine WS_region ?_ | refine WL_nil ?_ | refine WS_block ?_ | (refine WL_r (by first | refine Run_pev rfl | apply k_makeFunc) rfl ?_))
  refine WS_loopX (G := (List PS) × (List Bool) × (List EL)) (G2 := (List PS) × (List Bool) × (List EL)) (fun | (F, T, E) => m - F.length) 9223369837831526400 (fun | (F, T, E) => [(11, .int .i64 ((e - T.length : Nat) : Int))]) (fun | (F, T, E), w' => F.length ≤ m ∧ T.length ≤ e ∧ fwd m X = (F ++ (fwd (m - F.length) T).1, (fwd (m - F.length) T).2) ∧ pse E = sE m F [] ∧ Hp [] w w' [Rb b4 71 #[.slice none 0 0, .int .i64 0, .int .i64 0], Ro 46 1 (some ⟨be, 0, none⟩) m m (elvs E), Rb b5 71 #[.slice (some ⟨be, 0, none⟩) m m, .int .i64 (F.length : Nat), .int .i64 0], Rl E, RB ay cy y, Rq p a7 c7 y e ⟨T, false⟩]) (fun | (F, T, E) => [(11, .int .i64 ((e - T.length : Nat) : Int))]) (fun | (F, T, E), w' => F.length ≤ m ∧ T.length ≤ e ∧ fwd m X = (F, T) ∧ pse E = sE m F [] ∧ Hp [] w w' [Rb b4 71 #[.slice none 0 0, .int .i64 0, .int .i64 0], Ro 46 1 (some ⟨be, 0, none⟩) m m (elvs E), Rb b5 71 #[.slice (some ⟨be, 0, none⟩) m m, .int .i64 (F.length : Nat), .int .i64 0], Rl E, RB ay cy y]) ([], X, zel m) ⟨(congrArg (fun n : Nat => Value.int .i64 (n : Int)) (show 0 = e - X.length by omega)), trivial⟩ ⟨by simp, by omega, by simp, pse_zel m, hH⟩ ?_ ?_
  · skip
    rintro ⟨F, T, E⟩ w' σ ⟨hFm, hTe, hfw, hpE, hH⟩ IH EX
    show WS _ _ _ _ _ (updL [(11, .int .i64 ((e - T.length : Nat) : Int))] _) _
    have hB5 : Blk w' b5 71 #[.slice (some ⟨be, 0, none⟩) m m, .int .i64 (F.length : Nat), .int .i64 0] := hH.b 2 rfl
    by_cases hlt : F.length < m
    · obtain ⟨k, hk⟩ : ∃ k, m - F.length = k + 1 := ⟨m - F.length - 1, by omega⟩
      rw [hk] at hfw
      repeat (first | refine WS_seq ?_ | refine WS_region ?_ | refine WL_nil ?_ | refine WS_block ?_ | refine WS_skip ?_ | refine WS_yes rfl (by omega) ?_ | (refine WL_r (by first | refine k_fa rfl (Ty.fld rfl rfl) | refine k_loadb rfl hB5 rfl (Ty.shp rfl) | refine Run_pev rfl) rfl ?_))
      clear hB5
      try refine WL_gyes rfl rfl rfl ?_
      refine WL_s (S_call (btake_spec (hH.at 5 rfl)) rfl rfl ?_)
      rintro v w8 hT
      rcases hT with ⟨ps, r, a8, c8, hr, rfl, hQ⟩ | ⟨hr, rfl, s', hs', hU⟩
      · replace hH := hH.call 5 rfl hQ
        clear hQ
        change Hp _ _ _ [_, _, _, _, _, _, _] at hH
        obtain ⟨hg, hTr⟩ := tkb_good hr
        have hrl : r.length ≤ e := by rw [hTr, List.length_append] at hTe; omega
        rw [fwd_some hr] at hfw
        repeat (first | refine WS_seq ?_ | refine WS_region ?_ | refine WL_nil ?_ | (refine WL_r (by refine Run_pev rfl) rfl ?_))
        try refine WL_gyes rfl rfl rfl ?_
        refine WL_s (S_call (rended_spec (Rq.rd (hH.at 5 rfl))) rfl rfl ?_)
        rintro v w9 ⟨rfl, rfl⟩
        have hB5 : Blk _ b5 71 #[.slice (some ⟨be, 0, none⟩) m m, .int .i64 (F.length : Nat), .int .i64 0] := hH.b 2 rfl
        repeat (first | refine WS_seq ?_ | refine WS_region ?_ | refine WL_nil ?_ | refine WS_skip ?_ | refine WS_false rfl ?_ | (refine WL_r (by first | refine k_fa rfl (Ty.fld rfl rfl) | refine k_loadb rfl hB5 rfl (Ty.shp rfl) | refine k_ix1S rfl rfl (Ty.sle rfl) (by omega) | refine Run_pev rfl | apply k_makeFunc) rfl ?_))
        refine WL_s (H_storeO 1 (v := elv (a8, c8, ps)) hH rfl rfl rfl (by omega) rfl (Ty.shp rfl) ?_)
        clear hH hB5
        intro w10 hH
        change Hp _ _ _ [_, _, _, _, _, _, _] at hH
        rw [show ((F.length : Nat) : Int).toNat = F.length from rfl, elvs_set] at hH
        replace hH := Rl.put (Y := E.set F.length (a8, c8, ps)) 3 6 hH rfl rfl (by decide) (fun y hy => by
          rcases List.mem_or_eq_of_mem_set hy with h | h
          · exact .inl h
          · exact .inr h)
        change Hp _ _ _ [_, _, _, _, _, _] at hH
        have hpE2 : pse (E.set F.length (a8, c8, ps)) = sE m (F ++ [ps]) [] := by rw [pse_set, hpE]; exact sE_front hlt
        generalize E.set F.length (a8, c8, ps) = E2 at *
        have hB5 : Blk _ b5 71 #[.slice (some ⟨be, 0, none⟩) m m, .int .i64 (F.length : Nat), .int .i64 0] := hH.b 2 rfl
        repeat (first | refine WS_seq ?_ | refine WS_region ?_ | refine WL_nil ?_ | (refine WL_r (by first | refine k_fa rfl (Ty.fld rfl rfl) | refine k_loadb rfl hB5 rfl (Ty.shp rfl) | refine k_add64 rfl rfl (by omega) | apply k_makeFunc) rfl ?_))
        refine WL_s (H_store 2 (v := .int .i64 (((F ++ [ps]).length : Nat) : Int)) hH rfl rfl (congrArg (Value.int .i64) (by rw [List.length_append]; rfl)) (Nat.le_of_ble_eq_true rfl) rfl (Ty.shp rfl) ?_)
        clear hH hB5
        intro w11 hH
        change Hp _ _ _ [_, _, _, _, _, _] at hH
        repeat (first | refine WS_region ?_ | refine WL_nil ?_ | (refine WL_r (by refine Run_pev rfl) rfl ?_))
        try refine WL_gyes rfl rfl rfl ?_
        refine WL_s (S_call (rleft_spec (Rq.rd (hH.at 5 rfl))) rfl rfl ?_)
        rintro v w12 ⟨rfl, hE⟩
        replace hH := hH.ext0 hE
        clear hE
        have hrf : rleft ⟨r, false⟩ = r.length := by simp [rleft]
        rw [hrf]
        repeat (first | refine WL_nil ?_ | refine WS_inBlock ?_ | (refine WL_r (by first | refine Run_pev rfl | refine k_sub64 rfl rfl (by omega) | apply k_makeFunc) rfl ?_))
        refine IH (F ++ [ps], r, E2) _ _ ?_ ?_ ?_ ?_
        · simp; omega
        · exact ⟨congrArg (Value.int .i64) (by omega), trivial⟩
        · exact (by repeat (first | with_reducible apply Agr.refl | refine Agr.upd rfl ?_ | refine Agr.updL rfl ?_ | refine Agr.mrg rfl ?_))
        · exact ⟨by simp; omega, hrl, by rw [show m - (F ++ [ps]).length = k by simp; omega, hfw, List.append_assoc]; rfl, hpE2, hH⟩
      · replace hH := hH.up 5 rfl hU
        change Hp _ _ _ [_, _, _, _, _, _] at hH
        rw [fwd_none hr] at hfw
        repeat (first | refine WS_seq ?_ | refine WS_region ?_ | refine WL_nil ?_ | (refine WL_r (by refine Run_pev rfl) rfl ?_))
        try refine WL_gyes rfl rfl rfl ?_
        refine WL_s (S_call (rended_spec (Rq.rd (hH.at 5 rfl))) rfl rfl ?_)
        rintro v w9 ⟨rfl, rfl⟩
        rw [hs']
        replace hH := hH.del 5
        change Hp _ _ _ [_, _, _, _, _] at hH
        repeat (first | refine WL_nil ?_ | refine WS_true rfl ?_)
        refine WS_exit rfl ?_
        refine EX (F, T, E) _ _ ?_ ?_ ?_
        · exact ⟨rfl, trivial⟩
        · exact (by repeat (first | with_reducible apply Agr.refl | refine Agr.upd rfl ?_ | refine Agr.updL rfl ?_ | refine Agr.mrg rfl ?_))
        · exact ⟨hFm, hTe, by rw [hfw, List.append_nil], hpE, hH⟩
    · have hk : m - F.length = 0 := by omega
      rw [hk] at hfw
      replace hH := hH.del 5
      change Hp _ _ _ [_, _, _, _, _] at hH
      repeat (first | refine WS_seq ?_ | refine WS_region ?_ | refine WL_nil ?_ | refine WS_no rfl (by omega) ?_ | (refine WL_r (by first | refine k_fa rfl (Ty.fld rfl rfl) | refine k_loadb rfl hB5 rfl (Ty.shp rfl) | refine Run_pev rfl | apply k_makeFunc) rfl ?_))
      refine WS_exit rfl ?_
      refine EX (F, T, E) _ _ ?_ ?_ ?_
      · exact ⟨rfl, trivial⟩
      · exact (by repeat (first | with_reducible apply Agr.refl | refine Agr.upd rfl ?_ | refine Agr.updL rfl ?_ | refine Agr.mrg rfl ?_))
      · exact ⟨hFm, hTe, by rw [hfw]; simp [fwd], hpE, hH⟩
  · skip
    rintro ⟨F, T, E⟩ w' σ ⟨hFm, hTe, hfw, hpE, hH⟩
    show WS _ _ _ _ _ (updL [(11, .int .i64 ((e - T.length : Nat) : Int))] _) _
    have hsF : sF m X = F := by unfold sF; rw [hfw]
    have hsB : sB m X = (bwd (e - T.length) (m - F.length) X.reverse).1 := by unfold sB; rw [hfw, hXl]
    have hB5 : Blk w' b5 71 #[.slice (some ⟨be, 0, none⟩) m m, .int .i64 (F.length : Nat), .int .i64 0] := hH.b 2 rfl
    have hm64 : m ≤ 1000 := by omega
    by_cases hFe : F.length = m
    · have hs0 : sB m X = [] := by rw [hsB, hFe, Nat.sub_self]; rfl
      repeat (first | refine WS_seq ?_ | refine WS_region ?_ | refine WL_nil ?_ | refine WS_true rfl ?_ | (refine WL_r (by first | refine k_fa rfl (Ty.fld rfl rfl) | refine k_loadb rfl hB5 rfl (Ty.shp rfl) | refine (k_eql (q := .i64) rfl rfl).is (bT (by omega)) | refine k_loadA rfl hB5 rfl (Ty.shp rfl) | refine Run_pev rfl | apply k_makeFunc) rfl ?_))
      refine WL_s (H_storeA 0 hH rfl rfl rfl rfl rfl b3_one (Ty.shp rfl) ?_)
      clear hH
      intro w9 hH
      change Hp _ _ _ [_, _, _, _, _] at hH
      repeat (refine WL_nil ?_)
      exact WS_retc1 Try.func39 rfl rfl (hH.b 0 rfl) rfl (Ty.shp rfl) ⟨X, E, be, hPB, by rw [hsF, hs0, hpE], by rw [hsF, hs0]; rfl, ((hH.del 4).del 2).del 0⟩
    have hFl : F.length < m := by omega
    repeat (first | refine WS_seq ?_ | refine WS_region ?_ | refine WL_nil ?_ | refine WS_skip ?_ | refine WS_false rfl ?_ | (refine WL_r (by first | refine k_fa rfl (Ty.fld rfl rfl) | refine k_loadb rfl hB5 rfl (Ty.shp rfl) | refine (k_eql (q := .i64) rfl rfl).is (bF (by omega)) | refine Run_pev rfl) rfl ?_))
    clear hB5
    try refine WL_gyes rfl rfl rfl ?_
    refine WL_s (S_call (turned_spec (e := e) (hH.o 4 rfl).sl hyb rfl (by omega) (by omega)) rfl rfl ?_)
    rintro v w8 ⟨t, a8, c8, rfl, hN⟩
    rw [hXe] at hN
    replace hH := (hH.nu hN).del 4
    clear hN
    change Hp _ _ _ [_, _, _, _, _] at hH
    obtain ⟨l4, e4, hq4⟩ := Rd.q (hH.at 4 rfl)
    replace hH := hH.as 4 rfl (r' := Rq t a8 c8 l4 e4 ⟨X.reverse, false⟩) (fun _ h => h) (fun _ => hq4)
    clear hq4
    obtain ⟨st, hst⟩ : ∃ st, st = e - T.length := ⟨_, rfl⟩
    obtain ⟨M, hM⟩ : ∃ M, M = m - F.length := ⟨_, rfl⟩
    rw [← hst, ← hM] at hsB
    rw [← hst]
    have hstop : max ((st : Nat) : Int) 0 = ((st : Nat) : Int) := by omega
    change Hp _ _ _ [_, _, _, _, _] at hH
    repeat (first | refine WS_seq ?_ | refine WL_nil ?_ | refine WS_block ?_ | (refine WL_r (by first | refine Run_pev rfl | apply k_makeFunc) rfl ?_))
    refine WS_loopX (G := (List PS) × (List Bool) × (List EL)) (G2 := (List PS) × (List EL)) (fun | (K, Z, E) => M - K.length) 39614078895948927361949384704 (fun | (K, Z, E) => []) (fun | (K, Z, E), w' => K.length ≤ M ∧ bwd st M X.reverse = (K ++ (bwd st (M - K.length) Z).1, (bwd st (M - K.length) Z).2) ∧ pse E = sE m F K ∧ Hp [] w w' [Rb b4 71 #[.slice none 0 0, .int .i64 0, .int .i64 0], Ro 46 1 (some ⟨be, 0, none⟩) m m (elvs E), Rb b5 71 #[.slice (some ⟨be, 0, none⟩) m m, .int .i64 (F.length : Nat), .int .i64 (K.length : Nat)], Rl E, Rq t a8 c8 l4 e4 ⟨Z, false⟩]) (fun | (K, E) => []) (fun | (K, E), w' => K.length ≤ M ∧ (bwd st M X.reverse).1 = K ∧ pse E = sE m F K ∧ Hp [] w w' [Rb b4 71 #[.slice none 0 0, .int .i64 0, .int .i64 0], Ro 46 1 (some ⟨be, 0, none⟩) m m (elvs E), Rb b5 71 #[.slice (some ⟨be, 0, none⟩) m m, .int .i64 (F.length : Nat), .int .i64 (K.length : Nat)], Rl E]) ([], X.reverse, E) trivial ⟨by simp, by simp, hpE, hH⟩ ?_ ?_
    · skip
      rintro ⟨K, Z, E⟩ w' σ ⟨hKM, hbw, hpE, hH⟩ IH EX
      show WS _ _ _ _ _ (updL [] _) _
      have hB5 : Blk w' b5 71 #[.slice (some ⟨be, 0, none⟩) m m, .int .i64 (F.length : Nat), .int .i64 (K.length : Nat)] := hH.b 2 rfl
      by_cases hlt : K.length < M
      · obtain ⟨k, hk⟩ : ∃ k, M - K.length = k + 1 := ⟨M - K.length - 1, by omega⟩
        rw [hk] at hbw
        repeat (first | refine WS_seq ?_ | refine WS_region ?_ | refine WL_nil ?_ | refine WS_block ?_ | refine WS_skip ?_ | refine WS_yes rfl (by omega) ?_ | (refine WL_r (by first | refine k_fa rfl (Ty.fld rfl rfl) | refine k_loadb rfl hB5 rfl (Ty.shp rfl) | refine Run_pev rfl | refine k_add64 rfl rfl (by omega)) rfl ?_))
        clear hB5
        try refine WL_gyes rfl rfl rfl ?_
        refine WL_s (S_call (btakeb_spec hstop (hH.at 4 rfl)) rfl rfl ?_)
        rintro v w8 hT
        rcases hT with ⟨ps, r, a9, c9, hr, rfl, hQ⟩ | ⟨hr, rfl, s', hs', hU⟩
        · replace hH := hH.call 4 rfl hQ
          clear hQ
          change Hp _ _ _ [_, _, _, _, _, _] at hH
          rw [bwd_some hr] at hbw
          repeat (first | refine WS_seq ?_ | refine WS_region ?_ | refine WL_nil ?_ | (refine WL_r (by refine Run_pev rfl) rfl ?_))
          try refine WL_gyes rfl rfl rfl ?_
          refine WL_s (S_call (rended_spec (Rq.rd (hH.at 4 rfl))) rfl rfl ?_)
          rintro v w9 ⟨rfl, rfl⟩
          have hB5 : Blk _ b5 71 #[.slice (some ⟨be, 0, none⟩) m m, .int .i64 (F.length : Nat), .int .i64 (K.length : Nat)] := hH.b 2 rfl
          repeat (first | refine WS_seq ?_ | refine WS_region ?_ | refine WL_nil ?_ | refine WS_skip ?_ | refine WS_false rfl ?_ | (refine WL_r (by first | refine k_fa rfl (Ty.fld rfl rfl) | refine k_loadb rfl hB5 rfl (Ty.shp rfl) | refine k_add64 rfl rfl (by omega) | apply k_makeFunc) rfl ?_))
          refine WL_s (H_store 2 (v := .int .i64 (((K ++ [ps]).length : Nat) : Int)) hH rfl rfl (congrArg (Value.int .i64) (by rw [List.length_append]; rfl)) (Nat.le_of_ble_eq_true rfl) rfl (Ty.shp rfl) ?_)
          clear hH hB5
          intro w11 hH
          replace hH : Hp [] w w11 [Rb b4 71 #[.slice none 0 0, .int .i64 0, .int .i64 0], Ro 46 1 (some ⟨be, 0, none⟩) m m (elvs E), Rb b5 71 #[.slice (some ⟨be, 0, none⟩) m m, .int .i64 (F.length : Nat), .int .i64 ((K ++ [ps]).length : Nat)], Rl E, Rq t a8 c8 l4 e4 ⟨r, false⟩, Re a9 ps.length c9 (evC ps)] := hH
          have hB5 : Blk _ b5 71 #[.slice (some ⟨be, 0, none⟩) m m, .int .i64 (F.length : Nat), .int .i64 ((K ++ [ps]).length : Nat)] := hH.b 2 rfl
          have hKl : (K ++ [ps]).length = K.length + 1 := by simp
          repeat (first | refine WS_region ?_ | refine WL_nil ?_ | (refine WL_r (by first | refine k_fa rfl (Ty.fld rfl rfl) | refine k_loadb rfl hB5 rfl (Ty.shp rfl) | refine k_ix1S rfl rfl (Ty.sle rfl) (by omega) | refine Run_pev rfl | refine k_sub64 rfl rfl (by omega) | apply k_makeFunc) rfl ?_))
          refine WL_s (H_storeO 1 (v := elv (a9, c9, ps)) hH rfl rfl rfl (by omega) rfl (Ty.shp rfl) ?_)
          clear hH hB5
          intro w10 hH
          change Hp _ _ _ [_, _, _, _, _, _] at hH
          rw [show ((m : Int) - ((K ++ [ps]).length : Nat)).toNat = m - (K.length + 1) by omega, elvs_set] at hH
          replace hH := Rl.put (Y := E.set (m - (K.length + 1)) (a9, c9, ps)) 3 5 hH rfl rfl (by decide) (fun y hy => by
            rcases List.mem_or_eq_of_mem_set hy with h | h
            · exact .inl h
            · exact .inr h)
          change Hp _ _ _ [_, _, _, _, _] at hH
          have hpE2 : pse (E.set (m - (K.length + 1)) (a9, c9, ps)) = sE m F (K ++ [ps]) := by rw [pse_set, hpE]; exact sE_back (by omega)
          generalize E.set (m - (K.length + 1)) (a9, c9, ps) = E2 at *
          repeat (first | refine WL_nil ?_ | refine WS_inBlock ?_)
          refine IH (K ++ [ps], r, E2) _ _ ?_ ?_ ?_ ?_
          · simp; omega
          · exact trivial
          · exact (by repeat (first | with_reducible apply Agr.refl | refine Agr.upd rfl ?_ | refine Agr.updL rfl ?_ | refine Agr.mrg rfl ?_))
          · exact ⟨by omega, by rw [show M - (K ++ [ps]).length = k by omega, hbw, List.append_assoc]; rfl, hpE2, hH⟩
        · replace hH := hH.up 4 rfl hU
          change Hp _ _ _ [_, _, _, _, _] at hH
          rw [bwd_none hr] at hbw
          repeat (first | refine WS_seq ?_ | refine WS_region ?_ | refine WL_nil ?_ | (refine WL_r (by refine Run_pev rfl) rfl ?_))
          try refine WL_gyes rfl rfl rfl ?_
          refine WL_s (S_call (rended_spec (Rq.rd (hH.at 4 rfl))) rfl rfl ?_)
          rintro v w9 ⟨rfl, rfl⟩
          rw [hs']
          replace hH := hH.del 4
          change Hp _ _ _ [_, _, _, _] at hH
          repeat (first | refine WL_nil ?_ | refine WS_true rfl ?_)
          refine WS_exit rfl ?_
          refine EX (K, E) _ _ ?_ ?_ ?_
          · exact trivial
          · exact (by repeat (first | with_reducible apply Agr.refl | refine Agr.upd rfl ?_ | refine Agr.updL rfl ?_ | refine Agr.mrg rfl ?_))
          · exact ⟨hKM, by rw [hbw]; simp, hpE, hH⟩
      · have hk : M - K.length = 0 := by omega
        rw [hk] at hbw
        replace hH := hH.del 4
        change Hp _ _ _ [_, _, _, _] at hH
        repeat (first | refine WS_seq ?_ | refine WS_region ?_ | refine WL_nil ?_ | refine WS_no rfl (by omega) ?_ | (refine WL_r (by first | refine k_fa rfl (Ty.fld rfl rfl) | refine k_loadb rfl hB5 rfl (Ty.shp rfl) | refine Run_pev rfl | refine k_add64 rfl rfl (by omega) | apply k_makeFunc) rfl ?_))
        refine WS_exit rfl ?_
        refine EX (K, E) _ _ ?_ ?_ ?_
        · exact trivial
        · exact (by repeat (first | with_reducible apply Agr.refl | refine Agr.upd rfl ?_ | refine Agr.updL rfl ?_ | refine Agr.mrg rfl ?_))
        · exact ⟨hKM, by rw [hbw]; simp [bwd], hpE, hH⟩
    · skip
      rintro ⟨K, E⟩ w' σ ⟨hKM, hbw, hpE, hH⟩
      show WS _ _ _ _ _ (updL [] _) _
      have hB5 : Blk w' b5 71 #[.slice (some ⟨be, 0, none⟩) m m, .int .i64 (F.length : Nat), .int .i64 (K.length : Nat)] := hH.b 2 rfl
      rw [hbw] at hsB
      repeat (first | refine WS_seq ?_ | refine WS_region ?_ | (refine WL_r (by first | refine k_loadA rfl hB5 rfl (Ty.shp rfl) | apply k_makeFunc) rfl ?_))
      refine WL_s (H_storeA 0 hH rfl rfl rfl rfl rfl b3_one (Ty.shp rfl) ?_)
      clear hH
      intro w9 hH
      change Hp _ _ _ [_, _, _, _] at hH
      repeat (refine WL_nil ?_)
      exact WS_retc1 Try.func39 rfl rfl (hH.b 0 rfl) rfl (Ty.shp rfl) ⟨X, E, be, hPB, by rw [hsF, hsB, hpE], by rw [hsF, hsB], (hH.del 2).del 0⟩
end Go.Proofs.Ytnamafelcjgjfaa
