/- The walk of the package block: a block read from the end; no condition but sizes of memory. -/
import Derived.Test.YtnamafelcjgjfaaSh
import Derived.Test.YtnamafelcjgjfaaBlkTake
namespace Go.Proofs.Ytnamafelcjgjfaa
open Go Go.K Go.P Go.RowKit Go.Proofs
theorem rd_cells {a : Option Addr} {n c x y : Nat} {b : Bool} : ∀ u ∈ (#[.slice a n c, .int .i64 x, .int .i64 y, .bool b] : Array Value).toList, u.oneCell' = true := by
  intro u hu
  simp at hu
  rcases hu with rfl | rfl | rfl | rfl <;> rfl
theorem mk_rev (acc : List (Nat × Int)) (p : Nat × Int) : evM (mk acc).reverse ++ evc p.1 p.2 acc.isEmpty = evM (mk (p :: acc)).reverse := by
  cases acc with
  | nil => rfl
  | cons q l => rw [mk_cons p (by simp)]; simp [evM]
set_option maxRecDepth 20000 in
set_option maxHeartbeats 8000000 in
theorem btakeb_spec {p c e0 st : Nat} {a : Option Addr} {l0 : List Nat} {s : List Bool} {stop : Int} {w : World} (hst : max stop 0 = (st : Int)) (hR : (Rq p a c l0 e0 ⟨s, false⟩).holds w) : Does Try.prog 28 #[pt p, .int .i64 stop] w fun v w' => BTk p a c l0 e0 ⟨s, false⟩ (bkb st 65 [] s) v w w' := by
  refine Does_of (args := [_, _]) Try.func28 rfl rfl Try.ntmps28 rfl ?_
  have hH := (Hp.start1 hR).nu (New.nilO (e := 92) (sz := 3))
  repeat (first | refine WS_seq ?_ | refine WS_region ?_ | refine WL_nil ?_ | refine WS_block ?_ | (refine WL_r (by first | refine (k_max rfl rfl).is (congrArg (Value.int .i64) hst) | refine Run_pev rfl | apply k_makeFunc) rfl ?_))
  obtain ⟨T, hTe⟩ : ∃ T, T = bkb st 65 [] s := ⟨_, rfl⟩
  rw [← hTe]
  refine WS_loop (G := (List (Nat × Int)) × (List Bool) × (Option Addr) × (Nat)) (fun | (acc, l, ao, co) => 64 - acc.length) 37778931862957161703408 (fun | (acc, l, ao, co) => [(5, .slice ao acc.length co)]) (fun | (acc, l, ao, co), w' => acc.length ≤ 64 ∧ T = bkb st (65 - acc.length) acc l ∧ Hp (Rq p a c l0 e0 ⟨s, false⟩).fp w w' [Rq p a c l0 e0 ⟨l, false⟩, Re ao acc.length co (evM (mk acc).reverse)]) ([], s, none, 0) ⟨rfl, trivial⟩ ⟨by simp, hTe, hH⟩ ?_
  rintro ⟨acc, l, ao, co⟩ w' σ ⟨hd, ht, hH⟩ IH
  show WS _ _ _ _ _ (updL [(5, .slice ao acc.length co)] _) _
  obtain ⟨k, hk⟩ : ∃ k, 65 - acc.length = k + 1 := ⟨64 - acc.length, by omega⟩
  rw [hk] at ht
  have hem : acc.isEmpty = decide (acc.length = 0) := by cases acc <;> simp
  repeat (first | refine WS_seq ?_ | refine WS_region ?_ | (refine WL_r (by refine Run_pev rfl) rfl ?_))
  try refine WL_gyes rfl rfl rfl ?_
  refine WL_s (S_call (rleft_spec (Rq.rd (hH.at 0 rfl))) rfl rfl ?_)
  rintro v w1 ⟨rfl, hE⟩
  replace hH := hH.ext0 hE
  clear hE
  rw [show rleft ⟨l, false⟩ = l.length from rfl]
  by_cases hlt : st < l.length
  · obtain ⟨at1, hR1, hr1⟩ := hH.at 0 rfl
    have hB0 : Blk w1 p 94 #[.slice a l0.length c, .int .i64 (at1 : Nat), .int .i64 (e0 : Nat), .bool false] := hR1.1
    repeat (first | refine WS_seq ?_ | refine WS_region ?_ | refine WL_nil ?_ | refine WS_block ?_ | refine WS_skip ?_ | refine WS_yes rfl (by omega) ?_ | (refine WL_r (by first | refine k_nilCheck rfl | refine k_loadA rfl hB0 rfl (Ty.shp rfl) | refine Run_pev rfl) rfl ?_))
    refine WL_s (H_alloc hH (Ty.zer rfl) rfl ?_)
    try clear hH
    intro w2 b6 hH
    change Hp _ _ _ [_, _, _] at hH
    refine WL_s (H_storeA 2 hH rfl rfl rfl rfl rfl rd_cells (Ty.shp rfl) ?_)
    clear hH
    intro w3 hH
    change Hp _ _ _ [_, _, _] at hH
    clear hB0 hR1
    repeat (first | refine WS_seq ?_ | refine WS_region ?_ | refine WL_nil ?_ | (refine WL_r (by refine Run_pev rfl) rfl ?_))
    try refine WL_gyes rfl rfl rfl ?_
    refine WL_s (S_call (takebQ (hH.at 0 rfl)) rfl rfl ?_)
    rintro v w4 hT
    rcases hT with ⟨m, r, hr, rfl, hU⟩ | ⟨hr, rfl, s', hs', hU⟩
    · replace hH := hH.up 0 rfl hU
      clear hU
      change Hp _ _ _ [_, _, _] at hH
      replace hr : rbk l = some (m, r) := hr
      obtain ⟨hm, _⟩ := rbk_iff.1 hr
      repeat (first | refine WS_seq ?_ | refine WS_region ?_ | refine WL_nil ?_ | (refine WL_r (by refine Run_pev rfl) rfl ?_))
      try refine WL_gyes rfl rfl rfl ?_
      refine WL_s (S_call (takebQ (hH.at 0 rfl)) rfl rfl ?_)
      rintro v w5 hT
      rcases hT with ⟨n, r2, hr2, rfl, hU⟩ | ⟨hr2, rfl, s', hs', hU⟩
      · replace hH := hH.up 0 rfl hU
        clear hU
        change Hp _ _ _ [_, _, _] at hH
        replace hr2 : rbk r = some (n, r2) := hr2
        obtain ⟨hn, _⟩ := rbk_iff.1 hr2
        repeat (first | refine WS_seq ?_ | refine WS_region ?_ | refine WL_nil ?_ | (refine WL_r (by refine Run_pev rfl) rfl ?_))
        try refine WL_gyes rfl rfl rfl ?_
        refine WL_s (S_call (event_spec (n := n) (m := m) (by omega) (by omega)) rfl rfl ?_)
        rintro v w3 ⟨rfl, hE⟩
        replace hH := hH.ext0 hE
        clear hE
        repeat ((refine WL_r (by first | refine Run_pev rfl | refine k_extract rfl rfl) rfl ?_))
        refine WL_s (H_alloc hH (Ty.zer rfl) rfl ?_)
        try clear hH
        intro w4 b9 hH
        change Hp _ _ _ [_, _, _, _] at hH
        refine WL_s (H_storeA 3 hH rfl rfl rfl rfl rfl (evc_one _ _ _) (Ty.shp rfl) ?_)
        clear hH
        intro w5 hH
        change Hp _ _ _ [_, _, _, _] at hH
        repeat (first | refine WS_seq ?_ | refine WS_region ?_ | refine WL_nil ?_ | (refine WL_r (by refine Run_pev rfl) rfl ?_))
        try refine WL_gyes rfl rfl rfl ?_
        refine WL_s (S_call (rended_spec (Rq.rd (hH.at 0 rfl))) rfl rfl ?_)
        rintro v w6 ⟨rfl, rfl⟩
        have hB9 : Blk w6 b9 92 (evc (evOf n m).1 (evOf n m).2 (decide (n % 2 = 1))).toArray := hH.b 3 rfl
        by_cases hok : okE (evOf n m)
        · have hE : rbE l = some (evOf n m, decide (n % 2 = 1), r2) := by simp [rbE, hr, hr2, hok]
          rw [decide_eq_true hok]
          generalize evOf n m = q at *
          by_cases hb : n % 2 = 1
          · rw [decide_eq_true hb] at hE hB9 hH
            by_cases h0 : acc.length = 0
            · rw [decide_eq_true h0] at hem
              have hT : T = bkb st (65 - (q :: acc).length) (q :: acc) r2 := by
                rw [ht, show 65 - (q :: acc).length = k by simp; omega]
                simp [bkb, hlt, hE, hem, h0]
              have hmk := mk_rev acc q
              rw [hem] at hmk
              repeat (first | refine WS_region ?_ | refine WL_nil ?_ | refine WS_skip ?_ | refine WS_false rfl ?_ | refine WL_gyes rfl rfl rfl ?_ | (refine WL_r (by first | refine k_fa rfl (Ty.fld rfl rfl) | refine k_loadb rfl hB9 rfl (Ty.shp rfl) | refine k_loadA rfl hB9 rfl (Ty.shp rfl) | refine (k_eql (q := .i64) (m := ((acc.length : Nat) : Int)) (n := 0) rfl rfl).is (bT (by omega)) | refine (k_eql (q := .i64) (m := ((acc.length : Nat) : Int)) (n := 64) rfl rfl).is (bF (by omega)) | refine (k_neqb rfl rfl (by kernel_rfl)).is (v' := .bool false) rfl | refine Run_pev rfl | refine k_len rfl (Ty.isl rfl)) rfl ?_))
              try refine WL_gyes rfl rfl rfl ?_
              refine WL_s (H_lit (out := (evc q.1 q.2 true)) hH (Ty.sle rfl) (Ty.zer rfl) rfl rfl rfl (by decide) rfl ?_)
              try clear hH
              intro _ b73 hH
              change Hp _ _ _ [_, _, _, _, _] at hH
              skip
              refine WL_s (H_append 1 hH rfl (Ty.sle rfl) (Ty.zer rfl) rfl (Ty.byt rfl) (by decide) rfl rfl ((hH.b 4 rfl).sl0) rfl (evc_one _ _ _) (by omega) (by simp only [maxLen]; omega) rfl ?_)
              clear hH
              intro w7 a7 c7 hH
              replace hH := hH.take 2
              change Hp _ _ _ [_, _] at hH
              rw [hmk] at hH
              repeat (first | refine WL_nil ?_ | refine WS_inBlock ?_ | (refine WL_r (by first | refine Run_pev rfl | apply k_makeFunc) rfl ?_))
              have hln : acc.length + 1 = (q :: acc).length := by simp
              rw [hln] at hH
              refine IH (q :: acc, r2, a7, c7) _ _ ?_ ?_ ?_ ?_
              · simp; omega
              · exact ⟨by simp; rfl, trivial⟩
              · exact (by repeat (first | with_reducible apply Agr.refl | refine Agr.upd rfl ?_ | refine Agr.updL rfl ?_ | refine Agr.mrg rfl ?_))
              · exact ⟨by simp; omega, hT, hH⟩
            · rw [decide_eq_false h0] at hem
              have hT : T = some (acc, l) := by
                rw [ht]
                simp [bkb, hlt, hE, hem]
              by_cases h64 : acc.length = 64
              · skip
                repeat (first | refine WS_seq ?_ | refine WS_region ?_ | refine WL_nil ?_ | refine WS_true rfl ?_ | refine WL_gyes rfl rfl rfl ?_ | refine WL_gno rfl rfl rfl rfl rfl ?_ | (refine WL_r (by first | refine (k_eql (q := .i64) rfl rfl).is (bT (by omega)) | refine Run_pev rfl | refine k_len rfl (Ty.isl rfl)) rfl ?_))
                try refine WL_gyes rfl rfl rfl ?_
                refine WL_s (S_call (rended_spec (Rq.rd (hH.at 0 rfl))) rfl rfl ?_)
                rintro v w7 ⟨rfl, rfl⟩
                have hB6 : Blk w7 b6 94 #[.slice a l0.length c, .int .i64 (at1 : Nat), .int .i64 (e0 : Nat), .bool false] := hH.b 2 rfl
                obtain ⟨at2, hR2, hr2⟩ := hH.at 0 rfl
                replace hH := (hH.as 0 rfl (r' := Rr p a c l0 at2 e0 false) (fun _ h => h) (fun _ => hR2)).split 0 rfl
                change Hp _ _ _ [_, _, _, _, _] at hH
                repeat (first | refine WS_seq ?_ | refine WS_region ?_ | refine WL_nil ?_ | refine WS_yes rfl (by omega) ?_ | refine WL_gyes rfl rfl rfl ?_ | (refine WL_r (by first | refine k_nilCheck rfl | refine k_fa rfl (Ty.fld rfl rfl) | refine k_loadb rfl hB9 rfl (Ty.shp rfl) | refine k_loadA rfl hB6 rfl (Ty.shp rfl) | refine Run_pev rfl | refine k_len rfl (Ty.isl rfl) | apply k_makeFunc) rfl ?_))
                refine WL_s (H_storeA 0 hH rfl rfl rfl rfl rfl rd_cells (Ty.shp rfl) ?_)
                clear hH
                intro w8 hH
                change Hp _ _ _ [_, _, _, _, _] at hH
                replace hH := hH.merge 0 4 rfl rfl (by decide)
                change Hp _ _ _ [_, _, _, _] at hH
                replace hH := hH.as 0 rfl (r' := Rq p a c l0 e0 ⟨l, false⟩) (fun _ h => h) (fun h => ⟨at1, h, hr1⟩)
                change Hp _ _ _ [_, _, _, _] at hH
                repeat (first | refine WS_seq ?_ | refine WS_region ?_ | refine WL_nil ?_ | (refine WL_r (by refine Run_pev rfl) rfl ?_))
                try refine WL_gyes rfl rfl rfl ?_
                refine WL_s (S_call (turned2_spec (hH.o 1 rfl).sl (by rw [List.length_reverse, mk_len]) (by omega)) rfl rfl ?_)
                rintro v w10 ⟨a10, c10, rfl, hN⟩
                replace hH := hH.nu hN
                clear hN
                rw [List.reverse_reverse, ← evC_mk] at hH
                repeat (first | refine WL_nil ?_ | (refine WL_r (by first | refine Run_pev rfl | apply k_makeFunc) rfl ?_))
                exact WS_ret1 Try.func28 rfl (.inl ⟨_, _, _, _, hT, rfl, hH.two 0 4 rfl rfl (by decide)⟩)
              · skip
                repeat (first | refine WS_seq ?_ | refine WS_region ?_ | refine WL_nil ?_ | refine WS_true rfl ?_ | refine WL_gyes rfl rfl rfl ?_ | (refine WL_r (by first | refine k_fa rfl (Ty.fld rfl rfl) | refine k_loadb rfl hB9 rfl (Ty.shp rfl) | refine (k_eql (q := .i64) rfl rfl).is (bF (by omega)) | refine (k_neqb rfl rfl (by kernel_rfl)).is (v' := .bool true) rfl | refine Run_pev rfl | refine k_len rfl (Ty.isl rfl)) rfl ?_))
                try refine WL_gyes rfl rfl rfl ?_
                refine WL_s (S_call (rended_spec (Rq.rd (hH.at 0 rfl))) rfl rfl ?_)
                rintro v w7 ⟨rfl, rfl⟩
                have hB6 : Blk w7 b6 94 #[.slice a l0.length c, .int .i64 (at1 : Nat), .int .i64 (e0 : Nat), .bool false] := hH.b 2 rfl
                obtain ⟨at2, hR2, hr2⟩ := hH.at 0 rfl
                replace hH := (hH.as 0 rfl (r' := Rr p a c l0 at2 e0 false) (fun _ h => h) (fun _ => hR2)).split 0 rfl
                change Hp _ _ _ [_, _, _, _, _] at hH
                repeat (first | refine WS_seq ?_ | refine WS_region ?_ | refine WL_nil ?_ | refine WS_yes rfl (by omega) ?_ | refine WL_gyes rfl rfl rfl ?_ | (refine WL_r (by first | refine k_nilCheck rfl | refine k_fa rfl (Ty.fld rfl rfl) | refine k_loadb rfl hB9 rfl (Ty.shp rfl) | refine k_loadA rfl hB6 rfl (Ty.shp rfl) | refine Run_pev rfl | refine k_len rfl (Ty.isl rfl) | apply k_makeFunc) rfl ?_))
                refine WL_s (H_storeA 0 hH rfl rfl rfl rfl rfl rd_cells (Ty.shp rfl) ?_)
                clear hH
                intro w8 hH
                change Hp _ _ _ [_, _, _, _, _] at hH
                replace hH := hH.merge 0 4 rfl rfl (by decide)
                change Hp _ _ _ [_, _, _, _] at hH
                replace hH := hH.as 0 rfl (r' := Rq p a c l0 e0 ⟨l, false⟩) (fun _ h => h) (fun h => ⟨at1, h, hr1⟩)
                change Hp _ _ _ [_, _, _, _] at hH
                repeat (first | refine WS_seq ?_ | refine WS_region ?_ | refine WL_nil ?_ | (refine WL_r (by refine Run_pev rfl) rfl ?_))
                try refine WL_gyes rfl rfl rfl ?_
                refine WL_s (S_call (turned2_spec (hH.o 1 rfl).sl (by rw [List.length_reverse, mk_len]) (by omega)) rfl rfl ?_)
                rintro v w10 ⟨a10, c10, rfl, hN⟩
                replace hH := hH.nu hN
                clear hN
                rw [List.reverse_reverse, ← evC_mk] at hH
                repeat (first | refine WL_nil ?_ | (refine WL_r (by first | refine Run_pev rfl | apply k_makeFunc) rfl ?_))
                exact WS_ret1 Try.func28 rfl (.inl ⟨_, _, _, _, hT, rfl, hH.two 0 4 rfl rfl (by decide)⟩)
          · rw [decide_eq_false hb] at hE hB9 hH
            by_cases h0 : acc.length = 0
            · rw [decide_eq_true h0] at hem
              repeat (first | refine WS_seq ?_ | refine WS_region ?_ | refine WL_nil ?_ | refine WS_true rfl ?_ | refine WL_gyes rfl rfl rfl ?_ | (refine WL_r (by first | refine k_fa rfl (Ty.fld rfl rfl) | refine k_loadb rfl hB9 rfl (Ty.shp rfl) | refine (k_eql (q := .i64) rfl rfl).is (bT (by omega)) | refine (k_eql (q := .i64) rfl rfl).is (bF (by omega)) | refine (k_neqb rfl rfl (by kernel_rfl)).is (v' := .bool true) rfl | refine Run_pev rfl | refine k_len rfl (Ty.isl rfl)) rfl ?_))
              try refine WL_gyes rfl rfl rfl ?_
              refine WL_s (S_call (rended_spec (Rq.rd (hH.at 0 rfl))) rfl rfl ?_)
              rintro v w7 ⟨rfl, rfl⟩
              repeat (first | refine WS_seq ?_ | refine WS_region ?_ | refine WL_nil ?_ | refine WS_skip ?_ | refine WS_false rfl ?_ | refine WL_gyes rfl rfl rfl ?_ | refine WL_gno rfl rfl rfl rfl rfl ?_ | (refine WL_r (by first | refine k_fa rfl (Ty.fld rfl rfl) | refine k_loadb rfl hB9 rfl (Ty.shp rfl) | refine Run_pev rfl) rfl ?_))
              try refine WL_gyes rfl rfl rfl ?_
              refine WL_s (S_call (rfailQ (hH.at 0 rfl)) rfl rfl ?_)
              rintro v w9 ⟨rfl, hU⟩
              replace hH := hH.up 0 rfl hU
              change Hp _ _ _ [_, _, _, _] at hH
              repeat (first | refine WS_seq ?_ | refine WS_region ?_ | refine WL_nil ?_ | (refine WL_r (by first | refine Run_pev rfl | apply k_makeFunc) rfl ?_))
              exact WS_ret1 Try.func28 rfl (.inr ⟨by rw [ht]; simp [bkb, hlt, hE, hem], rfl, _, rfl, hH.upd 0 rfl⟩)
            · rw [decide_eq_false h0] at hem
              by_cases h64 : acc.length = 64
              · skip
                repeat (first | refine WS_seq ?_ | refine WS_region ?_ | refine WL_nil ?_ | refine WS_true rfl ?_ | refine WL_gyes rfl rfl rfl ?_ | refine WL_gno rfl rfl rfl rfl rfl ?_ | (refine WL_r (by first | refine (k_eql (q := .i64) rfl rfl).is (bT (by omega)) | refine Run_pev rfl | refine k_len rfl (Ty.isl rfl)) rfl ?_))
                try refine WL_gyes rfl rfl rfl ?_
                refine WL_s (S_call (rended_spec (Rq.rd (hH.at 0 rfl))) rfl rfl ?_)
                rintro v w7 ⟨rfl, rfl⟩
                repeat (first | refine WS_seq ?_ | refine WS_region ?_ | refine WL_nil ?_ | refine WS_skip ?_ | refine WS_false rfl ?_ | refine WL_gyes rfl rfl rfl ?_ | refine WL_gno rfl rfl rfl rfl rfl ?_ | (refine WL_r (by first | refine k_fa rfl (Ty.fld rfl rfl) | refine k_loadb rfl hB9 rfl (Ty.shp rfl) | refine Run_pev rfl) rfl ?_))
                try refine WL_gyes rfl rfl rfl ?_
                refine WL_s (S_call (rfailQ (hH.at 0 rfl)) rfl rfl ?_)
                rintro v w9 ⟨rfl, hU⟩
                replace hH := hH.up 0 rfl hU
                change Hp _ _ _ [_, _, _, _] at hH
                repeat (first | refine WS_seq ?_ | refine WS_region ?_ | refine WL_nil ?_ | (refine WL_r (by first | refine Run_pev rfl | apply k_makeFunc) rfl ?_))
                exact WS_ret1 Try.func28 rfl (.inr ⟨by rw [ht]; simp [bkb, hlt, hE, hem, h64], rfl, _, rfl, hH.upd 0 rfl⟩)
              · have hT : T = bkb st (65 - (q :: acc).length) (q :: acc) r2 := by
                  rw [ht, show 65 - (q :: acc).length = k by simp; omega]
                  simp [bkb, hlt, hE, hem, h64]
                have hmk := mk_rev acc q
                rw [hem] at hmk
                repeat (first | refine WS_region ?_ | refine WL_nil ?_ | refine WS_skip ?_ | refine WS_false rfl ?_ | refine WL_gyes rfl rfl rfl ?_ | (refine WL_r (by first | refine k_fa rfl (Ty.fld rfl rfl) | refine k_loadb rfl hB9 rfl (Ty.shp rfl) | refine k_loadA rfl hB9 rfl (Ty.shp rfl) | refine (k_eql (q := .i64) (m := ((acc.length : Nat) : Int)) (n := 0) rfl rfl).is (bF (by omega)) | refine (k_eql (q := .i64) (m := ((acc.length : Nat) : Int)) (n := 64) rfl rfl).is (bF (by omega)) | refine (k_neqb rfl rfl (by kernel_rfl)).is (v' := .bool false) rfl | refine Run_pev rfl | refine k_len rfl (Ty.isl rfl)) rfl ?_))
                try refine WL_gyes rfl rfl rfl ?_
                refine WL_s (H_lit (out := (evc q.1 q.2 false)) hH (Ty.sle rfl) (Ty.zer rfl) rfl rfl rfl (by decide) rfl ?_)
                try clear hH
                intro _ b73 hH
                change Hp _ _ _ [_, _, _, _, _] at hH
                skip
                refine WL_s (H_append 1 hH rfl (Ty.sle rfl) (Ty.zer rfl) rfl (Ty.byt rfl) (by decide) rfl rfl ((hH.b 4 rfl).sl0) rfl (evc_one _ _ _) (by omega) (by simp only [maxLen]; omega) rfl ?_)
                clear hH
                intro w7 a7 c7 hH
                replace hH := hH.take 2
                change Hp _ _ _ [_, _] at hH
                rw [hmk] at hH
                repeat (first | refine WL_nil ?_ | refine WS_inBlock ?_ | (refine WL_r (by first | refine Run_pev rfl | apply k_makeFunc) rfl ?_))
                have hln : acc.length + 1 = (q :: acc).length := by simp
                rw [hln] at hH
                refine IH (q :: acc, r2, a7, c7) _ _ ?_ ?_ ?_ ?_
                · simp; omega
                · exact ⟨by simp; rfl, trivial⟩
                · exact (by repeat (first | with_reducible apply Agr.refl | refine Agr.upd rfl ?_ | refine Agr.updL rfl ?_ | refine Agr.mrg rfl ?_))
                · exact ⟨by simp; omega, hT, hH⟩
        · have hE : rbE l = none := by simp [rbE, hr, hr2, hok]
          rw [decide_eq_false hok]
          repeat (first | refine WS_seq ?_ | refine WS_region ?_ | refine WL_nil ?_ | refine WS_true rfl ?_ | refine WL_gyes rfl rfl rfl ?_ | refine WL_gno rfl rfl rfl rfl rfl ?_ | (refine WL_r (by refine Run_pev rfl) rfl ?_))
          try refine WL_gyes rfl rfl rfl ?_
          refine WL_s (S_call (rended_spec (Rq.rd (hH.at 0 rfl))) rfl rfl ?_)
          rintro v w7 ⟨rfl, rfl⟩
          repeat (first | refine WS_seq ?_ | refine WS_region ?_ | refine WL_nil ?_ | refine WS_skip ?_ | refine WS_false rfl ?_ | refine WL_gyes rfl rfl rfl ?_ | refine WL_gno rfl rfl rfl rfl rfl ?_ | (refine WL_r (by refine Run_pev rfl) rfl ?_))
          try refine WL_gyes rfl rfl rfl ?_
          refine WL_s (S_call (rfailQ (hH.at 0 rfl)) rfl rfl ?_)
          rintro v w9 ⟨rfl, hU⟩
          replace hH := hH.up 0 rfl hU
          change Hp _ _ _ [_, _, _, _] at hH
          repeat (first | refine WS_seq ?_ | refine WS_region ?_ | refine WL_nil ?_ | (refine WL_r (by first | refine Run_pev rfl | apply k_makeFunc) rfl ?_))
          exact WS_ret1 Try.func28 rfl (.inr ⟨by rw [ht]; simp [bkb, hlt, hE], rfl, _, rfl, hH.upd 0 rfl⟩)
      · replace hH := hH.up 0 rfl hU
        clear hU
        change Hp _ _ _ [_, _, _] at hH
        have hE : rbE l = none := by simp [rbE, hr, show rbk r = none from hr2]
        repeat (first | refine WS_seq ?_ | refine WS_region ?_ | refine WL_nil ?_ | (refine WL_r (by refine Run_pev rfl) rfl ?_))
        try refine WL_gyes rfl rfl rfl ?_
        refine WL_s (S_call (event_spec (n := 0) (m := m) (by omega) (by omega)) rfl rfl ?_)
        rintro v w3 ⟨rfl, hE⟩
        replace hH := hH.ext0 hE
        clear hE
        repeat ((refine WL_r (by first | refine Run_pev rfl | refine k_extract rfl rfl) rfl ?_))
        refine WL_s (H_alloc hH (Ty.zer rfl) rfl ?_)
        try clear hH
        intro w4 b9 hH
        change Hp _ _ _ [_, _, _, _] at hH
        refine WL_s (H_storeA 3 hH rfl rfl rfl rfl rfl (evc_one _ _ _) (Ty.shp rfl) ?_)
        clear hH
        intro w5 hH
        change Hp _ _ _ [_, _, _, _] at hH
        repeat (first | refine WS_seq ?_ | refine WS_region ?_ | refine WL_nil ?_ | (refine WL_r (by refine Run_pev rfl) rfl ?_))
        try refine WL_gyes rfl rfl rfl ?_
        refine WL_s (S_call (rended_spec (Rq.rd (hH.at 0 rfl))) rfl rfl ?_)
        rintro v w6 ⟨rfl, rfl⟩
        have hB9 : Blk w6 b9 92 _ := hH.b 3 rfl
        rw [hs']
        repeat (first | refine WS_seq ?_ | refine WS_region ?_ | refine WL_nil ?_ | refine WS_true rfl ?_ | refine WL_gno rfl rfl rfl rfl rfl ?_ | (refine WL_r (by refine Run_pev rfl) rfl ?_))
        try refine WL_gyes rfl rfl rfl ?_
        refine WL_s (S_call (rended_spec (Rq.rd (hH.at 0 rfl))) rfl rfl ?_)
        rintro v w7 ⟨rfl, rfl⟩
        rw [hs']
        repeat (first | refine WS_seq ?_ | refine WS_region ?_ | refine WL_nil ?_ | refine WS_skip ?_ | refine WS_false rfl ?_ | refine WL_gno rfl rfl rfl rfl rfl ?_ | (refine WL_r (by refine Run_pev rfl) rfl ?_))
        try refine WL_gyes rfl rfl rfl ?_
        refine WL_s (S_call (rfailQ (hH.at 0 rfl)) rfl rfl ?_)
        rintro v w9 ⟨rfl, hU⟩
        replace hH := hH.up 0 rfl hU
        change Hp _ _ _ [_, _, _, _] at hH
        repeat (first | refine WS_seq ?_ | refine WS_region ?_ | refine WL_nil ?_ | (refine WL_r (by first | refine Run_pev rfl | apply k_makeFunc) rfl ?_))
        exact WS_ret1 Try.func28 rfl (.inr ⟨by rw [ht]; simp [bkb, hlt, hE], rfl, _, rfl, hH.upd 0 rfl⟩)
    · replace hH := hH.up 0 rfl hU
      clear hU
      change Hp _ _ _ [_, _, _] at hH
      have hE : rbE l = none := by simp [rbE, show rbk l = none from hr]
      repeat (first | refine WS_seq ?_ | refine WS_region ?_ | refine WL_nil ?_ | (refine WL_r (by refine Run_pev rfl) rfl ?_))
      try refine WL_gyes rfl rfl rfl ?_
      refine WL_s (S_call (takebQ (hH.at 0 rfl)) rfl rfl ?_)
      rintro v w5 hT
      rcases hT with ⟨n, r2, hr2, rfl, hU⟩ | ⟨hr2, rfl, s2, hs2, hU⟩
      · rw [rbS, hs'] at hr2
        cases hr2
      · replace hH := hH.up 0 rfl hU
        clear hU
        change Hp _ _ _ [_, _, _] at hH
        repeat (first | refine WS_seq ?_ | refine WS_region ?_ | refine WL_nil ?_ | (refine WL_r (by refine Run_pev rfl) rfl ?_))
        try refine WL_gyes rfl rfl rfl ?_
        refine WL_s (S_call (event_spec (n := 0) (m := 0) (by omega) (by omega)) rfl rfl ?_)
        rintro v w3 ⟨rfl, hE⟩
        replace hH := hH.ext0 hE
        clear hE
        repeat ((refine WL_r (by first | refine Run_pev rfl | refine k_extract rfl rfl) rfl ?_))
        refine WL_s (H_alloc hH (Ty.zer rfl) rfl ?_)
        try clear hH
        intro w4 b9 hH
        change Hp _ _ _ [_, _, _, _] at hH
        refine WL_s (H_storeA 3 hH rfl rfl rfl rfl rfl (evc_one _ _ _) (Ty.shp rfl) ?_)
        clear hH
        intro w5 hH
        change Hp _ _ _ [_, _, _, _] at hH
        repeat (first | refine WS_seq ?_ | refine WS_region ?_ | refine WL_nil ?_ | (refine WL_r (by refine Run_pev rfl) rfl ?_))
        try refine WL_gyes rfl rfl rfl ?_
        refine WL_s (S_call (rended_spec (Rq.rd (hH.at 0 rfl))) rfl rfl ?_)
        rintro v w6 ⟨rfl, rfl⟩
        have hB9 : Blk w6 b9 92 _ := hH.b 3 rfl
        rw [hs2]
        repeat (first | refine WS_seq ?_ | refine WS_region ?_ | refine WL_nil ?_ | refine WS_true rfl ?_ | refine WL_gno rfl rfl rfl rfl rfl ?_ | (refine WL_r (by refine Run_pev rfl) rfl ?_))
        try refine WL_gyes rfl rfl rfl ?_
        refine WL_s (S_call (rended_spec (Rq.rd (hH.at 0 rfl))) rfl rfl ?_)
        rintro v w7 ⟨rfl, rfl⟩
        rw [hs2]
        repeat (first | refine WS_seq ?_ | refine WS_region ?_ | refine WL_nil ?_ | refine WS_skip ?_ | refine WS_false rfl ?_ | refine WL_gno rfl rfl rfl rfl rfl ?_ | (refine WL_r (by refine Run_pev rfl) rfl ?_))
        try refine WL_gyes rfl rfl rfl ?_
        refine WL_s (S_call (rfailQ (hH.at 0 rfl)) rfl rfl ?_)
        rintro v w9 ⟨rfl, hU⟩
        replace hH := hH.up 0 rfl hU
        change Hp _ _ _ [_, _, _, _] at hH
        repeat (first | refine WS_seq ?_ | refine WS_region ?_ | refine WL_nil ?_ | (refine WL_r (by first | refine Run_pev rfl | apply k_makeFunc) rfl ?_))
        exact WS_ret1 Try.func28 rfl (.inr ⟨by rw [ht]; simp [bkb, hlt, hE], rfl, _, rfl, hH.upd 0 rfl⟩)
  · by_cases h0 : acc.length = 0
    · have hB9 := hH
      rw [decide_eq_true h0] at hem
      repeat (first | refine WS_seq ?_ | refine WS_region ?_ | refine WL_nil ?_ | refine WS_exit rfl ?_ | refine WS_true rfl ?_ | refine WS_no rfl (by omega) ?_ | refine WL_gno (b := true) rfl rfl (dT (by omega)) rfl rfl ?_ | (refine WL_r (by first | refine Run_pev rfl | refine k_len rfl (Ty.isl rfl) | refine k_pick_t (dT (by omega)) rfl) rfl ?_))
      try refine WL_gyes rfl rfl rfl ?_
      refine WL_s (S_call (rfailQ (hH.at 0 rfl)) rfl rfl ?_)
      rintro v w9 ⟨rfl, hU⟩
      replace hH := hH.up 0 rfl hU
      change Hp _ _ _ [_, _] at hH
      repeat (first | refine WS_seq ?_ | refine WS_region ?_ | refine WL_nil ?_ | (refine WL_r (by first | refine Run_pev rfl | apply k_makeFunc) rfl ?_))
      exact WS_ret1 Try.func28 rfl (.inr ⟨by rw [ht]; simp [bkb, hlt, hem], rfl, _, rfl, hH.upd 0 rfl⟩)
    · rw [decide_eq_false h0] at hem
      repeat (first | refine WS_seq ?_ | refine WS_region ?_ | refine WL_nil ?_ | refine WS_exit rfl ?_ | refine WS_no rfl (by omega) ?_ | refine WL_gyes rfl rfl (dF (by omega)) ?_ | (refine WL_r (by first | refine Run_pev rfl | refine k_len rfl (Ty.isl rfl)) rfl ?_))
      try refine WL_gyes rfl rfl rfl ?_
      refine WL_s (S_call (rleft_spec (Rq.rd (hH.at 0 rfl))) rfl rfl ?_)
      rintro v w2 ⟨rfl, hE⟩
      replace hH := hH.ext0 hE
      clear hE
      rw [show rleft ⟨l, false⟩ = l.length from rfl]
      by_cases hls : l.length = st
      · have hT : T = some (acc, l) := by
          rw [ht]
          simp [bkb, hem, hls]
        repeat (first | refine WS_seq ?_ | refine WS_region ?_ | refine WL_nil ?_ | refine WS_skip ?_ | refine WS_false rfl ?_ | refine WL_gyes rfl rfl (dF (by omega)) ?_ | (refine WL_r (by first | refine (k_neq (q := .i64) rfl rfl).is (bF (fun h => h (by omega))) | refine Run_pev rfl | refine k_pick_f (dF (by omega)) rfl) rfl ?_))
        try refine WL_gyes rfl rfl rfl ?_
        refine WL_s (S_call (turned2_spec (hH.o 1 rfl).sl (by rw [List.length_reverse, mk_len]) (by omega)) rfl rfl ?_)
        rintro v w10 ⟨a10, c10, rfl, hN⟩
        replace hH := hH.nu hN
        clear hN
        rw [List.reverse_reverse, ← evC_mk] at hH
        repeat (first | refine WL_nil ?_ | (refine WL_r (by first | refine Run_pev rfl | apply k_makeFunc) rfl ?_))
        exact WS_ret1 Try.func28 rfl (.inl ⟨_, _, _, _, hT, rfl, hH.two 0 2 rfl rfl (by decide)⟩)
      · have hB9 := hH
        repeat (first | refine WS_seq ?_ | refine WS_region ?_ | refine WL_nil ?_ | refine WS_yes rfl (by omega) ?_ | refine WL_gyes rfl rfl (dF (by omega)) ?_ | (refine WL_r (by first | refine Run_pev rfl | refine k_pick_f (dF (by omega)) rfl) rfl ?_))
        try refine WL_gyes rfl rfl rfl ?_
        refine WL_s (S_call (rfailQ (hH.at 0 rfl)) rfl rfl ?_)
        rintro v w9 ⟨rfl, hU⟩
        replace hH := hH.up 0 rfl hU
        change Hp _ _ _ [_, _] at hH
        repeat (first | refine WS_seq ?_ | refine WS_region ?_ | refine WL_nil ?_ | (refine WL_r (by first | refine Run_pev rfl | apply k_makeFunc) rfl ?_))
        exact WS_ret1 Try.func28 rfl (.inr ⟨by rw [ht]; simp [bkb, hlt, hem, hls], rfl, _, rfl, hH.upd 0 rfl⟩)
end Go.Proofs.Ytnamafelcjgjfaa
