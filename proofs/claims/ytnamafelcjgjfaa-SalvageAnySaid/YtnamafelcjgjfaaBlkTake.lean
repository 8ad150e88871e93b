/- The walks of the package block: events that are read, from either end; no condition but sizes of memory. -/
import Derived.Test.YtnamafelcjgjfaaSh
import Derived.Test.YtnamafelcjgjfaaBlock
namespace Go.Proofs.Ytnamafelcjgjfaa
open Go Go.K Go.P Go.RowKit Go.Proofs
/-- What a reader yields: a block's events, and what is left; or it has ended. -/
def BTk (p : Nat) (a : Option Addr) (c : Nat) (l0 : List Nat) (e0 : Nat) (s : RS) (o : Option (List (Nat × Int) × List Bool)) (v : Value) (w w' : World) : Prop :=
  (∃ ps r a1 c1, o = some (ps, r) ∧ v = .slice a1 ps.length c1 ∧ Hp (Rq p a c l0 e0 s).fp w w' [Rq p a c l0 e0 ⟨r, false⟩, Re a1 ps.length c1 (evC ps)]) ∨
  (o = none ∧ v = .slice none 0 0 ∧ ∃ s', s'.ended = true ∧ Upd (Rq p a c l0 e0 s) (Rq p a c l0 e0 s') w w')
theorem evF_end (done : List (Nat × Int)) (p : Nat × Int) : evF done ++ evc p.1 p.2 true = evC (done ++ [p]) := by
  rw [← evF_set (done ++ [p]) (by simp)]
  have e : evF (done ++ [p]) = evF done ++ [I p.1, I p.2, .bool false] := by simp [evF]
  rw [e, List.set_append_right (h := by rw [evF_len]; simp)]
  have e2 : ((done ++ [p]).length - 1) * 3 + 2 - (evF done).length = 2 := by rw [evF_len]; simp
  rw [e2]
  rfl
set_option maxHeartbeats 4000000 in
theorem btake_spec {p c e0 : Nat} {a : Option Addr} {l0 : List Nat} {s : List Bool} {w : World} (hR : (Rq p a c l0 e0 ⟨s, false⟩).holds w) : Does Try.prog 25 #[pt p] w fun v w' => BTk p a c l0 e0 ⟨s, false⟩ (tkb 64 s) v w w' := by
  refine Does_of (args := [_]) Try.func25 rfl rfl Try.ntmps25 rfl ?_
  have hH := (Hp.start1 hR).nu (New.nilO (e := 92) (sz := 3))
  repeat (first | refine WS_seq ?_ | refine WS_region ?_ | refine WL_nil ?_ | refine WS_block ?_ | (refine WL_r (by first | refine Run_pev rfl | apply k_makeFunc) rfl ?_))
  refine WS_loop (G := (List (Nat × Int)) × (List Bool) × (Option Addr) × (Nat)) (fun | (done, l, ao, co) => 64 - done.length) 17179869180 (fun | (done, l, ao, co) => [(3, .slice ao done.length co)]) (fun | (done, l, ao, co), w' => done.length ≤ 64 ∧ tkb 64 s = (tkb (64 - done.length) l).map (fun q => (done ++ q.1, q.2)) ∧ Hp (Rq p a c l0 e0 ⟨s, false⟩).fp w w' [Rq p a c l0 e0 ⟨l, false⟩, Re ao done.length co (evF done)]) ([], s, none, 0) ⟨rfl, trivial⟩ ⟨by simp, by simp, hH⟩ ?_
  rintro ⟨done, l, ao, co⟩ w' σ ⟨hd, ht, hH⟩ IH
  show WS _ _ _ _ _ (updL [(3, .slice ao done.length co)] _) _
  by_cases hlt : done.length < 64
  · obtain ⟨k, hk⟩ : ∃ k, 64 - done.length = k + 1 := ⟨63 - done.length, by omega⟩
    rw [hk] at ht
    repeat (first | refine WS_seq ?_ | refine WS_region ?_ | refine WL_nil ?_ | refine WS_block ?_ | refine WS_skip ?_ | refine WS_yes rfl (by omega) ?_ | (refine WL_r (by first | refine Run_pev rfl | refine k_len rfl (Ty.isl rfl)) rfl ?_))
    try refine WL_gyes rfl rfl rfl ?_
    refine WL_s (S_call (rtakeQ (hH.at 0 rfl)) rfl rfl ?_)
    rintro v w1 hT
    rcases hT with ⟨n, r, hr, rfl, hU⟩ | ⟨hr, rfl, s', hs', hU⟩
    · replace hH := hH.up 0 rfl hU
      clear hU
      change Hp _ _ _ [_, _] at hH
      replace hr : rtk l = some (n, r) := hr
      obtain ⟨hn, _⟩ := rtk_iff.1 hr
      repeat ((refine WL_r (by refine Run_pev rfl) rfl ?_))
      try refine WL_gyes rfl rfl rfl ?_
      refine WL_s (S_call (rtakeQ (hH.at 0 rfl)) rfl rfl ?_)
      rintro v w2 hT
      rcases hT with ⟨m, r2, hr2, rfl, hU⟩ | ⟨hr2, rfl, s', hs', hU⟩
      · replace hH := hH.up 0 rfl hU
        clear hU
        change Hp _ _ _ [_, _] at hH
        replace hr2 : rtk r = some (m, r2) := hr2
        obtain ⟨hm, _⟩ := rtk_iff.1 hr2
        repeat (first | refine WS_seq ?_ | refine WS_region ?_ | refine WL_nil ?_ | (refine WL_r (by refine Run_pev rfl) rfl ?_))
        try refine WL_gyes rfl rfl rfl ?_
        refine WL_s (S_call (event_spec (n := n) (m := m) (by omega) (by omega)) rfl rfl ?_)
        rintro v w3 ⟨rfl, hE⟩
        replace hH := hH.ext0 hE
        clear hE
        repeat ((refine WL_r (by first | refine Run_pev rfl | refine k_extract rfl rfl) rfl ?_))
        refine WL_s (H_alloc hH (Ty.zer rfl) rfl ?_)
        try clear hH
        intro w4 b6 hH
        change Hp _ _ _ [_, _, _] at hH
        refine WL_s (H_storeA 2 hH rfl rfl rfl rfl rfl (evc_one _ _ _) (Ty.shp rfl) ?_)
        clear hH
        intro w5 hH
        change Hp _ _ _ [_, _, _] at hH
        repeat (first | refine WS_seq ?_ | refine WS_region ?_ | refine WL_nil ?_ | (refine WL_r (by refine Run_pev rfl) rfl ?_))
        try refine WL_gyes rfl rfl rfl ?_
        refine WL_s (S_call (rended_spec (Rq.rd (hH.at 0 rfl))) rfl rfl ?_)
        rintro v w6 ⟨rfl, rfl⟩
        by_cases hok : okE (evOf n m)
        · have hE : rdE l = some (evOf n m, decide (n % 2 = 1), r2) := by simp [rdE, hr, hr2, hok]
          rw [decide_eq_true hok]
          have hB : Blk w6 b6 92 (evc (evOf n m).1 (evOf n m).2 (decide (n % 2 = 1))).toArray := hH.b 2 rfl
          generalize evOf n m = q at *
          by_cases hb : n % 2 = 1
          · rw [decide_eq_true hb] at hE hB hH
            have hT : tkb 64 s = some (done ++ [q], r2) := by rw [ht]; simp [tkb, hE]
            repeat (first | refine WS_seq ?_ | refine WS_region ?_ | refine WL_nil ?_ | refine WS_skip ?_ | refine WS_false rfl ?_ | refine WL_gyes rfl rfl rfl ?_ | (refine WL_r (by first | refine k_loadA rfl hB rfl (Ty.shp rfl) | refine Run_pev rfl) rfl ?_))
            try refine WL_gyes rfl rfl rfl ?_
            refine WL_s (H_lit (out := (evc q.1 q.2 true)) hH (Ty.sle rfl) (Ty.zer rfl) rfl rfl rfl (by decide) rfl ?_)
            try clear hH
            intro _ b29 hH
            change Hp _ _ _ [_, _, _, _] at hH
            skip
            refine WL_s (H_append 1 hH rfl (Ty.sle rfl) (Ty.zer rfl) rfl (Ty.byt rfl) (by decide) rfl rfl ((hH.b 3 rfl).sl0) rfl (evc_one _ _ _) (by omega) (by simp only [maxLen]; omega) rfl ?_)
            clear hH
            intro w7 a7 c7 hH
            change Hp _ _ _ [_, _, _, _] at hH
            rw [evF_end] at hH
            have hB2 : Blk w7 b6 92 (evc q.1 q.2 true).toArray := hH.b 2 rfl
            replace hH := hH.take 2
            change Hp _ _ _ [_, _] at hH
            repeat (first | refine WS_seq ?_ | refine WS_region ?_ | refine WL_nil ?_ | refine WS_true rfl ?_ | (refine WL_r (by first | refine k_fa rfl (Ty.fld rfl rfl) | refine k_loadb rfl hB2 rfl (Ty.shp rfl) | refine Run_pev rfl | apply k_makeFunc) rfl ?_))
            have hln : done.length + 1 = (done ++ [q]).length := by simp
            rw [hln] at hH ⊢
            exact WS_ret1 Try.func25 rfl (.inl ⟨_, _, _, _, hT, rfl, hH⟩)
          · rw [decide_eq_false hb] at hE hB hH
            have hT : tkb 64 s = (tkb (64 - (done ++ [q]).length) r2).map (fun x => (done ++ [q] ++ x.1, x.2)) := by
              rw [ht, show 64 - (done ++ [q]).length = k by simp; omega]
              simp only [tkb, hE, Bool.false_eq_true, if_false, Option.map_map]
              congr 1
              funext x
              simp
            repeat (first | refine WS_seq ?_ | refine WS_region ?_ | refine WL_nil ?_ | refine WS_skip ?_ | refine WS_false rfl ?_ | refine WL_gyes rfl rfl rfl ?_ | (refine WL_r (by first | refine k_loadA rfl hB rfl (Ty.shp rfl) | refine Run_pev rfl) rfl ?_))
            try refine WL_gyes rfl rfl rfl ?_
            refine WL_s (H_lit (out := (evc q.1 q.2 false)) hH (Ty.sle rfl) (Ty.zer rfl) rfl rfl rfl (by decide) rfl ?_)
            try clear hH
            intro _ b29 hH
            change Hp _ _ _ [_, _, _, _] at hH
            skip
            refine WL_s (H_append 1 hH rfl (Ty.sle rfl) (Ty.zer rfl) rfl (Ty.byt rfl) (by decide) rfl rfl ((hH.b 3 rfl).sl0) rfl (evc_one _ _ _) (by omega) (by simp only [maxLen]; omega) rfl ?_)
            clear hH
            intro w7 a7 c7 hH
            change Hp _ _ _ [_, _, _, _] at hH
            rw [show evF done ++ evc q.1 q.2 false = evF (done ++ [q]) by simp [evF]] at hH
            have hB2 : Blk w7 b6 92 (evc q.1 q.2 false).toArray := hH.b 2 rfl
            replace hH := hH.take 2
            change Hp _ _ _ [_, _] at hH
            repeat (first | refine WS_seq ?_ | refine WS_region ?_ | refine WL_nil ?_ | refine WS_inBlock ?_ | refine WS_skip ?_ | refine WS_false rfl ?_ | (refine WL_r (by first | refine k_fa rfl (Ty.fld rfl rfl) | refine k_loadb rfl hB2 rfl (Ty.shp rfl) | refine Run_pev rfl | apply k_makeFunc) rfl ?_))
            have hln : done.length + 1 = (done ++ [q]).length := by simp
            rw [hln] at hH
            refine IH (done ++ [q], r2, a7, c7) _ _ ?_ ?_ ?_ ?_
            · simp; omega
            · exact ⟨by simp; rfl, trivial⟩
            · exact (by repeat (first | with_reducible apply Agr.refl | refine Agr.upd rfl ?_ | refine Agr.updL rfl ?_ | refine Agr.mrg rfl ?_))
            · exact ⟨by simp; omega, hT, hH⟩
        · have hE : rdE l = none := by simp [rdE, hr, hr2, hok]
          rw [decide_eq_false hok]
          repeat (first | refine WS_seq ?_ | refine WS_region ?_ | refine WL_nil ?_ | refine WS_exit rfl ?_ | refine WS_true rfl ?_ | refine WL_gyes rfl rfl rfl ?_ | (refine WL_r (by refine Run_pev rfl) rfl ?_))
          try refine WL_gyes rfl rfl rfl ?_
          refine WL_s (S_call (rfailQ (hH.at 0 rfl)) rfl rfl ?_)
          rintro v w9 ⟨rfl, hU⟩
          replace hH := hH.up 0 rfl hU
          change Hp _ _ _ [_, _, _] at hH
          repeat (first | refine WS_seq ?_ | refine WS_region ?_ | refine WL_nil ?_ | (refine WL_r (by first | refine Run_pev rfl | apply k_makeFunc) rfl ?_))
          exact WS_ret1 Try.func25 rfl (.inr ⟨by rw [ht]; simp [tkb, hE], rfl, _, rfl, hH.upd 0 rfl⟩)
      · replace hH := hH.up 0 rfl hU
        clear hU
        change Hp _ _ _ [_, _] at hH
        have hE : rdE l = none := by simp [rdE, hr, show rtk r = none from hr2]
        repeat (first | refine WS_seq ?_ | refine WS_region ?_ | refine WL_nil ?_ | (refine WL_r (by refine Run_pev rfl) rfl ?_))
        try refine WL_gyes rfl rfl rfl ?_
        refine WL_s (S_call (event_spec (n := n) (m := 0) (by omega) (by omega)) rfl rfl ?_)
        rintro v w3 ⟨rfl, hE⟩
        replace hH := hH.ext0 hE
        clear hE
        repeat ((refine WL_r (by first | refine Run_pev rfl | refine k_extract rfl rfl) rfl ?_))
        refine WL_s (H_alloc hH (Ty.zer rfl) rfl ?_)
        try clear hH
        intro w4 b6 hH
        change Hp _ _ _ [_, _, _] at hH
        refine WL_s (H_storeA 2 hH rfl rfl rfl rfl rfl (evc_one _ _ _) (Ty.shp rfl) ?_)
        clear hH
        intro w5 hH
        change Hp _ _ _ [_, _, _] at hH
        repeat (first | refine WS_seq ?_ | refine WS_region ?_ | refine WL_nil ?_ | (refine WL_r (by refine Run_pev rfl) rfl ?_))
        try refine WL_gyes rfl rfl rfl ?_
        refine WL_s (S_call (rended_spec (Rq.rd (hH.at 0 rfl))) rfl rfl ?_)
        rintro v w6 ⟨rfl, rfl⟩
        rw [hs']
        repeat (first | refine WS_seq ?_ | refine WS_region ?_ | refine WL_nil ?_ | refine WS_exit rfl ?_ | refine WS_true rfl ?_ | refine WL_gno rfl rfl rfl rfl rfl ?_ | (refine WL_r (by refine Run_pev rfl) rfl ?_))
        try refine WL_gyes rfl rfl rfl ?_
        refine WL_s (S_call (rfailQ (hH.at 0 rfl)) rfl rfl ?_)
        rintro v w9 ⟨rfl, hU⟩
        replace hH := hH.up 0 rfl hU
        change Hp _ _ _ [_, _, _] at hH
        repeat (first | refine WS_seq ?_ | refine WS_region ?_ | refine WL_nil ?_ | (refine WL_r (by first | refine Run_pev rfl | apply k_makeFunc) rfl ?_))
        exact WS_ret1 Try.func25 rfl (.inr ⟨by rw [ht]; simp [tkb, hE], rfl, _, rfl, hH.upd 0 rfl⟩)
    · replace hH := hH.up 0 rfl hU
      clear hU
      change Hp _ _ _ [_, _] at hH
      have hE : rdE l = none := by simp [rdE, show rtk l = none from hr]
      repeat ((refine WL_r (by refine Run_pev rfl) rfl ?_))
      try refine WL_gyes rfl rfl rfl ?_
      refine WL_s (S_call (rtakeQ (hH.at 0 rfl)) rfl rfl ?_)
      rintro v w2 hT
      rcases hT with ⟨m, r2, hr2, rfl, hU⟩ | ⟨hr2, rfl, s2, hs2, hU⟩
      · rw [rtS, hs'] at hr2
        cases hr2
      · replace hH := hH.up 0 rfl hU
        clear hU
        change Hp _ _ _ [_, _] at hH
        repeat (first | refine WS_seq ?_ | refine WS_region ?_ | refine WL_nil ?_ | (refine WL_r (by refine Run_pev rfl) rfl ?_))
        try refine WL_gyes rfl rfl rfl ?_
        refine WL_s (S_call (event_spec (n := 0) (m := 0) (by omega) (by omega)) rfl rfl ?_)
        rintro v w3 ⟨rfl, hE⟩
        replace hH := hH.ext0 hE
        clear hE
        repeat ((refine WL_r (by first | refine Run_pev rfl | refine k_extract rfl rfl) rfl ?_))
        refine WL_s (H_alloc hH (Ty.zer rfl) rfl ?_)
        try clear hH
        intro w4 b6 hH
        change Hp _ _ _ [_, _, _] at hH
        refine WL_s (H_storeA 2 hH rfl rfl rfl rfl rfl (evc_one _ _ _) (Ty.shp rfl) ?_)
        clear hH
        intro w5 hH
        change Hp _ _ _ [_, _, _] at hH
        repeat (first | refine WS_seq ?_ | refine WS_region ?_ | refine WL_nil ?_ | (refine WL_r (by refine Run_pev rfl) rfl ?_))
        try refine WL_gyes rfl rfl rfl ?_
        refine WL_s (S_call (rended_spec (Rq.rd (hH.at 0 rfl))) rfl rfl ?_)
        rintro v w6 ⟨rfl, rfl⟩
        rw [hs2]
        repeat (first | refine WS_seq ?_ | refine WS_region ?_ | refine WL_nil ?_ | refine WS_exit rfl ?_ | refine WS_true rfl ?_ | refine WL_gno rfl rfl rfl rfl rfl ?_ | (refine WL_r (by refine Run_pev rfl) rfl ?_))
        try refine WL_gyes rfl rfl rfl ?_
        refine WL_s (S_call (rfailQ (hH.at 0 rfl)) rfl rfl ?_)
        rintro v w9 ⟨rfl, hU⟩
        replace hH := hH.up 0 rfl hU
        change Hp _ _ _ [_, _, _] at hH
        repeat (first | refine WS_seq ?_ | refine WS_region ?_ | refine WL_nil ?_ | (refine WL_r (by first | refine Run_pev rfl | apply k_makeFunc) rfl ?_))
        exact WS_ret1 Try.func25 rfl (.inr ⟨by rw [ht]; simp [tkb, hE], rfl, _, rfl, hH.upd 0 rfl⟩)
  · have h0 : 64 - done.length = 0 := by omega
    rw [h0] at ht
    repeat (first | refine WS_seq ?_ | refine WS_region ?_ | refine WL_nil ?_ | refine WS_exit rfl ?_ | refine WS_no rfl (by omega) ?_ | (refine WL_r (by first | refine Run_pev rfl | refine k_len rfl (Ty.isl rfl)) rfl ?_))
    try refine WL_gyes rfl rfl rfl ?_
    refine WL_s (S_call (rfailQ (hH.at 0 rfl)) rfl rfl ?_)
    rintro v w9 ⟨rfl, hU⟩
    replace hH := hH.up 0 rfl hU
    change Hp _ _ _ [_, _] at hH
    repeat (first | refine WS_seq ?_ | refine WS_region ?_ | refine WL_nil ?_ | (refine WL_r (by first | refine Run_pev rfl | apply k_makeFunc) rfl ?_))
    exact WS_ret1 Try.func25 rfl (.inr ⟨by rw [ht]; simp [tkb], rfl, _, rfl, hH.upd 0 rfl⟩)
/-- The events, the last one first. -/
theorem turned2_spec {n0 c0 : Nat} {a0 : Option Addr} {l : List ((Nat × Int) × Bool)} {w : World} (hS : SlA w a0 (evM l)) (hn : l.length = n0) (h64 : n0 ≤ 64) : Does Try.prog 62 #[.slice a0 n0 c0] w fun v w' => ∃ a1 c1, v = .slice a1 n0 c1 ∧ New (Re a1 n0 c1 (evM l.reverse)) w w' := by
  subst hn
  refine Does_of (args := [_]) Try.func62 rfl rfl Try.ntmps62 rfl ?_
  have hH := (Hp.start w).nu (New.nilO (e := 92) (sz := 3))
  repeat (first | refine WS_seq ?_ | refine WS_region ?_ | refine WL_nil ?_ | refine WS_block ?_ | (refine WL_r (by first | refine Run_pev rfl | refine k_sub64 rfl rfl (by omega) | refine k_len rfl (Ty.isl rfl) | apply k_makeFunc) rfl ?_))
  refine WS_loop (G := (Nat) × (Option Addr) × (Nat)) (fun | (i, ao, co) => l.length - i) 524056 (fun | (i, ao, co) => [(3, .slice ao i co), (4, .int .i64 ((l.length : Int) - 1 - i))]) (fun | (i, ao, co), w' => i ≤ l.length ∧ Hp [] w w' [Re ao i co (evM (l.reverse.take i))]) (0, none, 0) ⟨rfl, congrArg (Value.int .i64) (by omega), trivial⟩ ⟨by omega, hH⟩ ?_
  rintro ⟨i, ao, co⟩ w' σ ⟨hi, hH⟩ IH
  show WS _ _ _ _ _ (updL [(3, .slice ao i co), (4, .int .i64 ((l.length : Int) - 1 - i))] _) _
  by_cases hlt : i < l.length
  · have hj : l.length - 1 - i < l.length := by omega
    have hat := evM_at l (l.length - 1 - i) hj
    have hrv : l.reverse.take (i + 1) = l.reverse.take i ++ [l[l.length - 1 - i]] := by
      rw [List.take_succ_eq_append_getElem (by simpa using hlt), List.getElem_reverse]
    generalize l[l.length - 1 - i] = q at *
    have hji : ((l.length : Int) - 1 - i).toNat = l.length - 1 - i := by omega
    rw [← hji] at hat
    have hS1 := hH.old hS
    have hle := evM_len l
    repeat (first | refine WS_seq ?_ | refine WS_region ?_ | refine WL_nil ?_ | refine WS_block ?_ | refine WS_skip ?_ | refine WS_yes rfl (by omega) ?_ | (refine WL_r (by first | refine k_ix rfl rfl hS1 hle (by decide) (Ty.sle rfl) (by omega) | refine k_loadC rfl hS1 hat rfl (Ty.shp rfl) | refine Run_pev rfl) rfl ?_))
    try refine WL_gyes rfl rfl rfl ?_
    refine WL_s (H_lit (out := (evc q.1.1 q.1.2 q.2)) hH (Ty.sle rfl) (Ty.zer rfl) rfl rfl rfl (by decide) rfl ?_)
    try clear hH
    intro _ b29 hH
    change Hp _ _ _ [_, _] at hH
    skip
    refine WL_s (H_append 0 hH rfl (Ty.sle rfl) (Ty.zer rfl) rfl (Ty.byt rfl) (by decide) rfl rfl ((hH.b 1 rfl).sl0) rfl (evc_one _ _ _) (by omega) (by simp only [maxLen]; omega) rfl ?_)
    clear hH
    intro w7 a7 c7 hH
    replace hH := hH.take 1
    change Hp _ _ _ [_] at hH
    have e1 : evM (l.reverse.take i) ++ evc q.1.1 q.1.2 q.2 = evM (l.reverse.take (i + 1)) := by rw [hrv, evM_app]; simp [evM]
    rw [e1] at hH
    repeat (first | refine WS_region ?_ | refine WL_nil ?_ | refine WS_inBlock ?_ | (refine WL_r (by first | refine Run_pev rfl | refine k_sub64 rfl rfl (by omega) | apply k_makeFunc) rfl ?_))
    refine IH (i + 1, a7, c7) _ _ ?_ ?_ ?_ ?_
    · simp only; omega
    · exact ⟨rfl, congrArg (Value.int .i64) (by omega), trivial⟩
    · exact (by repeat (first | with_reducible apply Agr.refl | refine Agr.upd rfl ?_ | refine Agr.updL rfl ?_ | refine Agr.mrg rfl ?_))
    · exact ⟨by omega, hH⟩
  · obtain rfl : i = l.length := by omega
    rw [List.take_of_length_le (by simp)] at hH
    repeat (first | refine WS_seq ?_ | refine WS_region ?_ | refine WL_nil ?_ | refine WS_exit rfl ?_ | refine WS_no rfl (by omega) ?_ | (refine WL_r (by first | refine Run_pev rfl | apply k_makeFunc) rfl ?_))
    exact WS_ret1 Try.func62 rfl ⟨ao, co, rfl, hH.new1 0 rfl⟩
end Go.Proofs.Ytnamafelcjgjfaa
