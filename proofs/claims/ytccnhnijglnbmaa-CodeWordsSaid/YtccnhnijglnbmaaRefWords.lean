/- The walk of the reference's words of a code; rows of bits in memory; no condition but sizes of memory. -/
import Derived.Test.YtccnhnijglnbmaaSh
import Derived.Test.YtccnhnijglnbmaaCodeRw
import Derived.Test.YtccnhnijglnbmaaRef01
import Derived.Test.YtccnhnijglnbmaaBq
import Derived.Test.YtccnhnijglnbmaaK19
namespace Go.Proofs.Ytccnhnijglnbmaa
open Go Go.K Go.P Go.RowKit Go.Proofs
/-- Bits in memory: where they lie, and they. -/
abbrev RW := Option Addr × Nat × List Bool
def rwv (x : RW) : Value := .slice x.1 x.2.2.length x.2.1
def rws (X : List RW) : List Value := X.map rwv
/-- Many rows of bits, that are read. -/
def Rz (X : List RW) : Res := ⟨X.flatMap fun x => if x.2.2 = [] then [] else blk x.1, fun w => ∀ x ∈ X, SlA w x.1 (bq x.2.2), fun {S w w'} h hE hS x hx => by
    by_cases h0 : x.2.2 = []
    · rw [h0]; exact .nil
    · exact (h x hx).ext hE (fun s hs hb => hS s hs (List.mem_flatMap.2 ⟨x, hx, by rw [if_neg h0]; exact hb⟩)), fun {w} h s hs => by
    obtain ⟨x, hx, hb⟩ := List.mem_flatMap.1 hs
    by_cases h0 : x.2.2 = []
    · rw [if_pos h0] at hb; cases hb
    · rw [if_neg h0] at hb
      refine (h x hx).lt (fun e => ?_) s hb
      have := bq_len x.2.2
      rw [e] at this
      exact h0 (List.eq_nil_of_length_eq_zero (by simpa using this.symm))⟩
/-- A row that is put into the list. -/
theorem Rz.put {S : List Nat} {W w : World} {H : List Res} {X Y : List RW} {a : Option Addr} {n c : Nat} {ps : List Bool} (i j : Nat) (h : Hp S W w H) (hi : H[i]? = some (Rz X)) (hj : H[j]? = some (Ro 5 1 a n c (bq ps))) (hne : i ≠ j)
    (hY : ∀ y ∈ Y, y ∈ X ∨ y = (a, c, ps)) : Hp S W w ((H.set i (Rz Y)).eraseIdx j) := by
  have h1 := h.merge i j hi hj hne
  have hlt : i < H.length := (List.getElem?_eq_some_iff.1 hi).1
  obtain ⟨i', hi', he⟩ : ∃ i', ((H.set i (sep (Rz X) (Ro 5 1 a n c (bq ps)))).eraseIdx j)[i']? = some (sep (Rz X) (Ro 5 1 a n c (bq ps))) ∧ (((H.set i (sep (Rz X) (Ro 5 1 a n c (bq ps)))).eraseIdx j).set i' (Rz Y)) = (H.set i (Rz Y)).eraseIdx j := by
    by_cases hij : i < j
    · refine ⟨i, ?_, ?_⟩
      · rw [List.getElem?_eraseIdx_of_lt hij, List.getElem?_set_self hlt]
      · rw [List.eraseIdx_set_gt hij, List.eraseIdx_set_gt hij, List.set_set]
    · have hji : j < i := by omega
      refine ⟨i - 1, ?_, ?_⟩
      · rw [List.getElem?_eraseIdx_of_ge (by omega), Nat.sub_add_cancel (by omega), List.getElem?_set_self hlt]
      · rw [List.eraseIdx_set_lt hji, List.eraseIdx_set_lt hji, List.set_set]
  have h2 := h1.as i' hi' (r' := Rz Y) (fun s hs => by
      obtain ⟨y, hy, hb⟩ := List.mem_flatMap.1 hs
      rcases hY y hy with h3 | rfl
      · exact List.mem_append.2 (.inl (List.mem_flatMap.2 ⟨y, h3, hb⟩))
      · refine List.mem_append.2 (.inr ?_)
        by_cases h0 : ps = []
        · simp only [h0, if_pos] at hb; cases hb
        · simp only [h0, if_false] at hb
          exact hb)
    (fun hh y hy => by
      rcases hY y hy with h3 | rfl
      · exact hh.1 y h3
      · exact Own.sl hh.2.1)
  rw [he] at h2
  exact h2
def zrw (m : Nat) : List RW := List.replicate m (none, 0, [])
theorem Rz.zero {w : World} (m : Nat) : New (Rz (zrw m)) w w := ⟨.refl, fun x hx => by rw [(List.mem_replicate.1 hx).2]; exact .nil, fun s hs => by
  obtain ⟨x, hx, hb⟩ := List.mem_flatMap.1 hs
  rw [(List.mem_replicate.1 hx).2] at hb
  simp at hb⟩
theorem rws_zero (m : Nat) : rws (zrw m) = List.replicate m (.slice none 0 0) := by simp [rws, zrw, rwv]
theorem rws_set (X : List RW) (i : Nat) (x : RW) : (rws X).set i (rwv x) = rws (X.set i x) := by simp [rws, List.map_set]
theorem rws_len (X : List RW) : (rws X).length = X.length := by simp [rws]
theorem rws_at (X : List RW) {i : Nat} (h : i < X.length) : (rws X)[i]? = some (rwv X[i]) := by simp [rws, h]
/-- What the reference's Words answers. -/
def RWd (sz : List Nat) (v : Value) (w w' : World) : Prop :=
  (codeOf sz = none ∧ v = .slice none 0 0 ∧ Ext [] w w') ∨ ∃ A X b, codeOf sz = some A ∧ X.length = sz.length ∧ (∀ a ∈ A, ∃ x, X[a.1]? = some x ∧ x.2.2 = nb a.2.1 a.2.2) ∧ v = .slice (some ⟨b, 0, none⟩) sz.length sz.length ∧ Hp [] w w' [Ro 46 1 (some ⟨b, 0, none⟩) sz.length sz.length (rws X), Rz X]
set_option maxRecDepth 20000 in
set_option maxHeartbeats 8000000 in
theorem rwords_spec {a : Option Addr} {n0 c : Nat} {sz : List Nat} {w : World} (hS : SlA w a (nv sz)) (hn : sz.length = n0) (h64 : n0 ≤ 64) :
    Does Try.prog 14 #[.slice a n0 c] w fun v w' => RWd sz v w w' := by
  subst hn
  refine Does_of (args := [_]) Try.func14 rfl rfl Try.ntmps14 rfl ?_
  have hH := Hp.start w
  have hll : (nv sz).length = sz.length := by simp
  repeat (first | refine WS_seq ?_ | refine WS_region ?_ | refine WL_nil ?_ | (refine WL_r (by first | refine Run_pev rfl | refine k_len rfl (Ty.isl rfl)) rfl ?_))
  refine WL_s (H_make (n := sz.length) hH (Ty.sle rfl) (Ty.zer rfl) (Ty.byt rfl) rfl rfl rfl (by omega) (by omega) (by simp only [maxLen]; omega) rfl ?_)
  clear hH
  intro w2 b hH
  change Hp _ _ _ [_] at hH
  replace hH := (hH.made 0 rfl (by omega)).nu (Rz.zero sz.length)
  change Hp _ _ _ [_, _] at hH
  rw [← rws_zero] at hH
  repeat (first | refine WS_seq ?_ | refine WS_region ?_ | refine WL_nil ?_ | refine WS_block ?_ | (refine WL_r (by first | refine Run_pev rfl | apply k_makeFunc) rfl ?_))
  refine WS_loop (G := (Nat) × (Nat) × (List CE) × (List RW)) (fun | (s, wd, A, X) => 33 - s) 1099511626868 (fun | (s, wd, A, X) => [(4, .int .u64 wd), (5, .int .i64 s)]) (fun | (s, wd, A, X), w' => 1 ≤ s ∧ s ≤ 33 ∧ codeOf sz = cout (czs sz) (33 - s) s wd A ∧ CI sz s 0 (2 * wd) A ∧ X.length = sz.length ∧ (∀ a ∈ A, ∃ x, X[a.1]? = some x ∧ x.2.2 = nb a.2.1 a.2.2) ∧ Hp [] w w' [Ro 46 1 (some ⟨b, 0, none⟩) sz.length sz.length (rws X), Rz X]) (1, 0, [], zrw sz.length) ⟨rfl, rfl, trivial⟩ ⟨by omega, by omega, rfl, CI.zero, by simp [zrw], by simp, hH⟩ ?_
  rintro ⟨s, wd, A, X⟩ u2 σ ⟨hs1, hs33, hco, hci, hXl, hX, hH⟩ IH
  show WS _ _ _ _ _ (updL [(4, .int .u64 wd), (5, .int .i64 s)] _) _
  by_cases hs : s ≤ 32
  · rw [cout_start hs] at hco
    have h2s : 2 ^ s ≤ 2 ^ 32 := Nat.pow_le_pow_right (by decide) hs
    have htop := hci.top
    have hsh : 1 * 2 ^ s % 18446744073709551616 = 2 ^ s := by rw [Nat.mod_eq_of_lt (by omega)]; omega
    obtain ⟨v, hv2⟩ : ∃ v, v = 2 * wd := ⟨_, rfl⟩
    have hw2 : wd * 2 = v := by omega
    rw [← hv2] at hco hci htop
    repeat (first | refine WS_seq ?_ | refine WS_region ?_ | refine WL_nil ?_ | refine WS_block ?_ | refine WS_skip ?_ | refine WS_yes rfl (by omega) ?_ | (refine WL_r (by first | refine (k_mulU (m := wd) (n := 2) rfl rfl (by omega)).is (congrArg (fun n : Nat => Value.int .u64 (n : Int)) hw2) | refine Run_pev rfl | apply k_makeFunc) rfl ?_))
    clear hw2 hv2 htop
    refine WS_loop (G := (Nat) × (Nat) × (List CE) × (List RW)) (fun | (i, wd, A, X) => sz.length - i) 1099511562324 (fun | (i, wd, A, X) => [(4, .int .u64 wd), (6, .int .i64 i)]) (fun | (i, wd, A, X), w' => i ≤ sz.length ∧ codeOf sz = crest sz s i wd A ∧ CI sz s i wd A ∧ X.length = sz.length ∧ (∀ a ∈ A, ∃ x, X[a.1]? = some x ∧ x.2.2 = nb a.2.1 a.2.2) ∧ Hp [] w w' [Ro 46 1 (some ⟨b, 0, none⟩) sz.length sz.length (rws X), Rz X]) (0, v, A, X) ⟨rfl, rfl, trivial⟩ ⟨by omega, hco, hci, hXl, hX, hH⟩ ?_
    rintro ⟨i, wd, A, X⟩ u3 σ ⟨hi, hco, hci, hXl, hX, hH⟩ IH
    show WS _ _ _ _ _ (updL [(4, .int .u64 wd), (6, .int .i64 i)] _) _
    by_cases hlt : i < sz.length
    · have hS2 := hH.old hS
      have hv : (nv sz)[i]? = some (.int .i64 (sz[i] : Nat)) := by simp [nv, hlt]
      have hwtop := hci.top
      by_cases hn : sz[i] = s
      · rw [hn] at hv
        by_cases hw : 2 ^ s ≤ wd
        · rw [crest_none hlt hn hw] at hco
          repeat (first | refine WS_seq ?_ | refine WS_region ?_ | refine WL_nil ?_ | refine WS_block ?_ | refine WS_skip ?_ | refine WS_true rfl ?_ | refine WS_yes rfl (by omega) ?_ | (refine WL_r (by first | refine k_ix1 rfl rfl hS2 hll (Ty.sle rfl) (by omega) | refine k_loads rfl hS2 hv (Ty.shp rfl) | refine (k_shlu (m := 1) (n := s) rfl rfl).is (congrArg (fun n : Nat => Value.int .u64 (n : Int)) hsh) | refine (k_geq (q := .u64) rfl rfl).is (bT (by omega)) | refine (k_eql (q := .i64) rfl rfl).is (bT rfl) | refine Run_pev rfl | refine k_len rfl (Ty.isl rfl) | apply k_makeFunc) rfl ?_))
          exact WS_ret1 Try.func14 rfl (.inl ⟨hco, rfl, hH.ext⟩)
        · rw [crest_eq hlt hn (by omega)] at hco
          have hci2 := hci.put hlt hn hs1 (by omega)
          have hnew := hci.new hlt hn
          repeat (first | refine WS_seq ?_ | refine WS_region ?_ | refine WL_nil ?_ | refine WS_block ?_ | refine WS_skip ?_ | refine WS_true rfl ?_ | refine WS_false rfl ?_ | refine WS_yes rfl (by omega) ?_ | (refine WL_r (by first | refine k_ix1 rfl rfl hS2 hll (Ty.sle rfl) (by omega) | refine k_loads rfl hS2 hv (Ty.shp rfl) | refine (k_shlu (m := 1) (n := s) rfl rfl).is (congrArg (fun n : Nat => Value.int .u64 (n : Int)) hsh) | refine (k_geq (q := .u64) rfl rfl).is (bF (by omega)) | refine (k_eql (q := .i64) rfl rfl).is (bT rfl) | refine Run_pev rfl | refine k_len rfl (Ty.isl rfl)) rfl ?_))
          try refine WL_gyes rfl rfl rfl ?_
          refine WL_s (S_call (rbits_spec (n := wd) (s := s) (by omega) (by omega) (by omega)) rfl rfl ?_)
          rintro v w5 ⟨a5, c5, rfl, hN⟩
          rw [nbits_nb] at hN
          replace hH := hH.nu hN
          clear hN
          change Hp _ _ _ [_, _, _] at hH
          repeat ((refine WL_r (by first | refine k_ix1S rfl rfl (Ty.sle rfl) (by omega) | apply k_makeFunc) rfl ?_))
          refine WL_s (H_storeO 0 (v := rwv (a5, c5, nb wd s)) hH rfl rfl (show Value.slice a5 s c5 = .slice a5 (nb wd s).length c5 by rw [nb_len]) (by omega) rfl (Ty.shp rfl) ?_)
          clear hH
          intro w6 hH
          change Hp _ _ _ [_, _, _] at hH
          rw [show ((i : Nat) : Int).toNat = i from rfl, rws_set] at hH
          replace hH := Rz.put (Y := X.set i (a5, c5, nb wd s)) 1 2 hH rfl rfl (by decide) (fun y hy => by
            rcases List.mem_or_eq_of_mem_set hy with h | h
            · exact .inl h
            · exact .inr h)
          change Hp _ _ _ [_, _] at hH
          have hX2 : ∀ a ∈ A ++ [(i, wd, s)], ∃ x, (X.set i (a5, c5, nb wd s))[a.1]? = some x ∧ x.2.2 = nb a.2.1 a.2.2 := fun a ha => by
            rcases List.mem_append.1 ha with ha | ha
            · rw [List.getElem?_set_ne (Ne.symm (hnew a ha))]; exact hX a ha
            · simp at ha; subst ha
              exact ⟨_, List.getElem?_set_self (by omega), rfl⟩
          repeat (first | refine WS_region ?_ | refine WL_nil ?_ | refine WS_inBlock ?_ | (refine WL_r (by first | refine k_addU (m := wd) (n := 1) rfl rfl (by omega) | refine Run_pev rfl | refine k_add64 rfl rfl (by omega) | apply k_makeFunc) rfl ?_))
          refine IH (i + 1, wd + 1, A ++ [(i, wd, s)], X.set i (a5, c5, nb wd s)) _ _ ?_ ?_ ?_ ?_
          · simp only; omega
          · exact ⟨rfl, rfl, trivial⟩
          · exact (by repeat (first | with_reducible apply Agr.refl | refine Agr.upd rfl ?_ | refine Agr.updL rfl ?_ | refine Agr.mrg rfl ?_))
          · exact ⟨by omega, hco, hci2, by rw [List.length_set]; exact hXl, hX2, hH⟩
      · rw [crest_ne hlt hn] at hco
        have hci2 := hci.skip hlt hn
        repeat (first | refine WS_seq ?_ | refine WS_region ?_ | refine WL_nil ?_ | refine WS_block ?_ | refine WS_inBlock ?_ | refine WS_skip ?_ | refine WS_false rfl ?_ | refine WS_yes rfl (by omega) ?_ | (refine WL_r (by first | refine k_ix1 rfl rfl hS2 hll (Ty.sle rfl) (by omega) | refine k_loads rfl hS2 hv (Ty.shp rfl) | refine (k_eql (q := .i64) rfl rfl).is (bF (by omega)) | refine Run_pev rfl | refine k_add64 rfl rfl (by omega) | refine k_len rfl (Ty.isl rfl) | apply k_makeFunc) rfl ?_))
        refine IH (i + 1, wd, A, X) _ _ ?_ ?_ ?_ ?_
        · simp only; omega
        · exact ⟨rfl, rfl, trivial⟩
        · exact (by repeat (first | with_reducible apply Agr.refl | refine Agr.upd rfl ?_ | refine Agr.updL rfl ?_ | refine Agr.mrg rfl ?_))
        · exact ⟨by omega, hco, hci2, hXl, hX, hH⟩
    obtain rfl : i = sz.length := by omega
    clear IH
    rw [crest_end] at hco
    have hci2 := hci.next (by omega) hs1
    repeat (first | refine WS_seq ?_ | refine WS_region ?_ | refine WL_nil ?_ | refine WS_inBlock ?_ | refine WS_exit rfl ?_ | refine WS_no rfl (by omega) ?_ | (refine WL_r (by first | refine Run_pev rfl | refine k_add64 rfl rfl (by omega) | refine k_len rfl (Ty.isl rfl) | apply k_makeFunc) rfl ?_))
    refine IH (s + 1, wd, A, X) _ _ ?_ ?_ ?_ ?_
    · simp only; omega
    · exact ⟨rfl, rfl, trivial⟩
    · exact (by repeat (first | with_reducible apply Agr.refl | refine Agr.upd rfl ?_ | refine Agr.updL rfl ?_ | refine Agr.mrg rfl ?_))
    · exact ⟨by omega, by omega, by rw [show 33 - (s + 1) = 32 - s by omega]; exact hco, hci2, hXl, hX, hH⟩
  obtain rfl : s = 33 := by omega
  clear IH
  repeat (first | refine WS_seq ?_ | refine WS_region ?_ | refine WL_nil ?_ | refine WS_exit rfl ?_ | refine WS_false rfl ?_ | (refine WL_r (by first | refine Run_pev rfl | apply k_makeFunc) rfl ?_))
  exact WS_ret1 Try.func14 rfl (.inr ⟨A, X, b, hco, hXl, hX, rfl, hH⟩)
end Go.Proofs.Ytccnhnijglnbmaa
