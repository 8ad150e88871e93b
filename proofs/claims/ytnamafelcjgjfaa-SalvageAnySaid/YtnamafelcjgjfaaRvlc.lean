/- The walks of the package rvlc: numbers that are written; no condition but sizes of memory. -/
import Derived.Test.YtnamafelcjgjfaaSh
import Derived.Test.YtnamafelcjgjfaaBits2
import Derived.Test.YtnamafelcjgjfaaPRvlc
namespace Go.Proofs.Ytnamafelcjgjfaa
open Go Go.K Go.P Go.RowKit Go.Proofs
theorem k_idxs {P : Program} {ρ : Fr} {w : World} {dst : Option Nat} {ty t : TypeId} {pos : String} {af : Array Edge} {gd : Option (Nat × Bool)} {x y : Operand} {s : ByteArray} {i : Int} {q : IntKind} {b : UInt8} (hx : ev ρ x = .string s) (hy : ev ρ y = .int q i) (ht : isStr P t = true) (h0 : 0 ≤ i) (hb : s[i.toNat]? = some b) :
    Run P ρ ⟨dst, .index t x y, ty, pos, af, gd⟩ w (.int .u8 b.toNat) w := by
  have hu : P.underlying t = some .string := by
    unfold isStr at ht
    split at ht
    · assumption
    · cases ht
  constructor; unfold execOp
  simp [hx, hy, Instr.index, run_underlying hu, asIntOf, h0, hb]
set_option maxRecDepth 100000 in
set_option maxHeartbeats 1000000 in
theorem len64_spec {x : Nat} {w : World} (hx : x < 65536) : Does Try.prog 77 #[.int .u64 x] w fun v w' => v = .int .i64 (blen x) ∧ w' = w := by
  refine Does_of (args := [_]) Try.func77 rfl rfl Try.ntmps77 rfl ?_
  by_cases h : 256 ≤ x
  · have hb := blen_big h
    have hd : x / 2 ^ 8 = x / 256 := rfl
    repeat (first | refine WS_seq ?_ | refine WS_region ?_ | refine WL_nil ?_ | refine WS_skip ?_ | refine WS_yes rfl (by omega) ?_ | refine WS_no rfl (by omega) ?_ | (refine WL_r (by first | refine (k_shr (m := x) (n := 8) rfl rfl (fit64 (by omega))).is (congrArg (fun n : Nat => Value.int .u64 (n : Int)) hd) | refine Run_pev rfl | refine k_add64 rfl rfl (by omega) | refine k_conv8 rfl rfl rfl (by omega)) rfl ?_))
    have htab : (strOf tabL)[((((x / 256 : Nat)) : Int)).toNat]? = some (UInt8.ofNat (blen (x / 256))) := tab_get (x / 256) (by omega)
    have hmod : x / 256 % 256 = x / 256 := by omega
    have hbl := blen_lt (x / 256) (by omega)
    have hu8 : (UInt8.ofNat (blen (x / 256))).toNat = blen (x / 256) := by simp; omega
    repeat (first | refine WL_nil ?_ | (refine WL_r (by first | refine (k_idxs (s := strOf tabL) rfl rfl (Ty.iss rfl) (by omega) htab).is (congrArg (fun n : Nat => Value.int .u8 (n : Int)) hu8) | refine Run_pev rfl | refine k_add64 rfl rfl (by omega) | apply k_makeFunc | refine k_convI rfl rfl rfl (by omega)) rfl ?_))
    refine WS_ret1 Try.func77 rfl ⟨congrArg (Value.int .i64) (by omega), rfl⟩
  · repeat (first | refine WS_seq ?_ | refine WS_region ?_ | refine WL_nil ?_ | refine WS_skip ?_ | refine WS_no rfl (by omega) ?_ | (refine WL_r (by first | refine Run_pev rfl | refine k_conv8 rfl rfl rfl (by omega)) rfl ?_))
    have htab : (strOf tabL)[((((x : Nat)) : Int)).toNat]? = some (UInt8.ofNat (blen (x))) := tab_get (x) (by omega)
    have hmod : x % 256 = x := by omega
    have hbl := blen_lt (x) (by omega)
    have hu8 : (UInt8.ofNat (blen (x))).toNat = blen (x) := by simp; omega
    repeat (first | refine WL_nil ?_ | (refine WL_r (by first | refine (k_idxs (s := strOf tabL) rfl rfl (Ty.iss rfl) (by omega) htab).is (congrArg (fun n : Nat => Value.int .u8 (n : Int)) hu8) | refine Run_pev rfl | refine k_add64 rfl rfl (by omega) | apply k_makeFunc | refine k_convI rfl rfl rfl (by omega)) rfl ?_))
    refine WS_ret1 Try.func77 rfl ⟨congrArg (Value.int .i64) (by omega), rfl⟩
theorem len_spec {x : Nat} {w : World} (hx : x < 65536) : Does Try.prog 75 #[.int .u64 x] w fun v w' => v = .int .i64 (blen x) ∧ w' = w := by
  refine Does_of (args := [_]) Try.func75 rfl rfl Try.ntmps75 rfl ?_
  repeat (first | refine WS_seq ?_ | refine WS_region ?_ | refine WL_nil ?_ | refine WS_skip ?_ | refine WS_false rfl ?_ | (refine WL_r (by refine Run_pev rfl) rfl ?_))
  try refine WL_gyes rfl rfl rfl ?_
  refine WL_s (S_call (len64_spec hx) rfl rfl ?_)
  rintro v w1 ⟨rfl, rfl⟩
  repeat (first | refine WL_nil ?_ | (refine WL_r (by first | refine Run_pev rfl | apply k_makeFunc) rfl ?_))
  exact WS_ret1 Try.func75 rfl ⟨rfl, rfl⟩
/-- May it be a number? -/
def okn (n : Int) : Bool := decide (0 ≤ n ∧ n ≤ 8190)
theorem nrput_spec {n : Int} {w : World} : Does Try.prog 66 #[np, .int .i64 n] w fun v w' => v = .bool false ∧ w' = w := by
  refine Does_of (args := [_, _]) Try.func66 rfl rfl Try.ntmps66 rfl ?_
  repeat (first | refine WS_seq ?_ | refine WS_region ?_ | refine WL_nil ?_ | refine WS_true rfl ?_ | refine WL_gno rfl rfl rfl rfl rfl ?_ | (refine WL_r (by first | refine k_pnil rfl rfl (.inl rfl) ptrW | refine Run_pev rfl | apply k_makeFunc) rfl ?_))
  exact WS_ret1 Try.func66 rfl ⟨rfl, rfl⟩
theorem rput_bad {p : Nat} {n : Int} {w : World} (h : ¬ (0 ≤ n ∧ n ≤ 8190)) : Does Try.prog 66 #[pt p, .int .i64 n] w fun v w' => v = .bool false ∧ w' = w := by
  refine Does_of (args := [_, _]) Try.func66 rfl rfl Try.ntmps66 rfl ?_
  by_cases h0 : n < 0
  · repeat (first | refine WS_seq ?_ | refine WS_region ?_ | refine WL_nil ?_ | refine WS_true rfl ?_ | refine WL_gyes rfl rfl rfl ?_ | refine WL_gno (b := true) rfl rfl (dT (by omega)) rfl rfl ?_ | (refine WL_r (by first | refine k_pnil rfl rfl (.inr rfl) ptrW | refine Run_pev rfl | apply k_makeFunc | refine k_pick_t (dT (by omega)) rfl) rfl ?_))
    exact WS_ret1 Try.func66 rfl ⟨rfl, rfl⟩
  · repeat (first | refine WS_seq ?_ | refine WS_region ?_ | refine WL_nil ?_ | refine WS_yes rfl (by omega) ?_ | refine WL_gyes rfl rfl rfl ?_ | refine WL_gyes rfl rfl (dF (by omega)) ?_ | (refine WL_r (by first | refine k_pnil rfl rfl (.inr rfl) ptrW | refine Run_pev rfl | apply k_makeFunc | refine k_pick_f (dF (by omega)) rfl) rfl ?_))
    exact WS_ret1 Try.func66 rfl ⟨rfl, rfl⟩
set_option maxRecDepth 100000 in
theorem rsize_spec {n : Nat} {w : World} (h : n ≤ 8190) : Does Try.prog 68 #[.int .i64 n] w fun v w' => v = .int .i64 ((rv n).length : Nat) ∧ w' = w := by
  refine Does_of (args := [_]) Try.func68 rfl rfl Try.ntmps68 rfl ?_
  have e : (n : Int) + 1 = ((n + 1 : Nat) : Int) := by omega
  repeat (first | refine WS_seq ?_ | refine WS_region ?_ | refine WL_nil ?_ | refine WS_skip ?_ | refine WS_no rfl (by omega) ?_ | refine WL_gyes rfl rfl rfl ?_ | (refine WL_r (by first | refine (k_add64 (m := (n : Int)) (n := 1) rfl rfl (by omega)).is (congrArg (Value.int .i64) e) | refine Run_pev rfl | refine k_conv64 rfl rfl rfl (by omega)) rfl ?_))
  try refine WL_gyes rfl rfl rfl ?_
  refine WL_s (S_call (len_spec (x := n + 1) (by omega)) rfl rfl ?_)
  rintro v w1 ⟨rfl, rfl⟩
  have hl := rv_len n
  have hp := blen_pos (x := n + 1) (by omega)
  have hb := blen_le (x := n + 1) (m := 16) (by omega)
  repeat (first | refine WL_nil ?_ | (refine WL_r (by first | refine Run_pev rfl | refine k_sub64 rfl rfl (by omega) | refine k_mul64 rfl rfl (by omega) | apply k_makeFunc) rfl ?_))
  exact WS_ret1 Try.func68 rfl ⟨congrArg (Value.int .i64) (by omega), rfl⟩
theorem rsize_bad {n : Int} {w : World} (h : ¬ (0 ≤ n ∧ n ≤ 8190)) : Does Try.prog 68 #[.int .i64 n] w fun v w' => v = .int .i64 0 ∧ w' = w := by
  refine Does_of (args := [_]) Try.func68 rfl rfl Try.ntmps68 rfl ?_
  by_cases h0 : n < 0
  · repeat (first | refine WS_seq ?_ | refine WS_region ?_ | refine WL_nil ?_ | refine WS_true rfl ?_ | refine WL_gno (b := true) rfl rfl (dT (by omega)) rfl rfl ?_ | (refine WL_r (by first | refine Run_pev rfl | apply k_makeFunc | refine k_pick_t (dT (by omega)) rfl) rfl ?_))
    exact WS_ret1 Try.func68 rfl ⟨rfl, rfl⟩
  · repeat (first | refine WS_seq ?_ | refine WS_region ?_ | refine WL_nil ?_ | refine WS_yes rfl (by omega) ?_ | refine WL_gyes rfl rfl (dF (by omega)) ?_ | (refine WL_r (by first | refine Run_pev rfl | apply k_makeFunc | refine k_pick_f (dF (by omega)) rfl) rfl ?_))
    exact WS_ret1 Try.func68 rfl ⟨rfl, rfl⟩
theorem flat2_len : ∀ (l : List Bool), (l.flatMap fun d => [d, true]).length = 2 * l.length
  | [] => rfl
  | d :: l => by rw [List.flatMap_cons, List.length_append, flat2_len l]; simp; omega
/-- What stands after i digits of D. -/
theorem rv_step {n i D : Nat} (hi : i < D) : rpart (nb (n + 1) D) i ++ [(n + 1).testBit (D - 1 - i)] ++ [true] = rpart (nb (n + 1) D) (i + 1) := by
  unfold rpart
  rw [List.take_succ_eq_append_getElem (by rw [nb_len]; exact hi), List.flatMap_append]
  have h := nb_get (n := n + 1) hi
  rw [List.getElem?_eq_getElem (by rw [nb_len]; exact hi)] at h
  rw [Option.some.inj h]
  simp
theorem rv_last {n D : Nat} (hD : 0 < D) : rpart (nb (n + 1) D) (D - 1) ++ [(n + 1).testBit 0] ++ [false] = inter (nb (n + 1) D) := by
  have hne : nb (n + 1) D ≠ [] := fun h => by have := nb_len (n + 1) D; rw [h] at this; simp at this; omega
  rw [inter_eq _ hne, nb_len]
  have h := nb_get (n := n + 1) (s := D) (i := D - 1) (by omega)
  rw [show D - 1 - (D - 1) = 0 by omega] at h
  have hl : (nb (n + 1) D).getLastD false = (n + 1).testBit 0 := by
    rw [List.getLastD_eq_getLast?, List.getLast?_eq_getElem?, nb_len, h]; rfl
  rw [hl]; simp
theorem bitn (x k : Nat) : (x / 2 ^ k &&& 1) = (x.testBit k).toNat := by
  rw [Nat.and_one_is_mod, Nat.testBit_eq_decide_div_mod_eq]
  have := Nat.mod_two_eq_zero_or_one (x / 2 ^ k)
  rcases this with h | h <;> simp [h]
set_option maxRecDepth 100000 in
set_option maxHeartbeats 2000000 in
theorem rput_spec {p n c : Nat} {a : Option Addr} {bs : List Bool} {w : World} (hn : n ≤ 8190) (hbl : bs.length ≤ 1000000000) (hR : (Rw p a c bs).holds w) :
    Does Try.prog 66 #[pt p, .int .i64 n] w fun v w' => v = .bool true ∧ ∃ a' c', Upd (Rw p a c bs) (Rw p a' c' (bs ++ rv n)) w w' := by
  refine Does_of (args := [_, _]) Try.func66 rfl rfl Try.ntmps66 rfl ?_
  unfold rv
  by_cases h0 : n = 0
  · subst h0
    repeat (first | refine WS_seq ?_ | refine WS_region ?_ | refine WL_nil ?_ | refine WS_skip ?_ | refine WS_true rfl ?_ | refine WS_false rfl ?_ | refine WL_gyes rfl rfl rfl ?_ | (refine WL_r (by first | refine k_pnil rfl rfl (.inr rfl) ptrW | refine Run_pev rfl) rfl ?_))
    try refine WL_gyes rfl rfl rfl ?_
    refine WL_s (S_call (wput_spec (n := 1) (s := 1) (by decide) (by decide) (by omega) hR) rfl rfl ?_)
    rintro v w1 ⟨rfl, a', c', hU⟩
    repeat (first | refine WS_seq ?_ | refine WS_region ?_ | refine WL_nil ?_ | (refine WL_r (by first | refine Run_pev rfl | apply k_makeFunc) rfl ?_))
    exact WS_ret1 Try.func66 rfl ⟨rfl, a', c', hU⟩
  rw [if_neg h0]
  have hp := blen_pos (x := n + 1) (by omega)
  have hb := blen_le (x := n + 1) (m := 13) (by omega)
  have hb2 : 1 < blen (n + 1) := by
    have := blen_up (x := n + 1)
    rcases Nat.lt_or_ge 1 (blen (n + 1)) with h | h
    · exact h
    · have : 2 ^ blen (n + 1) ≤ 2 ^ 1 := Nat.pow_le_pow_right (by decide) h
      omega
  repeat (first | refine WS_seq ?_ | refine WS_region ?_ | refine WL_nil ?_ | refine WS_skip ?_ | refine WS_no rfl (by omega) ?_ | refine WL_gyes rfl rfl rfl ?_ | (refine WL_r (by first | refine k_pnil rfl rfl (.inr rfl) ptrW | refine Run_pev rfl) rfl ?_))
  try refine WL_gyes rfl rfl rfl ?_
  refine WL_s (S_call (wput_spec (n := 0) (s := 1) (by decide) (by decide) (by omega) hR) rfl rfl ?_)
  rintro v w1 ⟨rfl, a1, c1, hU⟩
  have e : (n : Int) + 1 = ((n + 1 : Nat) : Int) := by omega
  repeat (first | refine WS_seq ?_ | refine WS_region ?_ | refine WL_nil ?_ | (refine WL_r (by first | refine (k_add64 (m := (n : Int)) (n := 1) rfl rfl (by omega)).is (congrArg (Value.int .i64) e) | refine Run_pev rfl | refine k_conv64 rfl rfl rfl (by omega)) rfl ?_))
  try refine WL_gyes rfl rfl rfl ?_
  refine WL_s (S_call (len_spec (x := n + 1) (by omega)) rfl rfl ?_)
  rintro v w2 ⟨rfl, rfl⟩
  obtain ⟨D, hD⟩ : ∃ D, blen (n + 1) = D + 1 := ⟨blen (n + 1) - 1, by omega⟩
  rw [hD]
  repeat (first | refine WS_seq ?_ | refine WS_region ?_ | refine WL_nil ?_ | refine WS_block ?_ | (refine WL_r (by first | refine Run_pev rfl | refine k_sub64 rfl rfl (by omega) | apply k_makeFunc) rfl ?_))
  refine WS_loop (G := (Nat) × (Option Addr) × (Nat)) (fun | (i, a2, c2) => D - i) 70367670435904 (fun | (i, a2, c2) => [(6, .int .i64 ((D : Int) - 1 - i))]) (fun | (i, a2, c2), w' => i ≤ D ∧ Upd (Rw p a c bs) (Rw p a2 c2 (bs ++ (false :: if i = D then inter (nb (n + 1) D) else rpart (nb (n + 1) D) i))) w w') (0, a1, c1) ⟨congrArg (Value.int .i64) (by omega), trivial⟩ ⟨by omega, by rw [if_neg (by omega)]; exact hU⟩ ?_
  rintro ⟨i, a2, c2⟩ w3 σ ⟨hi, hU3⟩ IH
  show WS _ _ _ _ _ (updL [(6, .int .i64 ((D : Int) - 1 - i))] _) _
  by_cases hlt : i < D
  · rw [if_neg (by omega)] at hU3
    have hk : (D : Int) - 1 - i = ((D - 1 - i : Nat) : Int) := by omega
    rw [hk]
    have hbn := bitn (n + 1) (D - 1 - i)
    have hb1 : ((n + 1).testBit (D - 1 - i)).toNat < 18446744073709551616 := by cases (n + 1).testBit (D - 1 - i) <;> decide
    have hq : (n + 1) / 2 ^ (D - 1 - i) < 18446744073709551616 := Nat.lt_of_le_of_lt (Nat.div_le_self _ _) (by omega)
    have hpl : (rpart (nb (n + 1) D) i).length = 2 * i := by
      rw [rpart, flat2_len, List.length_take, nb_len, Nat.min_eq_left (by omega)]
    repeat (first | refine WS_seq ?_ | refine WS_region ?_ | refine WL_nil ?_ | refine WS_block ?_ | refine WS_skip ?_ | refine WS_true rfl ?_ | (refine WL_r (by first | refine (k_add64 (m := (n : Int)) (n := 1) rfl rfl (by omega)).is (congrArg (Value.int .i64) e) | refine k_shr (m := n + 1) rfl rfl (fit64 (by omega)) | refine (k_and (n := 1) rfl rfl (fit64 hq) rfl).is (congrArg (fun n : Nat => Value.int .u64 (n : Int)) hbn) | refine Run_pev rfl | refine k_conv64 rfl rfl rfl (by omega)) rfl ?_))
    try refine WL_gyes rfl rfl rfl ?_
    refine WL_s (S_call (wput_spec (s := 1) hb1 (by decide) (by simp [hpl]; omega) hU3.holds) rfl rfl ?_)
    rintro v w4 ⟨rfl, a4, c4, hU4⟩
    rw [nb1] at hU4
    repeat (first | refine WS_region ?_ | refine WL_nil ?_ | (refine WL_r (by refine Run_pev rfl) rfl ?_))
    try refine WL_gyes rfl rfl rfl ?_
    refine WL_s (S_call (wflag_spec (by simp [hpl]; omega) hU4.holds) rfl rfl ?_)
    rintro v w5 ⟨rfl, a5, c5, hU5⟩
    have hU6 := (hU3.trans hU4).trans hU5
    have e3 : ∀ (x y : List Bool) (b d : Bool), ((x ++ (false :: y)) ++ [b]) ++ [d] = x ++ (false :: (y ++ [b] ++ [d])) := fun x y b d => by simp
    rw [e3] at hU6
    repeat (first | refine WS_region ?_ | refine WL_nil ?_ | refine WS_inBlock ?_ | (refine WL_r (by first | refine Run_pev rfl | refine k_sub64 rfl rfl (by omega) | apply k_makeFunc) rfl ?_))
    by_cases hl : i + 1 = D
    · have hd0 : decide ((0 : Int) < ((D - 1 - i : Nat) : Int)) = false := decide_eq_false (by omega)
      try dsimp only at hU6
      rw [hd0] at hU6
      have hi0 : D - 1 - i = 0 := by omega
      have hi1 : i = D - 1 := by omega
      have hv := rv_last (n := n) (D := D) (by omega)
      rw [hi0, hi1] at hU6
      rw [hv] at hU6
      refine IH (i + 1, a5, c5) _ _ ?_ ?_ ?_ ?_
      · simp only; omega
      · exact ⟨congrArg (Value.int .i64) (by omega), trivial⟩
      · exact (by repeat (first | with_reducible apply Agr.refl | refine Agr.upd rfl ?_ | refine Agr.updL rfl ?_ | refine Agr.mrg rfl ?_))
      · exact ⟨by omega, by rw [if_pos hl]; exact hU6⟩
    · have hd0 : decide ((0 : Int) < ((D - 1 - i : Nat) : Int)) = true := decide_eq_true (by omega)
      try dsimp only at hU6
      rw [hd0, rv_step hlt] at hU6
      refine IH (i + 1, a5, c5) _ _ ?_ ?_ ?_ ?_
      · simp only; omega
      · exact ⟨congrArg (Value.int .i64) (by omega), trivial⟩
      · exact (by repeat (first | with_reducible apply Agr.refl | refine Agr.upd rfl ?_ | refine Agr.updL rfl ?_ | refine Agr.mrg rfl ?_))
      · exact ⟨by omega, by rw [if_neg hl]; exact hU6⟩
  · obtain rfl : i = D := by omega
    rw [if_pos rfl] at hU3
    repeat (first | refine WS_seq ?_ | refine WS_region ?_ | refine WL_nil ?_ | refine WS_exit rfl ?_ | refine WS_no rfl (by omega) ?_ | (refine WL_r (by first | refine Run_pev rfl | apply k_makeFunc) rfl ?_))
    exact WS_ret1 Try.func66 rfl ⟨rfl, a2, c2, by simpa using hU3⟩
end Go.Proofs.Ytnamafelcjgjfaa
