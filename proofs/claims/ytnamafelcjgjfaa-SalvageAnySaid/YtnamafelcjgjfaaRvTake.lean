/- The walks of the package rvlc: numbers that are read, from either end; the reference's number; no condition but sizes of memory. -/
import Derived.Test.YtnamafelcjgjfaaSh
import Derived.Test.YtnamafelcjgjfaaRvlc
namespace Go.Proofs.Ytnamafelcjgjfaa
open Go Go.K Go.P Go.RowKit Go.Proofs
/-- Digits of a reader. -/
def digS (k : Nat) (s : RS) : Option (List Bool × List Bool) := if s.ended then none else dig k s.rest
theorem two_bits (s : RS) : (rbit (rbit s).2).2.ended = true ∨ ∃ d e l, s = ⟨d :: e :: l, false⟩ := by
  obtain ⟨rest, en⟩ := s
  cases en with
  | true => exact .inl rfl
  | false => match rest with
    | [] => exact .inl rfl
    | [d] => exact .inl rfl
    | d :: e :: l => exact .inr ⟨d, e, l, rfl⟩
theorem digS_end {k : Nat} {s : RS} (h : (rbit (rbit s).2).2.ended = true) : digS k s = none := by
  obtain ⟨rest, en⟩ := s
  cases en with
  | true => rfl
  | false => match rest, k with
    | [], 0 => rfl
    | [], _ + 1 => rfl
    | [d], 0 => rfl
    | [d], _ + 1 => rfl
    | d :: e :: l, _ => simp [rbit] at h
/-- What a reader yields: a number, and what is left; or it has ended. -/
def TkR (p : Nat) (a : Option Addr) (c : Nat) (s : RS) (o : Option (Nat × List Bool)) (v : Value) (w w' : World) : Prop :=
  (∃ n r, o = some (n, r) ∧ v = .int .i64 (n : Nat) ∧ Upd (Rd p a c s) (Rd p a c ⟨r, false⟩) w w') ∨ (o = none ∧ v = .int .i64 0 ∧ ∃ s', s'.ended = true ∧ Upd (Rd p a c s) (Rd p a c s') w w')
def TkQ (p : Nat) (a : Option Addr) (c : Nat) (l : List Nat) (e : Nat) (s : RS) (o : Option (Nat × List Bool)) (v : Value) (w w' : World) : Prop :=
  (∃ n r, o = some (n, r) ∧ v = .int .i64 (n : Nat) ∧ Upd (Rq p a c l e s) (Rq p a c l e ⟨r, false⟩) w w') ∨ (o = none ∧ v = .int .i64 0 ∧ ∃ s', s'.ended = true ∧ Upd (Rq p a c l e s) (Rq p a c l e s') w w')
theorem TkQ.r {p c e : Nat} {a : Option Addr} {l : List Nat} {s : RS} {o : Option (Nat × List Bool)} {v : Value} {w w' : World} (h : TkQ p a c l e s o v w w') : TkR p a c s o v w w' := by
  rcases h with ⟨n, r, h1, h2, h3⟩ | ⟨h1, h2, s', h3, h4⟩
  · exact .inl ⟨n, r, h1, h2, Rq.upd h3⟩
  · exact .inr ⟨h1, h2, s', h3, Rq.upd h4⟩
def rtS (s : RS) : Option (Nat × List Bool) := if s.ended then none else rtk s.rest
def rbS (s : RS) : Option (Nat × List Bool) := if s.ended then none else rbk s.rest
theorem rtS_flag (s : RS) : ((rbit s).1 = true ∧ rtS s = some (0, (rbit s).2.rest) ∧ (rbit s).2 = ⟨(rbit s).2.rest, false⟩) ∨ ((rbit s).1 = false ∧ rtS s = (digS 12 (rbit s).2).map fun q => (numB 1 ([] ++ q.1) - 1, q.2)) := by
  obtain ⟨rest, en⟩ := s
  cases en with
  | true => exact .inr ⟨rfl, rfl⟩
  | false => match rest with
    | [] => exact .inr ⟨rfl, rfl⟩
    | true :: l => exact .inl ⟨rfl, rfl, rfl⟩
    | false :: l => exact .inr ⟨rfl, rfl⟩
theorem rbS_flag (s : RS) : ((rbit s).1 = true ∧ rbS s = some (0, (rbit s).2.rest) ∧ (rbit s).2 = ⟨(rbit s).2.rest, false⟩) ∨ ((rbit s).1 = false ∧ rbS s = (digS 12 (rbit s).2).map fun q => (numB 1 ([] ++ q.1).reverse - 1, q.2)) := by
  obtain ⟨rest, en⟩ := s
  cases en with
  | true => exact .inr ⟨rfl, rfl⟩
  | false => match rest with
    | [] => exact .inr ⟨rfl, rfl⟩
    | true :: l => exact .inl ⟨rfl, rfl, rfl⟩
    | false :: l => exact .inr ⟨rfl, rfl⟩
set_option maxHeartbeats 2000000 in
theorem rtakeQ {p c eb : Nat} {a : Option Addr} {by0 : List Nat} {s : RS} {w : World} (hR : (Rq p a c by0 eb s).holds w) : Does Try.prog 57 #[pt p] w fun v w' => TkQ p a c by0 eb s (rtS s) v w w' := by
  refine Does_of (args := [_]) Try.func57 rfl rfl Try.ntmps57 rfl ?_
  repeat (first | refine WS_seq ?_ | refine WS_region ?_ | refine WL_nil ?_ | (refine WL_r (by refine Run_pev rfl) rfl ?_))
  try refine WL_gyes rfl rfl rfl ?_
  refine WL_s (S_call (rflagQ hR) rfl rfl ?_)
  rintro v w1 ⟨rfl, hU0⟩
  rcases rtS_flag s with ⟨h1, h2, h3⟩ | ⟨h1, h2⟩
  · rw [h1]
    repeat (first | refine WS_seq ?_ | refine WS_region ?_ | refine WL_nil ?_ | refine WS_true rfl ?_ | (refine WL_r (by first | refine Run_pev rfl | apply k_makeFunc) rfl ?_))
    rw [h3] at hU0
    exact WS_ret1 Try.func57 rfl (.inl ⟨_, _, h2, rfl, hU0⟩)
  rw [h1]
  have hR1 := hU0.holds
  generalize (rbit s).2 = s1 at *
  generalize rtS s = T at *
  repeat (first | refine WS_seq ?_ | refine WS_region ?_ | refine WL_nil ?_ | refine WS_block ?_ | refine WS_skip ?_ | refine WS_false rfl ?_ | (refine WL_r (by first | refine Run_pev rfl | apply k_makeFunc) rfl ?_))
  refine WS_loop (G := (List Bool) × (RS)) (fun | (ds, s') => 13 - ds.length) 1073741724 (fun | (ds, s') => [(3, .int .i64 (numB 1 ds : Nat))]) (fun | (ds, s'), w' => ds.length ≤ 12 ∧ T = (digS (12 - ds.length) s').map (fun q => (numB 1 (ds ++ q.1) - 1, q.2)) ∧ Upd (Rq p a c by0 eb s1) (Rq p a c by0 eb s') w1 w') ([], s1) ⟨rfl, trivial⟩ ⟨by simp, h2, Upd.refl hR1⟩ ?_
  rintro ⟨ds, s'⟩ w' σ ⟨hi, hT, hU⟩ IH
  show WS _ _ _ _ _ (updL [(3, .int .i64 (numB 1 ds : Nat))] _) _
  have hlt := numB1_lt ds
  have hge := numB1_ge ds
  have hpow : 2 ^ (ds.length + 1) ≤ 2 ^ 13 := Nat.pow_le_pow_right (by decide) (by omega)
  have e2 : numB 1 ds * 2 ^ 1 = numB 1 ds * 2 := rfl
  have hb : (rbit s').1.toNat ≤ 1 := by cases (rbit s').1 <;> decide
  have hor := or_bit (numB 1 ds) (rbit s').1
  rcases two_bits s' with hE | ⟨d, e, l, rfl⟩
  · have hT0 : T = none := by rw [hT, digS_end hE]; rfl
    repeat (first | refine WS_seq ?_ | refine WS_region ?_ | refine WS_block ?_ | (refine WL_r (by first | refine (k_shl64 (m := numB 1 ds) (n := 1) rfl rfl (by omega) (by decide)).is (congrArg (fun n : Nat => Value.int .i64 (n : Int)) e2) | refine Run_pev rfl) rfl ?_))
    try refine WL_gyes rfl rfl rfl ?_
    refine WL_s (S_call (rbitQ hU.holds) rfl rfl ?_)
    rintro v w2 ⟨rfl, hU2⟩
    repeat (first | refine WS_seq ?_ | refine WS_region ?_ | refine WL_nil ?_ | (refine WL_r (by first | refine (k_or rfl rfl (fiti (by omega)) (fiti (by omega))).is (congrArg (fun n : Nat => Value.int .i64 (n : Int)) hor) | refine Run_pev rfl | refine k_convI rfl rfl rfl (by omega)) rfl ?_))
    try refine WL_gyes rfl rfl rfl ?_
    refine WL_s (S_call (rflagQ hU2.holds) rfl rfl ?_)
    rintro v w3 ⟨rfl, hU3⟩
    repeat (first | refine WS_seq ?_ | refine WS_region ?_ | refine WL_nil ?_ | refine WS_block ?_ | (refine WL_r (by refine Run_pev rfl) rfl ?_))
    try refine WL_gyes rfl rfl rfl ?_
    refine WL_s (S_call (rended_spec (Rq.rd hU3.holds)) rfl rfl ?_)
    rintro v w4 ⟨rfl, rfl⟩
    have hU4 := (hU.trans hU2).trans hU3
    rw [hE]
    repeat (first | refine WS_seq ?_ | refine WS_region ?_ | refine WL_nil ?_ | refine WS_true rfl ?_ | refine WL_gno rfl rfl rfl rfl rfl ?_ | (refine WL_r (by refine Run_pev rfl) rfl ?_))
    try refine WL_gyes rfl rfl rfl ?_
    refine WL_s (S_call (rfailQ hU4.holds) rfl rfl ?_)
    rintro v w5 ⟨rfl, hU5⟩
    repeat (first | refine WS_seq ?_ | refine WS_region ?_ | refine WL_nil ?_ | (refine WL_r (by first | refine Run_pev rfl | apply k_makeFunc) rfl ?_))
    exact WS_ret1 Try.func57 rfl (.inr ⟨hT0, rfl, _, rfl, (hU0.trans hU4).trans hU5⟩)
  · skip
    repeat (first | refine WS_seq ?_ | refine WS_region ?_ | refine WS_block ?_ | (refine WL_r (by first | refine (k_shl64 (m := numB 1 ds) (n := 1) rfl rfl (by omega) (by decide)).is (congrArg (fun n : Nat => Value.int .i64 (n : Int)) e2) | refine Run_pev rfl) rfl ?_))
    try refine WL_gyes rfl rfl rfl ?_
    refine WL_s (S_call (rbitQ hU.holds) rfl rfl ?_)
    rintro v w2 ⟨rfl, hU2⟩
    repeat (first | refine WS_seq ?_ | refine WS_region ?_ | refine WL_nil ?_ | (refine WL_r (by first | refine (k_or rfl rfl (fiti (by omega)) (fiti (by omega))).is (congrArg (fun n : Nat => Value.int .i64 (n : Int)) hor) | refine Run_pev rfl | refine k_convI rfl rfl rfl (by omega)) rfl ?_))
    try refine WL_gyes rfl rfl rfl ?_
    refine WL_s (S_call (rflagQ hU2.holds) rfl rfl ?_)
    rintro v w3 ⟨rfl, hU3⟩
    repeat (first | refine WS_seq ?_ | refine WS_region ?_ | refine WL_nil ?_ | refine WS_block ?_ | (refine WL_r (by refine Run_pev rfl) rfl ?_))
    try refine WL_gyes rfl rfl rfl ?_
    refine WL_s (S_call (rended_spec (Rq.rd hU3.holds)) rfl rfl ?_)
    rintro v w4 ⟨rfl, rfl⟩
    have hU4 := (hU.trans hU2).trans hU3
    rw [show (rbit (⟨d :: e :: l, false⟩ : RS)).1 = d from rfl] at hor hb ⊢
    rw [show (rbit (rbit (⟨d :: e :: l, false⟩ : RS)).2).2 = ⟨l, false⟩ from rfl] at hU4 ⊢
    rw [show (rbit (rbit (⟨d :: e :: l, false⟩ : RS)).2).1 = e from rfl]
    have hsn := numB_snoc 1 ds d
    by_cases h12 : ds.length = 12
    · have hT0 : T = none := by rw [hT, h12]; rfl
      rw [h12] at hge
      repeat (first | refine WS_seq ?_ | refine WS_region ?_ | refine WL_nil ?_ | refine WS_yes rfl (by omega) ?_ | refine WL_gyes rfl rfl rfl ?_ | (refine WL_r (by first | refine Run_pev rfl | refine k_sub64 rfl rfl (by omega)) rfl ?_))
      try refine WL_gyes rfl rfl rfl ?_
      refine WL_s (S_call (rfailQ hU4.holds) rfl rfl ?_)
      rintro v w5 ⟨rfl, hU5⟩
      repeat (first | refine WS_seq ?_ | refine WS_region ?_ | refine WL_nil ?_ | (refine WL_r (by first | refine Run_pev rfl | apply k_makeFunc) rfl ?_))
      exact WS_ret1 Try.func57 rfl (.inr ⟨hT0, rfl, _, rfl, (hU0.trans hU4).trans hU5⟩)
    · have hpow2 : 2 ^ (ds.length + 1) ≤ 2 ^ 12 := Nat.pow_le_pow_right (by decide) (by omega)
      obtain ⟨k, hk⟩ : ∃ k, 12 - ds.length = k + 1 := ⟨11 - ds.length, by omega⟩
      have hpos : 1 ≤ numB 1 ds := Nat.le_trans (Nat.one_le_two_pow) hge
      cases e with
      | false =>
        have hT1 : T = some (numB 1 (ds ++ [d]) - 1, l) := by rw [hT, hk]; rfl
        repeat (first | refine WS_seq ?_ | refine WS_region ?_ | refine WL_nil ?_ | refine WS_true rfl ?_ | refine WS_no rfl (by omega) ?_ | refine WL_gyes rfl rfl rfl ?_ | (refine WL_r (by first | refine Run_pev rfl | refine k_sub64 rfl rfl (by omega) | apply k_makeFunc) rfl ?_))
        exact WS_ret1 Try.func57 rfl (.inl ⟨_, _, hT1, congrArg (Value.int .i64) (by rw [hsn]; omega), hU0.trans hU4⟩)
      | true =>
        have hT1 : T = (digS (12 - (ds ++ [d]).length) ⟨l, false⟩).map (fun q => (numB 1 (ds ++ [d] ++ q.1) - 1, q.2)) := by
          rw [hT, hk, show 12 - (ds ++ [d]).length = k by simp; omega]
          simp only [digS, Bool.false_eq_true, if_false, dig, if_true, Option.map_map]
          congr 1
          funext q
          simp
        repeat (first | refine WS_seq ?_ | refine WS_region ?_ | refine WL_nil ?_ | refine WS_inBlock ?_ | refine WS_skip ?_ | refine WS_false rfl ?_ | refine WS_no rfl (by omega) ?_ | refine WL_gyes rfl rfl rfl ?_ | (refine WL_r (by first | refine Run_pev rfl | refine k_sub64 rfl rfl (by omega) | apply k_makeFunc) rfl ?_))
        refine IH (ds ++ [d], ⟨l, false⟩) _ _ ?_ ?_ ?_ ?_
        · simp; omega
        · exact ⟨congrArg (fun n : Nat => Value.int .i64 (n : Int)) hsn.symm, trivial⟩
        · exact (by repeat (first | with_reducible apply Agr.refl | refine Agr.upd rfl ?_ | refine Agr.updL rfl ?_ | refine Agr.mrg rfl ?_))
        · exact ⟨by simp; omega, hT1, hU4⟩
theorem rtake_spec {p c : Nat} {a : Option Addr} {s : RS} {w : World} (hR : (Rd p a c s).holds w) : Does Try.prog 57 #[pt p] w fun v w' => TkR p a c s (rtS s) v w w' := by
  obtain ⟨l, e, h⟩ := Rd.q hR
  exact (rtakeQ h).mono (fun v w' h => h.r)
theorem vb_or (ds : List Bool) (d : Bool) : vb ds ||| d.toNat * 2 ^ ds.length = vb (ds ++ [d]) := by
  have h := Nat.two_pow_add_eq_or_of_lt (i := ds.length) (b := vb ds) (vb_lt ds) d.toNat
  rw [vb_snoc, Nat.or_comm, Nat.mul_comm, ← h]; omega
set_option maxHeartbeats 2000000 in
theorem takebQ {p c eb : Nat} {a : Option Addr} {by0 : List Nat} {s : RS} {w : World} (hR : (Rq p a c by0 eb s).holds w) : Does Try.prog 61 #[pt p] w fun v w' => TkQ p a c by0 eb s (rbS s) v w w' := by
  refine Does_of (args := [_]) Try.func61 rfl rfl Try.ntmps61 rfl ?_
  repeat (first | refine WS_seq ?_ | refine WS_region ?_ | refine WL_nil ?_ | (refine WL_r (by refine Run_pev rfl) rfl ?_))
  try refine WL_gyes rfl rfl rfl ?_
  refine WL_s (S_call (rflagQ hR) rfl rfl ?_)
  rintro v w1 ⟨rfl, hU0⟩
  rcases rbS_flag s with ⟨h1, h2, h3⟩ | ⟨h1, h2⟩
  · rw [h1]
    repeat (first | refine WS_seq ?_ | refine WS_region ?_ | refine WL_nil ?_ | refine WS_true rfl ?_ | (refine WL_r (by first | refine Run_pev rfl | apply k_makeFunc) rfl ?_))
    rw [h3] at hU0
    exact WS_ret1 Try.func61 rfl (.inl ⟨_, _, h2, rfl, hU0⟩)
  rw [h1]
  have hR1 := hU0.holds
  generalize (rbit s).2 = s1 at *
  generalize rbS s = T at *
  repeat (first | refine WS_seq ?_ | refine WS_region ?_ | refine WL_nil ?_ | refine WS_block ?_ | refine WS_skip ?_ | refine WS_false rfl ?_ | (refine WL_r (by first | refine Run_pev rfl | apply k_makeFunc) rfl ?_))
  refine WS_loop (G := (List Bool) × (RS)) (fun | (ds, s') => 13 - ds.length) 68719476540 (fun | (ds, s') => [(3, .int .i64 (vb ds : Nat)), (4, .int .i64 (ds.length : Nat))]) (fun | (ds, s'), w' => ds.length ≤ 12 ∧ T = (digS (12 - ds.length) s').map (fun q => (numB 1 (ds ++ q.1).reverse - 1, q.2)) ∧ Upd (Rq p a c by0 eb s1) (Rq p a c by0 eb s') w1 w') ([], s1) ⟨rfl, rfl, trivial⟩ ⟨by simp, h2, Upd.refl hR1⟩ ?_
  rintro ⟨ds, s'⟩ w' σ ⟨hi, hT, hU⟩ IH
  show WS _ _ _ _ _ (updL [(3, .int .i64 (vb ds : Nat)), (4, .int .i64 (ds.length : Nat))] _) _
  have hlt := vb_lt ds
  have hpow : 2 ^ ds.length ≤ 2 ^ 12 := Nat.pow_le_pow_right (by decide) (by omega)
  have hb : (rbit s').1.toNat ≤ 1 := by cases (rbit s').1 <;> decide
  have hsh : (rbit s').1.toNat * 2 ^ ds.length ≤ 1 * 2 ^ 12 := Nat.mul_le_mul hb hpow
  have hor := vb_or ds (rbit s').1
  rcases two_bits s' with hE | ⟨d, e, l, rfl⟩
  · have hT0 : T = none := by rw [hT, digS_end hE]; rfl
    repeat (first | refine WS_seq ?_ | refine WS_region ?_ | refine WS_block ?_ | (refine WL_r (by refine Run_pev rfl) rfl ?_))
    try refine WL_gyes rfl rfl rfl ?_
    refine WL_s (S_call (rbitQ hU.holds) rfl rfl ?_)
    rintro v w2 ⟨rfl, hU2⟩
    repeat (first | refine WS_seq ?_ | refine WS_region ?_ | refine WL_nil ?_ | (refine WL_r (by first | refine k_shl64 rfl rfl (by omega) (by omega) | refine (k_or rfl rfl (fiti (by omega)) (fiti (by omega))).is (congrArg (fun n : Nat => Value.int .i64 (n : Int)) hor) | refine Run_pev rfl | refine k_add64 rfl rfl (by omega) | refine k_convI rfl rfl rfl (by omega)) rfl ?_))
    try refine WL_gyes rfl rfl rfl ?_
    refine WL_s (S_call (rflagQ hU2.holds) rfl rfl ?_)
    rintro v w3 ⟨rfl, hU3⟩
    repeat (first | refine WS_seq ?_ | refine WS_region ?_ | refine WL_nil ?_ | refine WS_block ?_ | (refine WL_r (by refine Run_pev rfl) rfl ?_))
    try refine WL_gyes rfl rfl rfl ?_
    refine WL_s (S_call (rended_spec (Rq.rd hU3.holds)) rfl rfl ?_)
    rintro v w4 ⟨rfl, rfl⟩
    have hU4 := (hU.trans hU2).trans hU3
    rw [hE]
    repeat (first | refine WS_seq ?_ | refine WS_region ?_ | refine WL_nil ?_ | refine WS_true rfl ?_ | refine WL_gno rfl rfl rfl rfl rfl ?_ | (refine WL_r (by refine Run_pev rfl) rfl ?_))
    try refine WL_gyes rfl rfl rfl ?_
    refine WL_s (S_call (rfailQ hU4.holds) rfl rfl ?_)
    rintro v w5 ⟨rfl, hU5⟩
    repeat (first | refine WS_seq ?_ | refine WS_region ?_ | refine WL_nil ?_ | (refine WL_r (by first | refine Run_pev rfl | apply k_makeFunc) rfl ?_))
    exact WS_ret1 Try.func61 rfl (.inr ⟨hT0, rfl, _, rfl, (hU0.trans hU4).trans hU5⟩)
  · skip
    repeat (first | refine WS_seq ?_ | refine WS_region ?_ | refine WS_block ?_ | (refine WL_r (by refine Run_pev rfl) rfl ?_))
    try refine WL_gyes rfl rfl rfl ?_
    refine WL_s (S_call (rbitQ hU.holds) rfl rfl ?_)
    rintro v w2 ⟨rfl, hU2⟩
    repeat (first | refine WS_seq ?_ | refine WS_region ?_ | refine WL_nil ?_ | (refine WL_r (by first | refine k_shl64 rfl rfl (by omega) (by omega) | refine (k_or rfl rfl (fiti (by omega)) (fiti (by omega))).is (congrArg (fun n : Nat => Value.int .i64 (n : Int)) hor) | refine Run_pev rfl | refine k_add64 rfl rfl (by omega) | refine k_convI rfl rfl rfl (by omega)) rfl ?_))
    try refine WL_gyes rfl rfl rfl ?_
    refine WL_s (S_call (rflagQ hU2.holds) rfl rfl ?_)
    rintro v w3 ⟨rfl, hU3⟩
    repeat (first | refine WS_seq ?_ | refine WS_region ?_ | refine WL_nil ?_ | refine WS_block ?_ | (refine WL_r (by refine Run_pev rfl) rfl ?_))
    try refine WL_gyes rfl rfl rfl ?_
    refine WL_s (S_call (rended_spec (Rq.rd hU3.holds)) rfl rfl ?_)
    rintro v w4 ⟨rfl, rfl⟩
    have hU4 := (hU.trans hU2).trans hU3
    rw [show (rbit (⟨d :: e :: l, false⟩ : RS)).1 = d from rfl] at hor hb hsh ⊢
    rw [show (rbit (rbit (⟨d :: e :: l, false⟩ : RS)).2).2 = ⟨l, false⟩ from rfl] at hU4 ⊢
    rw [show (rbit (rbit (⟨d :: e :: l, false⟩ : RS)).2).1 = e from rfl]
    by_cases h12 : ds.length = 12
    · have hT0 : T = none := by rw [hT, h12]; rfl
      repeat (first | refine WS_seq ?_ | refine WS_region ?_ | refine WL_nil ?_ | refine WS_yes rfl (by omega) ?_ | refine WL_gyes rfl rfl rfl ?_ | (refine WL_r (by refine Run_pev rfl) rfl ?_))
      try refine WL_gyes rfl rfl rfl ?_
      refine WL_s (S_call (rfailQ hU4.holds) rfl rfl ?_)
      rintro v w5 ⟨rfl, hU5⟩
      repeat (first | refine WS_seq ?_ | refine WS_region ?_ | refine WL_nil ?_ | (refine WL_r (by first | refine Run_pev rfl | apply k_makeFunc) rfl ?_))
      exact WS_ret1 Try.func61 rfl (.inr ⟨hT0, rfl, _, rfl, (hU0.trans hU4).trans hU5⟩)
    · obtain ⟨k, hk⟩ : ∃ k, 12 - ds.length = k + 1 := ⟨11 - ds.length, by omega⟩
      have hlt2 := vb_lt (ds ++ [d])
      have hl2 : (ds ++ [d]).length = ds.length + 1 := by simp
      have hpow2 : 2 ^ (ds.length + 1) ≤ 2 ^ 12 := Nat.pow_le_pow_right (by decide) (by omega)
      have hpos : 1 ≤ 2 ^ (ds.length + 1) := Nat.one_le_two_pow
      rw [hl2] at hlt2
      cases e with
      | false =>
        have hT1 : T = some (numB 1 (ds ++ [d]).reverse - 1, l) := by rw [hT, hk]; rfl
        have hvr := vb_rev (ds ++ [d])
        rw [hl2] at hvr
        have e4 : ((ds.length : Int) + 1) = ((ds.length + 1 : Nat) : Int) := by omega
        have e5 : 1 * 2 ^ (ds.length + 1) = 2 ^ (ds.length + 1) := Nat.one_mul _
        rw [e4]
        repeat (first | refine WS_seq ?_ | refine WS_region ?_ | refine WL_nil ?_ | refine WS_true rfl ?_ | refine WS_no rfl (by omega) ?_ | refine WL_gyes rfl rfl rfl ?_ | (refine WL_r (by first | refine (k_shl64 (m := 1) (n := ds.length + 1) rfl rfl (by omega) (by omega)).is (congrArg (fun n : Nat => Value.int .i64 (n : Int)) e5) | refine Run_pev rfl | refine k_add64 rfl rfl (by omega) | refine k_sub64 rfl rfl (by omega) | apply k_makeFunc) rfl ?_))
        exact WS_ret1 Try.func61 rfl (.inl ⟨_, _, hT1, congrArg (Value.int .i64) (by rw [hvr]; omega), hU0.trans hU4⟩)
      | true =>
        have hT1 : T = (digS (12 - (ds ++ [d]).length) ⟨l, false⟩).map (fun q => (numB 1 (ds ++ [d] ++ q.1).reverse - 1, q.2)) := by
          rw [hT, hk, show 12 - (ds ++ [d]).length = k by simp; omega]
          simp only [digS, Bool.false_eq_true, if_false, dig, if_true, Option.map_map]
          congr 1
          funext q
          simp
        repeat (first | refine WS_seq ?_ | refine WS_region ?_ | refine WL_nil ?_ | refine WS_inBlock ?_ | refine WS_skip ?_ | refine WS_false rfl ?_ | refine WS_no rfl (by omega) ?_ | refine WL_gyes rfl rfl rfl ?_ | (refine WL_r (by first | refine Run_pev rfl | apply k_makeFunc) rfl ?_))
        refine IH (ds ++ [d], ⟨l, false⟩) _ _ ?_ ?_ ?_ ?_
        · simp; omega
        · exact ⟨rfl, congrArg (Value.int .i64) (by simp), trivial⟩
        · exact (by repeat (first | with_reducible apply Agr.refl | refine Agr.upd rfl ?_ | refine Agr.updL rfl ?_ | refine Agr.mrg rfl ?_))
        · exact ⟨by simp; omega, hT1, hU4⟩
theorem takeb_spec {p c : Nat} {a : Option Addr} {s : RS} {w : World} (hR : (Rd p a c s).holds w) : Does Try.prog 61 #[pt p] w fun v w' => TkR p a c s (rbS s) v w w' := by
  obtain ⟨l, e, h⟩ := Rd.q hR
  exact (takebQ h).mono (fun v w' h => h.r)
end Go.Proofs.Ytnamafelcjgjfaa
