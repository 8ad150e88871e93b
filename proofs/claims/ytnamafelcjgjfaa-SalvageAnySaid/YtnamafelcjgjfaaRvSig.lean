/- The walks of the package rvlc: numbers with a sign; no condition. -/
import Derived.Test.YtnamafelcjgjfaaSh
import Derived.Test.YtnamafelcjgjfaaRvlc
namespace Go.Proofs.Ytnamafelcjgjfaa
open Go Go.K Go.P Go.RowKit Go.Proofs
theorem signed_spec {n : Int} {w : World} (h : -2305843009213693952 ≤ n ∧ n ≤ 2305843009213693952) : Does Try.prog 67 #[.int .i64 n] w fun v w' => v = .int .i64 (sgn n) ∧ w' = w := by
  refine Does_of (args := [_]) Try.func67 rfl rfl Try.ntmps67 rfl ?_
  unfold sgn
  by_cases h0 : 0 < n
  · rw [if_pos h0]
    repeat (first | refine WS_seq ?_ | refine WS_region ?_ | refine WL_nil ?_ | refine WS_yes rfl (by omega) ?_ | (refine WL_r (by first | refine Run_pev rfl | refine k_sub64 rfl rfl (by omega) | refine k_mul64 rfl rfl (by omega) | apply k_makeFunc) rfl ?_))
    exact WS_ret1 Try.func67 rfl ⟨rfl, rfl⟩
  · rw [if_neg h0]
    repeat (first | refine WS_seq ?_ | refine WS_region ?_ | refine WL_nil ?_ | refine WS_skip ?_ | refine WS_no rfl (by omega) ?_ | (refine WL_r (by first | refine Run_pev rfl | refine k_mul64 rfl rfl (by omega) | apply k_makeFunc) rfl ?_))
    exact WS_ret1 Try.func67 rfl ⟨rfl, rfl⟩
theorem k_quot64 {P : Program} {ρ : Fr} {w : World} {dst : Option Nat} {ty t u : TypeId} {pos : String} {af : Array Edge} {gd : Option (Nat × Bool)} {x y : Operand} {m n : Int} (hx : ev ρ x = .int .i64 m) (hy : ev ρ y = .int .i64 n) (hn : n ≠ 0) (hb : -9223372036854775808 ≤ m.tdiv n ∧ m.tdiv n ≤ 9223372036854775807) :
    Run P ρ ⟨dst, .binOp .quo t x y u, ty, pos, af, gd⟩ w (.int .i64 (m.tdiv n)) w :=
  k_bin hx hy (eqGuard_other rfl) (by simp [binOp, Op.intDiv, hn, wrap64_id hb.1 hb.2])
theorem unsigned_spec {n : Nat} {w : World} (h : n ≤ 4611686018427387904) : Does Try.prog 74 #[.int .i64 n] w fun v w' => v = .int .i64 (uns n) ∧ w' = w := by
  refine Does_of (args := [_]) Try.func74 rfl rfl Try.ntmps74 rfl ?_
  have ha : n &&& 1 = n % 2 := Nat.and_one_is_mod n
  unfold uns
  by_cases h0 : n % 2 = 1
  · rw [if_pos h0]
    repeat (first | refine WS_seq ?_ | refine WS_region ?_ | refine WL_nil ?_ | refine WS_yes rfl (by omega) ?_ | (refine WL_r (by first | refine (k_and (n := 1) rfl rfl (fiti (by omega)) rfl).is (congrArg (fun n : Nat => Value.int .i64 (n : Int)) ha) | refine Run_pev rfl | refine k_add64 rfl rfl (by omega) | refine k_quo64 rfl rfl (by omega) | apply k_makeFunc) rfl ?_))
    exact WS_ret1 Try.func74 rfl ⟨congrArg (Value.int .i64) (by omega), rfl⟩
  · rw [if_neg h0]
    have ht : (-(n : Int)).tdiv 2 = -((n / 2 : Nat) : Int) := by rw [Int.neg_tdiv, Int.tdiv_eq_ediv_of_nonneg (by omega)]; omega
    repeat (first | refine WS_seq ?_ | refine WS_region ?_ | refine WL_nil ?_ | refine WS_skip ?_ | refine WS_no rfl (by omega) ?_ | (refine WL_r (by first | refine (k_and (n := 1) rfl rfl (fiti (by omega)) rfl).is (congrArg (fun n : Nat => Value.int .i64 (n : Int)) ha) | refine k_neg64 rfl (by omega) | refine (k_quot64 (m := -(n : Int)) (n := 2) rfl rfl (by decide) (by omega)).is (congrArg (Value.int .i64) ht) | refine Run_pev rfl | apply k_makeFunc) rfl ?_))
    exact WS_ret1 Try.func74 rfl ⟨rfl, rfl⟩
end Go.Proofs.Ytnamafelcjgjfaa
