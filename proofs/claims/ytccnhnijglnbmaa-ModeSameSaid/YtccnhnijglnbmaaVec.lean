/- The walks of the package vec: parts of vectors, medians; no condition. -/
import Derived.Test.YtccnhnijglnbmaaSh
import Derived.Test.YtccnhnijglnbmaaTy
import Derived.Test.YtccnhnijglnbmaaK16
namespace Go.Proofs.Ytccnhnijglnbmaa
open Go Go.K Go.P Go.RowKit Go.Proofs
theorem isf : isF64 Try.prog 98 = true := by kernel_rfl
/-- A vector of whole numbers. -/
abbrev CV (x y : Int) : Value := .complex .f64 (FN x) (FN y)
theorem whole_spec {b : Nat} {w : World} : Does Try.prog 47 #[.float .f64 b] w fun v w' => v = .int .i64 (whole b) ∧ w' = w := by
  refine Does_of (args := [_]) Try.func47 rfl rfl Try.ntmps47 rfl ?_
  rcases fl b with ⟨h, hw⟩ | ⟨h, h1, hw⟩ | ⟨h, o, h1, h2, hw⟩ | ⟨h, o, o', h1, ho, h2, ho', ht, he, he'⟩
  · rw [hw]
    repeat (first | refine WS_seq ?_ | refine WS_region ?_ | refine WL_nil ?_ | refine WS_block ?_ | refine WS_true rfl ?_ | (refine WL_r (by first | refine k_fneqV h rfl rfl | refine Run_pev rfl | apply k_makeFunc) rfl ?_))
    exact WS_ret1 Try.func47 rfl ⟨rfl, rfl⟩
  · rw [hw]
    repeat (first | refine WS_seq ?_ | refine WS_region ?_ | refine WL_nil ?_ | refine WS_block ?_ | refine WS_true rfl ?_ | refine WS_false rfl ?_ | (refine WL_r (by first | refine k_fneqV h rfl rfl | refine k_fgtrV h1 rfl rfl | refine Run_pev rfl | apply k_makeFunc) rfl ?_))
    exact WS_ret1 Try.func47 rfl ⟨rfl, rfl⟩
  · rw [hw]
    repeat (first | refine WS_seq ?_ | refine WS_region ?_ | refine WL_nil ?_ | refine WS_block ?_ | refine WS_true rfl ?_ | refine WS_false rfl ?_ | (refine WL_r (by first | refine k_fneqV h rfl rfl | refine k_fgtrV h1 rfl rfl | refine k_flssV h2 rfl rfl | refine Run_pev rfl | apply k_makeFunc) rfl ?_))
    exact WS_ret1 Try.func47 rfl ⟨rfl, rfl⟩
  · have hb := whole_le b
    repeat (first | refine WS_seq ?_ | refine WS_region ?_ | refine WL_nil ?_ | refine WS_block ?_ | refine WS_inBlock ?_ | refine WS_skip ?_ | refine WS_false rfl ?_ | (refine WL_r (by first | refine k_fneqV h rfl rfl | refine (k_fgtrV h1 rfl rfl).is (not_gt ho) | refine (k_flssV h2 rfl rfl).is (not_lt ho') | refine k_conv_fi rfl (Ty.und rfl) (Ty.knd rfl) ht (by omega) | refine Run_pev rfl | apply k_makeFunc) rfl ?_))
    exact WS_ret1 Try.func47 rfl ⟨rfl, rfl⟩
theorem parts_spec {a b : Nat} {w : World} : Does Try.prog 46 #[.complex .f64 a b] w fun v w' => v = .tuple #[.int .i64 (whole a), .int .i64 (whole b)] ∧ w' = w := by
  refine Does_of (args := [_]) Try.func46 rfl rfl Try.ntmps46 rfl ?_
  repeat (first | refine WS_seq ?_ | refine WS_region ?_ | refine WL_nil ?_ | (refine WL_r (by first | refine k_real rfl | refine Run_pev rfl) rfl ?_))
  try refine WL_gyes rfl rfl rfl ?_
  refine WL_s (S_call (whole_spec) rfl rfl ?_)
  rintro v w1 ⟨rfl, rfl⟩
  repeat ((refine WL_r (by first | refine k_imag rfl | refine Run_pev rfl) rfl ?_))
  try refine WL_gyes rfl rfl rfl ?_
  refine WL_s (S_call (whole_spec) rfl rfl ?_)
  rintro v w1 ⟨rfl, rfl⟩
  repeat (first | refine WL_nil ?_ | (refine WL_r (by first | refine Run_pev rfl | apply k_makeFunc) rfl ?_))
  exact WS_ret2 Try.func46 rfl ⟨rfl, rfl⟩
theorem vof_spec {x y : Int} {w : World} : Does Try.prog 45 #[.int .i64 x, .int .i64 y] w fun v w' => v = CV x y ∧ w' = w := by
  refine Does_of (args := [_, _]) Try.func45 rfl rfl Try.ntmps45 rfl ?_
  repeat (first | refine WS_seq ?_ | refine WS_region ?_ | refine WL_nil ?_ | (refine WL_r (by first | refine k_conv_if rfl (Ty.und rfl) isf | refine k_complex rfl rfl | refine Run_pev rfl | apply k_makeFunc) rfl ?_))
  exact WS_ret1 Try.func45 rfl ⟨rfl, rfl⟩
set_option maxHeartbeats 1000000 in
theorem right_spec {a b : Nat} {w : World} : Does Try.prog 44 #[.complex .f64 a b] w fun v w' => v = .bool (isR a b) ∧ w' = w := by
  refine Does_of (args := [_]) Try.func44 rfl rfl Try.ntmps44 rfl ?_
  have ha := whole_le a
  have hb := whole_le b
  repeat (first | refine WS_seq ?_ | refine WS_region ?_ | refine WL_nil ?_ | (refine WL_r (by refine Run_pev rfl) rfl ?_))
  try refine WL_gyes rfl rfl rfl ?_
  refine WL_s (S_call (parts_spec) rfl rfl ?_)
  rintro v w1 ⟨rfl, rfl⟩
  repeat (first | refine WS_seq ?_ | refine WS_region ?_ | refine WL_nil ?_ | (refine WL_r (by first | refine Run_pev rfl | refine k_extract rfl rfl) rfl ?_))
  try refine WL_gyes rfl rfl rfl ?_
  refine WL_s (S_call (vof_spec) rfl rfl ?_)
  rintro v w1 ⟨rfl, rfl⟩
  unfold isR
  generalize whole a = p at *
  generalize whole b = q at *
  cases he : (feq (FN p) a && feq (FN q) b) with
  | false =>
    repeat (first | refine WL_nil ?_ | refine WL_gno rfl rfl rfl rfl rfl ?_ | (refine WL_r (by first | refine (k_ceql rfl rfl).is (congrArg Value.bool he) | refine Run_pev rfl | apply k_makeFunc) rfl ?_))
    exact WS_ret1 Try.func44 rfl ⟨rfl, rfl⟩
  | true =>
    by_cases hp : -31 ≤ p ∧ p ≤ 31
    · repeat (first | refine WL_nil ?_ | refine WL_gyes rfl rfl rfl ?_ | refine WL_gyes rfl rfl (dT (by omega)) ?_ | (refine WL_r (by first | refine (k_ceql rfl rfl).is (congrArg Value.bool he) | refine k_neg64 rfl (by omega) | refine Run_pev rfl | refine k_max rfl rfl | apply k_makeFunc | refine k_pick_t (dT (by omega)) rfl) rfl ?_))
      exact WS_ret1 Try.func44 rfl ⟨by rw [Bool.true_and, decide_eq_true hp, Bool.true_and]; exact congrArg Value.bool (by rw [decide_eq_decide]; omega), rfl⟩
    · repeat (first | refine WL_nil ?_ | refine WL_gyes rfl rfl rfl ?_ | refine WL_gno (b := false) rfl rfl (dF (by omega)) rfl rfl ?_ | (refine WL_r (by first | refine (k_ceql rfl rfl).is (congrArg Value.bool he) | refine k_neg64 rfl (by omega) | refine Run_pev rfl | refine k_max rfl rfl | apply k_makeFunc | refine k_pick_f (dF (by omega)) rfl) rfl ?_))
      exact WS_ret1 Try.func44 rfl ⟨by rw [decide_eq_false hp, Bool.false_and, Bool.and_false]; rfl, rfl⟩
end Go.Proofs.Ytccnhnijglnbmaa
