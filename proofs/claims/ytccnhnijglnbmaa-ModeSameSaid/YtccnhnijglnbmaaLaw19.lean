/- Layer 19's own helpers: the fixed fact. -/
import Derived.Test.YtccnhnijglnbmaaSh
import Derived.Test.YtccnhnijglnbmaaMode
import Derived.Test.YtccnhnijglnbmaaK8
import Derived.Test.YtccnhnijglnbmaaRows
namespace Go.Proofs.Ytccnhnijglnbmaa
open Go Go.K Go.P Go.RowKit Go.Proofs
set_option maxRecDepth 20000 in
set_option maxHeartbeats 2000000 in
theorem awake19 (w : World) : Does Try.prog 8 #[] w fun v w' => v = .bool true ∧ Ext [] w w' := by
  refine Does_of (args := []) Try.func8 rfl rfl Try.ntmps8 rfl ?_
  repeat (first | refine WS_seq ?_ | refine WS_region ?_ | refine WL_nil ?_ | (refine WL_r (by first | refine k_buildS (cs := mz 3) (Ty.zer rfl) (Ty.plc rfl) rfl | refine Run_pev rfl) rfl ?_))
  try refine WL_gyes rfl rfl rfl ?_
  refine WL_s (S_call (mcheck_spec (inter := true)) rfl rfl ?_)
  rintro v w1 ⟨rfl, hE1⟩
  rw [if_pos rfl]
  repeat (first | refine WL_gyes rfl rfl rfl ?_ | (refine WL_r (by first | refine k_buildS (cs := mz 3) (Ty.zer rfl) (Ty.plc rfl) rfl | refine Run_pev rfl) rfl ?_))
  try refine WL_gyes rfl rfl rfl ?_
  refine WL_s (S_call (mcheck_spec (inter := false)) rfl rfl ?_)
  rintro v w2 ⟨rfl, hE2⟩
  rw [if_neg (by decide)]
  repeat (first | refine WL_nil ?_ | refine WL_gyes rfl rfl rfl ?_ | (refine WL_r (by first | refine Run_pev rfl | apply k_makeFunc) rfl ?_))
  exact WS_ret1 Try.func8 rfl ⟨rfl, hE1.then0 hE2⟩
end Go.Proofs.Ytccnhnijglnbmaa
