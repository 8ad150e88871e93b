/- Bits as cells; no condition. -/
import Derived.Test.YtccnhnijglnbmaaPBits
namespace Go.Proofs.Ytccnhnijglnbmaa
open Go Go.K Go.P Go.RowKit Go.Proofs
/-- Bits as cells. -/
abbrev bq (X : List Bool) : List Value := (X.map Bool.toNat).map B
theorem bq_len (X : List Bool) : (bq X).length = X.length := by simp
theorem bq_app (X Y : List Bool) : bq (X ++ Y) = bq X ++ bq Y := by simp
theorem bq_one (X : List Bool) : ∀ u ∈ bq X, u.oneCell' = true := fun u hu => by obtain ⟨x, _, rfl⟩ := List.mem_map.1 hu; rfl
end Go.Proofs.Ytccnhnijglnbmaa
