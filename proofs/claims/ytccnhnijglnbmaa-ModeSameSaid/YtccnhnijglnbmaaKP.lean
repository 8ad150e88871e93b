/- One rule for all operations that only move values, pick one, or hold integers against each other: over any program; no condition. -/
import Derived.Test.YtccnhnijglnbmaaK11
namespace Go.K
open Go
def force : Value → Option Value
  | .int q i => some (.int q i)
  | .slice a n c => some (.slice a n c)
  | .pointer a => some (.pointer a)
  | .bool b => some (.bool b)
  | .agg c => some (.agg c)
  | .complex k a b => some (.complex k a b)
  | v => some v
theorem force_eq {v u : Value} (h : force v = some u) : v = u := by
  unfold force at h
  split at h <;> exact Option.some.inj h
def cmpI (f : Int → Int → Bool) : Value → Value → Option Value
  | .int q m, .int q' n => if q = q' then some (.bool (f m n)) else none
  | _, _ => none
def pickV (a b : Value) : Value → Option Value
  | .bool true => force a
  | .bool false => force b
  | _ => none
def notV : Value → Option Value
  | .bool true => some (.bool false)
  | .bool false => some (.bool true)
  | _ => none
def ptrV : Value → Option Value
  | .pointer (some a) => some (.pointer (some a))
  | _ => none
/-- What an operation that only computes comes to. -/
def pev (ρ : Fr) : Op → Option Value
  | .move x => force (ev ρ x)
  | .assign x => force (ev ρ x)
  | .pick c a b => pickV (ev ρ a) (ev ρ b) (ev ρ c)
  | .nilCheck x => ptrV (ev ρ x)
  | .unOp .not _ x => notV (ev ρ x)
  | .binOp .lss _ x y _ => cmpI (fun m n => decide (m < n)) (ev ρ x) (ev ρ y)
  | .binOp .leq _ x y _ => cmpI (fun m n => decide (m ≤ n)) (ev ρ x) (ev ρ y)
  | .binOp .gtr _ x y _ => cmpI (fun m n => decide (n < m)) (ev ρ x) (ev ρ y)
  | .binOp .geq _ x y _ => cmpI (fun m n => decide (n ≤ m)) (ev ρ x) (ev ρ y)
  | .binOp .eql _ x y _ => cmpI (fun m n => decide (m = n)) (ev ρ x) (ev ρ y)
  | .binOp .neq _ x y _ => cmpI (fun m n => decide (m ≠ n)) (ev ρ x) (ev ρ y)
  | _ => none
theorem cmpI_eq {f : Int → Int → Bool} {a b v : Value} (h : cmpI f a b = some v) : ∃ q m n, a = .int q m ∧ b = .int q n ∧ v = .bool (f m n) := by
  unfold cmpI at h
  split at h
  · split at h
    · rename_i hq; subst hq; cases h; exact ⟨_, _, _, rfl, rfl, rfl⟩
    · cases h
  · cases h
theorem Run_pev {P : Program} {ρ : Fr} {w : World} {v : Value} {dst : Option Nat} {op : Op} {ty : TypeId} {pos : String} {af : Array Edge} {gd : Option (Nat × Bool)} (h : pev ρ op = some v) : Run P ρ ⟨dst, op, ty, pos, af, gd⟩ w v w := by
  unfold pev at h
  split at h
  · exact k_move (force_eq h)
  · exact k_assign (force_eq h)
  · rename_i c a b
    unfold pickV at h
    split at h
    · rename_i hc; exact k_pick_t hc (force_eq h)
    · rename_i hc; exact k_pick_f hc (force_eq h)
    · cases h
  · rename_i x
    unfold ptrV at h
    split at h
    · rename_i a ha; cases h; exact k_nilCheck ha
    · cases h
  · rename_i t x
    unfold notV at h
    split at h
    · rename_i ha; cases h; exact k_notb ha
    · rename_i ha; cases h; exact k_notb ha
    · cases h
  · obtain ⟨q, m, n, h1, h2, rfl⟩ := cmpI_eq h; exact k_lss h1 h2
  · obtain ⟨q, m, n, h1, h2, rfl⟩ := cmpI_eq h; exact k_leq h1 h2
  · obtain ⟨q, m, n, h1, h2, rfl⟩ := cmpI_eq h; exact k_gtr h1 h2
  · obtain ⟨q, m, n, h1, h2, rfl⟩ := cmpI_eq h; exact k_geq h1 h2
  · obtain ⟨q, m, n, h1, h2, rfl⟩ := cmpI_eq h; exact k_eql h1 h2
  · obtain ⟨q, m, n, h1, h2, rfl⟩ := cmpI_eq h; exact k_neq h1 h2
  · cases h
end Go.K
