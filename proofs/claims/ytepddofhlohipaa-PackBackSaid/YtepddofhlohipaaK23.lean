/- A drawn region whose last operations wait for all others, the worlds of the others within any bound: over any program; no condition. -/
import Derived.Test.YtepddofhlohipaaK22
namespace Go.K
open Go Go.RowKit
/-- The same, whatever the worlds of the first operations meet. -/
theorem WS_tailS {P : Program} {N : Nat} {f : FuncId} {R : Value → World → Prop} {k : List Item} {ρ : Fr} {w : World} {id : Nat} {l : List Oper} (hm : P.follows .mixedOrders = true) (n1 : Nat) (hn : ((l.take n1).length = n1)) (hok : tailOk l n1 = true) (hgd : (l.take n1).all (fun o => match o.guard with | some (g, _) => Nat.blt g n1 | none => true) = true)
    (S : World → Prop) (h : WA P N (WL P N (WS P N f R k) l.toArray (l.drop n1)) (l.take n1).toArray S n1 n1 [] ρ w.drew) :
    WS P N f R (.code (.region id l.toArray true) :: k) ρ w := by
  have hn1 : n1 ≤ l.length := by simp at hn; omega
  refine WS_wp fun a ha => wp_region_any hm ?_
  have h1 := wpAny_of_held _ _ _ _ (h.out a ha)
  have h2 := head_any (Q := QN N (WS P N f R k)) hn1 hok (fun e a w hne hq => absurd hq.1 hne) hgd (fun a w hq => by
    obtain ⟨_, ρ', hr, hw⟩ := hq
    have h3 := hw.out a hr
    have h4 := wpOps_eq_wpList (P := P) (ops := l.toArray) (Q := QN N (WS P N f R k)) (l.drop n1) n1 (fun j => by simp)
    rw [List.length_drop] at h4
    rw [h4]; exact h3) n1 (lst n1 []) (Array.replicate l.length false) a _ (by simp [lst]) (by simp) (fun i hi => by simp [lst, Array.getD, hi, Nat.lt_of_lt_of_le hi hn1]) (fun i hi hil => by simp [Array.getD, hil]) (by simp [lst]) h1
  rw [show n1 + (l.length - n1) = l.toArray.size by simp; omega] at h2
  simpa using h2
end Go.K
