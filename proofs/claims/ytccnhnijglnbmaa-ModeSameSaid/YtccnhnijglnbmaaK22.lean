/- An element, itself an aggregate, of an array; sums that wrap: over any program; no condition. -/
import Derived.Test.YtccnhnijglnbmaaK21
namespace Go.K
open Go Go.RowKit
section
variable {P : Program} {ρ : Fr} {w : World} {dst : Option Nat} {ty t u : TypeId} {pos : String} {af : Array Edge} {gd : Option (Nat × Bool)} {x y : Operand} {q : IntKind}
theorem k_indexN {i : Int} {len sz : Nat} {cs : Array Value} (hx : ev ρ x = .agg cs) (hy : ev ρ y = .int q i) (ha : arr P t = some (len, (true, sz))) (hi : 0 ≤ i ∧ i < len) :
    Run P ρ ⟨dst, .index t x y, ty, pos, af, gd⟩ w (.agg (cs.extract (i.toNat * sz) (i.toNat * sz + sz))) w := by
  unfold arr at ha
  split at ha
  · rename_i n e hu
    cases hs : shp P e with
    | none => simp [hs] at ha
    | some p =>
      simp [hs] at ha
      obtain ⟨rfl, rfl⟩ := ha
      constructor; unfold execOp
      simp [hx, hy, Instr.index, run_underlying hu, asIntOf, hi, part, shp_isAgg hs, shp_size hs]
  · cases ha
/-- A sum that wraps is another number. -/
theorem wrap_ne {m d : Int} (h : d = -2 ∨ d = -1 ∨ d = 1 ∨ d = 2) : IntKind.i64.wrap (m + d) ≠ m := by
  intro h2
  have key : IntKind.i64.wrap (m + d) = (m + d) % 18446744073709551616 ∨ IntKind.i64.wrap (m + d) = (m + d) % 18446744073709551616 - 18446744073709551616 := by
    unfold IntKind.wrap
    simp only [IntKind.bits, IntKind.signed, Bool.true_and]
    by_cases hc : (9223372036854775808 : Int) ≤ (m + d) % 18446744073709551616
    · right
      simp
      intro h; omega
    · left
      simp
      intro h; omega
  omega
end
/-- An operation of a drawn region whose test was not carried out itself. -/
theorem WA_takeu {P : Program} {N : Nat} {C : Fr → World → Prop} {ops : Array Oper} {S : World → Prop} {n fuel : Nat} {done : List Nat} {ρ : Fr} {w : World} (i : Nat) {o : Oper} {j d : Nat} {want : Bool} (hi : ops[i]? = some o) (hc : takeOk ops n done i = true) (hS : S w) (hg : o.guard = some (j, want)) (hj : gdst ops j = some d) (hv : ev ρ (.tmp d) = undef) (hd : dstOk N o.dst = true)
    (hk : WA P N C ops S n fuel (i :: done) (updo ρ o.dst undef) w) : WA P N C ops S n (fuel + 1) done ρ w := by
  refine ⟨fun a ha => ?_⟩
  simp only [takeOk, Bool.and_eq_true] at hc
  exact wpAnyH_take hi hc.1.1 hc.1.2 hc.2 (fun c a w h => by cases h.1) (.inr ⟨by simp [Region.wanted, hg, yielded_und ha hj hv], rfl⟩) hS (hk.out _ (ha.put hd undef))
end Go.K
