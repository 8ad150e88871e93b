/- A slice of a whole array: over any program; no condition. -/
import Derived.Test.YtccnhnijglnbmaaK25
namespace Go.K
open Go Go.RowKit
section
variable {P : Program} {ρ : Fr} {w : World} {dst : Option Nat} {ty t : TypeId} {pos : String} {af : Array Edge} {gd : Option (Nat × Bool)} {x : Operand}
theorem k_sla {b o n sz : Nat} {g : Bool} (hx : ev ρ x = .pointer (some ⟨b, o, none⟩)) (ht : arr P t = some (n, (g, sz))) : Run P ρ ⟨dst, .slice t x none none none, ty, pos, af, gd⟩ w (.slice (some ⟨b, o, none⟩) n n) w := by
  obtain ⟨e, hu, hs⟩ := arr_spec ht
  have h0 : (if n = 0 then (⟨b, o, none⟩ : Addr) else (⟨b, o, none⟩ : Addr).add 0) = ⟨b, o, none⟩ := by split <;> rfl
  constructor; unfold execOp
  simp [hx, Instr.sliceAt, Instr.sureAddr, run_underlying hu, Instr.sliceBounds, shp_size hs, h0]
end
/-- Two of the pieces. -/
theorem Hp.two {S : List Nat} {W w : World} {H : List Res} {r s : Res} (i j : Nat) (h : Hp S W w H) (hi : H[i]? = some r) (hj : H[j]? = some s) (hne : i ≠ j) : Hp S W w [r, s] := by
  refine ⟨h.ext, fun x hx => ?_, fun x hx => ?_, by simpa using h.dj i j hi hj hne⟩
  · simp at hx
    rcases hx with rfl | rfl
    · exact h.at i hi
    · exact h.at j hj
  · simp at hx
    rcases hx with rfl | rfl
    · exact h.new x (List.mem_of_getElem? hi)
    · exact h.new x (List.mem_of_getElem? hj)
end Go.K
