/- What a call makes of a piece: over any program; no condition. -/
import Derived.Test.YtccnhnijglnbmaaK19
namespace Go.K
open Go Go.RowKit
/-- Piece i is used up: pieces Q come of it. -/
theorem Hp.call {S : List Nat} {W w w' : World} {H Q : List Res} {r : Res} (i : Nat) (h : Hp S W w H) (hi : H[i]? = some r) (hQ : Hp r.fp w w' Q) : Hp S W w' (H.eraseIdx i ++ Q) := by
  have hlt : i < H.length := (List.getElem?_eq_some_iff.1 hi).1
  have hmem : ∀ x ∈ H.eraseIdx i, ∃ j, j ≠ i ∧ H[j]? = some x := by
    intro x hx
    obtain ⟨j, hj⟩ := List.mem_iff_getElem?.1 hx
    rw [List.getElem?_eraseIdx] at hj
    split at hj
    · rename_i hji; exact ⟨j, by omega, hj⟩
    · rename_i hji; exact ⟨j + 1, by omega, hj⟩
  have hd := h.del i
  refine ⟨h.ext.trans hQ.ext (fun t ht => h.new r (List.mem_of_getElem? hi) t ht), fun x hx => ?_, fun x hx y hy => ?_, ?_⟩
  · rcases List.mem_append.1 hx with h1 | h1
    · obtain ⟨j, hj, hxj⟩ := hmem x h1
      exact x.keep (h.at j hxj) hQ.ext (fun s hs hsx => h.dj i j hi hxj (Ne.symm hj) s hs hsx)
    · exact hQ.all x h1
  · rcases List.mem_append.1 hx with h1 | h1
    · exact hd.new x h1 y hy
    · rcases hQ.new x h1 y hy with h2 | h2
      · exact h.new r (List.mem_of_getElem? hi) y h2
      · exact .inr (Nat.le_trans h.size h2)
  · refine List.pairwise_append.2 ⟨hd.apart, hQ.apart, fun x hx q hq y hyx hyq => ?_⟩
    obtain ⟨j, hj, hxj⟩ := hmem x hx
    rcases hQ.new q hq y hyq with h2 | h2
    · exact h.dj i j hi hxj (Ne.symm hj) y h2 hyx
    · have := x.lt (h.at j hxj) y hyx; omega
/-- Nothing is known of a world but what may have turned. -/
theorem Hp.bare {S : List Nat} {W w : World} (hE : Ext S W w) : Hp S W w [] := ⟨hE, by simp, by simp, .nil⟩
end Go.K
