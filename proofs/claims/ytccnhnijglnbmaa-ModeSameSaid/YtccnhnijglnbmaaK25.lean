/- An append to a new row without room: what comes of it is one's own, what was there stays: over any program; no condition. -/
import Derived.Test.YtccnhnijglnbmaaK23
namespace Go.K
open Go Go.RowKit
theorem S_appendE {P : Program} {N : Nat} {K : Fr → World → Prop} {ρ : Fr} {w : World} {d : Nat} {ty t e : TypeId} {pos : String} {af : Array Edge} {gd : Option (Nat × Bool)} {x y : Operand} {a2 : Option Addr} {b n m c2 sz bytes : Nat} {g : Bool} {zs : List Value} {cs : Array Value} {news : List Value} (ht : sle P t = some (e, (g, sz))) (hz : zer P e = some zs) (hzl : zs.length = sz) (hby : byt P e = some bytes) (hsz : 0 < sz)
    (hx : ev ρ x = .slice (some ⟨b, 0, none⟩) n n) (hB : Blk w b e cs) (hcs : cs.size = n * sz) (hy : ev ρ y = .slice a2 m c2) (hS : SlA w a2 news) (hl : news.length = m * sz)
    (hbig : (n + m) * bytes ≤ 140737488355328) (h63 : n + m ≤ maxLen) (hd : Nat.blt d N = true)
    (hk : ∀ w' a' cap', Ext [] w w' → Own w' e sz a' (n + m) cap' (cs.toList ++ news) → (∀ x ∈ blk a', x = b ∨ w.heap.size ≤ x) → K (upd ρ d (.slice a' (n + m) cap')) w') : Stp P N ρ ⟨some d, .call ⟨.builtin .append, #[x, y], #[t, t]⟩, ty, pos, af, gd⟩ w K := by
  obtain ⟨hu, hs⟩ := sle_spec ht
  obtain ⟨i, zv, hi, hzz, rfl, rfl, hzc⟩ := info_of hs hz hby
  have hzcs : zv.cells.size = i.size := by rw [← Array.length_toList, hzc]; exact hzl
  have hop : ∀ {v' w'}, (Builtin.append_ #[t, t] ty #[.slice (some ⟨b, 0, none⟩) n n, .slice a2 m c2]).run P w = .ok v' w' → Run P ρ ⟨some d, .call ⟨.builtin .append, #[x, y], #[t, t]⟩, ty, pos, af, gd⟩ w v' w' := by
    intro v' w' hr
    constructor; unfold execOp
    simp [hx, hy, resolve, invoke, builtin, hr]
  have h63' : n + m ≤ 9223372036854775807 := by simp only [maxLen] at h63; omega
  by_cases hm : m = 0
  · subst hm
    have hn0 : news = [] := List.eq_nil_of_length_eq_zero (by simpa using hl)
    subst hn0
    have hf : (Builtin.firstCells i.size 0 (.slice a2 0 c2)).run P w = .ok #[] w := by
      cases a2 with
      | none => simp [Builtin.firstCells]
      | some ad => simp [Builtin.firstCells, loadCells, loadCellsFrom]
    have hr : (Builtin.append_ #[t, t] ty #[.slice (some ⟨b, 0, none⟩) n n, .slice a2 0 c2]).run P w = .ok (.slice (some ⟨b, 0, none⟩) (n + 0) n) w := by
      simp [Builtin.append_, run_underlying hu, sizeOf, typeInfo, hi, Builtin.lenOf, hf, storeCells]
    exact S_run (hop hr) hd (hk w _ n .refl (by rw [List.append_nil]; exact hB.own hcs (by omega)) (fun x hx => .inl (by simpa [blk] using hx)))
  · have hne : news ≠ [] := fun h0 => by
      subst h0
      have : 0 < m * i.size := Nat.mul_pos (by omega) hsz
      simp at hl; omega
    obtain ⟨b2, o2, rfl⟩ := hS.head hne
    have hnews : ∀ j v, news[j]? = some v → w.cell? ((⟨b2, o2, none⟩ : Addr).add j) = some v := fun j v hj => by rw [at_add rfl]; exact hS.cell j v hj
    have holds : ∀ j u, cs.toList[j]? = some u → w.cell? ((⟨b, 0, none⟩ : Addr).add j) = some u := fun j u hj => by
      rw [addr_add, Nat.zero_add]
      exact Blk.cell hB (by simpa using hj)
    have hr := run_append_grow (P := P) w t ty e i zv hu hi hzz ⟨b, 0, none⟩ n n cs.toList (by simpa using hcs) holds ⟨b2, o2, none⟩ m c2 news hl hnews (by omega) (by omega) (growslice_fits (by omega) hbig)
    have hlen : (cs.toList ++ news).length = (n + m) * i.size := by rw [List.length_append, Array.length_toList, hcs, hl, Nat.add_mul]
    refine S_run (hop hr) hd (hk _ _ _ (Ext.drew0.then0 (ext_alloc _ _)) ⟨hlen, grownCap_ge w (n + m) n e, grownCap_le_maxLen w (n + m) n e h63, .inr ⟨w.heap.size, _, rfl, heap_alloc_new w.drew _, ?_, ?_⟩⟩ (fun x hx => .inr (by simp [blk] at hx; omega)))
    · have hge := grownCap_ge w (n + m) n e
      simp only [Array.size_append, List.size_toArray, size_zeroCells, hzcs, hcs, hl, ← Nat.add_mul]
      congr 1
      omega
    · simp only [Array.toList_append]
      rw [← hlen]
      exact List.take_left
end Go.K
