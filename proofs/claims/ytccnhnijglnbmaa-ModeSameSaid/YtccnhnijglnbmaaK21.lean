/- Appends whose outcome is new; pieces that are read together: over any program; no condition. -/
import Derived.Test.YtccnhnijglnbmaaK20
namespace Go.K
open Go Go.RowKit
/-- The same; where the outcome lies. -/
theorem S_appendD {P : Program} {N : Nat} {K : Fr → World → Prop} {ρ : Fr} {w : World} {d : Nat} {ty t e : TypeId} {pos : String} {af : Array Edge} {gd : Option (Nat × Bool)} {x y : Operand} {a2 : Option Addr} {b n m c2 bytes : Nat} {g : Bool} {z : Value} {cs : Array Value} {news : List Value} (ht : sle P t = some (e, (g, 1))) (hz : zer P e = some [z]) (hby : byt P e = some bytes)
    (hx : ev ρ x = .slice (some ⟨b, 0, none⟩) n n) (hB : Blk w b e cs) (hcs : cs.size = n) (hy : ev ρ y = .slice a2 m c2) (hS : SlA w a2 news) (hl : news.length = m)
    (hbig : (n + m) * bytes ≤ 140737488355328) (h63 : n + m ≤ maxLen) (hd : Nat.blt d N = true)
    (hk : ∀ w' a' cap', Ext [] w w' → SlA w' a' (cs.toList ++ news) → (∀ x ∈ blk a', x = b ∨ w.heap.size ≤ x) → K (upd ρ d (.slice a' (n + m) cap')) w') : Stp P N ρ ⟨some d, .call ⟨.builtin .append, #[x, y], #[t, t]⟩, ty, pos, af, gd⟩ w K := by
  obtain ⟨hu, hs⟩ := sle_spec ht
  obtain ⟨i, zv, hi, hzz, hsz, rfl, hzc⟩ := info_of hs hz hby
  have hop : ∀ {v' w'}, (Builtin.append_ #[t, t] ty #[.slice (some ⟨b, 0, none⟩) n n, .slice a2 m c2]).run P w = .ok v' w' → Run P ρ ⟨some d, .call ⟨.builtin .append, #[x, y], #[t, t]⟩, ty, pos, af, gd⟩ w v' w' := by
    intro v' w' hr
    constructor; unfold execOp
    simp [hx, hy, resolve, invoke, builtin, hr]
  have h63' : n + m ≤ 9223372036854775807 := by simp only [maxLen] at h63; omega
  by_cases hm : m = 0
  · subst hm
    have hn0 : news = [] := List.eq_nil_of_length_eq_zero hl
    subst hn0
    have hf : (Builtin.firstCells i.size 0 (.slice a2 0 c2)).run P w = .ok #[] w := by
      cases a2 with
      | none => simp [Builtin.firstCells]
      | some ad => simp [Builtin.firstCells, loadCells, loadCellsFrom]
    have hr : (Builtin.append_ #[t, t] ty #[.slice (some ⟨b, 0, none⟩) n n, .slice a2 0 c2]).run P w = .ok (.slice (some ⟨b, 0, none⟩) (n + 0) n) w := by
      simp [Builtin.append_, run_underlying hu, sizeOf, typeInfo, hi, Builtin.lenOf, hf, storeCells]
    exact S_run (hop hr) hd (hk w _ _ .refl (by rw [List.append_nil]; exact hB.sl0) (fun x hx => .inl (by simpa [blk] using hx)))
  · have hne : news ≠ [] := fun e => by subst e; simp at hl; omega
    obtain ⟨b2, o2, rfl⟩ := hS.head hne
    have hnews : ∀ j v, news[j]? = some v → w.cell? ((⟨b2, o2, none⟩ : Addr).add j) = some v := fun j v hj => by rw [at_add rfl]; exact hS.cell j v hj
    have holds : ∀ j u, cs.toList[j]? = some u → w.cell? ((⟨b, 0, none⟩ : Addr).add j) = some u := fun j u hj => by
      rw [addr_add, Nat.zero_add]
      exact Blk.cell hB (by simpa using hj)
    have hr := run_append_grow (P := P) w t ty e i zv hu hi hzz ⟨b, 0, none⟩ n n cs.toList (by rw [hsz]; simpa using hcs) holds ⟨b2, o2, none⟩ m c2 news (by rw [hsz]; omega) hnews (by omega) (by omega) (growslice_fits (by omega) hbig)
    refine S_run (hop hr) hd (hk _ _ _ (Ext.drew0.then0 (ext_alloc _ _)) ?_ (fun x hx => .inr (by simp [blk] at hx; omega)))
    have hnew := heap_alloc_new w.drew (.cells (cs.toList.toArray ++ news.toArray ++ Builtin.zeroCells zv.cells (grownCap w (n + m) n e - (n + m))) e)
    have hB2 : Blk (w.drew.alloc (.cells (cs.toList.toArray ++ news.toArray ++ Builtin.zeroCells zv.cells (grownCap w (n + m) n e - (n + m))) e)) w.heap.size e (cs.toList.toArray ++ news.toArray ++ Builtin.zeroCells zv.cells (grownCap w (n + m) n e - (n + m))) := hnew
    refine hB2.sl (fun j v hj => ?_)
    have hj' : j < (cs.toList ++ news).length := (List.getElem?_eq_some_iff.1 hj).1
    rw [Nat.zero_add]
    have e1 : (cs.toList.toArray ++ news.toArray ++ Builtin.zeroCells zv.cells (grownCap w (n + m) n e - (n + m)))[j]? = ((cs.toList ++ news) ++ (Builtin.zeroCells zv.cells (grownCap w (n + m) n e - (n + m))).toList)[j]? := by
      rw [← Array.getElem?_toList]; simp
    rw [e1, List.getElem?_append_left hj']
    exact hj
/-- A slice of bytes that is read, in new memory. -/
def IsSlN (W0 : Nat) (l : List Nat) : Value → World → Prop := fun v w => ∃ a c, v = .slice a l.length c ∧ SlA w a (l.map B) ∧ ∀ x ∈ blk a, W0 ≤ x
theorem IsSlN.st {W0 : Nat} {l : List Nat} : Stable (IsSlN W0 l) := fun _ _ _ ⟨a, c, h, hS, hf⟩ hE => ⟨a, c, h, hS.ext0 hE, hf⟩
/-- A slice literal in new memory. -/
def NewLit (W0 : Nat) (e : TypeId) (n : Nat) (cs : Array Value) : Value → World → Prop := fun v w => ∃ b, v = .slice (some ⟨b, 0, none⟩) n n ∧ Blk w b e cs ∧ W0 ≤ b
theorem NewLit.st {W0 : Nat} {e : TypeId} {n : Nat} {cs : Array Value} : Stable (NewLit W0 e n cs) := fun _ _ _ ⟨b, h, hB, hf⟩ hE => ⟨b, h, hB.ext0 hE, hf⟩
/-- Two rows of bytes that are read. -/
def R2 (a1 : Option Addr) (l1 : List Nat) (a2 : Option Addr) (l2 : List Nat) : Res := (Rs a1 (l1.map B)).and (Rs a2 (l2.map B))
theorem R2.new {a1 a2 : Option Addr} {l1 l2 : List Nat} {w w' : World} (hE : Ext [] w w') (h1 : SlA w' a1 (l1.map B)) (h2 : SlA w' a2 (l2.map B)) (f1 : ∀ x ∈ blk a1, w.heap.size ≤ x) (f2 : ∀ x ∈ blk a2, w.heap.size ≤ x) : New (R2 a1 l1 a2 l2) w w' :=
  ⟨hE, ⟨h1, h2⟩, fun x hx => by
    have h : x ∈ (Rs a1 (l1.map B)).fp ∨ x ∈ (Rs a2 (l2.map B)).fp := List.mem_append.1 hx
    simp only [Rs] at h
    rcases h with h | h
    · split at h
      · cases h
      · exact f1 x h
    · split at h
      · cases h
      · exact f2 x h⟩
end Go.K
