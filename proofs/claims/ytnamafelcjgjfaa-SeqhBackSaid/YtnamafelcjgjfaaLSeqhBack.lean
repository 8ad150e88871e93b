/- The law SeqhBack: any head as bytes, and back, whatever comes behind; what may not be; no condition. -/
import Derived.Test.YtnamafelcjgjfaaK23
import Derived.Test.YtnamafelcjgjfaaSh
import Derived.Test.YtnamafelcjgjfaaEsc
import Derived.Test.YtnamafelcjgjfaaK8
import Derived.Test.YtnamafelcjgjfaaRefPack
import Derived.Test.YtnamafelcjgjfaaBq
import Derived.Test.YtnamafelcjgjfaaLaw15
import Derived.Test.YtnamafelcjgjfaaRefSum
import Derived.Test.YtnamafelcjgjfaaRefEsc
import Derived.Test.YtnamafelcjgjfaaPSeqh2
import Derived.Test.YtnamafelcjgjfaaSeqhTake
namespace Go.K
open Go Go.RowKit
theorem S_appendE {P : Program} {N : Nat} {K : Fr → World → Prop} {ρ : Fr} {w : World} {d : Nat} {ty t e : TypeId} {pos : String} {af : Array Edge} {gd : Option (Nat × Bool)} {x y : Operand} {a2 : Option Addr} {b n m c2 sz bytes : Nat} {g : Bool} {zs : List Value} {cs : Array Value} {news : List Value} (ht : sle P t = some (e, (g, sz))) (hz : zer P e = some zs) (hzl : zs.length = sz) (hby : byt P e = some bytes) (hsz : 0 < sz)
    (hx : ev ρ x = .slice (some ⟨b, 0, none⟩) n n) (hB : Blk w b e cs) (hcs : cs.size = n * sz) (hy : ev ρ y = .slice a2 m c2) (hS : SlA w a2 news) (hl : news.length = m * sz)
    (hbig : (n + m) * bytes ≤ 140737488355328) (h63 : n + m ≤ maxLen) (hd : Nat.blt d N = true)
    (hk : ∀ w' a' cap', Ext [] w w' → Own w' e sz a' (n + m) cap' (cs.toList ++ news) → (∀ x ∈ blk a', x = b ∨ w.heap.size ≤ x) → K (upd ρ d (.slice a' (n + m) cap')) w') : Stp P N ρ ⟨some d, .call ⟨.builtin .append, #[x, y], #[t, t]⟩, ty, pos, af, gd⟩ w K := by
  obtain ⟨hu, hs⟩ := sle_spec ht
  obtain ⟨i, zv, hi, hzz, rfl, rfl, hzc⟩ := info_of hs hz hby
  have hzcs : zv.cells.size = i.size := by rw [← Array.length_toList, hzc]; exact hzl
  have hop : ∀ {v' w'}, (Builtin.append_ #[t, t] ty #[.slice (some ⟨b, 0, none⟩) n n, .slice a2 m c2]).run P w = .ok v' w' → Run P ρ ⟨some d, .call ⟨.builtin .append, #[x, y], #[t, t]⟩, ty, pos, af, gd⟩ w v' w' := by
    intro v' w' hr
    constructor; unfold execOp
    simp [hx, hy, resolve, invoke, builtin, hr]
  have h63' : n + m ≤ 9223372036854775807 := by simp only [maxLen] at h63; omega
  by_cases hm : m = 0
  · subst hm
    have hn0 : news = [] := List.eq_nil_of_length_eq_zero (by simpa using hl)
    subst hn0
    have hf : (Builtin.firstCells i.size 0 (.slice a2 0 c2)).run P w = .ok #[] w := by
      cases a2 with
      | none => simp [Builtin.firstCells]
      | some ad => simp [Builtin.firstCells, loadCells, loadCellsFrom]
    have hr : (Builtin.append_ #[t, t] ty #[.slice (some ⟨b, 0, none⟩) n n, .slice a2 0 c2]).run P w = .ok (.slice (some ⟨b, 0, none⟩) (n + 0) n) w := by
      simp [Builtin.append_, run_underlying hu, sizeOf, typeInfo, hi, Builtin.lenOf, hf, storeCells]
    exact S_run (hop hr) hd (hk w _ n .refl (by rw [List.append_nil]; exact hB.own hcs (by omega)) (fun x hx => .inl (by simpa [blk] using hx)))
  · have hne : news ≠ [] := fun h0 => by
      subst h0
      have : 0 < m * i.size := Nat.mul_pos (by omega) hsz
      simp at hl; omega
    obtain ⟨b2, o2, rfl⟩ := hS.head hne
    have hnews : ∀ j v, news[j]? = some v → w.cell? ((⟨b2, o2, none⟩ : Addr).add j) = some v := fun j v hj => by rw [at_add rfl]; exact hS.cell j v hj
    have holds : ∀ j u, cs.toList[j]? = some u → w.cell? ((⟨b, 0, none⟩ : Addr).add j) = some u := fun j u hj => by
      rw [addr_add, Nat.zero_add]
      exact Blk.cell hB (by simpa using hj)
    have hr := run_append_grow (P := P) w t ty e i zv hu hi hzz ⟨b, 0, none⟩ n n cs.toList (by simpa using hcs) holds ⟨b2, o2, none⟩ m c2 news hl hnews (by omega) (by omega) (growslice_fits (by omega) hbig)
    have hlen : (cs.toList ++ news).length = (n + m) * i.size := by rw [List.length_append, Array.length_toList, hcs, hl, Nat.add_mul]
    refine S_run (hop hr) hd (hk _ _ _ (Ext.drew0.then0 (ext_alloc _ _)) ⟨hlen, grownCap_ge w (n + m) n e, grownCap_le_maxLen w (n + m) n e h63, .inr ⟨w.heap.size, _, rfl, heap_alloc_new w.drew _, ?_, ?_⟩⟩ (fun x hx => .inr (by simp [blk] at hx; omega)))
    · have hge := grownCap_ge w (n + m) n e
      simp only [Array.size_append, List.size_toArray, size_zeroCells, hzcs, hcs, hl, ← Nat.add_mul]
      congr 1
      omega
    · simp only [Array.toList_append]
      rw [← hlen]
      exact List.take_left
end Go.K

namespace Go.K
open Go Go.RowKit
section
variable {P : Program} {ρ : Fr} {w : World} {dst : Option Nat} {ty t : TypeId} {pos : String} {af : Array Edge} {gd : Option (Nat × Bool)} {x : Operand}
theorem k_sla {b o n sz : Nat} {g : Bool} (hx : ev ρ x = .pointer (some ⟨b, o, none⟩)) (ht : arr P t = some (n, (g, sz))) : Run P ρ ⟨dst, .slice t x none none none, ty, pos, af, gd⟩ w (.slice (some ⟨b, o, none⟩) n n) w := by
  obtain ⟨e, hu, hs⟩ := arr_spec ht
  have h0 : (if n = 0 then (⟨b, o, none⟩ : Addr) else (⟨b, o, none⟩ : Addr).add 0) = ⟨b, o, none⟩ := by split <;> rfl
  constructor; unfold execOp
  simp [hx, Instr.sliceAt, Instr.sureAddr, run_underlying hu, Instr.sliceBounds, shp_size hs, h0]
end
/-- Two of the pieces. -/
theorem Hp.two {S : List Nat} {W w : World} {H : List Res} {r s : Res} (i j : Nat) (h : Hp S W w H) (hi : H[i]? = some r) (hj : H[j]? = some s) (hne : i ≠ j) : Hp S W w [r, s] := by
  refine ⟨h.ext, fun x hx => ?_, fun x hx => ?_, by simpa using h.dj i j hi hj hne⟩
  · simp at hx
    rcases hx with rfl | rfl
    · exact h.at i hi
    · exact h.at j hj
  · simp at hx
    rcases hx with rfl | rfl
    · exact h.new x (List.mem_of_getElem? hi)
    · exact h.new x (List.mem_of_getElem? hj)
end Go.K

namespace Go.Proofs.Ytnamafelcjgjfaa
open Go Go.K Go.P Go.RowKit Go.Proofs
def few (n : Nat) : Nat := [0, 0, 0, 0, 1, 2, 3, 3, 4, 255].getD (n % 10) 0
theorem few_lt (n : Nat) : few n < 256 := by
  have h : ∀ m, m < 10 → [0, 0, 0, 0, 1, 2, 3, 3, 4, 255].getD m 0 < 256 := by decide
  exact h _ (Nat.mod_lt _ (by decide))
theorem byt_few (l : List Nat) : Byt (l.map few) := fun x hx => by
  obtain ⟨n, _, rfl⟩ := List.mem_map.1 hx
  exact few_lt n
theorem few_at (n : Nat) : ([0, 0, 0, 0, 1, 2, 3, 3, 4, 255].map B)[((n : Int) % 10).toNat]? = some (B (few n)) := by
  have h1 : ((n : Int) % 10).toNat = n % 10 := by omega
  have h2 : n % 10 < 10 := Nat.mod_lt _ (by decide)
  rw [h1, List.getElem?_map]
  unfold few
  generalize n % 10 = m at *
  have h : ∀ m, m < 10 → ([0, 0, 0, 0, 1, 2, 3, 3, 4, 255] : List Nat)[m]? = some ([0, 0, 0, 0, 1, 2, 3, 3, 4, 255].getD m 0) := by decide
  rw [h m h2]; rfl
set_option maxHeartbeats 1000000 in
theorem bytes_spec {a : Option Addr} {n cap : Nat} {l : List Nat} {w : World} (hS : SlA w a (l.map B)) (hl : Byt l) (hn : l.length = n) (hlen : n ≤ 1099511627776) :
    Does Try.prog 18 #[.slice a n cap] w fun v w' => ∃ a' c', v = .slice a' n c' ∧ New (RB a' c' (l.map few)) w w' := by
  subst hn
  refine Does_of (args := [_]) Try.func18 rfl rfl Try.ntmps18 rfl ?_
  have hH := (Hp.start w).nu (New.nilO (e := 5) (sz := 1))
  repeat (first | refine WS_seq ?_ | refine WS_region ?_ | refine WL_nil ?_ | refine WS_block ?_ | refine WS_inBlock ?_ | refine WS_skip ?_ | refine WS_label ?_ | refine WS_scope ?_ | refine WS_inScope ?_ | refine WS_exit rfl ?_ | refine WS_true rfl ?_ | refine WS_false rfl ?_ | refine WS_yes rfl (by omega) ?_ | refine WS_no rfl (by omega) ?_ | refine WL_gyes rfl rfl rfl ?_ | refine WL_gno rfl rfl rfl rfl rfl ?_ | refine WL_gund rfl rfl rfl ?_ | refine WL_gyes rfl rfl (dF (by omega)) ?_ | refine WL_gyes rfl rfl (dT (by omega)) ?_ | refine WL_gno (b := false) rfl rfl (dF (by omega)) rfl rfl ?_ | refine WL_gno (b := true) rfl rfl (dT (by omega)) rfl rfl ?_ | (refine WL_r (by first | refine Run_pev rfl | refine k_add64 rfl rfl (by omega) | refine k_sub64 rfl rfl (by omega) | refine k_len rfl (Ty.isl rfl) | refine k_not rfl | refine k_notb rfl | refine k_min rfl rfl | refine k_max rfl rfl | refine k_mul64 rfl rfl (by omega) | refine k_quo64 rfl rfl (by omega) | refine k_rem rfl rfl (by omega) | refine k_extract rfl rfl | refine k_convI rfl rfl rfl (by omega) | refine k_conv16 rfl rfl rfl (by omega) | refine k_conv64 rfl rfl rfl (by omega) | refine k_conv8 rfl rfl rfl (by omega) | refine k_convB rfl rfl rfl | refine k_convH rfl rfl rfl | refine k_convQ rfl rfl rfl | refine k_pick_f (dF (by omega)) rfl | refine k_pick_t (dT (by omega)) rfl) rfl ?_))
  refine WS_loop (G := (Nat) × (Option Addr) × (Nat)) (fun | (k, a1, c1) => l.length - k) 2096936 (fun | (k, a1, c1) => [(8, .int .i64 k), (3, .slice a1 k c1)]) (fun | (k, a1, c1), w' => k ≤ l.length ∧ Hp [] w w' [Ro 5 1 a1 k c1 (((l.map few).take k).map B)]) (0, none, 0) ⟨rfl, rfl, trivial⟩ ⟨by omega, hH⟩ ?_
  rintro ⟨k, a1, c1⟩ w' σ ⟨hk, hH⟩ IH
  show WS _ _ _ _ _ (updL [(8, .int .i64 k), (3, .slice a1 k c1)] _) _
  by_cases hlt : k < l.length
  · have hv : (l.map B)[k]? = some (B l[k]) := by simp [hlt]
    have e1 : ((l.map few).take (k + 1)).map B = ((l.map few).take k).map B ++ [B (few l[k])] := by rw [List.take_succ_eq_append_getElem (by simpa using hlt)]; simp
    have hc : l[k] < 256 := hl _ (List.getElem_mem hlt)
    generalize l[k] = c at *
    have hSk := hH.old hS
    repeat (first | refine WS_seq ?_ | refine WS_region ?_ | refine WL_nil ?_ | refine WS_block ?_ | refine WS_inBlock ?_ | refine WS_skip ?_ | refine WS_label ?_ | refine WS_scope ?_ | refine WS_inScope ?_ | refine WS_exit rfl ?_ | refine WS_true rfl ?_ | refine WS_false rfl ?_ | refine WS_yes rfl (by omega) ?_ | refine WS_no rfl (by omega) ?_ | refine WL_gyes rfl rfl rfl ?_ | refine WL_gno rfl rfl rfl rfl rfl ?_ | refine WL_gund rfl rfl rfl ?_ | refine WL_gyes rfl rfl (dF (by omega)) ?_ | refine WL_gyes rfl rfl (dT (by omega)) ?_ | refine WL_gno (b := false) rfl rfl (dF (by omega)) rfl rfl ?_ | refine WL_gno (b := true) rfl rfl (dT (by omega)) rfl rfl ?_ | (refine WL_r (by first | refine k_ix1 rfl rfl hSk (by simp) (Ty.sle rfl) (by omega) | refine k_loads rfl hSk hv (Ty.shp rfl) | refine Run_pev rfl | refine k_add64 rfl rfl (by omega) | refine k_sub64 rfl rfl (by omega) | refine k_len rfl (Ty.isl rfl) | refine k_not rfl | refine k_notb rfl | refine k_min rfl rfl | refine k_max rfl rfl | refine k_mul64 rfl rfl (by omega) | refine k_quo64 rfl rfl (by omega) | refine k_rem rfl rfl (by omega) | refine k_extract rfl rfl | refine k_convI rfl rfl rfl (by omega) | refine k_conv16 rfl rfl rfl (by omega) | refine k_conv64 rfl rfl rfl (by omega) | refine k_conv8 rfl rfl rfl (by omega) | refine k_convB rfl rfl rfl | refine k_convH rfl rfl rfl | refine k_convQ rfl rfl rfl | refine k_pick_f (dF (by omega)) rfl | refine k_pick_t (dT (by omega)) rfl) rfl ?_))
    try refine WL_gyes rfl rfl rfl ?_
    refine WL_s (H_lit (out := [B 0, B 0, B 0, B 0, B 1, B 2, B 3, B 3, B 4, B 255]) hH (Ty.sle rfl) (Ty.zer rfl) rfl rfl rfl (by decide) rfl ?_)
    try clear hH
    intro _ b2 hH
    first | change Hp _ _ _ [] at hH | change Hp _ _ _ [_] at hH | change Hp _ _ _ [_, _] at hH | change Hp _ _ _ [_, _, _] at hH | change Hp _ _ _ [_, _, _, _] at hH | change Hp _ _ _ [_, _, _, _, _] at hH | change Hp _ _ _ [_, _, _, _, _, _] at hH | change Hp _ _ _ [_, _, _, _, _, _, _] at hH | change Hp _ _ _ [_, _, _, _, _, _, _, _] at hH | change Hp _ _ _ [_, _, _, _, _, _, _, _, _] at hH
    have hfew := few_at c
    have hS2 := (hH.b 1 rfl).sl0
    repeat (first | refine WS_seq ?_ | refine WS_region ?_ | refine WL_nil ?_ | refine WS_block ?_ | refine WS_inBlock ?_ | refine WS_skip ?_ | refine WS_label ?_ | refine WS_scope ?_ | refine WS_inScope ?_ | refine WS_exit rfl ?_ | refine WS_true rfl ?_ | refine WS_false rfl ?_ | refine WS_yes rfl (by omega) ?_ | refine WS_no rfl (by omega) ?_ | refine WL_gyes rfl rfl rfl ?_ | refine WL_gno rfl rfl rfl rfl rfl ?_ | refine WL_gund rfl rfl rfl ?_ | refine WL_gyes rfl rfl (dF (by omega)) ?_ | refine WL_gyes rfl rfl (dT (by omega)) ?_ | refine WL_gno (b := false) rfl rfl (dF (by omega)) rfl rfl ?_ | refine WL_gno (b := true) rfl rfl (dT (by omega)) rfl rfl ?_ | (refine WL_r (by first | refine k_ix1 rfl rfl hS2 rfl (Ty.sle rfl) (by omega) | refine k_loads rfl hS2 hfew (Ty.shp rfl) | refine Run_pev rfl | refine k_add64 rfl rfl (by omega) | refine k_sub64 rfl rfl (by omega) | refine k_len rfl (Ty.isl rfl) | refine k_not rfl | refine k_notb rfl | refine k_min rfl rfl | refine k_max rfl rfl | refine k_mul64 rfl rfl (by omega) | refine k_quo64 rfl rfl (by omega) | refine k_rem rfl rfl (by omega) | refine k_extract rfl rfl | refine k_convI rfl rfl rfl (by omega) | refine k_conv16 rfl rfl rfl (by omega) | refine k_conv64 rfl rfl rfl (by omega) | refine k_conv8 rfl rfl rfl (by omega) | refine k_convB rfl rfl rfl | refine k_convH rfl rfl rfl | refine k_convQ rfl rfl rfl | refine k_pick_f (dF (by omega)) rfl | refine k_pick_t (dT (by omega)) rfl) rfl ?_))
    try refine WL_gyes rfl rfl rfl ?_
    refine WL_s (H_lit (out := [B (few c)]) hH (Ty.sle rfl) (Ty.zer rfl) rfl rfl rfl (by decide) rfl ?_)
    try clear hH
    intro _ blit hH
    first | change Hp _ _ _ [] at hH | change Hp _ _ _ [_] at hH | change Hp _ _ _ [_, _] at hH | change Hp _ _ _ [_, _, _] at hH | change Hp _ _ _ [_, _, _, _] at hH | change Hp _ _ _ [_, _, _, _, _] at hH | change Hp _ _ _ [_, _, _, _, _, _] at hH | change Hp _ _ _ [_, _, _, _, _, _, _] at hH | change Hp _ _ _ [_, _, _, _, _, _, _, _] at hH | change Hp _ _ _ [_, _, _, _, _, _, _, _, _] at hH
    try refine WL_gyes rfl rfl rfl ?_
    refine WL_s (H_append 0 hH rfl (Ty.sle rfl) (Ty.zer rfl) rfl (Ty.byt rfl) (by decide) rfl rfl ((hH.b 2 rfl).sl0) (by simp; try omega) (by simp) (by omega) (by simp only [maxLen]; omega) rfl ?_)
    try clear hH
    intro _ a2 c2 hH
    first | change Hp _ _ _ [] at hH | change Hp _ _ _ [_] at hH | change Hp _ _ _ [_, _] at hH | change Hp _ _ _ [_, _, _] at hH | change Hp _ _ _ [_, _, _, _] at hH | change Hp _ _ _ [_, _, _, _, _] at hH | change Hp _ _ _ [_, _, _, _, _, _] at hH | change Hp _ _ _ [_, _, _, _, _, _, _] at hH | change Hp _ _ _ [_, _, _, _, _, _, _, _] at hH | change Hp _ _ _ [_, _, _, _, _, _, _, _, _] at hH
    replace hH := hH.del 2
    first | change Hp _ _ _ [] at hH | change Hp _ _ _ [_] at hH | change Hp _ _ _ [_, _] at hH | change Hp _ _ _ [_, _, _] at hH | change Hp _ _ _ [_, _, _, _] at hH | change Hp _ _ _ [_, _, _, _, _] at hH | change Hp _ _ _ [_, _, _, _, _, _] at hH | change Hp _ _ _ [_, _, _, _, _, _, _] at hH | change Hp _ _ _ [_, _, _, _, _, _, _, _] at hH | change Hp _ _ _ [_, _, _, _, _, _, _, _, _] at hH
    repeat (first | refine WS_seq ?_ | refine WS_region ?_ | refine WL_nil ?_ | refine WS_block ?_ | refine WS_inBlock ?_ | refine WS_skip ?_ | refine WS_label ?_ | refine WS_scope ?_ | refine WS_inScope ?_ | refine WS_exit rfl ?_ | refine WS_true rfl ?_ | refine WS_false rfl ?_ | refine WS_yes rfl (by omega) ?_ | refine WS_no rfl (by omega) ?_ | refine WL_gyes rfl rfl rfl ?_ | refine WL_gno rfl rfl rfl rfl rfl ?_ | refine WL_gund rfl rfl rfl ?_ | refine WL_gyes rfl rfl (dF (by omega)) ?_ | refine WL_gyes rfl rfl (dT (by omega)) ?_ | refine WL_gno (b := false) rfl rfl (dF (by omega)) rfl rfl ?_ | refine WL_gno (b := true) rfl rfl (dT (by omega)) rfl rfl ?_ | (refine WL_r (by first | refine k_ix1 rfl rfl hS2 rfl (Ty.sle rfl) (by omega) | refine k_loads rfl hS2 hfew (Ty.shp rfl) | refine Run_pev rfl | refine k_add64 rfl rfl (by omega) | refine k_sub64 rfl rfl (by omega) | refine k_len rfl (Ty.isl rfl) | refine k_not rfl | refine k_notb rfl | refine k_min rfl rfl | refine k_max rfl rfl | refine k_mul64 rfl rfl (by omega) | refine k_quo64 rfl rfl (by omega) | refine k_rem rfl rfl (by omega) | refine k_extract rfl rfl | refine k_convI rfl rfl rfl (by omega) | refine k_conv16 rfl rfl rfl (by omega) | refine k_conv64 rfl rfl rfl (by omega) | refine k_conv8 rfl rfl rfl (by omega) | refine k_convB rfl rfl rfl | refine k_convH rfl rfl rfl | refine k_convQ rfl rfl rfl | refine k_pick_f (dF (by omega)) rfl | refine k_pick_t (dT (by omega)) rfl) rfl ?_))
    replace hH := hH.del 1
    refine IH (k + 1, a2, c2) _ _ ?_ ?_ ?_ ?_
    · simp only; omega
    · exact ⟨rfl, rfl, trivial⟩
    · exact (by repeat (first | with_reducible apply Agr.refl | refine Agr.upd rfl ?_ | refine Agr.updo rfl ?_ | refine Agr.updL rfl ?_ | refine Agr.mrg rfl ?_ | exact Agr.refl | refine Agr.updn ?_))
    · exact ⟨by omega, by rw [e1]; exact hH⟩
  · obtain rfl : k = l.length := by omega
    rw [List.take_of_length_le (by simp)] at hH
    repeat (first | refine WS_seq ?_ | refine WS_region ?_ | refine WL_nil ?_ | refine WS_block ?_ | refine WS_inBlock ?_ | refine WS_skip ?_ | refine WS_label ?_ | refine WS_scope ?_ | refine WS_inScope ?_ | refine WS_exit rfl ?_ | refine WS_true rfl ?_ | refine WS_false rfl ?_ | refine WS_yes rfl (by omega) ?_ | refine WS_no rfl (by omega) ?_ | refine WL_gyes rfl rfl rfl ?_ | refine WL_gno rfl rfl rfl rfl rfl ?_ | refine WL_gund rfl rfl rfl ?_ | refine WL_gyes rfl rfl (dF (by omega)) ?_ | refine WL_gyes rfl rfl (dT (by omega)) ?_ | refine WL_gno (b := false) rfl rfl (dF (by omega)) rfl rfl ?_ | refine WL_gno (b := true) rfl rfl (dT (by omega)) rfl rfl ?_ | (refine WL_r (by first | refine Run_pev rfl | refine k_add64 rfl rfl (by omega) | refine k_sub64 rfl rfl (by omega) | refine k_len rfl (Ty.isl rfl) | refine k_not rfl | refine k_notb rfl | refine k_min rfl rfl | refine k_max rfl rfl | refine k_mul64 rfl rfl (by omega) | refine k_quo64 rfl rfl (by omega) | refine k_rem rfl rfl (by omega) | refine k_extract rfl rfl | refine k_convI rfl rfl rfl (by omega) | refine k_conv16 rfl rfl rfl (by omega) | refine k_conv64 rfl rfl rfl (by omega) | refine k_conv8 rfl rfl rfl (by omega) | refine k_convB rfl rfl rfl | refine k_convH rfl rfl rfl | refine k_convQ rfl rfl rfl | refine k_pick_f (dF (by omega)) rfl | refine k_pick_t (dT (by omega)) rfl) rfl ?_))
    refine WS_ret1 Try.func18 rfl ⟨_, _, rfl, (hH.new1 0 rfl).as (r' := RB a1 c1 (l.map few)) (fun _ h => h) (fun h => ?_)⟩
    simpa [RB, Ro] using h
end Go.Proofs.Ytnamafelcjgjfaa

namespace Go.Proofs.Ytnamafelcjgjfaa
open Go Go.K Go.P Go.RowKit Go.Proofs
theorem rdone_spec {a : Option Addr} {n cap : Nat} {bs : List Bool} {w : World} (hS : SlA w a (bq bs)) (hn : bs.length = n) (hlen : n ≤ 1073741824) :
    Does Try.prog 54 #[.slice a n cap] w fun v w' => ∃ a' c', v = .slice a' (pk (bs ++ [true])).length c' ∧ New (Ro 5 1 a' (pk (bs ++ [true])).length c' ((pk (bs ++ [true])).map B)) w w' := by
  subst hn
  refine Does_of (args := [_]) Try.func54 rfl rfl Try.ntmps54 rfl ?_
  have hH := Hp.start w
  have hln : (bq bs).length = bs.length * 1 := by rw [bq_len, Nat.mul_one]
  repeat (first | refine WS_seq ?_ | refine WS_region ?_ | refine WL_nil ?_ | refine WS_block ?_ | refine WS_inBlock ?_ | refine WS_skip ?_ | refine WS_label ?_ | refine WS_scope ?_ | refine WS_inScope ?_ | refine WS_exit rfl ?_ | refine WS_true rfl ?_ | refine WS_false rfl ?_ | refine WS_yes rfl (by omega) ?_ | refine WS_no rfl (by omega) ?_ | refine WL_gyes rfl rfl rfl ?_ | refine WL_gno rfl rfl rfl rfl rfl ?_ | refine WL_gund rfl rfl rfl ?_ | refine WL_gyes rfl rfl (dF (by omega)) ?_ | refine WL_gyes rfl rfl (dT (by omega)) ?_ | refine WL_gno (b := false) rfl rfl (dF (by omega)) rfl rfl ?_ | refine WL_gno (b := true) rfl rfl (dT (by omega)) rfl rfl ?_ | (refine WL_r (by first | refine Run_pev rfl | refine k_add64 rfl rfl (by omega) | refine k_sub64 rfl rfl (by omega) | refine k_len rfl (Ty.isl rfl) | refine k_not rfl | refine k_notb rfl | refine k_min rfl rfl | refine k_max rfl rfl | refine k_mul64 rfl rfl (by omega) | refine k_quo64 rfl rfl (by omega) | refine k_rem rfl rfl (by omega) | refine k_extract rfl rfl | refine k_convI rfl rfl rfl (by omega) | refine k_conv16 rfl rfl rfl (by omega) | refine k_conv64 rfl rfl rfl (by omega) | refine k_conv8 rfl rfl rfl (by omega) | refine k_convB rfl rfl rfl | refine k_convH rfl rfl rfl | refine k_convQ rfl rfl rfl | refine k_pick_f (dF (by omega)) rfl | refine k_pick_t (dT (by omega)) rfl) rfl ?_))
  try refine WL_gyes rfl rfl rfl ?_
  refine WL_s (H_lit (out := []) hH (Ty.sle rfl) (Ty.zer rfl) rfl rfl rfl (by decide) rfl ?_)
  try clear hH
  intro _ b3 hH
  first | change Hp _ _ _ [] at hH | change Hp _ _ _ [_] at hH | change Hp _ _ _ [_, _] at hH | change Hp _ _ _ [_, _, _] at hH | change Hp _ _ _ [_, _, _, _] at hH | change Hp _ _ _ [_, _, _, _, _] at hH | change Hp _ _ _ [_, _, _, _, _, _] at hH | change Hp _ _ _ [_, _, _, _, _, _, _] at hH | change Hp _ _ _ [_, _, _, _, _, _, _, _] at hH | change Hp _ _ _ [_, _, _, _, _, _, _, _, _] at hH
  replace hH := hH.as 0 rfl (r' := Ro 5 1 (some ⟨b3, 0, none⟩) 0 0 []) (fun _ h => h) (fun h => (h : Blk _ _ _ _).own (n := 0) (sz := 1) rfl (by decide))
  first | change Hp _ _ _ [] at hH | change Hp _ _ _ [_] at hH | change Hp _ _ _ [_, _] at hH | change Hp _ _ _ [_, _, _] at hH | change Hp _ _ _ [_, _, _, _] at hH | change Hp _ _ _ [_, _, _, _, _] at hH | change Hp _ _ _ [_, _, _, _, _, _] at hH | change Hp _ _ _ [_, _, _, _, _, _, _] at hH | change Hp _ _ _ [_, _, _, _, _, _, _, _] at hH | change Hp _ _ _ [_, _, _, _, _, _, _, _, _] at hH
  repeat (first | refine WS_seq ?_ | refine WS_region ?_ | refine WL_nil ?_ | refine WS_block ?_ | refine WS_inBlock ?_ | refine WS_skip ?_ | refine WS_label ?_ | refine WS_scope ?_ | refine WS_inScope ?_ | refine WS_exit rfl ?_ | refine WS_true rfl ?_ | refine WS_false rfl ?_ | refine WS_yes rfl (by omega) ?_ | refine WS_no rfl (by omega) ?_ | refine WL_gyes rfl rfl rfl ?_ | refine WL_gno rfl rfl rfl rfl rfl ?_ | refine WL_gund rfl rfl rfl ?_ | refine WL_gyes rfl rfl (dF (by omega)) ?_ | refine WL_gyes rfl rfl (dT (by omega)) ?_ | refine WL_gno (b := false) rfl rfl (dF (by omega)) rfl rfl ?_ | refine WL_gno (b := true) rfl rfl (dT (by omega)) rfl rfl ?_ | (refine WL_r (by first | refine Run_pev rfl | refine k_add64 rfl rfl (by omega) | refine k_sub64 rfl rfl (by omega) | refine k_len rfl (Ty.isl rfl) | refine k_not rfl | refine k_notb rfl | refine k_min rfl rfl | refine k_max rfl rfl | refine k_mul64 rfl rfl (by omega) | refine k_quo64 rfl rfl (by omega) | refine k_rem rfl rfl (by omega) | refine k_extract rfl rfl | refine k_convI rfl rfl rfl (by omega) | refine k_conv16 rfl rfl rfl (by omega) | refine k_conv64 rfl rfl rfl (by omega) | refine k_conv8 rfl rfl rfl (by omega) | refine k_convB rfl rfl rfl | refine k_convH rfl rfl rfl | refine k_convQ rfl rfl rfl | refine k_pick_f (dF (by omega)) rfl | refine k_pick_t (dT (by omega)) rfl) rfl ?_))
  refine WL_s (H_append 0 hH rfl (Ty.sle rfl) (Ty.zer rfl) rfl (Ty.byt rfl) (by decide) rfl rfl (hH.old hS) hln (bq_one _) (by omega) (by simp only [maxLen]; omega) rfl ?_)
  clear hH
  intro _ a5 c5 hH
  first | change Hp _ _ _ [] at hH | change Hp _ _ _ [_] at hH | change Hp _ _ _ [_, _] at hH | change Hp _ _ _ [_, _, _] at hH | change Hp _ _ _ [_, _, _, _] at hH | change Hp _ _ _ [_, _, _, _, _] at hH | change Hp _ _ _ [_, _, _, _, _, _] at hH | change Hp _ _ _ [_, _, _, _, _, _, _] at hH | change Hp _ _ _ [_, _, _, _, _, _, _, _] at hH | change Hp _ _ _ [_, _, _, _, _, _, _, _, _] at hH
  rw [List.nil_append, Nat.zero_add] at hH
  rw [Nat.zero_add]
  repeat (first | refine WS_seq ?_ | refine WS_region ?_ | refine WL_nil ?_ | refine WS_block ?_ | refine WS_inBlock ?_ | refine WS_skip ?_ | refine WS_label ?_ | refine WS_scope ?_ | refine WS_inScope ?_ | refine WS_exit rfl ?_ | refine WS_true rfl ?_ | refine WS_false rfl ?_ | refine WS_yes rfl (by omega) ?_ | refine WS_no rfl (by omega) ?_ | refine WL_gyes rfl rfl rfl ?_ | refine WL_gno rfl rfl rfl rfl rfl ?_ | refine WL_gund rfl rfl rfl ?_ | refine WL_gyes rfl rfl (dF (by omega)) ?_ | refine WL_gyes rfl rfl (dT (by omega)) ?_ | refine WL_gno (b := false) rfl rfl (dF (by omega)) rfl rfl ?_ | refine WL_gno (b := true) rfl rfl (dT (by omega)) rfl rfl ?_ | (refine WL_r (by first | refine k_assign rfl | refine Run_pev rfl | refine k_add64 rfl rfl (by omega) | refine k_sub64 rfl rfl (by omega) | refine k_len rfl (Ty.isl rfl) | refine k_not rfl | refine k_notb rfl | refine k_min rfl rfl | refine k_max rfl rfl | refine k_mul64 rfl rfl (by omega) | refine k_quo64 rfl rfl (by omega) | refine k_rem rfl rfl (by omega) | refine k_extract rfl rfl | refine k_convI rfl rfl rfl (by omega) | refine k_conv16 rfl rfl rfl (by omega) | refine k_conv64 rfl rfl rfl (by omega) | refine k_conv8 rfl rfl rfl (by omega) | refine k_convB rfl rfl rfl | refine k_convH rfl rfl rfl | refine k_convQ rfl rfl rfl | refine k_pick_f (dF (by omega)) rfl | refine k_pick_t (dT (by omega)) rfl) rfl ?_))
  try refine WL_gyes rfl rfl rfl ?_
  refine WL_s (H_lit (out := [B 1]) hH (Ty.sle rfl) (Ty.zer rfl) rfl rfl rfl (by decide) rfl ?_)
  try clear hH
  intro _ blit hH
  first | change Hp _ _ _ [] at hH | change Hp _ _ _ [_] at hH | change Hp _ _ _ [_, _] at hH | change Hp _ _ _ [_, _, _] at hH | change Hp _ _ _ [_, _, _, _] at hH | change Hp _ _ _ [_, _, _, _, _] at hH | change Hp _ _ _ [_, _, _, _, _, _] at hH | change Hp _ _ _ [_, _, _, _, _, _, _] at hH | change Hp _ _ _ [_, _, _, _, _, _, _, _] at hH | change Hp _ _ _ [_, _, _, _, _, _, _, _, _] at hH
  try refine WL_gyes rfl rfl rfl ?_
  refine WL_s (H_append 0 hH rfl (Ty.sle rfl) (Ty.zer rfl) rfl (Ty.byt rfl) (by decide) rfl rfl ((hH.b 1 rfl).sl0) (by simp; try omega) (by simp) (by omega) (by simp only [maxLen]; omega) rfl ?_)
  try clear hH
  intro _ a6 c6 hH
  first | change Hp _ _ _ [] at hH | change Hp _ _ _ [_] at hH | change Hp _ _ _ [_, _] at hH | change Hp _ _ _ [_, _, _] at hH | change Hp _ _ _ [_, _, _, _] at hH | change Hp _ _ _ [_, _, _, _, _] at hH | change Hp _ _ _ [_, _, _, _, _, _] at hH | change Hp _ _ _ [_, _, _, _, _, _, _] at hH | change Hp _ _ _ [_, _, _, _, _, _, _, _] at hH | change Hp _ _ _ [_, _, _, _, _, _, _, _, _] at hH
  replace hH := hH.del 1
  first | change Hp _ _ _ [] at hH | change Hp _ _ _ [_] at hH | change Hp _ _ _ [_, _] at hH | change Hp _ _ _ [_, _, _] at hH | change Hp _ _ _ [_, _, _, _] at hH | change Hp _ _ _ [_, _, _, _, _] at hH | change Hp _ _ _ [_, _, _, _, _, _] at hH | change Hp _ _ _ [_, _, _, _, _, _, _] at hH | change Hp _ _ _ [_, _, _, _, _, _, _, _] at hH | change Hp _ _ _ [_, _, _, _, _, _, _, _, _] at hH
  repeat (first | refine WS_seq ?_ | refine WS_region ?_ | refine WL_nil ?_ | refine WS_block ?_ | refine WS_inBlock ?_ | refine WS_skip ?_ | refine WS_label ?_ | refine WS_scope ?_ | refine WS_inScope ?_ | refine WS_exit rfl ?_ | refine WS_true rfl ?_ | refine WS_false rfl ?_ | refine WS_yes rfl (by omega) ?_ | refine WS_no rfl (by omega) ?_ | refine WL_gyes rfl rfl rfl ?_ | refine WL_gno rfl rfl rfl rfl rfl ?_ | refine WL_gund rfl rfl rfl ?_ | refine WL_gyes rfl rfl (dF (by omega)) ?_ | refine WL_gyes rfl rfl (dT (by omega)) ?_ | refine WL_gno (b := false) rfl rfl (dF (by omega)) rfl rfl ?_ | refine WL_gno (b := true) rfl rfl (dT (by omega)) rfl rfl ?_ | (refine WL_r (by first | refine k_assign rfl | refine Run_pev rfl | refine k_add64 rfl rfl (by omega) | refine k_sub64 rfl rfl (by omega) | refine k_len rfl (Ty.isl rfl) | refine k_not rfl | refine k_notb rfl | refine k_min rfl rfl | refine k_max rfl rfl | refine k_mul64 rfl rfl (by omega) | refine k_quo64 rfl rfl (by omega) | refine k_rem rfl rfl (by omega) | refine k_extract rfl rfl | refine k_convI rfl rfl rfl (by omega) | refine k_conv16 rfl rfl rfl (by omega) | refine k_conv64 rfl rfl rfl (by omega) | refine k_conv8 rfl rfl rfl (by omega) | refine k_convB rfl rfl rfl | refine k_convH rfl rfl rfl | refine k_convQ rfl rfl rfl | refine k_pick_f (dF (by omega)) rfl | refine k_pick_t (dT (by omega)) rfl) rfl ?_))
  have e1 : bq bs ++ [B 1] = bq (bs ++ [true]) := by simp [bq]
  rw [e1] at hH
  repeat (first | refine WS_seq ?_ | refine WS_region ?_ | refine WL_nil ?_ | refine WS_block ?_ | refine WS_inBlock ?_ | refine WS_skip ?_ | refine WS_label ?_ | refine WS_scope ?_ | refine WS_inScope ?_ | refine WS_exit rfl ?_ | refine WS_true rfl ?_ | refine WS_false rfl ?_ | refine WS_yes rfl (by omega) ?_ | refine WS_no rfl (by omega) ?_ | refine WL_gyes rfl rfl rfl ?_ | refine WL_gno rfl rfl rfl rfl rfl ?_ | refine WL_gund rfl rfl rfl ?_ | refine WL_gyes rfl rfl (dF (by omega)) ?_ | refine WL_gyes rfl rfl (dT (by omega)) ?_ | refine WL_gno (b := false) rfl rfl (dF (by omega)) rfl rfl ?_ | refine WL_gno (b := true) rfl rfl (dT (by omega)) rfl rfl ?_ | (refine WL_r (by first | refine Run_pev rfl | refine k_add64 rfl rfl (by omega) | refine k_sub64 rfl rfl (by omega) | refine k_len rfl (Ty.isl rfl) | refine k_not rfl | refine k_notb rfl | refine k_min rfl rfl | refine k_max rfl rfl | refine k_mul64 rfl rfl (by omega) | refine k_quo64 rfl rfl (by omega) | refine k_rem rfl rfl (by omega) | refine k_extract rfl rfl | refine k_convI rfl rfl rfl (by omega) | refine k_conv16 rfl rfl rfl (by omega) | refine k_conv64 rfl rfl rfl (by omega) | refine k_conv8 rfl rfl rfl (by omega) | refine k_convB rfl rfl rfl | refine k_convH rfl rfl rfl | refine k_convQ rfl rfl rfl | refine k_pick_f (dF (by omega)) rfl | refine k_pick_t (dT (by omega)) rfl) rfl ?_))
  try refine WL_gyes rfl rfl rfl ?_
  refine WL_s (S_call (rpack_spec (bs := bs ++ [true]) (hH.o 0 rfl).sl (by simp) (by omega)) rfl rfl ?_)
  rintro v w8 ⟨a8, c8, rfl, hN⟩
  replace hH := hH.nu hN
  clear hN
  first | change Hp _ _ _ [] at hH | change Hp _ _ _ [_] at hH | change Hp _ _ _ [_, _] at hH | change Hp _ _ _ [_, _, _] at hH | change Hp _ _ _ [_, _, _, _] at hH | change Hp _ _ _ [_, _, _, _, _] at hH | change Hp _ _ _ [_, _, _, _, _, _] at hH | change Hp _ _ _ [_, _, _, _, _, _, _] at hH | change Hp _ _ _ [_, _, _, _, _, _, _, _] at hH | change Hp _ _ _ [_, _, _, _, _, _, _, _, _] at hH
  repeat (first | refine WS_seq ?_ | refine WS_region ?_ | refine WL_nil ?_ | refine WS_block ?_ | refine WS_inBlock ?_ | refine WS_skip ?_ | refine WS_label ?_ | refine WS_scope ?_ | refine WS_inScope ?_ | refine WS_exit rfl ?_ | refine WS_true rfl ?_ | refine WS_false rfl ?_ | refine WS_yes rfl (by omega) ?_ | refine WS_no rfl (by omega) ?_ | refine WL_gyes rfl rfl rfl ?_ | refine WL_gno rfl rfl rfl rfl rfl ?_ | refine WL_gund rfl rfl rfl ?_ | refine WL_gyes rfl rfl (dF (by omega)) ?_ | refine WL_gyes rfl rfl (dT (by omega)) ?_ | refine WL_gno (b := false) rfl rfl (dF (by omega)) rfl rfl ?_ | refine WL_gno (b := true) rfl rfl (dT (by omega)) rfl rfl ?_ | (refine WL_r (by first | refine Run_pev rfl | refine k_add64 rfl rfl (by omega) | refine k_sub64 rfl rfl (by omega) | refine k_len rfl (Ty.isl rfl) | refine k_not rfl | refine k_notb rfl | refine k_min rfl rfl | refine k_max rfl rfl | refine k_mul64 rfl rfl (by omega) | refine k_quo64 rfl rfl (by omega) | refine k_rem rfl rfl (by omega) | refine k_extract rfl rfl | refine k_convI rfl rfl rfl (by omega) | refine k_conv16 rfl rfl rfl (by omega) | refine k_conv64 rfl rfl rfl (by omega) | refine k_conv8 rfl rfl rfl (by omega) | refine k_convB rfl rfl rfl | refine k_convH rfl rfl rfl | refine k_convQ rfl rfl rfl | refine k_pick_f (dF (by omega)) rfl | refine k_pick_t (dT (by omega)) rfl) rfl ?_))
  exact WS_ret1 Try.func54 rfl ⟨a8, c8, rfl, hH.new1 1 rfl⟩
end Go.Proofs.Ytnamafelcjgjfaa

namespace Go.Proofs.Ytnamafelcjgjfaa
open Go Go.K Go.P Go.RowKit Go.Proofs
abbrev TBD : Desc := .str (.cons .bool (.cons (.arr 64 (.int .u8)) (.cons (.arr 64 (.int .u8)) .nil)))
abbrev SHD : Desc := .str (.cons (.int .i64) (.cons (.int .i64) (.cons TBD .nil)))
theorem rd_barr {cs : List Value} {w : World} (h : K.Rd w (.arr 64 (.int .u8)) cs) : ∃ l : List Nat, l.length = 64 ∧ Byt l ∧ cs = l.map B := by
  obtain ⟨ess, hl, rfl, he⟩ := h
  have key : ∀ ess : List (List Value), (∀ e ∈ ess, K.Rd w (.int .u8) e) → ∃ l : List Nat, l.length = ess.length ∧ Byt l ∧ ess.flatten = l.map B := by
    intro ess
    induction ess with
    | nil => intro _; exact ⟨[], rfl, by simp [Byt], rfl⟩
    | cons e ess ih =>
      intro h
      obtain ⟨n, rfl, hf⟩ := h e (by simp)
      obtain ⟨m, rfl, hm⟩ := fits_u8 hf
      obtain ⟨l, hl, hb, he⟩ := ih (fun x hx => h x (by simp [hx]))
      exact ⟨m :: l, by simp [hl], fun x hx => by rcases List.mem_cons.1 hx with rfl | hx; exact hm; exact hb x hx, by simp [he]⟩
  obtain ⟨l, hl2, hb, he2⟩ := key ess he
  exact ⟨l, by omega, hb, he2⟩
theorem rd_seqh {cs : List Value} {w : World} (h : K.Rd w SHD cs) : ∃ h : SH, cs = h.cells ∧ h.ok ∧ h.wide := by
  obtain ⟨d1, d2, rfl, ⟨c, rfl, hc⟩, d3, d4, rfl, ⟨r, rfl, hr⟩, d5, d6, rfl, ⟨d7, d8, rfl, ⟨b, rfl⟩, d9, d10, rfl, hA, d11, d12, rfl, hB, rfl⟩, rfl⟩ := h
  obtain ⟨A, la, ba, rfl⟩ := rd_barr hA
  obtain ⟨Bb, lb, bb, rfl⟩ := rd_barr hB
  exact ⟨⟨c, r, b, A, Bb⟩, by simp [SH.cells, SH.tc], ⟨la, lb, ba, bb⟩, fits_i64 hc, fits_i64 hr⟩
/-- The kinds of a head's cells. -/
def SHK : List CK := List.replicate 2 (.i .i64) ++ List.replicate 1 .b ++ List.replicate 128 (.i .u8)
theorem SHK_eq : lk 26 Ty.eqvL = some SHK := rfl
theorem fits_bytes (l : List Nat) : FitsC (List.replicate l.length (.i .u8)) (l.map B) := by
  have := FitsC.rep (k := .i .u8) (l := l.map B) (fun x hx => by
    obtain ⟨n, _, rfl⟩ := List.mem_map.1 hx
    rfl)
  simpa using this
theorem fits_seqh {h : SH} (ho : h.ok) : FitsC SHK h.cells := by
  have e : h.cells = [.int .i64 h.c, .int .i64 h.r] ++ [.bool h.wt] ++ (h.A ++ h.Bb).map B := by simp [SH.cells, SH.tc]
  rw [e]
  have h1 := fits_bytes (h.A ++ h.Bb)
  rw [SH.tab_len ho] at h1
  exact FitsC.app (FitsC.app ⟨rfl, rfl, trivial⟩ ⟨trivial, trivial⟩) h1
theorem all2_seqh {h g : SH} (ho : h.ok) (go : g.ok) (p : Prop) [Decidable p] (hp : h = g ↔ p) : all2 h.cells g.cells = decide p := by
  have key := all2_eq (ks := SHK) (by unfold SHK; simp) (fits_seqh ho) (fits_seqh go)
  rw [SH.cells_inj ho go, hp] at key
  cases hd : all2 h.cells g.cells with
  | true => exact (decide_eq_true (key.1 hd)).symm
  | false => exact (decide_eq_false (fun h => by rw [key.2 h] at hd; cases hd)).symm
end Go.Proofs.Ytnamafelcjgjfaa

namespace Go.Proofs.Ytnamafelcjgjfaa
open Go Go.K Go.P Go.RowKit Go.Proofs
theorem nb_bq (n s : Nat) : (nbits n s).map B = bq (nb n s) := by rw [nbits_nb]
theorem tb_at {T : List Nat} {i : Nat} (h : i < T.length) : tb (T.take (i + 1)) = tb (T.take i) ++ nb T[i] 8 := by
  rw [List.take_succ_eq_append_getElem h, tb_snoc]
set_option maxRecDepth 20000 in
set_option maxHeartbeats 4000000 in
theorem sbytes_spec {h : SH} (ho : h.ok) (he : h.err = 0) {w : World} : Does Try.prog 20 #[.agg h.cells.toArray] w fun v w' => ∃ a' c', v = .slice a' h.out.length c' ∧ New (Ro 5 1 a' h.out.length c' (h.out.map B)) w w' := by
  refine Does_of (args := [_]) Try.func20 rfl rfl Try.ntmps20 rfl ?_
  have hH := Hp.start w
  obtain ⟨hk1, hk2, _⟩ := SH.good he
  have hla := ho.la
  have hlb := ho.lb
  have hba := ho.ba
  have hbb := ho.bb
  obtain ⟨c, r, wt, A, Bb⟩ := h
  simp only at hk1 hk2 hla hlb hba hbb
  obtain ⟨c, rfl⟩ := Int.eq_ofNat_of_zero_le (show 0 ≤ c by omega)
  obtain ⟨r, rfl⟩ := Int.eq_ofNat_of_zero_le (show 0 ≤ r by omega)
  repeat (first | refine WS_seq ?_ | refine WS_region ?_ | refine WL_nil ?_ | refine WS_block ?_ | refine WS_inBlock ?_ | refine WS_skip ?_ | refine WS_label ?_ | refine WS_scope ?_ | refine WS_inScope ?_ | refine WS_exit rfl ?_ | refine WS_true rfl ?_ | refine WS_false rfl ?_ | refine WS_yes rfl (by omega) ?_ | refine WS_no rfl (by omega) ?_ | refine WL_gyes rfl rfl rfl ?_ | refine WL_gno rfl rfl rfl rfl rfl ?_ | refine WL_gund rfl rfl rfl ?_ | refine WL_gyes rfl rfl (dF (by omega)) ?_ | refine WL_gyes rfl rfl (dT (by omega)) ?_ | refine WL_gno (b := false) rfl rfl (dF (by omega)) rfl rfl ?_ | refine WL_gno (b := true) rfl rfl (dT (by omega)) rfl rfl ?_ | (refine WL_r (by first | refine Run_pev rfl | refine k_add64 rfl rfl (by omega) | refine k_sub64 rfl rfl (by omega) | refine k_len rfl (Ty.isl rfl) | refine k_not rfl | refine k_notb rfl | refine k_min rfl rfl | refine k_max rfl rfl | refine k_mul64 rfl rfl (by omega) | refine k_quo64 rfl rfl (by omega) | refine k_rem rfl rfl (by omega) | refine k_extract rfl rfl | refine k_convI rfl rfl rfl (by omega) | refine k_conv16 rfl rfl rfl (by omega) | refine k_conv64 rfl rfl rfl (by omega) | refine k_conv8 rfl rfl rfl (by omega) | refine k_convB rfl rfl rfl | refine k_convH rfl rfl rfl | refine k_convQ rfl rfl rfl | refine k_pick_f (dF (by omega)) rfl | refine k_pick_t (dT (by omega)) rfl) rfl ?_))
  refine WL_s (H_box (cs := (SH.cells ⟨(c : Nat), (r : Nat), wt, A, Bb⟩).toArray) hH rfl rfl rfl ?_)
  try clear hH
  intro w1 b1 hH
  first | change Hp _ _ _ [] at hH | change Hp _ _ _ [_] at hH | change Hp _ _ _ [_, _] at hH | change Hp _ _ _ [_, _, _] at hH | change Hp _ _ _ [_, _, _, _] at hH | change Hp _ _ _ [_, _, _, _, _] at hH | change Hp _ _ _ [_, _, _, _, _, _] at hH | change Hp _ _ _ [_, _, _, _, _, _, _] at hH | change Hp _ _ _ [_, _, _, _, _, _, _, _] at hH | change Hp _ _ _ [_, _, _, _, _, _, _, _, _] at hH
  have hc8 : c % 18446744073709551616 = c := by omega
  have hr8 : r % 18446744073709551616 = r := by omega
  repeat (first | refine WS_seq ?_ | refine WS_region ?_ | refine WL_nil ?_ | refine WS_block ?_ | refine WS_inBlock ?_ | refine WS_skip ?_ | refine WS_label ?_ | refine WS_scope ?_ | refine WS_inScope ?_ | refine WS_exit rfl ?_ | refine WS_true rfl ?_ | refine WS_false rfl ?_ | refine WS_yes rfl (by omega) ?_ | refine WS_no rfl (by omega) ?_ | refine WL_gyes rfl rfl rfl ?_ | refine WL_gno rfl rfl rfl rfl rfl ?_ | refine WL_gund rfl rfl rfl ?_ | refine WL_gyes rfl rfl (dF (by omega)) ?_ | refine WL_gyes rfl rfl (dT (by omega)) ?_ | refine WL_gno (b := false) rfl rfl (dF (by omega)) rfl rfl ?_ | refine WL_gno (b := true) rfl rfl (dT (by omega)) rfl rfl ?_ | (refine WL_r (by first | refine Run_pev rfl | refine k_add64 rfl rfl (by omega) | refine k_sub64 rfl rfl (by omega) | refine k_len rfl (Ty.isl rfl) | refine k_not rfl | refine k_notb rfl | refine k_min rfl rfl | refine k_max rfl rfl | refine k_mul64 rfl rfl (by omega) | refine k_quo64 rfl rfl (by omega) | refine k_rem rfl rfl (by omega) | refine k_extract rfl rfl | refine k_convI rfl rfl rfl (by omega) | refine k_conv16 rfl rfl rfl (by omega) | refine k_conv64 rfl rfl rfl (by omega) | refine k_conv8 rfl rfl rfl (by omega) | refine k_convB rfl rfl rfl | refine k_convH rfl rfl rfl | refine k_convQ rfl rfl rfl | refine k_pick_f (dF (by omega)) rfl | refine k_pick_t (dT (by omega)) rfl) rfl ?_))
  refine WS_draw Ty.mixed (fun u => Ext [] w u ∧ Blk u b1 26 (SH.cells ⟨(c : Nat), (r : Nat), wt, A, Bb⟩).toArray) 10 rfl ?_
  replace hH := hH.ext0 (Ext.drew0 (S := []))
  have hx0 : Ext [] w _ ∧ Blk _ b1 26 (SH.cells ⟨(c : Nat), (r : Nat), wt, A, Bb⟩).toArray := ⟨hH.ext, hH.b 0 rfl⟩
  refine WA_take 0 rfl (by kernel_rfl) hx0 rfl rfl (fun w' hw' => by first | refine k_fa rfl (Ty.fld rfl rfl)) ?_
  refine WA_take 1 rfl (by kernel_rfl) hx0 rfl rfl (fun w' hw' => by first | refine k_loadb rfl hw'.2 rfl (Ty.shp rfl)) ?_
  refine WA_take 2 rfl (by kernel_rfl) hx0 rfl rfl (fun w' hw' => by first | refine (k_conv_u64 (m := c) rfl rfl (Ty.knd rfl)).is (congrArg (fun n : Nat => Value.int .u64 (n : Int)) hc8) | refine k_convI rfl rfl rfl (by omega) | refine k_conv16 rfl rfl rfl (by omega) | refine k_conv64 rfl rfl rfl (by omega) | refine k_conv8 rfl rfl rfl (by omega) | refine k_convB rfl rfl rfl | refine k_convH rfl rfl rfl | refine k_convQ rfl rfl rfl) ?_
  refine WA_take 4 rfl (by kernel_rfl) hx0 rfl rfl (fun w' hw' => by first | refine k_fa rfl (Ty.fld rfl rfl)) ?_
  refine WA_take 5 rfl (by kernel_rfl) hx0 rfl rfl (fun w' hw' => by first | refine k_loadb rfl hw'.2 rfl (Ty.shp rfl)) ?_
  refine WA_take 6 rfl (by kernel_rfl) hx0 rfl rfl (fun w' hw' => by first | refine (k_conv_u64 (m := r) rfl rfl (Ty.knd rfl)).is (congrArg (fun n : Nat => Value.int .u64 (n : Int)) hr8) | refine k_convI rfl rfl rfl (by omega) | refine k_conv16 rfl rfl rfl (by omega) | refine k_conv64 rfl rfl rfl (by omega) | refine k_conv8 rfl rfl rfl (by omega) | refine k_convB rfl rfl rfl | refine k_convH rfl rfl rfl | refine k_convQ rfl rfl rfl) ?_
  refine WA_one 3 (by kernel_rfl) rfl rfl (S_call (rbits_spec (n := c) (s := 8) (by omega) (by decide) (by decide)) rfl rfl ?_)
  rintro v w2 ⟨a2, c2, rfl, hN⟩
  replace hH := hH.nu hN
  clear hN
  first | change Hp _ _ _ [] at hH | change Hp _ _ _ [_] at hH | change Hp _ _ _ [_, _] at hH | change Hp _ _ _ [_, _, _] at hH | change Hp _ _ _ [_, _, _, _] at hH | change Hp _ _ _ [_, _, _, _, _] at hH | change Hp _ _ _ [_, _, _, _, _, _] at hH | change Hp _ _ _ [_, _, _, _, _, _, _] at hH | change Hp _ _ _ [_, _, _, _, _, _, _, _] at hH | change Hp _ _ _ [_, _, _, _, _, _, _, _, _] at hH
  rw [nb_bq] at hH
  have hx1 : Ext [] w w2 ∧ Blk w2 b1 26 (SH.cells ⟨(c : Nat), (r : Nat), wt, A, Bb⟩).toArray := ⟨hH.ext, hH.b 0 rfl⟩
  refine ⟨hx1, ?_⟩
  refine WA_one 7 (by kernel_rfl) rfl rfl (S_call (rbits_spec (n := r) (s := 8) (by omega) (by decide) (by decide)) rfl rfl ?_)
  rintro v w3 ⟨a3, c3, rfl, hN⟩
  replace hH := hH.nu hN
  clear hN
  first | change Hp _ _ _ [] at hH | change Hp _ _ _ [_] at hH | change Hp _ _ _ [_, _] at hH | change Hp _ _ _ [_, _, _] at hH | change Hp _ _ _ [_, _, _, _] at hH | change Hp _ _ _ [_, _, _, _, _] at hH | change Hp _ _ _ [_, _, _, _, _, _] at hH | change Hp _ _ _ [_, _, _, _, _, _, _] at hH | change Hp _ _ _ [_, _, _, _, _, _, _, _] at hH | change Hp _ _ _ [_, _, _, _, _, _, _, _, _] at hH
  rw [nb_bq] at hH
  have hx2 : Ext [] w w3 ∧ Blk w3 b1 26 (SH.cells ⟨(c : Nat), (r : Nat), wt, A, Bb⟩).toArray := ⟨hH.ext, hH.b 0 rfl⟩
  refine ⟨hx2, ?_⟩
  have hln8 : ∀ n, (bq (nb n 8)).length = 8 * 1 := fun n => by rw [bq_len, nb_len]
  refine WA_one 8 (by kernel_rfl) rfl rfl (H_append 1 hH rfl (Ty.sle rfl) (Ty.zer rfl) rfl (Ty.byt rfl) (by decide) rfl rfl ((hH.o 2 rfl).sl) (hln8 r) (bq_one _) (by omega) (by simp only [maxLen]; omega) rfl ?_)
  clear hH
  intro w4 a4 c4 hH
  replace hH := hH.take 2
  first | change Hp _ _ _ [] at hH | change Hp _ _ _ [_] at hH | change Hp _ _ _ [_, _] at hH | change Hp _ _ _ [_, _, _] at hH | change Hp _ _ _ [_, _, _, _] at hH | change Hp _ _ _ [_, _, _, _, _] at hH | change Hp _ _ _ [_, _, _, _, _, _] at hH | change Hp _ _ _ [_, _, _, _, _, _, _] at hH | change Hp _ _ _ [_, _, _, _, _, _, _, _] at hH | change Hp _ _ _ [_, _, _, _, _, _, _, _, _] at hH
  have hx3 : Ext [] w w4 ∧ Blk w4 b1 26 (SH.cells ⟨(c : Nat), (r : Nat), wt, A, Bb⟩).toArray := ⟨hH.ext, hH.b 0 rfl⟩
  refine ⟨hx3, ?_⟩
  refine WA_take 9 rfl (by kernel_rfl) hx3 rfl rfl (fun w' hw' => by first | refine Run_pev rfl) ?_
  refine WA_done (by kernel_rfl) ?_
  have hB : Blk w4 b1 26 (SH.cells ⟨(c : Nat), (r : Nat), wt, A, Bb⟩).toArray := hH.b 0 rfl
  have hlX : (nb c 8 ++ nb r 8).length = 16 := by rw [List.length_append, nb_len, nb_len]
  rw [← bq_app] at hH
  cases wt with
  | false =>
    repeat (first | refine WS_seq ?_ | refine WS_region ?_ | refine WL_nil ?_ | refine WS_block ?_ | refine WS_inBlock ?_ | refine WS_skip ?_ | refine WS_label ?_ | refine WS_scope ?_ | refine WS_inScope ?_ | refine WS_exit rfl ?_ | refine WS_true rfl ?_ | refine WS_false rfl ?_ | refine WS_yes rfl (by omega) ?_ | refine WS_no rfl (by omega) ?_ | refine WL_gyes rfl rfl rfl ?_ | refine WL_gno rfl rfl rfl rfl rfl ?_ | refine WL_gund rfl rfl rfl ?_ | refine WL_gyes rfl rfl (dF (by omega)) ?_ | refine WL_gyes rfl rfl (dT (by omega)) ?_ | refine WL_gno (b := false) rfl rfl (dF (by omega)) rfl rfl ?_ | refine WL_gno (b := true) rfl rfl (dT (by omega)) rfl rfl ?_ | (refine WL_r (by first | refine k_nilCheck rfl | refine k_fa rfl (Ty.fld rfl rfl) | refine k_loadb rfl hB rfl (Ty.shp rfl) | refine Run_pev rfl | refine k_add64 rfl rfl (by omega) | refine k_sub64 rfl rfl (by omega) | refine k_len rfl (Ty.isl rfl) | refine k_not rfl | refine k_notb rfl | refine k_min rfl rfl | refine k_max rfl rfl | refine k_mul64 rfl rfl (by omega) | refine k_quo64 rfl rfl (by omega) | refine k_rem rfl rfl (by omega) | refine k_extract rfl rfl | refine k_convI rfl rfl rfl (by omega) | refine k_conv16 rfl rfl rfl (by omega) | refine k_conv64 rfl rfl rfl (by omega) | refine k_conv8 rfl rfl rfl (by omega) | refine k_convB rfl rfl rfl | refine k_convH rfl rfl rfl | refine k_convQ rfl rfl rfl | refine k_pick_f (dF (by omega)) rfl | refine k_pick_t (dT (by omega)) rfl) rfl ?_))
    repeat (first | refine WS_seq ?_ | refine WS_region ?_ | refine WL_nil ?_ | refine WS_block ?_ | refine WS_inBlock ?_ | refine WS_skip ?_ | refine WS_label ?_ | refine WS_scope ?_ | refine WS_inScope ?_ | refine WS_exit rfl ?_ | refine WS_true rfl ?_ | refine WS_false rfl ?_ | refine WS_yes rfl (by omega) ?_ | refine WS_no rfl (by omega) ?_ | refine WL_gyes rfl rfl rfl ?_ | refine WL_gno rfl rfl rfl rfl rfl ?_ | refine WL_gund rfl rfl rfl ?_ | refine WL_gyes rfl rfl (dF (by omega)) ?_ | refine WL_gyes rfl rfl (dT (by omega)) ?_ | refine WL_gno (b := false) rfl rfl (dF (by omega)) rfl rfl ?_ | refine WL_gno (b := true) rfl rfl (dT (by omega)) rfl rfl ?_ | (refine WL_r (by first | refine Run_pev rfl | refine k_add64 rfl rfl (by omega) | refine k_sub64 rfl rfl (by omega) | refine k_len rfl (Ty.isl rfl) | refine k_not rfl | refine k_notb rfl | refine k_min rfl rfl | refine k_max rfl rfl | refine k_mul64 rfl rfl (by omega) | refine k_quo64 rfl rfl (by omega) | refine k_rem rfl rfl (by omega) | refine k_extract rfl rfl | refine k_convI rfl rfl rfl (by omega) | refine k_conv16 rfl rfl rfl (by omega) | refine k_conv64 rfl rfl rfl (by omega) | refine k_conv8 rfl rfl rfl (by omega) | refine k_convB rfl rfl rfl | refine k_convH rfl rfl rfl | refine k_convQ rfl rfl rfl | refine k_pick_f (dF (by omega)) rfl | refine k_pick_t (dT (by omega)) rfl) rfl ?_))
    try refine WL_gyes rfl rfl rfl ?_
    refine WL_s (H_lit (out := [B 0]) hH (Ty.sle rfl) (Ty.zer rfl) rfl rfl rfl (by decide) rfl ?_)
    try clear hH
    intro _ blit hH
    first | change Hp _ _ _ [] at hH | change Hp _ _ _ [_] at hH | change Hp _ _ _ [_, _] at hH | change Hp _ _ _ [_, _, _] at hH | change Hp _ _ _ [_, _, _, _] at hH | change Hp _ _ _ [_, _, _, _, _] at hH | change Hp _ _ _ [_, _, _, _, _, _] at hH | change Hp _ _ _ [_, _, _, _, _, _, _] at hH | change Hp _ _ _ [_, _, _, _, _, _, _, _] at hH | change Hp _ _ _ [_, _, _, _, _, _, _, _, _] at hH
    try refine WL_gyes rfl rfl rfl ?_
    refine WL_s (H_append 1 hH rfl (Ty.sle rfl) (Ty.zer rfl) rfl (Ty.byt rfl) (by decide) rfl rfl ((hH.b 2 rfl).sl0) (by simp; try omega) (by simp) (by omega) (by simp only [maxLen]; omega) rfl ?_)
    try clear hH
    intro _ a6 c6 hH
    first | change Hp _ _ _ [] at hH | change Hp _ _ _ [_] at hH | change Hp _ _ _ [_, _] at hH | change Hp _ _ _ [_, _, _] at hH | change Hp _ _ _ [_, _, _, _] at hH | change Hp _ _ _ [_, _, _, _, _] at hH | change Hp _ _ _ [_, _, _, _, _, _] at hH | change Hp _ _ _ [_, _, _, _, _, _, _] at hH | change Hp _ _ _ [_, _, _, _, _, _, _, _] at hH | change Hp _ _ _ [_, _, _, _, _, _, _, _, _] at hH
    replace hH := hH.del 2
    first | change Hp _ _ _ [] at hH | change Hp _ _ _ [_] at hH | change Hp _ _ _ [_, _] at hH | change Hp _ _ _ [_, _, _] at hH | change Hp _ _ _ [_, _, _, _] at hH | change Hp _ _ _ [_, _, _, _, _] at hH | change Hp _ _ _ [_, _, _, _, _, _] at hH | change Hp _ _ _ [_, _, _, _, _, _, _] at hH | change Hp _ _ _ [_, _, _, _, _, _, _, _] at hH | change Hp _ _ _ [_, _, _, _, _, _, _, _, _] at hH
    repeat (first | refine WS_seq ?_ | refine WS_region ?_ | refine WL_nil ?_ | refine WS_block ?_ | refine WS_inBlock ?_ | refine WS_skip ?_ | refine WS_label ?_ | refine WS_scope ?_ | refine WS_inScope ?_ | refine WS_exit rfl ?_ | refine WS_true rfl ?_ | refine WS_false rfl ?_ | refine WS_yes rfl (by omega) ?_ | refine WS_no rfl (by omega) ?_ | refine WL_gyes rfl rfl rfl ?_ | refine WL_gno rfl rfl rfl rfl rfl ?_ | refine WL_gund rfl rfl rfl ?_ | refine WL_gyes rfl rfl (dF (by omega)) ?_ | refine WL_gyes rfl rfl (dT (by omega)) ?_ | refine WL_gno (b := false) rfl rfl (dF (by omega)) rfl rfl ?_ | refine WL_gno (b := true) rfl rfl (dT (by omega)) rfl rfl ?_ | (refine WL_r (by first | refine Run_pev rfl | refine k_add64 rfl rfl (by omega) | refine k_sub64 rfl rfl (by omega) | refine k_len rfl (Ty.isl rfl) | refine k_not rfl | refine k_notb rfl | refine k_min rfl rfl | refine k_max rfl rfl | refine k_mul64 rfl rfl (by omega) | refine k_quo64 rfl rfl (by omega) | refine k_rem rfl rfl (by omega) | refine k_extract rfl rfl | refine k_convI rfl rfl rfl (by omega) | refine k_conv16 rfl rfl rfl (by omega) | refine k_conv64 rfl rfl rfl (by omega) | refine k_conv8 rfl rfl rfl (by omega) | refine k_convB rfl rfl rfl | refine k_convH rfl rfl rfl | refine k_convQ rfl rfl rfl | refine k_pick_f (dF (by omega)) rfl | refine k_pick_t (dT (by omega)) rfl) rfl ?_))
    rw [show bq (nb c 8 ++ nb r 8) ++ [B 0] = bq (nb c 8 ++ nb r 8 ++ [false]) by simp] at hH
    have hbi : SH.bits ⟨(c : Nat), (r : Nat), false, A, Bb⟩ = nb c 8 ++ nb r 8 ++ [false] := by simp [SH.bits]
    have hbl : (nb c 8 ++ nb r 8 ++ [false]).length = 17 := by simp [nb_len]
    have hou' : SH.out ⟨(c : Nat), (r : Nat), false, A, Bb⟩ = [0, 0, 1, 176] ++ escF 0 (endd (pk (nb c 8 ++ nb r 8 ++ [false] ++ [true]))) := by unfold SH.out SH.body; rw [hbi]
    rw [show 8 + 8 + 1 = 17 from rfl]
    generalize nb c 8 ++ nb r 8 ++ [false] = X at *
    replace hH : Hp [] w _ [Rb b1 26 (SH.cells ⟨(c : Nat), (r : Nat), false, A, Bb⟩).toArray, Ro 5 1 a6 17 c6 (bq X)] := hH
    rw [← hbl] at hH ⊢
    repeat (first | refine WS_seq ?_ | refine WS_region ?_ | refine WL_nil ?_ | refine WS_block ?_ | refine WS_inBlock ?_ | refine WS_skip ?_ | refine WS_label ?_ | refine WS_scope ?_ | refine WS_inScope ?_ | refine WS_exit rfl ?_ | refine WS_true rfl ?_ | refine WS_false rfl ?_ | refine WS_yes rfl (by omega) ?_ | refine WS_no rfl (by omega) ?_ | refine WL_gyes rfl rfl rfl ?_ | refine WL_gno rfl rfl rfl rfl rfl ?_ | refine WL_gund rfl rfl rfl ?_ | refine WL_gyes rfl rfl (dF (by omega)) ?_ | refine WL_gyes rfl rfl (dT (by omega)) ?_ | refine WL_gno (b := false) rfl rfl (dF (by omega)) rfl rfl ?_ | refine WL_gno (b := true) rfl rfl (dT (by omega)) rfl rfl ?_ | (refine WL_r (by first | refine Run_pev rfl | refine k_add64 rfl rfl (by omega) | refine k_sub64 rfl rfl (by omega) | refine k_len rfl (Ty.isl rfl) | refine k_not rfl | refine k_notb rfl | refine k_min rfl rfl | refine k_max rfl rfl | refine k_mul64 rfl rfl (by omega) | refine k_quo64 rfl rfl (by omega) | refine k_rem rfl rfl (by omega) | refine k_extract rfl rfl | refine k_convI rfl rfl rfl (by omega) | refine k_conv16 rfl rfl rfl (by omega) | refine k_conv64 rfl rfl rfl (by omega) | refine k_conv8 rfl rfl rfl (by omega) | refine k_convB rfl rfl rfl | refine k_convH rfl rfl rfl | refine k_convQ rfl rfl rfl | refine k_pick_f (dF (by omega)) rfl | refine k_pick_t (dT (by omega)) rfl) rfl ?_))
    try refine WL_gyes rfl rfl rfl ?_
    refine WL_s (S_call (rdone_spec (hH.o 1 rfl).sl rfl (by omega)) rfl rfl ?_)
    rintro v w7 ⟨a7, c7, rfl, hN⟩
    replace hH := hH.nu hN
    clear hN
    first | change Hp _ _ _ [] at hH | change Hp _ _ _ [_] at hH | change Hp _ _ _ [_, _] at hH | change Hp _ _ _ [_, _, _] at hH | change Hp _ _ _ [_, _, _, _] at hH | change Hp _ _ _ [_, _, _, _, _] at hH | change Hp _ _ _ [_, _, _, _, _, _] at hH | change Hp _ _ _ [_, _, _, _, _, _, _] at hH | change Hp _ _ _ [_, _, _, _, _, _, _, _] at hH | change Hp _ _ _ [_, _, _, _, _, _, _, _, _] at hH
    have hby : Byt (pk (X ++ [true])) := pk_byt _
    have hpn := pk_len (X ++ [true])
    rw [List.length_append] at hpn
    simp only [List.length_cons, List.length_nil] at hpn
    have hou : (SH.out ⟨(c : Nat), (r : Nat), false, A, Bb⟩) = [0, 0, 1, 176] ++ escF 0 (endd (pk (X ++ [true]))) := hou'
    rw [hou]
    generalize pk (X ++ [true]) = bo at *
    have hs16 := crc_lt bo
    repeat (first | refine WS_seq ?_ | refine WS_region ?_ | refine WL_nil ?_ | refine WS_block ?_ | refine WS_inBlock ?_ | refine WS_skip ?_ | refine WS_label ?_ | refine WS_scope ?_ | refine WS_inScope ?_ | refine WS_exit rfl ?_ | refine WS_true rfl ?_ | refine WS_false rfl ?_ | refine WS_yes rfl (by omega) ?_ | refine WS_no rfl (by omega) ?_ | refine WL_gyes rfl rfl rfl ?_ | refine WL_gno rfl rfl rfl rfl rfl ?_ | refine WL_gund rfl rfl rfl ?_ | refine WL_gyes rfl rfl (dF (by omega)) ?_ | refine WL_gyes rfl rfl (dT (by omega)) ?_ | refine WL_gno (b := false) rfl rfl (dF (by omega)) rfl rfl ?_ | refine WL_gno (b := true) rfl rfl (dT (by omega)) rfl rfl ?_ | (refine WL_r (by first | refine Run_pev rfl | refine k_add64 rfl rfl (by omega) | refine k_sub64 rfl rfl (by omega) | refine k_len rfl (Ty.isl rfl) | refine k_not rfl | refine k_notb rfl | refine k_min rfl rfl | refine k_max rfl rfl | refine k_mul64 rfl rfl (by omega) | refine k_quo64 rfl rfl (by omega) | refine k_rem rfl rfl (by omega) | refine k_extract rfl rfl | refine k_convI rfl rfl rfl (by omega) | refine k_conv16 rfl rfl rfl (by omega) | refine k_conv64 rfl rfl rfl (by omega) | refine k_conv8 rfl rfl rfl (by omega) | refine k_convB rfl rfl rfl | refine k_convH rfl rfl rfl | refine k_convQ rfl rfl rfl | refine k_pick_f (dF (by omega)) rfl | refine k_pick_t (dT (by omega)) rfl) rfl ?_))
    try refine WL_gyes rfl rfl rfl ?_
    refine WL_s (S_call (rsum_spec (hH.o 2 rfl).sl hby rfl (by omega)) rfl rfl ?_)
    rintro v w8 ⟨rfl, hE⟩
    replace hH := hH.ext0 hE
    clear hE
    rw [show crcAdd 65535 bo = crc bo from rfl]
    repeat (first | refine WS_seq ?_ | refine WS_region ?_ | refine WL_nil ?_ | refine WS_block ?_ | refine WS_inBlock ?_ | refine WS_skip ?_ | refine WS_label ?_ | refine WS_scope ?_ | refine WS_inScope ?_ | refine WS_exit rfl ?_ | refine WS_true rfl ?_ | refine WS_false rfl ?_ | refine WS_yes rfl (by omega) ?_ | refine WS_no rfl (by omega) ?_ | refine WL_gyes rfl rfl rfl ?_ | refine WL_gno rfl rfl rfl rfl rfl ?_ | refine WL_gund rfl rfl rfl ?_ | refine WL_gyes rfl rfl (dF (by omega)) ?_ | refine WL_gyes rfl rfl (dT (by omega)) ?_ | refine WL_gno (b := false) rfl rfl (dF (by omega)) rfl rfl ?_ | refine WL_gno (b := true) rfl rfl (dT (by omega)) rfl rfl ?_ | (refine WL_r (by first | refine Run_pev rfl | refine k_add64 rfl rfl (by omega) | refine k_sub64 rfl rfl (by omega) | refine k_len rfl (Ty.isl rfl) | refine k_not rfl | refine k_notb rfl | refine k_min rfl rfl | refine k_max rfl rfl | refine k_mul64 rfl rfl (by omega) | refine k_quo64 rfl rfl (by omega) | refine k_rem rfl rfl (by omega) | refine k_extract rfl rfl | refine k_convI rfl rfl rfl (by omega) | refine k_conv16 rfl rfl rfl (by omega) | refine k_conv64 rfl rfl rfl (by omega) | refine k_conv8 rfl rfl rfl (by omega) | refine k_convB rfl rfl rfl | refine k_convH rfl rfl rfl | refine k_convQ rfl rfl rfl | refine k_pick_f (dF (by omega)) rfl | refine k_pick_t (dT (by omega)) rfl) rfl ?_))
    try refine WL_gyes rfl rfl rfl ?_
    refine WL_s (H_lit (out := [B 0, B 0, B 1, B 176]) hH (Ty.sle rfl) (Ty.zer rfl) rfl rfl rfl (by decide) rfl ?_)
    try clear hH
    intro _ b51 hH
    first | change Hp _ _ _ [] at hH | change Hp _ _ _ [_] at hH | change Hp _ _ _ [_, _] at hH | change Hp _ _ _ [_, _, _] at hH | change Hp _ _ _ [_, _, _, _] at hH | change Hp _ _ _ [_, _, _, _, _] at hH | change Hp _ _ _ [_, _, _, _, _, _] at hH | change Hp _ _ _ [_, _, _, _, _, _, _] at hH | change Hp _ _ _ [_, _, _, _, _, _, _, _] at hH | change Hp _ _ _ [_, _, _, _, _, _, _, _, _] at hH
    have hq : crc bo / 256 % 256 = crc bo / 256 := by omega
    repeat (first | refine WS_seq ?_ | refine WS_region ?_ | refine WL_nil ?_ | refine WS_block ?_ | refine WS_inBlock ?_ | refine WS_skip ?_ | refine WS_label ?_ | refine WS_scope ?_ | refine WS_inScope ?_ | refine WS_exit rfl ?_ | refine WS_true rfl ?_ | refine WS_false rfl ?_ | refine WS_yes rfl (by omega) ?_ | refine WS_no rfl (by omega) ?_ | refine WL_gyes rfl rfl rfl ?_ | refine WL_gno rfl rfl rfl rfl rfl ?_ | refine WL_gund rfl rfl rfl ?_ | refine WL_gyes rfl rfl (dF (by omega)) ?_ | refine WL_gyes rfl rfl (dT (by omega)) ?_ | refine WL_gno (b := false) rfl rfl (dF (by omega)) rfl rfl ?_ | refine WL_gno (b := true) rfl rfl (dT (by omega)) rfl rfl ?_ | (refine WL_r (by first | refine k_quou (n := 256) rfl rfl (by decide) (fit16 hs16) | refine (k_conv_u8 (m := crc bo / 256) rfl rfl (Ty.knd rfl)).is (congrArg (fun n : Nat => Value.int .u8 (n : Int)) hq) | refine k_conv_u8 (m := crc bo) rfl rfl (Ty.knd rfl) | refine Run_pev rfl | refine k_add64 rfl rfl (by omega) | refine k_sub64 rfl rfl (by omega) | refine k_len rfl (Ty.isl rfl) | refine k_not rfl | refine k_notb rfl | refine k_min rfl rfl | refine k_max rfl rfl | refine k_mul64 rfl rfl (by omega) | refine k_quo64 rfl rfl (by omega) | refine k_rem rfl rfl (by omega) | refine k_extract rfl rfl | refine k_convI rfl rfl rfl (by omega) | refine k_conv16 rfl rfl rfl (by omega) | refine k_conv64 rfl rfl rfl (by omega) | refine k_conv8 rfl rfl rfl (by omega) | refine k_convB rfl rfl rfl | refine k_convH rfl rfl rfl | refine k_convQ rfl rfl rfl | refine k_pick_f (dF (by omega)) rfl | refine k_pick_t (dT (by omega)) rfl) rfl ?_))
    try refine WL_gyes rfl rfl rfl ?_
    refine WL_s (H_lit (out := [B (crc bo / 256), B (crc bo % 256), B 128]) hH (Ty.sle rfl) (Ty.zer rfl) rfl rfl rfl (by decide) rfl ?_)
    try clear hH
    intro _ b58 hH
    first | change Hp _ _ _ [] at hH | change Hp _ _ _ [_] at hH | change Hp _ _ _ [_, _] at hH | change Hp _ _ _ [_, _, _] at hH | change Hp _ _ _ [_, _, _, _] at hH | change Hp _ _ _ [_, _, _, _, _] at hH | change Hp _ _ _ [_, _, _, _, _, _] at hH | change Hp _ _ _ [_, _, _, _, _, _, _] at hH | change Hp _ _ _ [_, _, _, _, _, _, _, _] at hH | change Hp _ _ _ [_, _, _, _, _, _, _, _, _] at hH
    repeat (first | refine WS_seq ?_ | refine WS_region ?_ | refine WL_nil ?_ | refine WS_block ?_ | refine WS_inBlock ?_ | refine WS_skip ?_ | refine WS_label ?_ | refine WS_scope ?_ | refine WS_inScope ?_ | refine WS_exit rfl ?_ | refine WS_true rfl ?_ | refine WS_false rfl ?_ | refine WS_yes rfl (by omega) ?_ | refine WS_no rfl (by omega) ?_ | refine WL_gyes rfl rfl rfl ?_ | refine WL_gno rfl rfl rfl rfl rfl ?_ | refine WL_gund rfl rfl rfl ?_ | refine WL_gyes rfl rfl (dF (by omega)) ?_ | refine WL_gyes rfl rfl (dT (by omega)) ?_ | refine WL_gno (b := false) rfl rfl (dF (by omega)) rfl rfl ?_ | refine WL_gno (b := true) rfl rfl (dT (by omega)) rfl rfl ?_ | (refine WL_r (by first | refine Run_pev rfl | refine k_add64 rfl rfl (by omega) | refine k_sub64 rfl rfl (by omega) | refine k_len rfl (Ty.isl rfl) | refine k_not rfl | refine k_notb rfl | refine k_min rfl rfl | refine k_max rfl rfl | refine k_mul64 rfl rfl (by omega) | refine k_quo64 rfl rfl (by omega) | refine k_rem rfl rfl (by omega) | refine k_extract rfl rfl | refine k_convI rfl rfl rfl (by omega) | refine k_conv16 rfl rfl rfl (by omega) | refine k_conv64 rfl rfl rfl (by omega) | refine k_conv8 rfl rfl rfl (by omega) | refine k_convB rfl rfl rfl | refine k_convH rfl rfl rfl | refine k_convQ rfl rfl rfl | refine k_pick_f (dF (by omega)) rfl | refine k_pick_t (dT (by omega)) rfl) rfl ?_))
    try refine WL_gyes rfl rfl rfl ?_
    refine WL_s (H_append 2 hH rfl (Ty.sle rfl) (Ty.zer rfl) rfl (Ty.byt rfl) (by decide) rfl rfl ((hH.b 4 rfl).sl0) (by simp; try omega) (by simp) (by omega) (by simp only [maxLen]; omega) rfl ?_)
    try clear hH
    intro _ a9 c9 hH
    first | change Hp _ _ _ [] at hH | change Hp _ _ _ [_] at hH | change Hp _ _ _ [_, _] at hH | change Hp _ _ _ [_, _, _] at hH | change Hp _ _ _ [_, _, _, _] at hH | change Hp _ _ _ [_, _, _, _, _] at hH | change Hp _ _ _ [_, _, _, _, _, _] at hH | change Hp _ _ _ [_, _, _, _, _, _, _] at hH | change Hp _ _ _ [_, _, _, _, _, _, _, _] at hH | change Hp _ _ _ [_, _, _, _, _, _, _, _, _] at hH
    rw [show bo.map B ++ [B (crc bo / 256), B (crc bo % 256), B 128] = (endd bo).map B by simp [endd]] at hH
    have hel : bo.length + 3 = (endd bo).length := (endd_len bo).symm
    have hey := endd_byt hby
    have hfl := escF_len (endd bo) 0
    rw [endd_len] at hfl
    rw [hel] at hH ⊢
    repeat (first | refine WS_seq ?_ | refine WS_region ?_ | refine WL_nil ?_ | refine WS_block ?_ | refine WS_inBlock ?_ | refine WS_skip ?_ | refine WS_label ?_ | refine WS_scope ?_ | refine WS_inScope ?_ | refine WS_exit rfl ?_ | refine WS_true rfl ?_ | refine WS_false rfl ?_ | refine WS_yes rfl (by omega) ?_ | refine WS_no rfl (by omega) ?_ | refine WL_gyes rfl rfl rfl ?_ | refine WL_gno rfl rfl rfl rfl rfl ?_ | refine WL_gund rfl rfl rfl ?_ | refine WL_gyes rfl rfl (dF (by omega)) ?_ | refine WL_gyes rfl rfl (dT (by omega)) ?_ | refine WL_gno (b := false) rfl rfl (dF (by omega)) rfl rfl ?_ | refine WL_gno (b := true) rfl rfl (dT (by omega)) rfl rfl ?_ | (refine WL_r (by first | refine Run_pev rfl | refine k_add64 rfl rfl (by omega) | refine k_sub64 rfl rfl (by omega) | refine k_len rfl (Ty.isl rfl) | refine k_not rfl | refine k_notb rfl | refine k_min rfl rfl | refine k_max rfl rfl | refine k_mul64 rfl rfl (by omega) | refine k_quo64 rfl rfl (by omega) | refine k_rem rfl rfl (by omega) | refine k_extract rfl rfl | refine k_convI rfl rfl rfl (by omega) | refine k_conv16 rfl rfl rfl (by omega) | refine k_conv64 rfl rfl rfl (by omega) | refine k_conv8 rfl rfl rfl (by omega) | refine k_convB rfl rfl rfl | refine k_convH rfl rfl rfl | refine k_convQ rfl rfl rfl | refine k_pick_f (dF (by omega)) rfl | refine k_pick_t (dT (by omega)) rfl) rfl ?_))
    try refine WL_gyes rfl rfl rfl ?_
    refine WL_s (S_call (refesc_spec (hH.o 2 rfl).sl hey rfl (by omega)) rfl rfl ?_)
    rintro v w10 ⟨a10, c10, rfl, hN⟩
    replace hH := hH.nu hN
    clear hN
    first | change Hp _ _ _ [] at hH | change Hp _ _ _ [_] at hH | change Hp _ _ _ [_, _] at hH | change Hp _ _ _ [_, _, _] at hH | change Hp _ _ _ [_, _, _, _] at hH | change Hp _ _ _ [_, _, _, _, _] at hH | change Hp _ _ _ [_, _, _, _, _, _] at hH | change Hp _ _ _ [_, _, _, _, _, _, _] at hH | change Hp _ _ _ [_, _, _, _, _, _, _, _] at hH | change Hp _ _ _ [_, _, _, _, _, _, _, _, _] at hH
    replace hH := hH.as 3 rfl (r' := Ro 5 1 (some ⟨b51, 0, none⟩) 4 4 ([0, 0, 1, 176].map B)) (fun _ h => h) (fun h => (h : Blk _ _ _ _).own (n := 4) (sz := 1) rfl (by decide))
    first | change Hp _ _ _ [] at hH | change Hp _ _ _ [_] at hH | change Hp _ _ _ [_, _] at hH | change Hp _ _ _ [_, _, _] at hH | change Hp _ _ _ [_, _, _, _] at hH | change Hp _ _ _ [_, _, _, _, _] at hH | change Hp _ _ _ [_, _, _, _, _, _] at hH | change Hp _ _ _ [_, _, _, _, _, _, _] at hH | change Hp _ _ _ [_, _, _, _, _, _, _, _] at hH | change Hp _ _ _ [_, _, _, _, _, _, _, _, _] at hH
    have hln : ((escF 0 (endd bo)).map B).length = (escF 0 (endd bo)).length * 1 := by simp
    have hone : ∀ u ∈ (escF 0 (endd bo)).map B, u.oneCell' = true := fun u hu => by obtain ⟨y, _, rfl⟩ := List.mem_map.1 hu; rfl
    repeat (first | refine WS_seq ?_ | refine WS_region ?_ | refine WL_nil ?_ | refine WS_block ?_ | refine WS_inBlock ?_ | refine WS_skip ?_ | refine WS_label ?_ | refine WS_scope ?_ | refine WS_inScope ?_ | refine WS_exit rfl ?_ | refine WS_true rfl ?_ | refine WS_false rfl ?_ | refine WS_yes rfl (by omega) ?_ | refine WS_no rfl (by omega) ?_ | refine WL_gyes rfl rfl rfl ?_ | refine WL_gno rfl rfl rfl rfl rfl ?_ | refine WL_gund rfl rfl rfl ?_ | refine WL_gyes rfl rfl (dF (by omega)) ?_ | refine WL_gyes rfl rfl (dT (by omega)) ?_ | refine WL_gno (b := false) rfl rfl (dF (by omega)) rfl rfl ?_ | refine WL_gno (b := true) rfl rfl (dT (by omega)) rfl rfl ?_ | (refine WL_r (by first | refine Run_pev rfl | refine k_add64 rfl rfl (by omega) | refine k_sub64 rfl rfl (by omega) | refine k_len rfl (Ty.isl rfl) | refine k_not rfl | refine k_notb rfl | refine k_min rfl rfl | refine k_max rfl rfl | refine k_mul64 rfl rfl (by omega) | refine k_quo64 rfl rfl (by omega) | refine k_rem rfl rfl (by omega) | refine k_extract rfl rfl | refine k_convI rfl rfl rfl (by omega) | refine k_conv16 rfl rfl rfl (by omega) | refine k_conv64 rfl rfl rfl (by omega) | refine k_conv8 rfl rfl rfl (by omega) | refine k_convB rfl rfl rfl | refine k_convH rfl rfl rfl | refine k_convQ rfl rfl rfl | refine k_pick_f (dF (by omega)) rfl | refine k_pick_t (dT (by omega)) rfl) rfl ?_))
    refine WL_s (H_append 3 hH rfl (Ty.sle rfl) (Ty.zer rfl) rfl (Ty.byt rfl) (by decide) rfl rfl ((hH.o 5 rfl).sl) hln hone (by omega) (by simp only [maxLen]; omega) rfl ?_)
    clear hH
    intro w11 a11 c11 hH
    first | change Hp _ _ _ [] at hH | change Hp _ _ _ [_] at hH | change Hp _ _ _ [_, _] at hH | change Hp _ _ _ [_, _, _] at hH | change Hp _ _ _ [_, _, _, _] at hH | change Hp _ _ _ [_, _, _, _, _] at hH | change Hp _ _ _ [_, _, _, _, _, _] at hH | change Hp _ _ _ [_, _, _, _, _, _, _] at hH | change Hp _ _ _ [_, _, _, _, _, _, _, _] at hH | change Hp _ _ _ [_, _, _, _, _, _, _, _, _] at hH
    rw [← List.map_append] at hH
    have hll : ([0, 0, 1, 176] ++ escF 0 (endd bo)).length = 4 + (escF 0 (endd bo)).length := by rw [List.length_append]; rfl
    rw [← hll] at hH ⊢
    repeat (first | refine WS_seq ?_ | refine WS_region ?_ | refine WL_nil ?_ | refine WS_block ?_ | refine WS_inBlock ?_ | refine WS_skip ?_ | refine WS_label ?_ | refine WS_scope ?_ | refine WS_inScope ?_ | refine WS_exit rfl ?_ | refine WS_true rfl ?_ | refine WS_false rfl ?_ | refine WS_yes rfl (by omega) ?_ | refine WS_no rfl (by omega) ?_ | refine WL_gyes rfl rfl rfl ?_ | refine WL_gno rfl rfl rfl rfl rfl ?_ | refine WL_gund rfl rfl rfl ?_ | refine WL_gyes rfl rfl (dF (by omega)) ?_ | refine WL_gyes rfl rfl (dT (by omega)) ?_ | refine WL_gno (b := false) rfl rfl (dF (by omega)) rfl rfl ?_ | refine WL_gno (b := true) rfl rfl (dT (by omega)) rfl rfl ?_ | (refine WL_r (by first | refine Run_pev rfl | refine k_add64 rfl rfl (by omega) | refine k_sub64 rfl rfl (by omega) | refine k_len rfl (Ty.isl rfl) | refine k_not rfl | refine k_notb rfl | refine k_min rfl rfl | refine k_max rfl rfl | refine k_mul64 rfl rfl (by omega) | refine k_quo64 rfl rfl (by omega) | refine k_rem rfl rfl (by omega) | refine k_extract rfl rfl | refine k_convI rfl rfl rfl (by omega) | refine k_conv16 rfl rfl rfl (by omega) | refine k_conv64 rfl rfl rfl (by omega) | refine k_conv8 rfl rfl rfl (by omega) | refine k_convB rfl rfl rfl | refine k_convH rfl rfl rfl | refine k_convQ rfl rfl rfl | refine k_pick_f (dF (by omega)) rfl | refine k_pick_t (dT (by omega)) rfl) rfl ?_))
    exact WS_ret1 Try.func20 rfl ⟨a11, c11, rfl, hH.new1 3 rfl⟩
  | true =>
    have hS2 : SlA w4 (some ⟨b1, 2, none⟩) (SH.tc ⟨(c : Nat), (r : Nat), true, A, Bb⟩) := hB.sl (fun j v hj => by
      rw [Nat.add_comm 2 j]; simpa [SH.cells] using hj)
    obtain ⟨_, hSA, hSB⟩ := tc_sl ho hS2
    repeat (first | refine WS_seq ?_ | refine WS_region ?_ | refine WL_nil ?_ | refine WS_block ?_ | refine WS_inBlock ?_ | refine WS_skip ?_ | refine WS_label ?_ | refine WS_scope ?_ | refine WS_inScope ?_ | refine WS_exit rfl ?_ | refine WS_true rfl ?_ | refine WS_false rfl ?_ | refine WS_yes rfl (by omega) ?_ | refine WS_no rfl (by omega) ?_ | refine WL_gyes rfl rfl rfl ?_ | refine WL_gno rfl rfl rfl rfl rfl ?_ | refine WL_gund rfl rfl rfl ?_ | refine WL_gyes rfl rfl (dF (by omega)) ?_ | refine WL_gyes rfl rfl (dT (by omega)) ?_ | refine WL_gno (b := false) rfl rfl (dF (by omega)) rfl rfl ?_ | refine WL_gno (b := true) rfl rfl (dT (by omega)) rfl rfl ?_ | (refine WL_r (by first | refine k_nilCheck rfl | refine k_fa rfl (Ty.fld rfl rfl) | refine k_loadb rfl hB rfl (Ty.shp rfl) | refine Run_pev rfl | refine k_add64 rfl rfl (by omega) | refine k_sub64 rfl rfl (by omega) | refine k_len rfl (Ty.isl rfl) | refine k_not rfl | refine k_notb rfl | refine k_min rfl rfl | refine k_max rfl rfl | refine k_mul64 rfl rfl (by omega) | refine k_quo64 rfl rfl (by omega) | refine k_rem rfl rfl (by omega) | refine k_extract rfl rfl | refine k_convI rfl rfl rfl (by omega) | refine k_conv16 rfl rfl rfl (by omega) | refine k_conv64 rfl rfl rfl (by omega) | refine k_conv8 rfl rfl rfl (by omega) | refine k_convB rfl rfl rfl | refine k_convH rfl rfl rfl | refine k_convQ rfl rfl rfl | refine k_pick_f (dF (by omega)) rfl | refine k_pick_t (dT (by omega)) rfl) rfl ?_))
    repeat (first | refine WS_seq ?_ | refine WS_region ?_ | refine WL_nil ?_ | refine WS_block ?_ | refine WS_inBlock ?_ | refine WS_skip ?_ | refine WS_label ?_ | refine WS_scope ?_ | refine WS_inScope ?_ | refine WS_exit rfl ?_ | refine WS_true rfl ?_ | refine WS_false rfl ?_ | refine WS_yes rfl (by omega) ?_ | refine WS_no rfl (by omega) ?_ | refine WL_gyes rfl rfl rfl ?_ | refine WL_gno rfl rfl rfl rfl rfl ?_ | refine WL_gund rfl rfl rfl ?_ | refine WL_gyes rfl rfl (dF (by omega)) ?_ | refine WL_gyes rfl rfl (dT (by omega)) ?_ | refine WL_gno (b := false) rfl rfl (dF (by omega)) rfl rfl ?_ | refine WL_gno (b := true) rfl rfl (dT (by omega)) rfl rfl ?_ | (refine WL_r (by first | refine Run_pev rfl | refine k_add64 rfl rfl (by omega) | refine k_sub64 rfl rfl (by omega) | refine k_len rfl (Ty.isl rfl) | refine k_not rfl | refine k_notb rfl | refine k_min rfl rfl | refine k_max rfl rfl | refine k_mul64 rfl rfl (by omega) | refine k_quo64 rfl rfl (by omega) | refine k_rem rfl rfl (by omega) | refine k_extract rfl rfl | refine k_convI rfl rfl rfl (by omega) | refine k_conv16 rfl rfl rfl (by omega) | refine k_conv64 rfl rfl rfl (by omega) | refine k_conv8 rfl rfl rfl (by omega) | refine k_convB rfl rfl rfl | refine k_convH rfl rfl rfl | refine k_convQ rfl rfl rfl | refine k_pick_f (dF (by omega)) rfl | refine k_pick_t (dT (by omega)) rfl) rfl ?_))
    try refine WL_gyes rfl rfl rfl ?_
    refine WL_s (H_lit (out := [B 1]) hH (Ty.sle rfl) (Ty.zer rfl) rfl rfl rfl (by decide) rfl ?_)
    try clear hH
    intro _ blit hH
    first | change Hp _ _ _ [] at hH | change Hp _ _ _ [_] at hH | change Hp _ _ _ [_, _] at hH | change Hp _ _ _ [_, _, _] at hH | change Hp _ _ _ [_, _, _, _] at hH | change Hp _ _ _ [_, _, _, _, _] at hH | change Hp _ _ _ [_, _, _, _, _, _] at hH | change Hp _ _ _ [_, _, _, _, _, _, _] at hH | change Hp _ _ _ [_, _, _, _, _, _, _, _] at hH | change Hp _ _ _ [_, _, _, _, _, _, _, _, _] at hH
    try refine WL_gyes rfl rfl rfl ?_
    refine WL_s (H_append 1 hH rfl (Ty.sle rfl) (Ty.zer rfl) rfl (Ty.byt rfl) (by decide) rfl rfl ((hH.b 2 rfl).sl0) (by simp; try omega) (by simp) (by omega) (by simp only [maxLen]; omega) rfl ?_)
    try clear hH
    intro _ a6 c6 hH
    first | change Hp _ _ _ [] at hH | change Hp _ _ _ [_] at hH | change Hp _ _ _ [_, _] at hH | change Hp _ _ _ [_, _, _] at hH | change Hp _ _ _ [_, _, _, _] at hH | change Hp _ _ _ [_, _, _, _, _] at hH | change Hp _ _ _ [_, _, _, _, _, _] at hH | change Hp _ _ _ [_, _, _, _, _, _, _] at hH | change Hp _ _ _ [_, _, _, _, _, _, _, _] at hH | change Hp _ _ _ [_, _, _, _, _, _, _, _, _] at hH
    replace hH := hH.del 2
    first | change Hp _ _ _ [] at hH | change Hp _ _ _ [_] at hH | change Hp _ _ _ [_, _] at hH | change Hp _ _ _ [_, _, _] at hH | change Hp _ _ _ [_, _, _, _] at hH | change Hp _ _ _ [_, _, _, _, _] at hH | change Hp _ _ _ [_, _, _, _, _, _] at hH | change Hp _ _ _ [_, _, _, _, _, _, _] at hH | change Hp _ _ _ [_, _, _, _, _, _, _, _] at hH | change Hp _ _ _ [_, _, _, _, _, _, _, _, _] at hH
    repeat (first | refine WS_seq ?_ | refine WS_region ?_ | refine WL_nil ?_ | refine WS_block ?_ | refine WS_inBlock ?_ | refine WS_skip ?_ | refine WS_label ?_ | refine WS_scope ?_ | refine WS_inScope ?_ | refine WS_exit rfl ?_ | refine WS_true rfl ?_ | refine WS_false rfl ?_ | refine WS_yes rfl (by omega) ?_ | refine WS_no rfl (by omega) ?_ | refine WL_gyes rfl rfl rfl ?_ | refine WL_gno rfl rfl rfl rfl rfl ?_ | refine WL_gund rfl rfl rfl ?_ | refine WL_gyes rfl rfl (dF (by omega)) ?_ | refine WL_gyes rfl rfl (dT (by omega)) ?_ | refine WL_gno (b := false) rfl rfl (dF (by omega)) rfl rfl ?_ | refine WL_gno (b := true) rfl rfl (dT (by omega)) rfl rfl ?_ | (refine WL_r (by first | refine Run_pev rfl | refine k_add64 rfl rfl (by omega) | refine k_sub64 rfl rfl (by omega) | refine k_len rfl (Ty.isl rfl) | refine k_not rfl | refine k_notb rfl | refine k_min rfl rfl | refine k_max rfl rfl | refine k_mul64 rfl rfl (by omega) | refine k_quo64 rfl rfl (by omega) | refine k_rem rfl rfl (by omega) | refine k_extract rfl rfl | refine k_convI rfl rfl rfl (by omega) | refine k_conv16 rfl rfl rfl (by omega) | refine k_conv64 rfl rfl rfl (by omega) | refine k_conv8 rfl rfl rfl (by omega) | refine k_convB rfl rfl rfl | refine k_convH rfl rfl rfl | refine k_convQ rfl rfl rfl | refine k_pick_f (dF (by omega)) rfl | refine k_pick_t (dT (by omega)) rfl) rfl ?_))
    rw [show bq (nb c 8 ++ nb r 8) ++ [B 1] = bq (nb c 8 ++ nb r 8 ++ [true]) by simp] at hH
    have hbi : SH.bits ⟨(c : Nat), (r : Nat), true, A, Bb⟩ = nb c 8 ++ nb r 8 ++ [true] ++ tb (A ++ Bb) := by simp [SH.bits]
    have hbl : (nb c 8 ++ nb r 8 ++ [true]).length = 17 := by simp [nb_len]
    have hou' : SH.out ⟨(c : Nat), (r : Nat), true, A, Bb⟩ = [0, 0, 1, 176] ++ escF 0 (endd (pk (nb c 8 ++ nb r 8 ++ [true] ++ tb (A ++ Bb) ++ [true]))) := by unfold SH.out SH.body; rw [hbi]
    rw [show 8 + 8 + 1 = 17 from rfl]
    generalize nb c 8 ++ nb r 8 ++ [true] = X at *
    have hsl : ∀ u, Blk u b1 26 (SH.cells ⟨(c : Nat), (r : Nat), true, A, Bb⟩).toArray → SlA u (some ⟨b1, 3, none⟩) (A.map B) ∧ SlA u (some ⟨b1, 67, none⟩) (Bb.map B) := by
      intro u hu
      have hS2 : SlA u (some ⟨b1, 2, none⟩) (SH.tc ⟨(c : Nat), (r : Nat), true, A, Bb⟩) := hu.sl (fun j v hj => by
        rw [Nat.add_comm 2 j]; simpa [SH.cells] using hj)
      exact (tc_sl ho hS2).2
    have hA1 : (A.map B).length = 64 * 1 := by simp [hla]
    have hB1 : (Bb.map B).length = 64 * 1 := by simp [hlb]
    have hone : ∀ l : List Nat, ∀ u ∈ l.map B, u.oneCell' = true := fun l u hu => by obtain ⟨y, _, rfl⟩ := List.mem_map.1 hu; rfl
    replace hH : Hp [] w _ [Rb b1 26 (SH.cells ⟨(c : Nat), (r : Nat), true, A, Bb⟩).toArray, Ro 5 1 a6 17 c6 (bq X)] := hH
    refine WS_draw Ty.mixed (Ext [] w) 11 rfl ?_
    replace hH := hH.ext0 (Ext.drew0 (S := []))
    have hx0 := hH.ext
    refine WA_take 1 rfl (by kernel_rfl) hx0 rfl rfl (fun w' hw' => by first | refine k_fa rfl (Ty.fld rfl rfl) | refine k_sla rfl (Ty.arr rfl)) ?_
    refine WA_take 2 rfl (by kernel_rfl) hx0 rfl rfl (fun w' hw' => by first | refine k_fa rfl (Ty.fld rfl rfl) | refine k_sla rfl (Ty.arr rfl)) ?_
    refine WA_take 3 rfl (by kernel_rfl) hx0 rfl rfl (fun w' hw' => by first | refine k_sla rfl (Ty.arr rfl)) ?_
    refine WA_take 5 rfl (by kernel_rfl) hx0 rfl rfl (fun w' hw' => by first | refine k_fa rfl (Ty.fld rfl rfl) | refine k_sla rfl (Ty.arr rfl)) ?_
    refine WA_take 6 rfl (by kernel_rfl) hx0 rfl rfl (fun w' hw' => by first | refine k_fa rfl (Ty.fld rfl rfl) | refine k_sla rfl (Ty.arr rfl)) ?_
    refine WA_take 7 rfl (by kernel_rfl) hx0 rfl rfl (fun w' hw' => by first | refine k_sla rfl (Ty.arr rfl)) ?_
    refine WA_take 10 rfl (by kernel_rfl) hx0 rfl rfl (fun w' hw' => by first | refine Run_pev rfl) ?_
    refine WA_one 0 (by kernel_rfl) rfl rfl (H_lit (out := []) hH (Ty.sle rfl) (Ty.zer rfl) rfl rfl rfl (by decide) rfl ?_)
    clear hH
    intro w2 b27 hH
    replace hH := hH.as 2 rfl (r' := Ro 5 1 (some ⟨b27, 0, none⟩) 0 0 []) (fun _ h => h) (fun h => (h : Blk _ _ _ _).own (n := 0) (sz := 1) rfl (by decide))
    first | change Hp _ _ _ [] at hH | change Hp _ _ _ [_] at hH | change Hp _ _ _ [_, _] at hH | change Hp _ _ _ [_, _, _] at hH | change Hp _ _ _ [_, _, _, _] at hH | change Hp _ _ _ [_, _, _, _, _] at hH | change Hp _ _ _ [_, _, _, _, _, _] at hH | change Hp _ _ _ [_, _, _, _, _, _, _] at hH | change Hp _ _ _ [_, _, _, _, _, _, _, _] at hH | change Hp _ _ _ [_, _, _, _, _, _, _, _, _] at hH
    have hx1 := hH.ext
    refine ⟨hx1, ?_⟩
    refine WA_one 4 (by kernel_rfl) rfl rfl (H_append 2 hH rfl (Ty.sle rfl) (Ty.zer rfl) rfl (Ty.byt rfl) (by decide) rfl rfl (hsl _ (hH.b 0 rfl)).1 hA1 (hone A) (by omega) (by simp only [maxLen]; omega) rfl ?_)
    clear hH
    intro w3 a3 c3 hH
    first | change Hp _ _ _ [] at hH | change Hp _ _ _ [_] at hH | change Hp _ _ _ [_, _] at hH | change Hp _ _ _ [_, _, _] at hH | change Hp _ _ _ [_, _, _, _] at hH | change Hp _ _ _ [_, _, _, _, _] at hH | change Hp _ _ _ [_, _, _, _, _, _] at hH | change Hp _ _ _ [_, _, _, _, _, _, _] at hH | change Hp _ _ _ [_, _, _, _, _, _, _, _] at hH | change Hp _ _ _ [_, _, _, _, _, _, _, _, _] at hH
    have hx2 := hH.ext
    refine ⟨hx2, ?_⟩
    refine WA_one 8 (by kernel_rfl) rfl rfl (H_append 2 hH rfl (Ty.sle rfl) (Ty.zer rfl) rfl (Ty.byt rfl) (by decide) rfl rfl (hsl _ (hH.b 0 rfl)).2 hB1 (hone Bb) (by omega) (by simp only [maxLen]; omega) rfl ?_)
    clear hH
    intro w4 a4 c4 hH
    first | change Hp _ _ _ [] at hH | change Hp _ _ _ [_] at hH | change Hp _ _ _ [_, _] at hH | change Hp _ _ _ [_, _, _] at hH | change Hp _ _ _ [_, _, _, _] at hH | change Hp _ _ _ [_, _, _, _, _] at hH | change Hp _ _ _ [_, _, _, _, _, _] at hH | change Hp _ _ _ [_, _, _, _, _, _, _] at hH | change Hp _ _ _ [_, _, _, _, _, _, _, _] at hH | change Hp _ _ _ [_, _, _, _, _, _, _, _, _] at hH
    have hx3 := hH.ext
    refine ⟨hx3, ?_⟩
    refine WA_take 9 rfl (by kernel_rfl) hx3 rfl rfl (fun w' hw' => by first | refine k_len rfl (Ty.isl rfl) | refine k_lens rfl (Ty.iss rfl)) ?_
    refine WA_done (by kernel_rfl) ?_
    rw [List.nil_append, ← List.map_append] at hH
    have hT : (A ++ Bb).length = 128 := by simp [hla, hlb]
    have hTb : Byt (A ++ Bb) := Byt.append hba hbb
    rw [show 0 + 64 + 64 = 128 from rfl] at hH
    replace hH : Hp [] w w4 [Rb b1 26 (SH.cells ⟨(c : Nat), (r : Nat), true, A, Bb⟩).toArray, Ro 5 1 a6 17 c6 (bq X), Ro 5 1 a4 128 c4 ((A ++ Bb).map B)] := hH
    generalize SH.out ⟨(c : Nat), (r : Nat), true, A, Bb⟩ = OUT at *
    generalize A ++ Bb = T at *
    repeat (first | refine WS_seq ?_ | refine WS_region ?_ | refine WL_nil ?_ | refine WS_block ?_ | refine WS_inBlock ?_ | refine WS_skip ?_ | refine WS_label ?_ | refine WS_scope ?_ | refine WS_inScope ?_ | refine WS_exit rfl ?_ | refine WS_true rfl ?_ | refine WS_false rfl ?_ | refine WS_yes rfl (by omega) ?_ | refine WS_no rfl (by omega) ?_ | refine WL_gyes rfl rfl rfl ?_ | refine WL_gno rfl rfl rfl rfl rfl ?_ | refine WL_gund rfl rfl rfl ?_ | refine WL_gyes rfl rfl (dF (by omega)) ?_ | refine WL_gyes rfl rfl (dT (by omega)) ?_ | refine WL_gno (b := false) rfl rfl (dF (by omega)) rfl rfl ?_ | refine WL_gno (b := true) rfl rfl (dT (by omega)) rfl rfl ?_ | (refine WL_r (by first | refine Run_pev rfl | refine k_add64 rfl rfl (by omega) | refine k_sub64 rfl rfl (by omega) | refine k_len rfl (Ty.isl rfl) | refine k_not rfl | refine k_notb rfl | refine k_min rfl rfl | refine k_max rfl rfl | refine k_mul64 rfl rfl (by omega) | refine k_quo64 rfl rfl (by omega) | refine k_rem rfl rfl (by omega) | refine k_extract rfl rfl | refine k_convI rfl rfl rfl (by omega) | refine k_conv16 rfl rfl rfl (by omega) | refine k_conv64 rfl rfl rfl (by omega) | refine k_conv8 rfl rfl rfl (by omega) | refine k_convB rfl rfl rfl | refine k_convH rfl rfl rfl | refine k_convQ rfl rfl rfl | refine k_pick_f (dF (by omega)) rfl | refine k_pick_t (dT (by omega)) rfl) rfl ?_))
    refine WS_loop (G := (Nat) × (Option Addr) × (Nat)) (fun | (k, a5, c5) => 128 - k) 140600049401896 (fun | (k, a5, c5) => [(37, .int .i64 k), (3, .slice a5 (17 + 8 * k) c5)]) (fun | (k, a5, c5), w' => k ≤ 128 ∧ Hp [] w w' [Rb b1 26 (SH.cells ⟨(c : Nat), (r : Nat), true, A, Bb⟩).toArray, Ro 5 1 a5 (17 + 8 * k) c5 (bq (X ++ tb (T.take k))), Ro 5 1 a4 128 c4 (T.map B)]) (0, a6, c6) ⟨rfl, rfl, trivial⟩ ⟨by omega, by simpa [tb] using hH⟩ ?_
    rintro ⟨k, a5, c5⟩ w' σ ⟨hk, hH⟩ IH
    show WS _ _ _ _ _ (updL [(37, .int .i64 k), (3, .slice a5 (17 + 8 * k) c5)] _) _
    by_cases hlt : k < 128
    · have hlt' : k < T.length := by omega
      have hv : (T.map B)[k]? = some (B T[k]) := by simp [hlt']
      have hc : T[k] < 256 := hTb _ (List.getElem_mem hlt')
      have e1 := tb_at hlt'
      generalize T[k] = x at *
      have hSk : SlA w' a4 (T.map B) := (hH.o 2 rfl).sl
      have hTl : (T.map B).length = 128 := by simp [hT]
      repeat (first | refine WS_seq ?_ | refine WS_region ?_ | refine WL_nil ?_ | refine WS_block ?_ | refine WS_inBlock ?_ | refine WS_skip ?_ | refine WS_label ?_ | refine WS_scope ?_ | refine WS_inScope ?_ | refine WS_exit rfl ?_ | refine WS_true rfl ?_ | refine WS_false rfl ?_ | refine WS_yes rfl (by omega) ?_ | refine WS_no rfl (by omega) ?_ | refine WL_gyes rfl rfl rfl ?_ | refine WL_gno rfl rfl rfl rfl rfl ?_ | refine WL_gund rfl rfl rfl ?_ | refine WL_gyes rfl rfl (dF (by omega)) ?_ | refine WL_gyes rfl rfl (dT (by omega)) ?_ | refine WL_gno (b := false) rfl rfl (dF (by omega)) rfl rfl ?_ | refine WL_gno (b := true) rfl rfl (dT (by omega)) rfl rfl ?_ | (refine WL_r (by first | refine k_ix1 rfl rfl hSk (by omega) (Ty.sle rfl) (by omega) | refine k_loads rfl hSk hv (Ty.shp rfl) | refine (k_conv_u64 (m := x) rfl rfl (Ty.knd rfl)).is (congrArg (fun n : Nat => Value.int .u64 (n : Int)) (by omega)) | refine Run_pev rfl | refine k_add64 rfl rfl (by omega) | refine k_sub64 rfl rfl (by omega) | refine k_len rfl (Ty.isl rfl) | refine k_not rfl | refine k_notb rfl | refine k_min rfl rfl | refine k_max rfl rfl | refine k_mul64 rfl rfl (by omega) | refine k_quo64 rfl rfl (by omega) | refine k_rem rfl rfl (by omega) | refine k_extract rfl rfl | refine k_convI rfl rfl rfl (by omega) | refine k_conv16 rfl rfl rfl (by omega) | refine k_conv64 rfl rfl rfl (by omega) | refine k_conv8 rfl rfl rfl (by omega) | refine k_convB rfl rfl rfl | refine k_convH rfl rfl rfl | refine k_convQ rfl rfl rfl | refine k_pick_f (dF (by omega)) rfl | refine k_pick_t (dT (by omega)) rfl) rfl ?_))
      try refine WL_gyes rfl rfl rfl ?_
      refine WL_s (S_call (rbits_spec (s := 8) (show x < 18446744073709551616 by omega) (by omega) (by decide)) rfl rfl ?_)
      rintro v w6 ⟨a2, c2, rfl, hN⟩
      replace hH := hH.nu hN
      clear hN
      first | change Hp _ _ _ [] at hH | change Hp _ _ _ [_] at hH | change Hp _ _ _ [_, _] at hH | change Hp _ _ _ [_, _, _] at hH | change Hp _ _ _ [_, _, _, _] at hH | change Hp _ _ _ [_, _, _, _, _] at hH | change Hp _ _ _ [_, _, _, _, _, _] at hH | change Hp _ _ _ [_, _, _, _, _, _, _] at hH | change Hp _ _ _ [_, _, _, _, _, _, _, _] at hH | change Hp _ _ _ [_, _, _, _, _, _, _, _, _] at hH
      rw [nb_bq] at hH
      refine WL_s (H_append 1 hH rfl (Ty.sle rfl) (Ty.zer rfl) rfl (Ty.byt rfl) (by decide) rfl rfl ((hH.o 3 rfl).sl) (hln8 x) (bq_one _) (by omega) (by simp only [maxLen]; omega) rfl ?_)
      clear hH
      intro w7 a7 c7 hH
      replace hH := hH.take 3
      first | change Hp _ _ _ [] at hH | change Hp _ _ _ [_] at hH | change Hp _ _ _ [_, _] at hH | change Hp _ _ _ [_, _, _] at hH | change Hp _ _ _ [_, _, _, _] at hH | change Hp _ _ _ [_, _, _, _, _] at hH | change Hp _ _ _ [_, _, _, _, _, _] at hH | change Hp _ _ _ [_, _, _, _, _, _, _] at hH | change Hp _ _ _ [_, _, _, _, _, _, _, _] at hH | change Hp _ _ _ [_, _, _, _, _, _, _, _, _] at hH
      rw [← bq_app, List.append_assoc, ← e1] at hH
      repeat (first | refine WS_seq ?_ | refine WS_region ?_ | refine WL_nil ?_ | refine WS_block ?_ | refine WS_inBlock ?_ | refine WS_skip ?_ | refine WS_label ?_ | refine WS_scope ?_ | refine WS_inScope ?_ | refine WS_exit rfl ?_ | refine WS_true rfl ?_ | refine WS_false rfl ?_ | refine WS_yes rfl (by omega) ?_ | refine WS_no rfl (by omega) ?_ | refine WL_gyes rfl rfl rfl ?_ | refine WL_gno rfl rfl rfl rfl rfl ?_ | refine WL_gund rfl rfl rfl ?_ | refine WL_gyes rfl rfl (dF (by omega)) ?_ | refine WL_gyes rfl rfl (dT (by omega)) ?_ | refine WL_gno (b := false) rfl rfl (dF (by omega)) rfl rfl ?_ | refine WL_gno (b := true) rfl rfl (dT (by omega)) rfl rfl ?_ | (refine WL_r (by first | refine Run_pev rfl | refine k_add64 rfl rfl (by omega) | refine k_sub64 rfl rfl (by omega) | refine k_len rfl (Ty.isl rfl) | refine k_not rfl | refine k_notb rfl | refine k_min rfl rfl | refine k_max rfl rfl | refine k_mul64 rfl rfl (by omega) | refine k_quo64 rfl rfl (by omega) | refine k_rem rfl rfl (by omega) | refine k_extract rfl rfl | refine k_convI rfl rfl rfl (by omega) | refine k_conv16 rfl rfl rfl (by omega) | refine k_conv64 rfl rfl rfl (by omega) | refine k_conv8 rfl rfl rfl (by omega) | refine k_convB rfl rfl rfl | refine k_convH rfl rfl rfl | refine k_convQ rfl rfl rfl | refine k_pick_f (dF (by omega)) rfl | refine k_pick_t (dT (by omega)) rfl) rfl ?_))
      refine IH (k + 1, a7, c7) _ _ ?_ ?_ ?_ ?_
      · simp only; omega
      · exact ⟨rfl, rfl, trivial⟩
      · exact (by repeat (first | with_reducible apply Agr.refl | refine Agr.upd rfl ?_ | refine Agr.updo rfl ?_ | refine Agr.updL rfl ?_ | refine Agr.mrg rfl ?_ | exact Agr.refl | refine Agr.updn ?_))
      · exact ⟨by omega, hH⟩
    · obtain rfl : k = 128 := by omega
      clear IH
      rw [List.take_of_length_le (by omega)] at hH
      have hbl2 : (X ++ tb T).length = 17 + 8 * 128 := by rw [List.length_append, tb_len, hT, hbl]
      generalize X ++ tb T = Y at *
      rw [← hbl2] at hH ⊢
      have hYl : Y.length = 1041 := by omega
      repeat (first | refine WS_seq ?_ | refine WS_region ?_ | refine WL_nil ?_ | refine WS_block ?_ | refine WS_inBlock ?_ | refine WS_skip ?_ | refine WS_label ?_ | refine WS_scope ?_ | refine WS_inScope ?_ | refine WS_exit rfl ?_ | refine WS_true rfl ?_ | refine WS_false rfl ?_ | refine WS_yes rfl (by omega) ?_ | refine WS_no rfl (by omega) ?_ | refine WL_gyes rfl rfl rfl ?_ | refine WL_gno rfl rfl rfl rfl rfl ?_ | refine WL_gund rfl rfl rfl ?_ | refine WL_gyes rfl rfl (dF (by omega)) ?_ | refine WL_gyes rfl rfl (dT (by omega)) ?_ | refine WL_gno (b := false) rfl rfl (dF (by omega)) rfl rfl ?_ | refine WL_gno (b := true) rfl rfl (dT (by omega)) rfl rfl ?_ | (refine WL_r (by first | refine Run_pev rfl | refine k_add64 rfl rfl (by omega) | refine k_sub64 rfl rfl (by omega) | refine k_len rfl (Ty.isl rfl) | refine k_not rfl | refine k_notb rfl | refine k_min rfl rfl | refine k_max rfl rfl | refine k_mul64 rfl rfl (by omega) | refine k_quo64 rfl rfl (by omega) | refine k_rem rfl rfl (by omega) | refine k_extract rfl rfl | refine k_convI rfl rfl rfl (by omega) | refine k_conv16 rfl rfl rfl (by omega) | refine k_conv64 rfl rfl rfl (by omega) | refine k_conv8 rfl rfl rfl (by omega) | refine k_convB rfl rfl rfl | refine k_convH rfl rfl rfl | refine k_convQ rfl rfl rfl | refine k_pick_f (dF (by omega)) rfl | refine k_pick_t (dT (by omega)) rfl) rfl ?_))
      try refine WL_gyes rfl rfl rfl ?_
      refine WL_s (S_call (rdone_spec (hH.o 1 rfl).sl rfl (by omega)) rfl rfl ?_)
      rintro v w7 ⟨a7, c7, rfl, hN⟩
      replace hH := hH.nu hN
      clear hN
      first | change Hp _ _ _ [] at hH | change Hp _ _ _ [_] at hH | change Hp _ _ _ [_, _] at hH | change Hp _ _ _ [_, _, _] at hH | change Hp _ _ _ [_, _, _, _] at hH | change Hp _ _ _ [_, _, _, _, _] at hH | change Hp _ _ _ [_, _, _, _, _, _] at hH | change Hp _ _ _ [_, _, _, _, _, _, _] at hH | change Hp _ _ _ [_, _, _, _, _, _, _, _] at hH | change Hp _ _ _ [_, _, _, _, _, _, _, _, _] at hH
      have hby : Byt (pk (Y ++ [true])) := pk_byt _
      have hpn := pk_len (Y ++ [true])
      rw [List.length_append] at hpn
      simp only [List.length_cons, List.length_nil] at hpn
      have hou : OUT = [0, 0, 1, 176] ++ escF 0 (endd (pk (Y ++ [true]))) := hou'
      rw [hou]
      generalize pk (Y ++ [true]) = bo at *
      have hs16 := crc_lt bo
      repeat (first | refine WS_seq ?_ | refine WS_region ?_ | refine WL_nil ?_ | refine WS_block ?_ | refine WS_inBlock ?_ | refine WS_skip ?_ | refine WS_label ?_ | refine WS_scope ?_ | refine WS_inScope ?_ | refine WS_exit rfl ?_ | refine WS_true rfl ?_ | refine WS_false rfl ?_ | refine WS_yes rfl (by omega) ?_ | refine WS_no rfl (by omega) ?_ | refine WL_gyes rfl rfl rfl ?_ | refine WL_gno rfl rfl rfl rfl rfl ?_ | refine WL_gund rfl rfl rfl ?_ | refine WL_gyes rfl rfl (dF (by omega)) ?_ | refine WL_gyes rfl rfl (dT (by omega)) ?_ | refine WL_gno (b := false) rfl rfl (dF (by omega)) rfl rfl ?_ | refine WL_gno (b := true) rfl rfl (dT (by omega)) rfl rfl ?_ | (refine WL_r (by first | refine Run_pev rfl | refine k_add64 rfl rfl (by omega) | refine k_sub64 rfl rfl (by omega) | refine k_len rfl (Ty.isl rfl) | refine k_not rfl | refine k_notb rfl | refine k_min rfl rfl | refine k_max rfl rfl | refine k_mul64 rfl rfl (by omega) | refine k_quo64 rfl rfl (by omega) | refine k_rem rfl rfl (by omega) | refine k_extract rfl rfl | refine k_convI rfl rfl rfl (by omega) | refine k_conv16 rfl rfl rfl (by omega) | refine k_conv64 rfl rfl rfl (by omega) | refine k_conv8 rfl rfl rfl (by omega) | refine k_convB rfl rfl rfl | refine k_convH rfl rfl rfl | refine k_convQ rfl rfl rfl | refine k_pick_f (dF (by omega)) rfl | refine k_pick_t (dT (by omega)) rfl) rfl ?_))
      try refine WL_gyes rfl rfl rfl ?_
      refine WL_s (S_call (rsum_spec (hH.o 3 rfl).sl hby rfl (by omega)) rfl rfl ?_)
      rintro v w8 ⟨rfl, hE⟩
      replace hH := hH.ext0 hE
      clear hE
      rw [show crcAdd 65535 bo = crc bo from rfl]
      repeat (first | refine WS_seq ?_ | refine WS_region ?_ | refine WL_nil ?_ | refine WS_block ?_ | refine WS_inBlock ?_ | refine WS_skip ?_ | refine WS_label ?_ | refine WS_scope ?_ | refine WS_inScope ?_ | refine WS_exit rfl ?_ | refine WS_true rfl ?_ | refine WS_false rfl ?_ | refine WS_yes rfl (by omega) ?_ | refine WS_no rfl (by omega) ?_ | refine WL_gyes rfl rfl rfl ?_ | refine WL_gno rfl rfl rfl rfl rfl ?_ | refine WL_gund rfl rfl rfl ?_ | refine WL_gyes rfl rfl (dF (by omega)) ?_ | refine WL_gyes rfl rfl (dT (by omega)) ?_ | refine WL_gno (b := false) rfl rfl (dF (by omega)) rfl rfl ?_ | refine WL_gno (b := true) rfl rfl (dT (by omega)) rfl rfl ?_ | (refine WL_r (by first | refine Run_pev rfl | refine k_add64 rfl rfl (by omega) | refine k_sub64 rfl rfl (by omega) | refine k_len rfl (Ty.isl rfl) | refine k_not rfl | refine k_notb rfl | refine k_min rfl rfl | refine k_max rfl rfl | refine k_mul64 rfl rfl (by omega) | refine k_quo64 rfl rfl (by omega) | refine k_rem rfl rfl (by omega) | refine k_extract rfl rfl | refine k_convI rfl rfl rfl (by omega) | refine k_conv16 rfl rfl rfl (by omega) | refine k_conv64 rfl rfl rfl (by omega) | refine k_conv8 rfl rfl rfl (by omega) | refine k_convB rfl rfl rfl | refine k_convH rfl rfl rfl | refine k_convQ rfl rfl rfl | refine k_pick_f (dF (by omega)) rfl | refine k_pick_t (dT (by omega)) rfl) rfl ?_))
      try refine WL_gyes rfl rfl rfl ?_
      refine WL_s (H_lit (out := [B 0, B 0, B 1, B 176]) hH (Ty.sle rfl) (Ty.zer rfl) rfl rfl rfl (by decide) rfl ?_)
      try clear hH
      intro _ b51 hH
      first | change Hp _ _ _ [] at hH | change Hp _ _ _ [_] at hH | change Hp _ _ _ [_, _] at hH | change Hp _ _ _ [_, _, _] at hH | change Hp _ _ _ [_, _, _, _] at hH | change Hp _ _ _ [_, _, _, _, _] at hH | change Hp _ _ _ [_, _, _, _, _, _] at hH | change Hp _ _ _ [_, _, _, _, _, _, _] at hH | change Hp _ _ _ [_, _, _, _, _, _, _, _] at hH | change Hp _ _ _ [_, _, _, _, _, _, _, _, _] at hH
      have hq : crc bo / 256 % 256 = crc bo / 256 := by omega
      repeat (first | refine WS_seq ?_ | refine WS_region ?_ | refine WL_nil ?_ | refine WS_block ?_ | refine WS_inBlock ?_ | refine WS_skip ?_ | refine WS_label ?_ | refine WS_scope ?_ | refine WS_inScope ?_ | refine WS_exit rfl ?_ | refine WS_true rfl ?_ | refine WS_false rfl ?_ | refine WS_yes rfl (by omega) ?_ | refine WS_no rfl (by omega) ?_ | refine WL_gyes rfl rfl rfl ?_ | refine WL_gno rfl rfl rfl rfl rfl ?_ | refine WL_gund rfl rfl rfl ?_ | refine WL_gyes rfl rfl (dF (by omega)) ?_ | refine WL_gyes rfl rfl (dT (by omega)) ?_ | refine WL_gno (b := false) rfl rfl (dF (by omega)) rfl rfl ?_ | refine WL_gno (b := true) rfl rfl (dT (by omega)) rfl rfl ?_ | (refine WL_r (by first | refine k_quou (n := 256) rfl rfl (by decide) (fit16 hs16) | refine (k_conv_u8 (m := crc bo / 256) rfl rfl (Ty.knd rfl)).is (congrArg (fun n : Nat => Value.int .u8 (n : Int)) hq) | refine k_conv_u8 (m := crc bo) rfl rfl (Ty.knd rfl) | refine Run_pev rfl | refine k_add64 rfl rfl (by omega) | refine k_sub64 rfl rfl (by omega) | refine k_len rfl (Ty.isl rfl) | refine k_not rfl | refine k_notb rfl | refine k_min rfl rfl | refine k_max rfl rfl | refine k_mul64 rfl rfl (by omega) | refine k_quo64 rfl rfl (by omega) | refine k_rem rfl rfl (by omega) | refine k_extract rfl rfl | refine k_convI rfl rfl rfl (by omega) | refine k_conv16 rfl rfl rfl (by omega) | refine k_conv64 rfl rfl rfl (by omega) | refine k_conv8 rfl rfl rfl (by omega) | refine k_convB rfl rfl rfl | refine k_convH rfl rfl rfl | refine k_convQ rfl rfl rfl | refine k_pick_f (dF (by omega)) rfl | refine k_pick_t (dT (by omega)) rfl) rfl ?_))
      try refine WL_gyes rfl rfl rfl ?_
      refine WL_s (H_lit (out := [B (crc bo / 256), B (crc bo % 256), B 128]) hH (Ty.sle rfl) (Ty.zer rfl) rfl rfl rfl (by decide) rfl ?_)
      try clear hH
      intro _ b58 hH
      first | change Hp _ _ _ [] at hH | change Hp _ _ _ [_] at hH | change Hp _ _ _ [_, _] at hH | change Hp _ _ _ [_, _, _] at hH | change Hp _ _ _ [_, _, _, _] at hH | change Hp _ _ _ [_, _, _, _, _] at hH | change Hp _ _ _ [_, _, _, _, _, _] at hH | change Hp _ _ _ [_, _, _, _, _, _, _] at hH | change Hp _ _ _ [_, _, _, _, _, _, _, _] at hH | change Hp _ _ _ [_, _, _, _, _, _, _, _, _] at hH
      repeat (first | refine WS_seq ?_ | refine WS_region ?_ | refine WL_nil ?_ | refine WS_block ?_ | refine WS_inBlock ?_ | refine WS_skip ?_ | refine WS_label ?_ | refine WS_scope ?_ | refine WS_inScope ?_ | refine WS_exit rfl ?_ | refine WS_true rfl ?_ | refine WS_false rfl ?_ | refine WS_yes rfl (by omega) ?_ | refine WS_no rfl (by omega) ?_ | refine WL_gyes rfl rfl rfl ?_ | refine WL_gno rfl rfl rfl rfl rfl ?_ | refine WL_gund rfl rfl rfl ?_ | refine WL_gyes rfl rfl (dF (by omega)) ?_ | refine WL_gyes rfl rfl (dT (by omega)) ?_ | refine WL_gno (b := false) rfl rfl (dF (by omega)) rfl rfl ?_ | refine WL_gno (b := true) rfl rfl (dT (by omega)) rfl rfl ?_ | (refine WL_r (by first | refine Run_pev rfl | refine k_add64 rfl rfl (by omega) | refine k_sub64 rfl rfl (by omega) | refine k_len rfl (Ty.isl rfl) | refine k_not rfl | refine k_notb rfl | refine k_min rfl rfl | refine k_max rfl rfl | refine k_mul64 rfl rfl (by omega) | refine k_quo64 rfl rfl (by omega) | refine k_rem rfl rfl (by omega) | refine k_extract rfl rfl | refine k_convI rfl rfl rfl (by omega) | refine k_conv16 rfl rfl rfl (by omega) | refine k_conv64 rfl rfl rfl (by omega) | refine k_conv8 rfl rfl rfl (by omega) | refine k_convB rfl rfl rfl | refine k_convH rfl rfl rfl | refine k_convQ rfl rfl rfl | refine k_pick_f (dF (by omega)) rfl | refine k_pick_t (dT (by omega)) rfl) rfl ?_))
      try refine WL_gyes rfl rfl rfl ?_
      refine WL_s (H_append 3 hH rfl (Ty.sle rfl) (Ty.zer rfl) rfl (Ty.byt rfl) (by decide) rfl rfl ((hH.b 5 rfl).sl0) (by simp; try omega) (by simp) (by omega) (by simp only [maxLen]; omega) rfl ?_)
      try clear hH
      intro _ a9 c9 hH
      first | change Hp _ _ _ [] at hH | change Hp _ _ _ [_] at hH | change Hp _ _ _ [_, _] at hH | change Hp _ _ _ [_, _, _] at hH | change Hp _ _ _ [_, _, _, _] at hH | change Hp _ _ _ [_, _, _, _, _] at hH | change Hp _ _ _ [_, _, _, _, _, _] at hH | change Hp _ _ _ [_, _, _, _, _, _, _] at hH | change Hp _ _ _ [_, _, _, _, _, _, _, _] at hH | change Hp _ _ _ [_, _, _, _, _, _, _, _, _] at hH
      rw [show bo.map B ++ [B (crc bo / 256), B (crc bo % 256), B 128] = (endd bo).map B by simp [endd]] at hH
      have hel : bo.length + 3 = (endd bo).length := (endd_len bo).symm
      have hey := endd_byt hby
      have hfl := escF_len (endd bo) 0
      rw [endd_len] at hfl
      rw [hel] at hH ⊢
      repeat (first | refine WS_seq ?_ | refine WS_region ?_ | refine WL_nil ?_ | refine WS_block ?_ | refine WS_inBlock ?_ | refine WS_skip ?_ | refine WS_label ?_ | refine WS_scope ?_ | refine WS_inScope ?_ | refine WS_exit rfl ?_ | refine WS_true rfl ?_ | refine WS_false rfl ?_ | refine WS_yes rfl (by omega) ?_ | refine WS_no rfl (by omega) ?_ | refine WL_gyes rfl rfl rfl ?_ | refine WL_gno rfl rfl rfl rfl rfl ?_ | refine WL_gund rfl rfl rfl ?_ | refine WL_gyes rfl rfl (dF (by omega)) ?_ | refine WL_gyes rfl rfl (dT (by omega)) ?_ | refine WL_gno (b := false) rfl rfl (dF (by omega)) rfl rfl ?_ | refine WL_gno (b := true) rfl rfl (dT (by omega)) rfl rfl ?_ | (refine WL_r (by first | refine Run_pev rfl | refine k_add64 rfl rfl (by omega) | refine k_sub64 rfl rfl (by omega) | refine k_len rfl (Ty.isl rfl) | refine k_not rfl | refine k_notb rfl | refine k_min rfl rfl | refine k_max rfl rfl | refine k_mul64 rfl rfl (by omega) | refine k_quo64 rfl rfl (by omega) | refine k_rem rfl rfl (by omega) | refine k_extract rfl rfl | refine k_convI rfl rfl rfl (by omega) | refine k_conv16 rfl rfl rfl (by omega) | refine k_conv64 rfl rfl rfl (by omega) | refine k_conv8 rfl rfl rfl (by omega) | refine k_convB rfl rfl rfl | refine k_convH rfl rfl rfl | refine k_convQ rfl rfl rfl | refine k_pick_f (dF (by omega)) rfl | refine k_pick_t (dT (by omega)) rfl) rfl ?_))
      try refine WL_gyes rfl rfl rfl ?_
      refine WL_s (S_call (refesc_spec (hH.o 3 rfl).sl hey rfl (by omega)) rfl rfl ?_)
      rintro v w10 ⟨a10, c10, rfl, hN⟩
      replace hH := hH.nu hN
      clear hN
      first | change Hp _ _ _ [] at hH | change Hp _ _ _ [_] at hH | change Hp _ _ _ [_, _] at hH | change Hp _ _ _ [_, _, _] at hH | change Hp _ _ _ [_, _, _, _] at hH | change Hp _ _ _ [_, _, _, _, _] at hH | change Hp _ _ _ [_, _, _, _, _, _] at hH | change Hp _ _ _ [_, _, _, _, _, _, _] at hH | change Hp _ _ _ [_, _, _, _, _, _, _, _] at hH | change Hp _ _ _ [_, _, _, _, _, _, _, _, _] at hH
      replace hH := hH.as 4 rfl (r' := Ro 5 1 (some ⟨b51, 0, none⟩) 4 4 ([0, 0, 1, 176].map B)) (fun _ h => h) (fun h => (h : Blk _ _ _ _).own (n := 4) (sz := 1) rfl (by decide))
      first | change Hp _ _ _ [] at hH | change Hp _ _ _ [_] at hH | change Hp _ _ _ [_, _] at hH | change Hp _ _ _ [_, _, _] at hH | change Hp _ _ _ [_, _, _, _] at hH | change Hp _ _ _ [_, _, _, _, _] at hH | change Hp _ _ _ [_, _, _, _, _, _] at hH | change Hp _ _ _ [_, _, _, _, _, _, _] at hH | change Hp _ _ _ [_, _, _, _, _, _, _, _] at hH | change Hp _ _ _ [_, _, _, _, _, _, _, _, _] at hH
      have hln : ((escF 0 (endd bo)).map B).length = (escF 0 (endd bo)).length * 1 := by simp
      have hone : ∀ u ∈ (escF 0 (endd bo)).map B, u.oneCell' = true := fun u hu => by obtain ⟨y, _, rfl⟩ := List.mem_map.1 hu; rfl
      repeat (first | refine WS_seq ?_ | refine WS_region ?_ | refine WL_nil ?_ | refine WS_block ?_ | refine WS_inBlock ?_ | refine WS_skip ?_ | refine WS_label ?_ | refine WS_scope ?_ | refine WS_inScope ?_ | refine WS_exit rfl ?_ | refine WS_true rfl ?_ | refine WS_false rfl ?_ | refine WS_yes rfl (by omega) ?_ | refine WS_no rfl (by omega) ?_ | refine WL_gyes rfl rfl rfl ?_ | refine WL_gno rfl rfl rfl rfl rfl ?_ | refine WL_gund rfl rfl rfl ?_ | refine WL_gyes rfl rfl (dF (by omega)) ?_ | refine WL_gyes rfl rfl (dT (by omega)) ?_ | refine WL_gno (b := false) rfl rfl (dF (by omega)) rfl rfl ?_ | refine WL_gno (b := true) rfl rfl (dT (by omega)) rfl rfl ?_ | (refine WL_r (by first | refine Run_pev rfl | refine k_add64 rfl rfl (by omega) | refine k_sub64 rfl rfl (by omega) | refine k_len rfl (Ty.isl rfl) | refine k_not rfl | refine k_notb rfl | refine k_min rfl rfl | refine k_max rfl rfl | refine k_mul64 rfl rfl (by omega) | refine k_quo64 rfl rfl (by omega) | refine k_rem rfl rfl (by omega) | refine k_extract rfl rfl | refine k_convI rfl rfl rfl (by omega) | refine k_conv16 rfl rfl rfl (by omega) | refine k_conv64 rfl rfl rfl (by omega) | refine k_conv8 rfl rfl rfl (by omega) | refine k_convB rfl rfl rfl | refine k_convH rfl rfl rfl | refine k_convQ rfl rfl rfl | refine k_pick_f (dF (by omega)) rfl | refine k_pick_t (dT (by omega)) rfl) rfl ?_))
      refine WL_s (H_append 4 hH rfl (Ty.sle rfl) (Ty.zer rfl) rfl (Ty.byt rfl) (by decide) rfl rfl ((hH.o 6 rfl).sl) hln hone (by omega) (by simp only [maxLen]; omega) rfl ?_)
      clear hH
      intro w11 a11 c11 hH
      first | change Hp _ _ _ [] at hH | change Hp _ _ _ [_] at hH | change Hp _ _ _ [_, _] at hH | change Hp _ _ _ [_, _, _] at hH | change Hp _ _ _ [_, _, _, _] at hH | change Hp _ _ _ [_, _, _, _, _] at hH | change Hp _ _ _ [_, _, _, _, _, _] at hH | change Hp _ _ _ [_, _, _, _, _, _, _] at hH | change Hp _ _ _ [_, _, _, _, _, _, _, _] at hH | change Hp _ _ _ [_, _, _, _, _, _, _, _, _] at hH
      rw [← List.map_append] at hH
      have hll : ([0, 0, 1, 176] ++ escF 0 (endd bo)).length = 4 + (escF 0 (endd bo)).length := by rw [List.length_append]; rfl
      rw [← hll] at hH ⊢
      repeat (first | refine WS_seq ?_ | refine WS_region ?_ | refine WL_nil ?_ | refine WS_block ?_ | refine WS_inBlock ?_ | refine WS_skip ?_ | refine WS_label ?_ | refine WS_scope ?_ | refine WS_inScope ?_ | refine WS_exit rfl ?_ | refine WS_true rfl ?_ | refine WS_false rfl ?_ | refine WS_yes rfl (by omega) ?_ | refine WS_no rfl (by omega) ?_ | refine WL_gyes rfl rfl rfl ?_ | refine WL_gno rfl rfl rfl rfl rfl ?_ | refine WL_gund rfl rfl rfl ?_ | refine WL_gyes rfl rfl (dF (by omega)) ?_ | refine WL_gyes rfl rfl (dT (by omega)) ?_ | refine WL_gno (b := false) rfl rfl (dF (by omega)) rfl rfl ?_ | refine WL_gno (b := true) rfl rfl (dT (by omega)) rfl rfl ?_ | (refine WL_r (by first | refine Run_pev rfl | refine k_add64 rfl rfl (by omega) | refine k_sub64 rfl rfl (by omega) | refine k_len rfl (Ty.isl rfl) | refine k_not rfl | refine k_notb rfl | refine k_min rfl rfl | refine k_max rfl rfl | refine k_mul64 rfl rfl (by omega) | refine k_quo64 rfl rfl (by omega) | refine k_rem rfl rfl (by omega) | refine k_extract rfl rfl | refine k_convI rfl rfl rfl (by omega) | refine k_conv16 rfl rfl rfl (by omega) | refine k_conv64 rfl rfl rfl (by omega) | refine k_conv8 rfl rfl rfl (by omega) | refine k_convB rfl rfl rfl | refine k_convH rfl rfl rfl | refine k_convQ rfl rfl rfl | refine k_pick_f (dF (by omega)) rfl | refine k_pick_t (dT (by omega)) rfl) rfl ?_))
      exact WS_ret1 Try.func20 rfl ⟨a11, c11, rfl, hH.new1 4 rfl⟩
end Go.Proofs.Ytnamafelcjgjfaa

namespace Go.Proofs.Ytnamafelcjgjfaa
open Go Go.K Go.P Go.RowKit Go.Proofs Go.ChangeShapes Go.WideShapes Go.ChangeAt
/-- A slice of two heads. -/
def IsHs (cs : List Value) : Value → World → Prop := fun v w => ∃ b, v = .slice (some ⟨b, 0, none⟩) 2 2 ∧ Blk w b 26 cs.toArray
theorem IsHs.st {cs : List Value} : Stable (IsHs cs) := fun _ _ _ ⟨b, h, hB⟩ hE => ⟨b, h, hB.ext0 hE⟩
set_option maxRecDepth 20000 in
set_option maxHeartbeats 8000000 in
theorem sback_spec {h : SH} {am : Option Addr} {n cm : Nat} {lm : List Nat} {w : World} (ho : h.ok) (hSm : SlA w am (lm.map B)) (hbm : Byt lm) (hn : lm.length = n) :
    Does Try.prog 4 #[.agg h.cells.toArray, .slice am n cm] w fun v w' => v = .bool true ∧ Ext [] w w' := by
  subst hn
  refine Does_of (args := [_, _]) Try.func4 rfl rfl Try.ntmps4 rfl ?_
  have hH := Hp.start w
  repeat (first | refine WS_seq ?_ | refine WS_region ?_ | refine WL_nil ?_ | refine WS_block ?_ | refine WS_inBlock ?_ | refine WS_skip ?_ | refine WS_label ?_ | refine WS_scope ?_ | refine WS_inScope ?_ | refine WS_exit rfl ?_ | refine WS_true rfl ?_ | refine WS_false rfl ?_ | refine WS_yes rfl (by omega) ?_ | refine WS_no rfl (by omega) ?_ | refine WL_gyes rfl rfl rfl ?_ | refine WL_gno rfl rfl rfl rfl rfl ?_ | refine WL_gund rfl rfl rfl ?_ | refine WL_gyes rfl rfl (dF (by omega)) ?_ | refine WL_gyes rfl rfl (dT (by omega)) ?_ | refine WL_gno (b := false) rfl rfl (dF (by omega)) rfl rfl ?_ | refine WL_gno (b := true) rfl rfl (dT (by omega)) rfl rfl ?_ | (refine WL_r (by first | refine Run_pev rfl | refine k_add64 rfl rfl (by omega) | refine k_sub64 rfl rfl (by omega) | refine k_len rfl (Ty.isl rfl) | refine k_not rfl | refine k_notb rfl | refine k_min rfl rfl | refine k_max rfl rfl | refine k_mul64 rfl rfl (by omega) | refine k_quo64 rfl rfl (by omega) | refine k_rem rfl rfl (by omega) | refine k_extract rfl rfl | refine k_convI rfl rfl rfl (by omega) | refine k_conv16 rfl rfl rfl (by omega) | refine k_conv64 rfl rfl rfl (by omega) | refine k_conv8 rfl rfl rfl (by omega) | refine k_convB rfl rfl rfl | refine k_convH rfl rfl rfl | refine k_convQ rfl rfl rfl | refine k_pick_f (dF (by omega)) rfl | refine k_pick_t (dT (by omega)) rfl) rfl ?_))
  refine WL_s (H_box (cs := h.cells.toArray) hH rfl rfl rfl ?_)
  try clear hH
  intro w0 b2 hH
  first | change Hp _ _ _ [] at hH | change Hp _ _ _ [_] at hH | change Hp _ _ _ [_, _] at hH | change Hp _ _ _ [_, _, _] at hH | change Hp _ _ _ [_, _, _, _] at hH | change Hp _ _ _ [_, _, _, _, _] at hH | change Hp _ _ _ [_, _, _, _, _, _] at hH | change Hp _ _ _ [_, _, _, _, _, _, _] at hH | change Hp _ _ _ [_, _, _, _, _, _, _, _] at hH | change Hp _ _ _ [_, _, _, _, _, _, _, _, _] at hH
  repeat (first | refine WS_seq ?_ | refine WS_region ?_ | refine WL_nil ?_ | refine WS_block ?_ | refine WS_inBlock ?_ | refine WS_skip ?_ | refine WS_label ?_ | refine WS_scope ?_ | refine WS_inScope ?_ | refine WS_exit rfl ?_ | refine WS_true rfl ?_ | refine WS_false rfl ?_ | refine WS_yes rfl (by omega) ?_ | refine WS_no rfl (by omega) ?_ | refine WL_gyes rfl rfl rfl ?_ | refine WL_gno rfl rfl rfl rfl rfl ?_ | refine WL_gund rfl rfl rfl ?_ | refine WL_gyes rfl rfl (dF (by omega)) ?_ | refine WL_gyes rfl rfl (dT (by omega)) ?_ | refine WL_gno (b := false) rfl rfl (dF (by omega)) rfl rfl ?_ | refine WL_gno (b := true) rfl rfl (dT (by omega)) rfl rfl ?_ | (refine WL_r (by first | refine Run_pev rfl | refine k_add64 rfl rfl (by omega) | refine k_sub64 rfl rfl (by omega) | refine k_len rfl (Ty.isl rfl) | refine k_not rfl | refine k_notb rfl | refine k_min rfl rfl | refine k_max rfl rfl | refine k_mul64 rfl rfl (by omega) | refine k_quo64 rfl rfl (by omega) | refine k_rem rfl rfl (by omega) | refine k_extract rfl rfl | refine k_convI rfl rfl rfl (by omega) | refine k_conv16 rfl rfl rfl (by omega) | refine k_conv64 rfl rfl rfl (by omega) | refine k_conv8 rfl rfl rfl (by omega) | refine k_convB rfl rfl rfl | refine k_convH rfl rfl rfl | refine k_convQ rfl rfl rfl | refine k_pick_f (dF (by omega)) rfl | refine k_pick_t (dT (by omega)) rfl) rfl ?_))
  try refine WL_gyes rfl rfl rfl ?_
  refine WL_s (S_call (awake15 w0) rfl rfl ?_)
  rintro v w1 ⟨rfl, hE⟩
  replace hH := hH.ext0 hE
  clear hE
  by_cases h100 : 100 < lm.length
  · repeat (first | refine WS_seq ?_ | refine WS_region ?_ | refine WL_nil ?_ | refine WS_block ?_ | refine WS_inBlock ?_ | refine WS_skip ?_ | refine WS_label ?_ | refine WS_scope ?_ | refine WS_inScope ?_ | refine WS_exit rfl ?_ | refine WS_true rfl ?_ | refine WS_false rfl ?_ | refine WS_yes rfl (by omega) ?_ | refine WS_no rfl (by omega) ?_ | refine WL_gyes rfl rfl rfl ?_ | refine WL_gno rfl rfl rfl rfl rfl ?_ | refine WL_gund rfl rfl rfl ?_ | refine WL_gyes rfl rfl (dF (by omega)) ?_ | refine WL_gyes rfl rfl (dT (by omega)) ?_ | refine WL_gno (b := false) rfl rfl (dF (by omega)) rfl rfl ?_ | refine WL_gno (b := true) rfl rfl (dT (by omega)) rfl rfl ?_ | (refine WL_r (by first | refine Run_pev rfl | refine k_add64 rfl rfl (by omega) | refine k_sub64 rfl rfl (by omega) | refine k_len rfl (Ty.isl rfl) | refine k_not rfl | refine k_notb rfl | refine k_min rfl rfl | refine k_max rfl rfl | refine k_mul64 rfl rfl (by omega) | refine k_quo64 rfl rfl (by omega) | refine k_rem rfl rfl (by omega) | refine k_extract rfl rfl | refine k_convI rfl rfl rfl (by omega) | refine k_conv16 rfl rfl rfl (by omega) | refine k_conv64 rfl rfl rfl (by omega) | refine k_conv8 rfl rfl rfl (by omega) | refine k_convB rfl rfl rfl | refine k_convH rfl rfl rfl | refine k_convQ rfl rfl rfl | refine k_pick_f (dF (by omega)) rfl | refine k_pick_t (dT (by omega)) rfl) rfl ?_))
    exact WS_ret1 Try.func4 rfl ⟨rfl, hH.ext⟩
  have hB2 : Blk w1 b2 26 h.cells.toArray := hH.b 0 rfl
  have hSm1 := hH.old hSm
  have hW1 : Ext [] w w1 := hH.ext
  clear hH hSm
  have hxo := SH.fit_ok ho
  repeat (first | refine WS_seq ?_ | refine WS_region ?_ | refine WL_nil ?_ | refine WS_block ?_ | refine WS_inBlock ?_ | refine WS_skip ?_ | refine WS_label ?_ | refine WS_scope ?_ | refine WS_inScope ?_ | refine WS_exit rfl ?_ | refine WS_true rfl ?_ | refine WS_false rfl ?_ | refine WS_yes rfl (by omega) ?_ | refine WS_no rfl (by omega) ?_ | refine WL_gyes rfl rfl rfl ?_ | refine WL_gno rfl rfl rfl rfl rfl ?_ | refine WL_gund rfl rfl rfl ?_ | refine WL_gyes rfl rfl (dF (by omega)) ?_ | refine WL_gyes rfl rfl (dT (by omega)) ?_ | refine WL_gno (b := false) rfl rfl (dF (by omega)) rfl rfl ?_ | refine WL_gno (b := true) rfl rfl (dT (by omega)) rfl rfl ?_ | (refine WL_r (by first | refine Run_pev rfl | refine k_add64 rfl rfl (by omega) | refine k_sub64 rfl rfl (by omega) | refine k_len rfl (Ty.isl rfl) | refine k_not rfl | refine k_notb rfl | refine k_min rfl rfl | refine k_max rfl rfl | refine k_mul64 rfl rfl (by omega) | refine k_quo64 rfl rfl (by omega) | refine k_rem rfl rfl (by omega) | refine k_extract rfl rfl | refine k_convI rfl rfl rfl (by omega) | refine k_conv16 rfl rfl rfl (by omega) | refine k_conv64 rfl rfl rfl (by omega) | refine k_conv8 rfl rfl rfl (by omega) | refine k_convB rfl rfl rfl | refine k_convH rfl rfl rfl | refine k_convQ rfl rfl rfl | refine k_pick_f (dF (by omega)) rfl | refine k_pick_t (dT (by omega)) rfl) rfl ?_))
  refine WS_specK [Is (.agg h.cells.toArray), Is (.agg h.cells.toArray), Is (.agg h.fit.cells.toArray), IsHs (h.cells ++ h.fit.cells), Is (.int .i64 2), Is (.int .i64 0)] Ty.mixed [(226492416, [], true), (239075328, [], true), (213909504, [(1, 23)], true), (163577856, [(0, 22), (2, 24)], true), (197132288, [(3, 25)], true), (130023424, [], true)] 264241152 [(3, 25), (4, 26), (5, 27)] (by kernel_rfl) (by kernel_rfl) (by kernel_rfl) (by kernel_rfl) (by kernel_rfl) ⟨Is.st, Is.st, Is.st, (by exact IsHs.st), Is.st, Is.st, trivial⟩ ⟨⟨GOk.none, ?_⟩, ⟨GOk.none, ?_⟩, ⟨GOk.none, ?_⟩, ⟨GOk.none, ?_⟩, ⟨GOk.none, ?_⟩, ⟨GOk.none, ?_⟩, trivial⟩ ?_
  · intro w'' hE''
    intro σ''
    exact sp_is (by first | refine k_loadA rfl (hB2.ext0 hE'') (SH.cells_len ho) (Ty.shp rfl)) rfl
  · intro w'' hE''
    intro σ''
    exact sp_is (by first | refine k_loadA rfl (hB2.ext0 hE'') (SH.cells_len ho) (Ty.shp rfl)) rfl
  · intro w'' hE''
    rintro _ rfl
    intro σ''
    refine S_call (sfit_spec ho) rfl rfl ?_
    rintro v w3'' ⟨rfl, hE3⟩
    exact ⟨hE3, _, rfl, rfl⟩
  · intro w'' hE''
    rintro _ rfl
    rintro _ rfl
    intro σ''
    refine S_lit (out := h.cells ++ h.fit.cells) (Ty.sle rfl) (Ty.zer rfl) rfl (lit2 rfl rfl (SH.cells_len ho) (SH.cells_len hxo)) rfl (by decide) rfl ?_
    intro w3'' b'' hb'' hE3'' hB'' hs''
    exact ⟨hE3'', _, rfl, b'', rfl, hB''⟩
  · intro w'' hE''
    rintro _ h3
    intro σ''
    obtain ⟨b, rfl, _⟩ := h3
    exact sp_is (k_len rfl (Ty.isl rfl)) rfl
  · intro w'' hE''
    intro σ''
    exact sp_is (by first | refine Run_pev rfl) rfl
  intro w'' hE''
  rintro _ h3
  rintro _ rfl
  rintro _ rfl
  intro σ''
  obtain ⟨b25, rfl, hBL⟩ := h3
  have hSm2 := hSm1.ext0 hE''
  have hW2 := hW1.then0 hE''
  clear hSm1 hW1
  repeat (first | refine WS_seq ?_ | refine WS_region ?_ | refine WL_nil ?_ | refine WS_block ?_ | refine WS_inBlock ?_ | refine WS_skip ?_ | refine WS_label ?_ | refine WS_scope ?_ | refine WS_inScope ?_ | refine WS_exit rfl ?_ | refine WS_true rfl ?_ | refine WS_false rfl ?_ | refine WS_yes rfl (by omega) ?_ | refine WS_no rfl (by omega) ?_ | refine WL_gyes rfl rfl rfl ?_ | refine WL_gno rfl rfl rfl rfl rfl ?_ | refine WL_gund rfl rfl rfl ?_ | refine WL_gyes rfl rfl (dF (by omega)) ?_ | refine WL_gyes rfl rfl (dT (by omega)) ?_ | refine WL_gno (b := false) rfl rfl (dF (by omega)) rfl rfl ?_ | refine WL_gno (b := true) rfl rfl (dT (by omega)) rfl rfl ?_ | (refine WL_r (by first | refine Run_pev rfl | refine k_add64 rfl rfl (by omega) | refine k_sub64 rfl rfl (by omega) | refine k_len rfl (Ty.isl rfl) | refine k_not rfl | refine k_notb rfl | refine k_min rfl rfl | refine k_max rfl rfl | refine k_mul64 rfl rfl (by omega) | refine k_quo64 rfl rfl (by omega) | refine k_rem rfl rfl (by omega) | refine k_extract rfl rfl | refine k_convI rfl rfl rfl (by omega) | refine k_conv16 rfl rfl rfl (by omega) | refine k_conv64 rfl rfl rfl (by omega) | refine k_conv8 rfl rfl rfl (by omega) | refine k_convB rfl rfl rfl | refine k_convH rfl rfl rfl | refine k_convQ rfl rfl rfl | refine k_pick_f (dF (by omega)) rfl | refine k_pick_t (dT (by omega)) rfl) rfl ?_))
  refine WS_loop (G := (Nat)) (fun i => 2 - i) 21778071482940061661655974875633031446480 (fun i => [(27, .int .i64 i)]) (fun i w' => i ≤ 2 ∧ Ext [] w'' w') (0) ⟨rfl, trivial⟩ ⟨by omega, .refl⟩ ?_
  rintro i w' σ ⟨hi, hW⟩ IH
  show WS _ _ _ _ _ (updL [(27, .int .i64 i)] _) _
  by_cases hlt : i < 2
  · obtain ⟨x, hx, xo⟩ : ∃ x : SH, ((h.cells ++ h.fit.cells).drop (i * 131)).take 131 = x.cells ∧ x.ok := by
      have l1 := SH.cells_len ho
      have l2 := SH.cells_len hxo
      rcases (show i = 0 ∨ i = 1 by omega) with rfl | rfl
      · exact ⟨h, by rw [Nat.zero_mul, List.drop_zero]; exact List.take_left' l1, ho⟩
      · exact ⟨h.fit, by rw [Nat.one_mul, List.drop_left' l1]; exact List.take_of_length_le (by omega), hxo⟩
    have hxl := SH.cells_len xo
    have hS : SlA w' (some ⟨b25, 0, none⟩) (h.cells ++ h.fit.cells) := (hBL.ext0 hW).sl0
    have hSl : (h.cells ++ h.fit.cells).length = 2 * 131 := by rw [List.length_append, SH.cells_len ho, SH.cells_len hxo]
    have hH := Hp.start w'
    repeat (first | refine WS_seq ?_ | refine WS_region ?_ | refine WL_nil ?_ | refine WS_block ?_ | refine WS_inBlock ?_ | refine WS_skip ?_ | refine WS_label ?_ | refine WS_scope ?_ | refine WS_inScope ?_ | refine WS_exit rfl ?_ | refine WS_true rfl ?_ | refine WS_false rfl ?_ | refine WS_yes rfl (by omega) ?_ | refine WS_no rfl (by omega) ?_ | refine WL_gyes rfl rfl rfl ?_ | refine WL_gno rfl rfl rfl rfl rfl ?_ | refine WL_gund rfl rfl rfl ?_ | refine WL_gyes rfl rfl (dF (by omega)) ?_ | refine WL_gyes rfl rfl (dT (by omega)) ?_ | refine WL_gno (b := false) rfl rfl (dF (by omega)) rfl rfl ?_ | refine WL_gno (b := true) rfl rfl (dT (by omega)) rfl rfl ?_ | (refine WL_r (by first | refine k_ix rfl rfl hS hSl (by decide) (Ty.sle rfl) (by omega) | refine k_loadC (cs := x.cells) rfl hS hx hxl (Ty.shp rfl) | refine Run_pev rfl | refine k_add64 rfl rfl (by omega) | refine k_sub64 rfl rfl (by omega) | refine k_len rfl (Ty.isl rfl) | refine k_not rfl | refine k_notb rfl | refine k_min rfl rfl | refine k_max rfl rfl | refine k_mul64 rfl rfl (by omega) | refine k_quo64 rfl rfl (by omega) | refine k_rem rfl rfl (by omega) | refine k_extract rfl rfl | refine k_convI rfl rfl rfl (by omega) | refine k_conv16 rfl rfl rfl (by omega) | refine k_conv64 rfl rfl rfl (by omega) | refine k_conv8 rfl rfl rfl (by omega) | refine k_convB rfl rfl rfl | refine k_convH rfl rfl rfl | refine k_convQ rfl rfl rfl | refine k_pick_f (dF (by omega)) rfl | refine k_pick_t (dT (by omega)) rfl) rfl ?_))
    refine WL_s (H_alloc hH (Ty.zer rfl) rfl ?_)
    try clear hH
    intro w5 b6 hH
    first | change Hp _ _ _ [] at hH | change Hp _ _ _ [_] at hH | change Hp _ _ _ [_, _] at hH | change Hp _ _ _ [_, _, _] at hH | change Hp _ _ _ [_, _, _, _] at hH | change Hp _ _ _ [_, _, _, _, _] at hH | change Hp _ _ _ [_, _, _, _, _, _] at hH | change Hp _ _ _ [_, _, _, _, _, _, _] at hH | change Hp _ _ _ [_, _, _, _, _, _, _, _] at hH | change Hp _ _ _ [_, _, _, _, _, _, _, _, _] at hH
    repeat (first | refine WS_seq ?_ | refine WS_region ?_ | refine WL_nil ?_ | refine WS_block ?_ | refine WS_inBlock ?_ | refine WS_skip ?_ | refine WS_label ?_ | refine WS_scope ?_ | refine WS_inScope ?_ | refine WS_exit rfl ?_ | refine WS_true rfl ?_ | refine WS_false rfl ?_ | refine WS_yes rfl (by omega) ?_ | refine WS_no rfl (by omega) ?_ | refine WL_gyes rfl rfl rfl ?_ | refine WL_gno rfl rfl rfl rfl rfl ?_ | refine WL_gund rfl rfl rfl ?_ | refine WL_gyes rfl rfl (dF (by omega)) ?_ | refine WL_gyes rfl rfl (dT (by omega)) ?_ | refine WL_gno (b := false) rfl rfl (dF (by omega)) rfl rfl ?_ | refine WL_gno (b := true) rfl rfl (dT (by omega)) rfl rfl ?_ | (refine WL_r (by first | refine Run_pev rfl | refine k_add64 rfl rfl (by omega) | refine k_sub64 rfl rfl (by omega) | refine k_len rfl (Ty.isl rfl) | refine k_not rfl | refine k_notb rfl | refine k_min rfl rfl | refine k_max rfl rfl | refine k_mul64 rfl rfl (by omega) | refine k_quo64 rfl rfl (by omega) | refine k_rem rfl rfl (by omega) | refine k_extract rfl rfl | refine k_convI rfl rfl rfl (by omega) | refine k_conv16 rfl rfl rfl (by omega) | refine k_conv64 rfl rfl rfl (by omega) | refine k_conv8 rfl rfl rfl (by omega) | refine k_convB rfl rfl rfl | refine k_convH rfl rfl rfl | refine k_convQ rfl rfl rfl | refine k_pick_f (dF (by omega)) rfl | refine k_pick_t (dT (by omega)) rfl) rfl ?_))
    refine WL_s (H_storeA 0 hH rfl rfl rfl hxl rfl (cells_one x) (Ty.shp rfl) ?_)
    try clear hH
    intro w6 hH
    first | change Hp _ _ _ [] at hH | change Hp _ _ _ [_] at hH | change Hp _ _ _ [_, _] at hH | change Hp _ _ _ [_, _, _] at hH | change Hp _ _ _ [_, _, _, _] at hH | change Hp _ _ _ [_, _, _, _, _] at hH | change Hp _ _ _ [_, _, _, _, _, _] at hH | change Hp _ _ _ [_, _, _, _, _, _, _] at hH | change Hp _ _ _ [_, _, _, _, _, _, _, _] at hH | change Hp _ _ _ [_, _, _, _, _, _, _, _, _] at hH
    have hB6 : Blk w6 b6 26 x.cells.toArray := hH.b 0 rfl
    have hS6 : SlA w6 (some ⟨b6, 0, none⟩) x.cells := hB6.sl0
    have htc := cells_tc xo
    have htl := SH.tc_len xo
    repeat (first | refine WS_seq ?_ | refine WS_region ?_ | refine WL_nil ?_ | refine WS_block ?_ | refine WS_inBlock ?_ | refine WS_skip ?_ | refine WS_label ?_ | refine WS_scope ?_ | refine WS_inScope ?_ | refine WS_exit rfl ?_ | refine WS_true rfl ?_ | refine WS_false rfl ?_ | refine WS_yes rfl (by omega) ?_ | refine WS_no rfl (by omega) ?_ | refine WL_gyes rfl rfl rfl ?_ | refine WL_gno rfl rfl rfl rfl rfl ?_ | refine WL_gund rfl rfl rfl ?_ | refine WL_gyes rfl rfl (dF (by omega)) ?_ | refine WL_gyes rfl rfl (dT (by omega)) ?_ | refine WL_gno (b := false) rfl rfl (dF (by omega)) rfl rfl ?_ | refine WL_gno (b := true) rfl rfl (dT (by omega)) rfl rfl ?_ | (refine WL_r (by first | refine Run_pev rfl | refine k_add64 rfl rfl (by omega) | refine k_sub64 rfl rfl (by omega) | refine k_len rfl (Ty.isl rfl) | refine k_not rfl | refine k_notb rfl | refine k_min rfl rfl | refine k_max rfl rfl | refine k_mul64 rfl rfl (by omega) | refine k_quo64 rfl rfl (by omega) | refine k_rem rfl rfl (by omega) | refine k_extract rfl rfl | refine k_convI rfl rfl rfl (by omega) | refine k_conv16 rfl rfl rfl (by omega) | refine k_conv64 rfl rfl rfl (by omega) | refine k_conv8 rfl rfl rfl (by omega) | refine k_convB rfl rfl rfl | refine k_convH rfl rfl rfl | refine k_convQ rfl rfl rfl | refine k_pick_f (dF (by omega)) rfl | refine k_pick_t (dT (by omega)) rfl) rfl ?_))
    apply joinW (fun u => Hp [] w' u [Rb b6 26 x.cells.toArray])
    · intro key
      by_cases k1 : x.c < 1
      · skip
        repeat (first | refine WS_seq ?_ | refine WS_region ?_ | refine WL_nil ?_ | refine WS_block ?_ | refine WS_inBlock ?_ | refine WS_skip ?_ | refine WS_label ?_ | refine WS_scope ?_ | refine WS_inScope ?_ | refine WS_exit rfl ?_ | refine WS_true rfl ?_ | refine WS_false rfl ?_ | refine WS_yes rfl (by omega) ?_ | refine WS_no rfl (by omega) ?_ | refine WL_gyes rfl rfl rfl ?_ | refine WL_gno rfl rfl rfl rfl rfl ?_ | refine WL_gund rfl rfl rfl ?_ | refine WL_gyes rfl rfl (dF (by omega)) ?_ | refine WL_gyes rfl rfl (dT (by omega)) ?_ | refine WL_gno (b := false) rfl rfl (dF (by omega)) rfl rfl ?_ | refine WL_gno (b := true) rfl rfl (dT (by omega)) rfl rfl ?_ | (refine WL_r (by first | refine k_nilCheck rfl | refine k_fa rfl (Ty.fld rfl rfl) | refine k_loadb rfl hB6 rfl (Ty.shp rfl) | refine Run_pev rfl | refine k_add64 rfl rfl (by omega) | refine k_sub64 rfl rfl (by omega) | refine k_len rfl (Ty.isl rfl) | refine k_not rfl | refine k_notb rfl | refine k_min rfl rfl | refine k_max rfl rfl | refine k_mul64 rfl rfl (by omega) | refine k_quo64 rfl rfl (by omega) | refine k_rem rfl rfl (by omega) | refine k_extract rfl rfl | refine k_convI rfl rfl rfl (by omega) | refine k_conv16 rfl rfl rfl (by omega) | refine k_conv64 rfl rfl rfl (by omega) | refine k_conv8 rfl rfl rfl (by omega) | refine k_convB rfl rfl rfl | refine k_convH rfl rfl rfl | refine k_convQ rfl rfl rfl | refine k_pick_f (dF (by omega)) rfl | refine k_pick_t (dT (by omega)) rfl) rfl ?_))
        first | apply WL_keepM 21778071482940061661655974875633031446480 [(7, .int .i64 ((SH.err x : Nat) : Int)), (6, pt b6), (27, .int .i64 i)] | apply WS_keepM 21778071482940061661655974875633031446480 [(7, .int .i64 ((SH.err x : Nat) : Int)), (6, pt b6), (27, .int .i64 i)]
        · exact ⟨congrArg (fun n : Nat => Value.int .i64 (n : Int)) (show _ = SH.err x by unfold SH.err; rw [if_pos (.inl k1)]), rfl, rfl, trivial⟩
        · repeat (first | ((with_reducible apply Agr.upd); · exact rfl) | ((with_reducible apply Agr.updo); · exact rfl) | (with_reducible apply Agr.updn) | ((with_reducible apply Agr.consL); · exact rfl) | (with_reducible apply Agr.nilL) | ((with_reducible apply Agr.mrg); (· exact rfl); apply Agr.refl) | (apply Agr.updo; · exact rfl) | apply Agr.updn)
        intro σ
        exact key σ _ hH
      by_cases k2 : 8 < x.c
      · skip
        repeat (first | refine WS_seq ?_ | refine WS_region ?_ | refine WL_nil ?_ | refine WS_block ?_ | refine WS_inBlock ?_ | refine WS_skip ?_ | refine WS_label ?_ | refine WS_scope ?_ | refine WS_inScope ?_ | refine WS_exit rfl ?_ | refine WS_true rfl ?_ | refine WS_false rfl ?_ | refine WS_yes rfl (by omega) ?_ | refine WS_no rfl (by omega) ?_ | refine WL_gyes rfl rfl rfl ?_ | refine WL_gno rfl rfl rfl rfl rfl ?_ | refine WL_gund rfl rfl rfl ?_ | refine WL_gyes rfl rfl (dF (by omega)) ?_ | refine WL_gyes rfl rfl (dT (by omega)) ?_ | refine WL_gno (b := false) rfl rfl (dF (by omega)) rfl rfl ?_ | refine WL_gno (b := true) rfl rfl (dT (by omega)) rfl rfl ?_ | (refine WL_r (by first | refine k_nilCheck rfl | refine k_fa rfl (Ty.fld rfl rfl) | refine k_loadb rfl hB6 rfl (Ty.shp rfl) | refine Run_pev rfl | refine k_add64 rfl rfl (by omega) | refine k_sub64 rfl rfl (by omega) | refine k_len rfl (Ty.isl rfl) | refine k_not rfl | refine k_notb rfl | refine k_min rfl rfl | refine k_max rfl rfl | refine k_mul64 rfl rfl (by omega) | refine k_quo64 rfl rfl (by omega) | refine k_rem rfl rfl (by omega) | refine k_extract rfl rfl | refine k_convI rfl rfl rfl (by omega) | refine k_conv16 rfl rfl rfl (by omega) | refine k_conv64 rfl rfl rfl (by omega) | refine k_conv8 rfl rfl rfl (by omega) | refine k_convB rfl rfl rfl | refine k_convH rfl rfl rfl | refine k_convQ rfl rfl rfl | refine k_pick_f (dF (by omega)) rfl | refine k_pick_t (dT (by omega)) rfl) rfl ?_))
        first | apply WL_keepM 21778071482940061661655974875633031446480 [(7, .int .i64 ((SH.err x : Nat) : Int)), (6, pt b6), (27, .int .i64 i)] | apply WS_keepM 21778071482940061661655974875633031446480 [(7, .int .i64 ((SH.err x : Nat) : Int)), (6, pt b6), (27, .int .i64 i)]
        · exact ⟨congrArg (fun n : Nat => Value.int .i64 (n : Int)) (show _ = SH.err x by unfold SH.err; rw [if_pos (.inr (.inl k2))]), rfl, rfl, trivial⟩
        · repeat (first | ((with_reducible apply Agr.upd); · exact rfl) | ((with_reducible apply Agr.updo); · exact rfl) | (with_reducible apply Agr.updn) | ((with_reducible apply Agr.consL); · exact rfl) | (with_reducible apply Agr.nilL) | ((with_reducible apply Agr.mrg); (· exact rfl); apply Agr.refl) | (apply Agr.updo; · exact rfl) | apply Agr.updn)
        intro σ
        exact key σ _ hH
      by_cases k3 : x.r < 1
      · skip
        repeat (first | refine WS_seq ?_ | refine WS_region ?_ | refine WL_nil ?_ | refine WS_block ?_ | refine WS_inBlock ?_ | refine WS_skip ?_ | refine WS_label ?_ | refine WS_scope ?_ | refine WS_inScope ?_ | refine WS_exit rfl ?_ | refine WS_true rfl ?_ | refine WS_false rfl ?_ | refine WS_yes rfl (by omega) ?_ | refine WS_no rfl (by omega) ?_ | refine WL_gyes rfl rfl rfl ?_ | refine WL_gno rfl rfl rfl rfl rfl ?_ | refine WL_gund rfl rfl rfl ?_ | refine WL_gyes rfl rfl (dF (by omega)) ?_ | refine WL_gyes rfl rfl (dT (by omega)) ?_ | refine WL_gno (b := false) rfl rfl (dF (by omega)) rfl rfl ?_ | refine WL_gno (b := true) rfl rfl (dT (by omega)) rfl rfl ?_ | (refine WL_r (by first | refine k_nilCheck rfl | refine k_fa rfl (Ty.fld rfl rfl) | refine k_loadb rfl hB6 rfl (Ty.shp rfl) | refine Run_pev rfl | refine k_add64 rfl rfl (by omega) | refine k_sub64 rfl rfl (by omega) | refine k_len rfl (Ty.isl rfl) | refine k_not rfl | refine k_notb rfl | refine k_min rfl rfl | refine k_max rfl rfl | refine k_mul64 rfl rfl (by omega) | refine k_quo64 rfl rfl (by omega) | refine k_rem rfl rfl (by omega) | refine k_extract rfl rfl | refine k_convI rfl rfl rfl (by omega) | refine k_conv16 rfl rfl rfl (by omega) | refine k_conv64 rfl rfl rfl (by omega) | refine k_conv8 rfl rfl rfl (by omega) | refine k_convB rfl rfl rfl | refine k_convH rfl rfl rfl | refine k_convQ rfl rfl rfl | refine k_pick_f (dF (by omega)) rfl | refine k_pick_t (dT (by omega)) rfl) rfl ?_))
        first | apply WL_keepM 21778071482940061661655974875633031446480 [(7, .int .i64 ((SH.err x : Nat) : Int)), (6, pt b6), (27, .int .i64 i)] | apply WS_keepM 21778071482940061661655974875633031446480 [(7, .int .i64 ((SH.err x : Nat) : Int)), (6, pt b6), (27, .int .i64 i)]
        · exact ⟨congrArg (fun n : Nat => Value.int .i64 (n : Int)) (show _ = SH.err x by unfold SH.err; rw [if_pos (.inr (.inr (.inl k3)))]), rfl, rfl, trivial⟩
        · repeat (first | ((with_reducible apply Agr.upd); · exact rfl) | ((with_reducible apply Agr.updo); · exact rfl) | (with_reducible apply Agr.updn) | ((with_reducible apply Agr.consL); · exact rfl) | (with_reducible apply Agr.nilL) | ((with_reducible apply Agr.mrg); (· exact rfl); apply Agr.refl) | (apply Agr.updo; · exact rfl) | apply Agr.updn)
        intro σ
        exact key σ _ hH
      by_cases k4 : 8 < x.r
      · skip
        repeat (first | refine WS_seq ?_ | refine WS_region ?_ | refine WL_nil ?_ | refine WS_block ?_ | refine WS_inBlock ?_ | refine WS_skip ?_ | refine WS_label ?_ | refine WS_scope ?_ | refine WS_inScope ?_ | refine WS_exit rfl ?_ | refine WS_true rfl ?_ | refine WS_false rfl ?_ | refine WS_yes rfl (by omega) ?_ | refine WS_no rfl (by omega) ?_ | refine WL_gyes rfl rfl rfl ?_ | refine WL_gno rfl rfl rfl rfl rfl ?_ | refine WL_gund rfl rfl rfl ?_ | refine WL_gyes rfl rfl (dF (by omega)) ?_ | refine WL_gyes rfl rfl (dT (by omega)) ?_ | refine WL_gno (b := false) rfl rfl (dF (by omega)) rfl rfl ?_ | refine WL_gno (b := true) rfl rfl (dT (by omega)) rfl rfl ?_ | (refine WL_r (by first | refine k_nilCheck rfl | refine k_fa rfl (Ty.fld rfl rfl) | refine k_loadb rfl hB6 rfl (Ty.shp rfl) | refine Run_pev rfl | refine k_add64 rfl rfl (by omega) | refine k_sub64 rfl rfl (by omega) | refine k_len rfl (Ty.isl rfl) | refine k_not rfl | refine k_notb rfl | refine k_min rfl rfl | refine k_max rfl rfl | refine k_mul64 rfl rfl (by omega) | refine k_quo64 rfl rfl (by omega) | refine k_rem rfl rfl (by omega) | refine k_extract rfl rfl | refine k_convI rfl rfl rfl (by omega) | refine k_conv16 rfl rfl rfl (by omega) | refine k_conv64 rfl rfl rfl (by omega) | refine k_conv8 rfl rfl rfl (by omega) | refine k_convB rfl rfl rfl | refine k_convH rfl rfl rfl | refine k_convQ rfl rfl rfl | refine k_pick_f (dF (by omega)) rfl | refine k_pick_t (dT (by omega)) rfl) rfl ?_))
        first | apply WL_keepM 21778071482940061661655974875633031446480 [(7, .int .i64 ((SH.err x : Nat) : Int)), (6, pt b6), (27, .int .i64 i)] | apply WS_keepM 21778071482940061661655974875633031446480 [(7, .int .i64 ((SH.err x : Nat) : Int)), (6, pt b6), (27, .int .i64 i)]
        · exact ⟨congrArg (fun n : Nat => Value.int .i64 (n : Int)) (show _ = SH.err x by unfold SH.err; rw [if_pos (.inr (.inr (.inr k4)))]), rfl, rfl, trivial⟩
        · repeat (first | ((with_reducible apply Agr.upd); · exact rfl) | ((with_reducible apply Agr.updo); · exact rfl) | (with_reducible apply Agr.updn) | ((with_reducible apply Agr.consL); · exact rfl) | (with_reducible apply Agr.nilL) | ((with_reducible apply Agr.mrg); (· exact rfl); apply Agr.refl) | (apply Agr.updo; · exact rfl) | apply Agr.updn)
        intro σ
        exact key σ _ hH
      repeat (first | refine WS_seq ?_ | refine WS_region ?_ | refine WL_nil ?_ | refine WS_block ?_ | refine WS_inBlock ?_ | refine WS_skip ?_ | refine WS_label ?_ | refine WS_scope ?_ | refine WS_inScope ?_ | refine WS_exit rfl ?_ | refine WS_true rfl ?_ | refine WS_false rfl ?_ | refine WS_yes rfl (by omega) ?_ | refine WS_no rfl (by omega) ?_ | refine WL_gyes rfl rfl rfl ?_ | refine WL_gno rfl rfl rfl rfl rfl ?_ | refine WL_gund rfl rfl rfl ?_ | refine WL_gyes rfl rfl (dF (by omega)) ?_ | refine WL_gyes rfl rfl (dT (by omega)) ?_ | refine WL_gno (b := false) rfl rfl (dF (by omega)) rfl rfl ?_ | refine WL_gno (b := true) rfl rfl (dT (by omega)) rfl rfl ?_ | (refine WL_r (by first | refine k_nilCheck rfl | refine k_fa rfl (Ty.fld rfl rfl) | refine k_loadb rfl hB6 rfl (Ty.shp rfl) | refine k_loadC (j := 2) rfl hS6 htc htl (Ty.shp rfl) | refine Run_pev rfl | refine k_add64 rfl rfl (by omega) | refine k_sub64 rfl rfl (by omega) | refine k_len rfl (Ty.isl rfl) | refine k_not rfl | refine k_notb rfl | refine k_min rfl rfl | refine k_max rfl rfl | refine k_mul64 rfl rfl (by omega) | refine k_quo64 rfl rfl (by omega) | refine k_rem rfl rfl (by omega) | refine k_extract rfl rfl | refine k_convI rfl rfl rfl (by omega) | refine k_conv16 rfl rfl rfl (by omega) | refine k_conv64 rfl rfl rfl (by omega) | refine k_conv8 rfl rfl rfl (by omega) | refine k_convB rfl rfl rfl | refine k_convH rfl rfl rfl | refine k_convQ rfl rfl rfl | refine k_pick_f (dF (by omega)) rfl | refine k_pick_t (dT (by omega)) rfl) rfl ?_))
      try refine WL_gyes rfl rfl rfl ?_
      refine WL_s (S_call (tcheck_spec xo) rfl rfl ?_)
      rintro v w7 ⟨rfl, hE⟩
      replace hH := hH.ext0 hE
      clear hE
      repeat (first | refine WS_seq ?_ | refine WS_region ?_ | refine WL_nil ?_ | refine WS_block ?_ | refine WS_inBlock ?_ | refine WS_skip ?_ | refine WS_label ?_ | refine WS_scope ?_ | refine WS_inScope ?_ | refine WS_exit rfl ?_ | refine WS_true rfl ?_ | refine WS_false rfl ?_ | refine WS_yes rfl (by omega) ?_ | refine WS_no rfl (by omega) ?_ | refine WL_gyes rfl rfl rfl ?_ | refine WL_gno rfl rfl rfl rfl rfl ?_ | refine WL_gund rfl rfl rfl ?_ | refine WL_gyes rfl rfl (dF (by omega)) ?_ | refine WL_gyes rfl rfl (dT (by omega)) ?_ | refine WL_gno (b := false) rfl rfl (dF (by omega)) rfl rfl ?_ | refine WL_gno (b := true) rfl rfl (dT (by omega)) rfl rfl ?_ | (refine WL_r (by first | refine Run_pev rfl | refine k_add64 rfl rfl (by omega) | refine k_sub64 rfl rfl (by omega) | refine k_len rfl (Ty.isl rfl) | refine k_not rfl | refine k_notb rfl | refine k_min rfl rfl | refine k_max rfl rfl | refine k_mul64 rfl rfl (by omega) | refine k_quo64 rfl rfl (by omega) | refine k_rem rfl rfl (by omega) | refine k_extract rfl rfl | refine k_convI rfl rfl rfl (by omega) | refine k_conv16 rfl rfl rfl (by omega) | refine k_conv64 rfl rfl rfl (by omega) | refine k_conv8 rfl rfl rfl (by omega) | refine k_convB rfl rfl rfl | refine k_convH rfl rfl rfl | refine k_convQ rfl rfl rfl | refine k_pick_f (dF (by omega)) rfl | refine k_pick_t (dT (by omega)) rfl) rfl ?_))
      first | apply WL_keepM 21778071482940061661655974875633031446480 [(7, .int .i64 ((SH.err x : Nat) : Int)), (6, pt b6), (27, .int .i64 i)] | apply WS_keepM 21778071482940061661655974875633031446480 [(7, .int .i64 ((SH.err x : Nat) : Int)), (6, pt b6), (27, .int .i64 i)]
      · exact ⟨congrArg (fun n : Nat => Value.int .i64 (n : Int)) (show terr x.wt (x.A ++ x.Bb) = SH.err x by unfold SH.err; rw [if_neg (by omega)]), rfl, rfl, trivial⟩
      · repeat (first | ((with_reducible apply Agr.upd); · exact rfl) | ((with_reducible apply Agr.updo); · exact rfl) | (with_reducible apply Agr.updn) | ((with_reducible apply Agr.consL); · exact rfl) | (with_reducible apply Agr.nilL) | ((with_reducible apply Agr.mrg); (· exact rfl); apply Agr.refl) | (apply Agr.updo; · exact rfl) | apply Agr.updn)
      intro σ
      exact key σ _ hH
    clear hH hB6 hS6
    intro σ w7 hH
    have hB6 : Blk w7 b6 26 x.cells.toArray := hH.b 0 rfl
    repeat (first | refine WS_seq ?_ | refine WS_region ?_ | refine WL_nil ?_ | refine WS_block ?_ | refine WS_inBlock ?_ | refine WS_skip ?_ | refine WS_label ?_ | refine WS_scope ?_ | refine WS_inScope ?_ | refine WS_exit rfl ?_ | refine WS_true rfl ?_ | refine WS_false rfl ?_ | refine WS_yes rfl (by omega) ?_ | refine WS_no rfl (by omega) ?_ | refine WL_gyes rfl rfl rfl ?_ | refine WL_gno rfl rfl rfl rfl rfl ?_ | refine WL_gund rfl rfl rfl ?_ | refine WL_gyes rfl rfl (dF (by omega)) ?_ | refine WL_gyes rfl rfl (dT (by omega)) ?_ | refine WL_gno (b := false) rfl rfl (dF (by omega)) rfl rfl ?_ | refine WL_gno (b := true) rfl rfl (dT (by omega)) rfl rfl ?_ | (refine WL_r (by first | refine k_loadA rfl hB6 hxl (Ty.shp rfl) | refine Run_pev rfl | refine k_add64 rfl rfl (by omega) | refine k_sub64 rfl rfl (by omega) | refine k_len rfl (Ty.isl rfl) | refine k_not rfl | refine k_notb rfl | refine k_min rfl rfl | refine k_max rfl rfl | refine k_mul64 rfl rfl (by omega) | refine k_quo64 rfl rfl (by omega) | refine k_rem rfl rfl (by omega) | refine k_extract rfl rfl | refine k_convI rfl rfl rfl (by omega) | refine k_conv16 rfl rfl rfl (by omega) | refine k_conv64 rfl rfl rfl (by omega) | refine k_conv8 rfl rfl rfl (by omega) | refine k_convB rfl rfl rfl | refine k_convH rfl rfl rfl | refine k_convQ rfl rfl rfl | refine k_pick_f (dF (by omega)) rfl | refine k_pick_t (dT (by omega)) rfl) rfl ?_))
    by_cases hp : x.err = 0
    · skip
      try refine WL_gyes rfl rfl rfl ?_
      refine WL_s (S_call (hput_spec xo hp) rfl rfl ?_)
      rintro v w8 ⟨a8, c8, rfl, hN⟩
      replace hH := hH.nu hN
      clear hN hB6
      first | change Hp _ _ _ [] at hH | change Hp _ _ _ [_] at hH | change Hp _ _ _ [_, _] at hH | change Hp _ _ _ [_, _, _] at hH | change Hp _ _ _ [_, _, _, _] at hH | change Hp _ _ _ [_, _, _, _, _] at hH | change Hp _ _ _ [_, _, _, _, _, _] at hH | change Hp _ _ _ [_, _, _, _, _, _, _] at hH | change Hp _ _ _ [_, _, _, _, _, _, _, _] at hH | change Hp _ _ _ [_, _, _, _, _, _, _, _, _] at hH
      rw [hp]
      have hB6 : Blk w8 b6 26 x.cells.toArray := hH.b 0 rfl
      repeat (first | refine WS_seq ?_ | refine WS_region ?_ | refine WL_nil ?_ | refine WS_block ?_ | refine WS_inBlock ?_ | refine WS_skip ?_ | refine WS_label ?_ | refine WS_scope ?_ | refine WS_inScope ?_ | refine WS_exit rfl ?_ | refine WS_true rfl ?_ | refine WS_false rfl ?_ | refine WS_yes rfl (by omega) ?_ | refine WS_no rfl (by omega) ?_ | refine WL_gyes rfl rfl rfl ?_ | refine WL_gno rfl rfl rfl rfl rfl ?_ | refine WL_gund rfl rfl rfl ?_ | refine WL_gyes rfl rfl (dF (by omega)) ?_ | refine WL_gyes rfl rfl (dT (by omega)) ?_ | refine WL_gno (b := false) rfl rfl (dF (by omega)) rfl rfl ?_ | refine WL_gno (b := true) rfl rfl (dT (by omega)) rfl rfl ?_ | (refine WL_r (by first | refine k_loadA rfl hB6 hxl (Ty.shp rfl) | refine Run_pev rfl | refine k_add64 rfl rfl (by omega) | refine k_sub64 rfl rfl (by omega) | refine k_len rfl (Ty.isl rfl) | refine k_not rfl | refine k_notb rfl | refine k_min rfl rfl | refine k_max rfl rfl | refine k_mul64 rfl rfl (by omega) | refine k_quo64 rfl rfl (by omega) | refine k_rem rfl rfl (by omega) | refine k_extract rfl rfl | refine k_convI rfl rfl rfl (by omega) | refine k_conv16 rfl rfl rfl (by omega) | refine k_conv64 rfl rfl rfl (by omega) | refine k_conv8 rfl rfl rfl (by omega) | refine k_convB rfl rfl rfl | refine k_convH rfl rfl rfl | refine k_convQ rfl rfl rfl | refine k_pick_f (dF (by omega)) rfl | refine k_pick_t (dT (by omega)) rfl) rfl ?_))
      try refine WL_gyes rfl rfl rfl ?_
      refine WL_s (S_call (hcheck_spec xo) rfl rfl ?_)
      rintro v w9 ⟨rfl, hE⟩
      replace hH := hH.ext0 hE
      clear hE hB6
      rw [hp]
      have hat := AtHead.out xo hp
      have hat2 := AtHead.out_more xo hp (lm.map few)
      have hob := SH.out_byt x
      have hol : x.out.length ≤ 138 := by rw [SH.out_len xo hp]; split <;> omega
      obtain ⟨o, hoe⟩ : ∃ o, o = x.out := ⟨_, rfl⟩
      rw [← hoe] at hat hat2 hob hol hH ⊢
      have hln : (o.map B).length = o.length * 1 := by simp
      have hone : ∀ l : List Nat, ∀ u ∈ l.map B, u.oneCell' = true := fun l u hu => by obtain ⟨y, _, rfl⟩ := List.mem_map.1 hu; rfl
      repeat (first | refine WS_seq ?_ | refine WS_region ?_ | refine WL_nil ?_ | refine WS_block ?_ | refine WS_inBlock ?_ | refine WS_skip ?_ | refine WS_label ?_ | refine WS_scope ?_ | refine WS_inScope ?_ | refine WS_exit rfl ?_ | refine WS_true rfl ?_ | refine WS_false rfl ?_ | refine WS_yes rfl (by omega) ?_ | refine WS_no rfl (by omega) ?_ | refine WL_gyes rfl rfl rfl ?_ | refine WL_gno rfl rfl rfl rfl rfl ?_ | refine WL_gund rfl rfl rfl ?_ | refine WL_gyes rfl rfl (dF (by omega)) ?_ | refine WL_gyes rfl rfl (dT (by omega)) ?_ | refine WL_gno (b := false) rfl rfl (dF (by omega)) rfl rfl ?_ | refine WL_gno (b := true) rfl rfl (dT (by omega)) rfl rfl ?_ | (refine WL_r (by first | refine Run_pev rfl | refine k_add64 rfl rfl (by omega) | refine k_sub64 rfl rfl (by omega) | refine k_len rfl (Ty.isl rfl) | refine k_not rfl | refine k_notb rfl | refine k_min rfl rfl | refine k_max rfl rfl | refine k_mul64 rfl rfl (by omega) | refine k_quo64 rfl rfl (by omega) | refine k_rem rfl rfl (by omega) | refine k_extract rfl rfl | refine k_convI rfl rfl rfl (by omega) | refine k_conv16 rfl rfl rfl (by omega) | refine k_conv64 rfl rfl rfl (by omega) | refine k_conv8 rfl rfl rfl (by omega) | refine k_convB rfl rfl rfl | refine k_convH rfl rfl rfl | refine k_convQ rfl rfl rfl | refine k_pick_f (dF (by omega)) rfl | refine k_pick_t (dT (by omega)) rfl) rfl ?_))
      try refine WL_gyes rfl rfl rfl ?_
      refine WL_s (H_lit (out := []) hH (Ty.sle rfl) (Ty.zer rfl) rfl rfl rfl (by decide) rfl ?_)
      try clear hH
      intro _ b77 hH
      first | change Hp _ _ _ [] at hH | change Hp _ _ _ [_] at hH | change Hp _ _ _ [_, _] at hH | change Hp _ _ _ [_, _, _] at hH | change Hp _ _ _ [_, _, _, _] at hH | change Hp _ _ _ [_, _, _, _, _] at hH | change Hp _ _ _ [_, _, _, _, _, _] at hH | change Hp _ _ _ [_, _, _, _, _, _, _] at hH | change Hp _ _ _ [_, _, _, _, _, _, _, _] at hH | change Hp _ _ _ [_, _, _, _, _, _, _, _, _] at hH
      replace hH := hH.as 2 rfl (r' := Ro 5 1 (some ⟨b77, 0, none⟩) 0 0 []) (fun _ h => h) (fun h => (h : Blk _ _ _ _).own (n := 0) (sz := 1) rfl (by decide))
      first | change Hp _ _ _ [] at hH | change Hp _ _ _ [_] at hH | change Hp _ _ _ [_, _] at hH | change Hp _ _ _ [_, _, _] at hH | change Hp _ _ _ [_, _, _, _] at hH | change Hp _ _ _ [_, _, _, _, _] at hH | change Hp _ _ _ [_, _, _, _, _, _] at hH | change Hp _ _ _ [_, _, _, _, _, _, _] at hH | change Hp _ _ _ [_, _, _, _, _, _, _, _] at hH | change Hp _ _ _ [_, _, _, _, _, _, _, _, _] at hH
      repeat (first | refine WS_seq ?_ | refine WS_region ?_ | refine WL_nil ?_ | refine WS_block ?_ | refine WS_inBlock ?_ | refine WS_skip ?_ | refine WS_label ?_ | refine WS_scope ?_ | refine WS_inScope ?_ | refine WS_exit rfl ?_ | refine WS_true rfl ?_ | refine WS_false rfl ?_ | refine WS_yes rfl (by omega) ?_ | refine WS_no rfl (by omega) ?_ | refine WL_gyes rfl rfl rfl ?_ | refine WL_gno rfl rfl rfl rfl rfl ?_ | refine WL_gund rfl rfl rfl ?_ | refine WL_gyes rfl rfl (dF (by omega)) ?_ | refine WL_gyes rfl rfl (dT (by omega)) ?_ | refine WL_gno (b := false) rfl rfl (dF (by omega)) rfl rfl ?_ | refine WL_gno (b := true) rfl rfl (dT (by omega)) rfl rfl ?_ | (refine WL_r (by first | refine Run_pev rfl | refine k_add64 rfl rfl (by omega) | refine k_sub64 rfl rfl (by omega) | refine k_len rfl (Ty.isl rfl) | refine k_not rfl | refine k_notb rfl | refine k_min rfl rfl | refine k_max rfl rfl | refine k_mul64 rfl rfl (by omega) | refine k_quo64 rfl rfl (by omega) | refine k_rem rfl rfl (by omega) | refine k_extract rfl rfl | refine k_convI rfl rfl rfl (by omega) | refine k_conv16 rfl rfl rfl (by omega) | refine k_conv64 rfl rfl rfl (by omega) | refine k_conv8 rfl rfl rfl (by omega) | refine k_convB rfl rfl rfl | refine k_convH rfl rfl rfl | refine k_convQ rfl rfl rfl | refine k_pick_f (dF (by omega)) rfl | refine k_pick_t (dT (by omega)) rfl) rfl ?_))
      refine WL_s (H_append 2 hH rfl (Ty.sle rfl) (Ty.zer rfl) rfl (Ty.byt rfl) (by decide) rfl rfl ((hH.o 1 rfl).sl) hln (hone _) (by omega) (by simp only [maxLen]; omega) rfl ?_)
      clear hH
      intro w10 a10 c10 hH
      first | change Hp _ _ _ [] at hH | change Hp _ _ _ [_] at hH | change Hp _ _ _ [_, _] at hH | change Hp _ _ _ [_, _, _] at hH | change Hp _ _ _ [_, _, _, _] at hH | change Hp _ _ _ [_, _, _, _, _] at hH | change Hp _ _ _ [_, _, _, _, _, _] at hH | change Hp _ _ _ [_, _, _, _, _, _, _] at hH | change Hp _ _ _ [_, _, _, _, _, _, _, _] at hH | change Hp _ _ _ [_, _, _, _, _, _, _, _, _] at hH
      rw [Nat.zero_add o.length, List.nil_append] at hH
      rw [Nat.zero_add o.length]
      repeat (first | refine WS_seq ?_ | refine WS_region ?_ | refine WL_nil ?_ | refine WS_block ?_ | refine WS_inBlock ?_ | refine WS_skip ?_ | refine WS_label ?_ | refine WS_scope ?_ | refine WS_inScope ?_ | refine WS_exit rfl ?_ | refine WS_true rfl ?_ | refine WS_false rfl ?_ | refine WS_yes rfl (by omega) ?_ | refine WS_no rfl (by omega) ?_ | refine WL_gyes rfl rfl rfl ?_ | refine WL_gno rfl rfl rfl rfl rfl ?_ | refine WL_gund rfl rfl rfl ?_ | refine WL_gyes rfl rfl (dF (by omega)) ?_ | refine WL_gyes rfl rfl (dT (by omega)) ?_ | refine WL_gno (b := false) rfl rfl (dF (by omega)) rfl rfl ?_ | refine WL_gno (b := true) rfl rfl (dT (by omega)) rfl rfl ?_ | (refine WL_r (by first | refine Run_pev rfl | refine k_add64 rfl rfl (by omega) | refine k_sub64 rfl rfl (by omega) | refine k_len rfl (Ty.isl rfl) | refine k_not rfl | refine k_notb rfl | refine k_min rfl rfl | refine k_max rfl rfl | refine k_mul64 rfl rfl (by omega) | refine k_quo64 rfl rfl (by omega) | refine k_rem rfl rfl (by omega) | refine k_extract rfl rfl | refine k_convI rfl rfl rfl (by omega) | refine k_conv16 rfl rfl rfl (by omega) | refine k_conv64 rfl rfl rfl (by omega) | refine k_conv8 rfl rfl rfl (by omega) | refine k_convB rfl rfl rfl | refine k_convH rfl rfl rfl | refine k_convQ rfl rfl rfl | refine k_pick_f (dF (by omega)) rfl | refine k_pick_t (dT (by omega)) rfl) rfl ?_))
      try refine WL_gyes rfl rfl rfl ?_
      refine WL_s (H_lit (out := [B 0, B 0, B 1]) hH (Ty.sle rfl) (Ty.zer rfl) rfl rfl rfl (by decide) rfl ?_)
      try clear hH
      intro _ blit hH
      first | change Hp _ _ _ [] at hH | change Hp _ _ _ [_] at hH | change Hp _ _ _ [_, _] at hH | change Hp _ _ _ [_, _, _] at hH | change Hp _ _ _ [_, _, _, _] at hH | change Hp _ _ _ [_, _, _, _, _] at hH | change Hp _ _ _ [_, _, _, _, _, _] at hH | change Hp _ _ _ [_, _, _, _, _, _, _] at hH | change Hp _ _ _ [_, _, _, _, _, _, _, _] at hH | change Hp _ _ _ [_, _, _, _, _, _, _, _, _] at hH
      try refine WL_gyes rfl rfl rfl ?_
      refine WL_s (H_append 2 hH rfl (Ty.sle rfl) (Ty.zer rfl) rfl (Ty.byt rfl) (by decide) rfl rfl ((hH.b 3 rfl).sl0) (by simp; try omega) (by simp) (by omega) (by simp only [maxLen]; omega) rfl ?_)
      try clear hH
      intro _ a11 c11 hH
      first | change Hp _ _ _ [] at hH | change Hp _ _ _ [_] at hH | change Hp _ _ _ [_, _] at hH | change Hp _ _ _ [_, _, _] at hH | change Hp _ _ _ [_, _, _, _] at hH | change Hp _ _ _ [_, _, _, _, _] at hH | change Hp _ _ _ [_, _, _, _, _, _] at hH | change Hp _ _ _ [_, _, _, _, _, _, _] at hH | change Hp _ _ _ [_, _, _, _, _, _, _, _] at hH | change Hp _ _ _ [_, _, _, _, _, _, _, _, _] at hH
      replace hH := hH.del 3
      first | change Hp _ _ _ [] at hH | change Hp _ _ _ [_] at hH | change Hp _ _ _ [_, _] at hH | change Hp _ _ _ [_, _, _] at hH | change Hp _ _ _ [_, _, _, _] at hH | change Hp _ _ _ [_, _, _, _, _] at hH | change Hp _ _ _ [_, _, _, _, _, _] at hH | change Hp _ _ _ [_, _, _, _, _, _, _] at hH | change Hp _ _ _ [_, _, _, _, _, _, _, _] at hH | change Hp _ _ _ [_, _, _, _, _, _, _, _, _] at hH
      repeat (first | refine WS_seq ?_ | refine WS_region ?_ | refine WL_nil ?_ | refine WS_block ?_ | refine WS_inBlock ?_ | refine WS_skip ?_ | refine WS_label ?_ | refine WS_scope ?_ | refine WS_inScope ?_ | refine WS_exit rfl ?_ | refine WS_true rfl ?_ | refine WS_false rfl ?_ | refine WS_yes rfl (by omega) ?_ | refine WS_no rfl (by omega) ?_ | refine WL_gyes rfl rfl rfl ?_ | refine WL_gno rfl rfl rfl rfl rfl ?_ | refine WL_gund rfl rfl rfl ?_ | refine WL_gyes rfl rfl (dF (by omega)) ?_ | refine WL_gyes rfl rfl (dT (by omega)) ?_ | refine WL_gno (b := false) rfl rfl (dF (by omega)) rfl rfl ?_ | refine WL_gno (b := true) rfl rfl (dT (by omega)) rfl rfl ?_ | (refine WL_r (by first | refine Run_pev rfl | refine k_add64 rfl rfl (by omega) | refine k_sub64 rfl rfl (by omega) | refine k_len rfl (Ty.isl rfl) | refine k_not rfl | refine k_notb rfl | refine k_min rfl rfl | refine k_max rfl rfl | refine k_mul64 rfl rfl (by omega) | refine k_quo64 rfl rfl (by omega) | refine k_rem rfl rfl (by omega) | refine k_extract rfl rfl | refine k_convI rfl rfl rfl (by omega) | refine k_conv16 rfl rfl rfl (by omega) | refine k_conv64 rfl rfl rfl (by omega) | refine k_conv8 rfl rfl rfl (by omega) | refine k_convB rfl rfl rfl | refine k_convH rfl rfl rfl | refine k_convQ rfl rfl rfl | refine k_pick_f (dF (by omega)) rfl | refine k_pick_t (dT (by omega)) rfl) rfl ?_))
      have hSm3 := hH.old (hSm2.ext0 hW)
      try refine WL_gyes rfl rfl rfl ?_
      refine WL_s (S_call (bytes_spec hSm3 hbm rfl (by omega)) rfl rfl ?_)
      rintro v w11 ⟨a12, c12, rfl, hN⟩
      replace hH := hH.nu hN
      clear hN
      first | change Hp _ _ _ [] at hH | change Hp _ _ _ [_] at hH | change Hp _ _ _ [_, _] at hH | change Hp _ _ _ [_, _, _] at hH | change Hp _ _ _ [_, _, _, _] at hH | change Hp _ _ _ [_, _, _, _, _] at hH | change Hp _ _ _ [_, _, _, _, _, _] at hH | change Hp _ _ _ [_, _, _, _, _, _, _] at hH | change Hp _ _ _ [_, _, _, _, _, _, _, _] at hH | change Hp _ _ _ [_, _, _, _, _, _, _, _, _] at hH
      repeat (first | refine WS_seq ?_ | refine WS_region ?_ | refine WL_nil ?_ | refine WS_block ?_ | refine WS_inBlock ?_ | refine WS_skip ?_ | refine WS_label ?_ | refine WS_scope ?_ | refine WS_inScope ?_ | refine WS_exit rfl ?_ | refine WS_true rfl ?_ | refine WS_false rfl ?_ | refine WS_yes rfl (by omega) ?_ | refine WS_no rfl (by omega) ?_ | refine WL_gyes rfl rfl rfl ?_ | refine WL_gno rfl rfl rfl rfl rfl ?_ | refine WL_gund rfl rfl rfl ?_ | refine WL_gyes rfl rfl (dF (by omega)) ?_ | refine WL_gyes rfl rfl (dT (by omega)) ?_ | refine WL_gno (b := false) rfl rfl (dF (by omega)) rfl rfl ?_ | refine WL_gno (b := true) rfl rfl (dT (by omega)) rfl rfl ?_ | (refine WL_r (by first | refine Run_pev rfl | refine k_add64 rfl rfl (by omega) | refine k_sub64 rfl rfl (by omega) | refine k_len rfl (Ty.isl rfl) | refine k_not rfl | refine k_notb rfl | refine k_min rfl rfl | refine k_max rfl rfl | refine k_mul64 rfl rfl (by omega) | refine k_quo64 rfl rfl (by omega) | refine k_rem rfl rfl (by omega) | refine k_extract rfl rfl | refine k_convI rfl rfl rfl (by omega) | refine k_conv16 rfl rfl rfl (by omega) | refine k_conv64 rfl rfl rfl (by omega) | refine k_conv8 rfl rfl rfl (by omega) | refine k_convB rfl rfl rfl | refine k_convH rfl rfl rfl | refine k_convQ rfl rfl rfl | refine k_pick_f (dF (by omega)) rfl | refine k_pick_t (dT (by omega)) rfl) rfl ?_))
      have hlf : ((lm.map few).map B).length = lm.length * 1 := by simp
      refine WL_s (H_append 2 hH rfl (Ty.sle rfl) (Ty.zer rfl) rfl (Ty.byt rfl) (by decide) rfl rfl ((hH.o 3 rfl).sl) hlf (hone _) (by omega) (by simp only [maxLen]; omega) rfl ?_)
      clear hH
      intro w12 a13 c13 hH
      replace hH := hH.take 3
      first | change Hp _ _ _ [] at hH | change Hp _ _ _ [_] at hH | change Hp _ _ _ [_, _] at hH | change Hp _ _ _ [_, _, _] at hH | change Hp _ _ _ [_, _, _, _] at hH | change Hp _ _ _ [_, _, _, _, _] at hH | change Hp _ _ _ [_, _, _, _, _, _] at hH | change Hp _ _ _ [_, _, _, _, _, _, _] at hH | change Hp _ _ _ [_, _, _, _, _, _, _, _] at hH | change Hp _ _ _ [_, _, _, _, _, _, _, _, _] at hH
      have hall : o.map B ++ [B 0, B 0, B 1] ++ (lm.map few).map B = (o ++ ([0, 0, 1] ++ lm.map few)).map B := by simp
      rw [hall] at hH
      have hql : (o ++ ([0, 0, 1] ++ lm.map few)).length = o.length + 3 + lm.length := by simp; omega
      have hqb : Byt (o ++ ([0, 0, 1] ++ lm.map few)) := Byt.append hob (Byt.append (bytB rfl) (byt_few lm))
      rw [← hql] at hH ⊢
      generalize o ++ ([0, 0, 1] ++ lm.map few) = q at *
      have hc8 : o.length ≤ c8 := (hH.o 1 rfl).2.1
      have hc13 : q.length ≤ c13 := (hH.o 2 rfl).2.1
      repeat (first | refine WS_seq ?_ | refine WS_region ?_ | refine WL_nil ?_ | refine WS_block ?_ | refine WS_inBlock ?_ | refine WS_skip ?_ | refine WS_label ?_ | refine WS_scope ?_ | refine WS_inScope ?_ | refine WS_exit rfl ?_ | refine WS_true rfl ?_ | refine WS_false rfl ?_ | refine WS_yes rfl (by omega) ?_ | refine WS_no rfl (by omega) ?_ | refine WL_gyes rfl rfl rfl ?_ | refine WL_gno rfl rfl rfl rfl rfl ?_ | refine WL_gund rfl rfl rfl ?_ | refine WL_gyes rfl rfl (dF (by omega)) ?_ | refine WL_gyes rfl rfl (dT (by omega)) ?_ | refine WL_gno (b := false) rfl rfl (dF (by omega)) rfl rfl ?_ | refine WL_gno (b := true) rfl rfl (dT (by omega)) rfl rfl ?_ | (refine WL_r (by first | refine Run_pev rfl | refine k_add64 rfl rfl (by omega) | refine k_sub64 rfl rfl (by omega) | refine k_len rfl (Ty.isl rfl) | refine k_not rfl | refine k_notb rfl | refine k_min rfl rfl | refine k_max rfl rfl | refine k_mul64 rfl rfl (by omega) | refine k_quo64 rfl rfl (by omega) | refine k_rem rfl rfl (by omega) | refine k_extract rfl rfl | refine k_convI rfl rfl rfl (by omega) | refine k_conv16 rfl rfl rfl (by omega) | refine k_conv64 rfl rfl rfl (by omega) | refine k_conv8 rfl rfl rfl (by omega) | refine k_convB rfl rfl rfl | refine k_convH rfl rfl rfl | refine k_convQ rfl rfl rfl | refine k_pick_f (dF (by omega)) rfl | refine k_pick_t (dT (by omega)) rfl) rfl ?_))
      try refine WL_gyes rfl rfl rfl ?_
      refine WL_s (S_call (stake_spec (hH.o 1 rfl).sl hob rfl hc8 (by omega)) rfl rfl ?_)
      rintro v w13 ⟨hT, hE⟩
      replace hH := hH.ext0 hE
      clear hE
      obtain rfl := hT.good hat
      clear hT
      repeat (first | refine WS_seq ?_ | refine WS_region ?_ | refine WL_nil ?_ | refine WS_block ?_ | refine WS_inBlock ?_ | refine WS_skip ?_ | refine WS_label ?_ | refine WS_scope ?_ | refine WS_inScope ?_ | refine WS_exit rfl ?_ | refine WS_true rfl ?_ | refine WS_false rfl ?_ | refine WS_yes rfl (by omega) ?_ | refine WS_no rfl (by omega) ?_ | refine WL_gyes rfl rfl rfl ?_ | refine WL_gno rfl rfl rfl rfl rfl ?_ | refine WL_gund rfl rfl rfl ?_ | refine WL_gyes rfl rfl (dF (by omega)) ?_ | refine WL_gyes rfl rfl (dT (by omega)) ?_ | refine WL_gno (b := false) rfl rfl (dF (by omega)) rfl rfl ?_ | refine WL_gno (b := true) rfl rfl (dT (by omega)) rfl rfl ?_ | (refine WL_r (by first | refine Run_pev rfl | refine k_add64 rfl rfl (by omega) | refine k_sub64 rfl rfl (by omega) | refine k_len rfl (Ty.isl rfl) | refine k_not rfl | refine k_notb rfl | refine k_min rfl rfl | refine k_max rfl rfl | refine k_mul64 rfl rfl (by omega) | refine k_quo64 rfl rfl (by omega) | refine k_rem rfl rfl (by omega) | refine k_extract rfl rfl | refine k_convI rfl rfl rfl (by omega) | refine k_conv16 rfl rfl rfl (by omega) | refine k_conv64 rfl rfl rfl (by omega) | refine k_conv8 rfl rfl rfl (by omega) | refine k_convB rfl rfl rfl | refine k_convH rfl rfl rfl | refine k_convQ rfl rfl rfl | refine k_pick_f (dF (by omega)) rfl | refine k_pick_t (dT (by omega)) rfl) rfl ?_))
      refine WL_s (H_alloc hH (Ty.zer rfl) rfl ?_)
      try clear hH
      intro w14 b11 hH
      first | change Hp _ _ _ [] at hH | change Hp _ _ _ [_] at hH | change Hp _ _ _ [_, _] at hH | change Hp _ _ _ [_, _, _] at hH | change Hp _ _ _ [_, _, _, _] at hH | change Hp _ _ _ [_, _, _, _, _] at hH | change Hp _ _ _ [_, _, _, _, _, _] at hH | change Hp _ _ _ [_, _, _, _, _, _, _] at hH | change Hp _ _ _ [_, _, _, _, _, _, _, _] at hH | change Hp _ _ _ [_, _, _, _, _, _, _, _, _] at hH
      repeat (first | refine WS_seq ?_ | refine WS_region ?_ | refine WL_nil ?_ | refine WS_block ?_ | refine WS_inBlock ?_ | refine WS_skip ?_ | refine WS_label ?_ | refine WS_scope ?_ | refine WS_inScope ?_ | refine WS_exit rfl ?_ | refine WS_true rfl ?_ | refine WS_false rfl ?_ | refine WS_yes rfl (by omega) ?_ | refine WS_no rfl (by omega) ?_ | refine WL_gyes rfl rfl rfl ?_ | refine WL_gno rfl rfl rfl rfl rfl ?_ | refine WL_gund rfl rfl rfl ?_ | refine WL_gyes rfl rfl (dF (by omega)) ?_ | refine WL_gyes rfl rfl (dT (by omega)) ?_ | refine WL_gno (b := false) rfl rfl (dF (by omega)) rfl rfl ?_ | refine WL_gno (b := true) rfl rfl (dT (by omega)) rfl rfl ?_ | (refine WL_r (by first | refine Run_pev rfl | refine k_add64 rfl rfl (by omega) | refine k_sub64 rfl rfl (by omega) | refine k_len rfl (Ty.isl rfl) | refine k_not rfl | refine k_notb rfl | refine k_min rfl rfl | refine k_max rfl rfl | refine k_mul64 rfl rfl (by omega) | refine k_quo64 rfl rfl (by omega) | refine k_rem rfl rfl (by omega) | refine k_extract rfl rfl | refine k_convI rfl rfl rfl (by omega) | refine k_conv16 rfl rfl rfl (by omega) | refine k_conv64 rfl rfl rfl (by omega) | refine k_conv8 rfl rfl rfl (by omega) | refine k_convB rfl rfl rfl | refine k_convH rfl rfl rfl | refine k_convQ rfl rfl rfl | refine k_pick_f (dF (by omega)) rfl | refine k_pick_t (dT (by omega)) rfl) rfl ?_))
      refine WL_s (H_storeA 3 hH rfl rfl rfl hxl rfl (cells_one x) (Ty.shp rfl) ?_)
      try clear hH
      intro w15 hH
      first | change Hp _ _ _ [] at hH | change Hp _ _ _ [_] at hH | change Hp _ _ _ [_, _] at hH | change Hp _ _ _ [_, _, _] at hH | change Hp _ _ _ [_, _, _, _] at hH | change Hp _ _ _ [_, _, _, _, _] at hH | change Hp _ _ _ [_, _, _, _, _, _] at hH | change Hp _ _ _ [_, _, _, _, _, _, _] at hH | change Hp _ _ _ [_, _, _, _, _, _, _, _] at hH | change Hp _ _ _ [_, _, _, _, _, _, _, _, _] at hH
      repeat (first | refine WS_seq ?_ | refine WS_region ?_ | refine WL_nil ?_ | refine WS_block ?_ | refine WS_inBlock ?_ | refine WS_skip ?_ | refine WS_label ?_ | refine WS_scope ?_ | refine WS_inScope ?_ | refine WS_exit rfl ?_ | refine WS_true rfl ?_ | refine WS_false rfl ?_ | refine WS_yes rfl (by omega) ?_ | refine WS_no rfl (by omega) ?_ | refine WL_gyes rfl rfl rfl ?_ | refine WL_gno rfl rfl rfl rfl rfl ?_ | refine WL_gund rfl rfl rfl ?_ | refine WL_gyes rfl rfl (dF (by omega)) ?_ | refine WL_gyes rfl rfl (dT (by omega)) ?_ | refine WL_gno (b := false) rfl rfl (dF (by omega)) rfl rfl ?_ | refine WL_gno (b := true) rfl rfl (dT (by omega)) rfl rfl ?_ | (refine WL_r (by first | refine Run_pev rfl | refine k_add64 rfl rfl (by omega) | refine k_sub64 rfl rfl (by omega) | refine k_len rfl (Ty.isl rfl) | refine k_not rfl | refine k_notb rfl | refine k_min rfl rfl | refine k_max rfl rfl | refine k_mul64 rfl rfl (by omega) | refine k_quo64 rfl rfl (by omega) | refine k_rem rfl rfl (by omega) | refine k_extract rfl rfl | refine k_convI rfl rfl rfl (by omega) | refine k_conv16 rfl rfl rfl (by omega) | refine k_conv64 rfl rfl rfl (by omega) | refine k_conv8 rfl rfl rfl (by omega) | refine k_convB rfl rfl rfl | refine k_convH rfl rfl rfl | refine k_convQ rfl rfl rfl | refine k_pick_f (dF (by omega)) rfl | refine k_pick_t (dT (by omega)) rfl) rfl ?_))
      try refine WL_gyes rfl rfl rfl ?_
      refine WL_s (S_call (stake_spec (hH.o 2 rfl).sl hqb rfl hc13 (by omega)) rfl rfl ?_)
      rintro v w16 ⟨hT, hE⟩
      replace hH := hH.ext0 hE
      clear hE
      obtain rfl := hT.good hat2
      clear hT
      repeat (first | refine WS_seq ?_ | refine WS_region ?_ | refine WL_nil ?_ | refine WS_block ?_ | refine WS_inBlock ?_ | refine WS_skip ?_ | refine WS_label ?_ | refine WS_scope ?_ | refine WS_inScope ?_ | refine WS_exit rfl ?_ | refine WS_true rfl ?_ | refine WS_false rfl ?_ | refine WS_yes rfl (by omega) ?_ | refine WS_no rfl (by omega) ?_ | refine WL_gyes rfl rfl rfl ?_ | refine WL_gno rfl rfl rfl rfl rfl ?_ | refine WL_gund rfl rfl rfl ?_ | refine WL_gyes rfl rfl (dF (by omega)) ?_ | refine WL_gyes rfl rfl (dT (by omega)) ?_ | refine WL_gno (b := false) rfl rfl (dF (by omega)) rfl rfl ?_ | refine WL_gno (b := true) rfl rfl (dT (by omega)) rfl rfl ?_ | (refine WL_r (by first | refine Run_pev rfl | refine k_add64 rfl rfl (by omega) | refine k_sub64 rfl rfl (by omega) | refine k_len rfl (Ty.isl rfl) | refine k_not rfl | refine k_notb rfl | refine k_min rfl rfl | refine k_max rfl rfl | refine k_mul64 rfl rfl (by omega) | refine k_quo64 rfl rfl (by omega) | refine k_rem rfl rfl (by omega) | refine k_extract rfl rfl | refine k_convI rfl rfl rfl (by omega) | refine k_conv16 rfl rfl rfl (by omega) | refine k_conv64 rfl rfl rfl (by omega) | refine k_conv8 rfl rfl rfl (by omega) | refine k_convB rfl rfl rfl | refine k_convH rfl rfl rfl | refine k_convQ rfl rfl rfl | refine k_pick_f (dF (by omega)) rfl | refine k_pick_t (dT (by omega)) rfl) rfl ?_))
      refine WL_s (H_alloc hH (Ty.zer rfl) rfl ?_)
      try clear hH
      intro w17 b14 hH
      first | change Hp _ _ _ [] at hH | change Hp _ _ _ [_] at hH | change Hp _ _ _ [_, _] at hH | change Hp _ _ _ [_, _, _] at hH | change Hp _ _ _ [_, _, _, _] at hH | change Hp _ _ _ [_, _, _, _, _] at hH | change Hp _ _ _ [_, _, _, _, _, _] at hH | change Hp _ _ _ [_, _, _, _, _, _, _] at hH | change Hp _ _ _ [_, _, _, _, _, _, _, _] at hH | change Hp _ _ _ [_, _, _, _, _, _, _, _, _] at hH
      repeat (first | refine WS_seq ?_ | refine WS_region ?_ | refine WL_nil ?_ | refine WS_block ?_ | refine WS_inBlock ?_ | refine WS_skip ?_ | refine WS_label ?_ | refine WS_scope ?_ | refine WS_inScope ?_ | refine WS_exit rfl ?_ | refine WS_true rfl ?_ | refine WS_false rfl ?_ | refine WS_yes rfl (by omega) ?_ | refine WS_no rfl (by omega) ?_ | refine WL_gyes rfl rfl rfl ?_ | refine WL_gno rfl rfl rfl rfl rfl ?_ | refine WL_gund rfl rfl rfl ?_ | refine WL_gyes rfl rfl (dF (by omega)) ?_ | refine WL_gyes rfl rfl (dT (by omega)) ?_ | refine WL_gno (b := false) rfl rfl (dF (by omega)) rfl rfl ?_ | refine WL_gno (b := true) rfl rfl (dT (by omega)) rfl rfl ?_ | (refine WL_r (by first | refine Run_pev rfl | refine k_add64 rfl rfl (by omega) | refine k_sub64 rfl rfl (by omega) | refine k_len rfl (Ty.isl rfl) | refine k_not rfl | refine k_notb rfl | refine k_min rfl rfl | refine k_max rfl rfl | refine k_mul64 rfl rfl (by omega) | refine k_quo64 rfl rfl (by omega) | refine k_rem rfl rfl (by omega) | refine k_extract rfl rfl | refine k_convI rfl rfl rfl (by omega) | refine k_conv16 rfl rfl rfl (by omega) | refine k_conv64 rfl rfl rfl (by omega) | refine k_conv8 rfl rfl rfl (by omega) | refine k_convB rfl rfl rfl | refine k_convH rfl rfl rfl | refine k_convQ rfl rfl rfl | refine k_pick_f (dF (by omega)) rfl | refine k_pick_t (dT (by omega)) rfl) rfl ?_))
      refine WL_s (H_storeA 4 hH rfl rfl rfl hxl rfl (cells_one x) (Ty.shp rfl) ?_)
      try clear hH
      intro w18 hH
      first | change Hp _ _ _ [] at hH | change Hp _ _ _ [_] at hH | change Hp _ _ _ [_, _] at hH | change Hp _ _ _ [_, _, _] at hH | change Hp _ _ _ [_, _, _, _] at hH | change Hp _ _ _ [_, _, _, _, _] at hH | change Hp _ _ _ [_, _, _, _, _, _] at hH | change Hp _ _ _ [_, _, _, _, _, _, _] at hH | change Hp _ _ _ [_, _, _, _, _, _, _, _] at hH | change Hp _ _ _ [_, _, _, _, _, _, _, _, _] at hH
      have hfx := fits_seqh xo
      have hax := all2_seqh xo xo True ⟨fun _ => trivial, fun _ => rfl⟩
      repeat (first | refine WS_seq ?_ | refine WS_region ?_ | refine WL_nil ?_ | refine WS_block ?_ | refine WS_inBlock ?_ | refine WS_skip ?_ | refine WS_label ?_ | refine WS_scope ?_ | refine WS_inScope ?_ | refine WS_exit rfl ?_ | refine WS_true rfl ?_ | refine WS_false rfl ?_ | refine WS_yes rfl (by omega) ?_ | refine WS_no rfl (by omega) ?_ | refine WL_gyes rfl rfl rfl ?_ | refine WL_gno rfl rfl rfl rfl rfl ?_ | refine WL_gund rfl rfl rfl ?_ | refine WL_gyes rfl rfl (dF (by omega)) ?_ | refine WL_gyes rfl rfl (dT (by omega)) ?_ | refine WL_gno (b := false) rfl rfl (dF (by omega)) rfl rfl ?_ | refine WL_gno (b := true) rfl rfl (dT (by omega)) rfl rfl ?_ | (refine WL_r (by first | refine Run_pev rfl | refine k_add64 rfl rfl (by omega) | refine k_sub64 rfl rfl (by omega) | refine k_len rfl (Ty.isl rfl) | refine k_not rfl | refine k_notb rfl | refine k_min rfl rfl | refine k_max rfl rfl | refine k_mul64 rfl rfl (by omega) | refine k_quo64 rfl rfl (by omega) | refine k_rem rfl rfl (by omega) | refine k_extract rfl rfl | refine k_convI rfl rfl rfl (by omega) | refine k_conv16 rfl rfl rfl (by omega) | refine k_conv64 rfl rfl rfl (by omega) | refine k_conv8 rfl rfl rfl (by omega) | refine k_convB rfl rfl rfl | refine k_convH rfl rfl rfl | refine k_convQ rfl rfl rfl | refine k_pick_f (dF (by omega)) rfl | refine k_pick_t (dT (by omega)) rfl) rfl ?_))
      refine WS_draw Ty.mixed (fun w'' => Ext [] w18 w'') 36 rfl ?_
      replace hH := hH.ext0 (Ext.drew0 (S := []))
      have hx0 : Ext [] w18 w18.drew := Ext.drew0
      generalize w18.drew = w19 at *
      have hx1 : Ext [] w19 w19 := .refl
      refine WA_now _ hx0 ?_
      clear hx0
      have hO8 : SlA w19 a8 (o.map B) := (hH.o 1 rfl).sl
      have hB6 : Blk w19 b6 26 x.cells.toArray := hH.b 0 rfl
      refine WA_take 0 rfl (by kernel_rfl) hx1 rfl rfl (fun w' hw' => by first | refine Run_pev rfl) ?_
      refine WA_take 1 rfl (by kernel_rfl) hx1 rfl rfl (fun w' hw' => by first | refine k_str rfl (hO8.ext0 hw') (Ty.sle rfl) (Ty.knd rfl) (Ty.iss rfl) | refine k_convI rfl rfl rfl (by omega) | refine k_conv16 rfl rfl rfl (by omega) | refine k_conv64 rfl rfl rfl (by omega) | refine k_conv8 rfl rfl rfl (by omega) | refine k_convB rfl rfl rfl | refine k_convH rfl rfl rfl | refine k_convQ rfl rfl rfl) ?_
      refine WA_take 2 rfl (by kernel_rfl) hx1 rfl rfl (fun w' hw' => by first | refine k_loadA rfl (hB6.ext0 hw') hxl (Ty.shp rfl)) ?_
      refine WA_one 3 (by kernel_rfl) rfl rfl (S_call (sbytes_spec xo hp) rfl rfl ?_)
      rintro v w20 ⟨a20, c20, rfl, hN⟩
      have hx2 := hx1.then0 hN.ext
      replace hH := hH.nu hN
      clear hN hO8 hB6
      first | change Hp _ _ _ [] at hH | change Hp _ _ _ [_] at hH | change Hp _ _ _ [_, _] at hH | change Hp _ _ _ [_, _, _] at hH | change Hp _ _ _ [_, _, _, _] at hH | change Hp _ _ _ [_, _, _, _, _] at hH | change Hp _ _ _ [_, _, _, _, _, _] at hH | change Hp _ _ _ [_, _, _, _, _, _, _] at hH | change Hp _ _ _ [_, _, _, _, _, _, _, _] at hH | change Hp _ _ _ [_, _, _, _, _, _, _, _, _] at hH
      rw [← hoe] at hH ⊢
      refine ⟨hx2, WA_now _ hx2 ?_⟩
      clear hx2 hx1
      have hx3 : Ext [] w20 w20 := .refl
      have hT20 : SlA w20 a20 (o.map B) := (hH.o 5 rfl).sl
      have hB6 : Blk w20 b6 26 x.cells.toArray := hH.b 0 rfl
      have hB11 : Blk w20 b11 26 x.cells.toArray := hH.b 3 rfl
      have hB14 : Blk w20 b14 26 x.cells.toArray := hH.b 4 rfl
      refine WA_take 4 rfl (by kernel_rfl) hx3 rfl rfl (fun w' hw' => by first | refine k_str rfl (hT20.ext0 hw') (Ty.sle rfl) (Ty.knd rfl) (Ty.iss rfl) | refine k_convI rfl rfl rfl (by omega) | refine k_conv16 rfl rfl rfl (by omega) | refine k_conv64 rfl rfl rfl (by omega) | refine k_conv8 rfl rfl rfl (by omega) | refine k_convB rfl rfl rfl | refine k_convH rfl rfl rfl | refine k_convQ rfl rfl rfl) ?_
      refine WA_take 5 rfl (by kernel_rfl) hx3 rfl rfl (fun w' hw' => by first | refine (k_neqs rfl rfl hob hob).is (bF (by simp)) | refine Run_pev rfl) ?_
      refine WA_take 6 rfl (by kernel_rfl) hx3 rfl rfl (fun w' hw' => by first | refine Run_pev rfl) ?_
      first | refine WA_takey 7 rfl (by kernel_rfl) hx3 rfl rfl rfl rfl rfl (fun w' hw' => by first | refine k_loadA rfl (hB6.ext0 hw') hxl (Ty.shp rfl) | refine k_loadA rfl (hB11.ext0 hw') hxl (Ty.shp rfl)) ?_ | refine WA_takey 7 rfl (by kernel_rfl) hx3 rfl rfl rfl (dF (by omega)) rfl (fun w' hw' => by first | refine k_loadA rfl (hB6.ext0 hw') hxl (Ty.shp rfl) | refine k_loadA rfl (hB11.ext0 hw') hxl (Ty.shp rfl)) ?_ | refine WA_takey 7 rfl (by kernel_rfl) hx3 rfl rfl rfl (dT (by omega)) rfl (fun w' hw' => by first | refine k_loadA rfl (hB6.ext0 hw') hxl (Ty.shp rfl) | refine k_loadA rfl (hB11.ext0 hw') hxl (Ty.shp rfl)) ?_ | refine WA_taken (b := false) 7 rfl (by kernel_rfl) hx3 rfl rfl rfl rfl rfl rfl ?_ | refine WA_taken (b := true) 7 rfl (by kernel_rfl) hx3 rfl rfl rfl rfl rfl rfl ?_ | refine WA_taken (b := false) 7 rfl (by kernel_rfl) hx3 rfl rfl rfl (dF (by omega)) rfl rfl ?_ | refine WA_taken (b := true) 7 rfl (by kernel_rfl) hx3 rfl rfl rfl (dT (by omega)) rfl rfl ?_ | refine WA_takeu 7 rfl (by kernel_rfl) hx3 rfl rfl rfl rfl ?_
      first | refine WA_takey 8 rfl (by kernel_rfl) hx3 rfl rfl rfl rfl rfl (fun w' hw' => by first | refine k_loadA rfl (hB6.ext0 hw') hxl (Ty.shp rfl) | refine k_loadA rfl (hB11.ext0 hw') hxl (Ty.shp rfl)) ?_ | refine WA_takey 8 rfl (by kernel_rfl) hx3 rfl rfl rfl (dF (by omega)) rfl (fun w' hw' => by first | refine k_loadA rfl (hB6.ext0 hw') hxl (Ty.shp rfl) | refine k_loadA rfl (hB11.ext0 hw') hxl (Ty.shp rfl)) ?_ | refine WA_takey 8 rfl (by kernel_rfl) hx3 rfl rfl rfl (dT (by omega)) rfl (fun w' hw' => by first | refine k_loadA rfl (hB6.ext0 hw') hxl (Ty.shp rfl) | refine k_loadA rfl (hB11.ext0 hw') hxl (Ty.shp rfl)) ?_ | refine WA_taken (b := false) 8 rfl (by kernel_rfl) hx3 rfl rfl rfl rfl rfl rfl ?_ | refine WA_taken (b := true) 8 rfl (by kernel_rfl) hx3 rfl rfl rfl rfl rfl rfl ?_ | refine WA_taken (b := false) 8 rfl (by kernel_rfl) hx3 rfl rfl rfl (dF (by omega)) rfl rfl ?_ | refine WA_taken (b := true) 8 rfl (by kernel_rfl) hx3 rfl rfl rfl (dT (by omega)) rfl rfl ?_ | refine WA_takeu 8 rfl (by kernel_rfl) hx3 rfl rfl rfl rfl ?_
      first | refine WA_takey 9 rfl (by kernel_rfl) hx3 rfl rfl rfl rfl rfl (fun w' hw' => by first | refine (k_neqC rfl rfl (Ty.eqv SHK_eq) hfx hfx hax).is (v' := .bool false) rfl | refine Run_pev rfl) ?_ | refine WA_takey 9 rfl (by kernel_rfl) hx3 rfl rfl rfl (dF (by omega)) rfl (fun w' hw' => by first | refine (k_neqC rfl rfl (Ty.eqv SHK_eq) hfx hfx hax).is (v' := .bool false) rfl | refine Run_pev rfl) ?_ | refine WA_takey 9 rfl (by kernel_rfl) hx3 rfl rfl rfl (dT (by omega)) rfl (fun w' hw' => by first | refine (k_neqC rfl rfl (Ty.eqv SHK_eq) hfx hfx hax).is (v' := .bool false) rfl | refine Run_pev rfl) ?_ | refine WA_taken (b := false) 9 rfl (by kernel_rfl) hx3 rfl rfl rfl rfl rfl rfl ?_ | refine WA_taken (b := true) 9 rfl (by kernel_rfl) hx3 rfl rfl rfl rfl rfl rfl ?_ | refine WA_taken (b := false) 9 rfl (by kernel_rfl) hx3 rfl rfl rfl (dF (by omega)) rfl rfl ?_ | refine WA_taken (b := true) 9 rfl (by kernel_rfl) hx3 rfl rfl rfl (dT (by omega)) rfl rfl ?_ | refine WA_takeu 9 rfl (by kernel_rfl) hx3 rfl rfl rfl rfl ?_
      refine WA_take 10 rfl (by kernel_rfl) hx3 rfl rfl (fun w' hw' => by first | refine Run_pev rfl | refine k_pick_f (dF (by omega)) rfl | refine k_pick_t (dT (by omega)) rfl) ?_
      refine WA_take 11 rfl (by kernel_rfl) hx3 rfl rfl (fun w' hw' => by first | refine Run_pev rfl) ?_
      first | refine WA_takey 12 rfl (by kernel_rfl) hx3 rfl rfl rfl rfl rfl (fun w' hw' => by first | refine Run_pev rfl) ?_ | refine WA_takey 12 rfl (by kernel_rfl) hx3 rfl rfl rfl (dF (by omega)) rfl (fun w' hw' => by first | refine Run_pev rfl) ?_ | refine WA_takey 12 rfl (by kernel_rfl) hx3 rfl rfl rfl (dT (by omega)) rfl (fun w' hw' => by first | refine Run_pev rfl) ?_ | refine WA_taken (b := false) 12 rfl (by kernel_rfl) hx3 rfl rfl rfl rfl rfl rfl ?_ | refine WA_taken (b := true) 12 rfl (by kernel_rfl) hx3 rfl rfl rfl rfl rfl rfl ?_ | refine WA_taken (b := false) 12 rfl (by kernel_rfl) hx3 rfl rfl rfl (dF (by omega)) rfl rfl ?_ | refine WA_taken (b := true) 12 rfl (by kernel_rfl) hx3 rfl rfl rfl (dT (by omega)) rfl rfl ?_ | refine WA_takeu 12 rfl (by kernel_rfl) hx3 rfl rfl rfl rfl ?_
      first | refine WA_takey 13 rfl (by kernel_rfl) hx3 rfl rfl rfl rfl rfl (fun w' hw' => by first | refine Run_pev rfl) ?_ | refine WA_takey 13 rfl (by kernel_rfl) hx3 rfl rfl rfl (dF (by omega)) rfl (fun w' hw' => by first | refine Run_pev rfl) ?_ | refine WA_takey 13 rfl (by kernel_rfl) hx3 rfl rfl rfl (dT (by omega)) rfl (fun w' hw' => by first | refine Run_pev rfl) ?_ | refine WA_taken (b := false) 13 rfl (by kernel_rfl) hx3 rfl rfl rfl rfl rfl rfl ?_ | refine WA_taken (b := true) 13 rfl (by kernel_rfl) hx3 rfl rfl rfl rfl rfl rfl ?_ | refine WA_taken (b := false) 13 rfl (by kernel_rfl) hx3 rfl rfl rfl (dF (by omega)) rfl rfl ?_ | refine WA_taken (b := true) 13 rfl (by kernel_rfl) hx3 rfl rfl rfl (dT (by omega)) rfl rfl ?_ | refine WA_takeu 13 rfl (by kernel_rfl) hx3 rfl rfl rfl rfl ?_
      first | refine WA_takey 14 rfl (by kernel_rfl) hx3 rfl rfl rfl rfl rfl (fun w' hw' => by first | refine k_len rfl (Ty.isl rfl) | refine k_lens rfl (Ty.iss rfl)) ?_ | refine WA_takey 14 rfl (by kernel_rfl) hx3 rfl rfl rfl (dF (by omega)) rfl (fun w' hw' => by first | refine k_len rfl (Ty.isl rfl) | refine k_lens rfl (Ty.iss rfl)) ?_ | refine WA_takey 14 rfl (by kernel_rfl) hx3 rfl rfl rfl (dT (by omega)) rfl (fun w' hw' => by first | refine k_len rfl (Ty.isl rfl) | refine k_lens rfl (Ty.iss rfl)) ?_ | refine WA_taken (b := false) 14 rfl (by kernel_rfl) hx3 rfl rfl rfl rfl rfl rfl ?_ | refine WA_taken (b := true) 14 rfl (by kernel_rfl) hx3 rfl rfl rfl rfl rfl rfl ?_ | refine WA_taken (b := false) 14 rfl (by kernel_rfl) hx3 rfl rfl rfl (dF (by omega)) rfl rfl ?_ | refine WA_taken (b := true) 14 rfl (by kernel_rfl) hx3 rfl rfl rfl (dT (by omega)) rfl rfl ?_ | refine WA_takeu 14 rfl (by kernel_rfl) hx3 rfl rfl rfl rfl ?_
      first | refine WA_takey 15 rfl (by kernel_rfl) hx3 rfl rfl rfl rfl rfl (fun w' hw' => by first | refine (k_neq (q := .i64) rfl rfl).is (bF (fun h => h rfl)) | refine Run_pev rfl) ?_ | refine WA_takey 15 rfl (by kernel_rfl) hx3 rfl rfl rfl (dF (by omega)) rfl (fun w' hw' => by first | refine (k_neq (q := .i64) rfl rfl).is (bF (fun h => h rfl)) | refine Run_pev rfl) ?_ | refine WA_takey 15 rfl (by kernel_rfl) hx3 rfl rfl rfl (dT (by omega)) rfl (fun w' hw' => by first | refine (k_neq (q := .i64) rfl rfl).is (bF (fun h => h rfl)) | refine Run_pev rfl) ?_ | refine WA_taken (b := false) 15 rfl (by kernel_rfl) hx3 rfl rfl rfl rfl rfl rfl ?_ | refine WA_taken (b := true) 15 rfl (by kernel_rfl) hx3 rfl rfl rfl rfl rfl rfl ?_ | refine WA_taken (b := false) 15 rfl (by kernel_rfl) hx3 rfl rfl rfl (dF (by omega)) rfl rfl ?_ | refine WA_taken (b := true) 15 rfl (by kernel_rfl) hx3 rfl rfl rfl (dT (by omega)) rfl rfl ?_ | refine WA_takeu 15 rfl (by kernel_rfl) hx3 rfl rfl rfl rfl ?_
      refine WA_take 16 rfl (by kernel_rfl) hx3 rfl rfl (fun w' hw' => by first | refine Run_pev rfl | refine k_pick_f (dF (by omega)) rfl | refine k_pick_t (dT (by omega)) rfl) ?_
      refine WA_take 17 rfl (by kernel_rfl) hx3 rfl rfl (fun w' hw' => by first | refine Run_pev rfl) ?_
      first | refine WA_takey 18 rfl (by kernel_rfl) hx3 rfl rfl rfl rfl rfl (fun w' hw' => by first | refine Run_pev rfl) ?_ | refine WA_takey 18 rfl (by kernel_rfl) hx3 rfl rfl rfl (dF (by omega)) rfl (fun w' hw' => by first | refine Run_pev rfl) ?_ | refine WA_takey 18 rfl (by kernel_rfl) hx3 rfl rfl rfl (dT (by omega)) rfl (fun w' hw' => by first | refine Run_pev rfl) ?_ | refine WA_taken (b := false) 18 rfl (by kernel_rfl) hx3 rfl rfl rfl rfl rfl rfl ?_ | refine WA_taken (b := true) 18 rfl (by kernel_rfl) hx3 rfl rfl rfl rfl rfl rfl ?_ | refine WA_taken (b := false) 18 rfl (by kernel_rfl) hx3 rfl rfl rfl (dF (by omega)) rfl rfl ?_ | refine WA_taken (b := true) 18 rfl (by kernel_rfl) hx3 rfl rfl rfl (dT (by omega)) rfl rfl ?_ | refine WA_takeu 18 rfl (by kernel_rfl) hx3 rfl rfl rfl rfl ?_
      first | refine WA_takey 19 rfl (by kernel_rfl) hx3 rfl rfl rfl rfl rfl (fun w' hw' => by first | refine (k_neq (q := .i64) rfl rfl).is (bF (fun h => h rfl)) | refine Run_pev rfl) ?_ | refine WA_takey 19 rfl (by kernel_rfl) hx3 rfl rfl rfl (dF (by omega)) rfl (fun w' hw' => by first | refine (k_neq (q := .i64) rfl rfl).is (bF (fun h => h rfl)) | refine Run_pev rfl) ?_ | refine WA_takey 19 rfl (by kernel_rfl) hx3 rfl rfl rfl (dT (by omega)) rfl (fun w' hw' => by first | refine (k_neq (q := .i64) rfl rfl).is (bF (fun h => h rfl)) | refine Run_pev rfl) ?_ | refine WA_taken (b := false) 19 rfl (by kernel_rfl) hx3 rfl rfl rfl rfl rfl rfl ?_ | refine WA_taken (b := true) 19 rfl (by kernel_rfl) hx3 rfl rfl rfl rfl rfl rfl ?_ | refine WA_taken (b := false) 19 rfl (by kernel_rfl) hx3 rfl rfl rfl (dF (by omega)) rfl rfl ?_ | refine WA_taken (b := true) 19 rfl (by kernel_rfl) hx3 rfl rfl rfl (dT (by omega)) rfl rfl ?_ | refine WA_takeu 19 rfl (by kernel_rfl) hx3 rfl rfl rfl rfl ?_
      refine WA_take 20 rfl (by kernel_rfl) hx3 rfl rfl (fun w' hw' => by first | refine Run_pev rfl | refine k_pick_f (dF (by omega)) rfl | refine k_pick_t (dT (by omega)) rfl) ?_
      refine WA_take 21 rfl (by kernel_rfl) hx3 rfl rfl (fun w' hw' => by first | refine Run_pev rfl) ?_
      first | refine WA_takey 22 rfl (by kernel_rfl) hx3 rfl rfl rfl rfl rfl (fun w' hw' => by first | refine k_loadA rfl (hB6.ext0 hw') hxl (Ty.shp rfl) | refine k_loadA rfl (hB14.ext0 hw') hxl (Ty.shp rfl)) ?_ | refine WA_takey 22 rfl (by kernel_rfl) hx3 rfl rfl rfl (dF (by omega)) rfl (fun w' hw' => by first | refine k_loadA rfl (hB6.ext0 hw') hxl (Ty.shp rfl) | refine k_loadA rfl (hB14.ext0 hw') hxl (Ty.shp rfl)) ?_ | refine WA_takey 22 rfl (by kernel_rfl) hx3 rfl rfl rfl (dT (by omega)) rfl (fun w' hw' => by first | refine k_loadA rfl (hB6.ext0 hw') hxl (Ty.shp rfl) | refine k_loadA rfl (hB14.ext0 hw') hxl (Ty.shp rfl)) ?_ | refine WA_taken (b := false) 22 rfl (by kernel_rfl) hx3 rfl rfl rfl rfl rfl rfl ?_ | refine WA_taken (b := true) 22 rfl (by kernel_rfl) hx3 rfl rfl rfl rfl rfl rfl ?_ | refine WA_taken (b := false) 22 rfl (by kernel_rfl) hx3 rfl rfl rfl (dF (by omega)) rfl rfl ?_ | refine WA_taken (b := true) 22 rfl (by kernel_rfl) hx3 rfl rfl rfl (dT (by omega)) rfl rfl ?_ | refine WA_takeu 22 rfl (by kernel_rfl) hx3 rfl rfl rfl rfl ?_
      first | refine WA_takey 23 rfl (by kernel_rfl) hx3 rfl rfl rfl rfl rfl (fun w' hw' => by first | refine k_loadA rfl (hB6.ext0 hw') hxl (Ty.shp rfl) | refine k_loadA rfl (hB14.ext0 hw') hxl (Ty.shp rfl)) ?_ | refine WA_takey 23 rfl (by kernel_rfl) hx3 rfl rfl rfl (dF (by omega)) rfl (fun w' hw' => by first | refine k_loadA rfl (hB6.ext0 hw') hxl (Ty.shp rfl) | refine k_loadA rfl (hB14.ext0 hw') hxl (Ty.shp rfl)) ?_ | refine WA_takey 23 rfl (by kernel_rfl) hx3 rfl rfl rfl (dT (by omega)) rfl (fun w' hw' => by first | refine k_loadA rfl (hB6.ext0 hw') hxl (Ty.shp rfl) | refine k_loadA rfl (hB14.ext0 hw') hxl (Ty.shp rfl)) ?_ | refine WA_taken (b := false) 23 rfl (by kernel_rfl) hx3 rfl rfl rfl rfl rfl rfl ?_ | refine WA_taken (b := true) 23 rfl (by kernel_rfl) hx3 rfl rfl rfl rfl rfl rfl ?_ | refine WA_taken (b := false) 23 rfl (by kernel_rfl) hx3 rfl rfl rfl (dF (by omega)) rfl rfl ?_ | refine WA_taken (b := true) 23 rfl (by kernel_rfl) hx3 rfl rfl rfl (dT (by omega)) rfl rfl ?_ | refine WA_takeu 23 rfl (by kernel_rfl) hx3 rfl rfl rfl rfl ?_
      first | refine WA_takey 24 rfl (by kernel_rfl) hx3 rfl rfl rfl rfl rfl (fun w' hw' => by first | refine (k_neqC rfl rfl (Ty.eqv SHK_eq) hfx hfx hax).is (v' := .bool false) rfl | refine Run_pev rfl) ?_ | refine WA_takey 24 rfl (by kernel_rfl) hx3 rfl rfl rfl (dF (by omega)) rfl (fun w' hw' => by first | refine (k_neqC rfl rfl (Ty.eqv SHK_eq) hfx hfx hax).is (v' := .bool false) rfl | refine Run_pev rfl) ?_ | refine WA_takey 24 rfl (by kernel_rfl) hx3 rfl rfl rfl (dT (by omega)) rfl (fun w' hw' => by first | refine (k_neqC rfl rfl (Ty.eqv SHK_eq) hfx hfx hax).is (v' := .bool false) rfl | refine Run_pev rfl) ?_ | refine WA_taken (b := false) 24 rfl (by kernel_rfl) hx3 rfl rfl rfl rfl rfl rfl ?_ | refine WA_taken (b := true) 24 rfl (by kernel_rfl) hx3 rfl rfl rfl rfl rfl rfl ?_ | refine WA_taken (b := false) 24 rfl (by kernel_rfl) hx3 rfl rfl rfl (dF (by omega)) rfl rfl ?_ | refine WA_taken (b := true) 24 rfl (by kernel_rfl) hx3 rfl rfl rfl (dT (by omega)) rfl rfl ?_ | refine WA_takeu 24 rfl (by kernel_rfl) hx3 rfl rfl rfl rfl ?_
      refine WA_take 25 rfl (by kernel_rfl) hx3 rfl rfl (fun w' hw' => by first | refine Run_pev rfl | refine k_pick_f (dF (by omega)) rfl | refine k_pick_t (dT (by omega)) rfl) ?_
      refine WA_take 26 rfl (by kernel_rfl) hx3 rfl rfl (fun w' hw' => by first | refine Run_pev rfl) ?_
      first | refine WA_takey 27 rfl (by kernel_rfl) hx3 rfl rfl rfl rfl rfl (fun w' hw' => by first | refine Run_pev rfl) ?_ | refine WA_takey 27 rfl (by kernel_rfl) hx3 rfl rfl rfl (dF (by omega)) rfl (fun w' hw' => by first | refine Run_pev rfl) ?_ | refine WA_takey 27 rfl (by kernel_rfl) hx3 rfl rfl rfl (dT (by omega)) rfl (fun w' hw' => by first | refine Run_pev rfl) ?_ | refine WA_taken (b := false) 27 rfl (by kernel_rfl) hx3 rfl rfl rfl rfl rfl rfl ?_ | refine WA_taken (b := true) 27 rfl (by kernel_rfl) hx3 rfl rfl rfl rfl rfl rfl ?_ | refine WA_taken (b := false) 27 rfl (by kernel_rfl) hx3 rfl rfl rfl (dF (by omega)) rfl rfl ?_ | refine WA_taken (b := true) 27 rfl (by kernel_rfl) hx3 rfl rfl rfl (dT (by omega)) rfl rfl ?_ | refine WA_takeu 27 rfl (by kernel_rfl) hx3 rfl rfl rfl rfl ?_
      first | refine WA_takey 28 rfl (by kernel_rfl) hx3 rfl rfl rfl rfl rfl (fun w' hw' => by first | refine Run_pev rfl) ?_ | refine WA_takey 28 rfl (by kernel_rfl) hx3 rfl rfl rfl (dF (by omega)) rfl (fun w' hw' => by first | refine Run_pev rfl) ?_ | refine WA_takey 28 rfl (by kernel_rfl) hx3 rfl rfl rfl (dT (by omega)) rfl (fun w' hw' => by first | refine Run_pev rfl) ?_ | refine WA_taken (b := false) 28 rfl (by kernel_rfl) hx3 rfl rfl rfl rfl rfl rfl ?_ | refine WA_taken (b := true) 28 rfl (by kernel_rfl) hx3 rfl rfl rfl rfl rfl rfl ?_ | refine WA_taken (b := false) 28 rfl (by kernel_rfl) hx3 rfl rfl rfl (dF (by omega)) rfl rfl ?_ | refine WA_taken (b := true) 28 rfl (by kernel_rfl) hx3 rfl rfl rfl (dT (by omega)) rfl rfl ?_ | refine WA_takeu 28 rfl (by kernel_rfl) hx3 rfl rfl rfl rfl ?_
      first | refine WA_takey 29 rfl (by kernel_rfl) hx3 rfl rfl rfl rfl rfl (fun w' hw' => by first | refine k_len rfl (Ty.isl rfl) | refine k_lens rfl (Ty.iss rfl)) ?_ | refine WA_takey 29 rfl (by kernel_rfl) hx3 rfl rfl rfl (dF (by omega)) rfl (fun w' hw' => by first | refine k_len rfl (Ty.isl rfl) | refine k_lens rfl (Ty.iss rfl)) ?_ | refine WA_takey 29 rfl (by kernel_rfl) hx3 rfl rfl rfl (dT (by omega)) rfl (fun w' hw' => by first | refine k_len rfl (Ty.isl rfl) | refine k_lens rfl (Ty.iss rfl)) ?_ | refine WA_taken (b := false) 29 rfl (by kernel_rfl) hx3 rfl rfl rfl rfl rfl rfl ?_ | refine WA_taken (b := true) 29 rfl (by kernel_rfl) hx3 rfl rfl rfl rfl rfl rfl ?_ | refine WA_taken (b := false) 29 rfl (by kernel_rfl) hx3 rfl rfl rfl (dF (by omega)) rfl rfl ?_ | refine WA_taken (b := true) 29 rfl (by kernel_rfl) hx3 rfl rfl rfl (dT (by omega)) rfl rfl ?_ | refine WA_takeu 29 rfl (by kernel_rfl) hx3 rfl rfl rfl rfl ?_
      first | refine WA_takey 30 rfl (by kernel_rfl) hx3 rfl rfl rfl rfl rfl (fun w' hw' => by first | refine (k_neq (q := .i64) rfl rfl).is (bF (fun h => h rfl)) | refine Run_pev rfl) ?_ | refine WA_takey 30 rfl (by kernel_rfl) hx3 rfl rfl rfl (dF (by omega)) rfl (fun w' hw' => by first | refine (k_neq (q := .i64) rfl rfl).is (bF (fun h => h rfl)) | refine Run_pev rfl) ?_ | refine WA_takey 30 rfl (by kernel_rfl) hx3 rfl rfl rfl (dT (by omega)) rfl (fun w' hw' => by first | refine (k_neq (q := .i64) rfl rfl).is (bF (fun h => h rfl)) | refine Run_pev rfl) ?_ | refine WA_taken (b := false) 30 rfl (by kernel_rfl) hx3 rfl rfl rfl rfl rfl rfl ?_ | refine WA_taken (b := true) 30 rfl (by kernel_rfl) hx3 rfl rfl rfl rfl rfl rfl ?_ | refine WA_taken (b := false) 30 rfl (by kernel_rfl) hx3 rfl rfl rfl (dF (by omega)) rfl rfl ?_ | refine WA_taken (b := true) 30 rfl (by kernel_rfl) hx3 rfl rfl rfl (dT (by omega)) rfl rfl ?_ | refine WA_takeu 30 rfl (by kernel_rfl) hx3 rfl rfl rfl rfl ?_
      refine WA_take 31 rfl (by kernel_rfl) hx3 rfl rfl (fun w' hw' => by first | refine Run_pev rfl | refine k_pick_f (dF (by omega)) rfl | refine k_pick_t (dT (by omega)) rfl) ?_
      refine WA_take 32 rfl (by kernel_rfl) hx3 rfl rfl (fun w' hw' => by first | refine Run_pev rfl) ?_
      first | refine WA_takey 33 rfl (by kernel_rfl) hx3 rfl rfl rfl rfl rfl (fun w' hw' => by first | refine Run_pev rfl) ?_ | refine WA_takey 33 rfl (by kernel_rfl) hx3 rfl rfl rfl (dF (by omega)) rfl (fun w' hw' => by first | refine Run_pev rfl) ?_ | refine WA_takey 33 rfl (by kernel_rfl) hx3 rfl rfl rfl (dT (by omega)) rfl (fun w' hw' => by first | refine Run_pev rfl) ?_ | refine WA_taken (b := false) 33 rfl (by kernel_rfl) hx3 rfl rfl rfl rfl rfl rfl ?_ | refine WA_taken (b := true) 33 rfl (by kernel_rfl) hx3 rfl rfl rfl rfl rfl rfl ?_ | refine WA_taken (b := false) 33 rfl (by kernel_rfl) hx3 rfl rfl rfl (dF (by omega)) rfl rfl ?_ | refine WA_taken (b := true) 33 rfl (by kernel_rfl) hx3 rfl rfl rfl (dT (by omega)) rfl rfl ?_ | refine WA_takeu 33 rfl (by kernel_rfl) hx3 rfl rfl rfl rfl ?_
      first | refine WA_takey 34 rfl (by kernel_rfl) hx3 rfl rfl rfl rfl rfl (fun w' hw' => by first | refine (k_neq (q := .i64) rfl rfl).is (bF (fun h => h rfl)) | refine Run_pev rfl) ?_ | refine WA_takey 34 rfl (by kernel_rfl) hx3 rfl rfl rfl (dF (by omega)) rfl (fun w' hw' => by first | refine (k_neq (q := .i64) rfl rfl).is (bF (fun h => h rfl)) | refine Run_pev rfl) ?_ | refine WA_takey 34 rfl (by kernel_rfl) hx3 rfl rfl rfl (dT (by omega)) rfl (fun w' hw' => by first | refine (k_neq (q := .i64) rfl rfl).is (bF (fun h => h rfl)) | refine Run_pev rfl) ?_ | refine WA_taken (b := false) 34 rfl (by kernel_rfl) hx3 rfl rfl rfl rfl rfl rfl ?_ | refine WA_taken (b := true) 34 rfl (by kernel_rfl) hx3 rfl rfl rfl rfl rfl rfl ?_ | refine WA_taken (b := false) 34 rfl (by kernel_rfl) hx3 rfl rfl rfl (dF (by omega)) rfl rfl ?_ | refine WA_taken (b := true) 34 rfl (by kernel_rfl) hx3 rfl rfl rfl (dT (by omega)) rfl rfl ?_ | refine WA_takeu 34 rfl (by kernel_rfl) hx3 rfl rfl rfl rfl ?_
      refine WA_take 35 rfl (by kernel_rfl) hx3 rfl rfl (fun w' hw' => by first | refine Run_pev rfl | refine k_pick_f (dF (by omega)) rfl | refine k_pick_t (dT (by omega)) rfl) ?_
      refine WA_done (by kernel_rfl) ?_
      repeat (first | refine WS_seq ?_ | refine WS_region ?_ | refine WL_nil ?_ | refine WS_block ?_ | refine WS_inBlock ?_ | refine WS_skip ?_ | refine WS_label ?_ | refine WS_scope ?_ | refine WS_inScope ?_ | refine WS_exit rfl ?_ | refine WS_true rfl ?_ | refine WS_false rfl ?_ | refine WS_yes rfl (by omega) ?_ | refine WS_no rfl (by omega) ?_ | refine WL_gyes rfl rfl rfl ?_ | refine WL_gno rfl rfl rfl rfl rfl ?_ | refine WL_gund rfl rfl rfl ?_ | refine WL_gyes rfl rfl (dF (by omega)) ?_ | refine WL_gyes rfl rfl (dT (by omega)) ?_ | refine WL_gno (b := false) rfl rfl (dF (by omega)) rfl rfl ?_ | refine WL_gno (b := true) rfl rfl (dT (by omega)) rfl rfl ?_ | (refine WL_r (by first | refine Run_pev rfl | refine k_add64 rfl rfl (by omega) | refine k_sub64 rfl rfl (by omega) | refine k_len rfl (Ty.isl rfl) | refine k_not rfl | refine k_notb rfl | refine k_min rfl rfl | refine k_max rfl rfl | refine k_mul64 rfl rfl (by omega) | refine k_quo64 rfl rfl (by omega) | refine k_rem rfl rfl (by omega) | refine k_extract rfl rfl | refine k_convI rfl rfl rfl (by omega) | refine k_conv16 rfl rfl rfl (by omega) | refine k_conv64 rfl rfl rfl (by omega) | refine k_conv8 rfl rfl rfl (by omega) | refine k_convB rfl rfl rfl | refine k_convH rfl rfl rfl | refine k_convQ rfl rfl rfl | refine k_pick_f (dF (by omega)) rfl | refine k_pick_t (dT (by omega)) rfl) rfl ?_))
      refine IH (i + 1) _ _ ?_ ?_ ?_ ?_
      · omega
      · exact ⟨rfl, trivial⟩
      · exact (by repeat (first | with_reducible apply Agr.refl | refine Agr.upd rfl ?_ | refine Agr.updo rfl ?_ | refine Agr.updL rfl ?_ | refine Agr.mrg rfl ?_ | exact Agr.refl | refine Agr.updn ?_))
      · exact ⟨by omega, hW.then0 hH.ext⟩
    · skip
      try refine WL_gyes rfl rfl rfl ?_
      refine WL_s (S_call (hput_bad xo hp) rfl rfl ?_)
      rintro v w8 ⟨rfl, hE⟩
      replace hH := hH.ext0 hE
      clear hE hB6
      have hB6 : Blk w8 b6 26 x.cells.toArray := hH.b 0 rfl
      repeat (first | refine WS_seq ?_ | refine WS_region ?_ | refine WL_nil ?_ | refine WS_block ?_ | refine WS_inBlock ?_ | refine WS_skip ?_ | refine WS_label ?_ | refine WS_scope ?_ | refine WS_inScope ?_ | refine WS_exit rfl ?_ | refine WS_true rfl ?_ | refine WS_false rfl ?_ | refine WS_yes rfl (by omega) ?_ | refine WS_no rfl (by omega) ?_ | refine WL_gyes rfl rfl rfl ?_ | refine WL_gno rfl rfl rfl rfl rfl ?_ | refine WL_gund rfl rfl rfl ?_ | refine WL_gyes rfl rfl (dF (by omega)) ?_ | refine WL_gyes rfl rfl (dT (by omega)) ?_ | refine WL_gno (b := false) rfl rfl (dF (by omega)) rfl rfl ?_ | refine WL_gno (b := true) rfl rfl (dT (by omega)) rfl rfl ?_ | (refine WL_r (by first | refine k_loadA rfl hB6 hxl (Ty.shp rfl) | refine Run_pev rfl | refine k_add64 rfl rfl (by omega) | refine k_sub64 rfl rfl (by omega) | refine k_len rfl (Ty.isl rfl) | refine k_not rfl | refine k_notb rfl | refine k_min rfl rfl | refine k_max rfl rfl | refine k_mul64 rfl rfl (by omega) | refine k_quo64 rfl rfl (by omega) | refine k_rem rfl rfl (by omega) | refine k_extract rfl rfl | refine k_convI rfl rfl rfl (by omega) | refine k_conv16 rfl rfl rfl (by omega) | refine k_conv64 rfl rfl rfl (by omega) | refine k_conv8 rfl rfl rfl (by omega) | refine k_convB rfl rfl rfl | refine k_convH rfl rfl rfl | refine k_convQ rfl rfl rfl | refine k_pick_f (dF (by omega)) rfl | refine k_pick_t (dT (by omega)) rfl) rfl ?_))
      try refine WL_gyes rfl rfl rfl ?_
      refine WL_s (S_call (hcheck_spec xo) rfl rfl ?_)
      rintro v w9 ⟨rfl, hE⟩
      replace hH := hH.ext0 hE
      generalize x.err = pr at *
      repeat (first | refine WS_seq ?_ | refine WS_region ?_ | refine WL_nil ?_ | refine WS_block ?_ | refine WS_inBlock ?_ | refine WS_skip ?_ | refine WS_label ?_ | refine WS_scope ?_ | refine WS_inScope ?_ | refine WS_exit rfl ?_ | refine WS_true rfl ?_ | refine WS_false rfl ?_ | refine WS_yes rfl (by omega) ?_ | refine WS_no rfl (by omega) ?_ | refine WL_gyes rfl rfl rfl ?_ | refine WL_gno rfl rfl rfl rfl rfl ?_ | refine WL_gund rfl rfl rfl ?_ | refine WL_gyes rfl rfl (dF (by omega)) ?_ | refine WL_gyes rfl rfl (dT (by omega)) ?_ | refine WL_gno (b := false) rfl rfl (dF (by omega)) rfl rfl ?_ | refine WL_gno (b := true) rfl rfl (dT (by omega)) rfl rfl ?_ | (refine WL_r (by first | refine (k_neq rfl rfl).is (bT (by omega)) | refine (k_neq rfl rfl).is (bF (fun h => h rfl)) | refine Run_pev rfl | refine k_add64 rfl rfl (by omega) | refine k_sub64 rfl rfl (by omega) | refine k_len rfl (Ty.isl rfl) | refine k_not rfl | refine k_notb rfl | refine k_min rfl rfl | refine k_max rfl rfl | refine k_mul64 rfl rfl (by omega) | refine k_quo64 rfl rfl (by omega) | refine k_rem rfl rfl (by omega) | refine k_extract rfl rfl | refine k_convI rfl rfl rfl (by omega) | refine k_conv16 rfl rfl rfl (by omega) | refine k_conv64 rfl rfl rfl (by omega) | refine k_conv8 rfl rfl rfl (by omega) | refine k_convB rfl rfl rfl | refine k_convH rfl rfl rfl | refine k_convQ rfl rfl rfl | refine k_pick_f (dF (by omega)) rfl | refine k_pick_t (dT (by omega)) rfl) rfl ?_))
      refine IH (i + 1) _ _ ?_ ?_ ?_ ?_
      · omega
      · exact ⟨rfl, trivial⟩
      · exact (by repeat (first | with_reducible apply Agr.refl | refine Agr.upd rfl ?_ | refine Agr.updo rfl ?_ | refine Agr.updL rfl ?_ | refine Agr.mrg rfl ?_ | exact Agr.refl | refine Agr.updn ?_))
      · exact ⟨by omega, hW.then0 hH.ext⟩
  · clear IH
    repeat (first | refine WS_seq ?_ | refine WS_region ?_ | refine WL_nil ?_ | refine WS_block ?_ | refine WS_inBlock ?_ | refine WS_skip ?_ | refine WS_label ?_ | refine WS_scope ?_ | refine WS_inScope ?_ | refine WS_exit rfl ?_ | refine WS_true rfl ?_ | refine WS_false rfl ?_ | refine WS_yes rfl (by omega) ?_ | refine WS_no rfl (by omega) ?_ | refine WL_gyes rfl rfl rfl ?_ | refine WL_gno rfl rfl rfl rfl rfl ?_ | refine WL_gund rfl rfl rfl ?_ | refine WL_gyes rfl rfl (dF (by omega)) ?_ | refine WL_gyes rfl rfl (dT (by omega)) ?_ | refine WL_gno (b := false) rfl rfl (dF (by omega)) rfl rfl ?_ | refine WL_gno (b := true) rfl rfl (dT (by omega)) rfl rfl ?_ | (refine WL_r (by first | refine Run_pev rfl | refine k_add64 rfl rfl (by omega) | refine k_sub64 rfl rfl (by omega) | refine k_len rfl (Ty.isl rfl) | refine k_not rfl | refine k_notb rfl | refine k_min rfl rfl | refine k_max rfl rfl | refine k_mul64 rfl rfl (by omega) | refine k_quo64 rfl rfl (by omega) | refine k_rem rfl rfl (by omega) | refine k_extract rfl rfl | refine k_convI rfl rfl rfl (by omega) | refine k_conv16 rfl rfl rfl (by omega) | refine k_conv64 rfl rfl rfl (by omega) | refine k_conv8 rfl rfl rfl (by omega) | refine k_convB rfl rfl rfl | refine k_convH rfl rfl rfl | refine k_convQ rfl rfl rfl | refine k_pick_f (dF (by omega)) rfl | refine k_pick_t (dT (by omega)) rfl) rfl ?_))
    exact WS_ret1 Try.func4 rfl ⟨rfl, hW2.then0 hW⟩
theorem own_seqhBack : ownKnob Try.prog.godebug = none := by kernel_rfl
theorem laid_seqhBack : laidOutB Try.prog = true := by kernel_rfl
set_option maxRecDepth 100000 in
theorem seqhBack_lifted (os : Os) (started : os.Started) (H : Type) (enc : TypeId × Value → H) :
    ReturnsInHanded {} Try.checked os 4 .any (Rows.seqhBackSpec.pre6 enc Try.prog Try.f4 Rows.seqhBackRow.domain false) (Rows.seqhBackSpec.post enc Try.prog Try.f4 false true false false) := by
  refine returnsInHanded_of_change (C := Try.checked) own_seqhBack started (by kernel_rfl) Try.func4
    (ChangeSpec.witness6 (enc := enc) (C := Try.checked) false ⟨#[], #[.agg SH.zero.cells.toArray, .slice none 0 0], []⟩ 8 (by kernel_rfl) (by kernel_rfl) (by kernel_rfl) (by kernel_rfl)) ?_
  intro W base args ds gs before hval0 hW _ _
  have hval : ∀ (j : Nat) t v, Try.f4.params[j]? = some t → args[j]? = some v → Value.okWide Try.prog W .any base t v := hval0
  have hW' := hW
  obtain ⟨p, q, hA0, hV, rfl, hfz, hnd⟩ := hW
  have hA : DataW.TrodAll enc Try.prog W 0 (fun _ => true) true Try.f4.params.toList args.toList ds p := hA0
  rw [Try.params4] at hA hval
  obtain ⟨v0, r0, d0, e0, p0, q0, ha0, rfl, rfl, h0, hA⟩ := trodAll_cons hA
  obtain ⟨v1, r1, d1, e1, p1, q1, ha1, rfl, rfl, h1, hA⟩ := trodAll_cons hA
  obtain ⟨hnil, rfl, rfl⟩ := trodAll_nil hA
  obtain rfl : args = #[v0, v1] := by cases args; simp_all
  have hv0 := hval 0 _ v0 rfl rfl
  have hv1 := hval 1 _ v1 rfl rfl
  clear hA0 hval0 ha0 ha1 hnil
  obtain ⟨cs1, rfl⟩ := rd_agg (Ty.shp rfl) hv0
  obtain ⟨x, rfl, hxo, _⟩ := rd_seqh (rd_arg SHD (by kernel_rfl) h0)
  obtain ⟨a, n, cap, l, rfl, hn, hS, hl, hlen⟩ := rd_bytes (Ty.sle rfl) (Ty.knd rfl) hv1 h1
  refine ((sback_spec hxo hS hl hn).enter Try.func4 rfl rfl).mono ?_
  rintro e W' ⟨v, rfl, rfl, hE⟩
  exact ⟨_, rfl, law_post laid_seqhBack (by kernel_rfl) hW' rfl rfl (by kernel_rfl) ⟨rfl, rfl, rfl⟩ hE⟩
theorem seqhBack_holds : Rows.SeqhBackSaid :=
  OpenClaim.holds_of_wide 4 Try.f4 rfl rfl rfl rfl rfl rfl rfl ⟨rfl, rfl, rfl, rfl, rfl⟩ rfl rfl rfl rfl rfl (by kernel_rfl) Try.func4 (by kernel_rfl)
    (of_decide_eq_true (by kernel_rfl)) (by unfold Func.isWrapper; first | (rw [if_pos (by decide +kernel)]; kernel_rfl) | (rw [if_neg (by decide +kernel)]; exact ⟨rfl, rfl⟩))
    (fun os started H enc _ => seqhBack_lifted os started H enc)
#print axioms seqhBack_holds
end Go.Proofs.Ytnamafelcjgjfaa
