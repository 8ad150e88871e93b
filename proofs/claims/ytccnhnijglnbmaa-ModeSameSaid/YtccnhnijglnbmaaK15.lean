/- Append of so many zero values (append(x, make(..)...)); copies and conversions over a list of pieces: over any program; no condition. -/
import Derived.Test.YtccnhnijglnbmaaK14
import Derived.Room.AppendUpon
import Derived.Maps.AppendAt
namespace Go.K
open Go Go.RowKit
section
variable {P : Program} {w : World} {t tn ty e : TypeId}
theorem zeroCells_one (z : Value) (n : Nat) : (Builtin.zeroCells #[z] n).toList = List.replicate n z := by
  refine List.ext_getElem (by simp [Builtin.zeroCells]) (fun i h1 h2 => ?_)
  simp only [Builtin.zeroCells, Array.getElem_toList, Array.getElem_map, List.getElem_replicate, Array.size_singleton, Nat.mod_one]
  rfl
theorem run_appendN_grow {i : TypeInfo} {z : Value} {k : IntKind} (ht : P.underlying t = some (.slice e)) (hn : P.underlying tn = some (.int k)) (hi : P.info? e = some i) (hz : i.zero = some z) {base : Option Addr} {sLen sCap m : Nat} {olds : List Value} {q : IntKind}
    (hold : (Builtin.firstCells i.size sLen (.slice base sLen sCap)).run P w.drew = .ok olds.toArray w.drew) (hg : sCap < sLen + m) (hm : m * i.size ≠ 0) (h63 : ((sLen + m : Nat) : Int) ≤ 9223372036854775807)
    (hfit : Builtin.nextslicecap (sLen + m) sCap * i.bytes ≤ 281474976710656) (hb : m * i.bytes ≤ 281474976710656) :
    (Builtin.append_ #[t, tn] ty #[.slice base sLen sCap, .int q m]).run P w = .ok (.slice (some ⟨w.heap.size, 0, none⟩) (sLen + m) (grownCap w (sLen + m) sCap e))
      (w.drew.alloc (.cells (olds.toArray ++ Builtin.zeroCells z.cells m ++ Builtin.zeroCells z.cells (grownCap w (sLen + m) sCap e - (sLen + m))) e)) := by
  have hn' : ¬ (sLen + m ≤ sCap) := by omega
  have h63' : ¬ (9223372036854775807 < ((sLen : Int) + (m : Int))) := by omega
  have h48' : ¬ (281474976710656 < Builtin.nextslicecap (sLen + m) sCap * i.bytes) := by omega
  have hq : (Question.appendCap (sLen + m) sCap e).forced = false := rfl
  have hw : IntKind.i64.wrap (m : Int) = m := wrap64_id (by omega) (by omega)
  have hb' : ¬ (281474976710656 < (m : Int) * (i.bytes : Int)) := by rw [← Int.natCast_mul]; omega
  have h0 : ¬ ((m : Int) < 0) := by omega
  simp [Builtin.append_, run_underlying ht, run_underlying hn, sizeOf, typeInfo, hi, hn', h63', h48', hq, asIntOf, asInt, hw, hb', hold, zeroValue, hz, newRow]
  rw [if_neg hm]
  rfl
theorem run_appendN_room {i : TypeInfo} {z : Value} {k : IntKind} (ht : P.underlying t = some (.slice e)) (hn : P.underlying tn = some (.int k)) (hi : P.info? e = some i) (hz : i.zero = some z) {b sLen sCap m : Nat} {cur : Array Value} {q : IntKind}
    (hB : w.heap[b]? = some (.cells cur e (0, 0))) (h1 : ∀ u ∈ (Builtin.zeroCells z.cells m).toList, u.oneCell' = true) (hroom : sLen + m ≤ sCap) (hm : m * i.size ≠ 0) (hzl : (Builtin.zeroCells z.cells m).size = m * i.size) (hfit : sLen * i.size + m * i.size ≤ cur.size)
    (h63 : (m : Int) ≤ 9223372036854775807) (hb : m * i.bytes ≤ 281474976710656) :
    (Builtin.append_ #[t, tn] ty #[.slice (some ⟨b, 0, none⟩) sLen sCap, .int q m]).run P w = .ok (.slice (some ⟨b, 0, none⟩) (sLen + m) sCap)
      (w.setRow b (cur.toList.take (sLen * i.size) ++ (Builtin.zeroCells z.cells m).toList ++ cur.toList.drop (sLen * i.size + m * i.size)).toArray) := by
  have hw : IntKind.i64.wrap (m : Int) = m := wrap64_id (by omega) (by omega)
  have hb' : ¬ (281474976710656 < (m : Int) * (i.bytes : Int)) := by rw [← Int.natCast_mul]; omega
  have h0 : ¬ ((m : Int) < 0) := by omega
  have hst := run_storeCells_at P b (sLen * i.size) e (Builtin.zeroCells z.cells m).toList 0 cur w hB (by simpa [hzl] using hfit) h1
  simp only [Nat.add_zero, Array.length_toList, hzl] at hst
  simp [Builtin.append_, run_underlying ht, run_underlying hn, sizeOf, typeInfo, hi, asIntOf, asInt, hw, hb', h0, hroom, zeroValue, hz, addr_add]
  rw [if_neg hm, hst]
  simp [Result.andThen]
variable {N : Nat} {K : Fr → World → Prop} {ρ : Fr} {v : Value} {d : Nat} {pos : String} {af : Array Edge} {gd : Option (Nat × Bool)} {x y : Operand}
/-- Append of m zero values of one cell to a slice of one's own. -/
theorem S_appendN {a : Option Addr} {n cap m bytes : Nat} {g : Bool} {z : Value} {vs : List Value} {q k : IntKind} (ht : sle P t = some (e, (g, 1))) (hn : kindOf P tn = some k) (hz : zer P e = some [z]) (hby : byt P e = some bytes) (hz1 : z.oneCell' = true)
    (hx : ev ρ x = .slice a n cap) (hO : Own w e 1 a n cap vs) (hy : ev ρ y = .int q m) (hm : 0 < m)
    (hbig : (n + m) * bytes ≤ 140737488355328) (h63 : n + m ≤ maxLen) (hd : Nat.blt d N = true)
    (hk : ∀ w' a' cap', Ext (blk a) w w' → Own w' e 1 a' (n + m) cap' (vs ++ List.replicate m z) → (∀ b ∈ blk a', b ∈ blk a ∨ w.heap.size ≤ b) → K (upd ρ d (.slice a' (n + m) cap')) w') : Stp P N ρ ⟨some d, .call ⟨.builtin .append, #[x, y], #[t, tn]⟩, ty, pos, af, gd⟩ w K := by
  obtain ⟨hu, hs⟩ := sle_spec ht
  obtain ⟨i, zv, hi, hzz, hsz, rfl, hzc⟩ := info_of hs hz hby
  have hzv : zv.cells = #[z] := by rw [← Array.toList_inj]; simpa using hzc
  have hzN : ∀ j, (Builtin.zeroCells zv.cells j).toList = List.replicate j z := fun j => by rw [hzv]; exact zeroCells_one z j
  have hzs : ∀ j, (Builtin.zeroCells zv.cells j).size = j := fun j => by rw [← Array.length_toList, hzN]; simp
  have hop : ∀ {v' w'}, (Builtin.append_ #[t, tn] ty #[.slice a n cap, .int q m]).run P w = .ok v' w' → Run P ρ ⟨some d, .call ⟨.builtin .append, #[x, y], #[t, tn]⟩, ty, pos, af, gd⟩ w v' w' := by
    intro v' w' hr
    constructor; unfold execOp
    simp [hx, hy, resolve, invoke, builtin, hr]
  have h63' : n + m ≤ 9223372036854775807 := by simp only [maxLen] at h63; omega
  have hmb : m * i.bytes ≤ 281474976710656 := by
    have := Nat.mul_le_mul_right i.bytes (show m ≤ n + m by omega); omega
  obtain ⟨hvl, hnc, hcm, hown⟩ := hO
  have hlen : (vs ++ List.replicate m z).length = (n + m) * 1 := by rw [List.length_append, hvl]; simp
  have hgE : ∀ o, Ext (blk a) w (w.drew.alloc o) := fun o => Ext.drew0.then0 (ext_alloc _ _)
  have grown : ∀ old, old < n + m →
      Own (w.drew.alloc (.cells (vs.toArray ++ Builtin.zeroCells zv.cells m ++ Builtin.zeroCells zv.cells (grownCap w (n + m) old e - (n + m))) e)) e 1 (some ⟨w.heap.size, 0, none⟩) (n + m) (grownCap w (n + m) old e) (vs ++ List.replicate m z) := by
    intro old ho
    have hge := grownCap_ge w (n + m) old e
    have hcm2 : grownCap w (n + m) old e ≤ maxLen := grownCap_le_maxLen w (n + m) old e h63
    refine ⟨hlen, hge, hcm2, .inr ⟨w.heap.size, _, rfl, heap_alloc_new w.drew _, ?_, ?_⟩⟩
    · simp only [Array.size_append, List.size_toArray, hzs, hvl]; omega
    · simp only [Array.toList_append, hzN, List.append_assoc]
      rw [← List.append_assoc, ← hlen]
      exact List.take_left
  by_cases hroom : n + m ≤ cap
  · rcases hown with ⟨rfl, rfl⟩ | ⟨b, cur, rfl, hB, hcs, htake⟩
    · omega
    · have hr := run_appendN_room (P := P) (w := w) (t := t) (tn := tn) (ty := ty) (q := q) hu (kindOf_spec hn) hi hzz hB (m := m) (sLen := n) (sCap := cap) (by rw [hzN]; intro u hu; rw [List.eq_of_mem_replicate hu]; exact hz1) hroom (by rw [hsz]; omega) (by rw [hzs, hsz]; omega) (by rw [hsz, hcs]; omega) (by omega) hmb
      rw [hzN, hsz] at hr
      refine S_run (hop hr) hd (hk _ _ _ (ext_setRow _ _ _) ⟨hlen, hroom, hcm, .inr ⟨b, _, rfl, setRow_heap w b cur _ e _ hB, ?_, ?_⟩⟩ (fun b hb => .inl hb))
      · simp only [List.size_toArray, List.length_append, List.length_take, List.length_drop, Array.length_toList, List.length_replicate]
        omega
      · rw [htake, ← hlen]
        exact List.take_left
  · have hold : (Builtin.firstCells i.size n (.slice a n cap)).run P w.drew = .ok vs.toArray w.drew := by
      rcases hown with ⟨rfl, rfl⟩ | ⟨b, cur, rfl, hB, hcs, htake⟩
      · have : vs = [] := List.eq_nil_of_length_eq_zero (by omega)
        subst this; simp [Builtin.firstCells]
      · rw [hsz]
        refine run_firstCells_some (P := P) w.drew 1 n _ n cap vs hvl (fun j u hj => ?_)
        have hB' : w.drew.heap[b]? = some (.cells cur e (0, 0)) := hB
        rw [addr_add, Nat.zero_add]
        refine Blk.cell hB' ?_
        rw [← htake, List.getElem?_take] at hj
        split at hj
        · simpa using hj
        · cases hj
    have hr := run_appendN_grow (P := P) (w := w) (t := t) (tn := tn) (ty := ty) (q := q) hu (kindOf_spec hn) hi hzz hold (by omega) (by rw [hsz]; omega) (by omega) (growslice_fits (by omega) hbig) hmb
    exact S_run (hop hr) hd (hk _ _ _ (hgE _) (grown cap (by omega)) (fun b hb => .inr (by simp [blk] at hb; omega)))
theorem H_appendN (i : Nat) {S : List Nat} {W : World} {H : List Res} {a : Option Addr} {n cap m bytes : Nat} {g : Bool} {z : Value} {vs : List Value} {q k : IntKind} (hH : Hp S W w H) (hi : H[i]? = some (Ro e 1 a n cap vs)) (ht : sle P t = some (e, (g, 1))) (hn : kindOf P tn = some k) (hz : zer P e = some [z]) (hby : byt P e = some bytes) (hz1 : z.oneCell' = true)
    (hx : ev ρ x = .slice a n cap) (hy : ev ρ y = .int q m) (hm : 0 < m)
    (hbig : (n + m) * bytes ≤ 140737488355328) (h63 : n + m ≤ maxLen) (hd : Nat.blt d N = true)
    (hk : ∀ w' a' cap', Hp S W w' (H.set i (Ro e 1 a' (n + m) cap' (vs ++ List.replicate m z))) → K (upd ρ d (.slice a' (n + m) cap')) w') : Stp P N ρ ⟨some d, .call ⟨.builtin .append, #[x, y], #[t, tn]⟩, ty, pos, af, gd⟩ w K :=
  S_appendN ht hn hz hby hz1 hx (hH.o i hi) hy hm hbig h63 hd (fun w' a' cap' hE hO hf => hk w' a' cap' (hH.up i hi ⟨hE, hO, hf⟩))
end
/-- The first cells of a slice; the others. -/
theorem take_cells {w : World} {a : Option Addr} {cap n k : Nat} {vs : List Value} (hS : SlA w a vs) (hk : k ≤ n) (hn : n ≤ cap) : SlA w (if cap = 0 then a else a.map (·.add 0)) (vs.take k) := by
  have := sl_sliced (l := 0) (h := k) (n := n) (cap := cap) (sz := 1) hS (Nat.zero_le _) hk hn
  simpa using this
theorem drop_cells {w : World} {a : Option Addr} {cap n k : Nat} {vs : List Value} (hS : SlA w a vs) (hl : vs.length = n) (hk : k ≤ n) (hn : n ≤ cap) : SlA w (if cap = k then a else a.map (·.add (k * 1))) (vs.drop k) := by
  have := sl_sliced (l := k) (h := n) (n := n) (cap := cap) (sz := 1) hS hk (Nat.le_refl _) hn
  rw [List.take_of_length_le (by simp [hl])] at this
  rw [Nat.mul_one] at this ⊢
  exact this
section
variable {P : Program} {ρ : Fr} {w : World} {dst : Option Nat} {ty t u : TypeId} {pos : String} {af : Array Edge} {gd : Option (Nat × Bool)} {x y : Operand} {m n : Nat}
theorem k_slclN {e : TypeId} {a : Option Addr} {len cap sz l : Nat} {g : Bool} {kl : IntKind} (hx : ev ρ x = .slice a len cap) (hy : ev ρ y = .int kl (l : Int)) (ht : sle P t = some (e, (g, sz))) (h0 : l ≤ len) :
    Run P ρ ⟨dst, .slice t x (some y) none none, ty, pos, af, gd⟩ w (.slice (if cap = l then a else a.map (·.add (l * sz))) (len - l) (cap - l)) w :=
  k_slcl (l := (l : Int)) hx hy ht ⟨by omega, by omega⟩
theorem k_add16 (hx : ev ρ x = .int .u16 m) (hy : ev ρ y = .int .u16 n) (h : m + n < 65536) : Run P ρ ⟨dst, .binOp .add t x y u, ty, pos, af, gd⟩ w (.int .u16 ((m + n : Nat) : Int)) w := by
  have := k_addu (P := P) (w := w) (dst := dst) (ty := ty) (pos := pos) (af := af) (gd := gd) (t := t) (u := u) hx hy rfl
  rwa [show (m + n) % two .u16 = m + n from Nat.mod_eq_of_lt h] at this
theorem k_mul16 (hx : ev ρ x = .int .u16 m) (hy : ev ρ y = .int .u16 n) (h : m * n < 65536) : Run P ρ ⟨dst, .binOp .mul t x y u, ty, pos, af, gd⟩ w (.int .u16 ((m * n : Nat) : Int)) w := by
  have := k_mulu (P := P) (w := w) (dst := dst) (ty := ty) (pos := pos) (af := af) (gd := gd) (t := t) (u := u) hx hy rfl
  rwa [show m * n % two .u16 = m * n from Nat.mod_eq_of_lt h] at this
end
/-- Where several ways meet: the rest is shown once ('apply join', in each way 'exact WL_keep .. key'). -/
theorem join {A : Prop} {Y : Fr → Prop} (h1 : (∀ σ, Y σ) → A) (h2 : ∀ σ, Y σ) : A := h1 h2
theorem WL_keepM {P : Program} {N : Nat} {C : Fr → World → Prop} {ops : Array Oper} {l : List Oper} {ρ ρ0 : Fr} {w : World} (W : Nat) (L : List (Nat × Value)) (h : Has ρ L) (hA : Agr W ρ0 ρ) (hk : ∀ σ, WL P N C ops l (updL L (mrg W ρ0 σ)) w) : WL P N C ops l ρ w := by
  have := hk ρ
  rwa [mrg_of_agr hA, updL_of_has h] at this
theorem WS_keepM {P : Program} {N : Nat} {f : FuncId} {R : Value → World → Prop} {k : List Item} {ρ ρ0 : Fr} {w : World} (W : Nat) (L : List (Nat × Value)) (h : Has ρ L) (hA : Agr W ρ0 ρ) (hk : ∀ σ, WS P N f R k (updL L (mrg W ρ0 σ)) w) : WS P N f R k ρ w := by
  have := hk ρ
  rwa [mrg_of_agr hA, updL_of_has h] at this
theorem Agr.nilL {W : Nat} {ρ ρ' : Fr} (h : Agr W ρ ρ') : Agr W ρ (K.updL [] ρ') := h
theorem Agr.consL {W i : Nat} {ρ ρ' : Fr} {v : Value} {l : List (Nat × Value)} (hi : inW W i = true) (h : Agr W ρ (K.updL l ρ')) : Agr W ρ (K.updL ((i, v) :: l) ρ') := Agr.upd hi h
theorem joinW {A : Prop} {Y : Fr → World → Prop} (Z : World → Prop) (h1 : (∀ σ w, Z w → Y σ w) → A) (h2 : ∀ σ w, Z w → Y σ w) : A := h1 h2
/-- A new row of zero values, as a slice of one's own. -/
theorem Hp.made (i : Nat) {S : List Nat} {W w : World} {H : List Res} {e : TypeId} {b n : Nat} {z : Value} (h : Hp S W w H) (hi : H[i]? = some (Rb b e (madeCells [z].toArray (n * 1)))) (hn : n ≤ 9223372036854775807) : Hp S W w (H.set i (Ro e 1 (some ⟨b, 0, none⟩) n n (List.replicate n z))) :=
  h.as i hi (fun _ hx => hx) (fun hB => by
    have hB' : Blk w b e (madeCells [z].toArray (n * 1)) := hB
    rw [made_one] at hB'
    have := hB'.own (n := n) (sz := 1) (by simp) hn
    have h2 : Own w e 1 (some ⟨b, 0, none⟩) n n (List.replicate n z) := by simpa using this
    exact h2)
end Go.K
