/- What one owns, in a list: each step of a walk hands on the whole list; rules for the operations that make or turn memory: over any program; no condition. -/
import Derived.Test.YtccnhnijglnbmaaKP
namespace Go.K
open Go Go.RowKit

/-- A piece of memory: the blocks that it takes, what holds of it. -/
structure Res where
  fp : List Nat
  holds : World → Prop
  keep : ∀ {S w w'}, holds w → Ext S w w' → (∀ s ∈ S, s ∉ fp) → holds w'
  lt : ∀ {w}, holds w → ∀ s ∈ fp, s < w.heap.size
/-- A block of one's own. -/
def Rb (b : Nat) (e : TypeId) (cs : Array Value) : Res := ⟨[b], fun w => Blk w b e cs, fun h hE hS => h.ext hE (fun hb => hS b hb (by simp)), fun h s hs => by simp at hs; subst hs; exact h.lt⟩
/-- A slice of one's own. -/
def Ro (e : TypeId) (sz : Nat) (a : Option Addr) (n cap : Nat) (vs : List Value) : Res := ⟨blk a, fun w => Own w e sz a n cap vs, fun h hE hS => h.ext hE hS, fun h s hs => h.lt s hs⟩
/-- Cells that are read, in blocks of one's own. -/
def Rs (a : Option Addr) (vs : List Value) : Res := ⟨if vs = [] then [] else blk a, fun w => SlA w a vs, fun {S w w'} h hE hS => by
    by_cases hv : vs = []
    · subst hv; exact .nil
    · exact h.ext hE (fun s hs hb => hS s hs (by rw [if_neg hv]; exact hb)), fun {w} h s hs => by
    by_cases hv : vs = []
    · rw [if_pos hv] at hs; cases hs
    · rw [if_neg hv] at hs; exact h.lt hv s hs⟩
/-- Two pieces as one. -/
def Res.and (r s : Res) : Res := ⟨r.fp ++ s.fp, fun w => r.holds w ∧ s.holds w, fun h hE hS => ⟨r.keep h.1 hE (fun x hx hb => hS x hx (by simp [hb])), s.keep h.2 hE (fun x hx hb => hS x hx (by simp [hb]))⟩,
  fun h x hx => by rcases List.mem_append.1 hx with h1 | h1; exact r.lt h.1 x h1; exact s.lt h.2 x h1⟩
def Dj (r s : Res) : Prop := ∀ x ∈ r.fp, x ∉ s.fp
theorem Dj.symm {r s : Res} (h : Dj r s) : Dj s r := fun x hx hr => h x hr hx
/-- From W to w only blocks of S have turned, of those that were there; the pieces of the list hold, lie in S or are new, and apart. -/
structure Hp (S : List Nat) (W w : World) (H : List Res) : Prop where
  ext : Ext S W w
  all : ∀ r ∈ H, r.holds w
  new : ∀ r ∈ H, ∀ x ∈ r.fp, x ∈ S ∨ W.heap.size ≤ x
  apart : H.Pairwise Dj
/-- Piece r has turned to r'; nothing else has. -/
structure Upd (r r' : Res) (w w' : World) : Prop where
  ext : Ext r.fp w w'
  holds : r'.holds w'
  fp : ∀ x ∈ r'.fp, x ∈ r.fp ∨ w.heap.size ≤ x
/-- Piece r is new; nothing else has turned. -/
structure New (r : Res) (w w' : World) : Prop where
  ext : Ext [] w w'
  holds : r.holds w'
  fp : ∀ x ∈ r.fp, w.heap.size ≤ x
section
variable {S : List Nat} {W w w' : World} {H : List Res} {r r' : Res} {i : Nat}
theorem Hp.start (W : World) : Hp [] W W [] := ⟨.refl, by simp, by simp, .nil⟩
theorem Hp.start1 {r : Res} {W : World} (h : r.holds W) : Hp r.fp W W [r] := ⟨.refl, by simpa using h, by intro x hx y hy; simp at hx; subst hx; exact .inl hy, by simp⟩
theorem Hp.start2 {r s : Res} {W : World} (h : r.holds W) (h' : s.holds W) (hd : Dj r s) : Hp (r.fp ++ s.fp) W W [r, s] :=
  ⟨.refl, by simpa using ⟨h, h'⟩, by intro x hx y hy; simp at hx; rcases hx with rfl | rfl <;> simp [hy], by simpa using hd⟩
theorem Hp.at (i : Nat) (h : Hp S W w H) (hi : H[i]? = some r) : r.holds w := h.all r (List.mem_of_getElem? hi)
theorem Hp.b (i : Nat) (h : Hp S W w H) {b : Nat} {e : TypeId} {cs : Array Value} (hi : H[i]? = some (Rb b e cs)) : Blk w b e cs := h.at i hi
theorem Hp.o (i : Nat) (h : Hp S W w H) {e : TypeId} {sz : Nat} {a : Option Addr} {n cap : Nat} {vs : List Value} (hi : H[i]? = some (Ro e sz a n cap vs)) : Own w e sz a n cap vs := h.at i hi
theorem Hp.s (i : Nat) (h : Hp S W w H) {a : Option Addr} {vs : List Value} (hi : H[i]? = some (Rs a vs)) : SlA w a vs := h.at i hi
theorem Hp.size (h : Hp S W w H) : W.heap.size ≤ w.heap.size := h.ext.size
theorem Hp.ext0 (h : Hp S W w H) (hE : Ext [] w w') : Hp S W w' H := ⟨h.ext.then0 hE, fun r hr => r.keep (h.all r hr) hE (by simp), h.new, h.apart⟩
theorem Hp.nu (h : Hp S W w H) (hN : New r w w') : Hp S W w' (H ++ [r]) := by
  have h0 := h.ext0 hN.ext
  refine ⟨h0.ext, fun x hx => ?_, fun x hx y hy => ?_, ?_⟩
  · rcases List.mem_append.1 hx with h1 | h1
    · exact h0.all x h1
    · simp at h1; subst h1; exact hN.holds
  · rcases List.mem_append.1 hx with h1 | h1
    · exact h.new x h1 y hy
    · simp at h1; subst h1; exact .inr (Nat.le_trans h.size (hN.fp y hy))
  · refine List.pairwise_append.2 ⟨h.apart, by simp, fun a ha b hb x hx hx' => ?_⟩
    simp at hb; subst hb
    have h1 := a.lt (h.all a ha) x hx
    have h2 := hN.fp x hx'
    omega
theorem pair_at {H : List Res} (h : H.Pairwise Dj) {i j : Nat} {r s : Res} (hi : H[i]? = some r) (hj : H[j]? = some s) (hne : i ≠ j) : Dj r s := by
  obtain ⟨hi1, hi2⟩ := List.getElem?_eq_some_iff.1 hi
  obtain ⟨hj1, hj2⟩ := List.getElem?_eq_some_iff.1 hj
  rw [List.pairwise_iff_getElem] at h
  rcases Nat.lt_or_gt_of_ne hne with hlt | hlt
  · have := h i j hi1 hj1 hlt; rw [hi2, hj2] at this; exact this
  · have := h j i hj1 hi1 hlt; rw [hi2, hj2] at this; exact this.symm
theorem Hp.dj (h : Hp S W w H) (i j : Nat) {r s : Res} (hi : H[i]? = some r) (hj : H[j]? = some s) (hne : i ≠ j) : Dj r s := pair_at h.apart hi hj hne
theorem Hp.up (i : Nat) (h : Hp S W w H) (hi : H[i]? = some r) (hU : Upd r r' w w') : Hp S W w' (H.set i r') := by
  have hlt : i < H.length := (List.getElem?_eq_some_iff.1 hi).1
  have hget : H[i] = r := (List.getElem?_eq_some_iff.1 hi).2
  have hmem : ∀ x ∈ H.set i r', x = r' ∨ ∃ j, j ≠ i ∧ H[j]? = some x := by
    intro x hx
    obtain ⟨j, hj⟩ := List.mem_iff_getElem?.1 hx
    by_cases hij : i = j
    · subst hij; rw [List.getElem?_set_self hlt] at hj; cases hj; exact .inl rfl
    · rw [List.getElem?_set_ne hij] at hj; exact .inr ⟨j, fun e => hij e.symm, hj⟩
  refine ⟨h.ext.trans hU.ext (fun t ht => h.new r (List.mem_of_getElem? hi) t ht), fun x hx => ?_, fun x hx y hy => ?_, ?_⟩
  · rcases hmem x hx with rfl | ⟨j, hj, hxj⟩
    · exact hU.holds
    · exact x.keep (h.at j hxj) hU.ext (fun s hs hsx => h.dj i j hi hxj (Ne.symm hj) s hs hsx)
  · rcases hmem x hx with rfl | ⟨j, hj, hxj⟩
    · rcases hU.fp y hy with h1 | h1
      · exact h.new r (List.mem_of_getElem? hi) y h1
      · exact .inr (Nat.le_trans h.size h1)
    · exact h.new x (List.mem_of_getElem? hxj) y hy
  · have dj : ∀ (j : Nat) (s : Res), j ≠ i → H[j]? = some s → Dj r' s := fun j s hj hs x hx hxs => by
      rcases hU.fp x hx with h1 | h1
      · exact h.dj i j hi hs (Ne.symm hj) x h1 hxs
      · have := s.lt (h.at j hs) x hxs; omega
    rw [List.pairwise_iff_getElem]
    intro a b ha hb hab
    simp only [List.length_set] at ha hb
    by_cases hai : i = a
    · subst hai
      rw [List.getElem_set_self, List.getElem_set_ne (by omega)]
      exact dj b _ (by omega) (List.getElem?_eq_getElem hb)
    · rw [List.getElem_set_ne hai]
      by_cases hbi : i = b
      · subst hbi
        rw [List.getElem_set_self]
        exact (dj a _ (by omega) (List.getElem?_eq_getElem ha)).symm
      · rw [List.getElem_set_ne hbi]
        exact h.dj a b (List.getElem?_eq_getElem ha) (List.getElem?_eq_getElem hb) (by omega)
theorem Hp.sub {H' : List Res} (h : Hp S W w H) (hs : H'.Sublist H) : Hp S W w H' := ⟨h.ext, fun r hr => h.all r (hs.mem hr), fun r hr => h.new r (hs.mem hr), h.apart.sublist hs⟩
theorem Hp.take (k : Nat) (h : Hp S W w H) : Hp S W w (H.take k) := h.sub (List.take_sublist k H)
theorem Hp.del (i : Nat) (h : Hp S W w H) : Hp S W w (H.eraseIdx i) := h.sub (List.eraseIdx_sublist H i)
theorem Hp.swap {H' : List Res} (h : Hp S W w H) (hs : H'.Perm H) : Hp S W w H' := ⟨h.ext, fun r hr => h.all r (hs.mem_iff.1 hr), fun r hr => h.new r (hs.mem_iff.1 hr), (hs.pairwise_iff (fun h => Dj.symm h)).2 h.apart⟩
/-- What a piece holds may be said otherwise. -/
theorem Hp.as (i : Nat) (h : Hp S W w H) (hi : H[i]? = some r) (hf : ∀ x ∈ r'.fp, x ∈ r.fp) (hh : r.holds w → r'.holds w) : Hp S W w (H.set i r') :=
  h.up i hi ⟨.refl, hh (h.at i hi), fun x hx => .inl (hf x hx)⟩
theorem Hp.upd1 {r : Res} (h : Hp r.fp W w (r' :: H)) : Upd r r' W w := ⟨h.ext, h.all r' (by simp), h.new r' (by simp)⟩
theorem Hp.new1 (h : Hp [] W w H) (i : Nat) (hi : H[i]? = some r) : New r W w := ⟨h.ext, h.at i hi, fun x hx => by rcases h.new r (List.mem_of_getElem? hi) x hx with h1 | h1; cases h1; exact h1⟩
theorem New.nilO {e : TypeId} {sz : Nat} : New (Ro e sz none 0 0 []) w w := ⟨.refl, Own.nil, fun _ hx => by simp [Ro, blk] at hx⟩
theorem New.nilS {a : Option Addr} : New (Rs a []) w w := ⟨.refl, SlA.nil, fun _ hx => by simp [Rs] at hx⟩
theorem Upd.refl (h : r.holds w) : Upd r r w w := ⟨.refl, h, fun _ hx => .inl hx⟩
theorem Upd.trans {r'' : Res} {w'' : World} (h : Upd r r' w w') (h' : Upd r' r'' w' w'') : Upd r r'' w w'' :=
  ⟨h.ext.trans h'.ext (fun t ht => h.fp t ht), h'.holds, fun x hx => by
    rcases h'.fp x hx with h1 | h1
    · exact h.fp x h1
    · exact .inr (Nat.le_trans h.ext.size h1)⟩
/-- A piece that has become another one, of the same world. -/
theorem New.as (h : New r w w') (hf : ∀ x ∈ r'.fp, x ∈ r.fp) (hh : r.holds w' → r'.holds w') : New r' w w' := ⟨h.ext, hh h.holds, fun x hx => h.fp x (hf x hx)⟩
/-- What is read of old memory is as it was. -/
theorem Hp.old (h : Hp [] W w H) {a : Option Addr} {vs : List Value} (hS : SlA W a vs) : SlA w a vs := hS.ext0 h.ext
theorem Hp.oldS (h : Hp S W w H) {a : Option Addr} {vs : List Value} (hS : SlA W a vs) (hd : ∀ s ∈ S, s ∉ blk a) : SlA w a vs := hS.ext h.ext hd
end
section
variable {P : Program} {N : Nat} {K : Fr → World → Prop} {ρ : Fr} {S : List Nat} {W w : World} {H : List Res}
variable {v : Value} {dst : Option Nat} {d : Nat} {ty : TypeId} {pos : String} {af : Array Edge} {gd : Option (Nat × Bool)} {x y z : Operand} {t u e : TypeId} {q : IntKind}
theorem H_alloc {zs : List Value} (hH : Hp S W w H) (hz : zer P t = some zs) (hd : Nat.blt d N = true)
    (hk : ∀ w' b, Hp S W w' (H ++ [Rb b t zs.toArray]) → K (upd ρ d (.pointer (some ⟨b, 0, none⟩))) w') : Stp P N ρ ⟨some d, .alloc t, ty, pos, af, gd⟩ w K :=
  S_alloc hz hd (fun w' b hb hE hB _ => hk w' b (hH.nu ⟨hE, hB, fun x hx => by simp [Rb] at hx; omega⟩))
theorem H_box {cs : Array Value} (hH : Hp S W w H) (hx : ev ρ x = v) (hc : v.cells = cs) (hd : Nat.blt d N = true)
    (hk : ∀ w' b, Hp S W w' (H ++ [Rb b t cs]) → K (upd ρ d (.pointer (some ⟨b, 0, none⟩))) w') : Stp P N ρ ⟨some d, .box t x, ty, pos, af, gd⟩ w K :=
  S_box hx hc hd (fun w' b hb hE hB _ => hk w' b (hH.nu ⟨hE, hB, fun x hx => by simp [Rb] at hx; omega⟩))
theorem H_lit {n : Nat} {ps : List (Nat × Operand)} {out : List Value} {sz : Nat} {g : Bool} {zs : List Value} (hH : Hp S W w H) (ht : sle P t = some (e, (g, sz))) (hz : zer P e = some zs) (hzl : zs.length = sz) (hc : litCells ρ sz 0 ps = some out) (hn : ps.length = n)
    (hb : n * sz ≤ 16777216) (hd : Nat.blt d N = true)
    (hk : ∀ w' b, Hp S W w' (H ++ [Rb b e out.toArray]) → K (upd ρ d (.slice (some ⟨b, 0, none⟩) n n)) w') : Stp P N ρ ⟨some d, .buildSlice t n ps.toArray, ty, pos, af, gd⟩ w K :=
  S_lit ht hz hzl hc hn hb hd (fun w' b hb hE hB _ => hk w' b (hH.nu ⟨hE, hB, fun x hx => by simp [Rb] at hx; omega⟩))
theorem H_make {kl kc : IntKind} {n sz bytes : Nat} {g : Bool} {zs : List Value} {i : Int} (hH : Hp S W w H) (ht : sle P t = some (e, (g, sz))) (hz : zer P e = some zs) (hby : byt P e = some bytes) (hzl : zs.length = sz)
    (hx : ev ρ x = .int kl i) (hy : ev ρ y = .int kc i) (hi : i = n) (hbig : bytes * n ≤ 281474976710656) (h63 : n ≤ maxLen) (hd : Nat.blt d N = true)
    (hk : ∀ w' b, Hp S W w' (H ++ [Rb b e (madeCells zs.toArray (n * sz))]) → K (upd ρ d (.slice (some ⟨b, 0, none⟩) n n)) w') : Stp P N ρ ⟨some d, .makeSlice t x y, ty, pos, af, gd⟩ w K :=
  S_make ht hz hby hzl hx hy hi hbig h63 hd (fun w' b hb hE hB _ => hk w' b (hH.nu ⟨hE, hB, fun x hx => by simp [Rb] at hx; omega⟩))
/-- Append to piece i, a slice of one's own. -/
theorem H_append (i : Nat) {a a2 : Option Addr} {n cap m c2 sz bytes : Nat} {g : Bool} {zs vs news : List Value} (hH : Hp S W w H) (hi : H[i]? = some (Ro e sz a n cap vs)) (ht : sle P t = some (e, (g, sz))) (hz : zer P e = some zs) (hzl : zs.length = sz) (hby : byt P e = some bytes) (hsz : 0 < sz)
    (hx : ev ρ x = .slice a n cap) (hy : ev ρ y = .slice a2 m c2) (hS : SlA w a2 news) (hl : news.length = m * sz) (h1 : ∀ u ∈ news, u.oneCell' = true)
    (hbig : (n + m) * bytes ≤ 140737488355328) (h63 : n + m ≤ maxLen) (hd : Nat.blt d N = true)
    (hk : ∀ w' a' cap', Hp S W w' (H.set i (Ro e sz a' (n + m) cap' (vs ++ news))) → K (upd ρ d (.slice a' (n + m) cap')) w') : Stp P N ρ ⟨some d, .call ⟨.builtin .append, #[x, y], #[t, t]⟩, ty, pos, af, gd⟩ w K :=
  S_append ht hz hzl hby hsz hx (hH.o i hi) hy hS hl h1 hbig h63 hd (fun w' a' cap' hE hO hf _ => hk w' a' cap' (hH.up i hi ⟨hE, hO, hf⟩))
/-- Store one cell into piece i, a slice of one's own. -/
theorem H_storeO (i : Nat) {a : Option Addr} {n cap sz o : Nat} {vs : List Value} (hH : Hp S W w H) (hi : H[i]? = some (Ro e sz a n cap vs)) (hx : ev ρ x = .pointer (some (At a o))) (hy : ev ρ y = v) (ho : o < n * sz) (h1 : v.oneCell' = true) (ht : shp P t = some (false, 1))
    (hk : ∀ w', Hp S W w' (H.set i (Ro e sz a n cap (vs.set o v))) → K ρ w') : Stp P N ρ ⟨none, .store t x y, ty, pos, af, gd⟩ w K :=
  S_storeO hx hy (hH.o i hi) ho h1 ht (fun w' hE hO _ => hk w' (hH.up i hi ⟨hE, hO, fun _ hx => .inl hx⟩))
/-- Store one cell into piece i, a block of one's own. -/
theorem H_store (i : Nat) {b o : Nat} {cs : Array Value} (hH : Hp S W w H) (hi : H[i]? = some (Rb b e cs)) (hx : ev ρ x = .pointer (some ⟨b, o, none⟩)) (hy : ev ρ y = v) (ho : o < cs.size) (h1 : v.oneCell' = true) (ht : shp P t = some (false, 1))
    (hk : ∀ w', Hp S W w' (H.set i (Rb b e (cs.setIfInBounds o v))) → K ρ w') : Stp P N ρ ⟨none, .store t x y, ty, pos, af, gd⟩ w K :=
  S_store hx hy (hH.b i hi) ho h1 ht (fun w' hE hB _ => hk w' (hH.up i hi ⟨hE, hB, fun _ hx => .inl hx⟩))
/-- The same, by the address of a place. -/
theorem H_storeB (i : Nat) {b o : Nat} {cs : List Value} (hH : Hp S W w H) (hi : H[i]? = some (Rb b e cs.toArray)) (hx : ev ρ x = .pointer (some (At (some ⟨b, 0, none⟩) o))) (hy : ev ρ y = v) (ho : o < cs.length) (h1 : v.oneCell' = true) (ht : shp P t = some (false, 1))
    (hk : ∀ w', Hp S W w' (H.set i (Rb b e (cs.set o v).toArray)) → K ρ w') : Stp P N ρ ⟨none, .store t x y, ty, pos, af, gd⟩ w K :=
  S_storeB hx hy (hH.b i hi) ho h1 ht (fun w' hE hB _ => hk w' (hH.up i hi ⟨hE, hB, fun _ hx => .inl hx⟩))
end
end Go.K
