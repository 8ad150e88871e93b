/- A loop with one way on behind it, from several exits; strings of slices whose length is said otherwise: over any program; no condition. -/
import Derived.Test.YtccnhnijglnbmaaK18
namespace Go.K
open Go Go.RowKit
section
variable {P : Program} {N : Nat} {f : FuncId} {R : Value → World → Prop} {k : List Item} {ρ : Fr} {w : World}
/-- A loop in a block: what holds behind it is shown once, for all exits. -/
theorem WS_loopX {G G2 : Type} {c : Code} {id : Nat} (μ : G → Nat) (W : Nat) (S : G → List (Nat × Value)) (I : G → World → Prop) (S2 : G2 → List (Nat × Value)) (I2 : G2 → World → Prop) (g0 : G) (hS : Has ρ (S g0)) (h0 : I g0 w)
    (round : ∀ g w σ, I g w → (∀ g' w' ρ', μ g' < μ g → Has ρ' (S g') → Agr W ρ ρ' → I g' w' → WS P N f R (.inLoop c :: .inBlock id :: k) ρ' w') → (∀ g' w' ρ', Has ρ' (S2 g') → Agr W ρ ρ' → I2 g' w' → WS P N f R k ρ' w') →
      WS P N f R (.code c :: .inLoop c :: .inBlock id :: k) (updL (S g) (mrg W ρ σ)) w)
    (cont : ∀ g w σ, I2 g w → WS P N f R k (updL (S2 g) (mrg W ρ σ)) w) : WS P N f R (.code (.loop c) :: .inBlock id :: k) ρ w :=
  WS_loop μ W S I g0 hS h0 (fun g w σ hI ih => round g w σ hI ih (fun g' w' ρ' hS hA hI => by
    have h := cont g' w' ρ' hI
    rw [mrg_of_agr hA, updL_of_has hS] at h
    exact h))
end
section
variable {P : Program} {ρ : Fr} {w : World} {dst : Option Nat} {ty t u e : TypeId} {pos : String} {af : Array Edge} {gd : Option (Nat × Bool)} {x y : Operand}
theorem k_strN {a : Option Addr} {n cap : Nat} {l : List Nat} (hx : ev ρ x = .slice a n cap) (hn : l.length = n) (hS : SlA w a (l.map B)) (ht : sle P t = some (e, (false, 1))) (he : kindOf P e = some .u8) (hu : isStr P u = true) :
    Run P ρ ⟨dst, .convert t u x, ty, pos, af, gd⟩ w (.string (strOf l)) w := by
  subst hn
  exact k_str hx hS ht he hu
/-- A number and a mask of ones. -/
theorem k_andm {i : Int} {k : Nat} {z : TypeId} (hx : ev ρ x = .int .i64 i) (hy : ev ρ y = .int .i64 ((2 ^ k - 1 : Nat) : Int)) (hk : k ≤ 62) : Run P ρ ⟨dst, .binOp .and t x y z, ty, pos, af, gd⟩ w (.int .i64 (i % ((2 ^ k : Nat) : Int))) w :=
  k_bin hx hy (eqGuard_other rfl) (by
    have hp : 2 ^ k ≤ 2 ^ 62 := Nat.pow_le_pow_right (by decide) hk
    have hp1 : 0 < 2 ^ k := Nat.two_pow_pos k
    have e1 : (BitVec.ofInt 64 ((2 ^ k - 1 : Nat) : Int)).toNat = 2 ^ k - 1 := ofInt_nat (by omega)
    have e2 : (BitVec.ofInt 64 i).toNat = (i % (2 ^ 64 : Nat)).toNat := by simp [BitVec.toNat_ofInt]
    have e3 : ((BitVec.ofInt 64 i) &&& (BitVec.ofInt 64 ((2 ^ k - 1 : Nat) : Int))).toNat = (i % ((2 ^ k : Nat) : Int)).toNat := by
      rw [BitVec.toNat_and, e1, e2, Nat.and_two_pow_sub_one_eq_mod]
      have h1 : i % ((2 ^ k : Nat) : Int) = (i % ((2 ^ 64 : Nat) : Int)) % ((2 ^ k : Nat) : Int) := (Int.emod_emod_of_dvd i (by
        rw [Int.natCast_dvd_natCast]
        exact Nat.pow_dvd_pow 2 (by omega))).symm
      rw [h1]
      have h2 : 0 ≤ i % ((2 ^ 64 : Nat) : Int) := Int.emod_nonneg _ (by decide)
      obtain ⟨n, hn⟩ := Int.eq_ofNat_of_zero_le h2
      rw [hn]
      have : ((n : Nat) : Int) % ((2 ^ k : Nat) : Int) = ((n % 2 ^ k : Nat) : Int) := (Int.natCast_emod n (2 ^ k)).symm
      rw [this]; rfl
    have h4 : 0 ≤ i % ((2 ^ k : Nat) : Int) := Int.emod_nonneg _ (by omega)
    have h5 : i % ((2 ^ k : Nat) : Int) < ((2 ^ k : Nat) : Int) := Int.emod_lt_of_pos _ (by omega)
    have e6 : IntKind.i64.wrap (((BitVec.ofInt 64 i) &&& (BitVec.ofInt 64 ((2 ^ k - 1 : Nat) : Int))).toNat : Int) = i % ((2 ^ k : Nat) : Int) := by
      rw [e3, Int.toNat_of_nonneg h4, wrap64_id (by omega) (by omega)]
    show (pure (Value.int .i64 (IntKind.i64.wrap (((BitVec.ofInt 64 i) &&& (BitVec.ofInt 64 ((2 ^ k - 1 : Nat) : Int))).toNat : Int))) : Sem Value).run P w = _
    rw [e6]
    exact Sem.run_pure ..)
end
section
variable {P : Program} {N : Nat} {K : Fr → World → Prop} {ρ : Fr} {S : List Nat} {W w : World} {H : List Res}
variable {ty t e : TypeId} {pos : String} {af : Array Edge} {gd : Option (Nat × Bool)} {x y : Operand}
/-- Store a whole aggregate into piece i, a block of one's own. -/
theorem H_storeA (i : Nat) {b s : Nat} {cs vs : Array Value} (hH : Hp S W w H) (hi : H[i]? = some (Rb b e cs)) (hx : ev ρ x = .pointer (some ⟨b, 0, none⟩)) (hy : ev ρ y = .agg vs) (hs : vs.size = s) (hs' : cs.size = s) (h1 : ∀ v ∈ vs.toList, v.oneCell' = true) (ht : shp P t = some (true, s))
    (hk : ∀ w', Hp S W w' (H.set i (Rb b e vs)) → K ρ w') : Stp P N ρ ⟨none, .store t x y, ty, pos, af, gd⟩ w K :=
  S_storeA hx hy (hH.b i hi) hs hs' h1 ht (fun w' hE hB _ => hk w' (hH.up i hi ⟨hE, hB, fun _ hx => .inl hx⟩))
end
/-- A value of a struct's or an array's type is an aggregate. -/
theorem rd_agg {P : Program} {W : World} {r : Reach} {b0 : Nat} {t : TypeId} {v : Value} {n : Nat} (ht : shp P t = some (true, n)) (hv : Value.okWide P W r b0 t v) : ∃ cs : List Value, v = .agg cs.toArray := by
  unfold shp at ht
  unfold Value.okWide at hv
  split at ht
  · rename_i hu _
    rw [hu] at hv
    obtain ⟨cs, rfl, _⟩ := hv
    exact ⟨cs.toList, by simp⟩
  · rename_i hu _
    rw [hu] at hv
    obtain ⟨cs, rfl, _⟩ := hv
    exact ⟨cs.toList, by simp⟩
  · cases ht
  · cases ht
/-- A slice of bytes that is read, with its room. -/
def IsSc (l : List Nat) : Value → World → Prop := fun v w => ∃ a c, v = .slice a l.length c ∧ SlA w a (l.map B) ∧ l.length ≤ c
theorem IsSc.st {l : List Nat} : Stable (IsSc l) := fun _ _ _ ⟨a, c, h, hS, hc⟩ hE => ⟨a, c, h, hS.ext0 hE, hc⟩
/-- From here on more is known of the worlds. -/
theorem WA_S {P : Program} {N : Nat} {C : Fr → World → Prop} {ops : Array Oper} {S : World → Prop} (S' : World → Prop) {n fuel : Nat} {done : List Nat} {ρ : Fr} {w : World} (hS : ∀ w', S' w' → S w') (h : WA P N C ops S' n fuel done ρ w) : WA P N C ops S n fuel done ρ w := by
  have mono : ∀ (fuel : Nat) (listed : Array Bool) (a : Act) (w : World), wpAnyH P .any ops (QN N C) S' fuel listed a w → wpAnyH P .any ops (QN N C) S fuel listed a w := by
    intro fuel
    induction fuel with
    | zero => intro _ _ _ h; exact h
    | succ fuel ih => intro listed a w h; exact ⟨h.1, fun i hi => wpOp_mono (fun a' w' h' => ⟨hS _ h'.1, ih _ _ _ h'.2⟩) (h.2 i hi)⟩
  exact ⟨fun a ha => mono _ _ _ _ (h.out a ha)⟩
/-- What a region's operations may turn is F alone, from here on. -/
theorem WA_now {P : Program} {N : Nat} {C : Fr → World → Prop} {ops : Array Oper} (F : List Nat) {n fuel : Nat} {done : List Nat} {ρ : Fr} {w0 w : World} (hE : Ext F w0 w) (h : WA P N C ops (fun w' => Ext F w w') n fuel done ρ w) : WA P N C ops (fun w' => Ext F w0 w') n fuel done ρ w :=
  WA_S (fun w' => Ext F w w') (fun _ h => hE.then1' h) h
/-- A load of a whole aggregate out of a slice. -/
theorem k_loadC {P : Program} {ρ : Fr} {w : World} {dst : Option Nat} {ty t : TypeId} {pos : String} {af : Array Edge} {gd : Option (Nat × Bool)} {x : Operand} {a : Option Addr} {vs cs : List Value} {j s : Nat} (hx : ev ρ x = .pointer (some (At a j))) (hS : SlA w a vs) (hv : (vs.drop j).take s = cs) (hl : cs.length = s) (ht : shp P t = some (true, s)) :
    Run P ρ ⟨dst, .load t x, ty, pos, af, gd⟩ w (.agg cs.toArray) w := by
  have hl2 : s = 0 ∨ j + s ≤ vs.length := by
    have := congrArg List.length hv
    simp only [List.length_take, List.length_drop] at this
    omega
  rcases hl2 with h0 | h0
  · subst h0
    have : cs = [] := List.eq_nil_of_length_eq_zero hl
    subst this
    have h := run_loadCells_list (P := P) w (At a j) [] (fun i v hv => by simp at hv)
    constructor; unfold execOp
    simp only [List.length_nil] at h
    simp [hx, Instr.loadAt, Instr.sureAddr, loadVar, shp_isAgg ht, shp_size ht, h]
  · have h := k_loadN (dst := dst) (ty := ty) (pos := pos) (af := af) (gd := gd) hx hS h0 ht
    rw [hv] at h
    exact h
/-- A slice of a slice. -/
theorem k_slcN {P : Program} {ρ : Fr} {w : World} {dst : Option Nat} {ty t e : TypeId} {pos : String} {af : Array Edge} {gd : Option (Nat × Bool)} {x y z : Operand} {a : Option Addr} {n cap sz l h : Nat} {g : Bool} {kl kh : IntKind} (hx : ev ρ x = .slice a n cap) (hy : ev ρ y = .int kl (l : Int)) (hz : ev ρ z = .int kh (h : Int)) (ht : sle P t = some (e, (g, sz))) (h0 : l ≤ h ∧ h ≤ cap) :
    Run P ρ ⟨dst, .slice t x (some y) (some z) none, ty, pos, af, gd⟩ w (.slice (if cap = l then a else a.map (·.add (l * sz))) (h - l) (cap - l)) w :=
  k_slc (l := (l : Int)) (h := (h : Int)) hx hy hz ht (by omega)
theorem mid_cells {w : World} {a : Option Addr} {cap n l h : Nat} {vs : List Value} (hS : SlA w a vs) (hlh : l ≤ h) (hn : h ≤ n) (hc : n ≤ cap) : SlA w (if cap = l then a else a.map (·.add (l * 1))) ((vs.drop l).take (h - l)) := by
  have := sl_sliced (l := l) (h := h) (n := n) (cap := cap) (sz := 1) hS hlh hn hc
  simpa using this
/-- Two new pieces, as one. -/
theorem Hp.new2 {W w : World} {r s : Res} (h : Hp [] W w [r, s]) : New (sep r s) W w :=
  ⟨h.ext, ⟨h.at 0 rfl, h.at 1 rfl, h.dj 0 1 rfl rfl (by decide)⟩, fun x hx => by
    have h1 : x ∈ r.fp ∨ x ∈ s.fp := List.mem_append.1 hx
    rcases h1 with h1 | h1
    · rcases h.new r (by simp) x h1 with h2 | h2
      · cases h2
      · exact h2
    · rcases h.new s (by simp) x h1 with h2 | h2
      · cases h2
      · exact h2⟩
/-- Append to a new row without room: what was there stays as it is. -/
theorem S_appendC {P : Program} {N : Nat} {K : Fr → World → Prop} {ρ : Fr} {w : World} {d : Nat} {ty t e : TypeId} {pos : String} {af : Array Edge} {gd : Option (Nat × Bool)} {x y : Operand} {a2 : Option Addr} {b n m c2 bytes : Nat} {g : Bool} {z : Value} {cs : Array Value} {news : List Value} (ht : sle P t = some (e, (g, 1))) (hz : zer P e = some [z]) (hby : byt P e = some bytes)
    (hx : ev ρ x = .slice (some ⟨b, 0, none⟩) n n) (hB : Blk w b e cs) (hcs : cs.size = n) (hy : ev ρ y = .slice a2 m c2) (hS : SlA w a2 news) (hl : news.length = m)
    (hbig : (n + m) * bytes ≤ 140737488355328) (h63 : n + m ≤ maxLen) (hd : Nat.blt d N = true)
    (hk : ∀ w' a' cap', Ext [] w w' → SlA w' a' (cs.toList ++ news) → K (upd ρ d (.slice a' (n + m) cap')) w') : Stp P N ρ ⟨some d, .call ⟨.builtin .append, #[x, y], #[t, t]⟩, ty, pos, af, gd⟩ w K := by
  obtain ⟨hu, hs⟩ := sle_spec ht
  obtain ⟨i, zv, hi, hzz, hsz, rfl, hzc⟩ := info_of hs hz hby
  have hop : ∀ {v' w'}, (Builtin.append_ #[t, t] ty #[.slice (some ⟨b, 0, none⟩) n n, .slice a2 m c2]).run P w = .ok v' w' → Run P ρ ⟨some d, .call ⟨.builtin .append, #[x, y], #[t, t]⟩, ty, pos, af, gd⟩ w v' w' := by
    intro v' w' hr
    constructor; unfold execOp
    simp [hx, hy, resolve, invoke, builtin, hr]
  have h63' : n + m ≤ 9223372036854775807 := by simp only [maxLen] at h63; omega
  by_cases hm : m = 0
  · subst hm
    have hn0 : news = [] := List.eq_nil_of_length_eq_zero hl
    subst hn0
    have hf : (Builtin.firstCells i.size 0 (.slice a2 0 c2)).run P w = .ok #[] w := by
      cases a2 with
      | none => simp [Builtin.firstCells]
      | some ad => simp [Builtin.firstCells, loadCells, loadCellsFrom]
    have hr : (Builtin.append_ #[t, t] ty #[.slice (some ⟨b, 0, none⟩) n n, .slice a2 0 c2]).run P w = .ok (.slice (some ⟨b, 0, none⟩) (n + 0) n) w := by
      simp [Builtin.append_, run_underlying hu, sizeOf, typeInfo, hi, Builtin.lenOf, hf, storeCells]
    exact S_run (hop hr) hd (hk w _ _ .refl (by rw [List.append_nil]; exact hB.sl0))
  · have hne : news ≠ [] := fun e => by subst e; simp at hl; omega
    obtain ⟨b2, o2, rfl⟩ := hS.head hne
    have hnews : ∀ j v, news[j]? = some v → w.cell? ((⟨b2, o2, none⟩ : Addr).add j) = some v := fun j v hj => by rw [at_add rfl]; exact hS.cell j v hj
    have holds : ∀ j u, cs.toList[j]? = some u → w.cell? ((⟨b, 0, none⟩ : Addr).add j) = some u := fun j u hj => by
      rw [addr_add, Nat.zero_add]
      exact Blk.cell hB (by simpa using hj)
    have hr := run_append_grow (P := P) w t ty e i zv hu hi hzz ⟨b, 0, none⟩ n n cs.toList (by rw [hsz]; simpa using hcs) holds ⟨b2, o2, none⟩ m c2 news (by rw [hsz]; omega) hnews (by omega) (by omega) (growslice_fits (by omega) hbig)
    refine S_run (hop hr) hd (hk _ _ _ (Ext.drew0.then0 (ext_alloc _ _)) ?_)
    have hnew := heap_alloc_new w.drew (.cells (cs.toList.toArray ++ news.toArray ++ Builtin.zeroCells zv.cells (grownCap w (n + m) n e - (n + m))) e)
    have hB2 : Blk (w.drew.alloc (.cells (cs.toList.toArray ++ news.toArray ++ Builtin.zeroCells zv.cells (grownCap w (n + m) n e - (n + m))) e)) w.heap.size e (cs.toList.toArray ++ news.toArray ++ Builtin.zeroCells zv.cells (grownCap w (n + m) n e - (n + m))) := hnew
    refine hB2.sl (fun j v hj => ?_)
    have hj' : j < (cs.toList ++ news).length := (List.getElem?_eq_some_iff.1 hj).1
    rw [Nat.zero_add]
    have e1 : (cs.toList.toArray ++ news.toArray ++ Builtin.zeroCells zv.cells (grownCap w (n + m) n e - (n + m)))[j]? = ((cs.toList ++ news) ++ (Builtin.zeroCells zv.cells (grownCap w (n + m) n e - (n + m))).toList)[j]? := by
      rw [← Array.getElem?_toList]; simp
    rw [e1, List.getElem?_append_left hj']
    exact hj
end Go.K
