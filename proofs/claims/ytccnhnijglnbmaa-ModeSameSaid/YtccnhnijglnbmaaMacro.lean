/- The walk of layer 19's macroblocks by small numbers: whatever they are, their cells are of a certain kind; no condition. -/
import Derived.Test.YtccnhnijglnbmaaSh
import Derived.Test.YtccnhnijglnbmaaVec
import Derived.Test.YtccnhnijglnbmaaMode
import Derived.Test.YtccnhnijglnbmaaK15
import Derived.Test.YtccnhnijglnbmaaK27
namespace Go.Proofs.Ytccnhnijglnbmaa
open Go Go.K Go.P Go.RowKit Go.Proofs
theorem tm32m (x : Int) : -31 ≤ x.tmod 32 ∧ x.tmod 32 ≤ 31 := by
  have h1 := Int.tmod_lt_of_pos x (show (0 : Int) < 32 by decide)
  have h2 := Int.tmod_lt_of_pos (-x) (show (0 : Int) < 32 by decide)
  rw [Int.neg_tmod] at h2
  omega
/-- A vector of small numbers. -/
def VG (u : Value) : Prop := ∃ x y : Int, (-31 ≤ x ∧ x ≤ 31) ∧ (-31 ≤ y ∧ y ≤ 31) ∧ u = CV x y
theorem VG.one {u : Value} (h : VG u) : u.oneCell' = true := by obtain ⟨x, y, _, _, rfl⟩ := h; rfl
theorem small19 {x y : Int} {w : World} (hx : -128 ≤ x ∧ x ≤ 127) (hy : -128 ≤ y ∧ y ≤ 127) : Does Try.prog 43 #[.int .i8 x, .int .i8 y] w fun v w' => VG v ∧ w' = w := by
  refine Does_of (args := [_, _]) Try.func43 rfl rfl Try.ntmps43 rfl ?_
  repeat (first | refine WS_seq ?_ | refine WS_region ?_ | refine WL_nil ?_ | (refine WL_r (by first | refine k_remt rfl rfl (by decide) | refine Run_pev rfl | refine k_convI rfl rfl rfl (by omega)) rfl ?_))
  try refine WL_gyes rfl rfl rfl ?_
  refine WL_s (S_call (vof_spec) rfl rfl ?_)
  rintro v w1 ⟨rfl, rfl⟩
  repeat (first | refine WL_nil ?_ | (refine WL_r (by first | refine Run_pev rfl | apply k_makeFunc) rfl ?_))
  exact WS_ret1 Try.func43 rfl ⟨⟨_, _, tm32m x, tm32m y, rfl⟩, rfl⟩
/-- Of this kind is cell i of a macroblock. -/
def mgood (i : Nat) (v : Value) : Prop :=
  (i = 0 → ∃ k : Nat, k < 256 ∧ v = .int .u8 k) ∧ (i = 1 → ∃ q : Int, (-1000 ≤ q ∧ q ≤ 1000) ∧ v = .int .i64 q) ∧ (2 ≤ i ∧ i < 6 → VG v) ∧ (i = 6 → ∃ b : Bool, v = .bool b) ∧ (7 ≤ i → ∃ n : Int, (-1000 ≤ n ∧ n ≤ 1000) ∧ v = .int .i64 n)
structure MC (cs : List Value) : Prop where
  len : cs.length = 391
  at' : ∀ i v, cs[i]? = some v → mgood i v
theorem mgood.one {i : Nat} {v : Value} (h : mgood i v) : v.oneCell' = true := by
  obtain ⟨h0, h1, h2, h3, h4⟩ := h
  rcases (show i = 0 ∨ i = 1 ∨ (2 ≤ i ∧ i < 6) ∨ i = 6 ∨ 7 ≤ i by omega) with h | h | h | h | h
  · obtain ⟨_, _, rfl⟩ := h0 h; rfl
  · obtain ⟨_, _, rfl⟩ := h1 h; rfl
  · exact (h2 h).one
  · obtain ⟨_, rfl⟩ := h3 h; rfl
  · obtain ⟨_, _, rfl⟩ := h4 h; rfl
theorem mgood.kind {v : Value} {k : Nat} (hk : k < 256) (e : v = .int .u8 k) : mgood 0 v := ⟨fun _ => ⟨k, hk, e⟩, by omega, by omega, by omega, by omega⟩
theorem mgood.qp {v : Value} {q : Int} (hq : -1000 ≤ q ∧ q ≤ 1000) (e : v = .int .i64 q) : mgood 1 v := ⟨by omega, fun _ => ⟨q, hq, e⟩, by omega, by omega, by omega⟩
theorem mgood.vec {v : Value} {i : Nat} (hi : 2 ≤ i ∧ i < 6) (h : VG v) : mgood i v := ⟨by omega, by omega, fun _ => h, by omega, by omega⟩
theorem mgood.edge (b : Bool) : mgood 6 (.bool b) := ⟨by omega, by omega, by omega, fun _ => ⟨b, rfl⟩, by omega⟩
theorem mgood.level {i : Nat} {n : Int} (hi : 7 ≤ i) (hn : -1000 ≤ n ∧ n ≤ 1000) : mgood i (.int .i64 n) := ⟨by omega, by omega, by omega, by omega, fun _ => ⟨n, hn, rfl⟩⟩
section
variable {cs : List Value}
theorem MC.one (h : MC cs) : ∀ v ∈ cs, v.oneCell' = true := fun v hv => by
  obtain ⟨i, hi⟩ := List.mem_iff_getElem?.1 hv
  exact (h.at' i v hi).one
theorem MC.set (h : MC cs) {o : Nat} {v : Value} (hv : mgood o v) : MC (cs.set o v) := by
  refine ⟨by rw [List.length_set]; exact h.len, fun i u hu => ?_⟩
  by_cases hio : o = i
  · subst hio
    by_cases hl : o < cs.length
    · rw [List.getElem?_set_self hl] at hu
      obtain rfl := Option.some.inj hu
      exact hv
    · rw [List.getElem?_eq_none (by rw [List.length_set]; omega)] at hu
      cases hu
  · rw [List.getElem?_set_ne hio] at hu
    exact h.at' i u hu
theorem MC.get (h : MC cs) {i : Nat} (hi : i < 391) : ∃ v, cs[i]? = some v ∧ mgood i v := ⟨cs[i]'(by rw [h.len]; exact hi), List.getElem?_eq_getElem _, h.at' i _ (List.getElem?_eq_getElem _)⟩
theorem MC.k (h : MC cs) : ∃ k : Nat, k < 256 ∧ cs[0]? = some (.int .u8 k) := by
  obtain ⟨v, h1, h2⟩ := h.get (show 0 < 391 by decide)
  obtain ⟨k, hk, rfl⟩ := h2.1 rfl
  exact ⟨k, hk, h1⟩
theorem MC.q (h : MC cs) : ∃ q : Int, (-1000 ≤ q ∧ q ≤ 1000) ∧ cs[1]? = some (.int .i64 q) := by
  obtain ⟨v, h1, h2⟩ := h.get (show 1 < 391 by decide)
  obtain ⟨k, hk, rfl⟩ := h2.2.1 rfl
  exact ⟨k, hk, h1⟩
theorem MC.v (h : MC cs) {i : Nat} (hi : 2 ≤ i ∧ i < 6) : ∃ u, VG u ∧ cs[i]? = some u := by
  obtain ⟨v, h1, h2⟩ := h.get (show i < 391 by omega)
  exact ⟨v, h2.2.2.1 hi, h1⟩
theorem MC.e (h : MC cs) : ∃ b : Bool, cs[6]? = some (.bool b) := by
  obtain ⟨v, h1, h2⟩ := h.get (show 6 < 391 by decide)
  obtain ⟨b, rfl⟩ := h2.2.2.2.1 rfl
  exact ⟨b, h1⟩
theorem MC.l (h : MC cs) {i : Nat} (hi : 7 ≤ i ∧ i < 391) : ∃ n : Int, (-1000 ≤ n ∧ n ≤ 1000) ∧ cs[i]? = some (.int .i64 n) := by
  obtain ⟨v, h1, h2⟩ := h.get hi.2
  obtain ⟨n, hn, rfl⟩ := h2.2.2.2.2 hi.1
  exact ⟨n, hn, h1⟩
theorem MC.vecs (h : MC cs) {vs : List Value} (hl : vs.length = 4) (hv : ∀ u ∈ vs, VG u) : MC (cs.take 2 ++ vs ++ cs.drop 6) := by
  have hlen := h.len
  refine ⟨by simp [hlen, hl], fun i u hu => ?_⟩
  by_cases h2 : i < 2
  · rw [List.append_assoc, List.getElem?_append_left (by simp; omega), List.getElem?_take, if_pos h2] at hu
    exact h.at' i u hu
  · by_cases h6 : i < 6
    · rw [List.getElem?_append_left (by simp; omega), List.getElem?_append_right (by simp; omega)] at hu
      exact mgood.vec ⟨by omega, h6⟩ (hv u (List.mem_of_getElem? hu))
    · rw [List.getElem?_append_right (by simp; omega), List.getElem?_drop] at hu
      have e : 6 + (i - (cs.take 2 ++ vs).length) = i := by simp; omega
      rw [e] at hu
      exact h.at' i u hu
end
def mk0 (k : Nat) (q : Int) : List Value := [.int .u8 k, .int .i64 q] ++ (List.replicate 4 (.complex .f64 0 0) ++ ([.bool false] ++ List.replicate 384 (.int .i64 0)))
theorem cv0 : VG (.complex .f64 0 0) := ⟨0, 0, by decide, by decide, by
  have e : FN 0 = 0 := by decide +kernel
  show Value.complex .f64 0 0 = .complex .f64 (FN 0) (FN 0)
  rw [e]⟩
theorem mk0_mc {k : Nat} {q : Int} (hk : k < 256) (hq : -1000 ≤ q ∧ q ≤ 1000) : MC (mk0 k q) := by
  refine ⟨by simp only [mk0, List.length_append, List.length_replicate, List.length_cons, List.length_nil], fun i u hu => ?_⟩
  unfold mk0 at hu
  by_cases h0 : i = 0
  · subst h0; exact mgood.kind hk (Option.some.inj hu).symm
  by_cases h1 : i = 1
  · subst h1; exact mgood.qp hq (Option.some.inj hu).symm
  rw [List.getElem?_append_right (by simp; omega)] at hu
  by_cases h6 : i < 6
  · rw [List.getElem?_append_left (by simp; omega), List.getElem?_replicate, if_pos (by simp; omega)] at hu
    obtain rfl := Option.some.inj hu
    exact mgood.vec ⟨by omega, h6⟩ cv0
  rw [List.getElem?_append_right (by simp; omega)] at hu
  by_cases h7 : i = 6
  · subst h7; obtain rfl := Option.some.inj hu; exact mgood.edge false
  rw [List.getElem?_append_right (by simp; omega), List.getElem?_replicate] at hu
  split at hu
  · obtain rfl := Option.some.inj hu
    exact mgood.level (by omega) (by omega)
  · cases hu
/-- Store a part of an aggregate into piece i, a block of one's own. -/
theorem H_storeN {P : Program} {N : Nat} {K : Fr → World → Prop} {ρ : Fr} {S : List Nat} {W w : World} {H : List Res} {ty t e : TypeId} {pos : String} {af : Array Edge} {gd : Option (Nat × Bool)} {x y : Operand} (i : Nat) {b o s : Nat} {cs vs : List Value} (hH : Hp S W w H) (hi : H[i]? = some (Rb b e cs.toArray)) (hx : ev ρ x = .pointer (some ⟨b, o, none⟩)) (hy : ev ρ y = .agg vs.toArray) (ho : o + vs.length ≤ cs.length) (h1 : ∀ v ∈ vs, v.oneCell' = true) (ht : shp P t = some (true, s)) (hs : vs.length = s)
    (hk : ∀ w', Hp S W w' (H.set i (Rb b e (cs.take o ++ vs ++ cs.drop (o + vs.length)).toArray)) → K ρ w') : Stp P N ρ ⟨none, .store t x y, ty, pos, af, gd⟩ w K :=
  S_storeN hx hy (hH.b i hi) (by simpa using ho) h1 ht (by simpa using hs) (fun w' hE hB _ => hk w' (hH.up i hi ⟨hE, hB, fun _ hx => .inl hx⟩))
/-- Store one cell into piece i, a block of one's own, by its cells. -/
theorem H_storeL {P : Program} {N : Nat} {K : Fr → World → Prop} {ρ : Fr} {S : List Nat} {W w : World} {H : List Res} {ty t e : TypeId} {pos : String} {af : Array Edge} {gd : Option (Nat × Bool)} {x y : Operand} {v : Value} (i : Nat) {b o : Nat} {cs : List Value} (hH : Hp S W w H) (hi : H[i]? = some (Rb b e cs.toArray)) (hx : ev ρ x = .pointer (some ⟨b, o, none⟩)) (hy : ev ρ y = v) (ho : o < cs.length) (h1 : v.oneCell' = true) (ht : shp P t = some (false, 1))
    (hk : ∀ w', Hp S W w' (H.set i (Rb b e (cs.set o v).toArray)) → K ρ w') : Stp P N ρ ⟨none, .store t x y, ty, pos, af, gd⟩ w K :=
  H_store i hH hi hx hy (by simpa using ho) h1 ht (fun w' h => hk w' (by simpa using h))
theorem all_spec {u : Value} {w : World} (hu : VG u) : Does Try.prog 30 #[u] w fun v w' => v = .agg #[u, u, u, u] ∧ Ext [] w w' := by
  refine Does_of (args := [_]) Try.func30 rfl rfl Try.ntmps30 rfl ?_
  have hH := Hp.start w
  obtain ⟨x, y, _, _, rfl⟩ := hu
  repeat (first | refine WS_seq ?_ | refine WS_region ?_)
  refine WL_s (H_alloc hH (Ty.zer rfl) rfl ?_)
  try clear hH
  intro w1 b hH
  change Hp _ _ _ [_] at hH
  repeat (first | refine WS_seq ?_ | refine WS_region ?_ | refine WL_nil ?_ | (refine WL_r (by first | refine k_buildA (cs := [CV x y, CV x y, CV x y, CV x y]) (Ty.zer rfl) (Ty.arr rfl) rfl | refine Run_pev rfl | apply k_makeFunc) rfl ?_))
  refine WL_s (H_storeA 0 hH rfl rfl rfl rfl rfl (by intro v hv; simp at hv; subst hv; rfl) (Ty.shp rfl) ?_)
  try clear hH
  intro w2 hH
  change Hp _ _ _ [_] at hH
  repeat (refine WL_nil ?_)
  exact WS_retc1 Try.func30 rfl rfl (hH.b 0 rfl) rfl (Ty.shp rfl) ⟨rfl, hH.ext⟩
/-- A macroblock's kind tells whether it is made by itself. -/
theorem alone19 {cs : List Value} {w : World} (h : MC cs) : Does Try.prog 31 #[.agg cs.toArray] w fun v w' => (∃ b : Bool, v = .bool b) ∧ Ext [] w w' := by
  refine Does_of (args := [_]) Try.func31 rfl rfl Try.ntmps31 rfl ?_
  have hH := Hp.start w
  repeat (first | refine WS_seq ?_ | refine WS_region ?_)
  refine WL_s (H_box (cs := cs.toArray) hH rfl rfl rfl ?_)
  try clear hH
  intro w1 b hH
  have hS : SlA w1 (some ⟨b, 0, none⟩) cs := (hH.b 0 rfl).sl0
  obtain ⟨k, hk, hk0⟩ := h.k
  by_cases h3 : k = 3
  · repeat (first | refine WS_seq ?_ | refine WS_region ?_ | refine WL_nil ?_ | refine WL_gno rfl rfl rfl rfl rfl ?_ | (refine WL_r (by first | refine k_fa rfl (Ty.fld rfl rfl) | refine k_loads rfl hS hk0 (Ty.shp rfl) | refine (k_eql (q := .u8) rfl rfl).is (bT (by omega)) | refine Run_pev rfl | apply k_makeFunc) rfl ?_))
    exact WS_ret1 Try.func31 rfl ⟨⟨_, rfl⟩, hH.ext⟩
  · repeat (first | refine WS_seq ?_ | refine WS_region ?_ | refine WL_nil ?_ | refine WL_gyes rfl rfl rfl ?_ | (refine WL_r (by first | refine k_fa rfl (Ty.fld rfl rfl) | refine k_loads rfl hS hk0 (Ty.shp rfl) | refine (k_eql (q := .u8) rfl rfl).is (bF (by omega)) | refine Run_pev rfl | apply k_makeFunc) rfl ?_))
    exact WS_ret1 Try.func31 rfl ⟨⟨_, rfl⟩, hH.ext⟩
/-- Four vectors by small numbers. -/
structure W9 (zs : List Value) : Prop where
  len : zs.length = 9
  x : ∀ i, i < 8 → ∃ n : Int, (-128 ≤ n ∧ n ≤ 127) ∧ zs[i]? = some (.int .i8 n)
  b : ∃ b : Bool, zs[8]? = some (.bool b)
theorem VG.set {vs : List Value} (h : ∀ u ∈ vs, VG u) {i : Nat} {u : Value} (hu : VG u) : ∀ v ∈ vs.set i u, VG v := fun v hv => by
  rcases List.mem_or_eq_of_mem_set hv with h1 | h1
  · exact h v h1
  · subst h1; exact hu
set_option maxRecDepth 20000 in
set_option maxHeartbeats 2000000 in
theorem vectors19 {zs : List Value} {w : World} (hz : W9 zs) : Does Try.prog 29 #[.agg zs.toArray] w fun v w' => ∃ vs : List Value, vs.length = 4 ∧ (∀ u ∈ vs, VG u) ∧ v = .agg vs.toArray ∧ Ext [] w w' := by
  refine Does_of (args := [_]) Try.func29 rfl rfl Try.ntmps29 rfl ?_
  have hH := Hp.start w
  repeat (first | refine WS_seq ?_ | refine WS_region ?_)
  refine WL_s (H_box (cs := zs.toArray) hH rfl rfl rfl ?_)
  try clear hH
  intro w1 b1 hH
  change Hp _ _ _ [_] at hH
  skip
  refine WL_s (H_alloc hH (Ty.zer rfl) rfl ?_)
  try clear hH
  intro w2 b2 hH
  change Hp _ _ _ [_, _] at hH
  repeat (first | refine WS_seq ?_ | refine WS_region ?_ | refine WL_nil ?_)
  refine WL_s (H_alloc hH (Ty.zer rfl) rfl ?_)
  try clear hH
  intro w3 b3 hH
  change Hp _ _ _ [_, _, _] at hH
  repeat (first | refine WS_seq ?_ | refine WS_region ?_ | refine WL_nil ?_ | refine WS_block ?_ | (refine WL_r (by first | refine Run_pev rfl | apply k_makeFunc) rfl ?_))
  refine WS_loop (G := (Nat) × (List Value)) (fun | (i, vs) => 4 - i) 67108848 (fun | (i, vs) => [(5, .int .i64 i)]) (fun | (i, vs), w' => i ≤ 4 ∧ vs.length = 4 ∧ (∀ u ∈ vs, VG u) ∧ Hp [] w w' [Rb b1 25 zs.toArray, Rb b2 35 (List.replicate 4 (Value.complex .f64 0 0)).toArray, Rb b3 35 vs.toArray]) (0, List.replicate 4 (Value.complex .f64 0 0)) ⟨rfl, trivial⟩ ⟨by omega, by simp, fun u hu => by rw [(List.mem_replicate.1 hu).2]; exact cv0, hH⟩ ?_
  rintro ⟨i, vs⟩ u1 σ ⟨hi, hl, hv, hH⟩ IH
  show WS _ _ _ _ _ (updL [(5, .int .i64 i)] _) _
  by_cases hlt : i < 4
  · obtain ⟨x, hx, hxv⟩ := hz.x i (by omega)
    obtain ⟨y, hy, hyv⟩ := hz.x (4 + i) (by omega)
    obtain ⟨bb, hbv⟩ := hz.b
    have hzl := hz.len
    have hB1 : Blk u1 b1 25 zs.toArray := hH.b 0 rfl
    have hSx : SlA u1 (some ⟨b1, 0 + 0, none⟩) (zs.take 4) := hB1.sl (fun j v hj => by rw [List.getElem?_take] at hj; split at hj; (rw [List.getElem?_toArray, Nat.add_zero, Nat.zero_add]; exact hj); cases hj)
    have hSy : SlA u1 (some ⟨b1, 0 + 4, none⟩) (zs.drop 4) := hB1.sl (fun j v hj => by rw [List.getElem?_drop] at hj; rw [List.getElem?_toArray, Nat.zero_add]; exact hj)
    have hxt : (zs.take 4)[(i : Int).toNat]? = some (.int .i8 x) := by rw [show (i : Int).toNat = i from rfl, List.getElem?_take, if_pos hlt]; exact hxv
    have hyt : (zs.drop 4)[(i : Int).toNat]? = some (.int .i8 y) := by rw [show (i : Int).toNat = i from rfl, List.getElem?_drop]; exact hyv
    repeat (first | refine WS_seq ?_ | refine WS_region ?_ | refine WL_nil ?_ | refine WS_block ?_ | refine WS_skip ?_ | refine WS_yes rfl (by omega) ?_ | (refine WL_r (by first | refine Run_pev rfl | apply k_makeFunc) rfl ?_))
    refine WS_specT 11 rfl (by kernel_rfl) (by kernel_rfl) [Is (.int .i64 i), Is (.int .i64 i), Is (.pointer (some ⟨b1, 0 + 0, none⟩)), Is (.pointer (some (At (some ⟨b1, 0 + 0, none⟩) (i : Int).toNat))), Is (.int .i8 x), Is (.int .i64 i), Is (.pointer (some ⟨b1, 0 + 4, none⟩)), Is (.pointer (some (At (some ⟨b1, 0 + 4, none⟩) (i : Int).toNat))), Is (.int .i8 y), (fun v _ => VG v), Is (.pointer (some ⟨b3, 0 + (i : Int).toNat, none⟩))] Ty.mixed [(261632, [], true), (259328, [], true), (258816, [], true), (255744, [(2, 10), (1, 9)], true), (126720, [(3, 11)], true), (220928, [], true), (212736, [], true), (163584, [(6, 14), (5, 13)], true), (65280, [(7, 15)], true), (130816, [(4, 12), (8, 16)], true), (261888, [(0, 8)], true)] 524032 [(9, 17), (10, 18)] (by kernel_rfl) (by kernel_rfl) (by kernel_rfl) (by kernel_rfl) (by kernel_rfl) ⟨Is.st, Is.st, Is.st, Is.st, Is.st, Is.st, Is.st, Is.st, Is.st, (by exact (fun _ _ _ h _ => h)), Is.st, trivial⟩ ⟨⟨GOk.none, ?_⟩, ⟨GOk.none, ?_⟩, ⟨GOk.none, ?_⟩, ⟨GOk.none, ?_⟩, ⟨GOk.none, ?_⟩, ⟨GOk.none, ?_⟩, ⟨GOk.none, ?_⟩, ⟨GOk.none, ?_⟩, ⟨GOk.none, ?_⟩, ⟨GOk.none, ?_⟩, ⟨GOk.none, ?_⟩, trivial⟩ ?_
    · intro w'' hE''
      intro σ''
      exact sp_is (by refine Run_pev rfl) rfl
    · intro w'' hE''
      intro σ''
      exact sp_is (by refine Run_pev rfl) rfl
    · intro w'' hE''
      intro σ''
      exact sp_is (by refine k_fa rfl (Ty.fld rfl rfl)) rfl
    · intro w'' hE''
      rintro _ rfl
      rintro _ rfl
      intro σ''
      exact sp_is (by refine k_ixa1 rfl rfl (Ty.arr rfl) (by omega)) rfl
    · intro w'' hE''
      rintro _ rfl
      intro σ''
      exact sp_is (by refine k_loads rfl (hSx.ext0 hE'') hxt (Ty.shp rfl)) rfl
    · intro w'' hE''
      intro σ''
      exact sp_is (by refine Run_pev rfl) rfl
    · intro w'' hE''
      intro σ''
      exact sp_is (by refine k_fa rfl (Ty.fld rfl rfl)) rfl
    · intro w'' hE''
      rintro _ rfl
      rintro _ rfl
      intro σ''
      exact sp_is (by refine k_ixa1 rfl rfl (Ty.arr rfl) (by omega)) rfl
    · intro w'' hE''
      rintro _ rfl
      intro σ''
      exact sp_is (by refine k_loads rfl (hSy.ext0 hE'') hyt (Ty.shp rfl)) rfl
    · intro w'' hE''
      rintro _ rfl
      rintro _ rfl
      intro σ''
      refine S_call (small19 hx hy) rfl rfl ?_
      rintro v w3'' ⟨hg, rfl⟩
      exact ⟨.refl, _, rfl, hg⟩
    · intro w'' hE''
      rintro _ rfl
      intro σ''
      exact sp_is (by refine k_ixa1 rfl rfl (Ty.arr rfl) (by omega)) rfl
    intro w'' hE''
    rintro _ h9
    rintro _ rfl
    intro σ''
    replace hH := hH.ext0 hE''
    obtain ⟨x9, y9, hx9, hy9, rfl⟩ := h9
    refine WL_s (H_storeL 2 hH rfl rfl rfl (by omega) rfl (Ty.shp rfl) ?_)
    clear hH
    intro w4 hH
    replace hH : Hp [] w w4 [Rb b1 25 zs.toArray, Rb b2 35 (List.replicate 4 (Value.complex .f64 0 0)).toArray, Rb b3 35 (vs.set (0 + (i : Int).toNat) (CV x9 y9)).toArray] := hH
    have hv2 := VG.set hv (i := 0 + (i : Int).toNat) (u := CV x9 y9) ⟨x9, y9, hx9, hy9, rfl⟩
    have hl2 : (vs.set (0 + (i : Int).toNat) (CV x9 y9)).length = 4 := by rw [List.length_set]; exact hl
    generalize vs.set (0 + (i : Int).toNat) (CV x9 y9) = us at *
    have hS1 : SlA w4 (some ⟨b1, 0, none⟩) zs := (hH.b 0 rfl).sl0
    have hS3 : SlA w4 (some ⟨b3, 0, none⟩) us := (hH.b 2 rfl).sl0
    cases bb with
    | false =>
      repeat (first | refine WS_seq ?_ | refine WS_region ?_ | refine WL_nil ?_ | refine WS_inBlock ?_ | refine WS_skip ?_ | refine WS_false rfl ?_ | (refine WL_r (by first | refine k_fa rfl (Ty.fld rfl rfl) | refine k_loads rfl hS1 hbv (Ty.shp rfl) | refine Run_pev rfl | refine k_add64 rfl rfl (by omega) | apply k_makeFunc) rfl ?_))
      refine IH (i + 1, us) _ _ ?_ ?_ ?_ ?_
      · simp only; omega
      · exact ⟨rfl, trivial⟩
      · exact (by repeat (first | with_reducible apply Agr.refl | refine Agr.upd rfl ?_ | refine Agr.updL rfl ?_ | refine Agr.mrg rfl ?_))
      · exact ⟨by omega, hl2, hv2, hH⟩
    | true =>
      have hu0 : us[0]? = some us[0] := List.getElem?_eq_getElem _
      obtain ⟨x0, y0, hx0, hy0, he0⟩ := hv2 us[0] (List.getElem_mem _)
      rw [he0] at hu0
      repeat (first | refine WS_seq ?_ | refine WS_region ?_ | refine WL_nil ?_ | refine WS_true rfl ?_ | (refine WL_r (by first | refine k_fa rfl (Ty.fld rfl rfl) | refine k_loads rfl hS1 hbv (Ty.shp rfl) | refine k_ixa1 (i := 0) rfl rfl (Ty.arr rfl) (by decide) | refine k_loads (j := 0) rfl hS3 hu0 (Ty.shp rfl) | refine k_ixa1 rfl rfl (Ty.arr rfl) (by omega) | refine Run_pev rfl | apply k_makeFunc) rfl ?_))
      refine WL_s (H_storeL 2 (o := 0 + (i : Int).toNat) hH rfl rfl rfl (by omega) rfl (Ty.shp rfl) ?_)
      clear hH
      intro w5 hH
      change Hp _ _ _ [_, _, _] at hH
      repeat (first | refine WS_region ?_ | refine WL_nil ?_ | refine WS_inBlock ?_ | (refine WL_r (by first | refine Run_pev rfl | refine k_add64 rfl rfl (by omega) | apply k_makeFunc) rfl ?_))
      refine IH (i + 1, us.set (0 + (i : Int).toNat) (CV x0 y0)) _ _ ?_ ?_ ?_ ?_
      · simp only; omega
      · exact ⟨rfl, trivial⟩
      · exact (by repeat (first | with_reducible apply Agr.refl | refine Agr.upd rfl ?_ | refine Agr.updL rfl ?_ | refine Agr.mrg rfl ?_))
      · exact ⟨by omega, by rw [List.length_set]; exact hl2, VG.set hv2 ⟨x0, y0, hx0, hy0, rfl⟩, hH⟩
  clear IH
  have hB3 : Blk u1 b3 35 vs.toArray := hH.b 2 rfl
  repeat (first | refine WS_seq ?_ | refine WS_region ?_ | refine WL_nil ?_ | refine WS_exit rfl ?_ | refine WS_no rfl (by omega) ?_ | (refine WL_r (by first | refine k_loadA rfl hB3 (by simpa using hl) (Ty.shp rfl) | refine Run_pev rfl | apply k_makeFunc) rfl ?_))
  refine WL_s (H_storeA 1 (vs := vs.toArray) hH rfl rfl rfl (by simpa using hl) rfl (fun u hu => (hv u (by simpa using hu)).one) (Ty.shp rfl) ?_)
  clear hH
  intro w6 hH
  change Hp _ _ _ [_, _, _] at hH
  repeat (refine WL_nil ?_)
  exact WS_retc1 Try.func29 rfl rfl (hH.b 1 rfl) (by simpa using hl) (Ty.shp rfl) ⟨vs, hl, hv, rfl, hH.ext⟩
end Go.Proofs.Ytccnhnijglnbmaa
