/- The walk of a code that is made; no condition but sizes of memory. -/
import Derived.Test.YtccnhnijglnbmaaSh
import Derived.Test.YtccnhnijglnbmaaCode
import Derived.Test.YtccnhnijglnbmaaK15
import Derived.Test.YtccnhnijglnbmaaK18
namespace Go.Proofs.Ytccnhnijglnbmaa
open Go Go.K Go.P Go.RowKit Go.Proofs
abbrev nv (l : List Nat) : List Value := l.map fun (n : Nat) => Value.int .i64 (n : Int)
abbrev uv (l : List Nat) : List Value := l.map fun (n : Nat) => Value.int .u64 (n : Int)
/-- A code in memory. -/
structure CD where
  sz : List Nat
  ws : List Nat
  T : List Int
  a0 : Option Addr
  c0 : Nat
  a1 : Option Addr
  c1 : Nat
  a2 : Option Addr
  n2 : Nat
  c2 : Nat
abbrev CD.cs (D : CD) : Array Value := #[.slice D.a0 D.sz.length D.c0, .slice D.a1 D.sz.length D.c1, .slice D.a2 D.n2 D.c2]
def RC (p : Nat) (D : CD) : Res := Res.and (Rb p 81 D.cs) (Res.and (Rs D.a0 (nv D.sz)) (Res.and (Rs D.a1 (uv D.ws)) (Rs D.a2 (iv D.T))))
abbrev CD.ok (D : CD) : Prop := GC D.sz D.ws D.T ∧ D.T.length = 2 * D.n2
theorem rs_fp {a : Option Addr} {vs : List Value} {x : Nat} (h : x ∈ (Rs a vs).fp) : x ∈ blk a := by
  have h' : x ∈ (if vs = [] then [] else blk a) := h
  split at h'
  · cases h'
  · exact h'
theorem RC.new {p n0 n2 : Nat} {a0 a1 a2 : Option Addr} {c0 c1 c2 : Nat} {sz ws : List Nat} {T : List Int} {w w' : World} (hn : sz.length = n0) (h : Hp [] w w' [Rb p 81 #[.slice a0 n0 c0, .slice a1 n0 c1, .slice a2 n2 c2], Ro 3 1 a0 n0 c0 (nv sz), Ro 26 1 a1 n0 c1 (uv ws), Ro 88 2 a2 n2 c2 (iv T)]) :
    New (RC p ⟨sz, ws, T, a0, c0, a1, c1, a2, n2, c2⟩) w w' := by
  subst hn
  refine ⟨h.ext, ⟨h.b 0 rfl, (h.o 1 rfl).sl, (h.o 2 rfl).sl, (h.o 3 rfl).sl⟩, fun x hx => ?_⟩
  have key : ∀ (i : Nat) (r : Res), [Rb p 81 #[.slice a0 sz.length c0, .slice a1 sz.length c1, .slice a2 n2 c2], Ro 3 1 a0 sz.length c0 (nv sz), Ro 26 1 a1 sz.length c1 (uv ws), Ro 88 2 a2 n2 c2 (iv T)][i]? = some r → x ∈ r.fp → w.heap.size ≤ x := fun i r hi hr => by
    rcases h.new r (List.mem_of_getElem? hi) x hr with h1 | h1
    · cases h1
    · exact h1
  rcases List.mem_append.1 hx with hx | hx
  · exact key 0 _ rfl hx
  rcases List.mem_append.1 hx with hx | hx
  · exact key 1 _ rfl (rs_fp hx)
  rcases List.mem_append.1 hx with hx | hx
  · exact key 2 _ rfl (rs_fp hx)
  · exact key 3 _ rfl (rs_fp hx)
/-- What New answers. -/
def CNew (l : List Int) (v : Value) (w w' : World) : Prop :=
  (¬ (1 ≤ l.length ∧ l.length ≤ 64) ∧ v = .tuple #[np, .int .i64 7] ∧ Ext [] w w') ∨
  ((1 ≤ l.length ∧ l.length ≤ 64) ∧ (∃ x ∈ l, ¬ (1 ≤ x ∧ x ≤ 32)) ∧ v = .tuple #[np, .int .i64 2] ∧ Ext [] w w') ∨
  ∃ sz : List Nat, l = sz.map (fun (n : Nat) => (n : Int)) ∧ (1 ≤ sz.length ∧ sz.length ≤ 64) ∧ (∀ n ∈ sz, 1 ≤ n ∧ n ≤ 32) ∧
    ((codeOf sz = none ∧ v = .tuple #[np, .int .i64 8] ∧ Ext [] w w') ∨ ∃ p D, D.sz = sz ∧ D.ok ∧ v = .tuple #[pt p, .int .i64 0] ∧ New (RC p D) w w')
/-- A row of one's own, behind W0. -/
def IsO (W0 : Nat) (e : TypeId) (n : Nat) (vs : List Value) : Value → World → Prop := fun v w => ∃ a c, v = .slice a n c ∧ Own w e 1 a n c vs ∧ ∀ x ∈ blk a, W0 ≤ x
theorem IsO.st {W0 n : Nat} {e : TypeId} {vs : List Value} : Stable (IsO W0 e n vs) := fun _ _ _ ⟨a, c, h, hO, hf⟩ hE => ⟨a, c, h, hO.ext0 hE, hf⟩
/-- The parts of a code, behind W0. -/
def Parts (W0 n : Nat) (vs : List Value) (a : Option Addr) (c b5 b6 : Nat) (w : World) : Prop :=
  (Own w 3 1 a n c vs ∧ ∀ x ∈ blk a, W0 ≤ x) ∧ (Blk w b5 26 (madeCells [Value.int .u64 0].toArray (n * 1)) ∧ W0 ≤ b5) ∧ (Blk w b6 88 (madeCells [Value.int .i64 0, Value.int .i64 0].toArray (1 * 2)) ∧ W0 ≤ b6)
theorem Parts.ext0 {W0 n : Nat} {vs : List Value} {a : Option Addr} {c b5 b6 : Nat} {w w' : World} (h : Parts W0 n vs a c b5 b6 w) (hE : Ext [] w w') : Parts W0 n vs a c b5 b6 w' := ⟨⟨h.1.1.ext0 hE, h.1.2⟩, ⟨h.2.1.1.ext0 hE, h.2.1.2⟩, ⟨h.2.2.1.ext0 hE, h.2.2.2⟩⟩
abbrev csO (n : Nat) (a : Option Addr) (c b5 b6 : Nat) : Array Value := #[.slice a n c, .slice (some ⟨b5, 0, none⟩) n n, .slice (some ⟨b6, 0, none⟩) 1 1]
def IsP (W0 n : Nat) (vs : List Value) : Value → World → Prop := fun v w => ∃ a c b5 b6, v = .agg (csO n a c b5 b6) ∧ Parts W0 n vs a c b5 b6 w
theorem IsP.st {W0 n : Nat} {vs : List Value} : Stable (IsP W0 n vs) := fun _ _ _ ⟨a, c, b5, b6, h, hP⟩ hE => ⟨a, c, b5, b6, h, hP.ext0 hE⟩
theorem made2 (x y : Value) : madeCells [x, y].toArray (1 * 2) = #[x, y] := by
  refine Array.ext (by simp [size_madeCells]) (fun i h1 h2 => ?_)
  have : i = 0 ∨ i = 1 := by simp at h2; omega
  rcases this with rfl | rfl <;> simp [madeCells]
def IsQ (W0 n : Nat) (vs : List Value) : Value → World → Prop := fun v w => ∃ a c b5 b6 b8, v = pt b8 ∧ Parts W0 n vs a c b5 b6 w ∧ Blk w b8 81 (csO n a c b5 b6) ∧ W0 ≤ b8
theorem IsQ.st {W0 n : Nat} {vs : List Value} : Stable (IsQ W0 n vs) := fun _ _ _ ⟨a, c, b5, b6, b8, h, hP, hB, hb⟩ hE => ⟨a, c, b5, b6, b8, h, hP.ext0 hE, hB.ext0 hE, hb⟩
theorem blk_ne {w : World} {b b' : Nat} {e e' : TypeId} {cs cs' : Array Value} (h : Blk w b e cs) (h' : Blk w b' e' cs') (hne : e ≠ e') : b ≠ b' := fun hb => by
  subst hb
  have h3 : some (Obj.cells cs e (0, 0)) = some (Obj.cells cs' e' (0, 0)) := h.symm.trans h'
  simp only [Option.some.injEq, Obj.cells.injEq] at h3
  exact hne h3.2.1
theorem own_ne {w : World} {b sz n c : Nat} {e e' : TypeId} {cs : Array Value} {a : Option Addr} {vs : List Value} (h : Blk w b e cs) (h' : Own w e' sz a n c vs) (hne : e ≠ e') : b ∉ blk a := fun hb => by
  obtain ⟨_, _, _, ⟨rfl, _⟩ | ⟨b', cur, rfl, hB, _⟩⟩ := h'
  · cases hb
  · exact blk_ne h hB hne (by simpa [blk] using hb)
theorem IsQ.hp {w w' : World} {n : Nat} {vs : List Value} {v : Value} (hn : n ≤ 9223372036854775807) (hE : Ext [] w w') (h : IsQ w.heap.size n vs v w') : ∃ a c b5 b6 b8, v = pt b8 ∧
    Hp [] w w' [Rb b8 81 (csO n a c b5 b6), Ro 3 1 a n c vs, Ro 26 1 (some ⟨b5, 0, none⟩) n n (uv (List.replicate n 0)), Ro 88 2 (some ⟨b6, 0, none⟩) 1 1 (iv [0, 0])] := by
  obtain ⟨a, c, b5, b6, b8, rfl, ⟨⟨hO, hf⟩, ⟨hB5, h5⟩, ⟨hB6, h6⟩⟩, hB8, h8⟩ := h
  refine ⟨a, c, b5, b6, b8, rfl, ?_⟩
  have h0 : Hp [] w w' [Rb b8 81 (csO n a c b5 b6), Ro 3 1 a n c vs, Rb b5 26 (madeCells [Value.int .u64 0].toArray (n * 1)), Rb b6 88 (madeCells [Value.int .i64 0, Value.int .i64 0].toArray (1 * 2))] := by
    refine ⟨hE, fun r hr => ?_, fun r hr x hx => .inr ?_, ?_⟩
    · simp only [List.mem_cons, List.not_mem_nil, or_false] at hr
      rcases hr with rfl | rfl | rfl | rfl
      · exact hB8
      · exact hO
      · exact hB5
      · exact hB6
    · simp only [List.mem_cons, List.not_mem_nil, or_false] at hr
      rcases hr with rfl | rfl | rfl | rfl
      · have : x = b8 := by simpa [Rb] using hx
        omega
      · exact hf x hx
      · have : x = b5 := by simpa [Rb] using hx
        omega
      · have : x = b6 := by simpa [Rb] using hx
        omega
    · have d1 : ∀ {b : Nat} {e : TypeId} {cs : Array Value}, Blk w' b e cs → e ≠ 3 → Dj (Rb b e cs) (Ro 3 1 a n c vs) := fun {b e cs} hB hne x hx hx' => by
        have : x = b := by simpa [Rb] using hx
        subst this
        exact own_ne hB hO hne hx'
      have d2 : ∀ {b b' : Nat} {e e' : TypeId} {cs cs' : Array Value}, Blk w' b e cs → Blk w' b' e' cs' → e ≠ e' → Dj (Rb b e cs) (Rb b' e' cs') := fun {b b' e e' cs cs'} hB hB' hne x hx hx' => by
        have h1 : x = b := by simpa [Rb] using hx
        have h2 : x = b' := by simpa [Rb] using hx'
        exact blk_ne hB hB' hne (h1.symm.trans h2)
      simp only [List.pairwise_cons, List.mem_cons, List.not_mem_nil, or_false, forall_eq_or_imp, forall_eq, List.Pairwise.nil, and_true, false_implies, implies_true]
      exact ⟨⟨d1 hB8 (by decide), d2 hB8 hB5 (by decide), d2 hB8 hB6 (by decide)⟩, ⟨(d1 hB5 (by decide)).symm, (d1 hB6 (by decide)).symm⟩, d2 hB5 hB6 (by decide)⟩
  have h1 := h0.made 2 rfl hn
  have h2 := h1.as 3 rfl (r' := Ro 88 2 (some ⟨b6, 0, none⟩) 1 1 (iv [0, 0])) (fun _ h => h) (fun h => by
    rw [made2] at h
    exact (h : Blk _ _ _ _).own (n := 1) (sz := 2) rfl (by decide))
  simpa [uv] using h2
abbrev wof (a : CE) : List Bool × Nat := (nb a.2.1 a.2.2, a.1)
theorem ints_all {l : List Int} (h : ∀ x ∈ l, 1 ≤ x ∧ x ≤ 32) : ∃ sz : List Nat, l = sz.map (fun (n : Nat) => (n : Int)) ∧ ∀ n ∈ sz, 1 ≤ n ∧ n ≤ 32 := by
  refine ⟨l.map Int.toNat, ?_, fun n hn => ?_⟩
  · rw [List.map_map]
    refine (List.map_id' l).symm.trans (List.map_congr_left fun x hx => ?_)
    have := h x hx
    show x = ((x.toNat : Nat) : Int)
    omega
  · obtain ⟨x, hx, rfl⟩ := List.mem_map.1 hn
    have := h x hx
    omega
set_option maxRecDepth 20000 in
set_option maxHeartbeats 8000000 in
theorem cnew_spec {a : Option Addr} {n0 c : Nat} {l : List Int} {w : World} (hS : SlA w a (l.map (Value.int .i64))) (hn : l.length = n0) (hlen : n0 ≤ 9223372036854775807) :
    Does Try.prog 13 #[.slice a n0 c] w fun v w' => CNew l v w w' := by
  subst hn
  refine Does_of (args := [_]) Try.func13 rfl rfl Try.ntmps13 rfl ?_
  by_cases hlo : l.length < 1
  · skip
    repeat (first | refine WS_seq ?_ | refine WS_region ?_ | refine WL_nil ?_ | refine WS_true rfl ?_ | refine WL_gno (b := true) rfl rfl (dT (by omega)) rfl rfl ?_ | (refine WL_r (by first | refine Run_pev rfl | refine k_len rfl (Ty.isl rfl) | apply k_makeFunc | refine k_pick_t (dT (by omega)) rfl) rfl ?_))
    exact WS_ret2 Try.func13 rfl (.inl ⟨by omega, rfl, .refl⟩)
  by_cases hhi : 64 < l.length
  · skip
    repeat (first | refine WS_seq ?_ | refine WS_region ?_ | refine WL_nil ?_ | refine WS_yes rfl (by omega) ?_ | refine WL_gyes rfl rfl (dF (by omega)) ?_ | (refine WL_r (by first | refine Run_pev rfl | refine k_len rfl (Ty.isl rfl) | apply k_makeFunc | refine k_pick_f (dF (by omega)) rfl) rfl ?_))
    exact WS_ret2 Try.func13 rfl (.inl ⟨by omega, rfl, .refl⟩)
  have hll : (l.map (Value.int .i64)).length = l.length := by simp
  repeat (first | refine WS_seq ?_ | refine WS_region ?_ | refine WL_nil ?_ | refine WS_skip ?_ | refine WS_no rfl (by omega) ?_ | refine WL_gyes rfl rfl (dF (by omega)) ?_ | (refine WL_r (by first | refine Run_pev rfl | refine k_len rfl (Ty.isl rfl) | apply k_makeFunc | refine k_pick_f (dF (by omega)) rfl) rfl ?_))
  refine WS_specK [IsNew w.heap.size 3 #[] (fun b => .slice (some ⟨b, 0, none⟩) 0 0), Is (.slice a l.length c), IsO w.heap.size 3 l.length (l.map (Value.int .i64)), Is (.slice a l.length c), Is (.int .i64 l.length), IsNew w.heap.size 26 (madeCells [Value.int .u64 0].toArray (l.length * 1)) (fun b => .slice (some ⟨b, 0, none⟩) l.length l.length), IsNew w.heap.size 88 (madeCells [Value.int .i64 0, Value.int .i64 0].toArray (1 * 2)) (fun b => .slice (some ⟨b, 0, none⟩) 1 1), IsP w.heap.size l.length (l.map (Value.int .i64)), IsQ w.heap.size l.length (l.map (Value.int .i64)), IsQ w.heap.size l.length (l.map (Value.int .i64))] Ty.mixed [(265289728, [], true), (264765440, [], true), (198705152, [(0, 19), (1, 20)], true), (255328256, [], true), (242745344, [(3, 22)], true), (184025088, [(4, 23)], true), (167247872, [], true), (66584576, [(2, 21), (5, 24), (6, 25)], true), (133693440, [(7, 26)], true), (267911168, [(8, 27)], true)] 267911184 [(9, 4)] (by kernel_rfl) (by kernel_rfl) (by kernel_rfl) (by kernel_rfl) (by kernel_rfl) ⟨(by exact IsNew.st), Is.st, (by exact IsO.st), Is.st, Is.st, (by exact IsNew.st), (by exact IsNew.st), (by exact IsP.st), (by exact IsQ.st), (by exact IsQ.st), trivial⟩ ⟨⟨GOk.none, ?_⟩, ⟨GOk.none, ?_⟩, ⟨GOk.none, ?_⟩, ⟨GOk.none, ?_⟩, ⟨GOk.none, ?_⟩, ⟨GOk.none, ?_⟩, ⟨GOk.none, ?_⟩, ⟨GOk.none, ?_⟩, ⟨GOk.none, ?_⟩, ⟨GOk.none, ?_⟩, trivial⟩ ?_
  · intro w'' hE''
    intro σ''
    refine S_lit (out := []) (Ty.sle rfl) (Ty.zer rfl) rfl rfl rfl (by decide) rfl ?_
    intro w3'' b'' hb'' hE3'' hB'' hs''
    exact ⟨hE3'', _, rfl, b'', rfl, hB'', by have := hE''.size; omega⟩
  · intro w'' hE''
    intro σ''
    exact sp_is (by refine Run_pev rfl) rfl
  · intro w'' hE''
    rintro _ h0
    rintro _ rfl
    intro σ''
    obtain ⟨b0, rfl, hB0, hb0⟩ := h0
    refine S_append0 (Ty.sle rfl) (Ty.zer rfl) rfl (Ty.byt rfl) (by decide) rfl hB0 rfl (hS.ext0 hE'') (by simp) (by omega) (by simp only [maxLen]; omega) rfl ?_
    intro w3'' a'' c'' hE3'' hO3'' hf''
    exact ⟨hE3'', _, rfl, a'', c'', rfl, hO3'', fun x hx => by have := hE''.size; rcases hf'' x hx with h | h <;> omega⟩
  · intro w'' hE''
    intro σ''
    exact sp_is (by refine Run_pev rfl) rfl
  · intro w'' hE''
    rintro _ rfl
    intro σ''
    exact sp_is (by refine k_len rfl (Ty.isl rfl)) rfl
  · intro w'' hE''
    rintro _ rfl
    intro σ''
    refine S_make (n := l.length) (Ty.sle rfl) (Ty.zer rfl) (Ty.byt rfl) rfl rfl rfl rfl (by omega) (by simp only [maxLen]; omega) rfl ?_
    intro w3'' b'' hb'' hE3'' hB'' hs''
    exact ⟨hE3'', _, rfl, b'', rfl, hB'', by have := hE''.size; omega⟩
  · intro w'' hE''
    intro σ''
    refine S_make (n := 1) (Ty.sle rfl) (Ty.zer rfl) (Ty.byt rfl) rfl rfl rfl rfl (by decide) (by decide) rfl ?_
    intro w3'' b'' hb'' hE3'' hB'' hs''
    exact ⟨hE3'', _, rfl, b'', rfl, hB'', by have := hE''.size; omega⟩
  · intro w'' hE''
    rintro _ h2
    rintro _ h5
    rintro _ h6
    intro σ''
    obtain ⟨a2, c2, rfl, hO2, hf2⟩ := h2
    obtain ⟨b5, rfl, hB5, hb5⟩ := h5
    obtain ⟨b6, rfl, hB6, hb6⟩ := h6
    exact S_run (k_buildS (cs := [.slice a2 l.length c2, .slice (some ⟨b5, 0, none⟩) l.length l.length, .slice (some ⟨b6, 0, none⟩) 1 1]) (Ty.zer rfl) (Ty.plc rfl) rfl) rfl ⟨.refl, _, rfl, a2, c2, b5, b6, rfl, ⟨hO2, hf2⟩, ⟨hB5, hb5⟩, ⟨hB6, hb6⟩⟩
  · intro w'' hE''
    rintro _ h7
    intro σ''
    obtain ⟨a2, c2, b5, b6, rfl, hP⟩ := h7
    refine S_box (cs := csO l.length a2 c2 b5 b6) rfl rfl rfl ?_
    intro w3'' b'' hb'' hE3'' hB'' hs''
    exact ⟨hE3'', _, rfl, a2, c2, b5, b6, b'', rfl, hP.ext0 hE3'', hB'', by have := hE''.size; omega⟩
  · intro w'' hE''
    rintro _ h8
    intro σ''
    exact S_run (k_assign rfl) rfl ⟨.refl, _, rfl, h8⟩
  intro w'' hE''
  rintro _ h9
  intro σ''
  obtain ⟨aS, cS, b5, b6, p, rfl, hH⟩ := h9.hp (by omega) hE''
  clear h9 hE''
  have hS1 := hH.old hS
  repeat (first | refine WS_seq ?_ | refine WS_region ?_ | refine WL_nil ?_ | refine WS_block ?_ | (refine WL_r (by first | refine Run_pev rfl | refine k_len rfl (Ty.isl rfl) | apply k_makeFunc) rfl ?_))
  refine WS_loop (G := (Nat)) (fun i => l.length - i) 2197949513804 (fun i => [(30, .int .i64 i)]) (fun i w' => i ≤ l.length ∧ (∀ x ∈ l.take i, 1 ≤ x ∧ x ≤ 32) ∧ Ext [] w'' w') (0) ⟨rfl, trivial⟩ ⟨by omega, by simp, .refl⟩ ?_
  rintro i u1 σ ⟨hi, hok, hW⟩ IH
  show WS _ _ _ _ _ (updL [(30, .int .i64 i)] _) _
  by_cases hlt : i < l.length
  · have hv : (l.map (Value.int .i64))[i]? = some (.int .i64 l[i]) := by simp [hlt]
    have hS2 := hS1.ext0 hW
    have hmem := List.getElem_mem hlt
    have htk : l.take (i + 1) = l.take i ++ [l[i]] := List.take_succ_eq_append_getElem hlt
    generalize l[i] = x at *
    by_cases h1 : x < 1
    · repeat (first | refine WS_seq ?_ | refine WS_region ?_ | refine WL_nil ?_ | refine WS_block ?_ | refine WS_skip ?_ | refine WS_true rfl ?_ | refine WS_yes rfl (by omega) ?_ | refine WL_gno (b := true) rfl rfl (dT (by omega)) rfl rfl ?_ | (refine WL_r (by first | refine k_ix1 rfl rfl hS2 hll (Ty.sle rfl) (by omega) | refine k_loads rfl hS2 hv (Ty.shp rfl) | refine Run_pev rfl | apply k_makeFunc | refine k_pick_t (dT (by omega)) rfl) rfl ?_))
      exact WS_ret2 Try.func13 rfl (.inr (.inl ⟨⟨by omega, by omega⟩, ⟨x, hmem, by omega⟩, rfl, (hH.ext0 hW).ext⟩))
    by_cases h2 : 32 < x
    · repeat (first | refine WS_seq ?_ | refine WS_region ?_ | refine WL_nil ?_ | refine WS_block ?_ | refine WS_skip ?_ | refine WS_yes rfl (by omega) ?_ | refine WL_gyes rfl rfl (dF (by omega)) ?_ | (refine WL_r (by first | refine k_ix1 rfl rfl hS2 hll (Ty.sle rfl) (by omega) | refine k_loads rfl hS2 hv (Ty.shp rfl) | refine Run_pev rfl | apply k_makeFunc | refine k_pick_f (dF (by omega)) rfl) rfl ?_))
      exact WS_ret2 Try.func13 rfl (.inr (.inl ⟨⟨by omega, by omega⟩, ⟨x, hmem, by omega⟩, rfl, (hH.ext0 hW).ext⟩))
    repeat (first | refine WS_seq ?_ | refine WS_region ?_ | refine WL_nil ?_ | refine WS_block ?_ | refine WS_inBlock ?_ | refine WS_skip ?_ | refine WS_yes rfl (by omega) ?_ | refine WS_no rfl (by omega) ?_ | refine WL_gyes rfl rfl (dF (by omega)) ?_ | (refine WL_r (by first | refine k_ix1 rfl rfl hS2 hll (Ty.sle rfl) (by omega) | refine k_loads rfl hS2 hv (Ty.shp rfl) | refine Run_pev rfl | refine k_add64 rfl rfl (by omega) | apply k_makeFunc | refine k_pick_f (dF (by omega)) rfl) rfl ?_))
    refine IH (i + 1) _ _ ?_ ?_ ?_ ?_
    · omega
    · exact ⟨rfl, trivial⟩
    · exact (by repeat (first | with_reducible apply Agr.refl | refine Agr.upd rfl ?_ | refine Agr.updL rfl ?_ | refine Agr.mrg rfl ?_))
    · exact ⟨by omega, fun y hy => by rw [htk] at hy; rcases List.mem_append.1 hy with h | h; exact hok y h; (simp at h; subst h; omega), hW⟩
  clear IH
  rw [List.take_of_length_le (by omega)] at hok
  obtain ⟨sz, hsz, hszok⟩ := ints_all hok
  have hlz : l.length = sz.length := by rw [hsz, List.length_map]
  have hnv : l.map (Value.int .i64) = nv sz := by rw [hsz, List.map_map]; rfl
  replace hH := hH.ext0 hW
  replace hS1 := hS1.ext0 hW
  rw [hnv] at hS1 hH hll
  repeat (first | refine WS_seq ?_ | refine WS_region ?_ | refine WL_nil ?_ | refine WS_block ?_ | refine WS_exit rfl ?_ | refine WS_no rfl (by omega) ?_ | (refine WL_r (by first | refine Run_pev rfl | apply k_makeFunc) rfl ?_))
  clear hW hok hi hlt
  refine WS_loop (G := (Nat) × (Nat) × (List CE) × (List Nat) × (List Int) × (List (List Bool)) × (Option Addr) × (Nat)) (fun | (s, wd, A, ws, T, P, a6, c6) => 33 - s) 75557863723715300165516 (fun | (s, wd, A, ws, T, P, a6, c6) => [(7, .int .u64 wd), (8, .int .i64 s)]) (fun | (s, wd, A, ws, T, P, a6, c6), w' => 1 ≤ s ∧ s ≤ 33 ∧ codeOf sz = cout (czs sz) (33 - s) s wd A ∧ CI sz s 0 (2 * wd) A ∧ (ws.length = sz.length ∧ ∀ a ∈ A, ws[a.1]? = some a.2.1) ∧ TI T P (A.map wof) [] ∧ P.length ≤ 1 + 31 * A.length ∧ Hp [] w w' [Rb p 81 #[.slice aS l.length cS, .slice (some ⟨b5, 0, none⟩) l.length l.length, .slice a6 P.length c6], Ro 3 1 aS l.length cS (nv sz), Ro 26 1 (some ⟨b5, 0, none⟩) l.length l.length (uv ws), Ro 88 2 a6 P.length c6 (iv T)]) (1, 0, [], List.replicate l.length 0, [0, 0], [[]], some ⟨b6, 0, none⟩, 1) ⟨rfl, rfl, trivial⟩ ⟨by omega, by omega, rfl, CI.zero, ⟨by rw [List.length_replicate, hlz], by simp⟩, TI.zero, by simp, hH⟩ ?_
  rintro ⟨s, wd, A, ws, T, P, a6, c6⟩ u2 σ ⟨hs1, hs33, hco, hci, ⟨hwl, hws⟩, hT, hPl, hH⟩ IH
  show WS _ _ _ _ _ (updL [(7, .int .u64 wd), (8, .int .i64 s)] _) _
  by_cases hs : s ≤ 32
  · rw [cout_start hs] at hco
    have h2s : 2 ^ s ≤ 2 ^ 32 := Nat.pow_le_pow_right (by decide) hs
    have htop := hci.top
    have hw2 : wd * 2 ^ 1 % 18446744073709551616 = 2 * wd := by rw [Nat.mod_eq_of_lt (by omega)]; omega
    have hsh : 1 * 2 ^ s % 18446744073709551616 = 2 ^ s := by rw [Nat.mod_eq_of_lt (by omega)]; omega
    obtain ⟨v, hv2⟩ : ∃ v, v = 2 * wd := ⟨_, rfl⟩
    rw [← hv2] at hw2 hco hci
    clear htop
    repeat (first | refine WS_seq ?_ | refine WS_region ?_ | refine WL_nil ?_ | refine WS_block ?_ | refine WS_skip ?_ | refine WS_yes rfl (by omega) ?_ | (refine WL_r (by first | refine (k_shlu (m := wd) (n := 1) rfl rfl).is (congrArg (fun n : Nat => Value.int .u64 (n : Int)) hw2) | refine Run_pev rfl | refine k_len rfl (Ty.isl rfl) | apply k_makeFunc) rfl ?_))
    clear hw2 hv2
    refine WS_loop (G := (Nat) × (Nat) × (List CE) × (List Nat) × (List Int) × (List (List Bool)) × (Option Addr) × (Nat)) (fun | (i, wd, A, ws, T, P, a6, c6) => l.length - i) 75557863162964369999500 (fun | (i, wd, A, ws, T, P, a6, c6) => [(7, .int .u64 wd), (49, .int .i64 i)]) (fun | (i, wd, A, ws, T, P, a6, c6), w' => i ≤ l.length ∧ codeOf sz = crest sz s i wd A ∧ CI sz s i wd A ∧ (ws.length = sz.length ∧ ∀ a ∈ A, ws[a.1]? = some a.2.1) ∧ TI T P (A.map wof) [] ∧ P.length ≤ 1 + 31 * A.length ∧ Hp [] w w' [Rb p 81 #[.slice aS l.length cS, .slice (some ⟨b5, 0, none⟩) l.length l.length, .slice a6 P.length c6], Ro 3 1 aS l.length cS (nv sz), Ro 26 1 (some ⟨b5, 0, none⟩) l.length l.length (uv ws), Ro 88 2 a6 P.length c6 (iv T)]) (0, v, A, ws, T, P, a6, c6) ⟨rfl, rfl, trivial⟩ ⟨by omega, hco, hci, ⟨hwl, hws⟩, hT, hPl, hH⟩ ?_
    rintro ⟨i, wd, A, ws, T, P, a6, c6⟩ u3 σ ⟨hi, hco, hci, ⟨hwl, hws⟩, hT, hPl, hH⟩ IH
    show WS _ _ _ _ _ (updL [(7, .int .u64 wd), (49, .int .i64 i)] _) _
    by_cases hlt : i < l.length
    · have hiz : i < sz.length := by omega
      have hS2 := hH.old hS
      rw [hnv] at hS2
      have hv : (nv sz)[i]? = some (.int .i64 (sz[i] : Nat)) := by simp [nv, hiz]
      have hnum := hci.num
      have hwtop := hci.top
      by_cases hn : sz[i] = s
      · by_cases hw : 2 ^ s ≤ wd
        · rw [crest_none hiz hn hw] at hco
          rw [hn] at hv
          repeat (first | refine WS_seq ?_ | refine WS_region ?_ | refine WL_nil ?_ | refine WS_block ?_ | refine WS_skip ?_ | refine WS_true rfl ?_ | refine WS_false rfl ?_ | refine WS_yes rfl (by omega) ?_ | (refine WL_r (by first | refine k_ix1 rfl rfl hS2 hll (Ty.sle rfl) (by omega) | refine k_loads rfl hS2 hv (Ty.shp rfl) | refine (k_shlu (m := 1) (n := s) rfl rfl).is (congrArg (fun n : Nat => Value.int .u64 (n : Int)) hsh) | refine (k_geq (q := .u64) rfl rfl).is (bT (by omega)) | refine (k_neq (q := .i64) rfl rfl).is (bF (fun h => h rfl)) | refine Run_pev rfl | apply k_makeFunc) rfl ?_))
          exact WS_ret2 Try.func13 rfl (.inr (.inr ⟨sz, hsz, ⟨by omega, by omega⟩, hszok, .inl ⟨hco, rfl, hH.ext⟩⟩))
        · rw [crest_eq hiz hn (by omega)] at hco
          have hci2 := hci.put hiz hn hs1 (by omega)
          have hfr := hci.free (show wd < 2 ^ s by omega)
          have hnew := hci.new hiz hn
          have hws2 : ∀ a ∈ A ++ [(i, wd, s)], (ws.set i wd)[a.1]? = some a.2.1 := fun a ha => by
            rcases List.mem_append.1 ha with ha | ha
            · rw [List.getElem?_set_ne (Ne.symm (hnew a ha))]; exact hws a ha
            · simp at ha; subst ha
              exact List.getElem?_set_self (by omega)
          rw [hn] at hv
          have hB := hH.b 0 rfl
          have e4 : (uv ws).set i (.int .u64 wd) = uv (ws.set i wd) := by rw [← List.map_set]
          repeat (first | refine WS_seq ?_ | refine WS_region ?_ | refine WL_nil ?_ | refine WS_block ?_ | refine WS_skip ?_ | refine WS_false rfl ?_ | refine WS_yes rfl (by omega) ?_ | (refine WL_r (by first | refine k_ix1 rfl rfl hS2 hll (Ty.sle rfl) (by omega) | refine k_loads rfl hS2 hv (Ty.shp rfl) | refine (k_shlu (m := 1) (n := s) rfl rfl).is (congrArg (fun n : Nat => Value.int .u64 (n : Int)) hsh) | refine (k_geq (q := .u64) rfl rfl).is (bF (by omega)) | refine (k_neq (q := .i64) rfl rfl).is (bF (fun h => h rfl)) | refine k_nilCheck rfl | refine k_fa rfl (Ty.fld rfl rfl) | refine k_loadb rfl hB rfl (Ty.shp rfl) | refine k_ix1S rfl rfl (Ty.sle rfl) (by omega) | refine Run_pev rfl | apply k_makeFunc) rfl ?_))
          refine WL_s (H_storeO 2 (v := .int .u64 wd) hH rfl rfl rfl (by omega) rfl (Ty.shp rfl) ?_)
          clear hH hB
          intro u4 hH
          change Hp _ _ _ [_, _, _, _] at hH
          rw [show ((i : Nat) : Int).toNat = i from rfl, e4] at hH
          replace hH := hH.merge 0 3 rfl rfl (by decide)
          change Hp _ _ _ [_, _, _] at hH
          repeat (first | refine WS_seq ?_ | refine WS_region ?_ | refine WL_nil ?_ | (refine WL_r (by refine Run_pev rfl) rfl ?_))
          try refine WL_gyes rfl rfl rfl ?_
          refine WL_s (S_call (cput_spec hT rfl (by omega) (fun u hu => by obtain ⟨a, ha, rfl⟩ := List.mem_map.1 hu; exact hfr a ha) ⟨hs1, hs⟩ (by omega) (by omega) (hH.at 0 rfl)) rfl rfl ?_)
          rintro v w8 ⟨rfl, a7, c7, n7, T7, P7, rfl, hn7, hT7, hU⟩
          replace hH := (hH.up 0 rfl hU).split 0 rfl
          clear hU
          change Hp _ _ _ [_, _, _, _] at hH
          repeat (first | refine WS_region ?_ | refine WL_nil ?_ | refine WS_inBlock ?_ | (refine WL_r (by first | refine k_addU (m := wd) (n := 1) rfl rfl (by omega) | refine Run_pev rfl | refine k_add64 rfl rfl (by omega) | apply k_makeFunc) rfl ?_))
          refine IH (i + 1, wd + 1, A ++ [(i, wd, s)], ws.set i wd, T7, P7, a7, c7) _ _ ?_ ?_ ?_ ?_
          · simp only; omega
          · exact ⟨rfl, rfl, trivial⟩
          · exact (by repeat (first | with_reducible apply Agr.refl | refine Agr.upd rfl ?_ | refine Agr.updL rfl ?_ | refine Agr.mrg rfl ?_))
          · exact ⟨by omega, hco, hci2, ⟨by rw [List.length_set]; exact hwl, hws2⟩, by rw [List.map_append]; exact hT7, by simp; omega, hH⟩
      · rw [crest_ne hiz hn] at hco
        have hci2 := hci.skip hiz hn
        repeat (first | refine WS_seq ?_ | refine WS_region ?_ | refine WL_nil ?_ | refine WS_block ?_ | refine WS_skip ?_ | refine WS_exit rfl ?_ | refine WS_true rfl ?_ | refine WS_yes rfl (by omega) ?_ | (refine WL_r (by first | refine k_ix1 rfl rfl hS2 hll (Ty.sle rfl) (by omega) | refine k_loads rfl hS2 hv (Ty.shp rfl) | refine (k_neq (q := .i64) rfl rfl).is (bT (by omega)) | refine Run_pev rfl | refine k_add64 rfl rfl (by omega) | apply k_makeFunc) rfl ?_))
        refine IH (i + 1, wd, A, ws, T, P, a6, c6) _ _ ?_ ?_ ?_ ?_
        · simp only; omega
        · exact ⟨rfl, rfl, trivial⟩
        · exact (by repeat (first | with_reducible apply Agr.refl | refine Agr.upd rfl ?_ | refine Agr.updL rfl ?_ | refine Agr.mrg rfl ?_))
        · exact ⟨by omega, hco, hci2, ⟨hwl, hws⟩, hT, hPl, hH⟩
    obtain rfl : i = l.length := by omega
    clear IH
    rw [hlz, crest_end] at hco
    rw [hlz] at hci
    have hci2 := hci.next (by omega) hs1
    repeat (first | refine WS_seq ?_ | refine WS_region ?_ | refine WL_nil ?_ | refine WS_inBlock ?_ | refine WS_exit rfl ?_ | refine WS_no rfl (by omega) ?_ | (refine WL_r (by first | refine Run_pev rfl | refine k_add64 rfl rfl (by omega) | apply k_makeFunc) rfl ?_))
    refine IH (s + 1, wd, A, ws, T, P, a6, c6) _ _ ?_ ?_ ?_ ?_
    · simp only; omega
    · exact ⟨rfl, rfl, trivial⟩
    · exact (by repeat (first | with_reducible apply Agr.refl | refine Agr.upd rfl ?_ | refine Agr.updL rfl ?_ | refine Agr.mrg rfl ?_))
    · exact ⟨by omega, by omega, by rw [show 33 - (s + 1) = 32 - s by omega]; exact hco, hci2, ⟨hwl, hws⟩, hT, hPl, hH⟩
  obtain rfl : s = 33 := by omega
  clear IH
  repeat (first | refine WS_seq ?_ | refine WS_region ?_ | refine WL_nil ?_ | refine WS_exit rfl ?_ | refine WS_false rfl ?_ | (refine WL_r (by first | refine Run_pev rfl | apply k_makeFunc) rfl ?_))
  exact WS_ret2 Try.func13 rfl (.inr (.inr ⟨sz, hsz, ⟨by omega, by omega⟩, hszok, .inr ⟨p, ⟨sz, ws, T, aS, cS, some ⟨b5, 0, none⟩, l.length, a6, P.length, c6⟩, rfl, ⟨⟨⟨show 1 ≤ sz.length by omega, show sz.length ≤ 64 by omega⟩, hszok, hwl, A, _, P, hco, hci, hws, hT⟩, hT.len⟩, rfl, RC.new hlz.symm hH⟩⟩))
end Go.Proofs.Ytccnhnijglnbmaa
