/- More walks of the package bits: all with a 1 behind; how many bits are ahead of it; nil writers and readers; no condition but sizes of memory. -/
import Derived.Test.YtnamafelcjgjfaaSh
import Derived.Test.YtnamafelcjgjfaaBits
namespace Go.Proofs.Ytnamafelcjgjfaa
open Go Go.K Go.P Go.RowKit Go.Proofs
/-- The place of the last 1 in bytes, if the last byte isn't nought. -/
def SizeR (l : List Nat) (v : Value) : Prop :=
  (l.getD (l.length - 1) 0 = 0 ∧ v = .tuple #[.int .i64 0, .bool false]) ∨ (l.getD (l.length - 1) 0 ≠ 0 ∧ ∃ n, n < 8 * l.length ∧ bitAt l n = true ∧ (∀ j, n < j → bitAt l j = false) ∧ v = .tuple #[.int .i64 (n : Nat), .bool true])
theorem and1_zero (x k : Nat) : (x / 2 ^ k &&& 1 = 0) ↔ x.testBit k = false := by
  rw [Nat.and_one_is_mod, Nat.testBit_eq_decide_div_mod_eq]
  have := Nat.mod_two_eq_zero_or_one (x / 2 ^ k)
  rcases this with h | h <;> simp [h]
theorem low_bits {c : Nat} (hc : c < 256) (h0 : c ≠ 0) : ¬ ∀ j, j < 8 → c.testBit j = false := fun h => h0 (by
  refine byte_ext hc (by decide) (fun j hj => ?_)
  rw [h _ (by omega)]; simp)
theorem bit_end (l : List Nat) (j : Nat) (h : 8 * l.length ≤ j) : bitAt l j = false := by
  unfold bitAt
  rw [List.getD_eq_getElem?_getD, List.getElem?_eq_none (by omega)]
  simp
set_option maxHeartbeats 1000000 in
theorem size_spec {n cap : Nat} {a : Option Addr} {l : List Nat} {w : World} (hS : SlA w a (l.map B)) (hl : Byt l) (hn : l.length = n) (hlen : n ≤ 1099511627776) :
    Does Try.prog 43 #[.slice a n cap] w fun v w' => SizeR l v ∧ w' = w := by
  subst hn
  refine Does_of (args := [_]) Try.func43 rfl rfl Try.ntmps43 rfl ?_
  by_cases h0 : l.length = 0
  · have : l = [] := List.eq_nil_of_length_eq_zero h0
    subst this
    repeat (first | refine WS_seq ?_ | refine WS_region ?_ | refine WL_nil ?_ | refine WS_true rfl ?_ | refine WL_gno rfl rfl rfl rfl rfl ?_ | (refine WL_r (by first | refine Run_pev rfl | refine k_len rfl (Ty.isl rfl) | apply k_makeFunc) rfl ?_))
    exact WS_ret2 Try.func43 rfl ⟨.inl ⟨rfl, rfl⟩, rfl⟩
  have hv : (l.map B)[((l.length : Int) - 1).toNat]? = some (B (l.getD (l.length - 1) 0)) := by
    rw [show ((l.length : Int) - 1).toNat = l.length - 1 by omega, List.getElem?_map, List.getD_eq_getElem?_getD, List.getElem?_eq_getElem (by omega)]; rfl
  have hc : l.getD (l.length - 1) 0 < 256 := by
    rw [List.getD_eq_getElem?_getD, List.getElem?_eq_getElem (by omega)]; exact hl _ (List.getElem_mem _)
  have hbit : ∀ k, k < 8 → bitAt l (8 * l.length - 1 - k) = (l.getD (l.length - 1) 0).testBit k := fun k hk => by
    unfold bitAt
    rw [show (8 * l.length - 1 - k) / 8 = l.length - 1 by omega, show 7 - (8 * l.length - 1 - k) % 8 = k by omega]
  unfold SizeR
  generalize l.getD (l.length - 1) 0 = c at *
  by_cases hc0 : c = 0
  · repeat (first | refine WS_seq ?_ | refine WS_region ?_ | refine WL_nil ?_ | refine WS_yes rfl (by omega) ?_ | refine WL_gyes rfl rfl (dF (by omega)) ?_ | (refine WL_r (by first | refine k_ix1 rfl rfl hS (by simp) (Ty.sle rfl) (by omega) | refine k_loads rfl hS hv (Ty.shp rfl) | refine Run_pev rfl | refine k_sub64 rfl rfl (by omega) | refine k_len rfl (Ty.isl rfl) | apply k_makeFunc | refine k_pick_f (dF (by omega)) rfl) rfl ?_))
    exact WS_ret2 Try.func43 rfl ⟨.inl ⟨hc0, rfl⟩, rfl⟩
  have hlow := low_bits hc hc0
  repeat (first | refine WS_seq ?_ | refine WS_region ?_ | refine WL_nil ?_ | refine WS_block ?_ | refine WS_skip ?_ | refine WS_no rfl (by omega) ?_ | refine WL_gyes rfl rfl (dF (by omega)) ?_ | (refine WL_r (by first | refine k_ix1 rfl rfl hS (by simp) (Ty.sle rfl) (by omega) | refine k_loads rfl hS hv (Ty.shp rfl) | refine Run_pev rfl | refine k_sub64 rfl rfl (by omega) | refine k_len rfl (Ty.isl rfl) | refine k_mul64 rfl rfl (by omega) | apply k_makeFunc | refine k_pick_f (dF (by omega)) rfl) rfl ?_))
  refine WS_loop (G := (Nat)) (fun k => 8 - k) 34091302960 (fun k => [(4, .int .i64 (8 * (l.length : Int) - 1 - k)), (5, .int .u8 (c / 2 ^ k : Nat))]) (fun k w' => k < 8 ∧ (∀ j, j < k → c.testBit j = false) ∧ w' = w) (0) ⟨congrArg (Value.int .i64) (by omega), congrArg (fun n : Nat => Value.int .u8 (n : Int)) (by simp), trivial⟩ ⟨by omega, fun j hj => by omega, rfl⟩ ?_
  rintro k w' σ ⟨hk, hz, hw⟩ IH
  show WS _ _ _ _ _ (updL [(4, .int .i64 (8 * (l.length : Int) - 1 - k)), (5, .int .u8 (c / 2 ^ k : Nat))] _) _
  subst hw
  have hq : c / 2 ^ k < 256 := Nat.lt_of_le_of_lt (Nat.div_le_self _ _) hc
  have ha := and1_zero c k
  have hdd : c / 2 ^ k / 2 ^ 1 = c / 2 ^ (k + 1) := by rw [Nat.div_div_eq_div_mul, ← Nat.pow_add]
  by_cases hb : c.testBit k = false
  · have ha' := ha.2 hb
    have hz' : ∀ j, j < k + 1 → c.testBit j = false := fun j hj => by
      rcases Nat.lt_or_ge j k with h | h
      · exact hz j h
      · have : j = k := by omega
        subst this; exact hb
    have hk8 : k + 1 < 8 := by
      rcases Nat.lt_or_ge (k + 1) 8 with h | h
      · exact h
      · exact absurd (fun j hj => hz' j (by omega)) hlow
    repeat (first | refine WS_seq ?_ | refine WS_region ?_ | refine WL_nil ?_ | refine WS_block ?_ | refine WS_inBlock ?_ | refine WS_skip ?_ | refine WS_true rfl ?_ | (refine WL_r (by first | refine k_and (n := 1) rfl rfl (fit8 hq) rfl | refine (k_eql rfl rfl).is (bT (by omega)) | refine (k_shr (n := 1) rfl rfl (fit8 hq)).is (congrArg (fun n : Nat => Value.int .u8 (n : Int)) hdd) | refine Run_pev rfl | refine k_sub64 rfl rfl (by omega) | apply k_makeFunc) rfl ?_))
    refine IH (k + 1) _ _ ?_ ?_ ?_ ?_
    · omega
    · exact ⟨congrArg (Value.int .i64) (by omega), rfl, trivial⟩
    · exact (by repeat (first | with_reducible apply Agr.refl | refine Agr.upd rfl ?_ | refine Agr.updL rfl ?_ | refine Agr.mrg rfl ?_))
    · exact ⟨hk8, hz', rfl⟩
  · have ha' : ¬ (c / 2 ^ k &&& 1 = 0) := fun h => hb (ha.1 h)
    have hb1 : c.testBit k = true := by simpa using hb
    repeat (first | refine WS_seq ?_ | refine WS_region ?_ | refine WL_nil ?_ | refine WS_exit rfl ?_ | refine WS_false rfl ?_ | (refine WL_r (by first | refine k_and (n := 1) rfl rfl (fit8 hq) rfl | refine (k_eql rfl rfl).is (bF (by omega)) | refine Run_pev rfl | apply k_makeFunc) rfl ?_))
    refine WS_ret2 Try.func43 rfl ⟨.inr ⟨hc0, 8 * l.length - 1 - k, by omega, by rw [hbit k hk]; exact hb1, fun j hj => ?_, congrArg (fun i : Int => Value.tuple #[.int .i64 i, .bool true]) (show (8 * (l.length : Int) - 1 - k) = ((8 * l.length - 1 - k : Nat) : Int) by omega)⟩, rfl⟩
    rcases Nat.lt_or_ge j (8 * l.length) with h | h
    · have := hbit (8 * l.length - 1 - j) (by omega)
      rw [show 8 * l.length - 1 - (8 * l.length - 1 - j) = j by omega] at this
      rw [this]; exact hz _ (by omega)
    · exact bit_end l j h
/-- A block that is new, behind W0. -/
def IsNew (W0 : Nat) (e : TypeId) (cs : Array Value) (g : Nat → Value) : Value → World → Prop := fun v w => ∃ b, v = g b ∧ Blk w b e cs ∧ W0 ≤ b
theorem IsNew.st {W0 : Nat} {e : TypeId} {cs : Array Value} {g : Nat → Value} : Stable (IsNew W0 e cs g) := fun _ _ _ ⟨b, h, hB, hb⟩ hE => ⟨b, h, hB.ext0 hE, hb⟩
/-- Bytes of one's own, behind W0. -/
def IsOwn (W0 : Nat) (l : List Nat) (g : Option Addr → Nat → Value) : Value → World → Prop := fun v w => ∃ a c, v = g a c ∧ (RBy a c l).holds w ∧ ∀ x ∈ (RBy a c l).fp, W0 ≤ x
theorem IsOwn.st {W0 : Nat} {l : List Nat} {g : Option Addr → Nat → Value} : Stable (IsOwn W0 l g) := fun _ _ _ ⟨a, c, h, hR, hf⟩ hE => ⟨a, c, h, (RBy a c l).keep hR hE (by simp), hf⟩
theorem dj_types {w : World} {b : Nat} {a : Option Addr} {c : Nat} {l : List Nat} {cs : Array Value} (h1 : Blk w b 54 cs) (h2 : (RBy a c l).holds w) : Dj (Rb b 54 cs) (RBy a c l) := by
  intro x hx hx'
  have hxb : x = b := by simpa [Rb] using hx
  subst hxb
  obtain ⟨_, _, _, ⟨rfl, _⟩ | ⟨b', cur, rfl, hB, _⟩⟩ := (h2 : Own _ _ _ _ _ _ _)
  · simp [RBy, Ro, blk] at hx'
  · have : x = b' := by simpa [RBy, Ro, blk] using hx'
    subst this
    have h3 := hB.symm.trans h1
    simp at h3
set_option maxHeartbeats 2000000 in
theorem wdone_spec {p c : Nat} {a : Option Addr} {bs : List Bool} {w : World} (hR : (Rw p a c bs).holds w) (hbl : bs.length ≤ 1099511627776) : Does Try.prog 48 #[pt p] w fun v w' => ∃ a' c', v = .slice a' (pk (bs ++ [true])).length c' ∧ New (RBy a' c' (pk (bs ++ [true]))) w w' := by
  refine Does_of (args := [_]) Try.func48 rfl rfl Try.ntmps48 rfl ?_
  have hB : Blk w p 54 #[.slice a (pk bs).length c, .int .i64 bs.length] := hR.1
  have hO : SlA w a ((pk bs).map B) := (hR.2.1 : Own _ _ _ _ _ _ _).sl
  have hpl := pk_len bs
  repeat (first | refine WS_seq ?_ | refine WS_region ?_ | refine WL_nil ?_ | refine WS_skip ?_ | refine WS_false rfl ?_ | (refine WL_r (by first | refine k_pnil rfl rfl (.inr rfl) ptrW | refine Run_pev rfl | apply k_makeFunc) rfl ?_))
  refine WS_specT 12 rfl (by kernel_rfl) (by kernel_rfl) [IsNew w.heap.size 5 #[] (fun b => .slice (some ⟨b, 0, none⟩) 0 0), Is (pt p), Is (pt p), Is (.pointer (some ⟨p, 0 + 0, none⟩)), Is (.slice a (pk bs).length c), IsOwn w.heap.size (pk bs) (fun a' c' => .slice a' (pk bs).length c'), Is (pt p), Is (pt p), Is (.pointer (some ⟨p, 0 + 1, none⟩)), Is (.int .i64 bs.length), IsOwn w.heap.size (pk bs) (fun a' c' => .agg #[.slice a' (pk bs).length c', .int .i64 bs.length]), IsNew w.heap.size 54 #[.slice none 0 0, .int .i64 0] (fun b => pt b)] Ty.mixed [(128904, [], true), (130632, [], true), (130248, [(1, 7)], true), (129480, [(2, 8)], true), (127944, [(3, 9)], true), (63432, [(0, 6), (4, 10)], true), (118728, [], true), (106440, [(6, 12)], true), (81864, [(7, 13)], true), (32712, [(8, 14)], true), (65480, [(5, 11), (9, 15)], true), (131008, [], true)] 131016 [(10, 16), (11, 3)] (by kernel_rfl) (by kernel_rfl) (by kernel_rfl) (by kernel_rfl) (by kernel_rfl) ⟨(by exact IsNew.st), Is.st, Is.st, Is.st, Is.st, (by exact IsOwn.st), Is.st, Is.st, Is.st, Is.st, (by exact IsOwn.st), (by exact IsNew.st), trivial⟩ ⟨⟨GOk.none, ?_⟩, ⟨GOk.none, ?_⟩, ⟨GOk.none, ?_⟩, ⟨GOk.none, ?_⟩, ⟨GOk.none, ?_⟩, ⟨GOk.none, ?_⟩, ⟨GOk.none, ?_⟩, ⟨GOk.none, ?_⟩, ⟨GOk.none, ?_⟩, ⟨GOk.none, ?_⟩, ⟨GOk.none, ?_⟩, ⟨GOk.none, ?_⟩, trivial⟩ ?_
  · intro w'' hE''
    intro σ''
    refine S_lit (out := []) (Ty.sle rfl) (Ty.zer rfl) rfl rfl rfl (by decide) rfl ?_
    intro w3'' b'' hb'' hE3'' hB'' hs''
    exact ⟨hE3'', _, rfl, b'', rfl, hB'', by have := hE''.size; omega⟩
  · intro w'' hE''
    intro σ''
    exact sp_is (by refine Run_pev rfl) rfl
  · intro w'' hE''
    rintro _ rfl
    intro σ''
    exact sp_is (by refine Run_pev rfl) rfl
  · intro w'' hE''
    rintro _ rfl
    intro σ''
    exact sp_is (by refine k_fa rfl (Ty.fld rfl rfl)) rfl
  · intro w'' hE''
    rintro _ rfl
    intro σ''
    exact sp_is (by refine k_loadb rfl (hB.ext0 hE'') rfl (Ty.shp rfl)) rfl
  · intro w'' hE''
    rintro _ h0
    rintro _ rfl
    intro σ''
    obtain ⟨b0, rfl, hB0, hb0⟩ := h0
    refine S_append0 (Ty.sle rfl) (Ty.zer rfl) rfl (Ty.byt rfl) (by decide) rfl hB0 rfl (hO.ext0 hE'') (by simp) (by omega) (by simp only [maxLen]; omega) rfl ?_
    intro w3'' a'' c'' hE3'' hO3'' hf''
    exact ⟨hE3'', _, rfl, a'', c'', rfl, hO3'', fun x hx => by have := hE''.size; rcases hf'' x hx with h | h <;> omega⟩
  · intro w'' hE''
    intro σ''
    exact sp_is (by refine Run_pev rfl) rfl
  · intro w'' hE''
    rintro _ rfl
    intro σ''
    exact sp_is (by refine Run_pev rfl) rfl
  · intro w'' hE''
    rintro _ rfl
    intro σ''
    exact sp_is (by refine k_fa rfl (Ty.fld rfl rfl)) rfl
  · intro w'' hE''
    rintro _ rfl
    intro σ''
    exact sp_is (by refine k_loadb rfl (hB.ext0 hE'') rfl (Ty.shp rfl)) rfl
  · intro w'' hE''
    rintro _ h5
    rintro _ rfl
    intro σ''
    obtain ⟨a5, c5, rfl, hO5, hf5⟩ := h5
    exact S_run (k_buildS (cs := [.slice a5 (pk bs).length c5, .int .i64 bs.length]) (Ty.zer rfl) (Ty.plc rfl) rfl) rfl ⟨.refl, _, rfl, a5, c5, rfl, hO5, hf5⟩
  · intro w'' hE''
    intro σ''
    refine S_alloc (Ty.zer rfl) rfl ?_
    intro w3'' b'' hb'' hE3'' hB'' hs''
    exact ⟨hE3'', _, rfl, b'', rfl, hB'', by have := hE''.size; omega⟩
  intro w'' hE''
  rintro _ h10
  rintro _ h11
  intro σ''
  obtain ⟨a5, c5, rfl, hO5, hf5⟩ := h10
  obtain ⟨b11, rfl, hB11, hb11⟩ := h11
  have hH : Hp [] w w'' [Rb b11 54 #[.slice none 0 0, .int .i64 0], RBy a5 c5 (pk bs)] :=
    ⟨hE'', by intro r hr; simp at hr; rcases hr with rfl | rfl; exact hB11; exact hO5, by intro r hr x hx; simp at hr; rcases hr with rfl | rfl; (right; simp [Rb] at hx; omega); exact .inr (hf5 x hx), by simpa using dj_types hB11 hO5⟩
  refine WL_s (S_storeA (vs := #[.slice a5 (pk bs).length c5, .int .i64 bs.length]) rfl rfl hB11 rfl rfl (by simp) (Ty.shp rfl) ?_)
  intro _ hE12 hB12 _
  replace hH := hH.up 0 (r' := Rb b11 54 #[.slice a5 (pk bs).length c5, .int .i64 bs.length]) rfl ⟨hE12, hB12, fun _ hx => .inl hx⟩
  replace hH := hH.merge 0 1 rfl rfl (by decide)
  repeat (first | refine WS_seq ?_ | refine WS_region ?_ | refine WL_nil ?_)
  try refine WL_gyes rfl rfl rfl ?_
  refine WL_s (S_call (wput_spec (p := b11) (n := 1) (s := 1) (bs := bs) (by decide) (by decide) hbl (hH.at 0 rfl)) rfl rfl ?_)
  rintro v w2 ⟨rfl, a6, c6, hU⟩
  replace hH := hH.up 0 rfl hU
  have hB6 : Blk _ b11 54 #[.slice a6 (pk (bs ++ nb 1 1)).length c6, .int .i64 (bs ++ nb 1 1).length] := (hH.at 0 rfl).1
  replace hH := hH.split 0 rfl
  repeat (first | refine WS_seq ?_ | refine WS_region ?_ | refine WL_nil ?_ | (refine WL_r (by first | refine k_fa rfl (Ty.fld rfl rfl) | refine k_loadb rfl hB6 rfl (Ty.shp rfl) | refine Run_pev rfl | apply k_makeFunc) rfl ?_))
  exact WS_ret1 Try.func48 rfl ⟨a6, c6, rfl, hH.new1 1 rfl⟩
/-! ### Nil ones -/
abbrev np : Value := .pointer none
theorem nput_spec {n : Nat} {sz : Int} {w : World} : Does Try.prog 46 #[np, .int .u64 n, .int .i64 sz] w fun v w' => v = .tuple #[] ∧ w' = w := by
  refine Does_of (args := [_, _, _]) Try.func46 rfl rfl Try.ntmps46 rfl ?_
  repeat (first | refine WS_seq ?_ | refine WS_region ?_ | refine WL_nil ?_ | refine WS_true rfl ?_ | (refine WL_r (by first | refine k_pnil rfl rfl (.inl rfl) ptrW | refine Run_pev rfl | apply k_makeFunc) rfl ?_))
  exact WS_ret0 Try.func46 rfl ⟨rfl, rfl⟩
theorem nflag_spec {w : World} : Does Try.prog 47 #[np, .bool true] w fun v w' => v = .tuple #[] ∧ w' = w := by
  refine Does_of (args := [_, _]) Try.func47 rfl rfl Try.ntmps47 rfl ?_
  repeat (first | refine WS_seq ?_ | refine WS_region ?_ | refine WL_nil ?_ | refine WS_true rfl ?_ | (refine WL_r (by refine Run_pev rfl) rfl ?_))
  try refine WL_gyes rfl rfl rfl ?_
  refine WL_s (S_call (nput_spec (n := 1)) rfl rfl ?_)
  rintro v w1 ⟨rfl, rfl⟩
  repeat (refine WL_nil ?_)
  exact WS_end0 Try.func47 rfl ⟨rfl, rfl⟩
theorem nlen_spec {w : World} : Does Try.prog 32 #[np] w fun v w' => v = .int .i64 0 ∧ w' = w := by
  refine Does_of (args := [_]) Try.func32 rfl rfl Try.ntmps32 rfl ?_
  repeat (first | refine WS_seq ?_ | refine WS_region ?_ | refine WL_nil ?_ | refine WS_true rfl ?_ | (refine WL_r (by first | refine k_pnil rfl rfl (.inl rfl) ptrW | refine Run_pev rfl | apply k_makeFunc) rfl ?_))
  exact WS_ret1 Try.func32 rfl ⟨rfl, rfl⟩
theorem nbytes_spec {w : World} : Does Try.prog 31 #[np] w fun v w' => v = .slice none 0 0 ∧ w' = w := by
  refine Does_of (args := [_]) Try.func31 rfl rfl Try.ntmps31 rfl ?_
  repeat (first | refine WS_seq ?_ | refine WS_region ?_ | refine WL_nil ?_ | refine WS_true rfl ?_ | (refine WL_r (by first | refine k_pnil rfl rfl (.inl rfl) ptrW | refine Run_pev rfl | apply k_makeFunc) rfl ?_))
  exact WS_ret1 Try.func31 rfl ⟨rfl, rfl⟩
theorem ndone_spec {w : World} : Does Try.prog 48 #[np] w fun v w' => v = .slice none 0 0 ∧ w' = w := by
  refine Does_of (args := [_]) Try.func48 rfl rfl Try.ntmps48 rfl ?_
  repeat (first | refine WS_seq ?_ | refine WS_region ?_ | refine WL_nil ?_ | refine WS_true rfl ?_ | (refine WL_r (by first | refine k_pnil rfl rfl (.inl rfl) ptrW | refine Run_pev rfl | apply k_makeFunc) rfl ?_))
  exact WS_ret1 Try.func48 rfl ⟨rfl, rfl⟩
theorem nfail_spec {w : World} : Does Try.prog 59 #[np] w fun v w' => v = .tuple #[] ∧ w' = w := by
  refine Does_of (args := [_]) Try.func59 rfl rfl Try.ntmps59 rfl ?_
  repeat (first | refine WS_seq ?_ | refine WS_region ?_ | refine WL_nil ?_ | refine WS_skip ?_ | refine WS_false rfl ?_ | (refine WL_r (by first | refine k_pnnil rfl rfl (.inl rfl) ptrR | refine Run_pev rfl | apply k_makeFunc) rfl ?_))
  exact WS_end0 Try.func59 rfl ⟨rfl, rfl⟩
theorem nbit_spec {w : World} : Does Try.prog 73 #[np] w fun v w' => v = .int .u64 0 ∧ w' = w := by
  refine Does_of (args := [_]) Try.func73 rfl rfl Try.ntmps73 rfl ?_
  repeat (first | refine WS_seq ?_ | refine WS_region ?_ | refine WL_nil ?_ | refine WS_true rfl ?_ | refine WL_gno rfl rfl rfl rfl rfl ?_ | (refine WL_r (by first | refine k_pnil rfl rfl (.inl rfl) ptrR | refine Run_pev rfl | apply k_makeFunc) rfl ?_))
  exact WS_ret1 Try.func73 rfl ⟨rfl, rfl⟩
theorem nended_spec {w : World} : Does Try.prog 26 #[np] w fun v w' => v = .bool true ∧ w' = w := by
  refine Does_of (args := [_]) Try.func26 rfl rfl Try.ntmps26 rfl ?_
  repeat (first | refine WS_seq ?_ | refine WS_region ?_ | refine WL_nil ?_ | refine WL_gno rfl rfl rfl rfl rfl ?_ | (refine WL_r (by first | refine k_pnil rfl rfl (.inl rfl) ptrR | refine Run_pev rfl | apply k_makeFunc) rfl ?_))
  exact WS_ret1 Try.func26 rfl ⟨rfl, rfl⟩
theorem nleft_spec {w : World} : Does Try.prog 35 #[np] w fun v w' => v = .int .i64 0 ∧ w' = w := by
  refine Does_of (args := [_]) Try.func35 rfl rfl Try.ntmps35 rfl ?_
  repeat (first | refine WS_seq ?_ | refine WS_region ?_ | refine WL_nil ?_ | refine WS_true rfl ?_ | refine WL_gno rfl rfl rfl rfl rfl ?_ | (refine WL_r (by first | refine k_pnil rfl rfl (.inl rfl) ptrR | refine Run_pev rfl | apply k_makeFunc) rfl ?_))
  exact WS_ret1 Try.func35 rfl ⟨rfl, rfl⟩
theorem nend_spec {w : World} : Does Try.prog 36 #[np] w fun v w' => v = .int .i64 1 ∧ w' = w := by
  refine Does_of (args := [_]) Try.func36 rfl rfl Try.ntmps36 rfl ?_
  repeat (first | refine WS_seq ?_ | refine WS_region ?_ | refine WL_nil ?_ | refine WS_block ?_ | refine WS_true rfl ?_ | (refine WL_r (by first | refine k_pnil rfl rfl (.inl rfl) ptrR | refine Run_pev rfl | apply k_makeFunc) rfl ?_))
  exact WS_ret1 Try.func36 rfl ⟨rfl, rfl⟩
theorem nbits_spec {sz : Int} {w : World} (hsz : -9223372036854775808 ≤ sz ∧ sz ≤ 9223372036854775807) : Does Try.prog 70 #[np, .int .i64 sz] w fun v w' => v = .int .u64 0 ∧ w' = w := by
  refine Does_of (args := [_, _]) Try.func70 rfl rfl Try.ntmps70 rfl ?_
  repeat (first | refine WS_seq ?_ | refine WS_region ?_ | refine WL_nil ?_ | refine WS_block ?_ | (refine WL_r (by first | refine Run_pev rfl | refine k_min rfl rfl | apply k_makeFunc) rfl ?_))
  refine WS_loop (G := (Nat)) (fun i => 64 - i) 65312 (fun i => [(8, .int .i64 i), (5, .int .u64 0)]) (fun i w' => i ≤ 64 ∧ w' = w) (0) ⟨rfl, rfl, trivial⟩ ⟨by omega, rfl⟩ ?_
  rintro i w1 σ ⟨hi, hw⟩ IH
  show WS _ _ _ _ _ (updL [(8, .int .i64 i), (5, .int .u64 0)] _) _
  subst hw
  by_cases hlt : (i : Int) < min sz 64
  · repeat (first | refine WS_seq ?_ | refine WS_region ?_ | refine WL_nil ?_ | refine WS_block ?_ | refine WS_skip ?_ | refine WS_yes rfl (by omega) ?_ | (refine WL_r (by first | refine k_shlu (m := 0) (n := 1) rfl rfl | refine Run_pev rfl) rfl ?_))
    try refine WL_gyes rfl rfl rfl ?_
    refine WL_s (S_call (nbit_spec) rfl rfl ?_)
    rintro v w2 ⟨rfl, rfl⟩
    repeat (first | refine WS_region ?_ | refine WL_nil ?_ | refine WS_inBlock ?_ | (refine WL_r (by first | refine k_or (m := 0) (n := 0) rfl rfl rfl rfl | refine Run_pev rfl | refine k_add64 rfl rfl (by omega) | apply k_makeFunc) rfl ?_))
    refine IH (i + 1) _ _ ?_ ?_ ?_ ?_
    · omega
    · exact ⟨rfl, rfl, trivial⟩
    · exact (by repeat (first | with_reducible apply Agr.refl | refine Agr.upd rfl ?_ | refine Agr.updL rfl ?_ | refine Agr.mrg rfl ?_))
    · exact ⟨by omega, rfl⟩
  · repeat (first | refine WS_seq ?_ | refine WS_region ?_ | refine WL_nil ?_ | refine WS_exit rfl ?_ | refine WS_no rfl (by omega) ?_ | (refine WL_r (by refine Run_pev rfl) rfl ?_))
    try refine WL_gyes rfl rfl rfl ?_
    refine WL_s (S_call (nended_spec) rfl rfl ?_)
    rintro v w2 ⟨rfl, rfl⟩
    repeat (first | refine WS_seq ?_ | refine WS_region ?_ | refine WL_nil ?_ | refine WS_true rfl ?_ | (refine WL_r (by first | refine Run_pev rfl | apply k_makeFunc) rfl ?_))
    exact WS_ret1 Try.func70 rfl ⟨rfl, rfl⟩
end Go.Proofs.Ytnamafelcjgjfaa
