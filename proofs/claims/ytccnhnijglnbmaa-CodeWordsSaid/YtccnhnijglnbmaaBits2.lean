/- More walks of the package bits: all with a 1 behind; how many bits are ahead of it; nil writers and readers; no condition but sizes of memory. -/
import Derived.Test.YtccnhnijglnbmaaSh
import Derived.Test.YtccnhnijglnbmaaBits
namespace Go.Proofs.Ytccnhnijglnbmaa
open Go Go.K Go.P Go.RowKit Go.Proofs
/-- The place of the last 1 in bytes, if the last byte isn't nought. -/
def SizeR (l : List Nat) (v : Value) : Prop :=
  (l.getD (l.length - 1) 0 = 0 ∧ v = .tuple #[.int .i64 0, .bool false]) ∨ (l.getD (l.length - 1) 0 ≠ 0 ∧ ∃ n, n < 8 * l.length ∧ bitAt l n = true ∧ (∀ j, n < j → bitAt l j = false) ∧ v = .tuple #[.int .i64 (n : Nat), .bool true])
theorem and1_zero (x k : Nat) : (x / 2 ^ k &&& 1 = 0) ↔ x.testBit k = false := by
  rw [Nat.and_one_is_mod, Nat.testBit_eq_decide_div_mod_eq]
  have := Nat.mod_two_eq_zero_or_one (x / 2 ^ k)
  rcases this with h | h <;> simp [h]
theorem low_bits {c : Nat} (hc : c < 256) (h0 : c ≠ 0) : ¬ ∀ j, j < 8 → c.testBit j = false := fun h => h0 (by
  refine byte_ext hc (by decide) (fun j hj => ?_)
  rw [h _ (by omega)]; simp)
theorem bit_end (l : List Nat) (j : Nat) (h : 8 * l.length ≤ j) : bitAt l j = false := by
  unfold bitAt
  rw [List.getD_eq_getElem?_getD, List.getElem?_eq_none (by omega)]
  simp
/-- A block that is new, behind W0. -/
def IsNew (W0 : Nat) (e : TypeId) (cs : Array Value) (g : Nat → Value) : Value → World → Prop := fun v w => ∃ b, v = g b ∧ Blk w b e cs ∧ W0 ≤ b
theorem IsNew.st {W0 : Nat} {e : TypeId} {cs : Array Value} {g : Nat → Value} : Stable (IsNew W0 e cs g) := fun _ _ _ ⟨b, h, hB, hb⟩ hE => ⟨b, h, hB.ext0 hE, hb⟩
/-- Bytes of one's own, behind W0. -/
def IsOwn (W0 : Nat) (l : List Nat) (g : Option Addr → Nat → Value) : Value → World → Prop := fun v w => ∃ a c, v = g a c ∧ (RBy a c l).holds w ∧ ∀ x ∈ (RBy a c l).fp, W0 ≤ x
theorem IsOwn.st {W0 : Nat} {l : List Nat} {g : Option Addr → Nat → Value} : Stable (IsOwn W0 l g) := fun _ _ _ ⟨a, c, h, hR, hf⟩ hE => ⟨a, c, h, (RBy a c l).keep hR hE (by simp), hf⟩
theorem dj_types {w : World} {b : Nat} {a : Option Addr} {c : Nat} {l : List Nat} {cs : Array Value} (h1 : Blk w b 65 cs) (h2 : (RBy a c l).holds w) : Dj (Rb b 65 cs) (RBy a c l) := by
  intro x hx hx'
  have hxb : x = b := by simpa [Rb] using hx
  subst hxb
  obtain ⟨_, _, _, ⟨rfl, _⟩ | ⟨b', cur, rfl, hB, _⟩⟩ := (h2 : Own _ _ _ _ _ _ _)
  · simp [RBy, Ro, blk] at hx'
  · have : x = b' := by simpa [RBy, Ro, blk] using hx'
    subst this
    have h3 := hB.symm.trans h1
    simp at h3
abbrev np : Value := .pointer none
theorem nput_spec {n : Nat} {sz : Int} {w : World} : Does Try.prog 39 #[np, .int .u64 n, .int .i64 sz] w fun v w' => v = .tuple #[] ∧ w' = w := by
  refine Does_of (args := [_, _, _]) Try.func39 rfl rfl Try.ntmps39 rfl ?_
  repeat (first | refine WS_seq ?_ | refine WS_region ?_ | refine WL_nil ?_ | refine WS_true rfl ?_ | (refine WL_r (by first | refine k_pnil rfl rfl (.inl rfl) ptrW | refine Run_pev rfl | apply k_makeFunc) rfl ?_))
  exact WS_ret0 Try.func39 rfl ⟨rfl, rfl⟩
theorem nlen_spec {w : World} : Does Try.prog 25 #[np] w fun v w' => v = .int .i64 0 ∧ w' = w := by
  refine Does_of (args := [_]) Try.func25 rfl rfl Try.ntmps25 rfl ?_
  repeat (first | refine WS_seq ?_ | refine WS_region ?_ | refine WL_nil ?_ | refine WS_true rfl ?_ | (refine WL_r (by first | refine k_pnil rfl rfl (.inl rfl) ptrW | refine Run_pev rfl | apply k_makeFunc) rfl ?_))
  exact WS_ret1 Try.func25 rfl ⟨rfl, rfl⟩
theorem nbytes_spec {w : World} : Does Try.prog 24 #[np] w fun v w' => v = .slice none 0 0 ∧ w' = w := by
  refine Does_of (args := [_]) Try.func24 rfl rfl Try.ntmps24 rfl ?_
  repeat (first | refine WS_seq ?_ | refine WS_region ?_ | refine WL_nil ?_ | refine WS_true rfl ?_ | (refine WL_r (by first | refine k_pnil rfl rfl (.inl rfl) ptrW | refine Run_pev rfl | apply k_makeFunc) rfl ?_))
  exact WS_ret1 Try.func24 rfl ⟨rfl, rfl⟩
theorem nfail_spec {w : World} : Does Try.prog 37 #[np] w fun v w' => v = .tuple #[] ∧ w' = w := by
  refine Does_of (args := [_]) Try.func37 rfl rfl Try.ntmps37 rfl ?_
  repeat (first | refine WS_seq ?_ | refine WS_region ?_ | refine WL_nil ?_ | refine WS_skip ?_ | refine WS_false rfl ?_ | (refine WL_r (by first | refine k_pnnil rfl rfl (.inl rfl) ptrR | refine Run_pev rfl | apply k_makeFunc) rfl ?_))
  exact WS_end0 Try.func37 rfl ⟨rfl, rfl⟩
theorem nbit_spec {w : World} : Does Try.prog 38 #[np] w fun v w' => v = .int .u64 0 ∧ w' = w := by
  refine Does_of (args := [_]) Try.func38 rfl rfl Try.ntmps38 rfl ?_
  repeat (first | refine WS_seq ?_ | refine WS_region ?_ | refine WL_nil ?_ | refine WS_true rfl ?_ | refine WL_gno rfl rfl rfl rfl rfl ?_ | (refine WL_r (by first | refine k_pnil rfl rfl (.inl rfl) ptrR | refine Run_pev rfl | apply k_makeFunc) rfl ?_))
  exact WS_ret1 Try.func38 rfl ⟨rfl, rfl⟩
theorem nended_spec {w : World} : Does Try.prog 21 #[np] w fun v w' => v = .bool true ∧ w' = w := by
  refine Does_of (args := [_]) Try.func21 rfl rfl Try.ntmps21 rfl ?_
  repeat (first | refine WS_seq ?_ | refine WS_region ?_ | refine WL_nil ?_ | refine WL_gno rfl rfl rfl rfl rfl ?_ | (refine WL_r (by first | refine k_pnil rfl rfl (.inl rfl) ptrR | refine Run_pev rfl | apply k_makeFunc) rfl ?_))
  exact WS_ret1 Try.func21 rfl ⟨rfl, rfl⟩
theorem nend_spec {w : World} : Does Try.prog 27 #[np] w fun v w' => v = .int .i64 1 ∧ w' = w := by
  refine Does_of (args := [_]) Try.func27 rfl rfl Try.ntmps27 rfl ?_
  repeat (first | refine WS_seq ?_ | refine WS_region ?_ | refine WL_nil ?_ | refine WS_block ?_ | refine WS_true rfl ?_ | (refine WL_r (by first | refine k_pnil rfl rfl (.inl rfl) ptrR | refine Run_pev rfl | apply k_makeFunc) rfl ?_))
  exact WS_ret1 Try.func27 rfl ⟨rfl, rfl⟩
end Go.Proofs.Ytccnhnijglnbmaa
