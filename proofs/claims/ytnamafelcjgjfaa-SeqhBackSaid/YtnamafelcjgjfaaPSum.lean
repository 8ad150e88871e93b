/- Plain laws: the sum of sixteen bits is what is left of the bits when the polynomial is taken away; no program in sight, no condition. -/
import Derived.Test.YtnamafelcjgjfaaPBits
import Derived.Test.YtnamafelcjgjfaaPCrc
namespace Go.P
open Go Go.K

/-- One more bit. -/
def bst (s : Nat) (m : Bool) : Nat := crcBit (s ^^^ (if m then 32768 else 0))
def reg (M : Nat → Bool) : Nat → Nat → Nat
  | _, 0 => 65535
  | o, i + 1 => bst (reg M o i) (M (o + i))
theorem bst_lt (s : Nat) (m : Bool) : bst s m < 65536 := crcBit_lt _
theorem reg_lt (M : Nat → Bool) (i : Nat) : reg M 0 i < 65536 := by
  cases i with
  | zero => exact (by decide : 65535 < 65536)
  | succ i => exact bst_lt _ _
/-- So many bits of a byte, on s. -/
def byteIt (c : Nat) : Nat → Nat → Nat
  | 0, s => s
  | k + 1, s => bst (byteIt c k s) (c.testBit (7 - k))
theorem byte_facts : ∀ c, c < 256 → ∀ k, k < 8 → (c * 2 ^ k % 256) * 256 = (if c.testBit (7 - k) then 32768 else 0) ^^^ ((c * 2 ^ k % 256) % 128 * 256) ∧ crcBit ((c * 2 ^ k % 256) % 128 * 256) = (c * 2 ^ (k + 1) % 256) * 256 := by decide +kernel
theorem byteIt_eq {c s : Nat} (hc : c < 256) : ∀ k, k ≤ 8 → crcIt k (s ^^^ c * 256) = byteIt c k s ^^^ (c * 2 ^ k % 256) * 256
  | 0, _ => by simp [crcIt, byteIt, Nat.mod_eq_of_lt hc]
  | k + 1, hk => by
    have ih := byteIt_eq (s := s) hc k (by omega)
    obtain ⟨h1, h2⟩ := byte_facts c hc k (by omega)
    simp only [crcIt, byteIt, bst, ih]
    rw [h1, ← Nat.xor_assoc, crcBit_xor, h2]
theorem crcByte_it {c s : Nat} (hc : c < 256) : crcByte s c = byteIt c 8 s := by
  have := byteIt_eq (s := s) hc 8 (by omega)
  have e : c * 256 % 65536 = c * 256 := Nat.mod_eq_of_lt (by omega)
  have e2 : c * 2 ^ 8 % 256 = 0 := by omega
  rw [e2] at this
  simpa [crcByte, e] using this
theorem reg_byte {l : List Nat} {k : Nat} (hk : k < l.length) : ∀ j, j ≤ 8 → reg (bitAt l) 0 (8 * k + j) = byteIt l[k] j (reg (bitAt l) 0 (8 * k))
  | 0, _ => rfl
  | j + 1, hj => by
    have ih := reg_byte hk j (by omega)
    rw [show 8 * k + (j + 1) = (8 * k + j) + 1 by omega]
    simp only [reg, byteIt, ih]
    congr 1
    simp only [bitAt]
    rw [show (0 + (8 * k + j)) / 8 = k by omega, show (0 + (8 * k + j)) % 8 = j by omega]
    simp [List.getD, hk]
theorem reg_crc {l : List Nat} (hl : Byt l) : ∀ k, k ≤ l.length → reg (bitAt l) 0 (8 * k) = crcAdd 65535 (l.take k)
  | 0, _ => rfl
  | k + 1, hk => by
    have ih := reg_crc hl k (by omega)
    have h := reg_byte (l := l) (k := k) (by omega) 8 (by omega)
    rw [show 8 * (k + 1) = 8 * k + 8 by omega, h, ih, List.take_succ_eq_append_getElem (by omega)]
    simp only [crcAdd, List.foldl_append, List.foldl_cons, List.foldl_nil]
    exact (crcByte_it (hl _ (List.getElem_mem _))).symm
/-- The bits that are left at step i: those of the register, turned by those that come. -/
def LeftB (M : Nat → Bool) (N i : Nat) (f : Nat → Bool) : Prop := ∀ j, i ≤ j → j < N → f j = ((decide (j < i + 16) && (reg M 0 i).testBit (15 - (j - i))) != M j)
theorem left_zero {M : Nat → Bool} {N : Nat} : LeftB M N 0 (fun j => M j != decide (j < 16)) := fun j _ _ => by
  have h : ∀ i, i < 16 → (65535 : Nat).testBit i = true := by decide
  simp only [reg, Nat.zero_add, Nat.sub_zero]
  by_cases hj : j < 16
  · simp [hj, h (15 - j) (by omega), Bool.xor_comm]
  · simp [hj]
theorem poly_bit : ∀ i, i < 16 → (4129 : Nat).testBit i = decide (i = 0 ∨ i = 5 ∨ i = 12) := by decide
theorem left_step {M : Nat → Bool} {N i : Nat} {f : Nat → Bool} (h : LeftB M N i f) (hi : i < N) :
    LeftB M N (i + 1) (fun j => f j != (f i && (decide (j = i + 4) || decide (j = i + 11) || decide (j = i + 16)))) := fun j h1 h2 => by
  have hi0 := h i (Nat.le_refl _) hi
  have hj0 := h j (by omega) h2
  have ht : f i = (reg M 0 i ^^^ (if M i then 32768 else 0)).testBit 15 := by
    rw [hi0, Nat.testBit_xor]
    simp only [show i < i + 16 by omega, decide_true, Bool.true_and, Nat.sub_self, Nat.sub_zero]
    have h15 : (32768 : Nat).testBit 15 = true := by decide
    cases M i <;> simp [h15]
  have hlow : ∀ k, k < 15 → (reg M 0 i ^^^ (if M i then 32768 else 0)).testBit k = (reg M 0 i).testBit k := fun k hk => by
    rw [Nat.testBit_xor]
    have h3 : ∀ k, k < 15 → (32768 : Nat).testBit k = false := by decide
    cases M i <;> simp [h3 k hk]
  have hr : ∀ k, k < 16 → (reg M 0 (i + 1)).testBit k = ((decide (1 ≤ k) && (reg M 0 i).testBit (k - 1)) != (f i && decide (k = 0 ∨ k = 5 ∨ k = 12))) := fun k hk => by
    simp only [reg, bst, Nat.zero_add]
    rw [crcBit_eq, Nat.testBit_xor, ← ht]
    congr 1
    · rw [show (65536 : Nat) = 2 ^ 16 by rfl, Nat.testBit_mod_two_pow]
      rw [show ∀ x : Nat, x * 2 = x * 2 ^ 1 by intro x; rfl, Nat.testBit_mul_two_pow]
      by_cases h1k : 1 ≤ k
      · simp [hk, h1k, hlow (k - 1) (by omega)]
      · simp [h1k]
    · unfold tp
      cases f i
      · simp
      · simp [poly_bit k hk]
  show (f j != (f i && (decide (j = i + 4) || decide (j = i + 11) || decide (j = i + 16)))) = _
  rw [hj0]
  by_cases hj : j < i + 1 + 16
  · rw [hr (15 - (j - (i + 1))) (by omega)]
    simp only [hj, decide_true, Bool.true_and]
    have e3 : (decide (15 - (j - (i + 1)) = 0 ∨ 15 - (j - (i + 1)) = 5 ∨ 15 - (j - (i + 1)) = 12)) = (decide (j = i + 4) || decide (j = i + 11) || decide (j = i + 16)) := by
      rw [← Bool.decide_or, ← Bool.decide_or, decide_eq_decide]; omega
    rw [e3]
    by_cases hj2 : j < i + 16
    · have e1 : 15 - (j - (i + 1)) - 1 = 15 - (j - i) := by omega
      have e2 : 1 ≤ 15 - (j - (i + 1)) := by omega
      simp only [hj2, e1, e2, decide_true, Bool.true_and]
      generalize (reg M 0 i).testBit _ = a
      generalize M j = b
      generalize (f i && _) = c
      cases a <;> cases b <;> cases c <;> rfl
    · have e2 : ¬ 1 ≤ 15 - (j - (i + 1)) := by omega
      simp only [hj2, e2, decide_false, Bool.false_and]
      generalize M j = b
      generalize (f i && _) = c
      cases b <;> cases c <;> rfl
  · simp only [hj, show ¬ j < i + 16 by omega, show ¬ j = i + 4 by omega, show ¬ j = i + 11 by omega, show ¬ j = i + 16 by omega, decide_false, Bool.false_and, Bool.or_false, Bool.and_false, Bool.bne_false]
/-- The number out of its bits. -/
theorem num_step {s k : Nat} (hk : k < 16) : s / 2 ^ (16 - k) * 2 + (s.testBit (15 - k)).toNat = s / 2 ^ (16 - (k + 1)) := by
  rw [show 16 - k = (15 - k) + 1 by omega, show 16 - (k + 1) = 15 - k by omega, Nat.pow_succ, ← Nat.div_div_eq_div_mul, Nat.testBit_eq_decide_div_mod_eq]
  generalize s / 2 ^ (15 - k) = x
  have : x % 2 = 0 ∨ x % 2 = 1 := by omega
  rcases this with h | h <;> simp [h] <;> omega
end Go.P
