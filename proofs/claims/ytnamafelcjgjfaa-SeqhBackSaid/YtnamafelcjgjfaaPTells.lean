/- Bits turned in bytes, and their sums: plain Lean; no program in sight. -/
import Derived.Test.YtnamafelcjgjfaaPCrc
import Derived.Test.YtnamafelcjgjfaaK5
namespace Go.P
open Go.K
def mk (N : Nat) (f : Nat → Bool) : List Bool := (List.range N).map f
theorem mk_len (N : Nat) (f : Nat → Bool) : (mk N f).length = N := by simp [mk]
theorem mk_get (N : Nat) (f : Nat → Bool) (j : Nat) : (mk N f)[j]? = if j < N then some (f j) else none := by
  unfold mk
  by_cases h : j < N
  · rw [if_pos h]; simp [h]
  · rw [if_neg h]; simp [h]
theorem mk_congr {N : Nat} {f g : Nat → Bool} (h : ∀ j, j < N → f j = g j) : mk N f = mk N g := List.map_congr_left fun j hj => h j (List.mem_range.1 hj)
theorem mk_add (a b : Nat) (f : Nat → Bool) : mk (a + b) f = mk a f ++ mk b (fun j => f (a + j)) := by
  simp [mk, List.range_add, Function.comp_def]
theorem mk_succ (n : Nat) (f : Nat → Bool) : mk (n + 1) f = mk n f ++ [f n] := by simp [mk, List.range_succ]
theorem mk_false (N : Nat) : mk N (fun _ => false) = List.replicate N false := by
  apply List.ext_getElem?
  intro j
  rw [mk_get, List.getElem?_replicate]
theorem zip_mk {N : Nat} (B : List Bool) (f g : Nat → Bool) : List.zipWith (· != ·) (List.zipWith (· != ·) B (mk N f)) (mk N g) = List.zipWith (· != ·) B (mk N fun j => f j != g j) := by
  apply List.ext_getElem?
  intro j
  simp only [List.getElem?_zipWith, mk_get]
  by_cases h : j < N
  · simp only [if_pos h]
    cases B[j]? with
    | none => rfl
    | some b => simp
  · simp only [if_neg h]
    cases B[j]? <;> rfl
theorem mk_zip {N : Nat} (f g : Nat → Bool) : mk N (fun j => f j != g j) = List.zipWith (· != ·) (mk N f) (mk N g) := by
  apply List.ext_getElem?
  intro j
  simp only [List.getElem?_zipWith, mk_get]
  split <;> rfl
theorem zip_false (B : List Bool) : List.zipWith (· != ·) B (mk B.length fun _ => false) = B := by
  apply List.ext_getElem?
  intro j
  simp only [List.getElem?_zipWith, mk_get]
  by_cases h : j < B.length
  · simp [h]
  · simp [h]
theorem bits8_len (c : Nat) : (bits8 c).length = 8 := by simp [bits8]
theorem bitsOf_len (l : List Nat) : (bitsOf l).length = 8 * l.length := by
  induction l with
  | nil => rfl
  | cons c l ih => show (bits8 c ++ bitsOf l).length = _; rw [List.length_append, bits8_len, ih, List.length_cons]; omega
theorem onehot8 : ∀ i < 8, bits8 (128 / 2 ^ (i % 8)) = mk 8 (fun j => decide (j = i)) := by decide
theorem bits_flip : ∀ (l : List Nat) (i c : Nat), i < 8 * l.length → l[i / 8]? = some c → bitsOf (l.set (i / 8) (c ^^^ 128 / 2 ^ (i % 8))) = List.zipWith (· != ·) (bitsOf l) (mk (8 * l.length) fun j => decide (j = i))
  | [], i, c, hi, _ => by simp at hi
  | x :: l, i, c, hi, hc => by
    have e : 8 * (x :: l).length = 8 + 8 * l.length := by simp; omega
    rw [e, mk_add]
    by_cases h8 : i < 8
    · have h0 : i / 8 = 0 := by omega
      rw [h0] at hc ⊢
      simp at hc
      subst hc
      show bits8 (x ^^^ 128 / 2 ^ (i % 8)) ++ bitsOf l = List.zipWith (· != ·) (bits8 x ++ bitsOf l) _
      rw [List.zipWith_append (by rw [bits8_len, mk_len]), bits8_xor, onehot8 i h8]
      congr 1
      have : mk (8 * l.length) (fun j => decide (8 + j = i)) = mk (bitsOf l).length (fun _ => false) := by
        rw [bitsOf_len]; exact mk_congr fun j _ => decide_eq_false (by omega)
      rw [this, zip_false]
    · have h1 : i / 8 = (i - 8) / 8 + 1 := by omega
      have h2 : i % 8 = (i - 8) % 8 := by omega
      rw [h1] at hc ⊢
      rw [List.set_cons_succ, h2]
      have ih := bits_flip l (i - 8) c (by simp at hi; omega) (by simpa using hc)
      show bits8 x ++ bitsOf (l.set ((i - 8) / 8) (c ^^^ 128 / 2 ^ ((i - 8) % 8))) = List.zipWith (· != ·) (bits8 x ++ bitsOf l) _
      rw [List.zipWith_append (by rw [bits8_len, mk_len]), ih]
      congr 1
      · have : mk 8 (fun j => decide (j = i)) = mk (bits8 x).length (fun _ => false) := by
          rw [bits8_len]; exact mk_congr fun j _ => decide_eq_false (by omega)
        rw [this, zip_false]
      · congr 1
        exact mk_congr fun j _ => by rw [decide_eq_decide]; omega
/-- lx is l with the bits turned that f tells. -/
def Flp (l lx : List Nat) (f : Nat → Bool) : Prop := lx.length = l.length ∧ Byt lx ∧ bitsOf lx = List.zipWith (· != ·) (bitsOf l) (mk (8 * l.length) f)
theorem Flp.start {l : List Nat} (h : Byt l) : Flp l l (fun _ => false) := ⟨rfl, h, by rw [← bitsOf_len, zip_false]⟩
theorem Flp.flip {l lx : List Nat} {f : Nat → Bool} {i c : Nat} (h : Flp l lx f) (hi : i < 8 * l.length) (hc : lx[i / 8]? = some c) : Flp l (lx.set (i / 8) (c ^^^ 128 / 2 ^ (i % 8))) (fun j => f j != decide (j = i)) := by
  obtain ⟨h1, h2, h3⟩ := h
  refine ⟨by rw [List.length_set, h1], fun x hx => ?_, ?_⟩
  · rcases List.mem_or_eq_of_mem_set hx with hx | rfl
    · exact h2 x hx
    · refine Nat.xor_lt_two_pow (n := 8) (h2 c (List.mem_of_getElem? hc)) ?_
      have : 128 / 2 ^ (i % 8) ≤ 128 := Nat.div_le_self _ _
      omega
  · rw [bits_flip lx i c (by rw [h1]; exact hi) hc, h3, h1, zip_mk]
theorem Flp.congr {l lx : List Nat} {f g : Nat → Bool} (h : Flp l lx f) (hg : ∀ j, j < 8 * l.length → f j = g j) : Flp l lx g := ⟨h.1, h.2.1, by rw [h.2.2, mk_congr hg]⟩
theorem Flp.sum {l lx : List Nat} {f : Nat → Bool} (hl : Byt l) (h : Flp l lx f) : crcAdd 65535 lx = crcAdd 65535 l ↔ crcBits 0 (mk (8 * l.length) f) = 0 := by
  rw [crcAdd_bits lx _ h.2.1, crcAdd_bits l _ hl, h.2.2]
  have := crcBits_xor (bitsOf l) (mk (8 * l.length) f) 65535 0 (by rw [bitsOf_len, mk_len])
  rw [Nat.xor_zero] at this
  rw [this]
  constructor
  · intro h
    have h2 : crcBits 65535 (bitsOf l) ^^^ (crcBits 65535 (bitsOf l) ^^^ crcBits 0 (mk (8 * l.length) f)) = 0 := by rw [h, Nat.xor_self]
    rwa [← Nat.xor_assoc, Nat.xor_self, Nat.zero_xor] at h2
  · intro h; rw [h, Nat.xor_zero]
/-- The bits of c from place p on. -/
def burst (p c : Nat) (k : Nat) : Nat → Bool := fun j => decide (p ≤ j ∧ j < p + k) && c.testBit (j - p)
theorem burst_mask {N p c : Nat} (h : p + 16 ≤ N) : mk N (burst p c 16) = List.replicate p false ++ bits16 c ++ List.replicate (N - p - 16) false := by
  have e : N = p + (16 + (N - p - 16)) := by omega
  conv => lhs; rw [e, mk_add, mk_add]
  rw [← List.append_assoc, ← mk_false, ← mk_false]
  congr 1
  · congr 1
    · exact mk_congr fun j hj => by simp [burst]; omega
    · show mk 16 _ = mk 16 (fun i => c.testBit i)
      exact mk_congr fun j hj => by simp [burst, hj]
  · exact mk_congr fun j hj => by simp [burst]; omega
theorem burst_sum {N p c : Nat} (h : p + 16 ≤ N) (hc : c < 65536) : crcBits 0 (mk N (burst p c 16)) = 0 ↔ c = 0 := by
  constructor
  · intro h0
    by_cases hc0 : c = 0
    · exact hc0
    · rw [burst_mask h] at h0
      exact absurd h0 (burst_tells hc hc0)
  · rintro rfl
    have : mk N (burst p 0 16) = List.replicate N false := by
      rw [← mk_false]
      exact mk_congr fun j _ => by simp [burst]
    rw [this, crcBits_false, crcIt_zero]
theorem burst_step {p c k : Nat} (hk : c.testBit k = true) (j : Nat) : (burst p c k j != decide (j = p + k)) = burst p c (k + 1) j := by
  unfold burst
  by_cases h : j = p + k
  · subst h
    have e1 : decide (p ≤ p + k ∧ p + k < p + k) = false := decide_eq_false (by omega)
    have e2 : decide (p ≤ p + k ∧ p + k < p + (k + 1)) = true := decide_eq_true (by omega)
    rw [e1, e2, Nat.add_sub_cancel_left, hk]; simp
  · have e : decide (p ≤ j ∧ j < p + k) = decide (p ≤ j ∧ j < p + (k + 1)) := by rw [decide_eq_decide]; omega
    rw [e, decide_eq_false h]; simp
theorem burst_skip {p c k : Nat} (hk : c.testBit k = false) (j : Nat) : burst p c k j = burst p c (k + 1) j := by
  unfold burst
  by_cases h : j = p + k
  · subst h
    rw [Nat.add_sub_cancel_left, hk]; simp
  · have e : decide (p ≤ j ∧ j < p + k) = decide (p ≤ j ∧ j < p + (k + 1)) := by rw [decide_eq_decide]; omega
    rw [e]
theorem par_snoc (l : List Bool) (b : Bool) : par (l ++ [b]) = (par l != b) := by simp [par, List.foldl_append]
theorem par_false (N : Nat) : par (mk N fun _ => false) = false := by
  induction N with
  | zero => rfl
  | succ n ih => rw [mk_succ, par_snoc, ih]; rfl
theorem par_one : ∀ (N i : Nat), i < N → par (mk N fun j => decide (j = i)) = true
  | 0, _, h => by omega
  | n + 1, i, h => by
    rw [mk_succ, par_snoc]
    by_cases hn : i = n
    · subst hn
      rw [mk_congr (g := fun _ => false) (fun j hj => decide_eq_false (by omega)), par_false]
      simp
    · rw [par_one n i (by omega), decide_eq_false (by omega)]; rfl
theorem par_flip {N i : Nat} (f : Nat → Bool) (hi : i < N) : par (mk N fun j => f j != decide (j = i)) = !par (mk N f) := by
  rw [mk_zip f (fun j => decide (j = i)), par_zip _ _ (by rw [mk_len, mk_len]), par_one N i hi]
  cases par (mk N f) <;> rfl
theorem Flp.odd {l lx : List Nat} {f : Nat → Bool} (hl : Byt l) (h : Flp l lx f) (hp : par (mk (8 * l.length) f) = true) : crcAdd 65535 lx ≠ crcAdd 65535 l := fun e => odd_tells hp ((h.sum hl).1 e)
theorem testBit_and (c k : Nat) : c.testBit k = decide (c / 2 ^ k &&& 1 = 1) := by
  rw [Nat.testBit_eq_decide_div_mod_eq, Nat.and_one_is_mod]
end Go.P
