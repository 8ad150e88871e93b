/- The plain mathematics of a sum of sixteen bits: it is linear, it tells bursts of sixteen bits and odd numbers of bits; no program in sight; no condition. -/
namespace Go.P
def crcBit (s : Nat) : Nat := if s &&& 32768 ≠ 0 then (s * 2 % 65536) ^^^ 4129 else s * 2 % 65536
def crcIt : Nat → Nat → Nat
  | 0, s => s
  | n + 1, s => crcBit (crcIt n s)
def crcByte (s c : Nat) : Nat := crcIt 8 (s ^^^ (c * 256 % 65536))
def crcAdd (s : Nat) (l : List Nat) : Nat := l.foldl crcByte s
theorem crcBit_lt (s : Nat) : crcBit s < 65536 := by
  unfold crcBit
  split
  · exact Nat.xor_lt_two_pow (n := 16) (Nat.mod_lt _ (by decide)) (by decide)
  · exact Nat.mod_lt _ (by decide)
theorem crcIt_lt {s : Nat} (h : s < 65536) : ∀ n, crcIt n s < 65536
  | 0 => h
  | _ + 1 => crcBit_lt _
theorem crcByte_lt (s c : Nat) : crcByte s c < 65536 := crcBit_lt _
theorem crcAdd_lt (s : Nat) (hs : s < 65536) (l : List Nat) : crcAdd s l < 65536 := by
  induction l generalizing s with
  | nil => exact hs
  | cons c l ih => exact ih _ (crcByte_lt _ _)
theorem and_top (s : Nat) : (s &&& 32768 ≠ 0) ↔ s.testBit 15 = true := by
  have h : s &&& 2 ^ 15 = if s.testBit 15 then 2 ^ 15 else 0 := by
    apply Nat.eq_of_testBit_eq
    intro i
    rw [Nat.testBit_and, Nat.testBit_two_pow]
    by_cases hi : 15 = i
    · subst hi
      cases ht : s.testBit 15
      · simp
      · simp; decide
    · cases ht : s.testBit 15
      · simp [hi]
      · rw [if_pos rfl, Nat.testBit_two_pow]; simp [hi]
  have h' : s &&& 32768 = if s.testBit 15 then 2 ^ 15 else 0 := h
  rw [h']
  cases s.testBit 15 <;> simp
def tp (b : Bool) (n : Nat) : Nat := if b then n else 0
theorem tp_xor (a b : Bool) (n : Nat) : tp (a != b) n = tp a n ^^^ tp b n := by
  cases a <;> cases b <;> simp [tp]
theorem crcBit_eq (s : Nat) : crcBit s = (s * 2 % 65536) ^^^ tp (s.testBit 15) 4129 := by
  unfold crcBit tp
  by_cases h : s.testBit 15 = true
  · rw [if_pos ((and_top s).2 h), if_pos h]
  · rw [if_neg (fun h' => h ((and_top s).1 h')), if_neg h]; simp
theorem dbl_xor (a b : Nat) : (a ^^^ b) * 2 % 65536 = (a * 2 % 65536) ^^^ (b * 2 % 65536) := by
  have h1 : (a ^^^ b) * 2 = (a * 2) ^^^ (b * 2) := by
    have := Nat.shiftLeft_xor_distrib (a := a) (b := b) (i := 1)
    simpa [Nat.shiftLeft_eq] using this
  rw [h1]
  have := Nat.xor_mod_two_pow (a := a * 2) (b := b * 2) (n := 16)
  simpa using this
theorem xor4 (a b c d : Nat) : (a ^^^ b) ^^^ (c ^^^ d) = (a ^^^ c) ^^^ (b ^^^ d) := by
  rw [Nat.xor_assoc, Nat.xor_assoc, ← Nat.xor_assoc b, Nat.xor_comm b c, Nat.xor_assoc c]
theorem crcBit_xor (a b : Nat) : crcBit (a ^^^ b) = crcBit a ^^^ crcBit b := by
  rw [crcBit_eq, crcBit_eq, crcBit_eq, dbl_xor, Nat.testBit_xor, xor4, ← tp_xor]
theorem crcIt_xor (n a b : Nat) : crcIt n (a ^^^ b) = crcIt n a ^^^ crcIt n b := by
  induction n with
  | zero => rfl
  | succ n ih => simp only [crcIt, ih, crcBit_xor]
theorem sh_xor (a b : Nat) : (a ^^^ b) * 256 % 65536 = (a * 256 % 65536) ^^^ (b * 256 % 65536) := by
  have h1 : (a ^^^ b) * 256 = (a * 256) ^^^ (b * 256) := by
    have := Nat.shiftLeft_xor_distrib (a := a) (b := b) (i := 8)
    simpa [Nat.shiftLeft_eq] using this
  rw [h1]
  have := Nat.xor_mod_two_pow (a := a * 256) (b := b * 256) (n := 16)
  simpa using this
theorem crcByte_xor (s s' c c' : Nat) : crcByte (s ^^^ s') (c ^^^ c') = crcByte s c ^^^ crcByte s' c' := by
  unfold crcByte
  rw [sh_xor, xor4, crcIt_xor]
theorem crcAdd_xor : ∀ (l m : List Nat) (s s' : Nat), l.length = m.length → crcAdd (s ^^^ s') (List.zipWith (· ^^^ ·) l m) = crcAdd s l ^^^ crcAdd s' m
  | [], [], _, _, _ => rfl
  | c :: l, c' :: m, s, s', h => by
    have ih := crcAdd_xor l m (crcByte s c) (crcByte s' c') (by simpa using h)
    simp only [crcAdd, List.zipWith_cons_cons, List.foldl_cons, crcByte_xor] at ih ⊢
    exact ih
  | [], _ :: _, _, _, h => by simp at h
  | _ :: _, [], _, _, h => by simp at h
theorem crcBit_zero : crcBit 0 = 0 := by decide
theorem crcIt_zero : ∀ n, crcIt n 0 = 0
  | 0 => rfl
  | n + 1 => by simp only [crcIt, crcIt_zero n, crcBit_zero]
theorem crcBit_inj {s : Nat} (hs : s < 65536) (h : crcBit s = 0) : s = 0 := by
  rw [crcBit_eq] at h
  have h1 : s * 2 % 65536 = tp (s.testBit 15) 4129 := by
    have := congrArg (· ^^^ tp (s.testBit 15) 4129) h
    simpa [Nat.xor_assoc] using this
  cases ht : s.testBit 15 with
  | true => rw [ht] at h1; simp only [tp, if_true] at h1; omega
  | false =>
    rw [ht] at h1
    have h2 : s < 32768 := by
      rcases Nat.lt_or_ge s 32768 with h | h
      · exact h
      · have : s.testBit 15 = true := by
          rw [Nat.testBit_eq_decide_div_mod_eq]
          simp; omega
        rw [ht] at this; cases this
    simp only [tp, Bool.false_eq_true, if_false] at h1
    omega
theorem crcIt_inj {s : Nat} (hs : s < 65536) : ∀ {n : Nat}, crcIt n s = 0 → s = 0
  | 0, h => h
  | n + 1, h => crcIt_inj hs (n := n) (crcBit_inj (crcIt_lt hs n) h)
theorem xor_eq_zero {a b : Nat} : a ^^^ b = 0 ↔ a = b := by
  constructor
  · intro h
    have := congrArg (· ^^^ b) h
    simpa [Nat.xor_assoc] using this
  · rintro rfl; exact Nat.xor_self _
/-- Linear maps of numbers below a power of two are the same if they are on the powers. -/
theorem lin_ext (f g : Nat → Nat) (hf : ∀ a b, f (a ^^^ b) = f a ^^^ f b) (hg : ∀ a b, g (a ^^^ b) = g a ^^^ g b) (n : Nat) (h : ∀ i, i < n → f (2 ^ i) = g (2 ^ i)) : ∀ s, s < 2 ^ n → f s = g s := by
  have f0 : f 0 = 0 := by have := hf 0 0; simpa using this
  have g0 : g 0 = 0 := by have := hg 0 0; simpa using this
  induction n with
  | zero => intro s hs; have : s = 0 := by simpa using hs
            subst this; rw [f0, g0]
  | succ n ih =>
    intro s hs
    have ih' := ih (fun i hi => h i (by omega))
    have key : s = (s % 2 ^ n) ^^^ (s / 2 ^ n * 2 ^ n) := by
      apply Nat.eq_of_testBit_eq
      intro i
      rw [Nat.testBit_xor, Nat.testBit_mod_two_pow]
      have e : s / 2 ^ n * 2 ^ n = (s >>> n) <<< n := by rw [Nat.shiftRight_eq_div_pow, Nat.shiftLeft_eq]
      rw [e, Nat.testBit_shiftLeft, Nat.testBit_shiftRight]
      by_cases hi : i < n
      · simp [hi, Nat.not_le.2 hi]
      · simp [hi, Nat.le_of_not_lt hi]
    have hq : s / 2 ^ n < 2 := by
      rw [Nat.div_lt_iff_lt_mul (Nat.two_pow_pos n)]
      rw [Nat.pow_succ] at hs; omega
    rw [key, hf, hg, ih' _ (Nat.mod_lt _ (Nat.two_pow_pos n))]
    have h01 : s / 2 ^ n = 0 ∨ s / 2 ^ n = 1 := by generalize s / 2 ^ n = r at hq; omega
    rcases h01 with h0 | h0
    · rw [h0]; simp [f0, g0]
    · rw [h0, Nat.one_mul, h n (by omega)]
theorem crcAdd_append (s : Nat) (l m : List Nat) : crcAdd s (l ++ m) = crcAdd (crcAdd s l) m := List.foldl_append
/-- A number's two bytes, the highest first, behind it: nothing is left. -/
theorem self_end {s : Nat} (hs : s < 65536) : crcAdd s [s / 256, s % 256] = 0 := by
  have h1 : crcByte s (s / 256) = s % 256 * 256 := by
    have e : s ^^^ (s / 256 * 256 % 65536) = s % 256 := by
      have : s / 256 * 256 % 65536 = s / 256 * 256 := Nat.mod_eq_of_lt (by omega)
      rw [this]
      apply Nat.eq_of_testBit_eq
      intro i
      have e : s / 256 * 256 = (s >>> 8) <<< 8 := by rw [Nat.shiftRight_eq_div_pow, Nat.shiftLeft_eq]
      have e2 : s % 256 = s % 2 ^ 8 := rfl
      rw [e, e2, Nat.testBit_xor, Nat.testBit_shiftLeft, Nat.testBit_shiftRight, Nat.testBit_mod_two_pow]
      by_cases hi : i < 8
      · simp [hi, Nat.not_le.2 hi]
      · simp [hi, Nat.le_of_not_lt hi]
    unfold crcByte
    rw [e]
    have hlin := lin_ext (fun x => crcIt 8 x) (fun x => x * 256 % 65536) (crcIt_xor 8) sh_xor 8 (by decide) (s % 256) (Nat.mod_lt _ (by decide))
    rw [hlin, Nat.mod_eq_of_lt (by omega)]
  show crcByte (crcByte s (s / 256)) (s % 256) = 0
  rw [h1]
  unfold crcByte
  rw [show s % 256 * 256 % 65536 = s % 256 * 256 by omega, Nat.xor_self]
  exact crcIt_zero 8
theorem two_zero {d : Nat} (hd : d < 65536) (h : crcAdd d [0, 0] = 0) : d = 0 := by
  have h1 : crcIt 8 (crcIt 8 d) = 0 := by simpa [crcAdd, crcByte] using h
  exact crcIt_inj hd (crcIt_inj (crcIt_lt hd 8) h1)
theorem other_end {s o : Nat} (hs : s < 65536) (ho : o < 65536) : crcAdd s [o / 256, o % 256] = 0 ↔ o = s := by
  constructor
  · intro h
    have h1 := crcAdd_xor [o / 256, o % 256] [0, 0] o (s ^^^ o) rfl
    have e : o ^^^ (s ^^^ o) = s := by rw [Nat.xor_comm s o, ← Nat.xor_assoc, Nat.xor_self, Nat.zero_xor]
    simp only [List.zipWith_cons_cons, List.zipWith_nil_right, Nat.xor_zero, e] at h1
    rw [h, self_end ho, Nat.zero_xor] at h1
    have := two_zero (Nat.xor_lt_two_pow (n := 16) hs ho) h1.symm
    exact (xor_eq_zero.1 this).symm
  · rintro rfl; exact self_end ho

/-! ### Bit by bit -/
def stepBit (s : Nat) (b : Bool) : Nat := crcBit (s ^^^ tp b 32768)
def crcBits (s : Nat) (l : List Bool) : Nat := l.foldl stepBit s
/-- A byte's bits, the highest first. -/
def bits8 (c : Nat) : List Bool := (List.range 8).map fun i => c.testBit (7 - i)
def bitsOf (l : List Nat) : List Bool := l.flatMap bits8
theorem stepBit_xor (s s' : Nat) (b b' : Bool) : stepBit (s ^^^ s') (b != b') = stepBit s b ^^^ stepBit s' b' := by
  unfold stepBit
  rw [tp_xor, xor4, crcBit_xor]
theorem crcBits_xor : ∀ (l m : List Bool) (s s' : Nat), l.length = m.length → crcBits (s ^^^ s') (List.zipWith (· != ·) l m) = crcBits s l ^^^ crcBits s' m
  | [], [], _, _, _ => rfl
  | c :: l, c' :: m, s, s', h => by
    have ih := crcBits_xor l m (stepBit s c) (stepBit s' c') (by simpa using h)
    simp only [crcBits, List.zipWith_cons_cons, List.foldl_cons, stepBit_xor] at ih ⊢
    exact ih
  | [], _ :: _, _, _, h => by simp at h
  | _ :: _, [], _, _, h => by simp at h
theorem bits8_xor (a b : Nat) : bits8 (a ^^^ b) = List.zipWith (· != ·) (bits8 a) (bits8 b) := by
  simp [bits8, List.range_succ, Nat.testBit_xor]
theorem crcBits_false : ∀ (n s : Nat), crcBits s (List.replicate n false) = crcIt n s
  | 0, _ => rfl
  | n + 1, s => by
    show crcBits (stepBit s false) (List.replicate n false) = _
    rw [crcBits_false n]
    have : stepBit s false = crcBit s := by simp [stepBit, tp]
    rw [this]
    have h : ∀ n, crcIt n (crcBit s) = crcIt (n + 1) s := by
      intro n
      induction n with
      | zero => rfl
      | succ n ih => simp only [crcIt] at ih ⊢; rw [ih]
    exact h n
theorem crcByte_bits (s c : Nat) (hc : c < 256) : crcByte s c = crcBits s (bits8 c) := by
  have h1 : crcByte s c = crcIt 8 s ^^^ crcByte 0 c := by
    have := crcByte_xor s 0 0 c
    simpa [crcByte] using this
  have h2 : crcBits s (bits8 c) = crcIt 8 s ^^^ crcBits 0 (bits8 c) := by
    have h3 := crcBits_xor (bits8 0) (bits8 c) s 0 (by simp [bits8])
    rw [← bits8_xor, Nat.zero_xor, Nat.xor_zero] at h3
    rw [h3]
    congr 1
    exact crcBits_false 8 s
  rw [h1, h2]
  congr 1
  refine lin_ext (fun c => crcByte 0 c) (fun c => crcBits 0 (bits8 c)) (fun a b => by have := crcByte_xor 0 0 a b; simpa using this) (fun a b => ?_) 8 (by decide) c hc
  have := crcBits_xor (bits8 a) (bits8 b) 0 0 (by simp [bits8])
  rw [← bits8_xor] at this
  simpa using this
theorem crcAdd_bits : ∀ (l : List Nat) (s : Nat), (∀ x ∈ l, x < 256) → crcAdd s l = crcBits s (bitsOf l)
  | [], _, _ => rfl
  | c :: l, s, h => by
    show crcAdd (crcByte s c) l = crcBits s (bits8 c ++ bitsOf l)
    rw [crcAdd_bits l _ (fun x hx => h x (by simp [hx])), crcByte_bits s c (h c (by simp))]
    simp [crcBits]
theorem crcBits_append (s : Nat) (l m : List Bool) : crcBits s (l ++ m) = crcBits (crcBits s l) m := List.foldl_append
theorem crcBits_lt {s : Nat} (hs : s < 65536) : ∀ (l : List Bool), crcBits s l < 65536
  | [] => hs
  | _ :: l => crcBits_lt (crcBit_lt _) l
/-- Sixteen bits of a number, the lowest first. -/
def bits16 (c : Nat) : List Bool := (List.range 16).map fun i => c.testBit i
theorem bits16_xor (a b : Nat) : bits16 (a ^^^ b) = List.zipWith (· != ·) (bits16 a) (bits16 b) := by
  simp [bits16, List.range_succ, Nat.testBit_xor]
theorem crcBits_burst {c : Nat} (hc : c < 65536) (h : crcBits 0 (bits16 c) = 0) : c = 0 := by
  -- the bits turned round, as a number
  let rev (c : Nat) : Nat := (List.range 16).foldr (fun i r => tp (c.testBit i) (2 ^ (15 - i)) ^^^ r) 0
  have hrev : ∀ a b, rev (a ^^^ b) = rev a ^^^ rev b := fun a b => by
    have : ∀ (l : List Nat), l.foldr (fun i r => tp ((a ^^^ b).testBit i) (2 ^ (15 - i)) ^^^ r) 0 = l.foldr (fun i r => tp (a.testBit i) (2 ^ (15 - i)) ^^^ r) 0 ^^^ l.foldr (fun i r => tp (b.testBit i) (2 ^ (15 - i)) ^^^ r) 0 := by
      intro l
      induction l with
      | nil => simp
      | cons i l ih => simp only [List.foldr_cons]; rw [ih, Nat.testBit_xor, xor4, tp_xor, xor4]
    exact this _
  have h1 : ∀ c, c < 2 ^ 16 → crcBits 0 (bits16 c) = crcIt 16 (rev c) := lin_ext (fun c => crcBits 0 (bits16 c)) (fun c => crcIt 16 (rev c)) (fun a b => by
      have := crcBits_xor (bits16 a) (bits16 b) 0 0 (by simp [bits16])
      rw [← bits16_xor] at this
      simpa using this) (fun a b => by simp only [hrev, crcIt_xor]) 16 (by decide)
  have h2 : ∀ c, c < 2 ^ 16 → rev (rev c) = c := lin_ext (fun c => rev (rev c)) (fun c => c) (fun a b => by simp only [hrev]) (fun _ _ => rfl) 16 (by decide)
  have hlt : ∀ (c : Nat) (l : List Nat), l.foldr (fun i r => tp (c.testBit i) (2 ^ (15 - i)) ^^^ r) 0 < 2 ^ 16 := by
    intro c l
    induction l with
    | nil => exact (by decide : 0 < 2 ^ 16)
    | cons i l ih =>
      refine Nat.xor_lt_two_pow ?_ ih
      unfold tp
      split
      · exact Nat.pow_lt_pow_right (by decide) (by omega)
      · decide
  rw [h1 c hc] at h
  have h3 := crcIt_inj (hlt c _) h
  have h4 := h2 c hc
  have h5 : rev c = 0 := h3
  rw [h5] at h4
  rw [← h4]
  decide

/-! ### Parity -/
def par (l : List Bool) : Bool := l.foldl (· != ·) false
theorem foldl_bne (l : List Bool) (b : Bool) : l.foldl (· != ·) b = (b != par l) := by
  induction l generalizing b with
  | nil => cases b <;> rfl
  | cons c l ih =>
    simp only [par, List.foldl_cons]
    rw [ih, ih (false != c)]
    cases b <;> cases c <;> cases par l <;> rfl
theorem par_cons (c : Bool) (l : List Bool) : par (c :: l) = (c != par l) := by
  show l.foldl (· != ·) (false != c) = _
  rw [foldl_bne]; cases c <;> rfl
def parN (s : Nat) : Nat := (par ((List.range 16).map fun i => s.testBit i)).toNat
theorem par_zip : ∀ (l m : List Bool), l.length = m.length → par (List.zipWith (· != ·) l m) = (par l != par m)
  | [], [], _ => rfl
  | a :: l, b :: m, h => by
    rw [List.zipWith_cons_cons, par_cons, par_cons, par_cons, par_zip l m (by simpa using h)]
    cases a <;> cases b <;> cases par l <;> cases par m <;> rfl
  | [], _ :: _, h => by simp at h
  | _ :: _, [], h => by simp at h
theorem parN_xor (a b : Nat) : parN (a ^^^ b) = parN a ^^^ parN b := by
  have h := par_zip (bits16 a) (bits16 b) (by simp [bits16])
  rw [← bits16_xor] at h
  show (par (bits16 (a ^^^ b))).toNat = (par (bits16 a)).toNat ^^^ (par (bits16 b)).toNat
  rw [h]
  cases par (bits16 a) <;> cases par (bits16 b) <;> rfl
theorem parN_bit {s : Nat} (hs : s < 65536) : parN (crcBit s) = parN s :=
  lin_ext (fun s => parN (crcBit s)) parN (fun a b => by simp only [crcBit_xor, parN_xor]) parN_xor 16 (by decide) s hs
theorem parN_bits : ∀ (l : List Bool) (s : Nat), s < 65536 → parN (crcBits s l) = parN s ^^^ (par l).toNat
  | [], s, _ => by simp [crcBits, par]
  | b :: l, s, hs => by
    have h0 : tp b 32768 < 65536 := by cases b <;> decide
    have hx : s ^^^ tp b 32768 < 65536 := Nat.xor_lt_two_pow (n := 16) hs h0
    show parN (crcBits (stepBit s b) l) = _
    rw [parN_bits l _ (show stepBit s b < 65536 from crcBit_lt _)]
    unfold stepBit
    rw [parN_bit hx, parN_xor, par_cons, Nat.xor_assoc]
    congr 1
    cases b <;> cases par l <;> decide
theorem odd_tells {l : List Bool} (h : par l = true) : crcBits 0 l ≠ 0 := fun h0 => by
  have := parN_bits l 0 (by decide)
  rw [h0, h] at this
  exact absurd this (by decide)
theorem burst_tells {c m n : Nat} (hc : c < 65536) (h0 : c ≠ 0) : crcBits 0 (List.replicate m false ++ bits16 c ++ List.replicate n false) ≠ 0 := fun h => by
  rw [crcBits_append, crcBits_append, crcBits_false, crcBits_false, crcIt_zero] at h
  exact h0 (crcBits_burst hc (crcIt_inj (crcBits_lt (by decide) _) h))
end Go.P
