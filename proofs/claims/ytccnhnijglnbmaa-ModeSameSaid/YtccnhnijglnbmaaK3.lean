/- Rules for bits, conversions, aggregates, lengths: over any program; no condition. -/
import Derived.Test.YtccnhnijglnbmaaK2
namespace Go.K
open Go

/-- 2 to the number of bits. -/
def two (q : IntKind) : Nat := 2 ^ q.bits
theorem wrap_uns {q : IntKind} (hq : q.signed = false) (n : Nat) : q.wrap (n : Int) = ((n % two q : Nat) : Int) := by
  unfold IntKind.wrap two
  simp [hq]
theorem wrap_sig {q : IntKind} (hq : q.signed = true) {n : Nat} (h : 2 * n < two q) : q.wrap (n : Int) = (n : Int) := by
  have h2 : n < two q := by omega
  have h1 : (n : Int) % (2 ^ q.bits : Int) = n := by
    have : (2 ^ q.bits : Int) = ((two q : Nat) : Int) := by simp [two]
    rw [this, ← Int.natCast_emod, Nat.mod_eq_of_lt h2]
  have h3 : ¬ ((2 ^ (q.bits - 1) : Int) ≤ n) := by
    have h4 : 2 ^ (q.bits - 1) * 2 = two q := by cases q <;> rfl
    have h5 : (2 ^ (q.bits - 1) : Int) = ((2 ^ (q.bits - 1) : Nat) : Int) := by simp
    rw [h5]; omega
  unfold IntKind.wrap
  simp only [h1]
  simp [hq, h3]
/-- Does a number fit, as it is? -/
def fit (q : IntKind) (n : Nat) : Bool := cond q.signed (Nat.blt (2 * n) (two q)) (Nat.blt n (two q))
theorem fit_lt {q : IntKind} {n : Nat} (h : fit q n = true) : n < two q := by
  unfold fit at h
  cases hs : q.signed <;> simp [hs, Nat.blt_eq] at h <;> omega
theorem wrap_fit {q : IntKind} {n : Nat} (h : fit q n = true) : q.wrap (n : Int) = (n : Int) := by
  cases hs : q.signed
  · rw [wrap_uns hs, Nat.mod_eq_of_lt (fit_lt h)]
  · exact wrap_sig hs (by simpa [fit, hs, Nat.blt_eq] using h)
theorem fit_of {q : IntKind} {n : Nat} (h : n < two q) (h2 : q.signed = true → 2 * n < two q) : fit q n = true := by
  unfold fit
  cases hs : q.signed
  · simpa [Nat.blt_eq] using h
  · simpa [Nat.blt_eq] using h2 hs
theorem half_two (q : IntKind) : 2 * 2 ^ (q.bits - 1) = two q := by cases q <;> rfl
theorem fit_iff {q : IntKind} {n : Nat} : fit q n = true ↔ n < 2 ^ (if q.signed then q.bits - 1 else q.bits) := by
  unfold fit
  cases hs : q.signed
  · simp [Nat.blt_eq, two]
  · simp only [cond_true, Nat.blt_eq, if_true]
    have := half_two q
    omega
theorem ofInt_nat {b n : Nat} (h : n < 2 ^ b) : (BitVec.ofInt b (n : Int)).toNat = n := by
  have e : ((2 : Int) ^ b) = ((2 ^ b : Nat) : Int) := by simp
  simp only [BitVec.toNat_ofInt]
  rw [← Int.natCast_emod, Int.toNat_natCast, Nat.mod_eq_of_lt h]
theorem fit8 {n : Nat} (h : n < 256) : fit .u8 n = true := fit_iff.2 (by simpa [IntKind.bits, IntKind.signed] using h)
theorem fit16 {n : Nat} (h : n < 65536) : fit .u16 n = true := fit_iff.2 (by simpa [IntKind.bits, IntKind.signed] using h)
theorem fit32 {n : Nat} (h : n < 4294967296) : fit .u32 n = true := fit_iff.2 (by simpa [IntKind.bits, IntKind.signed] using h)
theorem fit64 {n : Nat} (h : n < 18446744073709551616) : fit .u64 n = true := fit_iff.2 (by simpa [IntKind.bits, IntKind.signed] using h)
theorem fiti {n : Nat} (h : n < 9223372036854775808) : fit .i64 n = true := fit_iff.2 (by simpa [IntKind.bits, IntKind.signed] using h)
section
variable {P : Program} {ρ : Fr} {w w' : World} {v : Value} {dst : Option Nat} {ty : TypeId} {pos : String} {af : Array Edge} {gd : Option (Nat × Bool)} {x y z : Operand} {t u : TypeId} {q : IntKind} {m n : Nat}

theorem k_and (hx : ev ρ x = .int q m) (hy : ev ρ y = .int q n) (hm : fit q m = true) (hn : fit q n = true) : Run P ρ ⟨dst, .binOp .and t x y u, ty, pos, af, gd⟩ w (.int q ((m &&& n : Nat) : Int)) w :=
  k_bin hx hy (eqGuard_other rfl) (by
    have h : fit q (m &&& n) = true := fit_iff.2 (Nat.lt_of_le_of_lt Nat.and_le_left (fit_iff.1 hm))
    have h1 := ofInt_nat (b := q.bits) (fit_lt hm); have h2 := ofInt_nat (b := q.bits) (fit_lt hn)
    simp only [binOp, Op.intBits, BitVec.toNat_and, h1, h2, wrap_fit h]
    simp)
theorem k_or (hx : ev ρ x = .int q m) (hy : ev ρ y = .int q n) (hm : fit q m = true) (hn : fit q n = true) : Run P ρ ⟨dst, .binOp .or t x y u, ty, pos, af, gd⟩ w (.int q ((m ||| n : Nat) : Int)) w :=
  k_bin hx hy (eqGuard_other rfl) (by
    have h : fit q (m ||| n) = true := fit_iff.2 (Nat.or_lt_two_pow (fit_iff.1 hm) (fit_iff.1 hn))
    have h1 := ofInt_nat (b := q.bits) (fit_lt hm); have h2 := ofInt_nat (b := q.bits) (fit_lt hn)
    simp only [binOp, Op.intBits, BitVec.toNat_or, h1, h2, wrap_fit h]
    simp)
theorem k_xor (hx : ev ρ x = .int q m) (hy : ev ρ y = .int q n) (hm : fit q m = true) (hn : fit q n = true) : Run P ρ ⟨dst, .binOp .xor t x y u, ty, pos, af, gd⟩ w (.int q ((m ^^^ n : Nat) : Int)) w :=
  k_bin hx hy (eqGuard_other rfl) (by
    have h : fit q (m ^^^ n) = true := fit_iff.2 (Nat.xor_lt_two_pow (fit_iff.1 hm) (fit_iff.1 hn))
    have h1 := ofInt_nat (b := q.bits) (fit_lt hm); have h2 := ofInt_nat (b := q.bits) (fit_lt hn)
    simp only [binOp, Op.intBits, BitVec.toNat_xor, h1, h2, wrap_fit h]
    simp)
/-- A shift to the left, of an unsigned number. -/
theorem k_shl {yk : IntKind} (hx : ev ρ x = .int q m) (hy : ev ρ y = .int yk n) (hq : q.signed = false) : Run P ρ ⟨dst, .binOp .shl t x y u, ty, pos, af, gd⟩ w (.int q ((m * 2 ^ n % two q : Nat) : Int)) w :=
  k_bin hx hy (eqGuard_other rfl) (by
    have h0 : ¬ ((n : Int) < 0) := by omega
    have h : q.wrap ((m : Int) * 2 ^ min n q.bits) = ((m * 2 ^ n % two q : Nat) : Int) := by
      have e : ((m : Int) * 2 ^ min n q.bits) = ((m * 2 ^ min n q.bits : Nat) : Int) := by simp
      rw [e, wrap_uns hq]
      congr 1
      by_cases hn : n ≤ q.bits
      · rw [Nat.min_eq_left hn]
      · rw [Nat.min_eq_right (by omega)]
        have e1 : m * 2 ^ q.bits % two q = 0 := Nat.mul_mod_left _ _
        have e2 : m * 2 ^ n % two q = 0 := by
          have : n = (n - q.bits) + q.bits := by omega
          rw [this, Nat.pow_add, ← Nat.mul_assoc]
          exact Nat.mul_mod_left _ _
        rw [e1, e2]
    simp [binOp, Op.shift, h0, h])
theorem k_shl8 {yk : IntKind} (hx : ev ρ x = .int .u8 m) (hy : ev ρ y = .int yk n) : Run P ρ ⟨dst, .binOp .shl t x y u, ty, pos, af, gd⟩ w (.int .u8 ((m * 2 ^ n % 256 : Nat) : Int)) w := k_shl hx hy rfl
theorem k_shl16 {yk : IntKind} (hx : ev ρ x = .int .u16 m) (hy : ev ρ y = .int yk n) : Run P ρ ⟨dst, .binOp .shl t x y u, ty, pos, af, gd⟩ w (.int .u16 ((m * 2 ^ n % 65536 : Nat) : Int)) w := k_shl hx hy rfl
theorem k_shlu {yk : IntKind} (hx : ev ρ x = .int .u64 m) (hy : ev ρ y = .int yk n) : Run P ρ ⟨dst, .binOp .shl t x y u, ty, pos, af, gd⟩ w (.int .u64 ((m * 2 ^ n % 18446744073709551616 : Nat) : Int)) w := k_shl hx hy rfl
/-- A shift to the left that fits. -/
theorem k_shl64 {yk : IntKind} (hx : ev ρ x = .int .i64 m) (hy : ev ρ y = .int yk n) (hb : m * 2 ^ n < 9223372036854775808) (hn : n ≤ 63) : Run P ρ ⟨dst, .binOp .shl t x y u, ty, pos, af, gd⟩ w (.int .i64 ((m * 2 ^ n : Nat) : Int)) w :=
  k_bin hx hy (eqGuard_other rfl) (by
    have h0 : ¬ ((n : Int) < 0) := by omega
    have e : ((m : Int) * 2 ^ n) = ((m * 2 ^ n : Nat) : Int) := by simp
    have h : IntKind.i64.wrap ((m : Int) * 2 ^ n) = ((m * 2 ^ n : Nat) : Int) := by
      rw [e]; exact wrap64_id (by omega) (by omega)
    have hm : min n IntKind.i64.bits = n := Nat.min_eq_left (by simp only [IntKind.bits]; omega)
    simp only [binOp, Op.shift, h0, if_false, Int.toNat_natCast, hm, h, Sem.run_pure])
theorem k_shr {yk : IntKind} (hx : ev ρ x = .int q m) (hy : ev ρ y = .int yk n) (hm : fit q m = true) : Run P ρ ⟨dst, .binOp .shr t x y u, ty, pos, af, gd⟩ w (.int q ((m / 2 ^ n : Nat) : Int)) w :=
  k_bin hx hy (eqGuard_other rfl) (by
    have h0 : ¬ ((n : Int) < 0) := by omega
    have h : (m : Int).fdiv (2 ^ min n q.bits) = ((m / 2 ^ n : Nat) : Int) := by
      have e : ((2 : Int) ^ min n q.bits) = ((2 ^ min n q.bits : Nat) : Int) := by simp
      rw [e, Int.fdiv_eq_ediv_of_nonneg _ (Int.natCast_nonneg _), ← Int.natCast_ediv]
      congr 1
      by_cases hn : n ≤ q.bits
      · rw [Nat.min_eq_left hn]
      · rw [Nat.min_eq_right (by omega)]
        have h1 : m / 2 ^ q.bits = 0 := Nat.div_eq_of_lt (fit_lt hm)
        have h2 : m / 2 ^ n = 0 := Nat.div_eq_of_lt (Nat.lt_of_lt_of_le (fit_lt hm) (Nat.pow_le_pow_right (by omega) (by omega)))
        rw [h1, h2]
    simp [binOp, Op.shift, h0, h])
/-- Unsigned sums, differences, products. -/
theorem k_addu (hx : ev ρ x = .int q m) (hy : ev ρ y = .int q n) (hq : q.signed = false) : Run P ρ ⟨dst, .binOp .add t x y u, ty, pos, af, gd⟩ w (.int q (((m + n) % two q : Nat) : Int)) w := by
  have h := k_add (P := P) (dst := dst) (ty := ty) (pos := pos) (af := af) (gd := gd) (t := t) (u := u) (w := w) hx hy
  rw [← Int.natCast_add, wrap_uns hq] at h; exact h
theorem k_mulu (hx : ev ρ x = .int q m) (hy : ev ρ y = .int q n) (hq : q.signed = false) : Run P ρ ⟨dst, .binOp .mul t x y u, ty, pos, af, gd⟩ w (.int q ((m * n % two q : Nat) : Int)) w := by
  have h := k_mul (P := P) (dst := dst) (ty := ty) (pos := pos) (af := af) (gd := gd) (t := t) (u := u) (w := w) hx hy
  rw [← Int.natCast_mul, wrap_uns hq] at h; exact h
theorem k_subu (hx : ev ρ x = .int q m) (hy : ev ρ y = .int q n) (hq : q.signed = false) (hle : n ≤ m) (hm : m < two q) : Run P ρ ⟨dst, .binOp .sub t x y u, ty, pos, af, gd⟩ w (.int q ((m - n : Nat) : Int)) w := by
  have h := k_sub (P := P) (dst := dst) (ty := ty) (pos := pos) (af := af) (gd := gd) (t := t) (u := u) (w := w) hx hy
  rw [← Int.ofNat_sub hle, wrap_uns hq, Nat.mod_eq_of_lt (by omega)] at h; exact h
theorem k_remu (hx : ev ρ x = .int q m) (hy : ev ρ y = .int q n) (hn : n ≠ 0) : Run P ρ ⟨dst, .binOp .rem t x y u, ty, pos, af, gd⟩ w (.int q ((m % n : Nat) : Int)) w := by
  have h := k_rem (P := P) (dst := dst) (ty := ty) (pos := pos) (af := af) (gd := gd) (t := t) (u := u) (w := w) hx hy ⟨by omega, by omega⟩
  rw [← Int.natCast_emod] at h; exact h
theorem k_quou (hx : ev ρ x = .int q m) (hy : ev ρ y = .int q n) (hn : n ≠ 0) (hm : fit q m = true) : Run P ρ ⟨dst, .binOp .quo t x y u, ty, pos, af, gd⟩ w (.int q ((m / n : Nat) : Int)) w :=
  k_bin hx hy (eqGuard_other rfl) (by
    have h0 : (n : Int) ≠ 0 := by omega
    have h1 : (m : Int).tdiv n = ((m / n : Nat) : Int) := by rw [Int.tdiv_eq_ediv_of_nonneg (by omega), ← Int.natCast_ediv]
    have h2 : fit q (m / n) = true := fit_iff.2 (Nat.lt_of_le_of_lt (Nat.div_le_self _ _) (fit_iff.1 hm))
    simp only [binOp, Op.intDiv, h0, if_false, h1, wrap_fit h2]
    simp)

/-! ### Conversions of integers -/
/-- The kind of a type: for 'kernel_rfl'. -/
def kindOf (P : Program) (t : TypeId) : Option IntKind := match P.underlying t with | some (.int q) => some q | _ => none
theorem kindOf_spec (h : kindOf P t = some q) : P.underlying t = some (.int q) := by
  unfold kindOf at h
  split at h
  · rename_i hh; cases h; exact hh
  · cases h
theorem k_conv {qd : IntKind} {i : Int} (hx : ev ρ x = .int q i) (hs : (P.underlying t).isSome = true) (hd : kindOf P u = some qd) : Run P ρ ⟨dst, .convert t u x, ty, pos, af, gd⟩ w (.int qd (qd.wrap i)) w := by
  obtain ⟨d, hd'⟩ := Option.isSome_iff_exists.mp hs
  constructor; unfold execOp
  simp [hx, convert, run_underlying hd', run_underlying (kindOf_spec hd), Conv.intToInt]
theorem k_conv_fit {qd : IntKind} (hx : ev ρ x = .int q m) (hs : (P.underlying t).isSome = true) (hd : kindOf P u = some qd) (hf : fit qd m = true) : Run P ρ ⟨dst, .convert t u x, ty, pos, af, gd⟩ w (.int qd m) w := by
  have := k_conv (ρ := ρ) (dst := dst) (ty := ty) (pos := pos) (af := af) (gd := gd) (w := w) hx hs hd
  rw [wrap_fit hf] at this; exact this
theorem k_conv_u {qd : IntKind} (hx : ev ρ x = .int q m) (hs : (P.underlying t).isSome = true) (hd : kindOf P u = some qd) (hq : qd.signed = false) : Run P ρ ⟨dst, .convert t u x, ty, pos, af, gd⟩ w (.int qd ((m % two qd : Nat) : Int)) w := by
  have := k_conv (ρ := ρ) (dst := dst) (ty := ty) (pos := pos) (af := af) (gd := gd) (w := w) hx hs hd
  rw [wrap_uns hq] at this; exact this
theorem k_conv_u8 (hx : ev ρ x = .int q m) (hs : (P.underlying t).isSome = true) (hd : kindOf P u = some .u8) : Run P ρ ⟨dst, .convert t u x, ty, pos, af, gd⟩ w (.int .u8 ((m % 256 : Nat) : Int)) w := k_conv_u hx hs hd rfl
theorem k_conv_u16 (hx : ev ρ x = .int q m) (hs : (P.underlying t).isSome = true) (hd : kindOf P u = some .u16) : Run P ρ ⟨dst, .convert t u x, ty, pos, af, gd⟩ w (.int .u16 ((m % 65536 : Nat) : Int)) w := k_conv_u hx hs hd rfl
theorem k_conv_u64 (hx : ev ρ x = .int q m) (hs : (P.underlying t).isSome = true) (hd : kindOf P u = some .u64) : Run P ρ ⟨dst, .convert t u x, ty, pos, af, gd⟩ w (.int .u64 ((m % 18446744073709551616 : Nat) : Int)) w := k_conv_u hx hs hd rfl
theorem k_conv_i64 {i : Int} (hx : ev ρ x = .int q i) (hs : (P.underlying t).isSome = true) (hd : kindOf P u = some .i64) (hf : -9223372036854775808 ≤ i ∧ i ≤ 9223372036854775807) : Run P ρ ⟨dst, .convert t u x, ty, pos, af, gd⟩ w (.int .i64 i) w := by
  have := k_conv (ρ := ρ) (dst := dst) (ty := ty) (pos := pos) (af := af) (gd := gd) (w := w) hx hs hd
  rw [wrap64_id hf.1 hf.2] at this; exact this

/-! ### Bools -/
theorem k_not {p : Prop} [Decidable p] (hx : ev ρ x = .bool (decide p)) : Run P ρ ⟨dst, .unOp .not t x, ty, pos, af, gd⟩ w (.bool (decide (¬p))) w := by
  constructor; unfold execOp; simp [hx, Op.unary]
theorem k_notb {b : Bool} (hx : ev ρ x = .bool b) : Run P ρ ⟨dst, .unOp .not t x, ty, pos, af, gd⟩ w (.bool (!b)) w := by
  constructor; unfold execOp; simp [hx, Op.unary]
theorem k_neg64 {i : Int} (hx : ev ρ x = .int .i64 i) (h : -9223372036854775807 ≤ i ∧ i ≤ 9223372036854775807) : Run P ρ ⟨dst, .unOp .neg t x, ty, pos, af, gd⟩ w (.int .i64 (-i)) w := by
  constructor; unfold execOp; simp [hx, Op.unary, Op.intArith, wrap64_id (i := -i) (by omega) (by omega)]
theorem k_eqlb {a b : Bool} (hx : ev ρ x = .bool a) (hy : ev ρ y = .bool b) (ht : P.underlying t = some .bool) : Run P ρ ⟨dst, .binOp .eql t x y u, ty, pos, af, gd⟩ w (.bool (a == b)) w :=
  k_bin hx hy (eqGuard_other rfl) (by simp [binOp, Op.equal, Op.maxDepth, run_equalIn_bool w 9999 t a b ht])
theorem k_neqb {a b : Bool} (hx : ev ρ x = .bool a) (hy : ev ρ y = .bool b) (ht : P.underlying t = some .bool) : Run P ρ ⟨dst, .binOp .neq t x y u, ty, pos, af, gd⟩ w (.bool (a != b)) w :=
  k_bin hx hy (eqGuard_other rfl) (by simp [binOp, Op.equal, Op.maxDepth, run_equalIn_bool w 9999 t a b ht, bne])
theorem k_neqbF {a b : Bool} (hx : ev ρ x = .bool a) (hy : ev ρ y = .bool b) (ht : P.underlying t = some .bool) (hab : a = b) : Run P ρ ⟨dst, .binOp .neq t x y u, ty, pos, af, gd⟩ w (.bool false) w := by
  have h := k_neqb (P := P) (w := w) (dst := dst) (ty := ty) (pos := pos) (af := af) (gd := gd) (u := u) hx hy ht
  subst hab
  simpa using h
theorem k_eqlbT {a b : Bool} (hx : ev ρ x = .bool a) (hy : ev ρ y = .bool b) (ht : P.underlying t = some .bool) (hab : a = b) : Run P ρ ⟨dst, .binOp .eql t x y u, ty, pos, af, gd⟩ w (.bool true) w := by
  have h := k_eqlb (P := P) (w := w) (dst := dst) (ty := ty) (pos := pos) (af := af) (gd := gd) (u := u) hx hy ht
  subst hab
  simpa using h

/-! ### Lengths, the least, the greatest -/
section
variable {ats : Array TypeId} {pre : String}
def isSlice (P : Program) (t : TypeId) : Bool := match P.underlying t with | some (.slice _) => true | _ => false
def isStr (P : Program) (t : TypeId) : Bool := match P.underlying t with | some .string => true | _ => false
def arrLen (P : Program) (t : TypeId) : Option Nat := match P.underlying t with | some (.array n _) => some n | _ => none
theorem k_len {a : Option Addr} {c : Nat} (hx : ev ρ x = .slice a n c) (h : isSlice P t = true) : Run P ρ ⟨dst, .call ⟨.builtin .len, #[x], #[t]⟩, ty, pos, af, gd⟩ w (.int .i64 n) w := by
  unfold isSlice at h
  split at h
  · rename_i e hh
    constructor; unfold execOp; simp [hx, resolve, invoke, builtin, Builtin.len_, run_underlying hh, goInt]
  · cases h
theorem k_lens {s : ByteArray} (hx : ev ρ x = .string s) (h : isStr P t = true) : Run P ρ ⟨dst, .call ⟨.builtin .len, #[x], #[t]⟩, ty, pos, af, gd⟩ w (.int .i64 s.size) w := by
  unfold isStr at h
  split at h
  · rename_i hh
    constructor; unfold execOp; simp [hx, resolve, invoke, builtin, Builtin.len_, run_underlying hh, goInt]
  · cases h
theorem k_min {i j : Int} (hx : ev ρ x = .int q i) (hy : ev ρ y = .int q j) : Run P ρ ⟨dst, .call ⟨.builtin .min, #[x, y], ats⟩, ty, pos, af, gd⟩ w (.int q (min i j)) w := by
  have e : (if j < i then j else i) = min i j := by split <;> omega
  constructor; unfold execOp; simp [hx, hy, resolve, invoke, builtin, Builtin.min_, Builtin.min2, List.foldlM, e]
theorem k_max {i j : Int} (hx : ev ρ x = .int q i) (hy : ev ρ y = .int q j) : Run P ρ ⟨dst, .call ⟨.builtin .max, #[x, y], ats⟩, ty, pos, af, gd⟩ w (.int q (max i j)) w := by
  have e : (if j > i then j else i) = max i j := by split <;> omega
  constructor; unfold execOp; simp [hx, hy, resolve, invoke, builtin, Builtin.max_, Builtin.max2, List.foldlM, e]
theorem k_min3 {i j l : Int} (hx : ev ρ x = .int q i) (hy : ev ρ y = .int q j) (hz : ev ρ z = .int q l) : Run P ρ ⟨dst, .call ⟨.builtin .min, #[x, y, z], ats⟩, ty, pos, af, gd⟩ w (.int q (min (min i j) l)) w := by
  have e : (if j < i then j else i) = min i j := by split <;> omega
  have e2 : (if l < min i j then l else min i j) = min (min i j) l := by split <;> omega
  constructor; unfold execOp; simp [hx, hy, hz, resolve, invoke, builtin, Builtin.min_, Builtin.min2, List.foldlM, e, e2]
theorem k_max3 {i j l : Int} (hx : ev ρ x = .int q i) (hy : ev ρ y = .int q j) (hz : ev ρ z = .int q l) : Run P ρ ⟨dst, .call ⟨.builtin .max, #[x, y, z], ats⟩, ty, pos, af, gd⟩ w (.int q (max (max i j) l)) w := by
  have e : (if j > i then j else i) = max i j := by split <;> omega
  have e2 : (if l > max i j then l else max i j) = max (max i j) l := by split <;> omega
  constructor; unfold execOp; simp [hx, hy, hz, resolve, invoke, builtin, Builtin.max_, Builtin.max2, List.foldlM, e, e2]
end

/-! ### Aggregates -/
/-- Is a type an aggregate's? how many cells? -/
def shp (P : Program) (t : TypeId) : Option (Bool × Nat) :=
  match P.underlying t, P.info? t with
  | some (.struct _), some i => some (true, i.size)
  | some (.array _ _), some i => some (true, i.size)
  | some _, some i => some (false, i.size)
  | _, _ => none
theorem shp_isAgg {b : Bool} {s : Nat} (h : shp P t = some (b, s)) : (isAgg t).run P w = .ok b w := by
  unfold shp at h
  split at h
  · rename_i hh _; cases h; simp [isAgg, run_underlying hh]
  · rename_i hh _; cases h; simp [isAgg, run_underlying hh]
  · rename_i d _ hn1 hn2 hh _; cases h
    simp only [isAgg, Sem.run_bind, run_underlying hh, Result.andThen_ok]
    cases d <;> first | rfl | exact (hn1 _ rfl).elim | exact (hn2 _ _ rfl).elim
  · cases h
theorem shp_size {b : Bool} {s : Nat} (h : shp P t = some (b, s)) : (sizeOf t).run P w = .ok s w := by
  unfold shp at h
  split at h <;> first | (rename_i hi; cases h; simp [sizeOf, typeInfo, hi]) | cases h
/-- A field's place: its offset, its shape. -/
def fld (P : Program) (s : TypeId) (i : Nat) : Option (Nat × (Bool × Nat)) :=
  match P.underlying s with
  | some (.struct fs) => match fs[i]? with
    | some f => (shp P f.type).map fun p => (f.offset, p)
    | none => none
  | _ => none
theorem k_field1 {i off : Nat} {cs : Array Value} (hx : ev ρ x = .agg cs) (hf : fld P t i = some (off, (false, 1))) (hv : cs[off]? = some v) : Run P ρ ⟨dst, .field t x i, ty, pos, af, gd⟩ w v w := by
  unfold fld at hf
  split at hf
  · rename_i fs hu
    split at hf
    · rename_i fd hfd
      cases hs : shp P fd.type with
      | none => simp [hs] at hf
      | some p =>
        simp [hs] at hf
        obtain ⟨rfl, rfl⟩ := hf
        constructor; unfold execOp
        simp [hx, Instr.field, run_underlying hu, hfd, asAgg, part, shp_isAgg hs, hv]
    · cases hf
  · cases hf
theorem k_fieldN {i off s : Nat} {cs : Array Value} (hx : ev ρ x = .agg cs) (hf : fld P t i = some (off, (true, s))) : Run P ρ ⟨dst, .field t x i, ty, pos, af, gd⟩ w (.agg (cs.extract off (off + s))) w := by
  unfold fld at hf
  split at hf
  · rename_i fs hu
    split at hf
    · rename_i fd hfd
      cases hs : shp P fd.type with
      | none => simp [hs] at hf
      | some p =>
        simp [hs] at hf
        obtain ⟨rfl, rfl⟩ := hf
        constructor; unfold execOp
        simp [hx, Instr.field, run_underlying hu, hfd, asAgg, part, shp_isAgg hs, shp_size hs]
    · cases hf
  · cases hf
/-- An array's element type's shape and its length. -/
def arr (P : Program) (t : TypeId) : Option (Nat × (Bool × Nat)) :=
  match P.underlying t with
  | some (.array n e) => (shp P e).map fun p => (n, p)
  | _ => none
theorem k_index1 {i : Int} {len : Nat} {cs : Array Value} (hx : ev ρ x = .agg cs) (hy : ev ρ y = .int q i) (ha : arr P t = some (len, (false, 1))) (hi : 0 ≤ i ∧ i < len) (hv : cs[i.toNat]? = some v) : Run P ρ ⟨dst, .index t x y, ty, pos, af, gd⟩ w v w := by
  unfold arr at ha
  split at ha
  · rename_i n e hu
    cases hs : shp P e with
    | none => simp [hs] at ha
    | some p =>
      simp [hs] at ha
      obtain ⟨rfl, rfl⟩ := ha
      constructor; unfold execOp
      simp [hx, hy, Instr.index, run_underlying hu, asIntOf, hi, part, shp_isAgg hs, shp_size hs, hv]
  · cases ha
theorem k_extract {vs : Array Value} {i : Nat} (hx : ev ρ x = .tuple vs) (hv : vs[i]? = some v) : Run P ρ ⟨dst, .extract x i, ty, pos, af, gd⟩ w v w := by
  constructor; unfold execOp; simp [hx, Instr.extract, hv]
theorem k_makeFunc {fn : Fn} {a b : Array Operand} : Run P ρ ⟨dst, .makeFunc fn a b, ty, pos, af, gd⟩ w (.func fn (a.map (ev ρ)) (b.map (ev ρ))) w := by
  constructor; unfold execOp; simp [Instr.makeFunc]
theorem k_nilCheck {a : Addr} (hx : ev ρ x = .pointer (some a)) : Run P ρ ⟨dst, .nilCheck x, ty, pos, af, gd⟩ w (.pointer (some a)) w := by
  constructor; unfold execOp; simp [hx]
end
end Go.K
