/- Rules for floats and complex numbers: over any program; no condition. -/
import Derived.Test.YtccnhnijglnbmaaK15
import Derived.Test.YtccnhnijglnbmaaPFloat
namespace Go.K
open Go Go.P
section
variable {P : Program} {ρ : Fr} {w : World} {dst : Option Nat} {ty t u : TypeId} {pos : String} {af : Array Edge} {gd : Option (Nat × Bool)} {x y : Operand} {a b c d : Nat} {ats : Array TypeId}
/-- A type of floats of 64 bits; of complex numbers: for 'kernel_rfl'. -/
def isF64 (P : Program) (t : TypeId) : Bool := match P.underlying t with | some (.float .f64) => true | _ => false
theorem isF64_spec (h : isF64 P t = true) : P.underlying t = some (.float .f64) := by
  unfold isF64 at h
  split at h
  · assumption
  · cases h
abbrev ord (a b : Nat) : Option Ordering := FloatKind.f64.format.order a b
theorem k_fneq (hx : ev ρ x = .float .f64 a) (hy : ev ρ y = .float .f64 b) : Run P ρ ⟨dst, .binOp .neq t x y u, ty, pos, af, gd⟩ w (.bool (ord a b != some .eq)) w :=
  k_bin hx hy (eqGuard_other rfl) (by simp [binOp, Op.floatCmp])
theorem k_feql (hx : ev ρ x = .float .f64 a) (hy : ev ρ y = .float .f64 b) : Run P ρ ⟨dst, .binOp .eql t x y u, ty, pos, af, gd⟩ w (.bool (feq a b)) w :=
  k_bin hx hy (eqGuard_other rfl) (by simp [binOp, Op.floatCmp, feq])
theorem k_fgtr (hx : ev ρ x = .float .f64 a) (hy : ev ρ y = .float .f64 b) : Run P ρ ⟨dst, .binOp .gtr t x y u, ty, pos, af, gd⟩ w (.bool (ord a b == some .gt)) w :=
  k_bin hx hy (eqGuard_other rfl) (by simp [binOp, Op.floatCmp])
theorem k_flss (hx : ev ρ x = .float .f64 a) (hy : ev ρ y = .float .f64 b) : Run P ρ ⟨dst, .binOp .lss t x y u, ty, pos, af, gd⟩ w (.bool (ord a b == some .lt)) w :=
  k_bin hx hy (eqGuard_other rfl) (by simp [binOp, Op.floatCmp])
theorem k_fgeq (hx : ev ρ x = .float .f64 a) (hy : ev ρ y = .float .f64 b) : Run P ρ ⟨dst, .binOp .geq t x y u, ty, pos, af, gd⟩ w (.bool (ord a b == some .gt || ord a b == some .eq)) w :=
  k_bin hx hy (eqGuard_other rfl) (by simp [binOp, Op.floatCmp])
theorem k_fleq (hx : ev ρ x = .float .f64 a) (hy : ev ρ y = .float .f64 b) : Run P ρ ⟨dst, .binOp .leq t x y u, ty, pos, af, gd⟩ w (.bool (ord a b == some .lt || ord a b == some .eq)) w :=
  k_bin hx hy (eqGuard_other rfl) (by simp [binOp, Op.floatCmp])
theorem k_fneqV {o : Option Ordering} (h : ord a b = o) (hx : ev ρ x = .float .f64 a) (hy : ev ρ y = .float .f64 b) : Run P ρ ⟨dst, .binOp .neq t x y u, ty, pos, af, gd⟩ w (.bool (o != some .eq)) w := h ▸ k_fneq hx hy
theorem k_fgtrV {o : Option Ordering} (h : ord a b = o) (hx : ev ρ x = .float .f64 a) (hy : ev ρ y = .float .f64 b) : Run P ρ ⟨dst, .binOp .gtr t x y u, ty, pos, af, gd⟩ w (.bool (o == some .gt)) w := h ▸ k_fgtr hx hy
theorem k_flssV {o : Option Ordering} (h : ord a b = o) (hx : ev ρ x = .float .f64 a) (hy : ev ρ y = .float .f64 b) : Run P ρ ⟨dst, .binOp .lss t x y u, ty, pos, af, gd⟩ w (.bool (o == some .lt)) w := h ▸ k_flss hx hy
theorem k_fgeqV {o : Option Ordering} (h : ord a b = o) (hx : ev ρ x = .float .f64 a) (hy : ev ρ y = .float .f64 b) : Run P ρ ⟨dst, .binOp .geq t x y u, ty, pos, af, gd⟩ w (.bool (o == some .gt || o == some .eq)) w := h ▸ k_fgeq hx hy
theorem k_fleqV {o : Option Ordering} (h : ord a b = o) (hx : ev ρ x = .float .f64 a) (hy : ev ρ y = .float .f64 b) : Run P ρ ⟨dst, .binOp .leq t x y u, ty, pos, af, gd⟩ w (.bool (o == some .lt || o == some .eq)) w := h ▸ k_fleq hx hy
theorem not_gt {o : Ordering} (h : o ≠ .gt) : Value.bool (some o == some .gt) = .bool false := by cases o <;> first | rfl | exact absurd rfl h
theorem not_lt {o : Ordering} (h : o ≠ .lt) : Value.bool (some o == some .lt) = .bool false := by cases o <;> first | rfl | exact absurd rfl h
theorem k_ceql (hx : ev ρ x = .complex .f64 a b) (hy : ev ρ y = .complex .f64 c d) : Run P ρ ⟨dst, .binOp .eql t x y u, ty, pos, af, gd⟩ w (.bool (feq a c && feq b d)) w :=
  k_bin hx hy (eqGuard_other rfl) (by simp [binOp, Op.complexOp, Op.Complex.cmp, Op.floatCmp, asBool, feq])
theorem k_cneq (hx : ev ρ x = .complex .f64 a b) (hy : ev ρ y = .complex .f64 c d) : Run P ρ ⟨dst, .binOp .neq t x y u, ty, pos, af, gd⟩ w (.bool !(feq a c && feq b d)) w :=
  k_bin hx hy (eqGuard_other rfl) (by simp [binOp, Op.complexOp, Op.Complex.cmp, Op.floatCmp, asBool, feq])
theorem k_complex (hx : ev ρ x = .float .f64 a) (hy : ev ρ y = .float .f64 b) : Run P ρ ⟨dst, .call ⟨.builtin .complex, #[x, y], ats⟩, ty, pos, af, gd⟩ w (.complex .f64 a b) w := by
  have h : Builtin.complex_ ats ty #[Value.float .f64 a, Value.float .f64 b] = pure (.complex .f64 a b) := rfl
  constructor; unfold execOp; simp [hx, hy, resolve, invoke, builtin, h]
theorem k_real (hx : ev ρ x = .complex .f64 a b) : Run P ρ ⟨dst, .call ⟨.builtin .real, #[x], ats⟩, ty, pos, af, gd⟩ w (.float .f64 a) w := by
  have h : Builtin.real_ ats ty #[Value.complex .f64 a b] = pure (.float .f64 a) := rfl
  constructor; unfold execOp; simp [hx, resolve, invoke, builtin, h]
theorem k_imag (hx : ev ρ x = .complex .f64 a b) : Run P ρ ⟨dst, .call ⟨.builtin .imag, #[x], ats⟩, ty, pos, af, gd⟩ w (.float .f64 b) w := by
  have h : Builtin.imag_ ats ty #[Value.complex .f64 a b] = pure (.float .f64 b) := rfl
  constructor; unfold execOp; simp [hx, resolve, invoke, builtin, h]
theorem k_conv_if {q : IntKind} {i : Int} (hx : ev ρ x = .int q i) (hs : (P.underlying t).isSome = true) (hd : isF64 P u = true) : Run P ρ ⟨dst, .convert t u x, ty, pos, af, gd⟩ w (.float .f64 (FN i)) w := by
  obtain ⟨ds, hd'⟩ := Option.isSome_iff_exists.mp hs
  constructor; unfold execOp
  simp [hx, convert, run_underlying hd', run_underlying (isF64_spec hd), Conv.intToFloat, FN]
theorem k_conv_fi {i : Int} (hx : ev ρ x = .float .f64 a) (hs : (P.underlying t).isSome = true) (hd : kindOf P u = some .i64) (hi : (rd64 a).toInt .zero = some i) (hb : -9223372036854775808 ≤ i ∧ i ≤ 9223372036854775807) : Run P ρ ⟨dst, .convert t u x, ty, pos, af, gd⟩ w (.int .i64 i) w := by
  obtain ⟨ds, hd'⟩ := Option.isSome_iff_exists.mp hs
  have hi' : (FloatKind.f64.decode a).toInt .zero = some i := hi
  have hb' : IntKind.i64.min ≤ i ∧ i ≤ IntKind.i64.max := by
    simp only [IntKind.min, IntKind.max, IntKind.signed, IntKind.bits]
    simpa using hb
  have h2 : Conv.floatToInt .f64 a .i64 = pure (.int .i64 i) := by
    unfold Conv.floatToInt
    rw [hi']
    exact if_pos hb'
  constructor; unfold execOp
  simp [hx, convert, run_underlying hd', run_underlying (kindOf_spec hd), h2]
end
end Go.K
