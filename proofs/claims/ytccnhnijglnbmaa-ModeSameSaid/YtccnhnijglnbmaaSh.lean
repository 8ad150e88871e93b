/- Short forms of steps, for this seat's program; no condition. -/
import Derived.Test.YtccnhnijglnbmaaKP
import Derived.Test.YtccnhnijglnbmaaTy
namespace Go.Proofs.Ytccnhnijglnbmaa
open Go Go.K Go.RowKit Go.Proofs
theorem dF {p : Prop} [Decidable p] (h : ¬p) : Value.bool (decide p) = .bool false := congrArg Value.bool (decide_eq_false h)
theorem dT {p : Prop} [Decidable p] (h : p) : Value.bool (decide p) = .bool true := congrArg Value.bool (decide_eq_true h)
section
variable {ρ : Fr} {w : World} {dst : Option Nat} {ty t u : TypeId} {pos : String} {af : Array Edge} {gd : Option (Nat × Bool)} {x : Operand} {q : IntKind} {m : Nat} {p : Bool × Nat}
theorem k_convI {i : Int} (hx : ev ρ x = .int q i) (h1 : lk t Ty.shpL = some p) (h2 : lk u Ty.kndL = some .i64) (hf : -9223372036854775808 ≤ i ∧ i ≤ 9223372036854775807) : Run Try.prog ρ ⟨dst, .convert t u x, ty, pos, af, gd⟩ w (.int .i64 i) w := k_conv_i64 hx (Ty.und h1) (Ty.knd h2) hf
theorem k_conv16 (hx : ev ρ x = .int q m) (h1 : lk t Ty.shpL = some p) (h2 : lk u Ty.kndL = some .u16) (hf : m < 65536) : Run Try.prog ρ ⟨dst, .convert t u x, ty, pos, af, gd⟩ w (.int .u16 m) w := k_conv_fit hx (Ty.und h1) (Ty.knd h2) (fit16 hf)
theorem k_conv64 (hx : ev ρ x = .int q m) (h1 : lk t Ty.shpL = some p) (h2 : lk u Ty.kndL = some .u64) (hf : m < 18446744073709551616) : Run Try.prog ρ ⟨dst, .convert t u x, ty, pos, af, gd⟩ w (.int .u64 m) w := k_conv_fit hx (Ty.und h1) (Ty.knd h2) (fit64 hf)
theorem k_conv8 (hx : ev ρ x = .int q m) (h1 : lk t Ty.shpL = some p) (h2 : lk u Ty.kndL = some .u8) (hf : m < 256) : Run Try.prog ρ ⟨dst, .convert t u x, ty, pos, af, gd⟩ w (.int .u8 m) w := k_conv_fit hx (Ty.und h1) (Ty.knd h2) (fit8 hf)
theorem k_convB (hx : ev ρ x = .int q m) (h1 : lk t Ty.shpL = some p) (h2 : lk u Ty.kndL = some .u8) : Run Try.prog ρ ⟨dst, .convert t u x, ty, pos, af, gd⟩ w (.int .u8 ((m % 256 : Nat) : Int)) w := k_conv_u8 hx (Ty.und h1) (Ty.knd h2)
theorem k_convH (hx : ev ρ x = .int q m) (h1 : lk t Ty.shpL = some p) (h2 : lk u Ty.kndL = some .u16) : Run Try.prog ρ ⟨dst, .convert t u x, ty, pos, af, gd⟩ w (.int .u16 ((m % 65536 : Nat) : Int)) w := k_conv_u16 hx (Ty.und h1) (Ty.knd h2)
theorem k_convQ (hx : ev ρ x = .int q m) (h1 : lk t Ty.shpL = some p) (h2 : lk u Ty.kndL = some .u64) : Run Try.prog ρ ⟨dst, .convert t u x, ty, pos, af, gd⟩ w (.int .u64 ((m % 18446744073709551616 : Nat) : Int)) w := k_conv_u64 hx (Ty.und h1) (Ty.knd h2)
end
end Go.Proofs.Ytccnhnijglnbmaa
