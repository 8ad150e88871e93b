/- Plain laws of floats of 64 bits: how one stands to 64 and -64, what is left of it towards nought; no program in sight, no condition. -/
import Derived.Test.YtccnhnijglnbmaaK5
namespace Go.P
open Go Go.K Ieee

/-- The number with its sign. -/
def sg (s : Bool) (m : Nat) : Int := if s then -(m : Int) else m
theorem signed_sg (s : Bool) (m u : Nat) : signed s m u = sg s m * 2 ^ u := by
  unfold signed sg
  rw [Nat.shiftLeft_eq]
  cases s <;> simp [Int.neg_mul]
theorem cmp_scale (a b : Int) {t : Int} (ht : 0 < t) : compare (a * t) (b * t) = compare a b := by
  simp only [compare, compareOfLessAndEq]
  have h1 : a * t < b * t ↔ a < b := ⟨fun h => Int.lt_of_mul_lt_mul_right h (by omega), fun h => Int.mul_lt_mul_of_pos_right h ht⟩
  have h2 : a * t = b * t ↔ a = b := ⟨fun h => Int.eq_of_mul_eq_mul_right (by omega) h, fun h => by rw [h]⟩
  simp only [h1, h2]
theorem two_pos (n : Nat) : (0 : Int) < 2 ^ n := by
  have := Nat.two_pow_pos n
  have e : ((2 : Int) ^ n) = ((2 ^ n : Nat) : Int) := by simp
  rw [e]; omega
/-- A number and the power of two that it is over. -/
def dz : Datum → Option (Int × Nat)
  | .number s m p => some (sg s (m * 2 ^ p.toNat), (-p).toNat)
  | _ => none
theorem sg_mul (s : Bool) (m n : Nat) : sg s (m * n) = sg s m * n := by cases s <;> simp [sg, Int.neg_mul]
theorem order_dz {d d' : Datum} {z z' : Int} {k k' : Nat} (h : dz d = some (z, k)) (h' : dz d' = some (z', k')) : d.order d' = some (compare (z * 2 ^ k') (z' * 2 ^ k)) := by
  cases d with
  | number s m p =>
    cases d' with
    | number t n q =>
      simp only [dz, Option.some.injEq, Prod.mk.injEq] at h h'
      obtain ⟨rfl, rfl⟩ := h
      obtain ⟨rfl, rfl⟩ := h'
      simp only [Datum.order, signed_sg, sg_mul]
      obtain ⟨c, h1, h2⟩ : ∃ c, p.toNat + (-q).toNat = (p - min p q).toNat + c ∧ q.toNat + (-p).toNat = (q - min p q).toNat + c := ⟨p.toNat + (-q).toNat - (p - min p q).toNat, by omega, by omega⟩
      have e1 : sg s m * ((2 ^ p.toNat : Nat) : Int) * 2 ^ (-q).toNat = sg s m * 2 ^ (p - min p q).toNat * 2 ^ c := by
        rw [Int.mul_assoc, Int.mul_assoc]
        congr 1
        rw [show ((2 ^ p.toNat : Nat) : Int) = (2 : Int) ^ p.toNat by simp, ← Int.pow_add, ← Int.pow_add, h1]
      have e2 : sg t n * ((2 ^ q.toNat : Nat) : Int) * 2 ^ (-p).toNat = sg t n * 2 ^ (q - min p q).toNat * 2 ^ c := by
        rw [Int.mul_assoc, Int.mul_assoc]
        congr 1
        rw [show ((2 ^ q.toNat : Nat) : Int) = (2 : Int) ^ q.toNat by simp, ← Int.pow_add, ← Int.pow_add, h2]
      rw [e1, e2, cmp_scale _ _ (two_pos c)]
    | infinity t => simp [dz] at h'
    | nan t f => simp [dz] at h'
  | infinity s => simp [dz] at h
  | nan s f => simp [dz] at h
theorem cut_zero (s : Bool) (n k : Nat) : Toward.zero.cut s n k = n / 2 ^ k := by
  simp only [Toward.cut, Bool.toNat_false, Nat.add_zero, Nat.shiftLeft_eq, Nat.one_mul]
  by_cases h : k ≤ n.log2 + 2
  · rw [Nat.min_eq_left h]
  · rw [Nat.min_eq_right (by omega)]
    have h1 : n < 2 ^ (n.log2 + 1) := Nat.lt_log2_self
    have h2 : (2 : Nat) ^ (n.log2 + 1) ≤ 2 ^ (n.log2 + 2) := Nat.pow_le_pow_right (by decide) (by omega)
    have h3 : (2 : Nat) ^ (n.log2 + 1) ≤ 2 ^ k := Nat.pow_le_pow_right (by decide) (by omega)
    rw [Nat.div_eq_of_lt (by omega), Nat.div_eq_of_lt (by omega)]
theorem trunc_dz {d : Datum} {z : Int} {k : Nat} (h : dz d = some (z, k)) : d.toInt .zero = some (z.tdiv (2 ^ k)) := by
  cases d with
  | number s m p =>
    simp only [dz, Option.some.injEq, Prod.mk.injEq] at h
    obtain ⟨rfl, rfl⟩ := h
    simp only [Datum.toInt, Datum.integral, cut_zero, signed_sg, Nat.shiftLeft_eq]
    congr 1
    have e : ((2 : Int) ^ (-p).toNat) = ((2 ^ (-p).toNat : Nat) : Int) := by simp
    rw [e]
    generalize m * 2 ^ p.toNat = n
    generalize 2 ^ (-p).toNat = g
    cases s
    · simp [sg, Int.tdiv_eq_ediv_of_nonneg]
    · simp [sg, Int.neg_tdiv, Int.tdiv_eq_ediv_of_nonneg]
  | infinity s => simp [dz] at h
  | nan s f => simp [dz] at h

abbrev rd64 (b : Nat) : Datum := FloatKind.f64.format.read b
/-- The whole number of a float, from -64 to 64; 0 of none. -/
def wholeD : Datum → Int
  | .nan .. => 0
  | .infinity s => if s then -64 else 64
  | .number s m p => max (-64) (min 64 ((sg s (m * 2 ^ p.toNat)).tdiv (2 ^ (-p).toNat)))
def whole (b : Nat) : Int := wholeD (rd64 b)
theorem whole_le (b : Nat) : -64 ≤ whole b ∧ whole b ≤ 64 := by
  unfold whole wholeD
  split
  · omega
  · split <;> omega
  · omega
abbrev F64p : Nat := 4634204016564240384
abbrev F64n : Nat := 13857576053419016192
/-- The float of a whole number. -/
def FN (n : Int) : Nat := FloatKind.f64.nearest n
/-- Are two floats equal? -/
def feq (x y : Nat) : Bool := FloatKind.f64.format.order x y == some .eq
theorem dz_p : dz (rd64 F64p) = some (64 * 2 ^ 46, 46) := by decide +kernel
theorem dz_n : dz (rd64 F64n) = some (-64 * 2 ^ 46, 46) := by decide +kernel
/-- What there is to know of a float. -/
inductive Fl (b : Nat) : Prop
  | nan (h : FloatKind.f64.format.order b b = none) (hw : whole b = 0)
  | up (h : FloatKind.f64.format.order b b = some .eq) (h1 : FloatKind.f64.format.order b F64p = some .gt) (hw : whole b = 64)
  | down (h : FloatKind.f64.format.order b b = some .eq) (o : Ordering) (h1 : FloatKind.f64.format.order b F64p = some .lt) (h2 : FloatKind.f64.format.order b F64n = some .lt) (hw : whole b = -64)
  | mid (h : FloatKind.f64.format.order b b = some .eq) (o o' : Ordering) (h1 : FloatKind.f64.format.order b F64p = some o) (ho : o ≠ .gt) (h2 : FloatKind.f64.format.order b F64n = some o') (ho' : o' ≠ .lt)
    (ht : (rd64 b).toInt .zero = some (whole b)) (he : o = .eq → whole b = 64) (he' : o' = .eq → whole b = -64)
theorem cmp_self (a : Int) : compare a a = .eq := by simp [compare, compareOfLessAndEq]
theorem fl (b : Nat) : Fl b := by
  have hord : ∀ c, FloatKind.f64.format.order b c = (rd64 b).order (rd64 c) := fun _ => rfl
  have hP : rd64 F64p = .number false 4503599627370496 (-46) := by decide +kernel
  have hN : rd64 F64n = .number true 4503599627370496 (-46) := by decide +kernel
  cases hd : rd64 b with
  | nan s f => exact .nan (by rw [hord, hd]; rfl) (by simp [whole, hd, wholeD])
  | infinity s =>
    cases s with
    | false => exact .up (by rw [hord, hd]; decide) (by rw [hord, hd, hP]; rfl) (by simp [whole, hd, wholeD])
    | true => exact .down (by rw [hord, hd]; decide) .lt (by rw [hord, hd, hP]; rfl) (by rw [hord, hd, hN]; rfl) (by simp [whole, hd, wholeD])
  | number s m p =>
    have hz : dz (rd64 b) = some (sg s (m * 2 ^ p.toNat), (-p).toNat) := by rw [hd]; rfl
    have hw : whole b = max (-64) (min 64 ((sg s (m * 2 ^ p.toNat)).tdiv (2 ^ (-p).toNat))) := by simp [whole, hd, wholeD]
    have ht := trunc_dz hz
    generalize sg s (m * 2 ^ p.toNat) = z at *
    generalize (-p).toNat = k at *
    have h0 : FloatKind.f64.format.order b b = some .eq := by rw [hord, order_dz hz hz, cmp_self]
    have hp : FloatKind.f64.format.order b F64p = some (compare z (64 * 2 ^ k)) := by
      rw [hord, order_dz hz dz_p, show (64 : Int) * 2 ^ 46 * 2 ^ k = 64 * 2 ^ k * 2 ^ 46 by rw [Int.mul_assoc, Int.mul_comm (2 ^ 46), ← Int.mul_assoc], cmp_scale _ _ (two_pos 46)]
    have hn : FloatKind.f64.format.order b F64n = some (compare z (-64 * 2 ^ k)) := by
      rw [hord, order_dz hz dz_n, show (-64 : Int) * 2 ^ 46 * 2 ^ k = -64 * 2 ^ k * 2 ^ 46 by rw [Int.mul_assoc, Int.mul_comm (2 ^ 46), ← Int.mul_assoc], cmp_scale _ _ (two_pos 46)]
    have hk := two_pos k
    generalize (2 : Int) ^ k = t at *
    have hc : ∀ a b : Int, compare a b = if a < b then .lt else if a = b then .eq else .gt := fun a b => rfl
    by_cases hgt : 64 * t < z
    · refine .up h0 ?_ ?_
      · rw [hp, hc, if_neg (by omega), if_neg (by omega)]
      · have : 64 ≤ z.tdiv t := by
          rw [Int.tdiv_eq_ediv_of_nonneg (by omega)]
          exact (Int.le_ediv_iff_mul_le hk).2 (by omega)
        omega
    · by_cases hlt : z < -64 * t
      · refine .down h0 .lt ?_ ?_ ?_
        · rw [hp, hc, if_pos (by omega)]
        · rw [hn, hc, if_pos (by omega)]
        · have h1 : 64 ≤ (-z).tdiv t := by
            rw [Int.tdiv_eq_ediv_of_nonneg (by omega)]
            exact (Int.le_ediv_iff_mul_le hk).2 (by omega)
          rw [Int.neg_tdiv] at h1
          omega
      · have hb1 : z.tdiv t ≤ 64 := by
          rcases Int.lt_or_le z 0 with hz0 | hz0
          · have h1 : 0 ≤ (-z).tdiv t := Int.tdiv_nonneg (by omega) (by omega)
            rw [Int.neg_tdiv] at h1
            omega
          · rw [Int.tdiv_eq_ediv_of_nonneg hz0]
            have := Int.ediv_le_ediv hk (show z ≤ 64 * t by omega)
            rwa [Int.mul_ediv_cancel _ (by omega)] at this
        have hb2 : -64 ≤ z.tdiv t := by
          rcases Int.lt_or_le z 0 with hz0 | hz0
          · have h1 : (-z).tdiv t ≤ 64 := by
              rw [Int.tdiv_eq_ediv_of_nonneg (by omega)]
              have := Int.ediv_le_ediv hk (show -z ≤ 64 * t by omega)
              rwa [Int.mul_ediv_cancel _ (by omega)] at this
            rw [Int.neg_tdiv] at h1
            omega
          · have : 0 ≤ z.tdiv t := Int.tdiv_nonneg hz0 (by omega)
            omega
        have hwt : whole b = z.tdiv t := by omega
        refine .mid h0 _ _ hp ?_ hn ?_ (by rw [ht, hwt]) ?_ ?_
        · rw [hc]; split
          · simp
          · rw [if_pos (by omega)]; simp
        · rw [hc, if_neg (by omega)]; split <;> simp
        · intro he
          have hz : z = 64 * t := by
            rw [hc] at he
            split at he
            · cases he
            · split at he
              · assumption
              · cases he
          rw [hwt, hz, Int.mul_tdiv_cancel _ (by omega)]
        · intro he
          have hz : z = -64 * t := by
            rw [hc] at he
            split at he
            · cases he
            · split at he
              · assumption
              · cases he
          rw [hwt, hz, Int.mul_tdiv_cancel _ (by omega)]
theorem whole_FN (n : Int) (h : -64 ≤ n ∧ n ≤ 64) : whole (FN n) = n := by
  have key : ∀ i : Nat, i < 129 → whole (FN ((i : Int) - 64)) = (i : Int) - 64 := by decide +kernel
  have := key (n + 64).toNat (by omega)
  rwa [show (((n + 64).toNat : Nat) : Int) - 64 = n by omega] at this
theorem whole_FNc (n : Int) (h : -128 ≤ n ∧ n ≤ 127) : whole (FN n) = min (max n (-64)) 64 := by
  have key : ∀ i : Nat, i < 256 → whole (FN ((i : Int) - 128)) = min (max ((i : Int) - 128) (-64)) 64 := by decide +kernel
  have := key (n + 128).toNat (by omega)
  rwa [show (((n + 128).toNat : Nat) : Int) - 128 = n by omega] at this
theorem feq_FN (n : Int) (h : -64 ≤ n ∧ n ≤ 64) : feq (FN n) (FN n) = true := by
  have key : ∀ i : Nat, i < 129 → feq (FN ((i : Int) - 64)) (FN ((i : Int) - 64)) = true := by decide +kernel
  have := key (n + 64).toNat (by omega)
  rwa [show (((n + 64).toNat : Nat) : Int) - 64 = n by omega] at this
/-- May it be a vector? -/
def isR (re im : Nat) : Bool := (feq (FN (whole re)) re && feq (FN (whole im)) im) && (decide (-31 ≤ whole re ∧ whole re ≤ 31) && decide (-31 ≤ whole im ∧ whole im ≤ 31))
theorem isR_FN {a b : Int} (ha : -31 ≤ a ∧ a ≤ 31) (hb : -31 ≤ b ∧ b ≤ 31) : isR (FN a) (FN b) = true := by
  unfold isR
  rw [whole_FN a (by omega), whole_FN b (by omega), feq_FN a (by omega), feq_FN b (by omega)]
  simp [ha, hb]
end Go.P
