/- Plain laws of numbers that are read from either end; no program in sight, no condition. -/
import Derived.Test.YtccnhnijglnbmaaPPack
namespace Go.P
open Go Go.K

/-- How many binary digits. -/
def blen (x : Nat) : Nat := if x = 0 then 0 else x.log2 + 1
def tabL : List Nat := [0, 1] ++ List.replicate 2 2 ++ List.replicate 4 3 ++ List.replicate 8 4 ++ List.replicate 16 5 ++ List.replicate 32 6 ++ List.replicate 64 7 ++ List.replicate 128 8
theorem tab_get : ∀ x, x < 256 → (strOf tabL)[x]? = some (UInt8.ofNat (blen x)) := by decide +kernel
theorem blen_lt : ∀ x, x < 256 → blen x < 256 := by decide +kernel
theorem blen_big {x : Nat} (h1 : 256 ≤ x) : blen x = blen (x / 256) + 8 := by
  have h2 : x / 256 ≠ 0 := by omega
  have h3 : 8 ≤ x.log2 := (Nat.le_log2 (by omega)).2 (by omega)
  have hl := Nat.log2_self_le (n := x) (by omega)
  have hu := Nat.lt_log2_self (n := x)
  unfold blen
  rw [if_neg (by omega), if_neg h2]
  obtain ⟨k, hk⟩ : ∃ k, x.log2 = k + 8 := ⟨x.log2 - 8, by omega⟩
  rw [hk] at hl hu ⊢
  rw [Nat.pow_add] at hl
  rw [show k + 8 + 1 = (k + 1) + 8 by omega, Nat.pow_add] at hu
  have e : (x / 256).log2 = k := (Nat.log2_eq_iff h2).2 ⟨by omega, by omega⟩
  omega
theorem blen_pos {x : Nat} (h : 0 < x) : 0 < blen x := by unfold blen; rw [if_neg (by omega)]; omega
theorem blen_le {x m : Nat} (h : x < 2 ^ m) : blen x ≤ m := by
  unfold blen
  split
  · omega
  · have := (Nat.log2_lt (by omega)).2 h; omega
theorem blen_up {x : Nat} : x < 2 ^ blen x := by
  unfold blen
  split
  · omega
  · exact Nat.lt_log2_self
theorem blen_low {x : Nat} (h : 0 < x) : 2 ^ (blen x - 1) ≤ x := by
  unfold blen
  rw [if_neg (by omega), Nat.add_sub_cancel]
  exact Nat.log2_self_le (by omega)
/-- Digits, a 1 behind each but the last, a 0 behind that. -/
def inter : List Bool → List Bool
  | [] => []
  | [d] => [d, false]
  | d :: e :: ds => d :: true :: inter (e :: ds)
/-- A number that is read from either end. -/
def rv (n : Nat) : List Bool := if n = 0 then [true] else false :: inter (nb (n + 1) (blen (n + 1) - 1))
/-- What has been put of it, so many digits in. -/
def rpart (ds : List Bool) (i : Nat) : List Bool := (ds.take i).flatMap fun d => [d, true]
theorem inter_eq : ∀ (ds : List Bool), ds ≠ [] → inter ds = rpart ds (ds.length - 1) ++ [ds.getLastD false, false]
  | [], h => absurd rfl h
  | [d], _ => rfl
  | d :: e :: ds, _ => by
    have ih := inter_eq (e :: ds) (by simp)
    simp only [inter, ih, rpart, List.length_cons, Nat.add_sub_cancel, List.take_succ_cons, List.flatMap_cons]
    simp [List.getLastD]
theorem inter_len : ∀ (ds : List Bool), (inter ds).length = 2 * ds.length
  | [] => rfl
  | [_] => rfl
  | d :: e :: ds => by simp only [inter, List.length_cons, inter_len (e :: ds)]; omega
theorem rv_len (n : Nat) : (rv n).length = 2 * blen (n + 1) - 1 := by
  unfold rv
  split
  · subst_vars; rfl
  · have := blen_pos (x := n + 1) (by omega)
    rw [List.length_cons, inter_len, nb_len]; omega
/-! ### Reading: the digits, till one has a 0 behind -/
def dig : Nat → List Bool → Option (List Bool × List Bool)
  | 0, _ => none
  | _ + 1, [] => none
  | _ + 1, [_] => none
  | k + 1, d :: e :: l => if e then (dig k l).map fun q => (d :: q.1, q.2) else some ([d], l)
theorem dig_some : ∀ {k : Nat} {l ds r : List Bool}, dig k l = some (ds, r) → l = inter ds ++ r ∧ 1 ≤ ds.length ∧ ds.length ≤ k
  | 0, _, _, _, h => by simp [dig] at h
  | _ + 1, [], _, _, h => by simp [dig] at h
  | _ + 1, [_], _, _, h => by simp [dig] at h
  | k + 1, d :: e :: l, ds, r, h => by
    cases e with
    | false =>
      simp [dig] at h
      obtain ⟨rfl, rfl⟩ := h
      exact ⟨rfl, by simp, by simp⟩
    | true =>
      simp only [dig, if_true, Option.map_eq_some_iff] at h
      obtain ⟨⟨ds', r'⟩, hq, he⟩ := h
      simp only [Prod.mk.injEq] at he
      obtain ⟨rfl, rfl⟩ := he
      obtain ⟨h1, h2, h3⟩ := dig_some hq
      refine ⟨?_, by simp, by simp; omega⟩
      cases ds' with
      | nil => simp at h2
      | cons x xs => rw [h1]; rfl
theorem dig_inter : ∀ {ds : List Bool} {k : Nat} {r : List Bool}, 1 ≤ ds.length → ds.length ≤ k → dig k (inter ds ++ r) = some (ds, r)
  | [], _, _, h, _ => by simp at h
  | [d], 0, _, _, h => by simp at h
  | [d], k + 1, r, _, _ => by simp [inter, dig]
  | d :: e :: ds, 0, _, _, h => by simp at h
  | d :: e :: ds, k + 1, r, _, h => by
    have ih := dig_inter (ds := e :: ds) (k := k) (r := r) (by simp) (by simp at h ⊢; omega)
    simp only [inter, List.cons_append, dig, if_true]
    rw [ih]; rfl
theorem numB_snoc (n : Nat) (l : List Bool) (d : Bool) : numB n (l ++ [d]) = 2 * numB n l + d.toNat := by simp [numB]
theorem numB_ge : ∀ (l : List Bool) (n : Nat), n * 2 ^ l.length ≤ numB n l
  | [], n => by simp [numB]
  | b :: l, n => by
    have := numB_ge l (2 * n + b.toNat)
    have e : numB n (b :: l) = numB (2 * n + b.toNat) l := rfl
    have h2 : n * 2 ^ (l.length + 1) = 2 * n * 2 ^ l.length := by rw [Nat.pow_succ, Nat.mul_comm 2 n, Nat.mul_assoc, Nat.mul_comm 2]
    rw [e, List.length_cons, h2]
    exact Nat.le_trans (Nat.mul_le_mul_right _ (by omega)) this
theorem numB1_lt (l : List Bool) : numB 1 l < 2 ^ (l.length + 1) := by have := numB_lt l 1 1 (by decide); rwa [Nat.add_comm] at this
theorem numB1_ge (l : List Bool) : 2 ^ l.length ≤ numB 1 l := by have := numB_ge l 1; rwa [Nat.one_mul] at this
theorem nb_snoc (x s : Nat) : nb x (s + 1) = nb (x / 2) s ++ [x.testBit 0] := by
  refine List.ext_getElem (by simp [nb_len]) (fun i h1 h2 => ?_)
  rw [nb_len] at h1
  have e1 := nb_get (n := x) (s := s + 1) (i := i) h1
  rw [List.getElem?_eq_getElem (by rw [nb_len]; exact h1)] at e1
  rw [Option.some.inj e1, List.getElem_append]
  split
  · rename_i h
    rw [nb_len] at h
    have e2 := nb_get (n := x / 2) (s := s) (i := i) h
    rw [List.getElem?_eq_getElem (by rw [nb_len]; exact h)] at e2
    rw [Option.some.inj e2, show s + 1 - 1 - i = (s - 1 - i) + 1 by omega, Nat.testBit_succ]
  · rename_i h
    rw [nb_len] at h
    obtain rfl : i = s := by omega
    simp
theorem nb_cons (x s : Nat) : nb x (s + 1) = x.testBit s :: nb x s := by
  refine List.ext_getElem (by simp [nb_len]) (fun i h1 h2 => ?_)
  rw [nb_len] at h1
  have e1 := nb_get (n := x) (s := s + 1) (i := i) h1
  rw [List.getElem?_eq_getElem (by rw [nb_len]; exact h1)] at e1
  rw [Option.some.inj e1]
  cases i with
  | zero => simp
  | succ i =>
    have e2 := nb_get (n := x) (s := s) (i := i) (by omega)
    rw [List.getElem?_eq_getElem (by rw [nb_len]; omega)] at e2
    rw [List.getElem_cons_succ, Option.some.inj e2, show s + 1 - 1 - (i + 1) = s - 1 - i by omega]
theorem nb_numB (n : Nat) (ds : List Bool) : nb (numB n ds) ds.length = ds := by
  obtain ⟨l, rfl⟩ : ∃ l : List Bool, ds = l.reverse := ⟨ds.reverse, by simp⟩
  induction l with
  | nil => rfl
  | cons d l ih =>
    rw [List.reverse_cons, numB_snoc, List.length_append, List.length_singleton, nb_snoc]
    have hd : (2 * numB n l.reverse + d.toNat) / 2 = numB n l.reverse := by cases d <;> simp <;> omega
    have hb : (2 * numB n l.reverse + d.toNat).testBit 0 = d := by
      rw [Nat.testBit_zero]
      cases d
      · simp
      · simp
    rw [hd, hb, ih]
theorem blen_eq {x k : Nat} (h1 : 2 ^ k ≤ x) (h2 : x < 2 ^ (k + 1)) : blen x = k + 1 := by
  have h0 : 0 < 2 ^ k := Nat.two_pow_pos k
  unfold blen
  rw [if_neg (by omega), (Nat.log2_eq_iff (by omega)).2 ⟨h1, h2⟩]
/-- The number of these digits. -/
theorem rv_numB {ds : List Bool} (h : 1 ≤ ds.length) : rv (numB 1 ds - 1) = false :: inter ds := by
  have h1 := numB1_ge ds
  have h2 := numB1_lt ds
  have h3 : 2 ^ 1 ≤ 2 ^ ds.length := Nat.pow_le_pow_right (by decide) h
  unfold rv
  rw [if_neg (by omega), show numB 1 ds - 1 + 1 = numB 1 ds by omega, blen_eq h1 h2, Nat.add_sub_cancel, nb_numB]
theorem rv_digits {n : Nat} (h0 : n ≠ 0) (h : n ≤ 8190) : ∃ ds : List Bool, 1 ≤ ds.length ∧ ds.length ≤ 12 ∧ numB 1 ds = n + 1 ∧ rv n = false :: inter ds := by
  have hp := blen_pos (x := n + 1) (by omega)
  have hlow := blen_low (x := n + 1) (by omega)
  have hup := blen_up (x := n + 1)
  obtain ⟨D, hD⟩ : ∃ D, blen (n + 1) = D + 1 := ⟨blen (n + 1) - 1, by omega⟩
  rw [hD] at hlow hup
  rw [Nat.add_sub_cancel] at hlow
  have hD12 : D ≤ 12 := by
    rcases Nat.lt_or_ge 12 D with h | h
    · have : 2 ^ 13 ≤ 2 ^ D := Nat.pow_le_pow_right (by decide) h
      omega
    · exact h
  have hD1 : 1 ≤ D := by
    rcases Nat.lt_or_ge D 1 with h | h
    · have : D = 0 := by omega
      subst this; omega
    · exact h
  have hnum : ∀ (s x : Nat), numB (x / 2 ^ s) (nb x s) = x := by
    intro s
    induction s with
    | zero => intro x; simp [nb, numB]
    | succ s ih =>
      intro x
      rw [nb_snoc, numB_snoc]
      have e : x / 2 ^ (s + 1) = x / 2 / 2 ^ s := by rw [Nat.div_div_eq_div_mul, Nat.pow_succ, Nat.mul_comm]
      rw [e, ih, Nat.testBit_zero]
      have := Nat.mod_two_eq_zero_or_one x
      rcases this with h | h
      · simp [h]; omega
      · simp [h]; omega
  have hq : (n + 1) / 2 ^ D = 1 := by
    have : 2 ^ (D + 1) = 2 ^ D * 2 := Nat.pow_succ 2 D
    exact Nat.div_eq_of_lt_le (by omega) (by omega)
  refine ⟨nb (n + 1) D, by rw [nb_len]; exact hD1, by rw [nb_len]; exact hD12, by have := hnum D (n + 1); rw [hq] at this; exact this, ?_⟩
  unfold rv
  rw [if_neg h0, hD, Nat.add_sub_cancel]
/-- The next number of bits. -/
def rtk : List Bool → Option (Nat × List Bool)
  | [] => none
  | true :: l => some (0, l)
  | false :: l => (dig 12 l).map fun q => (numB 1 q.1 - 1, q.2)
def rbk : List Bool → Option (Nat × List Bool)
  | [] => none
  | true :: l => some (0, l)
  | false :: l => (dig 12 l).map fun q => (numB 1 q.1.reverse - 1, q.2)
theorem numB_le12 {ds : List Bool} (h : ds.length ≤ 12) : numB 1 ds - 1 ≤ 8190 := by
  have := numB1_lt ds
  have h2 : 2 ^ (ds.length + 1) ≤ 2 ^ 13 := Nat.pow_le_pow_right (by decide) (by omega)
  omega
theorem rtk_iff {l r : List Bool} {n : Nat} : rtk l = some (n, r) ↔ n ≤ 8190 ∧ l = rv n ++ r := by
  constructor
  · intro h
    match l with
    | [] => simp [rtk] at h
    | true :: l => simp [rtk] at h; obtain ⟨rfl, rfl⟩ := h; exact ⟨by omega, rfl⟩
    | false :: l =>
      simp only [rtk, Option.map_eq_some_iff] at h
      obtain ⟨⟨ds, r'⟩, hq, he⟩ := h
      simp only [Prod.mk.injEq] at he
      obtain ⟨rfl, rfl⟩ := he
      obtain ⟨h1, h2, h3⟩ := dig_some hq
      exact ⟨numB_le12 h3, by rw [rv_numB h2, h1]; rfl⟩
  · rintro ⟨hn, rfl⟩
    by_cases h0 : n = 0
    · subst h0; rfl
    · obtain ⟨ds, h1, h2, h3, h4⟩ := rv_digits h0 hn
      rw [h4]
      simp only [List.cons_append, rtk, dig_inter h1 h2, Option.map_some, h3]
      simp
theorem inter_cons : ∀ (d : Bool) (ds : List Bool), inter (d :: ds) = d :: (ds.flatMap (fun d => [true, d]) ++ [false])
  | d, [] => rfl
  | d, e :: ds => by simp only [inter, inter_cons e ds, List.flatMap_cons]; simp
theorem inter_snoc : ∀ (ds : List Bool) (d : Bool), inter (ds ++ [d]) = ds.flatMap (fun d => [d, true]) ++ [d, false]
  | [], d => rfl
  | [e], d => rfl
  | e :: f :: ds, d => by
    have ih := inter_snoc (f :: ds) d
    simp only [List.cons_append, inter, List.flatMap_cons] at ih ⊢
    rw [ih]; simp
theorem flat_rev : ∀ (ds : List Bool), (ds.flatMap (fun d => [true, d])).reverse = ds.reverse.flatMap (fun d => [d, true])
  | [] => rfl
  | d :: ds => by simp [List.flatMap_append, flat_rev ds]
theorem inter_rev {ds : List Bool} (h : 1 ≤ ds.length) : (false :: inter ds).reverse = false :: inter ds.reverse := by
  cases ds with
  | nil => simp at h
  | cons d ds =>
    have e : (d :: ds).reverse = ds.reverse ++ [d] := List.reverse_cons
    rw [inter_cons, e, inter_snoc]
    simp [flat_rev]
theorem rbk_iff {l r : List Bool} {n : Nat} : rbk l = some (n, r) ↔ n ≤ 8190 ∧ l = (rv n).reverse ++ r := by
  constructor
  · intro h
    match l with
    | [] => simp [rbk] at h
    | true :: l => simp [rbk] at h; obtain ⟨rfl, rfl⟩ := h; exact ⟨by omega, rfl⟩
    | false :: l =>
      simp only [rbk, Option.map_eq_some_iff] at h
      obtain ⟨⟨ds, r'⟩, hq, he⟩ := h
      simp only [Prod.mk.injEq] at he
      obtain ⟨rfl, rfl⟩ := he
      obtain ⟨h1, h2, h3⟩ := dig_some hq
      have hr : 1 ≤ ds.reverse.length := by simpa using h2
      refine ⟨numB_le12 (by simpa using h3), ?_⟩
      rw [rv_numB hr, inter_rev hr, List.reverse_reverse, h1]; rfl
  · rintro ⟨hn, rfl⟩
    by_cases h0 : n = 0
    · subst h0; rfl
    · obtain ⟨ds, h1, h2, h3, h4⟩ := rv_digits h0 hn
      rw [h4, inter_rev h1]
      simp only [List.cons_append, rbk, dig_inter (ds := ds.reverse) (by simpa using h1) (by simpa using h2), Option.map_some, List.reverse_reverse, h3]
      simp
/-- Digits, the lowest first, as a number. -/
def vb : List Bool → Nat
  | [] => 0
  | d :: l => d.toNat + 2 * vb l
theorem vb_snoc : ∀ (l : List Bool) (d : Bool), vb (l ++ [d]) = vb l + d.toNat * 2 ^ l.length
  | [], d => by simp [vb]
  | e :: l, d => by
    simp only [List.cons_append, vb, vb_snoc l d, List.length_cons, Nat.pow_succ, Nat.mul_add]
    rw [Nat.mul_comm (2 ^ l.length) 2, Nat.mul_left_comm]
    omega
theorem vb_lt : ∀ (l : List Bool), vb l < 2 ^ l.length
  | [] => by simp [vb]
  | d :: l => by
    have := vb_lt l
    have hd : d.toNat ≤ 1 := by cases d <;> decide
    simp only [vb, List.length_cons, Nat.pow_succ]
    omega
theorem vb_rev : ∀ (l : List Bool), numB 1 l.reverse = vb l + 2 ^ l.length
  | [] => rfl
  | d :: l => by
    rw [List.reverse_cons, numB_snoc, vb_rev l]
    simp only [vb, List.length_cons, Nat.pow_succ]
    omega
/-- A number with a sign as one without; and back. -/
def sgn (n : Int) : Int := if 0 < n then 2 * n - 1 else -2 * n
def uns (n : Nat) : Int := if n % 2 = 1 then ((n + 1) / 2 : Nat) else -((n / 2 : Nat) : Int)
theorem uns_sgn (n : Int) : ∃ s : Nat, sgn n = s ∧ uns s = n ∧ s ≤ 2 * n.natAbs := by
  refine ⟨(sgn n).toNat, ?_, ?_, ?_⟩
  · unfold sgn; split <;> omega
  · unfold sgn uns; split <;> split <;> omega
  · unfold sgn; split <;> omega
end Go.P
