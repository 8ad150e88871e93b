/- Plain laws of bits that are turned in a packet; no program in sight, no condition. -/
import Derived.Test.YtnamafelcjgjfaaPPk
import Derived.Test.YtnamafelcjgjfaaPTells
namespace Go.P
open Go Go.K

theorem pow7 {i k : Nat} (hk : k < 8) : 128 / 2 ^ ((8 * i + (7 - k)) % 8) = 2 ^ k := by
  have e : (8 * i + (7 - k)) % 8 = 7 - k := by omega
  rw [e]
  have key : ∀ k, k < 8 → 128 / 2 ^ (7 - k) = 2 ^ k := by decide
  exact key k hk
/-- A bit turned: another sum. -/
theorem crc_flip {l : List Nat} {i k c : Nat} (hl : Byt l) (hi : l[i]? = some c) (hk : k < 8) : crc (l.set i (c ^^^ 2 ^ k)) ≠ crc l := by
  have hil : i < l.length := (List.getElem?_eq_some_iff.1 hi).1
  have h := (Flp.start hl).flip (i := 8 * i + (7 - k)) (c := c) (by omega) (by rw [show (8 * i + (7 - k)) / 8 = i by omega]; exact hi)
  rw [show (8 * i + (7 - k)) / 8 = i by omega, pow7 hk] at h
  refine h.odd hl ?_
  rw [mk_congr (g := fun j => decide (j = 8 * i + (7 - k))) (fun j _ => by simp)]
  exact par_one _ _ (by omega)
theorem bits8_nb (c : Nat) : bits8 c = (List.range 8).map fun i => c.testBit (7 - i) := rfl
theorem bitsOf_bl : ∀ (l : List Nat), bitsOf l = (List.range (8 * l.length)).map (bitAt l)
  | [] => rfl
  | c :: l => by
    have ih := bitsOf_bl l
    have e : bitsOf (c :: l) = bits8 c ++ bitsOf l := by simp [bitsOf]
    rw [e, ih, List.length_cons, show 8 * (l.length + 1) = 8 + 8 * l.length by omega, List.range_add, List.map_append, List.map_map]
    have h1 : bits8 c = (List.range 8).map (bitAt (c :: l)) := by
      refine List.map_congr_left (fun j hj => ?_)
      have hj8 : j < 8 := by simpa using hj
      unfold bitAt
      rw [Nat.div_eq_of_lt hj8, Nat.mod_eq_of_lt hj8]; rfl
    have h2 : (List.range (8 * l.length)).map (bitAt l) = (List.range (8 * l.length)).map (bitAt (c :: l) ∘ fun x => 8 + x) := by
      refine List.map_congr_left (fun j hj => ?_)
      simp only [Function.comp_apply]
      unfold bitAt
      rw [show (8 + j) / 8 = j / 8 + 1 by omega, show (8 + j) % 8 = j % 8 by omega]; rfl
    rw [h1, h2]
/-- A bit turned of bits in bytes: another sum. -/
theorem crc_pk_flip {H : List Bool} {p : Nat} (hp : p < H.length) : crc (pk (H.set p (!H[p]))) ≠ crc (pk H) := by
  have hl : (pk (H.set p (!H[p]))).length = (pk H).length := by rw [pk_len, pk_len, List.length_set]
  have hpl := pk_len H
  have hF : Flp (pk H) (pk (H.set p (!H[p]))) (fun j => decide (j = p)) := by
    refine ⟨hl, pk_byt _, ?_⟩
    rw [bitsOf_bl, bitsOf_bl, hl]
    refine List.ext_getElem (by simp [mk_len]) (fun j h1 h2 => ?_)
    simp only [List.getElem_map, List.getElem_range, List.getElem_zipWith, pk_bit, mk]
    simp only [List.getD_eq_getElem?_getD]
    by_cases hj : j = p
    · subst hj
      rw [List.getElem?_set_self hp, List.getElem?_eq_getElem hp]
      cases H[j] <;> simp
    · rw [List.getElem?_set_ne (Ne.symm hj)]
      simp [hj]
  exact hF.odd (pk_byt _) (par_one _ _ (by omega))
theorem b7_get : ∀ (l : List Nat) (q : Nat), q < 7 * l.length → (b7 l)[q]? = some ((l.getD (q / 7) 0).testBit (6 - q % 7))
  | [], q, h => by simp at h
  | c :: l, q, h => by
    have e : b7 (c :: l) = nb c 7 ++ b7 l := by simp [b7]
    rw [e]
    by_cases hq : q < 7
    · rw [List.getElem?_append_left (by rw [nb_len]; exact hq), nb_get hq, Nat.div_eq_of_lt hq, Nat.mod_eq_of_lt hq]; rfl
    · rw [List.getElem?_append_right (by rw [nb_len]; omega), nb_len, b7_get l (q - 7) (by simp at h; omega), show q / 7 = (q - 7) / 7 + 1 by omega, show (q - 7) % 7 = q % 7 by omega]
      rfl
theorem b7_set {l : List Nat} {j k c : Nat} (hj : l[j]? = some c) (hk : k < 7) : ∃ b, (b7 l)[7 * j + (6 - k)]? = some b ∧ b7 (l.set j (c ^^^ 2 ^ k)) = (b7 l).set (7 * j + (6 - k)) (!b) := by
  have hjl : j < l.length := (List.getElem?_eq_some_iff.1 hj).1
  have hb := b7_get l (7 * j + (6 - k)) (by omega)
  refine ⟨_, hb, ?_⟩
  refine List.ext_getElem? (fun q => ?_)
  by_cases hq : q < 7 * l.length
  · rw [b7_get _ q (by rw [List.length_set]; exact hq)]
    by_cases hqp : 7 * j + (6 - k) = q
    · subst hqp
      rw [List.getElem?_set_self (by rw [b7_len]; omega)]
      congr 1
      rw [show (7 * j + (6 - k)) / 7 = j by omega, show 6 - (7 * j + (6 - k)) % 7 = k by omega]
      simp only [List.getD_eq_getElem?_getD]
      rw [List.getElem?_set_self hjl, hj]
      simp [Nat.testBit_xor, Nat.testBit_two_pow_self]
    · rw [List.getElem?_set_ne hqp, b7_get l q hq]
      congr 1
      simp only [List.getD_eq_getElem?_getD]
      by_cases hqj : j = q / 7
      · rw [← hqj, List.getElem?_set_self hjl, hj]
        have hne : k ≠ 6 - q % 7 := by omega
        simp [Nat.testBit_xor, Nat.testBit_two_pow_of_ne hne]
      · rw [List.getElem?_set_ne hqj]
  · rw [List.getElem?_eq_none (by rw [b7_len, List.length_set]; omega), List.getElem?_eq_none (by rw [List.length_set, b7_len]; omega)]
theorem xb_turn {H G : List Bool} {p : Nat} {b : Bool} (hH : H.length = 101) (hG : G.length = 101) (hb : (xb H)[p]? = some b) (h : xb G = (xb H).set p (!b)) : False := by
  by_cases hp : p < 101
  · have h1 := congrArg (List.take 101) h
    have h2 := congrArg (List.drop 101) h
    rw [List.take_set] at h1
    rw [List.drop_set, if_pos hp] at h2
    unfold xb at h1 h2 hb
    rw [List.take_left' hG, List.take_left' hH] at h1
    rw [List.drop_left' hG, List.drop_left' hH] at h2
    rw [List.getElem?_append_left (by omega), List.getElem?_eq_getElem (by omega)] at hb
    have hb' := Option.some.inj hb
    have h3 := (app_inj h2 (by simp [nb_len])).1
    have h4 := nb_inj (crc_lt _) (crc_lt _) h3
    rw [h1, ← hb'] at h4
    exact crc_pk_flip (by omega) h4
  · have h1 := congrArg (List.take 101) h
    rw [List.take_set, List.set_eq_of_length_le (by rw [List.length_take]; omega)] at h1
    unfold xb at h1
    rw [List.take_left' hG, List.take_left' hH] at h1
    subst h1
    have hpl : p < (xb G).length := (List.getElem?_eq_some_iff.1 hb).1
    have h2 : (xb G)[p]? = ((xb G).set p (!b))[p]? := congrArg (fun l : List Bool => l[p]?) h
    rw [List.getElem?_set_self hpl, hb] at h2
    have := Option.some.inj h2
    cases b <;> cases this
/-- A bit of what stands ahead turned: it stands ahead of no packet. -/
theorem phd_turn {d : PD} {l : List Nat} {i k c : Nat} (hl : l.take 21 = phd d) (hi : i < 21) (hc : l[i]? = some c) (hc8 : c < 256) (hk : k < 8) : ∀ e : PD, ¬ GH (l.set i (c ^^^ 2 ^ k)) e := by
  intro e h
  have hx : c ^^^ 2 ^ k ≠ c := fun hh => by
    have h1 : (c ^^^ 2 ^ k).testBit k = c.testBit k := by rw [hh]
    simp [Nat.testBit_xor, Nat.testBit_two_pow_self] at h1
  have h21 := h.2.2
  rw [List.take_set, hl] at h21
  have hci : (phd d)[i]? = some c := by rw [← hl, List.getElem?_take, if_pos hi]; exact hc
  have hset : (phd e)[i]? = some (c ^^^ 2 ^ k) := by rw [← h21, List.getElem?_set_self (by rw [phd_len]; exact hi)]
  by_cases h4 : i < 4
  · have e1 : (phd e)[i]? = ([0, 0, 1, 182] : List Nat)[i]? := List.getElem?_append_left (by simpa using h4)
    have e2 : (phd d)[i]? = ([0, 0, 1, 182] : List Nat)[i]? := List.getElem?_append_left (by simpa using h4)
    rw [← e2, hci] at e1
    rw [e1] at hset
    exact hx (Option.some.inj hset).symm
  · obtain ⟨j, rfl⟩ : ∃ j, i = 4 + j := ⟨i - 4, by omega⟩
    have hch : (chs (xb d.bits))[j]? = some c := by
      have : (phd d)[4 + j]? = (chs (xb d.bits))[4 + j - 4]? := List.getElem?_append_right (by simp)
      rw [this, Nat.add_sub_cancel_left] at hci; exact hci
    have hch' : (chs (xb e.bits))[j]? = some (c ^^^ 2 ^ k) := by
      have : (phd e)[4 + j]? = (chs (xb e.bits))[4 + j - 4]? := List.getElem?_append_right (by simp)
      rw [this, Nat.add_sub_cancel_left] at hset; exact hset
    have hjl : j < 17 := by omega
    have hval : ∀ X : List Bool, (chs X)[j]? = some (ch X j) := fun X => by simp [chs, hjl]
    by_cases h7 : k = 7
    · subst h7
      rw [hval] at hch'
      rw [hval] at hch
      have e1 := Option.some.inj hch'
      have e2 := Option.some.inj hch
      have t1 := ch_top (xb d.bits) j
      have t2 := ch_top (xb e.bits) j
      rw [e2] at t1
      rw [e1] at t2
      have key : ∀ c, c < 256 → ¬ (c &&& 128 = 0) → ¬ ((c ^^^ 2 ^ 7) &&& 128 = 0) → False := by decide +kernel
      exact key c hc8 t1 t2
    · have hcs : chs (xb e.bits) = (chs (xb d.bits)).set j (c ^^^ 2 ^ k) := by
        have e1 := h21
        unfold phd at e1
        rw [List.set_append, if_neg (by simp)] at e1
        have e2 := (app_inj e1 rfl).2
        rw [← e2]
        congr 1
        simp
      have hb := congrArg b7 hcs
      obtain ⟨b, hb1, hb2⟩ := b7_set hch (show k < 7 by omega)
      rw [hb2, b7_chs (xb_len e), b7_chs (xb_len d)] at hb
      rw [b7_chs (xb_len d)] at hb1
      exact xb_turn (PD.bits_len d) (PD.bits_len e) hb1 hb
end Go.P
