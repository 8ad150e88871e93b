/- Plain laws of packets: a head's bits, seven to a byte; no program in sight, no condition. -/
import Derived.Test.YtnamafelcjgjfaaPPich
import Derived.Test.YtnamafelcjgjfaaPCrc
import Derived.Test.YtnamafelcjgjfaaPEsc
namespace Go.P
open Go Go.K

def crc (l : List Nat) : Nat := crcAdd 65535 l
theorem crc_lt (l : List Nat) : crc l < 65536 := crcAdd_lt 65535 (by decide) l
/-- May it be a packet? Else why not. -/
def perr (h : PH) (f c : Int) (la lb : Nat) (all : Int) : Nat :=
  if h.err ≠ 0 then h.err else if f < 0 ∨ c < 1 ∨ all < f ∨ all - f < c ∨ 64 < all then 7 else if la < 1 ∨ 30000 < la ∨ lb < 1 ∨ 30000 < lb then 6 else 0
theorem perr_ok {h : PH} {f c all : Int} {la lb : Nat} (he : perr h f c la lb all = 0) : h.err = 0 ∧ (0 ≤ f ∧ 1 ≤ c ∧ f ≤ all ∧ c ≤ all - f ∧ all ≤ 64) ∧ (1 ≤ la ∧ la ≤ 30000 ∧ 1 ≤ lb ∧ lb ≤ 30000) := by
  unfold perr at he
  split at he
  · rename_i h1; exact absurd he h1
  · rename_i h1
    split at he
    · cases he
    · split at he
      · cases he
      · exact ⟨by simpa using h1, by omega, by omega⟩
/-- What is said of a packet, as bits. -/
structure PD where
  h : PH
  f : Nat
  c : Nat
  n : Nat
  m : Nat
  sa : Nat
  sb : Nat
def PD.bits (d : PD) : List Bool := d.h.bits ++ (nb d.f 7 ++ (nb d.c 7 ++ (nb d.n 16 ++ (nb d.m 16 ++ (nb d.sa 16 ++ nb d.sb 16)))))
def PD.fits (d : PD) : Prop := d.f < 128 ∧ d.c < 128 ∧ d.n < 65536 ∧ d.m < 65536 ∧ d.sa < 65536 ∧ d.sb < 65536
theorem PD.bits_len (d : PD) : d.bits.length = 101 := by simp [PD.bits, PH.bits_len, nb_len]
/-- With the sum, and two noughts. -/
def xb (H : List Bool) : List Bool := H ++ (nb (crc (pk H)) 16 ++ nb 0 2)
theorem xb_len (d : PD) : (xb d.bits).length = 119 := by simp [xb, PD.bits_len, nb_len]
/-- A byte of seven bits. -/
def ch (X : List Bool) (i : Nat) : Nat := 128 + numB 0 ((X.drop (7 * i)).take 7)
def chs (X : List Bool) : List Nat := (List.range 17).map (ch X)
theorem chs_len (X : List Bool) : (chs X).length = 17 := by simp [chs]
theorem ch_lt (X : List Bool) (i : Nat) : ch X i < 256 := by
  have h := numB_lt ((X.drop (7 * i)).take 7) 0 0 (by decide)
  have h2 : 2 ^ (0 + ((X.drop (7 * i)).take 7).length) ≤ 2 ^ 7 := Nat.pow_le_pow_right (by decide) (by simp [List.length_take]; omega)
  unfold ch; omega
theorem chs_byt (X : List Bool) : Byt (chs X) := fun x hx => by
  obtain ⟨i, _, rfl⟩ := List.mem_map.1 hx
  exact ch_lt X i
/-- What stands ahead of a packet's parts. -/
def phd (d : PD) : List Nat := [0, 0, 1, 182] ++ chs (xb d.bits)
theorem phd_len (d : PD) : (phd d).length = 21 := by simp [phd, chs_len]
theorem phd_byt (d : PD) : Byt (phd d) := Byt.append (bytB rfl) (chs_byt _)
/-- The seven bits of a byte. -/
theorem nb_add128 {x : Nat} (h : x < 128) : nb (128 + x) 7 = nb x 7 := by
  have key : ∀ x, x < 128 → nb (128 + x) 7 = nb x 7 := by decide +kernel
  exact key x h
theorem nb_ch {X : List Bool} {i : Nat} (h : 7 * i + 7 ≤ X.length) : nb (ch X i) 7 = (X.drop (7 * i)).take 7 := by
  have hl : ((X.drop (7 * i)).take 7).length = 7 := by simp; omega
  have h1 := numB_lt ((X.drop (7 * i)).take 7) 0 0 (by decide)
  rw [hl] at h1
  unfold ch
  rw [nb_add128 (by simpa using h1)]
  have := nb_numB 0 ((X.drop (7 * i)).take 7)
  rwa [hl] at this
/-- Bytes' seven lowest bits. -/
def b7 (l : List Nat) : List Bool := l.flatMap fun c => nb c 7
theorem b7_snoc (l : List Nat) (c : Nat) : b7 (l ++ [c]) = b7 l ++ nb c 7 := by simp [b7]
theorem b7_len (l : List Nat) : (b7 l).length = 7 * l.length := by
  induction l with
  | nil => rfl
  | cons c l ih =>
    have e : b7 (c :: l) = nb c 7 ++ b7 l := by simp [b7]
    rw [e, List.length_append, nb_len, ih, List.length_cons]; omega
theorem b7_chs {X : List Bool} (h : X.length = 119) : b7 (chs X) = X := by
  have key : ∀ k, k ≤ 17 → b7 ((List.range k).map (ch X)) = X.take (7 * k) := by
    intro k
    induction k with
    | zero => intro _; simp [b7]
    | succ k ih =>
      intro hk
      rw [List.range_succ, List.map_append, List.map_cons, List.map_nil, b7_snoc, ih (by omega), nb_ch (by omega), show 7 * (k + 1) = 7 * k + 7 by omega, List.take_add]
  have := key 17 (Nat.le_refl _)
  rw [List.take_of_length_le (by omega)] at this
  exact this
/-- A byte with its highest bit, of its seven lowest ones. -/
theorem byte7 {c : Nat} (h : c < 256) (h1 : ¬ (c &&& 128 = 0)) : c = 128 + numB 0 (nb c 7) := by
  have key : ∀ c, c < 256 → ¬ (c &&& 128 = 0) → c = 128 + numB 0 (nb c 7) := by decide +kernel
  exact key c h h1
theorem chs_b7 {l : List Nat} (hl : l.length = 17) (hb : ∀ c ∈ l, c < 256 ∧ ¬ (c &&& 128 = 0)) : chs (b7 l) = l := by
  have hseg : ∀ (l : List Nat) (i : Nat) (h : i < l.length), ((b7 l).drop (7 * i)).take 7 = nb l[i] 7 := by
    intro l
    induction l with
    | nil => intro i h; simp at h
    | cons c l ih =>
      intro i h
      have e : b7 (c :: l) = nb c 7 ++ b7 l := by simp [b7]
      cases i with
      | zero => rw [e]; simp [List.take_left' (nb_len c 7)]
      | succ i =>
        rw [e, show 7 * (i + 1) = 7 + 7 * i by omega, ← List.drop_drop, List.drop_left' (nb_len c 7), ih i (by simpa using h)]
        rfl
  refine List.ext_getElem (by rw [chs_len, hl]) (fun i h1 h2 => ?_)
  simp only [chs, List.getElem_map, List.getElem_range, ch]
  rw [hseg l i h2]
  have := hb _ (List.getElem_mem h2)
  exact (byte7 this.1 this.2).symm
theorem ch_top (X : List Bool) (i : Nat) : ¬ (ch X i &&& 128 = 0) := by
  have h : ch X i - 128 < 128 := by have := ch_lt X i; omega
  have key : ∀ x, x < 128 → ¬ ((128 + x) &&& 128 = 0) := by decide +kernel
  have := key _ h
  rwa [show 128 + (ch X i - 128) = ch X i by unfold ch; omega] at this
theorem nb_inj {x y s : Nat} (hx : x < 2 ^ s) (hy : y < 2 ^ s) (h : nb x s = nb y s) : x = y := by
  rw [← numB_nb0 hx, ← numB_nb0 hy, h]
theorem app_inj {α : Type} {a b c d : List α} (h : a ++ b = c ++ d) (hl : a.length = c.length) : a = c ∧ b = d := List.append_inj h hl
theorem PH.bits_inj {h g : PH} (hh : (0 ≤ h.id ∧ h.id ≤ 65535) ∧ 0 ≤ h.qp ∧ h.qp ≤ 31) (hg : (0 ≤ g.id ∧ g.id ≤ 65535) ∧ 0 ≤ g.qp ∧ g.qp ≤ 31) (e : h.bits = g.bits) : h = g := by
  unfold PH.bits at e
  obtain ⟨e1, e⟩ := app_inj e (by simp [nb_len])
  obtain ⟨e2, e⟩ := app_inj e rfl
  obtain ⟨e3, e4⟩ := app_inj e rfl
  have i1 := nb_inj (by omega) (by omega) e1
  have i4 := nb_inj (by omega) (by omega) e4
  obtain ⟨a, b, c, d⟩ := h
  obtain ⟨a', b', c', d'⟩ := g
  simp only at *
  cases e2; cases e3
  congr
  · omega
  · omega
theorem PD.bits_inj {d e : PD} (hd : d.fits) (he : e.fits) (hh : (0 ≤ d.h.id ∧ d.h.id ≤ 65535) ∧ 0 ≤ d.h.qp ∧ d.h.qp ≤ 31) (hg : (0 ≤ e.h.id ∧ e.h.id ≤ 65535) ∧ 0 ≤ e.h.qp ∧ e.h.qp ≤ 31) (eq : d.bits = e.bits) : d = e := by
  unfold PD.bits at eq
  unfold PD.fits at hd he
  obtain ⟨e0, eq⟩ := app_inj eq (by rw [PH.bits_len, PH.bits_len])
  obtain ⟨e1, eq⟩ := app_inj eq (by simp [nb_len])
  obtain ⟨e2, eq⟩ := app_inj eq (by simp [nb_len])
  obtain ⟨e3, eq⟩ := app_inj eq (by simp [nb_len])
  obtain ⟨e4, eq⟩ := app_inj eq (by simp [nb_len])
  obtain ⟨e5, e6⟩ := app_inj eq (by simp [nb_len])
  have i0 := PH.bits_inj hh hg e0
  have i1 := nb_inj (by omega) (by omega) e1
  have i2 := nb_inj (by omega) (by omega) e2
  have i3 := nb_inj (by omega) (by omega) e3
  have i4 := nb_inj (by omega) (by omega) e4
  have i5 := nb_inj (by omega) (by omega) e5
  have i6 := nb_inj (by omega) (by omega) e6
  obtain ⟨_, _, _, _, _, _, _⟩ := d
  obtain ⟨_, _, _, _, _, _, _⟩ := e
  simp only at *
  subst_vars
  rfl
/-- The bytes begin with what is said of this packet. -/
def GH (l : List Nat) (d : PD) : Prop := d.fits ∧ d.h.err = 0 ∧ l.take 21 = phd d
theorem GH.range {l : List Nat} {d : PD} (h : GH l d) : (0 ≤ d.h.id ∧ d.h.id ≤ 65535) ∧ 0 ≤ d.h.qp ∧ d.h.qp ≤ 31 := by
  have := (PH.ok_iff d.h).1 h.2.1; omega
theorem xb_inj {H G : List Bool} (hl : H.length = G.length) (h : xb H = xb G) : H = G := (app_inj h hl).1
theorem phd_inj {d e : PD} (h : phd d = phd e) : d.bits = e.bits := by
  have h1 := (app_inj h rfl).2
  have h2 := congrArg b7 h1
  rw [b7_chs (xb_len d), b7_chs (xb_len e)] at h2
  exact xb_inj (by rw [PD.bits_len, PD.bits_len]) h2
theorem GH.uniq {l : List Nat} {d e : PD} (h : GH l d) (h' : GH l e) : d = e :=
  PD.bits_inj h.1 h'.1 h.range h'.range (phd_inj (h.2.2.symm.trans h'.2.2))
theorem GH.len {l : List Nat} {d : PD} (h : GH l d) : 21 ≤ l.length := by
  have := congrArg List.length h.2.2
  rw [phd_len, List.length_take] at this; omega
/-- The bytes behind the marker and the kind. -/
theorem GH.seg {l : List Nat} {d : PD} (h : GH l d) : (l.drop 4).take 17 = chs (xb d.bits) := by
  have e : (l.drop 4).take 17 = (l.take 21).drop 4 := by rw [List.drop_take]
  rw [e, h.2.2]; rfl
theorem GH.lead {l : List Nat} {d : PD} (h : GH l d) : l.take 4 = [0, 0, 1, 182] := by
  have e : l.take 4 = (l.take 21).take 4 := by rw [List.take_take]; rfl
  rw [e, h.2.2]; rfl
theorem GH.of {l : List Nat} {d : PD} (hf : d.fits) (he : d.h.err = 0) (h4 : l.take 4 = [0, 0, 1, 182]) (hs : (l.drop 4).take 17 = chs (xb d.bits)) : GH l d := by
  refine ⟨hf, he, ?_⟩
  rw [show 21 = 4 + 17 by rfl, List.take_add, h4, hs]; rfl
theorem take4 {l : List Nat} (hM : IsM l 0) (h3 : l[3]? = some 182) : l.take 4 = [0, 0, 1, 182] := by
  obtain ⟨h0, h1, h2⟩ := hM
  match l with
  | [] => simp at h0
  | [_] => simp at h1
  | [_, _] => simp at h2
  | [_, _, _] => simp at h3
  | a :: b :: c :: d :: l =>
    simp at h0 h1 h2 h3
    subst h0; subst h1; subst h2; subst h3
    rfl
theorem GH.isM {l : List Nat} {d : PD} (h : GH l d) : IsM l 0 ∧ l[3]? = some 182 := by
  have h4 := h.lead
  have hl := h.len
  match l with
  | [] => simp at hl
  | [_] => simp at hl
  | [_, _] => simp at hl
  | [_, _, _] => simp at hl
  | a :: b :: c :: e :: l =>
    simp at h4
    obtain ⟨rfl, rfl, rfl, rfl⟩ := h4
    exact ⟨⟨rfl, rfl, rfl⟩, rfl⟩
/-- Bits of a head that is read whole. -/
theorem nb_of {l : List Bool} {s : Nat} (h : l.length = s) : ∃ x, x < 2 ^ s ∧ l = nb x s := by
  refine ⟨numB 0 l, ?_, ?_⟩
  · have := numB_lt l 0 0 (by decide)
    rwa [Nat.zero_add, h] at this
  · have := nb_numB 0 l
    rw [h] at this; exact this.symm
theorem split_at {l : List Bool} {n : Nat} (k : Nat) (h : l.length = k + n) : ∃ a b, l = a ++ b ∧ a.length = k ∧ b.length = n := ⟨l.take k, l.drop k, (List.take_append_drop k l).symm, by simp; omega, by simp; omega⟩
/-- What stands behind a picture's head, as numbers. -/
theorem PD.of_rest {h : PH} {r : List Bool} (hl : r.length = 78) : ∃ d : PD, d.h = h ∧ d.fits ∧ h.bits ++ r = d.bits ∧ r = nb d.f 7 ++ (nb d.c 7 ++ (nb d.n 16 ++ (nb d.m 16 ++ (nb d.sa 16 ++ nb d.sb 16)))) := by
  obtain ⟨r1, r, rfl, h1, hl⟩ := split_at (n := 71) 7 (by omega)
  obtain ⟨r2, r, rfl, h2, hl⟩ := split_at (n := 64) 7 (by omega)
  obtain ⟨r3, r, rfl, h3, hl⟩ := split_at (n := 48) 16 (by omega)
  obtain ⟨r4, r, rfl, h4, hl⟩ := split_at (n := 32) 16 (by omega)
  obtain ⟨r5, r6, rfl, h5, h6⟩ := split_at (n := 16) 16 (by omega)
  obtain ⟨x1, l1, rfl⟩ := nb_of h1
  obtain ⟨x2, l2, rfl⟩ := nb_of h2
  obtain ⟨x3, l3, rfl⟩ := nb_of h3
  obtain ⟨x4, l4, rfl⟩ := nb_of h4
  obtain ⟨x5, l5, rfl⟩ := nb_of h5
  obtain ⟨x6, l6, rfl⟩ := nb_of h6
  exact ⟨⟨h, x1, x2, x3, x4, x5, x6⟩, rfl, ⟨l1, l2, l3, l4, l5, l6⟩, rfl, rfl⟩
end Go.P
