/- Plain laws of a stream's head, read out of bytes; a bit of it turned; no program in sight, no condition. -/
import Derived.Test.YtnamafelcjgjfaaPSeqh
import Derived.Test.YtnamafelcjgjfaaPTurn
namespace Go.P
open Go Go.K

/-! ### The weights, read -/
/-- So many weights, read. -/
def rt : Nat → RS → List Nat × RS
  | 0, s => ([], s)
  | n + 1, s => ((rt n s).1 ++ [(rbt 8 (rt n s).2).1], (rbt 8 (rt n s).2).2)
theorem rt_len : ∀ (n : Nat) (s : RS), (rt n s).1.length = n
  | 0, _ => rfl
  | n + 1, s => by simp [rt, rt_len n s]
theorem rt_byt : ∀ (n : Nat) (s : RS), Byt (rt n s).1
  | 0, _ => by simp [rt, Byt]
  | n + 1, s => Byt.append (rt_byt n s) (fun x hx => by
    simp at hx; subst hx
    exact rbt_lt 8 _)
theorem rt_app : ∀ (n : Nat) (t : List Nat) (r : List Bool), t.length = n → Byt t → rt n ⟨tb t ++ r, false⟩ = (t, ⟨r, false⟩)
  | 0, t, r, hl, _ => by
    rw [List.eq_nil_of_length_eq_zero hl]; rfl
  | n + 1, t, r, hl, hb => by
    obtain ⟨u, x, rfl⟩ : ∃ u x, t = u ++ [x] := ⟨t.dropLast, t.getLast (by intro h; subst h; simp at hl), (List.dropLast_concat_getLast _).symm⟩
    have ih := rt_app n u (nb x 8 ++ r) (by simpa using hl) (fun y hy => hb y (by simp [hy]))
    have hx : x < 2 ^ 8 := hb x (by simp)
    unfold rt
    rw [tb_snoc, List.append_assoc, ih]
    simp only
    rw [rbt_app hx]
theorem rt_ok : ∀ (n : Nat) (s : RS), (rt n s).2.ended = false → ∃ r, s = ⟨tb (rt n s).1 ++ r, false⟩ ∧ (rt n s).2 = ⟨r, false⟩
  | 0, ⟨l, en⟩, h => by
    have h' : en = false := h
    subst h'
    exact ⟨l, rfl, rfl⟩
  | n + 1, s, h => by
    simp only [rt] at h
    obtain ⟨x, r, hx, hs, hr⟩ := rbt_ok h
    obtain ⟨r', h1, h2⟩ := rt_ok n s (by rw [hs])
    have e : r' = nb x 8 ++ r := by rw [hs] at h2; injection h2 with h2 _; exact h2.symm
    refine ⟨r, ?_, ?_⟩
    · simp only [rt]
      rw [hr, tb_snoc, List.append_assoc, ← e]
      exact h1
    · simp only [rt]
      rw [hr]
/-! ### A head, read -/
def SH.rdN (n : Nat) (s : RS) : SH × RS :=
  if (rbit (rbt 8 (rbt 8 s).2).2).1 = true then
    (⟨((rbt 8 s).1 : Nat), ((rbt 8 (rbt 8 s).2).1 : Nat), true, (rt n (rbit (rbt 8 (rbt 8 s).2).2).2).1.take 64, (rt n (rbit (rbt 8 (rbt 8 s).2).2).2).1.drop 64⟩, (rt n (rbit (rbt 8 (rbt 8 s).2).2).2).2)
  else (⟨((rbt 8 s).1 : Nat), ((rbt 8 (rbt 8 s).2).1 : Nat), false, List.replicate 64 0, List.replicate 64 0⟩, (rbit (rbt 8 (rbt 8 s).2).2).2)
def SH.rd (s : RS) : SH × RS := SH.rdN 128 s
theorem rep0_byt (n : Nat) : Byt (List.replicate n 0) := fun x hx => by simp at hx; omega
theorem SH.rdN_good {n : Nat} (hn : n = 128) (s : RS) : (SH.rdN n s).1.ok := by
  unfold SH.rdN
  split
  · refine ⟨by simp only [List.length_take, rt_len]; omega, by simp only [List.length_drop, rt_len]; omega, fun x hx => rt_byt n _ x (List.mem_of_mem_take hx), fun x hx => rt_byt n _ x (List.mem_of_mem_drop hx)⟩
  · exact ⟨by simp, by simp, rep0_byt 64, rep0_byt 64⟩
theorem SH.rd_good (s : RS) : (SH.rd s).1.ok := SH.rdN_good rfl s
theorem SH.rdN_bits {n : Nat} (hn : n = 128) {h : SH} (ho : h.ok) (he : h.err = 0) (r : List Bool) : SH.rdN n ⟨h.bits ++ r, false⟩ = (h, ⟨r, false⟩) := by
  obtain ⟨h1, h2, h3, h4⟩ := SH.good he
  have e1 : rbt 8 ⟨h.bits ++ r, false⟩ = (h.c.toNat, ⟨nb h.r.toNat 8 ++ ((h.wt :: if h.wt = true then tb (h.A ++ h.Bb) else []) ++ r), false⟩) := by
    unfold SH.bits
    rw [List.append_assoc, List.append_assoc, rbt_app (by omega)]
  unfold SH.rdN
  rw [e1]
  simp only
  rw [rbt_app (by omega)]
  simp only
  rw [List.cons_append, rbit_cons]
  simp only
  cases hw : h.wt with
  | true =>
    simp only [if_true]
    rw [rt_app n _ r (by rw [SH.tab_len ho, hn]) (SH.tab_byt ho)]
    simp only [Prod.mk.injEq, and_true]
    exact SH.ext' (by simp only; omega) (by simp only; omega) hw.symm (by simp only; rw [List.take_left' ho.la]) (by simp only; rw [List.drop_left' ho.la])
  | false =>
    simp only [Bool.false_eq_true, if_false, List.nil_append, Prod.mk.injEq, and_true]
    have hz := h4 hw
    exact SH.ext' (by simp only; omega) (by simp only; omega) hw.symm (zeros_eq (by simp [ho.la]) (fun x hx => by simp at hx; omega) (fun x hx => hz x (by simp [hx]))) (zeros_eq (by simp [ho.lb]) (fun x hx => by simp at hx; omega) (fun x hx => hz x (by simp [hx])))
theorem SH.rd_bits {h : SH} (ho : h.ok) (he : h.err = 0) (r : List Bool) : SH.rd ⟨h.bits ++ r, false⟩ = (h, ⟨r, false⟩) := SH.rdN_bits rfl ho he r
theorem SH.rdN_ok {n : Nat} {s : RS} (he : (SH.rdN n s).2.ended = false) : ∃ r, s = ⟨(SH.rdN n s).1.bits ++ r, false⟩ ∧ (SH.rdN n s).2 = ⟨r, false⟩ := by
  have hb : (rbit (rbt 8 (rbt 8 s).2).2).2.ended = false := by
    unfold SH.rdN at he
    split at he
    · obtain ⟨r, h1, _⟩ := rt_ok n _ he
      rw [h1]
    · exact he
  obtain ⟨b, r3, h3, e3⟩ := rbit_ok hb
  obtain ⟨y, r2, hy, h2, e2⟩ := rbt_ok (k := 8) (s := (rbt 8 s).2) (by rw [h3])
  obtain ⟨x, r1, hx, h1, e1⟩ := rbt_ok (k := 8) (s := s) (by rw [h2])
  have q2 : r2 = b :: r3 := by rw [e2] at h3; injection h3 with h3 _
  have q1 : r1 = nb y 8 ++ r2 := by rw [e1] at h2; injection h2 with h2 _
  subst q2; subst q1
  have r1' : rbt 8 ⟨nb y 8 ++ b :: r3, false⟩ = (y, ⟨b :: r3, false⟩) := rbt_app hy
  unfold SH.rdN at he ⊢
  rw [e1] at he ⊢
  simp only at he ⊢
  rw [r1'] at he ⊢
  simp only at he ⊢
  rw [rbit_cons] at he ⊢
  simp only at he ⊢
  cases b with
  | true =>
    simp only [if_true] at he ⊢
    obtain ⟨r, h5, h6⟩ := rt_ok n _ he
    refine ⟨r, ?_, h6⟩
    rw [h1]
    have h7 : r3 = tb (rt n ⟨r3, false⟩).1 ++ r := by injection h5
    unfold SH.bits
    simp only [Int.toNat_natCast, if_true, List.take_append_drop]
    rw [List.append_assoc, List.append_assoc, List.cons_append, ← h7]
  | false =>
    simp only [Bool.false_eq_true, if_false] at he ⊢
    refine ⟨r3, ?_, rfl⟩
    rw [h1]
    unfold SH.bits
    simp
theorem SH.rd_ok {s : RS} (he : (SH.rd s).2.ended = false) : ∃ r, s = ⟨(SH.rd s).1.bits ++ r, false⟩ ∧ (SH.rd s).2 = ⟨r, false⟩ := SH.rdN_ok he
/-! ### Bits with a 1 behind, and their size -/
theorem bits_ext {l m : List Nat} (hl : Byt l) (hm : Byt m) (hlen : l.length = m.length) (h : ∀ j, bitAt l j = bitAt m j) : l = m := by
  refine List.ext_getElem hlen (fun i h1 h2 => ?_)
  refine byte_ext (hl _ (List.getElem_mem _)) (hm _ (List.getElem_mem _)) (fun j hj => ?_)
  have := h (8 * i + j)
  unfold bitAt at this
  rw [show (8 * i + j) / 8 = i by omega, show (8 * i + j) % 8 = j by omega] at this
  simpa [List.getD_eq_getElem?_getD, h1, h2] using this
/-- Where the last 1 of bytes stands whose last byte isn't nought. -/
structure LastAt (l : List Nat) (n : Nat) : Prop where
  nz : l.getD (l.length - 1) 0 ≠ 0
  lt : n < 8 * l.length
  at' : bitAt l n = true
  no : ∀ j, n < j → bitAt l j = false
theorem LastAt.pk {l : List Nat} {n : Nat} (h : LastAt l n) (hl : Byt l) : pk (bl l 0 n ++ [true]) = l := by
  have hn : 8 * (l.length - 1) ≤ n := by
    rcases Nat.lt_or_ge n (8 * (l.length - 1)) with h1 | h1
    · exfalso
      have hlen : 0 < l.length := by have := h.lt; omega
      apply h.nz
      have hg : l.getD (l.length - 1) 0 < 256 := by
        rw [List.getD_eq_getElem?_getD, List.getElem?_eq_getElem (by omega)]
        exact hl _ (List.getElem_mem _)
      refine byte_ext hg (by decide) (fun j hj => ?_)
      have := h.no (8 * (l.length - 1) + j) (by omega)
      unfold bitAt at this
      rw [show (8 * (l.length - 1) + j) / 8 = l.length - 1 by omega, show (8 * (l.length - 1) + j) % 8 = j by omega] at this
      rw [this]; simp
    · exact h1
  have hlt := h.lt
  refine bits_ext (pk_byt _) hl ?_ (fun j => ?_)
  · rw [pk_len]; simp [bl_len]; omega
  · rw [pk_bit, List.getD_eq_getElem?_getD]
    rcases Nat.lt_trichotomy j n with h1 | rfl | h1
    · rw [List.getElem?_append_left (by simp [bl_len]; exact h1)]
      simp [bl, h1]
    · rw [List.getElem?_append_right (by simp [bl_len])]
      simp [bl_len, h.at']
    · rw [List.getElem?_eq_none (by simp [bl_len]; omega), h.no j h1]
      rfl
theorem pk_last (bs : List Bool) : LastAt (pk (bs ++ [true])) bs.length := by
  have hb : ∀ j, bitAt (pk (bs ++ [true])) j = (bs ++ [true]).getD j false := pk_bit _
  have hlen := pk_len (bs ++ [true])
  simp only [List.length_append, List.length_singleton] at hlen
  refine ⟨fun h0 => ?_, by omega, ?_, fun j hj => ?_⟩
  · have := hb bs.length
    unfold bitAt at this
    rw [show bs.length / 8 = (pk (bs ++ [true])).length - 1 by omega, h0] at this
    simp [List.getD_eq_getElem?_getD] at this
  · rw [hb]; simp [List.getD_eq_getElem?_getD]
  · rw [hb, List.getD_eq_getElem?_getD, List.getElem?_eq_none (by simp; omega)]; rfl
theorem LastAt.uniq {l : List Nat} {n m : Nat} (h : LastAt l n) (g : LastAt l m) : n = m := by
  rcases Nat.lt_trichotomy n m with h1 | h1 | h1
  · have := h.no m h1; rw [g.at'] at this; cases this
  · exact h1
  · have := g.no n h1; rw [h.at'] at this; cases this
theorem LastAt.bits {bs : List Bool} {n : Nat} (h : LastAt (P.pk (bs ++ [true])) n) : bl (P.pk (bs ++ [true])) 0 n = bs := by
  obtain rfl := h.uniq (pk_last bs)
  have h1 := bl_pk (bs ++ [true])
  have h2 := bl_pre (l := P.pk (bs ++ [true])) (k := bs.length) (e := (bs ++ [true]).length) (by simp) (by rw [pk_len]; omega)
  rw [h2, h1]; simp
/-! ### Bytes as a head -/
/-- What parse answers. -/
def PRes (l : List Nat) (v : Value) : Prop :=
  (∃ h : SH, h.ok ∧ h.err = 0 ∧ h.body = l ∧ v = .tuple #[.agg h.cells.toArray, .int .i64 0]) ∨
  ((∀ h : SH, h.ok → h.err = 0 → h.body ≠ l) ∧ ∃ e : Nat, 0 < e ∧ e < 18 ∧ v = .tuple #[.agg SH.zero.cells.toArray, .int .i64 e])
theorem body_not {l : List Nat} (h0 : l.getD (l.length - 1) 0 = 0) (h : SH) : h.body ≠ l := fun e => by
  subst e
  exact (pk_last h.bits).nz h0
/-- No head: the reader ended, or bits are left, or what it is may not be. -/
theorem body_no {l : List Nat} {n : Nat} (hs : LastAt l n) (hb : (SH.rd ⟨bl l 0 n, false⟩).2.ended = true ∨ (SH.rd ⟨bl l 0 n, false⟩).2.rest ≠ [] ∨ (SH.rd ⟨bl l 0 n, false⟩).1.err ≠ 0) (h : SH) (ho : h.ok) (he : h.err = 0) : h.body ≠ l := fun e => by
  subst e
  have e1 : bl h.body 0 n = h.bits := LastAt.bits hs
  have e2 := SH.rd_bits ho he []
  rw [List.append_nil] at e2
  rw [e1, e2] at hb
  simp [he] at hb
theorem body_yes {l : List Nat} {n : Nat} (hl : Byt l) (hs : LastAt l n) (h1 : (SH.rd ⟨bl l 0 n, false⟩).2.ended = false) (h2 : (SH.rd ⟨bl l 0 n, false⟩).2.rest = []) : (SH.rd ⟨bl l 0 n, false⟩).1.body = l := by
  obtain ⟨r, h3, h4⟩ := SH.rd_ok h1
  rw [h4] at h2
  simp only at h2
  subst h2
  rw [List.append_nil] at h3
  injection h3 with h3 _
  unfold SH.body
  rw [← h3]
  exact hs.pk hl
/-! ### The marker behind -/
/-- Where a head's bytes end: at the next marker, or with all. -/
def EndAt (l : List Nat) (k : Nat) : Prop := (3 ≤ k ∧ IsM l k ∧ ∀ j, 3 ≤ j → j < k → ¬ IsM l j) ∨ (k = l.length ∧ ∀ j, 3 ≤ j → ¬ IsM l j)
theorem EndAt.uniq {l : List Nat} {k m : Nat} (h : EndAt l k) (g : EndAt l m) : k = m := by
  rcases h with ⟨h1, h2, h3⟩ | ⟨h1, h2⟩ <;> rcases g with ⟨g1, g2, g3⟩ | ⟨g1, g2⟩
  · rcases Nat.lt_trichotomy k m with h | h | h
    · exact absurd h2 (g3 k h1 h)
    · exact h
    · exact absurd g2 (h3 m g1 h)
  · exact absurd h2 (g2 k h1)
  · exact absurd g2 (h2 m g1)
  · rw [h1, g1]
theorem EndAt.le {l : List Nat} {k : Nat} (h : EndAt l k) : k ≤ l.length := by
  rcases h with ⟨_, h2, _⟩ | ⟨h1, _⟩
  · have := (List.getElem?_eq_some_iff.1 h2.1).1; omega
  · omega
/-- A head that may be stands at the beginning, up to there. -/
def AtHead (l : List Nat) (h : SH) (k : Nat) : Prop := h.ok ∧ h.err = 0 ∧ EndAt l k ∧ l.take k = h.out
/-- What Take answers. -/
def STk (l : List Nat) (v : Value) : Prop :=
  (∃ h k, AtHead l h k ∧ v = .tuple #[.agg h.cells.toArray, .int .i64 (k : Nat), .int .i64 0]) ∨
  ((∀ h k, ¬ AtHead l h k) ∧ ∃ e : Nat, 0 < e ∧ e < 18 ∧ v = .tuple #[.agg SH.zero.cells.toArray, .int .i64 0, .int .i64 e])
theorem SH.out_cons (h : SH) : h.out = 0 :: 0 :: 1 :: 176 :: escF 0 (endd h.body) := rfl
theorem AtHead.four {l : List Nat} {h : SH} {k : Nat} (hA : AtHead l h k) : l.take 4 = [0, 0, 1, 176] ∧ 4 ≤ k ∧ (l.take k).drop 4 = escF 0 (endd h.body) := by
  obtain ⟨_, _, _, h4⟩ := hA
  have hl := congrArg List.length h4
  rw [SH.out_cons] at hl h4
  simp only [List.length_take, List.length_cons] at hl
  have hk : 4 ≤ k := by omega
  refine ⟨?_, hk, ?_⟩
  · have := congrArg (List.take 4) h4
    rw [List.take_take, Nat.min_eq_left hk] at this
    rw [this]; rfl
  · rw [h4]; rfl
theorem take4_iff {l : List Nat} : l.take 4 = [0, 0, 1, 176] ↔ IsM l 0 ∧ l[3]? = some 176 := by
  unfold IsM
  match l with
  | [] => simp
  | [a] => simp
  | [a, b] => simp
  | [a, b, c] => simp
  | a :: b :: c :: d :: l => simp [and_assoc]
theorem AtHead.isM {l : List Nat} {h : SH} {k : Nat} (hA : AtHead l h k) : IsM l 0 ∧ l[3]? = some 176 := take4_iff.1 hA.four.1
theorem AtHead.raw {l : List Nat} {h : SH} {k : Nat} (hA : AtHead l h k) : tk 0 ((l.take k).drop 4) = some (endd h.body) := by
  rw [hA.four.2.2]; exact tk_esc _ 0 (by omega)
theorem AtHead.of {l : List Nat} {h : SH} {k : Nat} {raw : List Nat} (ho : h.ok) (he : h.err = 0) (hE : EndAt l k) (h4 : l.take 4 = [0, 0, 1, 176]) (hk : 4 ≤ k) (ht : tk 0 ((l.take k).drop 4) = some raw) (hr : raw = endd h.body) : AtHead l h k := by
  refine ⟨ho, he, hE, ?_⟩
  have h1 := esc_tk _ _ raw 0 (Nat.le_refl _) (by omega) ht
  unfold SH.out
  rw [← hr, h1, ← h4]
  have : (l.take k).take 4 = l.take 4 := by rw [List.take_take, Nat.min_eq_left hk]
  rw [← this, List.take_append_drop]
theorem endd_len (l : List Nat) : (endd l).length = l.length + 3 := by simp [endd]
theorem endd_take (l : List Nat) : (endd l).take ((endd l).length - 3) = l := by rw [endd_len]; simp [endd]
theorem endd_at {l : List Nat} : (endd l)[l.length]? = some (crc l / 256) ∧ (endd l)[l.length + 1]? = some (crc l % 256) ∧ (endd l)[l.length + 2]? = some 128 := by
  refine ⟨?_, ?_, ?_⟩ <;> (unfold endd; rw [List.getElem?_append_right (by omega)]; simp)
/-- Bytes with their sum, and a byte that isn't nought. -/
theorem endd_of {raw : List Nat} {x y : Nat} (hb : Byt raw) (hl : 3 ≤ raw.length) (h1 : raw[raw.length - 3]? = some x) (h2 : raw[raw.length - 2]? = some y) (h3 : raw[raw.length - 1]? = some 128) (hs : crc (raw.take (raw.length - 3)) = x * 256 + y) : raw = endd (raw.take (raw.length - 3)) := by
  have hx : x < 256 := hb x (List.mem_of_getElem? h1)
  have hy : y < 256 := hb y (List.mem_of_getElem? h2)
  unfold endd
  rw [hs, show (x * 256 + y) / 256 = x by omega, show (x * 256 + y) % 256 = y by omega]
  conv => lhs; rw [← List.take_append_drop (raw.length - 3) raw]
  congr 1
  refine List.ext_getElem? (fun i => ?_)
  rw [List.getElem?_drop]
  match i with
  | 0 => rw [Nat.add_zero, h1]; rfl
  | 1 => rw [show raw.length - 3 + 1 = raw.length - 2 by omega, h2]; rfl
  | 2 => rw [show raw.length - 3 + 2 = raw.length - 1 by omega, h3]; rfl
  | i + 3 => rw [List.getElem?_eq_none (by omega), List.getElem?_eq_none (by simp)]
/-! ### A head by itself, or with a marker behind -/
theorem out_noM {h : SH} (j : Nat) (hj : 3 ≤ j) (tl : List Nat) (hlt : j < h.out.length) : ¬ IsM (h.out ++ tl) j := by
  intro ⟨h1, h2, h3⟩
  have hL := escF_low (endd h.body)
  have hlast : ∃ y, escF 0 (endd h.body) = y ++ [128] := by
    refine ⟨escF 0 (h.body ++ [crc h.body / 256, crc h.body % 256]), ?_⟩
    rw [show endd h.body = (h.body ++ [crc h.body / 256, crc h.body % 256]) ++ [128] by simp [endd], escF_snoc]
    simp [escO]
  obtain ⟨y, hy⟩ := hlast
  rw [SH.out_cons, hy] at h1 h2 h3 hlt
  rw [hy] at hL
  obtain ⟨i, rfl⟩ : ∃ i, j = i + 3 := ⟨j - 3, by omega⟩
  simp only [List.cons_append] at h1 h2 h3
  rw [show i + 3 + 1 = i + 4 by omega] at h2
  rw [show i + 3 + 2 = i + 5 by omega] at h3
  simp only [List.getElem?_cons_succ] at h1 h2 h3
  match i with
  | 0 => simp at h1
  | i + 1 =>
    simp only [List.length_cons, List.length_append, List.length_nil] at hlt
    simp only [List.getElem?_cons_succ] at h1 h2 h3
    rw [List.append_assoc] at h1 h2 h3
    have hm : ∀ q, q < y.length → (y ++ ([128] ++ tl))[q]? = (y ++ [128])[q]? := fun q hq => by
      rw [List.getElem?_append_left hq, List.getElem?_append_left hq]
    rcases Nat.lt_or_ge (i + 2) y.length with hq | hq
    · rw [hm _ (by omega)] at h1
      rw [hm _ (by omega)] at h2
      rw [hm _ (by omega)] at h3
      exact hL i ⟨h1, h2, 1, h3, by omega⟩
    · -- the byte that isn't nought is among the three
      have h128 : (y ++ ([128] ++ tl))[y.length]? = some 128 := by rw [List.getElem?_append_right (by omega)]; simp
      rcases Nat.lt_or_ge i y.length with hq1 | hq1
      · rcases Nat.lt_or_ge (i + 1) y.length with hq2 | hq2
        · rw [show i + 2 = y.length by omega, h128] at h3; cases h3
        · rw [show i + 1 = y.length by omega, h128] at h2; cases h2
      · rw [show i = y.length by omega, h128] at h1; cases h1
theorem out_end (h : SH) : EndAt h.out h.out.length := by
  refine .inr ⟨rfl, fun j hj hM => ?_⟩
  have hl := (List.getElem?_eq_some_iff.1 hM.1).1
  have := out_noM (h := h) j hj [] hl
  rw [List.append_nil] at this
  exact this hM
theorem out_end_more (h : SH) (tl : List Nat) : EndAt (h.out ++ ([0, 0, 1] ++ tl)) h.out.length := by
  refine .inl ⟨by rw [SH.out_cons]; simp, ⟨?_, ?_, ?_⟩, fun j hj hlt => out_noM j hj _ hlt⟩ <;>
    (rw [List.getElem?_append_right (by omega)]; simp)
theorem AtHead.out {h : SH} (ho : h.ok) (he : h.err = 0) : AtHead h.out h h.out.length := ⟨ho, he, out_end h, List.take_length⟩
theorem AtHead.out_more {h : SH} (ho : h.ok) (he : h.err = 0) (tl : List Nat) : AtHead (h.out ++ ([0, 0, 1] ++ tl)) h h.out.length := ⟨ho, he, out_end_more h tl, by simp⟩
theorem AtHead.uniq {l : List Nat} {h g : SH} {k m : Nat} (hA : AtHead l h k) (hB : AtHead l g m) : h = g ∧ k = m := by
  obtain rfl := hA.2.2.1.uniq hB.2.2.1
  exact ⟨(SH.out_inj hA.1 hB.1 hA.2.1 hB.2.1).1 (by rw [← hA.2.2.2, ← hB.2.2.2]), rfl⟩
theorem STk.good {l : List Nat} {v : Value} {h : SH} {k : Nat} (hT : STk l v) (hA : AtHead l h k) : v = .tuple #[.agg h.cells.toArray, .int .i64 (k : Nat), .int .i64 0] := by
  rcases hT with ⟨g, m, hB, rfl⟩ | ⟨hno, _⟩
  · obtain ⟨rfl, rfl⟩ := hA.uniq hB; rfl
  · exact absurd hA (hno h k)
theorem STk.bad {l : List Nat} {v : Value} (hT : STk l v) (hA : ∀ h k, ¬ AtHead l h k) : ∃ e : Nat, 0 < e ∧ e < 18 ∧ v = .tuple #[.agg SH.zero.cells.toArray, .int .i64 0, .int .i64 e] := by
  rcases hT with ⟨g, m, hB, rfl⟩ | ⟨_, h⟩
  · exact absurd hB (hA g m)
  · exact h
/-! ### A bit turned -/
theorem set_turn_ne {c k : Nat} (_ : k < 8) : c ^^^ 2 ^ k ≠ c := fun h => by
  have h1 : (c ^^^ 2 ^ k).testBit k = c.testBit k := by rw [h]
  rw [Nat.testBit_xor, Nat.testBit_two_pow_self] at h1
  revert h1
  cases c.testBit k <;> decide
theorem crc_endd (l : List Nat) : crc (l ++ [crc l / 256, crc l % 256]) = 0 := by
  unfold crc
  rw [crcAdd_append]
  exact self_end (crcAdd_lt 65535 (by decide) l)
theorem turned_no {h : SH} (ho : h.ok) (he : h.err = 0) {i k c : Nat} (hc : h.out[i]? = some c) (hk : k < 8) : ∀ g m, ¬ AtHead (h.out.set i (c ^^^ 2 ^ k)) g m := by
  intro g m hA
  have hil : i < h.out.length := (List.getElem?_eq_some_iff.1 hc).1
  obtain ⟨go, ge, hE, ht⟩ := hA
  have hlh := SH.out_len ho he
  have hlg := SH.out_len go ge
  have hm : m = g.out.length := by
    have := congrArg List.length ht
    have h2 := hE.le
    rw [List.length_take] at this
    omega
  have hml := hE.le
  rw [List.length_set] at hml
  have hne := set_turn_ne (c := c) hk
  have hsame : ∀ j, j ≠ i → (h.out.set i (c ^^^ 2 ^ k))[j]? = h.out[j]? := fun j hj => by rw [List.getElem?_set_ne (Ne.symm hj)]
  rcases Nat.lt_or_ge m h.out.length with hlt | hge
  · -- a marker ahead of the end
    have hM : IsM (h.out.set i (c ^^^ 2 ^ k)) m := by
      rcases hE with ⟨_, hM, _⟩ | ⟨h1, _⟩
      · exact hM
      · rw [List.length_set] at h1; omega
    have hm10 : m = 10 ∧ h.out.length = 138 := by
      rw [hlg] at hm
      rw [hlh] at hlt
      rw [hlh]
      split at hm <;> split at hlt <;> first | omega | (rename_i h1 h2; exact ⟨hm, if_pos h2⟩)
    obtain ⟨rfl, h138⟩ := hm10
    have hbl : h.body.length = 131 := by
      have := congrArg List.length (SH.out_eq ho he)
      rw [h138] at this
      simp [endd_len] at this
      omega
    have hnz : ∀ j, j < 131 → ∃ x, h.out[j + 4]? = some x ∧ x ≠ 0 := fun j hj => by
      rw [SH.out_eq ho he]
      refine ⟨h.body[j], ?_, SH.body_pos ho he _ (List.getElem_mem _)⟩
      show ([0, 0, 1, 176] ++ endd h.body)[j + 4]? = _
      rw [List.getElem?_append_right (by simp)]
      unfold endd
      rw [List.getElem?_append_left (by simp; omega)]
      simp [show j < h.body.length by omega]
    obtain ⟨x, hx1, hx2⟩ := hnz 6 (by omega)
    obtain ⟨y, hy1, hy2⟩ := hnz 7 (by omega)
    by_cases h10 : i = 10
    · have := hM.2.1
      rw [hsame _ (by omega)] at this
      rw [hy1] at this
      exact hy2 (Option.some.inj this)
    · have := hM.1
      rw [hsame _ (Ne.symm h10)] at this
      rw [hx1] at this
      exact hx2 (Option.some.inj this)
  · have hmm : m = h.out.length := by omega
    have e : h.out.set i (c ^^^ 2 ^ k) = g.out := by
      rw [← ht, List.take_of_length_le (by rw [List.length_set]; omega)]
    rw [SH.out_eq ho he, SH.out_eq go ge] at e
    rw [SH.out_eq ho he] at hc hil
    have hblen : h.body.length = g.body.length := by
      have := congrArg List.length e
      simp [endd_len] at this
      exact this
    rcases Nat.lt_or_ge i 4 with h4 | h4
    · have h5 := congrArg (·[i]?) e
      rw [List.getElem?_set_self hil, List.getElem?_append_left (by simpa using h4)] at h5
      rw [List.getElem?_append_left (by simpa using h4)] at hc
      rw [hc] at h5
      exact hne (Option.some.inj h5)
    · obtain ⟨j, rfl⟩ : ∃ j, i = 4 + j := ⟨i - 4, by omega⟩
      have hs : ([0, 0, 1, 176] ++ endd h.body).set (4 + j) (c ^^^ 2 ^ k) = [0, 0, 1, 176] ++ (endd h.body).set j (c ^^^ 2 ^ k) := by
        rw [List.set_append_right _ _ (by simp)]; simp
      rw [hs] at e
      have e2 := (app_inj e rfl).2
      rw [List.getElem?_append_right (by simp)] at hc
      have hc2 : (endd h.body)[j]? = some c := by simpa using hc
      have f1 : ∀ b : List Nat, endd b = (b ++ [crc b / 256, crc b % 256]) ++ [128] := fun b => by simp [endd]
      rw [f1 h.body, f1 g.body] at e2
      rw [f1 h.body] at hc2
      have hj : j < ((h.body ++ [crc h.body / 256, crc h.body % 256]) ++ [128]).length := (List.getElem?_eq_some_iff.1 hc2).1
      rcases Nat.lt_or_ge j (h.body ++ [crc h.body / 256, crc h.body % 256]).length with hjl | hjl
      · rw [List.set_append_left _ _ hjl] at e2
        have e3 := (app_inj e2 (by simp [hblen])).1
        rw [List.getElem?_append_left hjl] at hc2
        have hbyt : Byt (h.body ++ [crc h.body / 256, crc h.body % 256]) := by
          refine Byt.append h.body_byt (fun x hx => ?_)
          have := crc_lt h.body
          simp at hx; omega
        have := crc_flip hbyt hc2 hk
        rw [e3, crc_endd, crc_endd] at this
        exact this rfl
      · have hje : j = (h.body ++ [crc h.body / 256, crc h.body % 256]).length := by simp at hj hjl ⊢; omega
        have h5 := congrArg (·[j]?) e2
        rw [List.getElem?_set_self hj, List.getElem?_append_right (by simp at hje ⊢; omega)] at h5
        rw [List.getElem?_append_right (by omega), hje] at hc2
        rw [hje] at h5
        simp [hblen] at h5 hc2
        rw [← hc2] at h5 hne
        exact hne h5
end Go.P
