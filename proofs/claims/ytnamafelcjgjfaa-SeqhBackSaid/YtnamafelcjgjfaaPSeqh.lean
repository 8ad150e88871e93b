/- Plain laws of a stream's head as bytes; no program in sight, no condition. -/
import Derived.Test.YtnamafelcjgjfaaPPk
namespace Go.P
open Go Go.K

/-- A stream's head. -/
structure SH where
  c : Int
  r : Int
  wt : Bool
  A : List Nat
  Bb : List Nat
/-- May it be a table of weights? Else why not. -/
def terr (wt : Bool) (t : List Nat) : Nat := if wt = true then (if ∃ x ∈ t, x < 8 then 2 else 0) else (if ∃ x ∈ t, x ≠ 0 then 4 else 0)
def SH.err (h : SH) : Nat := if h.c < 1 ∨ 8 < h.c ∨ h.r < 1 ∨ 8 < h.r then 6 else terr h.wt (h.A ++ h.Bb)
structure SH.ok (h : SH) : Prop where
  la : h.A.length = 64
  lb : h.Bb.length = 64
  ba : Byt h.A
  bb : Byt h.Bb
def SH.wide (h : SH) : Prop := (-9223372036854775808 ≤ h.c ∧ h.c ≤ 9223372036854775807) ∧ -9223372036854775808 ≤ h.r ∧ h.r ≤ 9223372036854775807
def SH.tc (h : SH) : List Value := .bool h.wt :: (h.A.map B ++ h.Bb.map B)
def SH.cells (h : SH) : List Value := .int .i64 h.c :: .int .i64 h.r :: h.tc
theorem SH.tc_len {h : SH} (ho : h.ok) : h.tc.length = 129 := by simp [SH.tc, ho.la, ho.lb]
theorem SH.cells_len {h : SH} (ho : h.ok) : h.cells.length = 131 := by simp [SH.cells, SH.tc_len ho]
theorem SH.tab_len {h : SH} (ho : h.ok) : (h.A ++ h.Bb).length = 128 := by simp [ho.la, ho.lb]
theorem SH.tab_byt {h : SH} (ho : h.ok) : Byt (h.A ++ h.Bb) := Byt.append ho.ba ho.bb
def SH.zero : SH := ⟨0, 0, false, List.replicate 64 0, List.replicate 64 0⟩
theorem SH.zero_ok : SH.zero.ok := ⟨rfl, rfl, fun x hx => by simp [SH.zero] at hx; omega, fun x hx => by simp [SH.zero] at hx; omega⟩
theorem terr_ok {wt : Bool} {t : List Nat} (h : terr wt t = 0) : (wt = true → ∀ x ∈ t, 8 ≤ x) ∧ (wt = false → ∀ x ∈ t, x = 0) := by
  unfold terr at h
  cases wt with
  | true =>
    simp only [if_true] at h
    split at h
    · cases h
    · rename_i hn
      exact ⟨fun _ x hx => Nat.not_lt.1 (fun hl => hn ⟨x, hx, hl⟩), fun h => by cases h⟩
  | false =>
    simp only [Bool.false_eq_true, if_false] at h
    split at h
    · cases h
    · rename_i hn
      exact ⟨fun h => (by cases h), fun _ x hx => Decidable.byContradiction fun hl => hn ⟨x, hx, hl⟩⟩
theorem SH.good {h : SH} (he : h.err = 0) : (1 ≤ h.c ∧ h.c ≤ 8) ∧ (1 ≤ h.r ∧ h.r ≤ 8) ∧ (h.wt = true → ∀ x ∈ h.A ++ h.Bb, 8 ≤ x) ∧ (h.wt = false → ∀ x ∈ h.A ++ h.Bb, x = 0) := by
  unfold SH.err at he
  split at he
  · cases he
  · have := terr_ok he
    exact ⟨by omega, by omega, this⟩
/-- The weights' bits. -/
def tb (t : List Nat) : List Bool := t.flatMap fun x => nb x 8
theorem tb_len (t : List Nat) : (tb t).length = 8 * t.length := by
  induction t with
  | nil => rfl
  | cons x t ih =>
    have e : tb (x :: t) = nb x 8 ++ tb t := by simp [tb]
    rw [e, List.length_append, nb_len, ih, List.length_cons]; omega
theorem tb_snoc (t : List Nat) (x : Nat) : tb (t ++ [x]) = tb t ++ nb x 8 := by simp [tb]
theorem tb_cons (t : List Nat) (x : Nat) : tb (x :: t) = nb x 8 ++ tb t := by simp [tb]
def SH.bits (h : SH) : List Bool := nb h.c.toNat 8 ++ (nb h.r.toNat 8 ++ (h.wt :: if h.wt = true then tb (h.A ++ h.Bb) else []))
def SH.body (h : SH) : List Nat := pk (h.bits ++ [true])
/-- With the sum, and a byte that isn't nought. -/
def endd (l : List Nat) : List Nat := l ++ [crc l / 256, crc l % 256, 128]
def SH.out (h : SH) : List Nat := [0, 0, 1, 176] ++ escF 0 (endd h.body)
theorem endd_byt {l : List Nat} (h : Byt l) : Byt (endd l) := by
  refine Byt.append h ?_
  have := crc_lt l
  intro x hx
  simp at hx
  omega
theorem SH.body_byt (h : SH) : Byt h.body := pk_byt _
theorem SH.out_byt (h : SH) : Byt h.out := Byt.append (bytB rfl) (escF_byt _ 0 (endd_byt h.body_byt))
/-! ### Bytes of bits -/
theorem pk_cons8 {u : List Bool} (hu : u.length = 8) (X : List Bool) : pk (u ++ X) = numB 0 u :: pk X := by
  have e : ((u ++ X).length + 7) / 8 = (X.length + 7) / 8 + 1 := by rw [List.length_append, hu]; omega
  unfold pk
  rw [e, List.range_succ_eq_map, List.map_cons, List.map_map]
  congr 1
  · match u, hu with
    | [a, b, c, d, e, f, g, h], _ =>
      have key : ∀ a b c d e f g h : Bool, a.toNat * 128 + b.toNat * 64 + c.toNat * 32 + d.toNat * 16 + e.toNat * 8 + f.toNat * 4 + g.toNat * 2 + h.toNat = numB 0 [a, b, c, d, e, f, g, h] := by decide
      rw [← key]
      rfl
  · refine List.map_congr_left (fun i _ => ?_)
    simp only [Function.comp]
    refine bv_congr (fun j _ => ?_)
    rw [List.getD_eq_getElem?_getD, List.getD_eq_getElem?_getD, List.getElem?_append_right (by omega)]
    congr 2
    omega
theorem pk_nb8 {x : Nat} (hx : x < 256) (X : List Bool) : pk (nb x 8 ++ X) = x :: pk X := by
  rw [pk_cons8 (nb_len x 8), numB_nb0 (s := 8) (by simpa using hx)]
/-- Weights' bytes, behind a bit, with a 1 and noughts behind. -/
def wb : Bool → List Nat → List Nat
  | b, [] => [128 * b.toNat + 64]
  | b, w :: t => (128 * b.toNat + w / 2) :: wb (w.testBit 0) t
theorem wb_len : ∀ (t : List Nat) (b : Bool), (wb b t).length = t.length + 1
  | [], _ => rfl
  | w :: t, b => by simp [wb, wb_len t]
theorem wb_pos : ∀ (t : List Nat) (b : Bool), (∀ x ∈ t, 8 ≤ x) → ∀ y ∈ wb b t, 4 ≤ y
  | [], b, _, y, hy => by simp [wb] at hy; omega
  | w :: t, b, h, y, hy => by
    simp only [wb, List.mem_cons] at hy
    rcases hy with rfl | hy
    · have := h w (by simp); omega
    · exact wb_pos t _ (fun x hx => h x (by simp [hx])) y hy
theorem num7 {b : Bool} {w : Nat} (hw : w < 256) : numB 0 (b :: nb (w / 2) 7) = 128 * b.toNat + w / 2 := by
  have h2 : w / 2 < 128 := by omega
  show numB (2 * 0 + b.toNat) (nb (w / 2) 7) = _
  have e : nb (w / 2) 7 = nb (128 * b.toNat + w / 2) 7 := by
    cases b with
    | false => simp
    | true => simpa using (nb_add128 h2).symm
  have e2 : 2 * 0 + b.toNat = (128 * b.toNat + w / 2) / 2 ^ 7 := by cases b <;> simp <;> omega
  rw [e, e2]
  exact numB_nb 7 _
theorem pk_wb : ∀ (t : List Nat) (b : Bool), Byt t → pk (b :: (tb t ++ [true])) = wb b t
  | [], b, _ => by cases b <;> decide
  | w :: t, b, h => by
    have hw : w < 256 := h w (by simp)
    have e : b :: (tb (w :: t) ++ [true]) = (b :: nb (w / 2) 7) ++ (w.testBit 0 :: (tb t ++ [true])) := by rw [tb_cons, nb_snoc w 7]; simp
    rw [e, pk_cons8 (by simp [nb_len]), num7 hw, pk_wb t _ (fun x hx => h x (by simp [hx]))]
    rfl
theorem wb_inj : ∀ (t u : List Nat) (b d : Bool), t.length = u.length → Byt t → Byt u → wb b t = wb d u → b = d ∧ t = u
  | [], [], b, d, _, _, _, h => by cases b <;> cases d <;> simp [wb] at h ⊢
  | [], _ :: _, _, _, hl, _, _, _ => by simp at hl
  | _ :: _, [], _, _, hl, _, _, _ => by simp at hl
  | w :: t, v :: u, b, d, hl, ht, hu, h => by
    have hw : w < 256 := ht w (by simp)
    have hv : v < 256 := hu v (by simp)
    simp only [wb, List.cons.injEq] at h
    obtain ⟨h1, h2⟩ := h
    obtain ⟨h3, rfl⟩ := wb_inj t u _ _ (by simpa using hl) (fun x hx => ht x (by simp [hx])) (fun x hx => hu x (by simp [hx])) h2
    have hb : b.toNat ≤ 1 := by cases b <;> decide
    have hd : d.toNat ≤ 1 := by cases d <;> decide
    have hbd : b.toNat = d.toNat := by omega
    have hwv : w / 2 = v / 2 := by omega
    have hm : w % 2 = v % 2 := by
      have e1 := Nat.testBit_zero w
      have e2 := Nat.testBit_zero v
      rw [e1, e2] at h3
      have := decide_eq_decide.1 h3
      omega
    refine ⟨by cases b <;> cases d <;> simp_all, ?_⟩
    rw [show w = v by omega]
/-! ### Nothing is escaped in a head that may be -/
theorem escF_pos : ∀ (l t : List Nat), (∀ x ∈ l, x ≠ 0) → escF 0 (l ++ t) = l ++ escF 0 t
  | [], _, _ => rfl
  | x :: l, t, h => by
    have hx : x ≠ 0 := h x (by simp)
    have e1 : escO 0 x = [x] := by simp [escO]
    have e2 : escS 0 x = 0 := by simp [escS, hx]
    rw [List.cons_append, escF, e1, e2, escF_pos l t (fun y hy => h y (by simp [hy]))]
    rfl
theorem esc3 (a b : Nat) : escF 0 [a, b, 128] = [a, b, 128] := by
  simp only [escF, escO, escS]
  by_cases ha : a = 0 <;> by_cases hb : b = 0 <;> simp [ha, hb]
theorem SH.body_eq {h : SH} (ho : h.ok) (he : h.err = 0) : h.body = h.c.toNat :: h.r.toNat :: (if h.wt = true then wb true (h.A ++ h.Bb) else [64]) := by
  obtain ⟨h1, h2, _⟩ := SH.good he
  unfold SH.body SH.bits
  rw [List.append_assoc, pk_nb8 (by omega), List.append_assoc, pk_nb8 (by omega)]
  congr 2
  cases hw : h.wt with
  | true =>
    simp only [if_true]
    exact pk_wb _ true (SH.tab_byt ho)
  | false =>
    simp only [Bool.false_eq_true, if_false]
    decide
theorem SH.body_pos {h : SH} (ho : h.ok) (he : h.err = 0) : ∀ x ∈ h.body, x ≠ 0 := by
  obtain ⟨h1, h2, h3, _⟩ := SH.good he
  rw [SH.body_eq ho he]
  intro x hx
  simp only [List.mem_cons] at hx
  rcases hx with rfl | rfl | hx
  · omega
  · omega
  · cases hw : h.wt with
    | true =>
      rw [hw] at hx
      have := wb_pos _ true (h3 hw) x (by simpa using hx)
      omega
    | false =>
      rw [hw] at hx
      simp at hx; omega
theorem SH.out_eq {h : SH} (ho : h.ok) (he : h.err = 0) : h.out = [0, 0, 1, 176] ++ endd h.body := by
  unfold SH.out endd
  rw [escF_pos _ _ (SH.body_pos ho he), esc3]
theorem SH.body_len {h : SH} (ho : h.ok) (he : h.err = 0) : h.body.length = if h.wt = true then 131 else 3 := by
  rw [SH.body_eq ho he]
  split
  · simp [wb_len, ho.la, ho.lb]
  · rfl
theorem SH.out_len {h : SH} (ho : h.ok) (he : h.err = 0) : h.out.length = if h.wt = true then 138 else 10 := by
  rw [SH.out_eq ho he]
  simp only [endd, List.length_append, SH.body_len ho he]
  split <;> rfl
theorem map_B_inj {l m : List Nat} (h : l.map B = m.map B) : l = m := by
  induction l generalizing m with
  | nil => cases m with
    | nil => rfl
    | cons _ _ => simp at h
  | cons x l ih => cases m with
    | nil => simp at h
    | cons y m =>
      simp only [List.map_cons, List.cons.injEq] at h
      obtain ⟨h1, h2⟩ := h
      have hxy : x = y := by injection h1 with _ h1; exact Int.ofNat.inj h1
      rw [hxy, ih h2]
theorem SH.ext' {h g : SH} (h1 : h.c = g.c) (h2 : h.r = g.r) (h3 : h.wt = g.wt) (h4 : h.A = g.A) (h5 : h.Bb = g.Bb) : h = g := by
  cases h; cases g; simp only at *; subst h1; subst h2; subst h3; subst h4; subst h5; rfl
theorem SH.cells_inj {h g : SH} (ho : h.ok) (go : g.ok) : h.cells = g.cells ↔ h = g := by
  refine ⟨fun e => ?_, fun e => by rw [e]⟩
  simp only [SH.cells, SH.tc, List.cons.injEq, Value.int.injEq, Value.bool.injEq, true_and] at e
  obtain ⟨h1, h2, h3, h4⟩ := e
  obtain ⟨h4, h5⟩ := app_inj h4 (by simp [ho.la, go.la])
  exact SH.ext' h1 h2 h3 (map_B_inj h4) (map_B_inj h5)
theorem zeros_eq {t u : List Nat} (hl : t.length = u.length) (ht : ∀ x ∈ t, x = 0) (hu : ∀ x ∈ u, x = 0) : t = u := by
  rw [List.eq_replicate_of_mem ht, List.eq_replicate_of_mem hu, hl]
theorem SH.body_inj {h g : SH} (ho : h.ok) (go : g.ok) (he : h.err = 0) (ge : g.err = 0) (e : h.body = g.body) : h = g := by
  obtain ⟨h1, h2, h3, h4⟩ := SH.good he
  obtain ⟨g1, g2, g3, g4⟩ := SH.good ge
  have hl := congrArg List.length e
  rw [SH.body_len ho he, SH.body_len go ge] at hl
  rw [SH.body_eq ho he, SH.body_eq go ge] at e
  simp only [List.cons.injEq] at e
  obtain ⟨e1, e2, e3⟩ := e
  have hlt : (h.A ++ h.Bb).length = (g.A ++ g.Bb).length := by rw [SH.tab_len ho, SH.tab_len go]
  have hw : h.wt = g.wt := by
    cases hh : h.wt <;> cases hg : g.wt <;> simp [hh, hg] at hl ⊢
  have ht : h.A ++ h.Bb = g.A ++ g.Bb := by
    cases hh : h.wt with
    | true =>
      rw [← hw, hh] at e3
      exact (wb_inj _ _ _ _ hlt (SH.tab_byt ho) (SH.tab_byt go) (by simpa using e3)).2
    | false => exact zeros_eq hlt (h4 hh) (g4 (by rw [← hw]; exact hh))
  obtain ⟨h5, h6⟩ := app_inj ht (by rw [ho.la, go.la])
  exact SH.ext' (by omega) (by omega) hw h5 h6
theorem endd_inj {l m : List Nat} (h : endd l = endd m) : l = m := by
  have hl := congrArg List.length h
  simp [endd] at hl
  exact (app_inj h hl).1
theorem SH.out_inj {h g : SH} (ho : h.ok) (go : g.ok) (he : h.err = 0) (ge : g.err = 0) : h.out = g.out ↔ h = g := by
  refine ⟨fun e => ?_, fun e => by rw [e]⟩
  rw [SH.out_eq ho he, SH.out_eq go ge] at e
  exact SH.body_inj ho go he ge (endd_inj (app_inj e rfl).2)
/-! ### A head that may be, of any -/
def SH.fit (h : SH) : SH := ⟨1 + h.c % 8, 1 + h.r % 8, h.wt, if h.wt = true then h.A.map (max · 8) else List.replicate 64 0, if h.wt = true then h.Bb.map (max · 8) else List.replicate 64 0⟩
theorem byt_max {l : List Nat} (h : Byt l) : Byt (l.map (max · 8)) := fun x hx => by
  obtain ⟨y, hy, rfl⟩ := List.mem_map.1 hx
  have := h y hy; omega
theorem SH.fit_ok {h : SH} (ho : h.ok) : h.fit.ok := by
  unfold SH.fit
  cases h.wt with
  | true => exact ⟨by simp [ho.la], by simp [ho.lb], by simpa using byt_max ho.ba, by simpa using byt_max ho.bb⟩
  | false => exact ⟨by simp, by simp, fun x hx => by simp at hx; omega, fun x hx => by simp at hx; omega⟩
theorem SH.fit_err (h : SH) : h.fit.err = 0 := by
  unfold SH.err
  rw [if_neg (by simp only [SH.fit]; omega)]
  unfold terr SH.fit
  cases h.wt with
  | true =>
    simp only [if_true]
    rw [if_neg]
    rintro ⟨x, hx, hl⟩
    simp only [List.mem_append, List.mem_map] at hx
    rcases hx with ⟨y, _, rfl⟩ | ⟨y, _, rfl⟩ <;> omega
  | false =>
    simp only [Bool.false_eq_true, if_false]
    rw [if_neg]
    rintro ⟨x, hx, hl⟩
    simp at hx; omega
theorem SH.fit_wide (h : SH) : h.fit.wide := by
  unfold SH.wide SH.fit
  simp only; omega
end Go.P
