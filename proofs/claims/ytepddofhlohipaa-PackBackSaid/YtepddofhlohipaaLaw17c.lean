/- Layer 17's own helpers: packets among the arguments; what Take makes of what Put has made. -/
import Derived.Test.YtepddofhlohipaaSh
import Derived.Test.YtepddofhlohipaaLaw17b
import Derived.Test.YtepddofhlohipaaPackTake
namespace Go.Proofs.Ytepddofhlohipaa
open Go Go.K Go.P Go.RowKit Go.Proofs
/-- A packet among the arguments. -/
structure PX where
  h : PH
  f : Int
  c : Int
  a1 : Option Addr
  c1 : Nat
  A : List Nat
  a2 : Option Addr
  c2 : Nat
  Bb : List Nat
def PX.cells (x : PX) : List Value := pkc x.h x.f x.c (.slice x.a1 x.A.length x.c1) (.slice x.a2 x.Bb.length x.c2)
structure PX.ok (w : World) (x : PX) : Prop where
  sa : SlA w x.a1 (x.A.map B)
  ba : Byt x.A
  sb : SlA w x.a2 (x.Bb.map B)
  bb : Byt x.Bb
  wide : x.h.wide
  fw : -9223372036854775808 ≤ x.f ∧ x.f ≤ 9223372036854775807
  cw : -9223372036854775808 ≤ x.c ∧ x.c ≤ 9223372036854775807
  la : x.A.length ≤ 9223372036854775807
  lb : x.Bb.length ≤ 9223372036854775807
abbrev HD : Desc := .str (.cons (.int .i64) (.cons .bool (.cons .bool (.cons (.int .i64) .nil))))
abbrev PKD : Desc := .str (.cons HD (.cons (.int .i64) (.cons (.int .i64) (.cons (.sl (.int .u8)) (.cons (.sl (.int .u8)) .nil)))))
theorem rd_bs {cs : List Value} {w : World} (h : K.Rd w (.sl (.int .u8)) cs) : ∃ a cap, ∃ l : List Nat, cs = [.slice a l.length cap] ∧ SlA w a (l.map B) ∧ Byt l ∧ l.length ≤ cap ∧ l.length ≤ 9223372036854775807 := by
  obtain ⟨a, len, cap, ess, rfl, hl, hS, he, hc, hm⟩ := h
  have each : ∀ e ∈ ess, ∃ n : Nat, e = [B n] ∧ n < 256 := fun e hm => by
    obtain ⟨n, rfl, hf⟩ := he e hm
    obtain ⟨m, rfl, hm8⟩ := fits_u8 hf
    exact ⟨m, rfl, hm8⟩
  obtain ⟨l, hl2, hlb⟩ : ∃ l : List Nat, ess = l.map (fun n => [B n]) ∧ Byt l := by
    clear hS hl he
    induction ess with
    | nil => exact ⟨[], rfl, by simp [Byt]⟩
    | cons e ess ih =>
      obtain ⟨n, rfl, hn⟩ := each e (by simp)
      obtain ⟨l, rfl, hlb⟩ := ih (fun e he => each e (by simp [he]))
      exact ⟨n :: l, rfl, fun x hx => by rcases List.mem_cons.1 hx with rfl | hx; exact hn; exact hlb x hx⟩
  subst hl2
  rw [flatten_ones] at hS
  simp only [List.length_map] at hl
  subst hl
  exact ⟨a, cap, l, rfl, hS, hlb, hc, by simp only [maxLen] at hm; omega⟩
theorem rd_pack {cs : List Value} {w : World} (h : K.Rd w PKD cs) : ∃ x : PX, cs = x.cells ∧ x.ok w := by
  obtain ⟨d1, d2, rfl, hh, d3, d4, rfl, ⟨f, rfl, hf⟩, d5, d6, rfl, ⟨c, rfl, hc⟩, d7, d8, rfl, hA, d9, d10, rfl, hB, rfl⟩ := h
  obtain ⟨x, rfl, hw⟩ := rd_head hh
  obtain ⟨a1, c1, A, rfl, sA, bA, _, lA⟩ := rd_bs hA
  obtain ⟨a2, c2, Bb, rfl, sB, bB, _, lB⟩ := rd_bs hB
  exact ⟨⟨x, f, c, a1, c1, A, a2, c2, Bb⟩, rfl, ⟨sA, bA, sB, bB, hw, fits_i64 hf, fits_i64 hc, lA, lB⟩⟩
theorem packs_of {w : World} : ∀ {ess : List (List Value)}, (∀ e ∈ ess, K.Rd w PKD e) → ∃ xs : List PX, ess = xs.map PX.cells ∧ ∀ x ∈ xs, x.ok w
  | [], _ => ⟨[], rfl, by simp⟩
  | e :: ess, h => by
    obtain ⟨x, hx, hw⟩ := rd_pack (h e (by simp))
    obtain ⟨xs, hh, hws⟩ := packs_of (ess := ess) (fun y hy => h y (by simp [hy]))
    exact ⟨x :: xs, by rw [hx, hh]; rfl, fun y hy => by rcases List.mem_cons.1 hy with rfl | hy; exact hw; exact hws y hy⟩
def pcs (xs : List PX) : List Value := (xs.map PX.cells).flatten
theorem pcs_len : ∀ (xs : List PX), (pcs xs).length = xs.length * 8
  | [] => rfl
  | x :: xs => by
    have := pcs_len xs
    simp only [pcs, List.map_cons, List.flatten_cons, List.length_append, List.length_cons] at this ⊢
    rw [this, show x.cells.length = 8 from rfl]; omega
theorem pcs_at : ∀ (xs : List PX) (i : Nat) (h : i < xs.length), ((pcs xs).drop (i * 8)).take 8 = xs[i].cells
  | x :: xs, 0, _ => rfl
  | x :: xs, i + 1, hi => by
    have := pcs_at xs i (by simpa using hi)
    rw [List.getElem_cons_succ, ← this, show (i + 1) * 8 = i * 8 + 8 by omega]
    rfl
/-- What is said of a packet that is made to fit. -/
def PX.pd (x : PX) (al : Nat) : PD := ⟨x.h.fit, fitF x.f al, fitC x.f x.c al, x.A.length + 1, x.Bb.length + 1, crc (1 :: x.A), crc (2 :: x.Bb)⟩
/-- Its bytes. -/
def PX.out (x : PX) (al : Nat) : List Nat := phd (x.pd al) ++ (1 :: x.A) ++ (2 :: x.Bb)
theorem PX.out_len (x : PX) (al : Nat) : (x.out al).length = 21 + (x.A.length + 1) + (x.Bb.length + 1) := by simp [PX.out, phd_len]; omega
theorem PX.out_byt {x : PX} {al : Nat} (ha : Byt x.A) (hb : Byt x.Bb) : Byt (x.out al) := by
  refine Byt.append (Byt.append (phd_byt _) ?_) ?_
  · intro y hy; rcases List.mem_cons.1 hy with rfl | h; decide; exact ha y h
  · intro y hy; rcases List.mem_cons.1 hy with rfl | h; decide; exact hb y h
def PX.light (x : PX) : Prop := x.A.length ≤ 300 ∧ x.Bb.length ≤ 300
theorem PX.perr {x : PX} {al : Nat} (h1 : 1 ≤ al) (h64 : al ≤ 64) (hl : x.light) : Go.P.perr (x.pd al).h (x.pd al).f (x.pd al).c (x.pd al).n (x.pd al).m al = 0 :=
  fit_perr (h := x.h) (f := x.f) (c := x.c) h1 h64 (by have := hl.1; simp only [PX.pd]; omega) (by have := hl.2; simp only [PX.pd]; omega)
theorem PX.gh {x : PX} {al : Nat} {r : List Nat} (h1 : 1 ≤ al) (h64 : al ≤ 64) (hl : x.light) : GH (x.out al ++ r) (x.pd al) := by
  have hfo := fit_ok (f := x.f) (c := x.c) h1
  obtain ⟨l1, l2⟩ := hl
  refine ⟨⟨by simp only [PX.pd]; omega, by simp only [PX.pd]; omega, by simp only [PX.pd]; omega, by simp only [PX.pd]; omega, crc_lt _, crc_lt _⟩, PH.fit_ok _, ?_⟩
  unfold PX.out
  rw [List.append_assoc, List.append_assoc, List.take_left' (phd_len _)]
theorem PX.outA (x : PX) (al : Nat) (r : List Nat) : ((x.out al ++ r).drop 21).take (x.pd al).n = 1 :: x.A := by
  unfold PX.out
  rw [List.append_assoc, List.append_assoc, List.drop_left' (phd_len _)]
  exact List.take_left' rfl
theorem PX.outB (x : PX) (al : Nat) (r : List Nat) : ((x.out al ++ r).drop (21 + (x.pd al).n)).take (x.pd al).m = 2 :: x.Bb := by
  unfold PX.out
  rw [List.append_assoc, List.drop_left' (by rw [List.length_append, phd_len]; rfl)]
  exact List.take_left' rfl
/-- Taken, it is as it was. -/
theorem PkT.good {x : PX} {al : Nat} {r : List Nat} {v : Value} {w w' : World} (h : PkT (x.out al ++ r) al v w w') (h1 : 1 ≤ al) (h64 : al ≤ 64) (hl : x.light) :
    ∃ a1 c1 a2 c2, v = .tuple #[.agg (tkc x.h.fit (fitF x.f al : Nat) (fitC x.f x.c al : Nat) (.slice a1 (1 :: x.A).length c1) (.slice a2 (2 :: x.Bb).length c2) (x.out al).length true true).toArray, .int .i64 0] ∧ Hp [] w w' [Rs a1 ((1 :: x.A).map B), Rs a2 ((2 :: x.Bb).map B)] := by
  have hg := PX.gh (x := x) (r := r) h1 h64 hl
  have hp := PX.perr (x := x) h1 h64 hl
  have hln : 21 + (x.pd al).n + (x.pd al).m ≤ (x.out al ++ r).length := by rw [List.length_append, PX.out_len]; simp only [PX.pd]; omega
  rcases h with ⟨d, hd, hO⟩ | ⟨hno, _⟩
  · obtain rfl := hd.uniq hg
    rcases hO with ⟨_, _, a1, c1, a2, c2, hv, hQ⟩ | ⟨e, he, _, _, _, h3⟩
    · rw [PX.outA, PX.outB] at hv hQ
      refine ⟨a1, c1, a2, c2, ?_, hQ⟩
      rw [hv, show decide (crc (1 :: x.A) = (x.pd al).sa) = true from decide_eq_true rfl, show decide (crc (2 :: x.Bb) = (x.pd al).sb) = true from decide_eq_true rfl, PX.out_len]
      rfl
    · exact absurd hp (h3 hln)
  · exact absurd hg (hno _)
end Go.Proofs.Ytepddofhlohipaa
