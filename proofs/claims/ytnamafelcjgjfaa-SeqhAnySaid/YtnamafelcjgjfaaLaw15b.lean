/- Heads among the arguments. -/
import Derived.Test.YtnamafelcjgjfaaSh
import Derived.Test.YtnamafelcjgjfaaLaw15
namespace Go.Proofs.Ytnamafelcjgjfaa
open Go Go.K Go.P Go.RowKit Go.Proofs
abbrev TBD : Desc := .str (.cons .bool (.cons (.arr 64 (.int .u8)) (.cons (.arr 64 (.int .u8)) .nil)))
abbrev SHD : Desc := .str (.cons (.int .i64) (.cons (.int .i64) (.cons TBD .nil)))
theorem rd_barr {cs : List Value} {w : World} (h : K.Rd w (.arr 64 (.int .u8)) cs) : ∃ l : List Nat, l.length = 64 ∧ Byt l ∧ cs = l.map B := by
  obtain ⟨ess, hl, rfl, he⟩ := h
  have key : ∀ ess : List (List Value), (∀ e ∈ ess, K.Rd w (.int .u8) e) → ∃ l : List Nat, l.length = ess.length ∧ Byt l ∧ ess.flatten = l.map B := by
    intro ess
    induction ess with
    | nil => intro _; exact ⟨[], rfl, by simp [Byt], rfl⟩
    | cons e ess ih =>
      intro h
      obtain ⟨n, rfl, hf⟩ := h e (by simp)
      obtain ⟨m, rfl, hm⟩ := fits_u8 hf
      obtain ⟨l, hl, hb, he⟩ := ih (fun x hx => h x (by simp [hx]))
      exact ⟨m :: l, by simp [hl], fun x hx => by rcases List.mem_cons.1 hx with rfl | hx; exact hm; exact hb x hx, by simp [he]⟩
  obtain ⟨l, hl2, hb, he2⟩ := key ess he
  exact ⟨l, by omega, hb, he2⟩
theorem rd_seqh {cs : List Value} {w : World} (h : K.Rd w SHD cs) : ∃ h : SH, cs = h.cells ∧ h.ok ∧ h.wide := by
  obtain ⟨d1, d2, rfl, ⟨c, rfl, hc⟩, d3, d4, rfl, ⟨r, rfl, hr⟩, d5, d6, rfl, ⟨d7, d8, rfl, ⟨b, rfl⟩, d9, d10, rfl, hA, d11, d12, rfl, hB, rfl⟩, rfl⟩ := h
  obtain ⟨A, la, ba, rfl⟩ := rd_barr hA
  obtain ⟨Bb, lb, bb, rfl⟩ := rd_barr hB
  exact ⟨⟨c, r, b, A, Bb⟩, by simp [SH.cells, SH.tc], ⟨la, lb, ba, bb⟩, fits_i64 hc, fits_i64 hr⟩
/-- The kinds of a head's cells. -/
def SHK : List CK := List.replicate 2 (.i .i64) ++ List.replicate 1 .b ++ List.replicate 128 (.i .u8)
theorem SHK_eq : lk 26 Ty.eqvL = some SHK := rfl
theorem fits_bytes (l : List Nat) : FitsC (List.replicate l.length (.i .u8)) (l.map B) := by
  have := FitsC.rep (k := .i .u8) (l := l.map B) (fun x hx => by
    obtain ⟨n, _, rfl⟩ := List.mem_map.1 hx
    rfl)
  simpa using this
theorem fits_seqh {h : SH} (ho : h.ok) : FitsC SHK h.cells := by
  have e : h.cells = [.int .i64 h.c, .int .i64 h.r] ++ [.bool h.wt] ++ (h.A ++ h.Bb).map B := by simp [SH.cells, SH.tc]
  rw [e]
  have h1 := fits_bytes (h.A ++ h.Bb)
  rw [SH.tab_len ho] at h1
  exact FitsC.app (FitsC.app ⟨rfl, rfl, trivial⟩ ⟨trivial, trivial⟩) h1
theorem all2_seqh {h g : SH} (ho : h.ok) (go : g.ok) (p : Prop) [Decidable p] (hp : h = g ↔ p) : all2 h.cells g.cells = decide p := by
  have key := all2_eq (ks := SHK) (by unfold SHK; simp) (fits_seqh ho) (fits_seqh go)
  rw [SH.cells_inj ho go, hp] at key
  cases hd : all2 h.cells g.cells with
  | true => exact (decide_eq_true (key.1 hd)).symm
  | false => exact (decide_eq_false (fun h => by rw [key.2 h] at hd; cases hd)).symm
end Go.Proofs.Ytnamafelcjgjfaa
