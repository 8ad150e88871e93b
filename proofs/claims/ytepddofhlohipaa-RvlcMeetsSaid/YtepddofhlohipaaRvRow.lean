/- Rows of numbers, written one behind the other; no condition. -/
import Derived.Test.YtepddofhlohipaaLaw05
import Derived.Test.YtepddofhlohipaaRvTake
import Derived.Test.YtepddofhlohipaaK19
namespace Go.Proofs.Ytepddofhlohipaa
open Go Go.K Go.P Go.RowKit Go.Proofs
/-- The bits of numbers, one behind the other. -/
def fl (ks : List Nat) : List Bool := ks.flatMap rv
theorem fl_cons (k : Nat) (ks : List Nat) : fl (k :: ks) = rv k ++ fl ks := by simp [fl]
theorem fl_app (ks ls : List Nat) : fl (ks ++ ls) = fl ks ++ fl ls := by simp [fl]
theorem rv_short {k : Nat} (h : k ≤ 8190) : (rv k).length ≤ 25 := by
  have h1 := rv_len k
  have h2 := blen_le (x := k + 1) (m := 13) (by omega)
  omega
theorem fl_len : ∀ {ks : List Nat}, (∀ k ∈ ks, k ≤ 8190) → (fl ks).length ≤ 25 * ks.length
  | [], _ => by simp [fl]
  | k :: ks, h => by
    have ih := fl_len (ks := ks) (fun x hx => h x (by simp [hx]))
    have := rv_short (h k (by simp))
    rw [fl_cons, List.length_append, List.length_cons]; omega
theorem fl_snoc (ks : List Nat) {i : Nat} (h : i < ks.length) : fl (ks.take (i + 1)) = fl (ks.take i) ++ rv ks[i] := by
  rw [List.take_succ_eq_append_getElem h, fl_app]; simp [fl]
theorem fl_drop (ks : List Nat) {i : Nat} (h : i < ks.length) : fl (ks.drop i) = rv ks[i] ++ fl (ks.drop (i + 1)) := by
  rw [List.drop_eq_getElem_cons h, fl_cons]
theorem fl_back (ks : List Nat) {i : Nat} (h : i < ks.length) : (fl (ks.take (i + 1))).reverse = (rv ks[i]).reverse ++ (fl (ks.take i)).reverse := by rw [fl_snoc ks h, List.reverse_append]
abbrev U16 (n : Nat) : Value := .int .u16 (n : Int)
theorem TkR.some {p c n : Nat} {a : Option Addr} {s : RS} {r : List Bool} {o : Option (Nat × List Bool)} {v : Value} {w w' : World} (h : TkR p a c s o v w w') (ho : o = Option.some (n, r)) : v = .int .i64 (n : Nat) ∧ Upd (Rd p a c s) (Rd p a c ⟨r, false⟩) w w' := by
  subst ho
  rcases h with ⟨n', r', h1, h2, h3⟩ | ⟨h1, _⟩
  · cases h1; exact ⟨h2, h3⟩
  · cases h1
end Go.Proofs.Ytepddofhlohipaa
