/- Pieces made of two; pointers held against nil; copies: over any program; no condition. -/
import Derived.Test.YtccnhnijglnbmaaK16
namespace Go.K
open Go Go.RowKit

/-- Two pieces that lie apart, as one. -/
def sep (r s : Res) : Res := ⟨r.fp ++ s.fp, fun w => r.holds w ∧ s.holds w ∧ Dj r s, fun h hE hS => ⟨r.keep h.1 hE (fun x hx hb => hS x hx (by simp [hb])), s.keep h.2.1 hE (fun x hx hb => hS x hx (by simp [hb])), h.2.2⟩,
  fun h x hx => by rcases List.mem_append.1 hx with h1 | h1; exact r.lt h.1 x h1; exact s.lt h.2.1 x h1⟩
theorem getElem?_set_append {α : Type} (H : List α) (i : Nat) (r s : α) (hi : i < H.length) : ∀ j x, (H.set i r ++ [s])[j]? = some x → (j = i ∧ x = r) ∨ (j = H.length ∧ x = s) ∨ (j ≠ i ∧ j < H.length ∧ H[j]? = some x) := by
  intro j x hj
  by_cases h1 : j < H.length
  · rw [List.getElem?_append_left (by simpa using h1)] at hj
    by_cases h2 : i = j
    · subst h2; rw [List.getElem?_set_self hi] at hj; cases hj; exact .inl ⟨rfl, rfl⟩
    · rw [List.getElem?_set_ne h2] at hj; exact .inr (.inr ⟨fun e => h2 e.symm, h1, hj⟩)
  · rw [List.getElem?_append_right (by simp; omega)] at hj
    simp only [List.length_set] at hj
    by_cases h2 : j = H.length
    · subst h2; simp at hj; exact .inr (.inl ⟨rfl, hj.symm⟩)
    · rw [List.getElem?_eq_none (by simp; omega)] at hj; cases hj
section
variable {S : List Nat} {W w w' : World} {H : List Res} {r s t : Res} {i j : Nat}
/-- Piece i is two: the first stays there, the other comes behind all. -/
theorem Hp.split (i : Nat) (h : Hp S W w H) (hi : H[i]? = some (sep r s)) : Hp S W w (H.set i r ++ [s]) := by
  have hlt : i < H.length := (List.getElem?_eq_some_iff.1 hi).1
  have hh : r.holds w ∧ s.holds w ∧ Dj r s := h.at i hi
  have hmem : ∀ x ∈ H.set i r ++ [s], x = r ∨ x = s ∨ ∃ j, j ≠ i ∧ H[j]? = some x := fun x hx => by
    obtain ⟨j, hj⟩ := List.mem_iff_getElem?.1 hx
    rcases getElem?_set_append H i r s hlt j x hj with ⟨_, e⟩ | ⟨_, e⟩ | ⟨h1, _, h2⟩
    · exact .inl e
    · exact .inr (.inl e)
    · exact .inr (.inr ⟨j, h1, h2⟩)
  have dr : ∀ j x, j ≠ i → H[j]? = some x → Dj r x := fun j x hj hx y hy hyx => h.dj i j hi hx (Ne.symm hj) y (List.mem_append.2 (.inl hy)) hyx
  have ds : ∀ j x, j ≠ i → H[j]? = some x → Dj s x := fun j x hj hx y hy hyx => h.dj i j hi hx (Ne.symm hj) y (List.mem_append.2 (.inr hy)) hyx
  refine ⟨h.ext, fun x hx => ?_, fun x hx y hy => ?_, ?_⟩
  · rcases hmem x hx with rfl | rfl | ⟨j, _, hj⟩
    · exact hh.1
    · exact hh.2.1
    · exact h.at j hj
  · rcases hmem x hx with rfl | rfl | ⟨j, _, hj⟩
    · exact h.new _ (List.mem_of_getElem? hi) y (List.mem_append.2 (.inl hy))
    · exact h.new _ (List.mem_of_getElem? hi) y (List.mem_append.2 (.inr hy))
    · exact h.new x (List.mem_of_getElem? hj) y hy
  · rw [List.pairwise_iff_getElem]
    intro a b ha hb hab
    have h1 := getElem?_set_append H i r s hlt a _ (List.getElem?_eq_getElem ha)
    have h2 := getElem?_set_append H i r s hlt b _ (List.getElem?_eq_getElem hb)
    rcases h1 with ⟨e1, h1⟩ | ⟨e1, h1⟩ | ⟨e1, f1, h1⟩ <;> rcases h2 with ⟨e2, h2⟩ | ⟨e2, h2⟩ | ⟨e2, f2, h2⟩
    · omega
    · rw [h1, h2]; exact hh.2.2
    · rw [h1]; exact dr b _ e2 h2
    · omega
    · omega
    · omega
    · rw [h2]; exact (dr a _ e1 h1).symm
    · rw [h2]; exact (ds a _ e1 h1).symm
    · exact h.dj a b h1 h2 (by omega)
/-- Pieces i and j as one, at i; j goes. -/
theorem Hp.merge (i j : Nat) (h : Hp S W w H) (hi : H[i]? = some r) (hj : H[j]? = some s) (hne : i ≠ j) : Hp S W w ((H.set i (sep r s)).eraseIdx j) := by
  have hil : i < H.length := (List.getElem?_eq_some_iff.1 hi).1
  have hmem : ∀ m x, m ≠ j → (H.set i (sep r s))[m]? = some x → (m = i ∧ x = sep r s) ∨ (m ≠ i ∧ H[m]? = some x) := fun m x _ hm => by
    by_cases h2 : i = m
    · subst h2; rw [List.getElem?_set_self hil] at hm; cases hm; exact .inl ⟨rfl, rfl⟩
    · rw [List.getElem?_set_ne h2] at hm; exact .inr ⟨fun e => h2 e.symm, hm⟩
  have here : ∀ x ∈ (H.set i (sep r s)).eraseIdx j, ∃ m, m ≠ j ∧ (H.set i (sep r s))[m]? = some x := fun x hx => by
    obtain ⟨m, hm, hx⟩ := List.mem_eraseIdx_iff_getElem?.1 hx
    exact ⟨m, hm, hx⟩
  have hsep : (sep r s).holds w := ⟨h.at i hi, h.at j hj, h.dj i j hi hj hne⟩
  have dsep : ∀ m x, m ≠ i → m ≠ j → H[m]? = some x → Dj (sep r s) x := fun m x h1 h2 hm y hy hyx => by
    rcases List.mem_append.1 hy with h3 | h3
    · exact h.dj i m hi hm (Ne.symm h1) y h3 hyx
    · exact h.dj j m hj hm (Ne.symm h2) y h3 hyx
  refine ⟨h.ext, fun x hx => ?_, fun x hx y hy => ?_, ?_⟩
  · obtain ⟨m, hmj, hm⟩ := here x hx
    rcases hmem m x hmj hm with ⟨_, rfl⟩ | ⟨_, h2⟩
    · exact hsep
    · exact h.at m h2
  · obtain ⟨m, hmj, hm⟩ := here x hx
    rcases hmem m x hmj hm with ⟨_, rfl⟩ | ⟨_, h2⟩
    · rcases List.mem_append.1 hy with h3 | h3
      · exact h.new r (List.mem_of_getElem? hi) y h3
      · exact h.new s (List.mem_of_getElem? hj) y h3
    · exact h.new x (List.mem_of_getElem? h2) y hy
  · rw [List.pairwise_iff_getElem]
    intro a b ha hb hab
    have key : ∀ m (hm : m < ((H.set i (sep r s)).eraseIdx j).length), ∃ m', m' ≠ j ∧ (H.set i (sep r s))[m']? = some ((H.set i (sep r s)).eraseIdx j)[m] ∧ m' = if m < j then m else m + 1 := fun m hm => by
      have := List.getElem?_eq_getElem hm
      rw [List.getElem?_eraseIdx] at this
      by_cases hmj : m < j
      · rw [if_pos hmj] at this; exact ⟨m, by omega, this, by rw [if_pos hmj]⟩
      · rw [if_neg hmj] at this; exact ⟨m + 1, by omega, this, by rw [if_neg hmj]⟩
    obtain ⟨a', ha1, ha2, ha3⟩ := key a ha
    obtain ⟨b', hb1, hb2, hb3⟩ := key b hb
    have hab' : a' ≠ b' := by rw [ha3, hb3]; split <;> split <;> omega
    rcases hmem a' _ ha1 ha2 with ⟨e1, h1⟩ | ⟨e1, h1⟩ <;> rcases hmem b' _ hb1 hb2 with ⟨e2, h2⟩ | ⟨e2, h2⟩
    · omega
    · rw [h1]; exact dsep b' _ e2 hb1 h2
    · rw [h2]; exact (dsep a' _ e1 ha1 h1).symm
    · exact h.dj a' b' h1 h2 hab'
/-- Piece i alone: what it has become of r. -/
theorem Hp.upd {r' : Res} (i : Nat) (h : Hp r.fp W w H) (hi : H[i]? = some r') : Upd r r' W w := ⟨h.ext, h.at i hi, h.new r' (List.mem_of_getElem? hi)⟩
theorem Upd.same (h : r.holds w) (hE : Ext [] w w') : Upd r r w w' := ⟨hE.weaken (by simp), r.keep h hE (by simp), fun _ hx => .inl hx⟩
end
section
variable {P : Program} {N : Nat} {K : Fr → World → Prop} {ρ : Fr} {S : List Nat} {W w : World} {H : List Res}
variable {v : Value} {dst : Option Nat} {d : Nat} {ty : TypeId} {pos : String} {af : Array Edge} {gd : Option (Nat × Bool)} {x y z : Operand} {t u e : TypeId} {q : IntKind}
def isPtr (P : Program) (t : TypeId) : Bool := match P.underlying t with | some (.pointer _) => true | _ => false
theorem run_equalIn_ptr (n : Nat) {a b : Option Addr} (ht : isPtr P t = true) (h : a = none ∨ b = none) : (Op.equalIn (n + 1) t (.pointer a) (.pointer b)).run P w = .ok (a.isNone && b.isNone) w := by
  unfold isPtr at ht
  split at ht
  · rename_i el hu
    unfold Op.equalIn
    rcases h with rfl | rfl
    · simp only [Sem.run_bind, run_underlying hu, Result.andThen_ok]; rfl
    · cases a <;> (simp only [Sem.run_bind, run_underlying hu, Result.andThen_ok]; rfl)
  · cases ht
theorem run_equal_ptr {a b : Option Addr} (ht : isPtr P t = true) (h : a = none ∨ b = none) : (Op.equal t (.pointer a) (.pointer b)).run P w = .ok (a.isNone && b.isNone) w := run_equalIn_ptr 9999 ht h
/-- A pointer held against nil. -/
theorem k_pnil {a b : Option Addr} (hx : ev ρ x = .pointer a) (hy : ev ρ y = .pointer b) (h : a = none ∨ b = none) (ht : isPtr P t = true) : Run P ρ ⟨dst, .binOp .eql t x y u, ty, pos, af, gd⟩ w (.bool (a.isNone && b.isNone)) w :=
  k_bin hx hy (eqGuard_other rfl) (by simp only [binOp, Sem.run_bind, run_equal_ptr (w := w) ht h, Result.andThen_ok, Sem.run_pure])
theorem k_pnnil {a b : Option Addr} (hx : ev ρ x = .pointer a) (hy : ev ρ y = .pointer b) (h : a = none ∨ b = none) (ht : isPtr P t = true) : Run P ρ ⟨dst, .binOp .neq t x y u, ty, pos, af, gd⟩ w (.bool (!(a.isNone && b.isNone))) w :=
  k_bin hx hy (eqGuard_other rfl) (by simp only [binOp, Sem.run_bind, run_equal_ptr (w := w) ht h, Result.andThen_ok, Sem.run_pure])
/-- A copy into piece i, a slice of one's own, from its beginning. -/
theorem H_copyO (i : Nat) {b n cap m c2 : Nat} {a2 : Option Addr} {vs us : List Value} {ta tb : TypeId} {g : Bool} {e' : TypeId} (hH : Hp S W w H) (hi : H[i]? = some (Ro e 1 (some ⟨b, 0, none⟩) n cap us)) (ht : sle P ta = some (e', (g, 1))) (hx : ev ρ x = .slice (some ⟨b, 0, none⟩) n cap) (hy : ev ρ y = .slice a2 m c2) (hS : SlA w a2 vs) (hl : vs.length = m)
    (hm : m ≤ n) (h1 : ∀ u ∈ vs, u.oneCell' = true) (hd : dstOk N dst = true)
    (hk : ∀ w', Hp S W w' (H.set i (Ro e 1 (some ⟨b, 0, none⟩) n cap (vs ++ us.drop m))) → K (updo ρ dst (.int .i64 m)) w') : Stp P N ρ ⟨dst, .call ⟨.builtin .copy, #[x, y], #[ta, tb]⟩, ty, pos, af, gd⟩ w K := by
  obtain ⟨hl0, hnc, hcm, ⟨h0, _⟩ | ⟨b', cur, hb', hB, hcs, htk⟩⟩ := hH.o i hi
  · cases h0
  · cases hb'
    refine S_copy (o := 0) ht hx hB hy hS hl hm (by omega) h1 hd (fun w' hE hB' _ => hk w' (hH.up i hi ⟨hE, ⟨?_, hnc, hcm, .inr ⟨b, _, rfl, hB', ?_, ?_⟩⟩, fun _ hx => .inl hx⟩))
    · rw [List.length_append, List.length_drop, hl0, hl]; omega
    · simp only [List.size_toArray, List.length_append, List.length_take, List.length_drop, Array.length_toList, hcs, hl]; omega
    · simp only [List.take_zero, List.nil_append, Nat.zero_add, Nat.mul_one] at htk ⊢
      rw [List.take_append, List.take_of_length_le (by omega), hl, ← htk, List.drop_take]
end
end Go.K
