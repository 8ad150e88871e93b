/- Arguments of any plain type, opened by a description of their shape: over any program; no condition. -/
import Derived.Test.YtccnhnijglnbmaaK13
import Derived.OpenShut
namespace Go.K
open Go Go.RowKit Go.ChangeShapes Go.WideShapes

/-- What a type is made of: integers, truths, floats, slices, arrays, structs (a chain of fields). -/
inductive Desc where
  | int (q : IntKind)
  | bool
  | flt (q : FloatKind)
  | sl (d : Desc)
  | arr (n : Nat) (d : Desc)
  | str (ds : Desc)
  | nil
  | cons (d ds : Desc)
def Desc.size : Desc → Nat
  | .int _ => 1
  | .bool => 1
  | .flt _ => 1
  | .sl _ => 1
  | .arr n d => n * d.size
  | .str ds => ds.size
  | .nil => 0
  | .cons d ds => d.size + ds.size
/-- Is a type of this shape? (A chain: are these the fields, from this place on?) -/
def Desc.ok (P : Program) : Desc → (TypeId ⊕ (List Field × Nat)) → Bool
  | .int q, .inl t => kindOf P t == some q
  | .bool, .inl t => match P.underlying t with | some .bool => true | _ => false
  | .flt q, .inl t => match P.underlying t with | some (.float q') => q' == q | _ => false
  | .sl d, .inl t => match P.underlying t with | some (.slice e) => d.ok P (.inl e) && Nat.beq (P.cellsOf e) d.size | _ => false
  | .arr n d, .inl t => match P.underlying t with | some (.array m e) => Nat.beq m n && d.ok P (.inl e) && Nat.beq (P.cellsOf e) d.size && Nat.beq (P.cellsOf t) (n * d.size) | _ => false
  | .str ds, .inl t => match P.underlying t with | some (.struct fs) => ds.ok P (.inr (fs.toList, 0)) && Nat.beq (P.cellsOf t) ds.size | _ => false
  | .nil, .inr (fs, _) => fs.isEmpty
  | .cons d ds, .inr (f :: fs, o) => Nat.beq f.offset o && Nat.beq (P.cellsOf f.type) d.size && d.ok P (.inl f.type) && ds.ok P (.inr (fs, o + d.size))
  | _, _ => false
/-- Cells that are of this shape, in this world. -/
def Rd (w : World) : Desc → List Value → Prop
  | .int q, cs => ∃ n, cs = [.int q n] ∧ Fits q n
  | .bool, cs => ∃ b, cs = [.bool b]
  | .flt q, cs => ∃ b, cs = [.float q b] ∧ (Lit.float q b).wf = true
  | .sl d, cs => ∃ a len cap, ∃ ess : List (List Value), cs = [.slice a len cap] ∧ ess.length = len ∧ SlA w a ess.flatten ∧ (∀ e ∈ ess, Rd w d e) ∧ len ≤ cap ∧ cap ≤ maxLen
  | .arr n d, cs => ∃ ess : List (List Value), ess.length = n ∧ cs = ess.flatten ∧ ∀ e ∈ ess, Rd w d e
  | .str ds, cs => Rd w ds cs
  | .nil, cs => cs = []
  | .cons d ds, cs => ∃ c1 c2, cs = c1 ++ c2 ∧ Rd w d c1 ∧ Rd w ds c2
theorem flatten_len {α : Type} {sz : Nat} : ∀ {ess : List (List α)}, (∀ e ∈ ess, e.length = sz) → ess.flatten.length = ess.length * sz
  | [], _ => by simp
  | e :: ess, h => by
    have := flatten_len (ess := ess) (fun x hx => h x (by simp [hx]))
    simp [this, h e (by simp), Nat.add_mul, Nat.add_comm]
theorem Rd.len {w : World} : ∀ {d : Desc} {cs : List Value}, Rd w d cs → cs.length = d.size
  | .int _, _, ⟨_, h, _⟩ => by subst h; rfl
  | .bool, _, ⟨_, h⟩ => by subst h; rfl
  | .flt _, _, ⟨_, h, _⟩ => by subst h; rfl
  | .sl _, _, ⟨_, _, _, _, h, _⟩ => by subst h; rfl
  | .arr n d, _, ⟨ess, hn, h, hr⟩ => by
    subst h; subst hn
    exact flatten_len (fun e he => Rd.len (hr e he))
  | .str ds, _, h => Rd.len (d := ds) h
  | .nil, _, h => by have : _ = [] := h; subst this; rfl
  | .cons d ds, _, ⟨c1, c2, h, h1, h2⟩ => by subst h; simp [Desc.size, Rd.len h1, Rd.len h2]
theorem flatten_get {α : Type} {sz : Nat} (hsz : 0 < sz) : ∀ {ess : List (List α)} {j : Nat}, (∀ e ∈ ess, e.length = sz) → ess.flatten[j]? = (ess[j / sz]?).bind (·[j % sz]?)
  | [], j, _ => by simp
  | e :: ess, j, h => by
    have he := h e (by simp)
    rw [List.flatten_cons]
    by_cases hj : j < sz
    · rw [List.getElem?_append_left (by omega), Nat.div_eq_of_lt hj, Nat.mod_eq_of_lt hj]; rfl
    · rw [List.getElem?_append_right (by omega), flatten_get hsz (fun x hx => h x (by simp [hx]))]
      have e1 : j / sz = (j - sz) / sz + 1 := by rw [← Nat.add_div_right _ hsz]; congr 1; omega
      have e2 : j % sz = (j - sz) % sz := by rw [← Nat.add_mod_right (j - sz) sz]; congr 1; omega
      rw [he, e1, e2]; rfl
theorem chunks_flatten {α : Type} (cs : List α) (sz : Nat) : ∀ n, cs.length = n * sz → ((List.range n).map fun i => (cs.drop (i * sz)).take sz).flatten = cs
  | 0, h => by have : cs = [] := List.eq_nil_of_length_eq_zero (by simpa using h); subst this; rfl
  | n + 1, h => by
    have ih := chunks_flatten (cs.take (n * sz)) sz n (by rw [List.length_take, h, Nat.add_mul]; omega)
    rw [List.range_succ, List.map_append, List.flatten_append]
    have e : ((List.range n).map fun i => (cs.drop (i * sz)).take sz) = (List.range n).map fun i => ((cs.take (n * sz)).drop (i * sz)).take sz := by
      refine List.map_congr_left (fun i hi => ?_)
      have hin : i < n := by simpa using hi
      rw [List.drop_take, List.take_take]
      congr 1
      have : (i + 1) * sz ≤ n * sz := Nat.mul_le_mul_right _ hin
      rw [Nat.add_mul] at this
      omega
    rw [e, ih]
    simp only [List.map_cons, List.map_nil, List.flatten_cons, List.flatten_nil, List.append_nil]
    rw [List.take_of_length_le (l := cs.drop (n * sz)) (by rw [List.length_drop, h, Nat.add_mul]; omega)]
    exact List.take_append_drop _ _
theorem spot_none {w : World} {a : Addr} {v : Value} (h : w.cell? a = some v) : a.spot = none := by
  cases hs : a.spot with
  | none => rfl
  | some x =>
    unfold World.cell? at h
    split at h
    · simp [hs] at h
    · cases h
section
variable {H : Type} {enc : TypeId × Value → H} {P : Program} {W : World} {sp : Nat → Bool} {hd : Bool}
/-- Cells in rows, one behind the other, are cells from a slice's head on. -/
theorem sl_rows {a : Addr} {sz : Nat} {ess : List (List Value)} (h : ∀ i e, ess[i]? = some e → W.cells? 0 (a.add (i * sz)) sz = some e) : SlA W (some a) ess.flatten := by
  by_cases h0 : ess.flatten = []
  · rw [h0]; exact .nil
  have hlen : ∀ e ∈ ess, e.length = sz := fun e he => by
    obtain ⟨i, hi⟩ := List.mem_iff_getElem?.1 he
    exact (World.cells?_some (h i e hi)).2.1
  have hsz : 0 < sz := by
    rcases Nat.eq_zero_or_pos sz with hz | hz
    · subst hz
      exfalso; apply h0
      have := flatten_len hlen
      exact List.eq_nil_of_length_eq_zero (by simpa using this)
    · exact hz
  have hne : 0 < ess.length := by
    rcases Nat.eq_zero_or_pos ess.length with hz | hz
    · have : ess = [] := List.eq_nil_of_length_eq_zero hz
      subst this; exact absurd rfl h0
    · exact hz
  have hspot : a.spot = none := by
    have h1 := (World.cells?_some (h 0 _ (List.getElem?_eq_getElem hne))).2.2 0 hsz
    have h2 := hlen _ (List.getElem_mem hne)
    rw [List.getElem?_eq_getElem (by omega)] at h1
    have h3 := spot_none h1
    obtain ⟨b, o, s⟩ := a
    cases s with
    | none => rfl
    | some x => simp [Addr.add] at h3
  obtain ⟨b, o, s⟩ := a
  simp only at hspot
  subst hspot
  refine ⟨fun j v hj => ?_, fun _ => ⟨b, o, rfl⟩⟩
  rw [flatten_get hsz hlen, Option.bind_eq_some_iff] at hj
  obtain ⟨e, he, hv⟩ := hj
  have h1 := (World.cells?_some (h _ e he)).2.2 (j % sz) (Nat.mod_lt _ hsz)
  rw [addr_add, addr_add, hv] at h1
  have e1 : o + j / sz * sz + j % sz = o + j := by
    have := Nat.div_add_mod j sz
    rw [Nat.mul_comm] at this; omega
  rw [e1] at h1
  simpa [At] using h1
theorem trod_flt {q : FloatKind} {fuel : Nat} {t : TypeId} {cs : List Value} {x : DataW H × List MemPlace} (ht : P.underlying t = some (.float q)) (h : DataW.trod enc P W 0 sp hd fuel t cs = some x) : ∃ b, cs = [.float q b] ∧ (Lit.float q b).wf = true := by
  cases fuel with
  | zero => simp [DataW.trod] at h
  | succ n =>
    unfold DataW.trod at h
    rw [ht] at h
    split at h <;> simp_all
theorem rd_both (d : Desc) : (∀ (fuel : Nat) (t : TypeId) (cs : List Value) (x : DataW H × List MemPlace), DataW.trod enc P W 0 sp hd fuel t cs = some x → d.ok P (.inl t) = true → Rd W d cs) ∧
    (∀ (fuel : Nat) (fs : List Field) (o : Nat) (cs : List Value), (∀ f ∈ fs, ∃ x : DataW H × List MemPlace, DataW.trod enc P W 0 sp hd fuel f.type ((cs.drop f.offset).take (P.cellsOf f.type)) = some x) → d.ok P (.inr (fs, o)) = true → cs.length = o + d.size → Rd W d (cs.drop o)) := by
  induction d with
  | int q =>
    refine ⟨fun fuel t cs x h hk => ?_, fun fuel fs o cs h hk => by simp [Desc.ok] at hk⟩
    have hq : kindOf P t = some q := by simpa [Desc.ok] using hk
    obtain ⟨n, rfl, _, hw⟩ := DataW.trod_int (kindOf_spec hq) h
    exact ⟨n, rfl, fits_wf hw⟩
  | bool =>
    refine ⟨fun fuel t cs x h hk => ?_, fun fuel fs o cs h hk => by simp [Desc.ok] at hk⟩
    simp only [Desc.ok] at hk
    split at hk
    · rename_i hu
      obtain ⟨b, rfl, _⟩ := DataW.trod_bool hu h
      exact ⟨b, rfl⟩
    · cases hk
  | flt q =>
    refine ⟨fun fuel t cs x h hk => ?_, fun fuel fs o cs h hk => by simp [Desc.ok] at hk⟩
    simp only [Desc.ok] at hk
    split at hk
    · rename_i q' hu
      have : q' = q := by simpa using hk
      subst this
      exact trod_flt hu h
    · cases hk
  | sl d ih =>
    refine ⟨fun fuel t cs x h hk => ?_, fun fuel fs o cs h hk => by simp [Desc.ok] at hk⟩
    simp only [Desc.ok] at hk
    split at hk
    · rename_i e hu
      simp only [Bool.and_eq_true] at hk
      have hsz := Nat.eq_of_beq_eq_true hk.2
      rcases DataW.trod_slice hu h with ⟨rfl, _⟩ | ⟨a, len, cap, elems, rest, n, _, rfl, _, _, hl, hm, hlen, hel, _, _⟩
      · exact ⟨none, 0, 0, [], rfl, rfl, .nil, by simp, by omega, by omega⟩
      · have each : ∀ i, i < len → ∃ c, W.cells? 0 (a.add (i * d.size)) d.size = some c ∧ Rd W d c := fun i hi => by
          have h1 := hel i hi
          rw [List.getElem?_eq_getElem (by omega), Option.bind_eq_some_iff, hsz] at h1
          obtain ⟨c, hc, hy⟩ := h1
          exact ⟨c, hc, ih.1 _ _ _ _ hy hk.1⟩
        have hget : ∀ i e', ((List.range len).map fun i => (W.cells? 0 (a.add (i * d.size)) d.size).getD [])[i]? = some e' → i < len ∧ W.cells? 0 (a.add (i * d.size)) d.size = some e' := fun i e' he => by
          rw [List.getElem?_map] at he
          by_cases hi : i < len
          · obtain ⟨c, hc, _⟩ := each i hi
            simp [hi, hc] at he
            exact ⟨hi, by rw [hc, he]⟩
          · simp [List.getElem?_eq_none (show (List.range len).length ≤ i by simp; omega)] at he
        refine ⟨some a, len, cap, (List.range len).map fun i => (W.cells? 0 (a.add (i * d.size)) d.size).getD [], rfl, by simp, sl_rows (fun i e' he => (hget i e' he).2), fun e' he => ?_, hl, hm⟩
        obtain ⟨i, hi⟩ := List.mem_iff_getElem?.1 he
        obtain ⟨hil, hc⟩ := hget i e' hi
        obtain ⟨c, hc', hr⟩ := each i hil
        rw [hc] at hc'; cases hc'
        exact hr
    · cases hk
  | arr n d ih =>
    refine ⟨fun fuel t cs x h hk => ?_, fun fuel fs o cs h hk => by simp [Desc.ok] at hk⟩
    simp only [Desc.ok] at hk
    split at hk
    · rename_i m e hu
      simp only [Bool.and_eq_true] at hk
      have hm := Nat.eq_of_beq_eq_true hk.1.1.1
      have hsz := Nat.eq_of_beq_eq_true hk.1.2
      have htot := Nat.eq_of_beq_eq_true hk.2
      subst hm
      obtain ⟨xs, fm, _, _, hcl, hxl, hxs⟩ := DataW.trod_array hu h
      refine ⟨(List.range m).map fun i => (cs.drop (i * d.size)).take d.size, by simp, (chunks_flatten cs d.size m (by rw [hcl, htot])).symm, fun e' he => ?_⟩
      obtain ⟨i, hi, rfl⟩ := List.mem_map.1 he
      have hi' : i < m := by simpa using hi
      have h1 := hxs i hi'
      rw [List.getElem?_eq_getElem (by omega), hsz] at h1
      exact ih.1 _ _ _ _ h1 hk.1.1.2
    · cases hk
  | str ds ih =>
    refine ⟨fun fuel t cs x h hk => ?_, fun fuel fs o cs h hk => by simp [Desc.ok] at hk⟩
    simp only [Desc.ok] at hk
    split at hk
    · rename_i fs hu
      simp only [Bool.and_eq_true] at hk
      have htot := Nat.eq_of_beq_eq_true hk.2
      obtain ⟨xs, fm, _, _, hcl, hxl, hxs⟩ := DataW.trod_struct hu h
      have := ih.2 fm fs.toList 0 cs (fun f hf => by
        obtain ⟨i, hi⟩ := List.mem_iff_getElem?.1 hf
        have hil := (List.getElem?_eq_some_iff.1 hi).1
        have h1 := hxs i f (by simpa using hi)
        rw [List.getElem?_eq_getElem (by simp at hil; omega)] at h1
        exact ⟨_, h1⟩) hk.1 (by rw [hcl, htot]; omega)
      simpa [Rd] using this
    · cases hk
  | nil =>
    refine ⟨fun fuel t cs x h hk => by simp [Desc.ok] at hk, fun fuel fs o cs h hk hl => ?_⟩
    show cs.drop o = []
    exact List.drop_of_length_le (by simp [Desc.size] at hl; omega)
  | cons d ds ih1 ih2 =>
    refine ⟨fun fuel t cs x h hk => by simp [Desc.ok] at hk, fun fuel fs o cs h hk hl => ?_⟩
    cases fs with
    | nil => simp [Desc.ok] at hk
    | cons f fs =>
      simp only [Desc.ok, Bool.and_eq_true] at hk
      obtain ⟨⟨⟨h1, h2⟩, h3⟩, h4⟩ := hk
      have ho := Nat.eq_of_beq_eq_true h1
      have hs := Nat.eq_of_beq_eq_true h2
      obtain ⟨x, hx⟩ := h f (by simp)
      rw [ho, hs] at hx
      simp only [Desc.size] at hl
      refine ⟨(cs.drop o).take d.size, cs.drop (o + d.size), ?_, ih1.1 _ _ _ _ hx h3, ih2.2 fuel fs (o + d.size) cs (fun g hg => h g (by simp [hg])) h4 (by omega)⟩
      rw [← List.drop_drop]
      exact (List.take_append_drop _ _).symm
/-- An argument of this shape. -/
theorem rd_arg {t : TypeId} {v : Value} {x : DataW H} {ps : List MemPlace} (d : Desc) (hd' : d.ok P (.inl t) = true) (h : DataW.Trod enc P W 0 sp hd t v x ps) : Rd W d v.cells.toList := by
  obtain ⟨fuel, h⟩ := h
  exact (rd_both d).1 _ _ _ _ h hd'
end
theorem flatten_ones {α β : Type} (f : α → β) : ∀ (l : List α), (l.map fun x => [f x]).flatten = l.map f
  | [] => rfl
  | x :: l => by simp [flatten_ones f l]
/-- A slice of slices of bytes. -/
theorem Rd.slices {w : World} {cs : List Value} (h : Rd w (.sl (.sl (.int .u8))) cs) : ∃ a len cap, ∃ ps : List (Option Addr × Nat × List Nat), cs = [.slice a len cap] ∧ ps.length = len ∧ SlA w a (ps.map fun p => .slice p.1 p.2.2.length p.2.1) ∧
    (∀ p ∈ ps, SlA w p.1 (p.2.2.map B) ∧ Byt p.2.2 ∧ p.2.2.length ≤ 9223372036854775807) ∧ len ≤ 9223372036854775807 := by
  obtain ⟨a, len, cap, ess, rfl, hl, hS, he, hc, hm⟩ := h
  have each : ∀ e ∈ ess, ∃ p : Option Addr × Nat × List Nat, e = [.slice p.1 p.2.2.length p.2.1] ∧ SlA w p.1 (p.2.2.map B) ∧ Byt p.2.2 ∧ p.2.2.length ≤ 9223372036854775807 := fun e hm => by
    obtain ⟨a', len', cap', ess', rfl, hl', hS', he', hc', hm'⟩ := he e hm
    have each' : ∀ e ∈ ess', ∃ n : Nat, e = [B n] ∧ n < 256 := fun e hm => by
      obtain ⟨n, rfl, hf⟩ := he' e hm
      obtain ⟨m, rfl, hm8⟩ := fits_u8 hf
      exact ⟨m, rfl, hm8⟩
    obtain ⟨l, hl2, hlb⟩ : ∃ l : List Nat, ess' = l.map (fun n => [B n]) ∧ Byt l := by
      clear hS' hl' he'
      induction ess' with
      | nil => exact ⟨[], rfl, by simp [Byt]⟩
      | cons e ess' ih =>
        obtain ⟨n, rfl, hn⟩ := each' e (by simp)
        obtain ⟨l, rfl, hlb⟩ := ih (fun e he => each' e (by simp [he]))
        exact ⟨n :: l, rfl, fun x hx => by rcases List.mem_cons.1 hx with rfl | hx; exact hn; exact hlb x hx⟩
    subst hl2
    rw [flatten_ones] at hS'
    simp only [List.length_map] at hl'
    subst hl'
    exact ⟨(a', cap', l), rfl, hS', hlb, by simp only [maxLen] at hm'; show l.length ≤ _; omega⟩
  obtain ⟨ps, hps, hpp⟩ : ∃ ps : List (Option Addr × Nat × List Nat), ess = ps.map (fun p => [.slice p.1 p.2.2.length p.2.1]) ∧ ∀ p ∈ ps, SlA w p.1 (p.2.2.map B) ∧ Byt p.2.2 ∧ p.2.2.length ≤ 9223372036854775807 := by
    clear hS hl he
    induction ess with
    | nil => exact ⟨[], rfl, by simp⟩
    | cons e ess ih =>
      obtain ⟨p, rfl, hp⟩ := each e (by simp)
      obtain ⟨ps, rfl, hpp⟩ := ih (fun e he => each e (by simp [he]))
      exact ⟨p :: ps, rfl, fun x hx => by rcases List.mem_cons.1 hx with rfl | hx; exact hp; exact hpp x hx⟩
  subst hps
  rw [flatten_ones] at hS
  exact ⟨a, len, cap, ps, rfl, by simpa using hl, hS, hpp, by simp only [maxLen] at hm; omega⟩
end Go.K
