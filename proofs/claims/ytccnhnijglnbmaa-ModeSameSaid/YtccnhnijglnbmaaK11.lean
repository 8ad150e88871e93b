/- Rules for maps whose keys are integers, of which no more is kept than what holds of every value: over any program; no condition. -/
import Derived.Test.YtccnhnijglnbmaaK10
import Derived.MapKept
namespace Go.K
open Go Go.RowKit

/-- Block b is a map; its keys are integers of kind q; Q holds of every value. -/
def MapI (w : World) (b : Nat) (q : IntKind) (Q : Value → Prop) : Prop := ∃ es clock, w.heap[b]? = some (.map es clock) ∧ ∀ x ∈ es.toList, MapKept.IsKey (.int q) x.key ∧ Q x.val
theorem MapI.lt {w : World} {b : Nat} {q : IntKind} {Q : Value → Prop} (h : MapI w b q Q) : b < w.heap.size := by
  obtain ⟨es, c, hb, _⟩ := h
  exact (Array.getElem?_eq_some_iff.1 hb).1
theorem MapI.ext {S : List Nat} {w w' : World} {b : Nat} {q : IntKind} {Q : Value → Prop} (h : MapI w b q Q) (hE : Ext S w w') (hb : b ∉ S) : MapI w' b q Q := by
  have hlt := h.lt
  obtain ⟨es, c, hm, hq⟩ := h
  exact ⟨es, c, (hE.block b hlt hb).trans hm, hq⟩
theorem MapI.ext0 {w w' : World} {b : Nat} {q : IntKind} {Q : Value → Prop} (h : MapI w b q Q) (hE : Ext [] w w') : MapI w' b q Q := h.ext hE (by simp)
/-- A type's zero value. -/
def zerV (P : Program) (t : TypeId) : Option Value := (P.info? t).bind (·.zero)
/-- A map type's key's kind; its element. -/
def mpk (P : Program) (t : TypeId) : Option (IntKind × TypeId) :=
  match P.underlying t with
  | some (.map k e) => (kindOf P k).map fun q => (q, e)
  | _ => none
theorem mpk_spec {P : Program} {t e : TypeId} {q : IntKind} (h : mpk P t = some (q, e)) : ∃ k, P.underlying t = some (.map k e) ∧ P.underlying k = some (.int q) := by
  unfold mpk at h
  split at h
  · rename_i k e' hu
    simp only [Option.map_eq_some_iff, Prod.mk.injEq] at h
    obtain ⟨q', hq, rfl, rfl⟩ := h
    exact ⟨k, hu, kindOf_spec hq⟩
  · cases h
section
variable {P : Program} {N : Nat} {K : Fr → World → Prop} {ρ : Fr} {w : World} {dst : Option Nat} {d : Nat} {ty : TypeId} {pos : String} {af : Array Edge} {gd : Option (Nat × Bool)} {x y z : Operand} {t e : TypeId} {q : IntKind} {Q : Value → Prop} {b : Nat} {v : Value}
theorem k_makeFunc1 {fn : Fn} (hx : ev ρ x = v) : Run P ρ ⟨dst, .makeFunc fn #[] #[x], ty, pos, af, gd⟩ w (.func fn #[] #[v]) w := by
  constructor; unfold execOp; simp [Instr.makeFunc, hx]
theorem S_makeMap (hd : Nat.blt d N = true) (hk : ∀ w' b, b = w.heap.size → Ext [] w w' → MapI w' b q Q → w'.heap.size = b + 1 → K (upd ρ d (.map (some b))) w') : Stp P N ρ ⟨some d, .makeMap t none, ty, pos, af, gd⟩ w K := by
  refine S_run (w' := w.alloc (.map #[] 0)) (v := .map (some w.heap.size)) ?_ hd (hk _ _ rfl (ext_alloc _ _) ⟨#[], 0, heap_alloc_new w _, by simp⟩ (by simp))
  constructor; unfold execOp
  simp [Instr.makeMap]
theorem S_mapSet {i : Int} (ht : mpk P t = some (q, e)) (hx : ev ρ x = .map (some b)) (hy : ev ρ y = .int q i) (hz : ev ρ z = v) (hM : MapI w b q Q) (hv : Q v)
    (hk : ∀ w', Ext [b] w w' → MapI w' b q Q → w'.heap.size = w.heap.size → K ρ w') : Stp P N ρ ⟨none, .mapUpdate t x y z, ty, pos, af, gd⟩ w K := by
  obtain ⟨kt, hu, hkk⟩ := mpk_spec ht
  obtain ⟨es, c, hb, hes⟩ := hM
  have hkey : MapKept.IsKey (.int q) (.int q i) := by simp [MapKept.IsKey]
  have fin : ∀ (es' : Array MapEntry) (c' : Nat), (∀ x ∈ es'.toList, MapKept.IsKey (.int q) x.key ∧ Q x.val) → (Instr.mapUpdate t (.map (some b)) (.int q i) v).run P w = .ok () { w with heap := w.heap.setIfInBounds b (.map es' c') } → Stp P N ρ ⟨none, .mapUpdate t x y z, ty, pos, af, gd⟩ w K := by
    intro es' c' hes' hr
    have hh := MapKept.heap_set (o' := .map es' c') hb
    refine S_skip (w' := { w with heap := w.heap.setIfInBounds b (.map es' c') }) ?_ rfl (hk _ ⟨rfl, rfl, rfl, by simp, fun r _ hr => hh.2 r (fun e => hr (by simp [e]))⟩ ⟨es', c', hh.1, hes'⟩ (by simp))
    unfold execOp
    simp [hx, hy, hz, hr]
  rcases MapKept.findNow_spec hkey es.toList 0 (fun x hx => (hes x hx).1) with ⟨h1, h2⟩ | ⟨j, e', h1, h2, h3⟩
  · refine fin (es.push { key := .int q i, val := v, born := c }) (c + 1) ?_ ?_
    · intro x hx
      simp only [Array.toList_push, List.mem_append, List.mem_singleton] at hx
      rcases hx with hx | rfl
      · exact hes x hx
      · exact ⟨hkey, hv⟩
    · simp [Instr.mapUpdate, run_underlying hu, MapKept.run_getObj_map hb, MapKept.run_checkKey hkk hkey, MapKept.run_findKey hkk h1, MapKept.run_setObj_map _ hb, Result.andThen]
  · have hj : (es[j]?).map (·.key) = some (.int q i) := by
      have : es[j]? = some e' := by simpa using h2
      rw [this]; simp [h3]
    refine fin (es.modify j fun e => { e with key := .int q i, val := v }) c ?_ ?_
    · intro x hx
      obtain ⟨m, hm⟩ := List.mem_iff_getElem?.1 hx
      simp only [Array.getElem?_toList, Array.getElem?_modify] at hm
      split at hm
      · simp only [Option.map_eq_some_iff] at hm
        obtain ⟨y, _, rfl⟩ := hm
        exact ⟨hkey, hv⟩
      · exact hes x (by rw [List.mem_iff_getElem?]; exact ⟨m, by simpa using hm⟩)
    · simp [Instr.mapUpdate, run_underlying hu, MapKept.run_getObj_map hb, MapKept.run_checkKey hkk hkey, MapKept.run_findKey hkk h1, MapKept.run_setObj_map _ hb, hj, MapKept.run_keyThatStays hkey, Result.andThen]
/-- What a lookup yields: a value of the map, or the element's zero. -/
theorem S_lookupQ {i : Int} {u : Value} (ht : mpk P t = some (q, e)) (hze : zerV P e = some u) (hx : ev ρ x = .map (some b)) (hy : ev ρ y = .int q i) (hM : MapI w b q Q) (hd : Nat.blt d N = true)
    (hk : ∀ v, Q v ∨ v = u → K (upd ρ d v) w) : Stp P N ρ ⟨some d, .lookup t x y false, ty, pos, af, gd⟩ w K := by
  obtain ⟨kt, hu, hkk⟩ := mpk_spec ht
  obtain ⟨es, c, hb, hes⟩ := hM
  have hkey : MapKept.IsKey (.int q) (.int q i) := by simp [MapKept.IsKey]
  have hzr : (zeroValue e).run P w = .ok u w := by
    unfold zerV at hze
    cases hi : P.info? e with
    | none => simp [hi] at hze
    | some i =>
      simp [hi] at hze
      simp [zeroValue, typeInfo, hi, hze]
  rcases MapKept.findNow_spec hkey es.toList 0 (fun x hx => (hes x hx).1) with ⟨h1, h2⟩ | ⟨j, e', h1, h2, h3⟩
  · refine S_run (w' := w) (v := u) ?_ hd (hk _ (.inr rfl))
    constructor; unfold execOp
    simp [hx, hy, Instr.lookup, run_underlying hu, MapKept.run_getObj_map hb, MapKept.run_checkKey hkk hkey, MapKept.run_findKey hkk h1, hzr]
  · refine S_run (w' := w) (v := e'.val) ?_ hd (hk _ (.inl (hes e' (List.mem_of_getElem? h2)).2))
    constructor; unfold execOp
    simp [hx, hy, Instr.lookup, run_underlying hu, MapKept.run_getObj_map hb, MapKept.run_checkKey hkk hkey, MapKept.run_findKey hkk h1]
end
end Go.K
