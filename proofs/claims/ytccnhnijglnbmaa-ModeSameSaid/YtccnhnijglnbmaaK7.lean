/- Rules for literals of structs and arrays, and for a string constant's bytes: over any program; no condition. -/
import Derived.Test.YtccnhnijglnbmaaK6
namespace Go.K
open Go Go.RowKit

def splice (l : List Value) (o : Nat) (vs : List Value) : List Value := l.take o ++ vs ++ l.drop (o + vs.length)
def fillL (place : Nat → Option (Nat × Nat)) (cells : List Value) : List (Nat × Value) → Option (List Value)
  | [] => some cells
  | (i, v) :: rest => match place i with
    | none => none
    | some (off, size) => cond (Nat.beq v.cells.size size && Nat.ble (off + size) cells.length) (fillL place (splice cells off v.cells.toList) rest) none
theorem foldl_splice : ∀ (cs : List Value) (m o : Nat) (acc : List Value), o + m + cs.length ≤ acc.length →
    (cs.zipIdx m).foldl (fun (cs : Array Value) (c : Value × Nat) => cs.setIfInBounds (o + c.2) c.1) acc.toArray = (acc.take (o + m) ++ cs ++ acc.drop (o + m + cs.length)).toArray
  | [], m, o, acc, _ => by simp
  | c :: cs, m, o, acc, hacc => by
    simp only [List.length_cons] at hacc
    simp only [List.zipIdx_cons, List.foldl_cons, List.setIfInBounds_toArray]
    rw [foldl_splice cs (m + 1) o (acc.set (o + m) c) (by rw [List.length_set]; omega)]
    congr 1
    have e := list_seg_step acc (o + m) c cs (by omega)
    simpa [Nat.add_assoc, Nat.add_comm, Nat.add_left_comm] using e
theorem fill_list (place : Nat → Option (Nat × Nat)) : ∀ (ps : List (Nat × Value)) (cells out : List Value), fillL place cells ps = some out → Instr.fill place cells.toArray ps = some out.toArray
  | [], cells, out, h => by simp [fillL] at h; subst h; rfl
  | (i, v) :: rest, cells, out, h => by
    unfold fillL at h
    cases hp : place i with
    | none => rw [hp] at h; cases h
    | some os =>
      obtain ⟨off, size⟩ := os
      rw [hp] at h
      simp only at h
      cases hc : (Nat.beq v.cells.size size && Nat.ble (off + size) cells.length) with
      | false => rw [hc] at h; cases h
      | true =>
        rw [hc] at h
        rw [Bool.and_eq_true] at hc
        have h1 := Nat.eq_of_beq_eq_true hc.1
        have h2 := Nat.le_of_ble_eq_true hc.2
        have hs := foldl_splice v.cells.toList 0 off cells (by simp [h1]; omega)
        simp only [Instr.fill, hp]
        rw [if_neg (by simp [h1]; omega)]
        rw [← Array.foldl_toList, Array.toList_zipIdx, hs]
        exact fill_list place rest _ out h
/-- A struct type's fields' places. -/
def plcs (P : Program) (t : TypeId) : Option (List (Nat × Nat)) :=
  match P.underlying t with
  | some (.struct fs) => fs.toList.mapM fun f => (P.info? f.type).map fun i => (f.offset, i.size)
  | _ => none
def evP (ρ : Fr) : List (Nat × Operand) → List (Nat × Value)
  | [] => []
  | (i, x) :: l => (i, ev ρ x) :: evP ρ l
theorem evP_map (ρ : Fr) : ∀ l, evP ρ l = l.map fun p => (p.1, ev ρ p.2)
  | [] => rfl
  | (i, x) :: l => by simp [evP, evP_map ρ l]
section
variable {P : Program} {N : Nat} {K : Fr → World → Prop} {ρ : Fr} {w : World} {v : Value} {dst : Option Nat} {d : Nat} {ty : TypeId} {pos : String} {af : Array Edge} {gd : Option (Nat × Bool)} {x y z : Operand} {t u e : TypeId} {q : IntKind}
theorem zer_run {zs : List Value} (hz : zer P t = some zs) : ∃ zv, (zeroValue t).run P w = .ok zv w ∧ zv.cells.toList = zs := by
  unfold zer at hz
  cases hi : P.info? t with
  | none => simp [hi] at hz
  | some i =>
    cases hzz : i.zero with
    | none => simp [hi, hzz] at hz
    | some zv =>
      simp [hi, hzz] at hz
      exact ⟨zv, by simp [zeroValue, typeInfo, hi, hzz], hz⟩
theorem mapM_places {P : Program} {w : World} : ∀ (fs : List Field) (pl : List (Nat × Nat)), (fs.mapM fun f => (P.info? f.type).map fun i => (f.offset, i.size)) = some pl →
    (fs.mapM (m := Sem) fun f => do pure (f.offset, ← sizeOf f.type)).run P w = .ok pl w
  | [], pl, h => by simp at h; subst h; rfl
  | f :: fs, pl, h => by
    rw [List.mapM_cons] at h
    cases hi : P.info? f.type with
    | none => simp [hi] at h
    | some i =>
      cases hr : (fs.mapM fun f => (P.info? f.type).map fun i => (f.offset, i.size)) with
      | none => simp [hi, hr] at h
      | some pl' =>
        simp [hi, hr] at h
        subst h
        have ih := mapM_places (w := w) fs pl' hr
        rw [List.mapM_cons]
        have hsz : (sizeOf f.type).run P w = .ok i.size w := by simp [sizeOf, typeInfo, hi]
        simp only [Sem.run_bind, hsz, Result.andThen_ok, Sem.run_pure, ih]
theorem k_buildS {ps : List (Nat × Operand)} {zs cs : List Value} {pl : List (Nat × Nat)} (hz : zer P t = some zs) (hp : plcs P t = some pl) (hf : fillL (fun i => pl[i]?) zs (evP ρ ps) = some cs) :
    Run P ρ ⟨dst, .build t ps.toArray, ty, pos, af, gd⟩ w (.agg cs.toArray) w := by
  obtain ⟨zv, hzr, hzc⟩ := zer_run (P := P) (w := w) hz
  unfold plcs at hp
  split at hp
  · rename_i fs hu
    have hm := mapM_places (w := w) fs.toList pl hp
    have hm' : (fs.mapM (m := Sem) fun f => do pure (f.offset, ← sizeOf f.type)).run P w = .ok pl.toArray w := by
      rw [Array.mapM_eq_mapM_toList]
      simp only [Sem.run_map, hm, Result.andThen_ok]
    have hfl := fill_list _ _ _ _ hf
    have hzs : zv.cells = zs.toArray := by rw [← hzc]
    constructor
    unfold execOp
    simp only [Instr.build, Sem.run_bind, hzr, Result.andThen_ok, run_underlying hu, hm', hzs]
    rw [evP_map] at hfl
    simp [hfl]
  · cases hp
theorem k_buildA {ps : List (Nat × Operand)} {zs cs : List Value} {n sz : Nat} {g : Bool} (hz : zer P t = some zs) (ha : arr P t = some (n, (g, sz))) (hf : fillL (fun i => some (i * sz, sz)) zs (evP ρ ps) = some cs) :
    Run P ρ ⟨dst, .build t ps.toArray, ty, pos, af, gd⟩ w (.agg cs.toArray) w := by
  obtain ⟨zv, hzr, hzc⟩ := zer_run (P := P) (w := w) hz
  obtain ⟨e, hu, hs⟩ := arr_spec ha
  have hfl := fill_list _ _ _ _ hf
  have hzs : zv.cells = zs.toArray := by rw [← hzc]
  constructor
  unfold execOp
  simp only [Instr.build, Sem.run_bind, hzr, Result.andThen_ok, run_underlying hu, shp_size hs, hzs]
  rw [evP_map] at hfl
  simp [hfl]
/-- The bytes of a string constant: a slice converted to its own type: its end is marked. -/
theorem S_convs {b n : Nat} {cs : Array Value} (hx : ev ρ x = .slice (some ⟨b, 0, none⟩) n n) (hB : Blk w b e cs) (ht : sle P t = some (e, (false, 1))) (he : kindOf P e = some .u8) (hd : Nat.blt d N = true)
    (hk : ∀ w', Ext [b] w w' → SlA w' (some ⟨b, 0, none⟩) cs.toList → w'.heap.size = w.heap.size → K (upd ρ d (.slice (some ⟨b, 0, none⟩) n n)) w') : Stp P N ρ ⟨some d, .convert t t x, ty, pos, af, gd⟩ w K := by
  obtain ⟨hu, _⟩ := sle_spec ht
  have hB' : w.heap[b]? = some (.cells cs e (0, 0)) := hB
  have hsh : w.shape? b = some (e, cs.size) := by simp [World.shape?, hB']
  have hfz : ∀ j v, cs.toList[j]? = some v → (w.freeze ⟨b, cs.size, none⟩ 1).cell? ⟨b, j, none⟩ = some v := fun j v hj => by
    have h1 : (w.freeze ⟨b, cs.size, none⟩ 1).heap[b]? = some (.cells cs e (cs.size, cs.size + 1)) := by
      simp [World.freeze, Array.getElem?_modify, hB']
    simp only [World.cell?, h1]
    simpa using hj
  refine S_run (w' := w.freeze ⟨b, cs.size, none⟩ 1) (v := .slice (some ⟨b, 0, none⟩) n n) ?_ hd (hk _ ⟨rfl, rfl, rfl, by simp [World.freeze], fun k hk hkb => ?_⟩ ⟨fun j v hj => by simpa [At] using hfz j v hj, fun _ => ⟨b, 0, rfl⟩⟩ (by simp [World.freeze]))
  · constructor
    unfold execOp
    simp [hx, convert, run_underlying hu, run_underlying (kindOf_spec he), markStringish, hsh]
  · have : b ≠ k := fun e => hkb (by simp [e])
    simp [World.freeze, Array.getElem?_modify, this]
end
end Go.K
