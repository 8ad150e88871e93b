/- From a contract of a law to its row: arguments opened; the row's post for 'true, and the arguments as they were': over any program; no condition. -/
import Derived.Test.YtccnhnijglnbmaaK7
import Derived.ProofKit
import Derived.Deep.Slices
namespace Go.K
open Go Go.RowKit Go.ChangeShapes Go.WideShapes

section
variable {H : Type} {enc : TypeId × Value → H} {P : Program} {W : World} {v : Value} {d : DataW H} {ps : List MemPlace} {t e : TypeId} {q : IntKind} {sp : Nat → Bool} {hd : Bool}
theorem trodAll_stays (hl : laidOutB P = true) {W' : World} {sp' : Nat → Bool} : ∀ {ts : List TypeId} {vs : List Value} {ds : List (DataW H)} {ps : List MemPlace}, ts.all (fun t => P.readableRec t && decide (t < P.types.size)) = true →
    DataW.TrodAll enc P W 0 (fun _ => true) true ts vs ds ps → (∀ p ∈ ps, W.sameAt W' p) → (∀ p ∈ ps, sp' p.block = true) → DataW.TrodAll enc P W' 0 sp' true ts vs ds ps
  | [], vs, ds, ps, _, h, _, _ => by
    obtain ⟨rfl, rfl, rfl⟩ := trodAll_nil h
    rfl
  | t :: ts, vs, ds, ps, ht, h, hs, hsp => by
    obtain ⟨v, vs', d, ds', p, q, rfl, rfl, rfl, h1, h2⟩ := trodAll_cons h
    simp only [List.all_cons, Bool.and_eq_true, decide_eq_true_eq] at ht
    exact ⟨p, q, WideElems.Trod_stays hl ht.1.1 ht.1.2 h1 (fun x hx => hs x (by simp [hx])) (fun x hx => hsp x (by simp [hx])),
      trodAll_stays hl ht.2 h2 (fun x hx => hs x (by simp [hx])) (fun x hx => hsp x (by simp [hx])), rfl⟩
/-- The row's post of a law: it answers true; of what there was nothing has turned. -/
theorem law_post {f : Func} {s : ChangeSpec} {W' : World} {args : Array Value} {ds gs : List (DataW H)} {before : List MemPlace} {tb : TypeId} (hl : laidOutB P = true) (hts : f.params.toList.all (fun t => P.readableRec t && decide (t < P.types.size)) = true)
    (hW : DataW.Whole enc P f.params.toList s.vars false W args.toList ds gs before) (hv : s.vars = []) (hrt : f.resultTypes = #[tb]) (htb : P.underlying tb = some .bool) (hfn : (s.fn H ds).results = [.lit (.bool true)] ∧ (s.fn H ds).args = ds ∧ (s.fn H ds).vars = [])
    (hb : Ext [] W W') : s.post enc P f false true false false W args (.bool true) W' := by
  have hold : ∀ p ∈ before, p.block < W.heap.size := fun p hp => by simpa using hW.lt p hp
  have hW' := hW
  obtain ⟨p, q, hA, hV, rfl, hfz, hnd⟩ := hW
  have hb' := hb.below
  rw [hv] at hV
  obtain ⟨rfl, rfl⟩ := trodVars_none hV
  rw [← List.append_nil ds] at hfn
  refine ⟨ds, [], p ++ [], [], p, [], hW', ?_, ?_, ?_, ?_, fun h => by cases h⟩
  · rw [hfn.1, hrt]
    exact ⟨[], [], ⟨1, by simp [Value.cells, DataW.trod, htb]⟩, rfl, rfl⟩
  · rw [hfn.2.1, List.append_nil]
    exact trodAll_stays hl hts hA (fun x hx => hb'.same (hold x (by simp [hx]))) (fun x hx => by simpa using hold x (by simp [hx]))
  · rw [hfn.2.2, hv]; rfl
  · exact hb'.frame _
theorem Does.enter {f : FuncId} {fn : Func} {c : Code} {R : Value → World → Prop} {args : Array Value} (h : Does P f args W R) (hf : P.funcs[f]? = some fn) (hn : (fn.name == "runtime.NumGoroutine") = false) (hb : fn.body = some c) :
    Calls P f args W (fun e w' => ∃ v, e = .returned v ∧ R v w') :=
  h.calls ⟨W, by unfold callFunc; simp only [Sem.run_bind, run_program, Result.andThen_ok, hf, hn, hb]; rfl⟩

/-! ### Opening arguments -/
/-- Does an integer fit its kind? -/
def Fits (q : IntKind) (n : Int) : Prop := q.min ≤ n ∧ n ≤ q.max
theorem fits_wf {n : Int} (h : (Lit.int q n).wf = true) : Fits q n := by
  simp only [Lit.wf, Bool.and_eq_true, decide_eq_true_eq] at h
  exact h
theorem fits_u8 {n : Int} (h : Fits .u8 n) : ∃ m : Nat, n = m ∧ m < 256 := by
  obtain ⟨h1, h2⟩ := h
  simp only [IntKind.min, IntKind.max, IntKind.signed, IntKind.bits] at h1 h2
  simp at h1 h2
  exact ⟨n.toNat, by omega, by omega⟩
theorem fits_u16 {n : Int} (h : Fits .u16 n) : ∃ m : Nat, n = m ∧ m < 65536 := by
  obtain ⟨h1, h2⟩ := h
  simp only [IntKind.min, IntKind.max, IntKind.signed, IntKind.bits] at h1 h2
  simp at h1 h2
  exact ⟨n.toNat, by omega, by omega⟩
theorem fits_u32 {n : Int} (h : Fits .u32 n) : ∃ m : Nat, n = m ∧ m < 4294967296 := by
  obtain ⟨h1, h2⟩ := h
  simp only [IntKind.min, IntKind.max, IntKind.signed, IntKind.bits] at h1 h2
  simp at h1 h2
  exact ⟨n.toNat, by omega, by omega⟩
theorem fits_u64 {n : Int} (h : Fits .u64 n) : ∃ m : Nat, n = m ∧ m < 18446744073709551616 := by
  obtain ⟨h1, h2⟩ := h
  simp only [IntKind.min, IntKind.max, IntKind.signed, IntKind.bits] at h1 h2
  simp at h1 h2
  exact ⟨n.toNat, by omega, by omega⟩
theorem fits_i64 {n : Int} (h : Fits .i64 n) : -9223372036854775808 ≤ n ∧ n ≤ 9223372036854775807 := by
  obtain ⟨h1, h2⟩ := h
  simp only [IntKind.min, IntKind.max, IntKind.signed, IntKind.bits] at h1 h2
  simp at h1 h2
  exact ⟨by omega, by omega⟩
theorem fits_i8 {n : Int} (h : Fits .i8 n) : -128 ≤ n ∧ n ≤ 127 := by
  obtain ⟨h1, h2⟩ := h
  simp only [IntKind.min, IntKind.max, IntKind.signed, IntKind.bits] at h1 h2
  simp at h1 h2
  exact ⟨by omega, by omega⟩
variable {r : Reach} {b0 : Nat}
theorem rd_int (ht : kindOf P t = some q) (hv : Value.okWide P W r b0 t v) (h : DataW.Trod enc P W 0 sp hd t v d ps) : ∃ n : Int, v = .int q n ∧ Fits q n := by
  obtain ⟨n, rfl, _, _, hw⟩ := open_int (kindOf_spec ht) hv h
  exact ⟨n, rfl, fits_wf hw⟩
theorem rd_bool (ht : P.underlying t = some .bool) (hv : Value.okWide P W r b0 t v) : ∃ b : Bool, v = .bool b := by
  simp only [Value.okWide, ht, Cell.okWide] at hv
  cases v <;> simp_all [Cell.ok]
/-- A slice of integers. -/
theorem rd_ints (ht : sle P t = some (e, (false, 1))) (he : kindOf P e = some q) (hv : Value.okWide P W r b0 t v) (h : DataW.Trod enc P W 0 sp hd t v d ps) :
    ∃ a n cap, ∃ l : List Int, v = .slice a n cap ∧ l.length = n ∧ SlA W a (l.map (Value.int q)) ∧ (∀ x ∈ l, Fits q x) ∧ n ≤ 9223372036854775807 := by
  obtain ⟨hu, hs⟩ := sle_spec ht
  have hc : P.cellsOf e = 1 := by
    have := shp_size (P := P) (w := W) hs
    unfold shp at hs
    cases hi : P.info? e with
    | none => rw [hi] at hs; split at hs <;> simp at *
    | some i =>
      rw [hi] at hs
      simp only [Program.cellsOf, hi, Option.map_some, Option.getD_some]
      split at hs <;> first | (rename_i h1 h2; cases h2; simp at hs; omega) | (simp at hs; omega) | cases hs
  obtain ⟨a0, len, cap, rfl⟩ := okWide_slice hu hv
  obtain ⟨fuel, h⟩ := h
  rcases open_ints hu (kindOf_spec he) hc h with ⟨hcs, _⟩ | ⟨a, len', cap', zs, hcs, _, hl, hm, hz, _, hcell, hw⟩
  · simp [Value.cells] at hcs
    obtain ⟨rfl, rfl, rfl⟩ := hcs
    exact ⟨none, 0, 0, [], rfl, rfl, .nil, by simp, by omega⟩
  · simp [Value.cells] at hcs
    obtain ⟨rfl, rfl, rfl⟩ := hcs
    have hzl : len ≤ zs.length := by rw [hz]; split <;> omega
    have hm' : len ≤ 9223372036854775807 := by simp only [maxLen] at hm; omega
    refine ⟨some a, len, cap, zs.take len, rfl, by simp; omega, ?_, fun x hx => fits_wf (hw x (List.mem_of_mem_take hx)), hm'⟩
    by_cases h0 : len = 0
    · subst h0; simp; exact .nil
    · have hspot : a.spot = none := by
        have h1 := hcell 0 (by omega)
        cases hs : a.spot with
        | none => rfl
        | some x =>
          exfalso
          have : a.add 0 = a := by simp [Addr.add]
          rw [this] at h1
          unfold World.cell? at h1
          split at h1
          · simp [hs] at h1
          · cases h1
      obtain ⟨b, o, sp'⟩ := a
      simp only at hspot
      subst hspot
      refine ⟨fun j v hj => ?_, fun _ => ⟨b, o, rfl⟩⟩
      rw [List.getElem?_map, List.getElem?_take] at hj
      split at hj
      · rename_i hjl
        have h1 := hcell j (by omega)
        rw [addr_add] at h1
        have : zs[j]? = some (zs.getD j 0) := by simp [List.getD, show j < zs.length by omega]
        rw [this] at hj
        simp at hj
        rw [← hj]
        exact h1
      · cases hj
theorem nats_of {b : Nat} : ∀ {l : List Int}, (∀ x ∈ l, ∃ m : Nat, x = m ∧ m < b) → ∃ l' : List Nat, l = l'.map (fun (x : Nat) => (x : Int)) ∧ ∀ x ∈ l', x < b
  | [], _ => ⟨[], rfl, by simp⟩
  | x :: l, h => by
    obtain ⟨m, rfl, hm⟩ := h x (by simp)
    obtain ⟨l', rfl, hl⟩ := nats_of (l := l) (fun x hx => h x (by simp [hx]))
    exact ⟨m :: l', rfl, by intro x hx; rcases List.mem_cons.1 hx with rfl | hx; exact hm; exact hl x hx⟩
theorem rd_nats {b : Nat} (hq : ∀ n, Fits q n → ∃ m : Nat, n = m ∧ m < b) (ht : sle P t = some (e, (false, 1))) (he : kindOf P e = some q) (hv : Value.okWide P W r b0 t v) (h : DataW.Trod enc P W 0 sp hd t v d ps) :
    ∃ a n cap, ∃ l : List Nat, v = .slice a n cap ∧ l.length = n ∧ SlA W a (l.map fun (x : Nat) => Value.int q (x : Int)) ∧ (∀ x ∈ l, x < b) ∧ n ≤ 9223372036854775807 := by
  obtain ⟨a, n, cap, l, rfl, hl, hS, hf, hn⟩ := rd_ints ht he hv h
  obtain ⟨l', rfl, hb⟩ := nats_of (fun x hx => hq x (hf x hx))
  exact ⟨a, n, cap, l', rfl, by simpa using hl, by simpa [List.map_map, Function.comp_def] using hS, hb, hn⟩
theorem rd_bytes (ht : sle P t = some (e, (false, 1))) (he : kindOf P e = some .u8) (hv : Value.okWide P W r b0 t v) (h : DataW.Trod enc P W 0 sp hd t v d ps) :
    ∃ a n cap, ∃ l : List Nat, v = .slice a n cap ∧ l.length = n ∧ SlA W a (l.map B) ∧ Byt l ∧ n ≤ 9223372036854775807 := rd_nats (fun _ h => fits_u8 h) ht he hv h
end
end Go.K
