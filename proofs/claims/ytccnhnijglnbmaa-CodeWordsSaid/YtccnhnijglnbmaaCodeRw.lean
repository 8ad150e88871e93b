/- The walks of a code's size, length, its words written and read; no condition but sizes of memory. -/
import Derived.Test.YtccnhnijglnbmaaSh
import Derived.Test.YtccnhnijglnbmaaCodeNew
import Derived.Test.YtccnhnijglnbmaaK9
namespace Go.Proofs.Ytccnhnijglnbmaa
open Go Go.K Go.P Go.RowKit Go.Proofs
theorem ptrC : isPtr Try.prog 48 = true := by kernel_rfl
section
variable {p : Nat} {D : CD} {w : World}
theorem RC.b (h : (RC p D).holds w) : Blk w p 81 D.cs := h.1
theorem RC.s (h : (RC p D).holds w) : SlA w D.a0 (nv D.sz) := h.2.1
theorem RC.u (h : (RC p D).holds w) : SlA w D.a1 (uv D.ws) := h.2.2.1
theorem RC.t (h : (RC p D).holds w) : SlA w D.a2 (iv D.T) := h.2.2.2
theorem nv_at {l : List Nat} {i : Nat} (h : i < l.length) : (nv l)[i]? = some (.int .i64 (l.getD i 0 : Nat)) := by
  rw [List.getElem?_map, List.getD_eq_getElem?_getD, List.getElem?_eq_getElem h]; rfl
theorem uv_at {l : List Nat} {i : Nat} (h : i < l.length) : (uv l)[i]? = some (.int .u64 (l.getD i 0 : Nat)) := by
  rw [List.getElem?_map, List.getD_eq_getElem?_getD, List.getElem?_eq_getElem h]; rfl
end
theorem csize_in {p i : Nat} {D : CD} {w : World} (hR : (RC p D).holds w) (hi : i < D.sz.length) : Does Try.prog 15 #[pt p, .int .i64 i] w fun v w' => v = .int .i64 (D.sz.getD i 0 : Nat) ∧ w' = w := by
  refine Does_of (args := [_, _]) Try.func15 rfl rfl Try.ntmps15 rfl ?_
  have hB := RC.b hR
  have hS := RC.s hR
  have hl : (nv D.sz).length = D.sz.length := by simp
  have hv := nv_at hi
  repeat (first | refine WS_seq ?_ | refine WS_region ?_ | refine WL_nil ?_ | refine WS_skip ?_ | refine WS_no rfl (by omega) ?_ | refine WL_gyes rfl rfl rfl ?_ | (refine WL_r (by first | refine k_nilCheck rfl | refine k_fa rfl (Ty.fld rfl rfl) | refine k_pnil rfl rfl (.inr rfl) ptrC | refine k_loadb rfl hB rfl (Ty.shp rfl) | refine k_ix1 rfl rfl hS hl (Ty.sle rfl) (by omega) | refine k_loads rfl hS hv (Ty.shp rfl) | refine Run_pev rfl | refine k_len rfl (Ty.isl rfl) | apply k_makeFunc) rfl ?_))
  exact WS_ret1 Try.func15 rfl ⟨rfl, rfl⟩
theorem csize_out {p : Nat} {n : Int} {D : CD} {w : World} (hR : (RC p D).holds w) (hi : ¬ (0 ≤ n ∧ n < D.sz.length)) : Does Try.prog 15 #[pt p, .int .i64 n] w fun v w' => v = .int .i64 0 ∧ w' = w := by
  refine Does_of (args := [_, _]) Try.func15 rfl rfl Try.ntmps15 rfl ?_
  have hB := RC.b hR
  rcases (show n < 0 ∨ (0 ≤ n ∧ (D.sz.length : Int) ≤ n) by omega) with h | h
  · repeat (first | refine WS_seq ?_ | refine WS_region ?_ | refine WL_nil ?_ | refine WS_true rfl ?_ | refine WL_gyes rfl rfl rfl ?_ | refine WL_gno (b := true) rfl rfl (dT (by omega)) rfl rfl ?_ | (refine WL_r (by first | refine k_pnil rfl rfl (.inr rfl) ptrC | refine Run_pev rfl | apply k_makeFunc | refine k_pick_t (dT (by omega)) rfl) rfl ?_))
    exact WS_ret1 Try.func15 rfl ⟨rfl, rfl⟩
  · repeat (first | refine WS_seq ?_ | refine WS_region ?_ | refine WL_nil ?_ | refine WS_yes rfl (by omega) ?_ | refine WL_gyes rfl rfl rfl ?_ | refine WL_gyes rfl rfl (dF (by omega)) ?_ | (refine WL_r (by first | refine k_nilCheck rfl | refine k_fa rfl (Ty.fld rfl rfl) | refine k_pnil rfl rfl (.inr rfl) ptrC | refine k_loadb rfl hB rfl (Ty.shp rfl) | refine Run_pev rfl | refine k_len rfl (Ty.isl rfl) | apply k_makeFunc | refine k_pick_f (dF (by omega)) rfl) rfl ?_))
    exact WS_ret1 Try.func15 rfl ⟨rfl, rfl⟩
theorem csize_nil {n : Int} {w : World} : Does Try.prog 15 #[np, .int .i64 n] w fun v w' => v = .int .i64 0 ∧ w' = w := by
  refine Does_of (args := [_, _]) Try.func15 rfl rfl Try.ntmps15 rfl ?_
  repeat (first | refine WS_seq ?_ | refine WS_region ?_ | refine WL_nil ?_ | refine WS_true rfl ?_ | refine WL_gno rfl rfl rfl rfl rfl ?_ | (refine WL_r (by first | refine k_pnil rfl rfl (.inr rfl) ptrC | refine Run_pev rfl | apply k_makeFunc) rfl ?_))
  exact WS_ret1 Try.func15 rfl ⟨rfl, rfl⟩
theorem clen_spec {p : Nat} {D : CD} {w : World} (hR : (RC p D).holds w) : Does Try.prog 17 #[pt p] w fun v w' => v = .int .i64 (D.sz.length : Nat) ∧ w' = w := by
  refine Does_of (args := [_]) Try.func17 rfl rfl Try.ntmps17 rfl ?_
  have hB := RC.b hR
  repeat (first | refine WS_seq ?_ | refine WS_region ?_ | refine WL_nil ?_ | refine WS_skip ?_ | refine WS_false rfl ?_ | (refine WL_r (by first | refine k_nilCheck rfl | refine k_fa rfl (Ty.fld rfl rfl) | refine k_pnil rfl rfl (.inr rfl) ptrC | refine k_loadb rfl hB rfl (Ty.shp rfl) | refine Run_pev rfl | refine k_len rfl (Ty.isl rfl) | apply k_makeFunc) rfl ?_))
  exact WS_ret1 Try.func17 rfl ⟨rfl, rfl⟩
theorem clen_nil {w : World} : Does Try.prog 17 #[np] w fun v w' => v = .int .i64 0 ∧ w' = w := by
  refine Does_of (args := [_]) Try.func17 rfl rfl Try.ntmps17 rfl ?_
  repeat (first | refine WS_seq ?_ | refine WS_region ?_ | refine WL_nil ?_ | refine WS_true rfl ?_ | (refine WL_r (by first | refine k_pnil rfl rfl (.inr rfl) ptrC | refine Run_pev rfl | apply k_makeFunc) rfl ?_))
  exact WS_ret1 Try.func17 rfl ⟨rfl, rfl⟩
set_option maxRecDepth 20000 in
theorem cputw_nilc {n : Int} {q : Option Addr} {w : World} : Does Try.prog 22 #[np, .pointer q, .int .i64 n] w fun v w' => v = .int .i64 1 ∧ w' = w := by
  refine Does_of (args := [_, _, _]) Try.func22 rfl rfl Try.ntmps22 rfl ?_
  repeat (first | refine WS_seq ?_ | refine WS_region ?_ | refine WL_nil ?_ | refine WS_block ?_ | refine WS_true rfl ?_ | refine WL_gno rfl rfl rfl rfl rfl ?_ | (refine WL_r (by first | refine k_pnil rfl rfl (.inr rfl) ptrC | refine Run_pev rfl | apply k_makeFunc) rfl ?_))
  exact WS_ret1 Try.func22 rfl ⟨rfl, rfl⟩
set_option maxRecDepth 20000 in
theorem cputw_nilw {p : Nat} {n : Int} {w : World} : Does Try.prog 22 #[pt p, np, .int .i64 n] w fun v w' => v = .int .i64 1 ∧ w' = w := by
  refine Does_of (args := [_, _, _]) Try.func22 rfl rfl Try.ntmps22 rfl ?_
  repeat (first | refine WS_seq ?_ | refine WS_region ?_ | refine WL_nil ?_ | refine WS_block ?_ | refine WS_true rfl ?_ | refine WL_gyes rfl rfl rfl ?_ | (refine WL_r (by first | refine k_pnil rfl rfl (.inr rfl) ptrC | refine Run_pev rfl | apply k_makeFunc) rfl ?_))
  exact WS_ret1 Try.func22 rfl ⟨rfl, rfl⟩
set_option maxRecDepth 20000 in
theorem cputw_out {p q : Nat} {n : Int} {D : CD} {w : World} (hR : (RC p D).holds w) (hi : ¬ (0 ≤ n ∧ n < D.sz.length)) : Does Try.prog 22 #[pt p, pt q, .int .i64 n] w fun v w' => v = .int .i64 2 ∧ w' = w := by
  refine Does_of (args := [_, _, _]) Try.func22 rfl rfl Try.ntmps22 rfl ?_
  have hB := RC.b hR
  rcases (show n < 0 ∨ (0 ≤ n ∧ (D.sz.length : Int) ≤ n) by omega) with h | h
  · repeat (first | refine WS_seq ?_ | refine WS_region ?_ | refine WL_nil ?_ | refine WS_block ?_ | refine WS_true rfl ?_ | refine WS_false rfl ?_ | refine WL_gyes rfl rfl rfl ?_ | refine WL_gno (b := true) rfl rfl (dT (by omega)) rfl rfl ?_ | (refine WL_r (by first | refine k_pnil rfl rfl (.inr rfl) ptrC | refine Run_pev rfl | apply k_makeFunc | refine k_pick_t (dT (by omega)) rfl) rfl ?_))
    exact WS_ret1 Try.func22 rfl ⟨rfl, rfl⟩
  · repeat (first | refine WS_seq ?_ | refine WS_region ?_ | refine WL_nil ?_ | refine WS_block ?_ | refine WS_false rfl ?_ | refine WS_yes rfl (by omega) ?_ | refine WL_gyes rfl rfl rfl ?_ | refine WL_gyes rfl rfl (dF (by omega)) ?_ | (refine WL_r (by first | refine k_nilCheck rfl | refine k_fa rfl (Ty.fld rfl rfl) | refine k_pnil rfl rfl (.inr rfl) ptrC | refine k_loadb rfl hB rfl (Ty.shp rfl) | refine Run_pev rfl | refine k_len rfl (Ty.isl rfl) | apply k_makeFunc | refine k_pick_f (dF (by omega)) rfl) rfl ?_))
    exact WS_ret1 Try.func22 rfl ⟨rfl, rfl⟩
set_option maxRecDepth 20000 in
set_option maxHeartbeats 2000000 in
theorem cputw_spec {p q c i : Nat} {a : Option Addr} {bs : List Bool} {D : CD} {w : World} (hD : D.ok) (hi : i < D.sz.length) (hbl : bs.length ≤ 1000000000) (hR : (RC p D).holds w) (hW : (Rw q a c bs).holds w) :
    Does Try.prog 22 #[pt p, pt q, .int .i64 i] w fun v w' => v = .int .i64 0 ∧ ∃ a' c', Upd (Rw q a c bs) (Rw q a' c' (bs ++ cw D.sz D.ws i)) w w' := by
  refine Does_of (args := [_, _, _]) Try.func22 rfl rfl Try.ntmps22 rfl ?_
  have hB := RC.b hR
  have hS := RC.s hR
  have hU := RC.u hR
  have hl : (nv D.sz).length = D.sz.length := by simp
  have hl2 : (uv D.ws).length = D.sz.length := by rw [List.length_map]; exact hD.1.wl
  have hv := nv_at hi
  have hv2 := uv_at (l := D.ws) (i := i) (by have := hD.1.wl; omega)
  have hs := hD.1.szd hi
  repeat (first | refine WS_seq ?_ | refine WS_region ?_ | refine WL_nil ?_ | refine WS_block ?_ | refine WS_inBlock ?_ | refine WS_skip ?_ | refine WS_false rfl ?_ | refine WS_no rfl (by omega) ?_ | refine WL_gyes rfl rfl rfl ?_ | (refine WL_r (by first | refine k_nilCheck rfl | refine k_fa rfl (Ty.fld rfl rfl) | refine k_pnil rfl rfl (.inr rfl) ptrC | refine k_loadb rfl hB rfl (Ty.shp rfl) | refine Run_pev rfl | refine k_len rfl (Ty.isl rfl) | apply k_makeFunc) rfl ?_))
  refine WS_tailS Ty.mixed 15 rfl (by kernel_rfl) rfl (fun u => Ext [] w u) ?_
  have hx1 : Ext [] w w.drew := Ext.drew0
  refine WA_take 0 rfl (by kernel_rfl) hx1 rfl rfl (fun w' hw' => by refine Run_pev rfl) ?_
  refine WA_take 1 rfl (by kernel_rfl) hx1 rfl rfl (fun w' hw' => by refine Run_pev rfl) ?_
  refine WA_take 2 rfl (by kernel_rfl) hx1 rfl rfl (fun w' hw' => by refine k_nilCheck rfl) ?_
  refine WA_take 3 rfl (by kernel_rfl) hx1 rfl rfl (fun w' hw' => by refine k_fa rfl (Ty.fld rfl rfl)) ?_
  refine WA_take 4 rfl (by kernel_rfl) hx1 rfl rfl (fun w' hw' => by refine k_loadb rfl (hB.ext0 hw') rfl (Ty.shp rfl)) ?_
  refine WA_take 5 rfl (by kernel_rfl) hx1 rfl rfl (fun w' hw' => by refine Run_pev rfl) ?_
  refine WA_take 6 rfl (by kernel_rfl) hx1 rfl rfl (fun w' hw' => by refine k_ix1 rfl rfl (hU.ext0 hw') hl2 (Ty.sle rfl) (by omega)) ?_
  refine WA_take 7 rfl (by kernel_rfl) hx1 rfl rfl (fun w' hw' => by refine k_loads rfl (hU.ext0 hw') hv2 (Ty.shp rfl)) ?_
  refine WA_take 8 rfl (by kernel_rfl) hx1 rfl rfl (fun w' hw' => by refine Run_pev rfl) ?_
  refine WA_take 9 rfl (by kernel_rfl) hx1 rfl rfl (fun w' hw' => by refine k_nilCheck rfl) ?_
  refine WA_take 10 rfl (by kernel_rfl) hx1 rfl rfl (fun w' hw' => by refine k_fa rfl (Ty.fld rfl rfl)) ?_
  refine WA_take 11 rfl (by kernel_rfl) hx1 rfl rfl (fun w' hw' => by refine k_loadb rfl (hB.ext0 hw') rfl (Ty.shp rfl)) ?_
  refine WA_take 12 rfl (by kernel_rfl) hx1 rfl rfl (fun w' hw' => by refine Run_pev rfl) ?_
  refine WA_take 13 rfl (by kernel_rfl) hx1 rfl rfl (fun w' hw' => by refine k_ix1 rfl rfl (hS.ext0 hw') hl (Ty.sle rfl) (by omega)) ?_
  refine WA_take 14 rfl (by kernel_rfl) hx1 rfl rfl (fun w' hw' => by refine k_loads rfl (hS.ext0 hw') hv (Ty.shp rfl)) ?_
  refine WA_done (by kernel_rfl) ?_
  try refine WL_gyes rfl rfl rfl ?_
  refine WL_s (S_call (wput_spec (s := D.sz.getD i 0) (hD.1.w64 hi) (by omega) (by omega) ((Rw q a c bs).keep hW hx1 (by simp))) rfl rfl ?_)
  rintro v w2 ⟨rfl, a2, c2, hU2⟩
  repeat (first | refine WS_seq ?_ | refine WS_region ?_ | refine WL_nil ?_ | (refine WL_r (by first | refine Run_pev rfl | apply k_makeFunc) rfl ?_))
  exact WS_ret1 Try.func22 rfl ⟨rfl, a2, c2, (hx1.weaken (by simp)).trans hU2.ext (fun t ht => .inl ht), hU2.holds, fun x hx => (hU2.fp x hx).imp id (fun h => Nat.le_trans hx1.size h)⟩
theorem tn2 (b : Bool) : (0 : Int) ≤ ((b.toNat : Nat) : Int) ∧ ((b.toNat : Nat) : Int) < ((2 : Nat) : Int) := by cases b <;> decide
theorem and1 (b : Bool) : b.toNat &&& 1 = b.toNat := by cases b <;> rfl
/-- What Take answers. -/
def CTk (q c e : Nat) (a : Option Addr) (l0 : List Nat) (s : RS) (o : Option (Nat × List Bool)) (v : Value) (w w' : World) : Prop :=
  (∃ i r, o = some (i, r) ∧ v = .int .i64 (i : Nat) ∧ Upd (Rq q a c l0 e s) (Rq q a c l0 e ⟨r, false⟩) w w') ∨
  (o = none ∧ v = .int .i64 0 ∧ ∃ s' : RS, s'.ended = true ∧ Upd (Rq q a c l0 e s) (Rq q a c l0 e s') w w')
set_option maxRecDepth 20000 in
theorem ctake_nil {q c e : Nat} {a : Option Addr} {l0 : List Nat} {s : RS} {w : World} (hR : (Rq q a c l0 e s).holds w) : Does Try.prog 20 #[np, pt q] w fun v w' => CTk q c e a l0 s none v w w' := by
  refine Does_of (args := [_, _]) Try.func20 rfl rfl Try.ntmps20 rfl ?_
  repeat (first | refine WS_seq ?_ | refine WS_region ?_ | refine WL_nil ?_ | refine WS_true rfl ?_ | (refine WL_r (by first | refine k_pnil rfl rfl (.inr rfl) ptrC | refine Run_pev rfl) rfl ?_))
  try refine WL_gyes rfl rfl rfl ?_
  refine WL_s (S_call (rfailQ hR) rfl rfl ?_)
  rintro v w1 ⟨rfl, hU⟩
  repeat (first | refine WS_seq ?_ | refine WS_region ?_ | refine WL_nil ?_ | (refine WL_r (by first | refine Run_pev rfl | apply k_makeFunc) rfl ?_))
  exact WS_ret1 Try.func20 rfl (.inr ⟨rfl, rfl, _, rfl, hU⟩)
set_option maxRecDepth 20000 in
set_option maxHeartbeats 4000000 in
theorem ctake_spec {p q c e : Nat} {a : Option Addr} {l0 : List Nat} {l : List Bool} {D : CD} {w : World} (hD : D.ok) (hC : (RC p D).holds w) (hR : (Rq q a c l0 e ⟨l, false⟩).holds w) (hdj : Dj (Rq q a c l0 e ⟨l, false⟩) (RC p D)) :
    Does Try.prog 20 #[pt p, pt q] w fun v w' => CTk q c e a l0 ⟨l, false⟩ (dec D.T 0 l) v w w' := by
  refine Does_of (args := [_, _]) Try.func20 rfl rfl Try.ntmps20 rfl ?_
  obtain ⟨A, wd, P, hcd, hci, hws, hT⟩ := hD.1.it
  have hPl : P.length = D.n2 := by have := hT.len; have := hD.2; omega
  have hdj' : ∀ s ∈ [q] ++ blk a, s ∉ (RC p D).fp := hdj
  have hU0 : ∀ {s : RS} {u : World}, Ext ([q] ++ blk a) w u → (Rq q a c l0 e s).holds u → Upd (Rq q a c l0 e ⟨l, false⟩) (Rq q a c l0 e s) w u := fun h1 h2 => ⟨h1, h2, fun _ hx => .inl hx⟩
  generalize hde : dec D.T 0 l = de
  repeat (first | refine WS_seq ?_ | refine WS_region ?_ | refine WL_nil ?_ | refine WS_block ?_ | refine WS_skip ?_ | refine WS_false rfl ?_ | (refine WL_r (by first | refine k_pnil rfl rfl (.inr rfl) ptrC | refine Run_pev rfl | apply k_makeFunc) rfl ?_))
  refine WS_loop (G := (Nat) × (List Bool)) (fun | (k, m) => m.length + 1) 274877905008 (fun | (k, m) => [(5, .int .i64 k)]) (fun | (k, m), w' => dec D.T k m = de ∧ (∃ pth, P[k]? = some pth) ∧ Ext ([q] ++ blk a) w w' ∧ (Rq q a c l0 e ⟨m, false⟩).holds w') (0, l) ⟨rfl, trivial⟩ ⟨hde, ⟨_, hT.root⟩, .refl, hR⟩ ?_
  rintro ⟨k, m⟩ u σ ⟨hdm, ⟨pth, hk⟩, hW, hR⟩ IH
  show WS _ _ _ _ _ (updL [(5, .int .i64 k)] _) _
  have hkl : k < P.length := (List.getElem?_eq_some_iff.1 hk).1
  have hC1 := (RC p D).keep hC hW hdj'
  have hC2 : ∀ {w'}, Ext ([q] ++ blk a) u w' → (RC p D).holds w' := fun h => (RC p D).keep hC1 h hdj'
  have hl1 : (iv D.T).length = D.n2 * 2 := by rw [iv_len, hD.2]; omega
  have hx0 : Ext ([q] ++ blk a) u u.drew := Ext.drew0
  have hR1 : (Rq q a c l0 e ⟨m, false⟩).holds u.drew := (Rq q a c l0 e ⟨m, false⟩).keep hR (Ext.drew0 (S := [])) (by simp)
  cases m with
  | nil =>
    have hv := slot_at (hT.lt hk false)
    obtain rfl : none = de := hdm
    repeat (first | refine WS_seq ?_ | refine WS_block ?_)
    refine WS_draw Ty.mixed (fun v => Ext ([q] ++ blk a) u v) 13 rfl ?_
    refine WA_take 0 rfl (by kernel_rfl) hx0 rfl rfl (fun w' hw' => by refine Run_pev rfl) ?_
    refine WA_take 1 rfl (by kernel_rfl) hx0 rfl rfl (fun w' hw' => by refine k_nilCheck rfl) ?_
    refine WA_take 2 rfl (by kernel_rfl) hx0 rfl rfl (fun w' hw' => by refine k_fa rfl (Ty.fld rfl rfl)) ?_
    refine WA_take 3 rfl (by kernel_rfl) hx0 rfl rfl (fun w' hw' => by refine k_loadb rfl (RC.b (hC2 hw')) rfl (Ty.shp rfl)) ?_
    refine WA_take 4 rfl (by kernel_rfl) hx0 rfl rfl (fun w' hw' => by refine Run_pev rfl) ?_
    refine WA_take 5 rfl (by kernel_rfl) hx0 rfl rfl (fun w' hw' => by refine Run_pev rfl) ?_
    refine WA_take 8 rfl (by kernel_rfl) hx0 rfl rfl (fun w' hw' => by refine k_ix (sz := 2) rfl rfl (RC.t (hC2 hw')) hl1 (by decide) (Ty.sle rfl) (by omega)) ?_
    refine WA_take 9 rfl (by kernel_rfl) hx0 rfl rfl (fun w' hw' => by refine k_faA rfl (Ty.fld rfl rfl)) ?_
    refine WA_one 6 (by kernel_rfl) rfl rfl (S_call (rbitQ hR1) rfl rfl ?_)
    rintro v u2 ⟨rfl, hU⟩
    have hx2 : Ext ([q] ++ blk a) u u2 := hx0.trans hU.ext (fun t ht => .inl ht)
    refine ⟨hx2, ?_⟩
    refine WA_take 7 rfl (by kernel_rfl) hx2 rfl rfl (fun w' hw' => by refine (k_and (n := 1) rfl rfl (by rfl) rfl).is (congrArg (fun n : Nat => Value.int .u64 (n : Int)) (and1 _))) ?_
    refine WA_take 10 rfl (by kernel_rfl) hx2 rfl rfl (fun w' hw' => by refine k_ixaA rfl rfl (Ty.arr rfl) (tn2 _)) ?_
    refine WA_take 11 rfl (by kernel_rfl) hx2 rfl rfl (fun w' hw' => by refine k_loads rfl (RC.t (hC2 hw')) hv (Ty.shp rfl)) ?_
    refine WA_take 12 rfl (by kernel_rfl) hx2 rfl rfl (fun w' hw' => by refine Run_pev rfl) ?_
    refine WA_done (by kernel_rfl) ?_
    repeat (first | refine WS_seq ?_ | refine WS_region ?_ | refine WS_block ?_ | (refine WL_r (by refine Run_pev rfl) rfl ?_))
    try refine WL_gyes rfl rfl rfl ?_
    refine WL_s (S_call (rended_spec (Rq.rd hU.holds)) rfl rfl ?_)
    rintro v u3 ⟨rfl, rfl⟩
    repeat (first | refine WS_seq ?_ | refine WS_region ?_ | refine WL_nil ?_ | refine WS_true rfl ?_ | refine WL_gno rfl rfl rfl rfl rfl ?_ | (refine WL_r (by refine Run_pev rfl) rfl ?_))
    try refine WL_gyes rfl rfl rfl ?_
    refine WL_s (S_call (rfailQ hU.holds) rfl rfl ?_)
    rintro v u4 ⟨rfl, hU4⟩
    repeat (first | refine WS_seq ?_ | refine WS_region ?_ | refine WL_nil ?_ | (refine WL_r (by first | refine Run_pev rfl | apply k_makeFunc) rfl ?_))
    exact WS_ret1 Try.func20 rfl (.inr ⟨rfl, rfl, ⟨[], true⟩, rfl, hU0 ((hW.trans hx2 (fun t ht => .inl ht)).trans hU4.ext (fun t ht => .inl ht)) hU4.holds⟩)
  | cons b m =>
    have hv := slot_at (hT.lt hk b)
    have hdm' : (if slot D.T k b < 0 then some ((-1 - slot D.T k b).toNat, m) else if slot D.T k b = 0 then none else dec D.T (slot D.T k b).toNat m) = de := hdm
    have hlf := hT.leaf k pth b hk
    have hup := hT.up k pth b hk
    have hi64 : ∀ i : Nat, (pth ++ [b], i) ∈ A.map (fun a => (nb a.2.1 a.2.2, a.1)) → i < 64 := fun i hi => by
      obtain ⟨x, hx, e⟩ := List.mem_map.1 hi
      simp only [Prod.mk.injEq] at e
      have h1 := (List.getElem?_eq_some_iff.1 (hci.ent x hx).1).1
      have h2 := hD.1.le.2
      omega
    repeat (first | refine WS_seq ?_ | refine WS_block ?_)
    refine WS_draw Ty.mixed (fun v => Ext ([q] ++ blk a) u v) 13 rfl ?_
    refine WA_take 0 rfl (by kernel_rfl) hx0 rfl rfl (fun w' hw' => by refine Run_pev rfl) ?_
    refine WA_take 1 rfl (by kernel_rfl) hx0 rfl rfl (fun w' hw' => by refine k_nilCheck rfl) ?_
    refine WA_take 2 rfl (by kernel_rfl) hx0 rfl rfl (fun w' hw' => by refine k_fa rfl (Ty.fld rfl rfl)) ?_
    refine WA_take 3 rfl (by kernel_rfl) hx0 rfl rfl (fun w' hw' => by refine k_loadb rfl (RC.b (hC2 hw')) rfl (Ty.shp rfl)) ?_
    refine WA_take 4 rfl (by kernel_rfl) hx0 rfl rfl (fun w' hw' => by refine Run_pev rfl) ?_
    refine WA_take 5 rfl (by kernel_rfl) hx0 rfl rfl (fun w' hw' => by refine Run_pev rfl) ?_
    refine WA_take 8 rfl (by kernel_rfl) hx0 rfl rfl (fun w' hw' => by refine k_ix (sz := 2) rfl rfl (RC.t (hC2 hw')) hl1 (by decide) (Ty.sle rfl) (by omega)) ?_
    refine WA_take 9 rfl (by kernel_rfl) hx0 rfl rfl (fun w' hw' => by refine k_faA rfl (Ty.fld rfl rfl)) ?_
    refine WA_one 6 (by kernel_rfl) rfl rfl (S_call (rbitQ hR1) rfl rfl ?_)
    rintro v u2 ⟨rfl, hU⟩
    have hx2 : Ext ([q] ++ blk a) u u2 := hx0.trans hU.ext (fun t ht => .inl ht)
    refine ⟨hx2, ?_⟩
    refine WA_take 7 rfl (by kernel_rfl) hx2 rfl rfl (fun w' hw' => by refine (k_and (n := 1) rfl rfl (by exact fit64 (Nat.lt_of_lt_of_le (Bool.toNat_lt _) (by decide))) rfl).is (congrArg (fun n : Nat => Value.int .u64 (n : Int)) (and1 _))) ?_
    refine WA_take 10 rfl (by kernel_rfl) hx2 rfl rfl (fun w' hw' => by refine k_ixaA rfl rfl (Ty.arr rfl) (tn2 _)) ?_
    refine WA_take 11 rfl (by kernel_rfl) hx2 rfl rfl (fun w' hw' => by refine k_loads rfl (RC.t (hC2 hw')) hv (Ty.shp rfl)) ?_
    refine WA_take 12 rfl (by kernel_rfl) hx2 rfl rfl (fun w' hw' => by refine Run_pev rfl) ?_
    refine WA_done (by kernel_rfl) ?_
    generalize slot D.T k b = t at *
    rcases Int.lt_trichotomy t 0 with h1 | h1 | h1
    · obtain ⟨i, rfl, hm⟩ := hlf h1
      have hib := hi64 i hm
      rw [if_pos h1, show (-1 - (-1 - (i : Int))).toNat = i by omega] at hdm'
      repeat (first | refine WS_seq ?_ | refine WS_region ?_ | refine WS_block ?_ | (refine WL_r (by refine Run_pev rfl) rfl ?_))
      try refine WL_gyes rfl rfl rfl ?_
      refine WL_s (S_call (rended_spec (Rq.rd hU.holds)) rfl rfl ?_)
      rintro v u3 ⟨rfl, rfl⟩
      repeat (first | refine WS_seq ?_ | refine WS_region ?_ | refine WL_nil ?_ | refine WS_yes rfl (by omega) ?_ | refine WS_no rfl (by omega) ?_ | refine WL_gyes rfl rfl rfl ?_ | (refine WL_r (by first | refine (k_sub64 (m := -1) (n := -1 - (i : Int)) rfl rfl (by omega)).is (congrArg (Value.int .i64) (show -1 - (-1 - (i : Int)) = (i : Int) by omega)) | refine Run_pev rfl | apply k_makeFunc) rfl ?_))
      exact WS_ret1 Try.func20 rfl (.inl ⟨i, m, hdm'.symm, rfl, hU0 (hW.trans hx2 (fun t ht => .inl ht)) hU.holds⟩)
    · subst h1
      rw [if_neg (by omega), if_pos rfl] at hdm'
      repeat (first | refine WS_seq ?_ | refine WS_region ?_ | refine WS_block ?_ | (refine WL_r (by refine Run_pev rfl) rfl ?_))
      try refine WL_gyes rfl rfl rfl ?_
      refine WL_s (S_call (rended_spec (Rq.rd hU.holds)) rfl rfl ?_)
      rintro v u3 ⟨rfl, rfl⟩
      repeat (first | refine WS_seq ?_ | refine WS_region ?_ | refine WL_nil ?_ | refine WS_true rfl ?_ | refine WL_gyes rfl rfl rfl ?_ | (refine WL_r (by refine Run_pev rfl) rfl ?_))
      try refine WL_gyes rfl rfl rfl ?_
      refine WL_s (S_call (rfailQ hU.holds) rfl rfl ?_)
      rintro v u4 ⟨rfl, hU4⟩
      repeat (first | refine WS_seq ?_ | refine WS_region ?_ | refine WL_nil ?_ | (refine WL_r (by first | refine Run_pev rfl | apply k_makeFunc) rfl ?_))
      exact WS_ret1 Try.func20 rfl (.inr ⟨hdm'.symm, rfl, ⟨m, true⟩, rfl, hU0 ((hW.trans hx2 (fun t ht => .inl ht)).trans hU4.ext (fun t ht => .inl ht)) hU4.holds⟩)
    · obtain ⟨k2, rfl, hk2⟩ := hup h1
      rw [if_neg (by omega), if_neg (by omega), show ((k2 : Nat) : Int).toNat = k2 from rfl] at hdm'
      repeat (first | refine WS_seq ?_ | refine WS_region ?_ | refine WS_block ?_ | (refine WL_r (by refine Run_pev rfl) rfl ?_))
      try refine WL_gyes rfl rfl rfl ?_
      refine WL_s (S_call (rended_spec (Rq.rd hU.holds)) rfl rfl ?_)
      rintro v u3 ⟨rfl, rfl⟩
      repeat (first | refine WS_seq ?_ | refine WS_region ?_ | refine WL_nil ?_ | refine WS_inBlock ?_ | refine WS_skip ?_ | refine WS_false rfl ?_ | refine WS_no rfl (by omega) ?_ | refine WL_gyes rfl rfl rfl ?_ | (refine WL_r (by first | refine Run_pev rfl | apply k_makeFunc) rfl ?_))
      refine IH (k2, m) _ _ ?_ ?_ ?_ ?_
      · simp
      · exact ⟨rfl, trivial⟩
      · exact (by repeat (first | with_reducible apply Agr.refl | refine Agr.upd rfl ?_ | refine Agr.updL rfl ?_ | refine Agr.mrg rfl ?_))
      · exact ⟨hdm', ⟨_, hk2⟩, hW.trans hx2 (fun t ht => .inl ht), hU.holds⟩
end Go.Proofs.Ytccnhnijglnbmaa
