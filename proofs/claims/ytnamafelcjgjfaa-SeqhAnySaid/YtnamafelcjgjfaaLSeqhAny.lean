/- The law SeqhAny: any bytes: a head that makes them, or an error; one bit turned; no condition. -/
import Derived.Test.YtnamafelcjgjfaaSh
import Derived.Test.YtnamafelcjgjfaaLaw15b
import Derived.Test.YtnamafelcjgjfaaSeqhTake
import Derived.Test.YtnamafelcjgjfaaK25
namespace Go.Proofs.Ytnamafelcjgjfaa
open Go Go.K Go.P Go.RowKit Go.Proofs Go.ChangeShapes Go.WideShapes Go.ChangeAt
/-- A slice of bytes that is read, with its room. -/
def IsC (l : List Nat) : Value → World → Prop := fun v w => ∃ a c, v = .slice a l.length c ∧ SlA w a (l.map B) ∧ l.length ≤ c
theorem IsC.st {l : List Nat} : Stable (IsC l) := fun _ _ _ ⟨a, c, h, hS, hc⟩ hE => ⟨a, c, h, hS.ext0 hE, hc⟩
/-- Four slices, the second one new. -/
def Is4 (s0 s2 s3 : Value) (l : List Nat) : Value → World → Prop := fun v w => ∃ b a c, v = .slice (some ⟨b, 0, none⟩) 4 4 ∧ Blk w b 29 #[s0, .slice a l.length c, s2, s3] ∧ SlA w a (l.map B) ∧ l.length ≤ c
theorem Is4.st {s0 s2 s3 : Value} {l : List Nat} : Stable (Is4 s0 s2 s3 l) := fun _ _ _ ⟨b, a, c, h, hB, hS, hc⟩ hE => ⟨b, a, c, h, hB.ext0 hE, hS.ext0 hE, hc⟩
set_option maxRecDepth 20000 in
set_option maxHeartbeats 8000000 in
theorem sany_spec {a : Option Addr} {n cap t bt : Nat} {l : List Nat} {h : SH} {w : World} (hS : SlA w a (l.map B)) (hl : Byt l) (hn : l.length = n) (hcap : n ≤ cap) (ho : h.ok) (ht : t < 65536) (hbt : bt < 256) :
    Does Try.prog 5 #[.slice a n cap, .agg h.cells.toArray, .int .u16 t, .int .u8 bt] w fun v w' => v = .bool true ∧ Ext [] w w' := by
  subst hn
  refine Does_of (args := [_, _, _, _]) Try.func5 rfl rfl Try.ntmps5 rfl ?_
  have hH := Hp.start w
  repeat (first | refine WS_seq ?_ | refine WS_region ?_ | refine WL_nil ?_ | refine WS_block ?_ | refine WS_inBlock ?_ | refine WS_skip ?_ | refine WS_label ?_ | refine WS_scope ?_ | refine WS_inScope ?_ | refine WS_exit rfl ?_ | refine WS_true rfl ?_ | refine WS_false rfl ?_ | refine WS_yes rfl (by omega) ?_ | refine WS_no rfl (by omega) ?_ | refine WL_gyes rfl rfl rfl ?_ | refine WL_gno rfl rfl rfl rfl rfl ?_ | refine WL_gund rfl rfl rfl ?_ | refine WL_gyes rfl rfl (dF (by omega)) ?_ | refine WL_gyes rfl rfl (dT (by omega)) ?_ | refine WL_gno (b := false) rfl rfl (dF (by omega)) rfl rfl ?_ | refine WL_gno (b := true) rfl rfl (dT (by omega)) rfl rfl ?_ | (refine WL_r (by first | refine Run_pev rfl | refine k_add64 rfl rfl (by omega) | refine k_sub64 rfl rfl (by omega) | refine k_len rfl (Ty.isl rfl) | refine k_lens rfl (Ty.iss rfl) | refine k_not rfl | refine k_notb rfl | refine k_min rfl rfl | refine k_max rfl rfl | refine k_min3 rfl rfl rfl | refine k_max3 rfl rfl rfl | refine k_mul64 rfl rfl (by omega) | refine k_quo64 rfl rfl (by omega) | refine k_rem rfl rfl (by omega) | refine k_extract rfl rfl | apply k_makeFunc | refine k_convI rfl rfl rfl (by omega) | refine k_conv16 rfl rfl rfl (by omega) | refine k_conv64 rfl rfl rfl (by omega) | refine k_conv8 rfl rfl rfl (by omega) | refine k_convB rfl rfl rfl | refine k_convH rfl rfl rfl | refine k_convQ rfl rfl rfl | refine k_pick_f (dF (by omega)) rfl | refine k_pick_t (dT (by omega)) rfl) rfl ?_))
  refine WL_s (H_box (cs := h.cells.toArray) hH rfl rfl rfl ?_)
  try clear hH
  intro w1 b5 hH
  first | change Hp _ _ _ [] at hH | change Hp _ _ _ [_] at hH | change Hp _ _ _ [_, _] at hH | change Hp _ _ _ [_, _, _] at hH | change Hp _ _ _ [_, _, _, _] at hH | change Hp _ _ _ [_, _, _, _, _] at hH | change Hp _ _ _ [_, _, _, _, _, _] at hH | change Hp _ _ _ [_, _, _, _, _, _, _] at hH | change Hp _ _ _ [_, _, _, _, _, _, _, _] at hH | change Hp _ _ _ [_, _, _, _, _, _, _, _, _] at hH
  repeat (first | refine WS_seq ?_ | refine WS_region ?_ | refine WL_nil ?_ | refine WS_block ?_ | refine WS_inBlock ?_ | refine WS_skip ?_ | refine WS_label ?_ | refine WS_scope ?_ | refine WS_inScope ?_ | refine WS_exit rfl ?_ | refine WS_true rfl ?_ | refine WS_false rfl ?_ | refine WS_yes rfl (by omega) ?_ | refine WS_no rfl (by omega) ?_ | refine WL_gyes rfl rfl rfl ?_ | refine WL_gno rfl rfl rfl rfl rfl ?_ | refine WL_gund rfl rfl rfl ?_ | refine WL_gyes rfl rfl (dF (by omega)) ?_ | refine WL_gyes rfl rfl (dT (by omega)) ?_ | refine WL_gno (b := false) rfl rfl (dF (by omega)) rfl rfl ?_ | refine WL_gno (b := true) rfl rfl (dT (by omega)) rfl rfl ?_ | (refine WL_r (by first | refine Run_pev rfl | refine k_add64 rfl rfl (by omega) | refine k_sub64 rfl rfl (by omega) | refine k_len rfl (Ty.isl rfl) | refine k_lens rfl (Ty.iss rfl) | refine k_not rfl | refine k_notb rfl | refine k_min rfl rfl | refine k_max rfl rfl | refine k_min3 rfl rfl rfl | refine k_max3 rfl rfl rfl | refine k_mul64 rfl rfl (by omega) | refine k_quo64 rfl rfl (by omega) | refine k_rem rfl rfl (by omega) | refine k_extract rfl rfl | apply k_makeFunc | refine k_convI rfl rfl rfl (by omega) | refine k_conv16 rfl rfl rfl (by omega) | refine k_conv64 rfl rfl rfl (by omega) | refine k_conv8 rfl rfl rfl (by omega) | refine k_convB rfl rfl rfl | refine k_convH rfl rfl rfl | refine k_convQ rfl rfl rfl | refine k_pick_f (dF (by omega)) rfl | refine k_pick_t (dT (by omega)) rfl) rfl ?_))
  try refine WL_gyes rfl rfl rfl ?_
  refine WL_s (S_call (awake15 w1) rfl rfl ?_)
  rintro v w2 ⟨rfl, hE⟩
  replace hH := hH.ext0 hE
  clear hE
  by_cases h400 : 400 < l.length
  · repeat (first | refine WS_seq ?_ | refine WS_region ?_ | refine WL_nil ?_ | refine WS_block ?_ | refine WS_inBlock ?_ | refine WS_skip ?_ | refine WS_label ?_ | refine WS_scope ?_ | refine WS_inScope ?_ | refine WS_exit rfl ?_ | refine WS_true rfl ?_ | refine WS_false rfl ?_ | refine WS_yes rfl (by omega) ?_ | refine WS_no rfl (by omega) ?_ | refine WL_gyes rfl rfl rfl ?_ | refine WL_gno rfl rfl rfl rfl rfl ?_ | refine WL_gund rfl rfl rfl ?_ | refine WL_gyes rfl rfl (dF (by omega)) ?_ | refine WL_gyes rfl rfl (dT (by omega)) ?_ | refine WL_gno (b := false) rfl rfl (dF (by omega)) rfl rfl ?_ | refine WL_gno (b := true) rfl rfl (dT (by omega)) rfl rfl ?_ | (refine WL_r (by first | refine Run_pev rfl | refine k_add64 rfl rfl (by omega) | refine k_sub64 rfl rfl (by omega) | refine k_len rfl (Ty.isl rfl) | refine k_lens rfl (Ty.iss rfl) | refine k_not rfl | refine k_notb rfl | refine k_min rfl rfl | refine k_max rfl rfl | refine k_min3 rfl rfl rfl | refine k_max3 rfl rfl rfl | refine k_mul64 rfl rfl (by omega) | refine k_quo64 rfl rfl (by omega) | refine k_rem rfl rfl (by omega) | refine k_extract rfl rfl | apply k_makeFunc | refine k_convI rfl rfl rfl (by omega) | refine k_conv16 rfl rfl rfl (by omega) | refine k_conv64 rfl rfl rfl (by omega) | refine k_conv8 rfl rfl rfl (by omega) | refine k_convB rfl rfl rfl | refine k_convH rfl rfl rfl | refine k_convQ rfl rfl rfl | refine k_pick_f (dF (by omega)) rfl | refine k_pick_t (dT (by omega)) rfl) rfl ?_))
    exact WS_ret1 Try.func5 rfl ⟨rfl, hH.ext⟩
  have hB5 : Blk w2 b5 26 h.cells.toArray := hH.b 0 rfl
  repeat (first | refine WS_seq ?_ | refine WS_region ?_ | refine WL_nil ?_ | refine WS_block ?_ | refine WS_inBlock ?_ | refine WS_skip ?_ | refine WS_label ?_ | refine WS_scope ?_ | refine WS_inScope ?_ | refine WS_exit rfl ?_ | refine WS_true rfl ?_ | refine WS_false rfl ?_ | refine WS_yes rfl (by omega) ?_ | refine WS_no rfl (by omega) ?_ | refine WL_gyes rfl rfl rfl ?_ | refine WL_gno rfl rfl rfl rfl rfl ?_ | refine WL_gund rfl rfl rfl ?_ | refine WL_gyes rfl rfl (dF (by omega)) ?_ | refine WL_gyes rfl rfl (dT (by omega)) ?_ | refine WL_gno (b := false) rfl rfl (dF (by omega)) rfl rfl ?_ | refine WL_gno (b := true) rfl rfl (dT (by omega)) rfl rfl ?_ | (refine WL_r (by first | refine k_loadA rfl hB5 (SH.cells_len ho) (Ty.shp rfl) | refine Run_pev rfl | refine k_add64 rfl rfl (by omega) | refine k_sub64 rfl rfl (by omega) | refine k_len rfl (Ty.isl rfl) | refine k_lens rfl (Ty.iss rfl) | refine k_not rfl | refine k_notb rfl | refine k_min rfl rfl | refine k_max rfl rfl | refine k_min3 rfl rfl rfl | refine k_max3 rfl rfl rfl | refine k_mul64 rfl rfl (by omega) | refine k_quo64 rfl rfl (by omega) | refine k_rem rfl rfl (by omega) | refine k_extract rfl rfl | apply k_makeFunc | refine k_convI rfl rfl rfl (by omega) | refine k_conv16 rfl rfl rfl (by omega) | refine k_conv64 rfl rfl rfl (by omega) | refine k_conv8 rfl rfl rfl (by omega) | refine k_convB rfl rfl rfl | refine k_convH rfl rfl rfl | refine k_convQ rfl rfl rfl | refine k_pick_f (dF (by omega)) rfl | refine k_pick_t (dT (by omega)) rfl) rfl ?_))
  try refine WL_gyes rfl rfl rfl ?_
  refine WL_s (S_call (sfit_spec ho) rfl rfl ?_)
  rintro v w3 ⟨rfl, hE⟩
  replace hH := hH.ext0 hE
  clear hE hB5
  have hxo := SH.fit_ok ho
  have hxe := SH.fit_err h
  generalize h.fit = x at *
  repeat (first | refine WS_seq ?_ | refine WS_region ?_ | refine WL_nil ?_ | refine WS_block ?_ | refine WS_inBlock ?_ | refine WS_skip ?_ | refine WS_label ?_ | refine WS_scope ?_ | refine WS_inScope ?_ | refine WS_exit rfl ?_ | refine WS_true rfl ?_ | refine WS_false rfl ?_ | refine WS_yes rfl (by omega) ?_ | refine WS_no rfl (by omega) ?_ | refine WL_gyes rfl rfl rfl ?_ | refine WL_gno rfl rfl rfl rfl rfl ?_ | refine WL_gund rfl rfl rfl ?_ | refine WL_gyes rfl rfl (dF (by omega)) ?_ | refine WL_gyes rfl rfl (dT (by omega)) ?_ | refine WL_gno (b := false) rfl rfl (dF (by omega)) rfl rfl ?_ | refine WL_gno (b := true) rfl rfl (dT (by omega)) rfl rfl ?_ | (refine WL_r (by first | refine Run_pev rfl | refine k_add64 rfl rfl (by omega) | refine k_sub64 rfl rfl (by omega) | refine k_len rfl (Ty.isl rfl) | refine k_lens rfl (Ty.iss rfl) | refine k_not rfl | refine k_notb rfl | refine k_min rfl rfl | refine k_max rfl rfl | refine k_min3 rfl rfl rfl | refine k_max3 rfl rfl rfl | refine k_mul64 rfl rfl (by omega) | refine k_quo64 rfl rfl (by omega) | refine k_rem rfl rfl (by omega) | refine k_extract rfl rfl | apply k_makeFunc | refine k_convI rfl rfl rfl (by omega) | refine k_conv16 rfl rfl rfl (by omega) | refine k_conv64 rfl rfl rfl (by omega) | refine k_conv8 rfl rfl rfl (by omega) | refine k_convB rfl rfl rfl | refine k_convH rfl rfl rfl | refine k_convQ rfl rfl rfl | refine k_pick_f (dF (by omega)) rfl | refine k_pick_t (dT (by omega)) rfl) rfl ?_))
  try refine WL_gyes rfl rfl rfl ?_
  refine WL_s (S_call (hput_spec hxo hxe) rfl rfl ?_)
  rintro v w4 ⟨a9, c9, rfl, hN⟩
  replace hH := (hH.nu hN).del 0
  clear hN
  first | change Hp _ _ _ [] at hH | change Hp _ _ _ [_] at hH | change Hp _ _ _ [_, _] at hH | change Hp _ _ _ [_, _, _] at hH | change Hp _ _ _ [_, _, _, _] at hH | change Hp _ _ _ [_, _, _, _, _] at hH | change Hp _ _ _ [_, _, _, _, _, _] at hH | change Hp _ _ _ [_, _, _, _, _, _, _] at hH | change Hp _ _ _ [_, _, _, _, _, _, _, _] at hH | change Hp _ _ _ [_, _, _, _, _, _, _, _, _] at hH
  have hlen : x.out.length ≤ 138 ∧ 10 ≤ x.out.length := by
    rw [SH.out_len hxo hxe]; split <;> omega
  have hob := SH.out_byt x
  have hturn : ∀ (i k c : Nat), x.out[i]? = some c → k < 8 → ∀ g m, ¬ AtHead (x.out.set i (c ^^^ 2 ^ k)) g m := fun i k c hc hk => turned_no hxo hxe hc hk
  obtain ⟨o, hoe⟩ : ∃ o, o = x.out := ⟨_, rfl⟩
  rw [← hoe] at hlen hob hturn hH ⊢
  clear hoe hxo hxe ho
  have hln : (o.map B).length = o.length * 1 := by simp
  have hone : ∀ u ∈ o.map B, u.oneCell' = true := fun u hu => by obtain ⟨y, _, rfl⟩ := List.mem_map.1 hu; rfl
  repeat (first | refine WS_seq ?_ | refine WS_region ?_ | refine WL_nil ?_ | refine WS_block ?_ | refine WS_inBlock ?_ | refine WS_skip ?_ | refine WS_label ?_ | refine WS_scope ?_ | refine WS_inScope ?_ | refine WS_exit rfl ?_ | refine WS_true rfl ?_ | refine WS_false rfl ?_ | refine WS_yes rfl (by omega) ?_ | refine WS_no rfl (by omega) ?_ | refine WL_gyes rfl rfl rfl ?_ | refine WL_gno rfl rfl rfl rfl rfl ?_ | refine WL_gund rfl rfl rfl ?_ | refine WL_gyes rfl rfl (dF (by omega)) ?_ | refine WL_gyes rfl rfl (dT (by omega)) ?_ | refine WL_gno (b := false) rfl rfl (dF (by omega)) rfl rfl ?_ | refine WL_gno (b := true) rfl rfl (dT (by omega)) rfl rfl ?_ | (refine WL_r (by first | refine Run_pev rfl | refine k_add64 rfl rfl (by omega) | refine k_sub64 rfl rfl (by omega) | refine k_len rfl (Ty.isl rfl) | refine k_lens rfl (Ty.iss rfl) | refine k_not rfl | refine k_notb rfl | refine k_min rfl rfl | refine k_max rfl rfl | refine k_min3 rfl rfl rfl | refine k_max3 rfl rfl rfl | refine k_mul64 rfl rfl (by omega) | refine k_quo64 rfl rfl (by omega) | refine k_rem rfl rfl (by omega) | refine k_extract rfl rfl | apply k_makeFunc | refine k_convI rfl rfl rfl (by omega) | refine k_conv16 rfl rfl rfl (by omega) | refine k_conv64 rfl rfl rfl (by omega) | refine k_conv8 rfl rfl rfl (by omega) | refine k_convB rfl rfl rfl | refine k_convH rfl rfl rfl | refine k_convQ rfl rfl rfl | refine k_pick_f (dF (by omega)) rfl | refine k_pick_t (dT (by omega)) rfl) rfl ?_))
  try refine WL_gyes rfl rfl rfl ?_
  refine WL_s (H_lit (out := []) hH (Ty.sle rfl) (Ty.zer rfl) rfl rfl rfl (by decide) rfl ?_)
  try clear hH
  intro _ b35 hH
  first | change Hp _ _ _ [] at hH | change Hp _ _ _ [_] at hH | change Hp _ _ _ [_, _] at hH | change Hp _ _ _ [_, _, _] at hH | change Hp _ _ _ [_, _, _, _] at hH | change Hp _ _ _ [_, _, _, _, _] at hH | change Hp _ _ _ [_, _, _, _, _, _] at hH | change Hp _ _ _ [_, _, _, _, _, _, _] at hH | change Hp _ _ _ [_, _, _, _, _, _, _, _] at hH | change Hp _ _ _ [_, _, _, _, _, _, _, _, _] at hH
  replace hH := hH.as 1 rfl (r' := Ro 5 1 (some ⟨b35, 0, none⟩) 0 0 []) (fun _ h => h) (fun h => (h : Blk _ _ _ _).own (n := 0) (sz := 1) rfl (by decide))
  first | change Hp _ _ _ [] at hH | change Hp _ _ _ [_] at hH | change Hp _ _ _ [_, _] at hH | change Hp _ _ _ [_, _, _] at hH | change Hp _ _ _ [_, _, _, _] at hH | change Hp _ _ _ [_, _, _, _, _] at hH | change Hp _ _ _ [_, _, _, _, _, _] at hH | change Hp _ _ _ [_, _, _, _, _, _, _] at hH | change Hp _ _ _ [_, _, _, _, _, _, _, _] at hH | change Hp _ _ _ [_, _, _, _, _, _, _, _, _] at hH
  repeat (first | refine WS_seq ?_ | refine WS_region ?_ | refine WL_nil ?_ | refine WS_block ?_ | refine WS_inBlock ?_ | refine WS_skip ?_ | refine WS_label ?_ | refine WS_scope ?_ | refine WS_inScope ?_ | refine WS_exit rfl ?_ | refine WS_true rfl ?_ | refine WS_false rfl ?_ | refine WS_yes rfl (by omega) ?_ | refine WS_no rfl (by omega) ?_ | refine WL_gyes rfl rfl rfl ?_ | refine WL_gno rfl rfl rfl rfl rfl ?_ | refine WL_gund rfl rfl rfl ?_ | refine WL_gyes rfl rfl (dF (by omega)) ?_ | refine WL_gyes rfl rfl (dT (by omega)) ?_ | refine WL_gno (b := false) rfl rfl (dF (by omega)) rfl rfl ?_ | refine WL_gno (b := true) rfl rfl (dT (by omega)) rfl rfl ?_ | (refine WL_r (by first | refine Run_pev rfl | refine k_add64 rfl rfl (by omega) | refine k_sub64 rfl rfl (by omega) | refine k_len rfl (Ty.isl rfl) | refine k_lens rfl (Ty.iss rfl) | refine k_not rfl | refine k_notb rfl | refine k_min rfl rfl | refine k_max rfl rfl | refine k_min3 rfl rfl rfl | refine k_max3 rfl rfl rfl | refine k_mul64 rfl rfl (by omega) | refine k_quo64 rfl rfl (by omega) | refine k_rem rfl rfl (by omega) | refine k_extract rfl rfl | apply k_makeFunc | refine k_convI rfl rfl rfl (by omega) | refine k_conv16 rfl rfl rfl (by omega) | refine k_conv64 rfl rfl rfl (by omega) | refine k_conv8 rfl rfl rfl (by omega) | refine k_convB rfl rfl rfl | refine k_convH rfl rfl rfl | refine k_convQ rfl rfl rfl | refine k_pick_f (dF (by omega)) rfl | refine k_pick_t (dT (by omega)) rfl) rfl ?_))
  refine WL_s (H_append 1 hH rfl (Ty.sle rfl) (Ty.zer rfl) rfl (Ty.byt rfl) (by decide) rfl rfl ((hH.o 0 rfl).sl) hln hone (by omega) (by simp only [maxLen]; omega) rfl ?_)
  clear hH
  intro w5 ay cy hH
  first | change Hp _ _ _ [] at hH | change Hp _ _ _ [_] at hH | change Hp _ _ _ [_, _] at hH | change Hp _ _ _ [_, _, _] at hH | change Hp _ _ _ [_, _, _, _] at hH | change Hp _ _ _ [_, _, _, _, _] at hH | change Hp _ _ _ [_, _, _, _, _, _] at hH | change Hp _ _ _ [_, _, _, _, _, _, _] at hH | change Hp _ _ _ [_, _, _, _, _, _, _, _] at hH | change Hp _ _ _ [_, _, _, _, _, _, _, _, _] at hH
  rw [Nat.zero_add o.length, List.nil_append] at hH
  rw [Nat.zero_add o.length]
  obtain ⟨i, hi⟩ : ∃ i, t % o.length = i := ⟨_, rfl⟩
  have hil : i < o.length := by have := Nat.mod_lt t (show 0 < o.length by omega); omega
  have hiI : (t : Int) % (o.length : Int) = (i : Int) := by rw [← hi]; simp
  obtain ⟨k, hk⟩ : ∃ k, bt % 8 = k := ⟨_, rfl⟩
  have hk8 : k < 8 := by omega
  have hcI : o[i]? = some o[i] := List.getElem?_eq_getElem hil
  have hcb : o[i] < 256 := hob _ (List.getElem_mem hil)
  have hv : (o.map B)[i]? = some (B o[i]) := by rw [List.getElem?_map, hcI]; rfl
  have hoy : (o.map B).length = o.length := by simp
  generalize o[i] = c at *
  have hp8 : ∀ k, k < 8 → 1 * 2 ^ k % 256 = 2 ^ k ∧ 2 ^ k < 256 := by decide
  obtain ⟨hsh, hp256⟩ := hp8 k hk8
  have hOy := (hH.o 1 rfl).sl
  repeat (first | refine WS_seq ?_ | refine WS_region ?_ | refine WL_nil ?_ | refine WS_block ?_ | refine WS_inBlock ?_ | refine WS_skip ?_ | refine WS_label ?_ | refine WS_scope ?_ | refine WS_inScope ?_ | refine WS_exit rfl ?_ | refine WS_true rfl ?_ | refine WS_false rfl ?_ | refine WS_yes rfl (by omega) ?_ | refine WS_no rfl (by omega) ?_ | refine WL_gyes rfl rfl rfl ?_ | refine WL_gno rfl rfl rfl rfl rfl ?_ | refine WL_gund rfl rfl rfl ?_ | refine WL_gyes rfl rfl (dF (by omega)) ?_ | refine WL_gyes rfl rfl (dT (by omega)) ?_ | refine WL_gno (b := false) rfl rfl (dF (by omega)) rfl rfl ?_ | refine WL_gno (b := true) rfl rfl (dT (by omega)) rfl rfl ?_ | (refine WL_r (by first | refine (k_rem (m := (t : Int)) (n := (o.length : Int)) rfl rfl ⟨by omega, by omega⟩).is (congrArg (Value.int .i64) hiI) | refine k_ix1 rfl rfl hOy hoy (Ty.sle rfl) (by omega) | refine k_loads rfl hOy hv (Ty.shp rfl) | refine (k_remu (n := 8) rfl rfl (by decide)).is (congrArg (fun n : Nat => Value.int .u8 (n : Int)) hk) | refine (k_shl8 (m := 1) rfl rfl).is (congrArg (fun n : Nat => Value.int .u8 (n : Int)) hsh) | refine k_xor rfl rfl (fit8 hcb) (fit8 hp256) | refine Run_pev rfl | refine k_add64 rfl rfl (by omega) | refine k_sub64 rfl rfl (by omega) | refine k_len rfl (Ty.isl rfl) | refine k_lens rfl (Ty.iss rfl) | refine k_not rfl | refine k_notb rfl | refine k_min rfl rfl | refine k_max rfl rfl | refine k_min3 rfl rfl rfl | refine k_max3 rfl rfl rfl | refine k_mul64 rfl rfl (by omega) | refine k_quo64 rfl rfl (by omega) | refine k_rem rfl rfl (by omega) | refine k_extract rfl rfl | apply k_makeFunc | refine k_convI rfl rfl rfl (by omega) | refine k_conv16 rfl rfl rfl (by omega) | refine k_conv64 rfl rfl rfl (by omega) | refine k_conv8 rfl rfl rfl (by omega) | refine k_convB rfl rfl rfl | refine k_convH rfl rfl rfl | refine k_convQ rfl rfl rfl | refine k_pick_f (dF (by omega)) rfl | refine k_pick_t (dT (by omega)) rfl) rfl ?_))
  refine WL_s (H_storeO 1 (v := B (c ^^^ 2 ^ k)) hH rfl rfl rfl (by omega) rfl (Ty.shp rfl) ?_)
  try clear hH
  intro w6 hH
  first | change Hp _ _ _ [] at hH | change Hp _ _ _ [_] at hH | change Hp _ _ _ [_, _] at hH | change Hp _ _ _ [_, _, _] at hH | change Hp _ _ _ [_, _, _, _] at hH | change Hp _ _ _ [_, _, _, _, _] at hH | change Hp _ _ _ [_, _, _, _, _, _] at hH | change Hp _ _ _ [_, _, _, _, _, _, _] at hH | change Hp _ _ _ [_, _, _, _, _, _, _, _] at hH | change Hp _ _ _ [_, _, _, _, _, _, _, _, _] at hH
  rw [← List.map_set, show ((i : Int)).toNat = i from rfl] at hH
  have hno := hturn i k c hcI hk8
  have hzl : (o.set i (c ^^^ 2 ^ k)).length = o.length := List.length_set
  have hzb : Byt (o.set i (c ^^^ 2 ^ k)) := fun y hy => by
    rcases List.mem_or_eq_of_mem_set hy with h | h
    · exact hob y h
    · subst h; exact Nat.xor_lt_two_pow (n := 8) hcb hp256
  have hcy : o.length ≤ cy := (hH.o 1 rfl).2.1
  have hc9 : o.length ≤ c9 := (hH.o 0 rfl).2.1
  have hOz : SlA w6 ay ((o.set i (c ^^^ 2 ^ k)).map B) := (hH.o 1 rfl).sl
  have hO9 : SlA w6 a9 (o.map B) := (hH.o 0 rfl).sl
  have hS6 := hH.old hS
  have hW6 := hH.ext
  clear hH hOy hv hturn hcI hp8 hsh hS
  obtain ⟨z, hz⟩ : ∃ z, z = o.set i (c ^^^ 2 ^ k) := ⟨_, rfl⟩
  rw [← hz] at hzl hzb hno hOz
  clear hz hcb hp256 hk8 hk
  have hgl : (o.take i).length = i := by simp; omega
  have hO3 : SlA w6 (if c9 = 0 then a9 else a9.map (·.add 0)) ((o.take i).map B) := by
    rw [List.map_take]
    exact take_cells hO9 (Nat.le_of_lt hil) hc9
  have hpl : ([0, 0, 1, 176] ++ l).length = 4 + l.length := by simp; omega
  have hplm : (l.map B).length = l.length := by simp
  generalize hg3 : (if c9 = 0 then a9 else a9.map (·.add 0)) = a3 at *
  repeat (first | refine WS_seq ?_ | refine WS_region ?_ | refine WL_nil ?_ | refine WS_block ?_ | refine WS_inBlock ?_ | refine WS_skip ?_ | refine WS_label ?_ | refine WS_scope ?_ | refine WS_inScope ?_ | refine WS_exit rfl ?_ | refine WS_true rfl ?_ | refine WS_false rfl ?_ | refine WS_yes rfl (by omega) ?_ | refine WS_no rfl (by omega) ?_ | refine WL_gyes rfl rfl rfl ?_ | refine WL_gno rfl rfl rfl rfl rfl ?_ | refine WL_gund rfl rfl rfl ?_ | refine WL_gyes rfl rfl (dF (by omega)) ?_ | refine WL_gyes rfl rfl (dT (by omega)) ?_ | refine WL_gno (b := false) rfl rfl (dF (by omega)) rfl rfl ?_ | refine WL_gno (b := true) rfl rfl (dT (by omega)) rfl rfl ?_ | (refine WL_r (by first | refine Run_pev rfl | refine k_add64 rfl rfl (by omega) | refine k_sub64 rfl rfl (by omega) | refine k_len rfl (Ty.isl rfl) | refine k_lens rfl (Ty.iss rfl) | refine k_not rfl | refine k_notb rfl | refine k_min rfl rfl | refine k_max rfl rfl | refine k_min3 rfl rfl rfl | refine k_max3 rfl rfl rfl | refine k_mul64 rfl rfl (by omega) | refine k_quo64 rfl rfl (by omega) | refine k_rem rfl rfl (by omega) | refine k_extract rfl rfl | apply k_makeFunc | refine k_convI rfl rfl rfl (by omega) | refine k_conv16 rfl rfl rfl (by omega) | refine k_conv64 rfl rfl rfl (by omega) | refine k_conv8 rfl rfl rfl (by omega) | refine k_convB rfl rfl rfl | refine k_convH rfl rfl rfl | refine k_convQ rfl rfl rfl | refine k_pick_f (dF (by omega)) rfl | refine k_pick_t (dT (by omega)) rfl) rfl ?_))
  refine WS_specK [Is (.slice a l.length cap), IsLit 5 4 #[B 0, B 0, B 1, B 176], Is (.slice a l.length cap), IsC ([0, 0, 1, 176] ++ l), Is (.slice ay o.length cy), Is (.slice a9 o.length c9), Is (.int .u16 t), Is (.int .i64 t), Is (.slice a9 o.length c9), Is (.int .i64 o.length), Is (.int .i64 i), Is (.slice a3 i c9), Is4 (.slice a l.length cap) (.slice ay o.length cy) (.slice a3 i c9) ([0, 0, 1, 176] ++ l), Is (.int .i64 4), Is (.int .i64 0)] Ty.mixed [(64559100658356060160, [], true), (73762206496887668736, [], true), (73757702897260298240, [], true), (64543338059660263424, [(1, 52), (2, 53)], true), (64525323661150781440, [], true), (69100980882559205376, [], true), (73352378930796953600, [], true), (71190651109659115520, [(6, 57)], true), (72055342238114250752, [], true), (70325959981203980288, [(8, 59)], true), (66867195467383439360, [(7, 58), (9, 60)], true), (59949666439742357504, [(5, 56), (10, 61)], true), (46114608384460193792, [(0, 51), (3, 54), (4, 55), (11, 62)], true), (55337980421314969600, [(12, 63)], true), (36891236347605417984, [], true)] 73784724495024521216 [(12, 63), (13, 64), (14, 65)] (by kernel_rfl) (by kernel_rfl) (by kernel_rfl) (by kernel_rfl) (by kernel_rfl) ⟨Is.st, IsLit.st, Is.st, (by exact IsC.st), Is.st, Is.st, Is.st, Is.st, Is.st, Is.st, Is.st, Is.st, (by exact Is4.st), Is.st, Is.st, trivial⟩ ⟨⟨GOk.none, ?_⟩, ⟨GOk.none, ?_⟩, ⟨GOk.none, ?_⟩, ⟨GOk.none, ?_⟩, ⟨GOk.none, ?_⟩, ⟨GOk.none, ?_⟩, ⟨GOk.none, ?_⟩, ⟨GOk.none, ?_⟩, ⟨GOk.none, ?_⟩, ⟨GOk.none, ?_⟩, ⟨GOk.none, ?_⟩, ⟨GOk.none, ?_⟩, ⟨GOk.none, ?_⟩, ⟨GOk.none, ?_⟩, ⟨GOk.none, ?_⟩, trivial⟩ ?_
  · intro w'' hE''
    intro σ''
    exact sp_is (by first | refine Run_pev rfl) rfl
  · intro w'' hE''
    intro σ''
    refine S_lit (out := [B 0, B 0, B 1, B 176]) (Ty.sle rfl) (Ty.zer rfl) rfl rfl rfl (by decide) rfl ?_
    intro w3'' b'' hb'' hE3'' hB'' hs''
    exact ⟨hE3'', _, rfl, b'', rfl, hB''⟩
  · intro w'' hE''
    intro σ''
    exact sp_is (by first | refine Run_pev rfl) rfl
  · intro w'' hE''
    rintro _ ⟨b1, rfl, hB1⟩
    rintro _ rfl
    intro σ''
    refine S_appendE (Ty.sle rfl) (Ty.zer rfl) rfl (Ty.byt rfl) (by decide) rfl hB1 rfl rfl (hS6.ext0 hE'') (by simp) (by omega) (by simp only [maxLen]; omega) rfl ?_
    intro w3'' a'' c'' hE3'' hO3'' hf''
    exact ⟨hE3'', _, rfl, a'', c'', by rw [hpl], by rw [List.map_append]; exact hO3''.sl, by rw [hpl]; exact hO3''.2.1⟩
  · intro w'' hE''
    intro σ''
    exact sp_is (by first | refine Run_pev rfl) rfl
  · intro w'' hE''
    intro σ''
    exact sp_is (by first | refine Run_pev rfl) rfl
  · intro w'' hE''
    intro σ''
    exact sp_is (by first | refine Run_pev rfl) rfl
  · intro w'' hE''
    rintro _ rfl
    intro σ''
    exact sp_is (by first | refine k_convI rfl rfl rfl (by omega) | refine k_conv16 rfl rfl rfl (by omega) | refine k_conv64 rfl rfl rfl (by omega) | refine k_conv8 rfl rfl rfl (by omega) | refine k_convB rfl rfl rfl | refine k_convH rfl rfl rfl | refine k_convQ rfl rfl rfl) rfl
  · intro w'' hE''
    intro σ''
    exact sp_is (by first | refine Run_pev rfl) rfl
  · intro w'' hE''
    rintro _ rfl
    intro σ''
    exact sp_is (by first | refine k_len rfl (Ty.isl rfl) | refine k_lens rfl (Ty.iss rfl)) rfl
  · intro w'' hE''
    rintro _ rfl
    rintro _ rfl
    intro σ''
    exact sp_is (by first | refine (k_rem (m := (t : Int)) (n := (o.length : Int)) rfl rfl ⟨by omega, by omega⟩).is (congrArg (Value.int .i64) hiI) | refine k_rem rfl rfl (by omega)) rfl
  · intro w'' hE''
    rintro _ rfl
    rintro _ rfl
    intro σ''
    exact sp_is (by first | refine (k_slchN (h := i) rfl rfl (Ty.sle rfl) (by omega)).is (by rw [hg3])) rfl
  · intro w'' hE''
    rintro _ rfl
    rintro _ h3
    rintro _ rfl
    rintro _ rfl
    intro σ''
    obtain ⟨a4, c4, rfl, hS4, hc4⟩ := h3
    refine S_lit (out := [.slice a l.length cap, .slice a4 ([0, 0, 1, 176] ++ l).length c4, .slice ay o.length cy, .slice a3 i c9]) (Ty.sle rfl) (Ty.zer rfl) rfl rfl rfl (by decide) rfl ?_
    intro w3'' b'' hb'' hE3'' hB'' hs''
    exact ⟨hE3'', _, rfl, b'', a4, c4, rfl, hB'', hS4.ext0 hE3'', hc4⟩
  · intro w'' hE''
    rintro _ h12
    intro σ''
    obtain ⟨b4, a4, c4, rfl, _⟩ := h12
    exact sp_is (k_len rfl (Ty.isl rfl)) rfl
  · intro w'' hE''
    intro σ''
    exact sp_is (by first | refine Run_pev rfl) rfl
  intro w'' hE''
  rintro _ h12
  rintro _ rfl
  rintro _ rfl
  intro σ''
  obtain ⟨b63, a4, c4, rfl, hB63, hS4, hc4⟩ := h12
  have hS0 := hS6.ext0 hE''
  have hS2 := hOz.ext0 hE''
  have hS3 := hO3.ext0 hE''
  have hW7 := hW6.then0 hE''
  clear hS6 hOz hO3 hO9 hW6 hE''
  have hpb : Byt ([0, 0, 1, 176] ++ l) := Byt.append (bytB rfl) hl
  have hgb : Byt (o.take i) := fun x hx => hob x (List.mem_of_mem_take hx)
  generalize [0, 0, 1, 176] ++ l = p at *
  generalize o.take i = g at *
  have e11 : w'' = w'' := rfl
  repeat (first | refine WS_seq ?_ | refine WS_region ?_ | refine WL_nil ?_ | refine WS_block ?_ | refine WS_inBlock ?_ | refine WS_skip ?_ | refine WS_label ?_ | refine WS_scope ?_ | refine WS_inScope ?_ | refine WS_exit rfl ?_ | refine WS_true rfl ?_ | refine WS_false rfl ?_ | refine WS_yes rfl (by omega) ?_ | refine WS_no rfl (by omega) ?_ | refine WL_gyes rfl rfl rfl ?_ | refine WL_gno rfl rfl rfl rfl rfl ?_ | refine WL_gund rfl rfl rfl ?_ | refine WL_gyes rfl rfl (dF (by omega)) ?_ | refine WL_gyes rfl rfl (dT (by omega)) ?_ | refine WL_gno (b := false) rfl rfl (dF (by omega)) rfl rfl ?_ | refine WL_gno (b := true) rfl rfl (dT (by omega)) rfl rfl ?_ | (refine WL_r (by first | refine Run_pev rfl | refine k_add64 rfl rfl (by omega) | refine k_sub64 rfl rfl (by omega) | refine k_len rfl (Ty.isl rfl) | refine k_lens rfl (Ty.iss rfl) | refine k_not rfl | refine k_notb rfl | refine k_min rfl rfl | refine k_max rfl rfl | refine k_min3 rfl rfl rfl | refine k_max3 rfl rfl rfl | refine k_mul64 rfl rfl (by omega) | refine k_quo64 rfl rfl (by omega) | refine k_rem rfl rfl (by omega) | refine k_extract rfl rfl | apply k_makeFunc | refine k_convI rfl rfl rfl (by omega) | refine k_conv16 rfl rfl rfl (by omega) | refine k_conv64 rfl rfl rfl (by omega) | refine k_conv8 rfl rfl rfl (by omega) | refine k_convB rfl rfl rfl | refine k_convH rfl rfl rfl | refine k_convQ rfl rfl rfl | refine k_pick_f (dF (by omega)) rfl | refine k_pick_t (dT (by omega)) rfl) rfl ?_))
  refine WS_loop (G := (Nat)) (fun j => 4 - j) 2596148429267376920777100746023168 (fun j => [(65, .int .i64 j)]) (fun j w' => j ≤ 4 ∧ Ext [] w'' w') (0) ⟨rfl, trivial⟩ ⟨by omega, .refl⟩ ?_
  rintro j w' σ ⟨hj, hW⟩ IH
  show WS _ _ _ _ _ (updL [(65, .int .i64 j)] _) _
  by_cases hlt : j < 4
  · obtain ⟨ax, cx, lx, hv, hSx, hlx, hcx, hxl⟩ : ∃ ax cx, ∃ lx : List Nat, ([.slice a l.length cap, .slice a4 p.length c4, .slice ay o.length cy, .slice a3 i c9] : List Value)[j]? = some (.slice ax lx.length cx) ∧ SlA w' ax (lx.map B) ∧ Byt lx ∧ lx.length ≤ cx ∧ lx.length ≤ 1000 := by
      rcases (show j = 0 ∨ j = 1 ∨ j = 2 ∨ j = 3 by omega) with rfl | rfl | rfl | rfl
      · exact ⟨a, cap, l, rfl, hS0.ext0 hW, hl, hcap, by omega⟩
      · exact ⟨a4, c4, p, rfl, hS4.ext0 hW, hpb, hc4, by omega⟩
      · exact ⟨ay, cy, z, by rw [hzl]; rfl, hS2.ext0 hW, hzb, by omega, by omega⟩
      · exact ⟨a3, c9, g, by rw [hgl]; rfl, hS3.ext0 hW, hgb, by omega, by omega⟩
    have hSl := (hB63.ext0 hW).sl0
    have hH := Hp.start w'
    repeat (first | refine WS_seq ?_ | refine WS_region ?_ | refine WL_nil ?_ | refine WS_block ?_ | refine WS_inBlock ?_ | refine WS_skip ?_ | refine WS_label ?_ | refine WS_scope ?_ | refine WS_inScope ?_ | refine WS_exit rfl ?_ | refine WS_true rfl ?_ | refine WS_false rfl ?_ | refine WS_yes rfl (by omega) ?_ | refine WS_no rfl (by omega) ?_ | refine WL_gyes rfl rfl rfl ?_ | refine WL_gno rfl rfl rfl rfl rfl ?_ | refine WL_gund rfl rfl rfl ?_ | refine WL_gyes rfl rfl (dF (by omega)) ?_ | refine WL_gyes rfl rfl (dT (by omega)) ?_ | refine WL_gno (b := false) rfl rfl (dF (by omega)) rfl rfl ?_ | refine WL_gno (b := true) rfl rfl (dT (by omega)) rfl rfl ?_ | (refine WL_r (by first | refine k_ix1 rfl rfl hSl (by simp) (Ty.sle rfl) (by omega) | refine k_loads rfl hSl hv (Ty.shp rfl) | refine Run_pev rfl | refine k_add64 rfl rfl (by omega) | refine k_sub64 rfl rfl (by omega) | refine k_len rfl (Ty.isl rfl) | refine k_lens rfl (Ty.iss rfl) | refine k_not rfl | refine k_notb rfl | refine k_min rfl rfl | refine k_max rfl rfl | refine k_min3 rfl rfl rfl | refine k_max3 rfl rfl rfl | refine k_mul64 rfl rfl (by omega) | refine k_quo64 rfl rfl (by omega) | refine k_rem rfl rfl (by omega) | refine k_extract rfl rfl | apply k_makeFunc | refine k_convI rfl rfl rfl (by omega) | refine k_conv16 rfl rfl rfl (by omega) | refine k_conv64 rfl rfl rfl (by omega) | refine k_conv8 rfl rfl rfl (by omega) | refine k_convB rfl rfl rfl | refine k_convH rfl rfl rfl | refine k_convQ rfl rfl rfl | refine k_pick_f (dF (by omega)) rfl | refine k_pick_t (dT (by omega)) rfl) rfl ?_))
    try refine WL_gyes rfl rfl rfl ?_
    refine WL_s (S_call (stake_spec hSx hlx rfl hcx (by omega)) rfl rfl ?_)
    rintro v w8 ⟨hT, hE⟩
    replace hH := hH.ext0 hE
    clear hE hSl hv
    rcases hT with ⟨y, m, hA, rfl⟩ | ⟨_, e, he1, he2, rfl⟩
    · have hyo := hA.1
      have hye := hA.2.1
      have hcl := SH.cells_len hyo
      have hm4 := hA.four.2.1
      have hml := hA.2.2.1.le
      have hmt := hA.2.2.2
      repeat (first | refine WS_seq ?_ | refine WS_region ?_ | refine WL_nil ?_ | refine WS_block ?_ | refine WS_inBlock ?_ | refine WS_skip ?_ | refine WS_label ?_ | refine WS_scope ?_ | refine WS_inScope ?_ | refine WS_exit rfl ?_ | refine WS_true rfl ?_ | refine WS_false rfl ?_ | refine WS_yes rfl (by omega) ?_ | refine WS_no rfl (by omega) ?_ | refine WL_gyes rfl rfl rfl ?_ | refine WL_gno rfl rfl rfl rfl rfl ?_ | refine WL_gund rfl rfl rfl ?_ | refine WL_gyes rfl rfl (dF (by omega)) ?_ | refine WL_gyes rfl rfl (dT (by omega)) ?_ | refine WL_gno (b := false) rfl rfl (dF (by omega)) rfl rfl ?_ | refine WL_gno (b := true) rfl rfl (dT (by omega)) rfl rfl ?_ | (refine WL_r (by first | refine Run_pev rfl | refine k_add64 rfl rfl (by omega) | refine k_sub64 rfl rfl (by omega) | refine k_len rfl (Ty.isl rfl) | refine k_lens rfl (Ty.iss rfl) | refine k_not rfl | refine k_notb rfl | refine k_min rfl rfl | refine k_max rfl rfl | refine k_min3 rfl rfl rfl | refine k_max3 rfl rfl rfl | refine k_mul64 rfl rfl (by omega) | refine k_quo64 rfl rfl (by omega) | refine k_rem rfl rfl (by omega) | refine k_extract rfl rfl | apply k_makeFunc | refine k_convI rfl rfl rfl (by omega) | refine k_conv16 rfl rfl rfl (by omega) | refine k_conv64 rfl rfl rfl (by omega) | refine k_conv8 rfl rfl rfl (by omega) | refine k_convB rfl rfl rfl | refine k_convH rfl rfl rfl | refine k_convQ rfl rfl rfl | refine k_pick_f (dF (by omega)) rfl | refine k_pick_t (dT (by omega)) rfl) rfl ?_))
      refine WL_s (H_alloc hH (Ty.zer rfl) rfl ?_)
      try clear hH
      intro w9 b14 hH
      first | change Hp _ _ _ [] at hH | change Hp _ _ _ [_] at hH | change Hp _ _ _ [_, _] at hH | change Hp _ _ _ [_, _, _] at hH | change Hp _ _ _ [_, _, _, _] at hH | change Hp _ _ _ [_, _, _, _, _] at hH | change Hp _ _ _ [_, _, _, _, _, _] at hH | change Hp _ _ _ [_, _, _, _, _, _, _] at hH | change Hp _ _ _ [_, _, _, _, _, _, _, _] at hH | change Hp _ _ _ [_, _, _, _, _, _, _, _, _] at hH
      refine WL_s (H_storeA 0 hH rfl rfl rfl hcl rfl (cells_one y) (Ty.shp rfl) ?_)
      clear hH
      intro w10 hH
      first | change Hp _ _ _ [] at hH | change Hp _ _ _ [_] at hH | change Hp _ _ _ [_, _] at hH | change Hp _ _ _ [_, _, _] at hH | change Hp _ _ _ [_, _, _, _] at hH | change Hp _ _ _ [_, _, _, _, _] at hH | change Hp _ _ _ [_, _, _, _, _, _] at hH | change Hp _ _ _ [_, _, _, _, _, _, _] at hH | change Hp _ _ _ [_, _, _, _, _, _, _, _] at hH | change Hp _ _ _ [_, _, _, _, _, _, _, _, _] at hH
      have hB14 : Blk w10 b14 26 y.cells.toArray := hH.b 0 rfl
      repeat (first | refine WS_seq ?_ | refine WS_region ?_ | refine WL_nil ?_ | refine WS_block ?_ | refine WS_inBlock ?_ | refine WS_skip ?_ | refine WS_label ?_ | refine WS_scope ?_ | refine WS_inScope ?_ | refine WS_exit rfl ?_ | refine WS_true rfl ?_ | refine WS_false rfl ?_ | refine WS_yes rfl (by omega) ?_ | refine WS_no rfl (by omega) ?_ | refine WL_gyes rfl rfl rfl ?_ | refine WL_gno rfl rfl rfl rfl rfl ?_ | refine WL_gund rfl rfl rfl ?_ | refine WL_gyes rfl rfl (dF (by omega)) ?_ | refine WL_gyes rfl rfl (dT (by omega)) ?_ | refine WL_gno (b := false) rfl rfl (dF (by omega)) rfl rfl ?_ | refine WL_gno (b := true) rfl rfl (dT (by omega)) rfl rfl ?_ | (refine WL_r (by first | refine k_loadA rfl hB14 hcl (Ty.shp rfl) | refine Run_pev rfl | refine k_add64 rfl rfl (by omega) | refine k_sub64 rfl rfl (by omega) | refine k_len rfl (Ty.isl rfl) | refine k_lens rfl (Ty.iss rfl) | refine k_not rfl | refine k_notb rfl | refine k_min rfl rfl | refine k_max rfl rfl | refine k_min3 rfl rfl rfl | refine k_max3 rfl rfl rfl | refine k_mul64 rfl rfl (by omega) | refine k_quo64 rfl rfl (by omega) | refine k_rem rfl rfl (by omega) | refine k_extract rfl rfl | apply k_makeFunc | refine k_convI rfl rfl rfl (by omega) | refine k_conv16 rfl rfl rfl (by omega) | refine k_conv64 rfl rfl rfl (by omega) | refine k_conv8 rfl rfl rfl (by omega) | refine k_convB rfl rfl rfl | refine k_convH rfl rfl rfl | refine k_convQ rfl rfl rfl | refine k_pick_f (dF (by omega)) rfl | refine k_pick_t (dT (by omega)) rfl) rfl ?_))
      try refine WL_gyes rfl rfl rfl ?_
      refine WL_s (S_call (hput_spec hyo hye) rfl rfl ?_)
      rintro v w11 ⟨a17, c17, rfl, hN⟩
      replace hH := hH.nu hN
      clear hN hB14
      first | change Hp _ _ _ [] at hH | change Hp _ _ _ [_] at hH | change Hp _ _ _ [_, _] at hH | change Hp _ _ _ [_, _, _] at hH | change Hp _ _ _ [_, _, _, _] at hH | change Hp _ _ _ [_, _, _, _, _] at hH | change Hp _ _ _ [_, _, _, _, _, _] at hH | change Hp _ _ _ [_, _, _, _, _, _, _] at hH | change Hp _ _ _ [_, _, _, _, _, _, _, _] at hH | change Hp _ _ _ [_, _, _, _, _, _, _, _, _] at hH
      have hS17 : SlA w11 a17 (y.out.map B) := (hH.o 1 rfl).sl
      have hSt : SlA w11 (if cx = 0 then ax else ax.map (·.add 0)) (y.out.map B) := by
        rw [← hmt, List.map_take]
        exact take_cells (hH.old hSx) hml hcx
      have hyb := SH.out_byt y
      have hyl : y.out.length = m := by rw [← hmt]; simp; omega
      repeat (first | refine WS_seq ?_ | refine WS_region ?_ | refine WL_nil ?_ | refine WS_block ?_ | refine WS_inBlock ?_ | refine WS_skip ?_ | refine WS_label ?_ | refine WS_scope ?_ | refine WS_inScope ?_ | refine WS_exit rfl ?_ | refine WS_true rfl ?_ | refine WS_false rfl ?_ | refine WS_yes rfl (by omega) ?_ | refine WS_no rfl (by omega) ?_ | refine WL_gyes rfl rfl rfl ?_ | refine WL_gno rfl rfl rfl rfl rfl ?_ | refine WL_gund rfl rfl rfl ?_ | refine WL_gyes rfl rfl (dF (by omega)) ?_ | refine WL_gyes rfl rfl (dT (by omega)) ?_ | refine WL_gno (b := false) rfl rfl (dF (by omega)) rfl rfl ?_ | refine WL_gno (b := true) rfl rfl (dT (by omega)) rfl rfl ?_ | (refine WL_r (by first | refine Run_pev rfl | refine k_add64 rfl rfl (by omega) | refine k_sub64 rfl rfl (by omega) | refine k_len rfl (Ty.isl rfl) | refine k_lens rfl (Ty.iss rfl) | refine k_not rfl | refine k_notb rfl | refine k_min rfl rfl | refine k_max rfl rfl | refine k_min3 rfl rfl rfl | refine k_max3 rfl rfl rfl | refine k_mul64 rfl rfl (by omega) | refine k_quo64 rfl rfl (by omega) | refine k_rem rfl rfl (by omega) | refine k_extract rfl rfl | apply k_makeFunc | refine k_convI rfl rfl rfl (by omega) | refine k_conv16 rfl rfl rfl (by omega) | refine k_conv64 rfl rfl rfl (by omega) | refine k_conv8 rfl rfl rfl (by omega) | refine k_convB rfl rfl rfl | refine k_convH rfl rfl rfl | refine k_convQ rfl rfl rfl | refine k_pick_f (dF (by omega)) rfl | refine k_pick_t (dT (by omega)) rfl) rfl ?_))
      refine WS_drawE Ty.mixed 21 rfl (fun w1 hx1 => ?_)
      refine WA_take 0 rfl (by kernel_rfl) hx1 rfl rfl (fun w' hw' => by first | refine Run_pev rfl) ?_
      refine WA_take 1 rfl (by kernel_rfl) hx1 rfl rfl (fun w' hw' => by first | refine (k_neqs rfl rfl hyb hyb).is (bF (by simp)) | refine Run_pev rfl) ?_
      refine WA_take 2 rfl (by kernel_rfl) hx1 rfl rfl (fun w' hw' => by first | refine Run_pev rfl) ?_
      first | refine WA_takey 3 rfl (by kernel_rfl) hx1 rfl rfl rfl rfl rfl (fun w' hw' => by first | refine Run_pev rfl) ?_ | refine WA_takey 3 rfl (by kernel_rfl) hx1 rfl rfl rfl (dF (by omega)) rfl (fun w' hw' => by first | refine Run_pev rfl) ?_ | refine WA_takey 3 rfl (by kernel_rfl) hx1 rfl rfl rfl (dT (by omega)) rfl (fun w' hw' => by first | refine Run_pev rfl) ?_ | refine WA_taken (b := false) 3 rfl (by kernel_rfl) hx1 rfl rfl rfl rfl rfl rfl ?_ | refine WA_taken (b := true) 3 rfl (by kernel_rfl) hx1 rfl rfl rfl rfl rfl rfl ?_ | refine WA_taken (b := false) 3 rfl (by kernel_rfl) hx1 rfl rfl rfl (dF (by omega)) rfl rfl ?_ | refine WA_taken (b := true) 3 rfl (by kernel_rfl) hx1 rfl rfl rfl (dT (by omega)) rfl rfl ?_ | refine WA_takeu 3 rfl (by kernel_rfl) hx1 rfl rfl rfl rfl ?_
      first | refine WA_takey 4 rfl (by kernel_rfl) hx1 rfl rfl rfl rfl rfl (fun w' hw' => by first | refine Run_pev rfl) ?_ | refine WA_takey 4 rfl (by kernel_rfl) hx1 rfl rfl rfl (dF (by omega)) rfl (fun w' hw' => by first | refine Run_pev rfl) ?_ | refine WA_takey 4 rfl (by kernel_rfl) hx1 rfl rfl rfl (dT (by omega)) rfl (fun w' hw' => by first | refine Run_pev rfl) ?_ | refine WA_taken (b := false) 4 rfl (by kernel_rfl) hx1 rfl rfl rfl rfl rfl rfl ?_ | refine WA_taken (b := true) 4 rfl (by kernel_rfl) hx1 rfl rfl rfl rfl rfl rfl ?_ | refine WA_taken (b := false) 4 rfl (by kernel_rfl) hx1 rfl rfl rfl (dF (by omega)) rfl rfl ?_ | refine WA_taken (b := true) 4 rfl (by kernel_rfl) hx1 rfl rfl rfl (dT (by omega)) rfl rfl ?_ | refine WA_takeu 4 rfl (by kernel_rfl) hx1 rfl rfl rfl rfl ?_
      refine WA_take 5 rfl (by kernel_rfl) hx1 rfl rfl (fun w' hw' => by first | refine Run_pev rfl | refine k_pick_f (dF (by omega)) rfl | refine k_pick_t (dT (by omega)) rfl) ?_
      refine WA_take 6 rfl (by kernel_rfl) hx1 rfl rfl (fun w' hw' => by first | refine Run_pev rfl) ?_
      first | refine WA_takey 7 rfl (by kernel_rfl) hx1 rfl rfl rfl rfl rfl (fun w' hw' => by first | refine Run_pev rfl) ?_ | refine WA_takey 7 rfl (by kernel_rfl) hx1 rfl rfl rfl (dF (by omega)) rfl (fun w' hw' => by first | refine Run_pev rfl) ?_ | refine WA_takey 7 rfl (by kernel_rfl) hx1 rfl rfl rfl (dT (by omega)) rfl (fun w' hw' => by first | refine Run_pev rfl) ?_ | refine WA_taken (b := false) 7 rfl (by kernel_rfl) hx1 rfl rfl rfl rfl rfl rfl ?_ | refine WA_taken (b := true) 7 rfl (by kernel_rfl) hx1 rfl rfl rfl rfl rfl rfl ?_ | refine WA_taken (b := false) 7 rfl (by kernel_rfl) hx1 rfl rfl rfl (dF (by omega)) rfl rfl ?_ | refine WA_taken (b := true) 7 rfl (by kernel_rfl) hx1 rfl rfl rfl (dT (by omega)) rfl rfl ?_ | refine WA_takeu 7 rfl (by kernel_rfl) hx1 rfl rfl rfl rfl ?_
      first | refine WA_takey 8 rfl (by kernel_rfl) hx1 rfl rfl rfl rfl rfl (fun w' hw' => by first | refine Run_pev rfl) ?_ | refine WA_takey 8 rfl (by kernel_rfl) hx1 rfl rfl rfl (dF (by omega)) rfl (fun w' hw' => by first | refine Run_pev rfl) ?_ | refine WA_takey 8 rfl (by kernel_rfl) hx1 rfl rfl rfl (dT (by omega)) rfl (fun w' hw' => by first | refine Run_pev rfl) ?_ | refine WA_taken (b := false) 8 rfl (by kernel_rfl) hx1 rfl rfl rfl rfl rfl rfl ?_ | refine WA_taken (b := true) 8 rfl (by kernel_rfl) hx1 rfl rfl rfl rfl rfl rfl ?_ | refine WA_taken (b := false) 8 rfl (by kernel_rfl) hx1 rfl rfl rfl (dF (by omega)) rfl rfl ?_ | refine WA_taken (b := true) 8 rfl (by kernel_rfl) hx1 rfl rfl rfl (dT (by omega)) rfl rfl ?_ | refine WA_takeu 8 rfl (by kernel_rfl) hx1 rfl rfl rfl rfl ?_
      first | refine WA_takey 9 rfl (by kernel_rfl) hx1 rfl rfl rfl rfl rfl (fun w' hw' => by first | refine k_len rfl (Ty.isl rfl) | refine k_lens rfl (Ty.iss rfl)) ?_ | refine WA_takey 9 rfl (by kernel_rfl) hx1 rfl rfl rfl (dF (by omega)) rfl (fun w' hw' => by first | refine k_len rfl (Ty.isl rfl) | refine k_lens rfl (Ty.iss rfl)) ?_ | refine WA_takey 9 rfl (by kernel_rfl) hx1 rfl rfl rfl (dT (by omega)) rfl (fun w' hw' => by first | refine k_len rfl (Ty.isl rfl) | refine k_lens rfl (Ty.iss rfl)) ?_ | refine WA_taken (b := false) 9 rfl (by kernel_rfl) hx1 rfl rfl rfl rfl rfl rfl ?_ | refine WA_taken (b := true) 9 rfl (by kernel_rfl) hx1 rfl rfl rfl rfl rfl rfl ?_ | refine WA_taken (b := false) 9 rfl (by kernel_rfl) hx1 rfl rfl rfl (dF (by omega)) rfl rfl ?_ | refine WA_taken (b := true) 9 rfl (by kernel_rfl) hx1 rfl rfl rfl (dT (by omega)) rfl rfl ?_ | refine WA_takeu 9 rfl (by kernel_rfl) hx1 rfl rfl rfl rfl ?_
      first | refine WA_takey 10 rfl (by kernel_rfl) hx1 rfl rfl rfl rfl rfl (fun w' hw' => by first | refine Run_pev rfl) ?_ | refine WA_takey 10 rfl (by kernel_rfl) hx1 rfl rfl rfl (dF (by omega)) rfl (fun w' hw' => by first | refine Run_pev rfl) ?_ | refine WA_takey 10 rfl (by kernel_rfl) hx1 rfl rfl rfl (dT (by omega)) rfl (fun w' hw' => by first | refine Run_pev rfl) ?_ | refine WA_taken (b := false) 10 rfl (by kernel_rfl) hx1 rfl rfl rfl rfl rfl rfl ?_ | refine WA_taken (b := true) 10 rfl (by kernel_rfl) hx1 rfl rfl rfl rfl rfl rfl ?_ | refine WA_taken (b := false) 10 rfl (by kernel_rfl) hx1 rfl rfl rfl (dF (by omega)) rfl rfl ?_ | refine WA_taken (b := true) 10 rfl (by kernel_rfl) hx1 rfl rfl rfl (dT (by omega)) rfl rfl ?_ | refine WA_takeu 10 rfl (by kernel_rfl) hx1 rfl rfl rfl rfl ?_
      refine WA_take 11 rfl (by kernel_rfl) hx1 rfl rfl (fun w' hw' => by first | refine Run_pev rfl | refine k_pick_f (dF (by omega)) rfl | refine k_pick_t (dT (by omega)) rfl) ?_
      refine WA_take 12 rfl (by kernel_rfl) hx1 rfl rfl (fun w' hw' => by first | refine Run_pev rfl) ?_
      first | refine WA_takey 13 rfl (by kernel_rfl) hx1 rfl rfl rfl rfl rfl (fun w' hw' => by first | refine Run_pev rfl) ?_ | refine WA_takey 13 rfl (by kernel_rfl) hx1 rfl rfl rfl (dF (by omega)) rfl (fun w' hw' => by first | refine Run_pev rfl) ?_ | refine WA_takey 13 rfl (by kernel_rfl) hx1 rfl rfl rfl (dT (by omega)) rfl (fun w' hw' => by first | refine Run_pev rfl) ?_ | refine WA_taken (b := false) 13 rfl (by kernel_rfl) hx1 rfl rfl rfl rfl rfl rfl ?_ | refine WA_taken (b := true) 13 rfl (by kernel_rfl) hx1 rfl rfl rfl rfl rfl rfl ?_ | refine WA_taken (b := false) 13 rfl (by kernel_rfl) hx1 rfl rfl rfl (dF (by omega)) rfl rfl ?_ | refine WA_taken (b := true) 13 rfl (by kernel_rfl) hx1 rfl rfl rfl (dT (by omega)) rfl rfl ?_ | refine WA_takeu 13 rfl (by kernel_rfl) hx1 rfl rfl rfl rfl ?_
      first | refine WA_takey 14 rfl (by kernel_rfl) hx1 rfl rfl rfl rfl rfl (fun w' hw' => by first | refine k_str rfl (hS17.ext0 hw') (Ty.sle rfl) (Ty.knd rfl) (Ty.iss rfl) | refine k_strN rfl hyl (hSt.ext0 hw') (Ty.sle rfl) (Ty.knd rfl) (Ty.iss rfl) | refine k_convI rfl rfl rfl (by omega) | refine k_conv16 rfl rfl rfl (by omega) | refine k_conv64 rfl rfl rfl (by omega) | refine k_conv8 rfl rfl rfl (by omega) | refine k_convB rfl rfl rfl | refine k_convH rfl rfl rfl | refine k_convQ rfl rfl rfl) ?_ | refine WA_takey 14 rfl (by kernel_rfl) hx1 rfl rfl rfl (dF (by omega)) rfl (fun w' hw' => by first | refine k_str rfl (hS17.ext0 hw') (Ty.sle rfl) (Ty.knd rfl) (Ty.iss rfl) | refine k_strN rfl hyl (hSt.ext0 hw') (Ty.sle rfl) (Ty.knd rfl) (Ty.iss rfl) | refine k_convI rfl rfl rfl (by omega) | refine k_conv16 rfl rfl rfl (by omega) | refine k_conv64 rfl rfl rfl (by omega) | refine k_conv8 rfl rfl rfl (by omega) | refine k_convB rfl rfl rfl | refine k_convH rfl rfl rfl | refine k_convQ rfl rfl rfl) ?_ | refine WA_takey 14 rfl (by kernel_rfl) hx1 rfl rfl rfl (dT (by omega)) rfl (fun w' hw' => by first | refine k_str rfl (hS17.ext0 hw') (Ty.sle rfl) (Ty.knd rfl) (Ty.iss rfl) | refine k_strN rfl hyl (hSt.ext0 hw') (Ty.sle rfl) (Ty.knd rfl) (Ty.iss rfl) | refine k_convI rfl rfl rfl (by omega) | refine k_conv16 rfl rfl rfl (by omega) | refine k_conv64 rfl rfl rfl (by omega) | refine k_conv8 rfl rfl rfl (by omega) | refine k_convB rfl rfl rfl | refine k_convH rfl rfl rfl | refine k_convQ rfl rfl rfl) ?_ | refine WA_taken (b := false) 14 rfl (by kernel_rfl) hx1 rfl rfl rfl rfl rfl rfl ?_ | refine WA_taken (b := true) 14 rfl (by kernel_rfl) hx1 rfl rfl rfl rfl rfl rfl ?_ | refine WA_taken (b := false) 14 rfl (by kernel_rfl) hx1 rfl rfl rfl (dF (by omega)) rfl rfl ?_ | refine WA_taken (b := true) 14 rfl (by kernel_rfl) hx1 rfl rfl rfl (dT (by omega)) rfl rfl ?_ | refine WA_takeu 14 rfl (by kernel_rfl) hx1 rfl rfl rfl rfl ?_
      first | refine WA_takey 15 rfl (by kernel_rfl) hx1 rfl rfl rfl rfl rfl (fun w' hw' => by first | refine Run_pev rfl) ?_ | refine WA_takey 15 rfl (by kernel_rfl) hx1 rfl rfl rfl (dF (by omega)) rfl (fun w' hw' => by first | refine Run_pev rfl) ?_ | refine WA_takey 15 rfl (by kernel_rfl) hx1 rfl rfl rfl (dT (by omega)) rfl (fun w' hw' => by first | refine Run_pev rfl) ?_ | refine WA_taken (b := false) 15 rfl (by kernel_rfl) hx1 rfl rfl rfl rfl rfl rfl ?_ | refine WA_taken (b := true) 15 rfl (by kernel_rfl) hx1 rfl rfl rfl rfl rfl rfl ?_ | refine WA_taken (b := false) 15 rfl (by kernel_rfl) hx1 rfl rfl rfl (dF (by omega)) rfl rfl ?_ | refine WA_taken (b := true) 15 rfl (by kernel_rfl) hx1 rfl rfl rfl (dT (by omega)) rfl rfl ?_ | refine WA_takeu 15 rfl (by kernel_rfl) hx1 rfl rfl rfl rfl ?_
      first | refine WA_takey 16 rfl (by kernel_rfl) hx1 rfl rfl rfl rfl rfl (fun w' hw' => by first | refine Run_pev rfl) ?_ | refine WA_takey 16 rfl (by kernel_rfl) hx1 rfl rfl rfl (dF (by omega)) rfl (fun w' hw' => by first | refine Run_pev rfl) ?_ | refine WA_takey 16 rfl (by kernel_rfl) hx1 rfl rfl rfl (dT (by omega)) rfl (fun w' hw' => by first | refine Run_pev rfl) ?_ | refine WA_taken (b := false) 16 rfl (by kernel_rfl) hx1 rfl rfl rfl rfl rfl rfl ?_ | refine WA_taken (b := true) 16 rfl (by kernel_rfl) hx1 rfl rfl rfl rfl rfl rfl ?_ | refine WA_taken (b := false) 16 rfl (by kernel_rfl) hx1 rfl rfl rfl (dF (by omega)) rfl rfl ?_ | refine WA_taken (b := true) 16 rfl (by kernel_rfl) hx1 rfl rfl rfl (dT (by omega)) rfl rfl ?_ | refine WA_takeu 16 rfl (by kernel_rfl) hx1 rfl rfl rfl rfl ?_
      first | refine WA_takey 17 rfl (by kernel_rfl) hx1 rfl rfl rfl rfl rfl (fun w' hw' => by first | refine k_slchN (h := m) rfl rfl (Ty.sle rfl) (by omega)) ?_ | refine WA_takey 17 rfl (by kernel_rfl) hx1 rfl rfl rfl (dF (by omega)) rfl (fun w' hw' => by first | refine k_slchN (h := m) rfl rfl (Ty.sle rfl) (by omega)) ?_ | refine WA_takey 17 rfl (by kernel_rfl) hx1 rfl rfl rfl (dT (by omega)) rfl (fun w' hw' => by first | refine k_slchN (h := m) rfl rfl (Ty.sle rfl) (by omega)) ?_ | refine WA_taken (b := false) 17 rfl (by kernel_rfl) hx1 rfl rfl rfl rfl rfl rfl ?_ | refine WA_taken (b := true) 17 rfl (by kernel_rfl) hx1 rfl rfl rfl rfl rfl rfl ?_ | refine WA_taken (b := false) 17 rfl (by kernel_rfl) hx1 rfl rfl rfl (dF (by omega)) rfl rfl ?_ | refine WA_taken (b := true) 17 rfl (by kernel_rfl) hx1 rfl rfl rfl (dT (by omega)) rfl rfl ?_ | refine WA_takeu 17 rfl (by kernel_rfl) hx1 rfl rfl rfl rfl ?_
      first | refine WA_takey 18 rfl (by kernel_rfl) hx1 rfl rfl rfl rfl rfl (fun w' hw' => by first | refine k_str rfl (hS17.ext0 hw') (Ty.sle rfl) (Ty.knd rfl) (Ty.iss rfl) | refine k_strN rfl hyl (hSt.ext0 hw') (Ty.sle rfl) (Ty.knd rfl) (Ty.iss rfl) | refine k_convI rfl rfl rfl (by omega) | refine k_conv16 rfl rfl rfl (by omega) | refine k_conv64 rfl rfl rfl (by omega) | refine k_conv8 rfl rfl rfl (by omega) | refine k_convB rfl rfl rfl | refine k_convH rfl rfl rfl | refine k_convQ rfl rfl rfl) ?_ | refine WA_takey 18 rfl (by kernel_rfl) hx1 rfl rfl rfl (dF (by omega)) rfl (fun w' hw' => by first | refine k_str rfl (hS17.ext0 hw') (Ty.sle rfl) (Ty.knd rfl) (Ty.iss rfl) | refine k_strN rfl hyl (hSt.ext0 hw') (Ty.sle rfl) (Ty.knd rfl) (Ty.iss rfl) | refine k_convI rfl rfl rfl (by omega) | refine k_conv16 rfl rfl rfl (by omega) | refine k_conv64 rfl rfl rfl (by omega) | refine k_conv8 rfl rfl rfl (by omega) | refine k_convB rfl rfl rfl | refine k_convH rfl rfl rfl | refine k_convQ rfl rfl rfl) ?_ | refine WA_takey 18 rfl (by kernel_rfl) hx1 rfl rfl rfl (dT (by omega)) rfl (fun w' hw' => by first | refine k_str rfl (hS17.ext0 hw') (Ty.sle rfl) (Ty.knd rfl) (Ty.iss rfl) | refine k_strN rfl hyl (hSt.ext0 hw') (Ty.sle rfl) (Ty.knd rfl) (Ty.iss rfl) | refine k_convI rfl rfl rfl (by omega) | refine k_conv16 rfl rfl rfl (by omega) | refine k_conv64 rfl rfl rfl (by omega) | refine k_conv8 rfl rfl rfl (by omega) | refine k_convB rfl rfl rfl | refine k_convH rfl rfl rfl | refine k_convQ rfl rfl rfl) ?_ | refine WA_taken (b := false) 18 rfl (by kernel_rfl) hx1 rfl rfl rfl rfl rfl rfl ?_ | refine WA_taken (b := true) 18 rfl (by kernel_rfl) hx1 rfl rfl rfl rfl rfl rfl ?_ | refine WA_taken (b := false) 18 rfl (by kernel_rfl) hx1 rfl rfl rfl (dF (by omega)) rfl rfl ?_ | refine WA_taken (b := true) 18 rfl (by kernel_rfl) hx1 rfl rfl rfl (dT (by omega)) rfl rfl ?_ | refine WA_takeu 18 rfl (by kernel_rfl) hx1 rfl rfl rfl rfl ?_
      first | refine WA_takey 19 rfl (by kernel_rfl) hx1 rfl rfl rfl rfl rfl (fun w' hw' => by first | refine (k_neqs rfl rfl hyb hyb).is (bF (by simp)) | refine Run_pev rfl) ?_ | refine WA_takey 19 rfl (by kernel_rfl) hx1 rfl rfl rfl (dF (by omega)) rfl (fun w' hw' => by first | refine (k_neqs rfl rfl hyb hyb).is (bF (by simp)) | refine Run_pev rfl) ?_ | refine WA_takey 19 rfl (by kernel_rfl) hx1 rfl rfl rfl (dT (by omega)) rfl (fun w' hw' => by first | refine (k_neqs rfl rfl hyb hyb).is (bF (by simp)) | refine Run_pev rfl) ?_ | refine WA_taken (b := false) 19 rfl (by kernel_rfl) hx1 rfl rfl rfl rfl rfl rfl ?_ | refine WA_taken (b := true) 19 rfl (by kernel_rfl) hx1 rfl rfl rfl rfl rfl rfl ?_ | refine WA_taken (b := false) 19 rfl (by kernel_rfl) hx1 rfl rfl rfl (dF (by omega)) rfl rfl ?_ | refine WA_taken (b := true) 19 rfl (by kernel_rfl) hx1 rfl rfl rfl (dT (by omega)) rfl rfl ?_ | refine WA_takeu 19 rfl (by kernel_rfl) hx1 rfl rfl rfl rfl ?_
      refine WA_take 20 rfl (by kernel_rfl) hx1 rfl rfl (fun w' hw' => by first | refine Run_pev rfl | refine k_pick_f (dF (by omega)) rfl | refine k_pick_t (dT (by omega)) rfl) ?_
      refine WA_done (by kernel_rfl) ?_
      replace hH := hH.ext0 hx1
      repeat (first | refine WS_seq ?_ | refine WS_region ?_ | refine WL_nil ?_ | refine WS_block ?_ | refine WS_inBlock ?_ | refine WS_skip ?_ | refine WS_label ?_ | refine WS_scope ?_ | refine WS_inScope ?_ | refine WS_exit rfl ?_ | refine WS_true rfl ?_ | refine WS_false rfl ?_ | refine WS_yes rfl (by omega) ?_ | refine WS_no rfl (by omega) ?_ | refine WL_gyes rfl rfl rfl ?_ | refine WL_gno rfl rfl rfl rfl rfl ?_ | refine WL_gund rfl rfl rfl ?_ | refine WL_gyes rfl rfl (dF (by omega)) ?_ | refine WL_gyes rfl rfl (dT (by omega)) ?_ | refine WL_gno (b := false) rfl rfl (dF (by omega)) rfl rfl ?_ | refine WL_gno (b := true) rfl rfl (dT (by omega)) rfl rfl ?_ | (refine WL_r (by first | refine Run_pev rfl | refine k_add64 rfl rfl (by omega) | refine k_sub64 rfl rfl (by omega) | refine k_len rfl (Ty.isl rfl) | refine k_lens rfl (Ty.iss rfl) | refine k_not rfl | refine k_notb rfl | refine k_min rfl rfl | refine k_max rfl rfl | refine k_min3 rfl rfl rfl | refine k_max3 rfl rfl rfl | refine k_mul64 rfl rfl (by omega) | refine k_quo64 rfl rfl (by omega) | refine k_rem rfl rfl (by omega) | refine k_extract rfl rfl | apply k_makeFunc | refine k_convI rfl rfl rfl (by omega) | refine k_conv16 rfl rfl rfl (by omega) | refine k_conv64 rfl rfl rfl (by omega) | refine k_conv8 rfl rfl rfl (by omega) | refine k_convB rfl rfl rfl | refine k_convH rfl rfl rfl | refine k_convQ rfl rfl rfl | refine k_pick_f (dF (by omega)) rfl | refine k_pick_t (dT (by omega)) rfl) rfl ?_))
      refine IH (j + 1) _ _ ?_ ?_ ?_ ?_
      · omega
      · exact ⟨rfl, trivial⟩
      · exact (by repeat (first | with_reducible apply Agr.refl | refine Agr.upd rfl ?_ | refine Agr.updo rfl ?_ | refine Agr.updL rfl ?_ | refine Agr.mrg rfl ?_ | exact Agr.refl | refine Agr.updn ?_))
      · exact ⟨by omega, hW.then0 hH.ext⟩
    · repeat (first | refine WS_seq ?_ | refine WS_region ?_ | refine WL_nil ?_ | refine WS_block ?_ | refine WS_inBlock ?_ | refine WS_skip ?_ | refine WS_label ?_ | refine WS_scope ?_ | refine WS_inScope ?_ | refine WS_exit rfl ?_ | refine WS_true rfl ?_ | refine WS_false rfl ?_ | refine WS_yes rfl (by omega) ?_ | refine WS_no rfl (by omega) ?_ | refine WL_gyes rfl rfl rfl ?_ | refine WL_gno rfl rfl rfl rfl rfl ?_ | refine WL_gund rfl rfl rfl ?_ | refine WL_gyes rfl rfl (dF (by omega)) ?_ | refine WL_gyes rfl rfl (dT (by omega)) ?_ | refine WL_gno (b := false) rfl rfl (dF (by omega)) rfl rfl ?_ | refine WL_gno (b := true) rfl rfl (dT (by omega)) rfl rfl ?_ | (refine WL_r (by first | refine Run_pev rfl | refine k_add64 rfl rfl (by omega) | refine k_sub64 rfl rfl (by omega) | refine k_len rfl (Ty.isl rfl) | refine k_lens rfl (Ty.iss rfl) | refine k_not rfl | refine k_notb rfl | refine k_min rfl rfl | refine k_max rfl rfl | refine k_min3 rfl rfl rfl | refine k_max3 rfl rfl rfl | refine k_mul64 rfl rfl (by omega) | refine k_quo64 rfl rfl (by omega) | refine k_rem rfl rfl (by omega) | refine k_extract rfl rfl | apply k_makeFunc | refine k_convI rfl rfl rfl (by omega) | refine k_conv16 rfl rfl rfl (by omega) | refine k_conv64 rfl rfl rfl (by omega) | refine k_conv8 rfl rfl rfl (by omega) | refine k_convB rfl rfl rfl | refine k_convH rfl rfl rfl | refine k_convQ rfl rfl rfl | refine k_pick_f (dF (by omega)) rfl | refine k_pick_t (dT (by omega)) rfl) rfl ?_))
      refine WL_s (H_alloc hH (Ty.zer rfl) rfl ?_)
      try clear hH
      intro w9 b14 hH
      first | change Hp _ _ _ [] at hH | change Hp _ _ _ [_] at hH | change Hp _ _ _ [_, _] at hH | change Hp _ _ _ [_, _, _] at hH | change Hp _ _ _ [_, _, _, _] at hH | change Hp _ _ _ [_, _, _, _, _] at hH | change Hp _ _ _ [_, _, _, _, _, _] at hH | change Hp _ _ _ [_, _, _, _, _, _, _] at hH | change Hp _ _ _ [_, _, _, _, _, _, _, _] at hH | change Hp _ _ _ [_, _, _, _, _, _, _, _, _] at hH
      refine WL_s (H_storeA 0 hH rfl rfl rfl rfl rfl (cells_one SH.zero) (Ty.shp rfl) ?_)
      clear hH
      intro w10 hH
      first | change Hp _ _ _ [] at hH | change Hp _ _ _ [_] at hH | change Hp _ _ _ [_, _] at hH | change Hp _ _ _ [_, _, _] at hH | change Hp _ _ _ [_, _, _, _] at hH | change Hp _ _ _ [_, _, _, _, _] at hH | change Hp _ _ _ [_, _, _, _, _, _] at hH | change Hp _ _ _ [_, _, _, _, _, _, _] at hH | change Hp _ _ _ [_, _, _, _, _, _, _, _] at hH | change Hp _ _ _ [_, _, _, _, _, _, _, _, _] at hH
      have hB14 : Blk w10 b14 26 SH.zero.cells.toArray := hH.b 0 rfl
      have hfz := fits_seqh SH.zero_ok
      have haz := all2_seqh SH.zero_ok SH.zero_ok True ⟨fun _ => trivial, fun _ => rfl⟩
      repeat (first | refine WS_seq ?_ | refine WS_region ?_ | refine WL_nil ?_ | refine WS_block ?_ | refine WS_inBlock ?_ | refine WS_skip ?_ | refine WS_label ?_ | refine WS_scope ?_ | refine WS_inScope ?_ | refine WS_exit rfl ?_ | refine WS_true rfl ?_ | refine WS_false rfl ?_ | refine WS_yes rfl (by omega) ?_ | refine WS_no rfl (by omega) ?_ | refine WL_gyes rfl rfl rfl ?_ | refine WL_gno rfl rfl rfl rfl rfl ?_ | refine WL_gund rfl rfl rfl ?_ | refine WL_gyes rfl rfl (dF (by omega)) ?_ | refine WL_gyes rfl rfl (dT (by omega)) ?_ | refine WL_gno (b := false) rfl rfl (dF (by omega)) rfl rfl ?_ | refine WL_gno (b := true) rfl rfl (dT (by omega)) rfl rfl ?_ | (refine WL_r (by first | refine (k_neq rfl rfl).is (bT (by omega)) | refine k_loadA rfl hB14 rfl (Ty.shp rfl) | refine k_buildS (cs := SH.zero.cells) (Ty.zer rfl) (Ty.plc rfl) rfl | refine (k_neqC rfl rfl (Ty.eqv SHK_eq) hfz hfz haz).is (v' := .bool false) rfl | refine Run_pev rfl | refine k_add64 rfl rfl (by omega) | refine k_sub64 rfl rfl (by omega) | refine k_len rfl (Ty.isl rfl) | refine k_lens rfl (Ty.iss rfl) | refine k_not rfl | refine k_notb rfl | refine k_min rfl rfl | refine k_max rfl rfl | refine k_min3 rfl rfl rfl | refine k_max3 rfl rfl rfl | refine k_mul64 rfl rfl (by omega) | refine k_quo64 rfl rfl (by omega) | refine k_rem rfl rfl (by omega) | refine k_extract rfl rfl | apply k_makeFunc | refine k_convI rfl rfl rfl (by omega) | refine k_conv16 rfl rfl rfl (by omega) | refine k_conv64 rfl rfl rfl (by omega) | refine k_conv8 rfl rfl rfl (by omega) | refine k_convB rfl rfl rfl | refine k_convH rfl rfl rfl | refine k_convQ rfl rfl rfl | refine k_pick_f (dF (by omega)) rfl | refine k_pick_t (dT (by omega)) rfl) rfl ?_))
      refine IH (j + 1) _ _ ?_ ?_ ?_ ?_
      · omega
      · exact ⟨rfl, trivial⟩
      · exact (by repeat (first | with_reducible apply Agr.refl | refine Agr.upd rfl ?_ | refine Agr.updo rfl ?_ | refine Agr.updL rfl ?_ | refine Agr.mrg rfl ?_ | exact Agr.refl | refine Agr.updn ?_))
      · exact ⟨by omega, hW.then0 hH.ext⟩
  · clear IH
    have hH := Hp.start w'
    repeat (first | refine WS_seq ?_ | refine WS_region ?_ | refine WL_nil ?_ | refine WS_block ?_ | refine WS_inBlock ?_ | refine WS_skip ?_ | refine WS_label ?_ | refine WS_scope ?_ | refine WS_inScope ?_ | refine WS_exit rfl ?_ | refine WS_true rfl ?_ | refine WS_false rfl ?_ | refine WS_yes rfl (by omega) ?_ | refine WS_no rfl (by omega) ?_ | refine WL_gyes rfl rfl rfl ?_ | refine WL_gno rfl rfl rfl rfl rfl ?_ | refine WL_gund rfl rfl rfl ?_ | refine WL_gyes rfl rfl (dF (by omega)) ?_ | refine WL_gyes rfl rfl (dT (by omega)) ?_ | refine WL_gno (b := false) rfl rfl (dF (by omega)) rfl rfl ?_ | refine WL_gno (b := true) rfl rfl (dT (by omega)) rfl rfl ?_ | (refine WL_r (by first | refine Run_pev rfl | refine k_add64 rfl rfl (by omega) | refine k_sub64 rfl rfl (by omega) | refine k_len rfl (Ty.isl rfl) | refine k_lens rfl (Ty.iss rfl) | refine k_not rfl | refine k_notb rfl | refine k_min rfl rfl | refine k_max rfl rfl | refine k_min3 rfl rfl rfl | refine k_max3 rfl rfl rfl | refine k_mul64 rfl rfl (by omega) | refine k_quo64 rfl rfl (by omega) | refine k_rem rfl rfl (by omega) | refine k_extract rfl rfl | apply k_makeFunc | refine k_convI rfl rfl rfl (by omega) | refine k_conv16 rfl rfl rfl (by omega) | refine k_conv64 rfl rfl rfl (by omega) | refine k_conv8 rfl rfl rfl (by omega) | refine k_convB rfl rfl rfl | refine k_convH rfl rfl rfl | refine k_convQ rfl rfl rfl | refine k_pick_f (dF (by omega)) rfl | refine k_pick_t (dT (by omega)) rfl) rfl ?_))
    try refine WL_gyes rfl rfl rfl ?_
    refine WL_s (S_call (stake_spec (hS2.ext0 hW) hzb hzl (by omega) (by omega)) rfl rfl ?_)
    rintro v w8 ⟨hT, hE⟩
    replace hH := hH.ext0 hE
    clear hE
    obtain ⟨e, he1, he2, rfl⟩ := hT.bad hno
    repeat (first | refine WS_seq ?_ | refine WS_region ?_ | refine WL_nil ?_ | refine WS_block ?_ | refine WS_inBlock ?_ | refine WS_skip ?_ | refine WS_label ?_ | refine WS_scope ?_ | refine WS_inScope ?_ | refine WS_exit rfl ?_ | refine WS_true rfl ?_ | refine WS_false rfl ?_ | refine WS_yes rfl (by omega) ?_ | refine WS_no rfl (by omega) ?_ | refine WL_gyes rfl rfl rfl ?_ | refine WL_gno rfl rfl rfl rfl rfl ?_ | refine WL_gund rfl rfl rfl ?_ | refine WL_gyes rfl rfl (dF (by omega)) ?_ | refine WL_gyes rfl rfl (dT (by omega)) ?_ | refine WL_gno (b := false) rfl rfl (dF (by omega)) rfl rfl ?_ | refine WL_gno (b := true) rfl rfl (dT (by omega)) rfl rfl ?_ | (refine WL_r (by first | refine Run_pev rfl | refine k_add64 rfl rfl (by omega) | refine k_sub64 rfl rfl (by omega) | refine k_len rfl (Ty.isl rfl) | refine k_lens rfl (Ty.iss rfl) | refine k_not rfl | refine k_notb rfl | refine k_min rfl rfl | refine k_max rfl rfl | refine k_min3 rfl rfl rfl | refine k_max3 rfl rfl rfl | refine k_mul64 rfl rfl (by omega) | refine k_quo64 rfl rfl (by omega) | refine k_rem rfl rfl (by omega) | refine k_extract rfl rfl | apply k_makeFunc | refine k_convI rfl rfl rfl (by omega) | refine k_conv16 rfl rfl rfl (by omega) | refine k_conv64 rfl rfl rfl (by omega) | refine k_conv8 rfl rfl rfl (by omega) | refine k_convB rfl rfl rfl | refine k_convH rfl rfl rfl | refine k_convQ rfl rfl rfl | refine k_pick_f (dF (by omega)) rfl | refine k_pick_t (dT (by omega)) rfl) rfl ?_))
    refine WL_s (H_alloc hH (Ty.zer rfl) rfl ?_)
    try clear hH
    intro w9 b14 hH
    first | change Hp _ _ _ [] at hH | change Hp _ _ _ [_] at hH | change Hp _ _ _ [_, _] at hH | change Hp _ _ _ [_, _, _] at hH | change Hp _ _ _ [_, _, _, _] at hH | change Hp _ _ _ [_, _, _, _, _] at hH | change Hp _ _ _ [_, _, _, _, _, _] at hH | change Hp _ _ _ [_, _, _, _, _, _, _] at hH | change Hp _ _ _ [_, _, _, _, _, _, _, _] at hH | change Hp _ _ _ [_, _, _, _, _, _, _, _, _] at hH
    refine WL_s (H_storeA 0 hH rfl rfl rfl rfl rfl (cells_one SH.zero) (Ty.shp rfl) ?_)
    clear hH
    intro w10 hH
    first | change Hp _ _ _ [] at hH | change Hp _ _ _ [_] at hH | change Hp _ _ _ [_, _] at hH | change Hp _ _ _ [_, _, _] at hH | change Hp _ _ _ [_, _, _, _] at hH | change Hp _ _ _ [_, _, _, _, _] at hH | change Hp _ _ _ [_, _, _, _, _, _] at hH | change Hp _ _ _ [_, _, _, _, _, _, _] at hH | change Hp _ _ _ [_, _, _, _, _, _, _, _] at hH | change Hp _ _ _ [_, _, _, _, _, _, _, _, _] at hH
    repeat (first | refine WS_seq ?_ | refine WS_region ?_ | refine WL_nil ?_ | refine WS_block ?_ | refine WS_inBlock ?_ | refine WS_skip ?_ | refine WS_label ?_ | refine WS_scope ?_ | refine WS_inScope ?_ | refine WS_exit rfl ?_ | refine WS_true rfl ?_ | refine WS_false rfl ?_ | refine WS_yes rfl (by omega) ?_ | refine WS_no rfl (by omega) ?_ | refine WL_gyes rfl rfl rfl ?_ | refine WL_gno rfl rfl rfl rfl rfl ?_ | refine WL_gund rfl rfl rfl ?_ | refine WL_gyes rfl rfl (dF (by omega)) ?_ | refine WL_gyes rfl rfl (dT (by omega)) ?_ | refine WL_gno (b := false) rfl rfl (dF (by omega)) rfl rfl ?_ | refine WL_gno (b := true) rfl rfl (dT (by omega)) rfl rfl ?_ | (refine WL_r (by first | refine (k_neq rfl rfl).is (bT (by omega)) | refine Run_pev rfl | refine k_add64 rfl rfl (by omega) | refine k_sub64 rfl rfl (by omega) | refine k_len rfl (Ty.isl rfl) | refine k_lens rfl (Ty.iss rfl) | refine k_not rfl | refine k_notb rfl | refine k_min rfl rfl | refine k_max rfl rfl | refine k_min3 rfl rfl rfl | refine k_max3 rfl rfl rfl | refine k_mul64 rfl rfl (by omega) | refine k_quo64 rfl rfl (by omega) | refine k_rem rfl rfl (by omega) | refine k_extract rfl rfl | apply k_makeFunc | refine k_convI rfl rfl rfl (by omega) | refine k_conv16 rfl rfl rfl (by omega) | refine k_conv64 rfl rfl rfl (by omega) | refine k_conv8 rfl rfl rfl (by omega) | refine k_convB rfl rfl rfl | refine k_convH rfl rfl rfl | refine k_convQ rfl rfl rfl | refine k_pick_f (dF (by omega)) rfl | refine k_pick_t (dT (by omega)) rfl) rfl ?_))
    exact WS_ret1 Try.func5 rfl ⟨rfl, (hW7.then0 hW).then0 hH.ext⟩
theorem own_seqhAny : ownKnob Try.prog.godebug = none := by kernel_rfl
theorem laid_seqhAny : laidOutB Try.prog = true := by kernel_rfl
set_option maxRecDepth 100000 in
theorem seqhAny_lifted (os : Os) (started : os.Started) (H : Type) (enc : TypeId × Value → H) :
    ReturnsInHanded {} Try.checked os 5 .any (Rows.seqhAnySpec.pre6 enc Try.prog Try.f5 Rows.seqhAnyRow.domain false) (Rows.seqhAnySpec.post enc Try.prog Try.f5 false true false false) := by
  refine returnsInHanded_of_change (C := Try.checked) own_seqhAny started (by kernel_rfl) Try.func5
    (ChangeSpec.witness6 (enc := enc) (C := Try.checked) false ⟨#[], #[.slice none 0 0, .agg SH.zero.cells.toArray, .int .u16 0, .int .u8 0], []⟩ 8 (by kernel_rfl) (by kernel_rfl) (by kernel_rfl) (by kernel_rfl)) ?_
  intro W base args ds gs before hval0 hW _ _
  have hval : ∀ (j : Nat) t v, Try.f5.params[j]? = some t → args[j]? = some v → Value.okWide Try.prog W .any base t v := hval0
  have hW' := hW
  obtain ⟨p, q, hA0, hV, rfl, hfz, hnd⟩ := hW
  have hA : DataW.TrodAll enc Try.prog W 0 (fun _ => true) true Try.f5.params.toList args.toList ds p := hA0
  rw [Try.params5] at hA hval
  obtain ⟨v0, r0, d0, e0, p0, q0, ha0, rfl, rfl, h0, hA⟩ := trodAll_cons hA
  obtain ⟨v1, r1, d1, e1, p1, q1, ha1, rfl, rfl, h1, hA⟩ := trodAll_cons hA
  obtain ⟨v2, r2, d2, e2, p2, q2, ha2, rfl, rfl, h2, hA⟩ := trodAll_cons hA
  obtain ⟨v3, r3, d3, e3, p3, q3, ha3, rfl, rfl, h3, hA⟩ := trodAll_cons hA
  obtain ⟨hnil, rfl, rfl⟩ := trodAll_nil hA
  obtain rfl : args = #[v0, v1, v2, v3] := by cases args; simp_all
  have hv0 := hval 0 _ v0 rfl rfl
  have hv1 := hval 1 _ v1 rfl rfl
  have hv2 := hval 2 _ v2 rfl rfl
  have hv3 := hval 3 _ v3 rfl rfl
  clear hA0 hval0 ha0 ha1 ha2 ha3 hnil
  obtain ⟨a, n, cap, l, rfl, hn, hS, hl, hlen⟩ := rd_bytes (Ty.sle rfl) (Ty.knd rfl) hv0 h0
  have hcap := (rd_cap (Ty.sle rfl) h0).1
  obtain ⟨cs1, rfl⟩ := rd_agg (Ty.shp rfl) hv1
  obtain ⟨x, rfl, hxo, _⟩ := rd_seqh (rd_arg SHD (by kernel_rfl) h1)
  obtain ⟨t0, rfl, ht0⟩ := rd_int (Ty.knd rfl) hv2 h2
  obtain ⟨t, rfl, ht⟩ := fits_u16 ht0
  obtain ⟨bt0, rfl, hbt0⟩ := rd_int (Ty.knd rfl) hv3 h3
  obtain ⟨bt, rfl, hbt⟩ := fits_u8 hbt0
  refine ((sany_spec hS hl hn hcap hxo ht hbt).enter Try.func5 rfl rfl).mono ?_
  rintro e W' ⟨v, rfl, rfl, hE⟩
  exact ⟨_, rfl, law_post laid_seqhAny (by kernel_rfl) hW' rfl rfl (by kernel_rfl) ⟨rfl, rfl, rfl⟩ hE⟩
theorem seqhAny_holds : Rows.SeqhAnySaid :=
  OpenClaim.holds_of_wide 5 Try.f5 rfl rfl rfl rfl rfl rfl rfl ⟨rfl, rfl, rfl, rfl, rfl⟩ rfl rfl rfl rfl rfl (by kernel_rfl) Try.func5 (by kernel_rfl)
    (of_decide_eq_true (by kernel_rfl)) (by unfold Func.isWrapper; first | (rw [if_pos (by decide +kernel)]; kernel_rfl) | (rw [if_neg (by decide +kernel)]; exact ⟨rfl, rfl⟩))
    (fun os started H enc _ => seqhAny_lifted os started H enc)
#print axioms seqhAny_holds
end Go.Proofs.Ytnamafelcjgjfaa
