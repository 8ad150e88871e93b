/- The walks of the package bits: what is written, what is read; no condition but sizes of memory. -/
import Derived.Test.YtccnhnijglnbmaaSh
import Derived.Test.YtccnhnijglnbmaaTy
import Derived.Test.YtccnhnijglnbmaaK18
import Derived.Test.YtccnhnijglnbmaaPPack
namespace Go.Proofs.Ytccnhnijglnbmaa
open Go Go.K Go.P Go.RowKit Go.Proofs
theorem ptrW : isPtr Try.prog 63 = true := by kernel_rfl
theorem ptrR : isPtr Try.prog 61 = true := by kernel_rfl
/-- Bytes of one's own. -/
abbrev RBy (a : Option Addr) (c : Nat) (l : List Nat) : Res := Ro 5 1 a l.length c (l.map B)
/-- A writer at p, with these bits. -/
def Rw (p : Nat) (a : Option Addr) (c : Nat) (bs : List Bool) : Res := sep (Rb p 65 #[.slice a (pk bs).length c, .int .i64 bs.length]) (RBy a c (pk bs))
abbrev pt (p : Nat) : Value := .pointer (some ⟨p, 0, none⟩)
set_option maxHeartbeats 2000000 in
theorem wput_spec {p n s c : Nat} {a : Option Addr} {bs : List Bool} {sz : Int} {w : World} (hn : n < 18446744073709551616) (hs : min (max sz 0) 64 = (s : Int)) (hbl : bs.length ≤ 1099511627776) (hR : (Rw p a c bs).holds w) :
    Does Try.prog 39 #[pt p, .int .u64 n, .int .i64 sz] w fun v w' => v = .tuple #[] ∧ ∃ a' c', Upd (Rw p a c bs) (Rw p a' c' (bs ++ nb n s)) w w' := by
  refine Does_of (args := [_, _, _]) Try.func39 rfl rfl Try.ntmps39 rfl ?_
  have hH := (Hp.start1 hR).split 0 rfl
  change Hp _ _ _ [_, _] at hH
  have hs64 : s ≤ 64 := by omega
  repeat (first | refine WS_seq ?_ | refine WS_region ?_ | refine WL_nil ?_ | refine WS_block ?_ | refine WS_skip ?_ | refine WS_false rfl ?_ | (refine WL_r (by first | refine k_pnil rfl rfl (.inr rfl) ptrW | refine Run_pev rfl | refine k_sub64 rfl rfl (by omega) | refine k_min rfl rfl | refine k_max rfl rfl | apply k_makeFunc) rfl ?_))
  refine WS_loop (G := (Nat) × (Option Addr) × (Nat)) (fun | (i, a1, c1) => s - i) 9223372036854767680 (fun | (i, a1, c1) => [(6, .int .i64 ((s : Int) - i - 1))]) (fun | (i, a1, c1), w' => i ≤ s ∧ Hp (Rw p a c bs).fp w w' [Rb p 65 #[.slice a1 (pk (bs ++ (nb n s).take i)).length c1, .int .i64 (bs ++ (nb n s).take i).length], RBy a1 c1 (pk (bs ++ (nb n s).take i))]) (0, a, c) ⟨congrArg (Value.int .i64) (by omega), trivial⟩ ⟨by omega, by simpa using hH⟩ ?_
  rintro ⟨i, a1, c1⟩ w' σ ⟨hi, hH⟩ IH
  show WS _ _ _ _ _ (updL [(6, .int .i64 ((s : Int) - i - 1))] _) _
  by_cases hlt : i < s
  · have hbl2 : (bs ++ (nb n s).take i).length ≤ 1099511627776 + 64 := by simp [nb_len]; omega
    have hnext : bs ++ (nb n s).take (i + 1) = (bs ++ (nb n s).take i) ++ [n.testBit (s - 1 - i)] := by
      rw [List.take_add_one, nb_get hlt]; simp
    generalize bs ++ (nb n s).take i = bi at *
    have hpl := pk_len bi
    have hp1 := pk1_len bi
    have hpb := pk1_byt bi
    have hst := pk_step bi (n.testBit (s - 1 - i))
    have hB := hH.b 0 rfl
    repeat (first | refine WS_seq ?_ | refine WS_region ?_ | refine WL_nil ?_ | refine WS_block ?_ | refine WS_skip ?_ | refine WS_yes rfl (by omega) ?_ | (refine WL_r (by first | refine k_nilCheck rfl | refine k_fa rfl (Ty.fld rfl rfl) | refine k_loadb rfl hB rfl (Ty.shp rfl) | refine k_remu (n := 8) rfl rfl (by decide) | refine Run_pev rfl | apply k_makeFunc) rfl ?_))
    apply joinW (Z := fun w' => ∃ a2 c2, Hp (Rw p a c bs).fp w w' [Rb p 65 #[.slice a2 (pk1 bi).length c2, .int .i64 bi.length], RBy a2 c2 (pk1 bi)])
    · intro key
      by_cases h8 : bi.length % 8 = 0
      · have e1 : pk1 bi = pk bi ++ [0] := by unfold pk1; rw [if_pos h8]
        repeat (first | refine WS_region ?_ | refine WS_yes rfl (by omega) ?_ | (refine WL_r (by first | refine k_nilCheck rfl | refine k_fa rfl (Ty.fld rfl rfl) | refine k_loadb rfl hB rfl (Ty.shp rfl) | refine Run_pev rfl) rfl ?_))
        try refine WL_gyes rfl rfl rfl ?_
        refine WL_s (H_lit (out := [B 0]) hH (Ty.sle rfl) (Ty.zer rfl) rfl rfl rfl (by decide) rfl ?_)
        try clear hH
        intro _ b28 hH
        change Hp _ _ _ [_, _, _] at hH
        skip
        try refine WL_gyes rfl rfl rfl ?_
        refine WL_s (H_append 1 hH rfl (Ty.sle rfl) (Ty.zer rfl) rfl (Ty.byt rfl) (by decide) rfl rfl ((hH.b 2 rfl).sl0) (by simp; try omega) (by simp) (by omega) (by simp only [maxLen]; omega) rfl ?_)
        try clear hH
        intro _ a2 c2 hH
        change Hp _ _ _ [_, _, _] at hH
        repeat ((refine WL_r (by first | refine k_nilCheck rfl | refine k_fa rfl (Ty.fld rfl rfl) | apply k_makeFunc) rfl ?_))
        refine WL_s (H_store 0 (v := .slice a2 ((pk bi).length + 1) c2) hH rfl rfl rfl (by simp) rfl (Ty.shp rfl) ?_)
        try clear hH
        intro _ hH
        replace hH := hH.take 2
        change Hp _ _ _ [_, _] at hH
        repeat (first | refine WS_seq ?_ | refine WS_region ?_ | refine WL_nil ?_ | (refine WL_r (by refine Run_pev rfl) rfl ?_))
        apply WL_keepM 9223372036854767680 [(6, .int .i64 ((s : Int) - i - 1)), (32, .int .u64 n), (33, .int .i64 ((s : Int) - i - 1))]
        · exact ⟨rfl, rfl, rfl, trivial⟩
        · repeat (first | ((with_reducible apply Agr.upd); · exact rfl) | ((with_reducible apply Agr.consL); · exact rfl) | (with_reducible apply Agr.nilL) | ((with_reducible apply Agr.mrg); (· exact rfl); apply Agr.refl))
        intro σ
        refine key σ _ ⟨a2, c2, ?_⟩
        rw [RBy, e1]
        simpa using hH
      · have e1 : pk1 bi = pk bi := by unfold pk1; rw [if_neg h8]
        repeat (first | refine WS_seq ?_ | refine WS_region ?_ | refine WS_skip ?_ | refine WS_no rfl (by omega) ?_ | (refine WL_r (by refine Run_pev rfl) rfl ?_))
        apply WL_keepM 9223372036854767680 [(6, .int .i64 ((s : Int) - i - 1)), (32, .int .u64 n), (33, .int .i64 ((s : Int) - i - 1))]
        · exact ⟨rfl, rfl, rfl, trivial⟩
        · repeat (first | ((with_reducible apply Agr.upd); · exact rfl) | ((with_reducible apply Agr.consL); · exact rfl) | (with_reducible apply Agr.nilL) | ((with_reducible apply Agr.mrg); (· exact rfl); apply Agr.refl))
        intro σ
        refine key σ _ ⟨a1, c1, ?_⟩
        rw [e1]; exact hH
    rintro σ2 w2 ⟨a2, c2, hH⟩
    have hB := hH.b 0 rfl
    have hO := hH.o 1 rfl
    have hbit : (n / 2 ^ (s - 1 - i) &&& 1 = 1) ↔ n.testBit (s - 1 - i) = true := by
      rw [Nat.and_one_is_mod, Nat.testBit_eq_decide_div_mod_eq]; simp
    have hsh : (((s : Int) - i - 1)) = ((s - 1 - i : Nat) : Int) := by omega
    rw [hsh]
    have hq : n / 2 ^ (s - 1 - i) < 18446744073709551616 := Nat.lt_of_le_of_lt (Nat.div_le_self _ _) hn
    repeat (first | refine WL_nil ?_ | (refine WL_r (by first | refine k_shr rfl rfl (fit64 hn) | refine k_and (n := 1) rfl rfl (fit64 hq) rfl | refine Run_pev rfl | apply k_makeFunc) rfl ?_))
    apply joinW (Z := fun w' => ∃ a2 c2, Hp (Rw p a c bs).fp w w' [Rb p 65 #[.slice a2 (pk (bi ++ [n.testBit (s - 1 - i)])).length c2, .int .i64 bi.length], RBy a2 c2 (pk (bi ++ [n.testBit (s - 1 - i)]))])
    · intro key
      refine WS_ite rfl (fun h1 => ?_) (fun h1 => ?_)
      · have hb1 : n.testBit (s - 1 - i) = true := hbit.1 (by omega)
        rw [hb1] at hst
        rw [if_pos rfl] at hst
        have hv : ((pk1 bi).map B)[((bi.length : Int) / 8).toNat]? = some (B ((pk1 bi).getD (bi.length / 8) 0)) := by
          rw [show ((bi.length : Int) / 8).toNat = bi.length / 8 by omega, List.getElem?_map, List.getD_eq_getElem?_getD, List.getElem?_eq_getElem (by omega)]; rfl
        have hob : (pk1 bi).getD (bi.length / 8) 0 < 256 := by
          rw [List.getD_eq_getElem?_getD, List.getElem?_eq_getElem (by omega)]; exact hpb _ (List.getElem_mem _)
        have h128 : 128 / 2 ^ (bi.length % 8) < 256 := Nat.lt_of_le_of_lt (Nat.div_le_self _ _) (by decide)
        have hln : ((pk1 bi).map B).length = (pk1 bi).length := by simp
        skip
        refine WS_tail Ty.mixed 18 rfl (by kernel_rfl) rfl (fun w1 hx1 => ?_)
        refine WA_take 0 rfl (by kernel_rfl) hx1 rfl rfl (fun w' hw' => by refine Run_pev rfl) ?_
        refine WA_take 1 rfl (by kernel_rfl) hx1 rfl rfl (fun w' hw' => by refine k_nilCheck rfl) ?_
        refine WA_take 2 rfl (by kernel_rfl) hx1 rfl rfl (fun w' hw' => by refine k_fa rfl (Ty.fld rfl rfl)) ?_
        refine WA_take 3 rfl (by kernel_rfl) hx1 rfl rfl (fun w' hw' => by refine k_loadb rfl (hB.ext0 hw') rfl (Ty.shp rfl)) ?_
        refine WA_take 4 rfl (by kernel_rfl) hx1 rfl rfl (fun w' hw' => by refine Run_pev rfl) ?_
        refine WA_take 5 rfl (by kernel_rfl) hx1 rfl rfl (fun w' hw' => by refine k_nilCheck rfl) ?_
        refine WA_take 6 rfl (by kernel_rfl) hx1 rfl rfl (fun w' hw' => by refine k_fa rfl (Ty.fld rfl rfl)) ?_
        refine WA_take 7 rfl (by kernel_rfl) hx1 rfl rfl (fun w' hw' => by refine k_loadb rfl (hB.ext0 hw') rfl (Ty.shp rfl)) ?_
        refine WA_take 8 rfl (by kernel_rfl) hx1 rfl rfl (fun w' hw' => by refine k_quo64 rfl rfl (by omega)) ?_
        refine WA_take 9 rfl (by kernel_rfl) hx1 rfl rfl (fun w' hw' => by refine k_ix1 rfl rfl (hO.sl.ext0 hw') hln (Ty.sle rfl) (by omega)) ?_
        refine WA_take 10 rfl (by kernel_rfl) hx1 rfl rfl (fun w' hw' => by refine k_loads rfl (hO.sl.ext0 hw') hv (Ty.shp rfl)) ?_
        refine WA_take 11 rfl (by kernel_rfl) hx1 rfl rfl (fun w' hw' => by refine Run_pev rfl) ?_
        refine WA_take 12 rfl (by kernel_rfl) hx1 rfl rfl (fun w' hw' => by refine k_nilCheck rfl) ?_
        refine WA_take 13 rfl (by kernel_rfl) hx1 rfl rfl (fun w' hw' => by refine k_fa rfl (Ty.fld rfl rfl)) ?_
        refine WA_take 14 rfl (by kernel_rfl) hx1 rfl rfl (fun w' hw' => by refine k_loadb rfl (hB.ext0 hw') rfl (Ty.shp rfl)) ?_
        refine WA_take 15 rfl (by kernel_rfl) hx1 rfl rfl (fun w' hw' => by refine k_remu (n := 8) rfl rfl (by decide)) ?_
        refine WA_take 16 rfl (by kernel_rfl) hx1 rfl rfl (fun w' hw' => by refine k_shr (m := 128) rfl rfl rfl) ?_
        refine WA_take 17 rfl (by kernel_rfl) hx1 rfl rfl (fun w' hw' => by refine k_or rfl rfl (fit8 hob) (fit8 h128)) ?_
        refine WA_done (by kernel_rfl) ?_
        replace hH := hH.ext0 hx1
        have hO2 := (hH.o 1 rfl).sl
        repeat ((refine WL_r (by first | refine k_ix1 rfl rfl hO2 hln (Ty.sle rfl) (by omega) | apply k_makeFunc) rfl ?_))
        refine WL_s (H_storeO 1 (v := B ((pk1 bi).getD (bi.length / 8) 0 ||| 128 / 2 ^ (bi.length % 8))) hH rfl rfl rfl (by omega) rfl (Ty.shp rfl) ?_)
        try clear hH
        intro _ hH
        change Hp _ _ _ [_, _] at hH
        rw [← List.map_set, show ((bi.length : Int) / 8).toNat = bi.length / 8 by omega, ← hst] at hH
        repeat (first | refine WS_region ?_ | refine WL_nil ?_ | (refine WL_r (by refine Run_pev rfl) rfl ?_))
        apply WL_keepM 9223372036854767680 [(6, .int .i64 ((s - 1 - i : Nat) : Int)), (56, pt p), (57, pt p)]
        · exact ⟨rfl, rfl, rfl, trivial⟩
        · repeat (first | ((with_reducible apply Agr.upd); · exact rfl) | ((with_reducible apply Agr.consL); · exact rfl) | (with_reducible apply Agr.nilL) | ((with_reducible apply Agr.mrg); (· exact rfl); apply Agr.refl) | (apply Agr.updo; · exact rfl))
        intro σ
        refine key σ _ ⟨a2, c2, ?_⟩
        have hl2 : (pk (bi ++ [true])).length = (pk1 bi).length := by rw [hst, List.length_set]
        rw [hb1, RBy, hl2]
        exact hH
      · have hb0 : n.testBit (s - 1 - i) = false := by
          cases hb : n.testBit (s - 1 - i) with
          | false => rfl
          | true => exact absurd (hbit.2 hb) (by omega)
        rw [hb0] at hst
        simp only [Bool.false_eq_true, if_false] at hst
        repeat (first | refine WS_region ?_ | refine WS_skip ?_ | (refine WL_r (by refine Run_pev rfl) rfl ?_))
        apply WL_keepM 9223372036854767680 [(6, .int .i64 ((s - 1 - i : Nat) : Int)), (56, pt p), (57, pt p)]
        · exact ⟨rfl, rfl, rfl, trivial⟩
        · repeat (first | ((with_reducible apply Agr.upd); · exact rfl) | ((with_reducible apply Agr.consL); · exact rfl) | (with_reducible apply Agr.nilL) | ((with_reducible apply Agr.mrg); (· exact rfl); apply Agr.refl))
        intro σ
        refine key σ _ ⟨a2, c2, ?_⟩
        rw [hb0, hst]
        exact hH
    rintro σ3 w3 ⟨a3, c3, hH⟩
    have hB := hH.b 0 rfl
    repeat ((refine WL_r (by first | refine k_nilCheck rfl | refine k_fa rfl (Ty.fld rfl rfl) | refine k_loadb rfl hB rfl (Ty.shp rfl) | refine k_add64 rfl rfl (by omega) | apply k_makeFunc) rfl ?_))
    refine WL_s (H_store 0 (v := .int .i64 ((bi.length : Int) + 1)) hH rfl rfl rfl (by simp) rfl (Ty.shp rfl) ?_)
    intro _ hH
    change Hp _ _ _ [_, _] at hH
    repeat (first | refine WS_region ?_ | refine WL_nil ?_ | refine WS_inBlock ?_ | (refine WL_r (by first | refine Run_pev rfl | refine k_sub64 rfl rfl (by omega) | apply k_makeFunc) rfl ?_))
    refine IH (i + 1, a3, c3) _ _ ?_ ?_ ?_ ?_
    · simp only; omega
    · exact ⟨congrArg (Value.int .i64) (by omega), trivial⟩
    · exact (by repeat (first | with_reducible apply Agr.refl | refine Agr.upd rfl ?_ | refine Agr.updL rfl ?_ | refine Agr.mrg rfl ?_))
    · exact ⟨by omega, by rw [hnext, show ((bi ++ [n.testBit (s - 1 - i)]).length : Int) = (bi.length : Int) + 1 by simp]; exact hH⟩
  · obtain rfl : i = s := by omega
    rw [List.take_of_length_le (by rw [nb_len]; omega)] at hH
    have hH2 := hH.merge 0 1 rfl rfl (by decide)
    repeat (first | refine WS_seq ?_ | refine WS_region ?_ | refine WL_nil ?_ | refine WS_exit rfl ?_ | refine WS_no rfl (by omega) ?_ | (refine WL_r (by first | refine Run_pev rfl | apply k_makeFunc) rfl ?_))
    exact WS_end0 Try.func39 rfl ⟨rfl, a1, c1, hH2.upd 0 rfl⟩
theorem wlen_spec {p c : Nat} {a : Option Addr} {bs : List Bool} {w : World} (hR : (Rw p a c bs).holds w) : Does Try.prog 25 #[pt p] w fun v w' => v = .int .i64 bs.length ∧ w' = w := by
  refine Does_of (args := [_]) Try.func25 rfl rfl Try.ntmps25 rfl ?_
  have hB : Blk w p 65 #[.slice a (pk bs).length c, .int .i64 bs.length] := hR.1
  repeat (first | refine WS_seq ?_ | refine WS_region ?_ | refine WL_nil ?_ | refine WS_skip ?_ | refine WS_false rfl ?_ | (refine WL_r (by first | refine k_nilCheck rfl | refine k_fa rfl (Ty.fld rfl rfl) | refine k_pnil rfl rfl (.inr rfl) ptrW | refine k_loadb rfl hB rfl (Ty.shp rfl) | refine Run_pev rfl | apply k_makeFunc) rfl ?_))
  exact WS_ret1 Try.func25 rfl ⟨rfl, rfl⟩
theorem wbytes_spec {p c : Nat} {a : Option Addr} {bs : List Bool} {w : World} (hR : (Rw p a c bs).holds w) (hbl : bs.length ≤ 1099511627776) : Does Try.prog 24 #[pt p] w fun v w' => ∃ a' c', v = .slice a' (pk bs).length c' ∧ New (RBy a' c' (pk bs)) w w' := by
  refine Does_of (args := [_]) Try.func24 rfl rfl Try.ntmps24 rfl ?_
  have hB : Blk w p 65 #[.slice a (pk bs).length c, .int .i64 bs.length] := hR.1
  have hO : SlA w a ((pk bs).map B) := (hR.2.1 : Own _ _ _ _ _ _ _).sl
  have hH := Hp.start w
  have hpl := pk_len bs
  repeat (first | refine WS_seq ?_ | refine WS_region ?_ | refine WL_nil ?_ | refine WS_skip ?_ | refine WS_false rfl ?_ | (refine WL_r (by first | refine k_pnil rfl rfl (.inr rfl) ptrW | refine Run_pev rfl) rfl ?_))
  try refine WL_gyes rfl rfl rfl ?_
  refine WL_s (H_lit (out := []) hH (Ty.sle rfl) (Ty.zer rfl) rfl rfl rfl (by decide) rfl ?_)
  try clear hH
  intro _ b5 hH
  change Hp _ _ _ [_] at hH
  have hB2 := hB.ext0 hH.ext
  repeat ((refine WL_r (by first | refine k_nilCheck rfl | refine k_fa rfl (Ty.fld rfl rfl) | refine k_loadb rfl hB2 rfl (Ty.shp rfl) | refine Run_pev rfl) rfl ?_))
  replace hH : Hp [] w _ [Ro 5 1 (some ⟨b5, 0, none⟩) 0 0 []] := hH.as 0 rfl (fun _ h => h) (fun h => (h : Blk _ _ _ _).own (n := 0) (sz := 1) rfl (by decide))
  try refine WL_gyes rfl rfl rfl ?_
  refine WL_s (H_append 0 hH rfl (Ty.sle rfl) (Ty.zer rfl) rfl (Ty.byt rfl) (by decide) rfl rfl (hH.old hO) (by simp; try omega) (by simp) (by omega) (by simp only [maxLen]; omega) rfl ?_)
  try clear hH
  intro _ a2 c2 hH
  change Hp _ _ _ [_] at hH
  repeat (first | refine WL_nil ?_ | (refine WL_r (by first | refine Run_pev rfl | apply k_makeFunc) rfl ?_))
  refine WS_ret1 Try.func24 rfl ⟨a2, c2, congrArg (fun n => Value.slice a2 n c2) (Nat.zero_add _), (hH.new1 0 rfl).as (fun _ h => h) (fun h => ?_)⟩
  simpa [RBy, Ro] using h
/-- A new writer. -/
theorem Rw.fresh {w w' : World} {p : Nat} (h : New (Rb p 65 #[.slice none 0 0, .int .i64 0]) w w') : New (Rw p none 0 []) w w' :=
  h.as (fun _ hx => by simpa [Rw, sep, Rb, RBy, Ro, blk] using hx) (fun hB => ⟨hB, Own.nil, fun _ _ hb => by simp [RBy, Ro, blk] at hb⟩)

/-! ### The reader -/
def Rr (p : Nat) (a : Option Addr) (c : Nat) (l : List Nat) (at' e : Nat) (en : Bool) : Res := sep (Rb p 85 #[.slice a l.length c, .int .i64 at', .int .i64 e, .bool en]) (RBy a c l)
/-- A reader at p, in this state. -/
def Rd (p : Nat) (a : Option Addr) (c : Nat) (s : RS) : Res := ⟨[p] ++ blk a, fun w => ∃ l at' e, (Rr p a c l at' e s.ended).holds w ∧ at' ≤ e ∧ e ≤ 8 * l.length ∧ l.length ≤ 1099511627776 ∧ Byt l ∧ s.rest = bl l at' e,
  fun h hE hS => by obtain ⟨l, at', e, hR, hr⟩ := h; exact ⟨l, at', e, (Rr p a c l at' e _).keep hR hE hS, hr⟩, fun h x hx => by obtain ⟨l, at', e, hR, hr⟩ := h; exact (Rr p a c l at' e _).lt hR x hx⟩
theorem Rd.up {p c at' at2 e : Nat} {a : Option Addr} {l : List Nat} {en : Bool} {s s' : RS} {w w' : World} (h : Upd (Rr p a c l at' e en) (Rr p a c l at2 e s'.ended) w w') (h1 : at2 ≤ e ∧ e ≤ 8 * l.length ∧ l.length ≤ 1099511627776 ∧ Byt l ∧ s'.rest = bl l at2 e) : Upd (Rd p a c s) (Rd p a c s') w w' :=
  ⟨h.ext, ⟨l, at2, e, h.holds, h1⟩, h.fp⟩
/-- The same, the bytes and the end being known. -/
def Rq (p : Nat) (a : Option Addr) (c : Nat) (l : List Nat) (e : Nat) (s : RS) : Res := ⟨[p] ++ blk a, fun w => ∃ at', (Rr p a c l at' e s.ended).holds w ∧ at' ≤ e ∧ e ≤ 8 * l.length ∧ l.length ≤ 1099511627776 ∧ Byt l ∧ s.rest = bl l at' e,
  fun h hE hS => by obtain ⟨at', hR, hr⟩ := h; exact ⟨at', (Rr p a c l at' e _).keep hR hE hS, hr⟩, fun h x hx => by obtain ⟨at', hR, hr⟩ := h; exact (Rr p a c l at' e _).lt hR x hx⟩
theorem Rq.rd {p c e : Nat} {a : Option Addr} {l : List Nat} {s : RS} {w : World} (h : (Rq p a c l e s).holds w) : (Rd p a c s).holds w := by
  obtain ⟨at', h⟩ := h
  exact ⟨l, at', e, h⟩
theorem Rq.upd {p c e : Nat} {a : Option Addr} {l : List Nat} {s s' : RS} {w w' : World} (h : Upd (Rq p a c l e s) (Rq p a c l e s') w w') : Upd (Rd p a c s) (Rd p a c s') w w' := ⟨h.ext, Rq.rd h.holds, h.fp⟩
theorem Rd.q {p c : Nat} {a : Option Addr} {s : RS} {w : World} (h : (Rd p a c s).holds w) : ∃ l e, (Rq p a c l e s).holds w := by
  obtain ⟨l, at', e, h⟩ := h
  exact ⟨l, e, at', h⟩
theorem Rq.up {p c at' at2 e : Nat} {a : Option Addr} {l : List Nat} {en : Bool} {s s' : RS} {w w' : World} (h : Upd (Rr p a c l at' e en) (Rr p a c l at2 e s'.ended) w w') (h1 : at2 ≤ e ∧ e ≤ 8 * l.length ∧ l.length ≤ 1099511627776 ∧ Byt l ∧ s'.rest = bl l at2 e) : Upd (Rq p a c l e s) (Rq p a c l e s') w w' :=
  ⟨h.ext, ⟨at2, h.holds, h1⟩, h.fp⟩
theorem rended_spec {p c : Nat} {a : Option Addr} {s : RS} {w : World} (hR : (Rd p a c s).holds w) : Does Try.prog 21 #[pt p] w fun v w' => v = .bool s.ended ∧ w' = w := by
  obtain ⟨l, at', e, hR, hr⟩ := hR
  refine Does_of (args := [_]) Try.func21 rfl rfl Try.ntmps21 rfl ?_
  have hB : Blk w p 85 #[.slice a l.length c, .int .i64 at', .int .i64 e, .bool s.ended] := hR.1
  repeat (first | refine WS_seq ?_ | refine WS_region ?_ | refine WL_nil ?_ | refine WL_gyes rfl rfl rfl ?_ | (refine WL_r (by first | refine k_nilCheck rfl | refine k_fa rfl (Ty.fld rfl rfl) | refine k_pnil rfl rfl (.inr rfl) ptrR | refine k_loadb rfl hB rfl (Ty.shp rfl) | refine Run_pev rfl | apply k_makeFunc) rfl ?_))
  exact WS_ret1 Try.func21 rfl ⟨rfl, rfl⟩
/-- How a reader ends, as a number. -/
def rend (s : RS) : Nat := if s.ended then 3 else if s.rest = [] then 0 else 13
theorem rend_spec {p c : Nat} {a : Option Addr} {s : RS} {w : World} (hR : (Rd p a c s).holds w) : Does Try.prog 27 #[pt p] w fun v w' => v = .int .i64 (rend s) ∧ Ext [] w w' := by
  obtain ⟨l, at', e, hR, h1, h2, h3, h4, h5⟩ := hR
  refine Does_of (args := [_]) Try.func27 rfl rfl Try.ntmps27 rfl ?_
  have hB : Blk w p 85 #[.slice a l.length c, .int .i64 at', .int .i64 e, .bool s.ended] := hR.1
  have hsl : s.rest.length = e - at' := by rw [h5, bl_len]
  unfold rend
  cases hse : s.ended with
  | true =>
    rw [hse] at hB
    repeat (first | refine WS_seq ?_ | refine WS_region ?_ | refine WL_nil ?_ | refine WS_block ?_ | refine WS_true rfl ?_ | refine WS_false rfl ?_ | (refine WL_r (by first | refine k_nilCheck rfl | refine k_fa rfl (Ty.fld rfl rfl) | refine k_pnil rfl rfl (.inr rfl) ptrR | refine k_loadb rfl hB rfl (Ty.shp rfl) | refine Run_pev rfl | apply k_makeFunc) rfl ?_))
    exact WS_ret1 Try.func27 rfl ⟨rfl, .refl⟩
  | false =>
    rw [hse] at hB
    repeat (first | refine WS_seq ?_ | refine WS_region ?_ | refine WL_nil ?_ | refine WS_block ?_ | refine WS_false rfl ?_ | (refine WL_r (by first | refine k_nilCheck rfl | refine k_fa rfl (Ty.fld rfl rfl) | refine k_pnil rfl rfl (.inr rfl) ptrR | refine k_loadb rfl hB rfl (Ty.shp rfl) | refine Run_pev rfl | apply k_makeFunc) rfl ?_))
    refine WS_drawE Ty.mixed 10 rfl (fun w1 hx1 => ?_)
    refine WA_take 0 rfl (by kernel_rfl) hx1 rfl rfl (fun w' hw' => by refine Run_pev rfl) ?_
    refine WA_take 1 rfl (by kernel_rfl) hx1 rfl rfl (fun w' hw' => by refine k_nilCheck rfl) ?_
    refine WA_take 2 rfl (by kernel_rfl) hx1 rfl rfl (fun w' hw' => by refine k_fa rfl (Ty.fld rfl rfl)) ?_
    refine WA_take 3 rfl (by kernel_rfl) hx1 rfl rfl (fun w' hw' => by refine k_loadb rfl (hB.ext0 hw') rfl (Ty.shp rfl)) ?_
    refine WA_take 4 rfl (by kernel_rfl) hx1 rfl rfl (fun w' hw' => by refine Run_pev rfl) ?_
    refine WA_take 5 rfl (by kernel_rfl) hx1 rfl rfl (fun w' hw' => by refine k_nilCheck rfl) ?_
    refine WA_take 6 rfl (by kernel_rfl) hx1 rfl rfl (fun w' hw' => by refine k_fa rfl (Ty.fld rfl rfl)) ?_
    refine WA_take 7 rfl (by kernel_rfl) hx1 rfl rfl (fun w' hw' => by refine k_loadb rfl (hB.ext0 hw') rfl (Ty.shp rfl)) ?_
    refine WA_take 8 rfl (by kernel_rfl) hx1 rfl rfl (fun w' hw' => by refine Run_pev rfl) ?_
    refine WA_take 9 rfl (by kernel_rfl) hx1 rfl rfl (fun w' hw' => by refine Run_pev rfl) ?_
    refine WA_done (by kernel_rfl) ?_
    by_cases he : at' < e
    · have hne : s.rest ≠ [] := fun h => by rw [h] at hsl; simp at hsl; omega
      repeat (first | refine WS_seq ?_ | refine WS_region ?_ | refine WL_nil ?_ | refine WS_yes rfl (by omega) ?_ | (refine WL_r (by first | refine Run_pev rfl | apply k_makeFunc) rfl ?_))
      exact WS_ret1 Try.func27 rfl ⟨congrArg (Value.int .i64) (by simp [hne]), hx1⟩
    · have hne : s.rest = [] := List.eq_nil_of_length_eq_zero (by omega)
      repeat (first | refine WS_seq ?_ | refine WS_region ?_ | refine WL_nil ?_ | refine WS_inBlock ?_ | refine WS_skip ?_ | refine WS_no rfl (by omega) ?_ | (refine WL_r (by first | refine Run_pev rfl | apply k_makeFunc) rfl ?_))
      exact WS_ret1 Try.func27 rfl ⟨congrArg (Value.int .i64) (by simp [hne]), hx1⟩
theorem rfailQ {p c e : Nat} {a : Option Addr} {l : List Nat} {s : RS} {w : World} (hR : (Rq p a c l e s).holds w) : Does Try.prog 37 #[pt p] w fun v w' => v = .tuple #[] ∧ Upd (Rq p a c l e s) (Rq p a c l e ⟨s.rest, true⟩) w w' := by
  obtain ⟨at', hR, hr⟩ := hR
  refine Does_of (args := [_]) Try.func37 rfl rfl Try.ntmps37 rfl ?_
  have hH := (Hp.start1 hR).split 0 rfl
  change Hp _ _ _ [_, _] at hH
  repeat (first | refine WS_seq ?_ | refine WS_region ?_ | refine WL_nil ?_ | refine WS_true rfl ?_ | (refine WL_r (by first | refine k_nilCheck rfl | refine k_fa rfl (Ty.fld rfl rfl) | refine k_pnnil rfl rfl (.inr rfl) ptrR | refine Run_pev rfl | apply k_makeFunc) rfl ?_))
  refine WL_s (H_store 0 (v := .bool true) hH rfl rfl rfl (by simp) rfl (Ty.shp rfl) ?_)
  try clear hH
  intro _ hH
  change Hp _ _ _ [_, _] at hH
  replace hH := hH.merge 0 1 rfl rfl (by decide)
  repeat (refine WL_nil ?_)
  exact WS_end0 Try.func37 rfl ⟨rfl, Rq.up (at2 := at') (hH.upd 0 rfl) hr⟩
theorem rfail_spec {p c : Nat} {a : Option Addr} {s : RS} {w : World} (hR : (Rd p a c s).holds w) : Does Try.prog 37 #[pt p] w fun v w' => v = .tuple #[] ∧ Upd (Rd p a c s) (Rd p a c ⟨s.rest, true⟩) w w' := by
  obtain ⟨l, e, h⟩ := Rd.q hR
  exact (rfailQ h).mono (fun v w' h => ⟨h.1, Rq.upd h.2⟩)
theorem bit_val {l : List Nat} {at' : Nat} : ((l.getD (at' / 8) 0) / 2 ^ (7 - at' % 8)) &&& 1 = (bitAt l at').toNat := by
  unfold bitAt
  rw [Nat.and_one_is_mod, Nat.testBit_eq_decide_div_mod_eq]
  generalize l.getD (at' / 8) 0 / 2 ^ (7 - at' % 8) = x
  have := Nat.mod_two_eq_zero_or_one x
  rcases this with h | h <;> simp [h]
set_option maxHeartbeats 1000000 in
theorem rbitQ {p c e : Nat} {a : Option Addr} {l : List Nat} {s : RS} {w : World} (hR : (Rq p a c l e s).holds w) : Does Try.prog 38 #[pt p] w fun v w' => v = .int .u64 (rbit s).1.toNat ∧ Upd (Rq p a c l e s) (Rq p a c l e (rbit s).2) w w' := by
  have hR0 := hR
  obtain ⟨at', hR, h1, h2, h3, h4, h5⟩ := hR
  refine Does_of (args := [_]) Try.func38 rfl rfl Try.ntmps38 rfl ?_
  have hH := (Hp.start1 hR).split 0 rfl
  change Hp _ _ _ [_, _] at hH
  have hB : Blk w p 85 #[.slice a l.length c, .int .i64 at', .int .i64 e, .bool s.ended] := hR.1
  obtain ⟨rest, en⟩ := s
  simp only at h5 hB hR
  cases en with
  | true =>
    repeat (first | refine WS_seq ?_ | refine WS_region ?_ | refine WL_nil ?_ | refine WS_true rfl ?_ | refine WL_gyes rfl rfl rfl ?_ | (refine WL_r (by first | refine k_nilCheck rfl | refine k_fa rfl (Ty.fld rfl rfl) | refine k_pnil rfl rfl (.inr rfl) ptrR | refine k_loadb rfl hB rfl (Ty.shp rfl) | refine Run_pev rfl | apply k_makeFunc) rfl ?_))
    exact WS_ret1 Try.func38 rfl ⟨rfl, Upd.same hR0 .refl⟩
  | false =>
    repeat (first | refine WS_seq ?_ | refine WS_region ?_ | refine WL_nil ?_ | refine WS_skip ?_ | refine WS_false rfl ?_ | refine WL_gyes rfl rfl rfl ?_ | (refine WL_r (by first | refine k_nilCheck rfl | refine k_fa rfl (Ty.fld rfl rfl) | refine k_pnil rfl rfl (.inr rfl) ptrR | refine k_loadb rfl hB rfl (Ty.shp rfl) | refine Run_pev rfl | apply k_makeFunc) rfl ?_))
    refine WS_drawE Ty.mixed 9 rfl (fun w1 hx1 => ?_)
    refine WA_take 0 rfl (by kernel_rfl) hx1 rfl rfl (fun w' hw' => by refine Run_pev rfl) ?_
    refine WA_take 1 rfl (by kernel_rfl) hx1 rfl rfl (fun w' hw' => by refine k_nilCheck rfl) ?_
    refine WA_take 2 rfl (by kernel_rfl) hx1 rfl rfl (fun w' hw' => by refine k_fa rfl (Ty.fld rfl rfl)) ?_
    refine WA_take 3 rfl (by kernel_rfl) hx1 rfl rfl (fun w' hw' => by refine k_loadb rfl (hB.ext0 hw') rfl (Ty.shp rfl)) ?_
    refine WA_take 4 rfl (by kernel_rfl) hx1 rfl rfl (fun w' hw' => by refine Run_pev rfl) ?_
    refine WA_take 5 rfl (by kernel_rfl) hx1 rfl rfl (fun w' hw' => by refine k_nilCheck rfl) ?_
    refine WA_take 6 rfl (by kernel_rfl) hx1 rfl rfl (fun w' hw' => by refine k_fa rfl (Ty.fld rfl rfl)) ?_
    refine WA_take 7 rfl (by kernel_rfl) hx1 rfl rfl (fun w' hw' => by refine k_loadb rfl (hB.ext0 hw') rfl (Ty.shp rfl)) ?_
    refine WA_take 8 rfl (by kernel_rfl) hx1 rfl rfl (fun w' hw' => by refine Run_pev rfl) ?_
    refine WA_done (by kernel_rfl) ?_
    replace hH := hH.ext0 hx1
    by_cases he : e ≤ at'
    · have hr : rest = [] := by rw [h5]; exact bl_nil he
      subst hr
      repeat (first | refine WS_seq ?_ | refine WS_region ?_ | refine WS_yes rfl (by omega) ?_ | (refine WL_r (by first | refine k_nilCheck rfl | refine k_fa rfl (Ty.fld rfl rfl) | refine Run_pev rfl | apply k_makeFunc) rfl ?_))
      refine WL_s (H_store 0 (v := .bool true) hH rfl rfl rfl (by simp) rfl (Ty.shp rfl) ?_)
      try clear hH
      intro _ hH
      change Hp _ _ _ [_, _] at hH
      replace hH := hH.merge 0 1 rfl rfl (by decide)
      repeat (first | refine WS_seq ?_ | refine WS_region ?_ | refine WL_nil ?_ | (refine WL_r (by first | refine Run_pev rfl | apply k_makeFunc) rfl ?_))
      exact WS_ret1 Try.func38 rfl ⟨rfl, Rq.up (at2 := at') (hH.upd 0 rfl) ⟨h1, h2, h3, h4, h5⟩⟩
    · have hr : rest = bitAt l at' :: bl l (at' + 1) e := by rw [h5]; exact bl_cons (by omega)
      subst hr
      have hlb : l.getD (at' / 8) 0 < 256 := by
        rw [List.getD_eq_getElem?_getD, List.getElem?_eq_getElem (by omega)]; exact h4 _ (List.getElem_mem _)
      have hv : (l.map B)[((at' : Int) / 8).toNat]? = some (B (l.getD (at' / 8) 0)) := by
        rw [show ((at' : Int) / 8).toNat = at' / 8 by omega, List.getElem?_map, List.getD_eq_getElem?_getD, List.getElem?_eq_getElem (by omega)]; rfl
      have hq : l.getD (at' / 8) 0 / 2 ^ (7 - at' % 8) < 256 := Nat.lt_of_le_of_lt (Nat.div_le_self _ _) hlb
      have hO := (hH.o 1 rfl).sl
      have hB1 := hH.b 0 rfl
      have hsub : 7 - (at' : Int) % 8 = ((7 - at' % 8 : Nat) : Int) := by omega
      have hbv := bit_val (l := l) (at' := at')
      repeat (first | refine WS_seq ?_ | refine WS_skip ?_ | refine WS_no rfl (by omega) ?_)
      refine WS_drawE Ty.mixed 21 rfl (fun w1 hx1 => ?_)
      refine WA_take 0 rfl (by kernel_rfl) hx1 rfl rfl (fun w' hw' => by refine Run_pev rfl) ?_
      refine WA_take 1 rfl (by kernel_rfl) hx1 rfl rfl (fun w' hw' => by refine k_nilCheck rfl) ?_
      refine WA_take 2 rfl (by kernel_rfl) hx1 rfl rfl (fun w' hw' => by refine k_fa rfl (Ty.fld rfl rfl)) ?_
      refine WA_take 3 rfl (by kernel_rfl) hx1 rfl rfl (fun w' hw' => by refine k_loadb rfl (hB1.ext0 hw') rfl (Ty.shp rfl)) ?_
      refine WA_take 4 rfl (by kernel_rfl) hx1 rfl rfl (fun w' hw' => by refine Run_pev rfl) ?_
      refine WA_take 5 rfl (by kernel_rfl) hx1 rfl rfl (fun w' hw' => by refine k_nilCheck rfl) ?_
      refine WA_take 6 rfl (by kernel_rfl) hx1 rfl rfl (fun w' hw' => by refine k_fa rfl (Ty.fld rfl rfl)) ?_
      refine WA_take 7 rfl (by kernel_rfl) hx1 rfl rfl (fun w' hw' => by refine k_loadb rfl (hB1.ext0 hw') rfl (Ty.shp rfl)) ?_
      refine WA_take 8 rfl (by kernel_rfl) hx1 rfl rfl (fun w' hw' => by refine k_quo64 rfl rfl (by omega)) ?_
      refine WA_take 9 rfl (by kernel_rfl) hx1 rfl rfl (fun w' hw' => by refine k_ix1 rfl rfl (hO.ext0 hw') (by simp) (Ty.sle rfl) (by omega)) ?_
      refine WA_take 10 rfl (by kernel_rfl) hx1 rfl rfl (fun w' hw' => by refine k_loads rfl (hO.ext0 hw') hv (Ty.shp rfl)) ?_
      refine WA_take 11 rfl (by kernel_rfl) hx1 rfl rfl (fun w' hw' => by refine Run_pev rfl) ?_
      refine WA_take 12 rfl (by kernel_rfl) hx1 rfl rfl (fun w' hw' => by refine k_nilCheck rfl) ?_
      refine WA_take 13 rfl (by kernel_rfl) hx1 rfl rfl (fun w' hw' => by refine k_fa rfl (Ty.fld rfl rfl)) ?_
      refine WA_take 14 rfl (by kernel_rfl) hx1 rfl rfl (fun w' hw' => by refine k_loadb rfl (hB1.ext0 hw') rfl (Ty.shp rfl)) ?_
      refine WA_take 15 rfl (by kernel_rfl) hx1 rfl rfl (fun w' hw' => by refine k_rem rfl rfl (by omega)) ?_
      refine WA_take 16 rfl (by kernel_rfl) hx1 rfl rfl (fun w' hw' => by refine (k_sub64 (m := 7) (n := (at' : Int) % 8) rfl rfl (by omega)).is (congrArg (Value.int .i64) hsub)) ?_
      refine WA_take 17 rfl (by kernel_rfl) hx1 rfl rfl (fun w' hw' => by refine k_shr rfl rfl (fit8 hlb)) ?_
      refine WA_take 18 rfl (by kernel_rfl) hx1 rfl rfl (fun w' hw' => by refine k_conv64 rfl rfl rfl (by omega)) ?_
      refine WA_take 19 rfl (by kernel_rfl) hx1 rfl rfl (fun w' hw' => by refine k_and (n := 1) rfl rfl (fit64 (by omega)) rfl) ?_
      refine WA_take 20 rfl (by kernel_rfl) hx1 rfl rfl (fun w' hw' => by refine Run_pev rfl) ?_
      refine WA_done (by kernel_rfl) ?_
      replace hH := hH.ext0 hx1
      have hB2 := hH.b 0 rfl
      repeat (first | refine WS_seq ?_ | refine WS_region ?_ | (refine WL_r (by first | refine k_nilCheck rfl | refine k_fa rfl (Ty.fld rfl rfl) | refine k_loadb rfl hB2 rfl (Ty.shp rfl) | refine Run_pev rfl | refine k_add64 rfl rfl (by omega) | apply k_makeFunc) rfl ?_))
      refine WL_s (H_store 0 (v := .int .i64 ((at' : Int) + 1)) hH rfl rfl rfl (by simp) rfl (Ty.shp rfl) ?_)
      try clear hH
      intro _ hH
      change Hp _ _ _ [_, _] at hH
      replace hH := hH.merge 0 1 rfl rfl (by decide)
      repeat (first | refine WS_seq ?_ | refine WS_region ?_ | refine WL_nil ?_ | (refine WL_r (by first | refine Run_pev rfl | apply k_makeFunc) rfl ?_))
      exact WS_ret1 Try.func38 rfl ⟨congrArg (fun n : Nat => Value.int .u64 (n : Int)) hbv, Rq.up (at2 := at' + 1) (s' := ⟨bl l (at' + 1) e, false⟩) (hH.upd 0 rfl) ⟨by omega, h2, h3, h4, rfl⟩⟩
theorem rbit_spec {p c : Nat} {a : Option Addr} {s : RS} {w : World} (hR : (Rd p a c s).holds w) : Does Try.prog 38 #[pt p] w fun v w' => v = .int .u64 (rbit s).1.toNat ∧ Upd (Rd p a c s) (Rd p a c (rbit s).2) w w' := by
  obtain ⟨l, e, h⟩ := Rd.q hR
  exact (rbitQ h).mono (fun v w' h => ⟨h.1, Rq.upd h.2⟩)
theorem rnum_lt : ∀ (k n m : Nat) (s : RS), n < 2 ^ m → (rnum k n s).1 < 2 ^ (m + k)
  | 0, n, m, _, h => h
  | k + 1, n, m, s, h => by
    have hb : (rbit s).1.toNat ≤ 1 := by cases (rbit s).1 <;> decide
    have := rnum_lt k (2 * n + (rbit s).1.toNat) (m + 1) (rbit s).2 (by rw [Nat.pow_succ]; omega)
    rw [rnum, show m + (k + 1) = m + 1 + k by omega]
    exact this
theorem or_bit (n : Nat) (b : Bool) : n * 2 ||| b.toNat = 2 * n + b.toNat := by
  have h := Nat.two_pow_add_eq_or_of_lt (i := 1) (b := b.toNat) (by cases b <;> decide) n
  rw [Nat.pow_one] at h
  rw [h, Nat.mul_comm]
/-- So many bits as a number; nought, if they end. -/
def rbits (size : Nat) (s : RS) : Nat × RS := (if (rnum size 0 s).2.ended then 0 else (rnum size 0 s).1, (rnum size 0 s).2)
set_option maxHeartbeats 1000000 in
theorem read_spec {n cap e : Nat} {a : Option Addr} {l : List Nat} {sz : Int} {w : World} (hS : SlA w a (l.map B)) (hn : l.length = n) (hlen : n ≤ 1099511627776) (he : min (max sz 0) (8 * n : Nat) = (e : Int)) :
    Does Try.prog 19 #[.slice a n cap, .int .i64 sz] w fun v w' => ∃ p a' c', v = pt p ∧ New (Rr p a' c' l 0 e false) w w' := by
  subst hn
  refine Does_of (args := [_, _]) Try.func19 rfl rfl Try.ntmps19 rfl ?_
  have hH := Hp.start w
  repeat (first | refine WS_seq ?_ | refine WS_region ?_ | refine WL_nil ?_ | (refine WL_r (by first | refine Run_pev rfl | refine k_len rfl (Ty.isl rfl)) rfl ?_))
  refine WL_s (H_make (n := l.length) hH (Ty.sle rfl) (Ty.zer rfl) (Ty.byt rfl) rfl rfl rfl (by omega) (by omega) (by simp only [maxLen]; omega) rfl ?_)
  try clear hH
  intro _ b hH
  replace hH := hH.made 0 rfl (by omega)
  change Hp _ _ _ [_] at hH
  repeat ((refine WL_r (by first | refine Run_pev rfl | refine k_len rfl (Ty.isl rfl) | refine k_min rfl rfl | refine k_max rfl rfl | refine k_mul64 rfl rfl (by omega)) rfl ?_))
  rw [show (l.length : Int) * 8 = ((8 * l.length : Nat) : Int) by omega, he]
  repeat ((refine WL_r (by refine k_buildS (cs := [.slice (some ⟨b, 0, none⟩) l.length l.length, .int .i64 0, .int .i64 e, .bool false]) (Ty.zer rfl) (Ty.plc rfl) rfl) rfl ?_))
  refine WL_s (H_box hH rfl rfl rfl ?_)
  try clear hH
  intro _ p hH
  change Hp _ _ _ [_, _] at hH
  have hB : Blk _ p 85 #[.slice (some ⟨b, 0, none⟩) l.length l.length, .int .i64 0, .int .i64 e, .bool false] := hH.b 1 rfl
  repeat (first | refine WS_seq ?_ | refine WS_region ?_ | refine WL_nil ?_ | (refine WL_r (by first | refine k_nilCheck rfl | refine k_fa rfl (Ty.fld rfl rfl) | refine k_loadb rfl hB rfl (Ty.shp rfl) | refine Run_pev rfl) rfl ?_))
  refine WL_s (H_copyO 0 hH rfl (Ty.sle rfl) rfl rfl (hH.old hS) (by simp) (Nat.le_refl _) (by simp) rfl ?_)
  try clear hH
  intro _ hH
  change Hp _ _ _ [_, _] at hH
  rw [List.drop_of_length_le (by simp), List.append_nil] at hH
  replace hH := (hH.swap (List.Perm.swap _ _ [])).merge 0 1 rfl rfl (by decide)
  repeat (first | refine WS_seq ?_ | refine WS_region ?_ | refine WL_nil ?_ | (refine WL_r (by first | refine Run_pev rfl | apply k_makeFunc) rfl ?_))
  exact WS_ret1 Try.func19 rfl ⟨p, _, _, rfl, hH.new1 0 rfl⟩
/-- What is read is a reader. -/
theorem Rr.rd {p c e : Nat} {a : Option Addr} {l : List Nat} {w w' : World} (h : New (Rr p a c l 0 e false) w w') (he : e ≤ 8 * l.length) (hlen : l.length ≤ 1099511627776) (hl : Byt l) : New (Rd p a c ⟨bl l 0 e, false⟩) w w' :=
  ⟨h.ext, ⟨l, 0, e, h.holds, by omega, he, hlen, hl, rfl⟩, h.fp⟩
theorem Rr.rq {p c e : Nat} {a : Option Addr} {l : List Nat} {w w' : World} (h : New (Rr p a c l 0 e false) w w') (he : e ≤ 8 * l.length) (hlen : l.length ≤ 1099511627776) (hl : Byt l) : New (Rq p a c l e ⟨bl l 0 e, false⟩) w w' :=
  ⟨h.ext, ⟨0, h.holds, by omega, he, hlen, hl, rfl⟩, h.fp⟩
def IsRr (W0 : Nat) (l : List Nat) (e : Nat) : Value → World → Prop := fun v w => ∃ p a c, v = pt p ∧ (Rr p a c l 0 e false).holds w ∧ ∀ x ∈ (Rr p a c l 0 e false).fp, W0 ≤ x
theorem IsRr.st {W0 e : Nat} {l : List Nat} : Stable (IsRr W0 l e) := fun _ _ _ ⟨p, a, c, h, hR, hf⟩ hE => ⟨p, a, c, h, (Rr p a c l 0 e false).keep hR hE (by simp), hf⟩
theorem nb1 (b : Bool) : nb b.toNat 1 = [b] := by cases b <;> rfl
end Go.Proofs.Ytccnhnijglnbmaa
