/- A part of the proof that TopWorse is true at every input; no condition. -/
import Derived.Test.YtpbiicegmcpkpaaGreatT20
import Derived.Shelf.SlSortCmp.Whole1
import Derived.Shelf.Sort.Plain
import Derived.Test.YtpbiicegmcpkpaaGreatProg
namespace Go.Proofs.YtpbiicegmcpkpaaGreat
open Go Go.K Go.P Go.RowKit Go.Proofs
def VQ (v:Value):Prop:=∃ re im,v=.complex .f64 re im
def RF (b m c r:Nat):Res where
 fp:=[b,m]
 holds:=fun w=>Blk w b 249 #[.int .i64 c,.int .i64 r,.map (some m)]∧MapI w m .i64 VQ
 keep:=fun ⟨h1,h2⟩ hE hS=>⟨h1.ext hE (fun hb=>hS _ hb (by simp)),h2.ext hE (fun hb=>hS _ hb (by simp))⟩
 lt:=fun ⟨h1,h2⟩ s hs=>by
  simp at hs
  rcases hs with rfl|rfl
  ·exact h1.lt
  ·exact h2.lt
set_option maxHeartbeats 4000000 in
theorem vnew_spec {c r:Nat} {w:World} (hc:c≤8) (hr:r≤8) :
  Does Tryz.prog 92 #[.int .i64 c,.int .i64 r] w fun v w'=>∃ b m,v=.pointer (some ⟨b,0,none⟩)∧New (RF b m c r) w w':=by
 refine Does_of (args:=[_,_]) Tryz.func92 rfl rfl Tryz.ntmps92 rfl ?_
 have hH:=Hp.start w
 have e1:min (max (c:Int) 0) 8=c:=by omega
 have e2:min (max (r:Int) 0) 8=r:=by omega
 repeat (first|refine WS_seq ?_|refine WS_region ?_|refine WL_nil ?_|(refine WL_r (by first|refine (k_min rfl rfl).is (congrArg (Value.int .i64) e1)|refine (k_min rfl rfl).is (congrArg (Value.int .i64) e2)|refine Run_pev rfl|refine k_max rfl rfl) rfl ?_))
 refine WL_s (H_makeMap .i64 VQ hH rfl ?_)
 intro _ m1 hH
 replace hH:=nn1 hH
 repeat ((refine WL_r (by refine k_buildS (cs:=[.int .i64 c,.int .i64 r,.map (some m1)]) (Ty.zer rfl) (Ty.plc rfl) rfl) rfl ?_))
 refine WL_s (H_box (cs:=#[.int .i64 c,.int .i64 r,.map (some m1)]) hH rfl rfl rfl ?_)
 try clear hH
 intro _ b1 hH
 replace hH:=nn2 hH
 repeat (first|refine WL_nil ?_|refine lp rfl rfl ?_)
 refine WS_ret1 Tryz.func92 rfl ⟨b1,m1,rfl,hH.ext,⟨hH.b 1 rfl,hH.at 0 rfl⟩,?_⟩
 intro x hx
 simp [RF] at hx
 rcases hx with rfl|rfl
 ·rcases hH.new _ (List.mem_of_getElem? (i:=1) rfl) x (by simp [Rb]) with h|h;cases h;exact h
 ·rcases hH.new _ (List.mem_of_getElem? (i:=0) rfl) x (by simp [Rm]) with h|h;cases h;exact h
theorem ptrF:isPtr Tryz.prog 165=true:=by kernel_rfl
section
variable {b m c r mb k:Nat} {w:World}
set_option maxHeartbeats 4000000 in
theorem vplace_spec (hc:c≤8) (hr:r≤8) (hmb:mb<c*r) (hk:k<4) (hR:(RF b m c r).holds w) :
  Does Tryz.prog 133 #[.pointer (some ⟨b,0,none⟩),.int .i64 mb,.int .i64 k] w fun v w'=>(∃ X Y:Nat,X≤300∧Y≤300∧v=.tuple #[.int .i64 X,.int .i64 Y])∧Ext [] w w':=by
 refine Does_of (args:=[_,_,_]) Tryz.func133 rfl rfl Tryz.ntmps133 rfl ?_
 obtain ⟨hm,hc1⟩:=lt_rows hc hr hmb
 have hB:=hR.1
 have e1:max (c:Int) 1=c:=by omega
 obtain ⟨M,hM⟩:∃ M,mb % c=M:=⟨_,rfl⟩
 obtain ⟨D,hD⟩:∃ D,mb / c=D:=⟨_,rfl⟩
 have e4:M<c:=hM▸Nat.mod_lt _ (by omega)
 have e5:D≤mb:=hD▸Nat.div_le_self _ _
 repeat (first|refine WS_seq ?_|refine WS_region ?_|refine WL_nil ?_|(refine WL_r (by first|refine k_nilCheck rfl|refine k_fa rfl (Ty.fld rfl rfl)|refine k_loadb rfl hB rfl (Ty.shp rfl)|refine (k_max rfl rfl).is (congrArg (Value.int .i64) e1)|refine Run_pev rfl) rfl ?_))
 refine WS_drawE Ty.mixed 16 rfl (fun w1 hx1=>?_)
 refine wp 0 hx1 rfl rfl rfl rfl ?_
 refine wp 1 hx1 rfl rfl rfl rfl ?_
 refine wt 2 hx1 rfl rfl rfl (fun w' hw'=>by refine (k_remu (m:=mb) (n:=c) rfl rfl (by omega)).is (congrArg (fun n:Nat=>Value.int .i64 n) hM)) ?_
 refine wt 3 hx1 rfl rfl rfl (fun w' hw'=>by refine k_mul64 (m:=2) (n:=M) rfl rfl (by omega)) ?_
 refine wp 4 hx1 rfl rfl rfl rfl ?_
 refine wt 5 hx1 rfl rfl rfl (fun w' hw'=>by refine k_remu (n:=2) rfl rfl (by decide)) ?_
 refine wt 6 hx1 rfl rfl rfl (fun w' hw'=>by refine k_add64 rfl rfl (by omega)) ?_
 refine wp 7 hx1 rfl rfl rfl rfl ?_
 refine wp 8 hx1 rfl rfl rfl rfl ?_
 refine wt 9 hx1 rfl rfl rfl (fun w' hw'=>by refine (k_quou (m:=mb) (n:=c) rfl rfl (by omega) (fiti (by omega))).is (congrArg (fun n:Nat=>Value.int .i64 n) hD)) ?_
 refine wt 10 hx1 rfl rfl rfl (fun w' hw'=>by refine k_mul64 (m:=2) (n:=D) rfl rfl (by omega)) ?_
 refine wp 11 hx1 rfl rfl rfl rfl ?_
 refine wt 12 hx1 rfl rfl rfl (fun w' hw'=>by refine k_quou (n:=2) rfl rfl (by decide) (fiti (by omega))) ?_
 refine wt 13 hx1 rfl rfl rfl (fun w' hw'=>by refine k_add64 rfl rfl (by omega)) ?_
 refine wp 14 hx1 rfl rfl rfl rfl ?_
 refine wp 15 hx1 rfl rfl rfl rfl ?_
 refine WA_done (by kernel_rfl) ?_
 skip
 exact WS_ret2 Tryz.func133 rfl ⟨⟨2*M+k % 2,2*D+k / 2,by omega,by omega,rfl⟩,hx1⟩
set_option maxRecDepth 20000 in
set_option maxHeartbeats 4000000 in
theorem vset_spec {re im:Nat} (hc:c≤8) (hr:r≤8) (hmb:mb<c*r) (hk:k<4) (hR:(RF b m c r).holds w) :
  Does Tryz.prog 100 #[.pointer (some ⟨b,0,none⟩),.int .i64 mb,.int .i64 k,.complex .f64 re im] w fun v w'=>v=.tuple #[]∧Upd (RF b m c r) (RF b m c r) w w':=by
 refine Does_of (args:=[_,_,_,_]) Tryz.func100 rfl rfl Tryz.ntmps100 rfl ?_
 obtain ⟨hm,hc1⟩:=lt_rows hc hr hmb
 have hH:=Hp.start1 hR
 have hB:=hR.1
 have hcr:c*r≤64:=Nat.mul_le_mul hc hr
 have hcm:(c:Int)*r=((c*r:Nat):Int):=by simp
 repeat refine WS_seq ?_
 refine WS_drawE Ty.mixed 27 rfl (fun w1 hx1=>?_)
 refine wp 0 hx1 rfl rfl rfl rfl ?_
 refine wt 1 hx1 rfl rfl rfl (fun w' hw'=>by refine k_pnil rfl rfl (.inr rfl) ptrF) ?_
 refine wp 2 hx1 rfl rfl rfl rfl ?_
 refine WA_takey 3 rfl (by kernel_rfl) hx1 rfl rfl rfl rfl rfl (fun w' hw'=>by refine Run_pev rfl) ?_
 refine WA_takey 4 rfl (by kernel_rfl) hx1 rfl rfl rfl rfl rfl (fun w' hw'=>by exact Run_pev (congrArg some (dF (by omega)))) ?_
 refine wp 5 hx1 rfl rfl rfl rfl ?_
 refine wp 6 hx1 rfl rfl rfl rfl ?_
 refine WA_takey 7 rfl (by kernel_rfl) hx1 rfl rfl rfl rfl rfl (fun w' hw'=>by refine Run_pev rfl) ?_
 refine WA_takey 8 rfl (by kernel_rfl) hx1 rfl rfl rfl rfl rfl (fun w' hw'=>by refine Run_pev rfl) ?_
 refine WA_takey 9 rfl (by kernel_rfl) hx1 rfl rfl rfl rfl rfl (fun w' hw'=>by refine k_nilCheck rfl) ?_
 refine WA_takey 10 rfl (by kernel_rfl) hx1 rfl rfl rfl rfl rfl (fun w' hw'=>by refine k_fa rfl (Ty.fld rfl rfl)) ?_
 refine WA_takey 11 rfl (by kernel_rfl) hx1 rfl rfl rfl rfl rfl (fun w' hw'=>by refine k_loadb rfl (hB.ext0 hw') rfl (Ty.shp rfl)) ?_
 refine WA_takey 12 rfl (by kernel_rfl) hx1 rfl rfl rfl rfl rfl (fun w' hw'=>by refine Run_pev rfl) ?_
 refine WA_takey 13 rfl (by kernel_rfl) hx1 rfl rfl rfl rfl rfl (fun w' hw'=>by refine k_nilCheck rfl) ?_
 refine WA_takey 14 rfl (by kernel_rfl) hx1 rfl rfl rfl rfl rfl (fun w' hw'=>by refine k_fa rfl (Ty.fld rfl rfl)) ?_
 refine WA_takey 15 rfl (by kernel_rfl) hx1 rfl rfl rfl rfl rfl (fun w' hw'=>by refine k_loadb rfl (hB.ext0 hw') rfl (Ty.shp rfl)) ?_
 refine WA_takey 16 rfl (by kernel_rfl) hx1 rfl rfl rfl rfl rfl (fun w' hw'=>by refine (k_mul64 (m:=c) (n:=r) rfl rfl (by omega)).is (congrArg (Value.int .i64) hcm)) ?_
 refine WA_takey 17 rfl (by kernel_rfl) hx1 rfl rfl rfl rfl rfl (fun w' hw'=>by exact Run_pev (congrArg some (dF (by omega)))) ?_
 refine wp 18 hx1 rfl rfl rfl rfl ?_
 refine wp 19 hx1 rfl rfl rfl rfl ?_
 refine WA_takey 20 rfl (by kernel_rfl) hx1 rfl rfl rfl rfl rfl (fun w' hw'=>by refine Run_pev rfl) ?_
 refine WA_takey 21 rfl (by kernel_rfl) hx1 rfl rfl rfl rfl rfl (fun w' hw'=>by exact Run_pev (congrArg some (dF (by omega)))) ?_
 refine wp 22 hx1 rfl rfl rfl rfl ?_
 refine wp 23 hx1 rfl rfl rfl rfl ?_
 refine WA_takey 24 rfl (by kernel_rfl) hx1 rfl rfl rfl rfl rfl (fun w' hw'=>by refine Run_pev rfl) ?_
 refine WA_takey 25 rfl (by kernel_rfl) hx1 rfl rfl rfl rfl rfl (fun w' hw'=>by exact Run_pev (congrArg some (dF (by omega)))) ?_
 refine wp 26 hx1 rfl rfl rfl rfl ?_
 refine WA_done (by kernel_rfl) ?_
 replace hH:=hH.ext0 hx1
 repeat (first|refine WS_seq ?_|refine WS_region ?_|refine WS_skip ?_|refine WS_false rfl ?_|refine lp rfl rfl ?_)
 refine WL_s (S_call ((vplace_spec hc hr hmb hk (hH.at 0 rfl))) rfl rfl ?_)
 rintro _ w2 ⟨⟨X,Y,hX,hY,rfl⟩,hE0⟩
 replace hH:=hH.ext0 hE0
 replace hH:=nn1 hH
 repeat (first|refine WL_nil ?_|(refine WL_r (by first|refine Run_pev rfl|refine k_extract rfl rfl) rfl ?_))
 replace hB:=(hH.at 0 rfl).1
 have hyc:=yW (W:=c) (y:=(Y:Int)*2) (by omega) (by omega)
 refine WS_tail Ty.mixed 14 rfl (by kernel_rfl) rfl (fun w1 hx1=>?_)
 refine wp 0 hx1 rfl rfl rfl rfl ?_
 refine wt 1 hx1 rfl rfl rfl (fun w' hw'=>by refine k_nilCheck rfl) ?_
 refine wt 2 hx1 rfl rfl rfl (fun w' hw'=>by refine k_fa rfl (Ty.fld rfl rfl)) ?_
 refine wt 3 hx1 rfl rfl rfl (fun w' hw'=>by refine k_loadb rfl (hB.ext0 hw') rfl (Ty.shp rfl)) ?_
 refine wp 4 hx1 rfl rfl rfl rfl ?_
 refine wt 5 hx1 rfl rfl rfl (fun w' hw'=>by refine k_mul64 (m:=Y) (n:=2) rfl rfl (by omega)) ?_
 refine wp 6 hx1 rfl rfl rfl rfl ?_
 refine wt 7 hx1 rfl rfl rfl (fun w' hw'=>by refine k_nilCheck rfl) ?_
 refine wt 8 hx1 rfl rfl rfl (fun w' hw'=>by refine k_fa rfl (Ty.fld rfl rfl)) ?_
 refine wt 9 hx1 rfl rfl rfl (fun w' hw'=>by refine k_loadb rfl (hB.ext0 hw') rfl (Ty.shp rfl)) ?_
 refine wt 10 hx1 rfl rfl rfl (fun w' hw'=>by refine k_mul64 (m:=(Y:Int)*2) (n:=c) rfl rfl (by omega)) ?_
 refine wp 11 hx1 rfl rfl rfl rfl ?_
 refine wt 12 hx1 rfl rfl rfl (fun w' hw'=>by refine k_add64 rfl rfl (by omega)) ?_
 refine wp 13 hx1 rfl rfl rfl rfl ?_
 refine WA_done (by kernel_rfl) ?_
 replace hH:=hH.ext0 hx1
 skip
 refine WL_s (S_mapSet (e:=91) (q:=.i64) (by kernel_rfl) rfl rfl rfl (hH.at 0 rfl).2 ⟨re,im,rfl⟩ ?_)
 intro w7 hE hM _
 replace hH:=hH.up 0 rfl (r':=RF b m c r) ⟨hE.weaken (by simp [RF]),⟨(hH.at 0 rfl).1.ext hE (by simpa using blk_map (hH.at 0 rfl).1 (hH.at 0 rfl).2),hM⟩,fun _ hx=>.inl hx⟩
 replace hH:=nn1 hH
 repeat (refine WL_nil ?_)
 exact WS_end0 Tryz.func100 rfl ⟨rfl,hH.upd 0 rfl⟩
set_option maxRecDepth 20000 in
set_option maxHeartbeats 4000000 in
theorem vat_spec {x y:Int} (hc:c≤8) (hr:r≤8) (hx:-1≤x∧x≤2000) (hy:-1≤y∧y≤2000) (hR:(RF b m c r).holds w) :
  Does Tryz.prog 134 #[.pointer (some ⟨b,0,none⟩),.int .i64 x,.int .i64 y] w fun v w'=>(∃ re im o,v=.tuple #[.complex .f64 re im,.bool o])∧Ext [] w w':=by
 refine Does_of (args:=[_,_,_]) Tryz.func134 rfl rfl Tryz.ntmps134 rfl ?_
 have hB:=hR.1
 by_cases h1:x<0
 ·skip
  repeat (first|refine WS_seq ?_|refine WS_region ?_|refine WL_nil ?_|refine WS_true rfl ?_|refine WL_gno rfl rfl rfl rfl rfl ?_|refine WL_gno (b:=true) rfl rfl (dT (by omega)) rfl rfl ?_|(refine WL_r (by first|refine Run_pev rfl|refine k_pick_t (dT (by omega)) rfl) rfl ?_))
  exact WS_ret2 Tryz.func134 rfl ⟨⟨0,0,false,rfl⟩,.refl⟩
 by_cases h2:y<0
 ·skip
  repeat (first|refine WS_seq ?_|refine WS_region ?_|refine WL_nil ?_|refine WS_true rfl ?_|refine WL_gno rfl rfl rfl rfl rfl ?_|refine WL_gyes rfl rfl (dF (by omega)) ?_|refine WL_gno (b:=true) rfl rfl (dT (by omega)) rfl rfl ?_|(refine WL_r (by first|refine Run_pev rfl|refine k_pick_f (dF (by omega)) rfl|refine k_pick_t (dT (by omega)) rfl) rfl ?_))
  exact WS_ret2 Tryz.func134 rfl ⟨⟨0,0,false,rfl⟩,.refl⟩
 by_cases h3:2*(c:Int)≤x
 ·skip
  repeat (first|refine WS_seq ?_|refine WS_region ?_|refine WL_nil ?_|refine WS_true rfl ?_|refine WL_gyes rfl rfl (dF (by omega)) ?_|refine WL_gno (b:=true) rfl rfl (dT (by omega)) rfl rfl ?_|(refine WL_r (by first|refine k_nilCheck rfl|refine k_fa rfl (Ty.fld rfl rfl)|refine k_loadb rfl hB rfl (Ty.shp rfl)|refine Run_pev rfl|refine k_mul64 rfl rfl (by omega)|refine k_pick_f (dF (by omega)) rfl|refine k_pick_t (dT (by omega)) rfl) rfl ?_))
  exact WS_ret2 Tryz.func134 rfl ⟨⟨0,0,false,rfl⟩,.refl⟩
 by_cases h4:2*(r:Int)≤y
 ·skip
  repeat (first|refine WS_seq ?_|refine WS_region ?_|refine WL_nil ?_|refine WS_yes rfl (by omega) ?_|refine WL_gyes rfl rfl (dF (by omega)) ?_|(refine WL_r (by first|refine k_nilCheck rfl|refine k_fa rfl (Ty.fld rfl rfl)|refine k_loadb rfl hB rfl (Ty.shp rfl)|refine Run_pev rfl|refine k_mul64 rfl rfl (by omega)|refine k_pick_f (dF (by omega)) rfl) rfl ?_))
  exact WS_ret2 Tryz.func134 rfl ⟨⟨0,0,false,rfl⟩,.refl⟩
 repeat (first|refine WS_seq ?_|refine WS_region ?_|refine WL_nil ?_|refine WS_skip ?_|refine WS_no rfl (by omega) ?_|refine WL_gyes rfl rfl (dF (by omega)) ?_|(refine WL_r (by first|refine k_nilCheck rfl|refine k_fa rfl (Ty.fld rfl rfl)|refine k_loadb rfl hB rfl (Ty.shp rfl)|refine Run_pev rfl|refine k_mul64 rfl rfl (by omega)|refine k_pick_f (dF (by omega)) rfl) rfl ?_))
 have hyc:=yW (W:=c) (y:=y*2) (by omega) (by omega)
 refine WS_drawE Ty.mixed 19 rfl (fun w1 hx1=>?_)
 refine wp 0 hx1 rfl rfl rfl rfl ?_
 refine wt 1 hx1 rfl rfl rfl (fun w' hw'=>by refine k_nilCheck rfl) ?_
 refine wt 2 hx1 rfl rfl rfl (fun w' hw'=>by refine k_fa rfl (Ty.fld rfl rfl)) ?_
 refine wt 3 hx1 rfl rfl rfl (fun w' hw'=>by refine k_loadb rfl (hB.ext0 hw') rfl (Ty.shp rfl)) ?_
 refine wp 4 hx1 rfl rfl rfl rfl ?_
 refine wt 5 hx1 rfl rfl rfl (fun w' hw'=>by refine k_mul64 (m:=y) (n:=2) rfl rfl (by omega)) ?_
 refine wp 6 hx1 rfl rfl rfl rfl ?_
 refine wt 7 hx1 rfl rfl rfl (fun w' hw'=>by refine k_nilCheck rfl) ?_
 refine wt 8 hx1 rfl rfl rfl (fun w' hw'=>by refine k_fa rfl (Ty.fld rfl rfl)) ?_
 refine wt 9 hx1 rfl rfl rfl (fun w' hw'=>by refine k_loadb rfl (hB.ext0 hw') rfl (Ty.shp rfl)) ?_
 refine wt 10 hx1 rfl rfl rfl (fun w' hw'=>by refine k_mul64 (m:=y*2) (n:=c) rfl rfl (by omega)) ?_
 refine wp 11 hx1 rfl rfl rfl rfl ?_
 refine wt 12 hx1 rfl rfl rfl (fun w' hw'=>by refine k_add64 rfl rfl (by omega)) ?_
 refine WA_one 13 (by kernel_rfl) rfl rfl (S_lookupT (e:=91) (q:=.i64) (u:=.complex .f64 0 0) (by kernel_rfl) (by kernel_rfl) rfl rfl (hR.2.ext0 hx1) rfl ?_)
 intro v o hv
 obtain ⟨re,im,rfl⟩:VQ v:=by
  rcases hv with h|rfl
  ·exact h
  ·exact ⟨0,0,rfl⟩
 refine ⟨hx1,?_⟩
 refine wp 14 hx1 rfl rfl rfl rfl ?_
 refine wt 15 hx1 rfl rfl rfl (fun w' hw'=>by refine k_extract rfl rfl) ?_
 refine wt 16 hx1 rfl rfl rfl (fun w' hw'=>by refine k_extract rfl rfl) ?_
 refine wp 17 hx1 rfl rfl rfl rfl ?_
 refine wp 18 hx1 rfl rfl rfl rfl ?_
 refine WA_done (by kernel_rfl) ?_
 repeat (first|refine WS_seq ?_|refine WS_region ?_|refine WL_nil ?_|refine lp rfl rfl ?_)
 exact WS_ret2 Tryz.func134 rfl ⟨⟨re,im,o,rfl⟩,hx1⟩
set_option maxRecDepth 20000 in
set_option maxHeartbeats 4000000 in
theorem vexp_spec (hc:c≤8) (hr:r≤8) (hmb:mb<c*r) (hk:k<4) (hR:(RF b m c r).holds w) :
  Does Tryz.prog 99 #[.pointer (some ⟨b,0,none⟩),.int .i64 mb,.int .i64 k] w fun v w'=>(∃ re im,v=.complex .f64 re im)∧Ext [] w w':=by
 refine Does_of (args:=[_,_,_]) Tryz.func99 rfl rfl Tryz.ntmps99 rfl ?_
 obtain ⟨hm,hc1⟩:=lt_rows hc hr hmb
 have hH:=Hp.start w
 have hB:=hR.1
 have hcr:c*r≤64:=Nat.mul_le_mul hc hr
 have hcm:(c:Int)*r=((c*r:Nat):Int):=by simp
 repeat (first|refine WS_seq ?_|refine WS_region ?_|refine WL_nil ?_|refine lp rfl rfl ?_)
 refine WS_drawE Ty.mixed 27 rfl (fun w1 hx1=>?_)
 refine wp 0 hx1 rfl rfl rfl rfl ?_
 refine wt 1 hx1 rfl rfl rfl (fun w' hw'=>by refine k_pnil rfl rfl (.inr rfl) ptrF) ?_
 refine wp 2 hx1 rfl rfl rfl rfl ?_
 refine WA_takey 3 rfl (by kernel_rfl) hx1 rfl rfl rfl rfl rfl (fun w' hw'=>by refine Run_pev rfl) ?_
 refine WA_takey 4 rfl (by kernel_rfl) hx1 rfl rfl rfl rfl rfl (fun w' hw'=>by exact Run_pev (congrArg some (dF (by omega)))) ?_
 refine wp 5 hx1 rfl rfl rfl rfl ?_
 refine wp 6 hx1 rfl rfl rfl rfl ?_
 refine WA_takey 7 rfl (by kernel_rfl) hx1 rfl rfl rfl rfl rfl (fun w' hw'=>by refine Run_pev rfl) ?_
 refine WA_takey 8 rfl (by kernel_rfl) hx1 rfl rfl rfl rfl rfl (fun w' hw'=>by refine Run_pev rfl) ?_
 refine WA_takey 9 rfl (by kernel_rfl) hx1 rfl rfl rfl rfl rfl (fun w' hw'=>by refine k_nilCheck rfl) ?_
 refine WA_takey 10 rfl (by kernel_rfl) hx1 rfl rfl rfl rfl rfl (fun w' hw'=>by refine k_fa rfl (Ty.fld rfl rfl)) ?_
 refine WA_takey 11 rfl (by kernel_rfl) hx1 rfl rfl rfl rfl rfl (fun w' hw'=>by refine k_loadb rfl (hB.ext0 hw') rfl (Ty.shp rfl)) ?_
 refine WA_takey 12 rfl (by kernel_rfl) hx1 rfl rfl rfl rfl rfl (fun w' hw'=>by refine Run_pev rfl) ?_
 refine WA_takey 13 rfl (by kernel_rfl) hx1 rfl rfl rfl rfl rfl (fun w' hw'=>by refine k_nilCheck rfl) ?_
 refine WA_takey 14 rfl (by kernel_rfl) hx1 rfl rfl rfl rfl rfl (fun w' hw'=>by refine k_fa rfl (Ty.fld rfl rfl)) ?_
 refine WA_takey 15 rfl (by kernel_rfl) hx1 rfl rfl rfl rfl rfl (fun w' hw'=>by refine k_loadb rfl (hB.ext0 hw') rfl (Ty.shp rfl)) ?_
 refine WA_takey 16 rfl (by kernel_rfl) hx1 rfl rfl rfl rfl rfl (fun w' hw'=>by refine (k_mul64 (m:=c) (n:=r) rfl rfl (by omega)).is (congrArg (Value.int .i64) hcm)) ?_
 refine WA_takey 17 rfl (by kernel_rfl) hx1 rfl rfl rfl rfl rfl (fun w' hw'=>by exact Run_pev (congrArg some (dF (by omega)))) ?_
 refine wp 18 hx1 rfl rfl rfl rfl ?_
 refine wp 19 hx1 rfl rfl rfl rfl ?_
 refine WA_takey 20 rfl (by kernel_rfl) hx1 rfl rfl rfl rfl rfl (fun w' hw'=>by refine Run_pev rfl) ?_
 refine WA_takey 21 rfl (by kernel_rfl) hx1 rfl rfl rfl rfl rfl (fun w' hw'=>by exact Run_pev (congrArg some (dF (by omega)))) ?_
 refine wp 22 hx1 rfl rfl rfl rfl ?_
 refine wp 23 hx1 rfl rfl rfl rfl ?_
 refine WA_takey 24 rfl (by kernel_rfl) hx1 rfl rfl rfl rfl rfl (fun w' hw'=>by refine Run_pev rfl) ?_
 refine WA_takey 25 rfl (by kernel_rfl) hx1 rfl rfl rfl rfl rfl (fun w' hw'=>by exact Run_pev (congrArg some (dF (by omega)))) ?_
 refine wp 26 hx1 rfl rfl rfl rfl ?_
 refine WA_done (by kernel_rfl) ?_
 replace hH:=hH.ext0 hx1
 repeat (first|refine WS_seq ?_|refine WS_region ?_|refine WS_skip ?_|refine WS_false rfl ?_|refine lp rfl rfl ?_)
 refine WL_s (S_call ((vplace_spec hc hr hmb hk ((RF b m c r).keep hR hH.ext (by simp)))) rfl rfl ?_)
 rintro _ w2 ⟨⟨X,Y,hX,hY,rfl⟩,hE0⟩
 replace hH:=hH.ext0 hE0
 replace hH:=nn0 hH
 repeat (first|refine WS_seq ?_|refine WS_region ?_|refine WL_nil ?_|refine WS_block ?_|(refine WL_r (by first|refine k_buildA (cs:=[.int .i64 ((X:Int)-1),.int .i64 Y]) (Ty.zer rfl) (Ty.arr rfl) rfl|refine k_buildA (cs:=[.int .i64 X,.int .i64 ((Y:Int)-1)]) (Ty.zer rfl) (Ty.arr rfl) rfl|refine k_buildA (cs:=[.int .i64 ((X:Int)+1),.int .i64 ((Y:Int)-1)]) (Ty.zer rfl) (Ty.arr rfl) rfl|refine k_buildA (cs:=[.int .i64 ((X:Int)-1),.int .i64 Y,.int .i64 X,.int .i64 ((Y:Int)-1),.int .i64 ((X:Int)+1),.int .i64 ((Y:Int)-1)]) (Ty.zer rfl) (Ty.arr rfl) rfl|refine Run_pev rfl|refine k_add64 rfl rfl (by omega)|refine k_sub64 rfl rfl (by omega)|refine k_extract rfl rfl) rfl ?_))
 refine WS_loop (G:=(Nat) × (Option Addr) × (Nat) × (Nat) × (List Value)) (fun|(i,a,n,cap,vs)=>3-i) 1208921207928610747333120 (fun|(i,a,n,cap,vs)=>[(62,.int .i64 i),(9,.slice a n cap)]) (fun|(i,a,n,cap,vs),w'=>i≤3∧n≤i∧vs.length=n∧(∀ v∈vs,VQ v)∧Hp [] w w' [Ro 91 1 a n cap vs]) (0,none,0,0,[]) ⟨rfl,rfl,trivial⟩ ⟨by omega,by omega,rfl,by simp,hH.nu New.nilO⟩ ?_
 rintro ⟨i,a,n,cap,vs⟩ w' σ ⟨hi,hn,hvl,hvq,hH⟩ IH
 show WS _ _ _ _ _ (updL [(62,.int .i64 i),(9,.slice a n cap)] _) _
 by_cases hlt:i<3
 ·obtain ⟨x,y,hx,hy,hxy⟩:∃ x y:Int,(-1≤x∧x≤2000)∧(-1≤y∧y≤2000)∧(#[Value.int .i64 ((X:Int)-1),.int .i64 Y,.int .i64 X,.int .i64 ((Y:Int)-1),.int .i64 ((X:Int)+1),.int .i64 ((Y:Int)-1)]).extract (i*2) (i*2+2)=#[.int .i64 x,.int .i64 y]:=by
   rcases (show i=0∨i=1∨i=2 by omega) with rfl|rfl|rfl
   ·exact ⟨_,_,by omega,by omega,rfl⟩
   ·exact ⟨_,_,by omega,by omega,rfl⟩
   ·exact ⟨_,_,by omega,by omega,rfl⟩
  repeat (first|refine WS_seq ?_|refine WS_region ?_|refine WL_nil ?_|refine WS_block ?_|refine WS_skip ?_|refine WS_yes rfl (by omega) ?_|(refine WL_r (by first|refine (k_indexN rfl rfl (Ty.arr rfl) (by omega)).is (congrArg Value.agg hxy)|refine Run_pev rfl) rfl ?_))
  refine WL_s (H_alloc hH (Ty.zer rfl) rfl ?_)
  try clear hH
  intro _ b2 hH
  replace hH:=nn2 hH
  refine WL_s (H_storeA 1 (vs:=#[.int .i64 x,.int .i64 y]) (s:=2) hH rfl rfl rfl (by rfl) (by rfl) (by simp [Value.oneCell']) (Ty.shp rfl) ?_)
  try clear hH
  intro _ hH
  replace hH:=nn2 hH
  have hB2:=hH.b 1 rfl
  repeat (first|refine WS_seq ?_|refine WS_region ?_|refine WL_nil ?_|(refine WL_r (by first|refine k_ixa1 rfl rfl (Ty.arr rfl) (by decide)|refine k_loadb rfl hB2 rfl (Ty.shp rfl)|refine Run_pev rfl) rfl ?_))
  refine WL_s (S_call ((vat_spec hc hr hx hy ((RF b m c r).keep hR hH.ext (by simp)))) rfl rfl ?_)
  rintro _ w3 ⟨⟨re,im,o,rfl⟩,hE1⟩
  replace hH:=hH.ext0 hE1
  replace hH:=nn2 hH
  cases o
  ·repeat (first|refine WS_seq ?_|refine WS_region ?_|refine WL_nil ?_|refine WS_inBlock ?_|refine WS_skip ?_|refine WS_false rfl ?_|(refine WL_r (by first|refine Run_pev rfl|refine k_add64 rfl rfl (by omega)|refine k_extract rfl rfl) rfl ?_))
   replace hH:=hH.del 1
   replace hH:=nn1 hH
   refine IH (i+1,a,n,cap,vs) _ _ ?_ ?_ ?_ ?_
   ·simp only;omega
   ·exact ⟨rfl,rfl,trivial⟩
   ·repeat first|with_reducible apply Agr.refl|refine Agr.upd rfl ?_|refine Agr.updL rfl ?_|refine Agr.mrg rfl ?_
   ·exact ⟨by omega,by omega,hvl,hvq,hH⟩
  ·skip
   repeat (first|refine WS_seq ?_|refine WS_region ?_|refine WL_nil ?_|refine WS_true rfl ?_|(refine WL_r (by first|refine Run_pev rfl|refine k_extract rfl rfl) rfl ?_))
   refine WL_s (H_lit (out:=[.complex .f64 re im]) hH (Ty.sle rfl) (Ty.zer rfl) rfl rfl rfl (by decide) rfl ?_)
   try clear hH
   intro _ blit hH
   replace hH:=nn3 hH
   refine WL_s (H_append 0 hH rfl (Ty.sle rfl) (Ty.zer rfl) rfl (Ty.byt rfl) (by decide) rfl rfl ((hH.b 2 rfl).sl0) (by simp;try omega) (by simp) (by omega) (by simp only [maxLen];omega) rfl ?_)
   try clear hH
   intro _ a2 c2 hH
   replace hH:=nn3 hH
   replace hH:=hH.del 2
   replace hH:=nn2 hH
   repeat (first|refine WS_region ?_|refine WL_nil ?_|refine WS_inBlock ?_|(refine WL_r (by first|refine Run_pev rfl|refine k_add64 rfl rfl (by omega)) rfl ?_))
   replace hH:=hH.del 1
   replace hH:=nn1 hH
   refine IH (i+1,a2,n+1,c2,vs++[.complex .f64 re im]) _ _ ?_ ?_ ?_ ?_
   ·simp only;omega
   ·exact ⟨rfl,rfl,trivial⟩
   ·repeat first|with_reducible apply Agr.refl|refine Agr.upd rfl ?_|refine Agr.updL rfl ?_|refine Agr.mrg rfl ?_
   ·exact ⟨by omega,by omega,by simp [hvl],fun v hv=>by rcases List.mem_append.1 hv with h|h;exact hvq v h;exact ⟨re,im,by simpa using h⟩,hH⟩
 ·obtain rfl:i=3:=by omega
  have hS:=(hH.o 0 rfl).sl
  rcases vs with _|⟨v0,vs⟩
  ·obtain rfl:n=0:=by simpa using hvl.symm
   repeat (first|refine WS_seq ?_|refine WS_region ?_|refine WL_nil ?_|refine WS_block ?_|refine WS_exit rfl ?_|refine WS_true rfl ?_|refine WS_false rfl ?_|(refine WL_r (by first|refine Run_pev rfl|refine k_len rfl (Ty.isl rfl)) rfl ?_))
   exact WS_ret1 Tryz.func99 rfl ⟨⟨0,0,rfl⟩,hH.ext⟩
  obtain ⟨r0,j0,rfl⟩:=hvq v0 (by simp)
  by_cases h3:n=3
  ·subst h3
   rcases vs with _|⟨v1,_|⟨v2,_|⟨v3,vs⟩⟩⟩
   ·simp at hvl
   ·simp at hvl
   ·obtain ⟨r1,j1,rfl⟩:=hvq v1 (by simp)
    obtain ⟨r2,j2,rfl⟩:=hvq v2 (by simp)
    repeat (first|refine WS_seq ?_|refine WS_region ?_|refine WL_nil ?_|refine WS_block ?_|refine WS_exit rfl ?_|refine WS_true rfl ?_|refine WS_false rfl ?_|(refine WL_r (by first|refine Run_pev rfl|refine k_len rfl (Ty.isl rfl)) rfl ?_))
    refine WS_specK [Is (.slice a 3 cap),Is (.pointer (some (At a (0:Int).toNat))),Is (.complex .f64 r0 j0),Is (.slice a 3 cap),Is (.pointer (some (At a (1:Int).toNat))),Is (.complex .f64 r1 j1),Is (.slice a 3 cap),Is (.pointer (some (At a (2:Int).toNat))),Is (.complex .f64 r2 j2),Is (CV (med3 (whole r0) (whole r1) (whole r2)) (med3 (whole j0) (whole j1) (whole j2))),Is (CV (med3 (whole r0) (whole r1) (whole r2)) (med3 (whole j0) (whole j1) (whole j2)))] Ty.mixed [(78918677504442992524819169280,[],true),(78686563747076983723275583488,[(0,86)],true),(39227224994855487460865998848,[(1,87)],true),(77293881202880930914014068736,[],true),(75436971143952860501665382400,[(3,89)],true),(37060829926106071979792531456,[(4,90)],true),(64295510790384438027573264384,[],true),(49440230318959874728783773696,[(6,92)],true),(19729669376110748131204792320,[(7,93)],true),(39536710004676832529590779904,[(2,88),(5,91),(8,94)],true),(79150791261809001326362755072,[(9,95)],true)] 79150791261809001326362755136 [(10,6)] (by kernel_rfl) (by kernel_rfl) (by kernel_rfl) (by kernel_rfl) (by kernel_rfl) ⟨Is.st,Is.st,Is.st,Is.st,Is.st,Is.st,Is.st,Is.st,Is.st,Is.st,Is.st,trivial⟩ ⟨⟨GOk.none,?_⟩,⟨GOk.none,?_⟩,⟨GOk.none,?_⟩,⟨GOk.none,?_⟩,⟨GOk.none,?_⟩,⟨GOk.none,?_⟩,⟨GOk.none,?_⟩,⟨GOk.none,?_⟩,⟨GOk.none,?_⟩,⟨GOk.none,?_⟩,⟨GOk.none,?_⟩,trivial⟩ ?_
    ·intro w'' hE''
     intro σ''
     exact sp_is (by refine Run_pev rfl) rfl
    ·intro w'' hE''
     rintro _ rfl
     intro σ''
     exact sp_is (by refine k_ix1 rfl rfl (hS.ext0 hE'') rfl (Ty.sle rfl) (by decide)) rfl
    ·intro w'' hE''
     rintro _ rfl
     intro σ''
     exact sp_is (by refine k_loads rfl (hS.ext0 hE'') rfl (Ty.shp rfl)) rfl
    ·intro w'' hE''
     intro σ''
     exact sp_is (by refine Run_pev rfl) rfl
    ·intro w'' hE''
     rintro _ rfl
     intro σ''
     exact sp_is (by refine k_ix1 rfl rfl (hS.ext0 hE'') rfl (Ty.sle rfl) (by decide)) rfl
    ·intro w'' hE''
     rintro _ rfl
     intro σ''
     exact sp_is (by refine k_loads rfl (hS.ext0 hE'') rfl (Ty.shp rfl)) rfl
    ·intro w'' hE''
     intro σ''
     exact sp_is (by refine Run_pev rfl) rfl
    ·intro w'' hE''
     rintro _ rfl
     intro σ''
     exact sp_is (by refine k_ix1 rfl rfl (hS.ext0 hE'') rfl (Ty.sle rfl) (by decide)) rfl
    ·intro w'' hE''
     rintro _ rfl
     intro σ''
     exact sp_is (by refine k_loads rfl (hS.ext0 hE'') rfl (Ty.shp rfl)) rfl
    ·intro w'' hE''
     rintro _ rfl
     rintro _ rfl
     rintro _ rfl
     intro σ''
     refine S_call median_spec rfl rfl ?_
     rintro v w3'' ⟨rfl,rfl⟩
     exact ⟨.refl,_,rfl,rfl⟩
    ·intro w'' hE''
     rintro _ rfl
     intro σ''
     exact sp_is (by refine Run_pev rfl) rfl
    intro w'' hE''
    rintro _ rfl
    intro σ''
    skip
    exact WS_ret1 Tryz.func99 rfl ⟨⟨_,_,rfl⟩,(hH.ext0 hE'').ext⟩
   ·simp at hvl
  ·have hl0:(Value.complex .f64 r0 j0::vs).length=n:=hvl
   have hn1:1≤n:=by simp at hvl;omega
   repeat (first|refine WS_seq ?_|refine WS_region ?_|refine WL_nil ?_|refine WS_block ?_|refine WS_inBlock ?_|refine WS_skip ?_|refine WS_exit rfl ?_|refine WS_false rfl ?_|refine WS_no rfl (by omega) ?_|(refine WL_r (by first|refine k_ix1 rfl rfl hS hl0 (Ty.sle rfl) (by omega)|refine k_loads rfl hS rfl (Ty.shp rfl)|refine Run_pev rfl|refine k_len rfl (Ty.isl rfl)) rfl ?_))
   exact WS_ret1 Tryz.func99 rfl ⟨⟨_,_,rfl⟩,hH.ext⟩
end
end Go.Proofs.YtpbiicegmcpkpaaGreat
namespace Go.Proofs
open Go.Shelf
def Tryz.sortF_ren:Go.Shelf.Ren:=⟨fun|6=>187|15=>111|14=>191|28=>154|29=>155|20=>192|21=>193|22=>194|23=>195|24=>196|25=>197|26=>198|27=>199|46=>200|47=>177|48=>178|49=>201|50=>202|57=>203|n=>n,fun|22=>50|24=>3|25=>73|3=>3|39=>126|0=>0|53=>87|55=>85|4=>4|46=>272|45=>271|50=>207|5=>5|9=>9|66=>296|70=>299|76=>309|77=>139|n=>n,fun|n=>n⟩
theorem Tryz.sortF:Go.Proofs.SlLaysF.n6 Tryz.prog Tryz.sortF_ren:={
 mixed:=by kernel_rfl
 f6:=⟨Tryz.f187.name,by decide,Tryz.func187.trans (congrArg some (by kernel_rfl))⟩
 f14:=⟨Tryz.f191.name,by decide,Tryz.func191.trans (congrArg some (by kernel_rfl))⟩
 f15:=Tryz.func111.trans (congrArg some (by kernel_rfl))
 f20:=⟨Tryz.f192.name,by decide,Tryz.func192.trans (congrArg some (by kernel_rfl))⟩
 f21:=⟨Tryz.f193.name,by decide,Tryz.func193.trans (congrArg some (by kernel_rfl))⟩
 f22:=⟨Tryz.f194.name,by decide,Tryz.func194.trans (congrArg some (by kernel_rfl))⟩
 f23:=⟨Tryz.f195.name,by decide,Tryz.func195.trans (congrArg some (by kernel_rfl))⟩
 f24:=⟨Tryz.f196.name,by decide,Tryz.func196.trans (congrArg some (by kernel_rfl))⟩
 f25:=⟨Tryz.f197.name,by decide,Tryz.func197.trans (congrArg some (by kernel_rfl))⟩
 f26:=⟨Tryz.f198.name,by decide,Tryz.func198.trans (congrArg some (by kernel_rfl))⟩
 f27:=⟨Tryz.f199.name,by decide,Tryz.func199.trans (congrArg some (by kernel_rfl))⟩
 f28:=Tryz.func154.trans (congrArg some (by kernel_rfl))
 f29:=Tryz.func155.trans (congrArg some (by kernel_rfl))
 f46:=⟨Tryz.f200.name,by decide,Tryz.func200.trans (congrArg some (by kernel_rfl))⟩
 f47:=Tryz.func177.trans (congrArg some (by kernel_rfl))
 f48:=Tryz.func178.trans (congrArg some (by kernel_rfl))
 f49:=⟨Tryz.f201.name,by decide,Tryz.func201.trans (congrArg some (by kernel_rfl))⟩
 f50:=⟨Tryz.f202.name,by decide,Tryz.func202.trans (congrArg some (by kernel_rfl))⟩
 f57:=⟨Tryz.f203.name,by decide,Tryz.func203.trans (congrArg some (by kernel_rfl))⟩
 t0:=Tryz.underlying0
 a0:=Tryz.isAgg0
 z0:=Tryz.sizeOf0
 v0:=Tryz.zeroValue0
 t3:=Tryz.underlying3
 a3:=Tryz.isAgg3
 z3:=Tryz.sizeOf3
 v3:=Tryz.zeroValue3
 t4:=Tryz.underlying4
 a4:=Tryz.isAgg4
 z4:=Tryz.sizeOf4
 v4:=Tryz.zeroValue4
 t5:=Tryz.underlying5
 a5:=Tryz.isAgg5
 z5:=Tryz.sizeOf5
 v5:=Tryz.zeroValue5
 t9:=Tryz.underlying9
 a9:=Tryz.isAgg9
 z9:=Tryz.sizeOf9
 v9:=Tryz.zeroValue9
 t22:=Tryz.underlying50
 a22:=Tryz.isAgg50
 z22:=Tryz.sizeOf50
 v22:=Tryz.zeroValue50
 a24:=Tryz.isAgg3
 z24:=Tryz.sizeOf3
 t25:=Tryz.underlying73
 a25:=Tryz.isAgg73
 z25:=Tryz.sizeOf73
 v25:=Tryz.zeroValue73
 t39:=Tryz.underlying126
 a39:=Tryz.isAgg126
 z39:=Tryz.sizeOf126
 v39:=Tryz.zeroValue126
 t45:=Tryz.underlying271
 a45:=Tryz.isAgg271
 z45:=Tryz.sizeOf271
 v45:=Tryz.zeroValue271
 t46:=Tryz.underlying272
 a46:=Tryz.isAgg272
 z46:=Tryz.sizeOf272
 v46:=Tryz.zeroValue272
 t50:=Tryz.underlying207
 a50:=Tryz.isAgg207
 z50:=Tryz.sizeOf207
 v50:=Tryz.zeroValue207
 t53:=Tryz.underlying87
 a53:=Tryz.isAgg87
 z53:=Tryz.sizeOf87
 v53:=Tryz.zeroValue87
 t55:=Tryz.underlying85
 a55:=Tryz.isAgg85
 z55:=Tryz.sizeOf85
 v55:=Tryz.zeroValue85
 t66:=Tryz.underlying296
 a66:=Tryz.isAgg296
 z66:=Tryz.sizeOf296
 v66:=Tryz.zeroValue296
 t70:=Tryz.underlying299
 a70:=Tryz.isAgg299
 z70:=Tryz.sizeOf299
 v70:=Tryz.zeroValue299
 t76:=Tryz.underlying309
 a76:=Tryz.isAgg309
 z76:=Tryz.sizeOf309
 v76:=Tryz.zeroValue309
 t77:=Tryz.underlying139
 a77:=Tryz.isAgg139
 z77:=Tryz.sizeOf139
 v77:=Tryz.zeroValue139 }
def Tryz.sortI_ren:Go.Shelf.Ren:=⟨fun|189=>80|125=>111|257=>110|128=>154|129=>155|294=>145|295=>146|296=>147|297=>148|298=>149|299=>150|216=>151|300=>152|301=>153|328=>176|329=>177|330=>178|331=>179|332=>180|215=>181|343=>190|n=>n,fun|28=>50|3=>3|46=>126|0=>0|51=>87|53=>85|4=>4|183=>272|182=>271|131=>207|5=>5|9=>9|218=>296|222=>299|228=>309|229=>139|n=>n,fun|n=>n⟩
theorem Tryz.sortI:Go.Proofs.Lays.n189 Tryz.prog Tryz.sortI_ren:={
 mixed:=by kernel_rfl
 f125:=Tryz.func111.trans (congrArg some (by kernel_rfl))
 f128:=Tryz.func154.trans (congrArg some (by kernel_rfl))
 f129:=Tryz.func155.trans (congrArg some (by kernel_rfl))
 f189:=Tryz.func80.trans (congrArg some (by kernel_rfl))
 f215:=Tryz.func181.trans (congrArg some (by kernel_rfl))
 f216:=Tryz.func151.trans (congrArg some (by kernel_rfl))
 f257:=Tryz.func110.trans (congrArg some (by kernel_rfl))
 f294:=Tryz.func145.trans (congrArg some (by kernel_rfl))
 f295:=Tryz.func146.trans (congrArg some (by kernel_rfl))
 f296:=Tryz.func147.trans (congrArg some (by kernel_rfl))
 f297:=Tryz.func148.trans (congrArg some (by kernel_rfl))
 f298:=Tryz.func149.trans (congrArg some (by kernel_rfl))
 f299:=Tryz.func150.trans (congrArg some (by kernel_rfl))
 f300:=Tryz.func152.trans (congrArg some (by kernel_rfl))
 f301:=Tryz.func153.trans (congrArg some (by kernel_rfl))
 f328:=Tryz.func176.trans (congrArg some (by kernel_rfl))
 f329:=Tryz.func177.trans (congrArg some (by kernel_rfl))
 f330:=Tryz.func178.trans (congrArg some (by kernel_rfl))
 f331:=Tryz.func179.trans (congrArg some (by kernel_rfl))
 f332:=Tryz.func180.trans (congrArg some (by kernel_rfl))
 f343:=Tryz.func190.trans (congrArg some (by kernel_rfl))
 t0:=Tryz.underlying0
 a0:=Tryz.isAgg0
 z0:=Tryz.sizeOf0
 v0:=Tryz.zeroValue0
 t3:=Tryz.underlying3
 a3:=Tryz.isAgg3
 z3:=Tryz.sizeOf3
 v3:=Tryz.zeroValue3
 t4:=Tryz.underlying4
 a4:=Tryz.isAgg4
 z4:=Tryz.sizeOf4
 v4:=Tryz.zeroValue4
 t5:=Tryz.underlying5
 a5:=Tryz.isAgg5
 z5:=Tryz.sizeOf5
 v5:=Tryz.zeroValue5
 t9:=Tryz.underlying9
 a9:=Tryz.isAgg9
 z9:=Tryz.sizeOf9
 v9:=Tryz.zeroValue9
 t28:=Tryz.underlying50
 a28:=Tryz.isAgg50
 z28:=Tryz.sizeOf50
 v28:=Tryz.zeroValue50
 t46:=Tryz.underlying126
 a46:=Tryz.isAgg126
 z46:=Tryz.sizeOf126
 v46:=Tryz.zeroValue126
 t51:=Tryz.underlying87
 a51:=Tryz.isAgg87
 z51:=Tryz.sizeOf87
 v51:=Tryz.zeroValue87
 t53:=Tryz.underlying85
 a53:=Tryz.isAgg85
 z53:=Tryz.sizeOf85
 v53:=Tryz.zeroValue85
 t131:=Tryz.underlying207
 a131:=Tryz.isAgg207
 z131:=Tryz.sizeOf207
 v131:=Tryz.zeroValue207
 t182:=Tryz.underlying271
 a182:=Tryz.isAgg271
 z182:=Tryz.sizeOf271
 v182:=Tryz.zeroValue271
 t183:=Tryz.underlying272
 a183:=Tryz.isAgg272
 z183:=Tryz.sizeOf272
 v183:=Tryz.zeroValue272
 t218:=Tryz.underlying296
 a218:=Tryz.isAgg296
 z218:=Tryz.sizeOf296
 v218:=Tryz.zeroValue296
 t222:=Tryz.underlying299
 a222:=Tryz.isAgg299
 z222:=Tryz.sizeOf299
 v222:=Tryz.zeroValue299
 t228:=Tryz.underlying309
 a228:=Tryz.isAgg309
 z228:=Tryz.sizeOf309
 v228:=Tryz.zeroValue309
 t229:=Tryz.underlying139
 a229:=Tryz.isAgg139
 z229:=Tryz.sizeOf139
 v229:=Tryz.zeroValue139 }
end Go.Proofs
