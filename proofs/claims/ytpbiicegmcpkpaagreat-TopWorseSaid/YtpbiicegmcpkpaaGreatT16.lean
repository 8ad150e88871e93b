/- A part of the proof that TopWorse is true at every input; no condition. -/
import Derived.Test.YtpbiicegmcpkpaaGreatT12
import Derived.Test.YtpbiicegmcpkpaaGreatT15
import Derived.Test.YtpbiicegmcpkpaaGreatRows
namespace Go.Proofs.YtpbiicegmcpkpaaGreat
open Go Go.K Go.P Go.RowKit Go.Proofs
def mx (i:Nat) (A:List Nat):List Nat:=(A.take i).map (max · 8)++A.drop i
theorem mx_len (i:Nat) (A:List Nat):(mx i A).length=A.length:=by
 simp only [mx,List.length_append,List.length_map,List.length_take,List.length_drop];omega
theorem mx_byt {i:Nat} {A:List Nat} (h:Byt A):Byt (mx i A):=by
 refine Byt.append ?_ (fun x hx=>h x (List.mem_of_mem_drop hx))
 intro x hx
 obtain ⟨y,hy,rfl⟩:=List.mem_map.1 hx
 have:=h y (List.mem_of_mem_take hy);omega
theorem mx_at {i:Nat} {A:List Nat} (h:i<A.length):(mx i A)[i]?=some A[i]:=by
 unfold mx
 rw [List.getElem?_append_right (by simp;omega)]
 simp [Nat.min_eq_left (Nat.le_of_lt h),h]
theorem mx_next {i:Nat} {A:List Nat} (h:i<A.length):(mx i A).set i (max A[i] 8)=mx (i+1) A:=by
 unfold mx
 have hl:((A.take i).map (max · 8)).length=i:=by rw [List.length_map,List.length_take];omega
 rw [List.set_append_right _ _ (by omega),hl,Nat.sub_self,List.drop_eq_getElem_cons h,List.take_succ_eq_append_getElem h,List.map_append,List.append_assoc]
 rfl
theorem mx_all {A:List Nat} {i:Nat} (h:A.length≤i):mx i A=A.map (max · 8):=by
 unfold mx;rw [List.take_of_length_le h,List.drop_of_length_le h,List.append_nil]
theorem tab_setA {wt:Bool} {A Bb:List Nat} {i x:Nat} (h:i<A.length):(SH.tc ⟨0,0,wt,A,Bb⟩).toArray.setIfInBounds (0+1+i) (B x)=(SH.tc ⟨0,0,wt,A.set i x,Bb⟩).toArray:=by
 rw [List.setIfInBounds_toArray,show 0+1+i=i+1 by omega]
 simp only [SH.tc,List.set_cons_succ]
 rw [List.set_append_left _ _ (by simpa using h),List.map_set]
theorem tab_setB {wt:Bool} {A Bb:List Nat} {i x:Nat} (ha:A.length=64):(SH.tc ⟨0,0,wt,A,Bb⟩).toArray.setIfInBounds (0+65+i) (B x)=(SH.tc ⟨0,0,wt,A,Bb.set i x⟩).toArray:=by
 rw [List.setIfInBounds_toArray,show 0+65+i=(i+64)+1 by omega]
 simp only [SH.tc,List.set_cons_succ]
 rw [List.set_append_right _ _ (by simp [ha]),List.map_set]
 simp [ha]
set_option maxRecDepth 20000 in
set_option maxHeartbeats 4000000 in
theorem tfit_spec {h:SH} (ho:h.ok) {w:World}:Does Tryz.prog 31 #[.agg h.tc.toArray] w fun v w'=>v=.agg h.fit.tc.toArray∧Ext [] w w':=by
 refine Does_of (args:=[_]) Tryz.func31 rfl rfl Tryz.ntmps31 rfl ?_
 have hH:=Hp.start w
 have hla:=ho.la
 have hlb:=ho.lb
 have hba:=ho.ba
 have hbb:=ho.bb
 obtain ⟨c,r,wt,A,Bb⟩:=h
 simp only at hla hlb hba hbb
 rw [show SH.tc ⟨c,r,wt,A,Bb⟩=SH.tc ⟨0,0,wt,A,Bb⟩ from rfl]
 repeat (first|refine WS_seq ?_|refine WS_region ?_)
 refine WL_s (H_box (cs:=(SH.tc ⟨0,0,wt,A,Bb⟩).toArray) hH rfl rfl rfl ?_)
 try clear hH
 intro w1 b1 hH
 replace hH:=nn1 hH
 skip
 refine WL_s (H_alloc hH (Ty.zer rfl) rfl ?_)
 try clear hH
 intro w2 b2 hH
 replace hH:=nn2 hH
 have hB:Blk w2 b1 24 (SH.tc ⟨0,0,wt,A,Bb⟩).toArray:=hH.b 0 rfl
 cases wt with
 | false =>
  repeat (first|refine WS_seq ?_|refine WS_region ?_|refine WL_nil ?_|refine WS_true rfl ?_|(refine WL_r (by first|refine k_fa rfl (Ty.fld rfl rfl)|refine k_loadb rfl hB rfl (Ty.shp rfl)|refine k_buildS (cs:=SH.tc SH.zero) (Ty.zer rfl) (Ty.plc rfl) rfl|refine Run_pev rfl) rfl ?_))
  refine WL_s (H_storeA 1 hH rfl rfl rfl rfl rfl (tc_one SH.zero) (Ty.shp rfl) ?_)
  try clear hH
  intro w3 hH
  replace hH:=nn2 hH
  repeat (refine WL_nil ?_)
  exact WS_retc1 Tryz.func31 rfl rfl (hH.b 1 rfl) rfl (Ty.shp rfl) ⟨rfl,hH.ext⟩
 | true =>
  repeat (first|refine WS_seq ?_|refine WS_region ?_|refine WL_nil ?_|refine WS_block ?_|refine WS_skip ?_|refine WS_false rfl ?_|(refine WL_r (by first|refine k_fa rfl (Ty.fld rfl rfl)|refine k_loadb rfl hB rfl (Ty.shp rfl)|refine Run_pev rfl) rfl ?_))
  clear hB
  obtain ⟨z,hz⟩:∃ z:Array Value,z.size=129∧Hp [] w w2 [Rb b1 24 (SH.tc ⟨0,0,true,A,Bb⟩).toArray,Rb b2 24 z]:=⟨_,rfl,hH⟩
  clear hH
  obtain ⟨hzs,hH⟩:=hz
  refine WS_loop (G:=(Nat)) (fun i=>64-i) 268435208 (fun i=>[(8,.int .i64 i)]) (fun i w'=>i≤64∧Hp [] w w' [Rb b1 24 (SH.tc ⟨0,0,true,mx i A,mx i Bb⟩).toArray,Rb b2 24 z]) (0) ⟨rfl,trivial⟩ ⟨by omega,hH⟩ ?_
  rintro i w' σ ⟨hi,hH⟩ IH
  show WS _ _ _ _ _ (updL [(8,.int .i64 i)] _) _
  by_cases hlt:i<64
  ·have hmA:=mx_len i A
   have hmB:=mx_len i Bb
   have hvA:((mx i A).map B)[i]?=some (B (A[i]'(by omega))):=by rw [List.getElem?_map,mx_at (by omega)];rfl
   have hvB:((mx i Bb).map B)[i]?=some (B (Bb[i]'(by omega))):=by rw [List.getElem?_map,mx_at (by omega)];rfl
   have hnA:=mx_next (i:=i) (A:=A) (by omega)
   have hnB:=mx_next (i:=i) (A:=Bb) (by omega)
   generalize A[i]'(by omega)=xA at *
   generalize Bb[i]'(by omega)=xB at *
   repeat (first|refine WS_seq ?_|refine WS_region ?_|refine WL_nil ?_|refine WS_block ?_|refine WS_skip ?_|refine WS_yes rfl (by omega) ?_|refine lp rfl rfl ?_)
   refine WS_draw Ty.mixed (fun u=>Ext [b1] w' u) 18 rfl ?_
   replace hH:=hH.ext0 (Ext.drew0 (S:=[]))
   have hx0:Ext [b1] w' w'.drew:=Ext.drew0
   generalize w'.drew=u0 at *
   have hBt:Blk u0 b1 24 (SH.tc ⟨0,0,true,mx i A,mx i Bb⟩).toArray:=hH.b 0 rfl
   have hmo:SH.ok ⟨0,0,true,mx i A,mx i Bb⟩:=⟨by simp only;omega,by simp only;omega,mx_byt hba,mx_byt hbb⟩
   obtain ⟨_,hSA,hSB⟩:=tc_sl hmo hBt.sl0
   have htz:(SH.tc ⟨0,0,true,mx i A,mx i Bb⟩).toArray.size=129:=by rw [List.size_toArray];exact SH.tc_len hmo
   have htz2:(SH.tc ⟨0,0,true,mx (i+1) A,mx i Bb⟩).toArray.size=129:=by
    rw [List.size_toArray]
    simp [SH.tc,mx_len,hla,hlb]
   have eA:max (xA:Int) 8=((max xA 8:Nat):Int):=by omega
   have eB:max (xB:Int) 8=((max xB 8:Nat):Int):=by omega
   refine wp 0 hx0 rfl rfl rfl rfl ?_
   refine wp 1 hx0 rfl rfl rfl rfl ?_
   refine wp 2 hx0 rfl rfl rfl rfl ?_
   refine wt 3 hx0 rfl rfl rfl (fun w' hw'=>by refine k_fa rfl (Ty.fld rfl rfl)) ?_
   refine wt 4 hx0 rfl rfl rfl (fun w' hw'=>by refine k_ixa1 rfl rfl (Ty.arr rfl) (by omega)) ?_
   refine wp 7 hx0 rfl rfl rfl rfl ?_
   refine wt 8 hx0 rfl rfl rfl (fun w' hw'=>by refine k_fa rfl (Ty.fld rfl rfl)) ?_
   refine wt 9 hx0 rfl rfl rfl (fun w' hw'=>by refine k_ixa1 rfl rfl (Ty.arr rfl) (by omega)) ?_
   refine wt 12 hx0 rfl rfl rfl (fun w' hw'=>by refine k_fa rfl (Ty.fld rfl rfl)) ?_
   refine wt 15 hx0 rfl rfl rfl (fun w' hw'=>by refine k_fa rfl (Ty.fld rfl rfl)) ?_
   refine WA_two 5 10 (by kernel_rfl) rfl rfl rfl rfl ?_ ?_
   ·refine S_run (k_loads rfl hSA hvA (Ty.shp rfl)) rfl ⟨hx0,?_⟩
    refine wt 6 hx0 rfl rfl rfl (fun w' hw'=>by refine (k_max rfl rfl).is (congrArg (Value.int .u8) eA)) ?_
    refine WA_one 10 (by kernel_rfl) rfl rfl (S_run (k_loads rfl hSB hvB (Ty.shp rfl)) rfl ⟨hx0,?_⟩)
    refine wt 11 hx0 rfl rfl rfl (fun w' hw'=>by refine (k_max rfl rfl).is (congrArg (Value.int .u8) eB)) ?_
    refine wt 13 hx0 rfl rfl rfl (fun w' hw'=>by refine k_ixa1 rfl rfl (Ty.arr rfl) (by omega)) ?_
    refine WA_one 14 (by kernel_rfl) rfl rfl (S_store (v:=B (max xA 8)) rfl rfl hBt (by rw [htz];simp;omega) rfl (Ty.shp rfl) ?_)
    intro u1 hE1 hB1 _
    have hB1':Blk u1 b1 24 ((SH.tc ⟨0,0,true,mx i A,mx i Bb⟩).toArray.setIfInBounds (0+1+i) (B (max xA 8))):=hB1
    rw [tab_setA (by omega),hnA] at hB1'
    clear hB1
    replace hH:=hH.up 0 rfl (r':=Rb b1 24 _) ⟨hE1,hB1',fun _ hx=>.inl hx⟩
    replace hH:=nn2 hH
    have hx1:=hx0.then1' hE1
    refine ⟨hx1,?_⟩
    refine wt 16 hx1 rfl rfl rfl (fun w' hw'=>by refine k_ixa1 rfl rfl (Ty.arr rfl) (by omega)) ?_
    refine WA_one 17 (by kernel_rfl) rfl rfl (S_store (v:=B (max xB 8)) rfl rfl hB1' (by rw [htz2];simp;omega) rfl (Ty.shp rfl) ?_)
    intro u2 hE2 hB2 _
    have hB2':Blk u2 b1 24 ((SH.tc ⟨0,0,true,mx (i+1) A,mx i Bb⟩).toArray.setIfInBounds (0+65+i) (B (max xB 8))):=hB2
    rw [tab_setB (by rw [mx_len];exact hla),hnB] at hB2'
    clear hB2
    replace hH:=hH.up 0 rfl (r':=Rb b1 24 _) ⟨hE2,hB2',fun _ hx=>.inl hx⟩
    replace hH:=nn2 hH
    refine ⟨hx1.then1' hE2,?_⟩
    refine WA_done (by kernel_rfl) ?_
    repeat (first|refine WS_region ?_|refine WL_nil ?_|refine WS_inBlock ?_|(refine WL_r (by first|refine Run_pev rfl|refine k_add64 rfl rfl (by omega)) rfl ?_))
    refine IH (i+1) _ _ ?_ ?_ ?_ ?_
    ·omega
    ·exact ⟨rfl,trivial⟩
    ·repeat first|with_reducible apply Agr.refl|refine Agr.upd rfl ?_|refine Agr.updL rfl ?_|refine Agr.mrg rfl ?_
    ·exact ⟨by omega,hH⟩
   ·refine S_run (k_loads rfl hSB hvB (Ty.shp rfl)) rfl ⟨hx0,?_⟩
    refine wt 11 hx0 rfl rfl rfl (fun w' hw'=>by refine (k_max rfl rfl).is (congrArg (Value.int .u8) eB)) ?_
    refine WA_one 5 (by kernel_rfl) rfl rfl (S_run (k_loads rfl hSA hvA (Ty.shp rfl)) rfl ⟨hx0,?_⟩)
    refine wt 6 hx0 rfl rfl rfl (fun w' hw'=>by refine (k_max rfl rfl).is (congrArg (Value.int .u8) eA)) ?_
    refine wt 13 hx0 rfl rfl rfl (fun w' hw'=>by refine k_ixa1 rfl rfl (Ty.arr rfl) (by omega)) ?_
    refine WA_one 14 (by kernel_rfl) rfl rfl (S_store (v:=B (max xA 8)) rfl rfl hBt (by rw [htz];simp;omega) rfl (Ty.shp rfl) ?_)
    intro u1 hE1 hB1 _
    have hB1':Blk u1 b1 24 ((SH.tc ⟨0,0,true,mx i A,mx i Bb⟩).toArray.setIfInBounds (0+1+i) (B (max xA 8))):=hB1
    rw [tab_setA (by omega),hnA] at hB1'
    clear hB1
    replace hH:=hH.up 0 rfl (r':=Rb b1 24 _) ⟨hE1,hB1',fun _ hx=>.inl hx⟩
    replace hH:=nn2 hH
    have hx1:=hx0.then1' hE1
    refine ⟨hx1,?_⟩
    refine wt 16 hx1 rfl rfl rfl (fun w' hw'=>by refine k_ixa1 rfl rfl (Ty.arr rfl) (by omega)) ?_
    refine WA_one 17 (by kernel_rfl) rfl rfl (S_store (v:=B (max xB 8)) rfl rfl hB1' (by rw [htz2];simp;omega) rfl (Ty.shp rfl) ?_)
    intro u2 hE2 hB2 _
    have hB2':Blk u2 b1 24 ((SH.tc ⟨0,0,true,mx (i+1) A,mx i Bb⟩).toArray.setIfInBounds (0+65+i) (B (max xB 8))):=hB2
    rw [tab_setB (by rw [mx_len];exact hla),hnB] at hB2'
    clear hB2
    replace hH:=hH.up 0 rfl (r':=Rb b1 24 _) ⟨hE2,hB2',fun _ hx=>.inl hx⟩
    replace hH:=nn2 hH
    refine ⟨hx1.then1' hE2,?_⟩
    refine WA_done (by kernel_rfl) ?_
    repeat (first|refine WS_region ?_|refine WL_nil ?_|refine WS_inBlock ?_|(refine WL_r (by first|refine Run_pev rfl|refine k_add64 rfl rfl (by omega)) rfl ?_))
    refine IH (i+1) _ _ ?_ ?_ ?_ ?_
    ·omega
    ·exact ⟨rfl,trivial⟩
    ·repeat first|with_reducible apply Agr.refl|refine Agr.upd rfl ?_|refine Agr.updL rfl ?_|refine Agr.mrg rfl ?_
    ·exact ⟨by omega,hH⟩
  ·obtain rfl:i=64:=by omega
   clear IH
   rw [mx_all (by omega),mx_all (by omega)] at hH
   have hft:SH.tc ⟨0,0,true,A.map (max · 8),Bb.map (max · 8)⟩=(SH.fit ⟨c,r,true,A,Bb⟩).tc:=by simp [SH.tc,SH.fit]
   rw [hft] at hH
   have hfl:(SH.fit ⟨c,r,true,A,Bb⟩).tc.toArray.size=129:=by rw [List.size_toArray];exact SH.tc_len (SH.fit_ok ho)
   have hBt:Blk w' b1 24 (SH.fit ⟨c,r,true,A,Bb⟩).tc.toArray:=hH.b 0 rfl
   repeat (first|refine WS_seq ?_|refine WS_region ?_|refine WL_nil ?_|refine WS_exit rfl ?_|refine WS_false rfl ?_|(refine WL_r (by first|refine k_loadA rfl hBt hfl (Ty.shp rfl)|refine Run_pev rfl) rfl ?_))
   refine WL_s (H_storeA 1 hH rfl rfl rfl hfl hzs (tc_one _) (Ty.shp rfl) ?_)
   try clear hH
   intro w3 hH
   replace hH:=nn2 hH
   repeat (refine WL_nil ?_)
   exact WS_retc1 Tryz.func31 rfl rfl (hH.b 1 rfl) hfl (Ty.shp rfl) ⟨rfl,hH.ext⟩
theorem fill3 {zs tc:List Value} {a b:Int} (hz:zs.length=131) (ht:tc.length=129):fillL (fun i=>([(0,1),(1,1),(2,129)]:List (Nat × Nat))[i]?) zs [(0,.int .i64 a),(1,.int .i64 b),(2,.agg tc.toArray)]=some (.int .i64 a::.int .i64 b::tc):=by
 match zs,hz with
 | x::y::zs,hz =>
  have hz':zs.length=129:=by simpa using hz
  simp [fillL,splice,Value.cells,hz',ht]
  rw [List.drop_of_length_le (by omega),List.append_nil]
  rfl
set_option maxRecDepth 20000 in
set_option maxHeartbeats 4000000 in
theorem sfit_spec {h:SH} (ho:h.ok) {w:World}:Does Tryz.prog 17 #[.agg h.cells.toArray] w fun v w'=>v=.agg h.fit.cells.toArray∧Ext [] w w':=by
 refine Does_of (args:=[_]) Tryz.func17 rfl rfl Tryz.ntmps17 rfl ?_
 have hH:=Hp.start w
 repeat (first|refine WS_seq ?_|refine WS_region ?_)
 refine WL_s (H_box (cs:=h.cells.toArray) hH rfl rfl rfl ?_)
 try clear hH
 intro w1 b1 hH
 replace hH:=nn1 hH
 skip
 refine WL_s (H_alloc hH (Ty.zer rfl) rfl ?_)
 try clear hH
 intro w2 b2 hH
 replace hH:=nn2 hH
 have hB:Blk w2 b1 26 h.cells.toArray:=hH.b 0 rfl
 have hS:SlA w2 (some ⟨b1,0,none⟩) h.cells:=hB.sl0
 have htc:=cells_tc ho
 have htl:=SH.tc_len ho
 have hfl:=SH.tc_len (SH.fit_ok ho)
 have hfc:h.fit.cells.toArray.size=131:=by rw [List.size_toArray];exact SH.cells_len (SH.fit_ok ho)
 have e1:h.c % ((2 ^ 3:Nat):Int)=h.c % 8:=rfl
 have e2:h.r % ((2 ^ 3:Nat):Int)=h.r % 8:=rfl
 repeat (first|refine WS_seq ?_|refine WL_nil ?_)
 refine WS_specT 12 rfl (by kernel_rfl) (by kernel_rfl) [Is (.pointer (some ⟨b1,0+0,none⟩)),Is (.int .i64 h.c),Is (.int .i64 (h.c % 8)),Is (.int .i64 (1+h.c % 8)),Is (.pointer (some ⟨b1,0+1,none⟩)),Is (.int .i64 h.r),Is (.int .i64 (h.r % 8)),Is (.int .i64 (1+h.r % 8)),Is (.pointer (some ⟨b1,0+2,none⟩)),Is (.agg h.tc.toArray),Is (.agg h.fit.tc.toArray),Is (.agg h.fit.cells.toArray)] Ty.mixed [(32736,[],true),(32712,[(0,3)],true),(32664,[(1,4)],true),(16312,[(2,5)],true),(32376,[],true),(31992,[(4,7)],true),(31224,[(5,8)],true),(15352,[(6,9)],true),(26616,[],true),(20472,[(8,11)],true),(8184,[(9,12)],true),(16376,[(3,6),(7,10),(10,13)],true)] 32760 [(11,14)] (by kernel_rfl) (by kernel_rfl) (by kernel_rfl) (by kernel_rfl) (by kernel_rfl) ⟨Is.st,Is.st,Is.st,Is.st,Is.st,Is.st,Is.st,Is.st,Is.st,Is.st,Is.st,Is.st,trivial⟩ ⟨⟨GOk.none,?_⟩,⟨GOk.none,?_⟩,⟨GOk.none,?_⟩,⟨GOk.none,?_⟩,⟨GOk.none,?_⟩,⟨GOk.none,?_⟩,⟨GOk.none,?_⟩,⟨GOk.none,?_⟩,⟨GOk.none,?_⟩,⟨GOk.none,?_⟩,⟨GOk.none,?_⟩,⟨GOk.none,?_⟩,trivial⟩ ?_
 ·intro w'' hE''
  intro σ''
  exact sp_is (by refine k_fa rfl (Ty.fld rfl rfl)) rfl
 ·intro w'' hE''
  rintro _ rfl
  intro σ''
  exact sp_is (by refine k_loadb rfl (hB.ext0 hE'') rfl (Ty.shp rfl)) rfl
 ·intro w'' hE''
  rintro _ rfl
  intro σ''
  exact sp_is (by refine (k_andm (i:=h.c) (k:=3) rfl rfl (by decide)).is (congrArg (Value.int .i64) e1)) rfl
 ·intro w'' hE''
  rintro _ rfl
  intro σ''
  exact sp_is (by refine k_add64 rfl rfl (by omega)) rfl
 ·intro w'' hE''
  intro σ''
  exact sp_is (by refine k_fa rfl (Ty.fld rfl rfl)) rfl
 ·intro w'' hE''
  rintro _ rfl
  intro σ''
  exact sp_is (by refine k_loadb rfl (hB.ext0 hE'') rfl (Ty.shp rfl)) rfl
 ·intro w'' hE''
  rintro _ rfl
  intro σ''
  exact sp_is (by refine (k_andm (i:=h.r) (k:=3) rfl rfl (by decide)).is (congrArg (Value.int .i64) e2)) rfl
 ·intro w'' hE''
  rintro _ rfl
  intro σ''
  exact sp_is (by refine k_add64 rfl rfl (by omega)) rfl
 ·intro w'' hE''
  intro σ''
  exact sp_is (by refine k_fa rfl (Ty.fld rfl rfl)) rfl
 ·intro w'' hE''
  rintro _ rfl
  intro σ''
  exact sp_is (by refine k_loadC (j:=2) rfl (hS.ext0 hE'') htc htl (Ty.shp rfl)) rfl
 ·intro w'' hE''
  rintro _ rfl
  intro σ''
  refine S_call (tfit_spec ho) rfl rfl ?_
  rintro v w3'' ⟨rfl,hE3⟩
  exact ⟨hE3,_,rfl,rfl⟩
 ·intro w'' hE''
  rintro _ rfl
  rintro _ rfl
  rintro _ rfl
  intro σ''
  exact sp_is (by refine k_buildS (cs:=h.fit.cells) (Ty.zer rfl) (Ty.plc rfl) (fill3 rfl hfl)) rfl
 intro w'' hE''
 rintro _ rfl
 intro σ''
 replace hH:=hH.ext0 hE''
 refine WL_s (H_storeA 1 hH rfl rfl rfl hfc rfl (cells_one h.fit) (Ty.shp rfl) ?_)
 try clear hH
 intro w6 hH
 replace hH:=nn2 hH
 repeat (refine WL_nil ?_)
 exact WS_retc1 Tryz.func17 rfl rfl (hH.b 1 rfl) hfc (Ty.shp rfl) ⟨rfl,hH.ext⟩
def SH.one:SH:=⟨1,1,false,List.replicate 64 0,List.replicate 64 0⟩
theorem SH.one_ok:SH.one.ok:=⟨rfl,rfl,fun x hx=>by simp [SH.one] at hx;omega,fun x hx=>by simp [SH.one] at hx;omega⟩
theorem SH.one_err:SH.one.err=0:=by decide +kernel
end Go.Proofs.YtpbiicegmcpkpaaGreat
namespace Go.Proofs.YtpbiicegmcpkpaaGreat
open Go Go.K Go.P Go.RowKit Go.Proofs
theorem isf:isF64 Tryz.prog 221=true:=by kernel_rfl
abbrev CV (x y:Int):Value:=.complex .f64 (FN x) (FN y)
theorem whole_spec {b:Nat} {w:World}:Does Tryz.prog 108 #[.float .f64 b] w fun v w'=>v=.int .i64 (whole b)∧w'=w:=by
 refine Does_of (args:=[_]) Tryz.func108 rfl rfl Tryz.ntmps108 rfl ?_
 rcases fl b with ⟨h,hw⟩|⟨h,h1,hw⟩|⟨h,o,h1,h2,hw⟩|⟨h,o,o',h1,ho,h2,ho',ht,he,he'⟩
 ·rw [hw]
  repeat (first|refine WS_seq ?_|refine WS_region ?_|refine WL_nil ?_|refine WS_block ?_|refine WS_true rfl ?_|(refine WL_r (by first|refine k_fneqV h rfl rfl|refine Run_pev rfl) rfl ?_))
  exact WS_ret1 Tryz.func108 rfl ⟨rfl,rfl⟩
 ·rw [hw]
  repeat (first|refine WS_seq ?_|refine WS_region ?_|refine WL_nil ?_|refine WS_block ?_|refine WS_true rfl ?_|refine WS_false rfl ?_|(refine WL_r (by first|refine k_fneqV h rfl rfl|refine k_fgtrV h1 rfl rfl|refine Run_pev rfl) rfl ?_))
  exact WS_ret1 Tryz.func108 rfl ⟨rfl,rfl⟩
 ·rw [hw]
  repeat (first|refine WS_seq ?_|refine WS_region ?_|refine WL_nil ?_|refine WS_block ?_|refine WS_true rfl ?_|refine WS_false rfl ?_|(refine WL_r (by first|refine k_fneqV h rfl rfl|refine k_fgtrV h1 rfl rfl|refine k_flssV h2 rfl rfl|refine Run_pev rfl) rfl ?_))
  exact WS_ret1 Tryz.func108 rfl ⟨rfl,rfl⟩
 ·have hb:=whole_le b
  repeat (first|refine WS_seq ?_|refine WS_region ?_|refine WL_nil ?_|refine WS_block ?_|refine WS_inBlock ?_|refine WS_skip ?_|refine WS_false rfl ?_|(refine WL_r (by first|refine k_fneqV h rfl rfl|refine (k_fgtrV h1 rfl rfl).is (not_gt ho)|refine (k_flssV h2 rfl rfl).is (not_lt ho')|refine k_conv_fi rfl (Ty.und rfl) (Ty.knd rfl) ht (by omega)|refine Run_pev rfl) rfl ?_))
  exact WS_ret1 Tryz.func108 rfl ⟨rfl,rfl⟩
theorem parts_spec {a b:Nat} {w:World}:Does Tryz.prog 77 #[.complex .f64 a b] w fun v w'=>v=.tuple #[.int .i64 (whole a),.int .i64 (whole b)]∧w'=w:=by
 refine Does_of (args:=[_]) Tryz.func77 rfl rfl Tryz.ntmps77 rfl ?_
 repeat (first|refine WS_seq ?_|refine WS_region ?_|refine WL_nil ?_|(refine WL_r (by first|refine k_real rfl|refine Run_pev rfl) rfl ?_))
 refine WL_s (S_call (whole_spec) rfl rfl ?_)
 rintro v w1 ⟨rfl,rfl⟩
 repeat ((refine WL_r (by first|refine k_imag rfl|refine Run_pev rfl) rfl ?_))
 refine WL_s (S_call (whole_spec) rfl rfl ?_)
 rintro v w1 ⟨rfl,rfl⟩
 repeat (first|refine WL_nil ?_|refine lp rfl rfl ?_)
 exact WS_ret2 Tryz.func77 rfl ⟨rfl,rfl⟩
theorem vof_spec {x y:Int} {w:World}:Does Tryz.prog 90 #[.int .i64 x,.int .i64 y] w fun v w'=>v=CV x y∧w'=w:=by
 refine Does_of (args:=[_,_]) Tryz.func90 rfl rfl Tryz.ntmps90 rfl ?_
 repeat (first|refine WS_seq ?_|refine WS_region ?_|refine WL_nil ?_|(refine WL_r (by first|refine k_conv_if rfl (Ty.und rfl) isf|refine k_complex rfl rfl|refine Run_pev rfl) rfl ?_))
 exact WS_ret1 Tryz.func90 rfl ⟨rfl,rfl⟩
set_option maxHeartbeats 1000000 in
theorem right_spec {a b:Nat} {w:World}:Does Tryz.prog 128 #[.complex .f64 a b] w fun v w'=>v=.bool (isR a b)∧w'=w:=by
 refine Does_of (args:=[_]) Tryz.func128 rfl rfl Tryz.ntmps128 rfl ?_
 have ha:=whole_le a
 have hb:=whole_le b
 repeat (first|refine WS_seq ?_|refine WS_region ?_|refine WL_nil ?_|refine lp rfl rfl ?_)
 refine WL_s (S_call (parts_spec) rfl rfl ?_)
 rintro v w1 ⟨rfl,rfl⟩
 repeat (first|refine WS_seq ?_|refine WS_region ?_|refine WL_nil ?_|(refine WL_r (by first|refine Run_pev rfl|refine k_extract rfl rfl) rfl ?_))
 refine WL_s (S_call (vof_spec) rfl rfl ?_)
 rintro v w1 ⟨rfl,rfl⟩
 unfold isR
 generalize whole a=p at *
 generalize whole b=q at *
 cases he:(feq (FN p) a && feq (FN q) b) with
 | false =>
  repeat (first|refine WL_nil ?_|refine WL_gno rfl rfl rfl rfl rfl ?_|(refine WL_r (by first|refine (k_ceql rfl rfl).is (congrArg Value.bool he)|refine Run_pev rfl) rfl ?_))
  exact WS_ret1 Tryz.func128 rfl ⟨rfl,rfl⟩
 | true =>
  by_cases hp:-31≤p∧p≤31
  ·repeat (first|refine WL_nil ?_|refine WL_gyes rfl rfl rfl ?_|refine WL_gyes rfl rfl (dT (by omega)) ?_|(refine WL_r (by first|refine (k_ceql rfl rfl).is (congrArg Value.bool he)|refine k_neg64 rfl (by omega)|refine Run_pev rfl|refine k_max rfl rfl|refine k_pick_t (dT (by omega)) rfl) rfl ?_))
   exact WS_ret1 Tryz.func128 rfl ⟨by rw [Bool.true_and,decide_eq_true hp,Bool.true_and];exact congrArg Value.bool (by rw [decide_eq_decide];omega),rfl⟩
  ·repeat (first|refine WL_nil ?_|refine WL_gyes rfl rfl rfl ?_|refine WL_gno (b:=false) rfl rfl (dF (by omega)) rfl rfl ?_|(refine WL_r (by first|refine (k_ceql rfl rfl).is (congrArg Value.bool he)|refine k_neg64 rfl (by omega)|refine Run_pev rfl|refine k_max rfl rfl|refine k_pick_f (dF (by omega)) rfl) rfl ?_))
   exact WS_ret1 Tryz.func128 rfl ⟨by rw [decide_eq_false hp,Bool.false_and,Bool.and_false];rfl,rfl⟩
end Go.Proofs.YtpbiicegmcpkpaaGreat
namespace Go.Proofs.YtpbiicegmcpkpaaGreat
open Go Go.K Go.P Go.RowKit Go.Proofs
def med3 (a b c:Int):Int:=max (min a b) (min (max a b) c)
theorem med_spec {a b c:Int} {w:World}:Does Tryz.prog 169 #[.int .i64 a,.int .i64 b,.int .i64 c] w fun v w'=>v=.int .i64 (med3 a b c)∧w'=w:=by
 refine Does_of (args:=[_,_,_]) Tryz.func169 rfl rfl Tryz.ntmps169 rfl ?_
 repeat (first|refine WS_seq ?_|refine WS_region ?_|refine WL_nil ?_|(refine WL_r (by first|refine Run_pev rfl|refine k_min rfl rfl|refine k_max rfl rfl) rfl ?_))
 exact WS_ret1 Tryz.func169 rfl ⟨rfl,rfl⟩
set_option maxHeartbeats 1000000 in
theorem median_spec {a b c d e f:Nat} {w:World}:Does Tryz.prog 135 #[.complex .f64 a b,.complex .f64 c d,.complex .f64 e f] w fun v w'=>v=CV (med3 (whole a) (whole c) (whole e)) (med3 (whole b) (whole d) (whole f))∧w'=w:=by
 refine Does_of (args:=[_,_,_]) Tryz.func135 rfl rfl Tryz.ntmps135 rfl ?_
 repeat (first|refine WS_seq ?_|refine WS_region ?_|refine WL_nil ?_|refine lp rfl rfl ?_)
 refine WL_s (S_call (parts_spec) rfl rfl ?_)
 rintro v w1 ⟨rfl,rfl⟩
 repeat (first|refine WS_seq ?_|refine WS_region ?_|refine WL_nil ?_|(refine WL_r (by first|refine Run_pev rfl|refine k_extract rfl rfl) rfl ?_))
 refine WL_s (S_call (parts_spec) rfl rfl ?_)
 rintro v w1 ⟨rfl,rfl⟩
 repeat (first|refine WS_seq ?_|refine WS_region ?_|refine WL_nil ?_|(refine WL_r (by first|refine Run_pev rfl|refine k_extract rfl rfl) rfl ?_))
 refine WL_s (S_call (parts_spec) rfl rfl ?_)
 rintro v w1 ⟨rfl,rfl⟩
 repeat (first|refine WS_seq ?_|refine WS_region ?_|refine WL_nil ?_|(refine WL_r (by first|refine Run_pev rfl|refine k_extract rfl rfl) rfl ?_))
 refine WL_s (S_call (med_spec) rfl rfl ?_)
 rintro v w1 ⟨rfl,rfl⟩
 repeat (refine lp rfl rfl ?_)
 refine WL_s (S_call (med_spec) rfl rfl ?_)
 rintro v w1 ⟨rfl,rfl⟩
 skip
 refine WL_s (S_call (vof_spec) rfl rfl ?_)
 rintro v w1 ⟨rfl,rfl⟩
 repeat (first|refine WL_nil ?_|refine lp rfl rfl ?_)
 exact WS_ret1 Tryz.func135 rfl ⟨rfl,rfl⟩
end Go.Proofs.YtpbiicegmcpkpaaGreat
namespace Go.Proofs.YtpbiicegmcpkpaaGreat
open Go Go.K Go.P Go.RowKit Go.Proofs
def wrapZ (n:Int):Int:=(n+32) % 64-32
theorem wrapZ_le (n:Int):-32≤wrapZ n∧wrapZ n≤31:=by unfold wrapZ;omega
theorem vwrap_spec {n:Int} {w:World} (hn:-1000000≤n∧n≤1000000):Does Tryz.prog 132 #[.int .i64 n] w fun v w'=>v=.int .i64 (wrapZ n)∧w'=w:=by
 refine Does_of (args:=[_]) Tryz.func132 rfl rfl Tryz.ntmps132 rfl ?_
 have e1:(n+32) % ((2 ^ 6:Nat):Int)=(n+32) % 64:=rfl
 have e2:((n+32) % 64+64) % ((2 ^ 6:Nat):Int)=(n+32) % 64:=by
  show ((n+32) % 64+64) % 64=_
  omega
 repeat (first|refine WS_seq ?_|refine WS_region ?_|refine WL_nil ?_|(refine WL_r (by first|refine (k_andm (i:=n+32) (k:=6) rfl rfl (by decide)).is (congrArg (Value.int .i64) e1)|refine (k_andm (i:=(n+32) % 64+64) (k:=6) rfl rfl (by decide)).is (congrArg (Value.int .i64) e2)|refine Run_pev rfl|refine k_add64 rfl rfl (by omega)|refine k_sub64 rfl rfl (by omega)) rfl ?_))
 exact WS_ret1 Tryz.func132 rfl ⟨rfl,rfl⟩
theorem sgn_small {n:Int} (h:-32≤n∧n≤31):∃ s:Nat,sgn n=s∧uns s=n∧s≤64:=by
 obtain ⟨s,h1,h2,h3⟩:=uns_sgn n
 exact ⟨s,h1,h2,by omega⟩
def srv (n:Int):List Bool:=rv (sgn n).toNat
theorem srv_of {n:Int} {s:Nat} (h:sgn n=s):srv n=rv s:=by unfold srv;rw [h];rfl
theorem srv_len {n:Int} (h:-32≤n∧n≤31):(srv n).length≤25:=by
 obtain ⟨s,h1,_,h3⟩:=sgn_small h
 rw [srv_of h1]
 have h1:=rv_len s
 have h2:=blen_le (x:=s+1) (m:=13) (by omega)
 omega
set_option maxHeartbeats 2000000 in
theorem vput_spec {p c re im e1 e2:Nat} {a:Option Addr} {bs:List Bool} {w:World} (h:isR re im=true) (hbl:bs.length≤900000000) (hR:(Rw p a c bs).holds w) :
  Does Tryz.prog 98 #[pt p,.complex .f64 re im,.complex .f64 e1 e2] w fun v w'=>v=.bool true∧∃ a' c',Upd (Rw p a c bs) (Rw p a' c' (bs++(srv (wrapZ (whole re-whole e1))++srv (wrapZ (whole im-whole e2))))) w w':=by
 refine Does_of (args:=[_,_,_]) Tryz.func98 rfl rfl Tryz.ntmps98 rfl ?_
 have g1:=whole_le re
 have g2:=whole_le im
 have g3:=whole_le e1
 have g4:=whole_le e2
 repeat (first|refine WS_seq ?_|refine WS_region ?_|refine WL_nil ?_|refine WL_gyes rfl rfl rfl ?_|(refine WL_r (by first|refine k_pnil rfl rfl (.inr rfl) ptrW|refine Run_pev rfl) rfl ?_))
 refine WL_s (S_call (right_spec) rfl rfl ?_)
 rintro v w1 ⟨rfl,rfl⟩
 rw [h]
 repeat (first|refine WS_seq ?_|refine WS_region ?_|refine WL_nil ?_|refine WS_skip ?_|refine WS_false rfl ?_|refine WL_gyes rfl rfl rfl ?_|refine lp rfl rfl ?_)
 refine WL_s (S_call (parts_spec) rfl rfl ?_)
 rintro v w1 ⟨rfl,rfl⟩
 repeat (first|refine WS_seq ?_|refine WS_region ?_|refine WL_nil ?_|(refine WL_r (by first|refine Run_pev rfl|refine k_extract rfl rfl) rfl ?_))
 refine WL_s (S_call (parts_spec) rfl rfl ?_)
 rintro v w1 ⟨rfl,rfl⟩
 repeat (first|refine WS_seq ?_|refine WS_region ?_|refine WL_nil ?_|(refine WL_r (by first|refine Run_pev rfl|refine k_sub64 rfl rfl (by omega)|refine k_extract rfl rfl) rfl ?_))
 refine WL_s (S_call (vwrap_spec (by omega)) rfl rfl ?_)
 rintro v w1 ⟨rfl,rfl⟩
 have hz1:=wrapZ_le (whole re-whole e1)
 have hz2:=wrapZ_le (whole im-whole e2)
 have hl1:=srv_len hz1
 obtain ⟨s1,hs1,_,hb1⟩:=sgn_small hz1
 obtain ⟨s2,hs2,_,hb2⟩:=sgn_small hz2
 rw [srv_of hs1] at hl1 ⊢
 rw [srv_of hs2]
 skip
 refine WL_s (S_call (signed_spec (by omega)) rfl rfl ?_)
 rintro v w1 ⟨rfl,rfl⟩
 rw [hs1]
 skip
 refine WL_s (S_call (rput_spec (n:=s1) (by omega) (by omega) hR) rfl rfl ?_)
 rintro v w2 ⟨rfl,a2,c2,hU⟩
 repeat (first|refine WL_gyes rfl rfl rfl ?_|(refine WL_r (by first|refine Run_pev rfl|refine k_sub64 rfl rfl (by omega)) rfl ?_))
 refine WL_s (S_call (vwrap_spec (by omega)) rfl rfl ?_)
 rintro v w3 ⟨rfl,rfl⟩
 repeat (refine WL_gyes rfl rfl rfl ?_)
 refine WL_s (S_call (signed_spec (by omega)) rfl rfl ?_)
 rintro v w3 ⟨rfl,rfl⟩
 rw [hs2]
 repeat (refine WL_gyes rfl rfl rfl ?_)
 refine WL_s (S_call (rput_spec (n:=s2) (by omega) (by simp;omega) hU.holds) rfl rfl ?_)
 rintro v w4 ⟨rfl,a4,c4,hU4⟩
 rw [List.append_assoc] at hU4
 repeat (first|refine WL_nil ?_|refine lp rfl rfl ?_)
 exact WS_ret1 Tryz.func98 rfl ⟨rfl,a4,c4,hU.trans hU4⟩
end Go.Proofs.YtpbiicegmcpkpaaGreat
namespace Go.Proofs.YtpbiicegmcpkpaaGreat
open Go Go.K Go.P Go.RowKit Go.Proofs
def stL:List Int:=[-2,-1,1,2]
abbrev Iv (n:Int):Value:=.int .i64 n
theorem steps_spec (w:World):Does Tryz.prog 32 #[] w fun v w'=>v=.agg (stL.map Iv).toArray∧Ext [] w w':=by
 refine Does_of (args:=[]) Tryz.func32 rfl rfl Tryz.ntmps32 rfl ?_
 have hH:=Hp.start w
 repeat (first|refine WS_seq ?_|refine WS_region ?_)
 refine WL_s (H_alloc hH (Ty.zer rfl) rfl ?_)
 try clear hH
 intro w1 b hH
 replace hH:=nn1 hH
 repeat (first|refine WS_seq ?_|refine WS_region ?_|refine WL_nil ?_|(refine WL_r (by refine k_buildA (cs:=stL.map Iv) (Ty.zer rfl) (Ty.arr rfl) rfl) rfl ?_))
 refine WL_s (H_storeA 0 hH rfl rfl rfl rfl rfl (by intro v hv;simp [stL] at hv;rcases hv with rfl|rfl|rfl|rfl<;>rfl) (Ty.shp rfl) ?_)
 try clear hH
 intro w2 hH
 replace hH:=nn1 hH
 repeat (refine WL_nil ?_)
 exact WS_retc1 Tryz.func32 rfl rfl (hH.b 0 rfl) rfl (Ty.shp rfl) ⟨rfl,hH.ext⟩
theorem st_at {i:Nat} (h:i<4):∃ d,stL[i]?=some d∧(stL.map Iv).toArray[i]?=some (Iv d)∧(d=-2∨d=-1∨d=1∨d=2):=by
 rcases (show i=0∨i=1∨i=2∨i=3 by omega) with rfl|rfl|rfl|rfl
 ·exact ⟨-2,rfl,rfl,by omega⟩
 ·exact ⟨-1,rfl,rfl,by omega⟩
 ·exact ⟨1,rfl,rfl,by omega⟩
 ·exact ⟨2,rfl,rfl,by omega⟩
def StR (p q:Int) (v:Value):Prop :=
 (∃ i:Nat,i<4∧stL[i]?=some (q-p)∧(1≤q∧q≤31)∧v=.tuple #[.int .i64 i,.bool true])∨((∀ (i:Nat) (d:Int),stL[i]?=some d→¬ (p+d=q∧1≤q∧q≤31))∧v=.tuple #[.int .i64 0,.bool false])
theorem st_lt {i:Nat} {d:Int} (h:stL[i]?=some d):i<4:=(List.getElem?_eq_some_iff.1 h).1
set_option maxHeartbeats 1000000 in
theorem step_spec {p q:Int} {w:World} (hp:-1000≤p∧p≤1000):Does Tryz.prog 93 #[.int .i64 p,.int .i64 q] w fun v w'=>StR p q v∧Ext [] w w':=by
 refine Does_of (args:=[_,_]) Tryz.func93 rfl rfl Tryz.ntmps93 rfl ?_
 repeat (first|refine WS_seq ?_|refine WS_region ?_|refine WL_nil ?_|refine lp rfl rfl ?_)
 refine WL_s (S_call (steps_spec w) rfl rfl ?_)
 rintro v w1 ⟨rfl,hE⟩
 repeat (first|refine WL_nil ?_|refine WS_block ?_|refine lp rfl rfl ?_)
 refine WS_loop (G:=(Nat)) (fun i=>4-i) 268435184 (fun i=>[(9,.int .i64 i)]) (fun i w'=>i≤4∧(∀ (j:Nat) (d:Int),j<i→stL[j]?=some d→¬ (p+d=q∧1≤q∧q≤31))∧w'=w1) (0) ⟨rfl,trivial⟩ ⟨by omega,fun j d h=>by omega,rfl⟩ ?_
 rintro i w' σ ⟨hi,hno,hw⟩ IH
 show WS _ _ _ _ _ (updL [(9,.int .i64 i)] _) _
 subst hw
 by_cases hlt:i<4
 ·obtain ⟨d,hd,hv,hdd⟩:=st_at hlt
  have hnx:¬ (p+d=q∧1≤q∧q≤31)→∀ j e,j<i+1→stL[j]?=some e→¬ (p+e=q∧1≤q∧q≤31):=fun h j e hj he=>by
   rcases Nat.lt_or_ge j i with h1|h1
   ·exact hno j e h1 he
   ·obtain rfl:j=i:=by omega
    rw [hd] at he;cases he;exact h
  by_cases k1:p+d=q
  ·by_cases k2:1≤q
   ·by_cases k3:q≤31
    ·repeat (first|refine WS_seq ?_|refine WS_region ?_|refine WL_nil ?_|refine WS_block ?_|refine WS_skip ?_|refine WS_yes rfl (by omega) ?_|refine WL_gyes rfl rfl (dT (by omega)) ?_|(refine WL_r (by first|refine k_index1 rfl rfl (Ty.arr rfl) (by omega) hv|refine Run_pev rfl|refine k_add64 rfl rfl (by omega)|refine k_pick_t (dT (by omega)) rfl) rfl ?_))
     exact WS_ret2 Tryz.func93 rfl ⟨.inl ⟨i,hlt,by rw [hd];congr 1;omega,⟨k2,k3⟩,rfl⟩,hE⟩
    ·repeat (first|refine WS_seq ?_|refine WS_region ?_|refine WL_nil ?_|refine WS_block ?_|refine WS_inBlock ?_|refine WS_skip ?_|refine WS_yes rfl (by omega) ?_|refine WS_no rfl (by omega) ?_|refine WL_gyes rfl rfl (dT (by omega)) ?_|(refine WL_r (by first|refine k_index1 rfl rfl (Ty.arr rfl) (by omega) hv|refine Run_pev rfl|refine k_add64 rfl rfl (by omega)|refine k_pick_t (dT (by omega)) rfl) rfl ?_))
     refine IH (i+1) _ _ ?_ ?_ ?_ ?_
     ·omega
     ·exact ⟨rfl,trivial⟩
     ·repeat first|with_reducible apply Agr.refl|refine Agr.upd rfl ?_|refine Agr.updL rfl ?_|refine Agr.mrg rfl ?_
     ·exact ⟨by omega,hnx (by omega),rfl⟩
   ·repeat (first|refine WS_seq ?_|refine WS_region ?_|refine WL_nil ?_|refine WS_block ?_|refine WS_inBlock ?_|refine WS_skip ?_|refine WS_false rfl ?_|refine WS_yes rfl (by omega) ?_|refine WL_gyes rfl rfl (dT (by omega)) ?_|refine WL_gno (b:=false) rfl rfl (dF (by omega)) rfl rfl ?_|(refine WL_r (by first|refine k_index1 rfl rfl (Ty.arr rfl) (by omega) hv|refine Run_pev rfl|refine k_add64 rfl rfl (by omega)|refine k_pick_f (dF (by omega)) rfl|refine k_pick_t (dT (by omega)) rfl) rfl ?_))
    refine IH (i+1) _ _ ?_ ?_ ?_ ?_
    ·omega
    ·exact ⟨rfl,trivial⟩
    ·repeat first|with_reducible apply Agr.refl|refine Agr.upd rfl ?_|refine Agr.updL rfl ?_|refine Agr.mrg rfl ?_
    ·exact ⟨by omega,hnx (by omega),rfl⟩
  ·repeat (first|refine WS_seq ?_|refine WS_region ?_|refine WL_nil ?_|refine WS_block ?_|refine WS_inBlock ?_|refine WS_skip ?_|refine WS_false rfl ?_|refine WS_yes rfl (by omega) ?_|refine WL_gno rfl rfl rfl rfl rfl ?_|refine WL_gno (b:=false) rfl rfl (dF (by omega)) rfl rfl ?_|(refine WL_r (by first|refine k_index1 rfl rfl (Ty.arr rfl) (by omega) hv|refine Run_pev rfl|refine k_add64 rfl rfl (by omega)|refine k_pick_f (dF (by omega)) rfl) rfl ?_))
   refine IH (i+1) _ _ ?_ ?_ ?_ ?_
   ·omega
   ·exact ⟨rfl,trivial⟩
   ·repeat first|with_reducible apply Agr.refl|refine Agr.upd rfl ?_|refine Agr.updL rfl ?_|refine Agr.mrg rfl ?_
   ·exact ⟨by omega,hnx (by omega),rfl⟩
 ·repeat (first|refine WS_seq ?_|refine WS_region ?_|refine WL_nil ?_|refine WS_exit rfl ?_|refine WS_no rfl (by omega) ?_|refine lp rfl rfl ?_)
  exact WS_ret2 Tryz.func93 rfl ⟨.inr ⟨fun j d hj=>hno j d (by have:=st_lt hj;omega) hj,rfl⟩,hE⟩
theorem feq0:(!(feq 0 0 && feq 0 0))=false:=by decide +kernel
end Go.Proofs.YtpbiicegmcpkpaaGreat
namespace Go.Proofs.YtpbiicegmcpkpaaGreat
open Go Go.K Go.P Go.RowKit Go.Proofs
abbrev iv (T:List Int):List Value:=T.map (Value.int .i64)
theorem iv_len (T:List Int):(iv T).length=T.length:=by simp
theorem slot_at {T:List Int} {k:Nat} {b:Bool} (h:2*k+b.toNat<T.length):(iv T)[k*2+0+b.toNat]?=some (.int .i64 (slot T k b)):=by
 unfold slot
 rw [show k*2+0+b.toNat=2*k+b.toNat by omega,List.getElem?_map,List.getD_eq_getElem?_getD,List.getElem?_eq_getElem h]
 rfl
def Rk (p:Nat) (v0 v1:Value) (a:Option Addr) (n c:Nat) (T:List Int):Res:=sep (Rb p 228 #[v0,v1,.slice a n c]) (Ro 281 2 a n c (iv T))
set_option maxRecDepth 20000 in
set_option maxHeartbeats 4000000 in
theorem cput_spec {p c n wd s i:Nat} {a:Option Addr} {v0 v1:Value} {T:List Int} {P:List (List Bool)} {W:List (List Bool × Nat)} {w:World} (hT:TI T P W []) (hP:P.length=n) (hn:n≤1000000) (hf:∀ u∈W,¬ u.1 <+: nb wd s∧¬ nb wd s <+: u.1) (hs:1≤s∧s≤32) (hw:wd<18446744073709551616) (hi:i<64) (hR:(Rk p v0 v1 a n c T).holds w) :
  Does Tryz.prog 112 #[pt p,.int .u64 wd,.int .i64 s,.int .i64 i] w fun v w'=>v=.tuple #[]∧∃ a' c' n' T' P',P'.length=n'∧n'≤n+31∧TI T' P' (W++[(nb wd s,i)]) []∧Upd (Rk p v0 v1 a n c T) (Rk p v0 v1 a' n' c' T') w w':=by
 subst hP
 refine Does_of (args:=[_,_,_,_]) Tryz.func112 rfl rfl Tryz.ntmps112 rfl ?_
 have hH:=(Hp.start1 hR).split 0 rfl
 replace hH:=nn2 hH
 obtain ⟨fp,hfp⟩:∃ fp,(Rk p v0 v1 a P.length c T).fp=fp:=⟨_,rfl⟩
 rw [hfp] at hH
 repeat (first|refine WS_seq ?_|refine WS_region ?_|refine WL_nil ?_|refine WS_block ?_|(refine WL_r (by first|refine Run_pev rfl|refine k_sub64 rfl rfl (by omega)) rfl ?_))
 refine WS_loop (G:=(Nat) × (List Int) × (List (List Bool)) × (Option Addr) × (Nat) × (Nat) × (List Bool)) (fun|(k,T1,P1,a1,c1,at',q)=>k) 147573952589676406528 (fun|(k,T1,P1,a1,c1,at',q)=>[(8,.int .i64 at'),(9,.int .i64 k)]) (fun|(k,T1,P1,a1,c1,at',q),w'=>k<s∧TI T1 P1 W (nb wd s)∧P1.length+k≤P.length+(s-1)∧nb wd s=q++nb wd (k+1)∧P1[at']?=some q∧reach T1 0 q at'∧Hp fp w w' [Rb p 228 #[v0,v1,.slice a1 P1.length c1],Ro 281 2 a1 P1.length c1 (iv T1)]) (s-1,T,P,a,c,0,[]) ⟨rfl,congrArg (Value.int .i64) (show (s:Int)-1=((s-1:Nat):Int) by omega),trivial⟩ ⟨by omega,hT.want _,by omega,by rw [show s-1+1=s by omega];rfl,hT.root,rfl,hH⟩ ?_
 rintro ⟨k,T1,P1,a1,c1,at',q⟩ w' σ ⟨hk,hT1,hPl,hx,hat,hre,hH⟩ IH
 show WS _ _ _ _ _ (updL [(8,.int .i64 at'),(9,.int .i64 k)] _) _
 have hatl:=(List.getElem?_eq_some_iff.1 hat).1
 have hq64:wd / 2 ^ k<18446744073709551616:=Nat.lt_of_le_of_lt (Nat.div_le_self _ _) hw
 have hbit:=bitc wd k
 rw [nb_cons] at hx
 obtain ⟨b,hb⟩:∃ b,wd.testBit k=b:=⟨_,rfl⟩
 rw [hb] at hbit hx
 have hb2:b.toNat<2:=by cases b<;>decide
 have hdn:=hT1.down hx hat hre (fun u hu=>(hf u hu).1)
 by_cases hlt:0<k
 ·have hqn:nb wd k≠[]:=fun e=>by have:=congrArg List.length e;rw [nb_len] at this;simp at this;omega
  obtain ⟨j,rfl⟩:∃ j,k=j+1:=⟨k-1,by omega⟩
  have hx2:nb wd s=(q++[b])++nb wd (j+1):=by rw [hx];simp
  have hB1:=hH.b 0 rfl
  have hO1:=(hH.o 1 rfl).sl
  have hl1:(iv T1).length=P1.length*2:=by rw [iv_len,hT1.len];omega
  have hv:=slot_at (hT1.lt hat b)
  repeat (first|refine WS_seq ?_|refine WS_region ?_|refine WL_nil ?_|refine WS_block ?_|refine WS_skip ?_|refine WS_yes rfl (by omega) ?_|(refine WL_r (by first|refine k_nilCheck rfl|refine k_fa rfl (Ty.fld rfl rfl)|refine k_loadb rfl hB1 rfl (Ty.shp rfl)|refine k_shr rfl rfl (fit64 hw)|refine (k_and (n:=1) rfl rfl (fit64 hq64) rfl).is (congrArg (fun n:Nat=>Value.int .u64 (n:Int)) hbit)|refine k_ix (sz:=2) rfl rfl hO1 hl1 (by decide) (Ty.sle rfl) (by omega)|refine k_ixaA rfl rfl (Ty.arr rfl) (by omega)|refine k_loads rfl hO1 hv (Ty.shp rfl)|refine Run_pev rfl) rfl ?_))
  rcases hdn with h0|⟨m,hm,hm0,hPm,hrm⟩
  ·rw [h0]
   repeat (first|refine WS_seq ?_|refine WS_region ?_|refine WS_true rfl ?_|(refine WL_r (by first|refine k_nilCheck rfl|refine k_fa rfl (Ty.fld rfl rfl)|refine k_loadb rfl hB1 rfl (Ty.shp rfl)|refine k_buildS (cs:=[.int .i64 0,.int .i64 0]) (Ty.zer rfl) (Ty.plc rfl) rfl|refine Run_pev rfl) rfl ?_))
   refine WL_s (H_lit (out:=[.int .i64 0,.int .i64 0]) hH (Ty.sle rfl) (Ty.zer rfl) rfl rfl rfl (by decide) rfl ?_)
   try clear hH
   intro _ b38 hH
   replace hH:=nn3 hH
   skip
   refine WL_s (H_append 1 hH rfl (Ty.sle rfl) (Ty.zer rfl) rfl (Ty.byt rfl) (by decide) rfl rfl (hH.b 2 rfl).sl0 (by rfl) (by simp [Value.oneCell']) (by omega) (by simp only [maxLen];omega) rfl ?_)
   clear hH
   intro w4 a5 c5 hH
   replace hH:=hH.del 2
   replace hH:=nn2 hH
   repeat ((refine WL_r (by first|refine k_nilCheck rfl|refine k_fa rfl (Ty.fld rfl rfl)) rfl ?_))
   refine WL_s (H_store 0 (v:=.slice a5 (P1.length+1) c5) hH rfl rfl rfl (Nat.le_of_ble_eq_true rfl) rfl (Ty.shp rfl) ?_)
   clear hH
   intro w5 hH
   replace hH:Hp fp w w5 [Rb p 228 #[v0,v1,.slice a5 (P1.length+1) c5],Ro 281 2 a5 (P1.length+1) c5 (iv T1++[Value.int .i64 0,Value.int .i64 0])]:=hH
   obtain ⟨hT2,hs2,hr2⟩:=hT1.grow hx hqn hat hre h0
   have e2:(P1++[q++[b]]).length=P1.length+1:=by simp
   have e3:(iv T1++[Value.int .i64 0,Value.int .i64 0]).set (at'*2+0+b.toNat) (.int .i64 (P1.length:Nat))=iv ((T1++[0,0]).set (2*at'+b.toNat) (P1.length:Nat)):=by
    rw [show at'*2+0+b.toNat=2*at'+b.toNat by omega]
    show _=((T1++[0,0]).set _ _).map (Value.int .i64)
    rw [List.map_set,List.map_append];rfl
   have hB1:=hH.b 0 rfl
   have hO1:=(hH.o 1 rfl).sl
   have hl1:(iv T1++[Value.int .i64 0,Value.int .i64 0]).length=(P1.length+1)*2:=by rw [List.length_append,iv_len,hT1.len];simp;omega
   clear hv
   repeat (refine WL_nil ?_)
   refine WS_tailS Ty.mixed 15 rfl (by kernel_rfl) rfl (fun u=>Ext [] w5 u) ?_
   have hx1:Ext [] w5 w5.drew:=Ext.drew0
   refine wp 0 hx1 rfl rfl rfl rfl ?_
   refine wt 1 hx1 rfl rfl rfl (fun w' hw'=>by refine k_nilCheck rfl) ?_
   refine wt 2 hx1 rfl rfl rfl (fun w' hw'=>by refine k_fa rfl (Ty.fld rfl rfl)) ?_
   refine wt 3 hx1 rfl rfl rfl (fun w' hw'=>by refine k_loadb rfl (hB1.ext0 hw') rfl (Ty.shp rfl)) ?_
   refine wp 4 hx1 rfl rfl rfl rfl ?_
   refine wp 5 hx1 rfl rfl rfl rfl ?_
   refine wp 6 hx1 rfl rfl rfl rfl ?_
   refine wt 7 hx1 rfl rfl rfl (fun w' hw'=>by refine k_nilCheck rfl) ?_
   refine wt 8 hx1 rfl rfl rfl (fun w' hw'=>by refine k_fa rfl (Ty.fld rfl rfl)) ?_
   refine wt 9 hx1 rfl rfl rfl (fun w' hw'=>by refine k_loadb rfl (hB1.ext0 hw') rfl (Ty.shp rfl)) ?_
   refine wt 10 hx1 rfl rfl rfl (fun w' hw'=>by refine k_len rfl (Ty.isl rfl)) ?_
   refine wt 11 hx1 rfl rfl rfl (fun w' hw'=>by refine k_sub64 rfl rfl (by omega)) ?_
   refine wt 12 hx1 rfl rfl rfl (fun w' hw'=>by refine k_ix (sz:=2) rfl rfl (hO1.ext0 hw') hl1 (by decide) (Ty.sle rfl) (by omega)) ?_
   refine wt 13 hx1 rfl rfl rfl (fun w' hw'=>by refine k_fa rfl (Ty.fld rfl rfl)) ?_
   refine wt 14 hx1 rfl rfl rfl (fun w' hw'=>by refine k_ixaA rfl rfl (Ty.arr rfl) (by omega)) ?_
   refine WA_done (by kernel_rfl) ?_
   replace hH:=hH.ext0 hx1
   refine WL_s (H_storeO 1 (v:=.int .i64 (P1.length:Nat)) hH rfl rfl (congrArg (Value.int .i64) (by omega)) (by omega) rfl (Ty.shp rfl) ?_)
   clear hH hB1 hO1 hl1
   intro w6 hH
   replace hH:Hp fp w w6 [Rb p 228 #[v0,v1,.slice a5 (P1.length+1) c5],Ro 281 2 a5 (P1.length+1) c5 ((iv T1++[Value.int .i64 0,Value.int .i64 0]).set (at'*2+0+b.toNat) (.int .i64 (P1.length:Nat)))]:=hH
   rw [e3,← e2] at hH
   clear e3
   generalize (T1++[0,0]).set (2 * at' + b.toNat) ((P1.length:Nat):Int)=T2 at *
   have hB1:=hH.b 0 rfl
   have hO1:=(hH.o 1 rfl).sl
   have hl1:(iv T2).length=(P1++[q++[b]]).length*2:=by rw [iv_len,hT2.len];omega
   have hat2:(P1++[q++[b]])[at']?=some q:=by rw [List.getElem?_append_left hatl];exact hat
   have hv:=slot_at (hT2.lt hat2 b)
   rw [hs2] at hv
   have hnew:(P1++[q++[b]])[P1.length]?=some (q++[b]):=by simp
   repeat (first|refine WS_region ?_|refine WL_nil ?_|refine WS_inBlock ?_|(refine WL_r (by first|refine k_nilCheck rfl|refine k_fa rfl (Ty.fld rfl rfl)|refine k_loadb rfl hB1 rfl (Ty.shp rfl)|refine k_ix (sz:=2) rfl rfl hO1 hl1 (by decide) (Ty.sle rfl) (by omega)|refine k_ixaA rfl rfl (Ty.arr rfl) (by omega)|refine k_loads rfl hO1 hv (Ty.shp rfl)|refine Run_pev rfl|refine k_sub64 rfl rfl (by omega)) rfl ?_))
   refine IH (j,T2,P1++[q++[b]],a5,c5,P1.length,q++[b]) _ _ ?_ ?_ ?_ ?_
   ·simp only;omega
   ·exact ⟨rfl,congrArg (Value.int .i64) (by omega),trivial⟩
   ·repeat first|with_reducible apply Agr.refl|refine Agr.upd rfl ?_|refine Agr.updL rfl ?_|refine Agr.mrg rfl ?_
   ·exact ⟨by omega,hT2,by omega,hx2,hnew,hr2,hH⟩
  ·rw [hm] at hv ⊢
   repeat (first|refine WS_region ?_|refine WL_nil ?_|refine WS_inBlock ?_|refine WS_skip ?_|refine WS_no rfl (by omega) ?_|(refine WL_r (by first|refine k_nilCheck rfl|refine k_fa rfl (Ty.fld rfl rfl)|refine k_loadb rfl hB1 rfl (Ty.shp rfl)|refine k_ix (sz:=2) rfl rfl hO1 hl1 (by decide) (Ty.sle rfl) (by omega)|refine k_ixaA rfl rfl (Ty.arr rfl) (by omega)|refine k_loads rfl hO1 hv (Ty.shp rfl)|refine Run_pev rfl|refine k_sub64 rfl rfl (by omega)) rfl ?_))
   refine IH (j,T1,P1,a1,c1,m,q++[b]) _ _ ?_ ?_ ?_ ?_
   ·simp only;omega
   ·exact ⟨rfl,congrArg (Value.int .i64) (by omega),trivial⟩
   ·repeat first|with_reducible apply Agr.refl|refine Agr.upd rfl ?_|refine Agr.updL rfl ?_|refine Agr.mrg rfl ?_
   ·exact ⟨by omega,hT1,by omega,hx2,hPm,hrm,hH⟩
 ·obtain rfl:k=0:=by omega
  clear IH hdn
  have hx2:nb wd s=q++[b]:=by rw [hx];rfl
  have hb0:wd &&& 1=b.toNat:=by simpa using hbit
  obtain ⟨h0,hT2⟩:=hT1.done hx2 hat hre hf i
  have hB1:=hH.b 0 rfl
  have hO1:=(hH.o 1 rfl).sl
  have hl1:(iv T1).length=P1.length*2:=by rw [iv_len,hT1.len];omega
  have e3:(iv T1).set (at'*2+0+b.toNat) (.int .i64 (-1-(i:Int)))=iv (T1.set (2*at'+b.toNat) (-1-(i:Int))):=by
   rw [show at'*2+0+b.toNat=2*at'+b.toNat by omega,← List.map_set]
  repeat (first|refine WS_seq ?_|refine WS_region ?_|refine WL_nil ?_|refine WS_exit rfl ?_|refine WS_false rfl ?_|(refine WL_r (by first|refine k_nilCheck rfl|refine k_fa rfl (Ty.fld rfl rfl)|refine k_loadb rfl hB1 rfl (Ty.shp rfl)|refine (k_and (n:=1) rfl rfl (fit64 hw) rfl).is (congrArg (fun n:Nat=>Value.int .u64 (n:Int)) hb0)|refine k_ix (sz:=2) rfl rfl hO1 hl1 (by decide) (Ty.sle rfl) (by omega)|refine k_ixaA rfl rfl (Ty.arr rfl) (by omega)|refine Run_pev rfl|refine k_sub64 rfl rfl (by omega)) rfl ?_))
  refine WL_s (H_storeO 1 (v:=.int .i64 (-1-(i:Int))) hH rfl rfl rfl (by omega) rfl (Ty.shp rfl) ?_)
  clear hH hB1 hO1 hl1
  intro w6 hH
  replace hH:Hp fp w w6 [Rb p 228 #[v0,v1,.slice a1 P1.length c1],Ro 281 2 a1 P1.length c1 ((iv T1).set (at'*2+0+b.toNat) (.int .i64 (-1-(i:Int))))]:=hH
  rw [e3] at hH
  replace hH:=hH.merge 0 1 rfl rfl (by decide)
  repeat (refine WL_nil ?_)
  rw [← hfp] at hH
  exact WS_end0 Tryz.func112 rfl ⟨rfl,a1,c1,P1.length,_,P1,rfl,by omega,hT2,hH.upd 0 rfl⟩
end Go.Proofs.YtpbiicegmcpkpaaGreat
