/- A part of the proof that TopWorse is true at every input; no condition. -/
import Derived.Test.YtpbiicegmcpkpaaGreatT35
import Derived.Test.YtpbiicegmcpkpaaGreatT37
namespace Go.Proofs.YtpbiicegmcpkpaaGreat
open Go Go.K Go.P Go.RowKit Go.Proofs
abbrev eC (bc y u z:Nat) (ed:Value):List Value:=cf1++(pt bc::(frC 1 1 y u z++[.int .i64 1,.int .i64 0,ed,.bool false,.bool false]))
abbrev eA (bx bc y2 u2 z2 b m1 m2 m3 y u z:Nat):List Res:=[Rb bx 113 (eC bc y2 u2 z2 (pt b)).toArray,RT 1000 b m1 m2 m3 1 1,Rb y 5 (List.replicate (16*1*(16*1)) (Value.int .u8 50)).toArray,Rb u 5 (List.replicate (8*1*(8*1)) (Value.int .u8 50)).toArray,Rb z 5 (List.replicate (8*1*(8*1)) (Value.int .u8 50)).toArray]
theorem FL_set {k:Nat} (h:k<6):(mcl 3 1 zV zV zV zV false (FL k)).take (0+7+(k:Int).toNat*64)++b25.map (Value.int .i64)++(mcl 3 1 zV zV zV zV false (FL k)).drop (0+7+(k:Int).toNat*64+(b25.map (Value.int .i64)).length)=mcl 3 1 zV zV zV zV false (FL (k+1)):=by
 rcases (show k=0∨k=1∨k=2∨k=3∨k=4∨k=5 by omega) with rfl|rfl|rfl|rfl|rfl|rfl<;>kernel_rfl
theorem FL_next {k:Nat} (h:k<6):row (FL (k+1)) k=b25:=by
 rcases (show k=0∨k=1∨k=2∨k=3∨k=4∨k=5 by omega) with rfl|rfl|rfl|rfl|rfl|rfl<;>decide +kernel
theorem FL_nrow {k:Nat} (h:k<6):(((FL (k+1)).map (Value.int .i64)).drop ((k:Int).toNat*64)).take 64=b25.map (Value.int .i64):=by
 rw [Int.toNat_natCast,← FL_next h,row,List.map_take,List.map_drop]
theorem FL_zero {k j i:Nat} (h:k<6) (h1:1≤i) (hi:i<64):((FL j).map (Value.int .i64))[(k:Int).toNat*64+(i:Int).toNat]?=some (.int .i64 0):=by
 rw [Int.toNat_natCast,Int.toNat_natCast,List.getElem?_map,FL,List.getElem?_map,List.getElem?_range (by omega)]
 show some (Value.int .i64 (if (k*64+i) % 64=0∧k*64+i<64*j then 25 else 0))=_
 rw [if_neg (by omega)]
theorem m0_len {k:Nat}:(mcl 3 1 zV zV zV zV false (FL k)).length=391:=mcl_len FL_len
theorem eC_len {bc y u z:Nat} {ed:Value}:(eC bc y u z ed).length=156:=by kernel_rfl
theorem eC_tab {bc y u z:Nat} {ed:Value}:((eC bc y u z ed).drop (0+0+0+2)).take 129=tz:=by kernel_rfl
theorem kg25:kgL 1000 (b25++[1]):=⟨rfl,fun i n h1 h2 h3=>by
 rw [List.getElem?_append_left (by simp;omega),show i=(i-1)+1 by omega,List.getElem?_cons_succ,List.getElem?_replicate,if_pos (by omega)] at h3
 have:=Option.some.inj h3
 omega⟩
theorem hb25:∀ n∈b25,-1000≤n∧n≤1000:=fun n hn=>by
 rcases List.mem_cons.1 hn with rfl|hn
 ·decide
 ·have:=List.eq_of_mem_replicate hn;omega
theorem joinI {A:Prop} {Y:Fr→List Int→Nat→World→Prop} (Z:List Int→Nat→World→Prop) (h1:(∀ σ z b u,Z z b u→Y σ z b u)→A) (h2:∀ σ z b u,Z z b u→Y σ z b u):A:=h1 h2
set_option maxRecDepth 20000 in
set_option maxHeartbeats 16000000 in
theorem alone83 {bx bc y2 u2 z2 b m1 m2 m3 y u z:Nat} {w:World} (hS:Sep (eA bx bc y2 u2 z2 b m1 m2 m3 y u z) w):Does Tryz.prog 83 #[pt bx,.agg (frC 1 1 y u z).toArray,.int .i64 0,.int .i64 1] w fun v w'=>∃ e,v=.agg (m25 e).toArray∧Hp (fps (eA bx bc y2 u2 z2 b m1 m2 m3 y u z)) w w' (eA bx bc y2 u2 z2 b m1 m2 m3 y u z):=by
 refine Does_of (args:=[_,_,_,_]) Tryz.func83 rfl rfl Tryz.ntmps83 rfl ?_
 have hH:=Hp.startL hS
 repeat (first|refine WS_seq ?_|refine WS_region ?_)
 refine WL_s (H_box (cs:=(frC 1 1 y u z).toArray) hH rfl rfl rfl ?_)
 try clear hH
 intro _ b5 hH
 replace hH:=nn6 hH
 skip
 refine WL_s (H_alloc (zs:=mk0 0 0) hH (Ty.zer rfl) rfl ?_)
 clear hH
 intro _ b8 hH
 replace hH:=nn7 hH
 repeat (first|refine WS_seq ?_|refine WS_region ?_|refine WL_nil ?_|(refine WL_r (by first|refine k_buildS (cs:=mk0 3 1) (Ty.zer rfl) (Ty.plc rfl) rfl|refine Run_pev rfl) rfl ?_))
 refine WL_s (H_alloc (zs:=mk0 0 0) hH (Ty.zer rfl) rfl ?_)
 clear hH
 intro _ b9 hH
 replace hH:=nn8 hH
 have hM0:(mk0 0 0).length=391:=by rw [mk0_mcl];exact mcl_len (by simp)
 have hm0:MB.ok ⟨3,1,zV,zV,zV,zV,false,FL 0⟩:=by
  rw [show FL 0=List.replicate 384 0 by kernel_rfl]
  exact mv0 (by decide) (by decide)
 have hM1:mk0 3 1=mcl 3 1 zV zV zV zV false (FL 0):=by kernel_rfl
 skip
 refine WL_s (H_storeA 7 (vs:=(mcl 3 1 zV zV zV zV false (FL 0)).toArray) (s:=391) hH rfl rfl (congrArg (fun l:List Value=>Value.agg l.toArray) hM1) (by simpa using m0_len) (by simpa using hM0) (mcl_one (m:=⟨3,1,zV,zV,zV,zV,false,FL 0⟩) hm0) (Ty.shp rfl) ?_)
 clear hH
 intro _ hH
 replace hH:=nn8 hH
 repeat (first|refine WS_seq ?_|refine WS_region ?_|refine WL_nil ?_|(refine WL_r (by first|refine Run_pev rfl|refine k_sub64 rfl rfl (by omega)) rfl ?_))
 refine WL_s (S_call ((step_spec (p:=1) (q:=0) (by decide))) rfl rfl ?_)
 rintro v w3 ⟨hst,hE0⟩
 replace hH:=hH.ext0 hE0
 clear hE0
 have hv:v=.tuple #[.int .i64 0,.bool false]:=by
  rcases hst with ⟨_,_,_,h,_⟩|⟨_,h⟩
  ·omega
  ·exact h
 subst hv
 repeat (first|refine WS_seq ?_|refine WS_region ?_|refine WL_nil ?_|refine WS_block ?_|refine WS_skip ?_|refine WS_false rfl ?_|refine WL_gno rfl rfl rfl rfl rfl ?_|(refine WL_r (by first|refine Run_pev rfl|refine k_extract rfl rfl) rfl ?_))
 refine WS_loop (G:=(Nat) × (Int)) (fun|(k,ed)=>6-k) 44601490397061246283071436543044923202465792 (fun|(k,ed)=>[(12,.int .i64 0),(13,.int .i64 ed),(14,.bool true),(51,.int .i64 k)]) (fun|(k,ed),w'=>k≤6∧(0≤ed∧ed≤200000*k)∧Hp (fps (eA bx bc y2 u2 z2 b m1 m2 m3 y u z)) w w' [Rb bx 113 (eC bc y2 u2 z2 (pt b)).toArray,RT 1000 b m1 m2 m3 1 1,Rb y 5 (List.replicate (16*1*(16*1)) (Value.int .u8 50)).toArray,Rb u 5 (List.replicate (8*1*(8*1)) (Value.int .u8 50)).toArray,Rb z 5 (List.replicate (8*1*(8*1)) (Value.int .u8 50)).toArray,Rb b5 66 (frC 1 1 y u z).toArray,Rb b8 97 (mk0 0 0).toArray,Rb b9 97 (mcl 3 1 zV zV zV zV false (FL k)).toArray]) (0,0) ⟨rfl,rfl,rfl,rfl,trivial⟩ ⟨by omega,by omega,hH⟩ ?_
 rintro ⟨k,ed⟩ w' σ ⟨hk,hed,hH⟩ IH
 show WS _ _ _ _ _ (updL [(12,.int .i64 0),(13,.int .i64 ed),(14,.bool true),(51,.int .i64 k)] _) _
 by_cases hlt:k<6
 ·have hB5:=hH.b 5 rfl
  repeat (first|refine WS_seq ?_|refine WS_region ?_|refine WL_nil ?_|refine WS_block ?_|refine WS_skip ?_|refine WS_yes rfl (by omega) ?_|(refine WL_r (by first|refine k_loadA rfl hB5 rfl (Ty.shp rfl)|refine Run_pev rfl) rfl ?_))
  clear hB5
  refine WL_s (S_call ((fblock_spec (c:=1) (mb:=0) (k:=k) (by decide) (by decide) hlt (by simp [Value.oneCell']))) rfl rfl ?_)
  rintro _ _ ⟨hv,hE0⟩
  replace hH:=hH.ext0 hE0
  clear hE0
  have hbx:bX 1 0 k≤100000∧bY 1 0 k≤100000:=by
   unfold bX bY
   constructor<;>split<;>omega
  obtain ⟨pb,pn,hpn,hvp,hSp⟩:∃ pb pn:Nat,(1≤pn∧pn≤1024)∧(if k<4 then #[Value.int .i64 (16*1:Nat),Value.int .i64 (16*1:Nat),.slice (some ⟨y,0,none⟩) (16*1*(16*1)) (16*1*(16*1))] else if k=4 then #[Value.int .i64 (8*1:Nat),Value.int .i64 (8*1:Nat),.slice (some ⟨u,0,none⟩) (8*1*(8*1)) (8*1*(8*1))] else #[Value.int .i64 (8*1:Nat),Value.int .i64 (8*1:Nat),.slice (some ⟨z,0,none⟩) (8*1*(8*1)) (8*1*(8*1))])=(plC pn pn pb).toArray∧∀ (v:World),Hp (fps (eA bx bc y2 u2 z2 b m1 m2 m3 y u z)) w v [Rb bx 113 (eC bc y2 u2 z2 (pt b)).toArray,RT 1000 b m1 m2 m3 1 1,Rb y 5 (List.replicate (16*1*(16*1)) (Value.int .u8 50)).toArray,Rb u 5 (List.replicate (8*1*(8*1)) (Value.int .u8 50)).toArray,Rb z 5 (List.replicate (8*1*(8*1)) (Value.int .u8 50)).toArray,Rb b5 66 (frC 1 1 y u z).toArray,Rb b8 97 (mk0 0 0).toArray,Rb b9 97 (mcl 3 1 zV zV zV zV false (FL k)).toArray]→SlA v (some ⟨pb,0,none⟩) (List.replicate (pn*pn) (Value.int .u8 50)):=by
   by_cases h4:k<4
   ·exact ⟨y,16*1,by decide,by rw [if_pos h4],fun v h=>(h.b 2 rfl).sl0⟩
   ·rw [if_neg h4]
    by_cases h5:k=4
    ·exact ⟨u,8*1,by decide,by rw [if_pos h5],fun v h=>(h.b 3 rfl).sl0⟩
    ·exact ⟨z,8*1,by decide,by rw [if_neg h5],fun v h=>(h.b 4 rfl).sl0⟩
  have hv2:=hv.trans (congrArg (fun x:Array Value=>Value.tuple #[.agg x,.int .i64 (bX 1 0 k:Nat),.int .i64 (bY 1 0 k:Nat)]) hvp)
  subst hv2
  repeat ((refine WL_r (by first|refine Run_pev rfl|refine k_extract rfl rfl) rfl ?_))
  refine WL_s (H_alloc hH (Ty.zer rfl) rfl ?_)
  try clear hH
  intro _ b16 hH
  replace hH:=nn9 hH
  skip
  refine WL_s (H_storeA 8 (vs:=(plC pn pn pb).toArray) (s:=3) hH rfl rfl rfl (by rfl) (by rfl) (by simp [Value.oneCell']) (Ty.shp rfl) ?_)
  try clear hH
  intro _ hH
  replace hH:=nn9 hH
  repeat (first|refine WS_seq ?_|refine WL_nil ?_|refine lp rfl rfl ?_)
  have hS0:SlA _ (some ⟨bx,0,none⟩) _:=(hH.b 0 rfl).sl0
  have hB16:=hH.b 8 rfl
  have hB9:=hH.b 7 rfl
  have hSb:=hSp _ (hH.take 8)
  refine WS_tailE Ty.mixed 16 rfl (by kernel_rfl) rfl (fun w1 hx1=>?_)
  refine wp 0 hx1 rfl rfl rfl rfl ?_
  refine wp 1 hx1 rfl rfl rfl rfl ?_
  refine wt 2 hx1 rfl rfl rfl (fun w' hw'=>by refine k_nilCheck rfl) ?_
  refine wt 3 hx1 rfl rfl rfl (fun w' hw'=>by refine k_fa rfl (Ty.fld rfl rfl)) ?_
  refine wt 4 hx1 rfl rfl rfl (fun w' hw'=>by refine k_fa rfl (Ty.fld rfl rfl)) ?_
  refine wt 5 hx1 rfl rfl rfl (fun w' hw'=>by refine k_fa rfl (Ty.fld rfl rfl)) ?_
  refine wt 6 hx1 rfl rfl rfl (fun w' hw'=>by refine k_loadC (j:=0+0+0+2) (cs:=tz) rfl (hS0.ext0 hw') eC_tab rfl (Ty.shp rfl)) ?_
  refine wt 7 hx1 rfl rfl rfl (fun w' hw'=>by refine k_loadA rfl (hB16.ext0 hw') rfl (Ty.shp rfl)) ?_
  refine wp 8 hx1 rfl rfl rfl rfl ?_
  refine wp 9 hx1 rfl rfl rfl rfl ?_
  refine wt 12 hx1 rfl rfl rfl (fun w' hw'=>by refine k_fa rfl (Ty.fld rfl rfl)) ?_
  refine wt 13 hx1 rfl rfl rfl (fun w' hw'=>by refine k_loadb (v:=.int .i64 1) rfl (hB9.ext0 hw') rfl (Ty.shp rfl)) ?_
  refine wt 15 hx1 rfl rfl rfl (fun w' hw'=>by refine k_fa rfl (Ty.fld rfl rfl)) ?_
  refine WA_one 10 (by kernel_rfl) rfl rfl (S_call (plblock_spec (m:=pn) (n:=pn) (b:=pb) (x:=50) (i:=bX 1 0 k) (j:=bY 1 0 k) hpn hpn hbx.1 hbx.2 (by decide) (hSb.ext0 hx1)) rfl rfl ?_)
  rintro _ w2 ⟨rfl,hE0⟩
  have hx2:=hx1.then0 hE0
  refine ⟨hx2,?_⟩
  refine WA_one 11 (by kernel_rfl) rfl rfl (S_call forward50 rfl rfl ?_)
  rintro _ w3 ⟨rfl,hE1⟩
  have hx3:=hx2.then0 hE1
  refine ⟨hx3,?_⟩
  refine WA_one 14 (by kernel_rfl) rfl rfl (S_call levels50 rfl rfl ?_)
  rintro _ w4 ⟨rfl,hE2⟩
  have hx4:=hx3.then0 hE2
  refine ⟨hx4,?_⟩
  refine WA_done (by kernel_rfl) ?_
  replace hH:=hH.ext0 hx4
  clear hx1 hx2 hx3 hx4 hE0 hE1 hE2 hS0 hB16 hB9 hSb
  repeat ((refine WL_r (by refine k_ixaN rfl rfl (Ty.arr rfl) (by omega)) rfl ?_))
  refine WL_s (H_storeN 7 (o:=0+7+(k:Int).toNat*64) (vs:=b25.map (Value.int .i64)) (s:=64) hH rfl rfl rfl (by rw [m0_len];simp;omega) (fun u hu=>ints_one (v:=b25) u hu) (Ty.shp rfl) (by simp) ?_)
  clear hH
  intro _ hH
  replace hH:=nn9 hH
  rw [FL_set hlt] at hH
  repeat (first|refine WS_seq ?_|refine WL_nil ?_)
  apply joinI (Z:=fun zz b19 v=>sm64 2047 zz∧Hp (fps (eA bx bc y2 u2 z2 b m1 m2 m3 y u z)) w v [Rb bx 113 (eC bc y2 u2 z2 (pt b)).toArray,RT 1000 b m1 m2 m3 1 1,Rb y 5 (List.replicate (16*1*(16*1)) (Value.int .u8 50)).toArray,Rb u 5 (List.replicate (8*1*(8*1)) (Value.int .u8 50)).toArray,Rb z 5 (List.replicate (8*1*(8*1)) (Value.int .u8 50)).toArray,Rb b5 66 (frC 1 1 y u z).toArray,Rb b8 97 (mk0 0 0).toArray,Rb b9 97 (mcl 3 1 zV zV zV zV false (FL (k+1))).toArray,Rb b16 64 (plC pn pn pb).toArray,Rb b19 94 (zz.map (Value.int .i64)).toArray])
  ·intro key2
   refine WS_drawE Ty.mixed 20 rfl (fun w4 hx1=>?_)
   have hB0:=hH.b 0 rfl
   have hB9:=hH.b 7 rfl
   have hS9:=mcl_sl hB9
   refine wp 0 hx1 rfl rfl rfl rfl ?_
   refine wt 1 hx1 rfl rfl rfl (fun w' hw'=>by refine k_fa rfl (Ty.fld rfl rfl)) ?_
   refine wt 2 hx1 rfl rfl rfl (fun w' hw'=>by refine k_ixaN rfl rfl (Ty.arr rfl) (by omega)) ?_
   refine wt 3 hx1 rfl rfl rfl (fun w' hw'=>by refine k_loadC (j:=(k:Int).toNat*64) (cs:=b25.map (Value.int .i64)) rfl (hS9.ext0 hw') (FL_nrow hlt) (by simp) (Ty.shp rfl)) ?_
   refine wp 4 hx1 rfl rfl rfl rfl ?_
   refine wt 5 hx1 rfl rfl rfl (fun w' hw'=>by refine k_nilCheck rfl) ?_
   refine wt 6 hx1 rfl rfl rfl (fun w' hw'=>by refine k_fa rfl (Ty.fld rfl rfl)) ?_
   refine wt 7 hx1 rfl rfl rfl (fun w' hw'=>by refine k_loadb (v:=pt b) rfl (hB0.ext0 hw') rfl (Ty.shp rfl)) ?_
   refine wp 8 hx1 rfl rfl rfl rfl ?_
   refine wp 9 hx1 rfl rfl rfl rfl ?_
   refine wt 10 hx1 rfl rfl rfl (fun w' hw'=>by refine k_fa rfl (Ty.fld rfl rfl)) ?_
   refine wt 11 hx1 rfl rfl rfl (fun w' hw'=>by refine k_loadb (v:=.int .i64 1) rfl (hB9.ext0 hw') rfl (Ty.shp rfl)) ?_
   replace hH:=hH.ext0 hx1
   clear hB0 hB9 hS9
   replace hH:=nn9 hH
   refine WA_two 12 17 (by kernel_rfl) rfl rfl rfl rfl ?_ ?_
   ·skip
    refine S_call (pedge_spec (q:=1) (by decide) (by decide) (by decide) (by decide) hlt (hH.at 1 rfl)) rfl rfl ?_
    rintro _ _ ⟨u9,hul,hub,rfl,hE9⟩
    have hx9:=hx1.then0 hE9
    refine ⟨hx9,?_⟩
    replace hH:=hH.ext0 hE9
    clear hE9
    refine WA_two 13 17 (by kernel_rfl) rfl rfl rfl rfl ?_ ?_
    ·skip
     refine S_call (pless_spec (l:=b25) (by simp) hul (zsub (by simp) hb25 ⟨hul,hub⟩).1) rfl rfl ?_
     rintro _ _ ⟨rfl,hE10⟩
     have hx10:=hx9.then0 hE10
     refine ⟨hx10,?_⟩
     replace hH:=hH.ext0 hE10
     clear hE10
     refine wp 14 hx10 rfl rfl rfl rfl ?_
     refine wt 15 hx10 rfl rfl rfl (fun w' hw'=>by refine k_extract rfl rfl) ?_
     refine wt 16 hx10 rfl rfl rfl (fun w' hw'=>by refine k_extract rfl rfl) ?_
     refine WA_one 17 (by kernel_rfl) rfl rfl ?_
     refine S_alloc (Ty.zer rfl) rfl ?_
     intro _ b19 hb19 hE14 hB14 _
     have hx14:=hx10.then0 hE14
     refine ⟨hx14,?_⟩
     have hsz:=hx10.size
     replace hH:=hH.nu (r:=Rb b19 94 ((List.replicate 64 (0:Int)).map (Value.int .i64)).toArray) ⟨hE14,hB14,fun x hx=>by simp [Rb] at hx;omega⟩
     clear hE14 hB14
     have hzz:=(zsub (by simp) hb25 ⟨hul,hub⟩).2
     obtain ⟨zz,hzr⟩:∃ zz,List.zipWith (· - ·) b25 u9=zz:=⟨_,rfl⟩
     rw [hzr] at hzz
     refine WA_one 18 (by kernel_rfl) rfl rfl (S_storeA (s:=64) (vs:=(zz.map (Value.int .i64)).toArray) rfl (by rw [← hzr];rfl) (hH.b 9 rfl) (by simp [hzz.1]) rfl ints_one (Ty.shp rfl) (fun w7 hE7 hB7 _=>?_))
     have hx7:=hx14.thenB hE7 (by omega)
     refine ⟨hx7,?_⟩
     replace hH:=hH.up 9 rfl (r':=Rb b19 94 (zz.map (Value.int .i64)).toArray) ⟨hE7,hB7,fun _ hx=>.inl hx⟩
     clear hE7 hB7
     refine wp 19 hx7 rfl rfl rfl rfl ?_
     refine WA_done (by kernel_rfl) ?_
     apply WS_keepM 44601490397061246283071436543044923202465792 [(12,.int .i64 0),(13,.int .i64 ed),(14,.bool true),(15,.int .i64 k),(16,pt b16),(19,pt b19),(20,.bool true),(51,.int .i64 k)]
     ·exact ⟨rfl,rfl,rfl,rfl,rfl,rfl,rfl,rfl,trivial⟩
     ·repeat (first|((with_reducible apply Agr.upd);· exact rfl)|((with_reducible apply Agr.consL);· exact rfl)|(with_reducible apply Agr.nilL)|((with_reducible apply Agr.mrg (W':=44601490397061246283071436543044923202465792));(· exact rfl);apply Agr.refl)|(apply Agr.updo;· exact rfl))
     intro σ
     exact key2 σ zz b19 w7 ⟨hzz,hH⟩
    ·skip
     refine S_alloc (Ty.zer rfl) rfl ?_
     intro _ b19 hb19 hE14 hB14 _
     have hx14:=hx9.then0 hE14
     refine ⟨hx14,?_⟩
     have hsz:=hx9.size
     replace hH:=hH.nu (r:=Rb b19 94 ((List.replicate 64 (0:Int)).map (Value.int .i64)).toArray) ⟨hE14,hB14,fun x hx=>by simp [Rb] at hx;omega⟩
     clear hE14 hB14
     refine WA_one 13 (by kernel_rfl) rfl rfl ?_
     refine S_call (pless_spec (l:=b25) (by simp) hul (zsub (by simp) hb25 ⟨hul,hub⟩).1) rfl rfl ?_
     rintro _ _ ⟨rfl,hE10⟩
     have hx10:=hx14.then0 hE10
     refine ⟨hx10,?_⟩
     replace hH:=hH.ext0 hE10
     clear hE10
     refine wp 14 hx10 rfl rfl rfl rfl ?_
     refine wt 15 hx10 rfl rfl rfl (fun w' hw'=>by refine k_extract rfl rfl) ?_
     refine wt 16 hx10 rfl rfl rfl (fun w' hw'=>by refine k_extract rfl rfl) ?_
     have hx14:=hx10
     have hzz:=(zsub (by simp) hb25 ⟨hul,hub⟩).2
     obtain ⟨zz,hzr⟩:∃ zz,List.zipWith (· - ·) b25 u9=zz:=⟨_,rfl⟩
     rw [hzr] at hzz
     refine WA_one 18 (by kernel_rfl) rfl rfl (S_storeA (s:=64) (vs:=(zz.map (Value.int .i64)).toArray) rfl (by rw [← hzr];rfl) (hH.b 9 rfl) (by simp [hzz.1]) rfl ints_one (Ty.shp rfl) (fun w7 hE7 hB7 _=>?_))
     have hx7:=hx14.thenB hE7 (by omega)
     refine ⟨hx7,?_⟩
     replace hH:=hH.up 9 rfl (r':=Rb b19 94 (zz.map (Value.int .i64)).toArray) ⟨hE7,hB7,fun _ hx=>.inl hx⟩
     clear hE7 hB7
     refine wp 19 hx7 rfl rfl rfl rfl ?_
     refine WA_done (by kernel_rfl) ?_
     apply WS_keepM 44601490397061246283071436543044923202465792 [(12,.int .i64 0),(13,.int .i64 ed),(14,.bool true),(15,.int .i64 k),(16,pt b16),(19,pt b19),(20,.bool true),(51,.int .i64 k)]
     ·exact ⟨rfl,rfl,rfl,rfl,rfl,rfl,rfl,rfl,trivial⟩
     ·repeat (first|((with_reducible apply Agr.upd);· exact rfl)|((with_reducible apply Agr.consL);· exact rfl)|(with_reducible apply Agr.nilL)|((with_reducible apply Agr.mrg (W':=44601490397061246283071436543044923202465792));(· exact rfl);apply Agr.refl)|(apply Agr.updo;· exact rfl))
     intro σ
     exact key2 σ zz b19 w7 ⟨hzz,hH⟩
   ·skip
    refine S_alloc (Ty.zer rfl) rfl ?_
    intro _ b19 hb19 hE14 hB14 _
    have hx14:=hx1.then0 hE14
    refine ⟨hx14,?_⟩
    have hsz:=hx1.size
    replace hH:=hH.nu (r:=Rb b19 94 ((List.replicate 64 (0:Int)).map (Value.int .i64)).toArray) ⟨hE14,hB14,fun x hx=>by simp [Rb] at hx;omega⟩
    clear hE14 hB14
    refine WA_one 12 (by kernel_rfl) rfl rfl ?_
    refine S_call (pedge_spec (q:=1) (by decide) (by decide) (by decide) (by decide) hlt (hH.at 1 rfl)) rfl rfl ?_
    rintro _ _ ⟨u9,hul,hub,rfl,hE9⟩
    have hx9:=hx14.then0 hE9
    refine ⟨hx9,?_⟩
    replace hH:=hH.ext0 hE9
    clear hE9
    refine WA_one 13 (by kernel_rfl) rfl rfl ?_
    refine S_call (pless_spec (l:=b25) (by simp) hul (zsub (by simp) hb25 ⟨hul,hub⟩).1) rfl rfl ?_
    rintro _ _ ⟨rfl,hE10⟩
    have hx10:=hx9.then0 hE10
    refine ⟨hx10,?_⟩
    replace hH:=hH.ext0 hE10
    clear hE10
    refine wp 14 hx10 rfl rfl rfl rfl ?_
    refine wt 15 hx10 rfl rfl rfl (fun w' hw'=>by refine k_extract rfl rfl) ?_
    refine wt 16 hx10 rfl rfl rfl (fun w' hw'=>by refine k_extract rfl rfl) ?_
    have hx14:=hx10
    have hzz:=(zsub (by simp) hb25 ⟨hul,hub⟩).2
    obtain ⟨zz,hzr⟩:∃ zz,List.zipWith (· - ·) b25 u9=zz:=⟨_,rfl⟩
    rw [hzr] at hzz
    refine WA_one 18 (by kernel_rfl) rfl rfl (S_storeA (s:=64) (vs:=(zz.map (Value.int .i64)).toArray) rfl (by rw [← hzr];rfl) (hH.b 9 rfl) (by simp [hzz.1]) rfl ints_one (Ty.shp rfl) (fun w7 hE7 hB7 _=>?_))
    have hx7:=hx14.thenB hE7 (by omega)
    refine ⟨hx7,?_⟩
    replace hH:=hH.up 9 rfl (r':=Rb b19 94 (zz.map (Value.int .i64)).toArray) ⟨hE7,hB7,fun _ hx=>.inl hx⟩
    clear hE7 hB7
    refine wp 19 hx7 rfl rfl rfl rfl ?_
    refine WA_done (by kernel_rfl) ?_
    apply WS_keepM 44601490397061246283071436543044923202465792 [(12,.int .i64 0),(13,.int .i64 ed),(14,.bool true),(15,.int .i64 k),(16,pt b16),(19,pt b19),(20,.bool true),(51,.int .i64 k)]
    ·exact ⟨rfl,rfl,rfl,rfl,rfl,rfl,rfl,rfl,trivial⟩
    ·repeat (first|((with_reducible apply Agr.upd);· exact rfl)|((with_reducible apply Agr.consL);· exact rfl)|(with_reducible apply Agr.nilL)|((with_reducible apply Agr.mrg (W':=44601490397061246283071436543044923202465792));(· exact rfl);apply Agr.refl)|(apply Agr.updo;· exact rfl))
    intro σ
    exact key2 σ zz b19 w7 ⟨hzz,hH⟩
  clear hH
  rintro σ zz b19 w5 ⟨hzz,hH⟩
  repeat (first|refine WS_seq ?_|refine WS_region ?_|refine WL_nil ?_|refine WS_block ?_|refine WL_gyes rfl rfl rfl ?_|refine lp rfl rfl ?_)
  refine WS_loop (G:=(Nat) × (Int)) (fun|(i,ed)=>64-i) 1361129466416103253625269028230371749888 (fun|(i,ed)=>[(12,.int .i64 0),(13,.int .i64 ed),(21,.int .i64 i)]) (fun|(i,ed),w'=>(1≤i∧i≤64)∧(0≤ed∧ed≤200000*k+3000*i)∧Hp (fps (eA bx bc y2 u2 z2 b m1 m2 m3 y u z)) w w' [Rb bx 113 (eC bc y2 u2 z2 (pt b)).toArray,RT 1000 b m1 m2 m3 1 1,Rb y 5 (List.replicate (16*1*(16*1)) (Value.int .u8 50)).toArray,Rb u 5 (List.replicate (8*1*(8*1)) (Value.int .u8 50)).toArray,Rb z 5 (List.replicate (8*1*(8*1)) (Value.int .u8 50)).toArray,Rb b5 66 (frC 1 1 y u z).toArray,Rb b8 97 (mk0 0 0).toArray,Rb b9 97 (mcl 3 1 zV zV zV zV false (FL (k+1))).toArray,Rb b16 64 (plC pn pn pb).toArray,Rb b19 94 (zz.map (Value.int .i64)).toArray]) (1,ed) ⟨rfl,rfl,rfl,trivial⟩ ⟨by omega,by omega,hH⟩ ?_
  rintro ⟨i,ed⟩ w' σ ⟨hi,hed,hH⟩ IH2
  show WS _ _ _ _ _ (updL [(12,.int .i64 0),(13,.int .i64 ed),(21,.int .i64 i)] _) _
  by_cases hil:i<64
  ·have hSm:=mcl_sl (hH.b 7 rfl)
   have hS19:SlA _ (some ⟨b19,0,none⟩) _:=(hH.b 9 rfl).sl0
   obtain ⟨zi,hzi⟩:∃ zi,zz[i]?=some zi:=⟨_,List.getElem?_eq_getElem (by rw [hzz.1];exact hil)⟩
   have hzb:=hzz.2 zi (List.mem_of_getElem? hzi)
   have hzv:(zz.map (Value.int .i64))[(i:Int).toNat]?=some (.int .i64 zi):=by rw [Int.toNat_natCast,List.getElem?_map,hzi];rfl
   repeat (first|refine WS_seq ?_|refine WS_region ?_|refine WL_nil ?_|refine WS_block ?_|refine WS_skip ?_|refine WS_yes rfl (by omega) ?_|refine lp rfl rfl ?_)
   refine WS_drawE Ty.mixed 17 rfl (fun w1 hx1=>?_)
   refine wp 0 hx1 rfl rfl rfl rfl ?_
   refine wp 1 hx1 rfl rfl rfl rfl ?_
   refine wp 2 hx1 rfl rfl rfl rfl ?_
   refine wt 3 hx1 rfl rfl rfl (fun w' hw'=>by refine k_fa rfl (Ty.fld rfl rfl)) ?_
   refine wt 4 hx1 rfl rfl rfl (fun w' hw'=>by refine k_ixaN rfl rfl (Ty.arr rfl) (by omega)) ?_
   refine wt 5 hx1 rfl rfl rfl (fun w' hw'=>by refine k_ixaA rfl rfl (Ty.arr rfl) (by omega)) ?_
   refine wt 6 hx1 rfl rfl rfl (fun w' hw'=>by refine k_loads rfl (hSm.ext0 hw') (FL_zero hlt hi.1 hil) (Ty.shp rfl)) ?_
   refine wp 7 hx1 rfl rfl rfl rfl ?_
   refine wp 8 hx1 rfl rfl rfl rfl ?_
   refine wt 9 hx1 rfl rfl rfl (fun w' hw'=>by refine k_fa rfl (Ty.fld rfl rfl)) ?_
   refine wt 10 hx1 rfl rfl rfl (fun w' hw'=>by refine k_ixaN rfl rfl (Ty.arr rfl) (by omega)) ?_
   refine wt 11 hx1 rfl rfl rfl (fun w' hw'=>by refine k_ixaA rfl rfl (Ty.arr rfl) (by omega)) ?_
   refine wt 12 hx1 rfl rfl rfl (fun w' hw'=>by refine k_loads rfl (hSm.ext0 hw') (FL_zero hlt hi.1 hil) (Ty.shp rfl)) ?_
   refine wt 13 hx1 rfl rfl rfl (fun w' hw'=>by refine k_neg64 rfl (by omega)) ?_
   refine wt 14 hx1 rfl rfl rfl (fun w' hw'=>by refine k_max rfl rfl) ?_
   refine wt 15 hx1 rfl rfl rfl (fun w' hw'=>by refine k_add64 rfl rfl (by omega)) ?_
   refine wp 16 hx1 rfl rfl rfl rfl ?_
   refine WA_done (by kernel_rfl) ?_
   replace hH:=hH.ext0 hx1
   clear hx1 hSm
   replace hS19:SlA _ (some ⟨b19,0,none⟩) _:=(hH.b 9 rfl).sl0
   refine WS_drawE Ty.mixed 11 rfl (fun w1 hx1=>?_)
   refine wp 0 hx1 rfl rfl rfl rfl ?_
   refine wp 1 hx1 rfl rfl rfl rfl ?_
   refine wt 2 hx1 rfl rfl rfl (fun w' hw'=>by refine k_ixa1 rfl rfl (Ty.arr rfl) (by omega)) ?_
   refine wt 3 hx1 rfl rfl rfl (fun w' hw'=>by refine k_loads rfl (hS19.ext0 hw') hzv (Ty.shp rfl)) ?_
   refine wp 4 hx1 rfl rfl rfl rfl ?_
   refine wt 5 hx1 rfl rfl rfl (fun w' hw'=>by refine k_ixa1 rfl rfl (Ty.arr rfl) (by omega)) ?_
   refine wt 6 hx1 rfl rfl rfl (fun w' hw'=>by refine k_loads rfl (hS19.ext0 hw') hzv (Ty.shp rfl)) ?_
   refine wt 7 hx1 rfl rfl rfl (fun w' hw'=>by refine k_neg64 rfl (by omega)) ?_
   refine wt 8 hx1 rfl rfl rfl (fun w' hw'=>by refine k_max rfl rfl) ?_
   refine wt 9 hx1 rfl rfl rfl (fun w' hw'=>by refine k_add64 rfl rfl (by omega)) ?_
   refine wp 10 hx1 rfl rfl rfl rfl ?_
   refine WA_done (by kernel_rfl) ?_
   replace hH:=hH.ext0 hx1
   clear hx1 hS19
   repeat (first|refine WS_region ?_|refine WL_nil ?_|refine WS_inBlock ?_|(refine WL_r (by first|refine Run_pev rfl|refine k_add64 rfl rfl (by omega)) rfl ?_))
   refine IH2 (i+1,ed+max zi (-zi)) _ _ ?_ ?_ ?_ ?_
   ·simp only;omega
   ·exact ⟨rfl,rfl,rfl,trivial⟩
   ·repeat first|with_reducible apply Agr.refl|refine Agr.upd rfl ?_|refine Agr.updL rfl ?_|refine Agr.mrg rfl ?_
   ·exact ⟨by omega,by omega,hH⟩
  ·obtain rfl:i=64:=by omega
   clear IH2
   have h64:b25.length=64:=rfl
   have hB0:=hH.b 0 rfl
   have hB9:=hH.b 7 rfl
   have hS9:=mcl_sl hB9
   repeat (first|refine WS_seq ?_|refine WS_region ?_|refine WL_nil ?_|refine WS_exit rfl ?_|refine WS_false rfl ?_|refine lp rfl rfl ?_)
   refine WS_tailE Ty.mixed 13 rfl (by kernel_rfl) rfl (fun w1 hx1=>?_)
   refine wp 0 hx1 rfl rfl rfl rfl ?_
   refine wt 1 hx1 rfl rfl rfl (fun w' hw'=>by refine k_nilCheck rfl) ?_
   refine wt 2 hx1 rfl rfl rfl (fun w' hw'=>by refine k_fa rfl (Ty.fld rfl rfl)) ?_
   refine wt 3 hx1 rfl rfl rfl (fun w' hw'=>by refine k_loadb (v:=pt b) rfl (hB0.ext0 hw') rfl (Ty.shp rfl)) ?_
   refine wp 4 hx1 rfl rfl rfl rfl ?_
   refine wp 5 hx1 rfl rfl rfl rfl ?_
   refine wp 6 hx1 rfl rfl rfl rfl ?_
   refine wt 7 hx1 rfl rfl rfl (fun w' hw'=>by refine k_fa rfl (Ty.fld rfl rfl)) ?_
   refine wt 8 hx1 rfl rfl rfl (fun w' hw'=>by refine k_ixaN rfl rfl (Ty.arr rfl) (by omega)) ?_
   refine wt 9 hx1 rfl rfl rfl (fun w' hw'=>by refine k_loadC (j:=(k:Int).toNat*64) (cs:=b25.map (Value.int .i64)) rfl (hS9.ext0 hw') (FL_nrow hlt) (by simp) (Ty.shp rfl)) ?_
   refine wt 10 hx1 rfl rfl rfl (fun w' hw'=>by refine k_fa rfl (Ty.fld rfl rfl)) ?_
   refine wt 11 hx1 rfl rfl rfl (fun w' hw'=>by refine k_loadb (v:=.int .i64 1) rfl (hB9.ext0 hw') rfl (Ty.shp rfl)) ?_
   refine wt 12 hx1 rfl rfl rfl (fun w' hw'=>by refine k_buildS (Ty.zer rfl) (Ty.plc rfl) (kn_fill h64)) ?_
   refine WA_done (by kernel_rfl) ?_
   replace hH:=hH.ext0 hx1
   clear hB0 hB9 hS9 hx1
   refine WL_s (S_call ((pset_spec (l:=b25++[1]) (by decide) (by decide) (by decide) hlt kg25 (hH.at 1 rfl))) rfl rfl ?_)
   rintro _ _ ⟨rfl,hU⟩
   replace hH:=((hH.up 1 rfl hU).del 9).del 8
   clear hU
   replace hH:=nn8 hH
   repeat (first|refine WS_region ?_|refine WL_nil ?_|refine WS_inBlock ?_|(refine WL_r (by first|refine Run_pev rfl|refine k_add64 rfl rfl (by omega)) rfl ?_))
   refine IH (k+1,ed) _ _ ?_ ?_ ?_ ?_
   ·simp only;omega
   ·exact ⟨rfl,rfl,rfl,rfl,trivial⟩
   ·repeat first|with_reducible apply Agr.refl|refine Agr.upd rfl ?_|refine Agr.updL rfl ?_|refine Agr.mrg rfl ?_
   ·exact ⟨by omega,by omega,hH⟩
 ·obtain rfl:k=6:=by omega
  clear IH
  repeat (first|refine WS_seq ?_|refine WS_region ?_|refine WL_nil ?_|refine WS_exit rfl ?_|refine WS_false rfl ?_|refine WL_gyes rfl rfl rfl ?_|(refine WL_r (by first|refine k_fa rfl (Ty.fld rfl rfl)|refine Run_pev rfl) rfl ?_))
  refine WL_s (H_storeL 7 (o:=0+6) (v:=.bool (decide (ed<0))) hH rfl rfl rfl (by rw [m0_len];decide) rfl (Ty.shp rfl) ?_)
  clear hH
  intro _ hH
  replace hH:=nn8 hH
  replace hH:=hH.as (r':=Rb b9 97 (m25 (decide (ed<0))).toArray) 7 rfl (fun _ h=>h) (fun h=>h)
  replace hH:=nn8 hH
  have hB9:=hH.b 7 rfl
  repeat (first|refine WS_seq ?_|refine WS_region ?_|refine WL_nil ?_|(refine WL_r (by refine k_loadA rfl hB9 (by simpa using m25_len) (Ty.shp rfl)) rfl ?_))
  refine WL_s (H_storeA 6 (vs:=(m25 (decide (ed<0))).toArray) (s:=391) hH rfl rfl rfl (by simpa using m25_len) (by simpa using hM0) (mcl_one m25_ok) (Ty.shp rfl) ?_)
  clear hH
  intro _ hH
  replace hH:=nn8 hH
  repeat (refine WL_nil ?_)
  exact WS_retc1 Tryz.func83 rfl rfl (hH.b 6 rfl) (by simpa using m25_len) (Ty.shp rfl) ⟨_,rfl,hH.take 5⟩
set_option maxRecDepth 20000 in
set_option maxHeartbeats 8000000 in
theorem macro51 {bx bc y2 u2 z2 b m1 m2 m3 y u z:Nat} {w:World} (hS:Sep (eA bx bc y2 u2 z2 b m1 m2 m3 y u z) w):Does Tryz.prog 51 #[pt bx,.agg (frC 1 1 y u z).toArray,.int .i64 0,.int .i64 1] w fun v w'=>∃ e,v=.agg (m25 e).toArray∧Hp (fps (eA bx bc y2 u2 z2 b m1 m2 m3 y u z)) w w' (eA bx bc y2 u2 z2 b m1 m2 m3 y u z):=by
 refine Does_of (args:=[_,_,_,_]) Tryz.func51 rfl rfl Tryz.ntmps51 rfl ?_
 have hH:=Hp.startL hS
 repeat (first|refine WS_seq ?_|refine WS_region ?_)
 refine WL_s (H_box (cs:=(frC 1 1 y u z).toArray) hH rfl rfl rfl ?_)
 try clear hH
 intro _ b5 hH
 replace hH:=nn6 hH
 skip
 refine WL_s (H_alloc (zs:=mk0 0 0) hH (Ty.zer rfl) rfl ?_)
 clear hH
 intro _ b8 hH
 replace hH:=nn7 hH
 have hM0:(mk0 0 0).length=391:=by rw [mk0_mcl];exact mcl_len (by simp)
 have hB0:=hH.b 0 rfl
 repeat (first|refine WS_seq ?_|refine WS_region ?_|refine WL_nil ?_|(refine WL_r (by first|refine k_nilCheck rfl|refine k_fa rfl (Ty.fld rfl rfl)|refine k_loadb (v:=.int .i64 1) rfl hB0 rfl (Ty.shp rfl)|refine k_loadb (v:=.int .i64 0) rfl hB0 rfl (Ty.shp rfl)|refine Run_pev rfl) rfl ?_))
 refine WL_s (S_call ((column_spec (p:=0) (c:=1) (by decide) (by decide))) rfl rfl ?_)
 rintro _ _ ⟨rfl,rfl⟩
 repeat (first|refine WS_seq ?_|refine WS_region ?_|refine WL_nil ?_|(refine WL_r (by first|refine k_nilCheck rfl|refine k_fa rfl (Ty.fld rfl rfl)|refine k_loadb (v:=.int .i64 0) rfl hB0 rfl (Ty.shp rfl)|refine k_buildS (cs:=[.int .i64 0,.int .i64 0]) (Ty.zer rfl) (Ty.plc rfl) rfl|refine Run_pev rfl) rfl ?_))
 clear hB0
 refine WL_s (H_alloc hH (Ty.zer rfl) rfl ?_)
 try clear hH
 intro _ b11 hH
 replace hH:=nn8 hH
 skip
 refine WL_s (H_storeA 7 (vs:=#[.int .i64 0,.int .i64 0]) (s:=2) hH rfl rfl rfl (by rfl) (by rfl) (by decide) (Ty.shp rfl) ?_)
 try clear hH
 intro _ hH
 replace hH:=nn8 hH
 have hB0:=hH.b 0 rfl
 have hB5:=hH.b 5 rfl
 repeat (first|refine WS_seq ?_|refine WS_region ?_|refine WL_nil ?_|refine WS_skip ?_|refine WS_true rfl ?_|refine WS_false rfl ?_|(refine WL_r (by first|refine k_nilCheck rfl|refine k_fa rfl (Ty.fld rfl rfl)|refine k_loadb (v:=.bool false) rfl hB0 rfl (Ty.shp rfl)|refine k_loadA rfl hB5 rfl (Ty.shp rfl)|refine Run_pev rfl) rfl ?_))
 clear hB0 hB5
 refine WL_s (S_call ((alone83 (hH.sepN 5))) rfl rfl ?_)
 rintro _ _ ⟨e,rfl,hQ⟩
 replace hH:=hH.calls 5 hQ
 clear hQ
 replace hH:=nn8 hH
 skip
 refine WL_s (H_storeA 6 (vs:=(m25 e).toArray) (s:=391) hH rfl rfl rfl (by simpa using m25_len) (by simpa using hM0) (mcl_one m25_ok) (Ty.shp rfl) ?_)
 clear hH
 intro _ hH
 replace hH:=nn8 hH
 repeat (refine WL_nil ?_)
 exact WS_retc1 Tryz.func51 rfl rfl (hH.b 6 rfl) (by simpa using m25_len) (Ty.shp rfl) ⟨e,rfl,hH.take 5⟩
end Go.Proofs.YtpbiicegmcpkpaaGreat
