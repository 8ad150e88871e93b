/- A part of the proof of the card of TopText; no condition. -/
import Derived.Test.YtdbnmbkjmeepkaaGreatDoorT28
namespace Go.Proofs.YtdbnmbkjmeepkaaGreatDoor
open Go Go.K Go.P Go.RowKit Go.Proofs
theorem LZ {x:Int} (hx:-64≤x∧x≤64) (h:uM (FN x) 0=true):x=0:=by
 have key:∀ i:Nat,i<129→uM (FN ((i:Int)-64)) 0=true→i=64:=by decide +kernel
 have h1:=key (x+64).toNat (by omega) (by rw [show (((x+64).toNat:Nat):Int)-64=x by omega];exact h)
 omega
theorem Gt {h:SH} {c:List Int} {qp:Int} {b:Bool}:fC 2047 (GY xH h c qp b):=⟨nX _ _ _ _ _,fun n hn=>by
 obtain ⟨i,_,rfl⟩:=List.mem_map.1 hn
 exact JG _ _⟩
theorem G3 {h:SH} {c:List Int} {qp:Int} {b:Bool}:fC 2047 (JY h c qp b):=by
 unfold JY
 split
 ·refine ⟨by rw [List.length_set];exact nX _ _ _ _ _,fun n hn=>?_⟩
  rcases List.mem_or_eq_of_mem_set hn with h1|h1
  ·exact Gt.2 n h1
  ·have:=Db (c.getD 0 0) qp;omega
 ·exact Gt
theorem OF {h:SH} {c:List Int} {qp:Int}:(JY h c qp true)[0]?=some (Hz (c.getD 0 0) qp):=by
 unfold JY
 rw [if_pos rfl,List.getElem?_set_self (by rw [nX];decide)]
theorem EN {k:Nat} {q:Int} {u0 u1 u2 u3:Value} {e:Bool} {L vs:List Int} {n:Nat}:(eF k q u0 u1 u2 u3 e L).take (0+7+n)++vs.map (Value.int .i64)++(eF k q u0 u1 u2 u3 e L).drop (0+7+n+(vs.map (Value.int .i64)).length)=eF k q u0 u1 u2 u3 e (L.take n++vs++L.drop (n+vs.length)):=by
 rw [List.length_map]
 rw [show 0+7+n+vs.length=(n+vs.length)+7 by omega,show 0+7+n=n+7 by omega]
 simp [eF,List.map_take,List.map_drop]
theorem zN {g:Nat→List Int} {n:Int} (h:n∈wU g):∃ j,j<6∧n∈g j:=by
 obtain ⟨j,hj,hn⟩:=List.mem_flatMap.1 h
 exact ⟨j,List.mem_range.1 hj,hn⟩
theorem Lz {P Q:List Int} (hP:fC 256 P) (hQ:fC 256 Q):fC 512 (List.zipWith (· - ·) P Q):=⟨by simp [hP.1,hQ.1],fun n hn=>by
 obtain ⟨i,hi⟩:=List.mem_iff_getElem?.1 hn
 rw [List.getElem?_zipWith] at hi
 cases h1:P[i]? with
 | none=>simp [h1] at hi
 | some a =>
  cases h2:Q[i]? with
  | none=>simp [h1,h2] at hi
  | some b =>
   simp only [h1,h2,Option.some.injEq] at hi
   have h3:=hP.2 a (List.mem_of_getElem? h1)
   have h4:=hQ.2 b (List.mem_of_getElem? h2)
   omega⟩
theorem Dz {B:Int} {l:List Int} (hB:0≤B) (h:fC B l):tH B l:=lF.2 ⟨h.1,hB,h.2⟩
theorem Li {A B:Int} {l:List Int} (h:tH A l) (hAB:A≤B):tH B l:=⟨h.1,fun i=>by have:=h.2 i;omega⟩
def lvl (h:SH) (P:List Int) (q:Int) (b:Bool):List Int:=JY h (zU P) q b
theorem IN {P:List Int} (h:fC 512 P):tH 1000000000 (zU P):=by
 obtain ⟨_,y,_,_,_,hf,hy⟩:=Hd (M:=512) (by decide) (by decide) (Dz (by decide) h)
 rw [hf];exact Li hy (by decide)
abbrev I8 (p0 p1 p2 p3:Int × Int):V4:=⟨FN p0.1,FN p0.2,FN p1.1,FN p1.2,FN p2.1,FN p2.2,FN p3.1,FN p3.2⟩
def Pe (h:SH) (f g:FM) (c r mb:Nat) (u:V4) (down:Bool) (q:Int) (k:Nat):List Int:=lvl h (List.zipWith (· - ·) (oD (f.pl k).S (pN c k) (pN r k) (bX c mb k:Nat) (bY c mb k:Nat)) (xJ g c r mb u down k)) q false
theorem Mu {g:FM} {c r mb:Nat} {u:V4} {down:Bool} {k:Nat} (hg:g.ok c r):fC 256 (xJ g c r mb u down k):=Kr (FM.oJ hg k).2
theorem IF {g:Nat→List Int} (h:∀ j,j<6→g j=rH):∀ n∈wU g,n=0:=fun n hn=>by
 obtain ⟨j,hj,hn⟩:=zN hn
 rw [h j hj] at hn
 exact List.eq_of_mem_replicate hn
set_option maxRecDepth 20000 in
set_option maxHeartbeats 4000000 in
theorem C8 {bx:Nat} {e:ES} {f:FM} {c r mb kd:Nat} {q:Int} {p0 p1 p2 p3:Int × Int} {w:World} (hc:1≤c∧c≤8) (hr:1≤r∧r≤8) (hmb:mb<c*r) (ho:e.C.h.ok) (hf:f.ok c r) (hg:e.g.ok c r) (hkd:kd=1∨kd=2) (hq:1≤q∧q≤31) (h0:nZ p0) (h1:nZ p1) (h2:nZ p2) (h3:nZ p3) (hal:kd=1→p1=p0∧p2=p0∧p3=p0)
  (hBx:cL w bx 105 e.cells.toArray) (hfr:f.rd w) (hgr:e.g.rd w) :
  aX Tryz.prog 101 #[pt bx,.agg f.cells.toArray,.int .i64 mb,.agg (eF kd q (cO p0) (cO p1) (cO p2) (cO p3) false (List.replicate 384 0)).toArray] w fun v w'=>∃ m:MB,v=.agg m.cells.toArray∧m.ok∧m.k<3∧m.q=q∧m.e=false∧Ext [] w w':=by
 refine aL (args:=[_,_,_,_]) Tryz.func101 rfl rfl Tryz.ntmps101 rfl ?_
 have hH:=Hp.start w
 obtain ⟨hm64,_⟩:=eI hc.2 hr.2 hmb
 have htl:=SH.eS ho
 have hpr:=fun w' (h:Ext [] w w')=>pL (w:=w') (u:=I8 p0 p1 p2 p3) (down:=e.down) hc hr hmb hg (hgr.ext h)
 have hpl:=vT e.g c r mb (I8 p0 p1 p2 p3) e.down
 have hpsm:=fun k=>Mu (r:=r) (mb:=mb) (u:=I8 p0 p1 p2 p3) (down:=e.down) (k:=k) hg
 have hgd:∀ k,Pe e.C.h f e.g c r mb (I8 p0 p1 p2 p3) e.down q k=lvl e.C.h (List.zipWith (· - ·) (oD (f.pl k).S (pN c k) (pN r k) (bX c mb k:Nat) (bY c mb k:Nat)) (xJ e.g c r mb (I8 p0 p1 p2 p3) e.down k)) q false:=fun _=>rfl
 have hlm:∀ k,fC 2047 (Pe e.C.h f e.g c r mb (I8 p0 p1 p2 p3) e.down q k):=fun k=>by unfold Pe lvl;exact G3
 generalize Pe e.C.h f e.g c r mb (I8 p0 p1 p2 p3) e.down q=g at *
 generalize xJ e.g c r mb (I8 p0 p1 p2 p3) e.down=pd at *
 have hgl:=fun k=>(hlm k).1
 have hyl:=lK hpl
 have hyr:=fun k=>nU (k:=k) hpl
 have hzl:=lK hgl
 have hzr:=fun k=>nU (k:=k) hgl
 have hz0:=IF (g:=g)
 have hzm:∀ n∈wU g,-2047≤n∧n≤2047:=fun n hn=>by
  obtain ⟨j,_,hj⟩:=zN hn
  exact (hlm j).2 n hj
 generalize wU g=z at *
 generalize wU pd=y at *
 have hmv:∀ kk,(kk=kd∨kk=0∧kd=1∧(∀ n∈z,n=0)∧p0=(0,0))→MB.ok ⟨kk,q,cO p0,cO p1,cO p2,cO p3,false,z⟩:=by
  intro kk hkk
  refine ⟨by rcases hkk with h|h<;>(show kk<5)<;>omega,hq,h0.vg,h1.vg,h2.vg,h3.vg,fun hne=>?_,fun hn1 hn2=>?_,(fun h=>by cases h),hzl,fun i n hi=>⟨hzm n (List.mem_of_getElem? hi),fun hk0=>?_,fun h3=>?_⟩⟩
  ·have:kd=1:=by simp only at hne;rcases hkk with h|h<;>omega
   obtain ⟨e1,e2,e3⟩:=hal this
   exact ⟨by rw [e1],by rw [e2],by rw [e3]⟩
  ·simp only at hn1 hn2
   rcases hkk with h|⟨_,_,_,h⟩
   ·omega
   ·rw [h];rfl
  ·simp only at hk0
   rcases hkk with h|⟨_,_,h,_⟩
   ·omega
   ·exact h n (List.mem_of_getElem? hi)
  ·simp only at h3;rcases hkk with h|h<;>omega
 refine aK ?_
 refine aO ?_
 refine aA (bI (cs:=f.cells.toArray) hH rfl rfl rfl ?_)
 try clear hH
 intro _ b5 hH
 replace hH:=aI hH
 refine aK ?_
 refine aO ?_
 refine aA (bI (cs:=(eF kd q (cO p0) (cO p1) (cO p2) (cO p3) false (List.replicate 384 0)).toArray) hH rfl rfl rfl ?_)
 try clear hH
 intro _ b7 hH
 replace hH:=aI hH
 refine aA (aQ (zs:=eF 0 0 zV zV zV zV false (List.replicate 384 0)) hH (Ty.bH rfl) rfl ?_)
 clear hH
 intro _ b8 hH
 replace hH:=aI hH
 refine aK ?_
 have hS0:cI _ (some ⟨bx,0,none⟩) e.cells:=(hBx.aH hH.ext).cX
 have hB0:=hBx.aH hH.ext
 have hS7:cI _ (some ⟨b7,0,none⟩) (eF kd q (cO p0) (cO p1) (cO p2) (cO p3) false (List.replicate 384 0)):=(hH.b 1 rfl).cX
 refine cD Ty.mixed 13 rfl (fun w1 hx1=>?_)
 refine bE 0 hx1 ?_
 refine AO ?_
 refine uN ?_
 refine aY 3 hx1 rfl (fun w' hw'=>by refine bG (j:=0+140) (cs:=e.g.cells) rfl (hS0.aH hw') (JE ho) rfl (Ty.aF rfl)) ?_
 refine bE 4 hx1 ?_
 refine Gf ?_
 refine aY 6 hx1 rfl (fun w' hw'=>by refine bG (j:=0+2) (cs:=(I8 p0 p1 p2 p3).cells) rfl (hS7.aH hw') rfl rfl (Ty.aF rfl)) ?_
 refine bE 7 hx1 ?_
 refine aY 8 hx1 rfl (fun w' hw'=>by refine aG rfl) ?_
 refine AJ ?_
 refine aY 10 hx1 rfl (fun w' hw'=>by refine aB rfl (hB0.aH hw') ((cQ ho (Nat.le_of_ble_eq_true rfl)).trans rfl) (Ty.aF rfl)) ?_
 refine bE 12 hx1 ?_
 refine bC 11 (by kernel_rfl) rfl rfl (aC (hpr _ (hH.ext.bO hx1)) rfl rfl ?_)
 rintro _ w2 ⟨rfl,hE0⟩
 have hx2:=hx1.bO hE0
 refine ⟨hx2,?_⟩
 refine aW (by kernel_rfl) ?_
 replace hH:=hH.aH hx2
 clear hx1 hx2 hE0 hS0 hS7 hB0
 refine aK ?_
 refine aV (G:=(Nat) × (Bool)) (fun|(k,b)=>6-k) 2417851639229257812672000 (fun|(k,b)=>[(9,.bool b),(29,.int .i64 k)]) (fun|(k,b),w'=>k≤6∧(b=true→∀ j,j<k→g j=rH)∧Hp [] w w' [Rb b5 54 f.cells.toArray,Rb b7 95 (eF kd q (cO p0) (cO p1) (cO p2) (cO p3) false (mix z (List.replicate 384 0) (k*64))).toArray,Rb b8 95 (eF 0 0 zV zV zV zV false (List.replicate 384 0)).toArray]) (0,true) ⟨rfl,rfl,trivial⟩ ⟨by omega,fun _ j hj=>absurd hj (Nat.not_lt_zero j),by rw [Nat.zero_mul,kV];exact hH⟩ ?_
 rintro ⟨k,b⟩ w' σ ⟨hk,hb,hH⟩ IH
 show WS _ _ _ _ _ (bQ [(9,.bool b),(29,.int .i64 k)] _) _
 have hml:=eZ hzl (List.length_replicate (n:=384) (a:=(0:Int))) (show k*64≤384 by omega)
 by_cases hlt:k<6
 ·have hbx:=Nt (k:=k) hmb
  have hpo:=FM.oJ hf k
  have hpn:=lZ hc k
  have hpm:=lZ hr k
  have hfs:=fun w=>eR (w:=w) (mb:=mb) (k:=k) hc (by omega) hlt hf
  have hSr:=FM.yD hfr k
  have hgk:=hgd k
  generalize f.pl k=pl at *
  generalize pN c k=pc at *
  generalize pN r k=pr at *
  generalize bX c mb k=X at *
  generalize bY c mb k=Y at *
  have hps:=fun w' (h:Ext [] w w')=>jD (w:=w') (i:=X) (j:=Y) hpn hpm (by omega) (by omega) hpo (hSr.aH h)
  have hP:=A9 (m:=pc) (n:=pr) (i:=X) (j:=Y) hpo.2
  generalize oD pl.S pc pr X Y=P at *
  have hQ:=hpsm k
  have hyk:=hyr k hlt
  have hzrk:=hzr k hlt
  have hglk:=hgl k
  have hgsm:=hlm k
  generalize hQd:pd k=Q at *
  have hex:(y.map (Value.int .i64)).toArray.extract ((k:Int).toNat*64) ((k:Int).toNat*64+64)=(Q.map (Value.int .i64)).toArray:=by
   rw [Int.toNat_natCast,wJ,hyk]
  have hPl:=hP.1
  have hQl:=hQ.1
  have hzz:=Lz hP hQ
  have hfw:=IN hzz
  have hze:∀ i a b,P[i]?=some a→Q[i]?=some b→(List.zipWith (· - ·) P Q)[i]?=some (a-b):=fun i a b ha hb=>by rw [List.getElem?_zipWith,ha,hb]
  generalize List.zipWith (· - ·) P Q=Zd at *
  have hfd:=fun w=>qA (w:=w) (M:=512) (by decide) (by decide) (Dz (by decide) hzz)
  have hlv:=fun w=>CR (w:=w) (qp:=q) (b:=false) ho hfw
  rw [show JY e.C.h (zU Zd) q false=g k from hgk.symm] at hlv
  generalize zU Zd=Fd at *
  clear hgd hgk hpsm hlm hzm hpr
  repeat (first|refine aR ?_|(refine aD (by refine (gY rfl rfl (Ty.arr rfl) (by omega)).is (congrArg Value.agg hex)) rfl ?_)|refine aT ?_)
  refine aO ?_
  refine aA (aQ hH (Ty.bH rfl) rfl ?_)
  try clear hH
  intro _ b11 hH
  replace hH:=aI hH
  refine aK ?_
  have hl1:=hQl
  refine aO ?_
  refine aA (aJ 3 (vs:=(Q.map (Value.int .i64)).toArray) (s:=64) hH rfl rfl rfl (by simp [hl1]) (by rfl) (by exact bB) (Ty.aF rfl) ?_)
  try clear hH
  intro _ hH
  replace hH:=aI hH
  have hB5:=hH.b 0 rfl
  repeat (first|refine aR ?_|(refine aD (by refine aE rfl hB5 rfl (Ty.aF rfl)) rfl ?_)|refine aT ?_)
  clear hB5
  refine aO ?_
  refine aA (aC ((hfs _)) rfl rfl ?_)
  rintro _ _ ⟨rfl,hE0⟩
  replace hH:=hH.aH hE0
  clear hE0
  replace hH:=aI hH
  refine aK ?_
  refine aO ?_
  refine aA (aQ hH (Ty.bH rfl) rfl ?_)
  try clear hH
  intro _ b12 hH
  replace hH:=aI hH
  refine aK ?_
  refine aO ?_
  refine aA (aJ 4 (vs:=(pl.cells pc pr).toArray) (s:=3) hH rfl rfl rfl (by rfl) (by rfl) (by simp [Value.oneCell']) (Ty.aF rfl) ?_)
  try clear hH
  intro _ hH
  replace hH:=aI hH
  have hB12:=hH.b 4 rfl
  repeat (first|refine aR ?_|(refine aD (by refine aE rfl hB12 rfl (Ty.aF rfl)) rfl ?_)|refine aT ?_)
  clear hB12
  refine aO ?_
  refine aA (aC ((hps _ hH.ext)) rfl rfl ?_)
  rintro _ _ ⟨rfl,hE0⟩
  replace hH:=hH.aH hE0
  clear hE0
  replace hH:=aI hH
  refine aK ?_
  refine aO ?_
  refine aA (aQ hH (Ty.bH rfl) rfl ?_)
  try clear hH
  intro _ b15 hH
  replace hH:=aI hH
  refine aK ?_
  clear hl1
  have hl1:=hPl
  refine aO ?_
  refine aA (aJ 5 (vs:=(P.map (Value.int .i64)).toArray) (s:=64) hH rfl rfl rfl (by simp [hl1]) (by rfl) (by exact bB) (Ty.aF rfl) ?_)
  try clear hH
  intro _ hH
  replace hH:=aI hH
  refine aK ?_
  refine aV (G:=(Nat)) (fun i=>64-i) 144080003703832576 (fun i=>[(45,.int .i64 i)]) (fun i w'=>i≤64∧Hp [] w w' [Rb b5 54 f.cells.toArray,Rb b7 95 (eF kd q (cO p0) (cO p1) (cO p2) (cO p3) false (mix z (List.replicate 384 0) (k*64))).toArray,Rb b8 95 (eF 0 0 zV zV zV zV false (List.replicate 384 0)).toArray,Rb b11 92 (Q.map (Value.int .i64)).toArray,Rb b12 52 (pl.cells pc pr).toArray,Rb b15 92 ((mix Zd P i).map (Value.int .i64)).toArray]) (0) ⟨rfl,trivial⟩ ⟨by omega,by rw [kV];exact hH⟩ ?_
  rintro i w' σ ⟨hi,hH⟩ IH2
  show WS _ _ _ _ _ (bQ [(45,.int .i64 i)] _) _
  by_cases hil:i<64
  ·obtain ⟨u,hu⟩:∃ u,P[i]?=some u:=⟨_,List.getElem?_eq_getElem (by omega)⟩
   obtain ⟨v,hv⟩:∃ v,Q[i]?=some v:=⟨_,List.getElem?_eq_getElem (by omega)⟩
   have hub:=hP.2 u (List.mem_of_getElem? hu)
   have Dd:=hQ.2 v (List.mem_of_getElem? hv)
   have hzi:=hze i u v hu hv
   have hmi:=Dv (l:=P) hzz.1 hil
   rw [hu] at hmi
   have hml2:=eZ (k:=i) hzz.1 hPl (by omega)
   have hS15:cI _ (some ⟨b15,0,none⟩) _:=(hH.b 5 rfl).cX
   have hS11:cI _ (some ⟨b11,0,none⟩) _:=(hH.b 3 rfl).cX
   have hg1:((mix Zd P i).map (Value.int .i64))[(i:Int).toNat]?=some (.int .i64 u):=by rw [Int.toNat_natCast,List.getElem?_map,hmi];rfl
   have hg2:(Q.map (Value.int .i64))[(i:Int).toNat]?=some (.int .i64 v):=by rw [Int.toNat_natCast,List.getElem?_map,hv];rfl
   refine aK ?_
   refine cM Ty.mixed 8 rfl (by kernel_rfl) rfl (fun w1 hx1=>?_)
   refine bE 0 hx1 ?_
   refine aY 1 hx1 rfl (fun w' hw'=>by refine bD rfl rfl (Ty.arr rfl) (by omega)) ?_
   refine aY 2 hx1 rfl (fun w' hw'=>by refine aU rfl (hS15.aH hw') hg1 (Ty.aF rfl)) ?_
   refine bE 3 hx1 ?_
   refine aY 4 hx1 rfl (fun w' hw'=>by refine bD rfl rfl (Ty.arr rfl) (by omega)) ?_
   refine aY 5 hx1 rfl (fun w' hw'=>by refine aU rfl (hS11.aH hw') hg2 (Ty.aF rfl)) ?_
   refine bE 6 hx1 ?_
   refine aY 7 hx1 rfl (fun w' hw'=>by refine bD rfl rfl (Ty.arr rfl) (by omega)) ?_
   refine aW (by kernel_rfl) ?_
   replace hH:=hH.aH hx1
   clear hS15 hS11 hx1
   refine aO ?_
   refine aA (cF 5 (v:=.int .i64 (u-v)) hH rfl rfl rfl (by rw [List.length_map,hml2];omega) rfl (Ty.aF rfl) ?_)
   try clear hH
   intro _ hH
   replace hH:=aI hH
   rw [Int.toNat_natCast,← List.map_set,gZ hzz.1 hPl hil hzi] at hH
   refine aK ?_
   refine IH2 (i+1) _ _ ?_ ?_ ?_ ?_
   ·omega
   ·exact ⟨rfl,trivial⟩
   ·exact cP
   ·exact ⟨by omega,hH⟩
  ·obtain rfl:i=64:=by omega
   clear IH2
   rw [lD hzz.1 hPl] at hH
   have hzl2:=hzz.1
   have hS0:cI _ (some ⟨bx,0,none⟩) e.cells:=(hBx.aH hH.ext).cX
   have hB15:=hH.b 5 rfl
   have hB7:=hH.b 1 rfl
   refine aK ?_
   refine cM Ty.mixed 13 rfl (by kernel_rfl) rfl (fun w1 hx1=>?_)
   refine bE 0 hx1 ?_
   refine bE 1 hx1 ?_
   refine xF ?_
   refine D8 ?_
   refine GX ?_
   refine Gf ?_
   refine aY 6 hx1 rfl (fun w' hw'=>by refine bG (j:=0+0+0+2) (cs:=e.C.h.tc) rfl (hS0.aH hw') (LL ho) htl (Ty.aF rfl)) ?_
   refine aY 7 hx1 rfl (fun w' hw'=>by refine aE rfl (hB15.aH hw') (by simp [hzl2]) (Ty.aF rfl)) ?_
   refine AJ ?_
   refine aY 10 hx1 rfl (fun w' hw'=>by refine aB (v:=.int .i64 q) rfl (hB7.aH hw') rfl (Ty.aF rfl)) ?_
   refine aY 12 hx1 rfl (fun w' hw'=>by refine aN rfl (Ty.bA rfl rfl)) ?_
   refine bC 8 (by kernel_rfl) rfl rfl (aC (hfd _) rfl rfl ?_)
   rintro _ w2 ⟨rfl,hE0⟩
   have hx2:=hx1.bO hE0
   refine ⟨hx2,?_⟩
   refine bC 11 (by kernel_rfl) rfl rfl (aC (hlv _) rfl rfl ?_)
   rintro _ w3 ⟨rfl,hE1⟩
   have hx3:=hx2.bO hE1
   refine ⟨hx3,?_⟩
   refine aW (by kernel_rfl) ?_
   replace hH:=hH.aH hx3
   clear hx1 hx2 hx3 hE0 hE1 hS0 hB15 hB7
   repeat ((refine aD (by refine jS rfl rfl (Ty.arr rfl) (by omega)) rfl ?_))
   refine aA (mL 1 (o:=0+7+(k:Int).toNat*64) (vs:=(g k).map (Value.int .i64)) (s:=64) hH rfl rfl rfl (by rw [bL hml,List.length_map,hglk];omega) (fun u hu=>bB (v:=g k) u hu) (Ty.aF rfl) (by simp [hglk]) ?_)
   clear hH
   intro _ hH
   have hmr:=As (z:=z) (l:=List.replicate 384 0) (vs:=g k) (n:=k*64) hzl (by simp) (by rw [hglk];exact hzrk) (by rw [hglk];omega)
   rw [EN,Int.toNat_natCast,hmr,hglk,← Nat.succ_mul] at hH
   replace hH:=aI hH
   replace hH:=hH.take 3
   replace hH:=aI hH
   have hS7:=uZ (hH.b 1 rfl)
   have hrw:(((mix z (List.replicate 384 0) ((k+1)*64)).map (Value.int .i64)).drop ((k:Int).toNat*64)).take 64=(g k).map (Value.int .i64):=by
    rw [Int.toNat_natCast,← List.map_drop,← List.map_take,mix,List.drop_append_of_le_length (by simp;omega),List.take_append_of_le_length (by simp;omega),List.drop_take,List.take_take,Nat.succ_mul,show min 64 (k*64+64-k*64)=64 by omega]
    rw [row] at hzrk
    rw [hzrk]
   cases b with
   | false =>
    refine aK ?_
    refine IH (k+1,false) _ _ ?_ ?_ ?_ ?_
    ·simp only;omega
    ·exact ⟨rfl,rfl,trivial⟩
    ·exact cP
    ·exact ⟨by omega,(fun h=>by cases h),hH⟩
   | true =>
    have hfk1:=oS (q:=.i64) (l:=g k) (fun x hx=>by have:=hgsm.2 x hx;exact ⟨by show (-9223372036854775808:Int)≤x;omega,by show x≤9223372036854775807;omega⟩)
    have hfk2:=oS (q:=.i64) (l:=rH) (fun x hx=>by rw [List.eq_of_mem_replicate hx];exact ⟨by decide,by decide⟩)
    rw [hglk] at hfk1
    have hinj:(g k).map (Value.int .i64)=rH.map (Value.int .i64) ↔ g k=rH:=List.map_inj_right (fun _ _ h=>by injection h)
    repeat (first|refine aR ?_|(refine aD (by first|refine aN rfl (Ty.bA rfl rfl)|refine jS rfl rfl (Ty.arr rfl) (by omega)|refine bG (j:=(k:Int).toNat*64) (cs:=(g k).map (Value.int .i64)) rfl hS7 hrw (by simp [hglk]) (Ty.aF rfl)|refine dC (ps:=[]) (cs:=rH.map (Value.int .i64)) (Ty.bH rfl) (Ty.arr rfl) rfl|refine Ik (p:=g k=rH) rfl rfl (Ty.Qm rfl) hfk1 hfk2 hinj) rfl ?_)|refine aT ?_)
    refine IH (k+1,decide (g k=rH)) _ _ ?_ ?_ ?_ ?_
    ·simp only;omega
    ·exact ⟨rfl,rfl,trivial⟩
    ·exact cP
    ·exact ⟨by omega,(fun h j hj=>by
      rcases Nat.lt_or_ge j k with h1|h1
      ·exact hb rfl j h1
      ·rw [show j=k by omega];exact of_decide_eq_true h),hH⟩
 ·obtain rfl:k=6:=by omega
  clear IH
  rw [lD hzl (by simp)] at hH
  cases b with
  | false =>
   refine aK ?_
   have hB6:=hH.b 1 rfl
   repeat ((refine aD (by refine aE rfl hB6 (by simpa using bL (k:=kd) hzl) (Ty.aF rfl)) rfl ?_))
   clear hB6
   have hm:MB.ok ⟨kd,q,cO p0,cO p1,cO p2,cO p3,false,z⟩:=hmv kd (.inl rfl)
   refine aA (aJ 2 (vs:=(MB.cells ⟨kd,q,cO p0,cO p1,cO p2,cO p3,false,z⟩).toArray) (s:=391) hH rfl rfl rfl (by simpa using bL hzl) (by rw [List.size_toArray];exact bL List.length_replicate) (dZ hm) (Ty.aF rfl) ?_)
   clear hH
   intro _ hH
   replace hH:=aI hH
   refine aK ?_
   exact bP Tryz.func101 rfl rfl (hH.b 2 rfl) (by simpa using bL hzl) (Ty.aF rfl) ⟨⟨kd,q,cO p0,cO p1,cO p2,cO p3,false,z⟩,rfl,hm,(by omega:kd<3),rfl,rfl,hH.ext⟩
  | true =>
   have hz6:=hz0 (hb rfl)
   have hB7:=hH.b 1 rfl
   rcases hkd with rfl|rfl
   ·have hbx:=h0.1
    have hby:=h0.2
    obtain ⟨t,ht⟩:∃ t,(uM (FN p0.1) 0 && uM (FN p0.2) 0)=t:=⟨_,rfl⟩
    have hS7:cI _ (some ⟨b7,0+2,none⟩) (I8 p0 p1 p2 p3).cells:=hB7.sl (fun j v hj=>by
     match j,hj with
     | 0,hj=>exact hj
     | 1,hj=>exact hj
     | 2,hj=>exact hj
     | 3,hj=>exact hj)
    cases t with
    | false =>
     repeat (first|refine aR ?_|(refine aD (by first|refine aN rfl (Ty.bA rfl rfl)|refine aB rfl hB7 rfl (Ty.aF rfl)|refine (dJ (q:=.u8) rfl rfl).is (bT (by omega))|refine bD rfl rfl (Ty.arr rfl) (by decide)|refine (vL rfl rfl).is (congrArg Value.bool ht)) rfl ?_)|refine aT ?_)
     clear hB7
     have hB6:=hH.b 1 rfl
     repeat ((refine aD (by refine aE rfl hB6 (by simpa using bL (k:=1) hzl) (Ty.aF rfl)) rfl ?_))
     clear hB6
     have hm:MB.ok ⟨1,q,cO p0,cO p1,cO p2,cO p3,false,z⟩:=hmv 1 (.inl rfl)
     refine aA (aJ 2 (vs:=(MB.cells ⟨1,q,cO p0,cO p1,cO p2,cO p3,false,z⟩).toArray) (s:=391) hH rfl rfl rfl (by simpa using bL hzl) (by rw [List.size_toArray];exact bL List.length_replicate) (dZ hm) (Ty.aF rfl) ?_)
     clear hH
     intro _ hH
     replace hH:=aI hH
     refine aK ?_
     exact bP Tryz.func101 rfl rfl (hH.b 2 rfl) (by simpa using bL hzl) (Ty.aF rfl) ⟨⟨1,q,cO p0,cO p1,cO p2,cO p3,false,z⟩,rfl,hm,(by omega:1<3),rfl,rfl,hH.ext⟩
    | true =>
     rw [Bool.and_eq_true] at ht
     have hp0:p0=(0,0):=Prod.ext (LZ (by omega) ht.1) (LZ (by omega) ht.2)
     have ht2:(uM (FN p0.1) 0 && uM (FN p0.2) 0)=true:=by rw [ht.1,ht.2];rfl
     repeat (first|refine aR ?_|(refine aD (by first|refine aN rfl (Ty.bA rfl rfl)|refine aB rfl hB7 rfl (Ty.aF rfl)|refine (dJ (q:=.u8) rfl rfl).is (bT (by omega))|refine bD rfl rfl (Ty.arr rfl) (by decide)|refine (vL rfl rfl).is (congrArg Value.bool ht2)) rfl ?_)|refine aT ?_)
     clear hB7
     refine aA (bV 1 (o:=0+0) (v:=.int .u8 (0:Nat)) hH rfl rfl rfl (by rw [bL hzl];decide) rfl (Ty.aF rfl) ?_)
     clear hH
     intro _ hH
     replace hH:=hH.as (r':=Rb b7 95 (eF 0 q (cO p0) (cO p1) (cO p2) (cO p3) false z).toArray) 1 rfl (fun _ h=>h) (fun h=>h)
     replace hH:=aI hH
     refine aK ?_
     have hB6:=hH.b 1 rfl
     repeat ((refine aD (by refine aE rfl hB6 (by simpa using bL (k:=0) hzl) (Ty.aF rfl)) rfl ?_))
     clear hB6
     have hm:MB.ok ⟨0,q,cO p0,cO p1,cO p2,cO p3,false,z⟩:=hmv 0 (.inr ⟨rfl,rfl,hz6,hp0⟩)
     refine aA (aJ 2 (vs:=(MB.cells ⟨0,q,cO p0,cO p1,cO p2,cO p3,false,z⟩).toArray) (s:=391) hH rfl rfl rfl (by simpa using bL hzl) (by rw [List.size_toArray];exact bL List.length_replicate) (dZ hm) (Ty.aF rfl) ?_)
     clear hH
     intro _ hH
     replace hH:=aI hH
     refine aK ?_
     exact bP Tryz.func101 rfl rfl (hH.b 2 rfl) (by simpa using bL hzl) (Ty.aF rfl) ⟨⟨0,q,cO p0,cO p1,cO p2,cO p3,false,z⟩,rfl,hm,(by omega:0<3),rfl,rfl,hH.ext⟩
   ·repeat (first|refine aR ?_|(refine aD (by first|refine aN rfl (Ty.bA rfl rfl)|refine aB rfl hB7 rfl (Ty.aF rfl)|refine (dJ (q:=.u8) rfl rfl).is (bF (by omega))) rfl ?_)|refine aT ?_)
    clear hB7
    have hB6:=hH.b 1 rfl
    repeat ((refine aD (by refine aE rfl hB6 (by simpa using bL (k:=2) hzl) (Ty.aF rfl)) rfl ?_))
    clear hB6
    have hm:MB.ok ⟨2,q,cO p0,cO p1,cO p2,cO p3,false,z⟩:=hmv 2 (.inl rfl)
    refine aA (aJ 2 (vs:=(MB.cells ⟨2,q,cO p0,cO p1,cO p2,cO p3,false,z⟩).toArray) (s:=391) hH rfl rfl rfl (by simpa using bL hzl) (by rw [List.size_toArray];exact bL List.length_replicate) (dZ hm) (Ty.aF rfl) ?_)
    clear hH
    intro _ hH
    replace hH:=aI hH
    refine aK ?_
    exact bP Tryz.func101 rfl rfl (hH.b 2 rfl) (by simpa using bL hzl) (Ty.aF rfl) ⟨⟨2,q,cO p0,cO p1,cO p2,cO p3,false,z⟩,rfl,hm,(by omega:2<3),rfl,rfl,hH.ext⟩
end Go.Proofs.YtdbnmbkjmeepkaaGreatDoor
