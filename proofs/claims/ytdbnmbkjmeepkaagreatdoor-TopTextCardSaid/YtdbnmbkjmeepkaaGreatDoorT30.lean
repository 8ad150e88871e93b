/- A part of the proof of the card of TopText; no condition. -/
import Derived.Test.YtdbnmbkjmeepkaaGreatDoorT29
namespace Go.Proofs.YtdbnmbkjmeepkaaGreatDoor
open Go Go.K Go.P Go.RowKit Go.Proofs
def ON (h:SH) (f:FM) (c r mb:Nat) (q:Int) (k:Nat):List Int:=lvl h (oD (f.pl k).S (pN c k) (pN r k) (bX c mb k:Nat) (bY c mb k:Nat)) q true
theorem OK {A B:Int} {l:List Int} (h:fC A l) (hAB:A≤B):fC B l:=⟨h.1,fun n hn=>by have:=h.2 n hn;omega⟩
theorem Qq {l:List Int} {q:Int} (h:fC 2047 l):kg (l++[q]):=⟨by simp [h.1],fun i hi=>by
 have hlt:i<l.length:=by rw [h.1];exact hi
 rw [List.getD_eq_getElem?_getD,List.getElem?_append_left hlt,List.getElem?_eq_getElem hlt]
 exact h.2 _ (List.getElem_mem hlt)⟩
theorem Gy {c mb kd:Nat} {q:Int} {e e':Bool} {L:List Int} {T:TV}:∀ b,(gU c mb kd q e L T b).T=(gU c mb kd q e' L T b).T
 | 0=>rfl
 | b+1=>by
  show rK c mb kd q (row L b) (gU c mb kd q e L T b).T b=rK c mb kd q (row L b) (gU c mb kd q e' L T b).T b
  rw [Gy b]
theorem NZ {c mb kd:Nat} {q:Int} {e:Bool} {L:List Int} {T:TV} {b:Nat} (h:kd=3∨kd=4):(gU c mb kd q e L T (b+1)).T=(gU c mb kd q e L T b).T.set c mb b (row L b++[q]):=by
 show rK c mb kd q (row L b) (gU c mb kd q e L T b).T b=_
 rw [rK,if_pos h]
theorem Ge {l e:List Int} (hl:fC 2047 l) (he:fC 2047 e):∃ zz ok,K3 (gA l e)=.tuple #[.agg (zz.map (Value.int .i64)).toArray,.bool ok]∧fC 4094 zz∧(ok=true→∃ y,gA l e=some y):=by
 cases h:gA l e with
 | none=>exact ⟨rH,false,rfl,Dw (by decide),fun h=>by cases h⟩
 | some y =>
  refine ⟨y,true,rfl,?_,fun _=>⟨y,rfl⟩⟩
  unfold gA at h
  split at h
  ·rename_i h2
   cases h
   exact ⟨by simp [hl.1,he.1],fun n hn=>by have:=h2 n hn;omega⟩
  ·cases h
theorem Ow {A:Prop} {Y:Fr→Nat→Int→World→Prop} (Z:Nat→Int→World→Prop) (h1:(∀ σ k q u,Z k q u→Y σ k q u)→A) (h2:∀ σ k q u,Z k q u→Y σ k q u):A:=h1 h2
abbrev mH (k:Nat) (q:Int) (L:List Int):List Value:=eF k q zV zV zV zV false L
set_option maxRecDepth 20000 in
set_option maxHeartbeats 4000000 in
theorem kJ {bx b m1 m2 m3:Nat} {e:ES} {f:FM} {c r mb q:Nat} {T:TV} {w:World} (hc:1≤c∧c≤8) (hr:1≤r∧r≤8) (hmb:mb<c*r) (ho:e.C.h.ok) (hf:f.ok c r) (hq:1≤q∧q≤31) (hqe:e.qp≤31) (hed:e.ed=pt b)
  (hR:(RT b m1 m2 m3 c r T).holds w) (hrd:∀ w',Ext (RT b m1 m2 m3 c r T).fp w w'→cL w' bx 105 e.cells.toArray∧f.rd w') :
  aX Tryz.prog 96 #[pt bx,.agg f.cells.toArray,.int .i64 mb,.int .i64 q] w fun v w'=>∃ m:MB,v=.agg m.cells.toArray∧m.ok∧(m.k=3∧m.q=q∨m.k=4∧jQ q m.q)∧xP c mb m.k m.q m.e m.L T∧Hp (RT b m1 m2 m3 c r T).fp w w' [RT b m1 m2 m3 c r (mT c mb m.k m.q m.e m.L T)]:=by
 refine aL (args:=[_,_,_,_]) Tryz.func96 rfl rfl Tryz.ntmps96 rfl ?_
 have hH:=Hp.fI hR
 have hTok:T.ok:=hR.2.2.2.2.1
 obtain ⟨hm64,_⟩:=eI hc.2 hr.2 hmb
 have htl:=SH.eS ho
 generalize hF:(RT b m1 m2 m3 c r T).fp=F at *
 clear hR
 refine aK ?_
 refine aO ?_
 refine aA (bI (cs:=f.cells.toArray) hH rfl rfl rfl ?_)
 try clear hH
 intro _ b5 hH
 replace hH:=aI hH
 refine aA (aQ (zs:=mH 0 0 (List.replicate 384 0)) hH (Ty.bH rfl) rfl ?_)
 clear hH
 intro _ b8 hH
 replace hH:=aI hH
 repeat (first|refine aR ?_|(refine aD (by refine bR (cs:=mH 3 q (List.replicate 384 0)) (Ty.bH rfl) (Ty.iJ rfl) rfl) rfl ?_)|refine aT ?_)
 refine aA (aQ (zs:=mH 0 0 (List.replicate 384 0)) hH (Ty.bH rfl) rfl ?_)
 clear hH
 intro _ b9 hH
 replace hH:=aI hH
 refine aK ?_
 have hL0:∀ k q,(mH k q (List.replicate 384 0)).length=391:=fun k q=>bL List.length_replicate
 refine aA (aJ 3 (vs:=(mH 3 q (List.replicate 384 0)).toArray) (s:=391) hH rfl rfl rfl (by rw [List.size_toArray,hL0]) (by rw [List.size_toArray,hL0]) (by intro v hv;simp [eF] at hv;rcases hv with rfl|rfl|rfl|rfl|rfl<;>rfl) (Ty.aF rfl) ?_)
 clear hH
 intro _ hH
 replace hH:=aI hH
 refine aK ?_
 refine aO ?_
 refine aA (aC ((jI (p:=q) (q:=(q:Int)-1) (by omega))) rfl rfl ?_)
 rintro v w3 ⟨dW,hE0⟩
 replace hH:=hH.aH hE0
 clear hE0
 obtain ⟨si,ok,rfl,hok⟩:∃ si:Int,∃ ok:Bool,v=.tuple #[.int .i64 si,.bool ok]∧(ok=true→1≤(q:Int)-1):=by
  rcases dW with ⟨i,_,_,h,rfl⟩|⟨_,rfl⟩
  ·exact ⟨i,true,rfl,fun _=>by omega⟩
  ·exact ⟨0,false,rfl,fun h=>by cases h⟩
 apply Ow (Z:=fun kk qq u=>((kk=3∧qq=q)∨(kk=4∧qq=(q:Int)-1∧1≤qq))∧Hp F w u [RT b m1 m2 m3 c r T,Rb b5 54 f.cells.toArray,Rb b8 95 (mH 0 0 (List.replicate 384 0)).toArray,Rb b9 95 (mH kk qq (List.replicate 384 0)).toArray])
 ·intro key
  obtain ⟨ok2,hok2⟩:∃ ok2,ok2=ok:=⟨_,rfl⟩
  rw [← hok2]
  cases ok2 with
  | false =>
   refine aK ?_
   obtain ⟨kk,hkk⟩:∃ k:Nat,3=k:=⟨_,rfl⟩
   obtain ⟨qq,hqq⟩:∃ k:Int,(q:Int)=k:=⟨_,rfl⟩
   rw [show (mH 3 q (List.replicate 384 0))=mH kk qq (List.replicate 384 0) by rw [← hkk,← hqq]] at hH
   exact oG fun u hu=>nO [(0,pt bx),(2,.int .i64 mb),(5,pt b5),(8,pt b8),(9,pt b9),(12,.int .i64 0),(13,.int .i64 0),(14,.bool true),(51,.int .i64 (0:Nat))] ⟨rfl,rfl,rfl,rfl,rfl,rfl,rfl,rfl,rfl,trivial⟩ (fun σ=>key σ kk qq u ⟨.inl ⟨hkk.symm,hqq.symm⟩,hu▸hH⟩)
  | true =>
   have hq1:=hok hok2.symm
   have hB5:=hH.b 1 rfl
   repeat (first|refine aR ?_|(refine aD (by refine aE rfl hB5 rfl (Ty.aF rfl)) rfl ?_)|refine aT ?_)
   clear hB5
   refine aO ?_
   refine aA (aC ((zE hc hr hmb hf (hrd _ hH.ext).2)) rfl rfl ?_)
   rintro _ _ ⟨n,rfl,hn,hE⟩
   replace hH:=hH.aH hE
   clear hE
   by_cases hn2:n<256
   ·by_cases hqp:(e.qp:Int)-2<q
    ·have hB0:=(hrd _ hH.ext).1
     repeat (first|refine aR ?_|(refine aD (by first|refine aG rfl|refine aN rfl (Ty.bA rfl rfl)|refine aB rfl hB0 ((cQ ho (Nat.le_of_ble_eq_true rfl)).trans rfl) (Ty.aF rfl)) rfl ?_)|refine aT ?_)
     clear hB0
     refine aA (bV 3 (o:=0+0) (v:=.int .u8 (4:Nat)) hH rfl rfl rfl (by rw [hL0];decide) rfl (Ty.aF rfl) ?_)
     clear hH
     intro _ hH
     replace hH:=hH.as (r':=Rb b9 95 (mH 4 q (List.replicate 384 0)).toArray) 3 rfl (fun _ h=>h) (fun h=>h)
     replace hH:=aI hH
     repeat ((refine aD (by refine aN rfl (Ty.bA rfl rfl)) rfl ?_))
     refine aA (bV 3 (o:=0+1) (v:=.int .i64 ((q:Int)-1)) hH rfl rfl rfl (by rw [hL0];decide) rfl (Ty.aF rfl) ?_)
     clear hH
     intro _ hH
     replace hH:=hH.as (r':=Rb b9 95 (mH 4 ((q:Int)-1) (List.replicate 384 0)).toArray) 3 rfl (fun _ h=>h) (fun h=>h)
     replace hH:=aI hH
     refine aK ?_
     obtain ⟨kk,hkk⟩:∃ k:Nat,4=k:=⟨_,rfl⟩
     obtain ⟨qq,hqq⟩:∃ k:Int,(q:Int)-1=k:=⟨_,rfl⟩
     rw [show (mH 4 ((q:Int)-1) (List.replicate 384 0))=mH kk qq (List.replicate 384 0) by rw [← hkk,← hqq]] at hH
     exact oG fun u hu=>nO [(0,pt bx),(2,.int .i64 mb),(5,pt b5),(8,pt b8),(9,pt b9),(12,.int .i64 0),(13,.int .i64 0),(14,.bool true),(51,.int .i64 (0:Nat))] ⟨rfl,rfl,rfl,rfl,rfl,rfl,rfl,rfl,rfl,trivial⟩ (fun σ=>key σ kk qq u ⟨.inr ⟨hkk.symm,hqq.symm,by omega⟩,hu▸hH⟩)
    ·have hB0:=(hrd _ hH.ext).1
     repeat (first|refine aR ?_|(refine aD (by first|refine aG rfl|refine aN rfl (Ty.bA rfl rfl)|refine aB rfl hB0 ((cQ ho (Nat.le_of_ble_eq_true rfl)).trans rfl) (Ty.aF rfl)) rfl ?_)|refine aT ?_)
     clear hB0
     obtain ⟨kk,hkk⟩:∃ k:Nat,3=k:=⟨_,rfl⟩
     obtain ⟨qq,hqq⟩:∃ k:Int,(q:Int)=k:=⟨_,rfl⟩
     rw [show (mH 3 q (List.replicate 384 0))=mH kk qq (List.replicate 384 0) by rw [← hkk,← hqq]] at hH
     exact oG fun u hu=>nO [(0,pt bx),(2,.int .i64 mb),(5,pt b5),(8,pt b8),(9,pt b9),(12,.int .i64 0),(13,.int .i64 0),(14,.bool true),(51,.int .i64 (0:Nat))] ⟨rfl,rfl,rfl,rfl,rfl,rfl,rfl,rfl,rfl,trivial⟩ (fun σ=>key σ kk qq u ⟨.inl ⟨hkk.symm,hqq.symm⟩,hu▸hH⟩)
   ·refine aK ?_
    obtain ⟨kk,hkk⟩:∃ k:Nat,3=k:=⟨_,rfl⟩
    obtain ⟨qq,hqq⟩:∃ k:Int,(q:Int)=k:=⟨_,rfl⟩
    rw [show (mH 3 q (List.replicate 384 0))=mH kk qq (List.replicate 384 0) by rw [← hkk,← hqq]] at hH
    exact oG fun u hu=>nO [(0,pt bx),(2,.int .i64 mb),(5,pt b5),(8,pt b8),(9,pt b9),(12,.int .i64 0),(13,.int .i64 0),(14,.bool true),(51,.int .i64 (0:Nat))] ⟨rfl,rfl,rfl,rfl,rfl,rfl,rfl,rfl,rfl,trivial⟩ (fun σ=>key σ kk qq u ⟨.inl ⟨hkk.symm,hqq.symm⟩,hu▸hH⟩)
 clear hH hok dW
 rintro σ kk qq w4 ⟨hkq,hH⟩
 have hk34:kk=3∨kk=4:=by omega
 have hqq:1≤qq∧qq≤31:=by omega
 have hgd:∀ k,ON e.C.h f c r mb qq k=lvl e.C.h (oD (f.pl k).S (pN c k) (pN r k) (bX c mb k:Nat) (bY c mb k:Nat)) qq true:=fun _=>rfl
 have hlm:∀ k,fC 2047 (ON e.C.h f c r mb qq k):=fun k=>by unfold ON lvl;exact G3
 have hl0:∀ k,∃ n,(ON e.C.h f c r mb qq k)[0]?=some n∧0≤n∧n≤127:=fun k=>⟨_,OF,Db _ _⟩
 generalize ON e.C.h f c r mb qq=g at *
 have hgl:=fun k=>(hlm k).1
 have hzl:=lK hgl
 have hzr:=fun k=>nU (k:=k) hgl
 have hza:=fun k i=>DO (k:=k) (i:=i) hgl
 have hzm:∀ n∈wU g,-2047≤n∧n≤2047:=fun n hn=>by
  obtain ⟨j,_,hj⟩:=zN hn
  exact (hlm j).2 n hj
 have hmok:∀ ev,MB.ok ⟨kk,qq,zV,zV,zV,zV,ev,wU g⟩:=fun ev=>⟨by show kk<5;omega,hqq,BS.vg,BS.vg,BS.vg,BS.vg,fun _=>⟨rfl,rfl,rfl⟩,fun _ _=>rfl,fun _=>by show 3≤kk;omega,hzl,fun i n hi=>⟨hzm n (List.mem_of_getElem? hi),fun h=>by simp only at h;omega,fun _ h0=>by
  have hi6:i<384:=by rw [← hzl];exact (List.getElem?_eq_some_iff.1 hi).1
  obtain ⟨n',hn',hb'⟩:=hl0 (i / 64)
  have h2:=hza (i / 64) 0 (by omega) (by decide)
  rw [show i / 64*64+0=i by omega,hn'] at h2
  rw [hi] at h2
  cases h2
  exact hb'⟩⟩
 have hkst:kk=3∧qq=q∨kk=4∧jQ q qq:=by
  rcases hkq with h|⟨h1,h2,_⟩
  ·exact .inl h
  ·exact .inr ⟨h1,.inr (.inl h2)⟩
 generalize wU g=z at *
 have hBS:∀ k,k<6→(gU c mb kk qq true z T (k+1)).T=(gU c mb kk qq true z T k).T.set c mb k (g k++[qq]):=fun k hk=>by rw [NZ hk34,hzr k hk]
 have hBk:∀ k,k≤6→(gU c mb kk qq true z T k).T.ok:=by
  intro k
  induction k with
  | zero=>intro _;exact hTok
  | succ k ih=>intro hk;rw [hBS k (by omega)];exact TV.G5 (ih (by omega)) (Qq (hlm k))
 have hB0T:(gU c mb kk qq true z T 0).T=T:=rfl
 have hmT:∀ e,mT c mb kk qq e z T=(gU c mb kk qq true z T 6).T:=fun e=>by rw [mT,if_neg (by omega)];exact Gy 6
 have heO:∀ e,(∀ b,b<6→∃ y,gA (g b) ((gU c mb kk qq true z T b).T.rC c mb b qq)=some y)→xP c mb kk qq e z T:=fun e h _ he b hb=>by rw [he,hzr b hb];exact h b hb
 have heF:xP c mb kk qq false z T:=fun _ h=>by cases h
 generalize hBF:(fun k=>(gU c mb kk qq true z T k).T)=TT
 have hTT:∀ k,(gU c mb kk qq true z T k).T=TT k:=fun k=>by rw [← hBF]
 simp only [hTT] at hBS hBk hB0T hmT heO
 clear hTT hBF
 rw [← hB0T] at hH
 refine aK ?_
 refine aV (G:=(Nat) × (Int) × (Int) × (Bool)) (fun|(k,pl,ed,ft)=>6-k) 44601490397061246283071436543044923202465792 (fun|(k,pl,ed,ft)=>[(12,.int .i64 pl),(13,.int .i64 ed),(14,.bool ft),(51,.int .i64 k)]) (fun|(k,pl,ed,ft),w'=>k≤6∧((0≤pl∧pl≤300000*k)∧0≤ed∧ed≤300000*k)∧(ft=true→∀ j,j<k→∃ y,gA (g j) ((TT j).rC c mb j qq)=some y)∧Hp F w w' [RT b m1 m2 m3 c r (TT k),Rb b5 54 f.cells.toArray,Rb b8 95 (mH 0 0 (List.replicate 384 0)).toArray,Rb b9 95 (mH kk qq (mix z (List.replicate 384 0) (k*64))).toArray]) (0,0,0,true) ⟨rfl,rfl,rfl,rfl,trivial⟩ ⟨by omega,by omega,fun _ j hj=>absurd hj (Nat.not_lt_zero j),by rw [Nat.zero_mul,kV];exact hH⟩ ?_
 rintro ⟨k,pl,ed,ft⟩ w' σ ⟨hk,hpe,hft,hH⟩ IH
 show WS _ _ _ _ _ (bQ [(12,.int .i64 pl),(13,.int .i64 ed),(14,.bool ft),(51,.int .i64 k)] _) _
 have hml:=eZ hzl (List.length_replicate (n:=384) (a:=(0:Int))) (show k*64≤384 by omega)
 by_cases hlt:k<6
 ·have hbx:=Nt (k:=k) hmb
  have hpo:=FM.oJ hf k
  have hpn:=lZ hc k
  have hpm:=lZ hr k
  have hfs:=fun w=>eR (w:=w) (mb:=mb) (k:=k) hc (by omega) hlt hf
  have hSr:=fun w' (h:Ext F w w')=>FM.yD (hrd w' h).2 k
  have hgk:=hgd k
  generalize f.pl k=Pg at *
  generalize pN c k=pc at *
  generalize pN r k=pr at *
  generalize bX c mb k=X at *
  generalize bY c mb k=Y at *
  have hps:=fun w' (h:Ext F w w')=>jD (w:=w') (i:=X) (j:=Y) hpn hpm (by omega) (by omega) hpo (hSr w' h)
  have hP:=A9 (m:=pc) (n:=pr) (i:=X) (j:=Y) hpo.2
  generalize oD Pg.S pc pr X Y=P at *
  have hfw:=IN (OK hP (B:=512) (by decide))
  have hfd:=fun w=>qA (w:=w) (M:=256) (by decide) (by decide) (Dz (by decide) hP)
  have hlv:=fun w=>CR (w:=w) (qp:=qq) (b:=true) ho hfw
  rw [show JY e.C.h (zU P) qq true=g k from hgk.symm] at hlv
  generalize zU P=Fd at *
  have hzrk:=hzr k hlt
  have hglk:=hgl k
  have hgsm:=hlm k
  have hB5:=hH.b 1 rfl
  repeat (first|refine aR ?_|(refine aD (by refine aE rfl hB5 rfl (Ty.aF rfl)) rfl ?_)|refine aT ?_)
  clear hB5
  refine aO ?_
  refine aA (aC ((hfs _)) rfl rfl ?_)
  rintro _ _ ⟨rfl,hE0⟩
  replace hH:=hH.aH hE0
  clear hE0
  replace hH:=aI hH
  refine aK ?_
  refine aO ?_
  refine aA (aQ hH (Ty.bH rfl) rfl ?_)
  try clear hH
  intro _ b16 hH
  replace hH:=aI hH
  refine aK ?_
  refine aO ?_
  refine aA (aJ 4 (vs:=(Pg.cells pc pr).toArray) (s:=3) hH rfl rfl rfl (by rfl) (by rfl) (by simp [Value.oneCell']) (Ty.aF rfl) ?_)
  try clear hH
  intro _ hH
  replace hH:=aI hH
  have hB16:=hH.b 4 rfl
  have hB9:=hH.b 3 rfl
  have hS0:cI _ (some ⟨bx,0,none⟩) e.cells:=(hrd _ hH.ext).1.cX
  have hE9:=hH.ext
  refine aK ?_
  refine cM Ty.mixed 16 rfl (by kernel_rfl) rfl (fun w1 hx1=>?_)
  refine bE 0 hx1 ?_
  refine bE 1 hx1 ?_
  refine xF ?_
  refine D8 ?_
  refine GX ?_
  refine Gf ?_
  refine aY 6 hx1 rfl (fun w' hw'=>by refine bG (j:=0+0+0+2) (cs:=e.C.h.tc) rfl (hS0.aH hw') (LL ho) htl (Ty.aF rfl)) ?_
  refine aY 7 hx1 rfl (fun w' hw'=>by refine aE rfl (hB16.aH hw') rfl (Ty.aF rfl)) ?_
  refine bE 8 hx1 ?_
  refine bE 9 hx1 ?_
  refine aY 12 hx1 rfl (fun w' hw'=>by refine aN rfl (Ty.bA rfl rfl)) ?_
  refine aY 13 hx1 rfl (fun w' hw'=>by refine aB (v:=.int .i64 qq) rfl (hB9.aH hw') rfl (Ty.aF rfl)) ?_
  refine aY 15 hx1 rfl (fun w' hw'=>by refine aN rfl (Ty.bA rfl rfl)) ?_
  refine bC 10 (by kernel_rfl) rfl rfl (aC (hps _ (hE9.bO hx1)) rfl rfl ?_)
  rintro _ w2 ⟨rfl,hE0⟩
  have hx2:=hx1.bO hE0
  refine ⟨hx2,?_⟩
  refine bC 11 (by kernel_rfl) rfl rfl (aC (hfd _) rfl rfl ?_)
  rintro _ w3 ⟨rfl,hE1⟩
  have hx3:=hx2.bO hE1
  refine ⟨hx3,?_⟩
  refine bC 14 (by kernel_rfl) rfl rfl (aC (hlv _) rfl rfl ?_)
  rintro _ w4 ⟨rfl,hE2⟩
  have hx4:=hx3.bO hE2
  refine ⟨hx4,?_⟩
  refine aW (by kernel_rfl) ?_
  replace hH:=hH.aH hx4
  clear hx1 hx2 hx3 hx4 hE0 hE1 hE2 hS0 hB16 hB9 hE9 hfd hlv hps
  repeat ((refine aD (by refine jS rfl rfl (Ty.arr rfl) (by omega)) rfl ?_))
  refine aA (mL 3 (o:=0+7+(k:Int).toNat*64) (vs:=(g k).map (Value.int .i64)) (s:=64) hH rfl rfl rfl (by rw [bL hml,List.length_map,hglk];omega) (fun u hu=>bB (v:=g k) u hu) (Ty.aF rfl) (by simp [hglk]) ?_)
  clear hH
  intro _ hH
  have hmr:=As (z:=z) (l:=List.replicate 384 0) (vs:=g k) (n:=k*64) hzl (by simp) (by rw [hglk];exact hzrk) (by rw [hglk];omega)
  rw [EN,Int.toNat_natCast,hmr,hglk,← Nat.succ_mul] at hH
  replace hH:=hH.take 4
  replace hH:=aI hH
  have hml1:=eZ hzl (List.length_replicate (n:=384) (a:=(0:Int))) (show (k+1)*64≤384 by omega)
  have hrw:(((mix z (List.replicate 384 0) ((k+1)*64)).map (Value.int .i64)).drop ((k:Int).toNat*64)).take 64=(g k).map (Value.int .i64):=by
   rw [Int.toNat_natCast,← List.map_drop,← List.map_take,mix,List.drop_append_of_le_length (by simp;omega),List.take_append_of_le_length (by simp;omega),List.drop_take,List.take_take,Nat.succ_mul,show min 64 (k*64+64-k*64)=64 by omega]
   rw [row] at hzrk
   rw [hzrk]
  have hrx:∀ i n,i<64→(g k)[i]?=some n→((mix z (List.replicate 384 0) ((k+1)*64)).map (Value.int .i64))[k*64+i]?=some (.int .i64 n):=fun i n hi hn=>by
   rw [List.getElem?_map,mix,List.getElem?_append_left (by simp;omega),List.getElem?_take,if_pos (by omega),hza k i hlt hi,hn];rfl
  generalize hz1:mix z (List.replicate 384 0) ((k + 1) * 64)=z1 at *
  refine aK ?_
  have hEsm:=TV.Ax (c:=c) (mb:=mb) (k:=k) (q:=qq) (hBk k hk)
  have hed6:=fun w h=>pJ (b:=b) (m1:=m1) (m2:=m2) (m3:=m3) (T:=TT k) (w:=w) (q:=qq) hc.2 hr.2 hmb hlt h
  have hok2:∀ (ft:Bool),(ft=true→∃ y,gA (g k) ((TT k).rC c mb k qq)=some y)→(ft=true→∀ j,j<k→∃ y,gA (g j) ((TT j).rC c mb j qq)=some y)→ft=true→∀ j,j<k+1→∃ y,gA (g j) ((TT j).rC c mb j qq)=some y:=fun ft h1 h2 h3 j hj=>by
   rcases Nat.lt_or_ge j k with h4|h4
   ·exact h2 h3 j h4
   ·rw [show j=k by omega];exact h1 h3
  generalize (TT k).rC c mb k qq=E at *
  obtain ⟨zz,okb,hlv,hzz,hok⟩:=Ge hgsm hEsm
  have hls:=fun w=>lG (w:=w) hgsm hEsm
  rw [hlv] at hls
  refine oG (fun u9 hu9=>?_)
  rw [← hu9] at hH
  clear hu9
  have hB0:=(hrd _ hH.ext).1
  have hB9:=hH.b 3 rfl
  have hS9:=uZ hB9
  apply LS (Z:=fun b19 v=>Hp F w v [RT b m1 m2 m3 c r (TT k),Rb b5 54 f.cells.toArray,Rb b8 95 (mH 0 0 (List.replicate 384 0)).toArray,Rb b9 95 (mH kk qq z1).toArray,Rb b19 92 (zz.map (Value.int .i64)).toArray])
  ·intro key2
   refine cD Ty.mixed 20 rfl (fun w4 hx1=>?_)
   refine bE 0 hx1 ?_
   refine xN ?_
   refine aY 2 hx1 rfl (fun w' hw'=>by refine jS rfl rfl (Ty.arr rfl) (by omega)) ?_
   refine aY 3 hx1 rfl (fun w' hw'=>by refine bG (j:=(k:Int).toNat*64) (cs:=(g k).map (Value.int .i64)) rfl (hS9.aH hw') hrw (by simp [hglk]) (Ty.aF rfl)) ?_
   refine bE 4 hx1 ?_
   refine ID ?_
   refine xD ?_
   refine aY 7 hx1 rfl (fun w' hw'=>by refine aB rfl (hB0.aH hw') ((cQ ho (Nat.le_of_ble_eq_true rfl)).trans (congrArg some hed)) (Ty.aF rfl)) ?_
   refine bE 8 hx1 ?_
   refine bE 9 hx1 ?_
   refine Fu ?_
   refine aY 11 hx1 rfl (fun w' hw'=>by refine aB (v:=.int .i64 qq) rfl (hB9.aH hw') rfl (Ty.aF rfl)) ?_
   replace hH:=hH.aH hx1
   replace hH:=aI hH
   refine mX 12 17 (by kernel_rfl) rfl rfl rfl rfl ?_ ?_
   ·refine aC (hed6 _ (hH.at 0 rfl)) rfl rfl ?_
    rintro _ _ ⟨rfl,hE9⟩
    have hx9:=hx1.bO hE9
    refine ⟨hx9,?_⟩
    replace hH:=hH.aH hE9
    clear hE9
    refine mX 13 17 (by kernel_rfl) rfl rfl rfl rfl ?_ ?_
    ·refine aC (hls _) rfl rfl ?_
     rintro _ _ ⟨rfl,hE10⟩
     have hx10:=hx9.bO hE10
     refine ⟨hx10,?_⟩
     replace hH:=hH.aH hE10
     clear hE10
     refine bE 14 hx10 ?_
     refine bE 15 hx10 ?_
     refine bE 16 hx10 ?_
     refine bC 17 (by kernel_rfl) rfl rfl ?_
     refine dS (Ty.bH rfl) rfl ?_
     intro _ b19 hb19 hE14 hB14 _
     have hx14:=hx10.bO hE14
     refine ⟨hx14,?_⟩
     have hsz:=hx10.size
     replace hH:=hH.nu (r:=Rb b19 92 ((List.replicate 64 (0:Int)).map (Value.int .i64)).toArray) ⟨hE14,hB14,fun x hx=>by simp [Rb] at hx;omega⟩
     clear hE14 hB14
     refine bC 18 (by kernel_rfl) rfl rfl (dH (s:=64) (vs:=(zz.map (Value.int .i64)).toArray) rfl rfl (hH.b 4 rfl) (by simp [hzz.1]) rfl bB (Ty.aF rfl) (fun w7 hE7 hB7 _=>?_))
     have hx7:=hx14.kS hE7 (by omega)
     refine ⟨hx7,?_⟩
     replace hH:=hH.up 4 rfl (r':=Rb b19 92 (zz.map (Value.int .i64)).toArray) ⟨hE7,hB7,fun _ hx=>.inl hx⟩
     clear hE7 hB7
     refine bE 19 hx7 ?_
     refine aW (by kernel_rfl) ?_
     apply fE 44601490397061246283071436543044923202465792 [(12,.int .i64 pl),(13,.int .i64 ed),(14,.bool ft),(15,.int .i64 k),(19,pt b19),(20,.bool okb),(51,.int .i64 k)]
     ·exact ⟨rfl,rfl,rfl,rfl,rfl,rfl,rfl,trivial⟩
     ·exact QD
     intro σ
     exact key2 σ b19 w7 hH
    ·refine dS (Ty.bH rfl) rfl ?_
     intro _ b19 hb19 hE14 hB14 _
     have hx14:=hx9.bO hE14
     refine ⟨hx14,?_⟩
     have hsz:=hx9.size
     replace hH:=hH.nu (r:=Rb b19 92 ((List.replicate 64 (0:Int)).map (Value.int .i64)).toArray) ⟨hE14,hB14,fun x hx=>by simp [Rb] at hx;omega⟩
     clear hE14 hB14
     refine bC 13 (by kernel_rfl) rfl rfl ?_
     refine aC (hls _) rfl rfl ?_
     rintro _ _ ⟨rfl,hE10⟩
     have hx10:=hx14.bO hE10
     refine ⟨hx10,?_⟩
     replace hH:=hH.aH hE10
     clear hE10
     refine bE 14 hx10 ?_
     refine bE 15 hx10 ?_
     refine bE 16 hx10 ?_
     have hx14:=hx10
     refine bC 18 (by kernel_rfl) rfl rfl (dH (s:=64) (vs:=(zz.map (Value.int .i64)).toArray) rfl rfl (hH.b 4 rfl) (by simp [hzz.1]) rfl bB (Ty.aF rfl) (fun w7 hE7 hB7 _=>?_))
     have hx7:=hx14.kS hE7 (by omega)
     refine ⟨hx7,?_⟩
     replace hH:=hH.up 4 rfl (r':=Rb b19 92 (zz.map (Value.int .i64)).toArray) ⟨hE7,hB7,fun _ hx=>.inl hx⟩
     clear hE7 hB7
     refine bE 19 hx7 ?_
     refine aW (by kernel_rfl) ?_
     apply fE 44601490397061246283071436543044923202465792 [(12,.int .i64 pl),(13,.int .i64 ed),(14,.bool ft),(15,.int .i64 k),(19,pt b19),(20,.bool okb),(51,.int .i64 k)]
     ·exact ⟨rfl,rfl,rfl,rfl,rfl,rfl,rfl,trivial⟩
     ·exact QD
     intro σ
     exact key2 σ b19 w7 hH
   ·refine dS (Ty.bH rfl) rfl ?_
    intro _ b19 hb19 hE14 hB14 _
    have hx14:=hx1.bO hE14
    refine ⟨hx14,?_⟩
    have hsz:=hx1.size
    replace hH:=hH.nu (r:=Rb b19 92 ((List.replicate 64 (0:Int)).map (Value.int .i64)).toArray) ⟨hE14,hB14,fun x hx=>by simp [Rb] at hx;omega⟩
    clear hE14 hB14
    refine bC 12 (by kernel_rfl) rfl rfl ?_
    refine aC (hed6 _ (hH.at 0 rfl)) rfl rfl ?_
    rintro _ _ ⟨rfl,hE9⟩
    have hx9:=hx14.bO hE9
    refine ⟨hx9,?_⟩
    replace hH:=hH.aH hE9
    clear hE9
    refine bC 13 (by kernel_rfl) rfl rfl ?_
    refine aC (hls _) rfl rfl ?_
    rintro _ _ ⟨rfl,hE10⟩
    have hx10:=hx9.bO hE10
    refine ⟨hx10,?_⟩
    replace hH:=hH.aH hE10
    clear hE10
    refine bE 14 hx10 ?_
    refine bE 15 hx10 ?_
    refine bE 16 hx10 ?_
    have hx14:=hx10
    refine bC 18 (by kernel_rfl) rfl rfl (dH (s:=64) (vs:=(zz.map (Value.int .i64)).toArray) rfl rfl (hH.b 4 rfl) (by simp [hzz.1]) rfl bB (Ty.aF rfl) (fun w7 hE7 hB7 _=>?_))
    have hx7:=hx14.kS hE7 (by omega)
    refine ⟨hx7,?_⟩
    replace hH:=hH.up 4 rfl (r':=Rb b19 92 (zz.map (Value.int .i64)).toArray) ⟨hE7,hB7,fun _ hx=>.inl hx⟩
    clear hE7 hB7
    refine bE 19 hx7 ?_
    refine aW (by kernel_rfl) ?_
    apply fE 44601490397061246283071436543044923202465792 [(12,.int .i64 pl),(13,.int .i64 ed),(14,.bool ft),(15,.int .i64 k),(19,pt b19),(20,.bool okb),(51,.int .i64 k)]
    ·exact ⟨rfl,rfl,rfl,rfl,rfl,rfl,rfl,trivial⟩
    ·exact QD
    intro σ
    exact key2 σ b19 w7 hH
  clear hH hls hed6 hB0 hB9 hS9
  rintro σ b19 w5 hH
  obtain ⟨ft2,hft2⟩:∃ ft2,(ft && okb)=ft2:=⟨_,rfl⟩
  have hft3:ft2=true→ft=true∧okb=true:=fun h=>by rw [← hft2] at h;simpa using h
  have hfn:=hok2 ft2 (fun h=>hok (hft3 h).2) (fun h=>hft (hft3 h).1)
  apply join
  ·intro key
   obtain ⟨ft',hft'⟩:∃ x,x=ft:=⟨_,rfl⟩
   rw [← hft']
   cases ft' with
   | false =>
    have e2:false=ft2:=by rw [← hft2,← hft'];rfl
    refine aK ?_
    apply fE 44601490397061246283071436543044923202465792 [(12,.int .i64 pl),(13,.int .i64 ed),(14,.bool ft2),(15,.int .i64 k),(19,pt b19),(21,.int .i64 (1:Nat)),(51,.int .i64 k)]
    ·exact ⟨rfl,rfl,(by rw [← e2];rfl),rfl,rfl,rfl,rfl,trivial⟩
    ·repeat (first|((with_reducible apply eG.dX);· exact rfl)|((with_reducible apply eG.fK);· exact rfl)|((with_reducible apply eG.qI);· exact rfl)|(with_reducible apply eG.Ae)|((with_reducible apply eG.oW);(· exact rfl);apply eG.refl))
    intro σ
    exact key σ
   | true =>
    have e2:okb=ft2:=by rw [← hft2,← hft'];rfl
    refine aK ?_
    apply fE 44601490397061246283071436543044923202465792 [(12,.int .i64 pl),(13,.int .i64 ed),(14,.bool ft2),(15,.int .i64 k),(19,pt b19),(21,.int .i64 (1:Nat)),(51,.int .i64 k)]
    ·exact ⟨rfl,rfl,(by rw [← e2];rfl),rfl,rfl,rfl,rfl,trivial⟩
    ·exact LO
    intro σ
    exact key σ
  clear hok2 hft hft2 hft3 hok hlv
  intro σ
  refine aV (G:=(Nat) × (Int) × (Int)) (fun|(i,pl,ed)=>64-i) 1361129466416103253625269028230371749888 (fun|(i,pl,ed)=>[(12,.int .i64 pl),(13,.int .i64 ed),(21,.int .i64 i)]) (fun|(i,pl,ed),w'=>(1≤i∧i≤64)∧((0≤pl∧pl≤300000*k+4100*i)∧0≤ed∧ed≤300000*k+4100*i)∧Hp F w w' [RT b m1 m2 m3 c r (TT k),Rb b5 54 f.cells.toArray,Rb b8 95 (mH 0 0 (List.replicate 384 0)).toArray,Rb b9 95 (mH kk qq z1).toArray,Rb b19 92 (zz.map (Value.int .i64)).toArray]) (1,pl,ed) ⟨rfl,rfl,rfl,trivial⟩ ⟨by omega,by omega,hH⟩ ?_
  rintro ⟨i,pl,ed⟩ w' σ ⟨hi,hpe,hH⟩ IH2
  show WS _ _ _ _ _ (bQ [(12,.int .i64 pl),(13,.int .i64 ed),(21,.int .i64 i)] _) _
  by_cases hil:i<64
  ·have hSm:=uZ (hH.b 3 rfl)
   have hS19:cI _ (some ⟨b19,0,none⟩) _:=(hH.b 4 rfl).cX
   obtain ⟨zi,hzi⟩:∃ zi,zz[i]?=some zi:=⟨_,List.getElem?_eq_getElem (by rw [hzz.1];exact hil)⟩
   obtain ⟨gi,hgi⟩:∃ gi,(g k)[i]?=some gi:=⟨_,List.getElem?_eq_getElem (by rw [hglk];exact hil)⟩
   have hzb:=hzz.2 zi (List.mem_of_getElem? hzi)
   have hgb:=hgsm.2 gi (List.mem_of_getElem? hgi)
   have hzv:(zz.map (Value.int .i64))[(i:Int).toNat]?=some (.int .i64 zi):=by rw [Int.toNat_natCast,List.getElem?_map,hzi];rfl
   have hgv:(z1.map (Value.int .i64))[(k:Int).toNat*64+(i:Int).toNat]?=some (.int .i64 gi):=by rw [Int.toNat_natCast,Int.toNat_natCast];exact hrx i gi hil hgi
   refine aK ?_
   refine cD Ty.mixed 17 rfl (fun w1 hx1=>?_)
   refine bE 0 hx1 ?_
   refine bE 1 hx1 ?_
   refine bE 2 hx1 ?_
   refine D8 ?_
   refine aY 4 hx1 rfl (fun w' hw'=>by refine jS rfl rfl (Ty.arr rfl) (by omega)) ?_
   refine aY 5 hx1 rfl (fun w' hw'=>by refine lN rfl rfl (Ty.arr rfl) (by omega)) ?_
   refine aY 6 hx1 rfl (fun w' hw'=>by refine aU rfl (hSm.aH hw') hgv (Ty.aF rfl)) ?_
   refine bE 7 hx1 ?_
   refine bE 8 hx1 ?_
   refine AJ ?_
   refine aY 10 hx1 rfl (fun w' hw'=>by refine jS rfl rfl (Ty.arr rfl) (by omega)) ?_
   refine aY 11 hx1 rfl (fun w' hw'=>by refine lN rfl rfl (Ty.arr rfl) (by omega)) ?_
   refine aY 12 hx1 rfl (fun w' hw'=>by refine aU rfl (hSm.aH hw') hgv (Ty.aF rfl)) ?_
   refine aY 13 hx1 rfl (fun w' hw'=>by refine kH rfl (by omega)) ?_
   refine bE 14 hx1 ?_
   refine bE 15 hx1 ?_
   refine bE 16 hx1 ?_
   refine aW (by kernel_rfl) ?_
   replace hH:=hH.aH hx1
   clear hx1 hSm
   replace hS19:cI _ (some ⟨b19,0,none⟩) _:=(hH.b 4 rfl).cX
   refine cD Ty.mixed 11 rfl (fun w1 hx1=>?_)
   refine bE 0 hx1 ?_
   refine bE 1 hx1 ?_
   refine aY 2 hx1 rfl (fun w' hw'=>by refine bD rfl rfl (Ty.arr rfl) (by omega)) ?_
   refine aY 3 hx1 rfl (fun w' hw'=>by refine aU rfl (hS19.aH hw') hzv (Ty.aF rfl)) ?_
   refine bE 4 hx1 ?_
   refine aY 5 hx1 rfl (fun w' hw'=>by refine bD rfl rfl (Ty.arr rfl) (by omega)) ?_
   refine aY 6 hx1 rfl (fun w' hw'=>by refine aU rfl (hS19.aH hw') hzv (Ty.aF rfl)) ?_
   refine aY 7 hx1 rfl (fun w' hw'=>by refine kH rfl (by omega)) ?_
   refine bE 8 hx1 ?_
   refine bE 9 hx1 ?_
   refine bE 10 hx1 ?_
   refine aW (by kernel_rfl) ?_
   replace hH:=hH.aH hx1
   clear hx1 hS19
   refine aK ?_
   refine IH2 (i+1,pl+max gi (-gi),ed+max zi (-zi)) _ _ ?_ ?_ ?_ ?_
   ·simp only;omega
   ·exact ⟨rfl,rfl,rfl,trivial⟩
   ·exact cP
   ·exact ⟨by omega,by omega,hH⟩
  ·obtain rfl:i=64:=by omega
   clear IH2
   have h64:=hglk
   have hB0:=(hrd _ hH.ext).1
   have hB9:=hH.b 3 rfl
   have hS9:=uZ hB9
   refine aK ?_
   refine cM Ty.mixed 13 rfl (by kernel_rfl) rfl (fun w1 hx1=>?_)
   refine bE 0 hx1 ?_
   refine AO ?_
   refine uN ?_
   refine aY 3 hx1 rfl (fun w' hw'=>by refine aB rfl (hB0.aH hw') ((cQ ho (Nat.le_of_ble_eq_true rfl)).trans (congrArg some hed)) (Ty.aF rfl)) ?_
   refine bE 4 hx1 ?_
   refine bE 5 hx1 ?_
   refine bE 6 hx1 ?_
   refine xV ?_
   refine aY 8 hx1 rfl (fun w' hw'=>by refine jS rfl rfl (Ty.arr rfl) (by omega)) ?_
   refine aY 9 hx1 rfl (fun w' hw'=>by refine bG (j:=(k:Int).toNat*64) (cs:=(g k).map (Value.int .i64)) rfl (hS9.aH hw') hrw (by simp [h64]) (Ty.aF rfl)) ?_
   refine Fu ?_
   refine aY 11 hx1 rfl (fun w' hw'=>by refine aB (v:=.int .i64 qq) rfl (hB9.aH hw') rfl (Ty.aF rfl)) ?_
   refine aY 12 hx1 rfl (fun w' hw'=>by refine bR (Ty.bH rfl) (Ty.iJ rfl) (Ak h64)) ?_
   refine aW (by kernel_rfl) ?_
   replace hH:=hH.aH hx1
   clear hB0 hB9 hS9 hx1
   refine aO ?_
   refine aA (aC ((rY (l:=g k++[qq]) hc.2 hr.2 hmb hlt (Qq hgsm) (hH.at 0 rfl))) rfl rfl ?_)
   rintro _ _ ⟨rfl,hU⟩
   replace hH:=(hH.up 0 rfl hU).del 4
   rw [← hBS k hlt,← hz1] at hH
   clear hU
   replace hH:=aI hH
   refine aK ?_
   refine IH (k+1,pl,ed,ft2) _ _ ?_ ?_ ?_ ?_
   ·simp only;omega
   ·exact ⟨rfl,rfl,rfl,rfl,trivial⟩
   ·exact cP
   ·exact ⟨by omega,by omega,hfn,hH⟩
 ·obtain rfl:k=6:=by omega
  clear IH
  rw [lD hzl (by simp)] at hH
  cases ft with
  | false =>
   repeat (first|refine aR ?_|(refine aD (by refine aN rfl (Ty.bA rfl rfl)) rfl ?_)|refine aT ?_)
   refine aA (bV 3 (o:=0+6) (v:=.bool false) hH rfl rfl rfl (by rw [bL hzl];decide) rfl (Ty.aF rfl) ?_)
   clear hH
   intro _ hH
   replace hH:=hH.as (r':=Rb b9 95 (MB.cells ⟨kk,qq,zV,zV,zV,zV,false,z⟩).toArray) 3 rfl (fun _ h=>h) (fun h=>h)
   replace hH:=aI hH
   have hm:=hmok false
   have hB9:=hH.b 3 rfl
   repeat (first|refine aR ?_|(refine aD (by refine aE rfl hB9 (by simpa using bL hzl) (Ty.aF rfl)) rfl ?_))
   clear hB9
   refine aA (aJ 2 (vs:=(MB.cells ⟨kk,qq,zV,zV,zV,zV,false,z⟩).toArray) (s:=391) hH rfl rfl rfl (by simpa using bL hzl) (by rw [List.size_toArray,hL0]) (dZ hm) (Ty.aF rfl) ?_)
   clear hH
   intro _ hH
   replace hH:=aI hH
   refine aK ?_
   rw [← hmT false] at hH
   exact bP Tryz.func96 rfl rfl (hH.b 2 rfl) (by simpa using bL hzl) (Ty.aF rfl) ⟨⟨kk,qq,zV,zV,zV,zV,false,z⟩,rfl,hm,hkst,heF,hH.take 1⟩
  | true =>
   repeat (first|refine aR ?_|(refine aD (by refine aN rfl (Ty.bA rfl rfl)) rfl ?_)|refine aT ?_)
   refine aA (bV 3 (o:=0+6) (v:=.bool (decide (ed<pl))) hH rfl rfl rfl (by rw [bL hzl];decide) rfl (Ty.aF rfl) ?_)
   clear hH
   intro _ hH
   replace hH:=hH.as (r':=Rb b9 95 (MB.cells ⟨kk,qq,zV,zV,zV,zV,(decide (ed<pl)),z⟩).toArray) 3 rfl (fun _ h=>h) (fun h=>h)
   replace hH:=aI hH
   have hm:=hmok (decide (ed<pl))
   have hB9:=hH.b 3 rfl
   repeat (first|refine aR ?_|(refine aD (by refine aE rfl hB9 (by simpa using bL hzl) (Ty.aF rfl)) rfl ?_))
   clear hB9
   refine aA (aJ 2 (vs:=(MB.cells ⟨kk,qq,zV,zV,zV,zV,(decide (ed<pl)),z⟩).toArray) (s:=391) hH rfl rfl rfl (by simpa using bL hzl) (by rw [List.size_toArray,hL0]) (dZ hm) (Ty.aF rfl) ?_)
   clear hH
   intro _ hH
   replace hH:=aI hH
   refine aK ?_
   rw [← hmT (decide (ed<pl))] at hH
   exact bP Tryz.func96 rfl rfl (hH.b 2 rfl) (by simpa using bL hzl) (Ty.aF rfl) ⟨⟨kk,qq,zV,zV,zV,zV,(decide (ed<pl)),z⟩,rfl,hm,hkst,heO _ (hft rfl),hH.take 1⟩
end Go.Proofs.YtdbnmbkjmeepkaaGreatDoor
