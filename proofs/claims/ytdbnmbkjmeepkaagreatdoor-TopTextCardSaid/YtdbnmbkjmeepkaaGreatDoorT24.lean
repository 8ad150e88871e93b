/- A part of the proof of the card of TopText; no condition. -/
import Derived.Test.YtdbnmbkjmeepkaaGreatDoorT23
namespace Go.Proofs.YtdbnmbkjmeepkaaGreatDoor
open Go Go.K Go.P Go.RowKit Go.Proofs
section
variable {d:SD} {qp:Int} {F:FV} {T:TV} {v x:Nat} {t s:WT} {k:KD} {w:World} {kd:Nat} {q:Int} {u0 u1 u2 u3:Value} {e:Bool} {L:List Int}
def B5 (s:FV × List Bool) (c r mb:Nat) (us:List Value) (n:Nat):FV × List Bool :=
 (s.1.set c mb n (lV (us.getD n zV)),s.2++(Dy (iW (whole (lV (us.getD n zV)).1-whole (s.1.exp c r mb n).1))++Dy (iW (whole (lV (us.getD n zV)).2-whole (s.1.exp c r mb n).2))))
def rD (F:FV) (c r mb:Nat) (us:List Value):Nat→FV × List Bool
 | 0=>(F,[])
 | n+1=>B5 (rD F c r mb us n) c r mb us n
def iU (kd:Nat):Nat:=if kd=1 then 1 else if kd=2 then 4 else 0
def mF (F:FV) (c r mb kd:Nat) (us:List Value):FV:=(rD F c r mb us (iU kd)).1.KF c mb us 4
noncomputable def mT (c mb kd:Nat) (q:Int) (e:Bool) (L:List Int) (T:TV):TV:=if kd=0 then T else (gU c mb kd q e L T 6).T
noncomputable def mA (inter:Bool) (F:FV) (c r mb kd:Nat) (qp q:Int) (us:List Value) (e:Bool) (L:List Int) (T:TV):List Bool :=
 BH inter kd qp q++((rD F c r mb us (iU kd)).2++((if 3≤kd then [e] else [])++if kd=0 then [] else xX c mb kd q e L T))
noncomputable def mW (c mb kd:Nat) (q:Int) (e:Bool) (L:List Int) (T:TV):List Bool:=if kd=0 then [] else Jx c mb kd q e L T
set_option maxRecDepth 20000 in
set_option maxHeartbeats 16000000 in
theorem FR {mb:Nat} (hk:k.ok) (hbc:k.bc=d.bc) (h:MV kd q u0 u1 u2 u3 e L) (hqp:1≤qp∧qp≤31) (hq:kd=4→jQ qp q) (hc:d.c≤8) (hr:d.r≤8) (hmb:mb<d.c*d.r) (hed:xP d.c mb kd q e L T) (ht:t.2.2.length≤800000) (hs:s.2.2.length≤800000) (hP:Sep (PA d qp F T v t x s k) w) :
  aX Tryz.prog 88 #[pt d.s,pt v,pt x,.int .i64 mb,.agg (eF kd q u0 u1 u2 u3 e L).toArray] w fun r w'=>r=.int .i64 0∧(mA d.inter F d.c d.r mb kd qp q [u0,u1,u2,u3] e L T).length≤1000∧(mW d.c mb kd q e L T).length≤19200∧∃ a1 c1 a2 c2,Hp (eY (PA d qp F T v t x s k)) w w' (PA d (if kd=4 then q else qp) (mF F d.c d.r mb kd [u0,u1,u2,u3]) (mT d.c mb kd q e L T) v (a1,c1,t.2.2++mA d.inter F d.c d.r mb kd qp q [u0,u1,u2,u3] e L T) x (a2,c2,s.2.2++mW d.c mb kd q e L T) k):=by
 refine aL (args:=[_,_,_,_,_]) Tryz.func88 rfl rfl Tryz.ntmps88 rfl ?_
 have hH:=Hp.fQ hP
 have hk5:=h.k5
 have hml:=bL (k:=kd) (q:=q) (u0:=u0) (u1:=u1) (u2:=u2) (u3:=u3) (e:=e) h.len
 refine aK ?_
 refine aO ?_
 refine aA (bI (cs:=(eF kd q u0 u1 u2 u3 e L).toArray) hH rfl rfl rfl ?_)
 try clear hH
 intro _ b9 hH
 replace hH:=aI hH
 have hBm:=hH.b 4 rfl
 repeat (first|refine aR ?_|(refine aD (by refine aE rfl hBm (by simp [hml]) (Ty.aF rfl)) rfl ?_)|refine aT ?_)
 clear hBm
 refine aO ?_
 refine aA (aC ((FX hk hbc h hqp hq (by omega) (hH.jO 4))) rfl rfl ?_)
 rintro _ _ ⟨rfl,ht2,a2,c2,hQ⟩
 replace hH:=hH.calls 4 hQ
 clear hQ
 unfold mA mF
 obtain ⟨KB,hKB⟩:∃ KB,BH d.inter kd qp q=KB:=⟨_,rfl⟩
 rw [hKB] at hH ht2
 replace hH:=aI hH
 have hBm:=hH.b 4 rfl
 by_cases h0:kd=0
 ·repeat (first|refine aR ?_|(refine aD (by first|refine aN rfl (Ty.bA rfl rfl)|refine aB rfl hBm rfl (Ty.aF rfl)|refine (dJ (q:=.u8) rfl rfl).is (bT (by omega))) rfl ?_)|refine aT ?_)
  have hBm:=hH.b 4 rfl
  repeat ((refine aD (by refine aE rfl hBm (by simp [hml]) (Ty.aF rfl)) rfl ?_))
  clear hBm
  refine aO ?_
  refine aA (aC ((nL h hc hr hmb (hH.jO 4))) rfl rfl ?_)
  rintro _ _ ⟨rfl,hQ⟩
  replace hH:=hH.calls 4 hQ
  clear hQ
  replace hH:=aI hH
  refine aK ?_
  have e1:iU kd=0:=by rw [h0];rfl
  rw [hKB,e1,if_neg (by omega),if_pos h0,rD,mW,if_pos h0,mT,if_pos h0]
  simp only [List.append_nil]
  exact aM Tryz.func88 rfl ⟨rfl,by omega,by simp,a2,c2,s.1,s.2.1,hH.take 4⟩
 rw [hKB]
 by_cases h1:kd=1
 ·have hm1:iU kd=1:=by rw [h1];rfl
  repeat (first|refine aR ?_|(refine aD (by first|refine aN rfl (Ty.bA rfl rfl)|refine aB rfl hBm rfl (Ty.aF rfl)|refine (dJ (q:=.u8) rfl rfl).is (bT (by omega))|refine (dJ (q:=.u8) rfl rfl).is (bF (by omega))) rfl ?_)|refine aT ?_)
  clear hBm
  have hV0:rD F d.c d.r mb [u0,u1,u2,u3] 0=(F,[]):=rfl
  have hVs:∀ n,rD F d.c d.r mb [u0,u1,u2,u3] (n+1)=B5 (rD F d.c d.r mb [u0,u1,u2,u3] n) d.c d.r mb [u0,u1,u2,u3] n:=fun n=>rfl
  generalize rD F d.c d.r mb [u0,u1,u2,u3]=V at *
  refine aV (G:=(Nat) × (Option Addr) × (Nat)) (fun|(i,a1,c1)=>1-i) 295147904079841202176 (fun|(i,a1,c1)=>[(40,.int .i64 i)]) (fun|(i,a1,c1),w'=>i≤1∧(V i).2.length≤100*i∧Hp (eY (PA d qp F T v t x s k)) w w' (PA d (if kd=4 then q else qp) (V i).1 T v (a1,c1,t.2.2++KB++(V i).2) x s k++[Rb b9 95 (eF kd q u0 u1 u2 u3 e L).toArray])) (0,a2,c2) ⟨rfl,trivial⟩ ⟨by omega,by rw [hV0];exact Nat.le_refl _,by rw [hV0,List.append_nil];exact hH⟩ ?_
  rintro ⟨i,a1,c1⟩ w' σ ⟨hi,ht1,hH⟩ IH
  show WS _ _ _ _ _ (bQ [(40,.int .i64 i)] _) _
  by_cases hlt:i<1
  ·have hi4:i<4:=by omega
   obtain ⟨x1,y1,hx1,hy1,hv,_⟩:=h.vi hi4
   have hB:=(hH.at 0 rfl).1
   have hBm:=hH.b 4 rfl
   have hSm:cI _ (some ⟨b9,0+2,none⟩) [u0,u1,u2,u3]:=hBm.sl (fun j v' hj=>by
    have hj4:j<4:=(List.getElem?_eq_some_iff.1 hj).1
    rcases (show j=0∨j=1∨j=2∨j=3 by omega) with rfl|rfl|rfl|rfl<;>exact hj)
   have hvv:[u0,u1,u2,u3][i]?=some (CV x1 y1):=by simpa using hv
   have hvp:lV ([u0,u1,u2,u3].getD i zV)=(FN x1,FN y1):=by rw [List.getD_eq_getElem?_getD,hvv];rfl
   have hVn:=hVs i
   unfold B5 at hVn
   rw [hvp] at hVn
   obtain ⟨F1,hF1⟩:∃ F1,(V i).1=F1:=⟨_,rfl⟩
   obtain ⟨bs1,hbs1⟩:∃ bs1,(V i).2=bs1:=⟨_,rfl⟩
   rw [hF1,hbs1] at hVn
   rw [hF1,hbs1] at hH
   rw [hbs1] at ht1
   refine aK ?_
   refine cM Ty.mixed 12 rfl (by kernel_rfl) rfl (fun w1 hx=>?_)
   refine bE 0 hx ?_
   refine bE 1 hx ?_
   refine aY 2 hx rfl (fun w' hw'=>by refine aN rfl (Ty.bA rfl rfl)) ?_
   refine aY 3 hx rfl (fun w' hw'=>by refine bD rfl rfl (Ty.arr rfl) (by omega)) ?_
   refine aY 4 hx rfl (fun w' hw'=>by refine aU rfl (hSm.aH hw') hvv (Ty.aF rfl)) ?_
   refine bE 5 hx ?_
   refine aY 6 hx rfl (fun w' hw'=>by refine aG rfl) ?_
   refine aY 7 hx rfl (fun w' hw'=>by refine aN rfl (Ty.bA rfl rfl)) ?_
   refine aY 8 hx rfl (fun w' hw'=>by refine aB rfl (hB.aH hw') rfl (Ty.aF rfl)) ?_
   refine bE 9 hx ?_
   refine bE 10 hx ?_
   refine bC 11 (by kernel_rfl) rfl rfl (aC (yT hc hr hmb hi4 ((d.F F1).keep (hH.at 0 rfl).2.1 hx (by simp))) rfl rfl ?_)
   rintro _ w2 ⟨rfl,hE0⟩
   have hx2:=hx.bO hE0
   refine ⟨hx2,?_⟩
   refine aW (by kernel_rfl) ?_
   replace hH:=hH.aH hx2
   clear hx hE0 hx2 hB hBm hSm
   generalize F1.exp d.c d.r mb i=ex at *
   obtain ⟨re,im⟩:=ex
   refine aO ?_
   refine aA (aC ((yO (C6 hx1 hy1) (by rw [List.length_append,List.length_append];omega) (hH.at 1 rfl))) rfl rfl ?_)
   rintro _ _ ⟨rfl,a3,c3,hU⟩
   replace hH:=hH.up 1 rfl hU
   have l1:=qN (kU (whole (FN x1)-whole re))
   have l2:=qN (kU (whole (FN y1)-whole im))
   have hl3:(bs1++(Dy (iW (whole (FN x1)-whole re))++Dy (iW (whole (FN y1)-whole im)))).length≤bs1.length+50:=by rw [List.length_append,List.length_append];omega
   rw [List.append_assoc _ bs1] at hH
   generalize bs1++(Dy (iW (whole (FN x1)-whole re))++Dy (iW (whole (FN y1)-whole im)))=bs3 at *
   clear hU l1 l2
   have hB:=(hH.at 0 rfl).1
   have hBm:cL _ b9 95 (eF kd q u0 u1 u2 u3 e L).toArray:=hH.b 4 rfl
   have hSm:cI _ (some ⟨b9,0+2,none⟩) [u0,u1,u2,u3]:=hBm.sl (fun j v' hj=>by
    have hj4:j<4:=(List.getElem?_eq_some_iff.1 hj).1
    rcases (show j=0∨j=1∨j=2∨j=3 by omega) with rfl|rfl|rfl|rfl<;>exact hj)
   refine aK ?_
   refine cM Ty.mixed 10 rfl (by kernel_rfl) rfl (fun w1 hx1=>?_)
   refine bE 0 hx1 ?_
   refine AO ?_
   refine uN ?_
   refine I5 ?_
   refine bE 4 hx1 ?_
   refine bE 5 hx1 ?_
   refine bE 6 hx1 ?_
   refine xV ?_
   refine aY 8 hx1 rfl (fun w' hw'=>by refine bD rfl rfl (Ty.arr rfl) (by omega)) ?_
   refine aY 9 hx1 rfl (fun w' hw'=>by refine aU rfl (hSm.aH hw') hvv (Ty.aF rfl)) ?_
   refine aW (by kernel_rfl) ?_
   replace hH:=hH.aH hx1
   clear hx1 hB hBm hSm
   refine aO ?_
   refine aA (aC ((rM (p:=(FN x1,FN y1)) hc hr hmb hi4 (hH.at 0 rfl).2.1)) rfl rfl ?_)
   rintro _ _ ⟨rfl,hU⟩
   replace hH:=hH.up 0 rfl (RS.f (hH.at 0 rfl) hU)
   clear hU
   refine aK ?_
   refine IH (i+1,a3,c3) _ _ ?_ ?_ ?_ ?_
   ·simp only;omega
   ·exact ⟨rfl,trivial⟩
   ·exact cP
   ·exact ⟨by omega,by rw [hVn];simp only;omega,by rw [hVn];exact hH⟩
  ·obtain rfl:i=1:=by omega
   clear IH
   replace hH:=aI hH
   obtain ⟨X,hX⟩:∃ X,t.2.2++KB++(V 1).2=X:=⟨_,rfl⟩
   have hXl:X.length≤t.2.2.length+500:=by rw [← hX,List.length_append,List.length_append];omega
   have hVm:t.2.2++(KB++((V (iU kd)).2++(if 3≤kd then [e] else [])))=X:=by
    rw [if_neg (by omega),List.append_nil,← hX,← List.append_assoc,hm1]
   have hFm:(V (iU kd)).1=(V 1).1:=by rw [hm1]
   rw [hX] at hH
   have hBm:=hH.b 4 rfl
   repeat (first|refine aR ?_|(refine aD (by refine aE rfl hBm (by simp [hml]) (Ty.aF rfl)) rfl ?_)|refine aT ?_)
   clear hBm
   refine aO ?_
   refine aA (aC ((nL h hc hr hmb (hH.jO 4))) rfl rfl ?_)
   rintro _ _ ⟨rfl,hQ⟩
   replace hH:=hH.calls 4 hQ
   clear hQ
   replace hH:=aI hH
   have hBm:=hH.b 4 rfl
   repeat (first|refine aR ?_|(refine aD (by refine aE rfl hBm (by simp [hml]) (Ty.aF rfl)) rfl ?_)|refine aT ?_)
   clear hBm
   refine aO ?_
   refine aA (aC ((mJ hk hbc h hc hr hmb hed (by (try simp only);omega) (by omega) (hH.jO 4))) rfl rfl ?_)
   rintro _ _ ⟨rfl,ht9,hs9,a8,c8,a9,c9,hQ⟩
   replace hH:=hH.calls 4 hQ
   clear hQ
   replace hH:=aI hH
   refine aK ?_
   have hma:t.2.2++(KB++((V (iU kd)).2++((if 3≤kd then [e] else [])++if kd=0 then [] else xX d.c mb kd q e L T)))=X++xX d.c mb kd q e L T:=by
    rw [if_neg h0,← hVm];simp only [List.append_assoc]
   have hmal:=congrArg List.length hma
   simp only [List.length_append] at hmal
   refine aM Tryz.func88 rfl ⟨rfl,by simp only [List.length_append];omega,by rw [mW,if_neg h0];exact hs9,a8,c8,a9,c9,?_⟩
   rw [hma,mW,mT,if_neg h0,if_neg h0,hFm]
   exact hH.take 4
 by_cases h2:kd=2
 ·have hm1:iU kd=4:=by rw [h2];rfl
  repeat (first|refine aR ?_|(refine aD (by first|refine aN rfl (Ty.bA rfl rfl)|refine aB rfl hBm rfl (Ty.aF rfl)|refine (dJ (q:=.u8) rfl rfl).is (bT (by omega))|refine (dJ (q:=.u8) rfl rfl).is (bF (by omega))) rfl ?_)|refine aT ?_)
  clear hBm
  have hV0:rD F d.c d.r mb [u0,u1,u2,u3] 0=(F,[]):=rfl
  have hVs:∀ n,rD F d.c d.r mb [u0,u1,u2,u3] (n+1)=B5 (rD F d.c d.r mb [u0,u1,u2,u3] n) d.c d.r mb [u0,u1,u2,u3] n:=fun n=>rfl
  generalize rD F d.c d.r mb [u0,u1,u2,u3]=V at *
  refine aV (G:=(Nat) × (Option Addr) × (Nat)) (fun|(i,a1,c1)=>4-i) 295147904079841202176 (fun|(i,a1,c1)=>[(40,.int .i64 i)]) (fun|(i,a1,c1),w'=>i≤4∧(V i).2.length≤100*i∧Hp (eY (PA d qp F T v t x s k)) w w' (PA d (if kd=4 then q else qp) (V i).1 T v (a1,c1,t.2.2++KB++(V i).2) x s k++[Rb b9 95 (eF kd q u0 u1 u2 u3 e L).toArray])) (0,a2,c2) ⟨rfl,trivial⟩ ⟨by omega,by rw [hV0];exact Nat.le_refl _,by rw [hV0,List.append_nil];exact hH⟩ ?_
  rintro ⟨i,a1,c1⟩ w' σ ⟨hi,ht1,hH⟩ IH
  show WS _ _ _ _ _ (bQ [(40,.int .i64 i)] _) _
  by_cases hlt:i<4
  ·have hi4:i<4:=by omega
   obtain ⟨x1,y1,hx1,hy1,hv,_⟩:=h.vi hi4
   have hB:=(hH.at 0 rfl).1
   have hBm:=hH.b 4 rfl
   have hSm:cI _ (some ⟨b9,0+2,none⟩) [u0,u1,u2,u3]:=hBm.sl (fun j v' hj=>by
    have hj4:j<4:=(List.getElem?_eq_some_iff.1 hj).1
    rcases (show j=0∨j=1∨j=2∨j=3 by omega) with rfl|rfl|rfl|rfl<;>exact hj)
   have hvv:[u0,u1,u2,u3][i]?=some (CV x1 y1):=by simpa using hv
   have hvp:lV ([u0,u1,u2,u3].getD i zV)=(FN x1,FN y1):=by rw [List.getD_eq_getElem?_getD,hvv];rfl
   have hVn:=hVs i
   unfold B5 at hVn
   rw [hvp] at hVn
   obtain ⟨F1,hF1⟩:∃ F1,(V i).1=F1:=⟨_,rfl⟩
   obtain ⟨bs1,hbs1⟩:∃ bs1,(V i).2=bs1:=⟨_,rfl⟩
   rw [hF1,hbs1] at hVn
   rw [hF1,hbs1] at hH
   rw [hbs1] at ht1
   refine aK ?_
   refine cM Ty.mixed 12 rfl (by kernel_rfl) rfl (fun w1 hx=>?_)
   refine bE 0 hx ?_
   refine bE 1 hx ?_
   refine aY 2 hx rfl (fun w' hw'=>by refine aN rfl (Ty.bA rfl rfl)) ?_
   refine aY 3 hx rfl (fun w' hw'=>by refine bD rfl rfl (Ty.arr rfl) (by omega)) ?_
   refine aY 4 hx rfl (fun w' hw'=>by refine aU rfl (hSm.aH hw') hvv (Ty.aF rfl)) ?_
   refine bE 5 hx ?_
   refine aY 6 hx rfl (fun w' hw'=>by refine aG rfl) ?_
   refine aY 7 hx rfl (fun w' hw'=>by refine aN rfl (Ty.bA rfl rfl)) ?_
   refine aY 8 hx rfl (fun w' hw'=>by refine aB rfl (hB.aH hw') rfl (Ty.aF rfl)) ?_
   refine bE 9 hx ?_
   refine bE 10 hx ?_
   refine bC 11 (by kernel_rfl) rfl rfl (aC (yT hc hr hmb hi4 ((d.F F1).keep (hH.at 0 rfl).2.1 hx (by simp))) rfl rfl ?_)
   rintro _ w2 ⟨rfl,hE0⟩
   have hx2:=hx.bO hE0
   refine ⟨hx2,?_⟩
   refine aW (by kernel_rfl) ?_
   replace hH:=hH.aH hx2
   clear hx hE0 hx2 hB hBm hSm
   generalize F1.exp d.c d.r mb i=ex at *
   obtain ⟨re,im⟩:=ex
   refine aO ?_
   refine aA (aC ((yO (C6 hx1 hy1) (by rw [List.length_append,List.length_append];omega) (hH.at 1 rfl))) rfl rfl ?_)
   rintro _ _ ⟨rfl,a3,c3,hU⟩
   replace hH:=hH.up 1 rfl hU
   have l1:=qN (kU (whole (FN x1)-whole re))
   have l2:=qN (kU (whole (FN y1)-whole im))
   have hl3:(bs1++(Dy (iW (whole (FN x1)-whole re))++Dy (iW (whole (FN y1)-whole im)))).length≤bs1.length+50:=by rw [List.length_append,List.length_append];omega
   rw [List.append_assoc _ bs1] at hH
   generalize bs1++(Dy (iW (whole (FN x1)-whole re))++Dy (iW (whole (FN y1)-whole im)))=bs3 at *
   clear hU l1 l2
   have hB:=(hH.at 0 rfl).1
   have hBm:cL _ b9 95 (eF kd q u0 u1 u2 u3 e L).toArray:=hH.b 4 rfl
   have hSm:cI _ (some ⟨b9,0+2,none⟩) [u0,u1,u2,u3]:=hBm.sl (fun j v' hj=>by
    have hj4:j<4:=(List.getElem?_eq_some_iff.1 hj).1
    rcases (show j=0∨j=1∨j=2∨j=3 by omega) with rfl|rfl|rfl|rfl<;>exact hj)
   refine aK ?_
   refine cM Ty.mixed 10 rfl (by kernel_rfl) rfl (fun w1 hx1=>?_)
   refine bE 0 hx1 ?_
   refine AO ?_
   refine uN ?_
   refine I5 ?_
   refine bE 4 hx1 ?_
   refine bE 5 hx1 ?_
   refine bE 6 hx1 ?_
   refine xV ?_
   refine aY 8 hx1 rfl (fun w' hw'=>by refine bD rfl rfl (Ty.arr rfl) (by omega)) ?_
   refine aY 9 hx1 rfl (fun w' hw'=>by refine aU rfl (hSm.aH hw') hvv (Ty.aF rfl)) ?_
   refine aW (by kernel_rfl) ?_
   replace hH:=hH.aH hx1
   clear hx1 hB hBm hSm
   refine aO ?_
   refine aA (aC ((rM (p:=(FN x1,FN y1)) hc hr hmb hi4 (hH.at 0 rfl).2.1)) rfl rfl ?_)
   rintro _ _ ⟨rfl,hU⟩
   replace hH:=hH.up 0 rfl (RS.f (hH.at 0 rfl) hU)
   clear hU
   refine aK ?_
   refine IH (i+1,a3,c3) _ _ ?_ ?_ ?_ ?_
   ·simp only;omega
   ·exact ⟨rfl,trivial⟩
   ·exact cP
   ·exact ⟨by omega,by rw [hVn];simp only;omega,by rw [hVn];exact hH⟩
  ·obtain rfl:i=4:=by omega
   clear IH
   replace hH:=aI hH
   obtain ⟨X,hX⟩:∃ X,t.2.2++KB++(V 4).2=X:=⟨_,rfl⟩
   have hXl:X.length≤t.2.2.length+500:=by rw [← hX,List.length_append,List.length_append];omega
   have hVm:t.2.2++(KB++((V (iU kd)).2++(if 3≤kd then [e] else [])))=X:=by
    rw [if_neg (by omega),List.append_nil,← hX,← List.append_assoc,hm1]
   have hFm:(V (iU kd)).1=(V 4).1:=by rw [hm1]
   rw [hX] at hH
   have hBm:=hH.b 4 rfl
   repeat (first|refine aR ?_|(refine aD (by refine aE rfl hBm (by simp [hml]) (Ty.aF rfl)) rfl ?_)|refine aT ?_)
   clear hBm
   refine aO ?_
   refine aA (aC ((nL h hc hr hmb (hH.jO 4))) rfl rfl ?_)
   rintro _ _ ⟨rfl,hQ⟩
   replace hH:=hH.calls 4 hQ
   clear hQ
   replace hH:=aI hH
   have hBm:=hH.b 4 rfl
   repeat (first|refine aR ?_|(refine aD (by refine aE rfl hBm (by simp [hml]) (Ty.aF rfl)) rfl ?_)|refine aT ?_)
   clear hBm
   refine aO ?_
   refine aA (aC ((mJ hk hbc h hc hr hmb hed (by (try simp only);omega) (by omega) (hH.jO 4))) rfl rfl ?_)
   rintro _ _ ⟨rfl,ht9,hs9,a8,c8,a9,c9,hQ⟩
   replace hH:=hH.calls 4 hQ
   clear hQ
   replace hH:=aI hH
   refine aK ?_
   have hma:t.2.2++(KB++((V (iU kd)).2++((if 3≤kd then [e] else [])++if kd=0 then [] else xX d.c mb kd q e L T)))=X++xX d.c mb kd q e L T:=by
    rw [if_neg h0,← hVm];simp only [List.append_assoc]
   have hmal:=congrArg List.length hma
   simp only [List.length_append] at hmal
   refine aM Tryz.func88 rfl ⟨rfl,by simp only [List.length_append];omega,by rw [mW,if_neg h0];exact hs9,a8,c8,a9,c9,?_⟩
   rw [hma,mW,mT,if_neg h0,if_neg h0,hFm]
   exact hH.take 4
 ·repeat (first|refine aR ?_|(refine aD (by first|refine aN rfl (Ty.bA rfl rfl)|refine aB rfl hBm rfl (Ty.aF rfl)|refine (dJ (q:=.u8) rfl rfl).is (bF (by omega))) rfl ?_)|refine aT ?_)
  clear hBm
  refine aO ?_
  refine aA (aC ((iI (by rw [List.length_append];omega) (hH.at 1 rfl))) rfl rfl ?_)
  rintro _ _ ⟨rfl,a3,c3,hU⟩
  replace hH:=hH.up 1 rfl hU
  clear hU
  have e1:iU kd=0:=by rw [iU,if_neg h1,if_neg h2]
  have hV0:rD F d.c d.r mb [u0,u1,u2,u3] 0=(F,[]):=rfl
  generalize rD F d.c d.r mb [u0,u1,u2,u3]=V at *
  obtain ⟨X,hX⟩:∃ X,t.2.2++KB++[e]=X:=⟨_,rfl⟩
  have hXl:X.length≤t.2.2.length+500:=by rw [← hX,List.length_append,List.length_append];simp;omega
  have hVm:t.2.2++(KB++((V (iU kd)).2++(if 3≤kd then [e] else [])))=X:=by
   rw [if_pos (by omega),e1,hV0,← hX,← List.append_assoc];rfl
  have hFm:(V (iU kd)).1=F:=by rw [e1,hV0]
  rw [hX] at hH
  replace hH:Hp _ _ _ (PA d (if kd=4 then q else qp) F T v (a3,c3,X) x s k++[Rb b9 95 (eF kd q u0 u1 u2 u3 e L).toArray]):=hH
  replace hH:=aI hH
  have hBm:=hH.b 4 rfl
  repeat (first|refine aR ?_|(refine aD (by refine aE rfl hBm (by simp [hml]) (Ty.aF rfl)) rfl ?_)|refine aT ?_)
  clear hBm
  refine aO ?_
  refine aA (aC ((nL h hc hr hmb (hH.jO 4))) rfl rfl ?_)
  rintro _ _ ⟨rfl,hQ⟩
  replace hH:=hH.calls 4 hQ
  clear hQ
  replace hH:=aI hH
  have hBm:=hH.b 4 rfl
  repeat (first|refine aR ?_|(refine aD (by refine aE rfl hBm (by simp [hml]) (Ty.aF rfl)) rfl ?_)|refine aT ?_)
  clear hBm
  refine aO ?_
  refine aA (aC ((mJ hk hbc h hc hr hmb hed (by (try simp only);omega) (by omega) (hH.jO 4))) rfl rfl ?_)
  rintro _ _ ⟨rfl,ht9,hs9,a8,c8,a9,c9,hQ⟩
  replace hH:=hH.calls 4 hQ
  clear hQ
  replace hH:=aI hH
  refine aK ?_
  have hma:t.2.2++(KB++((V (iU kd)).2++((if 3≤kd then [e] else [])++if kd=0 then [] else xX d.c mb kd q e L T)))=X++xX d.c mb kd q e L T:=by
   rw [if_neg h0,← hVm];simp only [List.append_assoc]
  have hmal:=congrArg List.length hma
  simp only [List.length_append] at hmal
  refine aM Tryz.func88 rfl ⟨rfl,by simp only [List.length_append];omega,by rw [mW,if_neg h0];exact hs9,a8,c8,a9,c9,?_⟩
  rw [hma,mW,mT,if_neg h0,if_neg h0,hFm]
  exact hH.take 4
end
structure MB where
 k:Nat
 q:Int
 u0:Value
 u1:Value
 u2:Value
 u3:Value
 e:Bool
 L:List Int
abbrev MB.cells (m:MB):List Value:=eF m.k m.q m.u0 m.u1 m.u2 m.u3 m.e m.L
abbrev MB.ok (m:MB):Prop:=MV m.k m.q m.u0 m.u1 m.u2 m.u3 m.e m.L
def BM (inter:Bool):Int→List MB→Prop
 | _,[]=>True
 | p,m::l=>m.ok∧(inter=false→3≤m.k)∧(if m.k=4 then jQ p m.q else m.q=p)∧BM inter m.q l
abbrev iO (ms:List MB):List Value:=ms.flatMap MB.cells
theorem rJ {inter:Bool}:∀ {p:Int} {ms:List MB},BM inter p ms→∀ m∈ms,m.ok
 | _,_::_,h,m,hm=>by
  rcases List.mem_cons.1 hm with rfl|hm
  ·exact h.1
  ·exact rJ h.2.2.2 m hm
theorem qR:∀ {ms:List MB},(∀ m∈ms,m.ok)→(iO ms).length=ms.length*391
 | [],_=>rfl
 | m::ms,h=>by
  rw [iO,List.flatMap_cons,List.length_append,bL (h m (by simp)).len,← iO,qR (fun x hx=>h x (by simp [hx])),List.length_cons]
  omega
theorem zM:∀ {ms:List MB} {i:Nat} {m:MB},(∀ m∈ms,m.ok)→ms[i]?=some m→((iO ms).drop (i*391)).take 391=m.cells
 | a::ms,0,m,h,hi=>by
  obtain rfl:a=m:=Option.some.inj hi
  rw [Nat.zero_mul,List.drop_zero,iO,List.flatMap_cons,List.take_left' (bL (h a (by simp)).len)]
 | a::ms,i+1,m,h,hi=>by
  rw [iO,List.flatMap_cons,Nat.add_mul,Nat.one_mul,Nat.add_comm,← List.drop_drop,List.drop_left' (bL (h a (by simp)).len)]
  exact zM (fun x hx=>h x (by simp [hx])) (by simpa using hi)
structure PQ where
 F:FV
 T:TV
 qp:Int
 a:List Bool
 b:List Bool
abbrev MB.us (m:MB):List Value:=[m.u0,m.u1,m.u2,m.u3]
noncomputable def PQ.next (s:PQ) (inter:Bool) (c r mb:Nat) (m:MB):PQ :=
 ⟨mF s.F c r mb m.k m.us,mT c mb m.k m.q m.e m.L s.T,m.q,s.a++mA inter s.F c r mb m.k s.qp m.q m.us m.e m.L s.T,s.b++mW c mb m.k m.q m.e m.L s.T⟩
noncomputable def yX (inter:Bool) (c r f:Nat) (hq:Int) (ms:List MB):Nat→PQ
 | 0=>⟨fun _=>none,T0,hq,[],[]⟩
 | i+1=>match ms[i]? with
  | some m=>(yX inter c r f hq ms i).next inter c r (f+i) m
  | none=>yX inter c r f hq ms i
def pK (inter:Bool) (c r f:Nat) (hq:Int) (ms:List MB):Prop:=∀ i m,ms[i]?=some m→xP c (f+i) m.k m.q m.e m.L (yX inter c r f hq ms i).T
noncomputable def FF (inter:Bool) (c r f:Nat) (hq:Int) (ms:List MB):List Nat:=fB 0 (pk ((yX inter c r f hq ms ms.length).a++[true]))
noncomputable def Er (inter:Bool) (c r f:Nat) (hq:Int) (ms:List MB):List Nat:=fB 0 (pk ((yX inter c r f hq ms ms.length).b++[true]))
theorem dZ {m:MB} (h:m.ok):∀ v∈m.cells.toArray.toList,v.oneCell'=true:=by
 intro v hv
 simp only [eF,List.mem_cons,List.mem_map] at hv
 rcases hv with rfl|rfl|rfl|rfl|rfl|rfl|rfl|⟨_,_,rfl⟩
 ·rfl
 ·rfl
 ·exact h.g0.one
 ·exact h.g1.one
 ·exact h.g2.one
 ·exact h.g3.one
 ·rfl
 ·rfl
theorem Ao:∀ (l:List Nat) (z:Nat),l.length≤(fB z l).length
 | [],_=>Nat.zero_le _
 | c::l,z=>by
  have h:=Ao l (mG z c)
  have h1:1≤(mE z c).length:=by unfold mE;split<;>simp
  simp only [fB,List.length_append,List.length_cons]
  omega
theorem QB:nC Tryz.prog 101=true:=by kernel_rfl
set_option maxRecDepth 20000 in
set_option maxHeartbeats 16000000 in
theorem uV {k:KD} {h:SH} {hp:PH} {C R f n cap:Nat} {a:Option Addr} {ms:List MB} {w:World} (hk:k.ok) (hK:(RK k).holds w) (ho:h.ok) (he:h.err=0) (hcC:h.c=C) (hrR:h.r=R) (hpe:hp.err=0)
  (hS:cI w a (iO ms)) (hd:∀ s∈(RK k).fp,s ∉ dI a) (hn:ms.length=n) (hn1:1≤n∧n≤8) (hf:f+n≤C*R) (hch:BM hp.inter hp.qp ms) (hea:pK hp.inter C R f hp.qp ms) :
  aX Tryz.prog 54 #[pt k.bc,.agg h.cells.toArray,hp.v,.int .i64 f,.slice a n cap] w fun v w'=>∃ a1 c1 a2 c2,v=.tuple #[.slice a1 (FF hp.inter C R f hp.qp ms).length c1,.slice a2 (Er hp.inter C R f hp.qp ms).length c2,.int .i64 0]∧((1≤(FF hp.inter C R f hp.qp ms).length∧(FF hp.inter C R f hp.qp ms).length≤30000)∧(1≤(Er hp.inter C R f hp.qp ms).length∧(Er hp.inter C R f hp.qp ms).length≤30000))∧(gR (FF hp.inter C R f hp.qp ms)∧gR (Er hp.inter C R f hp.qp ms))∧Hp (RK k).fp w w' [RK k,gH a1 c1 (FF hp.inter C R f hp.qp ms),gH a2 c2 (Er hp.inter C R f hp.qp ms)]:=by
 refine aL (args:=[_,_,_,_,_]) Tryz.func54 rfl rfl Tryz.ntmps54 rfl ?_
 have hH:=Hp.fI hK
 obtain ⟨c0,r0,wt,tA,tB⟩:=h
 obtain ⟨id,inter,down,hq⟩:=hp
 simp only at hcC hrR
 subst hcC hrR
 have hck:=fun w=>kG ho (w:=w)
 have xU:=fun w=>kE ⟨id,inter,down,hq⟩ w
 simp only [he] at hck
 simp only [hpe] at xU
 have hcl:=SH.bK ho
 have hCR:C≤8∧R≤8:=by
  unfold SH.err at he
  split at he
  ·cases he
  ·rename_i h;simp only at h;omega
 have hq1:1≤hq∧hq≤31:=by
  unfold PH.err at hpe
  simp only at hpe
  split at hpe
  ·cases hpe
  ·split at hpe
   ·cases hpe
   ·omega
 have hCR2:C*R≤64:=Nat.mul_le_mul hCR.1 hCR.2
 have hcm:(C:Int)*R=((C*R:Nat):Int):=by simp
 have hok:=rJ hch
 unfold FF Er
 unfold pK at hea
 rw [hn]
 have hN0:yX inter C R f hq ms 0=⟨fun _=>none,T0,hq,[],[]⟩:=rfl
 have hNs:∀ i m,ms[i]?=some m→yX inter C R f hq ms (i+1)=(yX inter C R f hq ms i).next inter C R (f+i) m:=fun i m hm=>by rw [yX,hm]
 simp only at hea
 obtain ⟨N,hNN⟩:∃ N,yX inter C R f hq ms=N:=⟨_,rfl⟩
 simp only [hNN] at hea hN0 hNs ⊢
 refine aK ?_
 refine aO ?_
 refine aA (bI (cs:=(SH.cells ⟨C,R,wt,tA,tB⟩).toArray) hH rfl rfl rfl ?_)
 try clear hH
 intro _ b6 hH
 replace hH:=aI hH
 refine aO ?_
 refine aA (bI (cs:=#[.int .i64 id,.bool inter,.bool down,.int .i64 hq]) hH rfl rfl rfl ?_)
 try clear hH
 intro _ b7 hH
 replace hH:=aI hH
 have hB6:=hH.b 1 rfl
 repeat (first|refine aR ?_|(refine aD (by first|refine gF rfl rfl (.inr rfl) QB|refine aE rfl hB6 (by simp [hcl]) (Ty.aF rfl)) rfl ?_)|refine aT ?_)
 refine aO ?_
 refine aA (aC ((hck _)) rfl rfl ?_)
 rintro _ _ ⟨rfl,hE0⟩
 replace hH:=hH.aH hE0
 clear hE0
 replace hH:=aI hH
 clear hB6
 have hB7:=hH.b 2 rfl
 repeat (first|refine aR ?_|(refine aD (by refine aE rfl hB7 rfl (Ty.aF rfl)) rfl ?_)|refine aT ?_)
 refine aO ?_
 refine aA (aC ((xU _)) rfl rfl ?_)
 rintro _ _ ⟨rfl,hE0⟩
 replace hH:=hH.aH hE0
 clear hE0
 replace hH:=aI hH
 clear hB7
 have hB6:=hH.b 1 rfl
 have hB7:=hH.b 2 rfl
 repeat (first|refine aR ?_|(refine aD (by first|refine aN rfl (Ty.bA rfl rfl)|refine aB rfl hB6 rfl (Ty.aF rfl)|refine (bN (m:=C) (n:=R) rfl rfl (by omega)).is (congrArg (Value.int .i64) hcm)|refine aE rfl hB6 (by simp [hcl]) (Ty.aF rfl)|refine aE rfl hB7 rfl (Ty.aF rfl)) rfl ?_)|refine aT ?_)
 clear hB6 hB7
 refine aO ?_
 refine aA (aC ((DN (bc:=k.bc) (c:=C) (r:=R) (id:=id) (hq:=hq) (inter:=inter) (down:=down) (hc:=SH.tc ⟨C,R,wt,tA,tB⟩) hCR.1 hCR.2)) rfl rfl ?_)
 rintro _ _ ⟨d,⟨hdc,hdr,hdb,hdi⟩,rfl,hN⟩
 replace hH:=hH.nu hN
 clear hN
 replace hH:=aI hH
 repeat (first|refine aR ?_|(refine aD (by refine bR (cs:=[.slice none 0 0,.int .i64 0]) (Ty.bH rfl) (Ty.iJ rfl) rfl) rfl ?_)|refine aT ?_)
 refine aO ?_
 refine aA (bI (cs:=#[.slice none 0 0,.int .i64 0]) hH rfl rfl rfl ?_)
 try clear hH
 intro _ v hH
 replace hH:=aI hH
 repeat ((refine aD (by refine bR (cs:=[.slice none 0 0,.int .i64 0]) (Ty.bH rfl) (Ty.iJ rfl) rfl) rfl ?_))
 refine aO ?_
 refine aA (bI (cs:=#[.slice none 0 0,.int .i64 0]) hH rfl rfl rfl ?_)
 try clear hH
 intro _ x hH
 replace hH:=aI hH
 replace hH:=hH.as (r':=RX v (none,0,[])) 4 rfl (fun x hx=>by simpa [Rw,sep,Rb,gH,Ro,dI] using hx) (fun hB=>⟨hB,Own.nil,fun _ _ hb=>by simp [gH,Ro,dI] at hb⟩)
 replace hH:=hH.as (r':=RX x (none,0,[])) 5 rfl (fun x hx=>by simpa [Rw,sep,Rb,gH,Ro,dI] using hx) (fun hB=>⟨hB,Own.nil,fun _ _ hb=>by simp [gH,Ro,dI] at hb⟩)
 replace hH:=aI hH
 replace hH:=hH.swap (H':=PA d hq (fun _=>none) T0 v (none,0,[]) x (none,0,[]) k++[Rb b6 26 (SH.cells ⟨C,R,wt,tA,tB⟩).toArray,Rb b7 57 #[.int .i64 id,.bool inter,.bool down,.int .i64 hq]]) (List.perm_append_comm (l₁:=[_,_,_]) (l₂:=[_,_,_]))
 refine aK ?_
 refine aV (G:=(Nat) × (Option Addr) × (Nat) × (Option Addr) × (Nat)) (fun|(i,a1,c1,a2,c2)=>n-i) 2535301191011725837254119922688 (fun|(i,a1,c1,a2,c2)=>[(73,.int .i64 i)]) (fun|(i,a1,c1,a2,c2),w'=>i≤n∧(1≤(N i).qp∧(N i).qp≤31)∧BM inter (N i).qp (ms.drop i)∧(N i).a.length≤1000*i∧(N i).b.length≤19200*i∧Hp (RK k).fp w w' (PA d (N i).qp (N i).F (N i).T v (a1,c1,(N i).a) x (a2,c2,(N i).b) k++[Rb b6 26 (SH.cells ⟨C,R,wt,tA,tB⟩).toArray,Rb b7 57 #[.int .i64 id,.bool inter,.bool down,.int .i64 hq]])) (0,none,0,none,0) ⟨rfl,trivial⟩ ⟨by omega,by rw [hN0];exact hq1,by rw [hN0];exact hch,by rw [hN0];exact Nat.le_refl _,by rw [hN0];exact Nat.le_refl _,by rw [hN0];exact hH⟩ ?_
 rintro ⟨i,a1,c1,a2,c2⟩ w' σ ⟨hi,hqp,hcd,ht,hs,hH⟩ IH
 show WS _ _ _ _ _ (bQ [(73,.int .i64 i)] _) _
 by_cases hlt:i<n
 ·obtain ⟨m,hm⟩:∃ m,ms[i]?=some m:=⟨_,List.getElem?_eq_getElem (by omega)⟩
  have hmd:ms.drop i=m::ms.drop (i+1):=by
   have h2:=(List.getElem?_eq_some_iff.1 hm)
   rw [List.drop_eq_getElem_cons h2.1,h2.2]
  rw [hmd] at hcd
  obtain ⟨hmo,hmi,hmq,hcd⟩:=hcd
  have hNn:=hNs i m hm
  have heo:=hea i m hm
  obtain ⟨P1,hP1⟩:∃ P1,N i=P1:=⟨_,rfl⟩
  rw [hP1] at hqp hmq ht hs hH hNn heo
  obtain ⟨F1,T1,qp,A1,B1⟩:=P1
  simp only at hqp hmq ht hs hH heo
  have hml:=bL (k:=m.k) (q:=m.q) (u0:=m.u0) (u1:=m.u1) (u2:=m.u2) (u3:=m.u3) (e:=m.e) hmo.len
  have hSm:cI w' a (iO ms):=hS.ext hH.ext hd
  have hat:=zM hok hm
  repeat (first|refine aR ?_|(refine aD (by first|refine gE (sz:=391) rfl rfl hSm (by rw [qR hok,hn]) (by decide) (Ty.sle rfl) (by omega)|refine bG (j:=i*391) (cs:=m.cells) rfl hSm hat hml (Ty.aF rfl)) rfl ?_)|refine aT ?_)
  clear hSm
  refine aO ?_
  refine aA (aQ hH (Ty.bH rfl) rfl ?_)
  try clear hH
  intro _ b19 hH
  replace hH:=aI hH
  refine aK ?_
  refine aA (aJ 6 (vs:=m.cells.toArray) (s:=391) hH rfl rfl rfl (by simp [hml]) rfl (dZ hmo) (Ty.aF rfl) ?_)
  clear hH
  intro _ hH
  replace hH:=aI hH
  have hB:=(hH.at 0 rfl).1
  have hB7:=hH.b 5 rfl
  have hB19:=hH.b 6 rfl
  refine aK ?_
  refine gX [Is (.agg m.cells.toArray),Is (.pointer (some ⟨b7,0+1,none⟩)),Is (.bool inter),Is (pt d.s),Is (pt d.s),Is (.pointer (some ⟨d.s,0+5,none⟩)),Is (.int .i64 qp),Is (.int .i64 0),Is (.int .i64 0)] Ty.mixed [(38081163317860819003244544,[],true),(75255632271010666125459456,[],true),(37174468953149847122214912,[(1,79)],true),(69815466082744834839281664,[],true),(62561911165057059791044608,[(3,81)],true),(48054801329681509694570496,[(4,82)],true),(19040581658930409501622272,[(5,83)],true),(38383394772764476296921088,[(0,78),(2,80),(6,84)],true),(77069021000432609887518720,[(7,85)],true)] 77069021000432609888567296 [(8,20)] (by kernel_rfl) (by kernel_rfl) (by kernel_rfl) (by kernel_rfl) (by kernel_rfl) ⟨Is.st,Is.st,Is.st,Is.st,Is.st,Is.st,Is.st,Is.st,Is.st,trivial⟩ ⟨⟨cC.none,?_⟩,⟨cC.none,?_⟩,⟨cC.none,?_⟩,⟨cC.none,?_⟩,⟨cC.none,?_⟩,⟨cC.none,?_⟩,⟨cC.none,?_⟩,⟨cC.none,?_⟩,⟨cC.none,?_⟩,trivial⟩ ?_
  ·intro w'' hE''
   intro σ''
   exact bJ (by refine aE rfl (hB19.aH hE'') (by simp [hml]) (Ty.aF rfl)) rfl
  ·intro w'' hE''
   intro σ''
   exact Au
  ·intro w'' hE''
   rintro _ rfl
   intro σ''
   exact bJ (by refine aB rfl (hB7.aH hE'') rfl (Ty.aF rfl)) rfl
  ·intro w'' hE''
   intro σ''
   exact bJ (by refine aP rfl) rfl
  ·intro w'' hE''
   rintro _ rfl
   intro σ''
   exact bJ (by refine aP rfl) rfl
  ·intro w'' hE''
   rintro _ rfl
   intro σ''
   exact Au
  ·intro w'' hE''
   rintro _ rfl
   intro σ''
   exact xM
  ·intro w'' hE''
   rintro _ rfl
   rintro _ rfl
   rintro _ rfl
   intro σ''
   refine aC (wX hmo hqp hmi hmq) rfl rfl ?_
   rintro v w3'' ⟨rfl,hE3''⟩
   exact ⟨hE3'',_,rfl,rfl⟩
  ·intro w'' hE''
   rintro _ rfl
   intro σ''
   exact bJ (by refine aP rfl) rfl
  intro w'' hE''
  rintro _ rfl
  intro σ''
  replace hH:=hH.aH hE''
  clear hB hB7 hB19 hE''
  have hB19:=hH.b 6 rfl
  have hfi:(f:Int)+i=((f+i:Nat):Int):=by omega
  repeat (first|refine aR ?_|(refine aD (by first|refine aE rfl hB19 (by simp [hml]) (Ty.aF rfl)|refine (cT (m:=f) (n:=i) rfl rfl (by omega)).is (congrArg (Value.int .i64) hfi)) rfl ?_)|refine aT ?_)
  clear hB19
  refine aO ?_
  refine aA (aC ((FR (mb:=f+i) hk hdb.symm hmo hqp (fun h4=>by rw [if_pos h4] at hmq;exact hmq) (by omega) (by omega) (by rw [hdc,hdr];omega) (by rw [hdc];exact heo) (by simp only;omega) (by simp only;omega) (hH.jO 4))) rfl rfl ?_)
  rintro _ _ ⟨rfl,ht2,hs2,a3,c3,a4,c4,hQ⟩
  replace hH:=(hH.calls 4 hQ).del 6
  have hqe:(if m.k=4 then m.q else qp)=m.q:=by
   split
   ·rfl
   ·rename_i h4;rw [if_neg h4] at hmq;exact hmq.symm
  rw [hqe,hdc,hdr,hdi] at hH
  rw [hdc,hdr,hdi] at ht2
  rw [hdc] at hs2
  have ht3:(mA inter F1 C R (f+i) m.k qp m.q m.us m.e m.L T1).length≤1000:=ht2
  clear hQ
  replace hH:=aI hH
  refine aK ?_
  refine IH (i+1,a3,c3,a4,c4) _ _ ?_ ?_ ?_ ?_
  ·simp only;omega
  ·exact ⟨rfl,trivial⟩
  ·exact cP
  ·exact ⟨by omega,by rw [hNn];exact hmo.q1,by rw [hNn];exact hcd,by rw [hNn];show (A1++mA inter F1 C R (f+i) m.k qp m.q m.us m.e m.L T1).length≤_;rw [List.length_append];omega,by rw [hNn];show (B1++mW C (f+i) m.k m.q m.e m.L T1).length≤_;rw [List.length_append];omega,by rw [hNn];exact hH⟩
 ·obtain rfl:i=n:=by omega
  clear IH
  obtain ⟨P1,hP1⟩:∃ P1,N i=P1:=⟨_,rfl⟩
  rw [hP1] at ht hs hH ⊢
  obtain ⟨F1,T1,qp,A1,B1⟩:=P1
  simp only at ht hs hH ⊢
  refine aK ?_
  refine aO ?_
  refine aA (aC ((lL (hH.at 1 rfl) (by simp only;omega))) rfl rfl ?_)
  rintro _ _ ⟨a1,c1,rfl,hN⟩
  replace hH:=hH.nu hN
  clear hN
  replace hH:=aI hH
  have hl1:(pk (A1++[true])).length=(A1.length+1+7) / 8:=by rw [eN];simp
  have hb1:=oX (A1++[true])
  generalize pk (A1++[true])=r1 at *
  refine aK ?_
  refine aO ?_
  refine aA (aC ((qV (hH.o 6 rfl).sl hb1 rfl (by omega))) rfl rfl ?_)
  rintro _ _ ⟨a2,c2,rfl,hN⟩
  replace hH:=hH.nu hN
  clear hN
  replace hH:=aI hH
  refine aK ?_
  refine aO ?_
  refine aA (aC ((lL (hH.at 2 rfl) (by simp only;omega))) rfl rfl ?_)
  rintro _ _ ⟨a3,c3,rfl,hN⟩
  replace hH:=hH.nu hN
  clear hN
  replace hH:=aI hH
  have hl2:(pk (B1++[true])).length=(B1.length+1+7) / 8:=by rw [eN];simp
  have hb2:=oX (B1++[true])
  generalize pk (B1++[true])=r2 at *
  refine aK ?_
  refine aO ?_
  refine aA (aC ((qV (hH.o 8 rfl).sl hb2 rfl (by omega))) rfl rfl ?_)
  rintro _ _ ⟨a4,c4,rfl,hN⟩
  replace hH:=hH.nu hN
  clear hN
  replace hH:=aI hH
  have g1:=rL r1 0 (by decide)
  have g2:=Ao r1 0
  have g3:=rL r2 0 (by decide)
  have g4:=Ao r2 0
  refine aK ?_
  exact zQ Tryz.func54 rfl ⟨a2,c2,a4,c4,rfl,⟨by omega,by omega⟩,⟨uX _ _ hb1,uX _ _ hb2⟩,((((((hH.del 8).del 6).del 5).del 4).del 2).del 1).del 0⟩
end Go.Proofs.YtdbnmbkjmeepkaaGreatDoor
