/- A part of the proof of the card of TopText; no condition. -/
import Derived.Test.YtdbnmbkjmeepkaaGreatDoorT16
namespace Go.Proofs.YtdbnmbkjmeepkaaGreatDoor
open Go Go.K Go.P Go.RowKit Go.Proofs
def kg (l:List Int):Prop:=l.length=65∧∀ i,i<64→-2047≤l.getD i 0∧l.getD i 0≤2047
abbrev kv (l:List Int):Value:=.agg (l.map (Value.int .i64)).toArray
abbrev tV:List Int:=List.replicate 65 0
abbrev rH:List Int:=List.replicate 64 0
theorem Q5:kg tV:=⟨rfl,fun i h=>by rw [List.getD_eq_getElem?_getD,List.getElem?_replicate,if_pos (by omega)];decide⟩
abbrev TV:=Nat→Int→Option (List Int)
def xG (T:TV) (p:Nat):Int→Option Value:=fun i=>(T p i).map kv
def TV.put (T:TV) (p:Nat) (i:Int) (l:List Int):TV:=fun p' k=>if p'=p then (if k=i then some l else T p' k) else T p' k
theorem zW {T:TV} {p:Nat} {i:Int} {l:List Int}:rO (xG T p) i (kv l)=xG (T.put p i l) p:=by
 funext k
 unfold rO xG TV.put
 rw [if_pos rfl]
 split<;>rfl
theorem My {T:TV} {p p':Nat} {i:Int} {l:List Int} (h:p'≠p):xG (T.put p i l) p'=xG T p':=by
 funext k
 unfold xG TV.put
 rw [if_neg h]
def TV.ok (T:TV):Prop:=∀ p i l,T p i=some l→kg l
theorem TV.G5 {T:TV} {p:Nat} {i:Int} {l:List Int} (h:T.ok) (hl:kg l):(T.put p i l).ok:=by
 intro p' k u hu
 unfold TV.put at hu
 split at hu
 ·split at hu
  ·obtain rfl:=Option.some.inj hu;exact hl
  ·exact h _ _ _ hu
 ·exact h _ _ _ hu
abbrev T0:TV:=fun _ _=>none
def RT (b m1 m2 m3 c r:Nat) (T:TV):cK where
 fp:=[b,m1,m2,m3]
 holds:=fun w=>cL w b 183 #[.int .i64 c,.int .i64 r,.map (some m1),.map (some m2),.map (some m3)]∧jE w m1 .i64 (xG T 0)∧jE w m2 .i64 (xG T 1)∧jE w m3 .i64 (xG T 2)∧T.ok∧m1≠m2∧m1≠m3∧m2≠m3
 keep:=fun ⟨h1,h2,h3,h4,h5⟩ hE hS=>⟨h1.ext hE (fun hb=>hS _ hb (by simp)),h2.ext hE (fun hb=>hS _ hb (by simp)),h3.ext hE (fun hb=>hS _ hb (by simp)),h4.ext hE (fun hb=>hS _ hb (by simp)),h5⟩
 lt:=fun ⟨h1,h2,h3,h4,_⟩ s hs=>by
  simp at hs
  rcases hs with rfl|rfl|rfl|rfl
  ·exact h1.lt
  ·exact h2.lt
  ·exact h3.lt
  ·exact h4.lt
set_option maxHeartbeats 4000000 in
theorem qO {c r:Nat} {w:World} (hc:c≤8) (hr:r≤8) :
  aX Tryz.prog 59 #[.int .i64 c,.int .i64 r] w fun v w'=>∃ b m1 m2 m3,v=.pointer (some ⟨b,0,none⟩)∧iA (RT b m1 m2 m3 c r T0) w w':=by
 refine aL (args:=[_,_]) Tryz.func59 rfl rfl Tryz.ntmps59 rfl ?_
 have hH:=Hp.start w
 have e1:min (max (c:Int) 0) 8=c:=by omega
 have e2:min (max (r:Int) 0) 8=r:=by omega
 repeat (first|refine aR ?_|(refine aD (by first|refine (eK rfl rfl).is (congrArg (Value.int .i64) e1)|refine (eK rfl rfl).is (congrArg (Value.int .i64) e2)) rfl ?_)|refine aT ?_)
 refine aA (lM .i64 hH rfl ?_)
 intro _ m1 hH
 replace hH:=aI hH
 refine aA (lM .i64 hH rfl ?_)
 intro _ m2 hH
 replace hH:=aI hH
 refine aA (lM .i64 hH rfl ?_)
 intro _ m3 hH
 replace hH:=aI hH
 repeat ((refine aD (by first|refine dC (cs:=[.map (some m1),.map (some m2),.map (some m3)]) (Ty.bH rfl) (Ty.arr rfl) rfl|refine bR (cs:=[.int .i64 c,.int .i64 r,.map (some m1),.map (some m2),.map (some m3)]) (Ty.bH rfl) (Ty.iJ rfl) rfl) rfl ?_))
 refine aO ?_
 refine aA (bI (cs:=#[.int .i64 c,.int .i64 r,.map (some m1),.map (some m2),.map (some m3)]) hH rfl rfl rfl ?_)
 try clear hH
 intro _ b1 hH
 replace hH:=aI hH
 refine aK ?_
 refine aM Tryz.func59 rfl ⟨b1,m1,m2,m3,rfl,hH.ext,⟨hH.b 3 rfl,hH.at 0 rfl,hH.at 1 rfl,hH.at 2 rfl,fun _ _ _ h=>(by cases h),fun e=>hH.dj 0 1 rfl rfl (by decide) m1 (by simp [GU]) (by simp [GU,e]),fun e=>hH.dj 0 2 rfl rfl (by decide) m1 (by simp [GU]) (by simp [GU,e]),fun e=>hH.dj 1 2 rfl rfl (by decide) m2 (by simp [GU]) (by simp [GU,e])⟩,?_⟩
 intro x hx
 simp [RT] at hx
 rcases hx with rfl|rfl|rfl|rfl
 ·rcases hH.new _ (List.mem_of_getElem? (i:=3) rfl) x (by simp [Rb]) with h|h;cases h;exact h
 ·rcases hH.new _ (List.mem_of_getElem? (i:=0) rfl) x (by simp [GU]) with h|h;cases h;exact h
 ·rcases hH.new _ (List.mem_of_getElem? (i:=1) rfl) x (by simp [GU]) with h|h;cases h;exact h
 ·rcases hH.new _ (List.mem_of_getElem? (i:=2) rfl) x (by simp [GU]) with h|h;cases h;exact h
theorem Pp:nC Tryz.prog 103=true:=by kernel_rfl
def pP (k:Nat):Nat:=if k<4 then 0 else k-3
def pW (c k:Nat):Nat:=if k<4 then 2*c else c
def pX (c mb k:Nat):Nat:=if k<4 then 2*(mb % c)+k % 2 else mb % c
def pY (c mb k:Nat):Nat:=if k<4 then 2*(mb / c)+k / 2 else mb / c
def TV.set (T:TV) (c mb k:Nat) (l:List Int):TV:=T.put (pP k) ((pY c mb k:Int)*pW c k+pX c mb k) l
def TV.at (T:TV) (p W:Nat) (x y:Int):Option (List Int):=if x<0∨y<0∨(W:Int)≤x then none else T p (y*W+x)
section
variable {b m1 m2 m3 c r mb k:Nat} {T:TV} {w:World}
theorem TV.O5 {p W:Nat} {x y:Int} {l:List Int} (h:T.ok) (hl:T.at p W x y=some l):kg l:=by
 unfold TV.at at hl
 split at hl
 ·cases hl
 ·exact h _ _ _ hl
theorem TV.kO {p W:Nat} {x y:Int} (h:T.ok):kg ((T.at p W x y).getD tV):=by
 cases hl:T.at p W x y with
 | none=>exact Q5
 | some l=>exact TV.O5 h hl
theorem pB (hc:c≤8) (hr:r≤8) (hmb:mb<c*r) (hk:k<6):pP k<3∧pW c k≤16∧pX c mb k≤20∧pY c mb k≤130:=by
 obtain ⟨hm,hc1⟩:=eI hc hr hmb
 have e4:mb % c<c:=Nat.mod_lt _ (by omega)
 have e5:mb / c≤mb:=Nat.div_le_self _ _
 unfold pP pW pX pY
 split<;>omega
set_option maxHeartbeats 4000000 in
theorem kM (hc:c≤8) (hr:r≤8) (hmb:mb<c*r) (hk:k<6) (hR:(RT b m1 m2 m3 c r T).holds w) :
  aX Tryz.prog 182 #[.pointer (some ⟨b,0,none⟩),.int .i64 mb,.int .i64 k] w fun v w'=>v=.tuple #[.int .i64 (pP k:Nat),.int .i64 (pW c k:Nat),.int .i64 (pX c mb k:Nat),.int .i64 (pY c mb k:Nat)]∧Ext [] w w':=by
 refine aL (args:=[_,_,_]) Tryz.func182 rfl rfl Tryz.ntmps182 rfl ?_
 obtain ⟨hm,hc1⟩:=eI hc hr hmb
 have hB:=hR.1
 have e1:max (c:Int) 1=c:=by omega
 unfold pP pW pX pY
 obtain ⟨M,hM⟩:∃ M,mb % c=M:=⟨_,rfl⟩
 obtain ⟨D,hD⟩:∃ D,mb / c=D:=⟨_,rfl⟩
 have e4:M<c:=hM▸Nat.mod_lt _ (by omega)
 have e5:D≤mb:=hD▸Nat.div_le_self _ _
 rw [hM,hD]
 repeat (first|refine aR ?_|(refine aD (by first|refine aG rfl|refine aN rfl (Ty.bA rfl rfl)|refine aB rfl hB rfl (Ty.aF rfl)|refine (gJ rfl rfl).is (congrArg (Value.int .i64) e1)) rfl ?_)|refine aT ?_)
 refine cD Ty.mixed 8 rfl (fun w1 hx1=>?_)
 refine bE 0 hx1 ?_
 refine bE 1 hx1 ?_
 refine Lh ?_
 refine bE 3 hx1 ?_
 refine bE 4 hx1 ?_
 refine aY 5 hx1 rfl (fun w' hw'=>by refine (iR (m:=mb) (n:=c) rfl rfl (by omega) (mU (by omega))).is (congrArg (fun n:Nat=>Value.int .i64 n) hD)) ?_
 refine bE 6 hx1 ?_
 refine bE 7 hx1 ?_
 refine aW (by kernel_rfl) ?_
 by_cases h4:k<4
 ·simp only [if_pos h4]
  repeat (first|refine aR ?_|(refine aD (by first|refine dL (n:=2) rfl rfl (by decide)|refine iR (n:=2) rfl rfl (by decide) (mU (by omega))) rfl ?_)|refine aT ?_)
  exact EA Tryz.func182 rfl ⟨rfl,hx1⟩
 ·simp only [if_neg h4]
  refine aK ?_
  have e9:((k-3:Nat):Int)=(k:Int)-3:=by omega
  rw [e9]
  exact EA Tryz.func182 rfl ⟨rfl,hx1⟩
set_option maxHeartbeats 4000000 in
theorem pO (hc:c≤8) (hr:r≤8) (hmb:mb<c*r) (hk:k<6) (hR:(RT b m1 m2 m3 c r T).holds w) :
  aX Tryz.prog 184 #[.pointer (some ⟨b,0,none⟩),.int .i64 mb,.int .i64 k] w fun v w'=>v=.bool true∧Ext [] w w':=by
 refine aL (args:=[_,_,_]) Tryz.func184 rfl rfl Tryz.ntmps184 rfl ?_
 obtain ⟨hm,hc1⟩:=eI hc hr hmb
 have hB:=hR.1
 have hcr:c*r≤64:=Nat.mul_le_mul hc hr
 have hcm:(c:Int)*r=((c*r:Nat):Int):=by simp
 refine aK ?_
 refine cD Ty.mixed 28 rfl (fun w1 hx1=>?_)
 refine FL ?_
 refine aY 1 hx1 rfl (fun w' hw'=>by refine Jn rfl rfl (.inr rfl) Pp) ?_
 refine aY 2 hx1 rfl (fun w' hw'=>by refine aP rfl) ?_
 refine bM 3 rfl (by kernel_rfl) hx1 rfl rfl rfl rfl rfl (fun w' hw'=>by refine aP rfl) ?_
 refine bM 4 rfl (by kernel_rfl) hx1 rfl rfl rfl rfl rfl (fun w' hw'=>by exact aP (congrArg some (dT (by omega)))) ?_
 refine aY 5 hx1 rfl (fun w' hw'=>by refine aP rfl) ?_
 refine aY 6 hx1 rfl (fun w' hw'=>by refine aP rfl) ?_
 refine bM 7 rfl (by kernel_rfl) hx1 rfl rfl rfl rfl rfl (fun w' hw'=>by refine aP rfl) ?_
 refine bM 8 rfl (by kernel_rfl) hx1 rfl rfl rfl rfl rfl (fun w' hw'=>by refine aP rfl) ?_
 refine bM 9 rfl (by kernel_rfl) hx1 rfl rfl rfl rfl rfl (fun w' hw'=>by refine aG rfl) ?_
 refine L1 ?_
 refine Lo ?_
 refine bM 12 rfl (by kernel_rfl) hx1 rfl rfl rfl rfl rfl (fun w' hw'=>by refine aP rfl) ?_
 refine bM 13 rfl (by kernel_rfl) hx1 rfl rfl rfl rfl rfl (fun w' hw'=>by refine aG rfl) ?_
 refine M0 ?_
 refine L8 ?_
 refine Lj ?_
 refine bM 17 rfl (by kernel_rfl) hx1 rfl rfl rfl rfl rfl (fun w' hw'=>by exact aP (congrArg some (dT (by omega)))) ?_
 refine aY 18 hx1 rfl (fun w' hw'=>by refine aP rfl) ?_
 refine aY 19 hx1 rfl (fun w' hw'=>by refine aP rfl) ?_
 refine bM 20 rfl (by kernel_rfl) hx1 rfl rfl rfl rfl rfl (fun w' hw'=>by refine aP rfl) ?_
 refine bM 21 rfl (by kernel_rfl) hx1 rfl rfl rfl rfl rfl (fun w' hw'=>by exact aP (congrArg some (dT (by omega)))) ?_
 refine aY 22 hx1 rfl (fun w' hw'=>by refine aP rfl) ?_
 refine aY 23 hx1 rfl (fun w' hw'=>by refine aP rfl) ?_
 refine bM 24 rfl (by kernel_rfl) hx1 rfl rfl rfl rfl rfl (fun w' hw'=>by refine aP rfl) ?_
 refine bM 25 rfl (by kernel_rfl) hx1 rfl rfl rfl rfl rfl (fun w' hw'=>by exact aP (congrArg some (dT (by omega)))) ?_
 refine aY 26 hx1 rfl (fun w' hw'=>by refine aP rfl) ?_
 refine aY 27 hx1 rfl (fun w' hw'=>by refine aP rfl) ?_
 refine aW (by kernel_rfl) ?_
 refine aK ?_
 exact aM Tryz.func184 rfl ⟨rfl,hx1⟩
theorem JU {w w':World} {m m':Nat} {q:IntKind} {F F' G:Int→Option Value} (h:jE w m' q F') (hE:Ext [m] w w') (hM:jE w' m q F) (h1:m'≠m→G=F') (h2:m'=m→G=F):jE w' m' q G:=by
 by_cases e:m'=m
 ·rw [h2 e,e];exact hM
 ·rw [h1 e];exact h.ext hE (by simpa using e)
theorem RT.set {w':World} {p:Nat} {m:Nat} {i:Int} {l:List Int} (h:(RT b m1 m2 m3 c r T).holds w) (hm:[m1,m2,m3][p]?=some m) (hl:kg l) (hE:Ext [m] w w') (hM:jE w' m .i64 (xG (T.put p i l) p)):jA (RT b m1 m2 m3 c r T) (RT b m1 m2 m3 c r (T.put p i l)) w w':=by
 obtain ⟨h1,h2,h3,h4,h5,n1,n2,n3⟩:=h
 have hmm:m∈[m1,m2,m3]:=List.mem_of_getElem? hm
 have hb:b≠m:=by
  simp at hmm
  rcases hmm with rfl|rfl|rfl
  ·exact gD h1 h2
  ·exact gD h1 h3
  ·exact gD h1 h4
 have key:∀ p',p'<3→∀ m',[m1,m2,m3][p']?=some m'→jE w m' .i64 (xG T p')→jE w' m' .i64 (xG (T.put p i l) p'):=by
  intro p' hp' m' hm' hM'
  refine JU hM' hE hM (fun e=>My (fun e'=>?_)) (fun e=>?_)
  ·subst e';rw [hm] at hm';exact e (Option.some.inj hm').symm
  ·have hp:p<3:=by have:=(List.getElem?_eq_some_iff.1 hm).1;simpa using this
   have:p'=p:=by
    rcases (show p=0∨p=1∨p=2 by omega) with rfl|rfl|rfl<;>rcases (show p'=0∨p'=1∨p'=2 by omega) with rfl|rfl|rfl<;>simp at hm hm'<;>first|rfl|(exfalso;subst hm hm';first|exact n1 e|exact n1 e.symm|exact n2 e|exact n2 e.symm|exact n3 e|exact n3 e.symm)
   rw [this]
 exact ⟨hE.weaken (fun s hs=>by simp at hs;subst hs;exact List.mem_cons_of_mem _ hmm),⟨h1.ext hE (by simpa using hb),key 0 (by decide) _ rfl h2,key 1 (by decide) _ rfl h3,key 2 (by decide) _ rfl h4,T.G5 h5 hl,n1,n2,n3⟩,fun _ hx=>.inl hx⟩
set_option maxRecDepth 20000 in
set_option maxHeartbeats 4000000 in
theorem rY {l:List Int} (hc:c≤8) (hr:r≤8) (hmb:mb<c*r) (hk:k<6) (hl:kg l) (hR:(RT b m1 m2 m3 c r T).holds w) :
  aX Tryz.prog 138 #[.pointer (some ⟨b,0,none⟩),.int .i64 mb,.int .i64 k,kv l] w fun v w'=>v=.tuple #[]∧jA (RT b m1 m2 m3 c r T) (RT b m1 m2 m3 c r (T.set c mb k l)) w w':=by
 refine aL (args:=[_,_,_,_]) Tryz.func138 rfl rfl Tryz.ntmps138 rfl ?_
 have hH:=Hp.fI hR
 refine aK ?_
 refine aO ?_
 refine aA (bI (cs:=(l.map (Value.int .i64)).toArray) hH rfl rfl rfl ?_)
 try clear hH
 intro _ b1 hH
 replace hH:=aI hH
 refine aK ?_
 refine aO ?_
 refine aA (aC ((pO hc hr hmb hk (hH.at 0 rfl))) rfl rfl ?_)
 rintro _ _ ⟨rfl,hE0⟩
 replace hH:=hH.aH hE0
 clear hE0
 replace hH:=aI hH
 refine aK ?_
 refine aO ?_
 refine aA (aC ((kM hc hr hmb hk (hH.at 0 rfl))) rfl rfl ?_)
 rintro _ _ ⟨rfl,hE0⟩
 replace hH:=hH.aH hE0
 clear hE0
 replace hH:=aI hH
 obtain ⟨hp,hW,hX,hY⟩:=pB hc hr hmb hk
 unfold TV.set
 generalize pP k=p at *
 generalize pW c k=W at *
 generalize pX c mb k=X at *
 generalize pY c mb k=Y at *
 refine aK ?_
 have hB:=(hH.at 0 rfl).1
 have hyW:=yW (W:=W) (y:=Y) (by omega) (by omega)
 have hl1:=hl.1
 rcases (show p=0∨p=1∨p=2 by omega) with rfl|rfl|rfl
 ·refine qD Ty.mixed 12 rfl (by kernel_rfl) rfl (fun w1 hx1=>?_)
  refine bE 0 hx1 ?_
  refine bE 1 hx1 ?_
  refine xF ?_
  refine D8 ?_
  refine aY 4 hx1 rfl (fun w' hw'=>by refine bD rfl rfl (Ty.arr rfl) (by decide)) ?_
  refine aY 5 hx1 rfl (fun w' hw'=>by refine aB rfl (hB.aH hw') rfl (Ty.aF rfl)) ?_
  refine bE 6 hx1 ?_
  refine bE 7 hx1 ?_
  refine aY 8 hx1 rfl (fun w' hw'=>by refine bN (m:=Y) (n:=W) rfl rfl (by omega)) ?_
  refine bE 9 hx1 ?_
  refine bE 10 hx1 ?_
  refine MJ ?_
  refine aW (by kernel_rfl) ?_
  replace hH:=hH.aH hx1
  refine aK ?_
  refine aA (nR (e:=236) (q:=.i64) (v:=kv l) (by kernel_rfl) rfl rfl rfl (hH.at 0 rfl).2.1 ?_)
  intro w7 hE hM
  rw [zW] at hM
  replace hH:=hH.up 0 rfl (RT.set (hH.at 0 rfl) rfl hl hE hM)
  replace hH:=aI hH
  refine aK ?_
  exact cE Tryz.func138 rfl ⟨rfl,hH.dX 0 rfl⟩
 ·refine qD Ty.mixed 12 rfl (by kernel_rfl) rfl (fun w1 hx1=>?_)
  refine bE 0 hx1 ?_
  refine bE 1 hx1 ?_
  refine xF ?_
  refine D8 ?_
  refine aY 4 hx1 rfl (fun w' hw'=>by refine bD rfl rfl (Ty.arr rfl) (by decide)) ?_
  refine aY 5 hx1 rfl (fun w' hw'=>by refine aB rfl (hB.aH hw') rfl (Ty.aF rfl)) ?_
  refine bE 6 hx1 ?_
  refine bE 7 hx1 ?_
  refine aY 8 hx1 rfl (fun w' hw'=>by refine bN (m:=Y) (n:=W) rfl rfl (by omega)) ?_
  refine bE 9 hx1 ?_
  refine bE 10 hx1 ?_
  refine MJ ?_
  refine aW (by kernel_rfl) ?_
  replace hH:=hH.aH hx1
  refine aK ?_
  refine aA (nR (e:=236) (q:=.i64) (v:=kv l) (by kernel_rfl) rfl rfl rfl (hH.at 0 rfl).2.2.1 ?_)
  intro w7 hE hM
  rw [zW] at hM
  replace hH:=hH.up 0 rfl (RT.set (hH.at 0 rfl) rfl hl hE hM)
  replace hH:=aI hH
  refine aK ?_
  exact cE Tryz.func138 rfl ⟨rfl,hH.dX 0 rfl⟩
 ·refine qD Ty.mixed 12 rfl (by kernel_rfl) rfl (fun w1 hx1=>?_)
  refine bE 0 hx1 ?_
  refine bE 1 hx1 ?_
  refine xF ?_
  refine D8 ?_
  refine aY 4 hx1 rfl (fun w' hw'=>by refine bD rfl rfl (Ty.arr rfl) (by decide)) ?_
  refine aY 5 hx1 rfl (fun w' hw'=>by refine aB rfl (hB.aH hw') rfl (Ty.aF rfl)) ?_
  refine bE 6 hx1 ?_
  refine bE 7 hx1 ?_
  refine aY 8 hx1 rfl (fun w' hw'=>by refine bN (m:=Y) (n:=W) rfl rfl (by omega)) ?_
  refine bE 9 hx1 ?_
  refine bE 10 hx1 ?_
  refine MJ ?_
  refine aW (by kernel_rfl) ?_
  replace hH:=hH.aH hx1
  refine aK ?_
  refine aA (nR (e:=236) (q:=.i64) (v:=kv l) (by kernel_rfl) rfl rfl rfl (hH.at 0 rfl).2.2.2.1 ?_)
  intro w7 hE hM
  rw [zW] at hM
  replace hH:=hH.up 0 rfl (RT.set (hH.at 0 rfl) rfl hl hE hM)
  replace hH:=aI hH
  refine aK ?_
  exact cE Tryz.func138 rfl ⟨rfl,hH.dX 0 rfl⟩
set_option maxRecDepth 20000 in
set_option maxHeartbeats 4000000 in
theorem mS {p W:Nat} {x y:Int} (hp:p<3) (hW:W≤1000) (hx:-1≤x∧x≤1000) (hy:-1≤y∧y≤1000) (hR:(RT b m1 m2 m3 c r T).holds w) :
  aX Tryz.prog 183 #[.pointer (some ⟨b,0,none⟩),.int .i64 p,.int .i64 W,.int .i64 x,.int .i64 y] w fun v w'=>v=.tuple #[kv ((T.at p W x y).getD tV),.bool (T.at p W x y).isSome]∧Ext [] w w':=by
 refine aL (args:=[_,_,_,_,_]) Tryz.func183 rfl rfl Tryz.ntmps183 rfl ?_
 have hH:=Hp.start w
 refine aK ?_
 refine aO ?_
 refine aA (aQ hH (Ty.bH rfl) rfl ?_)
 try clear hH
 intro _ b1 hH
 replace hH:=aI hH
 by_cases h1:x<0
 ·repeat (first|refine aR ?_|(refine aD (by refine bR (cs:=tV.map (Value.int .i64)) (Ty.bH rfl) (Ty.iJ rfl) rfl) rfl ?_)|refine aT ?_)
  refine aO ?_
  refine aA (aJ 0 (vs:=(tV.map (Value.int .i64)).toArray) (s:=65) hH rfl rfl rfl (by rfl) (by rfl) (by exact bB) (Ty.aF rfl) ?_)
  try clear hH
  intro _ hH
  replace hH:=aI hH
  refine aK ?_
  exact MT
 by_cases h2:y<0
 ·repeat (first|refine aR ?_|(refine aD (by refine bR (cs:=tV.map (Value.int .i64)) (Ty.bH rfl) (Ty.iJ rfl) rfl) rfl ?_)|refine aT ?_)
  refine aO ?_
  refine aA (aJ 0 (vs:=(tV.map (Value.int .i64)).toArray) (s:=65) hH rfl rfl rfl (by rfl) (by rfl) (by exact bB) (Ty.aF rfl) ?_)
  try clear hH
  intro _ hH
  replace hH:=aI hH
  refine aK ?_
  exact MT
 by_cases h3:(W:Int)≤x
 ·repeat (first|refine aR ?_|(refine aD (by refine bR (cs:=tV.map (Value.int .i64)) (Ty.bH rfl) (Ty.iJ rfl) rfl) rfl ?_)|refine aT ?_)
  refine aO ?_
  refine aA (aJ 0 (vs:=(tV.map (Value.int .i64)).toArray) (s:=65) hH rfl rfl rfl (by rfl) (by rfl) (by exact bB) (Ty.aF rfl) ?_)
  try clear hH
  intro _ hH
  replace hH:=aI hH
  refine aK ?_
  exact MT
 have hyW:=yW (W:=W) (y:=y) (by omega) (by omega)
 have hB:=hR.1.aH hH.ext
 rcases (show p=0∨p=1∨p=2 by omega) with rfl|rfl|rfl
 ·repeat (first|refine aR ?_|(refine aD (by first|refine aG rfl|refine aN rfl (Ty.bA rfl rfl)|refine bD rfl rfl (Ty.arr rfl) (by decide)|refine aB rfl hB rfl (Ty.aF rfl)|refine bN (m:=y) (n:=W) rfl rfl (by omega)) rfl ?_)|refine aT ?_)
  refine aA (nS (e:=236) (q:=.i64) (u:=kv tV) (by kernel_rfl) (by kernel_rfl) rfl rfl ((RT b m1 m2 m3 c r T).keep hR hH.ext (by simp)).2.1 rfl ?_)
  obtain ⟨l,hlT⟩:∃ l,(T.at 0 W x y).getD tV=l:=⟨_,rfl⟩
  have hl1:l.length=65:=hlT▸(TV.kO hR.2.2.2.2.1).1
  obtain ⟨o,hoT⟩:∃ o,(T.at 0 W x y).isSome=o:=⟨_,rfl⟩
  have e:Value.tuple #[(xG T 0 (y*W+x)).getD (kv tV),.bool (xG T 0 (y*W+x)).isSome]=.tuple #[kv l,.bool o]:=by
   rw [← hlT,← hoT,TV.at,if_neg (by omega),xG]
   cases T 0 (y*W+x)<;>rfl
  rw [e,hlT,hoT]
  clear hlT hoT e
  refine aK ?_
  refine aO ?_
  refine aA (aQ hH (Ty.bH rfl) rfl ?_)
  try clear hH
  intro _ b2 hH
  replace hH:=aI hH
  refine aO ?_
  refine aA (aJ 1 (vs:=(l.map (Value.int .i64)).toArray) (s:=65) hH rfl rfl rfl (by simp [hl1]) (by rfl) (by exact bB) (Ty.aF rfl) ?_)
  try clear hH
  intro _ hH
  replace hH:=aI hH
  clear hB
  have hB:=hH.b 1 rfl
  repeat (first|refine aR ?_|(refine aD (by refine aE rfl hB (by simp [hl1]) (Ty.aF rfl)) rfl ?_)|refine aT ?_)
  refine aO ?_
  refine aA (aJ 0 (vs:=(l.map (Value.int .i64)).toArray) (s:=65) hH rfl rfl rfl (by simp [hl1]) (by rfl) (by exact bB) (Ty.aF rfl) ?_)
  try clear hH
  intro _ hH
  replace hH:=aI hH
  refine aK ?_
  exact MK
 ·repeat (first|refine aR ?_|(refine aD (by first|refine aG rfl|refine aN rfl (Ty.bA rfl rfl)|refine bD rfl rfl (Ty.arr rfl) (by decide)|refine aB rfl hB rfl (Ty.aF rfl)|refine bN (m:=y) (n:=W) rfl rfl (by omega)) rfl ?_)|refine aT ?_)
  refine aA (nS (e:=236) (q:=.i64) (u:=kv tV) (by kernel_rfl) (by kernel_rfl) rfl rfl ((RT b m1 m2 m3 c r T).keep hR hH.ext (by simp)).2.2.1 rfl ?_)
  obtain ⟨l,hlT⟩:∃ l,(T.at 1 W x y).getD tV=l:=⟨_,rfl⟩
  have hl1:l.length=65:=hlT▸(TV.kO hR.2.2.2.2.1).1
  obtain ⟨o,hoT⟩:∃ o,(T.at 1 W x y).isSome=o:=⟨_,rfl⟩
  have e:Value.tuple #[(xG T 1 (y*W+x)).getD (kv tV),.bool (xG T 1 (y*W+x)).isSome]=.tuple #[kv l,.bool o]:=by
   rw [← hlT,← hoT,TV.at,if_neg (by omega),xG]
   cases T 1 (y*W+x)<;>rfl
  rw [e,hlT,hoT]
  clear hlT hoT e
  refine aK ?_
  refine aO ?_
  refine aA (aQ hH (Ty.bH rfl) rfl ?_)
  try clear hH
  intro _ b2 hH
  replace hH:=aI hH
  refine aO ?_
  refine aA (aJ 1 (vs:=(l.map (Value.int .i64)).toArray) (s:=65) hH rfl rfl rfl (by simp [hl1]) (by rfl) (by exact bB) (Ty.aF rfl) ?_)
  try clear hH
  intro _ hH
  replace hH:=aI hH
  clear hB
  have hB:=hH.b 1 rfl
  repeat (first|refine aR ?_|(refine aD (by refine aE rfl hB (by simp [hl1]) (Ty.aF rfl)) rfl ?_)|refine aT ?_)
  refine aO ?_
  refine aA (aJ 0 (vs:=(l.map (Value.int .i64)).toArray) (s:=65) hH rfl rfl rfl (by simp [hl1]) (by rfl) (by exact bB) (Ty.aF rfl) ?_)
  try clear hH
  intro _ hH
  replace hH:=aI hH
  refine aK ?_
  exact MK
 ·repeat (first|refine aR ?_|(refine aD (by first|refine aG rfl|refine aN rfl (Ty.bA rfl rfl)|refine bD rfl rfl (Ty.arr rfl) (by decide)|refine aB rfl hB rfl (Ty.aF rfl)|refine bN (m:=y) (n:=W) rfl rfl (by omega)) rfl ?_)|refine aT ?_)
  refine aA (nS (e:=236) (q:=.i64) (u:=kv tV) (by kernel_rfl) (by kernel_rfl) rfl rfl ((RT b m1 m2 m3 c r T).keep hR hH.ext (by simp)).2.2.2.1 rfl ?_)
  obtain ⟨l,hlT⟩:∃ l,(T.at 2 W x y).getD tV=l:=⟨_,rfl⟩
  have hl1:l.length=65:=hlT▸(TV.kO hR.2.2.2.2.1).1
  obtain ⟨o,hoT⟩:∃ o,(T.at 2 W x y).isSome=o:=⟨_,rfl⟩
  have e:Value.tuple #[(xG T 2 (y*W+x)).getD (kv tV),.bool (xG T 2 (y*W+x)).isSome]=.tuple #[kv l,.bool o]:=by
   rw [← hlT,← hoT,TV.at,if_neg (by omega),xG]
   cases T 2 (y*W+x)<;>rfl
  rw [e,hlT,hoT]
  clear hlT hoT e
  refine aK ?_
  refine aO ?_
  refine aA (aQ hH (Ty.bH rfl) rfl ?_)
  try clear hH
  intro _ b2 hH
  replace hH:=aI hH
  refine aO ?_
  refine aA (aJ 1 (vs:=(l.map (Value.int .i64)).toArray) (s:=65) hH rfl rfl rfl (by simp [hl1]) (by rfl) (by exact bB) (Ty.aF rfl) ?_)
  try clear hH
  intro _ hH
  replace hH:=aI hH
  clear hB
  have hB:=hH.b 1 rfl
  repeat (first|refine aR ?_|(refine aD (by refine aE rfl hB (by simp [hl1]) (Ty.aF rfl)) rfl ?_)|refine aT ?_)
  refine aO ?_
  refine aA (aJ 0 (vs:=(l.map (Value.int .i64)).toArray) (s:=65) hH rfl rfl rfl (by simp [hl1]) (by rfl) (by exact bB) (Ty.aF rfl) ?_)
  try clear hH
  intro _ hH
  replace hH:=aI hH
  refine aK ?_
  exact MK
end
end Go.Proofs.YtdbnmbkjmeepkaaGreatDoor
