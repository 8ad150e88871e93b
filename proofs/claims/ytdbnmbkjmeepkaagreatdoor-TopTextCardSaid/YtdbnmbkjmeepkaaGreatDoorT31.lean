/- A part of the proof of the card of TopText; no condition. -/
import Derived.Test.YtdbnmbkjmeepkaaGreatDoorT30
namespace Go.Proofs.YtdbnmbkjmeepkaaGreatDoor
open Go Go.K Go.P Go.RowKit Go.Proofs
theorem Ep {c mb kd:Nat} {q:Int} {e:Bool} {L:List Int} {T:TV} (h:kd<3):∀ b,(gU c mb kd q e L T b).T=T
 | 0=>rfl
 | b+1=>by
  show rK c mb kd q (row L b) (gU c mb kd q e L T b).T b=T
  rw [Ep h b,rK,if_neg (by omega)]
theorem P4 {c mb kd:Nat} {q:Int} {e:Bool} {L:List Int} {T:TV} (h:kd<3):mT c mb kd q e L T=T:=by
 unfold mT
 split
 ·rfl
 ·exact Ep h 6
theorem NN {c mb kd:Nat} {q:Int} {e:Bool} {L:List Int} {T:TV} (h:kd<3):xP c mb kd q e L T:=fun h3=>by omega
theorem PM {A:Prop} {Y:Fr→Int→World→Prop} (Z:Int→World→Prop) (h1:(∀ σ l u,Z l u→Y σ l u)→A) (h2:∀ σ l u,Z l u→Y σ l u):A:=h1 h2
theorem Om {A:Prop} {Y:Fr→Nat→List (Int × Int)→Int→Bool→World→Prop} (Z:Nat→List (Int × Int)→Int→Bool→World→Prop) (h1:(∀ σ b L n ok u,Z b L n ok u→Y σ b L n ok u)→A) (h2:∀ σ b L n ok u,Z b L n ok u→Y σ b L n ok u):A:=h1 h2
theorem N7 {A:Prop} {Y:Fr→Nat→Int × Int→Int × Int→Int × Int→Int × Int→World→Prop} (Z:Nat→Int × Int→Int × Int→Int × Int→Int × Int→World→Prop) (h1:(∀ σ k p0 p1 p2 p3 u,Z k p0 p1 p2 p3 u→Y σ k p0 p1 p2 p3 u)→A) (h2:∀ σ k p0 p1 p2 p3 u,Z k p0 p1 p2 p3 u→Y σ k p0 p1 p2 p3 u):A:=h1 h2
theorem Hp.eqv {S:List Nat} {W w:World} {H:List cK} {r r':cK} (i:Nat) (h:Hp S W w H) (hi:H[i]?=some r) (e:r=r'):Hp S W w (H.set i r'):=by
 subst e
 obtain ⟨hl,h2⟩:=List.getElem?_eq_some_iff.1 hi
 have h3:H.set i r=H:=by rw [← h2];exact List.set_getElem_self hl
 rwa [h3]
abbrev GW (k:Nat) (q:Int) (p0 p1 p2 p3:Int × Int):List Value:=eF k q (cO p0) (cO p1) (cO p2) (cO p3) false (List.replicate 384 0)
theorem OP {k:Nat} {q mq:Int} (h:k=3∧mq=q∨k=4∧jQ q mq):if k=4 then jQ q mq else mq=q:=by
 rcases h with ⟨rfl,h⟩|⟨rfl,h⟩
 ·rw [if_neg (by decide)];exact h
 ·rw [if_pos rfl];exact h
set_option maxRecDepth 20000 in
theorem KV {k:Nat} {q:Int} {u0 u1 u2 u3:Value}:dU (fun i=>([(0,1),(1,1),(2,4),(6,1),(7,384)]:List (Nat × Nat))[i]?) (eF 0 0 zV zV zV zV false (List.replicate 384 0)) [(0,.int .u8 k),(1,.int .i64 q),(2,.agg #[u0,u1,u2,u3])]=some (eF k q u0 u1 u2 u3 false (List.replicate 384 0)):=rfl
theorem Mr {k k':Nat} {q:Int} {u0 u1 u2 u3 v0 v1 v2 v3:Value} {e:Bool} {L:List Int}:List.take (0+2) ((eF k q u0 u1 u2 u3 e L).set (0+0) (.int .u8 k'))++[v0,v1,v2,v3]++List.drop (0+2+[v0,v1,v2,v3].length) ((eF k q u0 u1 u2 u3 e L).set (0+0) (.int .u8 k'))=eF k' q v0 v1 v2 v3 e L:=rfl
set_option maxRecDepth 20000 in
set_option maxHeartbeats 4000000 in
theorem Bj {bx b m1 m2 m3:Nat} {e:ES} {f:FM} {c r mb q:Nat} {T:TV} {w:World} (hc:1≤c∧c≤8) (hr:1≤r∧r≤8) (hmb:mb<c*r) (ho:e.C.h.ok) (hcc:e.C.h.c=c) (hfar:e.C.far≤8) (hf:f.ok c r) (hg:e.g.ok c r) (hq:1≤q∧q≤31) (hqe:e.qp≤31) (hed:e.ed=pt b)
  (hR:(RT b m1 m2 m3 c r T).holds w) (hrd:∀ w',Ext (RT b m1 m2 m3 c r T).fp w w'→cL w' bx 105 e.cells.toArray∧f.rd w'∧e.g.rd w') :
  aX Tryz.prog 60 #[pt bx,.agg f.cells.toArray,.int .i64 mb,.int .i64 q] w fun v w'=>∃ m:MB,v=.agg m.cells.toArray∧m.ok∧(e.inter=false→3≤m.k)∧(if m.k=4 then jQ q m.q else m.q=q)∧xP c mb m.k m.q m.e m.L T∧Hp (RT b m1 m2 m3 c r T).fp w w' [RT b m1 m2 m3 c r (mT c mb m.k m.q m.e m.L T)]:=by
 refine aL (args:=[_,_,_,_]) Tryz.func60 rfl rfl Tryz.ntmps60 rfl ?_
 have hH:=Hp.fI hR
 obtain ⟨hm64,_⟩:=eI hc.2 hr.2 hmb
 have hL0:∀ k q,(mH k q (List.replicate 384 0)).length=391:=fun k q=>bL List.length_replicate
 have hmod:((mb:Int) % c)=((mb % c:Nat):Int):=by simp
 have hpc:e.pic % c<c:=Nat.mod_lt _ (by omega)
 have hcv:e.cells.toArray[0]?=some (.int .i64 c):=by rw [← hcc];rfl
 clear hR
 refine aK ?_
 refine aO ?_
 refine aA (bI (cs:=f.cells.toArray) hH rfl rfl rfl ?_)
 try clear hH
 intro _ b5 hH
 replace hH:=aI hH
 refine aA (aQ (zs:=mH 0 0 (List.replicate 384 0)) hH (Ty.bH rfl) rfl ?_)
 clear hH
 intro _ b8 hH
 replace hH:=aI hH
 have hB0:=(hrd _ hH.ext).1
 repeat (first|refine aR ?_|(refine aD (by first|refine aG rfl|refine aN rfl (Ty.bA rfl rfl)|refine aB rfl hB0 hcv (Ty.aF rfl)|refine aB rfl hB0 ((cQ ho (Nat.le_of_ble_eq_true rfl)).trans rfl) (Ty.aF rfl)) rfl ?_)|refine aT ?_)
 refine aO ?_
 refine aA (aC ((pZ (p:=e.pic) (c:=c) hc.1)) rfl rfl ?_)
 rintro _ _ ⟨rfl,rfl⟩
 repeat (first|refine aR ?_|(refine aD (by first|refine aG rfl|refine aN rfl (Ty.bA rfl rfl)|refine aB rfl hB0 ((cQ ho (Nat.le_of_ble_eq_true rfl)).trans rfl) (Ty.aF rfl)|refine bR (cs:=[.int .i64 e.C.far,.int .i64 0]) (Ty.bH rfl) (Ty.iJ rfl) rfl) rfl ?_)|refine aT ?_)
 clear hB0
 refine aO ?_
 refine aA (aQ hH (Ty.bH rfl) rfl ?_)
 try clear hH
 intro _ b11 hH
 replace hH:=aI hH
 refine aK ?_
 refine aO ?_
 refine aA (aJ 3 (vs:=#[.int .i64 e.C.far,.int .i64 0]) (s:=2) hH rfl rfl rfl (by rfl) (by rfl) (by simp [Value.oneCell']) (Ty.aF rfl) ?_)
 try clear hH
 intro _ hH
 replace hH:=aI hH
 have hB0:=(hrd _ hH.ext).1
 have hB5:=hH.b 1 rfl
 apply PM (Z:=fun lim u=>Hp (RT b m1 m2 m3 c r T).fp w u [RT b m1 m2 m3 c r T,Rb b5 54 f.cells.toArray,Rb b8 95 (mH 0 0 (List.replicate 384 0)).toArray,Rb b11 185 #[.int .i64 e.C.far,.int .i64 lim]])
 ·intro key
  obtain ⟨wv,hwv⟩:∃ x,x=e.C.wave:=⟨_,rfl⟩
  have hBw:e.cells.toArray[135]?=some (.bool wv):=(cQ ho (Nat.le_of_ble_eq_true rfl)).trans (by rw [hwv];rfl)
  obtain ⟨lim,hlim⟩:∃ l:Int,0=l:=⟨_,rfl⟩
  cases wv with
  | false =>
   repeat (first|refine aR ?_|(refine aD (by first|refine aG rfl|refine aN rfl (Ty.bA rfl rfl)|refine aB rfl hB0 hBw (Ty.aF rfl)) rfl ?_)|refine aT ?_)
   replace hH:=hH.as (r':=Rb b11 185 #[.int .i64 e.C.far,.int .i64 lim]) 3 rfl (fun _ h=>h) (fun h=>by rw [← hlim];exact h)
   replace hH:=aI hH
   exact eU fun u hu=>cJ [(0,pt bx),(2,.int .i64 mb),(3,.int .i64 q),(5,pt b5),(8,pt b8),(11,pt b11),(62,.pointer (some ⟨bx,0+155,none⟩))] ⟨rfl,rfl,rfl,rfl,rfl,rfl,rfl,trivial⟩ (fun σ=>key σ lim u (hu▸hH))
  | true =>
   by_cases h1:mb % c=e.pic % c
   ·repeat (first|refine aR ?_|(refine aD (by first|refine aG rfl|refine aN rfl (Ty.bA rfl rfl)|refine aB rfl hB0 hBw (Ty.aF rfl)|refine (iX (m:=mb) (n:=c) rfl rfl (by omega)).is (congrArg (Value.int .i64) hmod)|refine aE rfl hB5 rfl (Ty.aF rfl)) rfl ?_)|refine aT ?_)
    refine aO ?_
    refine aA (aC ((kJ hc hr hmb ho hf hq hqe hed (hH.at 0 rfl) (fun w' hE=>⟨(hrd _ (hH.ext.trans hE (fun t ht=>hH.new _ (List.mem_of_getElem? (i:=0) rfl) t ht))).1,(hrd _ (hH.ext.trans hE (fun t ht=>hH.new _ (List.mem_of_getElem? (i:=0) rfl) t ht))).2.1⟩))) rfl rfl ?_)
    rintro _ _ ⟨m,rfl,hm,hkm,hem,hQ⟩
    replace hH:=hH.up 0 rfl (hQ.dX 0 rfl)
    clear hQ
    replace hH:=aI hH
    refine aA (aJ 2 (vs:=m.cells.toArray) (s:=391) hH rfl rfl rfl (by simpa using bL hm.len) (by rw [List.size_toArray,hL0]) (dZ hm) (Ty.aF rfl) ?_)
    clear hH
    intro _ hH
    replace hH:=aI hH
    refine aK ?_
    exact JO
   ·by_cases h2:mb % c<e.pic % c
    ·repeat (first|refine aR ?_|(refine aD (by first|refine aG rfl|refine aN rfl (Ty.bA rfl rfl)|refine aB rfl hB0 hBw (Ty.aF rfl)|refine (iX (m:=mb) (n:=c) rfl rfl (by omega)).is (congrArg (Value.int .i64) hmod)|refine bN (m:=16) rfl rfl (by omega)) rfl ?_)|refine aT ?_)
     refine aO ?_
     refine aA (dR 3 (v:=.int .i64 (16*((e.pic % c:Nat):Int))) hH rfl rfl rfl (Nat.le_of_ble_eq_true rfl) rfl (Ty.aF rfl) ?_)
     try clear hH
     intro _ hH
     replace hH:=aI hH
     clear hlim lim
     obtain ⟨lim,hlim⟩:∃ l:Int,16*((e.pic % c:Nat):Int)=l:=⟨_,rfl⟩
     replace hH:=hH.as (r':=Rb b11 185 #[.int .i64 e.C.far,.int .i64 lim]) 3 rfl (fun _ h=>h) (fun h=>by rw [← hlim];exact h)
     replace hH:=aI hH
     repeat (first|refine aR ?_|(refine aD (by first|refine aG rfl|refine aN rfl (Ty.bA rfl rfl)) rfl ?_)|refine aT ?_)
     exact eU fun u hu=>cJ [(0,pt bx),(2,.int .i64 mb),(3,.int .i64 q),(5,pt b5),(8,pt b8),(11,pt b11),(62,.pointer (some ⟨bx,0+155,none⟩))] ⟨rfl,rfl,rfl,rfl,rfl,rfl,rfl,trivial⟩ (fun σ=>key σ lim u (hu▸hH))
    ·repeat (first|refine aR ?_|(refine aD (by first|refine aG rfl|refine aN rfl (Ty.bA rfl rfl)|refine aB rfl hB0 hBw (Ty.aF rfl)|refine (iX (m:=mb) (n:=c) rfl rfl (by omega)).is (congrArg (Value.int .i64) hmod)) rfl ?_)|refine aT ?_)
     replace hH:=hH.as (r':=Rb b11 185 #[.int .i64 e.C.far,.int .i64 lim]) 3 rfl (fun _ h=>h) (fun h=>by rw [← hlim];exact h)
     replace hH:=aI hH
     exact eU fun u hu=>cJ [(0,pt bx),(2,.int .i64 mb),(3,.int .i64 q),(5,pt b5),(8,pt b8),(11,pt b11),(62,.pointer (some ⟨bx,0+155,none⟩))] ⟨rfl,rfl,rfl,rfl,rfl,rfl,rfl,trivial⟩ (fun σ=>key σ lim u (hu▸hH))
 clear hH hB0 hB5
 intro σ lim w9 hH
 have hB0:=(hrd _ hH.ext).1
 have hB5:=hH.b 1 rfl
 obtain ⟨iv,hiv⟩:∃ x,x=e.inter:=⟨_,rfl⟩
 have hBi:e.cells.toArray[155]?=some (.bool iv):=(cQ ho (Nat.le_of_ble_eq_true rfl)).trans (by rw [hiv];rfl)
 cases iv with
 | false =>
  repeat (first|refine aR ?_|(refine aD (by first|refine aB rfl hB0 hBi (Ty.aF rfl)|refine aE rfl hB5 rfl (Ty.aF rfl)) rfl ?_)|refine aT ?_)
  refine aO ?_
  refine aA (aC ((kJ hc hr hmb ho hf hq hqe hed (hH.at 0 rfl) (fun w' hE=>⟨(hrd _ (hH.ext.trans hE (fun t ht=>hH.new _ (List.mem_of_getElem? (i:=0) rfl) t ht))).1,(hrd _ (hH.ext.trans hE (fun t ht=>hH.new _ (List.mem_of_getElem? (i:=0) rfl) t ht))).2.1⟩))) rfl rfl ?_)
  rintro _ _ ⟨m,rfl,hm,hkm,hem,hQ⟩
  replace hH:=hH.up 0 rfl (hQ.dX 0 rfl)
  clear hQ
  replace hH:=aI hH
  refine aA (aJ 2 (vs:=m.cells.toArray) (s:=391) hH rfl rfl rfl (by simpa using bL hm.len) (by rw [List.size_toArray,hL0]) (dZ hm) (Ty.aF rfl) ?_)
  clear hH
  intro _ hH
  replace hH:=aI hH
  refine aK ?_
  exact JO
 | true =>
  repeat (first|refine aR ?_|(refine aD (by refine aB rfl hB0 hBi (Ty.aF rfl)) rfl ?_)|refine aT ?_)
  have hS0:cI _ (some ⟨bx,0,none⟩) e.cells:=hB0.cX
  have hB11:=hH.b 3 rfl
  obtain ⟨_,hfr,hgr⟩:=hrd _ hH.ext
  refine cD Ty.mixed 19 rfl (fun w1 hx1=>?_)
  refine aY 0 hx1 rfl (fun w' hw'=>by refine aE rfl (hB11.aH hw') rfl (Ty.aF rfl)) ?_
  refine aY 1 hx1 rfl (fun w' hw'=>by refine aE rfl (hB5.aH hw') rfl (Ty.aF rfl)) ?_
  refine bE 2 hx1 ?_
  refine aY 3 hx1 rfl (fun w' hw'=>by refine aG rfl) ?_
  refine GX ?_
  refine aY 5 hx1 rfl (fun w' hw'=>by refine bG (j:=0+140) (cs:=e.g.cells) rfl (hS0.aH hw') (JE ho) rfl (Ty.aF rfl)) ?_
  refine bE 6 hx1 ?_
  refine bE 7 hx1 ?_
  refine aY 8 hx1 rfl (fun w' hw'=>by refine aG rfl) ?_
  refine AJ ?_
  refine aY 10 hx1 rfl (fun w' hw'=>by refine aB rfl (hB0.aH hw') ((cQ ho (Nat.le_of_ble_eq_true rfl)).trans rfl) (Ty.aF rfl)) ?_
  refine bC 11 (by kernel_rfl) rfl rfl (aC (AD hc hr hmb (by omega) hf hg (hfr.ext hx1) (hgr.ext hx1)) rfl rfl ?_)
  rintro _ w2 ⟨ok,l,p,rfl,hl,hp,hE0⟩
  have hx2:=hx1.bO hE0
  refine ⟨hx2,?_⟩
  refine bE 12 hx2 ?_
  refine bE 13 hx2 ?_
  refine bE 14 hx2 ?_
  refine bE 15 hx2 ?_
  refine bE 16 hx2 ?_
  refine bE 17 hx2 ?_
  refine bE 18 hx2 ?_
  refine aW (by kernel_rfl) ?_
  replace hH:=hH.aH hx2
  clear hx1 hx2 hE0 hS0 hB11 hfr hgr hB0 hB5
  have hB5:=hH.b 1 rfl
  cases ok with
  | false =>
   repeat (first|refine aR ?_|(refine aD (by refine aE rfl hB5 rfl (Ty.aF rfl)) rfl ?_)|refine aT ?_)
   refine aO ?_
   refine aA (aC ((kJ hc hr hmb ho hf hq hqe hed (hH.at 0 rfl) (fun w' hE=>⟨(hrd _ (hH.ext.trans hE (fun t ht=>hH.new _ (List.mem_of_getElem? (i:=0) rfl) t ht))).1,(hrd _ (hH.ext.trans hE (fun t ht=>hH.new _ (List.mem_of_getElem? (i:=0) rfl) t ht))).2.1⟩))) rfl rfl ?_)
   rintro _ _ ⟨m,rfl,hm,hkm,hem,hQ⟩
   replace hH:=hH.up 0 rfl (hQ.dX 0 rfl)
   clear hQ
   replace hH:=aI hH
   refine aA (aJ 2 (vs:=m.cells.toArray) (s:=391) hH rfl rfl rfl (by simpa using bL hm.len) (by rw [List.size_toArray,hL0]) (dZ hm) (Ty.aF rfl) ?_)
   clear hH
   intro _ hH
   replace hH:=aI hH
   refine aK ?_
   exact JO
  | true =>
   repeat (first|refine aR ?_|(refine aD (by refine aE rfl hB5 rfl (Ty.aF rfl)) rfl ?_)|refine aT ?_)
   clear hB5
   refine aO ?_
   refine aA (aC ((zE hc hr hmb hf (hrd _ hH.ext).2.1)) rfl rfl ?_)
   rintro _ _ ⟨n,rfl,hn,hE⟩
   replace hH:=hH.aH hE
   clear hE
   have hB5:=hH.b 1 rfl
   by_cases hln:n+512<l
   ·repeat (first|refine aR ?_|(refine aD (by refine aE rfl hB5 rfl (Ty.aF rfl)) rfl ?_)|refine aT ?_)
    refine aO ?_
    refine aA (aC ((kJ hc hr hmb ho hf hq hqe hed (hH.at 0 rfl) (fun w' hE=>⟨(hrd _ (hH.ext.trans hE (fun t ht=>hH.new _ (List.mem_of_getElem? (i:=0) rfl) t ht))).1,(hrd _ (hH.ext.trans hE (fun t ht=>hH.new _ (List.mem_of_getElem? (i:=0) rfl) t ht))).2.1⟩))) rfl rfl ?_)
    rintro _ _ ⟨m,rfl,hm,hkm,hem,hQ⟩
    replace hH:=hH.up 0 rfl (hQ.dX 0 rfl)
    clear hQ
    replace hH:=aI hH
    refine aA (aJ 2 (vs:=m.cells.toArray) (s:=391) hH rfl rfl rfl (by simpa using bL hm.len) (by rw [List.size_toArray,hL0]) (dZ hm) (Ty.aF rfl) ?_)
    clear hH
    intro _ hH
    replace hH:=aI hH
    refine aK ?_
    exact JO
   ·refine aK ?_
    refine aO ?_
    refine aA (aC ((wK hp.vg)) rfl rfl ?_)
    rintro _ _ ⟨rfl,hE⟩
    replace hH:=hH.aH hE
    clear hE hB5
    repeat ((refine aD (by refine bR (zs:=eF 0 0 zV zV zV zV false (List.replicate 384 0)) (pl:=[(0,1),(1,1),(2,4),(6,1),(7,384)]) (cs:=eF 1 q (cO p) (cO p) (cO p) (cO p) false (List.replicate 384 0)) (Ty.bH rfl) (Ty.iJ rfl) KV) rfl ?_))
    refine aA (aQ (zs:=mH 0 0 (List.replicate 384 0)) hH (Ty.bH rfl) rfl ?_)
    clear hH
    intro _ b15 hH
    replace hH:=aI hH
    have hLp:∀ k p0 p1 p2 p3,(GW k q p0 p1 p2 p3).length=391:=fun _ _ _ _ _=>bL List.length_replicate
    have hLo:∀ k p0 p1 p2 p3,∀ v∈(GW k q p0 p1 p2 p3).toArray.toList,v.oneCell'=true:=by
     intro k p0 p1 p2 p3 v hv;simp [eF] at hv;rcases hv with rfl|rfl|rfl|rfl|rfl|rfl|rfl|rfl<;>rfl
    refine aA (aJ 4 (vs:=(GW 1 q p p p p).toArray) (s:=391) hH rfl rfl rfl (by rw [List.size_toArray,hLp]) (by rw [List.size_toArray,hL0]) (hLo _ _ _ _ _) (Ty.aF rfl) ?_)
    clear hH
    intro _ hH
    replace hH:=aI hH
    have hB0:=(hrd _ hH.ext).1
    apply N7 (Z:=fun kd p0 p1 p2 p3 u=>(kd=1∨kd=2)∧(nZ p0∧nZ p1∧nZ p2∧nZ p3)∧(kd=1→p1=p0∧p2=p0∧p3=p0)∧Hp (RT b m1 m2 m3 c r T).fp w u [RT b m1 m2 m3 c r T,Rb b5 54 f.cells.toArray,Rb b8 95 (mH 0 0 (List.replicate 384 0)).toArray,Rb b11 185 #[.int .i64 e.C.far,.int .i64 lim],Rb b15 95 (GW kd q p0 p1 p2 p3).toArray])
    ·intro key
     obtain ⟨fv,hfv⟩:∃ x,x=e.C.four:=⟨_,rfl⟩
     have hBf:e.cells.toArray[134]?=some (.bool fv):=(cQ ho (Nat.le_of_ble_eq_true rfl)).trans (by rw [hfv];rfl)
     cases fv with
     | false =>
      repeat (first|refine aR ?_|(refine aD (by first|refine aG rfl|refine aN rfl (Ty.bA rfl rfl)|refine aB rfl hB0 hBf (Ty.aF rfl)) rfl ?_)|refine aT ?_)
      obtain ⟨kk,hkk⟩:∃ k:Nat,1=k:=⟨_,rfl⟩
      obtain ⟨r0,hr0⟩:∃ r:Int × Int,p=r:=⟨_,rfl⟩
      obtain ⟨r1,hr1⟩:∃ r:Int × Int,p=r:=⟨_,rfl⟩
      obtain ⟨r2,hr2⟩:∃ r:Int × Int,p=r:=⟨_,rfl⟩
      obtain ⟨r3,hr3⟩:∃ r:Int × Int,p=r:=⟨_,rfl⟩
      replace hH:=Hp.eqv (r':=Rb b15 95 (GW kk q r0 r1 r2 r3).toArray) 4 (hH.take 5) rfl (by rw [← hkk,← hr0,← hr1,← hr2,← hr3])
      replace hH:=aI hH
      exact eU fun u hu=>cJ [(2,.int .i64 mb),(5,pt b5),(8,pt b8),(15,pt b15),(137,pt bx)] ⟨rfl,rfl,rfl,rfl,rfl,trivial⟩ (fun σ=>key σ kk r0 r1 r2 r3 u ⟨.inl hkk.symm,⟨hr0▸hp,hr1▸hp,hr2▸hp,hr3▸hp⟩,fun _=>⟨hr1.symm.trans hr0,hr2.symm.trans hr0,hr3.symm.trans hr0⟩,hu▸hH⟩)
     | true =>
      repeat (first|refine aR ?_|(refine aD (by first|refine aG rfl|refine aN rfl (Ty.bA rfl rfl)|refine aB rfl hB0 hBf (Ty.aF rfl)) rfl ?_)|refine aT ?_)
      have hS0:cI _ (some ⟨bx,0,none⟩) e.cells:=hB0.cX
      have hB11:=hH.b 3 rfl
      have hB5:=hH.b 1 rfl
      obtain ⟨_,hfr,hgr⟩:=hrd _ hH.ext
      refine oG (fun u9 hu9=>?_)
      rw [← hu9] at hH hS0 hB11 hB5 hfr hgr hB0
      clear hu9
      apply Om (Z:=fun b16 L n ok v=>Ck L∧(0≤n∧n≤160000)∧Hp (RT b m1 m2 m3 c r T).fp w v [RT b m1 m2 m3 c r T,Rb b5 54 f.cells.toArray,Rb b8 95 (mH 0 0 (List.replicate 384 0)).toArray,Rb b11 185 #[.int .i64 e.C.far,.int .i64 lim],Rb b15 95 (GW 1 q p p p p).toArray,Rb b16 91 (L.map cO).toArray])
      ·intro key2
       refine cD Ty.mixed 21 rfl (fun w4 hx1=>?_)
       refine aY 0 hx1 rfl (fun w' hw'=>by refine aE rfl (hB11.aH hw') rfl (Ty.aF rfl)) ?_
       refine aY 1 hx1 rfl (fun w' hw'=>by refine aE rfl (hB5.aH hw') rfl (Ty.aF rfl)) ?_
       refine bE 2 hx1 ?_
       refine aY 3 hx1 rfl (fun w' hw'=>by refine aG rfl) ?_
       refine GX ?_
       refine aY 5 hx1 rfl (fun w' hw'=>by refine bG (j:=0+140) (cs:=e.g.cells) rfl (hS0.aH hw') (JE ho) rfl (Ty.aF rfl)) ?_
       refine bE 6 hx1 ?_
       refine bE 7 hx1 ?_
       refine bE 8 hx1 ?_
       refine aY 9 hx1 rfl (fun w' hw'=>by refine aG rfl) ?_
       refine Fu ?_
       refine aY 11 hx1 rfl (fun w' hw'=>by refine aB rfl (hB0.aH hw') ((cQ ho (Nat.le_of_ble_eq_true rfl)).trans rfl) (Ty.aF rfl)) ?_
       replace hH:=hH.aH hx1
       replace hH:=aI hH
       refine mX 12 17 (by kernel_rfl) rfl rfl rfl rfl ?_ ?_
       ·refine aC (oM hc hr hmb hf hg (hfr.ext hx1) (hgr.ext hx1) hp) rfl rfl ?_
        rintro _ _ ⟨L,n4,ok,rfl,hL,hn4,hE10⟩
        have hx10:=hx1.bO hE10
        refine ⟨hx10,?_⟩
        replace hH:=hH.aH hE10
        clear hE10
        refine bE 13 hx10 ?_
        refine bE 14 hx10 ?_
        refine bE 15 hx10 ?_
        refine bE 16 hx10 ?_
        refine bC 17 (by kernel_rfl) rfl rfl ?_
        refine dS (zs:=[zV,zV,zV,zV]) (Ty.bH rfl) rfl ?_
        intro _ b16 hb16 hE14 hB14 _
        have hx14:=hx10.bO hE14
        refine ⟨hx14,?_⟩
        have hsz:=hx10.size
        replace hH:=hH.nu (r:=Rb b16 91 [zV,zV,zV,zV].toArray) ⟨hE14,hB14,fun x hx=>by simp [Rb] at hx;omega⟩
        clear hE14 hB14
        refine bC 18 (by kernel_rfl) rfl rfl (dH (s:=4) (vs:=(L.map cO).toArray) rfl rfl (hH.b 5 rfl) (by simp [hL.1]) rfl qM (Ty.aF rfl) (fun w7 hE7 hB7 _=>?_))
        have hx7:=hx14.kS hE7 (by omega)
        refine ⟨hx7,?_⟩
        replace hH:=hH.up 5 rfl (r':=Rb b16 91 (L.map cO).toArray) ⟨hE7,hB7,fun _ hx=>.inl hx⟩
        clear hE7 hB7
        refine bE 19 hx7 ?_
        refine bE 20 hx7 ?_
        refine aW (by kernel_rfl) ?_
        exact nO [(0,pt bx),(2,.int .i64 mb),(3,.int .i64 q),(5,pt b5),(8,pt b8),(13,.int .i64 l),(15,pt b15),(16,pt b16),(17,.int .i64 n4),(18,.bool ok)] ⟨rfl,rfl,rfl,rfl,rfl,rfl,rfl,rfl,rfl,rfl,trivial⟩ (fun σ=>key2 σ b16 L n4 ok w7 ⟨hL,hn4,hH⟩)
       ·refine dS (zs:=[zV,zV,zV,zV]) (Ty.bH rfl) rfl ?_
        intro _ b16 hb16 hE14 hB14 _
        have hx14:=hx1.bO hE14
        refine ⟨hx14,?_⟩
        have hsz:=hx1.size
        replace hH:=hH.nu (r:=Rb b16 91 [zV,zV,zV,zV].toArray) ⟨hE14,hB14,fun x hx=>by simp [Rb] at hx;omega⟩
        clear hE14 hB14
        refine bC 12 (by kernel_rfl) rfl rfl ?_
        refine aC (oM hc hr hmb hf hg (hfr.ext hx14) (hgr.ext hx14) hp) rfl rfl ?_
        rintro _ _ ⟨L,n4,ok,rfl,hL,hn4,hE10⟩
        have hx10:=hx14.bO hE10
        refine ⟨hx10,?_⟩
        replace hH:=hH.aH hE10
        clear hE10
        refine bE 13 hx10 ?_
        refine bE 14 hx10 ?_
        refine bE 15 hx10 ?_
        refine bE 16 hx10 ?_
        have hx14:=hx10
        refine bC 18 (by kernel_rfl) rfl rfl (dH (s:=4) (vs:=(L.map cO).toArray) rfl rfl (hH.b 5 rfl) (by simp [hL.1]) rfl qM (Ty.aF rfl) (fun w7 hE7 hB7 _=>?_))
        have hx7:=hx14.kS hE7 (by omega)
        refine ⟨hx7,?_⟩
        replace hH:=hH.up 5 rfl (r':=Rb b16 91 (L.map cO).toArray) ⟨hE7,hB7,fun _ hx=>.inl hx⟩
        clear hE7 hB7
        refine bE 19 hx7 ?_
        refine bE 20 hx7 ?_
        refine aW (by kernel_rfl) ?_
        exact nO [(0,pt bx),(2,.int .i64 mb),(3,.int .i64 q),(5,pt b5),(8,pt b8),(13,.int .i64 l),(15,pt b15),(16,pt b16),(17,.int .i64 n4),(18,.bool ok)] ⟨rfl,rfl,rfl,rfl,rfl,rfl,rfl,rfl,rfl,rfl,trivial⟩ (fun σ=>key2 σ b16 L n4 ok w7 ⟨hL,hn4,hH⟩)
      clear hH hS0 hB11 hB5 hfr hgr hB0
      rintro σ b16 L n4 ok w10 ⟨hL,hn4,hH⟩
      have hn1:¬ n4+128<l→True:=fun _=>trivial
      cases ok with
      | false =>
       refine aK ?_
       obtain ⟨kk,hkk⟩:∃ k:Nat,1=k:=⟨_,rfl⟩
       obtain ⟨r0,hr0⟩:∃ r:Int × Int,p=r:=⟨_,rfl⟩
       obtain ⟨r1,hr1⟩:∃ r:Int × Int,p=r:=⟨_,rfl⟩
       obtain ⟨r2,hr2⟩:∃ r:Int × Int,p=r:=⟨_,rfl⟩
       obtain ⟨r3,hr3⟩:∃ r:Int × Int,p=r:=⟨_,rfl⟩
       replace hH:=Hp.eqv (r':=Rb b15 95 (GW kk q r0 r1 r2 r3).toArray) 4 (hH.take 5) rfl (by rw [← hkk,← hr0,← hr1,← hr2,← hr3])
       replace hH:=aI hH
       exact eU fun u hu=>cJ [(2,.int .i64 mb),(5,pt b5),(8,pt b8),(15,pt b15),(137,pt bx)] ⟨rfl,rfl,rfl,rfl,rfl,trivial⟩ (fun σ=>key σ kk r0 r1 r2 r3 u ⟨.inl hkk.symm,⟨hr0▸hp,hr1▸hp,hr2▸hp,hr3▸hp⟩,fun _=>⟨hr1.symm.trans hr0,hr2.symm.trans hr0,hr3.symm.trans hr0⟩,hu▸hH⟩)
      | true =>
       by_cases hnl:n4+128<l
       ·obtain ⟨q0,q1,q2,q3,rfl⟩:∃ q0 q1 q2 q3,L=[q0,q1,q2,q3]:=by
         match L,hL.1 with
         | [a,b,c,d],_=>exact ⟨a,b,c,d,rfl⟩
        have h16:=hH.b 5 rfl
        refine aK ?_
        have hn16:b16 ∉ [b15]:=by have:=hH.dj 5 4 rfl rfl (by decide) b16 (by simp [Rb]);simpa [Rb] using this
        refine lJ Ty.mixed (fun v=>Ext [b15] w10 v) 5 rfl ?_
        have hx3:Ext [b15] w10 w10.drew:=Ext.dV
        refine aY 0 hx3 rfl (fun w' hw'=>by refine aE rfl (h16.ext hw' hn16) rfl (Ty.aF rfl)) ?_
        refine aY 1 hx3 rfl (fun w' hw'=>by refine aN rfl (Ty.bA rfl rfl)) ?_
        clear h16
        replace hH:=hH.aH (Ext.dV (S:=[]))
        refine bC 2 (by kernel_rfl) rfl rfl (gC (v:=.int .u8 (2:Nat)) rfl rfl (hH.b 4 rfl) (by rw [List.size_toArray,hLp];exact (by decide:0+0<391)) rfl (Ty.aF rfl) ?_)
        intro w12 hE7 hB7 _
        rw [List.setIfInBounds_toArray] at hB7
        have hx4:=hx3.iS hE7
        refine ⟨hx4,?_⟩
        replace hH:=hH.up 4 rfl (r':=Rb b15 95 ((GW 1 q p p p p).set (0+0) (.int .u8 (2:Nat))).toArray) ⟨hE7,hB7,fun _ hx=>.inl hx⟩
        replace hH:=aI hH
        refine aY 3 hx4 rfl (fun w' hw'=>by refine aN rfl (Ty.bA rfl rfl)) ?_
        refine bC 4 (by kernel_rfl) rfl rfl (vV (vs:=#[cO q0,cO q1,cO q2,cO q3]) (s:=4) rfl rfl (hH.b 4 rfl) (by have h:=hLp 1 p p p p;simp only [List.size_toArray,List.length_set,h];exact (by decide:0+2+4≤391)) (by simp [Value.oneCell']) (Ty.aF rfl) rfl ?_)
        intro w13 hE8 hB8 _
        refine ⟨hx4.iS hE8,?_⟩
        refine aW (by kernel_rfl) ?_
        have e9:=Mr (k:=1) (k':=2) (q:=q) (u0:=cO p) (u1:=cO p) (u2:=cO p) (u3:=cO p) (v0:=cO q0) (v1:=cO q1) (v2:=cO q2) (v3:=cO q3) (e:=false) (L:=List.replicate 384 0)
        have hB9:cL w13 b15 95 (GW 2 q q0 q1 q2 q3).toArray:=(congrArg (fun l:List Value=>cL w13 b15 95 l.toArray) e9).mp hB8
        replace hH:=hH.up 4 rfl (r':=Rb b15 95 (GW 2 q q0 q1 q2 q3).toArray) ⟨hE8,hB9,fun _ hx=>.inl hx⟩
        clear hE7 hE8 hx3 hx4 hn16 hB7 hB8 hB9 e9
        replace hH:=aI hH
        refine aK ?_
        obtain ⟨kk,hkk⟩:∃ k:Nat,2=k:=⟨_,rfl⟩
        obtain ⟨r0,hr0⟩:∃ r:Int × Int,q0=r:=⟨_,rfl⟩
        obtain ⟨r1,hr1⟩:∃ r:Int × Int,q1=r:=⟨_,rfl⟩
        obtain ⟨r2,hr2⟩:∃ r:Int × Int,q2=r:=⟨_,rfl⟩
        obtain ⟨r3,hr3⟩:∃ r:Int × Int,q3=r:=⟨_,rfl⟩
        replace hH:=Hp.eqv (r':=Rb b15 95 (GW kk q r0 r1 r2 r3).toArray) 4 (hH.take 5) rfl (by rw [← hkk,← hr0,← hr1,← hr2,← hr3])
        replace hH:=aI hH
        exact eU fun u hu=>cJ [(2,.int .i64 mb),(5,pt b5),(8,pt b8),(15,pt b15),(137,pt bx)] ⟨rfl,rfl,rfl,rfl,rfl,trivial⟩ (fun σ=>key σ kk r0 r1 r2 r3 u ⟨.inr hkk.symm,⟨hr0▸hL.2 _ (by simp),hr1▸hL.2 _ (by simp),hr2▸hL.2 _ (by simp),hr3▸hL.2 _ (by simp)⟩,fun h=>absurd (hkk.trans h) (by decide),hu▸hH⟩)
       ·refine aK ?_
        obtain ⟨kk,hkk⟩:∃ k:Nat,1=k:=⟨_,rfl⟩
        obtain ⟨r0,hr0⟩:∃ r:Int × Int,p=r:=⟨_,rfl⟩
        obtain ⟨r1,hr1⟩:∃ r:Int × Int,p=r:=⟨_,rfl⟩
        obtain ⟨r2,hr2⟩:∃ r:Int × Int,p=r:=⟨_,rfl⟩
        obtain ⟨r3,hr3⟩:∃ r:Int × Int,p=r:=⟨_,rfl⟩
        replace hH:=Hp.eqv (r':=Rb b15 95 (GW kk q r0 r1 r2 r3).toArray) 4 (hH.take 5) rfl (by rw [← hkk,← hr0,← hr1,← hr2,← hr3])
        replace hH:=aI hH
        exact eU fun u hu=>cJ [(2,.int .i64 mb),(5,pt b5),(8,pt b8),(15,pt b15),(137,pt bx)] ⟨rfl,rfl,rfl,rfl,rfl,trivial⟩ (fun σ=>key σ kk r0 r1 r2 r3 u ⟨.inl hkk.symm,⟨hr0▸hp,hr1▸hp,hr2▸hp,hr3▸hp⟩,fun _=>⟨hr1.symm.trans hr0,hr2.symm.trans hr0,hr3.symm.trans hr0⟩,hu▸hH⟩)
    clear hH hB0
    rintro σ kd p0 p1 p2 p3 w10 ⟨hkd,⟨hv0,hv1,hv2,hv3⟩,hal,hH⟩
    have hB5:=hH.b 1 rfl
    have hB15:=hH.b 4 rfl
    repeat (first|(refine aD (by first|refine aE rfl hB5 rfl (Ty.aF rfl)|refine aE rfl hB15 (by rw [List.size_toArray,hLp]) (Ty.aF rfl)) rfl ?_)|refine aT ?_)
    clear hB5 hB15
    obtain ⟨hB0,hfr,hgr⟩:=hrd _ hH.ext
    refine aO ?_
    refine aA (aC ((C8 hc hr hmb ho hf hg hkd (by omega) hv0 hv1 hv2 hv3 hal hB0 hfr hgr)) rfl rfl ?_)
    rintro _ _ ⟨m,rfl,hm,hmk,hmq,hme,hE⟩
    replace hH:=hH.aH hE
    clear hE
    refine aA (aJ 2 (vs:=m.cells.toArray) (s:=391) hH rfl rfl rfl (by simpa using bL hm.len) (by rw [List.size_toArray,hL0]) (dZ hm) (Ty.aF rfl) ?_)
    clear hH
    intro _ hH
    replace hH:=aI hH
    refine aK ?_
    have hmT:mT c mb m.k m.q m.e m.L T=T:=P4 hmk
    rw [← hmT] at hH
    exact bP Tryz.func60 rfl rfl (hH.b 2 rfl) (by simpa using bL hm.len) (Ty.aF rfl) ⟨m,rfl,hm,(fun h=>by rw [← hiv] at h;cases h),(by rw [if_neg (by omega)];exact hmq),NN hmk,by rw [hmT] at hH ⊢;exact hH.take 1⟩
def RZ {α:Type} (r:α→cK) (l:List α):cK where
 fp:=l.flatMap fun x=>(r x).fp
 holds:=fun w=>∀ x∈l,(r x).holds w
 keep:=fun h hE hS e he=>(r e).keep (h e he) hE (fun s hs hb=>hS s hs (List.mem_flatMap.2 ⟨e,he,hb⟩))
 lt:=fun h s hs=>by
  obtain ⟨e,he,hse⟩:=List.mem_flatMap.1 hs
  exact (r e).lt (h e he) s hse
theorem RZ.add {α:Type} {r:α→cK} {S:List Nat} {W w:World} {H:List cK} {es:List α} {e:α} (i j:Nat) (h:Hp S W w H) (hi:H[i]?=some (RZ r es)) (hj:H[j]?=some (r e)) (hij:i<j) :
  Hp S W w (((H.set i (sep (RZ r es) (r e))).eraseIdx j).set i (RZ r (es++[e]))):=by
 have h1:=h.merge i j hi hj (by omega)
 have hil:=(List.getElem?_eq_some_iff.1 hi).1
 refine h1.as i (r:=sep (RZ r es) (r e)) ?_ (fun x hx=>?_) (fun hh=>?_)
 ·rw [List.getElem?_eraseIdx,if_pos hij,List.getElem?_set_self hil]
 ·obtain ⟨e',he',hxe⟩:=List.mem_flatMap.1 hx
  rcases List.mem_append.1 he' with he'|he'
  ·exact List.mem_append.2 (.inl (List.mem_flatMap.2 ⟨e',he',hxe⟩))
  ·simp at he';subst he'
   exact List.mem_append.2 (.inr hxe)
 ·intro e' he'
  rcases List.mem_append.1 he' with he'|he'
  ·exact hh.1 e' he'
  ·simp at he';subst he'
   exact hh.2.1
theorem iA.HU {α:Type} {r:α→cK} {w:World}:iA (RZ r []) w w:=⟨.refl,fun _ h=>by simp at h,fun _ h=>by simp [RZ] at h⟩
abbrev rG (g:GR):cK:=Rs g.a (iO g.ms)
abbrev rP (p:PR):cK:=(Rs p.a (p.gs.flatMap GR.cells)).and (RZ rG p.gs)
abbrev rS (f:FM):cK:=(Rs f.y.a (f.y.S.map B)).and ((Rs f.u.a (f.u.S.map B)).and (Rs f.v.a (f.v.S.map B)))
theorem xU {S:List Nat} {W w v:World} {H:List cK} {r s:cK} (i j:Nat) (h:Hp S W w H) (hi:H[i]?=some r) (hj:H[j]?=some s) (hne:i≠j) (hE:Ext r.fp w v):s.holds v:=s.keep (h.at j hj) hE (fun x hx hxs=>h.dj i j hi hj hne x hx hxs)
theorem HB {P:Program} {N:Nat} {f:FuncId} {R:Value→World→Prop} {k:List Item} {ρ:Fr} {w:World} {t t2:TypeId} {fn:Func} {e e2:TypeId} {c b s c2 b2 s2 q:Nat} {cs cs2:Array Value} (hf:P.funcs[f]?=some fn) (hr:fn.results=#[.cell c t,.cell c2 t2,.tmp q]) (hc:ρ c=.pointer (some ⟨b,0,none⟩)) (hB:cL w b e cs) (hl:cs.size=s) (ht:aF P t=some (true,s))
  (hc2:ρ c2=.pointer (some ⟨b2,0,none⟩)) (hB2:cL w b2 e2 cs2) (hl2:cs2.size=s2) (ht2:aF P t2=some (true,s2)) (h:R (.tuple #[.agg cs,.agg cs2,ρ q]) w):WS P N f R (.code .ret::k) ρ w :=
 fW hf fM (fun a ha=>by
  have h1:=ha.val c
  rw [hc,Array.getD_eq_getD_getElem?] at h1
  have h2:=ha.val c2
  rw [hc2,Array.getD_eq_getD_getElem?] at h2
  have h3:=ha.val q
  rw [Array.getD_eq_getD_getElem?] at h3
  simp [results,hr,h1,h2,← h3,asAddr,iG hB hl ht,iG hB2 hl2 ht2]) h
theorem LD {A:Prop} {Y:Fr→Bool→World→Prop} (Z:Bool→World→Prop) (h1:(∀ σ x w,Z x w→Y σ x w)→A) (h2:∀ σ x w,Z x w→Y σ x w):A:=h1 h2
def lq:Int→List MB→Int
 | p,[]=>p
 | _,m::l=>lq m.q l
theorem Il {p:Int} {l:List MB} {m:MB}:lq p (l++[m])=m.q:=by
 induction l generalizing p with
 | nil=>rfl
 | cons a l ih=>exact ih
theorem EB {inter:Bool} {m:MB} (hm:m.ok) (hi:inter=false→3≤m.k):∀ {p:Int} {l:List MB},BM inter p l→(if m.k=4 then jQ (lq p l) m.q else m.q=lq p l)→BM inter p (l++[m])
 | _,[],_,hq=>⟨hm,hi,hq,trivial⟩
 | _,_::_,h,hq=>⟨h.1,h.2.1,h.2.2.1,EB hm hi h.2.2.2 hq⟩
theorem FJ {inter:Bool} {hq:Int} {g:GR}:∀ {n:Nat} {l:List GR} {e:Nat},Dh inter hq n l e→g.f=e→(1≤g.ms.length∧g.ms.length≤8)→BM inter hq g.ms→Dh inter hq n (l++[g]) (e+g.ms.length)
 | _,[],_,h,hf,hl,hc=>⟨by rw [hf];exact h.symm,hl,hc,by rw [show _=_ from h];rfl⟩
 | _,_::_,_,h,hf,hl,hc=>⟨h.1,h.2.1,h.2.2.1,FJ h.2.2.2 hf hl hc⟩
theorem uL {inter:Bool} {c r f:Nat} {hq:Int} {ms:List MB} {m:MB}:∀ i,i≤ms.length→yX inter c r f hq (ms++[m]) i=yX inter c r f hq ms i
 | 0,_=>rfl
 | i+1,h=>by rw [yX,yX,List.getElem?_append_left (by omega),uL i (by omega)]
theorem Kn {inter:Bool} {c r f:Nat} {hq:Int} {ms:List MB} {m:MB}:(yX inter c r f hq (ms++[m]) (ms++[m]).length).T=mT c (f+ms.length) m.k m.q m.e m.L (yX inter c r f hq ms ms.length).T:=by
 rw [List.length_append,List.length_singleton,yX,List.getElem?_append_right (by omega),Nat.sub_self]
 show (PQ.next _ _ _ _ _ m).T=_
 rw [uL _ (by omega)]
 rfl
theorem FT {inter:Bool} {c r f:Nat} {hq:Int} {ms:List MB} {m:MB} (h:pK inter c r f hq ms) (hm:xP c (f+ms.length) m.k m.q m.e m.L (yX inter c r f hq ms ms.length).T):pK inter c r f hq (ms++[m]):=by
 intro i x hx
 by_cases hi:i<ms.length
 ·rw [List.getElem?_append_left hi] at hx
  rw [uL _ (by omega)]
  exact h i x hx
 ·have h2:=(List.getElem?_eq_some_iff.1 hx).1
  simp at h2
  obtain rfl:i=ms.length:=by omega
  rw [List.getElem?_append_right (by omega),Nat.sub_self] at hx
  obtain rfl:m=x:=Option.some.inj hx
  rw [uL _ (by omega)]
  exact hm
theorem Lq {S:List Nat} {W w:World} {H:List cK} {c r:Nat} {F g:FM} (h:Hp S W w (F.res++H)) (j:Nat) (hj:H[j]?=some (rS g)) (hg:g.ok c r) (hc:1≤c) (hr:1≤r):∀ s∈eY F.res,s ∉ dI g.y.a∧s ∉ dI g.u.a∧s ∉ dI g.v.a:=by
 have hcr:1≤c*r:=Nat.mul_le_mul hc hr
 have hn:∀ {l:List Nat} {x y:Nat},l.length=x*c*(x*r)→1≤x→l.map B≠[]:=fun {l x y} hl hx hl0=>by
  have h1:l.length=0:=by simpa using congrArg List.length hl0
  have h2:1≤x*c*(x*r):=Nat.mul_le_mul (Nat.mul_le_mul hx hc) (Nat.mul_le_mul hx hr)
  omega
 have h1:∀ x,x∈dI g.y.a∨x∈dI g.u.a∨x∈dI g.v.a→x∈(rS g).fp:=fun x hx=>by
  simp only [cK.and,Rs,if_neg (hn (y:=0) hg.y.1 (by decide)),if_neg (hn (y:=0) hg.u.1 (by decide)),if_neg (hn (y:=0) hg.v.1 (by decide)),List.mem_append]
  exact hx
 have hjl:(F.res++H)[j+3]?=some (rS g):=by rw [List.getElem?_append_right (by simp)];simpa using hj
 intro s hs
 have hd:s ∉ (rS g).fp:=by
  obtain ⟨q,hq,hsq⟩:=List.mem_flatMap.1 hs
  obtain ⟨i,hi⟩:=List.mem_iff_getElem?.1 hq
  have hil:i<3:=(List.getElem?_eq_some_iff.1 hi).1
  exact h.dj i (j+3) (by rw [List.getElem?_append_left (by exact hil)];exact hi) hjl (by omega) s hsq
 exact ⟨fun h=>hd (h1 s (.inl h)),fun h=>hd (h1 s (.inr (.inl h))),fun h=>hd (h1 s (.inr (.inr h)))⟩
theorem HM {S:List Nat} {W w:World} {H:List cK} {b n x:Nat} (i:Nat) (h:Hp S W w H) (hi:H[i]?=some (Rb b 5 (List.replicate n (Value.int .u8 x)).toArray)) (hn:n≤20000):Hp S W w (H.set i (gH (some ⟨b,0,none⟩) n (List.replicate n x))) :=
 h.as i hi (fun _ hx=>hx) (fun hB=>by
  have h1:=cL.own (sz:=1) (n:=n) hB (by simp) (by omega)
  show Own _ _ _ _ (List.replicate n x).length _ _
  rw [List.length_replicate,List.map_replicate]
  exact h1)
abbrev GV (c r y u z:Nat):FM:=⟨c,r,⟨some ⟨y,0,none⟩,16*c*(16*r),List.replicate (16*c*(16*r)) 128⟩,⟨some ⟨u,0,none⟩,8*c*(8*r),List.replicate (8*c*(8*r)) 128⟩,⟨some ⟨z,0,none⟩,8*c*(8*r),List.replicate (8*c*(8*r)) 128⟩⟩
theorem Fe {c r y u z:Nat}:(GV c r y u z).cells=LK c r y u z:=rfl
theorem G6 {c r y u z:Nat}:(GV c r y u z).ok c r:=by
 have h:∀ n,gR (List.replicate n 128):=fun n x hx=>by rw [List.eq_of_mem_replicate hx];decide
 exact ⟨rfl,rfl,⟨List.length_replicate,h _⟩,⟨List.length_replicate,h _⟩,⟨List.length_replicate,h _⟩⟩
abbrev No:List Value:=SH.zero.cells++[.int .i64 0,.int .i64 0,.int .i64 0,.bool false,.bool false,.bool false,.int .i64 0,.int .i64 0]
theorem Ln (p:PR):∀ v∈p.cells.toArray.toList,v.oneCell'=true:=by simp [Value.oneCell']
theorem Q7 {c r:Nat} (hc:1≤c∧c≤8) (hr:1≤r∧r≤8):1≤c*r∧c*r≤64:=⟨Nat.mul_le_mul hc.1 hr.1,Nat.mul_le_mul hc.2 hr.2⟩
end Go.Proofs.YtdbnmbkjmeepkaaGreatDoor
