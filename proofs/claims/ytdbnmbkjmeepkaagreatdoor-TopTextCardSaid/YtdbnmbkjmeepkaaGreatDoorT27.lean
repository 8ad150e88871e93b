/- A part of the proof of the card of TopText; no condition. -/
import Derived.Test.YtdbnmbkjmeepkaaGreatDoorT26
namespace Go.Proofs.YtdbnmbkjmeepkaaGreatDoor
open Go Go.K Go.P Go.RowKit Go.Proofs
theorem HI {l:List Int} {B:Int} {i:Nat} (h:fC B l) (hi:i<64):∃ n,(l.map (Value.int .i64))[i]?=some (.int .i64 n)∧-B≤n∧n≤B:=by
 have hlt:i<l.length:=by rw [h.1];exact hi
 refine ⟨l[i],?_,h.2 _ (List.getElem_mem hlt)⟩
 rw [List.getElem?_map,List.getElem?_eq_getElem hlt];rfl
theorem A9 {S:List Nat} {m n:Nat} {i j:Int} (h:gR S):fC 256 (oD S m n i j):=⟨BO S m n i j,fun x hx=>by have:=D7 h x hx;omega⟩
theorem Kr {S:List Nat} {m n:Nat} {i j dx dy:Int} {down:Bool} (h:gR S):fC 256 (Gb S m n i j dx dy down):=⟨AW S m n i j dx dy down,fun x hx=>by have:=Ic h x hx;omega⟩
theorem HW {w w':World} {a b:Nat} {P Q:List Int} {e:TypeId} (hP:cL w a e (P.map (Value.int .i64)).toArray) (hp:fC 256 P) (hE:Ext [b] w w') (hQ:cL w' b e (Q.map (Value.int .i64)).toArray) (hq:fC 256 Q) :
  ∃ L,fC 256 L∧cL w' a e (L.map (Value.int .i64)).toArray:=by
 by_cases h:a=b
 ·subst h;exact ⟨Q,hq,hQ⟩
 ·exact ⟨P,hp,hP.ext hE (by simpa using h)⟩
theorem JA:fC 256 (List.replicate 64 (0:Int)):=⟨by simp,fun x hx=>by have:=List.eq_of_mem_replicate hx;omega⟩
set_option maxRecDepth 20000 in
set_option maxHeartbeats 8000000 in
theorem sB {f g:FM} {c r mb k:Nat} {re im:Nat} {down:Bool} {w:World} (hc:1≤c∧c≤8) (hr:1≤r∧r≤8) (hmb:mb<c*r) (hk:k<6) (hf:f.ok c r) (hg:g.ok c r) (hfr:f.rd w) (hgr:g.rd w) :
  aX Tryz.prog 143 #[.agg f.cells.toArray,.agg g.cells.toArray,.int .i64 mb,.int .i64 k,.complex .f64 re im,.bool down] w fun v w'=>∃ n:Int,v=.int .i64 n∧(0≤n∧n≤40000)∧Ext [] w w':=by
 refine aL (args:=[_,_,_,_,_,_]) Tryz.func143 rfl rfl Tryz.ntmps143 rfl ?_
 have hH:=Hp.start w
 obtain ⟨hm64,_⟩:=eI hc.2 hr.2 hmb
 have hbx:=Nt (k:=k) hmb
 have hpo:=FM.oJ hf k
 have hqo:=FM.oJ hg k
 have hpn:=lZ hc k
 have hpm:=lZ hr k
 have hfs:=fun w=>eR (w:=w) (mb:=mb) (k:=k) hc (by omega) hk hf
 have hgs:=fun w=>eR (w:=w) (mb:=mb) (k:=k) hc (by omega) hk hg
 have hSr:=FM.yD hfr k
 have hTr:=FM.yD hgr k
 have hre:=bU re
 have him:=bU im
 clear hfr hgr
 generalize f.pl k=pl at *
 generalize g.pl k=ql at *
 generalize pN c k=pc at *
 generalize pN r k=pr at *
 generalize bX c mb k=X at *
 generalize bY c mb k=Y at *
 have hps:=fun w' (h:Ext [] w w')=>jD (w:=w') (i:=X) (j:=Y) hpn hpm (by omega) (by omega) hpo (hSr.aH h)
 have hqs:=fun w' (h:Ext [] w w')=>tL (w:=w') (i:=X) (j:=Y) (dx:=whole re) (dy:=whole im) (down:=down) hpn hpm (by omega) (by omega) (by omega) (by omega) hqo (hTr.aH h)
 have hP:=A9 (m:=pc) (n:=pr) (i:=X) (j:=Y) hpo.2
 have hQ:=Kr (m:=pc) (n:=pr) (i:=X) (j:=Y) (dx:=whole re) (dy:=whole im) (down:=down) hqo.2
 generalize oD pl.S pc pr X Y=P at *
 generalize Gb ql.S pc pr X Y (whole re) (whole im) down=Q at *
 refine aK ?_
 refine aO ?_
 refine aA (bI (cs:=f.cells.toArray) hH rfl rfl rfl ?_)
 try clear hH
 intro _ b1 hH
 replace hH:=aI hH
 refine aK ?_
 refine aO ?_
 refine aA (bI (cs:=g.cells.toArray) hH rfl rfl rfl ?_)
 try clear hH
 intro _ b2 hH
 replace hH:=aI hH
 refine aK ?_
 refine aO ?_
 refine aA (aC (dK) rfl rfl ?_)
 rintro _ _ ⟨rfl,rfl⟩
 generalize whole re=dx at *
 generalize whole im=dy at *
 have hB1:=hH.b 0 rfl
 repeat (first|refine aR ?_|(refine aD (by refine aE rfl hB1 rfl (Ty.aF rfl)) rfl ?_)|refine aT ?_)
 clear hB1
 refine aO ?_
 refine aA (aC ((hfs _)) rfl rfl ?_)
 rintro _ _ ⟨rfl,hE0⟩
 replace hH:=hH.aH hE0
 clear hE0
 replace hH:=aI hH
 refine aK ?_
 refine aO ?_
 refine aA (aQ hH (Ty.bH rfl) rfl ?_)
 try clear hH
 intro _ b15 hH
 replace hH:=aI hH
 refine aK ?_
 refine aO ?_
 refine aA (aJ 2 (vs:=(pl.cells pc pr).toArray) (s:=3) hH rfl rfl rfl (by rfl) (by rfl) (by simp [Value.oneCell']) (Ty.aF rfl) ?_)
 try clear hH
 intro _ hH
 replace hH:=aI hH
 have hB2:=hH.b 1 rfl
 repeat (first|refine aR ?_|(refine aD (by refine aE rfl hB2 rfl (Ty.aF rfl)) rfl ?_)|refine aT ?_)
 clear hB2
 refine aO ?_
 refine aA (aC ((hgs _)) rfl rfl ?_)
 rintro _ _ ⟨rfl,hE0⟩
 replace hH:=hH.aH hE0
 clear hE0
 replace hH:=aI hH
 refine aK ?_
 refine aO ?_
 refine aA (aQ hH (Ty.bH rfl) rfl ?_)
 try clear hH
 intro _ b18 hH
 replace hH:=aI hH
 refine aK ?_
 refine aO ?_
 refine aA (aJ 3 (vs:=(ql.cells pc pr).toArray) (s:=3) hH rfl rfl rfl (by rfl) (by rfl) (by simp [Value.oneCell']) (Ty.aF rfl) ?_)
 try clear hH
 intro _ hH
 replace hH:=aI hH
 refine aK ?_
 refine oG (fun u9 hu9=>?_)
 rw [← hu9] at hH
 clear hu9
 have hB15:=hH.b 2 rfl
 have hB18:=hH.b 3 rfl
 have hE9:=hH.ext
 refine IC 13 rfl (by kernel_rfl) (by kernel_rfl) [Is (.agg (pl.cells pc pr).toArray),Is (.int .i64 X),Is (.int .i64 Y),Is (.agg (P.map (Value.int .i64)).toArray),Is (.agg (ql.cells pc pr).toArray),Is (.int .i64 X),Is (.int .i64 Y),Is (.int .i64 dx),Is (.int .i64 dy),Is (.bool down),Is (.agg (Q.map (Value.int .i64)).toArray),fP u9.heap.size 92 ((List.replicate 64 (0:Int)).map (Value.int .i64)).toArray (fun b=>pt b),fP u9.heap.size 92 ((List.replicate 64 (0:Int)).map (Value.int .i64)).toArray (fun b=>pt b)] Ty.mixed [(286823001274449920,[],true),(286682263786094592,[],true),(286400788809383936,[],true),(142848550686949376,[(0,47),(1,48),(2,49)],true),(141722650780106752,[],true),(139470850966421504,[],true),(134967251339051008,[],true),(125960052084310016,[],true),(107945653574828032,[],true),(71916856555864064,[],true),(143974450593792000,[(4,51),(5,52),(6,53),(7,54),(8,55),(9,56)],true),(288089638667550720,[],true),(288089638665453568,[],true)] 288089638669647872 [(3,50),(10,57),(11,21),(12,22)] (by kernel_rfl) (by kernel_rfl) (by kernel_rfl) (by kernel_rfl) (by kernel_rfl) ⟨Is.st,Is.st,Is.st,Is.st,Is.st,Is.st,Is.st,Is.st,Is.st,Is.st,Is.st,(by exact fP.st),(by exact fP.st),trivial⟩ ⟨⟨cC.none,?_⟩,⟨cC.none,?_⟩,⟨cC.none,?_⟩,⟨cC.none,?_⟩,⟨cC.none,?_⟩,⟨cC.none,?_⟩,⟨cC.none,?_⟩,⟨cC.none,?_⟩,⟨cC.none,?_⟩,⟨cC.none,?_⟩,⟨cC.none,?_⟩,⟨cC.none,?_⟩,⟨cC.none,?_⟩,trivial⟩ ?_
 ·intro w'' hE''
  intro σ''
  exact bJ (by refine aE rfl (hB15.aH hE'') rfl (Ty.aF rfl)) rfl
 ·intro w'' hE''
  intro σ''
  exact bJ (by refine aP rfl) rfl
 ·intro w'' hE''
  intro σ''
  exact bJ (by refine aP rfl) rfl
 ·intro w'' hE''
  rintro _ rfl
  rintro _ rfl
  rintro _ rfl
  intro σ''
  refine aC (hps _ (hE9.bO hE'')) rfl rfl ?_
  rintro v w3'' ⟨rfl,hE⟩
  exact ⟨hE,_,rfl,rfl⟩
 ·intro w'' hE''
  intro σ''
  exact bJ (by refine aE rfl (hB18.aH hE'') rfl (Ty.aF rfl)) rfl
 ·intro w'' hE''
  intro σ''
  exact bJ (by refine aP rfl) rfl
 ·intro w'' hE''
  intro σ''
  exact bJ (by refine aP rfl) rfl
 ·intro w'' hE''
  intro σ''
  exact bJ (by refine aP rfl) rfl
 ·intro w'' hE''
  intro σ''
  exact bJ (by refine aP rfl) rfl
 ·intro w'' hE''
  intro σ''
  exact bJ (by refine aP rfl) rfl
 ·intro w'' hE''
  rintro _ rfl
  rintro _ rfl
  rintro _ rfl
  rintro _ rfl
  rintro _ rfl
  rintro _ rfl
  intro σ''
  refine aC (hqs _ (hE9.bO hE'')) rfl rfl ?_
  rintro v w3'' ⟨rfl,hE⟩
  exact ⟨hE,_,rfl,rfl⟩
 ·intro w'' hE''
  intro σ''
  refine dS (zs:=(List.replicate 64 (0:Int)).map (Value.int .i64)) (Ty.bH rfl) rfl ?_
  intro w3'' b'' hb'' hE3'' hB'' hs''
  exact xO
 ·intro w'' hE''
  intro σ''
  refine dS (zs:=(List.replicate 64 (0:Int)).map (Value.int .i64)) (Ty.bH rfl) rfl ?_
  intro w3'' b'' hb'' hE3'' hB'' hs''
  exact xO
 intro w'' hE''
 rintro _ rfl
 rintro _ rfl
 rintro _ h11
 rintro _ h12
 intro σ''
 obtain ⟨b21,rfl,hB21,hb21⟩:=h11
 obtain ⟨b22,rfl,hB22,hb22⟩:=h12
 have hPl:=hP.1
 have hQl:=hQ.1
 refine aA (dH (s:=64) (vs:=(P.map (Value.int .i64)).toArray) rfl rfl hB21 (by simp [hPl]) (by simp) bB (Ty.aF rfl) (fun w7 hE7 hB7 _=>?_))
 obtain ⟨L,hL,hB22'⟩:=HW hB22 JA hE7 hB7 hP
 have hx7:=hE''.kS hE7 (by omega)
 clear hE'' hE7 hB22 hB21
 refine aA (dH (s:=64) (vs:=(Q.map (Value.int .i64)).toArray) rfl rfl hB22' (by simp [hQl]) (by simp [hL.1]) bB (Ty.aF rfl) (fun w8 hE8 hB8 _=>?_))
 obtain ⟨P',hP',hB9⟩:=HW hB7 hP hE8 hB8 hQ
 have hx8:=hx7.kS hE8 (by omega)
 replace hH:=hH.aH hx8
 clear hx7 hx8 hE8 hB7 hB22' hB15 hB18
 have hPl':=hP'.1
 repeat (first|refine aR ?_|(refine aD (by refine aE rfl hB9 (by simp [hPl']) (Ty.aF rfl)) rfl ?_)|refine aT ?_)
 have hS8:cI w8 (some ⟨b22,0,none⟩) (Q.map (Value.int .i64)):=hB8.cX
 refine aV (G:=(Nat) × (Int)) (fun|(i,s)=>64-i) 151115150991076402135040 (fun|(i,s)=>[(23,.int .i64 s),(59,.int .i64 i)]) (fun|(i,s),w'=>i≤64∧(0≤s∧s≤512*i)∧Ext [] w8 w') (0,0) ⟨rfl,rfl,trivial⟩ ⟨by omega,by omega,.refl⟩ ?_
 rintro ⟨i,s⟩ w' σ ⟨hi,hs,hE⟩ IH
 show WS _ _ _ _ _ (bQ [(23,.int .i64 s),(59,.int .i64 i)] _) _
 by_cases hil:i<64
 ·obtain ⟨a,ha,hab⟩:=HI hP' hil
  obtain ⟨b,hb,hbb⟩:=HI hQ hil
  have hx1:((P'.map (Value.int .i64)).toArray)[(i:Int).toNat]?=some (.int .i64 a):=by rw [Int.toNat_natCast,List.getElem?_toArray];exact ha
  have hb2:(Q.map (Value.int .i64))[(i:Int).toNat]?=some (.int .i64 b):=by rw [Int.toNat_natCast];exact hb
  replace hS8:=hS8.aH hE
  repeat (first|refine aR ?_|(refine aD (by refine cB rfl rfl (Ty.arr rfl) (by omega) hx1) rfl ?_)|refine aT ?_)
  refine cD Ty.mixed 14 rfl (fun w1 hx1=>?_)
  refine bE 0 hx1 ?_
  refine bE 1 hx1 ?_
  refine bE 2 hx1 ?_
  refine aY 3 hx1 rfl (fun w' hw'=>by refine bD rfl rfl (Ty.arr rfl) (by omega)) ?_
  refine aY 4 hx1 rfl (fun w' hw'=>by refine aU rfl (hS8.aH hw') hb2 (Ty.aF rfl)) ?_
  refine bE 5 hx1 ?_
  refine bE 6 hx1 ?_
  refine aY 7 hx1 rfl (fun w' hw'=>by refine bD rfl rfl (Ty.arr rfl) (by omega)) ?_
  refine aY 8 hx1 rfl (fun w' hw'=>by refine aU rfl (hS8.aH hw') hb2 (Ty.aF rfl)) ?_
  refine bE 9 hx1 ?_
  refine bE 10 hx1 ?_
  refine bE 11 hx1 ?_
  refine bE 12 hx1 ?_
  refine bE 13 hx1 ?_
  refine aW (by kernel_rfl) ?_
  refine aK ?_
  refine IH (i+1,s+max (a-b) (b-a)) _ _ ?_ ?_ ?_ ?_
  ·simp only;omega
  ·exact ⟨rfl,rfl,trivial⟩
  ·exact cP
  ·exact ⟨by omega,by omega,hE.bO hx1⟩
 ·obtain rfl:i=64:=by omega
  refine aK ?_
  exact aM Tryz.func143 rfl ⟨_,rfl,by omega,hH.ext.bO hE⟩
set_option maxHeartbeats 4000000 in
theorem Bg {f g:FM} {c r mb:Nat} {re im:Nat} {down:Bool} {w:World} (hc:1≤c∧c≤8) (hr:1≤r∧r≤8) (hmb:mb<c*r) (hf:f.ok c r) (hg:g.ok c r) (hfr:f.rd w) (hgr:g.rd w) :
  aX Tryz.prog 141 #[.agg f.cells.toArray,.agg g.cells.toArray,.int .i64 mb,.complex .f64 re im,.bool down] w fun v w'=>∃ n:Int,v=.int .i64 n∧(0≤n∧n≤160000)∧Ext [] w w':=by
 refine aL (args:=[_,_,_,_,_]) Tryz.func141 rfl rfl Tryz.ntmps141 rfl ?_
 have hH:=Hp.start w
 refine aK ?_
 refine aO ?_
 refine aA (bI (cs:=f.cells.toArray) hH rfl rfl rfl ?_)
 try clear hH
 intro _ b1 hH
 replace hH:=aI hH
 refine aK ?_
 refine aO ?_
 refine aA (bI (cs:=g.cells.toArray) hH rfl rfl rfl ?_)
 try clear hH
 intro _ b2 hH
 replace hH:=aI hH
 refine aK ?_
 refine aV (G:=(Nat) × (Int)) (fun|(k,s)=>4-k) 67106816 (fun|(k,s)=>[(11,.int .i64 s),(13,.int .i64 k)]) (fun|(k,s),w'=>k≤4∧(0≤s∧s≤40000*k)∧Hp [] w w' [Rb b1 54 f.cells.toArray,Rb b2 54 g.cells.toArray]) (0,0) ⟨rfl,rfl,trivial⟩ ⟨by omega,by omega,hH⟩ ?_
 rintro ⟨k,s⟩ w' σ ⟨hk,hs,hH⟩ IH
 show WS _ _ _ _ _ (bQ [(11,.int .i64 s),(13,.int .i64 k)] _) _
 by_cases hlt:k<4
 ·have hB1:=hH.b 0 rfl
  have hB2:=hH.b 1 rfl
  repeat (first|refine aR ?_|(refine aD (by first|refine aE rfl hB1 rfl (Ty.aF rfl)|refine aE rfl hB2 rfl (Ty.aF rfl)) rfl ?_)|refine aT ?_)
  clear hB1 hB2
  refine aO ?_
  refine aA (aC ((sB (k:=k) hc hr hmb (by omega) hf hg (hfr.ext hH.ext) (hgr.ext hH.ext))) rfl rfl ?_)
  rintro _ _ ⟨n,rfl,hn,hE⟩
  replace hH:=hH.aH hE
  clear hE
  refine aK ?_
  refine IH (k+1,s+n) _ _ ?_ ?_ ?_ ?_
  ·simp only;omega
  ·exact ⟨rfl,rfl,trivial⟩
  ·exact cP
  ·exact ⟨by omega,by omega,hH⟩
 ·obtain rfl:k=4:=by omega
  refine aK ?_
  exact aM Tryz.func141 rfl ⟨_,rfl,by omega,hH.ext⟩
set_option maxRecDepth 20000 in
set_option maxHeartbeats 4000000 in
theorem zE {f:FM} {c r mb:Nat} {w:World} (hc:1≤c∧c≤8) (hr:1≤r∧r≤8) (hmb:mb<c*r) (hf:f.ok c r) (hfr:f.rd w) :
  aX Tryz.prog 98 #[.agg f.cells.toArray,.int .i64 mb] w fun v w'=>∃ n:Int,v=.int .i64 n∧(0≤n∧n≤400000)∧Ext [] w w':=by
 refine aL (args:=[_,_]) Tryz.func98 rfl rfl Tryz.ntmps98 rfl ?_
 have hH:=Hp.start w
 obtain ⟨hm64,_⟩:=eI hc.2 hr.2 hmb
 refine aK ?_
 refine aO ?_
 refine aA (bI (cs:=f.cells.toArray) hH rfl rfl rfl ?_)
 try clear hH
 intro _ b1 hH
 replace hH:=aI hH
 refine aK ?_
 refine aV (G:=(Nat) × (Int)) (fun|(k,s)=>4-k) 72057594037907424 (fun|(k,s)=>[(5,.int .i64 s),(16,.int .i64 k)]) (fun|(k,s),w'=>k≤4∧(0≤s∧s≤64000*k)∧Hp [] w w' [Rb b1 54 f.cells.toArray]) (0,0) ⟨rfl,rfl,trivial⟩ ⟨by omega,by omega,hH⟩ ?_
 rintro ⟨k,s⟩ w' σ ⟨hk,hs,hH⟩ IH
 show WS _ _ _ _ _ (bQ [(5,.int .i64 s),(16,.int .i64 k)] _) _
 by_cases hlt:k<4
 ·have hbx:=Nt (k:=k) hmb
  have hpo:=FM.oJ hf k
  have hpn:=lZ hc k
  have hpm:=lZ hr k
  have hfs:=fun w=>eR (w:=w) (mb:=mb) (k:=k) hc (by omega) (by omega) hf
  have hSr:=FM.yD hfr k
  generalize f.pl k=pl at *
  generalize pN c k=pc at *
  generalize pN r k=pr at *
  generalize bX c mb k=X at *
  generalize bY c mb k=Y at *
  have hps:=fun w' (h:Ext [] w w')=>jD (w:=w') (i:=X) (j:=Y) hpn hpm (by omega) (by omega) hpo (hSr.aH h)
  have hP:=A9 (m:=pc) (n:=pr) (i:=X) (j:=Y) hpo.2
  have hP0:=D7 (m:=pc) (n:=pr) (i:=X) (j:=Y) hpo.2
  generalize oD pl.S pc pr X Y=P at *
  have hPl:=hP.1
  have hP0:∀ i<64,∃ n,(P.map (Value.int .i64))[i]?=some (.int .i64 n)∧0≤n∧n≤255:=fun i hi=>by
   have hlt:i<P.length:=by rw [hPl];exact hi
   refine ⟨P[i],?_,hP0 _ (List.getElem_mem hlt)⟩
   rw [List.getElem?_map,List.getElem?_eq_getElem hlt];rfl
  have hB1:=hH.b 0 rfl
  repeat (first|refine aR ?_|(refine aD (by refine aE rfl hB1 rfl (Ty.aF rfl)) rfl ?_)|refine aT ?_)
  clear hB1
  refine aO ?_
  refine aA (aC ((hfs _)) rfl rfl ?_)
  rintro _ _ ⟨rfl,hE0⟩
  replace hH:=hH.aH hE0
  clear hE0
  replace hH:=aI hH
  refine aK ?_
  refine aO ?_
  refine aA (aQ hH (Ty.bH rfl) rfl ?_)
  try clear hH
  intro _ b7 hH
  replace hH:=aI hH
  refine aK ?_
  refine aO ?_
  refine aA (aJ 1 (vs:=(pl.cells pc pr).toArray) (s:=3) hH rfl rfl rfl (by rfl) (by rfl) (by simp [Value.oneCell']) (Ty.aF rfl) ?_)
  try clear hH
  intro _ hH
  replace hH:=aI hH
  have hB7:=hH.b 1 rfl
  repeat (first|refine aR ?_|(refine aD (by refine aE rfl hB7 rfl (Ty.aF rfl)) rfl ?_)|refine aT ?_)
  clear hB7
  refine aO ?_
  refine aA (aC ((hps _ hH.ext)) rfl rfl ?_)
  rintro _ _ ⟨rfl,hE0⟩
  replace hH:=hH.aH hE0
  clear hE0
  replace hH:=aI hH
  refine aK ?_
  refine aO ?_
  refine aA (aQ hH (Ty.bH rfl) rfl ?_)
  try clear hH
  intro _ b10 hH
  replace hH:=aI hH
  refine aK ?_
  have hl1:=hPl
  refine aO ?_
  refine aA (aJ 2 (vs:=(P.map (Value.int .i64)).toArray) (s:=64) hH rfl rfl rfl (by simp [hl1]) (by rfl) (by exact bB) (Ty.aF rfl) ?_)
  try clear hH
  intro _ hH
  replace hH:=aI hH
  have hB10:=hH.b 2 rfl
  repeat (first|refine aR ?_|(refine aD (by refine aE rfl hB10 (by simp [hPl]) (Ty.aF rfl)) rfl ?_)|refine aT ?_)
  clear hB10
  refine aV (G:=(Nat) × (Int)) (fun|(i,m)=>64-i) 545460856832 (fun|(i,m)=>[(11,.int .i64 m),(32,.int .i64 i)]) (fun|(i,m),w'=>i≤64∧(0≤m∧m≤256*i)∧Hp [] w w' [Rb b1 54 f.cells.toArray,Rb b7 52 (pl.cells pc pr).toArray,Rb b10 92 (P.map (Value.int .i64)).toArray]) (0,0) ⟨rfl,rfl,trivial⟩ ⟨by omega,by omega,hH⟩ ?_
  rintro ⟨i,m⟩ w' σ ⟨hi,hm,hH⟩ IH2
  show WS _ _ _ _ _ (bQ [(11,.int .i64 m),(32,.int .i64 i)] _) _
  by_cases hil:i<64
  ·obtain ⟨a,ha,hab⟩:=hP0 i hil
   have hx1:((P.map (Value.int .i64)).toArray)[(i:Int).toNat]?=some (.int .i64 a):=by rw [Int.toNat_natCast,List.getElem?_toArray];exact ha
   repeat (first|refine aR ?_|(refine aD (by refine cB rfl rfl (Ty.arr rfl) (by omega) hx1) rfl ?_)|refine aT ?_)
   refine IH2 (i+1,m+a) _ _ ?_ ?_ ?_ ?_
   ·simp only;omega
   ·exact ⟨rfl,rfl,trivial⟩
   ·exact cP
   ·exact ⟨by omega,by omega,hH⟩
  ·obtain rfl:i=64:=by omega
   clear IH2
   have hB10:=hH.b 2 rfl
   repeat (first|refine aR ?_|(refine aD (by refine aE rfl hB10 (by simp [hPl]) (Ty.aF rfl)) rfl ?_)|refine aT ?_)
   clear hB10
   obtain ⟨d,hd⟩:∃ d,m / 64=d:=⟨_,rfl⟩
   have hd2:0≤d∧d≤256:=by omega
   refine aV (G:=(Nat) × (Int)) (fun|(i,t)=>64-i) 36024398972485664 (fun|(i,t)=>[(5,.int .i64 t),(42,.int .i64 i)]) (fun|(i,t),w'=>i≤64∧(0≤t∧t≤64000*k+600*i)∧Hp [] w w' [Rb b1 54 f.cells.toArray,Rb b7 52 (pl.cells pc pr).toArray,Rb b10 92 (P.map (Value.int .i64)).toArray]) (0,s) ⟨rfl,rfl,trivial⟩ ⟨by omega,by omega,hH⟩ ?_
   rintro ⟨i,t⟩ w' σ ⟨hi,ht,hH⟩ IH3
   show WS _ _ _ _ _ (bQ [(5,.int .i64 t),(42,.int .i64 i)] _) _
   by_cases hil:i<64
   ·obtain ⟨a,ha,hab⟩:=hP0 i hil
    have hx1:((P.map (Value.int .i64)).toArray)[(i:Int).toNat]?=some (.int .i64 a):=by rw [Int.toNat_natCast,List.getElem?_toArray];exact ha
    repeat (first|refine aR ?_|(refine aD (by refine cB rfl rfl (Ty.arr rfl) (by omega) hx1) rfl ?_)|refine aT ?_)
    refine IH3 (i+1,t+max (a-m / 64) (m / 64-a)) _ _ ?_ ?_ ?_ ?_
    ·simp only;omega
    ·exact ⟨rfl,rfl,trivial⟩
    ·exact cP
    ·exact ⟨by omega,by omega,hH⟩
   ·obtain rfl:i=64:=by omega
    clear IH3
    refine aK ?_
    replace hH:=hH.take 1
    replace hH:=aI hH
    refine IH (k+1,t) _ _ ?_ ?_ ?_ ?_
    ·simp only;omega
    ·exact ⟨rfl,rfl,trivial⟩
    ·exact cP
    ·exact ⟨by omega,by omega,hH⟩
 ·obtain rfl:k=4:=by omega
  refine aK ?_
  exact aM Tryz.func98 rfl ⟨_,rfl,by omega,hH.ext⟩
def nZ (p:Int × Int):Prop:=(-31≤p.1∧p.1≤31)∧(-31≤p.2∧p.2≤31)
abbrev cO (p:Int × Int):Value:=CV p.1 p.2
theorem Jq {x y:Int} (hx:-64≤x∧x≤64) (hy:-64≤y∧y≤64) (h:Kz (FN x) (FN y)=true):nZ (x,y):=by
 unfold Kz at h
 rw [eW x (by omega),eW y (by omega)] at h
 simp only [Bool.and_eq_true,decide_eq_true_eq] at h
 unfold nZ
 simp only
 omega
set_option maxHeartbeats 4000000 in
theorem mM {S:List Value} {p:Int × Int} {by':Int} {far:Nat} {w:World} (hp:nZ p) (hS:S.toArray.size=2) (hS1:∀ u∈S,u.oneCell'=true) (hby:1≤by'∧by'≤2) (hfar:far≤30) :
  aX Tryz.prog 142 #[.agg S.toArray,cO p,.int .i64 by',.int .i64 far] w fun v w'=>∃ a cap,∃ vs:List (Int × Int),v=.slice a vs.length cap∧(∀ p∈vs,nZ p)∧vs.length≤100000∧iA (Ro 89 1 a vs.length cap (vs.map cO)) w w':=by
 refine aL (args:=[_,_,_,_]) Tryz.func142 rfl rfl Tryz.ntmps142 rfl ?_
 have hH:=Hp.start w
 obtain ⟨x,y⟩:=p
 obtain ⟨hx,hy⟩:=hp
 simp only at hx hy
 refine aK ?_
 refine aO ?_
 refine aA (bI (cs:=S.toArray) hH rfl rfl rfl ?_)
 try clear hH
 intro _ b1 hH
 replace hH:=aI hH
 refine aK ?_
 refine aO ?_
 refine aA (aC (dK) rfl rfl ?_)
 rintro _ _ ⟨rfl,rfl⟩
 rw [eW x (by omega),eW y (by omega)]
 replace hH:=hH.del 0
 replace hH:=aI hH
 replace hH:=hH.nu (r:=Ro 89 1 none 0 0 []) .tY
 replace hH:=aI hH
 repeat (first|refine aR ?_|(refine aD (by refine kH rfl (by omega)) rfl ?_)|refine aT ?_)
 refine aV (G:=(Int) × (Nat) × (Option Addr) × (Nat) × (List (Int × Int))) (fun|(dy,n,a,cap,vs)=>(far-dy+1).toNat) 562949949256192 (fun|(dy,n,a,cap,vs)=>[(9,.slice a vs.length cap),(12,.int .i64 dy)]) (fun|(dy,n,a,cap,vs),w'=>(-30≤dy∧dy≤32∧n=dy+far)∧vs.length≤64*n∧(∀ p∈vs,nZ p)∧Hp [] w w' [Ro 89 1 a vs.length cap (vs.map cO)]) (-far,0,none,0,[]) ⟨rfl,rfl,trivial⟩ ⟨by omega,by simp,by simp,hH⟩ ?_
 rintro ⟨dy,n,a,cap,vs⟩ w' σ ⟨hdy,hlen,hvs,hH⟩ IH
 show WS _ _ _ _ _ (bQ [(9,.slice a vs.length cap),(12,.int .i64 dy)] _) _
 by_cases hlt:dy≤far
 ·repeat (first|refine aR ?_|(refine aD (by refine kH rfl (by omega)) rfl ?_)|refine aT ?_)
  refine aV (G:=(Int) × (Nat) × (Option Addr) × (Nat) × (List (Int × Int))) (fun|(dx,m,a,cap,vs)=>(far-dx+1).toNat) 562948879704576 (fun|(dx,m,a,cap,vs)=>[(9,.slice a vs.length cap),(13,.int .i64 dx)]) (fun|(dx,m,a,cap,vs),w'=>(-30≤dx∧dx≤32∧m=dx+far)∧vs.length≤64*n+m∧(∀ p∈vs,nZ p)∧Hp [] w w' [Ro 89 1 a vs.length cap (vs.map cO)]) (-far,0,a,cap,vs) ⟨rfl,rfl,trivial⟩ ⟨by omega,by omega,hvs,hH⟩ ?_
  rintro ⟨dx,m,a,cap,vs⟩ w' σ ⟨hdx,hlen,hvs,hH⟩ IH2
  show WS _ _ _ _ _ (bQ [(9,.slice a vs.length cap),(13,.int .i64 dx)] _) _
  by_cases hlt2:dx≤far
  ·refine aK ?_
   refine aO ?_
   refine aA (aC (nG) rfl rfl ?_)
   rintro _ _ ⟨rfl,rfl⟩
   refine aK ?_
   refine aO ?_
   refine aA (aC (pH) rfl rfl ?_)
   rintro _ _ ⟨rfl,rfl⟩
   obtain ⟨q,hq⟩:∃ q,Kz (FN (x+dx)) (FN (y+dy))=q:=⟨_,rfl⟩
   rw [hq]
   obtain ⟨e2,he2⟩:∃ e:Nat,(e:Int)=dx+by'+far:=⟨(dx+by'+far).toNat,by omega⟩
   cases q with
   | false =>
    refine aK ?_
    refine IH2 (dx+by',e2,a,cap,vs) _ _ ?_ ?_ ?_ ?_
    ·simp only;omega
    ·exact ⟨rfl,rfl,trivial⟩
    ·exact cP
    ·exact ⟨by omega,by omega,hvs,hH⟩
   | true =>
    have hr:=Jq (by omega) (by omega) hq
    refine aK ?_
    refine aK ?_
    refine aO ?_
    refine aA (cN (out:=[CV (x+dx) (y+dy)]) hH (Ty.sle rfl) (Ty.bH rfl) rfl rfl rfl (by decide) rfl ?_)
    try clear hH
    intro _ blit hH
    replace hH:=aI hH
    refine aO ?_
    refine aA (bZ 0 hH rfl (Ty.sle rfl) (Ty.bH rfl) rfl (Ty.gS rfl) (by decide) rfl rfl ((hH.b 1 rfl).cX) (by simp;try omega) (by simp) (by omega) (by simp only [maxLen];omega) rfl ?_)
    try clear hH
    intro _ a9 c9 hH
    replace hH:=aI hH
    replace hH:=hH.del 1
    replace hH:=aI hH
    refine aK ?_
    have hvl:vs.length+1=(vs++[(x+dx,y+dy)]).length:=by simp
    have hvm:vs.map cO++[CV (x+dx) (y+dy)]=(vs++[(x+dx,y+dy)]).map cO:=by simp
    rw [hvl,hvm] at hH
    refine aK ?_
    refine IH2 (dx+by',e2,a9,c9,vs++[(x+dx,y+dy)]) _ _ ?_ ?_ ?_ ?_
    ·simp only;omega
    ·exact ⟨(by rw [← hvl];rfl),rfl,trivial⟩
    ·exact cP
    ·exact ⟨by omega,by rw [← hvl];omega,fun p hp=>by rcases List.mem_append.1 hp with h|h;exact hvs p h;rw [List.mem_singleton.1 h];exact hr,hH⟩
  ·clear IH2
   obtain ⟨e2,he2⟩:∃ e:Nat,(e:Int)=dy+by'+far:=⟨(dy+by'+far).toNat,by omega⟩
   refine aK ?_
   refine IH (dy+by',e2,a,cap,vs) _ _ ?_ ?_ ?_ ?_
   ·simp only;omega
   ·exact ⟨rfl,rfl,trivial⟩
   ·exact cP
   ·exact ⟨by omega,by omega,hvs,hH⟩
 ·refine aK ?_
  exact aM Tryz.func142 rfl ⟨a,cap,vs,rfl,hvs,by omega,hH.oA 0 rfl⟩
abbrev Pc:List Value:=[.int .i64 0,.int .i64 0,.slice none 0 0]
abbrev QM (c:Nat):List Value:=[.int .i64 (c:Nat),.int .i64 0]++(Pc++(Pc++Pc))
theorem OO {A:Prop} {Y:Fr→Nat→Nat→Nat→Prop} (Z:Nat→Nat→Nat→Prop) (h1:(∀ σ a b s,Z a b s→Y σ a b s)→A) (h2:∀ σ a b s,Z a b s→Y σ a b s):A:=h1 h2
theorem M8 {p d e:Int} (he:0≤e∧e≤10000):0≤N0 p d e∧N0 p d e≤10000:=by unfold N0;omega
set_option maxRecDepth 20000 in
set_option maxHeartbeats 4000000 in
theorem C9 {c mb:Nat} {u:V4} {w:World} (hc:1≤c∧c≤8) (hmb:mb≤1000) :
  aX Tryz.prog 185 #[.int .i64 c,.int .i64 mb,.agg u.cells.toArray] w fun v w'=>∃ n:Int,v=.int .i64 n∧Ext [] w w':=by
 refine aL (args:=[_,_,_]) Tryz.func185 rfl rfl Tryz.ntmps185 rfl ?_
 have hH:=Hp.start w
 have e1:max (c:Int) 1=c:=by omega
 refine aK ?_
 refine aO ?_
 refine aA (bI (cs:=u.cells.toArray) hH rfl rfl rfl ?_)
 try clear hH
 intro _ b5 hH
 replace hH:=aI hH
 repeat (first|refine aR ?_|(refine aD (by first|refine (gJ rfl rfl).is (congrArg (Value.int .i64) e1)|refine bR (cs:=QM c) (Ty.bH rfl) (Ty.iJ rfl) rfl) rfl ?_)|refine aT ?_)
 refine aO ?_
 refine aA (aQ hH (Ty.bH rfl) rfl ?_)
 try clear hH
 intro _ b8 hH
 replace hH:=aI hH
 refine aK ?_
 refine aO ?_
 refine aA (aJ 1 (vs:=(QM c).toArray) (s:=11) hH rfl rfl rfl (by rfl) (by rfl) (by simp [Value.oneCell']) (Ty.aF rfl) ?_)
 try clear hH
 intro _ hH
 replace hH:=aI hH
 refine aK ?_
 refine aV (G:=(Nat) × (Int)) (fun|(k,n)=>5-k) 18446744073705881216 (fun|(k,n)=>[(7,.int .i64 n),(22,.int .i64 k)]) (fun|(k,n),w'=>k≤5∧(0≤n∧n≤30000)∧Hp [] w w' [Rb b5 91 u.cells.toArray,Rb b8 54 (QM c).toArray]) (0,0) ⟨rfl,rfl,trivial⟩ ⟨by omega,by omega,hH⟩ ?_
 rintro ⟨k,n⟩ w' σ ⟨hk,hn,hH⟩ IH
 show WS _ _ _ _ _ (bQ [(7,.int .i64 n),(22,.int .i64 k)] _) _
 by_cases hlt:k<5
 ·have hB5:=hH.b 0 rfl
  repeat (first|refine aR ?_|(refine aD (by refine aE rfl hB5 rfl (Ty.aF rfl)) rfl ?_)|refine aT ?_)
  clear hB5
  refine aO ?_
  refine aA (aC (tS) rfl rfl ?_)
  rintro _ _ ⟨rfl,hE0⟩
  replace hH:=hH.aH hE0
  clear hE0
  replace hH:=aI hH
  apply OO (Z:=fun re im s=>s=8∨s=16)
  ·intro key
   by_cases h4:k<4
   ·have hu:=u.cat h4
    have hS5:cI _ (some ⟨b5,0,none⟩) u.cells:=(hH.b 0 rfl).cX
    generalize u.at k=pp at *
    obtain ⟨re,im⟩:=pp
    obtain ⟨s9,hs9⟩:∃ s:Nat,16=s:=⟨_,rfl⟩
    repeat (first|refine aR ?_|(refine aD (by first|refine bD rfl rfl (Ty.arr rfl) (by omega)|refine aU rfl hS5 hu (Ty.aF rfl)) rfl ?_)|refine aT ?_)
    apply eL 18446744073705881216 [(7,.int .i64 n),(9,.int .i64 k),(33,.complex .f64 re im),(11,.int .i64 s9),(22,.int .i64 k)]
    ·exact ⟨rfl,rfl,rfl,(by rw [← hs9];rfl),rfl,trivial⟩
    ·exact LO
    intro σ
    exact key σ re im s9 (.inr hs9.symm)
   ·obtain ⟨re,hre⟩:∃ re,FN u.cx=re:=⟨_,rfl⟩
    obtain ⟨im,him⟩:∃ im,FN u.cy=im:=⟨_,rfl⟩
    obtain ⟨s9,hs9⟩:∃ s:Nat,8=s:=⟨_,rfl⟩
    refine aK ?_
    apply eL 18446744073705881216 [(7,.int .i64 n),(9,.int .i64 k),(33,.complex .f64 re im),(11,.int .i64 s9),(22,.int .i64 k)]
    ·exact ⟨rfl,rfl,(by rw [← hre,← him];rfl),(by rw [← hs9];rfl),rfl,trivial⟩
    ·exact LO
    intro σ
    exact key σ re im s9 (.inl hs9.symm)
  rintro σ re im s hs
  refine aK ?_
  refine aO ?_
  refine aA (aC (dK) rfl rfl ?_)
  rintro _ _ ⟨rfl,rfl⟩
  have hd:=bU re
  generalize whole re=dx at *
  have hB8:=hH.b 1 rfl
  repeat (first|refine aR ?_|(refine aD (by refine aE rfl hB8 rfl (Ty.aF rfl)) rfl ?_)|refine aT ?_)
  clear hB8
  refine aO ?_
  refine aA (aC ((sS (c:=c) (mb:=mb) (k:=k) (by omega) hmb (by omega) (by simp [Value.oneCell']))) rfl rfl ?_)
  rintro _ _ ⟨rfl,hE0⟩
  replace hH:=hH.aH hE0
  clear hE0
  replace hH:=aI hH
  rw [ite_self,ite_self]
  have hX:bX c mb k≤1000:=by
   have:mb % c<c:=Nat.mod_lt _ (by omega)
   unfold bX;split<;>omega
  generalize bX c mb k=X at *
  refine aK ?_
  refine aO ?_
  refine aA (aQ hH (Ty.bH rfl) rfl ?_)
  try clear hH
  intro _ b14 hH
  replace hH:=aI hH
  refine aK ?_
  refine aO ?_
  refine aA (aJ 2 (vs:=Pc.toArray) (s:=3) hH rfl rfl rfl (by rfl) (by rfl) (by decide) (Ty.aF rfl) ?_)
  try clear hH
  intro _ hH
  replace hH:=aI hH
  have hB8:=hH.b 1 rfl
  have hsc:(s:Int)*c=((s*c:Nat):Int):=by simp
  have hsc2:s*c≤16*8:=Nat.mul_le_mul (by omega) hc.2
  repeat (first|refine aR ?_|(refine aD (by first|refine aN rfl (Ty.bA rfl rfl)|refine aB rfl hB8 rfl (Ty.aF rfl)|refine (bN (m:=s) (n:=c) rfl rfl (by omega)).is (congrArg (Value.int .i64) hsc)) rfl ?_)|refine aT ?_)
  clear hB8
  refine aO ?_
  refine aA (aC ((FZ (p:=X) (d:=dx) (e:=(s*c:Nat)) (by omega) (by omega) (by omega))) rfl rfl ?_)
  rintro _ _ ⟨rfl,rfl⟩
  have hsp:=M8 (p:=X) (d:=dx) (e:=(s*c:Nat)) (by omega)
  generalize N0 X dx (s * c:Nat)=t at *
  replace hH:=hH.take 2
  replace hH:=aI hH
  by_cases h4:k=4
  ·repeat (first|refine aR ?_|(refine aD (by refine bN (m:=2) rfl rfl (by omega)) rfl ?_)|refine aT ?_)
   refine IH (k+1,max n (2*t+1)) _ _ ?_ ?_ ?_ ?_
   ·simp only;omega
   ·exact ⟨rfl,rfl,trivial⟩
   ·exact cP
   ·exact ⟨by omega,by omega,hH⟩
  ·refine aK ?_
   refine IH (k+1,max n t) _ _ ?_ ?_ ?_ ?_
   ·simp only;omega
   ·exact ⟨rfl,rfl,trivial⟩
   ·exact cP
   ·exact ⟨by omega,by omega,hH⟩
 ·obtain rfl:k=5:=by omega
  refine aK ?_
  exact aM Tryz.func185 rfl ⟨_,rfl,hH.ext⟩
set_option maxHeartbeats 4000000 in
theorem rE {far lim:Int} {c mb:Nat} {u:V4} {w:World} (hc:1≤c∧c≤8) (hmb:mb≤1000) :
  aX Tryz.prog 140 #[.agg #[.int .i64 far,.int .i64 lim],.int .i64 c,.int .i64 mb,.agg u.cells.toArray] w fun v w'=>∃ b,v=.bool b∧Ext [] w w':=by
 refine aL (args:=[_,_,_,_]) Tryz.func140 rfl rfl Tryz.ntmps140 rfl ?_
 have hH:=Hp.start w
 refine aK ?_
 refine aO ?_
 refine aA (bI (cs:=#[.int .i64 far,.int .i64 lim]) hH rfl rfl rfl ?_)
 try clear hH
 intro _ b4 hH
 replace hH:=aI hH
 refine aK ?_
 refine aO ?_
 refine aA (bI (cs:=u.cells.toArray) hH rfl rfl rfl ?_)
 try clear hH
 intro _ b7 hH
 replace hH:=aI hH
 have hB4:=hH.b 0 rfl
 have hB7:=hH.b 1 rfl
 by_cases h0:lim≤0
 ·refine aK ?_
  refine cD Ty.mixed 13 rfl (fun w1 hx1=>?_)
  refine F6 ?_
  refine aY 1 hx1 rfl (fun w' hw'=>by refine aB rfl (hB4.aH hw') rfl (Ty.aF rfl)) ?_
  refine bE 2 hx1 ?_
  refine bE 3 hx1 ?_
  refine jK (b:=true) 4 rfl (by kernel_rfl) hx1 rfl rfl rfl (dT (by omega)) rfl rfl ?_
  refine jK (b:=true) 5 rfl (by kernel_rfl) hx1 rfl rfl rfl (dT (by omega)) rfl rfl ?_
  refine jK (b:=true) 6 rfl (by kernel_rfl) hx1 rfl rfl rfl (dT (by omega)) rfl rfl ?_
  refine jK (b:=true) 7 rfl (by kernel_rfl) hx1 rfl rfl rfl (dT (by omega)) rfl rfl ?_
  refine jK (b:=true) 8 rfl (by kernel_rfl) hx1 rfl rfl rfl (dT (by omega)) rfl rfl ?_
  refine jK (b:=true) 9 rfl (by kernel_rfl) hx1 rfl rfl rfl (dT (by omega)) rfl rfl ?_
  refine jK (b:=true) 10 rfl (by kernel_rfl) hx1 rfl rfl rfl (dT (by omega)) rfl rfl ?_
  refine bE 11 hx1 ?_
  refine bE 12 hx1 ?_
  refine aW (by kernel_rfl) ?_
  exact aM Tryz.func140 rfl ⟨_,rfl,hH.ext.bO hx1⟩
 ·refine aK ?_
  refine cD Ty.mixed 13 rfl (fun w1 hx1=>?_)
  refine F6 ?_
  refine aY 1 hx1 rfl (fun w' hw'=>by refine aB rfl (hB4.aH hw') rfl (Ty.aF rfl)) ?_
  refine bE 2 hx1 ?_
  refine bE 3 hx1 ?_
  refine bM 4 rfl (by kernel_rfl) hx1 rfl rfl rfl (dF (by omega)) rfl (fun w' hw'=>by refine aP rfl) ?_
  refine bM 5 rfl (by kernel_rfl) hx1 rfl rfl rfl (dF (by omega)) rfl (fun w' hw'=>by refine aP rfl) ?_
  refine bM 6 rfl (by kernel_rfl) hx1 rfl rfl rfl (dF (by omega)) rfl (fun w' hw'=>by refine aE rfl (hB7.aH hw') rfl (Ty.aF rfl)) ?_
  refine bM 8 rfl (by kernel_rfl) hx1 rfl rfl rfl (dF (by omega)) rfl (fun w' hw'=>by refine aN rfl (Ty.bA rfl rfl)) ?_
  refine bM 9 rfl (by kernel_rfl) hx1 rfl rfl rfl (dF (by omega)) rfl (fun w' hw'=>by refine aB rfl (hB4.aH hw') rfl (Ty.aF rfl)) ?_
  refine KW 7 (by kernel_rfl) rfl rfl rfl rfl (dF (by omega)) (aC (C9 hc hmb) rfl rfl ?_)
  rintro _ w2 ⟨n,rfl,hE0⟩
  have hx2:=hx1.bO hE0
  refine ⟨hx2,?_⟩
  refine bM 10 rfl (by kernel_rfl) hx2 rfl rfl rfl (dF (by omega)) rfl (fun w' hw'=>by refine aP rfl) ?_
  refine bE 11 hx2 ?_
  refine bE 12 hx2 ?_
  refine aW (by kernel_rfl) ?_
  exact aM Tryz.func140 rfl ⟨_,rfl,hH.ext.bO hx2⟩
end Go.Proofs.YtdbnmbkjmeepkaaGreatDoor
