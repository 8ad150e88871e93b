/- A part of the proof of the card of TopText; no condition. -/
import Derived.Test.YtdbnmbkjmeepkaaGreatDoorT24
namespace Go.Proofs.YtdbnmbkjmeepkaaGreatDoor
open Go Go.K Go.P Go.RowKit Go.Proofs
structure GR where
 f:Nat
 a:Option Addr
 cap:Nat
 ms:List MB
abbrev GR.cells (g:GR):List Value:=[.int .i64 g.f,.slice g.a g.ms.length g.cap]
structure PR where
 h:PH
 a:Option Addr
 cap:Nat
 gs:List GR
abbrev PR.cells (p:PR):List Value:=[.int .i64 p.h.id,.bool p.h.inter,.bool p.h.down,.int .i64 p.h.qp,.slice p.a p.gs.length p.cap]
structure ST where
 h:SH
 a:Option Addr
 cap:Nat
 ps:List PR
abbrev ST.cells (s:ST):List Value:=.int .i64 s.h.c::.int .i64 s.h.r::(s.h.tc++[.slice s.a s.ps.length s.cap])
abbrev GR.rd (w:World) (g:GR):Prop:=cI w g.a (iO g.ms)
def PR.rd (w:World) (p:PR):Prop:=cI w p.a (p.gs.flatMap GR.cells)∧∀ g∈p.gs,g.rd w
def ST.rd (w:World) (s:ST):Prop:=cI w s.a (s.ps.flatMap PR.cells)∧∀ p∈s.ps,p.rd w
theorem PR.rd.ext {w w':World} {p:PR} (h:p.rd w) (hE:Ext [] w w'):p.rd w':=⟨h.1.aH hE,fun g hg=>(h.2 g hg).aH hE⟩
theorem ST.rd.ext {w w':World} {s:ST} (h:s.rd w) (hE:Ext [] w w'):s.rd w':=⟨h.1.aH hE,fun p hp=>(h.2 p hp).ext hE⟩
def Dh (inter:Bool) (hq:Int):Nat→List GR→Nat→Prop
 | n,[],e=>n=e
 | n,g::l,e=>g.f=n∧(1≤g.ms.length∧g.ms.length≤8)∧BM inter hq g.ms∧Dh inter hq (n+g.ms.length) l e
theorem kP {inter:Bool} {hq:Int}:∀ {n:Nat} {l:List GR} {e:Nat},Dh inter hq n l e→n+l.length≤e
 | _,[],_,h=>Nat.le_of_eq h
 | n,g::l,e,h=>by have:=kP h.2.2.2;have:=h.2.1;simp only [List.length_cons];omega
structure PR.ok (C R i:Nat) (p:PR):Prop where
 id:p.h.id=i
 err:p.h.err=0
 first:i=0→p.h.inter=false
 gs:Dh p.h.inter p.h.qp 0 p.gs (C*R)
 ed:∀ g∈p.gs,pK p.h.inter C R g.f p.h.qp g.ms
structure ST.ok (C R:Nat) (s:ST):Prop where
 ho:s.h.ok
 err:s.h.err=0
 c:s.h.c=C
 r:s.h.r=R
 len:1≤s.ps.length∧s.ps.length≤16
 ps:∀ (i:Nat) (p:PR),s.ps[i]?=some p→p.ok C R i
structure CP where
 h:PH
 gs:List (Nat × List MB)
structure CS where
 h:SH
 ps:List CP
abbrev PR.eP (p:PR):CP:=⟨p.h,p.gs.map fun g=>(g.f,g.ms)⟩
abbrev ST.eP (s:ST):CS:=⟨s.h,s.ps.map PR.eP⟩
theorem Ei {inter:Bool} {hq:Int}:∀ {l l':List GR} {n e:Nat},l.map (fun g=>(g.f,g.ms))=l'.map (fun g=>(g.f,g.ms))→Dh inter hq n l e→Dh inter hq n l' e
 | [],[],_,_,_,h=>h
 | [],_::_,_,_,h,_=>by simp at h
 | _::_,[],_,_,h,_=>by simp at h
 | g::l,g'::l',n,e,hl,h=>by
  simp only [List.map_cons,List.cons.injEq,Prod.mk.injEq] at hl
  obtain ⟨⟨h1,h2⟩,h3⟩:=hl
  unfold Dh at *
  rw [← h1,← h2]
  exact ⟨h.1,h.2.1,h.2.2.1,Ei h3 h.2.2.2⟩
theorem PR.ok.eP {C R i:Nat} {p p':PR} (h:p.ok C R i) (hc:p.eP=p'.eP):p'.ok C R i:=by
 simp only [PR.eP,CP.mk.injEq] at hc
 obtain ⟨h1,h2⟩:=hc
 refine ⟨h1▸h.id,h1▸h.err,h1▸h.first,Ei h2 (h1▸h.gs),fun g hg=>?_⟩
 have hm:(g.f,g.ms)∈p.gs.map fun g=>(g.f,g.ms):=by rw [h2];exact List.mem_map.2 ⟨g,hg,rfl⟩
 obtain ⟨g0,hg0,he⟩:=List.mem_map.1 hm
 simp only [Prod.mk.injEq] at he
 rw [← he.1,← he.2,← h1]
 exact h.ed g0 hg0
theorem ST.ok.eP {C R:Nat} {s s':ST} (h:s.ok C R) (hc:s.eP=s'.eP):s'.ok C R:=by
 simp only [ST.eP,CS.mk.injEq] at hc
 obtain ⟨h1,h2⟩:=hc
 have hl:s.ps.length=s'.ps.length:=by have:=congrArg List.length h2;simpa using this
 refine ⟨h1▸h.ho,h1▸h.err,h1▸h.c,h1▸h.r,hl▸h.len,fun i p' hp'=>?_⟩
 have hi:=(List.getElem?_eq_some_iff.1 hp').1
 obtain ⟨p,hp⟩:∃ p,s.ps[i]?=some p:=⟨_,List.getElem?_eq_getElem (by omega)⟩
 refine (h.ps i p hp).eP ?_
 have:=congrArg (fun l=>l[i]?) h2
 simp only [List.getElem?_map,hp,hp',Option.map_some,Option.some.injEq] at this
 exact this
noncomputable def Np (C R:Nat) (h:PH) (f:Nat) (ms:List MB):List Nat :=
 MI ⟨h,f,ms.length,(FF h.inter C R f h.qp ms).length,(Er h.inter C R f h.qp ms).length,oC (FF h.inter C R f h.qp ms),oC (Er h.inter C R f h.qp ms)⟩++FF h.inter C R f h.qp ms++Er h.inter C R f h.qp ms
theorem dQ {α:Type} {f:α→List Value} {sz:Nat}:∀ {l:List α},(∀ x∈l,(f x).length=sz)→(l.flatMap f).length=l.length*sz
 | [],_=>by simp
 | m::ms,h=>by
  rw [List.flatMap_cons,List.length_append,h m (by simp),dQ (fun x hx=>h x (by simp [hx])),List.length_cons,Nat.add_mul]
  omega
theorem jV {α:Type} {f:α→List Value} {sz:Nat}:∀ {l:List α} {i:Nat} {m:α},(∀ x∈l,(f x).length=sz)→l[i]?=some m→((l.flatMap f).drop (i*sz)).take sz=f m
 | a::ms,0,m,h,hi=>by
  obtain rfl:a=m:=Option.some.inj hi
  rw [Nat.zero_mul,List.drop_zero,List.flatMap_cons,List.take_left' (h a (by simp))]
 | a::ms,i+1,m,h,hi=>by
  rw [List.flatMap_cons,Nat.add_mul,Nat.one_mul,Nat.add_comm,← List.drop_drop,List.drop_left' (h a (by simp))]
  exact jV (fun x hx=>h x (by simp [hx])) (by simpa using hi)
theorem AS {α:Type} {l:List α} {i:Nat} {m:α} (h:l[i]?=some m):l.drop i=m::l.drop (i+1):=by
 have h2:=(List.getElem?_eq_some_iff.1 h)
 rw [List.drop_eq_getElem_cons h2.1,h2.2]
theorem qK {h:SH} {C R:Nat} (he:h.err=0) (hc:h.c=C) (hr:h.r=R):(1≤C∧C≤8)∧(1≤R∧R≤8)∧C*R≤64:=by
 unfold SH.err at he
 split at he
 ·cases he
 ·rename_i h1
  have h2:C≤8∧R≤8:=by omega
  exact ⟨by omega,by omega,Nat.mul_le_mul h2.1 h2.2⟩
theorem rN {h:PH} (he:h.err=0):1≤h.qp∧h.qp≤31:=by
 unfold PH.err at he
 split at he
 ·cases he
 ·split at he
  ·cases he
  ·omega
set_option maxRecDepth 20000 in
set_option maxHeartbeats 16000000 in
theorem sT {s:ST} {p:PR} {C R i0:Nat} {w:World} (hs:s.ok C R) (hp:p.ok C R i0) (hrd:p.rd w) :
  aX Tryz.prog 47 #[.agg s.cells.toArray,.agg p.cells.toArray] w fun v w'=>v=.int .i64 0∧Ext [] w w':=by
 refine aL (args:=[_,_]) Tryz.func47 rfl rfl Tryz.ntmps47 rfl ?_
 have hH:=Hp.start w
 obtain ⟨hC,hR,hCR⟩:=qK hs.err hs.c hs.r
 have hq1:=rN hp.err
 have hgok:=hp.gs
 have hgl0:=kP hgok
 have hcm:(C:Int)*R=((C*R:Nat):Int):=by simp
 have s0:s.cells.toArray[0]?=some (.int .i64 C):=by rw [← hs.c];rfl
 have s1:s.cells.toArray[1]?=some (.int .i64 R):=by rw [← hs.r];rfl
 refine aK ?_
 refine aO ?_
 refine aA (bI (cs:=s.cells.toArray) hH rfl rfl rfl ?_)
 try clear hH
 intro _ b2 hH
 replace hH:=aI hH
 refine aO ?_
 refine aA (bI (cs:=p.cells.toArray) hH rfl rfl rfl ?_)
 try clear hH
 intro _ b3 hH
 replace hH:=aI hH
 have hB3:=hH.b 1 rfl
 repeat (first|refine aR ?_|(refine aD (by first|refine aN rfl (Ty.bA rfl rfl)|refine aB rfl hB3 rfl (Ty.aF rfl)) rfl ?_)|refine aT ?_)
 clear hB3
 refine aV (G:=(Nat) × (Nat)) (fun|(i,nx)=>p.gs.length-i) 144115188075826608 (fun|(i,nx)=>[(5,.int .i64 nx),(15,.int .i64 i)]) (fun|(i,nx),w'=>i≤p.gs.length∧Dh p.h.inter p.h.qp nx (p.gs.drop i) (C*R)∧Hp [] w w' [Rb b2 34 s.cells.toArray,Rb b3 60 p.cells.toArray]) (0,0) ⟨rfl,rfl,trivial⟩ ⟨by omega,hgok,hH⟩ ?_
 rintro ⟨i,nx⟩ w' σ ⟨hi,hg,hH⟩ IH
 show WS _ _ _ _ _ (bQ [(5,.int .i64 nx),(15,.int .i64 i)] _) _
 by_cases hlt:i<p.gs.length
 ·obtain ⟨g,hgi⟩:∃ g,p.gs[i]?=some g:=⟨_,List.getElem?_eq_getElem (by omega)⟩
  have hgm:=List.mem_of_getElem? hgi
  have hSg:=hrd.1.aH hH.ext
  have hat:=jV (f:=GR.cells) (sz:=2) (fun _ _=>rfl) hgi
  have hle:=dQ (f:=GR.cells) (sz:=2) (l:=p.gs) (fun _ _=>rfl)
  rw [AS hgi] at hg
  have hgl:=kP hg.2.2.2
  obtain ⟨hgf,hgn,hgc,hgt⟩:=hg
  have hok:=rJ hgc
  repeat (first|refine aR ?_|(refine aD (by first|refine gE (sz:=2) rfl rfl hSg hle (by decide) (Ty.sle rfl) (by omega)|refine bG (j:=i*2) (cs:=g.cells) rfl hSg hat rfl (Ty.aF rfl)) rfl ?_)|refine aT ?_)
  clear hSg
  refine aO ?_
  refine aA (aQ hH (Ty.bH rfl) rfl ?_)
  try clear hH
  intro _ b7 hH
  replace hH:=aI hH
  refine aO ?_
  refine aA (aJ 2 (vs:=g.cells.toArray) (s:=2) hH rfl rfl rfl (by rfl) (by rfl) (by simp [Value.oneCell']) (Ty.aF rfl) ?_)
  try clear hH
  intro _ hH
  replace hH:=aI hH
  have hB7:=hH.b 2 rfl
  have hB3:=hH.b 1 rfl
  repeat (first|refine aR ?_|(refine aD (by first|refine aN rfl (Ty.bA rfl rfl)|refine aB rfl hB7 rfl (Ty.aF rfl)|refine aB rfl hB3 rfl (Ty.aF rfl)) rfl ?_)|refine aT ?_)
  clear hB7 hB3
  refine aV (G:=(Nat) × (Int)) (fun|(j,q)=>g.ms.length-j) 2251765453950224 (fun|(j,q)=>[(8,.int .i64 q),(35,.int .i64 j)]) (fun|(j,q),w'=>j≤g.ms.length∧(1≤q∧q≤31)∧BM p.h.inter q (g.ms.drop j)∧Hp [] w w' [Rb b2 34 s.cells.toArray,Rb b3 60 p.cells.toArray,Rb b7 87 g.cells.toArray]) (0,p.h.qp) ⟨rfl,rfl,trivial⟩ ⟨by omega,hq1,hgc,hH⟩ ?_
  rintro ⟨j,q⟩ w' σ ⟨hj,hq,hch,hH⟩ IH2
  show WS _ _ _ _ _ (bQ [(8,.int .i64 q),(35,.int .i64 j)] _) _
  by_cases hjl:j<g.ms.length
  ·obtain ⟨m,hm⟩:∃ m,g.ms[j]?=some m:=⟨_,List.getElem?_eq_getElem (by omega)⟩
   have hSm:cI w' g.a (iO g.ms):=(hrd.2 g hgm).aH hH.ext
   rw [AS hm] at hch
   obtain ⟨hmo,hmi,hmq,hch⟩:=hch
   have hml:=bL (k:=m.k) (q:=m.q) (u0:=m.u0) (u1:=m.u1) (u2:=m.u2) (u3:=m.u3) (e:=m.e) hmo.len
   have hma:=zM hok hm
   repeat (first|refine aR ?_|(refine aD (by first|refine gE (sz:=391) rfl rfl hSm (by rw [qR hok]) (by decide) (Ty.sle rfl) (by omega)|refine bG (j:=j*391) (cs:=m.cells) rfl hSm hma hml (Ty.aF rfl)) rfl ?_)|refine aT ?_)
   clear hSm
   refine aO ?_
   refine aA (aQ hH (Ty.bH rfl) rfl ?_)
   try clear hH
   intro _ b10 hH
   replace hH:=aI hH
   refine aA (aJ 3 (vs:=m.cells.toArray) (s:=391) hH rfl rfl rfl (by simp [hml]) rfl (dZ hmo) (Ty.aF rfl) ?_)
   clear hH
   intro _ hH
   replace hH:=aI hH
   have hB10:=hH.b 3 rfl
   have hB3:=hH.b 1 rfl
   repeat (first|refine aR ?_|(refine aD (by first|refine aN rfl (Ty.bA rfl rfl)|refine aE rfl hB10 (by simp [hml]) (Ty.aF rfl)|refine aB rfl hB3 rfl (Ty.aF rfl)) rfl ?_)|refine aT ?_)
   clear hB10 hB3
   refine aO ?_
   refine aA (aC ((wX hmo hq hmi hmq)) rfl rfl ?_)
   rintro _ _ ⟨rfl,hE0⟩
   replace hH:=hH.aH hE0
   clear hE0
   replace hH:=aI hH
   have hB10:=hH.b 3 rfl
   repeat (first|refine aR ?_|(refine aD (by first|refine aN rfl (Ty.bA rfl rfl)|refine aB rfl hB10 rfl (Ty.aF rfl)) rfl ?_)|refine aT ?_)
   clear hB10
   replace hH:=hH.del 3
   replace hH:=aI hH
   refine IH2 (j+1,m.q) _ _ ?_ ?_ ?_ ?_
   ·simp only;omega
   ·exact ⟨rfl,rfl,trivial⟩
   ·exact cP
   ·exact ⟨by omega,hmo.q1,hch,hH⟩
  ·obtain rfl:j=g.ms.length:=by omega
   clear IH2
   have hB7:=hH.b 2 rfl
   have hnx:(nx:Int)+g.ms.length=((nx+g.ms.length:Nat):Int):=by omega
   repeat (first|refine aR ?_|(refine aD (by first|refine aN rfl (Ty.bA rfl rfl)|refine aB rfl hB7 rfl (Ty.aF rfl)|refine (cT (m:=nx) (n:=g.ms.length) rfl rfl (by omega)).is (congrArg (Value.int .i64) hnx)) rfl ?_)|refine aT ?_)
   clear hB7
   replace hH:=hH.del 2
   replace hH:=aI hH
   refine IH (i+1,nx+g.ms.length) _ _ ?_ ?_ ?_ ?_
   ·simp only;omega
   ·exact ⟨rfl,rfl,trivial⟩
   ·exact cP
   ·exact ⟨by omega,hgt,hH⟩
 ·obtain rfl:i=p.gs.length:=by omega
  rw [List.drop_length] at hg
  obtain rfl:nx=C*R:=hg
  have hB2:=hH.b 0 rfl
  repeat (first|refine aR ?_|(refine aD (by first|refine aN rfl (Ty.bA rfl rfl)|refine aB rfl hB2 s0 (Ty.aF rfl)|refine aB rfl hB2 s1 (Ty.aF rfl)|refine (bN (m:=C) (n:=R) rfl rfl (by omega)).is (congrArg (Value.int .i64) hcm)) rfl ?_)|refine aT ?_)
  exact aM Tryz.func47 rfl ⟨rfl,hH.ext⟩
set_option maxRecDepth 20000 in
set_option maxHeartbeats 16000000 in
theorem tJ {s:ST} {C R:Nat} {w:World} (hs:s.ok C R) (hrd:s.rd w) :
  aX Tryz.prog 19 #[.agg s.cells.toArray] w fun v w'=>v=.int .i64 0∧Ext [] w w':=by
 refine aL (args:=[_]) Tryz.func19 rfl rfl Tryz.ntmps19 rfl ?_
 have hH:=Hp.start w
 have hlen:=hs.len
 have htc:=SH.eS hs.ho
 have hck:=fun w=>kG hs.ho (w:=w)
 simp only [hs.err] at hck
 have h131:(s.cells.drop 0).take 131=s.h.cells:=by
  show (s.h.cells++[_]).take 131=_
  rw [List.take_left' (SH.bK hs.ho)]
 have s131:s.cells.toArray[131]?=some (.slice s.a s.ps.length s.cap):=by
  show (s.h.cells++[_]).toArray[131]?=_
  rw [List.getElem?_toArray,List.getElem?_append_right (by rw [SH.bK hs.ho];decide),SH.bK hs.ho]
  rfl
 refine aK ?_
 refine aO ?_
 refine aA (bI (cs:=s.cells.toArray) hH rfl rfl rfl ?_)
 try clear hH
 intro _ b1 hH
 replace hH:=aI hH
 have hS1:cI _ (some ⟨b1,0,none⟩) s.cells:=(hH.b 0 rfl).cX
 repeat (first|refine aR ?_|(refine aD (by first|refine aN rfl (Ty.bA rfl rfl)|refine bG (j:=0+0) (cs:=s.h.cells) rfl hS1 h131 (SH.bK hs.ho) (Ty.aF rfl)) rfl ?_)|refine aT ?_)
 clear hS1
 refine aO ?_
 refine aA (aC ((hck _)) rfl rfl ?_)
 rintro _ _ ⟨rfl,hE0⟩
 replace hH:=hH.aH hE0
 clear hE0
 replace hH:=aI hH
 have hB1:=hH.b 0 rfl
 repeat (first|refine aR ?_|(refine aD (by first|refine aN rfl (Ty.bA rfl rfl)|refine aB rfl hB1 s131 (Ty.aF rfl)) rfl ?_)|refine aT ?_)
 clear hB1
 refine aV (G:=(Nat)) (fun i=>s.ps.length-i) 576460752169206004 (fun i=>[(27,.int .i64 i)]) (fun i w'=>i≤s.ps.length∧Hp [] w w' [Rb b1 34 s.cells.toArray]) (0) ⟨rfl,trivial⟩ ⟨by omega,hH⟩ ?_
 rintro i w' σ ⟨hi,hH⟩ IH
 show WS _ _ _ _ _ (bQ [(27,.int .i64 i)] _) _
 by_cases hlt:i<s.ps.length
 ·obtain ⟨p,hpi⟩:∃ p,s.ps[i]?=some p:=⟨_,List.getElem?_eq_getElem (by omega)⟩
  have hpo:=hs.ps i p hpi
  have hSg:=hrd.1.aH hH.ext
  have hat:=jV (f:=PR.cells) (sz:=5) (fun _ _=>rfl) hpi
  have hle:=dQ (f:=PR.cells) (sz:=5) (l:=s.ps) (fun _ _=>rfl)
  have xU:=fun w=>kE p.h w
  simp only [hpo.err] at xU
  have hid:=hpo.id
  repeat (first|refine aR ?_|(refine aD (by first|refine gE (sz:=5) rfl rfl hSg hle (by decide) (Ty.sle rfl) (by omega)|refine bG (j:=i*5) (cs:=p.cells) rfl hSg hat rfl (Ty.aF rfl)) rfl ?_)|refine aT ?_)
  clear hSg
  refine aO ?_
  refine aA (aQ hH (Ty.bH rfl) rfl ?_)
  try clear hH
  intro _ b5 hH
  replace hH:=aI hH
  refine aK ?_
  refine aO ?_
  refine aA (aJ 1 (vs:=p.cells.toArray) (s:=5) hH rfl rfl rfl (by rfl) (by rfl) (by simp [Value.oneCell']) (Ty.aF rfl) ?_)
  try clear hH
  intro _ hH
  replace hH:=aI hH
  have hS5:cI _ (some ⟨b5,0,none⟩) p.cells:=(hH.b 1 rfl).cX
  repeat (first|refine aR ?_|(refine aD (by first|refine aN rfl (Ty.bA rfl rfl)|refine bG (j:=0+0) (cs:=p.h.cells) rfl hS5 rfl rfl (Ty.aF rfl)) rfl ?_))
  clear hS5
  refine aO ?_
  refine aA (aC ((xU _)) rfl rfl ?_)
  rintro _ _ ⟨rfl,hE0⟩
  replace hH:=hH.aH hE0
  clear hE0
  replace hH:=aI hH
  have hB5:=hH.b 1 rfl
  have hB1:=hH.b 0 rfl
  by_cases h0:i=0
  ·have hin:=hpo.first h0
   repeat (first|refine aR ?_|(refine aD (by first|refine aN rfl (Ty.bA rfl rfl)|refine (aB rfl hB5 (show p.cells.toArray[1]?=some (.bool false) by rw [← hin];rfl) (Ty.aF rfl))|refine aB rfl hB5 rfl (Ty.aF rfl)|refine aE rfl hB1 (by simp [htc]) (Ty.aF rfl)|refine aE rfl hB5 rfl (Ty.aF rfl)) rfl ?_)|refine aT ?_)
   clear hB5 hB1
   refine aO ?_
   refine aA (aC ((sT hs hpo ((hrd.2 p (List.mem_of_getElem? hpi)).ext hH.ext))) rfl rfl ?_)
   rintro _ _ ⟨rfl,hE0⟩
   replace hH:=hH.aH hE0
   clear hE0
   replace hH:=aI hH
   refine aK ?_
   replace hH:=hH.del 1
   replace hH:=aI hH
   refine IH (i+1) _ _ ?_ ?_ ?_ ?_
   ·omega
   ·exact ⟨rfl,trivial⟩
   ·exact cP
   ·exact ⟨by omega,hH⟩
  ·repeat (first|refine aR ?_|(refine aD (by first|refine aN rfl (Ty.bA rfl rfl)|refine aB rfl hB5 rfl (Ty.aF rfl)|refine aE rfl hB1 (by simp [htc]) (Ty.aF rfl)|refine aE rfl hB5 rfl (Ty.aF rfl)) rfl ?_)|refine aT ?_)
   clear hB5 hB1
   refine aO ?_
   refine aA (aC ((sT hs hpo ((hrd.2 p (List.mem_of_getElem? hpi)).ext hH.ext))) rfl rfl ?_)
   rintro _ _ ⟨rfl,hE0⟩
   replace hH:=hH.aH hE0
   clear hE0
   replace hH:=aI hH
   refine aK ?_
   replace hH:=hH.del 1
   replace hH:=aI hH
   refine IH (i+1) _ _ ?_ ?_ ?_ ?_
   ·omega
   ·exact ⟨rfl,trivial⟩
   ·exact cP
   ·exact ⟨by omega,hH⟩
 ·obtain rfl:i=s.ps.length:=by omega
  refine aK ?_
  exact aM Tryz.func19 rfl ⟨rfl,hH.ext⟩
abbrev BT:=Option Addr × Nat × List Nat
abbrev IG (e:BT):Value:=.slice e.1 e.2.2.length e.2.1
def RL (es:List BT):cK where
 fp:=es.flatMap fun e=>(Rs e.1 (e.2.2.map B)).fp
 holds:=fun w=>∀ e∈es,cI w e.1 (e.2.2.map B)
 keep:=fun h hE hS e he=>(Rs e.1 (e.2.2.map B)).keep (h e he) hE (fun s hs hb=>hS s hs (List.mem_flatMap.2 ⟨e,he,hb⟩))
 lt:=fun h s hs=>by
  obtain ⟨e,he,hse⟩:=List.mem_flatMap.1 hs
  exact (Rs e.1 (e.2.2.map B)).lt (h e he) s hse
theorem RL.add {S:List Nat} {W w:World} {H:List cK} {es:List BT} {e:BT} (i j:Nat) (h:Hp S W w H) (hi:H[i]?=some (RL es)) (hj:H[j]?=some (Rs e.1 (e.2.2.map B))) (hij:i<j) :
  Hp S W w (((H.set i (sep (RL es) (Rs e.1 (e.2.2.map B)))).eraseIdx j).set i (RL (es++[e]))):=by
 have h1:=h.merge i j hi hj (by omega)
 have hil:=(List.getElem?_eq_some_iff.1 hi).1
 refine h1.as i (r:=sep (RL es) (Rs e.1 (e.2.2.map B))) ?_ (fun x hx=>?_) (fun hh=>?_)
 ·rw [List.getElem?_eraseIdx,if_pos hij,List.getElem?_set_self hil]
 ·obtain ⟨e',he',hxe⟩:=List.mem_flatMap.1 hx
  rcases List.mem_append.1 he' with he'|he'
  ·exact List.mem_append.2 (.inl (List.mem_flatMap.2 ⟨e',he',hxe⟩))
  ·simp at he';subst he'
   exact List.mem_append.2 (.inr hxe)
 ·intro e' he'
  rcases List.mem_append.1 he' with he'|he'
  ·exact hh.1 e' he'
  ·simp at he';subst he'
   exact hh.2.1
noncomputable def I6 (C R:Nat) (h:PH) (gs:List GR):List (List Nat):=gs.map fun g=>Np C R h g.f g.ms
noncomputable def GM (C R:Nat) (ps:List PR):List (List Nat):=ps.flatMap fun p=>I6 C R p.h p.gs
theorem HD {C R:Nat} {ps:List PR} {i:Nat} {p:PR} (h:ps[i]?=some p):GM C R (ps.take (i+1))=GM C R (ps.take i)++I6 C R p.h p.gs:=by
 rw [GM,GM,List.take_add_one,h,List.flatMap_append];simp
theorem Iw {C R:Nat} {h:PH} {gs:List GR} {i:Nat} {g:GR} (hg:gs[i]?=some g):I6 C R h (gs.take (i+1))=I6 C R h (gs.take i)++[Np C R h g.f g.ms]:=by
 rw [I6,I6,List.take_add_one,hg,List.map_append];rfl
theorem KY {C R:Nat} {ps ps':List PR} (h:ps.map PR.eP=ps'.map PR.eP):GM C R ps=GM C R ps':=by
 have key:∀ l:List PR,GM C R l=(l.map PR.eP).flatMap fun p=>p.gs.map fun g=>Np C R p.h g.1 g.2:=fun l=>by
  rw [GM,List.flatMap_map]
  congr 1
  funext p
  simp [I6]
 rw [key,key,h]
theorem Cy {inter:Bool} {hq:Int}:∀ {n:Nat} {l:List GR} {e:Nat} {j:Nat} {g:GR},Dh inter hq n l e→l[j]?=some g→g.f+g.ms.length≤e∧(1≤g.ms.length∧g.ms.length≤8)∧BM inter hq g.ms
 | n,g::l,e,0,g',h,hj=>by
  obtain rfl:g=g':=Option.some.inj hj
  have:=kP h.2.2.2
  exact ⟨by rw [h.1];omega,h.2.1,h.2.2.1⟩
 | n,g::l,e,j+1,g',h,hj=>Cy h.2.2.2 (by simpa using hj)
theorem Ji {h:PH} {f c all:Int} {la lb:Nat} (he:h.err=0) (h1:0≤f∧1≤c∧f+c≤all∧all≤64) (h2:(1≤la∧la≤30000)∧1≤lb∧lb≤30000):hJ h f c la lb all=0:=by
 unfold hJ
 rw [if_neg (by simp [he]),if_neg (by omega),if_neg (by omega)]
set_option maxRecDepth 20000 in
set_option maxHeartbeats 16000000 in
theorem Az {s:ST} {C R:Nat} {w:World} (hs:s.ok C R) (hrd:s.rd w) :
  aX Tryz.prog 28 #[.agg s.cells.toArray] w fun v w'=>∃ (a:Option Addr) (c:Nat) (e0:BT) (es:List BT),v=.tuple #[.slice a (es.length+1) c,.int .i64 0]∧e0.2.2=s.h.out∧es.map (fun e=>e.2.2)=GM C R s.ps∧(∀ e∈es,e.2.2.length≤61000)∧es.length≤1024∧e0.2.2.length≤1000∧Hp [] w w' [RL (e0::es),Rs a ((e0::es).map IG)]:=by
 refine aL (args:=[_]) Tryz.func28 rfl rfl Tryz.ntmps28 rfl ?_
 have hH:=Hp.start w
 obtain ⟨hC,hR,hCR⟩:=qK hs.err hs.c hs.r
 have hlen:=hs.len
 have htc:=SH.eS hs.ho
 have hcm:(C:Int)*R=((C*R:Nat):Int):=by simp
 have s0:s.cells.toArray[0]?=some (.int .i64 C):=by rw [← hs.c];rfl
 have s1:s.cells.toArray[1]?=some (.int .i64 R):=by rw [← hs.r];rfl
 have h131:(s.cells.drop 0).take 131=s.h.cells:=by
  show (s.h.cells++[_]).take 131=_
  rw [List.take_left' (SH.bK hs.ho)]
 have s131:s.cells.toArray[131]?=some (.slice s.a s.ps.length s.cap):=by
  show (s.h.cells++[_]).toArray[131]?=_
  rw [List.getElem?_toArray,List.getElem?_append_right (by rw [SH.bK hs.ho];decide),SH.bK hs.ho]
  rfl
 refine aK ?_
 refine aO ?_
 refine aA (bI (cs:=s.cells.toArray) hH rfl rfl rfl ?_)
 try clear hH
 intro _ b1 hH
 replace hH:=aI hH
 have hB1:=hH.b 0 rfl
 repeat (first|refine aR ?_|(refine aD (by refine aE rfl hB1 (by simp [htc]) (Ty.aF rfl)) rfl ?_)|refine aT ?_)
 refine aO ?_
 refine aA (aC ((tJ hs (hrd.ext hH.ext))) rfl rfl ?_)
 rintro _ _ ⟨rfl,hE0⟩
 replace hH:=hH.aH hE0
 clear hE0
 replace hH:=aI hH
 clear hB1
 have hS1:cI _ (some ⟨b1,0,none⟩) s.cells:=(hH.b 0 rfl).cX
 repeat (first|refine aR ?_|(refine aD (by first|refine aN rfl (Ty.bA rfl rfl)|refine bG (j:=0+0) (cs:=s.h.cells) rfl hS1 h131 (SH.bK hs.ho) (Ty.aF rfl)) rfl ?_)|refine aT ?_)
 clear hS1
 refine aO ?_
 refine aA (aC ((GA hs.ho hs.err)) rfl rfl ?_)
 rintro _ _ ⟨a0,c0,rfl,hN⟩
 replace hH:=hH.nu hN
 clear hN
 replace hH:=aI hH
 have hO0:=hH.o 1 rfl
 have hol:s.h.out.length≤1000:=by rw [SH.JB hs.ho hs.err];split<;>decide
 replace hH:=Rs.of 1 hH rfl
 replace hH:=aI hH
 have hc0:s.h.out.length≤c0:=hO0.2.1
 refine aK ?_
 refine aO ?_
 refine aA (cN (out:=[.slice a0 s.h.out.length c0]) hH (Ty.sle rfl) (Ty.bH rfl) rfl rfl rfl (by decide) rfl ?_)
 try clear hH
 intro _ b7 hH
 replace hH:=aI hH
 refine aK ?_
 refine aO ?_
 refine aA (aC (yU) rfl rfl ?_)
 rintro _ _ ⟨k,hk,rfl,hN⟩
 replace hH:=hH.nu hN
 clear hN
 replace hH:=aI hH
 replace hH:=hH.as (r':=Ro 44 1 (some ⟨b7,0,none⟩) 1 1 [.slice a0 s.h.out.length c0]) 2 rfl (fun _ hx=>hx) (fun hB=>hB.own rfl (by decide))
 replace hH:=hH.as (r':=RL [(a0,c0,s.h.out)]) 1 rfl (fun x hx=>by simpa [RL] using hx) (fun hB e he=>by simp at he;subst he;exact hB)
 replace hH:=aI hH
 have hel0:((a0,c0,s.h.out):BT).2.2.length≤1000:=hol
 have hec0:((a0,c0,s.h.out):BT).2.2=s.h.out:=rfl
 change Hp [] w _ [Rb b1 34 s.cells.toArray,RL ((a0,c0,s.h.out)::[]),Ro 44 1 (some ⟨b7,0,none⟩) (([]:List BT).length+1) 1 (((a0,c0,s.h.out)::[]).map IG),RK k] at hH
 generalize ((a0,c0,s.h.out):BT)=e0 at hH hel0 hec0
 have hB1:=hH.b 0 rfl
 repeat (first|refine aR ?_|(refine aD (by first|refine aN rfl (Ty.bA rfl rfl)|refine aB rfl hB1 s131 (Ty.aF rfl)) rfl ?_)|refine aT ?_)
 clear hB1
 refine aV (G:=(Nat) × (Option Addr) × (Nat) × (List BT)) (fun|(i,a,cap,es)=>s.ps.length-i) 39614081257132168659333149836 (fun|(i,a,cap,es)=>[(7,.slice a (es.length+1) cap),(37,.int .i64 i)]) (fun|(i,a,cap,es),w'=>i≤s.ps.length∧es.map (fun e=>e.2.2)=GM C R (s.ps.take i)∧es.length≤64*i∧(∀ e∈es,e.2.2.length≤61000)∧Hp [] w w' [Rb b1 34 s.cells.toArray,RL (e0::es),Ro 44 1 a (es.length+1) cap ((e0::es).map IG),RK k]) (0,some ⟨b7,0,none⟩,1,[]) ⟨rfl,rfl,trivial⟩ ⟨by omega,rfl,by decide,by simp,hH⟩ ?_
 rintro ⟨i,a,cap,es⟩ w' σ ⟨hi,hel,he64,xU,hH⟩ IH
 show WS _ _ _ _ _ (bQ [(7,.slice a (es.length+1) cap),(37,.int .i64 i)] _) _
 by_cases hlt:i<s.ps.length
 ·obtain ⟨p,hpi⟩:∃ p,s.ps[i]?=some p:=⟨_,List.getElem?_eq_getElem (by omega)⟩
  have hpm:=List.mem_of_getElem? hpi
  have hpo:=hs.ps i p hpi
  have hgl0:=kP hpo.gs
  have hSg:=hrd.1.aH hH.ext
  have hat:=jV (f:=PR.cells) (sz:=5) (fun _ _=>rfl) hpi
  have hle:=dQ (f:=PR.cells) (sz:=5) (l:=s.ps) (fun _ _=>rfl)
  repeat (first|refine aR ?_|(refine aD (by first|refine gE (sz:=5) rfl rfl hSg hle (by decide) (Ty.sle rfl) (by omega)|refine bG (j:=i*5) (cs:=p.cells) rfl hSg hat rfl (Ty.aF rfl)) rfl ?_)|refine aT ?_)
  clear hSg
  refine aO ?_
  refine aA (aQ hH (Ty.bH rfl) rfl ?_)
  try clear hH
  intro _ b10 hH
  replace hH:=aI hH
  refine aO ?_
  refine aA (aJ 4 (vs:=p.cells.toArray) (s:=5) hH rfl rfl rfl (by rfl) (by rfl) (by simp [Value.oneCell']) (Ty.aF rfl) ?_)
  try clear hH
  intro _ hH
  replace hH:=aI hH
  have hB10:=hH.b 4 rfl
  repeat (first|refine aR ?_|(refine aD (by first|refine aN rfl (Ty.bA rfl rfl)|refine aB rfl hB10 rfl (Ty.aF rfl)) rfl ?_)|refine aT ?_)
  clear hB10
  refine aV (G:=(Nat) × (Option Addr) × (Nat) × (List BT)) (fun|(j,a,cap,es)=>p.gs.length-j) 19807040628566066806200070284 (fun|(j,a,cap,es)=>[(7,.slice a (es.length+1) cap),(44,.int .i64 j)]) (fun|(j,a,cap,es),w'=>j≤p.gs.length∧es.map (fun e=>e.2.2)=GM C R (s.ps.take i)++I6 C R p.h (p.gs.take j)∧es.length≤64*i+j∧(∀ e∈es,e.2.2.length≤61000)∧Hp [] w w' [Rb b1 34 s.cells.toArray,RL (e0::es),Ro 44 1 a (es.length+1) cap ((e0::es).map IG),RK k,Rb b10 60 p.cells.toArray]) (0,a,cap,es) ⟨rfl,rfl,trivial⟩ ⟨by omega,by rw [hel];simp [I6],he64,xU,hH⟩ ?_
  rintro ⟨j,a,cap,es⟩ w' σ ⟨hj,hel,he64,xU,hH⟩ IH2
  show WS _ _ _ _ _ (bQ [(7,.slice a (es.length+1) cap),(44,.int .i64 j)] _) _
  by_cases hjl:j<p.gs.length
  ·obtain ⟨g,hgj⟩:∃ g,p.gs[j]?=some g:=⟨_,List.getElem?_eq_getElem (by omega)⟩
   have hgm:=List.mem_of_getElem? hgj
   obtain ⟨hgf,hgn,hgc⟩:=Cy hpo.gs hgj
   have hok:=rJ hgc
   have hSp:cI w' p.a (p.gs.flatMap GR.cells):=(hrd.2 p hpm).1.aH hH.ext
   have hat:=jV (f:=GR.cells) (sz:=2) (fun _ _=>rfl) hgj
   have hle:=dQ (f:=GR.cells) (sz:=2) (l:=p.gs) (fun _ _=>rfl)
   repeat (first|refine aR ?_|(refine aD (by first|refine gE (sz:=2) rfl rfl hSp hle (by decide) (Ty.sle rfl) (by omega)|refine bG (j:=j*2) (cs:=g.cells) rfl hSp hat rfl (Ty.aF rfl)) rfl ?_)|refine aT ?_)
   clear hSp
   refine aO ?_
   refine aA (aQ hH (Ty.bH rfl) rfl ?_)
   try clear hH
   intro _ b12 hH
   replace hH:=aI hH
   refine aO ?_
   refine aA (aJ 5 (vs:=g.cells.toArray) (s:=2) hH rfl rfl rfl (by rfl) (by rfl) (by simp [Value.oneCell']) (Ty.aF rfl) ?_)
   try clear hH
   intro _ hH
   replace hH:=aI hH
   have hS1:cI _ (some ⟨b1,0,none⟩) s.cells:=(hH.b 0 rfl).cX
   have hS10:cI _ (some ⟨b10,0,none⟩) p.cells:=(hH.b 4 rfl).cX
   have hB12:=hH.b 5 rfl
   repeat (first|refine aR ?_|(refine aD (by first|refine aN rfl (Ty.bA rfl rfl)|refine bG (j:=0+0) (cs:=s.h.cells) rfl hS1 h131 (SH.bK hs.ho) (Ty.aF rfl)|refine bG (j:=0+0) (cs:=p.h.cells) rfl hS10 rfl rfl (Ty.aF rfl)|refine aB rfl hB12 rfl (Ty.aF rfl)) rfl ?_)|refine aT ?_)
   clear hS1 hS10 hB12
   have hSm0:=(hrd.2 p hpm).2 g hgm
   have hne:iO g.ms≠[]:=fun h=>by have h2:=qR hok;rw [h] at h2;simp at h2;omega
   refine aO ?_
   refine aA (aC ((uV (f:=g.f) hk (hH.at 3 rfl) hs.ho hs.err hs.c hs.r hpo.err (hSm0.aH hH.ext) (fun y hy hb=>by rcases hH.new (RK k) (List.mem_of_getElem? (i:=3) rfl) y hy with h|h;cases h;have:=cI.lt hSm0 hne y hb;omega) rfl hgn hgf hgc (hpo.ed g hgm))) rfl rfl ?_)
   rintro _ _ ⟨a1,c1,a2,c2,rfl,⟨hA1,hB2⟩,⟨hAb,hBb⟩,hQ⟩
   have hpkZ:Np C R p.h g.f g.ms=MI ⟨p.h,g.f,g.ms.length,(FF p.h.inter C R g.f p.h.qp g.ms).length,(Er p.h.inter C R g.f p.h.qp g.ms).length,oC (FF p.h.inter C R g.f p.h.qp g.ms),oC (Er p.h.inter C R g.f p.h.qp g.ms)⟩++FF p.h.inter C R g.f p.h.qp g.ms++Er p.h.inter C R g.f p.h.qp g.ms:=rfl
   generalize FF p.h.inter C R g.f p.h.qp g.ms=A at *
   generalize Er p.h.inter C R g.f p.h.qp g.ms=Bb at *
   replace hH:=hH.call 3 rfl hQ
   clear hQ
   replace hH:=aI hH
   have hS10:cI _ (some ⟨b10,0,none⟩) p.cells:=(hH.b 3 rfl).cX
   have hB12:=hH.b 4 rfl
   have hB1:=hH.b 0 rfl
   repeat (first|refine aR ?_|(refine aD (by first|refine aN rfl (Ty.bA rfl rfl)|refine bG (j:=0+0) (cs:=p.h.cells) rfl hS10 rfl rfl (Ty.aF rfl)|refine aB rfl hB12 rfl (Ty.aF rfl)|refine bR (cs:=I7 p.h g.f g.ms.length (.slice a1 A.length c1) (.slice a2 Bb.length c2)) (Ty.bH rfl) (Ty.iJ rfl) rfl|refine aB rfl hB1 s0 (Ty.aF rfl)|refine aB rfl hB1 s1 (Ty.aF rfl)|refine (bN (m:=C) (n:=R) rfl rfl (by omega)).is (congrArg (Value.int .i64) hcm)) rfl ?_)|refine aT ?_)
   clear hS10 hB12 hB1
   refine aO ?_
   refine aA (aC ((Di (h:=p.h) (f:=g.f) (c:=g.ms.length) (all:=(C*R:Nat)) (by omega) (Ji hpo.err (by omega) ⟨hA1,hB2⟩) (hH.o 6 rfl).sl (hH.o 7 rfl).sl hAb hBb)) rfl rfl ?_)
   rintro _ _ ⟨a3,c3,rfl,hN⟩
   replace hH:=hH.nu hN
   clear hN
   replace hH:=aI hH
   rw [← hpkZ] at hH
   rw [← hpkZ]
   have hxl:(Np C R p.h g.f g.ms).length≤61000:=by rw [hpkZ,List.length_append,List.length_append,Jc];omega
   have hnx:=Iw (C:=C) (R:=R) (h:=p.h) hgj
   generalize Np C R p.h g.f g.ms=xs at *
   replace hH:=Rs.of 8 hH rfl
   replace hH:=(((RL.add (e:=(a3,c3,xs)) 1 8 hH rfl rfl (by decide)).del 7).del 6).del 4
   replace hH:=hH.swap (H':=[Rb b1 34 s.cells.toArray,RL (e0::(es++[(a3,c3,xs)])),Ro 44 1 a (es.length+1) cap ((e0::es).map IG),RK k,Rb b10 60 p.cells.toArray]) (.cons _ (.cons _ (.cons _ (.swap _ _ _))))
   refine aK ?_
   refine aO ?_
   refine aA (cN (out:=[.slice a3 xs.length c3]) hH (Ty.sle rfl) (Ty.bH rfl) rfl rfl rfl (by decide) rfl ?_)
   try clear hH
   intro _ blit hH
   replace hH:=aI hH
   refine aO ?_
   refine aA (bZ 2 hH rfl (Ty.sle rfl) (Ty.bH rfl) rfl (Ty.gS rfl) (by decide) rfl rfl ((hH.b 5 rfl).cX) (by simp;try omega) (by simp) (by omega) (by simp only [maxLen];omega) rfl ?_)
   try clear hH
   intro _ a9 c9 hH
   replace hH:=aI hH
   replace hH:=hH.del 5
   replace hH:=aI hH
   refine aK ?_
   have hes:es.length+1+1=(es++[(a3,c3,xs)]).length+1:=by simp
   have hec:(e0::es).map IG++[.slice a3 xs.length c3]=(e0::(es++[(a3,c3,xs)])).map IG:=by simp
   rw [hes,hec] at hH
   rw [hes]
   have hel2:(es++[(a3,c3,xs)]).length=es.length+1:=by simp
   have hpk2:∀ e∈es++[((a3,c3,xs):BT)],e.2.2.length≤61000:=fun e he=>by
    rcases List.mem_append.1 he with h1|h1
    ·exact xU e h1
    ·simp at h1;subst h1;exact hxl
   have hel3:(es++[((a3,c3,xs):BT)]).map (fun e=>e.2.2)=GM C R (s.ps.take i)++I6 C R p.h (p.gs.take (j+1)):=by rw [hnx,List.map_append,hel,List.append_assoc];rfl
   generalize es++[(a3,c3,xs)]=es2 at *
   refine IH2 (j+1,a9,c9,es2) _ _ ?_ ?_ ?_ ?_
   ·simp only;omega
   ·exact ⟨rfl,rfl,trivial⟩
   ·exact cP
   ·exact ⟨by omega,hel3,by omega,hpk2,hH⟩
  ·obtain rfl:j=p.gs.length:=by omega
   clear IH2
   refine aK ?_
   replace hH:=hH.del 4
   replace hH:=aI hH
   refine IH (i+1,a,cap,es) _ _ ?_ ?_ ?_ ?_
   ·simp only;omega
   ·exact ⟨rfl,rfl,trivial⟩
   ·exact cP
   ·exact ⟨by omega,by rw [HD hpi,hel,List.take_length],by omega,xU,hH⟩
 ·obtain rfl:i=s.ps.length:=by omega
  clear IH
  rw [List.take_length] at hel
  refine aK ?_
  exact cR Tryz.func28 rfl ⟨a,cap,e0,es,rfl,hec0,hel,xU,by omega,hel0,((Rs.of 2 hH rfl).del 3).del 0⟩
noncomputable def I4 (C R:Nat) (s:ST):List Nat:=s.h.out++(GM C R s.ps).flatten
theorem JD {C R:Nat} {s s':ST} (h:s.eP=s'.eP):I4 C R s=I4 C R s':=by
 simp only [ST.eP,CS.mk.injEq] at h
 rw [I4,I4,h.1,KY h.2]
theorem Em:∀ {l:List BT},(∀ e∈l,e.2.2.length≤61000)→((l.map fun e=>e.2.2).flatten).length≤61000*l.length
 | [],_=>Nat.zero_le _
 | e::l,h=>by
  have h1:=h e (by simp)
  have h2:=Em (l:=l) (fun x hx=>h x (by simp [hx]))
  simp only [List.map_cons,List.flatten_cons,List.length_append,List.length_cons]
  omega
set_option maxRecDepth 20000 in
set_option maxHeartbeats 16000000 in
theorem vH {s:ST} {C R:Nat} {w:World} (hs:s.ok C R) (hrd:s.rd w) :
  aX Tryz.prog 9 #[.agg s.cells.toArray] w fun v w'=>∃ a c,v=.tuple #[.slice a (I4 C R s).length c,.int .i64 0]∧iA (gH a c (I4 C R s)) w w':=by
 refine aL (args:=[_]) Tryz.func9 rfl rfl Tryz.ntmps9 rfl ?_
 have hH:=Hp.start w
 have htc:=SH.eS hs.ho
 refine aK ?_
 refine aO ?_
 refine aA (bI (cs:=s.cells.toArray) hH rfl rfl rfl ?_)
 try clear hH
 intro _ b1 hH
 replace hH:=aI hH
 have hB1:=hH.b 0 rfl
 repeat (first|refine aR ?_|(refine aD (by refine aE rfl hB1 (by simp [htc]) (Ty.aF rfl)) rfl ?_)|refine aT ?_)
 clear hB1
 refine aO ?_
 refine aA (aC ((Az hs (hrd.ext hH.ext))) rfl rfl ?_)
 rintro _ _ ⟨a1,c1,e0,es,rfl,he0,hel,xU,hel2,he00,hQ⟩
 replace hH:=hH.calls 0 hQ
 clear hQ
 replace hH:=aI hH
 have dW:((e0::es).map fun e=>e.2.2).flatten=I4 C R s:=by rw [List.map_cons,List.flatten_cons,he0,hel];rfl
 have cW:∀ e∈e0::es,e.2.2.length≤61000:=fun e he=>by
  rcases List.mem_cons.1 he with rfl|he
  ·omega
  ·exact xU e he
 have hll:(e0::es).length=es.length+1:=rfl
 generalize e0::es=l at *
 rw [← dW,← hll]
 have hel3:l.length≤1025:=by omega
 refine aK ?_
 replace hH:=hH.nu (iA.tY (e:=5) (sz:=1))
 replace hH:=aI hH
 refine aV (G:=(Nat) × (Option Addr) × (Nat)) (fun|(i,a,cap)=>l.length-i) 133693760 (fun|(i,a,cap)=>[(6,.slice a (((l.take i).map fun e=>e.2.2).flatten).length cap),(19,.int .i64 i)]) (fun|(i,a,cap),w'=>i≤l.length∧Hp [] w w' [RL l,Rs a1 (l.map IG),Rb b1 34 s.cells.toArray,gH a cap ((l.take i).map fun e=>e.2.2).flatten]) (0,none,0) ⟨rfl,rfl,trivial⟩ ⟨by omega,hH⟩ ?_
 rintro ⟨i,a,cap⟩ w' σ ⟨hi,hH⟩ IH
 show WS _ _ _ _ _ (bQ [(6,.slice a (((l.take i).map fun e=>e.2.2).flatten).length cap),(19,.int .i64 i)] _) _
 by_cases hlt:i<l.length
 ·obtain ⟨e,hei⟩:∃ e,l[i]?=some e:=⟨_,List.getElem?_eq_getElem (by omega)⟩
  have hS1:=hH.s 1 rfl
  have hll2:(l.map IG).length=l.length:=by simp
  have hv:(l.map IG)[i]?=some (IG e):=by rw [List.getElem?_map,hei];rfl
  have hnx:((l.take (i+1)).map fun e=>e.2.2).flatten=((l.take i).map fun e=>e.2.2).flatten++e.2.2:=by
   rw [List.take_add_one,hei,List.map_append,List.flatten_append];simp
  have h1:=Em (l:=l.take i) (fun x hx=>cW x (List.mem_of_mem_take hx))
  have h2:=cW e (List.mem_of_getElem? hei)
  rw [List.length_take,Nat.min_eq_left hi] at h1
  have hSe:cI w' e.1 (e.2.2.map B):=(hH.at 0 rfl) e (List.mem_of_getElem? hei)
  repeat (first|refine aR ?_|(refine aD (by first|refine cG rfl rfl hS1 hll2 (Ty.sle rfl) (by omega)|refine aU rfl hS1 hv (Ty.aF rfl)) rfl ?_)|refine aT ?_)
  clear hS1
  refine aA (bZ 3 hH rfl (Ty.sle rfl) (Ty.bH rfl) rfl (Ty.gS rfl) (by decide) rfl rfl hSe (by simp) (fun u hu=>by obtain ⟨x,_,rfl⟩:=List.mem_map.1 hu;rfl) (by omega) (by simp only [maxLen];omega) rfl ?_)
  clear hH hSe
  intro _ a2 c2 hH
  replace hH:=aI hH
  rw [← List.map_append,← List.length_append,← hnx] at hH
  rw [← List.length_append,← hnx]
  refine aK ?_
  refine IH (i+1,a2,c2) _ _ ?_ ?_ ?_ ?_
  ·simp only;omega
  ·exact ⟨rfl,rfl,trivial⟩
  ·exact cP
  ·exact ⟨by omega,hH⟩
 ·obtain rfl:i=l.length:=by omega
  rw [List.take_length] at hH ⊢
  refine aK ?_
  exact cR Tryz.func9 rfl ⟨a,cap,rfl,hH.oA 3 rfl⟩
end Go.Proofs.YtdbnmbkjmeepkaaGreatDoor
