/- A part of the proof of the card of TopText; no condition. -/
import Derived.Test.YtdbnmbkjmeepkaaGreatDoorT38
namespace Go.Proofs.YtdbnmbkjmeepkaaGreatDoor
open Go Go.K Go.P Go.RowKit Go.Proofs
abbrev gM (f am cm:Nat) (ms:List MB):GR:=⟨f,some ⟨am,0,none⟩,cm,ms⟩
theorem O7:∀ k,k<5→∀ j,j<5→(kw k == kw j)=decide (k=j):=by decide
theorem C2 {G:List GR} {g:GR}:(G++[g]).flatMap GR.cells=G.flatMap GR.cells++g.cells:=by rw [List.flatMap_append,List.flatMap_singleton]
theorem On {G:List GR} {g:GR} {i:Nat} (hi:i<2):((G++[g]).flatMap GR.cells)[G.length*2+i]?=g.cells[i]?:=by
 have hl:=dQ (f:=GR.cells) (sz:=2) (l:=G) (fun _ _=>rfl)
 rw [C2,List.getElem?_append_right (by omega),hl,Nat.add_sub_cancel_left]
theorem NT {G:List GR} {g:GR} {v:Value} {i:Nat} (hi:i<2):((G++[g]).flatMap GR.cells).set (G.length*2+i) v=G.flatMap GR.cells++g.cells.set i v:=by
 have hl:=dQ (f:=GR.cells) (sz:=2) (l:=G) (fun _ _=>rfl)
 rw [C2,List.set_append_right _ _ (by omega),hl,Nat.add_sub_cancel_left]
theorem Cd {a:Option Addr} {c k:Nat}:∀ s∈dI (if c=k then a else a.map (·.add (k*1))),s∈dI a:=fun s hs=>by
 split at hs
 ·exact hs
 ·cases a with
  | none=>exact hs
  | some a =>
   have h:(a.add (k*1)).block=a.block:=by unfold Addr.add;split<;>rfl
   simp only [Option.map_some,dI,h] at hs
   exact hs
structure WD (w:World) (F:List Nat) (a:Option Addr) (n c:Nat) (ws:List cV):Prop where
 sl:cI w a (fV ws)
 len:ws.length=n
 cap:n≤c
 dj:∀ s∈F,s ∉ dI a
 lt:∀ s∈dI a,s<w.heap.size
theorem WD.ext {w w':World} {F:List Nat} {a:Option Addr} {n c:Nat} {ws:List cV} (h:WD w F a n c ws) (hE:Ext F w w'):WD w' F a n c ws:=⟨h.sl.ext hE h.dj,h.len,h.cap,h.dj,fun s hs=>Nat.lt_of_lt_of_le (h.lt s hs) hE.size⟩
theorem WD.drop {w:World} {F:List Nat} {a:Option Addr} {n c k:Nat} {ws:List cV} (h:WD w F a n c ws) (hk:k≤n):WD w F (if c=k then a else a.map (·.add (k*1))) (n-k) (c-k) (ws.drop k):=by
 refine ⟨?_,by rw [List.length_drop,h.len],by have:=h.cap;omega,fun s hs hb=>h.dj s hs (Cd s hb),fun s hs=>h.lt s (Cd s hs)⟩
 have h1:=DT (n:=n) (k:=k) h.sl (by rw [List.length_map,h.len]) hk h.cap
 rw [fV,List.map_drop]
 exact h1
theorem Ix {A:Prop} {Y:Fr→Option Addr→Nat→Nat→World→Prop} (Z:Option Addr→Nat→Nat→World→Prop) (h1:(∀ σ a n c u,Z a n c u→Y σ a n c u)→A) (h2:∀ σ a n c u,Z a n c u→Y σ a n c u):A:=h1 h2
theorem Ol {u:Value} (h:u.cells=#[u]):dU (fun i=>some (i*1,1)) [zV,zV,zV,zV] [(0,u),(1,u),(2,u),(3,u)]=some [u,u,u,u]:=by
 simp [dU,gG,h]
 rfl
theorem Ig {u:Value} (h:VG u):u.cells=#[u]:=by obtain ⟨x,y,_,_,rfl⟩:=h;rfl
set_option maxRecDepth 20000 in
set_option maxHeartbeats 16000000 in
theorem Dp {br nw cw cg f am cm:Nat} {aw ag:Option Addr} {d:RD} {P:List PR} {hp:PH} {G:List GR} {ms:List MB} {m:MB} {w:World} (ho:d.h.ok) (hps:d.ps=P++[⟨hp,ag,cg,G++[gM f am cm ms]⟩]) (hpl:d.ps.length≤16) (hGl:G.length≤64) (hroom:ms.length<cm) (hm:m.ok) (hqp:m.k≠4→m.q=d.qp)
  (hW:WD w (eY [Rb br 68 d.cells.toArray,Ro 60 5 d.a d.ps.length d.cap (d.ps.flatMap PR.cells),Ro 87 2 ag (G.length+1) cg ((G++[gM f am cm ms]).flatMap GR.cells),Ro 95 391 (some ⟨am,0,none⟩) ms.length cm (iO ms)]) aw nw cw (mC m)) (hS:Sep [Rb br 68 d.cells.toArray,Ro 60 5 d.a d.ps.length d.cap (d.ps.flatMap PR.cells),Ro 87 2 ag (G.length+1) cg ((G++[gM f am cm ms]).flatMap GR.cells),Ro 95 391 (some ⟨am,0,none⟩) ms.length cm (iO ms)] w) (hg:∀ u,Ext (eY [Rb br 68 d.cells.toArray,Ro 60 5 d.a d.ps.length d.cap (d.ps.flatMap PR.cells),Ro 87 2 ag (G.length+1) cg ((G++[gM f am cm ms]).flatMap GR.cells),Ro 95 391 (some ⟨am,0,none⟩) ms.length cm (iO ms)]) w u→GL u) :
  aX Tryz.prog 43 #[pt br,.slice aw nw cw] w fun v w'=>v=.tuple #[]∧Hp (eY [Rb br 68 d.cells.toArray,Ro 60 5 d.a d.ps.length d.cap (d.ps.flatMap PR.cells),Ro 87 2 ag (G.length+1) cg ((G++[gM f am cm ms]).flatMap GR.cells),Ro 95 391 (some ⟨am,0,none⟩) ms.length cm (iO ms)]) w w' [Rb br 68 ({ d with ps:=P++[⟨hp,ag,cg,G++[gM f am cm (ms++[m])]⟩],qp:=m.q }:RD).cells.toArray,Ro 60 5 d.a d.ps.length d.cap ((P++[(⟨hp,ag,cg,G++[gM f am cm (ms++[m])]⟩:PR)]).flatMap PR.cells),Ro 87 2 ag (G.length+1) cg ((G++[gM f am cm (ms++[m])]).flatMap GR.cells),Ro 95 391 (some ⟨am,0,none⟩) (ms++[m]).length cm (iO (ms++[m]))]:=by
 refine aL (args:=[_,_]) Tryz.func43 rfl rfl Tryz.ntmps43 rfl ?_
 have hH:=Hp.fQ hS
 have hrl:=oY (d:=d) ho
 have hk5:=hm.k5
 have hfm:=dQ (f:=PR.cells) (sz:=5) (l:=d.ps) (fun _ _=>rfl)
 have hfg:=dQ (f:=GR.cells) (sz:=2) (l:=G++[gM f am cm ms]) (fun _ _=>rfl)
 have hgl1:(G++[gM f am cm ms]).length=G.length+1:=by simp
 rw [hgl1] at hfg
 have hdl:d.ps.length=P.length+1:=by rw [hps];simp
 have him:(d.ps.length:Int)-1=(P.length:Nat):=by omega
 have hgm:((G.length+1:Nat):Int)-1=(G.length:Nat):=by omega
 have hp4:(d.ps.flatMap PR.cells)[P.length*5+4]?=some (.slice ag (G.length+1) cg):=by
  have hl:=dQ (f:=PR.cells) (sz:=5) (l:=P) (fun _ _=>rfl)
  rw [hps,pE,List.getElem?_append_right (by omega),hl,Nat.add_sub_cancel_left,← hgl1]
  rfl
 have hg1:((G++[gM f am cm ms]).flatMap GR.cells)[G.length*2+1]?=some (.slice (some ⟨am,0,none⟩) ms.length cm):=On (by decide)
 have hB:=hH.b 0 rfl
 have hSp:=(hH.o 1 rfl).sl
 have hSg:=(hH.o 2 rfl).sl
 refine aK ?_
 refine cD Ty.mixed 14 rfl (fun w1 hx1=>?_)
 refine bE 0 hx1 ?_
 refine AO ?_
 refine uN ?_
 refine D8 ?_
 refine aY 4 hx1 rfl (fun w' hw'=>by refine aB rfl (hB.aH hw') ((cQ ho (Nat.le_of_ble_eq_true rfl)).trans rfl) (Ty.aF rfl)) ?_
 refine bE 5 hx1 ?_
 refine aY 6 hx1 rfl (fun w' hw'=>by refine aG rfl) ?_
 refine xV ?_
 refine DJ ?_
 refine aY 9 hx1 rfl (fun w' hw'=>by refine aB rfl (hB.aH hw') ((cQ ho (Nat.le_of_ble_eq_true rfl)).trans rfl) (Ty.aF rfl)) ?_
 refine bE 10 hx1 ?_
 refine aY 11 hx1 rfl (fun w' hw'=>by refine (dM (m:=d.ps.length) (n:=1) rfl rfl (by omega)).is (congrArg (Value.int .i64) him)) ?_
 refine aY 12 hx1 rfl (fun w' hw'=>by refine gE (sz:=5) rfl rfl (hSp.aH hw') hfm (by decide) (Ty.sle rfl) (by omega)) ?_
 refine bE 13 hx1 ?_
 refine aW (by kernel_rfl) ?_
 replace hH:=hH.aH hx1
 replace hSp:=hSp.aH hx1
 replace hSg:=hSg.aH hx1
 clear hx1 hB
 refine aK ?_
 refine cD Ty.mixed 12 rfl (fun w1 hx1=>?_)
 refine bE 0 hx1 ?_
 refine AO ?_
 refine uN ?_
 refine aY 3 hx1 rfl (fun w' hw'=>by refine aU rfl (hSp.aH hw') hp4 (Ty.aF rfl)) ?_
 refine bE 4 hx1 ?_
 refine ID ?_
 refine xD ?_
 refine aY 7 hx1 rfl (fun w' hw'=>by refine aU rfl (hSp.aH hw') hp4 (Ty.aF rfl)) ?_
 refine bE 8 hx1 ?_
 refine aY 9 hx1 rfl (fun w' hw'=>by refine (dM (m:=(G.length+1:Nat)) (n:=1) rfl rfl (by omega)).is (congrArg (Value.int .i64) hgm)) ?_
 refine aY 10 hx1 rfl (fun w' hw'=>by refine gE (sz:=2) rfl rfl (hSg.aH hw') hfg (by decide) (Ty.sle rfl) (by omega)) ?_
 refine bE 11 hx1 ?_
 refine aW (by kernel_rfl) ?_
 replace hH:=hH.aH hx1
 replace hSg:=hSg.aH hx1
 clear hx1 hSp
 refine aK ?_
 refine cD Ty.mixed 11 rfl (fun w1 hx1=>?_)
 refine FL ?_
 refine AO ?_
 refine uN ?_
 refine aY 3 hx1 rfl (fun w' hw'=>by refine aU rfl (hSg.aH hw') hg1 (Ty.aF rfl)) ?_
 refine aY 4 hx1 rfl (fun w' hw'=>by refine yC rfl (Ty.LP rfl)) ?_
 refine aY 5 hx1 rfl (fun w' hw'=>by refine aP rfl) ?_
 refine aY 6 hx1 rfl (fun w' hw'=>by refine aG rfl) ?_
 refine xV ?_
 refine aY 8 hx1 rfl (fun w' hw'=>by refine aU rfl (hSg.aH hw') hg1 (Ty.aF rfl)) ?_
 refine aY 9 hx1 rfl (fun w' hw'=>by refine K5 rfl (Ty.LP rfl)) ?_
 refine aY 10 hx1 rfl (fun w' hw'=>by refine aP rfl) ?_
 refine aW (by kernel_rfl) ?_
 replace hH:=hH.aH hx1
 clear hx1 hSg
 refine aK ?_
 refine aA (aQ (zs:=mH 0 0 (List.replicate 384 0)) hH (Ty.bH rfl) rfl ?_)
 clear hH
 intro _ b6 hH
 replace hH:=aI hH
 have hm0:∀ k q x0 x1 x2 x3 e,(eF k q x0 x1 x2 x3 e (List.replicate 384 0)).length=391:=fun _ _ _ _ _ _ _=>bL List.length_replicate
 have hw0:∃ r,mC m=kw m.k::r:=⟨_,rfl⟩
 refine aK ?_
 refine aV (G:=(Nat)) (fun k=>5-k) 1152640029630136704 (fun k=>[(7,.bool (decide (m.k<k))),(48,.int .u8 k)]) (fun k w'=>k≤5∧Hp (eY [Rb br 68 d.cells.toArray,Ro 60 5 d.a d.ps.length d.cap (d.ps.flatMap PR.cells),Ro 87 2 ag (G.length+1) cg ((G++[gM f am cm ms]).flatMap GR.cells),Ro 95 391 (some ⟨am,0,none⟩) ms.length cm (iO ms)]) w w' [Rb br 68 d.cells.toArray,Ro 60 5 d.a d.ps.length d.cap (d.ps.flatMap PR.cells),Ro 87 2 ag (G.length+1) cg ((G++[gM f am cm ms]).flatMap GR.cells),Ro 95 391 (some ⟨am,0,none⟩) ms.length cm (iO ms),Rb b6 95 (mH (if m.k<k then m.k else 0) 0 (List.replicate 384 0)).toArray]) (0) ⟨rfl,rfl,trivial⟩ ⟨by omega,hH⟩ ?_
 rintro k w' σ ⟨hk,hH⟩ IH
 show WS _ _ _ _ _ (bQ [(7,.bool (decide (m.k<k))),(48,.int .u8 k)] _) _
 by_cases hk6:k<5
 ·refine aK ?_
  have hWc:=hW.ext hH.ext
  have hwl:(fV (mC m)).length=nw:=by rw [List.length_map];exact hW.len
  have hw1:(fV (mC m))[0]?=some (sV (kw m.k)):=rfl
  have hnw:0<nw:=by rw [← hW.len];simp [mC]
  refine cD Ty.mixed 6 rfl (fun w1 hx1=>?_)
  refine bE 0 hx1 ?_
  refine bE 2 hx1 ?_
  refine aY 3 hx1 rfl (fun w' hw'=>by refine cG rfl rfl (hWc.sl.aH hw') hwl (Ty.sle rfl) (by omega)) ?_
  refine aY 4 hx1 rfl (fun w' hw'=>by refine aU (v:=sV (kw m.k)) rfl (hWc.sl.aH hw') hw1 (Ty.aF rfl)) ?_
  refine bC 1 (by kernel_rfl) rfl rfl (aC (vP hk6) rfl rfl ?_)
  rintro _ w3 ⟨rfl,hE⟩
  have hx3:=hx1.bO hE
  refine ⟨hx3,?_⟩
  refine aY 5 hx3 rfl (fun w' hw'=>by refine (iV (l:=kw k) (m:=kw m.k) rfl rfl).is (congrArg Value.bool (O7 k hk6 m.k hk5))) ?_
  refine aW (by kernel_rfl) ?_
  replace hH:=hH.aH hx3
  clear hx1 hx3 hE
  have hk8:(k+1) % two .u8=k+1:=Nat.mod_eq_of_lt (show k+1<256 by omega)
  by_cases hkm:k=m.k
  ·subst hkm
   repeat (first|refine aR ?_|(refine aD (by refine aN rfl (Ty.bA rfl rfl)) rfl ?_)|refine aT ?_)
   refine aA (bV 4 (o:=0+0) (v:=.int .u8 m.k) hH rfl rfl rfl (by rw [hm0];decide) rfl (Ty.aF rfl) ?_)
   clear hH
   intro _ hH
   replace hH:=hH.as (r':=Rb b6 95 (mH (if m.k<m.k+1 then m.k else 0) 0 (List.replicate 384 0)).toArray) 4 rfl (fun _ h=>h) (fun h=>by rw [if_pos (by omega)];exact h)
   replace hH:=aI hH
   repeat (first|refine aR ?_|(refine aD (by refine (AA (m:=m.k) (n:=1) rfl rfl rfl).is (congrArg (fun n:Nat=>Value.int .u8 n) hk8)) rfl ?_)|refine aT ?_)
   refine IH (m.k+1) _ _ ?_ ?_ ?_ ?_
   ·omega
   ·exact ⟨by rw [decide_eq_true (show m.k<m.k+1 by omega)];rfl,rfl,trivial⟩
   ·exact cP
   ·exact ⟨by omega,hH⟩
  ·repeat (first|refine aR ?_|(refine aD (by refine (AA (m:=k) (n:=1) rfl rfl rfl).is (congrArg (fun n:Nat=>Value.int .u8 n) hk8)) rfl ?_)|refine aT ?_)
   have e:(if m.k<k then m.k else 0)=if m.k<k+1 then m.k else 0:=by split<;>split<;>omega
   rw [e] at hH
   refine IH (k+1) _ _ ?_ ?_ ?_ ?_
   ·omega
   ·exact ⟨by rw [show decide (m.k<k+1)=decide (m.k<k) from decide_eq_decide.2 (by omega)];rfl,rfl,trivial⟩
   ·exact cP
   ·exact ⟨by omega,hH⟩
 ·obtain rfl:k=5:=by omega
  clear IH
  rw [if_pos hk5] at hH
  have hnw:0<nw:=by rw [← hW.len];simp [mC]
  obtain ⟨R,hR⟩:∃ R:List cV,(if m.e then [DC] else [])++qQ m.L 384=R:=⟨_,rfl⟩
  have hmw:(mC m).drop 1=wZ m++R:=by rw [← hR];rfl
  obtain ⟨a1,n1,c1,hv1,hW1⟩:∃ a1 n1 c1,Value.slice (if cw=1 then aw else aw.map (·.add (1*1))) (nw-1) (cw-1)=.slice a1 n1 c1∧WD w (eY [Rb br 68 d.cells.toArray,Ro 60 5 d.a d.ps.length d.cap (d.ps.flatMap PR.cells),Ro 87 2 ag (G.length+1) cg ((G++[gM f am cm ms]).flatMap GR.cells),Ro 95 391 (some ⟨am,0,none⟩) ms.length cm (iO ms)]) a1 n1 c1 (wZ m++R):=⟨_,_,_,rfl,hmw▸hW.drop (k:=1) (by omega)⟩
  have hB:=hH.b 0 rfl
  repeat (first|refine aR ?_|(refine aD (by first|refine aG rfl|refine aN rfl (Ty.bA rfl rfl)|refine (nQ (l:=1) rfl rfl (Ty.sle rfl) (by omega)).is hv1|refine aB rfl hB ((cQ ho (Nat.le_of_ble_eq_true rfl)).trans rfl) (Ty.aF rfl)) rfl ?_)|refine aT ?_)
  clear hB hv1
  refine aA (bV 4 (o:=0+1) (v:=.int .i64 d.qp) hH rfl rfl rfl (by rw [hm0];decide) rfl (Ty.aF rfl) ?_)
  clear hH
  intro _ hH
  replace hH:=hH.as (r':=Rb b6 95 (mH m.k d.qp (List.replicate 384 0)).toArray) 4 rfl (fun _ h=>h) (fun h=>h)
  replace hH:=aI hH
  refine aK ?_
  have hW1l:=hW1.len
  rw [List.length_append] at hW1l
  apply Ix (Z:=fun a n c u=>WD w (eY [Rb br 68 d.cells.toArray,Ro 60 5 d.a d.ps.length d.cap (d.ps.flatMap PR.cells),Ro 87 2 ag (G.length+1) cg ((G++[gM f am cm ms]).flatMap GR.cells),Ro 95 391 (some ⟨am,0,none⟩) ms.length cm (iO ms)]) a n c R∧Hp (eY [Rb br 68 d.cells.toArray,Ro 60 5 d.a d.ps.length d.cap (d.ps.flatMap PR.cells),Ro 87 2 ag (G.length+1) cg ((G++[gM f am cm ms]).flatMap GR.cells),Ro 95 391 (some ⟨am,0,none⟩) ms.length cm (iO ms)]) w u [Rb br 68 ({ d with qp:=m.q }:RD).cells.toArray,Ro 60 5 d.a d.ps.length d.cap (d.ps.flatMap PR.cells),Ro 87 2 ag (G.length+1) cg ((G++[gM f am cm ms]).flatMap GR.cells),Ro 95 391 (some ⟨am,0,none⟩) ms.length cm (iO ms),Rb b6 95 (eF m.k m.q m.u0 m.u1 m.u2 m.u3 false (List.replicate 384 0)).toArray])
  ·intro key
   have hB6:=hH.b 4 rfl
   by_cases h4:m.k=4
   ·have hmd:wZ m=[La,Lib.itoa m.q]:=by rw [wZ,if_pos h4]
    rw [hmd] at hW1 hW1l
    have hWc:=hW1.ext hH.ext
    have hwl:(fV ([La,Lib.itoa m.q]++R)).length=n1:=by rw [List.length_map];exact hW1.len
    simp only [List.length_cons,List.length_nil] at hW1l
    repeat (first|refine aR ?_|(refine aD (by first|refine aN rfl (Ty.bA rfl rfl)|refine aB (v:=.int .u8 m.k) rfl hB6 rfl (Ty.aF rfl)|refine cG rfl rfl hWc.sl hwl (Ty.sle rfl) (by omega)|refine aU (v:=sV La) rfl hWc.sl rfl (Ty.aF rfl)|refine (iV (l:=La) (m:=La) rfl rfl).is (congrArg Value.bool (beq_self_eq_true _))|refine aU (v:=sV (Lib.itoa m.q)) rfl hWc.sl rfl (Ty.aF rfl)) rfl ?_)|refine aT ?_)
    clear hWc
    have hq1:=hm.q1
    refine aO ?_
    refine aA (aC ((dE (n:=m.q) (hg _ hH.ext) (by omega) (by omega))) rfl rfl ?_)
    rintro _ _ ⟨rfl,hE0⟩
    replace hH:=hH.aH hE0
    clear hE0
    replace hH:=aI hH
    repeat ((refine aD (by refine aN rfl (Ty.bA rfl rfl)) rfl ?_))
    refine aA (bV 4 (o:=0+1) (v:=.int .i64 m.q) hH rfl rfl rfl (by rw [hm0];decide) rfl (Ty.aF rfl) ?_)
    try clear hH
    intro _ hH
    replace hH:=hH.as (r':=Rb b6 95 (mH m.k m.q (List.replicate 384 0)).toArray) 4 rfl (fun _ h=>h) (fun h=>h)
    replace hH:=aI hH
    have hB6:=hH.b 4 rfl
    repeat (first|refine aR ?_|(refine aD (by first|refine aG rfl|refine aN rfl (Ty.bA rfl rfl)|refine aB (v:=.int .i64 m.q) rfl hB6 rfl (Ty.aF rfl)) rfl ?_)|refine aT ?_)
    refine aA (bV 0 (o:=0+135) (v:=.int .i64 m.q) hH rfl rfl rfl (by rw [hrl];decide) rfl (Ty.aF rfl) ?_)
    try clear hH
    intro _ hH
    rw [fS ho (by decide)] at hH
    replace hH:=hH.as (r':=Rb br 68 ({ d with qp:=m.q }:RD).cells.toArray) 0 rfl (fun _ h=>h) (fun h=>h)
    obtain ⟨a9,n9,c9,hv9,hW2⟩:∃ a9 n9 c9,Value.slice (if c1=2 then a1 else a1.map (·.add (2*1))) (n1-2) (c1-2)=.slice a9 n9 c9∧WD w (eY [Rb br 68 d.cells.toArray,Ro 60 5 d.a d.ps.length d.cap (d.ps.flatMap PR.cells),Ro 87 2 ag (G.length+1) cg ((G++[gM f am cm ms]).flatMap GR.cells),Ro 95 391 (some ⟨am,0,none⟩) ms.length cm (iO ms)]) a9 n9 c9 R:=⟨_,_,_,rfl,hW1.drop (k:=2) (by omega)⟩
    have hz:=hm.nil (by omega) (by omega)
    have ha:=hm.all (by omega)
    replace hH:=Hp.eqv (r':=Rb b6 95 (eF m.k m.q m.u0 m.u1 m.u2 m.u3 false (List.replicate 384 0)).toArray) 4 hH rfl (by rw [ha.1,ha.2.1,ha.2.2,hz])
    replace hH:=aI hH
    repeat (first|refine aR ?_|(refine aD (by refine (nQ (l:=2) rfl rfl (Ty.sle rfl) (by omega)).is hv9) rfl ?_)|refine aT ?_)
    exact eU fun u' hu=>cJ [(0,pt br),(1,.slice a9 n9 c9),(5,.pointer (some (At ag ((G.length:Int).toNat*2)))),(6,pt b6),(164,.bool (decide ((n9:Int) > 0)))] ⟨rfl,rfl,rfl,rfl,rfl,trivial⟩ (fun σ=>key σ a9 n9 c9 u' ⟨hW2,hu▸hH⟩)
   by_cases h1:m.k=1
   ·have hmd:wZ m=[dD m.u0]:=by rw [wZ,if_neg h4,if_pos h1]
    rw [hmd] at hW1 hW1l
    have hWc:=hW1.ext hH.ext
    have hwl:(fV ([dD m.u0]++R)).length=n1:=by rw [List.length_map];exact hW1.len
    simp only [List.length_cons,List.length_nil] at hW1l
    repeat (first|refine aR ?_|(refine aD (by first|refine aN rfl (Ty.bA rfl rfl)|refine aB (v:=.int .u8 m.k) rfl hB6 rfl (Ty.aF rfl)|refine cG rfl rfl hWc.sl hwl (Ty.sle rfl) (by omega)|refine aU (v:=sV (dD m.u0)) rfl hWc.sl rfl (Ty.aF rfl)) rfl ?_)|refine aT ?_)
    clear hWc
    refine aO ?_
    refine aA (aC ((jZ (hg _ hH.ext) hm.g0)) rfl rfl ?_)
    rintro _ _ ⟨rfl,hE0⟩
    replace hH:=hH.aH hE0
    clear hE0
    replace hH:=aI hH
    repeat (first|refine aR ?_|(refine aD (by first|refine aN rfl (Ty.bA rfl rfl)|refine dC (cs:=[m.u0,m.u0,m.u0,m.u0]) (Ty.bH rfl) (Ty.arr rfl) (Ol (Ig hm.g0))) rfl ?_)|refine aT ?_)
    have h1c:=hm.g0.one
    refine aA (mL 4 (o:=0+2) (vs:=[m.u0,m.u0,m.u0,m.u0]) (s:=4) hH rfl rfl rfl (by rw [hm0];exact (by decide:0+2+4≤391)) (by simp [h1c]) (Ty.aF rfl) rfl ?_)
    try clear hH
    intro _ hH
    obtain ⟨a9,n9,c9,hv9,hW2⟩:∃ a9 n9 c9,Value.slice (if c1=1 then a1 else a1.map (·.add (1*1))) (n1-1) (c1-1)=.slice a9 n9 c9∧WD w (eY [Rb br 68 d.cells.toArray,Ro 60 5 d.a d.ps.length d.cap (d.ps.flatMap PR.cells),Ro 87 2 ag (G.length+1) cg ((G++[gM f am cm ms]).flatMap GR.cells),Ro 95 391 (some ⟨am,0,none⟩) ms.length cm (iO ms)]) a9 n9 c9 R:=⟨_,_,_,rfl,hW1.drop (k:=1) (by omega)⟩
    have ha:=hm.all (by omega)
    replace hH:=Hp.eqv (r':=Rb br 68 ({ d with qp:=m.q }:RD).cells.toArray) 0 hH rfl (by
     show Rb br _ (d.h.cells++[Value.slice d.a d.ps.length d.cap,.int .i64 d.line,.int .i64 0,.int .i64 d.rows,.int .i64 d.qp]).toArray=Rb br _ (d.h.cells++[Value.slice d.a d.ps.length d.cap,.int .i64 d.line,.int .i64 0,.int .i64 d.rows,.int .i64 m.q]).toArray
     rw [hqp (by omega)])
    replace hH:=hH.as (r':=Rb b6 95 (eF m.k d.qp m.u0 m.u0 m.u0 m.u0 false (List.replicate 384 0)).toArray) 4 rfl (fun _ h=>h) (fun h=>h)
    replace hH:=Hp.eqv (r':=Rb b6 95 (eF m.k m.q m.u0 m.u1 m.u2 m.u3 false (List.replicate 384 0)).toArray) 4 hH rfl (by rw [ha.1,ha.2.1,ha.2.2,hqp (by omega)])
    replace hH:=aI hH
    repeat (first|refine aR ?_|(refine aD (by refine (nQ (l:=1) rfl rfl (Ty.sle rfl) (by omega)).is hv9) rfl ?_)|refine aT ?_)
    exact eU fun u' hu=>cJ [(0,pt br),(1,.slice a9 n9 c9),(5,.pointer (some (At ag ((G.length:Int).toNat*2)))),(6,pt b6),(164,.bool (decide ((n9:Int) > 0)))] ⟨rfl,rfl,rfl,rfl,rfl,trivial⟩ (fun σ=>key σ a9 n9 c9 u' ⟨hW2,hu▸hH⟩)
   by_cases h2:m.k=2
   ·have hmd:wZ m=[dD m.u0,dD m.u1,dD m.u2,dD m.u3]:=by rw [wZ,if_neg h4,if_neg h1,if_pos h2]
    rw [hmd] at hW1 hW1l
    have hwl:(fV ([dD m.u0,dD m.u1,dD m.u2,dD m.u3]++R)).length=n1:=by rw [List.length_map];exact hW1.len
    simp only [List.length_cons,List.length_nil] at hW1l
    repeat (first|refine aR ?_|(refine aD (by first|refine aN rfl (Ty.bA rfl rfl)|refine aB (v:=.int .u8 m.k) rfl hB6 rfl (Ty.aF rfl)) rfl ?_)|refine aT ?_)
    refine Bt ?_
    have hWc:=hW1.ext hH.ext
    repeat (first|refine aR ?_|(refine aD (by first|refine cG rfl rfl hWc.sl hwl (Ty.sle rfl) (by omega)|refine aU (v:=sV (dD (m.u0))) rfl hWc.sl rfl (Ty.aF rfl)) rfl ?_)|refine aT ?_)
    clear hWc
    refine aO ?_
    refine aA (aC ((jZ (hg _ hH.ext) hm.g0)) rfl rfl ?_)
    rintro _ _ ⟨rfl,hE0⟩
    replace hH:=hH.aH hE0
    clear hE0
    replace hH:=aI hH
    repeat ((refine aD (by first|refine aN rfl (Ty.bA rfl rfl)|refine qZ rfl rfl (Ty.arr rfl) (by omega)) rfl ?_))
    refine aA (bV 4 (o:=0+2+0*1) (v:=m.u0) hH rfl rfl rfl (by rw [hm0];decide) (hm.g0).one (Ty.aF rfl) ?_)
    try clear hH
    intro _ hH
    replace hH:=hH.as (r':=Rb b6 95 (eF m.k d.qp (m.u0) (zV) (zV) (zV) false (List.replicate 384 0)).toArray) 4 rfl (fun _ h=>h) (fun h=>h)
    replace hH:=aI hH
    refine aK ?_
    refine gP ?_
    have hWc:=hW1.ext hH.ext
    repeat (first|refine aR ?_|(refine aD (by first|refine cG rfl rfl hWc.sl hwl (Ty.sle rfl) (by omega)|refine aU (v:=sV (dD (m.u1))) rfl hWc.sl rfl (Ty.aF rfl)) rfl ?_)|refine aT ?_)
    clear hWc
    refine aO ?_
    refine aA (aC ((jZ (hg _ hH.ext) hm.g1)) rfl rfl ?_)
    rintro _ _ ⟨rfl,hE0⟩
    replace hH:=hH.aH hE0
    clear hE0
    replace hH:=aI hH
    repeat ((refine aD (by first|refine aN rfl (Ty.bA rfl rfl)|refine qZ rfl rfl (Ty.arr rfl) (by omega)) rfl ?_))
    refine aA (bV 4 (o:=0+2+1*1) (v:=m.u1) hH rfl rfl rfl (by rw [hm0];decide) (hm.g1).one (Ty.aF rfl) ?_)
    try clear hH
    intro _ hH
    replace hH:=hH.as (r':=Rb b6 95 (eF m.k d.qp (m.u0) (m.u1) (zV) (zV) false (List.replicate 384 0)).toArray) 4 rfl (fun _ h=>h) (fun h=>h)
    replace hH:=aI hH
    refine aK ?_
    refine gP ?_
    have hWc:=hW1.ext hH.ext
    repeat (first|refine aR ?_|(refine aD (by first|refine cG rfl rfl hWc.sl hwl (Ty.sle rfl) (by omega)|refine aU (v:=sV (dD (m.u2))) rfl hWc.sl rfl (Ty.aF rfl)) rfl ?_)|refine aT ?_)
    clear hWc
    refine aO ?_
    refine aA (aC ((jZ (hg _ hH.ext) hm.g2)) rfl rfl ?_)
    rintro _ _ ⟨rfl,hE0⟩
    replace hH:=hH.aH hE0
    clear hE0
    replace hH:=aI hH
    repeat ((refine aD (by first|refine aN rfl (Ty.bA rfl rfl)|refine qZ rfl rfl (Ty.arr rfl) (by omega)) rfl ?_))
    refine aA (bV 4 (o:=0+2+2*1) (v:=m.u2) hH rfl rfl rfl (by rw [hm0];decide) (hm.g2).one (Ty.aF rfl) ?_)
    try clear hH
    intro _ hH
    replace hH:=hH.as (r':=Rb b6 95 (eF m.k d.qp (m.u0) (m.u1) (m.u2) (zV) false (List.replicate 384 0)).toArray) 4 rfl (fun _ h=>h) (fun h=>h)
    replace hH:=aI hH
    refine aK ?_
    refine gP ?_
    have hWc:=hW1.ext hH.ext
    repeat (first|refine aR ?_|(refine aD (by first|refine cG rfl rfl hWc.sl hwl (Ty.sle rfl) (by omega)|refine aU (v:=sV (dD (m.u3))) rfl hWc.sl rfl (Ty.aF rfl)) rfl ?_)|refine aT ?_)
    clear hWc
    refine aO ?_
    refine aA (aC ((jZ (hg _ hH.ext) hm.g3)) rfl rfl ?_)
    rintro _ _ ⟨rfl,hE0⟩
    replace hH:=hH.aH hE0
    clear hE0
    replace hH:=aI hH
    repeat ((refine aD (by first|refine aN rfl (Ty.bA rfl rfl)|refine qZ rfl rfl (Ty.arr rfl) (by omega)) rfl ?_))
    refine aA (bV 4 (o:=0+2+3*1) (v:=m.u3) hH rfl rfl rfl (by rw [hm0];decide) (hm.g3).one (Ty.aF rfl) ?_)
    try clear hH
    intro _ hH
    replace hH:=hH.as (r':=Rb b6 95 (eF m.k d.qp (m.u0) (m.u1) (m.u2) (m.u3) false (List.replicate 384 0)).toArray) 4 rfl (fun _ h=>h) (fun h=>h)
    replace hH:=aI hH
    refine aK ?_
    refine gP ?_
    obtain ⟨a9,n9,c9,hv9,hW2⟩:∃ a9 n9 c9,Value.slice (if c1=4 then a1 else a1.map (·.add (4*1))) (n1-4) (c1-4)=.slice a9 n9 c9∧WD w (eY [Rb br 68 d.cells.toArray,Ro 60 5 d.a d.ps.length d.cap (d.ps.flatMap PR.cells),Ro 87 2 ag (G.length+1) cg ((G++[gM f am cm ms]).flatMap GR.cells),Ro 95 391 (some ⟨am,0,none⟩) ms.length cm (iO ms)]) a9 n9 c9 R:=⟨_,_,_,rfl,hW1.drop (k:=4) (by omega)⟩
    replace hH:=Hp.eqv (r':=Rb br 68 ({ d with qp:=m.q }:RD).cells.toArray) 0 hH rfl (by
     show Rb br _ (d.h.cells++[Value.slice d.a d.ps.length d.cap,.int .i64 d.line,.int .i64 0,.int .i64 d.rows,.int .i64 d.qp]).toArray=Rb br _ (d.h.cells++[Value.slice d.a d.ps.length d.cap,.int .i64 d.line,.int .i64 0,.int .i64 d.rows,.int .i64 m.q]).toArray
     rw [hqp (by omega)])
    replace hH:=Hp.eqv (r':=Rb b6 95 (eF m.k m.q m.u0 m.u1 m.u2 m.u3 false (List.replicate 384 0)).toArray) 4 hH rfl (by rw [hqp h4])
    replace hH:=aI hH
    repeat (first|refine aR ?_|(refine aD (by refine (nQ (l:=4) rfl rfl (Ty.sle rfl) (by omega)).is hv9) rfl ?_)|refine aT ?_)
    exact eU fun u' hu=>cJ [(0,pt br),(1,.slice a9 n9 c9),(5,.pointer (some (At ag ((G.length:Int).toNat*2)))),(6,pt b6),(164,.bool (decide ((n9:Int) > 0)))] ⟨rfl,rfl,rfl,rfl,rfl,trivial⟩ (fun σ=>key σ a9 n9 c9 u' ⟨hW2,hu▸hH⟩)
   ·have hmd:wZ m=[]:=by rw [wZ,if_neg h4,if_neg h1,if_neg h2]
    rw [hmd,List.nil_append] at hW1
    repeat (first|refine aR ?_|(refine aD (by first|refine aN rfl (Ty.bA rfl rfl)|refine aB (v:=.int .u8 m.k) rfl hB6 rfl (Ty.aF rfl)) rfl ?_)|refine aT ?_)
    obtain ⟨a9,ha9⟩:∃ x,a1=x:=⟨_,rfl⟩
    obtain ⟨n9,hn9⟩:∃ x,n1=x:=⟨_,rfl⟩
    obtain ⟨c9,hc9⟩:∃ x,c1=x:=⟨_,rfl⟩
    have hW2:WD w (eY [Rb br 68 d.cells.toArray,Ro 60 5 d.a d.ps.length d.cap (d.ps.flatMap PR.cells),Ro 87 2 ag (G.length+1) cg ((G++[gM f am cm ms]).flatMap GR.cells),Ro 95 391 (some ⟨am,0,none⟩) ms.length cm (iO ms)]) a9 n9 c9 R:=by rw [← ha9,← hn9,← hc9];exact hW1
    have hz:=hm.nil h1 h2
    have ha:=hm.all h2
    replace hH:=Hp.eqv (r':=Rb br 68 ({ d with qp:=m.q }:RD).cells.toArray) 0 hH rfl (by
     show Rb br _ (d.h.cells++[Value.slice d.a d.ps.length d.cap,.int .i64 d.line,.int .i64 0,.int .i64 d.rows,.int .i64 d.qp]).toArray=Rb br _ (d.h.cells++[Value.slice d.a d.ps.length d.cap,.int .i64 d.line,.int .i64 0,.int .i64 d.rows,.int .i64 m.q]).toArray
     rw [hqp (by omega)])
    replace hH:=Hp.eqv (r':=Rb b6 95 (eF m.k m.q m.u0 m.u1 m.u2 m.u3 false (List.replicate 384 0)).toArray) 4 hH rfl (by rw [ha.1,ha.2.1,ha.2.2,hz,hqp h4])
    replace hH:=aI hH
    exact eU fun u' hu=>cJ [(0,pt br),(1,.slice a9 n9 c9),(5,.pointer (some (At ag ((G.length:Int).toNat*2)))),(6,pt b6),(164,.bool (decide ((n9:Int) > 0)))] ⟨rfl,by rw [← ha9,← hn9,← hc9];rfl,rfl,rfl,by rw [← hn9];rfl,trivial⟩ (fun σ=>key σ a9 n9 c9 u' ⟨hW2,hu▸hH⟩)
  clear hH
  rintro σ a n c w5 ⟨hWr,hH⟩
  have hB6:=hH.b 4 rfl
  have hlv:=nW m.L 384
  apply Ix (Z:=fun a n c u=>WD w (eY [Rb br 68 d.cells.toArray,Ro 60 5 d.a d.ps.length d.cap (d.ps.flatMap PR.cells),Ro 87 2 ag (G.length+1) cg ((G++[gM f am cm ms]).flatMap GR.cells),Ro 95 391 (some ⟨am,0,none⟩) ms.length cm (iO ms)]) a n c (qQ m.L 384)∧Hp (eY [Rb br 68 d.cells.toArray,Ro 60 5 d.a d.ps.length d.cap (d.ps.flatMap PR.cells),Ro 87 2 ag (G.length+1) cg ((G++[gM f am cm ms]).flatMap GR.cells),Ro 95 391 (some ⟨am,0,none⟩) ms.length cm (iO ms)]) w u [Rb br 68 ({ d with qp:=m.q }:RD).cells.toArray,Ro 60 5 d.a d.ps.length d.cap (d.ps.flatMap PR.cells),Ro 87 2 ag (G.length+1) cg ((G++[gM f am cm ms]).flatMap GR.cells),Ro 95 391 (some ⟨am,0,none⟩) ms.length cm (iO ms),Rb b6 95 (eF m.k m.q m.u0 m.u1 m.u2 m.u3 m.e (List.replicate 384 0)).toArray])
  ·intro key
   have hWc:=hWr.ext hH.ext
   have hwl:(fV R).length=n:=by rw [List.length_map];exact hWr.len
   obtain ⟨me,hme⟩:∃ b,m.e=b:=⟨_,rfl⟩
   cases me with
   | true =>
    have hR2:R=DC::qQ m.L 384:=by rw [← hR,hme,if_pos rfl,List.singleton_append]
    have hn:0<n:=by rw [← hWr.len,hR2];simp
    have hw0:(fV R)[0]?=some (sV DC):=by
     rw [hR2]
     show (sV DC::fV (qQ m.L 384))[0]?=_
     rw [List.getElem?_cons_zero]
    repeat (first|refine aR ?_|(refine aD (by first|refine cG rfl rfl hWc.sl hwl (Ty.sle rfl) (by omega)|refine aU (v:=sV DC) rfl hWc.sl hw0 (Ty.aF rfl)|refine (iV (l:=DC) (m:=DC) rfl rfl).is (congrArg Value.bool (beq_self_eq_true _))|refine aN rfl (Ty.bA rfl rfl)) rfl ?_)|refine aT ?_)
    clear hWc
    refine aA (bV 4 (o:=0+6) (v:=.bool true) hH rfl rfl rfl (by rw [hm0];decide) rfl (Ty.aF rfl) ?_)
    try clear hH
    intro _ hH
    replace hH:=hH.as (r':=Rb b6 95 (eF m.k m.q m.u0 m.u1 m.u2 m.u3 true (List.replicate 384 0)).toArray) 4 rfl (fun _ h=>h) (fun h=>h)
    replace hH:=Hp.eqv (r':=Rb b6 95 (eF m.k m.q m.u0 m.u1 m.u2 m.u3 m.e (List.replicate 384 0)).toArray) 4 hH rfl (by rw [hme])
    replace hH:=aI hH
    obtain ⟨a9,n9,c9,hv9,hW2⟩:∃ a9 n9 c9,Value.slice (if c=1 then a else a.map (·.add (1*1))) (n-1) (c-1)=.slice a9 n9 c9∧WD w (eY [Rb br 68 d.cells.toArray,Ro 60 5 d.a d.ps.length d.cap (d.ps.flatMap PR.cells),Ro 87 2 ag (G.length+1) cg ((G++[gM f am cm ms]).flatMap GR.cells),Ro 95 391 (some ⟨am,0,none⟩) ms.length cm (iO ms)]) a9 n9 c9 (qQ m.L 384):=⟨_,_,_,rfl,(by rw [hR2] at hWr;exact hWr.drop (k:=1) (by omega))⟩
    repeat (first|refine aR ?_|(refine aD (by refine (nQ (l:=1) rfl rfl (Ty.sle rfl) (by omega)).is hv9) rfl ?_)|refine aT ?_)
    exact eU fun u' hu=>cJ [(0,pt br),(5,.pointer (some (At ag ((G.length:Int).toNat*2)))),(6,pt b6),(173,pt br),(174,.slice a9 n9 c9)] ⟨rfl,rfl,rfl,rfl,rfl,trivial⟩ (fun σ=>key σ a9 n9 c9 u' ⟨hW2,hu▸hH⟩)
   | false =>
    have hR2:R=qQ m.L 384:=by rw [← hR,hme,if_neg (by decide),List.nil_append]
    by_cases hn:n=0
    ·refine aK ?_
     obtain ⟨a9,ha9⟩:∃ x,a=x:=⟨_,rfl⟩
     obtain ⟨n9,hn9⟩:∃ x,n=x:=⟨_,rfl⟩
     obtain ⟨c9,hc9⟩:∃ x,c=x:=⟨_,rfl⟩
     have hW2:WD w (eY [Rb br 68 d.cells.toArray,Ro 60 5 d.a d.ps.length d.cap (d.ps.flatMap PR.cells),Ro 87 2 ag (G.length+1) cg ((G++[gM f am cm ms]).flatMap GR.cells),Ro 95 391 (some ⟨am,0,none⟩) ms.length cm (iO ms)]) a9 n9 c9 (qQ m.L 384):=by rw [← ha9,← hn9,← hc9,← hR2];exact hWr
     replace hH:=Hp.eqv (r':=Rb b6 95 (eF m.k m.q m.u0 m.u1 m.u2 m.u3 m.e (List.replicate 384 0)).toArray) 4 hH rfl (by rw [hme])
     replace hH:=aI hH
     exact eU fun u' hu=>cJ [(0,pt br),(5,.pointer (some (At ag ((G.length:Int).toNat*2)))),(6,pt b6),(173,pt br),(174,.slice a9 n9 c9)] ⟨rfl,rfl,rfl,rfl,by rw [← ha9,← hn9,← hc9];rfl,trivial⟩ (fun σ=>key σ a9 n9 c9 u' ⟨hW2,hu▸hH⟩)
    ·obtain ⟨x,hx,hxe⟩:∃ x,(fV R)[0]?=some (sV x)∧(x == DC)=false:=by
      have hlen:R.length=n:=hWr.len
      obtain ⟨x,hx⟩:∃ x,R[0]?=some x:=⟨_,List.getElem?_eq_getElem (by omega)⟩
      refine ⟨x,by rw [List.getElem?_map,hx];rfl,?_⟩
      have hxm:=List.mem_of_getElem? hx
      rw [hR2,AM] at hxm
      obtain ⟨j,_,rfl⟩:=List.mem_map.1 hxm
      refine IU (fun e=>?_)
      have h58:(58:UInt8)∈lw m.L j:=by simp [lw,Gg]
      rw [e] at h58
      exact absurd h58 (by decide)
     repeat (first|refine aR ?_|(refine aD (by first|refine cG rfl rfl hWc.sl hwl (Ty.sle rfl) (by omega)|refine aU rfl hWc.sl hx (Ty.aF rfl)|refine (iV (l:=x) (m:=DC) rfl rfl).is (congrArg Value.bool hxe)) rfl ?_)|refine aT ?_)
     obtain ⟨a9,ha9⟩:∃ x,a=x:=⟨_,rfl⟩
     obtain ⟨n9,hn9⟩:∃ x,n=x:=⟨_,rfl⟩
     obtain ⟨c9,hc9⟩:∃ x,c=x:=⟨_,rfl⟩
     have hW2:WD w (eY [Rb br 68 d.cells.toArray,Ro 60 5 d.a d.ps.length d.cap (d.ps.flatMap PR.cells),Ro 87 2 ag (G.length+1) cg ((G++[gM f am cm ms]).flatMap GR.cells),Ro 95 391 (some ⟨am,0,none⟩) ms.length cm (iO ms)]) a9 n9 c9 (qQ m.L 384):=by rw [← ha9,← hn9,← hc9,← hR2];exact hWr
     replace hH:=Hp.eqv (r':=Rb b6 95 (eF m.k m.q m.u0 m.u1 m.u2 m.u3 m.e (List.replicate 384 0)).toArray) 4 hH rfl (by rw [hme])
     replace hH:=aI hH
     exact eU fun u' hu=>cJ [(0,pt br),(5,.pointer (some (At ag ((G.length:Int).toNat*2)))),(6,pt b6),(173,pt br),(174,.slice a9 n9 c9)] ⟨rfl,rfl,rfl,rfl,by rw [← ha9,← hn9,← hc9];rfl,trivial⟩ (fun σ=>key σ a9 n9 c9 u' ⟨hW2,hu▸hH⟩)
  clear hH hB6
  rintro σ a n c w6 ⟨hWr,hH⟩
  have hWc:=hWr.ext hH.ext
  have hb6:b6 ∉ dI a:=fun h=>by
   rcases hH.new _ (List.mem_of_getElem? (i:=4) rfl) b6 (by simp [Rb]) with h1|h1
   ·exact hWr.dj b6 h1 h
   ·exact absurd (hWr.lt b6 h) (by omega)
  have hLb:∀ x∈m.L,-2047≤x∧x≤2047:=fun x hx=>(by
   obtain ⟨i,hi⟩:=List.mem_iff_getElem?.1 hx
   exact (hm.lv i x hi).1)
  refine aO ?_
  refine aA (aC ((A3 (L:=m.L) (n:=n) (c:=c) (a:=a) (bm:=b6) (fun u hE=>hg u (hH.ext.trans hE (fun t ht=>hH.new _ (List.mem_of_getElem? (i:=4) rfl) t ht))) hm.len hLb hWc.sl hWc.len (hH.at 4 rfl) hb6)) rfl rfl ?_)
  rintro _ _ ⟨rfl,hU⟩
  replace hH:=hH.up 4 rfl hU
  clear hU hWc
  replace hH:=aI hH
  refine aK ?_
  have hml2:m.cells.length=391:=bL hm.len
  have hB6:=hH.b 4 rfl
  have hSg:=(hH.o 2 rfl).sl
  have hda:∀ s∈[am],s ∉ dI ag:=fun s hs h=>hH.dj 3 2 rfl rfl (by decide) s hs h
  have hd6:∀ s∈[am],s ∉ [b6]:=fun s hs h=>hH.dj 3 4 rfl rfl (by decide) s hs h
  refine oG fun w0 hw0=>?_
  rw [← hw0] at hH hB6 hSg
  clear hw0
  refine iL Ty.mixed 8 rfl (by kernel_rfl) rfl (fun v=>Ext [am] w0 v) ?_
  have hx1:Ext [am] w0 w0.drew:=Ext.dV
  refine bE 0 hx1 ?_
  refine bE 1 hx1 ?_
  refine xF ?_
  refine D8 ?_
  refine aY 4 hx1 rfl (fun w' hw'=>by refine aU rfl (hSg.ext hw' hda) hg1 (Ty.aF rfl)) ?_
  refine aY 5 hx1 rfl (fun w' hw'=>by refine aE rfl (hB6.ext hw' (fun h=>hd6 b6 (by simpa using h) (by simp))) (by rw [List.size_toArray,hml2]) (Ty.aF rfl)) ?_
  replace hH:=hH.aH (Ext.dV (S:=[]))
  refine bC 6 (by kernel_rfl) rfl rfl ?_
  refine oK (out:=m.cells) (Ty.sle rfl) (Ty.bH rfl) rfl (OU rfl hml2) rfl (by decide) rfl ?_
  intro w7 bl hbl hE7 hB7 _
  have hx7:Ext [am] w0 w7:=hx1.trans hE7 (by simp)
  refine ⟨hx7,?_⟩
  replace hH:=hH.aH hE7
  refine bC 7 (by kernel_rfl) rfl rfl ?_
  refine Fw (b:=am) (n:=ms.length) (cap:=cm) (m:=1) (bytes:=3160) (vs:=iO ms) (news:=m.cells) (Ty.sle rfl) (Ty.bH rfl) (bL List.length_replicate) (Ty.gS rfl) (by decide) rfl (hH.o 3 rfl) rfl hB7.cX (by rw [hml2]) (fun v hv=>dZ hm v (by simpa using hv)) (by decide) (by omega) rfl ?_
  intro w8 hE8 hO8
  refine ⟨hx7.trans hE8 (by simp),?_⟩
  replace hH:=hH.up 3 rfl (r':=Ro 95 391 (some ⟨am,0,none⟩) (ms.length+1) cm (iO ms++m.cells)) ⟨hE8,hO8,fun _ hx=>.inl hx⟩
  replace hH:=aI hH
  refine aW (by kernel_rfl) ?_
  clear hx1 hx7 hE7 hE8 hO8 hSg hB7 hB6
  repeat ((refine aD (by first|refine aG rfl|refine aN rfl (Ty.bA rfl rfl)) rfl ?_))
  refine aA (jU 2 (o:=(G.length:Int).toNat*2+1) (v:=.slice (some ⟨am,0,none⟩) (ms.length+1) cm) hH rfl rfl rfl (by omega) rfl (Ty.aF rfl) ?_)
  clear hH
  intro _ hH
  have hset:((G++[gM f am cm ms]).flatMap GR.cells).set ((G.length:Int).toNat*2+1) (.slice (some ⟨am,0,none⟩) (ms.length+1) cm)=(G++[gM f am cm (ms++[m])]).flatMap GR.cells:=by
   rw [Int.toNat_natCast,NT (by decide),C2]
   have e:(ms++[m]).length=ms.length+1:=by simp
   show _=G.flatMap GR.cells++[Value.int .i64 f,Value.slice (some ⟨am,0,none⟩) (ms++[m]).length cm]
   rw [e]
   rfl
  have hmc:iO ms++m.cells=iO (ms++[m]):=by simp [iO]
  have hmn:ms.length+1=(ms++[m]).length:=by simp
  rw [hset,hmc] at hH
  replace hH:=hH.take 4
  replace hH:=aI hH
  have hpn:(P++[(⟨hp,ag,cg,G++[gM f am cm (ms++[m])]⟩:PR)]).length=d.ps.length:=by rw [hdl];simp
  have hpc:d.ps.flatMap PR.cells=(P++[(⟨hp,ag,cg,G++[gM f am cm (ms++[m])]⟩:PR)]).flatMap PR.cells:=by
   rw [hps,pE,pE]
   have e:(G++[gM f am cm ms]).length=(G++[gM f am cm (ms++[m])]).length:=by simp
   show _++[Value.int .i64 hp.id,.bool hp.inter,.bool hp.down,.int .i64 hp.qp,.slice ag (G++[gM f am cm ms]).length cg]=_++[Value.int .i64 hp.id,.bool hp.inter,.bool hp.down,.int .i64 hp.qp,.slice ag (G++[gM f am cm (ms++[m])]).length cg]
   rw [e]
  replace hH:=Hp.eqv (r':=Rb br 68 ({ d with ps:=P++[⟨hp,ag,cg,G++[gM f am cm (ms++[m])]⟩],qp:=m.q }:RD).cells.toArray) 0 hH rfl (by
   show Rb br _ (d.h.cells++[Value.slice d.a d.ps.length d.cap,.int .i64 d.line,.int .i64 0,.int .i64 d.rows,.int .i64 m.q]).toArray=Rb br _ (d.h.cells++[Value.slice d.a (P++[(⟨hp,ag,cg,G++[gM f am cm (ms++[m])]⟩:PR)]).length d.cap,.int .i64 d.line,.int .i64 0,.int .i64 d.rows,.int .i64 m.q]).toArray
   rw [hpn])
  replace hH:=Hp.eqv (r':=Ro 60 5 d.a d.ps.length d.cap ((P++[(⟨hp,ag,cg,G++[gM f am cm (ms++[m])]⟩:PR)]).flatMap PR.cells)) 1 hH rfl (by rw [hpc])
  replace hH:=Hp.eqv (r':=Ro 95 391 (some ⟨am,0,none⟩) (ms++[m]).length cm (iO (ms++[m]))) 3 hH rfl (by rw [hmn])
  replace hH:=aI hH
  refine aK ?_
  exact cE Tryz.func43 rfl ⟨rfl,hH⟩
end Go.Proofs.YtdbnmbkjmeepkaaGreatDoor
