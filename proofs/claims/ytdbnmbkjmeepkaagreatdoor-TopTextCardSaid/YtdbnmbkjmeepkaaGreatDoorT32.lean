/- A part of the proof of the card of TopText; no condition. -/
import Derived.Test.YtdbnmbkjmeepkaaGreatDoorT31
namespace Go.Proofs.YtdbnmbkjmeepkaaGreatDoor
open Go Go.K Go.P Go.RowKit Go.Proofs
theorem Ob {C:CF} (ho:C.h.ok):(C.cells.drop (0+0+2)).take 129=C.h.tc:=by
 show (C.h.tc++C.tail).take 129=_
 exact List.take_left' (SH.eS ho)
theorem Ny {C:CF} (ho:C.h.ok):(C.cells.drop (0+0)).take 131=C.h.cells:=uD ho
theorem OU {ρ:Fr} {x:Operand} {sz:Nat} {cs:List Value} (hx:ev ρ x=.agg cs.toArray) (hl:cs.length=sz):fL ρ sz 0 [(0,x)]=some cs:=by
 simp [fL,hx,Value.cells,hl]
abbrev fz:List Value:=[.int .i64 0,.int .i64 0,.int .i64 0,.int .i64 0,.slice none 0 0,.int .i64 0,.int .i64 0,.slice none 0 0,.int .i64 0,.int .i64 0,.slice none 0 0]
set_option maxRecDepth 20000 in
set_option maxHeartbeats 16000000 in
theorem xQ {bx i c r:Nat} {k:KD} {e:ES} {f:FM} {w:World} (hk:k.ok) (hC:e.C.ok) (hcc:e.C.h.c=c) (hrr:e.C.h.r=r) (hc:1≤c∧c≤8) (hr:1≤r∧r≤8) (hi:i≤100) (hbc:e.bc=k.bc) (hq:1≤e.qp∧e.qp≤31) (hg:e.g.ok c r) (hf:f.ok c r)
  (hS:Sep [Rb bx 105 e.cells.toArray,RK k,rS e.g] w) (hfr:∀ u,Ext (eY [Rb bx 105 e.cells.toArray,RK k,rS e.g]) w u→f.rd u) :
  aX Tryz.prog 32 #[pt bx,.int .i64 i,.agg f.cells.toArray] w fun v w'=>∃ (p:PR) (F:FM) (e':ES),v=.tuple #[.agg p.cells.toArray,.agg F.cells.toArray,.int .i64 0]∧p.ok c r i∧F.ok c r∧(e'.C=e.C∧e'.bc=k.bc∧e'.g=e.g∧1≤e'.qp∧e'.qp≤31)∧Hp (eY [Rb bx 105 e.cells.toArray,RK k,rS e.g]) w w' [rS F,Rb bx 105 e'.cells.toArray,RK k,rS e.g,Rs none [],rP p]:=by
 refine aL (args:=[_,_,_]) Tryz.func32 rfl rfl Tryz.ntmps32 rfl ?_
 have hH:=(Hp.fQ hS).nu (iA.Lp (a:=none))
 replace hH:=aI hH
 have ho:=hC.ho
 have hcl:e.C.cells.length=139:=by rw [CF.cells,List.length_append,SH.bK ho];rfl
 have hcr:=Q7 hc hr
 have hmany:=hC.many
 refine aK ?_
 refine aO ?_
 refine aA (bI (cs:=f.cells.toArray) hH rfl rfl rfl ?_)
 try clear hH
 intro _ b5 hH
 replace hH:=aI hH
 refine aK ?_
 refine aO ?_
 refine aA (aQ hH (Ty.bH rfl) rfl ?_)
 try clear hH
 intro _ b6 hH
 replace hH:=aI hH
 refine aK ?_
 refine aO ?_
 refine aA (aQ hH (Ty.bH rfl) rfl ?_)
 try clear hH
 intro _ b7 hH
 replace hH:=aI hH
 have hS0:cI _ (some ⟨bx,0,none⟩) e.cells:=(hH.b 0 rfl).cX
 repeat (first|refine aR ?_|(refine aD (by first|refine aG rfl|refine aN rfl (Ty.bA rfl rfl)|refine bG (j:=0+0) (cs:=e.C.cells) rfl hS0 (PO ho) hcl (Ty.aF rfl)) rfl ?_)|refine aT ?_)
 clear hS0
 refine aA (aQ (zs:=No) hH (Ty.bH rfl) rfl ?_)
 clear hH
 intro _ b9 hH
 replace hH:=aI hH
 refine aK ?_
 refine aA (aJ 7 (vs:=e.C.cells.toArray) (s:=139) hH rfl rfl rfl (by simpa using hcl) (by kernel_rfl) Ho (Ty.aF rfl) ?_)
 clear hH
 intro _ hH
 replace hH:=aI hH
 repeat (first|refine aR ?_|(refine aD (by first|refine aG rfl|refine aN rfl (Ty.bA rfl rfl)) rfl ?_)|refine aT ?_)
 refine aA (bV 0 (o:=0+152) (v:=.int .i64 i) hH rfl rfl rfl (by rw [kN ho];decide) rfl (Ty.aF rfl) ?_)
 clear hH
 intro _ hH
 rw [fS ho (by decide)] at hH
 replace hH:=hH.as (r':=Rb bx 105 ({ e with pic:=i }:ES).cells.toArray) 0 rfl (fun _ h=>h) (fun h=>h)
 replace hH:=aI hH
 have hB9:=hH.b 7 rfl
 obtain ⟨ev,hev⟩:∃ n:Nat,e.C.every=n:=⟨_,rfl⟩
 have hl2:e.C.cells.toArray[0+133]?=some (.int .i64 e.C.far):=(cQ ho (Nat.le_of_ble_eq_true rfl)).trans rfl
 have hlev:e.C.cells.toArray[0+132]?=some (.int .i64 ev):=(cQ ho (Nat.le_of_ble_eq_true rfl)).trans (by rw [← hev];rfl)
 clear hl2
 refine aK ?_
 apply LD (Z:=fun xi u=>(i=0→xi=false)∧Hp (eY [Rb bx 105 e.cells.toArray,RK k,rS e.g]) w u [Rb bx 105 ({ e with pic:=i,inter:=xi }:ES).cells.toArray,RK k,rS e.g,Rs none [],Rb b5 54 f.cells.toArray,Rb b6 60 (PR.cells ⟨⟨0,false,false,0⟩,none,0,[]⟩).toArray,Rb b7 54 fz.toArray,Rb b9 28 e.C.cells.toArray])
 ·intro key
  by_cases h0:i=0
  ·have hgt:decide ((i:Int) > 0)=false:=decide_eq_false (by omega)
   repeat (first|refine aR ?_|(refine aD (by first|refine aG rfl|refine aN rfl (Ty.bA rfl rfl)) rfl ?_)|refine aT ?_)
   refine aA (bV 0 (o:=0+155) (v:=.bool false) hH rfl rfl rfl (by rw [kN (e:={ e with pic:=i }) ho];decide) rfl (Ty.aF rfl) ?_)
   try clear hH
   intro _ hH
   rw [fS ho (by decide)] at hH
   obtain ⟨x9,hx9⟩:∃ x9,x9=false:=⟨_,rfl⟩
   replace hH:=hH.as (r':=Rb bx 105 ({ e with pic:=i,inter:=x9 }:ES).cells.toArray) 0 rfl (fun _ h=>h) (fun h=>by rw [hx9];exact h)
   replace hH:=aI hH
   exact eU fun u' hu=>cJ [(0,pt bx),(1,.int .i64 i),(5,pt b5),(6,pt b6),(7,pt b7),(9,pt b9)] ⟨rfl,rfl,rfl,rfl,rfl,rfl,trivial⟩ (fun σ=>key σ x9 u' ⟨fun h=>by exact hx9,hu▸hH⟩)
  ·have hgt:decide ((i:Int) > 0)=true:=decide_eq_true (by omega)
   by_cases he0:ev=0
   ·have hge:decide ((ev:Int)=0)=true:=decide_eq_true (by omega)
    repeat (first|refine aR ?_|(refine aD (by first|refine aG rfl|refine aN rfl (Ty.bA rfl rfl)|refine (aP (v:=.bool (decide ((ev:Int)=0))) rfl).is (congrArg Value.bool hge)|refine aB rfl hB9 hlev (Ty.aF rfl)) rfl ?_)|refine aT ?_)
    refine aA (bV 0 (o:=0+155) (v:=.bool true) hH rfl rfl rfl (by rw [kN (e:={ e with pic:=i }) ho];decide) rfl (Ty.aF rfl) ?_)
    try clear hH
    intro _ hH
    rw [fS ho (by decide)] at hH
    obtain ⟨x9,hx9⟩:∃ x9,x9=true:=⟨_,rfl⟩
    replace hH:=hH.as (r':=Rb bx 105 ({ e with pic:=i,inter:=x9 }:ES).cells.toArray) 0 rfl (fun _ h=>h) (fun h=>by rw [hx9];exact h)
    replace hH:=aI hH
    exact eU fun u' hu=>cJ [(0,pt bx),(1,.int .i64 i),(5,pt b5),(6,pt b6),(7,pt b7),(9,pt b9)] ⟨rfl,rfl,rfl,rfl,rfl,rfl,trivial⟩ (fun σ=>key σ x9 u' ⟨fun h=>by exact absurd h h0,hu▸hH⟩)
   ·have hge:decide ((ev:Int)=0)=false:=decide_eq_false (by omega)
    repeat (first|refine aR ?_|(refine aD (by first|refine aG rfl|refine aN rfl (Ty.bA rfl rfl)|refine (aP (v:=.bool (decide ((ev:Int)=0))) rfl).is (congrArg Value.bool hge)|refine aB rfl hB9 hlev (Ty.aF rfl)|refine iX (m:=i) (n:=ev) rfl rfl (by omega)) rfl ?_)|refine aT ?_)
    refine aA (bV 0 (o:=0+155) (v:=.bool (decide ((i:Int) % ev≠0))) hH rfl rfl rfl (by rw [kN (e:={ e with pic:=i }) ho];decide) rfl (Ty.aF rfl) ?_)
    try clear hH
    intro _ hH
    rw [fS ho (by decide)] at hH
    obtain ⟨x9,hx9⟩:∃ x9,x9=(decide ((i:Int) % ev≠0)):=⟨_,rfl⟩
    replace hH:=hH.as (r':=Rb bx 105 ({ e with pic:=i,inter:=x9 }:ES).cells.toArray) 0 rfl (fun _ h=>h) (fun h=>by rw [hx9];exact h)
    replace hH:=aI hH
    exact eU fun u' hu=>cJ [(0,pt bx),(1,.int .i64 i),(5,pt b5),(6,pt b6),(7,pt b7),(9,pt b9)] ⟨rfl,rfl,rfl,rfl,rfl,rfl,trivial⟩ (fun σ=>key σ x9 u' ⟨fun h=>by exact absurd h h0,hu▸hH⟩)
 clear hH hB9
 rintro σ xi w4 ⟨hxi,hH⟩
 have hB0:=hH.b 0 rfl
 have hB9:=hH.b 7 rfl
 obtain ⟨tu,htu⟩:∃ x,e.C.turns=x:=⟨_,rfl⟩
 have hl155:({ e with pic:=i,inter:=xi }:ES).cells.toArray[0+155]?=some (.bool xi):=(cQ ho (Nat.le_of_ble_eq_true rfl)).trans rfl
 have hltu:e.C.cells.toArray[0+136]?=some (.bool tu):=(cQ ho (Nat.le_of_ble_eq_true rfl)).trans (by rw [← htu];rfl)
 repeat (first|refine aR ?_|(refine aD (by first|refine aG rfl|refine aN rfl (Ty.bA rfl rfl)) rfl ?_)|refine aT ?_)
 apply LD (Z:=fun xd u=>(xd=true→xi=true)∧Hp (eY [Rb bx 105 e.cells.toArray,RK k,rS e.g]) w u [Rb bx 105 ({ e with pic:=i,inter:=xi,down:=xd }:ES).cells.toArray,RK k,rS e.g,Rs none [],Rb b5 54 f.cells.toArray,Rb b6 60 (PR.cells ⟨⟨0,false,false,0⟩,none,0,[]⟩).toArray,Rb b7 54 fz.toArray,Rb b9 28 e.C.cells.toArray])
 ·intro key
  obtain ⟨x2,hx2⟩:∃ x,xi=x:=⟨_,rfl⟩
  obtain ⟨t2,ht2⟩:∃ x,tu=x:=⟨_,rfl⟩
  cases x2 with
  | false =>
   repeat (first|refine aR ?_|(refine aD (by first|refine aG rfl|refine aN rfl (Ty.bA rfl rfl)|refine (aB rfl hB0 hl155 (Ty.aF rfl)).is (congrArg Value.bool hx2)) rfl ?_)|refine aT ?_)
   refine aA (bV 0 (o:=0+154) (v:=.bool (false)) hH rfl rfl rfl (by rw [kN (e:={ e with pic:=i,inter:=xi }) ho];decide) rfl (Ty.aF rfl) ?_)
   try clear hH
   intro _ hH
   rw [fS ho (by decide)] at hH
   obtain ⟨x9,hx9⟩:∃ x9,x9=(false):=⟨_,rfl⟩
   replace hH:=hH.as (r':=Rb bx 105 ({ e with pic:=i,inter:=xi,down:=x9 }:ES).cells.toArray) 0 rfl (fun _ h=>h) (fun h=>by rw [hx9];exact h)
   replace hH:=aI hH
   exact eU fun u' hu=>cJ [(0,pt bx),(1,.int .i64 i),(5,pt b5),(6,pt b6),(7,pt b7),(9,pt b9)] ⟨rfl,rfl,rfl,rfl,rfl,rfl,trivial⟩ (fun σ=>key σ x9 u' ⟨fun h=>Bool.noConfusion (hx9.symm.trans h),hu▸hH⟩)
  | true =>
   cases t2 with
   | false =>
    repeat (first|refine aR ?_|(refine aD (by first|refine aG rfl|refine aN rfl (Ty.bA rfl rfl)|refine (aB rfl hB0 hl155 (Ty.aF rfl)).is (congrArg Value.bool hx2)|refine (aB rfl hB9 hltu (Ty.aF rfl)).is (congrArg Value.bool ht2)) rfl ?_)|refine aT ?_)
    refine aA (bV 0 (o:=0+154) (v:=.bool (false)) hH rfl rfl rfl (by rw [kN (e:={ e with pic:=i,inter:=xi }) ho];decide) rfl (Ty.aF rfl) ?_)
    try clear hH
    intro _ hH
    rw [fS ho (by decide)] at hH
    obtain ⟨x9,hx9⟩:∃ x9,x9=(false):=⟨_,rfl⟩
    replace hH:=hH.as (r':=Rb bx 105 ({ e with pic:=i,inter:=xi,down:=x9 }:ES).cells.toArray) 0 rfl (fun _ h=>h) (fun h=>by rw [hx9];exact h)
    replace hH:=aI hH
    exact eU fun u' hu=>cJ [(0,pt bx),(1,.int .i64 i),(5,pt b5),(6,pt b6),(7,pt b7),(9,pt b9)] ⟨rfl,rfl,rfl,rfl,rfl,rfl,trivial⟩ (fun σ=>key σ x9 u' ⟨fun h=>Bool.noConfusion (hx9.symm.trans h),hu▸hH⟩)
   | true =>
    repeat (first|refine aR ?_|(refine aD (by first|refine aG rfl|refine aN rfl (Ty.bA rfl rfl)|refine (aB rfl hB0 hl155 (Ty.aF rfl)).is (congrArg Value.bool hx2)|refine (aB rfl hB9 hltu (Ty.aF rfl)).is (congrArg Value.bool ht2)|refine iX (m:=i) (n:=2) rfl rfl (by omega)) rfl ?_)|refine aT ?_)
    refine aA (bV 0 (o:=0+154) (v:=.bool (decide ((i:Int) % 2=1))) hH rfl rfl rfl (by rw [kN (e:={ e with pic:=i,inter:=xi }) ho];decide) rfl (Ty.aF rfl) ?_)
    try clear hH
    intro _ hH
    rw [fS ho (by decide)] at hH
    obtain ⟨x9,hx9⟩:∃ x9,x9=(decide ((i:Int) % 2=1)):=⟨_,rfl⟩
    replace hH:=hH.as (r':=Rb bx 105 ({ e with pic:=i,inter:=xi,down:=x9 }:ES).cells.toArray) 0 rfl (fun _ h=>h) (fun h=>by rw [hx9];exact h)
    replace hH:=aI hH
    exact eU fun u' hu=>cJ [(0,pt bx),(1,.int .i64 i),(5,pt b5),(6,pt b6),(7,pt b7),(9,pt b9)] ⟨rfl,rfl,rfl,rfl,rfl,rfl,trivial⟩ (fun σ=>key σ x9 u' ⟨fun _=>hx2,hu▸hH⟩)
 clear hH hB0 hB9 hl155 hltu
 rintro σ xd w5 ⟨hxd,hH⟩
 have hB0:=hH.b 0 rfl
 have hl155:({ e with pic:=i,inter:=xi,down:=xd }:ES).cells.toArray[0+155]?=some (.bool xi):=(cQ ho (Nat.le_of_ble_eq_true rfl)).trans rfl
 have hl154:({ e with pic:=i,inter:=xi,down:=xd }:ES).cells.toArray[0+154]?=some (.bool xd):=(cQ ho (Nat.le_of_ble_eq_true rfl)).trans rfl
 have hl151:({ e with pic:=i,inter:=xi,down:=xd }:ES).cells.toArray[0+151]?=some (.int .i64 e.qp):=(cQ ho (Nat.le_of_ble_eq_true rfl)).trans rfl
 refine aK ?_
 refine oG fun u5 hu5=>?_
 rw [← hu5] at hH hB0
 clear hu5
 refine nK 16 rfl (by kernel_rfl) (by kernel_rfl) [Is (.int .i64 i),Is (pt bx),Is (pt bx),Is (.pointer (some ⟨bx,0+155,none⟩)),Is (.bool xi),Is (pt bx),Is (pt bx),Is (.pointer (some ⟨bx,0+154,none⟩)),Is (.bool xd),Is (pt bx),Is (pt bx),Is (.pointer (some ⟨bx,0+151,none⟩)),Is (.int .i64 e.qp),Is (.agg #[.int .i64 i,.bool xi,.bool xd,.int .i64 e.qp]),Is (.agg (PR.cells ⟨⟨i,xi,xd,e.qp⟩,none,0,[]⟩).toArray),fP u5.heap.size 60 (PR.cells ⟨⟨0,false,false,0⟩,none,0,[]⟩).toArray (fun b=>pt b)] Ty.mixed [(453310288867338521412608,[],true),(604333782598798620492800,[],true),(604223102134356363183104,[(1,65)],true),(604001741205471848563712,[(2,66)],true),(453033587706232878138368,[(3,67)],true),(602673575632164760847360,[],true),(600902688201088643892224,[(5,69)],true),(597360913338936409981952,[(6,70)],true),(448606369128542585750528,[(7,71)],true),(576110264166023006520320,[],true),(547776065268805135238144,[(9,73)],true),(491107667474369392673792,[(10,74)],true),(377770871885497907545088,[(11,75)],true),(151097280707754937287680,[(0,64),(4,68),(8,72),(12,76)],true),(302213008159583584125952,[(13,77)],true),(604444463063240877801472,[],true)] 604444463063240877802496 [(14,78),(15,10)] (by kernel_rfl) (by kernel_rfl) (by kernel_rfl) (by kernel_rfl) (by kernel_rfl) ⟨Is.st,Is.st,Is.st,Is.st,Is.st,Is.st,Is.st,Is.st,Is.st,Is.st,Is.st,Is.st,Is.st,Is.st,Is.st,(by exact fP.st),trivial⟩ ⟨⟨cC.none,?_⟩,⟨cC.none,?_⟩,⟨cC.none,?_⟩,⟨cC.none,?_⟩,⟨cC.none,?_⟩,⟨cC.none,?_⟩,⟨cC.none,?_⟩,⟨cC.none,?_⟩,⟨cC.none,?_⟩,⟨cC.none,?_⟩,⟨cC.none,?_⟩,⟨cC.none,?_⟩,⟨cC.none,?_⟩,⟨cC.none,?_⟩,⟨cC.none,?_⟩,⟨cC.none,?_⟩,trivial⟩ ?_
 ·intro w'' hE''
  intro σ''
  exact bJ (by refine aP rfl) rfl
 ·intro w'' hE''
  intro σ''
  exact bJ (by refine aP rfl) rfl
 ·intro w'' hE''
  rintro _ rfl
  intro σ''
  exact bJ (by refine aG rfl) rfl
 ·intro w'' hE''
  rintro _ rfl
  intro σ''
  exact Au
 ·intro w'' hE''
  rintro _ rfl
  intro σ''
  exact bJ (by refine aB rfl (hB0.aH hE'') hl155 (Ty.aF rfl)) rfl
 ·intro w'' hE''
  intro σ''
  exact bJ (by refine aP rfl) rfl
 ·intro w'' hE''
  rintro _ rfl
  intro σ''
  exact bJ (by refine aG rfl) rfl
 ·intro w'' hE''
  rintro _ rfl
  intro σ''
  exact Au
 ·intro w'' hE''
  rintro _ rfl
  intro σ''
  exact bJ (by refine aB rfl (hB0.aH hE'') hl154 (Ty.aF rfl)) rfl
 ·intro w'' hE''
  intro σ''
  exact bJ (by refine aP rfl) rfl
 ·intro w'' hE''
  rintro _ rfl
  intro σ''
  exact bJ (by refine aG rfl) rfl
 ·intro w'' hE''
  rintro _ rfl
  intro σ''
  exact Au
 ·intro w'' hE''
  rintro _ rfl
  intro σ''
  exact bJ (by refine aB rfl (hB0.aH hE'') hl151 (Ty.aF rfl)) rfl
 ·intro w'' hE''
  rintro _ rfl
  rintro _ rfl
  rintro _ rfl
  rintro _ rfl
  intro σ''
  exact bJ (by refine bR (cs:=[.int .i64 i,.bool xi,.bool xd,.int .i64 e.qp]) (Ty.bH rfl) (Ty.iJ rfl) rfl) rfl
 ·intro w'' hE''
  rintro _ rfl
  intro σ''
  exact bJ (by refine bR (cs:=PR.cells ⟨⟨i,xi,xd,e.qp⟩,none,0,[]⟩) (Ty.bH rfl) (Ty.iJ rfl) rfl) rfl
 ·intro w'' hE''
  intro σ''
  refine dS (Ty.bH rfl) rfl ?_
  intro w3'' b'' hb'' hE3'' hB'' hs''
  exact xO
 intro w'' hE''
 rintro _ rfl
 rintro _ h15
 intro σ''
 obtain ⟨b10,rfl,hB10,hb10⟩:=h15
 replace hH:=hH.nu (r:=Rb b10 60 (PR.cells ⟨⟨0,false,false,0⟩,none,0,[]⟩).toArray) ⟨hE'',hB10,fun x hx=>by simp [Rb] at hx;omega⟩
 clear hE'' hB10 hb10 hB0
 replace hH:=aI hH
 refine aO ?_
 refine aA (aJ 8 (vs:=(PR.cells ⟨⟨i,xi,xd,e.qp⟩,none,0,[]⟩).toArray) (s:=5) hH rfl rfl rfl (by rfl) (by rfl) (by simp [Value.oneCell']) (Ty.aF rfl) ?_)
 try clear hH
 intro _ hH
 replace hH:=aI hH
 have hB9:=hH.b 7 rfl
 have hlc:e.C.cells.toArray[0+0+0]?=some (.int .i64 c):=by rw [← hcc];rfl
 have hlr:e.C.cells.toArray[0+0+1]?=some (.int .i64 r):=by rw [← hrr];rfl
 repeat (first|refine aR ?_|(refine aD (by first|refine aN rfl (Ty.bA rfl rfl)|refine aB rfl hB9 hlc (Ty.aF rfl)|refine aB rfl hB9 hlr (Ty.aF rfl)) rfl ?_))
 clear hB9
 refine aO ?_
 refine aA (aC ((fZ (c:=c) (r:=r) (x:=128) hc.2 hr.2)) rfl rfl ?_)
 rintro _ _ ⟨y3,u3,z3,rfl,hQ⟩
 replace hH:=hH.calls 0 hQ
 clear hQ
 replace hH:=aI hH
 replace hH:=HM (n:=16*c*(16*r)) 0 hH rfl (Nat.le_trans (Nat.mul_le_mul (show 16*c≤128 by omega) (show 16*r≤128 by omega)) (by decide))
 replace hH:=HM (n:=8*c*(8*r)) 1 hH rfl (Nat.le_trans (Nat.mul_le_mul (show 8*c≤64 by omega) (show 8*r≤64 by omega)) (by decide))
 replace hH:=HM (n:=8*c*(8*r)) 2 hH rfl (Nat.le_trans (Nat.mul_le_mul (show 8*c≤64 by omega) (show 8*r≤64 by omega)) (by decide))
 replace hH:=aI hH
 refine aK ?_
 refine aO ?_
 refine aA (aQ hH (Ty.bH rfl) rfl ?_)
 try clear hH
 intro _ b11 hH
 replace hH:=aI hH
 refine aK ?_
 refine aO ?_
 refine aA (aJ 12 (vs:=(LK c r y3 u3 z3).toArray) (s:=11) hH rfl rfl rfl (by rfl) (by rfl) (by simp [Value.oneCell']) (Ty.aF rfl) ?_)
 try clear hH
 intro _ hH
 replace hH:=aI hH
 obtain ⟨F0,hF0⟩:∃ F0:FM,F0=GV c r y3 u3 z3:=⟨_,rfl⟩
 obtain ⟨fc,hfc⟩:∃ fc:List Value,LK c r y3 u3 z3=fc:=⟨_,rfl⟩
 have hF0c:F0.cells=fc:=by rw [hF0,← hfc];exact Fe
 have hF0o:F0.ok c r:=by rw [hF0];exact G6
 replace hH:=((hH.as (r':=gH F0.y.a F0.y.cap F0.y.S) 0 rfl (fun _ h=>by rw [hF0] at h;exact h) (fun h=>by rw [hF0];exact h)).as (r':=gH F0.u.a F0.u.cap F0.u.S) 1 rfl (fun _ h=>by rw [hF0] at h;exact h) (fun h=>by rw [hF0];exact h)).as (r':=gH F0.v.a F0.v.cap F0.v.S) 2 rfl (fun _ h=>by rw [hF0] at h;exact h) (fun h=>by rw [hF0];exact h)
 rw [hfc] at hH
 have hfl:fc.length=11:=by rw [← hfc];rfl
 clear hF0
 replace hH:=(hH.nu (iA.HU (r:=rG))).nu (iA.tY (e:=87) (sz:=2))
 replace hH:=aI hH
 have hcm:(c:Int)*r=((c*r:Nat):Int):=by simp
 have hB9:=hH.b 10 rfl
 repeat (first|refine aR ?_|(refine aD (by first|refine aN rfl (Ty.bA rfl rfl)|refine aB rfl hB9 hlc (Ty.aF rfl)|refine aB rfl hB9 hlr (Ty.aF rfl)|refine (bN (m:=c) (n:=r) rfl rfl (by omega)).is (congrArg (Value.int .i64) hcm)) rfl ?_)|refine aT ?_)
 clear hB9
 obtain ⟨mn,hmn,hmn1⟩:∃ mn,e.C.many=mn∧1≤mn∧mn≤8:=⟨_,rfl,hmany⟩
 have hlm:e.C.cells.toArray[0+137]?=some (.int .i64 mn):=(cQ ho (Nat.le_of_ble_eq_true rfl)).trans (by rw [← hmn];rfl)
 refine aV (G:=(Nat) × (Nat) × (List GR) × (Option Addr) × (Nat) × (FM) × (Value)) (fun|(n,nb,gs,a2,c2,F,ed)=>c*r+8-n) 25108406941546723055343157692820762144095138735656953438464 (fun|(n,nb,gs,a2,c2,F,ed)=>[(13,.int .i64 nb),(14,.int .i64 n)]) (fun|(n,nb,gs,a2,c2,F,ed),w'=>n≤c*r+8∧nb≤60000*n∧Dh xi e.qp 0 gs (min n (c*r))∧(∀ g∈gs,pK xi c r g.f e.qp g.ms)∧F.cells=fc∧F.ok c r∧Hp (eY [Rb bx 105 e.cells.toArray,RK k,rS e.g]) w w' [gH F.y.a F.y.cap F.y.S,gH F.u.a F.u.cap F.u.S,gH F.v.a F.v.cap F.v.S,Rb bx 105 ({ e with pic:=i,inter:=xi,down:=xd,ed:=ed }:ES).cells.toArray,RK k,rS e.g,Rs none [],Rb b5 54 f.cells.toArray,Rb b6 60 (PR.cells ⟨⟨0,false,false,0⟩,none,0,[]⟩).toArray,Rb b7 54 fz.toArray,Rb b9 28 e.C.cells.toArray,Rb b10 60 (⟨⟨i,xi,xd,e.qp⟩,a2,c2,gs⟩:PR).cells.toArray,Rb b11 54 fc.toArray,RZ rG gs,Ro 87 2 a2 gs.length c2 (gs.flatMap GR.cells)]) (0,0,[],none,0,F0,e.ed) ⟨rfl,rfl,trivial⟩ ⟨by omega,by omega,rfl,by simp,hF0c,hF0o,hH⟩ ?_
 rintro ⟨n,nb,gs,a2,c2,F,ed⟩ w' σ ⟨hn8,hnb,hgk,hea,hFc,hFo,hH⟩ IH
 show WS _ _ _ _ _ (bQ [(13,.int .i64 nb),(14,.int .i64 n)] _) _
 by_cases hnl:n<c*r
 ·rw [Nat.min_eq_left (by omega)] at hgk
  obtain ⟨N,hN,hN1,hN2,hN3⟩:∃ N:Nat,min ((n:Int)+mn) ((c*r:Nat):Int)=N∧n<N∧N≤n+mn∧N≤c*r:=⟨min (n+mn) (c*r),by omega,by omega,by omega,by omega⟩
  repeat (first|refine aR ?_|(refine aD (by refine bR (cs:=GR.cells ⟨n,none,0,[]⟩) (Ty.bH rfl) (Ty.iJ rfl) rfl) rfl ?_)|refine aT ?_)
  refine aO ?_
  refine aA (aQ hH (Ty.bH rfl) rfl ?_)
  try clear hH
  intro _ b15 hH
  replace hH:=aI hH
  refine aK ?_
  refine aO ?_
  refine aA (aJ 15 (vs:=(GR.cells ⟨n,none,0,[]⟩).toArray) (s:=2) hH rfl rfl rfl (by rfl) (by rfl) (by simp [Value.oneCell']) (Ty.aF rfl) ?_)
  try clear hH
  intro _ hH
  replace hH:=aI hH
  replace hH:=hH.nu (iA.tY (e:=95) (sz:=391))
  replace hH:=aI hH
  have hB9:=hH.b 10 rfl
  repeat (first|refine aR ?_|(refine aD (by first|refine aN rfl (Ty.bA rfl rfl)|refine aB rfl hB9 hlc (Ty.aF rfl)|refine aB rfl hB9 hlr (Ty.aF rfl)) rfl ?_)|refine aT ?_)
  clear hB9
  refine aO ?_
  refine aA (aC ((qO (c:=c) (r:=r) hc.2 hr.2)) rfl rfl ?_)
  rintro _ _ ⟨b,m1,m2,m3,rfl,hNw⟩
  replace hH:=hH.nu hNw
  clear hNw
  replace hH:=aI hH
  repeat ((refine aD (by first|refine aG rfl|refine aN rfl (Ty.bA rfl rfl)) rfl ?_))
  refine aA (bV 3 (o:=0+153) (v:=pt b) hH rfl rfl rfl (by rw [kN (e:=({ e with pic:=i,inter:=xi,down:=xd,ed:=ed }:ES)) ho];decide) rfl (Ty.aF rfl) ?_)
  clear hH
  intro _ hH
  rw [fS ho (by decide)] at hH
  replace hH:=hH.as (r':=Rb bx 105 ({ e with pic:=i,inter:=xi,down:=xd,ed:=pt b }:ES).cells.toArray) 3 rfl (fun _ h=>h) (fun h=>h)
  replace hH:=aI hH
  have hB0:=hH.b 3 rfl
  repeat (first|refine aR ?_|(refine aD (by first|refine aG rfl|refine aN rfl (Ty.bA rfl rfl)|refine aB (v:=.int .i64 e.qp) rfl hB0 ((cQ ho (Nat.le_of_ble_eq_true rfl)).trans rfl) (Ty.aF rfl)) rfl ?_)|refine aT ?_)
  clear hB0
  obtain ⟨ed,hed⟩:∃ ed,ed=pt b:=⟨_,rfl⟩
  rw [← hed] at hH
  refine aV (G:=(List MB) × (Nat) × (Option Addr) × (Nat) × (TV) × (FM)) (fun|(ms,qp,a3,c3,T,F)=>N-(n+ms.length)) 1461501637330736764704211718232170043773398483200 (fun|(ms,qp,a3,c3,T,F)=>[(16,.int .i64 qp),(17,.int .i64 ((n+ms.length:Nat)))]) (fun|(ms,qp,a3,c3,T,F),w'=>n+ms.length≤N∧BM xi e.qp ms∧lq e.qp ms=qp∧(1≤qp∧qp≤31)∧pK xi c r n e.qp ms∧(yX xi c r n e.qp ms ms.length).T=T∧F.cells=fc∧F.ok c r∧Hp (eY [Rb bx 105 e.cells.toArray,RK k,rS e.g]) w w' [gH F.y.a F.y.cap F.y.S,gH F.u.a F.u.cap F.u.S,gH F.v.a F.v.cap F.v.S,Rb bx 105 ({ e with pic:=i,inter:=xi,down:=xd,ed:=ed }:ES).cells.toArray,RK k,rS e.g,Rs none [],Rb b5 54 f.cells.toArray,Rb b6 60 (PR.cells ⟨⟨0,false,false,0⟩,none,0,[]⟩).toArray,Rb b7 54 fz.toArray,Rb b9 28 e.C.cells.toArray,Rb b10 60 (⟨⟨i,xi,xd,e.qp⟩,a2,c2,gs⟩:PR).cells.toArray,Rb b11 54 fc.toArray,RZ rG gs,Ro 87 2 a2 gs.length c2 (gs.flatMap GR.cells),Rb b15 87 (GR.cells ⟨n,a3,c3,ms⟩).toArray,Ro 95 391 a3 ms.length c3 (iO ms),RT b m1 m2 m3 c r T]) ([],e.qp,none,0,T0,F) ⟨rfl,rfl,trivial⟩ ⟨by simp only [List.length_nil];omega,trivial,rfl,hq,fun i m h=>by simp at h,rfl,hFc,hFo,hH⟩ ?_
  rintro ⟨ms,qp,a3,c3,T,F⟩ w' σ ⟨hml,hch,hlq,hqp,hem,hT,hFc,hFo,hH⟩ IH2
  show WS _ _ _ _ _ (bQ [(16,.int .i64 qp),(17,.int .i64 ((n+ms.length:Nat)))] _) _
  by_cases hlt:n+ms.length<N
  ·have hB9:=hH.b 10 rfl
   have hB5:=hH.b 7 rfl
   repeat (first|refine aR ?_|(refine aD (by first|refine aN rfl (Ty.bA rfl rfl)|refine aB rfl hB9 hlm (Ty.aF rfl)|refine (eK rfl rfl).is (congrArg (Value.int .i64) hN)|refine aE rfl hB5 rfl (Ty.aF rfl)) rfl ?_)|refine aT ?_)
   clear hB9 hB5
   have hrg:∀ w',Ext (RT b m1 m2 m3 c r T).fp _ w'→cL w' bx 105 ({ e with pic:=i,inter:=xi,down:=xd,ed:=ed }:ES).cells.toArray∧f.rd w'∧e.g.rd w':=fun w' hE=>⟨xU 17 3 hH rfl rfl (by decide) hE,hfr _ (hH.ext.trans hE (fun t ht=>hH.new _ (List.mem_of_getElem? (i:=17) rfl) t ht)),xU 17 5 hH rfl rfl (by decide) hE⟩
   refine aO ?_
   refine aA (aC ((Bj (e:=({ e with pic:=i,inter:=xi,down:=xd,ed:=ed }:ES)) (f:=f) (mb:=n+ms.length) (q:=qp) hc hr (by omega) ho hcc hC.far hf hg hqp hq.2 hed (hH.at 17 rfl) hrg)) rfl rfl ?_)
   rintro _ _ ⟨m,rfl,hm,hmi,hmq,hme,hQ⟩
   replace hH:=hH.up 17 rfl (hQ.dX 0 rfl)
   clear hQ hrg
   replace hH:=aI hH
   have hml2:m.cells.length=391:=bL hm.len
   refine aK ?_
   refine aA (aQ (zs:=mH 0 0 (List.replicate 384 0)) hH (Ty.bH rfl) rfl ?_)
   clear hH
   intro _ b18 hH
   replace hH:=aI hH
   refine aK ?_
   refine aA (aJ 18 (vs:=m.cells.toArray) (s:=391) hH rfl rfl rfl (by rw [List.size_toArray,hml2]) (by rw [List.size_toArray];exact bL List.length_replicate) (dZ hm) (Ty.aF rfl) ?_)
   clear hH
   intro w8 hH
   replace hH:=aI hH
   have hB18:=hH.b 18 rfl
   repeat (first|refine aR ?_|(refine aD (by first|refine aN rfl (Ty.bA rfl rfl)|refine aB (v:=.int .i64 m.q) rfl hB18 rfl (Ty.aF rfl)) rfl ?_)|refine aT ?_)
   have hB0:=hH.b 3 rfl
   have hS0:cI _ (some ⟨bx,0,none⟩) (({ e with pic:=i,inter:=xi,down:=xd,ed:=ed }:ES)).cells:=hB0.cX
   have hS9:cI _ (some ⟨b9,0,none⟩) e.C.cells:=(hH.b 10 rfl).cX
   have hB11:cL _ b11 54 F.cells.toArray:=hFc▸hH.b 12 rfl
   have hl154:(({ e with pic:=i,inter:=xi,down:=xd,ed:=ed }:ES)).cells.toArray[0+154]?=some (.bool xd):=(cQ ho (Nat.le_of_ble_eq_true rfl)).trans rfl
   refine cM Ty.mixed 14 rfl (by kernel_rfl) rfl (fun w1 hx1=>?_)
   refine F6 ?_
   refine xN ?_
   refine aY 2 hx1 rfl (fun w' hw'=>by refine bG (j:=0+0+2) (cs:=e.C.h.tc) rfl (hS9.aH hw') (Ob ho) (SH.eS ho) (Ty.aF rfl)) ?_
   refine bE 3 hx1 ?_
   refine aY 4 hx1 rfl (fun w' hw'=>by refine aG rfl) ?_
   refine Gf ?_
   refine aY 6 hx1 rfl (fun w' hw'=>by refine aB (v:=.bool xd) rfl (hB0.aH hw') hl154 (Ty.aF rfl)) ?_
   refine bE 7 hx1 ?_
   refine aY 8 hx1 rfl (fun w' hw'=>by refine aG rfl) ?_
   refine AJ ?_
   refine aY 10 hx1 rfl (fun w' hw'=>by refine bG (j:=0+140) (cs:=e.g.cells) rfl (hS0.aH hw') (JE (e:=({ e with pic:=i,inter:=xi,down:=xd,ed:=ed }:ES)) ho) rfl (Ty.aF rfl)) ?_
   refine aY 11 hx1 rfl (fun w' hw'=>by refine aE rfl (hB11.aH hw') rfl (Ty.aF rfl)) ?_
   refine bE 12 hx1 ?_
   refine aY 13 hx1 rfl (fun w' hw'=>by refine aE rfl (hB18.aH hw') (by rw [List.size_toArray,hml2]) (Ty.aF rfl)) ?_
   refine aW (by kernel_rfl) ?_
   replace hH:=hH.aH hx1
   clear hB18 hB0 hS0 hS9 hB11 hx1
   have hdj:=Lq (F:=F) (g:=e.g) (H:=_) hH 2 rfl hg hc.1 hr.1
   refine aO ?_
   refine aA (aC ((CL (h:=e.C.h) (f:=e.g) (f2:=F) (m:=m) (down:=xd) (mb:=n+ms.length) ho hc hr (by omega) hg hFo (hH.at 5 rfl) hm (hH.jO 3) hdj)) rfl rfl ?_)
   clear hdj
   obtain ⟨F2,hF2⟩:∃ F2,F2=F.put c (n+ms.length) (AY e.C.h e.g c r (n+ms.length) m xd) 6:=⟨_,rfl⟩
   have hF2c:F2.cells=fc:=by rw [hF2];exact (FM.sK 6).trans hFc
   have hF2o:F2.ok c r:=by rw [hF2];exact FM.Df hFo 6
   rw [← hF2]
   rintro _ _ ⟨rfl,hQ⟩
   replace hH:=hH.calls 3 hQ
   clear hQ
   replace hH:=aI hH
   have hB15:=hH.b 15 rfl
   have hB18:=hH.b 18 rfl
   repeat (first|refine aR ?_|(refine aD (by first|refine aN rfl (Ty.bA rfl rfl)|refine aB (v:=.slice a3 ms.length c3) rfl hB15 rfl (Ty.aF rfl)|refine aE rfl hB18 (by rw [List.size_toArray,hml2]) (Ty.aF rfl)) rfl ?_)|refine aT ?_)
   clear hB15 hB18
   refine aA (cN (out:=m.cells) hH (Ty.sle rfl) (Ty.bH rfl) rfl (OU rfl hml2) rfl (by decide) rfl ?_)
   clear hH
   intro _ b19 hH
   replace hH:=aI hH
   refine aA (bZ 16 hH rfl (Ty.sle rfl) (Ty.bH rfl) rfl (Ty.gS rfl) (by decide) rfl rfl (hH.b 19 rfl).cX (by rw [hml2]) (fun v hv=>dZ hm v (by simpa using hv)) (by omega) (by simp only [maxLen];omega) rfl ?_)
   clear hH
   intro _ a9 c9 hH
   replace hH:=(hH.del 19).del 18
   replace hH:=aI hH
   repeat ((refine aD (by refine aN rfl (Ty.bA rfl rfl)) rfl ?_))
   refine aO ?_
   refine aA (dR 15 (v:=.slice a9 (ms.length+1) c9) hH rfl rfl rfl (Nat.le_of_ble_eq_true rfl) rfl (Ty.aF rfl) ?_)
   try clear hH
   intro _ hH
   replace hH:=aI hH
   have hms:ms.length+1=(ms++[m]).length:=by simp
   have hmc:iO ms++m.cells=iO (ms++[m]):=by simp [iO]
   rw [hms,hmc] at hH
   have hmll:(ms++[m]).length=ms.length+1:=by simp
   have hch2:BM xi e.qp (ms++[m]):=EB hm (fun h=>hmi h) hch (by rw [hlq];exact hmq)
   have hlq2:lq e.qp (ms++[m])=m.q:=Il
   have hem2:pK xi c r n e.qp (ms++[m]):=FT hem (by rw [hT];exact hme)
   have hT2:(yX xi c r n e.qp (ms++[m]) (ms++[m]).length).T=mT c (n+ms.length) m.k m.q m.e m.L T:=by rw [Kn,hT]
   obtain ⟨q2,hq2⟩:∃ q2:Nat,m.q=q2:=⟨m.q.toNat,by have:=hm.q1;omega⟩
   have hq3:1≤q2∧q2≤31:=by have:=hm.q1;omega
   rw [hq2] at hlq2
   have hnm:((n+ms.length:Nat):Int)+1=((n+(ms++[m]).length:Nat):Int):=by rw [hmll];omega
   repeat (first|refine aR ?_|(refine aD (by refine (cT (m:=(n+ms.length:Nat)) (n:=1) rfl rfl (by omega)).is (congrArg (Value.int .i64) hnm)) rfl ?_)|refine aT ?_)
   obtain ⟨T2,hTe⟩:∃ T2,mT c (n+ms.length) m.k m.q m.e m.L T=T2:=⟨_,rfl⟩
   rw [hTe] at hH hT2
   generalize ms++[m]=ms2 at *
   replace hH:=hH.as (r':=Rb b15 87 (GR.cells ⟨n,a9,c9,ms2⟩).toArray) 15 rfl (fun _ h=>h) (fun h=>h)
   replace hH:=aI hH
   refine IH2 (ms2,q2,a9,c9,T2,F2) _ _ ?_ ?_ ?_ ?_
   ·simp only;omega
   ·exact ⟨by rw [← hq2];rfl,rfl,trivial⟩
   ·exact cP
   ·exact ⟨by omega,hch2,hlq2,hq3,hem2,hT2,hF2c,hF2o,hH⟩
  ·have hmN:n+ms.length=N:=by omega
   clear IH2
   have hB9:=hH.b 10 rfl
   repeat (first|refine aR ?_|(refine aD (by first|refine aN rfl (Ty.bA rfl rfl)|refine aB rfl hB9 hlm (Ty.aF rfl)|refine (eK rfl rfl).is (congrArg (Value.int .i64) hN)) rfl ?_)|refine aT ?_)
   clear hB9
   have hgl:=kP hgk
   refine oG fun w9 hw9=>?_
   rw [← hw9] at hH
   clear hw9
   have hlbc:(({ e with pic:=i,inter:=xi,down:=xd,ed:=ed }:ES)).cells.toArray[0+139]?=some (pt k.bc):=(cQ ho (Nat.le_of_ble_eq_true rfl)).trans (by rw [← hbc];rfl)
   have hpe:(⟨i,xi,xd,e.qp⟩:PH).err=0:=(PH.AN _).2 ⟨⟨by simp only;omega,by simp only;omega⟩,⟨by simp only;omega,by simp only;omega⟩,hxd⟩
   refine lJ Ty.mixed (fun v=>Ext (RK k).fp w9 v) 19 rfl ?_
   have hx1:Ext (RK k).fp w9 w9.drew:=Ext.dV
   refine bE 0 hx1 ?_
   refine AO ?_
   refine uN ?_
   refine aY 3 hx1 rfl (fun w' hw'=>by refine aB (v:=pt k.bc) rfl (xU 4 3 hH rfl rfl (by decide) hw') hlbc (Ty.aF rfl)) ?_
   refine GX ?_
   refine aY 5 hx1 rfl (fun w' hw'=>by refine bG (j:=0+0) (cs:=e.C.h.cells) rfl (show cI _ (some ⟨b9,0,none⟩) e.C.cells from (show cL _ _ _ _ from xU 4 10 hH rfl rfl (by decide) hw').cX) (Ny ho) (SH.bK ho) (Ty.aF rfl)) ?_
   refine xD ?_
   refine aY 7 hx1 rfl (fun w' hw'=>by refine bG (j:=0+0) (cs:=[.int .i64 i,.bool xi,.bool xd,.int .i64 e.qp]) rfl (show cI _ (some ⟨b10,0,none⟩) (PR.cells (⟨⟨i,xi,xd,e.qp⟩,a2,c2,gs⟩:PR)) from (show cL _ _ _ _ from xU 4 11 hH rfl rfl (by decide) hw').cX) rfl rfl (Ty.aF rfl)) ?_
   refine bE 8 hx1 ?_
   refine AJ ?_
   refine aY 10 hx1 rfl (fun w' hw'=>by refine aB (v:=.slice a3 ms.length c3) rfl (xU 4 15 hH rfl rfl (by decide) hw') rfl (Ty.aF rfl)) ?_
   replace hH:=hH.aH (Ext.dV (S:=[]))
   refine bC 11 (by kernel_rfl) rfl rfl (aC (uV (k:=k) (h:=e.C.h) (hp:=⟨i,xi,xd,e.qp⟩) (C:=c) (R:=r) (f:=n) (n:=ms.length) (a:=a3) (cap:=c3) (ms:=ms) hk (hH.at 4 rfl) ho hC.he hcc hrr hpe (hH.o 16 rfl).sl (fun s hs=>hH.dj 4 16 rfl rfl (by decide) s hs) rfl ⟨by omega,by omega⟩ (by omega) hch hem) rfl rfl ?_)
   rintro _ w10 ⟨al,cl,al2,cl2,rfl,hlen,_,hQ⟩
   have hx2:Ext (RK k).fp w9 w10:=hx1.iS hQ.ext
   refine ⟨hx2,?_⟩
   refine bE 12 hx2 ?_
   refine bE 13 hx2 ?_
   refine bE 14 hx2 ?_
   refine bE 15 hx2 ?_
   refine bE 16 hx2 ?_
   refine bE 17 hx2 ?_
   refine bE 18 hx2 ?_
   refine aW (by kernel_rfl) ?_
   replace hH:=hH.up 4 rfl (hQ.dX 0 rfl)
   clear hQ hx1 hx2 hlbc hpe
   replace hH:=aI hH
   obtain ⟨LA,hLA,hLA1⟩:∃ l,(FF xi c r n e.qp ms).length=l∧l≤30000:=⟨_,rfl,hlen.1.2⟩
   obtain ⟨LB,hLB,hLB1⟩:∃ l,(Er xi c r n e.qp ms).length=l∧l≤30000:=⟨_,rfl,hlen.2.2⟩
   have hB10:=hH.b 11 rfl
   have hB15:=hH.b 15 rfl
   repeat (first|refine aR ?_|(refine aD (by first|refine aN rfl (Ty.bA rfl rfl)|refine aB (v:=.slice a2 gs.length c2) rfl hB10 rfl (Ty.aF rfl)|refine aE rfl hB15 rfl (Ty.aF rfl)|refine cT rfl rfl (by omega)) rfl ?_)|refine aT ?_)
   refine aO ?_
   refine aA (cN (out:=[.int .i64 n,.slice a3 ms.length c3]) hH (Ty.sle rfl) (Ty.bH rfl) rfl rfl rfl (by decide) rfl ?_)
   try clear hH
   intro _ blit hH
   replace hH:=aI hH
   refine aO ?_
   refine aA (bZ 14 hH rfl (Ty.sle rfl) (Ty.bH rfl) rfl (Ty.gS rfl) (by decide) rfl rfl ((hH.b 18 rfl).cX) (by simp;try omega) (by simp) (by omega) (by simp only [maxLen];omega) rfl ?_)
   try clear hH
   intro _ a8 c8 hH
   replace hH:=aI hH
   replace hH:=hH.del 18
   replace hH:=aI hH
   repeat ((refine aD (by refine aN rfl (Ty.bA rfl rfl)) rfl ?_))
   clear hB10 hB15
   refine aO ?_
   refine aA (dR 11 (v:=.slice a8 (gs.length+1) c8) hH rfl rfl rfl (Nat.le_of_ble_eq_true rfl) rfl (Ty.aF rfl) ?_)
   try clear hH
   intro _ hH
   replace hH:=aI hH
   replace hH:=((Rs.of 16 hH rfl).del 17).del 15
   replace hH:=aI hH
   obtain ⟨g,hg9⟩:∃ g:GR,g=⟨n,a3,c3,ms⟩:=⟨_,rfl⟩
   replace hH:=hH.as (r':=rG g) 15 rfl (fun _ h=>by rw [hg9] at h;exact h) (fun h=>by rw [hg9];exact h)
   replace hH:=aI hH
   replace hH:=RZ.add (r:=rG) (e:=g) 13 15 hH rfl rfl (by decide)
   replace hH:=aI hH
   have hgl1:gs.length+1=(gs++[g]).length:=by simp
   have hgc:gs.flatMap GR.cells++[.int .i64 n,.slice a3 ms.length c3]=(gs++[g]).flatMap GR.cells:=by simp [hg9]
   rw [hgl1,hgc] at hH
   have hgk2:Dh xi e.qp 0 (gs++[g]) (min (n+mn) (c*r)):=by
    have h:=FJ (g:=g) hgk (by rw [hg9]) (by rw [hg9];exact ⟨by simp only;omega,by simp only;omega⟩) (by rw [hg9];exact hch)
    rw [show n+g.ms.length=min (n+mn) (c*r) by rw [hg9];simp only;omega] at h
    exact h
   have hea2:∀ x∈gs++[g],pK xi c r x.f e.qp x.ms:=fun x hx=>by
    rcases List.mem_append.1 hx with hx|hx
    ·exact hea x hx
    ·simp at hx;rw [hx,hg9];exact hem
   generalize gs++[g]=gs2 at *
   replace hH:=hH.as (r':=Rb b10 60 (PR.cells ⟨⟨i,xi,xd,e.qp⟩,a8,c8,gs2⟩).toArray) 11 rfl (fun _ h=>h) (fun h=>h)
   replace hH:=aI hH
   have hB9:=hH.b 10 rfl
   repeat (first|refine aR ?_|(refine aD (by first|refine aN rfl (Ty.bA rfl rfl)|refine aB rfl hB9 hlm (Ty.aF rfl)) rfl ?_)|refine aT ?_)
   clear hB9
   refine IH (n+mn,nb+(LA+LB),gs2,a8,c8,F,ed) _ _ ?_ ?_ ?_ ?_
   ·simp only;omega
   ·exact ⟨by rw [← hLA,← hLB];rfl,rfl,trivial⟩
   ·exact cP
   ·exact ⟨by omega,by omega,hgk2,hea2,hFc,hFo,hH⟩
 ·rw [Nat.min_eq_right (by omega)] at hgk
  clear IH
  refine aK ?_
  refine aO ?_
  refine aA (aC ((D3 (e:=({ e with pic:=i,inter:=xi,down:=xd,ed:=ed }:ES)) (n:=nb) hC hq (hH.at 3 rfl))) rfl rfl ?_)
  rintro _ _ ⟨rfl,q9,hq9,hU⟩
  replace hH:=hH.up 3 rfl hU
  clear hU
  replace hH:=aI hH
  refine aK ?_
  refine oG fun w11 hw11=>?_
  rw [← hw11] at hH
  clear hw11
  have hB10:=hH.b 11 rfl
  have hB11:cL _ b11 54 F.cells.toArray:=hFc▸hH.b 12 rfl
  have hn10:b10 ∉ [b6,b7]:=fun hm=>by
   simp at hm
   rcases hm with h|h
   ·exact hH.dj 11 8 rfl rfl (by decide) b10 (by simp [Rb]) (by simp [Rb,h])
   ·exact hH.dj 11 9 rfl rfl (by decide) b10 (by simp [Rb]) (by simp [Rb,h])
  have hn11:b11 ∉ [b6,b7]:=fun hm=>by
   simp at hm
   rcases hm with h|h
   ·exact hH.dj 12 8 rfl rfl (by decide) b11 (by simp [Rb]) (by simp [Rb,h])
   ·exact hH.dj 12 9 rfl rfl (by decide) b11 (by simp [Rb]) (by simp [Rb,h])
  refine lJ Ty.mixed (fun v=>Ext [b6,b7] w11 v) 5 rfl ?_
  have hx3:Ext [b6,b7] w11 w11.drew:=Ext.dV
  refine aY 0 hx3 rfl (fun w' hw'=>by refine aE rfl (hB10.ext hw' hn10) rfl (Ty.aF rfl)) ?_
  refine aY 1 hx3 rfl (fun w' hw'=>by refine aE rfl (hB11.ext hw' hn11) rfl (Ty.aF rfl)) ?_
  replace hH:=hH.aH (Ext.dV (S:=[]))
  refine bC 2 (by kernel_rfl) rfl rfl (dH (s:=5) (vs:=((⟨⟨i,xi,xd,e.qp⟩,a2,c2,gs⟩:PR)).cells.toArray) rfl rfl (hH.b 8 rfl) rfl rfl (Ln _) (Ty.aF rfl) (fun w12 hE7 hB12 _=>?_))
  have hx4:=hx3.trans hE7 (fun _ ht=>.inl (by simp at ht;simp [ht]))
  refine ⟨hx4,?_⟩
  replace hH:=hH.up 8 rfl (r':=Rb b6 60 ((⟨⟨i,xi,xd,e.qp⟩,a2,c2,gs⟩:PR)).cells.toArray) ⟨hE7,hB12,fun _ hx=>.inl hx⟩
  replace hH:=aI hH
  refine bC 3 (by kernel_rfl) rfl rfl (dH (s:=11) (vs:=F.cells.toArray) rfl rfl (hH.b 9 rfl) rfl rfl (Mb F) (Ty.aF rfl) (fun w13 hE8 hB13 _=>?_))
  have hx5:=hx4.trans hE8 (fun _ ht=>.inl (by simp at ht;simp [ht]))
  refine ⟨hx5,?_⟩
  replace hH:=hH.up 9 rfl (r':=Rb b7 54 F.cells.toArray) ⟨hE8,hB13,fun _ hx=>.inl hx⟩
  replace hH:=aI hH
  refine bE 4 hx5 ?_
  refine aW (by kernel_rfl) ?_
  refine aK ?_
  have hB6:=hH.b 8 rfl
  have hB7:=hH.b 9 rfl
  replace hH:=(Rs.of 14 hH rfl).merge 14 13 rfl rfl (by decide)
  replace hH:=aI hH
  replace hH:=hH.as (r':=rP (⟨⟨i,xi,xd,e.qp⟩,a2,c2,gs⟩:PR)) 13 rfl (fun _ h=>h) (fun h=>⟨h.1,h.2.1⟩)
  replace hH:=(((((((hH.del 12).del 11).del 10).del 9).del 8).del 7))
  replace hH:=aI hH
  replace hH:=((Rs.of 2 (Rs.of 1 (Rs.of 0 hH rfl) rfl) rfl).merge 1 2 rfl rfl (by decide)).merge 0 1 rfl rfl (by decide)
  replace hH:=hH.as (r':=rS F) 0 rfl (fun _ h=>h) (fun h=>⟨h.1,h.2.1.1,h.2.1.2.1⟩)
  replace hH:=aI hH
  exact HB Tryz.func32 rfl rfl hB6 rfl (Ty.aF rfl) rfl hB7 rfl (Ty.aF rfl) ⟨(⟨⟨i,xi,xd,e.qp⟩,a2,c2,gs⟩:PR),F,({ e with pic:=i,inter:=xi,down:=xd,ed:=ed,qp:=q9 }:ES),rfl,⟨rfl,(PH.AN _).2 ⟨⟨by simp only;omega,by simp only;omega⟩,⟨by simp only;omega,by simp only;omega⟩,hxd⟩,hxi,hgk,hea⟩,hFo,⟨rfl,hbc,rfl,hq9⟩,hH⟩
end Go.Proofs.YtdbnmbkjmeepkaaGreatDoor
