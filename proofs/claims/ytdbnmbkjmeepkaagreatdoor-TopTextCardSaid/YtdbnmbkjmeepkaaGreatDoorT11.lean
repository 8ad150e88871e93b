/- A part of the proof of the card of TopText; no condition. -/
import Derived.Test.YtdbnmbkjmeepkaaGreatDoorT09
namespace Go.Proofs.YtdbnmbkjmeepkaaGreatDoor
open Go Go.K Go.P Go.RowKit Go.Proofs
theorem CY:nC Tryz.prog 154=true:=by kernel_rfl
theorem M9:nC Tryz.prog 173=true:=by kernel_rfl
abbrev gH (a:Option Addr) (c:Nat) (l:List Nat):cK:=Ro 5 1 a l.length c (l.map B)
def Rw (p:Nat) (a:Option Addr) (c:Nat) (bs:List Bool):cK:=sep (Rb p 156 #[.slice a (pk bs).length c,.int .i64 bs.length]) (gH a c (pk bs))
abbrev pt (p:Nat):Value:=.pointer (some ⟨p,0,none⟩)
set_option maxHeartbeats 2000000 in
theorem cH {p n s c:Nat} {a:Option Addr} {bs:List Bool} {sz:Int} {w:World} (hn:n<18446744073709551616) (hs:min (max sz 0) 64=(s:Int)) (hbl:bs.length≤1099511627776) (hR:(Rw p a c bs).holds w) :
  aX Tryz.prog 81 #[pt p,.int .u64 n,.int .i64 sz] w fun v w'=>v=.tuple #[]∧∃ a' c',jA (Rw p a c bs) (Rw p a' c' (bs++nb n s)) w w':=by
 refine aL (args:=[_,_,_]) Tryz.func81 rfl rfl Tryz.ntmps81 rfl ?_
 have hH:=(Hp.fI hR).split 0 rfl
 replace hH:=aI hH
 have hs64:s≤64:=by omega
 repeat (first|refine aR ?_|(refine aD (by refine gF rfl rfl (.inr rfl) CY) rfl ?_)|refine aT ?_)
 refine aV (G:=(Nat) × (Option Addr) × (Nat)) (fun|(i,a1,c1)=>s-i) 9223372036854767680 (fun|(i,a1,c1)=>[(6,.int .i64 ((s:Int)-i-1))]) (fun|(i,a1,c1),w'=>i≤s∧Hp (Rw p a c bs).fp w w' [Rb p 156 #[.slice a1 (pk (bs++(nb n s).take i)).length c1,.int .i64 (bs++(nb n s).take i).length],gH a1 c1 (pk (bs++(nb n s).take i))]) (0,a,c) ⟨congrArg (Value.int .i64) (by omega),trivial⟩ ⟨by omega,by simpa using hH⟩ ?_
 rintro ⟨i,a1,c1⟩ w' σ ⟨hi,hH⟩ IH
 show WS _ _ _ _ _ (bQ [(6,.int .i64 ((s:Int)-i-1))] _) _
 by_cases hlt:i<s
 ·have hbl2:(bs++(nb n s).take i).length≤1099511627776+64:=by simp [cA];omega
  have hnext:bs++(nb n s).take (i+1)=(bs++(nb n s).take i)++[n.testBit (s-1-i)]:=by
   rw [List.take_add_one,jW hlt];simp
  generalize bs++(nb n s).take i=bi at *
  have hpl:=eN bi
  have hp1:=Jt bi
  have hpb:=KQ bi
  have dW:=Ko bi (n.testBit (s-1-i))
  have hB:=hH.b 0 rfl
  repeat (first|refine aR ?_|(refine aD (by first|refine aG rfl|refine aN rfl (Ty.bA rfl rfl)|refine aB rfl hB rfl (Ty.aF rfl)|refine dL (n:=8) rfl rfl (by decide)) rfl ?_)|refine aT ?_)
  apply E8 (Z:=fun w'=>∃ a2 c2,Hp (Rw p a c bs).fp w w' [Rb p 156 #[.slice a2 (wY bi).length c2,.int .i64 bi.length],gH a2 c2 (wY bi)])
  ·intro key
   by_cases h8:bi.length % 8=0
   ·have e1:wY bi=pk bi++[0]:=by unfold wY;rw [if_pos h8]
    repeat (first|refine aR ?_|(refine aD (by first|refine aG rfl|refine aN rfl (Ty.bA rfl rfl)|refine aB rfl hB rfl (Ty.aF rfl)) rfl ?_)|refine aT ?_)
    refine aO ?_
    refine aA (cN (out:=[B 0]) hH (Ty.sle rfl) (Ty.bH rfl) rfl rfl rfl (by decide) rfl ?_)
    try clear hH
    intro _ b28 hH
    replace hH:=aI hH
    refine aK ?_
    refine aO ?_
    refine aA (bZ 1 hH rfl (Ty.sle rfl) (Ty.bH rfl) rfl (Ty.gS rfl) (by decide) rfl rfl ((hH.b 2 rfl).cX) (by simp;try omega) (by simp) (by omega) (by simp only [maxLen];omega) rfl ?_)
    try clear hH
    intro _ a2 c2 hH
    replace hH:=aI hH
    repeat ((refine aD (by first|refine aG rfl|refine aN rfl (Ty.bA rfl rfl)) rfl ?_))
    refine aA (dR 0 (v:=.slice a2 ((pk bi).length+1) c2) hH rfl rfl rfl (by simp) rfl (Ty.aF rfl) ?_)
    try clear hH
    intro _ hH
    replace hH:=hH.take 2
    replace hH:=aI hH
    refine aK ?_
    apply eL 9223372036854767680 [(6,.int .i64 ((s:Int)-i-1)),(32,.int .u64 n),(33,.int .i64 ((s:Int)-i-1))]
    ·exact ⟨rfl,rfl,rfl,trivial⟩
    ·exact LO
    intro σ
    refine key σ _ ⟨a2,c2,?_⟩
    rw [gH,e1]
    simpa using hH
   ·have e1:wY bi=pk bi:=by unfold wY;rw [if_neg h8]
    refine aK ?_
    apply eL 9223372036854767680 [(6,.int .i64 ((s:Int)-i-1)),(32,.int .u64 n),(33,.int .i64 ((s:Int)-i-1))]
    ·exact ⟨rfl,rfl,rfl,trivial⟩
    ·exact LO
    intro σ
    refine key σ _ ⟨a1,c1,?_⟩
    rw [e1];exact hH
  rintro σ2 w2 ⟨a2,c2,hH⟩
  have hB:=hH.b 0 rfl
  have hO:=hH.o 1 rfl
  have hbit:(n / 2 ^ (s-1-i) &&& 1=1) ↔ n.testBit (s-1-i)=true:=by
   rw [Nat.and_one_is_mod,Nat.testBit_eq_decide_div_mod_eq];simp
  have hsh:(((s:Int)-i-1))=((s-1-i:Nat):Int):=by omega
  rw [hsh]
  have hq:n / 2 ^ (s-1-i)<18446744073709551616:=Nat.lt_of_le_of_lt (Nat.div_le_self _ _) hn
  repeat (first|refine aR ?_|(refine aD (by first|refine mV rfl rfl (kI hn)|refine tT (n:=1) rfl rfl (kI hq) rfl) rfl ?_)|refine aT ?_)
  apply E8 (Z:=fun w'=>∃ a2 c2,Hp (Rw p a c bs).fp w w' [Rb p 156 #[.slice a2 (pk (bi++[n.testBit (s-1-i)])).length c2,.int .i64 bi.length],gH a2 c2 (pk (bi++[n.testBit (s-1-i)]))])
  ·intro key
   refine sL rfl (fun h1=>?_) (fun h1=>?_)
   ·have hb1:n.testBit (s-1-i)=true:=hbit.1 (by omega)
    rw [hb1] at dW
    rw [if_pos rfl] at dW
    have hv:((wY bi).map B)[((bi.length:Int) / 8).toNat]?=some (B ((wY bi).getD (bi.length / 8) 0)):=by
     rw [show ((bi.length:Int) / 8).toNat=bi.length / 8 by omega,List.getElem?_map,List.getD_eq_getElem?_getD,List.getElem?_eq_getElem (by omega)];rfl
    have hob:(wY bi).getD (bi.length / 8) 0<256:=by
     rw [List.getD_eq_getElem?_getD,List.getElem?_eq_getElem (by omega)];exact hpb _ (List.getElem_mem _)
    have h128:128 / 2 ^ (bi.length % 8)<256:=Nat.lt_of_le_of_lt (Nat.div_le_self _ _) (by decide)
    have hln:((wY bi).map B).length=(wY bi).length:=by simp
    refine aK ?_
    refine qD Ty.mixed 18 rfl (by kernel_rfl) rfl (fun w1 hx1=>?_)
    refine bE 0 hx1 ?_
    refine AO ?_
    refine uN ?_
    refine I5 ?_
    refine bE 4 hx1 ?_
    refine ID ?_
    refine xD ?_
    refine aY 7 hx1 rfl (fun w' hw'=>by refine aB rfl (hB.aH hw') rfl (Ty.aF rfl)) ?_
    refine bE 8 hx1 ?_
    refine aY 9 hx1 rfl (fun w' hw'=>by refine cG rfl rfl (hO.sl.aH hw') hln (Ty.sle rfl) (by omega)) ?_
    refine aY 10 hx1 rfl (fun w' hw'=>by refine aU rfl (hO.sl.aH hw') hv (Ty.aF rfl)) ?_
    refine bE 11 hx1 ?_
    refine aY 12 hx1 rfl (fun w' hw'=>by refine aG rfl) ?_
    refine aY 13 hx1 rfl (fun w' hw'=>by refine aN rfl (Ty.bA rfl rfl)) ?_
    refine aY 14 hx1 rfl (fun w' hw'=>by refine aB rfl (hB.aH hw') rfl (Ty.aF rfl)) ?_
    refine aY 15 hx1 rfl (fun w' hw'=>by refine dL (n:=8) rfl rfl (by decide)) ?_
    refine aY 16 hx1 rfl (fun w' hw'=>by refine mV (m:=128) rfl rfl rfl) ?_
    refine aY 17 hx1 rfl (fun w' hw'=>by refine HL rfl rfl (CO hob) (CO h128)) ?_
    refine aW (by kernel_rfl) ?_
    replace hH:=hH.aH hx1
    have hO2:=(hH.o 1 rfl).sl
    repeat ((refine aD (by refine cG rfl rfl hO2 hln (Ty.sle rfl) (by omega)) rfl ?_))
    refine aA (jU 1 (v:=B ((wY bi).getD (bi.length / 8) 0 ||| 128 / 2 ^ (bi.length % 8))) hH rfl rfl rfl (by omega) rfl (Ty.aF rfl) ?_)
    try clear hH
    intro _ hH
    replace hH:=aI hH
    rw [← List.map_set,show ((bi.length:Int) / 8).toNat=bi.length / 8 by omega,← dW] at hH
    refine aK ?_
    apply eL 9223372036854767680 [(6,.int .i64 ((s-1-i:Nat):Int)),(56,pt p),(57,pt p)]
    ·exact ⟨rfl,rfl,rfl,trivial⟩
    ·repeat (first|((with_reducible apply eG.dX);· exact rfl)|((with_reducible apply eG.qI);· exact rfl)|(with_reducible apply eG.Ae)|((with_reducible apply eG.oW);(· exact rfl);apply eG.refl)|(apply eG.fK;· exact rfl))
    intro σ
    refine key σ _ ⟨a2,c2,?_⟩
    have hl2:(pk (bi++[true])).length=(wY bi).length:=by rw [dW,List.length_set]
    rw [hb1,gH,hl2]
    exact hH
   ·have hb0:n.testBit (s-1-i)=false:=by
     cases hb:n.testBit (s-1-i) with
     | false=>rfl
     | true=>exact absurd (hbit.2 hb) (by omega)
    rw [hb0] at dW
    simp only [Bool.false_eq_true,if_false] at dW
    refine aK ?_
    apply eL 9223372036854767680 [(6,.int .i64 ((s-1-i:Nat):Int)),(56,pt p),(57,pt p)]
    ·exact ⟨rfl,rfl,rfl,trivial⟩
    ·exact LO
    intro σ
    refine key σ _ ⟨a2,c2,?_⟩
    rw [hb0,dW]
    exact hH
  rintro σ3 w3 ⟨a3,c3,hH⟩
  have hB:=hH.b 0 rfl
  repeat (first|(refine aD (by first|refine aG rfl|refine aN rfl (Ty.bA rfl rfl)|refine aB rfl hB rfl (Ty.aF rfl)) rfl ?_)|refine aT ?_)
  refine aA (dR 0 (v:=.int .i64 ((bi.length:Int)+1)) hH rfl rfl rfl (by simp) rfl (Ty.aF rfl) ?_)
  intro _ hH
  replace hH:=aI hH
  refine aK ?_
  refine IH (i+1,a3,c3) _ _ ?_ ?_ ?_ ?_
  ·simp only;omega
  ·exact ⟨congrArg (Value.int .i64) (by omega),trivial⟩
  ·exact cP
  ·exact ⟨by omega,by rw [hnext,show ((bi++[n.testBit (s-1-i)]).length:Int)=(bi.length:Int)+1 by simp];exact hH⟩
 ·obtain rfl:i=s:=by omega
  rw [List.take_of_length_le (by rw [cA];omega)] at hH
  have hH2:=hH.merge 0 1 rfl rfl (by decide)
  refine aK ?_
  exact cE Tryz.func81 rfl ⟨rfl,a1,c1,hH2.dX 0 rfl⟩
theorem Ft {p c:Nat} {a:Option Addr} {bs:List Bool} {w:World} (hR:(Rw p a c bs).holds w):aX Tryz.prog 93 #[pt p] w fun v w'=>v=.int .i64 bs.length∧w'=w:=by
 refine aL (args:=[_]) Tryz.func93 rfl rfl Tryz.ntmps93 rfl ?_
 have hB:cL w p 156 #[.slice a (pk bs).length c,.int .i64 bs.length]:=hR.1
 repeat (first|refine aR ?_|(refine aD (by first|refine aG rfl|refine aN rfl (Ty.bA rfl rfl)|refine gF rfl rfl (.inr rfl) CY|refine aB rfl hB rfl (Ty.aF rfl)) rfl ?_)|refine aT ?_)
 exact aM Tryz.func93 rfl ⟨rfl,rfl⟩
theorem tU {p c:Nat} {a:Option Addr} {bs:List Bool} {w:World} (hR:(Rw p a c bs).holds w) (hbl:bs.length≤1099511627776):aX Tryz.prog 91 #[pt p] w fun v w'=>∃ a' c',v=.slice a' (pk bs).length c'∧iA (gH a' c' (pk bs)) w w':=by
 refine aL (args:=[_]) Tryz.func91 rfl rfl Tryz.ntmps91 rfl ?_
 have hB:cL w p 156 #[.slice a (pk bs).length c,.int .i64 bs.length]:=hR.1
 have hO:cI w a ((pk bs).map B):=(hR.2.1:Own _ _ _ _ _ _ _).sl
 have hH:=Hp.start w
 have hpl:=eN bs
 repeat (first|refine aR ?_|(refine aD (by refine gF rfl rfl (.inr rfl) CY) rfl ?_)|refine aT ?_)
 refine aO ?_
 refine aA (cN (out:=[]) hH (Ty.sle rfl) (Ty.bH rfl) rfl rfl rfl (by decide) rfl ?_)
 try clear hH
 intro _ b5 hH
 replace hH:=aI hH
 have hB2:=hB.aH hH.ext
 repeat (first|(refine aD (by first|refine aG rfl|refine aN rfl (Ty.bA rfl rfl)|refine aB rfl hB2 rfl (Ty.aF rfl)) rfl ?_)|refine aT ?_)
 replace hH:Hp [] w _ [Ro 5 1 (some ⟨b5,0,none⟩) 0 0 []]:=hH.as 0 rfl (fun _ h=>h) (fun h=>(h:cL _ _ _ _).own (n:=0) (sz:=1) rfl (by decide))
 refine aO ?_
 refine aA (bZ 0 hH rfl (Ty.sle rfl) (Ty.bH rfl) rfl (Ty.gS rfl) (by decide) rfl rfl (hH.old hO) (by simp;try omega) (by simp) (by omega) (by simp only [maxLen];omega) rfl ?_)
 try clear hH
 intro _ a2 c2 hH
 replace hH:=aI hH
 refine aK ?_
 refine aM Tryz.func91 rfl ⟨a2,c2,congrArg (fun n=>Value.slice a2 n c2) (Nat.zero_add _),(hH.oA 0 rfl).as (fun _ h=>h) (fun h=>?_)⟩
 simpa [gH,Ro] using h
theorem iI {p c:Nat} {a:Option Addr} {bs:List Bool} {b:Bool} {w:World} (hbl:bs.length≤1099511627776) (hR:(Rw p a c bs).holds w):aX Tryz.prog 82 #[pt p,.bool b] w fun v w'=>v=.tuple #[]∧∃ a' c',jA (Rw p a c bs) (Rw p a' c' (bs++[b])) w w':=by
 refine aL (args:=[_,_]) Tryz.func82 rfl rfl Tryz.ntmps82 rfl ?_
 cases b with
 | true =>
  refine aK ?_
  refine aO ?_
  refine aA (aC (cH (n:=1) (s:=1) (by decide) (by decide) hbl hR) rfl rfl ?_)
  rintro v w1 ⟨rfl,a',c',hU⟩
  refine aK ?_
  exact cE Tryz.func82 rfl ⟨rfl,a',c',hU⟩
 | false =>
  refine aK ?_
  refine aO ?_
  refine aA (aC (cH (n:=0) (s:=1) (by decide) (by decide) hbl hR) rfl rfl ?_)
  rintro v w1 ⟨rfl,a',c',hU⟩
  refine aK ?_
  exact cE Tryz.func82 rfl ⟨rfl,a',c',hU⟩
def Rr (p:Nat) (a:Option Addr) (c:Nat) (l:List Nat) (at' e:Nat) (en:Bool):cK:=sep (Rb p 221 #[.slice a l.length c,.int .i64 at',.int .i64 e,.bool en]) (gH a c l)
def Rd (p:Nat) (a:Option Addr) (c:Nat) (s:RS):cK:=⟨[p]++dI a,fun w=>∃ l at' e,(Rr p a c l at' e s.ended).holds w∧at'≤e∧e≤8*l.length∧l.length≤1099511627776∧gR l∧s.rest=bl l at' e,
 fun h hE hS=>by obtain ⟨l,at',e,hR,hr⟩:=h;exact ⟨l,at',e,(Rr p a c l at' e _).keep hR hE hS,hr⟩,fun h x hx=>by obtain ⟨l,at',e,hR,hr⟩:=h;exact (Rr p a c l at' e _).lt hR x hx⟩
def Rq (p:Nat) (a:Option Addr) (c:Nat) (l:List Nat) (e:Nat) (s:RS):cK:=⟨[p]++dI a,fun w=>∃ at',(Rr p a c l at' e s.ended).holds w∧at'≤e∧e≤8*l.length∧l.length≤1099511627776∧gR l∧s.rest=bl l at' e,
 fun h hE hS=>by obtain ⟨at',hR,hr⟩:=h;exact ⟨at',(Rr p a c l at' e _).keep hR hE hS,hr⟩,fun h x hx=>by obtain ⟨at',hR,hr⟩:=h;exact (Rr p a c l at' e _).lt hR x hx⟩
theorem Rq.rd {p c e:Nat} {a:Option Addr} {l:List Nat} {s:RS} {w:World} (h:(Rq p a c l e s).holds w):(Rd p a c s).holds w:=by
 obtain ⟨at',h⟩:=h
 exact ⟨l,at',e,h⟩
theorem Rq.dX {p c e:Nat} {a:Option Addr} {l:List Nat} {s s':RS} {w w':World} (h:jA (Rq p a c l e s) (Rq p a c l e s') w w'):jA (Rd p a c s) (Rd p a c s') w w':=⟨h.ext,Rq.rd h.holds,h.fp⟩
theorem Rd.q {p c:Nat} {a:Option Addr} {s:RS} {w:World} (h:(Rd p a c s).holds w):∃ l e,(Rq p a c l e s).holds w:=by
 obtain ⟨l,at',e,h⟩:=h
 exact ⟨l,e,at',h⟩
theorem Rq.up {p c at' at2 e:Nat} {a:Option Addr} {l:List Nat} {en:Bool} {s s':RS} {w w':World} (h:jA (Rr p a c l at' e en) (Rr p a c l at2 e s'.ended) w w') (h1:at2≤e∧e≤8*l.length∧l.length≤1099511627776∧gR l∧s'.rest=bl l at2 e):jA (Rq p a c l e s) (Rq p a c l e s') w w' :=
 ⟨h.ext,⟨at2,h.holds,h1⟩,h.fp⟩
theorem B4 {p c:Nat} {a:Option Addr} {s:RS} {w:World} (hR:(Rd p a c s).holds w):aX Tryz.prog 131 #[pt p] w fun v w'=>v=.bool s.ended∧w'=w:=by
 obtain ⟨l,at',e,hR,hr⟩:=hR
 refine aL (args:=[_]) Tryz.func131 rfl rfl Tryz.ntmps131 rfl ?_
 have hB:cL w p 221 #[.slice a l.length c,.int .i64 at',.int .i64 e,.bool s.ended]:=hR.1
 repeat (first|refine aR ?_|(refine aD (by first|refine aG rfl|refine aN rfl (Ty.bA rfl rfl)|refine gF rfl rfl (.inr rfl) M9|refine aB rfl hB rfl (Ty.aF rfl)) rfl ?_)|refine aT ?_)
 exact aM Tryz.func131 rfl ⟨rfl,rfl⟩
theorem KI {l:List Nat} {at':Nat}:((l.getD (at' / 8) 0) / 2 ^ (7-at' % 8)) &&& 1=(tF l at').toNat:=by
 unfold tF
 rw [Nat.and_one_is_mod,Nat.testBit_eq_decide_div_mod_eq]
 generalize l.getD (at' / 8) 0 / 2 ^ (7-at' % 8)=x
 have:=Nat.mod_two_eq_zero_or_one x
 rcases this with h|h<;>simp [h]
set_option maxHeartbeats 1000000 in
theorem OX {p c e:Nat} {a:Option Addr} {l:List Nat} {s:RS} {w:World} (hR:(Rq p a c l e s).holds w):aX Tryz.prog 130 #[pt p] w fun v w'=>v=.int .u64 (kT s).1.toNat∧jA (Rq p a c l e s) (Rq p a c l e (kT s).2) w w':=by
 have hR0:=hR
 obtain ⟨at',hR,h1,h2,h3,h4,h5⟩:=hR
 refine aL (args:=[_]) Tryz.func130 rfl rfl Tryz.ntmps130 rfl ?_
 have hH:=(Hp.fI hR).split 0 rfl
 replace hH:=aI hH
 have hB:cL w p 221 #[.slice a l.length c,.int .i64 at',.int .i64 e,.bool s.ended]:=hR.1
 obtain ⟨rest,en⟩:=s
 simp only at h5 hB hR
 cases en with
 | true =>
  repeat (first|refine aR ?_|(refine aD (by first|refine aG rfl|refine aN rfl (Ty.bA rfl rfl)|refine gF rfl rfl (.inr rfl) M9|refine aB rfl hB rfl (Ty.aF rfl)) rfl ?_)|refine aT ?_)
  exact aM Tryz.func130 rfl ⟨rfl,jA.same hR0 .refl⟩
 | false =>
  repeat (first|refine aR ?_|(refine aD (by first|refine aG rfl|refine aN rfl (Ty.bA rfl rfl)|refine gF rfl rfl (.inr rfl) M9|refine aB rfl hB rfl (Ty.aF rfl)) rfl ?_)|refine aT ?_)
  refine cD Ty.mixed 9 rfl (fun w1 hx1=>?_)
  refine bE 0 hx1 ?_
  refine AO ?_
  refine uN ?_
  refine I5 ?_
  refine bE 4 hx1 ?_
  refine ID ?_
  refine xD ?_
  refine aY 7 hx1 rfl (fun w' hw'=>by refine aB rfl (hB.aH hw') rfl (Ty.aF rfl)) ?_
  refine bE 8 hx1 ?_
  refine aW (by kernel_rfl) ?_
  replace hH:=hH.aH hx1
  by_cases he:e≤at'
  ·have hr:rest=[]:=by rw [h5];exact Ms he
   subst hr
   repeat (first|refine aR ?_|(refine aD (by first|refine aG rfl|refine aN rfl (Ty.bA rfl rfl)) rfl ?_)|refine aT ?_)
   refine aA (dR 0 (v:=.bool true) hH rfl rfl rfl (by simp) rfl (Ty.aF rfl) ?_)
   try clear hH
   intro _ hH
   replace hH:=aI hH
   replace hH:=hH.merge 0 1 rfl rfl (by decide)
   refine aK ?_
   exact aM Tryz.func130 rfl ⟨rfl,Rq.up (at2:=at') (hH.dX 0 rfl) ⟨h1,h2,h3,h4,h5⟩⟩
  ·have hr:rest=tF l at'::bl l (at'+1) e:=by rw [h5];exact Kl (by omega)
   subst hr
   have hlb:l.getD (at' / 8) 0<256:=by
    rw [List.getD_eq_getElem?_getD,List.getElem?_eq_getElem (by omega)];exact h4 _ (List.getElem_mem _)
   have hv:(l.map B)[((at':Int) / 8).toNat]?=some (B (l.getD (at' / 8) 0)):=by
    rw [show ((at':Int) / 8).toNat=at' / 8 by omega,List.getElem?_map,List.getD_eq_getElem?_getD,List.getElem?_eq_getElem (by omega)];rfl
   have hq:l.getD (at' / 8) 0 / 2 ^ (7-at' % 8)<256:=Nat.lt_of_le_of_lt (Nat.div_le_self _ _) hlb
   have hO:=(hH.o 1 rfl).sl
   have hB1:=hH.b 0 rfl
   have hsub:7-(at':Int) % 8=((7-at' % 8:Nat):Int):=by omega
   have hbv:=KI (l:=l) (at':=at')
   refine aK ?_
   refine cD Ty.mixed 21 rfl (fun w1 hx1=>?_)
   refine bE 0 hx1 ?_
   refine AO ?_
   refine uN ?_
   refine aY 3 hx1 rfl (fun w' hw'=>by refine aB rfl (hB1.aH hw') rfl (Ty.aF rfl)) ?_
   refine bE 4 hx1 ?_
   refine ID ?_
   refine xD ?_
   refine aY 7 hx1 rfl (fun w' hw'=>by refine aB rfl (hB1.aH hw') rfl (Ty.aF rfl)) ?_
   refine bE 8 hx1 ?_
   refine aY 9 hx1 rfl (fun w' hw'=>by refine cG rfl rfl (hO.aH hw') (by simp) (Ty.sle rfl) (by omega)) ?_
   refine aY 10 hx1 rfl (fun w' hw'=>by refine aU rfl (hO.aH hw') hv (Ty.aF rfl)) ?_
   refine bE 11 hx1 ?_
   refine aY 12 hx1 rfl (fun w' hw'=>by refine aG rfl) ?_
   refine aY 13 hx1 rfl (fun w' hw'=>by refine aN rfl (Ty.bA rfl rfl)) ?_
   refine aY 14 hx1 rfl (fun w' hw'=>by refine aB rfl (hB1.aH hw') rfl (Ty.aF rfl)) ?_
   refine bE 15 hx1 ?_
   refine aY 16 hx1 rfl (fun w' hw'=>by refine (dM (m:=7) (n:=(at':Int) % 8) rfl rfl (by omega)).is (congrArg (Value.int .i64) hsub)) ?_
   refine aY 17 hx1 rfl (fun w' hw'=>by refine mV rfl rfl (CO hlb)) ?_
   refine bE 18 hx1 ?_
   refine aY 19 hx1 rfl (fun w' hw'=>by refine tT (n:=1) rfl rfl (kI (by omega)) rfl) ?_
   refine bE 20 hx1 ?_
   refine aW (by kernel_rfl) ?_
   replace hH:=hH.aH hx1
   have hB2:=hH.b 0 rfl
   repeat (first|refine aR ?_|(refine aD (by first|refine aG rfl|refine aN rfl (Ty.bA rfl rfl)|refine aB rfl hB2 rfl (Ty.aF rfl)) rfl ?_)|refine aT ?_)
   refine aA (dR 0 (v:=.int .i64 ((at':Int)+1)) hH rfl rfl rfl (by simp) rfl (Ty.aF rfl) ?_)
   try clear hH
   intro _ hH
   replace hH:=aI hH
   replace hH:=hH.merge 0 1 rfl rfl (by decide)
   refine aK ?_
   exact aM Tryz.func130 rfl ⟨congrArg (fun n:Nat=>Value.int .u64 (n:Int)) hbv,Rq.up (at2:=at'+1) (s':=⟨bl l (at'+1) e,false⟩) (hH.dX 0 rfl) ⟨by omega,h2,h3,h4,rfl⟩⟩
theorem Fa {p c:Nat} {a:Option Addr} {s:RS} {w:World} (hR:(Rd p a c s).holds w):aX Tryz.prog 130 #[pt p] w fun v w'=>v=.int .u64 (kT s).1.toNat∧jA (Rd p a c s) (Rd p a c (kT s).2) w w':=by
 obtain ⟨l,e,h⟩:=Rd.q hR
 exact (OX h).mono (fun v w' h=>⟨h.1,Rq.dX h.2⟩)
theorem El:∀ (k n m:Nat) (s:RS),n<2 ^ m→(kD k n s).1<2 ^ (m+k)
 | 0,n,m,_,h=>h
 | k+1,n,m,s,h=>by
  have hb:(kT s).1.toNat≤1:=by cases (kT s).1<;>decide
  have:=El k (2*n+(kT s).1.toNat) (m+1) (kT s).2 (by rw [Nat.pow_succ];omega)
  rw [kD,show m+(k+1)=m+1+k by omega]
  exact this
theorem Mq (n:Nat) (b:Bool):n*2 ||| b.toNat=2*n+b.toNat:=by
 have h:=Nat.two_pow_add_eq_or_of_lt (i:=1) (b:=b.toNat) (by cases b<;>decide) n
 rw [Nat.pow_one] at h
 rw [h,Nat.mul_comm]
def Bm (size:Nat) (s:RS):Nat × RS:=(if (kD size 0 s).2.ended then 0 else (kD size 0 s).1,(kD size 0 s).2)
set_option maxHeartbeats 1000000 in
theorem Bp {p c k:Nat} {a:Option Addr} {s:RS} {sz:Int} {w:World} (hk:min (max sz 0) 64=(k:Int)) (hR:(Rd p a c s).holds w):aX Tryz.prog 94 #[pt p,.int .i64 sz] w fun v w'=>v=.int .u64 (Bm k s).1∧jA (Rd p a c s) (Rd p a c (Bm k s).2) w w':=by
 refine aL (args:=[_,_]) Tryz.func94 rfl rfl Tryz.ntmps94 rfl ?_
 refine aK ?_
 refine aV (G:=(Nat)) (fun i=>k-i) 65312 (fun i=>[(8,.int .i64 i),(5,.int .u64 (kD i 0 s).1)]) (fun i w'=>i≤k∧jA (Rd p a c s) (Rd p a c (kD i 0 s).2) w w') (0) ⟨rfl,rfl,trivial⟩ ⟨by omega,jA.refl hR⟩ ?_
 rintro i w1 σ ⟨hi,hU⟩ IH
 show WS _ _ _ _ _ (bQ [(8,.int .i64 i),(5,.int .u64 (kD i 0 s).1)] _) _
 have hlt2:=El i 0 0 s (by decide)
 by_cases hlt:i<k
 ·have hsn:=yS i 0 s
  have hp:(2:Nat) ^ (0+i)≤2 ^ 63:=Nat.pow_le_pow_right (by decide) (by omega)
  generalize (kD i 0 s)=q at *
  obtain ⟨n,s'⟩:=q
  simp only at hlt2 hU hsn
  have hm:n*2 ^ 1 % 18446744073709551616=n*2:=by omega
  repeat (first|refine aR ?_|(refine aD (by refine (Al (n:=1) rfl rfl).is (congrArg (fun n:Nat=>Value.int .u64 (n:Int)) hm)) rfl ?_)|refine aT ?_)
  refine aO ?_
  refine aA (aC (Fa hU.holds) rfl rfl ?_)
  rintro v w2 ⟨rfl,hU2⟩
  have hb:(kT s').1.toNat≤1:=by cases (kT s').1<;>decide
  have hor:=Mq n (kT s').1
  repeat (first|refine aR ?_|(refine aD (by refine (HL rfl rfl (kI (by omega)) (kI (by omega))).is (congrArg (fun n:Nat=>Value.int .u64 (n:Int)) hor)) rfl ?_)|refine aT ?_)
  refine IH (i+1) _ _ ?_ ?_ ?_ ?_
  ·omega
  ·exact ⟨rfl,by rw [hsn];rfl,trivial⟩
  ·exact cP
  ·exact ⟨by omega,by rw [hsn];exact hU.trans hU2⟩
 ·obtain rfl:i=k:=by omega
  refine aK ?_
  refine aO ?_
  refine aA (aC (B4 hU.holds) rfl rfl ?_)
  rintro v w2 ⟨rfl,rfl⟩
  unfold Bm
  cases hen:(kD i 0 s).2.ended with
  | true =>
   refine aK ?_
   exact aM Tryz.func94 rfl ⟨rfl,hU⟩
  | false =>
   refine aK ?_
   exact aM Tryz.func94 rfl ⟨rfl,hU⟩
set_option maxHeartbeats 1000000 in
theorem F7 {n cap e:Nat} {a:Option Addr} {l:List Nat} {sz:Int} {w:World} (hS:cI w a (l.map B)) (hn:l.length=n) (hlen:n≤1099511627776) (he:min (max sz 0) (8*n:Nat)=(e:Int)) :
  aX Tryz.prog 92 #[.slice a n cap,.int .i64 sz] w fun v w'=>∃ p a' c',v=pt p∧iA (Rr p a' c' l 0 e false) w w':=by
 subst hn
 refine aL (args:=[_,_]) Tryz.func92 rfl rfl Tryz.ntmps92 rfl ?_
 have hH:=Hp.start w
 refine aK ?_
 refine aA (IY (n:=l.length) hH (Ty.sle rfl) (Ty.bH rfl) (Ty.gS rfl) rfl rfl rfl (by omega) (by omega) (by simp only [maxLen];omega) rfl ?_)
 try clear hH
 intro _ b hH
 replace hH:=hH.made 0 rfl (by omega)
 replace hH:=aI hH
 refine aK ?_
 rw [show (l.length:Int)*8=((8*l.length:Nat):Int) by omega,he]
 repeat ((refine aD (by refine bR (cs:=[.slice (some ⟨b,0,none⟩) l.length l.length,.int .i64 0,.int .i64 e,.bool false]) (Ty.bH rfl) (Ty.iJ rfl) rfl) rfl ?_))
 refine aA (bI hH rfl rfl rfl ?_)
 try clear hH
 intro _ p hH
 replace hH:=aI hH
 have hB:cL _ p 221 #[.slice (some ⟨b,0,none⟩) l.length l.length,.int .i64 0,.int .i64 e,.bool false]:=hH.b 1 rfl
 repeat (first|refine aR ?_|(refine aD (by first|refine aG rfl|refine aN rfl (Ty.bA rfl rfl)|refine aB rfl hB rfl (Ty.aF rfl)) rfl ?_)|refine aT ?_)
 refine aA (Jp 0 hH rfl (Ty.sle rfl) rfl rfl (hH.old hS) (by simp) (Nat.le_refl _) (by simp) rfl ?_)
 try clear hH
 intro _ hH
 replace hH:=aI hH
 rw [List.drop_of_length_le (by simp),List.append_nil] at hH
 replace hH:=(hH.swap (List.Perm.swap _ _ [])).merge 0 1 rfl rfl (by decide)
 refine aK ?_
 exact aM Tryz.func92 rfl ⟨p,_,_,rfl,hH.oA 0 rfl⟩
theorem Rr.rd {p c e:Nat} {a:Option Addr} {l:List Nat} {w w':World} (h:iA (Rr p a c l 0 e false) w w') (he:e≤8*l.length) (hlen:l.length≤1099511627776) (hl:gR l):iA (Rd p a c ⟨bl l 0 e,false⟩) w w' :=
 ⟨h.ext,⟨l,0,e,h.holds,by omega,he,hlen,hl,rfl⟩,h.fp⟩
theorem Q4 (b:Bool):nb b.toNat 1=[b]:=by cases b<;>rfl
def fP (W0:Nat) (e:TypeId) (cs:Array Value) (g:Nat→Value):Value→World→Prop:=fun v w=>∃ b,v=g b∧cL w b e cs∧W0≤b
theorem fP.st {W0:Nat} {e:TypeId} {cs:Array Value} {g:Nat→Value}:mQ (fP W0 e cs g):=fun _ _ _ ⟨b,h,hB,hb⟩ hE=>⟨b,h,hB.aH hE,hb⟩
def yN (W0:Nat) (l:List Nat) (g:Option Addr→Nat→Value):Value→World→Prop:=fun v w=>∃ a c,v=g a c∧(gH a c l).holds w∧∀ x∈(gH a c l).fp,W0≤x
theorem yN.st {W0:Nat} {l:List Nat} {g:Option Addr→Nat→Value}:mQ (yN W0 l g):=fun _ _ _ ⟨a,c,h,hR,hf⟩ hE=>⟨a,c,h,(gH a c l).keep hR hE (by simp),hf⟩
theorem IP {w:World} {b:Nat} {a:Option Addr} {c:Nat} {l:List Nat} {cs:Array Value} (h1:cL w b 156 cs) (h2:(gH a c l).holds w):Dj (Rb b 156 cs) (gH a c l):=by
 intro x hx hx'
 have hxb:x=b:=by simpa [Rb] using hx
 subst hxb
 obtain ⟨_,_,_,⟨rfl,_⟩|⟨b',cur,rfl,hB,_⟩⟩:=(h2:Own _ _ _ _ _ _ _)
 ·simp [gH,Ro,dI] at hx'
 ·have:x=b':=by simpa [gH,Ro,dI] using hx'
  subst this
  have h3:=hB.symm.trans h1
  simp at h3
set_option maxHeartbeats 2000000 in
theorem lL {p c:Nat} {a:Option Addr} {bs:List Bool} {w:World} (hR:(Rw p a c bs).holds w) (hbl:bs.length≤1099511627776):aX Tryz.prog 83 #[pt p] w fun v w'=>∃ a' c',v=.slice a' (pk (bs++[true])).length c'∧iA (gH a' c' (pk (bs++[true]))) w w':=by
 refine aL (args:=[_]) Tryz.func83 rfl rfl Tryz.ntmps83 rfl ?_
 have hB:cL w p 156 #[.slice a (pk bs).length c,.int .i64 bs.length]:=hR.1
 have hO:cI w a ((pk bs).map B):=(hR.2.1:Own _ _ _ _ _ _ _).sl
 have hpl:=eN bs
 repeat (first|refine aR ?_|(refine aD (by refine gF rfl rfl (.inr rfl) CY) rfl ?_)|refine aT ?_)
 refine nK 12 rfl (by kernel_rfl) (by kernel_rfl) [fP w.heap.size 5 #[] (fun b=>.slice (some ⟨b,0,none⟩) 0 0),Is (pt p),Is (pt p),Is (.pointer (some ⟨p,0+0,none⟩)),Is (.slice a (pk bs).length c),yN w.heap.size (pk bs) (fun a' c'=>.slice a' (pk bs).length c'),Is (pt p),Is (pt p),Is (.pointer (some ⟨p,0+1,none⟩)),Is (.int .i64 bs.length),yN w.heap.size (pk bs) (fun a' c'=>.agg #[.slice a' (pk bs).length c',.int .i64 bs.length]),fP w.heap.size 156 #[.slice none 0 0,.int .i64 0] (fun b=>pt b)] Ty.mixed [(128904,[],true),(130632,[],true),(130248,[(1,7)],true),(129480,[(2,8)],true),(127944,[(3,9)],true),(63432,[(0,6),(4,10)],true),(118728,[],true),(106440,[(6,12)],true),(81864,[(7,13)],true),(32712,[(8,14)],true),(65480,[(5,11),(9,15)],true),(131008,[],true)] 131016 [(10,16),(11,3)] (by kernel_rfl) (by kernel_rfl) (by kernel_rfl) (by kernel_rfl) (by kernel_rfl) ⟨(by exact fP.st),Is.st,Is.st,Is.st,Is.st,(by exact yN.st),Is.st,Is.st,Is.st,Is.st,(by exact yN.st),(by exact fP.st),trivial⟩ ⟨⟨cC.none,?_⟩,⟨cC.none,?_⟩,⟨cC.none,?_⟩,⟨cC.none,?_⟩,⟨cC.none,?_⟩,⟨cC.none,?_⟩,⟨cC.none,?_⟩,⟨cC.none,?_⟩,⟨cC.none,?_⟩,⟨cC.none,?_⟩,⟨cC.none,?_⟩,⟨cC.none,?_⟩,trivial⟩ ?_
 ·intro w'' hE''
  intro σ''
  refine oK (out:=[]) (Ty.sle rfl) (Ty.bH rfl) rfl rfl rfl (by decide) rfl ?_
  intro w3'' b'' hb'' hE3'' hB'' hs''
  exact xO
 ·intro w'' hE''
  intro σ''
  exact bJ (by refine aP rfl) rfl
 ·intro w'' hE''
  rintro _ rfl
  intro σ''
  exact bJ (by refine aP rfl) rfl
 ·intro w'' hE''
  rintro _ rfl
  intro σ''
  exact Au
 ·intro w'' hE''
  rintro _ rfl
  intro σ''
  exact xM
 ·intro w'' hE''
  rintro _ h0
  rintro _ rfl
  intro σ''
  obtain ⟨b0,rfl,hB0,hb0⟩:=h0
  refine xY (Ty.sle rfl) (Ty.bH rfl) rfl (Ty.gS rfl) (by decide) rfl hB0 rfl (hO.aH hE'') (by simp) (by omega) (by simp only [maxLen];omega) rfl ?_
  intro w3'' a'' c'' hE3'' hO3'' hf''
  exact ⟨hE3'',_,rfl,a'',c'',rfl,hO3'',fun x hx=>by have:=hE''.size;rcases hf'' x hx with h|h<;>omega⟩
 ·intro w'' hE''
  intro σ''
  exact bJ (by refine aP rfl) rfl
 ·intro w'' hE''
  rintro _ rfl
  intro σ''
  exact bJ (by refine aP rfl) rfl
 ·intro w'' hE''
  rintro _ rfl
  intro σ''
  exact Au
 ·intro w'' hE''
  rintro _ rfl
  intro σ''
  exact xM
 ·intro w'' hE''
  rintro _ h5
  rintro _ rfl
  intro σ''
  obtain ⟨a5,c5,rfl,hO5,hf5⟩:=h5
  exact fA (bR (cs:=[.slice a5 (pk bs).length c5,.int .i64 bs.length]) (Ty.bH rfl) (Ty.iJ rfl) rfl) rfl ⟨.refl,_,rfl,a5,c5,rfl,hO5,hf5⟩
 ·intro w'' hE''
  intro σ''
  refine dS (Ty.bH rfl) rfl ?_
  intro w3'' b'' hb'' hE3'' hB'' hs''
  exact xO
 intro w'' hE''
 rintro _ h10
 rintro _ h11
 intro σ''
 obtain ⟨a5,c5,rfl,hO5,hf5⟩:=h10
 obtain ⟨b11,rfl,hB11,hb11⟩:=h11
 have hH:Hp [] w w'' [Rb b11 156 #[.slice none 0 0,.int .i64 0],gH a5 c5 (pk bs)] :=
  ⟨hE'',by intro r hr;simp at hr;rcases hr with rfl|rfl;exact hB11;exact hO5,by intro r hr x hx;simp at hr;rcases hr with rfl|rfl;(right;simp [Rb] at hx;omega);exact .inr (hf5 x hx),by simpa using IP hB11 hO5⟩
 refine aA (dH (vs:=#[.slice a5 (pk bs).length c5,.int .i64 bs.length]) rfl rfl hB11 rfl rfl (by simp) (Ty.aF rfl) ?_)
 intro _ hE12 hB12 _
 replace hH:=hH.up 0 (r':=Rb b11 156 #[.slice a5 (pk bs).length c5,.int .i64 bs.length]) rfl ⟨hE12,hB12,fun _ hx=>.inl hx⟩
 replace hH:=hH.merge 0 1 rfl rfl (by decide)
 refine aK ?_
 refine aO ?_
 refine aA (aC (cH (p:=b11) (n:=1) (s:=1) (bs:=bs) (by decide) (by decide) hbl (hH.at 0 rfl)) rfl rfl ?_)
 rintro v w2 ⟨rfl,a6,c6,hU⟩
 replace hH:=hH.up 0 rfl hU
 have hB6:cL _ b11 156 #[.slice a6 (pk (bs++nb 1 1)).length c6,.int .i64 (bs++nb 1 1).length]:=(hH.at 0 rfl).1
 replace hH:=hH.split 0 rfl
 repeat (first|refine aR ?_|(refine aD (by first|refine aN rfl (Ty.bA rfl rfl)|refine aB rfl hB6 rfl (Ty.aF rfl)) rfl ?_)|refine aT ?_)
 exact aM Tryz.func83 rfl ⟨a6,c6,rfl,hH.oA 1 rfl⟩
abbrev np:Value:=.pointer none
theorem H5 {P:Program} {ρ:Fr} {w:World} {dst:Option Nat} {ty t:TypeId} {pos:String} {af:Array Edge} {gd:Option (Nat × Bool)} {x y:Operand} {s:ByteArray} {i:Int} {q:IntKind} {b:UInt8} (hx:ev ρ x=.string s) (hy:ev ρ y=.int q i) (ht:isStr P t=true) (h0:0≤i) (hb:s[i.toNat]?=some b) :
  cU P ρ ⟨dst,.index t x y,ty,pos,af,gd⟩ w (.int .u8 b.toNat) w:=by
 have hu:P.underlying t=some .string:=by
  unfold isStr at ht
  split at ht
  ·assumption
  ·cases ht
 constructor;unfold execOp
 simp [hx,hy,Instr.index,run_underlying hu,asIntOf,h0,hb]
set_option maxRecDepth 100000 in
set_option maxHeartbeats 1000000 in
theorem Cq {x:Nat} {w:World} (hx:x<65536):aX Tryz.prog 197 #[.int .u64 x] w fun v w'=>v=.int .i64 (fR x)∧w'=w:=by
 refine aL (args:=[_]) Tryz.func197 rfl rfl Tryz.ntmps197 rfl ?_
 by_cases h:256≤x
 ·have hb:=Gs h
  have hd:x / 2 ^ 8=x / 256:=rfl
  repeat (first|refine aR ?_|(refine aD (by refine (mV (m:=x) (n:=8) rfl rfl (kI (by omega))).is (congrArg (fun n:Nat=>Value.int .u64 (n:Int)) hd)) rfl ?_)|refine aT ?_)
  have htab:(strOf Ip)[((((x / 256:Nat)):Int)).toNat]?=some (UInt8.ofNat (fR (x / 256))):=FH (x / 256) (by omega)
  have hmod:x / 256 % 256=x / 256:=by omega
  have hbl:=En (x / 256) (by omega)
  have hu8:(UInt8.ofNat (fR (x / 256))).toNat=fR (x / 256):=by simp;omega
  repeat (first|refine aR ?_|(refine aD (by refine (H5 (s:=strOf Ip) rfl rfl (Ty.K8 rfl) (by omega) htab).is (congrArg (fun n:Nat=>Value.int .u8 (n:Int)) hu8)) rfl ?_)|refine aT ?_)
  refine aM Tryz.func197 rfl ⟨congrArg (Value.int .i64) (by omega),rfl⟩
 ·refine aK ?_
  have htab:(strOf Ip)[((((x:Nat)):Int)).toNat]?=some (UInt8.ofNat (fR (x))):=FH (x) (by omega)
  have hmod:x % 256=x:=by omega
  have hbl:=En (x) (by omega)
  have hu8:(UInt8.ofNat (fR (x))).toNat=fR (x):=by simp;omega
  repeat (first|refine aR ?_|(refine aD (by refine (H5 (s:=strOf Ip) rfl rfl (Ty.K8 rfl) (by omega) htab).is (congrArg (fun n:Nat=>Value.int .u8 (n:Int)) hu8)) rfl ?_)|refine aT ?_)
  refine aM Tryz.func197 rfl ⟨congrArg (Value.int .i64) (by omega),rfl⟩
theorem Ci {x:Nat} {w:World} (hx:x<65536):aX Tryz.prog 201 #[.int .u64 x] w fun v w'=>v=.int .i64 (fR x)∧w'=w:=by
 refine aL (args:=[_]) Tryz.func201 rfl rfl Tryz.ntmps201 rfl ?_
 refine aK ?_
 refine aO ?_
 refine aA (aC (Cq hx) rfl rfl ?_)
 rintro v w1 ⟨rfl,rfl⟩
 refine aK ?_
 exact aM Tryz.func201 rfl ⟨rfl,rfl⟩
theorem yH:∀ (l:List Bool),(l.flatMap fun d=>[d,true]).length=2*l.length
 | []=>rfl
 | d::l=>by rw [List.flatMap_cons,List.length_append,yH l];simp;omega
theorem KE {n i D:Nat} (hi:i<D):qH (nb (n+1) D) i++[(n+1).testBit (D-1-i)]++[true]=qH (nb (n+1) D) (i+1):=by
 unfold qH
 rw [List.take_succ_eq_append_getElem (by rw [cA];exact hi),List.flatMap_append]
 have h:=jW (n:=n+1) hi
 rw [List.getElem?_eq_getElem (by rw [cA];exact hi)] at h
 rw [Option.some.inj h]
 simp
theorem Kg {n D:Nat} (hD:0<D):qH (nb (n+1) D) (D-1)++[(n+1).testBit 0]++[false]=inter (nb (n+1) D):=by
 have hne:nb (n+1) D≠[]:=fun h=>by have:=cA (n+1) D;rw [h] at this;simp at this;omega
 rw [inter_eq _ hne,cA]
 have h:=jW (n:=n+1) (s:=D) (i:=D-1) (by omega)
 rw [show D-1-(D-1)=0 by omega] at h
 have hl:(nb (n+1) D).getLastD false=(n+1).testBit 0:=by
  rw [List.getLastD_eq_getLast?,List.getLast?_eq_getElem?,cA,h];rfl
 rw [hl];simp
theorem Ps (x k:Nat):(x / 2 ^ k &&& 1)=(x.testBit k).toNat:=by
 rw [Nat.and_one_is_mod,Nat.testBit_eq_decide_div_mod_eq]
 have:=Nat.mod_two_eq_zero_or_one (x / 2 ^ k)
 rcases this with h|h<;>simp [h]
set_option maxRecDepth 100000 in
set_option maxHeartbeats 2000000 in
theorem jJ {p n c:Nat} {a:Option Addr} {bs:List Bool} {w:World} (hn:n≤8190) (hbl:bs.length≤1000000000) (hR:(Rw p a c bs).holds w) :
  aX Tryz.prog 165 #[pt p,.int .i64 n] w fun v w'=>v=.bool true∧∃ a' c',jA (Rw p a c bs) (Rw p a' c' (bs++rv n)) w w':=by
 refine aL (args:=[_,_]) Tryz.func165 rfl rfl Tryz.ntmps165 rfl ?_
 unfold rv
 by_cases h0:n=0
 ·subst h0
  repeat (first|refine aR ?_|(refine aD (by refine gF rfl rfl (.inr rfl) CY) rfl ?_)|refine aT ?_)
  refine aO ?_
  refine aA (aC (cH (n:=1) (s:=1) (by decide) (by decide) (by omega) hR) rfl rfl ?_)
  rintro v w1 ⟨rfl,a',c',hU⟩
  refine aK ?_
  exact aM Tryz.func165 rfl ⟨rfl,a',c',hU⟩
 rw [if_neg h0]
 have hp:=Bi (x:=n+1) (by omega)
 have hb:=nV (x:=n+1) (m:=13) (by omega)
 have hb2:1<fR (n+1):=by
  have:=EK (x:=n+1)
  rcases Nat.lt_or_ge 1 (fR (n+1)) with h|h
  ·exact h
  ·have:2 ^ fR (n+1)≤2 ^ 1:=Nat.pow_le_pow_right (by decide) h
   omega
 repeat (first|refine aR ?_|(refine aD (by refine gF rfl rfl (.inr rfl) CY) rfl ?_)|refine aT ?_)
 refine aO ?_
 refine aA (aC (cH (n:=0) (s:=1) (by decide) (by decide) (by omega) hR) rfl rfl ?_)
 rintro v w1 ⟨rfl,a1,c1,hU⟩
 have e:(n:Int)+1=((n+1:Nat):Int):=by omega
 repeat (first|refine aR ?_|(refine aD (by refine (cT (m:=(n:Int)) (n:=1) rfl rfl (by omega)).is (congrArg (Value.int .i64) e)) rfl ?_)|refine aT ?_)
 refine aO ?_
 refine aA (aC (Ci (x:=n+1) (by omega)) rfl rfl ?_)
 rintro v w2 ⟨rfl,rfl⟩
 obtain ⟨D,hD⟩:∃ D,fR (n+1)=D+1:=⟨fR (n+1)-1,by omega⟩
 rw [hD]
 refine aK ?_
 refine aV (G:=(Nat) × (Option Addr) × (Nat)) (fun|(i,a2,c2)=>D-i) 70367670435904 (fun|(i,a2,c2)=>[(6,.int .i64 ((D:Int)-1-i))]) (fun|(i,a2,c2),w'=>i≤D∧jA (Rw p a c bs) (Rw p a2 c2 (bs++(false::if i=D then inter (nb (n+1) D) else qH (nb (n+1) D) i))) w w') (0,a1,c1) ⟨congrArg (Value.int .i64) (by omega),trivial⟩ ⟨by omega,by rw [if_neg (by omega)];exact hU⟩ ?_
 rintro ⟨i,a2,c2⟩ w3 σ ⟨hi,hU3⟩ IH
 show WS _ _ _ _ _ (bQ [(6,.int .i64 ((D:Int)-1-i))] _) _
 by_cases hlt:i<D
 ·rw [if_neg (by omega)] at hU3
  have hk:(D:Int)-1-i=((D-1-i:Nat):Int):=by omega
  rw [hk]
  have hbn:=Ps (n+1) (D-1-i)
  have hb1:((n+1).testBit (D-1-i)).toNat<18446744073709551616:=by cases (n+1).testBit (D-1-i)<;>decide
  have hq:(n+1) / 2 ^ (D-1-i)<18446744073709551616:=Nat.lt_of_le_of_lt (Nat.div_le_self _ _) (by omega)
  have hpl:(qH (nb (n+1) D) i).length=2*i:=by
   rw [qH,yH,List.length_take,cA,Nat.min_eq_left (by omega)]
  repeat (first|refine aR ?_|(refine aD (by first|refine (cT (m:=(n:Int)) (n:=1) rfl rfl (by omega)).is (congrArg (Value.int .i64) e)|refine mV (m:=n+1) rfl rfl (kI (by omega))|refine (tT (n:=1) rfl rfl (kI hq) rfl).is (congrArg (fun n:Nat=>Value.int .u64 (n:Int)) hbn)) rfl ?_)|refine aT ?_)
  refine aO ?_
  refine aA (aC (cH (s:=1) hb1 (by decide) (by simp [hpl];omega) hU3.holds) rfl rfl ?_)
  rintro v w4 ⟨rfl,a4,c4,hU4⟩
  rw [Q4] at hU4
  refine aK ?_
  refine aO ?_
  refine aA (aC (iI (by simp [hpl];omega) hU4.holds) rfl rfl ?_)
  rintro v w5 ⟨rfl,a5,c5,hU5⟩
  have hU6:=(hU3.trans hU4).trans hU5
  have e3:∀ (x y:List Bool) (b d:Bool),((x++(false::y))++[b])++[d]=x++(false::(y++[b]++[d])):=fun x y b d=>by simp
  rw [e3] at hU6
  refine aK ?_
  by_cases hl:i+1=D
  ·have hd0:decide ((0:Int)<((D-1-i:Nat):Int))=false:=decide_eq_false (by omega)
   try dsimp only at hU6
   rw [hd0] at hU6
   have hi0:D-1-i=0:=by omega
   have hi1:i=D-1:=by omega
   have hv:=Kg (n:=n) (D:=D) (by omega)
   rw [hi0,hi1] at hU6
   rw [hv] at hU6
   refine IH (i+1,a5,c5) _ _ ?_ ?_ ?_ ?_
   ·simp only;omega
   ·exact ⟨congrArg (Value.int .i64) (by omega),trivial⟩
   ·exact cP
   ·exact ⟨by omega,by rw [if_pos hl];exact hU6⟩
  ·have hd0:decide ((0:Int)<((D-1-i:Nat):Int))=true:=decide_eq_true (by omega)
   try dsimp only at hU6
   rw [hd0,KE hlt] at hU6
   refine IH (i+1,a5,c5) _ _ ?_ ?_ ?_ ?_
   ·simp only;omega
   ·exact ⟨congrArg (Value.int .i64) (by omega),trivial⟩
   ·exact cP
   ·exact ⟨by omega,by rw [if_neg hl];exact hU6⟩
 ·obtain rfl:i=D:=by omega
  rw [if_pos rfl] at hU3
  refine aK ?_
  exact aM Tryz.func165 rfl ⟨rfl,a2,c2,by simpa using hU3⟩
theorem kL {n:Int} {w:World} (h:-2305843009213693952≤n∧n≤2305843009213693952):aX Tryz.prog 166 #[.int .i64 n] w fun v w'=>v=.int .i64 (Cr n)∧w'=w:=by
 refine aL (args:=[_]) Tryz.func166 rfl rfl Tryz.ntmps166 rfl ?_
 unfold Cr
 by_cases h0:0<n
 ·rw [if_pos h0]
  refine aK ?_
  exact aM Tryz.func166 rfl ⟨rfl,rfl⟩
 ·rw [if_neg h0]
  refine aK ?_
  exact aM Tryz.func166 rfl ⟨rfl,rfl⟩
abbrev G4 (r x:Int) (b:Bool):List Value:=[I r,I x,.bool b]
theorem E6 (r x:Int) (b:Bool):∀ u∈(G4 r x b).toArray.toList,u.oneCell'=true:=by
 intro u hu
 simp [G4] at hu
 rcases hu with rfl|rfl|rfl<;>rfl
theorem CH {r:Nat} {x:Int} {b:Bool} {w:World}:aX Tryz.prog 206 #[.agg (G4 r x b).toArray] w fun v w'=>v=.bool (decide (Cl (r,x)))∧Ext [] w w':=by
 refine aL (args:=[_]) Tryz.func206 rfl rfl Tryz.ntmps206 rfl ?_
 have hH:=Hp.start w
 refine aK ?_
 refine aA (bI (cs:=(G4 r x b).toArray) hH rfl rfl rfl ?_)
 try clear hH
 intro w1 b1 hH
 replace hH:=aI hH
 have hB:cL w1 b1 312 (G4 r x b).toArray:=hH.b 0 rfl
 by_cases h1:r≤63
 ·by_cases h2:x=0
  ·rw [decide_eq_false (show ¬ Cl (r,x) from fun h=>by obtain ⟨g1,g2,g3,g4⟩:=h;simp only at g1 g2 g3 g4;omega)]
   repeat (first|refine aR ?_|(refine aD (by first|refine aN rfl (Ty.bA rfl rfl)|refine aB rfl hB rfl (Ty.aF rfl)|refine (vS rfl rfl).is (bT (by omega))) rfl ?_)|refine aT ?_)
   exact HA
  by_cases h3:-2047≤x
  ·by_cases h4:x≤2047
   ·rw [decide_eq_true (show Cl (r,x) from ⟨h1,h2,h3,h4⟩)]
    repeat (first|refine aR ?_|(refine aD (by first|refine aN rfl (Ty.bA rfl rfl)|refine aB rfl hB rfl (Ty.aF rfl)|refine (vS rfl rfl).is (bT (by omega))) rfl ?_)|refine aT ?_)
    exact HA
   ·rw [decide_eq_false (show ¬ Cl (r,x) from fun h=>by obtain ⟨g1,g2,g3,g4⟩:=h;simp only at g1 g2 g3 g4;omega)]
    repeat (first|refine aR ?_|(refine aD (by first|refine aN rfl (Ty.bA rfl rfl)|refine aB rfl hB rfl (Ty.aF rfl)|refine (vS rfl rfl).is (bT (by omega))|refine (vS rfl rfl).is (bF (by omega))) rfl ?_)|refine aT ?_)
    exact HA
  ·rw [decide_eq_false (show ¬ Cl (r,x) from fun h=>by obtain ⟨g1,g2,g3,g4⟩:=h;simp only at g1 g2 g3 g4;omega)]
   repeat (first|refine aR ?_|(refine aD (by first|refine aN rfl (Ty.bA rfl rfl)|refine aB rfl hB rfl (Ty.aF rfl)|refine (vS rfl rfl).is (bT (by omega))) rfl ?_)|refine aT ?_)
   exact HA
 ·rw [decide_eq_false (show ¬ Cl (r,x) from fun h=>by obtain ⟨g1,g2,g3,g4⟩:=h;simp only at g1 g2 g3 g4;omega)]
  repeat (first|refine aR ?_|(refine aD (by first|refine aN rfl (Ty.bA rfl rfl)|refine aB rfl hB rfl (Ty.aF rfl)|refine (vS rfl rfl).is (bF (by omega))) rfl ?_)|refine aT ?_)
  exact HA
end Go.Proofs.YtdbnmbkjmeepkaaGreatDoor
