/- A part of the proof of the card of TopText; no condition. -/
import Derived.Test.YtdbnmbkjmeepkaaGreatDoorT14
import Derived.Test.YtdbnmbkjmeepkaaGreatDoorT18
namespace Go.Proofs.YtdbnmbkjmeepkaaGreatDoor
open Go Go.K Go.P Go.RowKit Go.Proofs
def eF (k:Nat) (q:Int) (u0 u1 u2 u3:Value) (e:Bool) (L:List Int):List Value:=.int .u8 k::.int .i64 q::u0::u1::u2::u3::.bool e::L.map (Value.int .i64)
abbrev zV:Value:=.complex .f64 0 0
structure MV (k:Nat) (q:Int) (u0 u1 u2 u3:Value) (e:Bool) (L:List Int):Prop where
 k5:k<5
 q1:1≤q∧q≤31
 g0:VG u0
 g1:VG u1
 g2:VG u2
 g3:VG u3
 all:k≠2→u1=u0∧u2=u0∧u3=u0
 nil:k≠1→k≠2→u0=zV
 ed:e=true→3≤k
 len:L.length=384
 lv:∀ (i:Nat) (n:Int),L[i]?=some n→(-2047≤n∧n≤2047)∧(k=0→n=0)∧(3≤k→i % 64=0→0≤n∧n≤127)
section
variable {k:Nat} {q:Int} {u0 u1 u2 u3:Value} {e:Bool} {L:List Int} {w:World}
theorem bL (h:L.length=384):(eF k q u0 u1 u2 u3 e L).length=391:=by simp [eF,h]
theorem rA:(eF k q u0 u1 u2 u3 e L).drop 7=L.map (Value.int .i64):=rfl
def row (L:List Int) (k:Nat):List Int:=(L.drop (k*64)).take 64
theorem pU {b:Nat} (h:L.length=384) (hb:b<6):(row L b).length=64:=by simp [row,h];omega
theorem wG {b i:Nat} (hi:i<64):(row L b)[i]?=L[b*64+i]?:=by
 rw [row,List.getElem?_take,if_pos hi,List.getElem?_drop]
theorem wJ {b:Nat}:(L.map (Value.int .i64)).toArray.extract (b*64) (b*64+64)=((row L b).map (Value.int .i64)).toArray:=by
 rw [row,List.map_take,List.map_drop]
 simp
theorem MV.vi (h:MV k q u0 u1 u2 u3 e L) {i:Nat} (hi:i<4):∃ x y:Int,(-31≤x∧x≤31)∧(-31≤y∧y≤31)∧[u0,u1,u2,u3].toArray[i]?=some (CV x y)∧(k≠2→CV x y=u0):=by
 rcases (show i=0∨i=1∨i=2∨i=3 by omega) with rfl|rfl|rfl|rfl
 ·obtain ⟨x,y,hx,hy,rfl⟩:=h.g0;exact ⟨x,y,hx,hy,rfl,fun _=>rfl⟩
 ·have ha:=h.all;obtain ⟨x,y,hx,hy,rfl⟩:=h.g1;exact ⟨x,y,hx,hy,rfl,fun hk=>(ha hk).1⟩
 ·have ha:=h.all;obtain ⟨x,y,hx,hy,rfl⟩:=h.g2;exact ⟨x,y,hx,hy,rfl,fun hk=>(ha hk).2.1⟩
 ·have ha:=h.all;obtain ⟨x,y,hx,hy,rfl⟩:=h.g3;exact ⟨x,y,hx,hy,rfl,fun hk=>(ha hk).2.2⟩
theorem dO:aX Tryz.prog 102 #[.agg (eF k q u0 u1 u2 u3 e L).toArray] w fun v w'=>v=.bool (decide (k=3∨k=4))∧Ext [] w w':=by
 refine aL (args:=[_]) Tryz.func102 rfl rfl Tryz.ntmps102 rfl ?_
 have hH:=Hp.start w
 refine aK ?_
 refine aO ?_
 refine aA (bI (cs:=(eF k q u0 u1 u2 u3 e L).toArray) hH rfl rfl rfl ?_)
 try clear hH
 intro _ b1 hH
 replace hH:=aI hH
 have hB:=hH.b 0 rfl
 by_cases h3:k=3
 ·repeat (first|refine aR ?_|(refine aD (by first|refine aN rfl (Ty.bA rfl rfl)|refine aB rfl hB rfl (Ty.aF rfl)|refine (dJ (q:=.u8) rfl rfl).is (bT (by omega))) rfl ?_)|refine aT ?_)
  exact aM Tryz.func102 rfl ⟨by rw [decide_eq_true (.inl h3)];rfl,hH.ext⟩
 by_cases h4:k=4
 ·repeat (first|refine aR ?_|(refine aD (by first|refine aN rfl (Ty.bA rfl rfl)|refine aB rfl hB rfl (Ty.aF rfl)|refine (dJ (q:=.u8) rfl rfl).is (bT (by omega))|refine (dJ (q:=.u8) rfl rfl).is (bF (by omega))) rfl ?_)|refine aT ?_)
  exact aM Tryz.func102 rfl ⟨by rw [decide_eq_true (.inr h4)];rfl,hH.ext⟩
 ·repeat (first|refine aR ?_|(refine aD (by first|refine aN rfl (Ty.bA rfl rfl)|refine aB rfl hB rfl (Ty.aF rfl)|refine (dJ (q:=.u8) rfl rfl).is (bF (by omega))) rfl ?_)|refine aT ?_)
  exact aM Tryz.func102 rfl ⟨by rw [decide_eq_false (by omega)];rfl,hH.ext⟩
theorem N8 {x y:Int} (hx:-31≤x∧x≤31) (hy:-31≤y∧y≤31):(!(uM (FN x) (FN x) && uM (FN y) (FN y)))=false:=by rw [AB x (by omega),AB y (by omega)];rfl
set_option maxHeartbeats 4000000 in
theorem dN (h:MV k q u0 u1 u2 u3 e L):aX Tryz.prog 117 #[.agg (eF k q u0 u1 u2 u3 e L).toArray] w fun v w'=>v=.int .i64 0∧Ext [] w w':=by
 refine aL (args:=[_]) Tryz.func117 rfl rfl Tryz.ntmps117 rfl ?_
 have hH:=Hp.start w
 refine aK ?_
 refine aO ?_
 refine aA (bI (cs:=(eF k q u0 u1 u2 u3 e L).toArray) hH rfl rfl rfl ?_)
 try clear hH
 intro _ b1 hH
 replace hH:=aI hH
 have hS:cI _ (some ⟨b1,0,none⟩) (eF k q u0 u1 u2 u3 e L):=(hH.b 0 rfl).cX
 repeat (first|refine aR ?_|(refine aD (by first|refine aN rfl (Ty.bA rfl rfl)|refine bG (j:=0+2) (cs:=[u0,u1,u2,u3]) rfl hS rfl rfl (Ty.aF rfl)) rfl ?_)|refine aT ?_)
 clear hS
 refine aV (G:=(Nat)) (fun i=>4-i) 274877906836 (fun i=>[(7,.int .i64 i)]) (fun i w'=>i≤4∧Hp [] w w' [Rb b1 95 (eF k q u0 u1 u2 u3 e L).toArray]) (0) ⟨rfl,trivial⟩ ⟨by omega,hH⟩ ?_
 rintro i w' σ ⟨hi,hH⟩ IH
 show WS _ _ _ _ _ (bQ [(7,.int .i64 i)] _) _
 by_cases hlt:i<4
 ·obtain ⟨x,y,hx,hy,hv,hu⟩:=h.vi hlt
  have hR:=C6 hx hy
  have hB:=hH.b 0 rfl
  have hk5:=h.k5
  repeat (first|refine aR ?_|(refine aD (by refine cB rfl rfl (Ty.arr rfl) (by omega) hv) rfl ?_)|refine aT ?_)
  refine aO ?_
  refine aA (aC (pH) rfl rfl ?_)
  rintro _ _ ⟨rfl,rfl⟩
  by_cases h2:k=2
  ·repeat (first|refine aR ?_|(refine aD (by first|refine (fJ rfl).is (congrArg (fun b=>Value.bool !b) hR)|refine aN rfl (Ty.bA rfl rfl)|refine aB rfl hB rfl (Ty.aF rfl)|refine (eQ (q:=.u8) rfl rfl).is (bF (by omega))|refine (eQ (q:=.u8) rfl rfl).is (bT (by omega))) rfl ?_)|refine aT ?_)
   refine IH (i+1) _ _ ?_ ?_ ?_ ?_
   ·omega
   ·exact ⟨rfl,trivial⟩
   ·exact cP
   ·exact ⟨by omega,hH⟩
  ·have hxy:=hu h2
   have h0:(eF k q u0 u1 u2 u3 e L).toArray[2]?=some (CV x y):=by rw [hxy];rfl
   by_cases h1:k=1
   ·repeat (first|refine aR ?_|(refine aD (by first|refine (fJ rfl).is (congrArg (fun b=>Value.bool !b) hR)|refine aN rfl (Ty.bA rfl rfl)|refine aB rfl hB h0 (Ty.aF rfl)|refine aB rfl hB rfl (Ty.aF rfl)|refine (eQ (q:=.u8) rfl rfl).is (bF (by omega))|refine (eQ (q:=.u8) rfl rfl).is (bT (by omega))|refine bD rfl rfl (Ty.arr rfl) (by decide)|refine (Cu rfl rfl).is (congrArg Value.bool (N8 hx hy))) rfl ?_)|refine aT ?_)
    refine IH (i+1) _ _ ?_ ?_ ?_ ?_
    ·omega
    ·exact ⟨rfl,trivial⟩
    ·exact cP
    ·exact ⟨by omega,hH⟩
   ·have hz:CV x y=zV:=hxy.trans (h.nil h1 h2)
    obtain ⟨e1,e2⟩:FN x=0∧FN y=0:=by
     have h:=hz
     simp only [Value.complex.injEq,true_and] at h
     exact h
    repeat (first|refine aR ?_|(refine aD (by first|refine (fJ rfl).is (congrArg (fun b=>Value.bool !b) hR)|refine aN rfl (Ty.bA rfl rfl)|refine aB rfl hB h0 (Ty.aF rfl)|refine aB rfl hB rfl (Ty.aF rfl)|refine (eQ (q:=.u8) rfl rfl).is (bT (by omega))|refine bD rfl rfl (Ty.arr rfl) (by decide)|refine (Cu rfl rfl).is (congrArg Value.bool (N8 hx hy))|refine (Cu rfl rfl).is (congrArg Value.bool (show (!(uM (FN x) 0 && uM (FN y) 0))=false by rw [e1,e2];exact Px))) rfl ?_)|refine aT ?_)
    refine IH (i+1) _ _ ?_ ?_ ?_ ?_
    ·omega
    ·exact ⟨rfl,trivial⟩
    ·exact cP
    ·exact ⟨by omega,hH⟩
 ·obtain rfl:i=4:=by omega
  refine aK ?_
  exact aM Tryz.func117 rfl ⟨rfl,hH.ext⟩
set_option maxRecDepth 20000 in
set_option maxHeartbeats 8000000 in
theorem dY (h:MV k q u0 u1 u2 u3 e L):aX Tryz.prog 118 #[.agg (eF k q u0 u1 u2 u3 e L).toArray] w fun v w'=>v=.int .i64 0∧Ext [] w w':=by
 refine aL (args:=[_]) Tryz.func118 rfl rfl Tryz.ntmps118 rfl ?_
 have hH:=Hp.start w
 have hml:=bL (k:=k) (q:=q) (u0:=u0) (u1:=u1) (u2:=u2) (u3:=u3) (e:=e) h.len
 refine aK ?_
 refine aO ?_
 refine aA (bI (cs:=(eF k q u0 u1 u2 u3 e L).toArray) hH rfl rfl rfl ?_)
 try clear hH
 intro _ b1 hH
 replace hH:=aI hH
 have hS:cI _ (some ⟨b1,0,none⟩) (eF k q u0 u1 u2 u3 e L):=(hH.b 0 rfl).cX
 repeat (first|refine aR ?_|(refine aD (by first|refine aN rfl (Ty.bA rfl rfl)|refine bG (j:=0+7) (cs:=L.map (Value.int .i64)) rfl hS (by rw [Nat.zero_add,rA,List.take_of_length_le (by rw [List.length_map,h.len];decide)]) (by rw [List.length_map,h.len]) (Ty.aF rfl)) rfl ?_)|refine aT ?_)
 clear hS
 refine aV (G:=(Nat)) (fun b=>6-b) 281474976710260 (fun b=>[(9,.int .i64 b)]) (fun b w'=>b≤6∧Hp [] w w' [Rb b1 95 (eF k q u0 u1 u2 u3 e L).toArray]) (0) ⟨rfl,trivial⟩ ⟨by omega,hH⟩ ?_
 rintro b w' σ ⟨hb,hH⟩ IH
 show WS _ _ _ _ _ (bQ [(9,.int .i64 b)] _) _
 by_cases hlt:b<6
 ·have hl1:=pU (b:=b) h.len hlt
  repeat (first|refine aR ?_|(refine aD (by refine (gY rfl rfl (Ty.arr rfl) (by omega)).is (congrArg Value.agg (wJ (L:=L) (b:=b)))) rfl ?_)|refine aT ?_)
  refine aO ?_
  refine aA (aQ hH (Ty.bH rfl) rfl ?_)
  try clear hH
  intro _ b2 hH
  replace hH:=aI hH
  refine aO ?_
  refine aA (aJ 1 (vs:=((row L b).map (Value.int .i64)).toArray) (s:=64) hH rfl rfl rfl (by simp [hl1]) (by rfl) (by exact bB) (Ty.aF rfl) ?_)
  try clear hH
  intro _ hH
  replace hH:=aI hH
  have hB2:=hH.b 1 rfl
  repeat (first|refine aR ?_|(refine aD (by refine aE rfl hB2 (by simp [hl1]) (Ty.aF rfl)) rfl ?_)|refine aT ?_)
  clear hB2
  refine aV (G:=(Nat)) (fun i=>64-i) 140737488347236 (fun i=>[(13,.int .i64 i)]) (fun i w'=>i≤64∧Hp [] w w' [Rb b1 95 (eF k q u0 u1 u2 u3 e L).toArray,Rb b2 92 ((row L b).map (Value.int .i64)).toArray]) (0) ⟨rfl,trivial⟩ ⟨by omega,hH⟩ ?_
  rintro i w' σ ⟨hi,hH⟩ IH2
  show WS _ _ _ _ _ (bQ [(13,.int .i64 i)] _) _
  by_cases hil:i<64
  ·obtain ⟨n,hn⟩:∃ n,(row L b)[i]?=some n:=⟨_,List.getElem?_eq_getElem (by omega)⟩
   have hx1:((row L b).map (Value.int .i64)).toArray[i]?=some (.int .i64 n):=by simp [hn]
   rw [wG hil] at hn
   obtain ⟨hn1,hn0,hn3⟩:=h.lv _ n hn
   have hB:=hH.b 0 rfl
   have hk5:=h.k5
   by_cases h0:i=0
   ·subst h0
    by_cases hk0:k=0
    ·have e0:=hn0 hk0
     repeat (first|refine aR ?_|(refine aD (by first|refine cB rfl rfl (Ty.arr rfl) (by omega) hx1|refine aN rfl (Ty.bA rfl rfl)|refine aB rfl hB rfl (Ty.aF rfl)|refine (dJ (q:=.u8) rfl rfl).is (bT (by omega))|refine aE rfl hB (by simp [hml]) (Ty.aF rfl)) rfl ?_)|refine aT ?_)
     refine aO ?_
     refine aA (aC (dO) rfl rfl ?_)
     rintro _ _ ⟨rfl,hE0⟩
     replace hH:=hH.aH hE0
     clear hE0
     replace hH:=aI hH
     clear hB
     refine aK ?_
     refine IH2 1 _ _ ?_ ?_ ?_ ?_
     ·omega
     ·exact ⟨rfl,trivial⟩
     ·exact cP
     ·exact ⟨by omega,hH⟩
    ·repeat (first|refine aR ?_|(refine aD (by first|refine cB rfl rfl (Ty.arr rfl) (by omega) hx1|refine aN rfl (Ty.bA rfl rfl)|refine aB rfl hB rfl (Ty.aF rfl)|refine (dJ (q:=.u8) rfl rfl).is (bF (by omega))|refine aE rfl hB (by simp [hml]) (Ty.aF rfl)) rfl ?_)|refine aT ?_)
     refine aO ?_
     refine aA (aC (dO) rfl rfl ?_)
     rintro _ _ ⟨rfl,hE0⟩
     replace hH:=hH.aH hE0
     clear hE0
     replace hH:=aI hH
     clear hB
     by_cases h34:k=3∨k=4
     ·have e0:=hn3 (by omega) (by omega)
      refine aK ?_
      refine IH2 1 _ _ ?_ ?_ ?_ ?_
      ·omega
      ·exact ⟨rfl,trivial⟩
      ·exact cP
      ·exact ⟨by omega,hH⟩
     ·refine aK ?_
      refine IH2 1 _ _ ?_ ?_ ?_ ?_
      ·omega
      ·exact ⟨rfl,trivial⟩
      ·exact cP
      ·exact ⟨by omega,hH⟩
   ·by_cases hk0:k=0
    ·have e0:=hn0 hk0
     repeat (first|refine aR ?_|(refine aD (by first|refine cB rfl rfl (Ty.arr rfl) (by omega) hx1|refine aN rfl (Ty.bA rfl rfl)|refine aB rfl hB rfl (Ty.aF rfl)|refine (dJ (q:=.u8) rfl rfl).is (bT (by omega))) rfl ?_)|refine aT ?_)
     refine IH2 (i+1) _ _ ?_ ?_ ?_ ?_
     ·omega
     ·exact ⟨rfl,trivial⟩
     ·exact cP
     ·exact ⟨by omega,hH⟩
    ·repeat (first|refine aR ?_|(refine aD (by first|refine cB rfl rfl (Ty.arr rfl) (by omega) hx1|refine aN rfl (Ty.bA rfl rfl)|refine aB rfl hB rfl (Ty.aF rfl)|refine (dJ (q:=.u8) rfl rfl).is (bF (by omega))) rfl ?_)|refine aT ?_)
     refine IH2 (i+1) _ _ ?_ ?_ ?_ ?_
     ·omega
     ·exact ⟨rfl,trivial⟩
     ·exact cP
     ·exact ⟨by omega,hH⟩
  ·obtain rfl:i=64:=by omega
   refine aK ?_
   replace hH:=hH.del 1
   replace hH:=aI hH
   refine IH (b+1) _ _ ?_ ?_ ?_ ?_
   ·omega
   ·exact ⟨rfl,trivial⟩
   ·exact cP
   ·exact ⟨by omega,hH⟩
 ·obtain rfl:b=6:=by omega
  refine aK ?_
  exact aM Tryz.func118 rfl ⟨rfl,hH.ext⟩
def jQ (p q:Int):Prop:=q=p-2∨q=p-1∨q=p+1∨q=p+2
set_option maxRecDepth 20000 in
set_option maxHeartbeats 8000000 in
theorem wX {inter:Bool} {was:Int} (h:MV k q u0 u1 u2 u3 e L) (hw:1≤was∧was≤31) (hi:inter=false→3≤k) (hq:if k=4 then jQ was q else q=was) :
  aX Tryz.prog 76 #[.agg (eF k q u0 u1 u2 u3 e L).toArray,.bool inter,.int .i64 was] w fun v w'=>v=.int .i64 0∧Ext [] w w':=by
 refine aL (args:=[_,_,_]) Tryz.func76 rfl rfl Tryz.ntmps76 rfl ?_
 have hH:=Hp.start w
 have hml:=bL (k:=k) (q:=q) (u0:=u0) (u1:=u1) (u2:=u2) (u3:=u3) (e:=e) h.len
 have hk5:=h.k5
 have hq1:=h.q1
 refine aK ?_
 refine aO ?_
 refine aA (bI (cs:=(eF k q u0 u1 u2 u3 e L).toArray) hH rfl rfl rfl ?_)
 try clear hH
 intro _ b1 hH
 replace hH:=aI hH
 have hB:=hH.b 0 rfl
 cases inter
 ·have hk3:=hi rfl
  have hA:(decide (k=3∨k=4))=true:=decide_eq_true (by omega)
  repeat (first|refine aR ?_|(refine aD (by first|refine aN rfl (Ty.bA rfl rfl)|refine aB rfl hB rfl (Ty.aF rfl)|refine aE rfl hB (by simp [hml]) (Ty.aF rfl)) rfl ?_)|refine aT ?_)
  refine aO ?_
  refine aA (aC (dO) rfl rfl ?_)
  rintro _ _ ⟨rfl,hE0⟩
  replace hH:=hH.aH hE0
  clear hE0
  replace hH:=aI hH
  clear hB
  have hB:=hH.b 0 rfl
  cases e
  ·have hA:(decide (k=3∨k=4))=true∨True:=.inr trivial
   by_cases h4:k=4
   ·rw [if_pos h4] at hq
    repeat (first|refine aR ?_|(refine aD (by first|refine aN rfl (Ty.bA rfl rfl)|refine aB rfl hB rfl (Ty.aF rfl)|refine (dJ (q:=.u8) rfl rfl).is (bT (by omega))) rfl ?_)|refine aT ?_)
    refine aO ?_
    refine aA (aC ((jI (by omega))) rfl rfl ?_)
    rintro v _ ⟨hs,hE0⟩
    obtain ⟨i,rfl⟩:∃ i:Nat,v=.tuple #[.int .i64 i,.bool true]:=by
     rcases hs with ⟨i,_,_,_,rfl⟩|⟨hno,_⟩
     ·exact ⟨i,rfl⟩
     ·exfalso
      rcases hq with hq|hq|hq|hq
      ·exact hno 0 (-2) rfl (by omega)
      ·exact hno 1 (-1) rfl (by omega)
      ·exact hno 2 1 rfl (by omega)
      ·exact hno 3 2 rfl (by omega)
    replace hH:=hH.aH hE0
    clear hE0 hB
    replace hH:=aI hH
    have hB:=hH.b 0 rfl
    repeat (first|refine aR ?_|(refine aD (by refine aE rfl hB (by simp [hml]) (Ty.aF rfl)) rfl ?_)|refine aT ?_)
    refine aO ?_
    refine aA (aC ((dN h)) rfl rfl ?_)
    rintro _ _ ⟨rfl,hE0⟩
    replace hH:=hH.aH hE0
    clear hE0
    replace hH:=aI hH
    clear hB
    have hB:=hH.b 0 rfl
    repeat (first|refine aR ?_|(refine aD (by refine aE rfl hB (by simp [hml]) (Ty.aF rfl)) rfl ?_)|refine aT ?_)
    refine aO ?_
    refine aA (aC ((dY h)) rfl rfl ?_)
    rintro _ _ ⟨rfl,hE0⟩
    replace hH:=hH.aH hE0
    clear hE0
    replace hH:=aI hH
    refine aK ?_
    exact CJ
   ·rw [if_neg h4] at hq
    subst hq
    repeat (first|refine aR ?_|(refine aD (by first|refine aN rfl (Ty.bA rfl rfl)|refine aB rfl hB rfl (Ty.aF rfl)|refine aE rfl hB (by simp [hml]) (Ty.aF rfl)|refine (dJ (q:=.u8) rfl rfl).is (bF (by omega))|refine (eQ rfl rfl).is (bF (fun h=>h rfl))) rfl ?_)|refine aT ?_)
    clear hB
    have hB:=hH.b 0 rfl
    skip
    refine aO ?_
    refine aA (aC ((dN h)) rfl rfl ?_)
    rintro _ _ ⟨rfl,hE0⟩
    replace hH:=hH.aH hE0
    clear hE0
    replace hH:=aI hH
    clear hB
    have hB:=hH.b 0 rfl
    repeat (first|refine aR ?_|(refine aD (by refine aE rfl hB (by simp [hml]) (Ty.aF rfl)) rfl ?_)|refine aT ?_)
    refine aO ?_
    refine aA (aC ((dY h)) rfl rfl ?_)
    rintro _ _ ⟨rfl,hE0⟩
    replace hH:=hH.aH hE0
    clear hE0
    replace hH:=aI hH
    refine aK ?_
    exact CJ
  ·have hA:(decide (k=3∨k=4))=true:=decide_eq_true (by have:=h.ed rfl;omega)
   repeat (first|refine aR ?_|(refine aD (by first|refine (fJ rfl).is (congrArg (fun b=>Value.bool !b) hA)|refine aN rfl (Ty.bA rfl rfl)|refine aB rfl hB rfl (Ty.aF rfl)|refine aE rfl hB (by simp [hml]) (Ty.aF rfl)) rfl ?_)|refine aT ?_)
   refine aO ?_
   refine aA (aC (dO) rfl rfl ?_)
   rintro _ _ ⟨rfl,hE0⟩
   replace hH:=hH.aH hE0
   clear hE0
   replace hH:=aI hH
   clear hB
   have hB:=hH.b 0 rfl
   by_cases h4:k=4
   ·rw [if_pos h4] at hq
    repeat (first|refine aR ?_|(refine aD (by first|refine (fJ rfl).is (congrArg (fun b=>Value.bool !b) hA)|refine aN rfl (Ty.bA rfl rfl)|refine aB rfl hB rfl (Ty.aF rfl)|refine (dJ (q:=.u8) rfl rfl).is (bT (by omega))) rfl ?_)|refine aT ?_)
    refine aO ?_
    refine aA (aC ((jI (by omega))) rfl rfl ?_)
    rintro v _ ⟨hs,hE0⟩
    obtain ⟨i,rfl⟩:∃ i:Nat,v=.tuple #[.int .i64 i,.bool true]:=by
     rcases hs with ⟨i,_,_,_,rfl⟩|⟨hno,_⟩
     ·exact ⟨i,rfl⟩
     ·exfalso
      rcases hq with hq|hq|hq|hq
      ·exact hno 0 (-2) rfl (by omega)
      ·exact hno 1 (-1) rfl (by omega)
      ·exact hno 2 1 rfl (by omega)
      ·exact hno 3 2 rfl (by omega)
    replace hH:=hH.aH hE0
    clear hE0 hB
    replace hH:=aI hH
    have hB:=hH.b 0 rfl
    repeat (first|refine aR ?_|(refine aD (by refine aE rfl hB (by simp [hml]) (Ty.aF rfl)) rfl ?_)|refine aT ?_)
    refine aO ?_
    refine aA (aC ((dN h)) rfl rfl ?_)
    rintro _ _ ⟨rfl,hE0⟩
    replace hH:=hH.aH hE0
    clear hE0
    replace hH:=aI hH
    clear hB
    have hB:=hH.b 0 rfl
    repeat (first|refine aR ?_|(refine aD (by refine aE rfl hB (by simp [hml]) (Ty.aF rfl)) rfl ?_)|refine aT ?_)
    refine aO ?_
    refine aA (aC ((dY h)) rfl rfl ?_)
    rintro _ _ ⟨rfl,hE0⟩
    replace hH:=hH.aH hE0
    clear hE0
    replace hH:=aI hH
    refine aK ?_
    exact CJ
   ·rw [if_neg h4] at hq
    subst hq
    repeat (first|refine aR ?_|(refine aD (by first|refine (fJ rfl).is (congrArg (fun b=>Value.bool !b) hA)|refine aN rfl (Ty.bA rfl rfl)|refine aB rfl hB rfl (Ty.aF rfl)|refine aE rfl hB (by simp [hml]) (Ty.aF rfl)|refine (dJ (q:=.u8) rfl rfl).is (bF (by omega))|refine (eQ rfl rfl).is (bF (fun h=>h rfl))) rfl ?_)|refine aT ?_)
    clear hB
    have hB:=hH.b 0 rfl
    skip
    refine aO ?_
    refine aA (aC ((dN h)) rfl rfl ?_)
    rintro _ _ ⟨rfl,hE0⟩
    replace hH:=hH.aH hE0
    clear hE0
    replace hH:=aI hH
    clear hB
    have hB:=hH.b 0 rfl
    repeat (first|refine aR ?_|(refine aD (by refine aE rfl hB (by simp [hml]) (Ty.aF rfl)) rfl ?_)|refine aT ?_)
    refine aO ?_
    refine aA (aC ((dY h)) rfl rfl ?_)
    rintro _ _ ⟨rfl,hE0⟩
    replace hH:=hH.aH hE0
    clear hE0
    replace hH:=aI hH
    refine aK ?_
    exact CJ
 ·clear hB
  have hB:=hH.b 0 rfl
  cases e
  ·have hA:(decide (k=3∨k=4))=true∨True:=.inr trivial
   by_cases h4:k=4
   ·rw [if_pos h4] at hq
    repeat (first|refine aR ?_|(refine aD (by first|refine aN rfl (Ty.bA rfl rfl)|refine aB rfl hB rfl (Ty.aF rfl)|refine (dJ (q:=.u8) rfl rfl).is (bT (by omega))) rfl ?_)|refine aT ?_)
    refine aO ?_
    refine aA (aC ((jI (by omega))) rfl rfl ?_)
    rintro v _ ⟨hs,hE0⟩
    obtain ⟨i,rfl⟩:∃ i:Nat,v=.tuple #[.int .i64 i,.bool true]:=by
     rcases hs with ⟨i,_,_,_,rfl⟩|⟨hno,_⟩
     ·exact ⟨i,rfl⟩
     ·exfalso
      rcases hq with hq|hq|hq|hq
      ·exact hno 0 (-2) rfl (by omega)
      ·exact hno 1 (-1) rfl (by omega)
      ·exact hno 2 1 rfl (by omega)
      ·exact hno 3 2 rfl (by omega)
    replace hH:=hH.aH hE0
    clear hE0 hB
    replace hH:=aI hH
    have hB:=hH.b 0 rfl
    repeat (first|refine aR ?_|(refine aD (by refine aE rfl hB (by simp [hml]) (Ty.aF rfl)) rfl ?_)|refine aT ?_)
    refine aO ?_
    refine aA (aC ((dN h)) rfl rfl ?_)
    rintro _ _ ⟨rfl,hE0⟩
    replace hH:=hH.aH hE0
    clear hE0
    replace hH:=aI hH
    clear hB
    have hB:=hH.b 0 rfl
    repeat (first|refine aR ?_|(refine aD (by refine aE rfl hB (by simp [hml]) (Ty.aF rfl)) rfl ?_)|refine aT ?_)
    refine aO ?_
    refine aA (aC ((dY h)) rfl rfl ?_)
    rintro _ _ ⟨rfl,hE0⟩
    replace hH:=hH.aH hE0
    clear hE0
    replace hH:=aI hH
    refine aK ?_
    exact CJ
   ·rw [if_neg h4] at hq
    subst hq
    repeat (first|refine aR ?_|(refine aD (by first|refine aN rfl (Ty.bA rfl rfl)|refine aB rfl hB rfl (Ty.aF rfl)|refine aE rfl hB (by simp [hml]) (Ty.aF rfl)|refine (dJ (q:=.u8) rfl rfl).is (bF (by omega))|refine (eQ rfl rfl).is (bF (fun h=>h rfl))) rfl ?_)|refine aT ?_)
    clear hB
    have hB:=hH.b 0 rfl
    skip
    refine aO ?_
    refine aA (aC ((dN h)) rfl rfl ?_)
    rintro _ _ ⟨rfl,hE0⟩
    replace hH:=hH.aH hE0
    clear hE0
    replace hH:=aI hH
    clear hB
    have hB:=hH.b 0 rfl
    repeat (first|refine aR ?_|(refine aD (by refine aE rfl hB (by simp [hml]) (Ty.aF rfl)) rfl ?_)|refine aT ?_)
    refine aO ?_
    refine aA (aC ((dY h)) rfl rfl ?_)
    rintro _ _ ⟨rfl,hE0⟩
    replace hH:=hH.aH hE0
    clear hE0
    replace hH:=aI hH
    refine aK ?_
    exact CJ
  ·have hA:(decide (k=3∨k=4))=true:=decide_eq_true (by have:=h.ed rfl;omega)
   repeat (first|refine aR ?_|(refine aD (by first|refine aN rfl (Ty.bA rfl rfl)|refine aB rfl hB rfl (Ty.aF rfl)|refine aE rfl hB (by simp [hml]) (Ty.aF rfl)) rfl ?_)|refine aT ?_)
   refine aO ?_
   refine aA (aC (dO) rfl rfl ?_)
   rintro _ _ ⟨rfl,hE0⟩
   replace hH:=hH.aH hE0
   clear hE0
   replace hH:=aI hH
   clear hB
   have hB:=hH.b 0 rfl
   by_cases h4:k=4
   ·rw [if_pos h4] at hq
    repeat (first|refine aR ?_|(refine aD (by first|refine (fJ rfl).is (congrArg (fun b=>Value.bool !b) hA)|refine aN rfl (Ty.bA rfl rfl)|refine aB rfl hB rfl (Ty.aF rfl)|refine (dJ (q:=.u8) rfl rfl).is (bT (by omega))) rfl ?_)|refine aT ?_)
    refine aO ?_
    refine aA (aC ((jI (by omega))) rfl rfl ?_)
    rintro v _ ⟨hs,hE0⟩
    obtain ⟨i,rfl⟩:∃ i:Nat,v=.tuple #[.int .i64 i,.bool true]:=by
     rcases hs with ⟨i,_,_,_,rfl⟩|⟨hno,_⟩
     ·exact ⟨i,rfl⟩
     ·exfalso
      rcases hq with hq|hq|hq|hq
      ·exact hno 0 (-2) rfl (by omega)
      ·exact hno 1 (-1) rfl (by omega)
      ·exact hno 2 1 rfl (by omega)
      ·exact hno 3 2 rfl (by omega)
    replace hH:=hH.aH hE0
    clear hE0 hB
    replace hH:=aI hH
    have hB:=hH.b 0 rfl
    repeat (first|refine aR ?_|(refine aD (by refine aE rfl hB (by simp [hml]) (Ty.aF rfl)) rfl ?_)|refine aT ?_)
    refine aO ?_
    refine aA (aC ((dN h)) rfl rfl ?_)
    rintro _ _ ⟨rfl,hE0⟩
    replace hH:=hH.aH hE0
    clear hE0
    replace hH:=aI hH
    clear hB
    have hB:=hH.b 0 rfl
    repeat (first|refine aR ?_|(refine aD (by refine aE rfl hB (by simp [hml]) (Ty.aF rfl)) rfl ?_)|refine aT ?_)
    refine aO ?_
    refine aA (aC ((dY h)) rfl rfl ?_)
    rintro _ _ ⟨rfl,hE0⟩
    replace hH:=hH.aH hE0
    clear hE0
    replace hH:=aI hH
    refine aK ?_
    exact CJ
   ·rw [if_neg h4] at hq
    subst hq
    repeat (first|refine aR ?_|(refine aD (by first|refine (fJ rfl).is (congrArg (fun b=>Value.bool !b) hA)|refine aN rfl (Ty.bA rfl rfl)|refine aB rfl hB rfl (Ty.aF rfl)|refine aE rfl hB (by simp [hml]) (Ty.aF rfl)|refine (dJ (q:=.u8) rfl rfl).is (bF (by omega))|refine (eQ rfl rfl).is (bF (fun h=>h rfl))) rfl ?_)|refine aT ?_)
    clear hB
    have hB:=hH.b 0 rfl
    skip
    refine aO ?_
    refine aA (aC ((dN h)) rfl rfl ?_)
    rintro _ _ ⟨rfl,hE0⟩
    replace hH:=hH.aH hE0
    clear hE0
    replace hH:=aI hH
    clear hB
    have hB:=hH.b 0 rfl
    repeat (first|refine aR ?_|(refine aD (by refine aE rfl hB (by simp [hml]) (Ty.aF rfl)) rfl ?_)|refine aT ?_)
    refine aO ?_
    refine aA (aC ((dY h)) rfl rfl ?_)
    rintro _ _ ⟨rfl,hE0⟩
    replace hH:=hH.aH hE0
    clear hE0
    replace hH:=aI hH
    refine aK ?_
    exact CJ
end
structure mI where
 a:Option Addr
 cap:Nat
 S:List Nat
abbrev mI.cells (m n:Nat) (p:mI):List Value:=[.int .i64 (m:Nat),.int .i64 (n:Nat),.slice p.a (m*n) p.cap]
abbrev mI.ok (m n:Nat) (p:mI):Prop:=p.S.length=m*n∧gR p.S
def zS (S:List Nat) (m n:Nat) (x y:Int):Nat:=S.getD ((max (min y ((n:Int)-1)) 0).toNat*m+(max (min x ((m:Int)-1)) 0).toNat) 0
theorem iH {S:List Nat} {m n:Nat} {x y:Int} (h:gR S):zS S m n x y<256:=by
 unfold zS
 rw [List.getD_eq_getElem?_getD]
 cases hi:S[(max (min y ((n:Int)-1)) 0).toNat*m+(max (min x ((m:Int)-1)) 0).toNat]? with
 | none=>decide
 | some c=>exact h c (List.mem_of_getElem? hi)
theorem LX {m n q p:Nat} (hq:q<n) (hp:p<m):q*m+p<m*n:=by
 have h1:(q+1)*m≤n*m:=Nat.mul_le_mul_right m (by omega)
 rw [Nat.add_mul,Nat.mul_comm n m] at h1
 omega
set_option maxHeartbeats 4000000 in
theorem gL {m n:Nat} {p:mI} {i j:Int} {w:World} (hm:1≤m∧m≤1024) (hn:1≤n∧n≤1024) (hl:p.ok m n) (hS:cI w p.a (p.S.map B)) :
  aX Tryz.prog 68 #[.agg (p.cells m n).toArray,.int .i64 i,.int .i64 j] w fun v w'=>v=.int .u8 (zS p.S m n i j:Nat)∧Ext [] w w':=by
 refine aL (args:=[_,_,_]) Tryz.func68 rfl rfl Tryz.ntmps68 rfl ?_
 have hmn:m*n≤1048576:=Nat.mul_le_mul hm.2 hn.2
 have hH:=Hp.start w
 unfold zS
 refine aK ?_
 refine aO ?_
 refine aA (bI (cs:=(p.cells m n).toArray) hH rfl rfl rfl ?_)
 try clear hH
 intro _ b1 hH
 replace hH:=aI hH
 have hB:=hH.b 0 rfl
 replace hS:=hS.aH hH.ext
 obtain ⟨q,hq⟩:∃ q:Nat,max (min j ((n:Int)-1)) 0=q:=⟨(max (min j ((n:Int)-1)) 0).toNat,by omega⟩
 obtain ⟨r,hr⟩:∃ r:Nat,max (min i ((m:Int)-1)) 0=r:=⟨(max (min i ((m:Int)-1)) 0).toNat,by omega⟩
 rw [hq,hr,Int.toNat_natCast,Int.toNat_natCast]
 have hq2:q<n:=by omega
 have hp2:r<m:=by omega
 have hqm:(q:Int)*m=((q*m:Nat):Int):=by simp
 have hlt:=LX hq2 hp2
 have hqp:((q*m:Nat):Int)+r=((q*m+r:Nat):Int):=by omega
 refine aK ?_
 refine gX [Is (.int .i64 j),Is (.pointer (some ⟨b1,0+1,none⟩)),Is (.int .i64 n),Is (.int .i64 q),Is (.pointer (some ⟨b1,0+0,none⟩)),Is (.int .i64 m),Is (.int .i64 (q*m:Nat)),Is (.int .i64 i),Is (.pointer (some ⟨b1,0+0,none⟩)),Is (.int .i64 m),Is (.int .i64 r),Is (.int .i64 (q*m+r:Nat)),Is (.int .i64 (q*m+r:Nat))] Ty.mixed [(1046016,[],true),(1046784,[],true),(1045248,[(1,9)],true),(767744,[(0,8),(2,10)],true),(1036032,[],true),(1023744,[(4,12)],true),(507648,[(3,11),(5,13)],true),(753408,[],true),(851712,[],true),(655104,[(8,16)],true),(261888,[(7,15),(9,17)],true),(524032,[(6,14),(10,18)],true),(1048320,[(11,19)],true)] 1048448 [(12,7)] (by kernel_rfl) (by kernel_rfl) (by kernel_rfl) (by kernel_rfl) (by kernel_rfl) ⟨Is.st,Is.st,Is.st,Is.st,Is.st,Is.st,Is.st,Is.st,Is.st,Is.st,Is.st,Is.st,Is.st,trivial⟩ ⟨⟨cC.none,?_⟩,⟨cC.none,?_⟩,⟨cC.none,?_⟩,⟨cC.none,?_⟩,⟨cC.none,?_⟩,⟨cC.none,?_⟩,⟨cC.none,?_⟩,⟨cC.none,?_⟩,⟨cC.none,?_⟩,⟨cC.none,?_⟩,⟨cC.none,?_⟩,⟨cC.none,?_⟩,⟨cC.none,?_⟩,trivial⟩ ?_
 ·intro w'' hE''
  intro σ''
  exact bJ (by refine aP rfl) rfl
 ·intro w'' hE''
  intro σ''
  exact Au
 ·intro w'' hE''
  rintro _ rfl
  intro σ''
  exact xM
 ·intro w'' hE''
  rintro _ rfl
  rintro _ rfl
  intro σ''
  refine aC (wM (n:=j) (e:=n) (by omega)) rfl rfl ?_
  rintro v w3'' ⟨rfl,rfl⟩
  exact ⟨.refl,_,rfl,congrArg (Value.int .i64) hq⟩
 ·intro w'' hE''
  intro σ''
  exact Au
 ·intro w'' hE''
  rintro _ rfl
  intro σ''
  exact xM
 ·intro w'' hE''
  rintro _ rfl
  rintro _ rfl
  intro σ''
  exact bJ (by refine (bN (m:=q) (n:=m) rfl rfl (by omega)).is (congrArg (Value.int .i64) hqm)) rfl
 ·intro w'' hE''
  intro σ''
  exact bJ (by refine aP rfl) rfl
 ·intro w'' hE''
  intro σ''
  exact Au
 ·intro w'' hE''
  rintro _ rfl
  intro σ''
  exact xM
 ·intro w'' hE''
  rintro _ rfl
  rintro _ rfl
  intro σ''
  refine aC (wM (n:=i) (e:=m) (by omega)) rfl rfl ?_
  rintro v w3'' ⟨rfl,rfl⟩
  exact ⟨.refl,_,rfl,congrArg (Value.int .i64) hr⟩
 ·intro w'' hE''
  rintro _ rfl
  rintro _ rfl
  intro σ''
  exact bJ (by refine (cT (m:=(q*m:Nat)) (n:=r) rfl rfl (by omega)).is (congrArg (Value.int .i64) hqp)) rfl
 ·intro w'' hE''
  rintro _ rfl
  intro σ''
  exact bJ (by refine aP rfl) rfl
 intro w'' hE''
 rintro _ rfl
 intro σ''
 replace hH:=hH.aH hE''
 replace hS:=hS.aH hE''
 clear hB
 have hB:=hH.b 0 rfl
 have hll:(p.S.map B).length=m*n:=by rw [List.length_map,hl.1]
 have hv:(p.S.map B)[q*m+r]?=some (.int .u8 (p.S.getD (q*m+r) 0:Nat)):=by
  rw [List.getElem?_map,List.getD_eq_getElem?_getD,List.getElem?_eq_getElem (by rw [hl.1];exact hlt)];rfl
 repeat (first|refine aR ?_|(refine aD (by first|refine aN rfl (Ty.bA rfl rfl)|refine aB rfl hB rfl (Ty.aF rfl)|refine cG rfl rfl hS hll (Ty.sle rfl) (by omega)|refine aU rfl hS hv (Ty.aF rfl)) rfl ?_)|refine aT ?_)
 exact aM Tryz.func68 rfl ⟨rfl,hH.ext⟩
def oD (S:List Nat) (m n:Nat) (i j:Int):List Int:=(List.range 64).map fun k=>(zS S m n (i+(k % 8:Nat)) (j+(k / 8:Nat)):Int)
theorem BO (S:List Nat) (m n:Nat) (i j:Int):(oD S m n i j).length=64:=by simp [oD]
theorem JF {S:List Nat} {m n:Nat} {i j:Int} {k:Nat} (h:k<64):(oD S m n i j)[k]?=some (zS S m n (i+(k % 8:Nat)) (j+(k / 8:Nat)):Int):=by simp [oD,h]
theorem D7 {S:List Nat} {m n:Nat} {i j:Int} (h:gR S):∀ x∈oD S m n i j,0≤x∧x≤255:=fun x hx=>by
 obtain ⟨k,_,rfl⟩:=List.mem_map.1 hx
 have:=iH (m:=m) (n:=n) (x:=i+(k % 8:Nat)) (y:=j+(k / 8:Nat)) h
 omega
set_option maxRecDepth 20000 in
set_option maxHeartbeats 4000000 in
theorem jD {m n:Nat} {p:mI} {i j:Int} {w:World} (hm:1≤m∧m≤1024) (hn:1≤n∧n≤1024) (hi:-100000≤i∧i≤100000) (hj:-100000≤j∧j≤100000) (hl:p.ok m n) (hS:cI w p.a (p.S.map B)) :
  aX Tryz.prog 135 #[.agg (p.cells m n).toArray,.int .i64 i,.int .i64 j] w fun v w'=>v=.agg ((oD p.S m n i j).map (Value.int .i64)).toArray∧Ext [] w w':=by
 refine aL (args:=[_,_,_]) Tryz.func135 rfl rfl Tryz.ntmps135 rfl ?_
 have hH:=Hp.start w
 have hz:=BO p.S m n i j
 have hzk:=fun k=>JF (S:=p.S) (m:=m) (n:=n) (i:=i) (j:=j) (k:=k)
 generalize oD p.S m n i j=z at *
 refine aK ?_
 refine aO ?_
 refine aA (bI (cs:=(p.cells m n).toArray) hH rfl rfl rfl ?_)
 try clear hH
 intro _ b1 hH
 replace hH:=aI hH
 refine aO ?_
 refine aA (aQ hH (Ty.bH rfl) rfl ?_)
 try clear hH
 intro _ b2 hH
 replace hH:=aI hH
 refine aK ?_
 refine aO ?_
 refine aA (aQ hH (Ty.bH rfl) rfl ?_)
 try clear hH
 intro _ b3 hH
 replace hH:=aI hH
 refine aK ?_
 refine aV (G:=(Nat)) (fun k=>64-k) 67108608 (fun k=>[(9,.int .i64 k)]) (fun k w'=>k≤64∧Hp [] w w' [Rb b1 52 (p.cells m n).toArray,Rb b2 92 ((List.replicate 64 (0:Int)).map (Value.int .i64)).toArray,Rb b3 92 ((mix z (List.replicate 64 0) k).map (Value.int .i64)).toArray]) (0) ⟨rfl,trivial⟩ ⟨by omega,by rw [kV];exact hH⟩ ?_
 rintro k w' σ ⟨hk,hH⟩ IH
 show WS _ _ _ _ _ (bQ [(9,.int .i64 k)] _) _
 have hml:=eZ hz (List.length_replicate (n:=64) (a:=(0:Int))) hk
 by_cases hlt:k<64
 ·have hB:=hH.b 0 rfl
  have hzz:=hzk k hlt
  repeat (first|refine aR ?_|(refine aD (by first|refine aE rfl hB rfl (Ty.aF rfl)|refine dL (n:=8) rfl rfl (by decide)|refine iR (n:=8) rfl rfl (by decide) (mU (by omega))) rfl ?_)|refine aT ?_)
  refine aO ?_
  refine aA (aC ((gL (i:=i+(k % 8:Nat)) (j:=j+(k / 8:Nat)) hm hn hl (hS.aH hH.ext))) rfl rfl ?_)
  rintro _ _ ⟨rfl,hE0⟩
  replace hH:=hH.aH hE0
  clear hE0
  replace hH:=aI hH
  clear hB
  have hlt2:=iH (m:=m) (n:=n) (x:=i+(k % 8:Nat)) (y:=j+(k / 8:Nat)) hl.2
  generalize zS p.S m n (i + (k % 8:Nat)) (j + (k / 8:Nat))=c at *
  repeat (first|(refine aD (by refine bD rfl rfl (Ty.arr rfl) (by omega)) rfl ?_)|refine aT ?_)
  refine aO ?_
  refine aA (cF 2 (v:=.int .i64 c) hH rfl rfl rfl (by rw [List.length_map,hml];omega) rfl (Ty.aF rfl) ?_)
  try clear hH
  intro _ hH
  replace hH:=aI hH
  rw [← List.map_set,Int.toNat_natCast,gZ hz (by simp) hlt hzz] at hH
  refine aK ?_
  refine IH (k+1) _ _ ?_ ?_ ?_ ?_
  ·omega
  ·exact ⟨rfl,trivial⟩
  ·exact cP
  ·exact ⟨by omega,hH⟩
 ·obtain rfl:k=64:=by omega
  rw [lD hz (by simp)] at hH
  have hB:=hH.b 2 rfl
  have hl1:=hz
  repeat (first|refine aR ?_|(refine aD (by refine aE rfl hB (by simp [hz]) (Ty.aF rfl)) rfl ?_)|refine aT ?_)
  refine aO ?_
  refine aA (aJ 1 (vs:=(z.map (Value.int .i64)).toArray) (s:=64) hH rfl rfl rfl (by simp [hl1]) (by rfl) (by exact bB) (Ty.aF rfl) ?_)
  try clear hH
  intro _ hH
  replace hH:=aI hH
  refine aK ?_
  exact bP Tryz.func135 rfl rfl (hH.b 1 rfl) (by simp [hz]) (Ty.aF rfl) ⟨rfl,hH.ext⟩
def clip (x:Int):Nat:=(max (min x 255) 0).toNat
theorem EF (x:Int):clip x<256:=by unfold clip;omega
set_option maxHeartbeats 4000000 in
theorem jP {m n x i j:Nat} {p:mI} {w:World} (hm:m≤1024) (hn:n≤1024) (hi:i<m) (hj:j<n) (hl:p.S.length=m*n) (hR:(gH p.a p.cap p.S).holds w) :
  aX Tryz.prog 106 #[.agg (p.cells m n).toArray,.int .i64 i,.int .i64 j,.int .u8 x] w fun v w'=>v=.tuple #[]∧jA (gH p.a p.cap p.S) (gH p.a p.cap (p.S.set (j*m+i) x)) w w':=by
 refine aL (args:=[_,_,_,_]) Tryz.func106 rfl rfl Tryz.ntmps106 rfl ?_
 have hmn:m*n≤1048576:=Nat.mul_le_mul hm hn
 have hqm:(j:Int)*m=((j*m:Nat):Int):=by simp
 have hlt:=LX hj hi
 have hqp:((j*m:Nat):Int)+i=((j*m+i:Nat):Int):=by omega
 have hH:=Hp.fI hR
 have hS:=(hH.o 0 rfl).sl
 have hll:(p.S.map B).length=m*n:=by rw [List.length_map,hl]
 refine aK ?_
 refine aO ?_
 refine aA (bI (cs:=(p.cells m n).toArray) hH rfl rfl rfl ?_)
 try clear hH
 intro _ b1 hH
 replace hH:=aI hH
 have hB:=hH.b 1 rfl
 replace hS:=(hH.o 0 rfl).sl
 repeat (first|refine aR ?_|(refine aD (by first|refine aN rfl (Ty.bA rfl rfl)|refine aB rfl hB rfl (Ty.aF rfl)|refine (bN (m:=j) (n:=m) rfl rfl (by omega)).is (congrArg (Value.int .i64) hqm)|refine (cT (m:=(j*m:Nat)) (n:=i) rfl rfl (by omega)).is (congrArg (Value.int .i64) hqp)|refine cG rfl rfl hS hll (Ty.sle rfl) (by omega)) rfl ?_)|refine aT ?_)
 clear hS hB
 refine aA (jU 0 (v:=.int .u8 x) hH rfl rfl rfl (by rw [Nat.mul_one,hl];omega) rfl (Ty.aF rfl) ?_)
 clear hH
 intro _ hH
 have e:(p.S.map B).set ((j*m+i:Nat):Int).toNat (.int .u8 x)=(p.S.set (j*m+i) x).map B:=by rw [Int.toNat_natCast,List.map_set]
 rw [e] at hH
 have e2:p.S.length=(p.S.set (j*m+i) x).length:=by rw [List.length_set]
 rw [e2] at hH
 replace hH:=aI hH
 refine aK ?_
 have hU:=hH.dX 0 rfl
 rw [← e2] at hU
 refine cE Tryz.func106 rfl ⟨rfl,?_⟩
 unfold gH
 rw [← e2]
 exact hU
def tX (S:List Nat) (m i j:Nat) (b:List Int):Nat→List Nat
 | 0=>S
 | k+1=>(tX S m i j b k).set ((j+k / 8)*m+(i+k % 8)) (clip (b.getD k 0))
theorem vU (S:List Nat) (m i j:Nat) (b:List Int):∀ k,(tX S m i j b k).length=S.length
 | 0=>rfl
 | k+1=>by rw [tX,List.length_set,vU S m i j b k]
theorem Ch {S:List Nat} {m i j:Nat} {b:List Int} (h:gR S):∀ k,gR (tX S m i j b k)
 | 0=>h
 | k+1=>fun x hx=>by
  rcases List.mem_or_eq_of_mem_set hx with hx|rfl
  ·exact Ch h k x hx
  ·exact EF _
set_option maxRecDepth 20000 in
set_option maxHeartbeats 4000000 in
theorem D4 {m n i j:Nat} {p:mI} {b:List Int} {w:World} (hm:m≤1024) (hn:n≤1024) (hi:i+7<m) (hj:j+7<n) (hb:b.length=64) (hl:p.S.length=m*n) (hR:(gH p.a p.cap p.S).holds w) :
  aX Tryz.prog 105 #[.agg (p.cells m n).toArray,.int .i64 i,.int .i64 j,.agg (b.map (Value.int .i64)).toArray] w fun v w'=>v=.tuple #[]∧jA (gH p.a p.cap p.S) (gH p.a p.cap (tX p.S m i j b 64)) w w':=by
 refine aL (args:=[_,_,_,_]) Tryz.func105 rfl rfl Tryz.ntmps105 rfl ?_
 have hH:=Hp.fI hR
 refine aK ?_
 refine aO ?_
 refine aA (bI (cs:=(p.cells m n).toArray) hH rfl rfl rfl ?_)
 try clear hH
 intro _ b1 hH
 replace hH:=aI hH
 refine aO ?_
 refine aA (bI (cs:=(b.map (Value.int .i64)).toArray) hH rfl rfl rfl ?_)
 try clear hH
 intro _ b2 hH
 replace hH:=aI hH
 have hB:=hH.b 2 rfl
 repeat (first|refine aR ?_|(refine aD (by refine aE rfl hB (by simp [hb]) (Ty.aF rfl)) rfl ?_)|refine aT ?_)
 clear hB
 refine aV (G:=(Nat)) (fun k=>64-k) 1073740544 (fun k=>[(11,.int .i64 k)]) (fun k w'=>k≤64∧Hp (gH p.a p.cap p.S).fp w w' [gH p.a p.cap (tX p.S m i j b k),Rb b1 52 (p.cells m n).toArray,Rb b2 92 (b.map (Value.int .i64)).toArray]) (0) ⟨rfl,trivial⟩ ⟨by omega,hH⟩ ?_
 rintro k w' σ ⟨hk,hH⟩ IH
 show WS _ _ _ _ _ (bQ [(11,.int .i64 k)] _) _
 by_cases hlt:k<64
 ·have hB:=hH.b 1 rfl
  have hx1:=eC (l:=b) (i:=k) hb hlt
  have hcl:max (min (b.getD k 0) 255) 0=(clip (b.getD k 0):Nat):=by unfold clip;omega
  have hcl2:=EF (b.getD k 0)
  have hnx:tX p.S m i j b (k+1)=(tX p.S m i j b k).set ((j+k / 8)*m+(i+k % 8)) (clip (b.getD k 0)):=rfl
  have hpl:=vU p.S m i j b k
  generalize b.getD k 0=x at *
  generalize clip x=c at *
  repeat (first|refine aR ?_|(refine aD (by first|refine aE rfl hB rfl (Ty.aF rfl)|refine cB rfl rfl (Ty.arr rfl) (by omega) hx1|refine dL (n:=8) rfl rfl (by decide)|refine iR (n:=8) rfl rfl (by decide) (mU (by omega))|refine (gJ rfl rfl).is (congrArg (Value.int .i64) hcl)|refine uH (m:=c) rfl rfl rfl hcl2) rfl ?_)|refine aT ?_)
  clear hB
  refine aO ?_
  refine aA (aC ((jP (m:=m) (n:=n) (p:=⟨p.a,p.cap,tX p.S m i j b k⟩) (x:=c) (i:=i+k % 8) (j:=j+k / 8) hm hn (by omega) (by omega) (hpl.trans hl) (hH.at 0 rfl))) rfl rfl ?_)
  rintro _ w4 ⟨rfl,hU⟩
  replace hH:=hH.up 0 rfl hU
  clear hU
  rw [← hnx] at hH
  replace hH:=aI hH
  refine aK ?_
  refine IH (k+1) _ _ ?_ ?_ ?_ ?_
  ·omega
  ·exact ⟨rfl,trivial⟩
  ·exact cP
  ·exact ⟨by omega,hH⟩
 ·obtain rfl:k=64:=by omega
  refine aK ?_
  exact cE Tryz.func105 rfl ⟨rfl,hH.dX 0 rfl⟩
structure FM where
 c:Nat
 r:Nat
 y:mI
 u:mI
 v:mI
abbrev FM.cells (f:FM):List Value:=[.int .i64 (f.c:Nat),.int .i64 (f.r:Nat)]++(f.y.cells (16*f.c) (16*f.r)++(f.u.cells (8*f.c) (8*f.r)++f.v.cells (8*f.c) (8*f.r)))
structure FM.ok (c r:Nat) (f:FM):Prop where
 hc:f.c=c
 hr:f.r=r
 y:f.y.ok (16*c) (16*r)
 u:f.u.ok (8*c) (8*r)
 v:f.v.ok (8*c) (8*r)
abbrev FM.rd (w:World) (f:FM):Prop:=cI w f.y.a (f.y.S.map B)∧cI w f.u.a (f.u.S.map B)∧cI w f.v.a (f.v.S.map B)
theorem FM.rd.ext {w w':World} {f:FM} (h:f.rd w) (hE:Ext [] w w'):f.rd w':=⟨h.1.aH hE,h.2.1.aH hE,h.2.2.aH hE⟩
theorem Mb (f:FM):∀ v∈f.cells.toArray.toList,v.oneCell'=true:=by simp [Value.oneCell']
set_option maxRecDepth 20000 in
set_option maxHeartbeats 4000000 in
theorem lI {f:FM} {c r:Nat} {w:World} (hc:1≤c∧c≤8) (hr:1≤r∧r≤8) (hf:f.ok c r):aX Tryz.prog 30 #[.agg f.cells.toArray] w fun v w'=>v=.int .i64 0∧Ext [] w w':=by
 refine aL (args:=[_]) Tryz.func30 rfl rfl Tryz.ntmps30 rfl ?_
 have hH:=Hp.start w
 obtain ⟨rfl,rfl,hy,hu,hv⟩:=hf
 have e1:(16:Int)*f.c=((16*f.c:Nat):Int):=by omega
 have e2:(16:Int)*f.r=((16*f.r:Nat):Int):=by omega
 have e3:(8:Int)*f.c=((8*f.c:Nat):Int):=by omega
 have e4:(8:Int)*f.r=((8*f.r:Nat):Int):=by omega
 have e5:((16*f.c:Nat):Int)*(16*f.r:Nat)=((16*f.c*(16*f.r):Nat):Int):=by simp
 have e6:((8*f.c:Nat):Int)*(8*f.r:Nat)=((8*f.c*(8*f.r):Nat):Int):=by simp
 have b5:16*f.c*(16*f.r)≤16*8*(16*8):=Nat.mul_le_mul (by omega) (by omega)
 have b6:8*f.c*(8*f.r)≤8*8*(8*8):=Nat.mul_le_mul (by omega) (by omega)
 refine aK ?_
 refine aO ?_
 refine aA (bI (cs:=f.cells.toArray) hH rfl rfl rfl ?_)
 try clear hH
 intro _ b1 hH
 replace hH:=aI hH
 have hB:=hH.b 0 rfl
 repeat (first|refine aR ?_|(refine aD (by first|refine aN rfl (Ty.bA rfl rfl)|refine aB rfl hB rfl (Ty.aF rfl)|refine (bN (m:=16) (n:=f.c) rfl rfl (by omega)).is (congrArg (Value.int .i64) e1)|refine (bN (m:=16) (n:=f.r) rfl rfl (by omega)).is (congrArg (Value.int .i64) e2)|refine (bN (m:=8) (n:=f.c) rfl rfl (by omega)).is (congrArg (Value.int .i64) e3)|refine (bN (m:=8) (n:=f.r) rfl rfl (by omega)).is (congrArg (Value.int .i64) e4)|refine (eQ rfl rfl).is (bF (fun h=>h rfl))|refine (bN (m:=(16*f.c:Nat)) (n:=(16*f.r:Nat)) rfl rfl (by omega)).is (congrArg (Value.int .i64) e5)|refine (bN (m:=(8*f.c:Nat)) (n:=(8*f.r:Nat)) rfl rfl (by omega)).is (congrArg (Value.int .i64) e6)) rfl ?_)|refine aT ?_)
 exact aM Tryz.func30 rfl ⟨rfl,hH.ext⟩
end Go.Proofs.YtdbnmbkjmeepkaaGreatDoor
