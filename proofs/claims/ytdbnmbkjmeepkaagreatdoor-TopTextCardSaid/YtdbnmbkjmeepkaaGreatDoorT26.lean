/- A part of the proof of the card of TopText; no condition. -/
import Derived.Test.YtdbnmbkjmeepkaaGreatDoorT20
import Derived.Test.YtdbnmbkjmeepkaaGreatDoorT24
namespace Go.Proofs.YtdbnmbkjmeepkaaGreatDoor
open Go Go.K Go.P Go.RowKit Go.Proofs
def FM.pl (f:FM) (k:Nat):mI:=if k<4 then f.y else if k=4 then f.u else f.v
def pN (c k:Nat):Nat:=if k<4 then 16*c else 8*c
theorem FM.oJ {f:FM} {c r:Nat} (h:f.ok c r) (k:Nat):(f.pl k).ok (pN c k) (pN r k):=by
 unfold FM.pl pN
 split
 ·exact h.y
 ·split
  ·exact h.u
  ·exact h.v
theorem FM.yD {f:FM} {w:World} (h:f.rd w) (k:Nat):cI w (f.pl k).a ((f.pl k).S.map B):=by
 unfold FM.pl
 split
 ·exact h.1
 ·split
  ·exact h.2.1
  ·exact h.2.2
theorem lZ {c:Nat} (hc:1≤c∧c≤8) (k:Nat):1≤pN c k∧pN c k≤1024:=by unfold pN;split<;>omega
theorem Nt {c r mb k:Nat} (hmb:mb<c*r):bX c mb k+7<pN c k∧bY c mb k+7<pN r k:=by
 have hc:0<c:=by
  rcases c with _|c
  ·simp at hmb
  ·omega
 have h1:mb % c<c:=Nat.mod_lt _ hc
 have h2:mb / c<r:=Nat.div_lt_of_lt_mul hmb
 have h3:k % 2<2:=Nat.mod_lt _ (by decide)
 unfold bX bY pN
 split
 ·have h4:k / 2<2:=by omega
  exact ⟨by omega,by omega⟩
 ·exact ⟨by omega,by omega⟩
theorem eR {f:FM} {c r mb k:Nat} {w:World} (hc:1≤c∧c≤8) (hmb:mb≤1000) (hk:k<6) (hf:f.ok c r) :
  aX Tryz.prog 104 #[.agg f.cells.toArray,.int .i64 mb,.int .i64 k] w fun v w'=>v=.tuple #[.agg ((f.pl k).cells (pN c k) (pN r k)).toArray,.int .i64 (bX c mb k:Nat),.int .i64 (bY c mb k:Nat)]∧Ext [] w w':=by
 obtain ⟨rfl,rfl,_,_,_⟩:=hf
 refine (sS (c:=f.c) (mb:=mb) (k:=k) (by omega) hmb hk (by simp [Value.oneCell'])).mono ?_
 rintro v w' ⟨rfl,hE⟩
 refine ⟨?_,hE⟩
 unfold FM.pl pN
 split
 ·rfl
 ·split<;>rfl
def V4.at (u:V4) (k:Nat):PF:=if k=0 then (u.a0,u.b0) else if k=1 then (u.a1,u.b1) else if k=2 then (u.a2,u.b2) else (u.a3,u.b3)
theorem V4.cat (u:V4) {k:Nat} (h:k<4):u.cells[k]?=some (PV (u.at k)):=by
 rcases (show k=0∨k=1∨k=2∨k=3 by omega) with rfl|rfl|rfl|rfl<;>rfl
def GS (u:V4) (k:Nat):Int × Int:=if k<4 then (whole (u.at k).1,whole (u.at k).2) else (u.cx,u.cy)
theorem NR (u:V4) (k:Nat):(-64≤(GS u k).1∧(GS u k).1≤64)∧-64≤(GS u k).2∧(GS u k).2≤64:=by
 unfold GS
 split
 ·exact ⟨bU _,bU _⟩
 ·have:=u.le;simp only;omega
def xJ (f:FM) (c r mb:Nat) (u:V4) (down:Bool) (k:Nat):List Int:=Gb (f.pl k).S (pN c k) (pN r k) (bX c mb k:Nat) (bY c mb k:Nat) (GS u k).1 (GS u k).2 down
theorem vT (f:FM) (c r mb:Nat) (u:V4) (down:Bool) (k:Nat):(xJ f c r mb u down k).length=64:=AW _ _ _ _ _ _ _ _
def wU (g:Nat→List Int):List Int:=(List.range 6).flatMap g
theorem HK {g:Nat→List Int}:∀ {l:List Nat} {i m:Nat},(∀ x∈l,(g x).length=64)→l[i]?=some m→((l.flatMap g).drop (i*64)).take 64=g m
 | a::ms,0,m,h,hi=>by
  obtain rfl:a=m:=Option.some.inj hi
  rw [Nat.zero_mul,List.drop_zero,List.flatMap_cons,List.take_left' (h a (by simp))]
 | a::ms,i+1,m,h,hi=>by
  rw [List.flatMap_cons,Nat.add_mul,Nat.one_mul,Nat.add_comm,← List.drop_drop,List.drop_left' (h a (by simp))]
  exact HK (fun x hx=>h x (by simp [hx])) (by simpa using hi)
theorem lK {g:Nat→List Int} (h:∀ k,(g k).length=64):(wU g).length=384:=by
 simp [wU,List.range_succ,h]
theorem nU {g:Nat→List Int} {k:Nat} (h:∀ k,(g k).length=64) (hk:k<6):row (wU g) k=g k:=HK (fun x _=>h x) (by simp [hk])
theorem DO {g:Nat→List Int} {k i:Nat} (h:∀ k,(g k).length=64) (hk:k<6) (hi:i<64):(wU g)[k*64+i]?=(g k)[i]?:=by
 rw [← wG hi,nU h hk]
theorem As {α:Type} {z l vs:List α} {N n:Nat} (hz:z.length=N) (hl:l.length=N) (hv:(z.drop n).take vs.length=vs) (h:n+vs.length≤N):(mix z l n).take n++vs++(mix z l n).drop (n+vs.length)=mix z l (n+vs.length):=by
 unfold mix
 have h1:(z.take n).length=n:=by simp;omega
 rw [List.take_left' h1,← List.drop_drop,List.drop_left' h1,List.drop_drop,List.take_add,hv]
theorem Oa {A:Prop} {Y:Fr→Nat→Nat→Prop} (Z:Nat→Nat→Prop) (h1:(∀ σ a b,Z a b→Y σ a b)→A) (h2:∀ σ a b,Z a b→Y σ a b):A:=h1 h2
set_option maxRecDepth 20000 in
set_option maxHeartbeats 8000000 in
theorem pL {f:FM} {c r mb:Nat} {u:V4} {down:Bool} {w:World} (hc:1≤c∧c≤8) (hr:1≤r∧r≤8) (hmb:mb<c*r) (hf:f.ok c r) (hrd:f.rd w) :
  aX Tryz.prog 144 #[.agg f.cells.toArray,.int .i64 mb,.agg u.cells.toArray,.bool down] w fun v w'=>v=.agg ((wU (xJ f c r mb u down)).map (Value.int .i64)).toArray∧Ext [] w w':=by
 refine aL (args:=[_,_,_,_]) Tryz.func144 rfl rfl Tryz.ntmps144 rfl ?_
 have hH:=Hp.start w
 obtain ⟨hm64,_⟩:=eI hc.2 hr.2 hmb
 have hgl:=vT f c r mb u down
 have hzl:=lK hgl
 have hzr:=fun k=>nU (k:=k) hgl
 have hgd:∀ k,xJ f c r mb u down k=Gb (f.pl k).S (pN c k) (pN r k) (bX c mb k:Nat) (bY c mb k:Nat) (GS u k).1 (GS u k).2 down:=fun _=>rfl
 generalize xJ f c r mb u down=g at *
 generalize wU g=z at *
 refine aK ?_
 refine aO ?_
 refine aA (bI (cs:=f.cells.toArray) hH rfl rfl rfl ?_)
 try clear hH
 intro _ b1 hH
 replace hH:=aI hH
 refine aK ?_
 refine aO ?_
 refine aA (bI (cs:=u.cells.toArray) hH rfl rfl rfl ?_)
 try clear hH
 intro _ b2 hH
 replace hH:=aI hH
 refine aO ?_
 refine aA (aQ hH (Ty.bH rfl) rfl ?_)
 try clear hH
 intro _ b3 hH
 replace hH:=aI hH
 refine aK ?_
 refine aA (aQ (zs:=(List.replicate 384 (0:Int)).map (Value.int .i64)) hH (Ty.bH rfl) rfl ?_)
 try clear hH
 intro _ b4 hH
 replace hH:=aI hH
 refine aK ?_
 refine aV (G:=(Nat)) (fun k=>6-k) 1125899906841600 (fun k=>[(17,.int .i64 k)]) (fun k w'=>k≤6∧Hp [] w w' [Rb b1 54 f.cells.toArray,Rb b2 91 u.cells.toArray,Rb b3 93 ((List.replicate 384 (0:Int)).map (Value.int .i64)).toArray,Rb b4 93 ((mix z (List.replicate 384 0) (k*64)).map (Value.int .i64)).toArray]) (0) ⟨rfl,trivial⟩ ⟨by omega,by rw [Nat.zero_mul,kV];exact hH⟩ ?_
 rintro k w' σ ⟨hk,hH⟩ IH
 show WS _ _ _ _ _ (bQ [(17,.int .i64 k)] _) _
 by_cases hlt:k<6
 ·have hbx:=Nt (k:=k) hmb
  have hpw:=NR u k
  have hgk:=hgd k
  have hpo:=FM.oJ hf k
  have hpn:=lZ hc k
  have hpm:=lZ hr k
  have hfs:=fun w=>eR (w:=w) (mb:=mb) (k:=k) hc (by omega) hlt hf
  have hSr:∀ w',Ext [] w w'→cI w' (f.pl k).a ((f.pl k).S.map B):=fun w' hE=>FM.yD (hrd.ext hE) k
  have hzk:=hzr k hlt
  have hglk:=hgl k
  rw [hgk] at hzk hglk
  clear hgk
  generalize f.pl k=pl at *
  generalize pN c k=pc at *
  generalize pN r k=pr at *
  generalize bX c mb k=X at *
  generalize bY c mb k=Y at *
  have hB2:=hH.b 1 rfl
  repeat (first|refine aR ?_|(refine aD (by refine aE rfl hB2 rfl (Ty.aF rfl)) rfl ?_)|refine aT ?_)
  refine aO ?_
  refine aA (aC (tS) rfl rfl ?_)
  rintro _ _ ⟨rfl,hE0⟩
  replace hH:=hH.aH hE0
  clear hE0
  replace hH:=aI hH
  clear hB2
  obtain ⟨dx,dy,hdd⟩:∃ dx dy,GS u k=(dx,dy):=⟨_,_,rfl⟩
  rw [hdd] at hpw hzk hglk
  simp only at hpw hzk hglk
  apply Oa (Z:=fun re im=>whole re=dx∧whole im=dy)
  ·intro key
   have hB2:=hH.b 1 rfl
   by_cases h4:k<4
   ·have hu:=u.cat h4
    have hS2:cI _ (some ⟨b2,0,none⟩) u.cells:=hB2.cX
    rw [GS,if_pos h4] at hdd
    generalize u.at k=pp at *
    obtain ⟨re,im⟩:=pp
    repeat (first|refine aR ?_|(refine aD (by first|refine bD rfl rfl (Ty.arr rfl) (by omega)|refine aU rfl hS2 hu (Ty.aF rfl)) rfl ?_)|refine aT ?_)
    apply eL 1125899906841600 [(10,.int .i64 k),(17,.int .i64 k),(28,.complex .f64 re im)]
    ·exact ⟨rfl,rfl,rfl,trivial⟩
    ·exact LO
    intro σ
    exact key σ re im (by simpa using hdd)
   ·rw [GS,if_neg h4] at hdd
    have h33:=u.le
    have e1:whole (FN u.cx)=u.cx:=eW _ (by omega)
    have e2:whole (FN u.cy)=u.cy:=eW _ (by omega)
    simp only [Prod.mk.injEq] at hdd
    obtain ⟨re,hre⟩:∃ re,FN u.cx=re:=⟨_,rfl⟩
    obtain ⟨im,him⟩:∃ im,FN u.cy=im:=⟨_,rfl⟩
    refine aK ?_
    apply eL 1125899906841600 [(10,.int .i64 k),(17,.int .i64 k),(28,.complex .f64 re im)]
    ·exact ⟨rfl,rfl,(by rw [← hre,← him];rfl),trivial⟩
    ·exact LO
    intro σ
    exact key σ re im ⟨by rw [← hre];exact e1.trans hdd.1,by rw [← him];exact e2.trans hdd.2⟩
  rintro σ re im ⟨hre,him⟩
  refine aK ?_
  refine aO ?_
  refine aA (aC (dK) rfl rfl ?_)
  rintro _ _ ⟨rfl,rfl⟩
  rw [hre,him]
  have hB1:=hH.b 0 rfl
  repeat (first|refine aR ?_|(refine aD (by refine aE rfl hB1 rfl (Ty.aF rfl)) rfl ?_)|refine aT ?_)
  clear hB1
  refine aO ?_
  refine aA (aC ((hfs _)) rfl rfl ?_)
  rintro _ _ ⟨rfl,hE0⟩
  replace hH:=hH.aH hE0
  clear hE0
  replace hH:=aI hH
  refine aK ?_
  refine aO ?_
  refine aA (aQ hH (Ty.bH rfl) rfl ?_)
  try clear hH
  intro _ b14 hH
  replace hH:=aI hH
  refine aO ?_
  refine aA (aJ 4 (vs:=(pl.cells pc pr).toArray) (s:=3) hH rfl rfl rfl (by rfl) (by rfl) (by simp [Value.oneCell']) (Ty.aF rfl) ?_)
  try clear hH
  intro _ hH
  replace hH:=aI hH
  have hB14:=hH.b 4 rfl
  repeat (first|refine aR ?_|(refine aD (by refine aE rfl hB14 rfl (Ty.aF rfl)) rfl ?_)|refine aT ?_)
  clear hB14
  refine aO ?_
  refine aA (aC ((tL (i:=X) (j:=Y) (dx:=dx) (dy:=dy) (down:=down) hpn hpm (by omega) (by omega) (by omega) (by omega) hpo (hSr _ hH.ext))) rfl rfl ?_)
  rintro _ _ ⟨rfl,hE0⟩
  replace hH:=hH.aH hE0
  clear hE0
  replace hH:=aI hH
  generalize Gb pl.S pc pr X Y dx dy down=bl at *
  have hvl:(bl.map (Value.int .i64)).length=64:=by simp [hglk]
  have hml:=eZ hzl (List.length_replicate (n:=384) (a:=(0:Int))) (show k*64≤384 by omega)
  repeat ((refine aD (by refine jS rfl rfl (Ty.arr rfl) (by omega)) rfl ?_))
  refine aA (mL 3 (o:=0+(k:Int).toNat*64) (vs:=bl.map (Value.int .i64)) (s:=64) hH rfl rfl rfl (by rw [List.length_map,List.length_map,hml,hglk];omega) (fun u hu=>by obtain ⟨_,_,rfl⟩:=List.mem_map.1 hu;rfl) (Ty.aF rfl) hvl ?_)
  clear hH
  intro _ hH
  have hmr:=As (z:=z) (l:=List.replicate 384 0) (vs:=bl) (n:=k*64) hzl (by simp) (by rw [hglk];exact hzk) (by rw [hglk];omega)
  rw [hglk] at hmr
  rw [hvl,Int.toNat_natCast,Nat.zero_add,← List.map_take,← List.map_drop,← List.map_append,← List.map_append,hmr,← Nat.succ_mul] at hH
  replace hH:=hH.del 4
  replace hH:=aI hH
  refine aK ?_
  refine IH (k+1) _ _ ?_ ?_ ?_ ?_
  ·omega
  ·exact ⟨rfl,trivial⟩
  ·exact cP
  ·exact ⟨by omega,hH⟩
 ·obtain rfl:k=6:=by omega
  rw [lD hzl (by simp)] at hH
  have hB:=hH.b 3 rfl
  have hl1:=hzl
  repeat (first|refine aR ?_|(refine aD (by refine aE rfl hB (by simp [hzl]) (Ty.aF rfl)) rfl ?_)|refine aT ?_)
  refine aO ?_
  refine aA (aJ 2 (vs:=(z.map (Value.int .i64)).toArray) (s:=384) hH rfl rfl rfl (by simp [hl1]) (by rfl) (by exact bB) (Ty.aF rfl) ?_)
  try clear hH
  intro _ hH
  replace hH:=aI hH
  refine aK ?_
  exact bP Tryz.func144 rfl rfl (hH.b 2 rfl) (by simp [hzl]) (Ty.aF rfl) ⟨rfl,hH.ext⟩
def NB (m:MB):V4:=⟨(lV m.u0).1,(lV m.u0).2,(lV m.u1).1,(lV m.u1).2,(lV m.u2).1,(lV m.u2).2,(lV m.u3).1,(lV m.u3).2⟩
theorem Dg {m:MB} (h:m.ok):[m.u0,m.u1,m.u2,m.u3]=(NB m).cells:=by
 have key:∀ {u:Value},VG u→u=.complex .f64 (lV u).1 (lV u).2:=by
  rintro _ ⟨x,y,_,_,rfl⟩;rfl
 show [m.u0,m.u1,m.u2,m.u3]=[.complex .f64 (lV m.u0).1 (lV m.u0).2,.complex .f64 (lV m.u1).1 (lV m.u1).2,.complex .f64 (lV m.u2).1 (lV m.u2).2,.complex .f64 (lV m.u3).1 (lV m.u3).2]
 rw [← key h.g0,← key h.g1,← key h.g2,← key h.g3]
abbrev MB.LQ (m:MB):Bool:=decide (m.k=3∨m.k=4)
def zL (f:FM) (c r mb:Nat) (m:MB) (down:Bool) (k:Nat):List Int:=if m.LQ=true then rH else xJ f c r mb (NB m) down k
def B8 (h:SH) (m:MB) (k:Nat):List Int:=HQ (M5 h (row m.L k) m.q m.LQ)
def AY (h:SH) (f:FM) (c r mb:Nat) (m:MB) (down:Bool) (k:Nat):List Int:=if m.k=0 then zL f c r mb m down k else List.zipWith (·+·) (zL f c r mb m down k) (B8 h m k)
theorem EY {h:SH} {c:List Int} {qp:Int} {b:Bool} (ho:h.ok) (hc:tH 2047 c):tH 16200000 (M5 h c qp b):=by
 have h1:tH 16200000 (GY vC h c qp b):=by
  rw [lF]
  refine ⟨nX _ _ _ _ _,by decide,fun n hn=>?_⟩
  obtain ⟨i,_,rfl⟩:=List.mem_map.1 hn
  exact Eu (hc.2 i) (pS ho qp i b)
 unfold M5
 split
 ·rw [lF] at h1 ⊢
  refine ⟨by rw [List.length_set];exact h1.1,h1.2.1,fun n hn=>?_⟩
  rcases List.mem_or_eq_of_mem_set hn with hn|rfl
  ·exact h1.2.2 n hn
  ·have:=DH (c.getD 0 0) qp;omega
 ·exact h1
theorem Ef {m:MB} (h:m.ok) {k:Nat} (hk:k<6):tH 2047 (row m.L k):=by
 rw [lF]
 have hl:=pU (b:=k) h.len hk
 refine ⟨hl,by decide,fun n hn=>?_⟩
 obtain ⟨i,hi⟩:=List.mem_iff_getElem?.1 hn
 have hi2:i<64:=by have:=(List.getElem?_eq_some_iff.1 hi).1;omega
 rw [wG hi2] at hi
 exact (h.lv _ n hi).1
theorem wR {h:SH} {m:MB} (ho:h.ok) (hm:m.ok) {k:Nat} (hk:k<6):(B8 h m k).length=64∧∀ n∈B8 h m k,-16200001≤n∧n≤16200001:=by
 obtain ⟨x,y,_,_,_,hf,hy⟩:=IK (by decide) (by decide) (EY (qp:=m.q) (b:=m.LQ) ho (Ef hm hk))
 rw [B8,HQ,hf]
 rw [lF] at hy
 refine ⟨by rw [List.length_map];exact hy.1,fun n hn=>?_⟩
 obtain ⟨i,hi,rfl⟩:=List.mem_map.1 hn
 have:=hy.2.2 i hi
 omega
theorem mN {f:FM} {c r mb:Nat} {m:MB} {down:Bool} {k:Nat} (hf:f.ok c r):(zL f c r mb m down k).length=64∧∀ n∈zL f c r mb m down k,0≤n∧n≤256:=by
 unfold zL
 split
 ·exact ⟨rfl,fun n hn=>by rw [List.eq_of_mem_replicate hn];decide⟩
 ·exact ⟨vT _ _ _ _ _ _ _,Ic (FM.oJ hf k).2⟩
theorem wD {h:SH} {f:FM} {c r mb:Nat} {m:MB} {down:Bool} (ho:h.ok) (hm:m.ok) (hf:f.ok c r) {k:Nat} (hk:k<6):(AY h f c r mb m down k).length=64:=by
 unfold AY
 split
 ·exact (mN hf).1
 ·rw [List.length_zipWith,(mN hf).1,(wR ho hm hk).1];rfl
theorem NL {g:Nat→List Int} (h:∀ k,k<6→(g k).length=64):∃ g':Nat→List Int,(∀ k,(g' k).length=64)∧(∀ k,k<6→g' k=g k)∧wU g'=wU g:=by
 refine ⟨fun k=>if k<6 then g k else rH,fun k=>?_,fun k hk=>if_pos hk,?_⟩
 ·show (if k<6 then g k else rH).length=64
  split
  ·exact h k (by assumption)
  ·rfl
 ·simp [wU,List.range_succ]
theorem uZ {k:Nat} {q:Int} {u0 u1 u2 u3:Value} {e:Bool} {L:List Int} {w:World} {b:Nat} {t:TypeId} (hB:cL w b t (eF k q u0 u1 u2 u3 e L).toArray):cI w (some ⟨b,0+7,none⟩) (L.map (Value.int .i64)):=hB.sl (fun j v hj=>by
 rw [← rA (k:=k) (q:=q) (u0:=u0) (u1:=u1) (u2:=u2) (u3:=u3) (e:=e),List.getElem?_drop] at hj
 rw [List.getElem?_toArray,Nat.zero_add]
 exact hj)
theorem QG {L:List Int} {k:Nat}:((L.map (Value.int .i64)).drop ((k:Int).toNat*64)).take 64=(row L k).map (Value.int .i64):=by
 rw [Int.toNat_natCast,row,List.map_take,List.map_drop]
theorem P9:wU (fun _=>rH)=List.replicate 384 0:=by decide +kernel
theorem eU {P:Program} {N:Nat} {C:Fr→World→Prop} {ops:Array Oper} {l:List Oper} {ρ:Fr} {w:World} (h:∀ u,u=w→WL P N C ops l ρ u):WL P N C ops l ρ w:=h w rfl
set_option maxRecDepth 20000 in
set_option maxHeartbeats 8000000 in
theorem CZ {h:SH} {f:FM} {c r mb:Nat} {m:MB} {down:Bool} {w:World} (ho:h.ok) (hc:1≤c∧c≤8) (hr:1≤r∧r≤8) (hmb:mb<c*r) (hf:f.ok c r) (hrd:f.rd w) (hm:m.ok) :
  aX Tryz.prog 103 #[.agg h.tc.toArray,.bool down,.agg f.cells.toArray,.int .i64 mb,.agg m.cells.toArray] w fun v w'=>v=.agg ((wU (AY h f c r mb m down)).map (Value.int .i64)).toArray∧Ext [] w w':=by
 refine aL (args:=[_,_,_,_,_]) Tryz.func103 rfl rfl Tryz.ntmps103 rfl ?_
 have hH:=Hp.start w
 have htl:=SH.eS ho
 have hml:m.cells.toArray.size=391:=by simpa using bL hm.len
 have hvc:=Dg hm
 have hk5:=hm.k5
 obtain ⟨z,hz⟩:∃ z,wU (AY h f c r mb m down)=z:=⟨_,rfl⟩
 obtain ⟨y,hy⟩:∃ y,wU (zL f c r mb m down)=y:=⟨_,rfl⟩
 have hyl:y.length=384:=hy▸lK (fun k=>(mN hf).1)
 have hzl:z.length=384:=by
  obtain ⟨g,hg1,_,hg2⟩:=NL (fun k hk=>wD (h:=h) (mb:=mb) (down:=down) ho hm hf hk)
  rw [← hz,← hg2];exact lK hg1
 rw [hz]
 refine aK ?_
 refine aO ?_
 refine aA (bI (cs:=h.tc.toArray) hH rfl rfl rfl ?_)
 try clear hH
 intro _ b1 hH
 replace hH:=aI hH
 refine aK ?_
 refine aO ?_
 refine aA (bI (cs:=f.cells.toArray) hH rfl rfl rfl ?_)
 try clear hH
 intro _ b2 hH
 replace hH:=aI hH
 refine aK ?_
 refine aO ?_
 refine aA (bI (cs:=m.cells.toArray) hH rfl rfl rfl ?_)
 try clear hH
 intro _ b3 hH
 replace hH:=aI hH
 refine aK ?_
 refine aA (aQ (zs:=(List.replicate 384 (0:Int)).map (Value.int .i64)) hH (Ty.bH rfl) rfl ?_)
 try clear hH
 intro _ b4 hH
 replace hH:=aI hH
 refine aK ?_
 refine aA (aQ (zs:=(List.replicate 384 (0:Int)).map (Value.int .i64)) hH (Ty.bH rfl) rfl ?_)
 try clear hH
 intro _ b5 hH
 replace hH:=aI hH
 have hB3:=hH.b 2 rfl
 repeat (first|refine aR ?_|(refine aD (by refine aE rfl hB3 hml (Ty.aF rfl)) rfl ?_))
 refine aO ?_
 refine aA (aC (dO) rfl rfl ?_)
 rintro _ _ ⟨rfl,hE0⟩
 replace hH:=hH.aH hE0
 clear hE0
 replace hH:=aI hH
 clear hB3
 apply E8 (Z:=fun u=>Hp [] w u [Rb b1 24 h.tc.toArray,Rb b2 54 f.cells.toArray,Rb b3 95 m.cells.toArray,Rb b4 93 ((List.replicate 384 (0:Int)).map (Value.int .i64)).toArray,Rb b5 93 (y.map (Value.int .i64)).toArray])
 ·intro key
  by_cases hal:m.k=3∨m.k=4
  ·have hy0:y=List.replicate 384 0:=by
    rw [← hy,← P9]
    congr 1
    funext k
    rw [zL,if_pos (decide_eq_true hal)]
   repeat (first|refine aR ?_|(refine aD (by refine (fJ rfl).is (congrArg (fun b=>Value.bool !b) (decide_eq_true hal))) rfl ?_))
   exact eU fun u hu=>cJ [(5,pt b1),(7,pt b2),(9,pt b3),(10,pt b4),(11,pt b5)] ⟨rfl,rfl,rfl,rfl,rfl,trivial⟩ (fun σ=>key σ u (by rw [hy0];exact hu▸hH))
  ·have hy0:y=wU (xJ f c r mb (NB m) down):=by
    rw [← hy]
    congr 1
    funext k
    rw [zL,if_neg (by rw [decide_eq_true_iff];exact hal)]
   have hB2:=hH.b 1 rfl
   have hS:cI _ (some ⟨b3,0,none⟩) m.cells:=(hH.b 2 rfl).cX
   repeat (first|refine aR ?_|(refine aD (by first|refine (fJ rfl).is (congrArg (fun b=>Value.bool !b) (decide_eq_false hal))|refine aN rfl (Ty.bA rfl rfl)|refine aE rfl hB2 rfl (Ty.aF rfl)|refine (bG (j:=0+2) (cs:=[m.u0,m.u1,m.u2,m.u3]) rfl hS rfl rfl (Ty.aF rfl)).is (congrArg (fun l:List Value=>Value.agg l.toArray) hvc)) rfl ?_)|refine aT ?_)
   clear hB2 hS
   refine aO ?_
   refine aA (aC ((pL hc hr hmb hf (hrd.ext hH.ext))) rfl rfl ?_)
   rintro _ _ ⟨rfl,hE0⟩
   replace hH:=hH.aH hE0
   clear hE0
   replace hH:=aI hH
   rw [← hy0]
   have hl1:=hyl
   refine aK ?_
   refine aO ?_
   refine aA (aJ 4 (vs:=(y.map (Value.int .i64)).toArray) (s:=384) hH rfl rfl rfl (by simp [hl1]) (by rfl) (by exact bB) (Ty.aF rfl) ?_)
   try clear hH
   intro _ hH
   replace hH:=aI hH
   refine aK ?_
   exact eU fun u hu=>cJ [(5,pt b1),(7,pt b2),(9,pt b3),(10,pt b4),(11,pt b5)] ⟨rfl,rfl,rfl,rfl,rfl,trivial⟩ (fun σ=>key σ u (hu▸hH))
 clear hH
 intro σ w9 hH
 have hB3:=hH.b 2 rfl
 by_cases h0:m.k=0
 ·have hzy:z=y:=by
   rw [← hz,← hy]
   congr 1
   funext k
   rw [AY,if_pos h0]
  rw [hzy]
  have hB5:=hH.b 4 rfl
  have hl1:=hyl
  repeat (first|refine aR ?_|(refine aD (by first|refine aN rfl (Ty.bA rfl rfl)|refine aB rfl hB3 rfl (Ty.aF rfl)|refine (dJ (q:=.u8) rfl rfl).is (bT (by omega))|refine aE rfl hB5 (by simp [hyl]) (Ty.aF rfl)) rfl ?_))
  refine aO ?_
  refine aA (aJ 3 (vs:=(y.map (Value.int .i64)).toArray) (s:=384) hH rfl rfl rfl (by simp [hl1]) (by rfl) (by exact bB) (Ty.aF rfl) ?_)
  try clear hH
  intro _ hH
  replace hH:=aI hH
  refine aK ?_
  exact bP Tryz.func103 rfl rfl (hH.b 3 rfl) (by simp [hyl]) (Ty.aF rfl) ⟨rfl,hH.ext⟩
 have hrw:∀ k,k<6→∀ i,i<64→∃ a n,y[k*64+i]?=some a∧(B8 h m k)[i]?=some n∧z[k*64+i]?=some (a+n)∧(0≤a∧a≤256)∧-16200001≤n∧n≤16200001:=by
  intro k hk i hi
  have hb:=mN (r:=r) (mb:=mb) (m:=m) (down:=down) (k:=k) hf
  have hr:=wR ho hm hk
  obtain ⟨a,ha⟩:∃ a,(zL f c r mb m down k)[i]?=some a:=⟨_,List.getElem?_eq_getElem (by rw [hb.1];exact hi)⟩
  obtain ⟨n,hn⟩:∃ n,(B8 h m k)[i]?=some n:=⟨_,List.getElem?_eq_getElem (by rw [hr.1];exact hi)⟩
  obtain ⟨g,hg1,hg3,hg2⟩:=NL (fun k hk=>wD (h:=h) (mb:=mb) (down:=down) ho hm hf hk)
  refine ⟨a,n,?_,hn,?_,hb.2 a (List.mem_of_getElem? ha),hr.2 n (List.mem_of_getElem? hn)⟩
  ·rw [← hy,DO (fun k=>(mN hf).1) hk hi,ha]
  ·rw [← hz,← hg2,DO hg1 hk hi,hg3 k hk,AY,if_neg h0,List.getElem?_zipWith,ha,hn]
 repeat (first|refine aR ?_|(refine aD (by first|refine aN rfl (Ty.bA rfl rfl)|refine aB rfl hB3 rfl (Ty.aF rfl)|refine (dJ (q:=.u8) rfl rfl).is (bF (by omega))) rfl ?_)|refine aT ?_)
 clear hB3
 refine aV (G:=(Nat)) (fun k=>6-k) 576460751766614016 (fun k=>[(29,.int .i64 k)]) (fun k w'=>k≤6∧Hp [] w w' [Rb b1 24 h.tc.toArray,Rb b2 54 f.cells.toArray,Rb b3 95 m.cells.toArray,Rb b4 93 ((List.replicate 384 (0:Int)).map (Value.int .i64)).toArray,Rb b5 93 ((mix z y (k*64)).map (Value.int .i64)).toArray]) (0) ⟨rfl,trivial⟩ ⟨by omega,by rw [Nat.zero_mul,kV];exact hH⟩ ?_
 rintro k w' σ ⟨hk,hH⟩ IH
 show WS _ _ _ _ _ (bQ [(29,.int .i64 k)] _) _
 by_cases hlt:k<6
 ·have hB1:=hH.b 0 rfl
  have hB3:=hH.b 2 rfl
  have hS3:=uZ hB3
  have hrl:=pU (b:=k) hm.len hlt
  have hrs:=Ef hm hlt
  have hrr:=wR ho hm hlt
  have hrk:=hrw k hlt
  have hrd:B8 h m k=HQ (M5 h (row m.L k) m.q m.LQ):=rfl
  have hns:=EY (qp:=m.q) (b:=m.LQ) ho hrs
  have hnb:=fun w=>G8 (w:=w) (qp:=m.q) (b:=m.LQ) ho hrs
  have hlr:=QG (L:=m.L) (k:=k)
  generalize row m.L k=R at *
  have hivs:=fun w=>zX (w:=w) (M:=16200000) (by decide) (by decide) hns
  rw [← hrd] at hivs
  generalize M5 h R m.q m.LQ=Q at *
  generalize B8 h m k=V at *
  refine aK ?_
  refine nK 12 rfl (by kernel_rfl) (by kernel_rfl) [Is (.agg h.tc.toArray),Is (.int .i64 k),Is (.pointer (some ⟨b3,0+7,none⟩)),Is (.pointer (some (At (some ⟨b3,0+7,none⟩) ((k:Int).toNat*64)))),Is (.agg (R.map (Value.int .i64)).toArray),Is (.pointer (some ⟨b3,0+1,none⟩)),Is (.int .i64 m.q),Is (.agg m.cells.toArray),Is (.bool m.LQ),Is (.agg (Q.map (Value.int .i64)).toArray),Is (.agg (V.map (Value.int .i64)).toArray),fP w'.heap.size 92 ((List.replicate 64 (0:Int)).map (Value.int .i64)).toArray (fun b=>pt b)] Ty.mixed [(6588479840256,[],true),(8748848390144,[],true),(8740258455552,[],true),(8688718848000,[(2,34),(1,33)],true),(6524055330816,[(3,35)],true),(8379481202688,[],true),(6317896900608,[(5,37)],true),(7142530621440,[],true),(5493263179776,[(7,39)],true),(2194728296448,[(0,32),(4,36),(6,38),(8,40)],true),(4393751552000,[(9,41)],true),(8791798054912,[],true)] 8791798063104 [(10,42),(11,13)] (by kernel_rfl) (by kernel_rfl) (by kernel_rfl) (by kernel_rfl) (by kernel_rfl) ⟨Is.st,Is.st,Is.st,Is.st,Is.st,Is.st,Is.st,Is.st,Is.st,Is.st,Is.st,(by exact fP.st),trivial⟩ ⟨⟨cC.none,?_⟩,⟨cC.none,?_⟩,⟨cC.none,?_⟩,⟨cC.none,?_⟩,⟨cC.none,?_⟩,⟨cC.none,?_⟩,⟨cC.none,?_⟩,⟨cC.none,?_⟩,⟨cC.none,?_⟩,⟨cC.none,?_⟩,⟨cC.none,?_⟩,⟨cC.none,?_⟩,trivial⟩ ?_
  ·intro w'' hE''
   intro σ''
   exact bJ (by refine aE rfl (hB1.aH hE'') (by simp [htl]) (Ty.aF rfl)) rfl
  ·intro w'' hE''
   intro σ''
   exact bJ (by refine aP rfl) rfl
  ·intro w'' hE''
   intro σ''
   exact Au
  ·intro w'' hE''
   rintro _ rfl
   rintro _ rfl
   intro σ''
   exact bJ (by refine jS rfl rfl (Ty.arr rfl) (by omega)) rfl
  ·intro w'' hE''
   rintro _ rfl
   intro σ''
   exact bJ (by refine bG (j:=(k:Int).toNat*64) (cs:=R.map (Value.int .i64)) rfl (hS3.aH hE'') hlr (by simp [hrl]) (Ty.aF rfl)) rfl
  ·intro w'' hE''
   intro σ''
   exact Au
  ·intro w'' hE''
   rintro _ rfl
   intro σ''
   exact bJ (by refine aB (v:=.int .i64 m.q) rfl (hB3.aH hE'') rfl (Ty.aF rfl)) rfl
  ·intro w'' hE''
   intro σ''
   exact bJ (by refine aE rfl (hB3.aH hE'') hml (Ty.aF rfl)) rfl
  ·intro w'' hE''
   rintro _ rfl
   intro σ''
   refine aC dO rfl rfl ?_
   rintro v w3'' ⟨rfl,hE⟩
   exact ⟨hE,_,rfl,rfl⟩
  ·intro w'' hE''
   rintro _ rfl
   rintro _ rfl
   rintro _ rfl
   rintro _ rfl
   intro σ''
   refine aC (hnb _) rfl rfl ?_
   rintro v w3'' ⟨rfl,hE⟩
   exact ⟨hE,_,rfl,rfl⟩
  ·intro w'' hE''
   rintro _ rfl
   intro σ''
   refine aC (hivs _) rfl rfl ?_
   rintro v w3'' ⟨rfl,hE⟩
   exact ⟨hE,_,rfl,rfl⟩
  ·intro w'' hE''
   intro σ''
   refine dS (zs:=(List.replicate 64 (0:Int)).map (Value.int .i64)) (Ty.bH rfl) rfl ?_
   intro w3'' b'' hb'' hE3'' hB'' hs''
   exact xO
  intro w'' hE''
  rintro _ rfl
  rintro _ h11
  intro σ''
  obtain ⟨b6,rfl,hB6,hb6⟩:=h11
  replace hH:=hH.nu (r:=Rb b6 92 ((List.replicate 64 (0:Int)).map (Value.int .i64)).toArray) ⟨hE'',hB6,fun x hx=>by simp [Rb] at hx;omega⟩
  clear hE'' hB6 hb6 hB1 hB3 hS3
  replace hH:=aI hH
  have hl1:=hrr.1
  refine aO ?_
  refine aA (aJ 5 (vs:=(V.map (Value.int .i64)).toArray) (s:=64) hH rfl rfl rfl (by simp [hl1]) (by rfl) (by exact bB) (Ty.aF rfl) ?_)
  try clear hH
  intro _ hH
  replace hH:=aI hH
  have hB6:=hH.b 5 rfl
  repeat (first|refine aR ?_|(refine aD (by refine aE rfl hB6 (by simp [hrr.1]) (Ty.aF rfl)) rfl ?_)|refine aT ?_)
  clear hB6
  refine aV (G:=(Nat)) (fun i=>64-i) 288212783965716480 (fun i=>[(44,.int .i64 i)]) (fun i w'=>i≤64∧Hp [] w w' [Rb b1 24 h.tc.toArray,Rb b2 54 f.cells.toArray,Rb b3 95 m.cells.toArray,Rb b4 93 ((List.replicate 384 (0:Int)).map (Value.int .i64)).toArray,Rb b5 93 ((mix z y (k*64+i)).map (Value.int .i64)).toArray,Rb b6 92 (V.map (Value.int .i64)).toArray]) (0) ⟨rfl,trivial⟩ ⟨by omega,hH⟩ ?_
  rintro i w' σ ⟨hi,hH⟩ IH2
  show WS _ _ _ _ _ (bQ [(44,.int .i64 i)] _) _
  by_cases hil:i<64
  ·obtain ⟨a,n,ha,hn,hzz,hab,hnb2⟩:=hrk i hil
   have hml2:=eZ (k:=k*64+i) hzl hyl (by omega)
   have hx1:((V.map (Value.int .i64)).toArray)[(i:Int).toNat]?=some (.int .i64 n):=by simp [hn]
   have hg:((mix z y (k*64+i)).map (Value.int .i64))[(k:Int).toNat*64+(i:Int).toNat]?=some (.int .i64 a):=by
    rw [Int.toNat_natCast,Int.toNat_natCast,List.getElem?_map,Dv hzl (by omega),ha];rfl
   have hS5:cI _ (some ⟨b5,0,none⟩) _:=(hH.b 4 rfl).cX
   repeat (first|refine aR ?_|(refine aD (by refine cB rfl rfl (Ty.arr rfl) (by omega) hx1) rfl ?_)|refine aT ?_)
   refine cM Ty.mixed 8 rfl (by kernel_rfl) rfl (fun w1 hx1=>?_)
   refine bE 0 hx1 ?_
   refine bE 1 hx1 ?_
   refine aY 2 hx1 rfl (fun w' hw'=>by refine jS rfl rfl (Ty.arr rfl) (by omega)) ?_
   refine aY 3 hx1 rfl (fun w' hw'=>by refine lN rfl rfl (Ty.arr rfl) (by omega)) ?_
   refine aY 4 hx1 rfl (fun w' hw'=>by refine aU rfl (hS5.aH hw') hg (Ty.aF rfl)) ?_
   refine bE 5 hx1 ?_
   refine bE 6 hx1 ?_
   refine aY 7 hx1 rfl (fun w' hw'=>by refine jS rfl rfl (Ty.arr rfl) (by omega)) ?_
   refine aW (by kernel_rfl) ?_
   replace hH:=hH.aH hx1
   repeat ((refine aD (by refine lN rfl rfl (Ty.arr rfl) (by omega)) rfl ?_))
   refine aA (cF 4 (o:=(k:Int).toNat*64+(i:Int).toNat) (v:=.int .i64 (a+n)) hH rfl rfl rfl (by rw [List.length_map,hml2];omega) rfl (Ty.aF rfl) ?_)
   clear hH hS5
   intro _ hH
   replace hH:=aI hH
   rw [Int.toNat_natCast,Int.toNat_natCast,← List.map_set,gZ hzl hyl (by omega) hzz] at hH
   refine aK ?_
   refine IH2 (i+1) _ _ ?_ ?_ ?_ ?_
   ·omega
   ·exact ⟨rfl,trivial⟩
   ·exact cP
   ·exact ⟨by omega,hH⟩
  ·obtain rfl:i=64:=by omega
   clear IH2
   refine aK ?_
   replace hH:=hH.del 5
   replace hH:=aI hH
   rw [← Nat.succ_mul] at hH
   refine IH (k+1) _ _ ?_ ?_ ?_ ?_
   ·omega
   ·exact ⟨rfl,trivial⟩
   ·exact cP
   ·exact ⟨by omega,hH⟩
 ·obtain rfl:k=6:=by omega
  clear IH
  rw [lD hzl hyl] at hH
  have hB5:=hH.b 4 rfl
  have hl1:=hzl
  repeat (first|refine aR ?_|(refine aD (by refine aE rfl hB5 (by simp [hzl]) (Ty.aF rfl)) rfl ?_)|refine aT ?_)
  refine aO ?_
  refine aA (aJ 3 (vs:=(z.map (Value.int .i64)).toArray) (s:=384) hH rfl rfl rfl (by simp [hl1]) (by rfl) (by exact bB) (Ty.aF rfl) ?_)
  try clear hH
  intro _ hH
  replace hH:=aI hH
  refine aK ?_
  exact bP Tryz.func103 rfl rfl (hH.b 3 rfl) (by simp [hzl]) (Ty.aF rfl) ⟨rfl,hH.ext⟩
def FM.dX (f:FM) (k:Nat) (S:List Nat):FM:=if k<4 then { f with y:=⟨f.y.a,f.y.cap,S⟩ } else if k=4 then { f with u:=⟨f.u.a,f.u.cap,S⟩ } else { f with v:=⟨f.v.a,f.v.cap,S⟩ }
def FM.put (f:FM) (c mb:Nat) (g:Nat→List Int):Nat→FM
 | 0=>f
 | k+1=>(f.put c mb g k).dX k (tX ((f.put c mb g k).pl k).S (pN c k) (bX c mb k) (bY c mb k) (g k) 64)
abbrev FM.res (f:FM):List cK:=[gH f.y.a f.y.cap f.y.S,gH f.u.a f.u.cap f.u.S,gH f.v.a f.v.cap f.v.S]
theorem FM.MC {f:FM} {c r k:Nat} {S:List Nat} (h:f.ok c r) (hS:S.length=(f.pl k).S.length) (hb:gR S):(f.dX k S).ok c r:=by
 unfold FM.dX FM.pl at *
 split at hS
 ·rw [if_pos (by assumption)];exact ⟨h.hc,h.hr,⟨hS.trans h.y.1,hb⟩,h.u,h.v⟩
 ·rename_i h1
  split at hS
  ·rename_i h2;rw [if_neg h1,if_pos h2];exact ⟨h.hc,h.hr,h.y,⟨hS.trans h.u.1,hb⟩,h.v⟩
  ·rename_i h2;rw [if_neg h1,if_neg h2];exact ⟨h.hc,h.hr,h.y,h.u,⟨hS.trans h.v.1,hb⟩⟩
theorem FM.Df {f:FM} {c r mb:Nat} {g:Nat→List Int} (h:f.ok c r):∀ k,(f.put c mb g k).ok c r
 | 0=>h
 | k+1=>by
  have ih:=FM.Df (mb:=mb) (g:=g) h k
  exact FM.MC ih (vU _ _ _ _ _ _) (Ch (FM.oJ ih k).2 64)
theorem FM.Fv {f:FM} {k:Nat} {S:List Nat}:(f.dX k S).cells=f.cells:=by
 unfold FM.dX
 split
 ·rfl
 ·split<;>rfl
theorem FM.sK {f:FM} {c mb:Nat} {g:Nat→List Int}:∀ k,(f.put c mb g k).cells=f.cells
 | 0=>rfl
 | k+1=>(FM.Fv).trans (FM.sK k)
set_option maxRecDepth 20000 in
set_option maxHeartbeats 1600000 in
theorem CL {h:SH} {f f2:FM} {c r mb:Nat} {m:MB} {down:Bool} {w:World} (ho:h.ok) (hc:1≤c∧c≤8) (hr:1≤r∧r≤8) (hmb:mb<c*r) (hf:f.ok c r) (hf2:f2.ok c r) (hrd:f.rd w) (hm:m.ok) (hS:Sep f2.res w) (hdj:∀ s∈eY f2.res,s ∉ dI f.y.a∧s ∉ dI f.u.a∧s ∉ dI f.v.a) :
  aX Tryz.prog 61 #[.agg h.tc.toArray,.bool down,.agg f.cells.toArray,.agg f2.cells.toArray,.int .i64 mb,.agg m.cells.toArray] w fun v w'=>v=.int .i64 0∧Hp (eY f2.res) w w' (f2.put c mb (AY h f c r mb m down) 6).res:=by
 refine aL (args:=[_,_,_,_,_,_]) Tryz.func61 rfl rfl Tryz.ntmps61 rfl ?_
 have hH:=Hp.fQ hS
 have htl:=SH.eS ho
 have hml:m.cells.toArray.size=391:=by simpa using bL hm.len
 obtain ⟨hm64,_⟩:=eI hc.2 hr.2 hmb
 have hrd2:∀ w',Ext (eY f2.res) w w'→f.rd w':=fun w' hE=>⟨hrd.1.ext hE (fun s hs=>(hdj s hs).1),hrd.2.1.ext hE (fun s hs=>(hdj s hs).2.1),hrd.2.2.ext hE (fun s hs=>(hdj s hs).2.2)⟩
 have hrm:=fun w' hE=>CZ (w:=w') (down:=down) ho hc hr hmb hf (hrd2 w' hE) hm
 obtain ⟨g,hg1,hg3,hg2⟩:=NL (fun k hk=>wD (h:=h) (mb:=mb) (down:=down) ho hm hf hk)
 have iQ:∀ k,k≤6→f2.put c mb (AY h f c r mb m down) k=f2.put c mb g k:=by
  intro k
  induction k with
  | zero=>intro _;rfl
  | succ k ih=>intro hk;rw [FM.put,FM.put,ih (by omega),hg3 k (by omega)]
 rw [iQ 6 (by decide)]
 simp only [← hg2] at hrm
 have oE:=fun k=>nU (k:=k) hg1
 have hzl:=lK hg1
 clear iQ hg3 hg2
 have hcm:(c:Int)*r=((c*r:Nat):Int):=by simp
 have hcr:c*r≤64:=Nat.mul_le_mul hc.2 hr.2
 have q0:f.cells.toArray[0]?=some (.int .i64 c):=by rw [← hf.hc];rfl
 have q1:f.cells.toArray[1]?=some (.int .i64 r):=by rw [← hf.hr];rfl
 have p0:f2.cells.toArray[0]?=some (.int .i64 c):=by rw [← hf2.hc];rfl
 have p1:f2.cells.toArray[1]?=some (.int .i64 r):=by rw [← hf2.hr];rfl
 refine aK ?_
 refine aO ?_
 refine aA (bI (cs:=h.tc.toArray) hH rfl rfl rfl ?_)
 try clear hH
 intro _ b1 hH
 replace hH:=aI hH
 refine aK ?_
 refine aO ?_
 refine aA (bI (cs:=f.cells.toArray) hH rfl rfl rfl ?_)
 try clear hH
 intro _ b2 hH
 replace hH:=aI hH
 refine aK ?_
 refine aO ?_
 refine aA (bI (cs:=f2.cells.toArray) hH rfl rfl rfl ?_)
 try clear hH
 intro _ b3 hH
 replace hH:=aI hH
 refine aK ?_
 refine aO ?_
 refine aA (bI (cs:=m.cells.toArray) hH rfl rfl rfl ?_)
 try clear hH
 intro _ b4 hH
 replace hH:=aI hH
 have hB3:=hH.b 5 rfl
 repeat (first|refine aR ?_|(refine aD (by refine aE rfl hB3 rfl (Ty.aF rfl)) rfl ?_)|refine aT ?_)
 refine aO ?_
 refine aA (aC ((lI hc hr hf2)) rfl rfl ?_)
 rintro _ _ ⟨rfl,hE0⟩
 replace hH:=hH.aH hE0
 clear hE0
 replace hH:=aI hH
 clear hB3
 have hB3:=hH.b 5 rfl
 have hB4:=hH.b 6 rfl
 repeat (first|refine aR ?_|(refine aD (by first|refine aN rfl (Ty.bA rfl rfl)|refine aB rfl hB3 p0 (Ty.aF rfl)|refine aB rfl hB3 p1 (Ty.aF rfl)|refine (bN (m:=c) (n:=r) rfl rfl (by omega)).is (congrArg (Value.int .i64) hcm)|refine aE rfl hB4 hml (Ty.aF rfl)) rfl ?_)|refine aT ?_)
 refine aO ?_
 refine aA (aC (dO) rfl rfl ?_)
 rintro _ _ ⟨rfl,hE0⟩
 replace hH:=hH.aH hE0
 clear hE0
 replace hH:=aI hH
 clear hB3 hB4
 apply E8 (Z:=fun u=>Hp (eY f2.res) w u (f2.res++[Rb b1 24 h.tc.toArray,Rb b2 54 f.cells.toArray,Rb b3 54 f2.cells.toArray,Rb b4 95 m.cells.toArray]))
 ·intro key
  by_cases hal:m.k=3∨m.k=4
  ·repeat (first|refine aR ?_|(refine aD (by refine (fJ rfl).is (congrArg (fun b=>Value.bool !b) (decide_eq_true hal))) rfl ?_)|refine aT ?_)
   exact eU fun u hu=>cJ [(1,.bool down),(4,.int .i64 mb),(6,pt b1),(8,pt b2),(9,pt b3),(11,pt b4)] ⟨rfl,rfl,rfl,rfl,rfl,rfl,trivial⟩ (fun σ=>key σ u (hu▸hH))
  ·have hB2:=hH.b 4 rfl
   repeat (first|refine aR ?_|(refine aD (by first|refine (fJ rfl).is (congrArg (fun b=>Value.bool !b) (decide_eq_false hal))|refine aE rfl hB2 rfl (Ty.aF rfl)) rfl ?_)|refine aT ?_)
   refine aO ?_
   refine aA (aC ((lI hc hr hf)) rfl rfl ?_)
   rintro _ _ ⟨rfl,hE0⟩
   replace hH:=hH.aH hE0
   clear hE0
   replace hH:=aI hH
   clear hB2
   have hB2:=hH.b 4 rfl
   have hB3:=hH.b 5 rfl
   repeat (first|refine aR ?_|(refine aD (by first|refine aN rfl (Ty.bA rfl rfl)|refine aB rfl hB2 q0 (Ty.aF rfl)|refine aB rfl hB2 q1 (Ty.aF rfl)|refine aB rfl hB3 p0 (Ty.aF rfl)|refine aB rfl hB3 p1 (Ty.aF rfl)|refine (eQ rfl rfl).is (bF (fun h=>h rfl))) rfl ?_)|refine aT ?_)
   exact eU fun u hu=>cJ [(1,.bool down),(4,.int .i64 mb),(6,pt b1),(8,pt b2),(9,pt b3),(11,pt b4)] ⟨rfl,rfl,rfl,rfl,rfl,rfl,trivial⟩ (fun σ=>key σ u (hu▸hH))
 clear hH
 intro σ w9 hH
 have hB1:=hH.b 3 rfl
 have hB2:=hH.b 4 rfl
 have hB4:=hH.b 6 rfl
 repeat (first|(refine aD (by first|refine aE rfl hB4 hml (Ty.aF rfl)|refine aE rfl hB2 rfl (Ty.aF rfl)|refine aE rfl hB1 (by simp [htl]) (Ty.aF rfl)) rfl ?_)|refine aT ?_)
 clear hB1 hB2 hB4
 refine aO ?_
 refine aA (aC ((hrm _ hH.ext)) rfl rfl ?_)
 rintro _ _ ⟨rfl,hE0⟩
 replace hH:=hH.aH hE0
 clear hE0
 replace hH:=aI hH
 generalize wU g=z at *
 refine aK ?_
 refine aV (G:=(Nat)) (fun k=>6-k) 4835684831714442989527040 (fun k=>[(64,.int .i64 k)]) (fun k w'=>k≤6∧Hp (eY f2.res) w w' ((f2.put c mb g k).res++[Rb b1 24 h.tc.toArray,Rb b2 54 f.cells.toArray,Rb b3 54 f2.cells.toArray,Rb b4 95 m.cells.toArray])) (0) ⟨rfl,trivial⟩ ⟨by omega,hH⟩ ?_
 rintro k w' σ ⟨hk,hH⟩ IH
 show WS _ _ _ _ _ (bQ [(64,.int .i64 k)] _) _
 by_cases hlt:k<6
 ·have hzr:=oE k hlt
  have hgl:=hg1 k
  have hbx:=Nt (k:=k) hmb
  have hFn:f2.put c mb g (k+1)=(f2.put c mb g k).dX k (tX ((f2.put c mb g k).pl k).S (pN c k) (bX c mb k) (bY c mb k) (g k) 64):=rfl
  have hFo:=FM.Df (mb:=mb) (g:=g) hf2 k
  have hFc:=FM.sK (f:=f2) (c:=c) (mb:=mb) (g:=g) k
  generalize f2.put c mb g k=F at *
  have hex:(z.map (Value.int .i64)).toArray.extract ((k:Int).toNat*64) ((k:Int).toNat*64+64)=((g k).map (Value.int .i64)).toArray:=by
   rw [Int.toNat_natCast,wJ,hzr]
  have hfb:=fun w=>eR (w:=w) (mb:=mb) (k:=k) hc (by omega) hlt hFo
  rw [hFc] at hfb
  have hps:=fun w h=>D4 (w:=w) (m:=pN c k) (n:=pN r k) (p:=F.pl k) (i:=bX c mb k) (j:=bY c mb k) (b:=g k) (lZ hc k).2 (lZ hr k).2 hbx.1 hbx.2 hgl (FM.oJ hFo k).1 h
  generalize tX (F.pl k).S (pN c k) (bX c mb k) (bY c mb k) (g k) 64=S2 at *
  repeat (first|refine aR ?_|(refine aD (by refine (gY rfl rfl (Ty.arr rfl) (by omega)).is (congrArg Value.agg hex)) rfl ?_)|refine aT ?_)
  refine aO ?_
  refine aA (aQ hH (Ty.bH rfl) rfl ?_)
  try clear hH
  intro _ b5 hH
  replace hH:=aI hH
  refine aK ?_
  have hl1:=hgl
  refine aO ?_
  refine aA (aJ 7 (vs:=((g k).map (Value.int .i64)).toArray) (s:=64) hH rfl rfl rfl (by simp [hl1]) (by rfl) (by exact bB) (Ty.aF rfl) ?_)
  try clear hH
  intro _ hH
  replace hH:=aI hH
  have hB3:=hH.b 5 rfl
  repeat (first|refine aR ?_|(refine aD (by refine aE rfl hB3 rfl (Ty.aF rfl)) rfl ?_)|refine aT ?_)
  clear hB3
  refine aO ?_
  refine aA (aC ((hfb _)) rfl rfl ?_)
  rintro _ _ ⟨rfl,hE0⟩
  replace hH:=hH.aH hE0
  clear hE0
  replace hH:=aI hH
  by_cases h4:k<4
  ·have hpl:F.pl k=F.y:=by rw [FM.pl,if_pos h4]
   have hup:∀ S,F.dX k S={ F with y:=⟨F.y.a,F.y.cap,S⟩ }:=fun S=>by rw [FM.dX,if_pos h4]
   refine aK ?_
   refine aO ?_
   refine aA (aQ hH (Ty.bH rfl) rfl ?_)
   try clear hH
   intro _ b6 hH
   replace hH:=aI hH
   refine aK ?_
   refine aO ?_
   refine aA (aJ 8 (vs:=((F.pl k).cells (pN c k) (pN r k)).toArray) (s:=3) hH rfl rfl rfl (by rfl) (by rfl) (by simp [Value.oneCell']) (Ty.aF rfl) ?_)
   try clear hH
   intro _ hH
   replace hH:=aI hH
   have hB6:=hH.b 8 rfl
   have hB5:=hH.b 7 rfl
   repeat (first|refine aR ?_|(refine aD (by first|refine aE rfl hB6 rfl (Ty.aF rfl)|refine aE rfl hB5 (by simp [hgl]) (Ty.aF rfl)) rfl ?_)|refine aT ?_)
   clear hB5 hB6
   refine aO ?_
   refine aA (aC ((hps _ (by rw [hpl];exact hH.at 0 rfl))) rfl rfl ?_)
   rintro _ _ ⟨rfl,hU⟩
   rw [show F.pl k=F.y from hpl] at hU
   replace hH:=((hH.up 0 rfl hU).del 8).del 7
   replace hH:=aI hH
   refine aK ?_
   refine IH (k+1) _ _ ?_ ?_ ?_ ?_
   ·omega
   ·exact ⟨rfl,trivial⟩
   ·exact cP
   ·exact ⟨by omega,by rw [hFn,hup];exact hH⟩
  ·by_cases h5:k=4
   ·have hpl:F.pl k=F.u:=by rw [FM.pl,if_neg h4,if_pos h5]
    have hup:∀ S,F.dX k S={ F with u:=⟨F.u.a,F.u.cap,S⟩ }:=fun S=>by rw [FM.dX,if_neg h4,if_pos h5]
    refine aK ?_
    refine aO ?_
    refine aA (aQ hH (Ty.bH rfl) rfl ?_)
    try clear hH
    intro _ b6 hH
    replace hH:=aI hH
    refine aK ?_
    refine aO ?_
    refine aA (aJ 8 (vs:=((F.pl k).cells (pN c k) (pN r k)).toArray) (s:=3) hH rfl rfl rfl (by rfl) (by rfl) (by simp [Value.oneCell']) (Ty.aF rfl) ?_)
    try clear hH
    intro _ hH
    replace hH:=aI hH
    have hB6:=hH.b 8 rfl
    have hB5:=hH.b 7 rfl
    repeat (first|refine aR ?_|(refine aD (by first|refine aE rfl hB6 rfl (Ty.aF rfl)|refine aE rfl hB5 (by simp [hgl]) (Ty.aF rfl)) rfl ?_)|refine aT ?_)
    clear hB5 hB6
    refine aO ?_
    refine aA (aC ((hps _ (by rw [hpl];exact hH.at 1 rfl))) rfl rfl ?_)
    rintro _ _ ⟨rfl,hU⟩
    rw [show F.pl k=F.u from hpl] at hU
    replace hH:=((hH.up 1 rfl hU).del 8).del 7
    replace hH:=aI hH
    refine aK ?_
    refine IH (k+1) _ _ ?_ ?_ ?_ ?_
    ·omega
    ·exact ⟨rfl,trivial⟩
    ·exact cP
    ·exact ⟨by omega,by rw [hFn,hup];exact hH⟩
   ·have hpl:F.pl k=F.v:=by rw [FM.pl,if_neg h4,if_neg h5]
    have hup:∀ S,F.dX k S={ F with v:=⟨F.v.a,F.v.cap,S⟩ }:=fun S=>by rw [FM.dX,if_neg h4,if_neg h5]
    refine aK ?_
    refine aO ?_
    refine aA (aQ hH (Ty.bH rfl) rfl ?_)
    try clear hH
    intro _ b6 hH
    replace hH:=aI hH
    refine aK ?_
    refine aO ?_
    refine aA (aJ 8 (vs:=((F.pl k).cells (pN c k) (pN r k)).toArray) (s:=3) hH rfl rfl rfl (by rfl) (by rfl) (by simp [Value.oneCell']) (Ty.aF rfl) ?_)
    try clear hH
    intro _ hH
    replace hH:=aI hH
    have hB6:=hH.b 8 rfl
    have hB5:=hH.b 7 rfl
    repeat (first|refine aR ?_|(refine aD (by first|refine aE rfl hB6 rfl (Ty.aF rfl)|refine aE rfl hB5 (by simp [hgl]) (Ty.aF rfl)) rfl ?_)|refine aT ?_)
    clear hB5 hB6
    refine aO ?_
    refine aA (aC ((hps _ (by rw [hpl];exact hH.at 2 rfl))) rfl rfl ?_)
    rintro _ _ ⟨rfl,hU⟩
    rw [show F.pl k=F.v from hpl] at hU
    replace hH:=((hH.up 2 rfl hU).del 8).del 7
    replace hH:=aI hH
    refine aK ?_
    refine IH (k+1) _ _ ?_ ?_ ?_ ?_
    ·omega
    ·exact ⟨rfl,trivial⟩
    ·exact cP
    ·exact ⟨by omega,by rw [hFn,hup];exact hH⟩
 ·obtain rfl:k=6:=by omega
  clear IH
  refine aK ?_
  exact aM Tryz.func61 rfl ⟨rfl,hH.take 3⟩
end Go.Proofs.YtdbnmbkjmeepkaaGreatDoor
