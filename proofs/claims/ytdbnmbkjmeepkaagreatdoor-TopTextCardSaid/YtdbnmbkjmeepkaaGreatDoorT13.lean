/- A part of the proof of the card of TopText; no condition. -/
import Derived.Test.YtdbnmbkjmeepkaaGreatDoorT12
import Derived.Test.YtdbnmbkjmeepkaaGreatDoorRows
namespace Go.Proofs.YtdbnmbkjmeepkaaGreatDoor
open Go Go.K Go.P Go.RowKit Go.Proofs
theorem Pv {ρ:Fr} {x y:Operand} {sz:Nat} {cs ds:List Value} (hx:ev ρ x=.agg cs.toArray) (hy:ev ρ y=.agg ds.toArray) (h1:cs.length=sz) (h2:ds.length=sz):fL ρ sz 0 [(0,x),(1,y)]=some (cs++ds):=by
 simp [fL,hx,hy,Value.cells,h1,h2]
theorem Gk {A Bb:List Nat} {k:Nat} (ha:A.length=64) (hb:Bb.length=64) (hk:k<2):(((A++Bb).drop (64*k)).take 64).length=64∧(((A.map B++Bb.map B).drop (k*64)).take 64)=(((A++Bb).drop (64*k)).take 64).map B:=by
 refine ⟨by simp [ha,hb];omega,?_⟩
 rw [← List.map_append,List.map_take,List.map_drop,Nat.mul_comm]
theorem JQ {T:List Nat} {m:Nat} (h:m<T.length):tb (T.take (m+1))=tb (T.take m)++nb T[m] 8:=by
 rw [List.take_succ_eq_append_getElem h,Jo]
set_option maxRecDepth 20000 in
set_option maxHeartbeats 8000000 in
theorem GA {h:SH} (ho:h.ok) (he:h.err=0) {w:World}:aX Tryz.prog 53 #[.agg h.cells.toArray] w fun v w'=>∃ a' c',v=.tuple #[.slice a' h.out.length c',.int .i64 0]∧iA (gH a' c' h.out) w w':=by
 refine aL (args:=[_]) Tryz.func53 rfl rfl Tryz.ntmps53 rfl ?_
 have hH:=Hp.start w
 refine aK ?_
 refine aA (bI (cs:=h.cells.toArray) hH rfl rfl rfl ?_)
 try clear hH
 intro w1 b1 hH
 have hB:cL w1 b1 26 h.cells.toArray:=hH.b 0 rfl
 repeat (first|refine aR ?_|(refine aD (by refine aE rfl hB (SH.bK ho) (Ty.aF rfl)) rfl ?_)|refine aT ?_)
 refine aO ?_
 refine aA (aC (kG ho) rfl rfl ?_)
 rintro v w2 ⟨rfl,hE⟩
 replace hH:=hH.aH hE
 clear hB
 obtain ⟨hk1,hk2,_⟩:=SH.D5 he
 have hla:=ho.la
 have hlb:=ho.lb
 have hba:=ho.ba
 have hbb:=ho.bb
 rw [he]
 obtain ⟨c,r,wt,A,Bb⟩:=h
 simp only at hk1 hk2 hla hlb hba hbb
 obtain ⟨c,rfl⟩:=Int.eq_ofNat_of_zero_le (show 0≤c by omega)
 obtain ⟨r,rfl⟩:=Int.eq_ofNat_of_zero_le (show 0≤r by omega)
 repeat (first|refine aR ?_|(refine aD (by refine bR (cs:=[.slice none 0 0,.int .i64 0]) (Ty.bH rfl) (Ty.iJ rfl) rfl) rfl ?_)|refine aT ?_)
 refine aA (bI hH rfl rfl rfl ?_)
 try clear hH
 intro w3 q hH
 replace hH:Hp [] w w3 [Rb b1 26 (SH.cells ⟨(c:Nat),(r:Nat),wt,A,Bb⟩).toArray,Rw q none 0 []]:=hH.as 1 rfl (fun x hx=>by simpa [Rw,sep,Rb,gH,Ro,dI] using hx) (fun hB=>⟨hB,Own.nil,fun _ _ hb=>by simp [gH,Ro,dI] at hb⟩)
 have hB:cL _ b1 26 (SH.cells ⟨(c:Nat),(r:Nat),wt,A,Bb⟩).toArray:=hH.b 0 rfl
 repeat (first|refine aR ?_|(refine aD (by first|refine aN rfl (Ty.bA rfl rfl)|refine aB rfl hB rfl (Ty.aF rfl)) rfl ?_)|refine aT ?_)
 refine aO ?_
 refine aA (aC (cH (n:=c) (s:=8) (by omega) (by decide) (by simp) (hH.at 1 rfl)) rfl rfl ?_)
 rintro v w4 ⟨rfl,a4,c4,hU⟩
 replace hH:=hH.up 1 rfl hU
 clear hU
 replace hH:=aI hH
 have hB:cL _ b1 26 (SH.cells ⟨(c:Nat),(r:Nat),wt,A,Bb⟩).toArray:=hH.b 0 rfl
 repeat (first|refine aR ?_|(refine aD (by first|refine aN rfl (Ty.bA rfl rfl)|refine aB rfl hB rfl (Ty.aF rfl)) rfl ?_)|refine aT ?_)
 refine aO ?_
 refine aA (aC (cH (n:=r) (s:=8) (by omega) (by decide) (by simp [cA]) (hH.at 1 rfl)) rfl rfl ?_)
 rintro v w5 ⟨rfl,a5,c5,hU⟩
 replace hH:=hH.up 1 rfl hU
 clear hU
 replace hH:=aI hH
 have hB:cL _ b1 26 (SH.cells ⟨(c:Nat),(r:Nat),wt,A,Bb⟩).toArray:=hH.b 0 rfl
 repeat (first|refine aR ?_|(refine aD (by first|refine aN rfl (Ty.bA rfl rfl)|refine aB rfl hB rfl (Ty.aF rfl)) rfl ?_)|refine aT ?_)
 refine aO ?_
 refine aA (aC (iI (b:=wt) (by simp [cA]) (hH.at 1 rfl)) rfl rfl ?_)
 rintro v w6 ⟨rfl,a6,c6,hU⟩
 replace hH:=hH.up 1 rfl hU
 clear hU
 replace hH:=aI hH
 have hbl:(SH.bits ⟨(c:Nat),(r:Nat),wt,A,Bb⟩).length≤2000:=by
  have:=Hj (A++Bb)
  simp only [SH.bits,List.length_append,List.length_cons,cA]
  split
  ·rw [this,List.length_append];omega
  ·simp
 cases wt with
 | false =>
  rw [show []++nb c 8++nb r 8++[false]=SH.bits ⟨(c:Nat),(r:Nat),false,A,Bb⟩ by simp [SH.bits]] at hH
  have hB:cL _ b1 26 (SH.cells ⟨(c:Nat),(r:Nat),false,A,Bb⟩).toArray:=hH.b 0 rfl
  repeat (first|refine aR ?_|(refine aD (by first|refine aN rfl (Ty.bA rfl rfl)|refine aB rfl hB rfl (Ty.aF rfl)) rfl ?_)|refine aT ?_)
  refine aK ?_
  refine aO ?_
  refine aA (aC (lL (hH.at 1 rfl) (by omega)) rfl rfl ?_)
  rintro v w8 ⟨a8,c8,rfl,hN⟩
  replace hH:=hH.nu hN
  clear hN
  replace hH:=aI hH
  rw [show pk (SH.bits ⟨(c:Nat),(r:Nat),false,A,Bb⟩++[true])=SH.body ⟨(c:Nat),(r:Nat),false,A,Bb⟩ from rfl] at hH ⊢
  have hby:=SH.B3 ⟨(c:Nat),(r:Nat),false,A,Bb⟩
  have hbn:(SH.body ⟨(c:Nat),(r:Nat),false,A,Bb⟩).length≤131:=by rw [SH.wC ho he];split<;>decide
  have hout:SH.out ⟨(c:Nat),(r:Nat),false,A,Bb⟩=[0,0,1,176]++fB 0 (jT (SH.body ⟨(c:Nat),(r:Nat),false,A,Bb⟩)):=rfl
  rw [hout]
  clear hout
  generalize (SH.body ⟨(c:Nat),(r:Nat),false,A,Bb⟩)=bd at *
  refine aK ?_
  refine aO ?_
  refine aA (cN (out:=[.slice a8 bd.length c8]) hH (Ty.sle rfl) (Ty.bH rfl) rfl rfl rfl (by decide) rfl ?_)
  try clear hH
  intro _ b62 hH
  replace hH:=aI hH
  refine aK ?_
  refine aO ?_
  refine aA (aC (qB (hH.b 3 rfl) (hH.o 2 rfl).sl hby rfl (by omega)) rfl rfl ?_)
  rintro v w9 ⟨rfl,rfl⟩
  have hcl:=rV bd
  rw [show eX 65535 bd=oC bd from rfl]
  have hey:=BL hby
  have hen:(jT bd).length=bd.length+3:=by simp [jT]
  have hem:bd.map B++[B (oC bd / 256),B (oC bd % 256),B 128]=(jT bd).map B:=by simp [jT]
  obtain ⟨cv,hcv⟩:∃ cv,cv=oC bd:=⟨_,rfl⟩
  rw [← hcv] at hcl hem ⊢
  replace hH:=hH.take 3
  replace hH:=aI hH
  repeat (first|refine aR ?_|(refine aD (by refine (mV (m:=cv) (n:=8) rfl rfl (vK (by omega))).is (congrArg (fun n:Nat=>Value.int .u16 (n:Int)) (show cv / 2 ^ 8=cv / 256 from rfl))) rfl ?_)|refine aT ?_)
  refine aO ?_
  refine aA (cN (out:=[B (cv / 256),B (cv % 256),B 128]) hH (Ty.sle rfl) (Ty.bH rfl) rfl rfl rfl (by decide) rfl ?_)
  try clear hH
  intro _ b70 hH
  replace hH:=aI hH
  refine aK ?_
  refine aA (bZ 2 hH rfl (Ty.sle rfl) (Ty.bH rfl) rfl (Ty.gS rfl) (by decide) rfl rfl ((hH.b 3 rfl).cX) rfl (by simp) (by omega) (by simp only [maxLen];omega) rfl ?_)
  clear hH
  intro w10 a10 c10 hH
  replace hH:=hH.take 3
  replace hH:=aI hH
  rw [show bd.length+3=(jT bd).length from hen.symm,hem] at hH
  rw [show bd.length+3=(jT bd).length from hen.symm]
  refine aK ?_
  refine aO ?_
  refine aA (aC (mO) rfl rfl ?_)
  rintro v w11 ⟨b11,rfl,hN⟩
  replace hH:=(hH.nu hN).as 3 rfl (r':=Ro 5 1 (some ⟨b11,0,none⟩) 3 3 [B 0,B 0,B 1]) (fun _ h=>h) (fun h=>(h:cL _ _ _ _).own (n:=3) (sz:=1) rfl (by decide))
  clear hN
  replace hH:=aI hH
  refine aK ?_
  refine aO ?_
  refine aA (cN (out:=[B 176]) hH (Ty.sle rfl) (Ty.bH rfl) rfl rfl rfl (by decide) rfl ?_)
  try clear hH
  intro _ b73 hH
  replace hH:=aI hH
  refine aK ?_
  refine aA (bZ 3 hH rfl (Ty.sle rfl) (Ty.bH rfl) rfl (Ty.gS rfl) (by decide) rfl rfl ((hH.b 4 rfl).cX) rfl (by simp) (by omega) (by simp only [maxLen];omega) rfl ?_)
  clear hH
  intro w12 a12 c12 hH
  replace hH:=hH.take 4
  replace hH:=aI hH
  refine aK ?_
  refine aO ?_
  refine aA (aC (qV (hH.o 2 rfl).sl hey rfl (by omega)) rfl rfl ?_)
  rintro v w13 ⟨a13,c13,rfl,hN⟩
  replace hH:=hH.nu hN
  clear hN
  replace hH:=aI hH
  have hfl:=qL (jT bd) 0
  generalize fB 0 (jT bd)=es at *
  have hel:(es.map B).length=es.length*1:=by simp
  have hone:∀ u∈es.map B,u.oneCell'=true:=fun u hu=>by obtain ⟨y,_,rfl⟩:=List.mem_map.1 hu;rfl
  refine aK ?_
  refine aA (bZ 3 hH rfl (Ty.sle rfl) (Ty.bH rfl) rfl (Ty.gS rfl) (by decide) rfl rfl (hH.o 4 rfl).sl hel hone (by omega) (by simp only [maxLen];omega) rfl ?_)
  clear hH
  intro w14 a14 c14 hH
  replace hH:=aI hH
  have hol:3+1+es.length=([0,0,1,176]++es).length:=by simp;omega
  rw [hol] at hH
  rw [hol]
  refine aK ?_
  refine cR Tryz.func53 rfl ⟨a14,c14,rfl,(hH.oA 3 rfl).as (fun _ h=>h) (fun h=>?_)⟩
  simpa [gH,Ro] using h
 | true =>
  have hbx:([]++nb c 8++nb r 8++[true]).length=17:=by simp [cA]
  have hbz:[]++nb c 8++nb r 8++[true]++tb (A++Bb)=SH.bits ⟨(c:Nat),(r:Nat),true,A,Bb⟩:=by simp [SH.bits]
  generalize []++nb c 8++nb r 8++[true]=X at *
  have hB:cL w6 b1 26 (SH.cells ⟨(c:Nat),(r:Nat),true,A,Bb⟩).toArray:=hH.b 0 rfl
  have hS2:cI w6 (some ⟨b1,2,none⟩) (SH.tc ⟨(c:Nat),(r:Nat),true,A,Bb⟩):=hB.sl (fun j v hj=>by
   rw [Nat.add_comm 2 j];simpa [SH.cells] using hj)
  obtain ⟨_,hSA,hSB⟩:=H4 ho hS2
  have hAt:((A.map B).drop 0).take 64=A.map B:=by rw [List.drop_zero];exact List.take_of_length_le (by simp [hla])
  have hBt:((Bb.map B).drop 0).take 64=Bb.map B:=by rw [List.drop_zero];exact List.take_of_length_le (by simp [hlb])
  repeat (first|refine aR ?_|(refine aD (by first|refine aN rfl (Ty.bA rfl rfl)|refine aB rfl hB rfl (Ty.aF rfl)|refine bG (j:=0) rfl hSA hAt (by simp [hla]) (Ty.aF rfl)|refine bG (j:=0) rfl hSB hBt (by simp [hlb]) (Ty.aF rfl)) rfl ?_))
  refine aA (cN (out:=A.map B++Bb.map B) hH (Ty.sle rfl) (Ty.bH rfl) rfl (Pv rfl rfl (by simp [hla]) (by simp [hlb])) rfl (by decide) rfl ?_)
  try clear hH
  intro w7 b43 hH
  replace hH:=aI hH
  clear hB hS2 hSA hSB hAt hBt
  refine aK ?_
  refine aV (G:=(Nat) × (Option Addr) × (Nat)) (fun|(k,ao,co)=>2-k) 576425567931335296 (fun|(k,ao,co)=>[(45,.int .i64 k)]) (fun|(k,ao,co),w'=>k≤2∧Hp [] w w' [Rb b1 26 (SH.cells ⟨(c:Nat),(r:Nat),true,A,Bb⟩).toArray,Rw q ao co (X++tb ((A++Bb).take (64*k))),Rb b43 22 (A.map B++Bb.map B).toArray]) (0,a6,c6) ⟨rfl,trivial⟩ ⟨by omega,by rw [Nat.mul_zero,List.take_zero,show tb []=[] from rfl,List.append_nil];exact hH⟩ ?_
  rintro ⟨k,ao,co⟩ w' σ ⟨hk,hH⟩ IH
  show WS _ _ _ _ _ (bQ [(45,.int .i64 k)] _) _
  by_cases hlt:k<2
  ·obtain ⟨hpl,hpe⟩:=Gk (k:=k) hla hlb hlt
   have hS:cI w' (some ⟨b43,0,none⟩) (A.map B++Bb.map B):=(hH.b 2 rfl).cX
   have hSl:(A.map B++Bb.map B).length=2*64:=by simp [hla,hlb]
   have hpg:∀ j,j<64→((A++Bb).drop (64*k)).take 64=((A++Bb).drop (64*k)).take 64:=fun _ _=>rfl
   obtain ⟨l,hl⟩:∃ l,l=((A++Bb).drop (64*k)).take 64:=⟨_,rfl⟩
   rw [← hl] at hpl hpe
   have hll:(l.map B).length=64:=by simp [hpl]
   repeat (first|refine aR ?_|(refine aD (by first|refine gE rfl rfl hS hSl (by decide) (Ty.sle rfl) (by omega)|refine bG rfl hS hpe hll (Ty.aF rfl)) rfl ?_)|refine aT ?_)
   refine aA (aQ hH (Ty.bH rfl) rfl ?_)
   try clear hH
   intro w8 b7 hH
   replace hH:=aI hH
   refine aK ?_
   refine aA (aJ 3 hH rfl rfl rfl (by simp [hpl]) rfl (by simp) (Ty.aF rfl) ?_)
   try clear hH
   intro w9 hH
   replace hH:=aI hH
   have hB7:cL w9 b7 22 (l.map B).toArray:=hH.b 3 rfl
   repeat (first|refine aR ?_|(refine aD (by refine aE rfl hB7 (by simp [hpl]) (Ty.aF rfl)) rfl ?_)|refine aT ?_)
   refine aV (G:=(Nat) × (Option Addr) × (Nat)) (fun|(j,ai,ci)=>64-j) 287104476244869632 (fun|(j,ai,ci)=>[(50,.int .i64 j)]) (fun|(j,ai,ci),w'=>j≤64∧Hp [] w w' [Rb b1 26 (SH.cells ⟨(c:Nat),(r:Nat),true,A,Bb⟩).toArray,Rw q ai ci (X++tb ((A++Bb).take (64*k+j))),Rb b43 22 (A.map B++Bb.map B).toArray]) (0,ao,co) ⟨rfl,trivial⟩ ⟨by omega,hH.take 3⟩ ?_
   rintro ⟨j,ai,ci⟩ w' σ ⟨hj,hH⟩ IH2
   show WS _ _ _ _ _ (bQ [(50,.int .i64 j)] _) _
   by_cases hlj:j<64
   ·have hT:64*k+j<(A++Bb).length:=by rw [List.length_append];omega
    have hv:(l.map B).toArray[j]?=some (B (A++Bb)[64*k+j]):=by
     rw [List.getElem?_toArray,List.getElem?_map,hl,List.getElem?_take,if_pos hlj,List.getElem?_drop,List.getElem?_eq_getElem hT];rfl
    have hxb:(A++Bb)[64*k+j]<256:=gR.append hba hbb _ (List.getElem_mem _)
    have hnx:=JQ hT
    have htl:=Hj ((A++Bb).take (64*k+j))
    rw [List.length_take] at htl
    generalize (A++Bb)[64 * k + j]=x at *
    repeat (first|refine aR ?_|(refine aD (by refine cB rfl rfl (Ty.arr rfl) (by omega) hv) rfl ?_)|refine aT ?_)
    refine aO ?_
    refine aA (aC (cH (n:=x) (s:=8) (by omega) (by decide) (by rw [List.length_append,htl];omega) (hH.at 1 rfl)) rfl rfl ?_)
    rintro v w11 ⟨rfl,a11,c11,hU⟩
    replace hH:=hH.up 1 rfl hU
    clear hU
    replace hH:=aI hH
    rw [List.append_assoc,← hnx] at hH
    refine aK ?_
    refine IH2 (j+1,a11,c11) _ _ ?_ ?_ ?_ ?_
    ·simp only;omega
    ·exact ⟨rfl,trivial⟩
    ·exact cP
    ·exact ⟨by omega,hH⟩
   ·obtain rfl:j=64:=by omega
    refine aK ?_
    refine IH (k+1,ai,ci) _ _ ?_ ?_ ?_ ?_
    ·simp only;omega
    ·exact ⟨rfl,trivial⟩
    ·exact cP
    ·exact ⟨by omega,hH⟩
  ·obtain rfl:k=2:=by omega
   rw [List.take_of_length_le (by rw [List.length_append];omega),hbz] at hH
   replace hH:=hH.take 2
   replace hH:=aI hH
   refine aK ?_
   refine aO ?_
   refine aA (aC (lL (hH.at 1 rfl) (by omega)) rfl rfl ?_)
   rintro v w8 ⟨a8,c8,rfl,hN⟩
   replace hH:=hH.nu hN
   clear hN
   replace hH:=aI hH
   rw [show pk (SH.bits ⟨(c:Nat),(r:Nat),true,A,Bb⟩++[true])=SH.body ⟨(c:Nat),(r:Nat),true,A,Bb⟩ from rfl] at hH ⊢
   have hby:=SH.B3 ⟨(c:Nat),(r:Nat),true,A,Bb⟩
   have hbn:(SH.body ⟨(c:Nat),(r:Nat),true,A,Bb⟩).length≤131:=by rw [SH.wC ho he];split<;>decide
   have hout:SH.out ⟨(c:Nat),(r:Nat),true,A,Bb⟩=[0,0,1,176]++fB 0 (jT (SH.body ⟨(c:Nat),(r:Nat),true,A,Bb⟩)):=rfl
   rw [hout]
   clear hout
   generalize (SH.body ⟨(c:Nat),(r:Nat),true,A,Bb⟩)=bd at *
   refine aK ?_
   refine aO ?_
   refine aA (cN (out:=[.slice a8 bd.length c8]) hH (Ty.sle rfl) (Ty.bH rfl) rfl rfl rfl (by decide) rfl ?_)
   try clear hH
   intro _ b62 hH
   replace hH:=aI hH
   refine aK ?_
   refine aO ?_
   refine aA (aC (qB (hH.b 3 rfl) (hH.o 2 rfl).sl hby rfl (by omega)) rfl rfl ?_)
   rintro v w9 ⟨rfl,rfl⟩
   have hcl:=rV bd
   rw [show eX 65535 bd=oC bd from rfl]
   have hey:=BL hby
   have hen:(jT bd).length=bd.length+3:=by simp [jT]
   have hem:bd.map B++[B (oC bd / 256),B (oC bd % 256),B 128]=(jT bd).map B:=by simp [jT]
   obtain ⟨cv,hcv⟩:∃ cv,cv=oC bd:=⟨_,rfl⟩
   rw [← hcv] at hcl hem ⊢
   replace hH:=hH.take 3
   replace hH:=aI hH
   repeat (first|refine aR ?_|(refine aD (by refine (mV (m:=cv) (n:=8) rfl rfl (vK (by omega))).is (congrArg (fun n:Nat=>Value.int .u16 (n:Int)) (show cv / 2 ^ 8=cv / 256 from rfl))) rfl ?_)|refine aT ?_)
   refine aO ?_
   refine aA (cN (out:=[B (cv / 256),B (cv % 256),B 128]) hH (Ty.sle rfl) (Ty.bH rfl) rfl rfl rfl (by decide) rfl ?_)
   try clear hH
   intro _ b70 hH
   replace hH:=aI hH
   refine aK ?_
   refine aA (bZ 2 hH rfl (Ty.sle rfl) (Ty.bH rfl) rfl (Ty.gS rfl) (by decide) rfl rfl ((hH.b 3 rfl).cX) rfl (by simp) (by omega) (by simp only [maxLen];omega) rfl ?_)
   clear hH
   intro w10 a10 c10 hH
   replace hH:=hH.take 3
   replace hH:=aI hH
   rw [show bd.length+3=(jT bd).length from hen.symm,hem] at hH
   rw [show bd.length+3=(jT bd).length from hen.symm]
   refine aK ?_
   refine aO ?_
   refine aA (aC (mO) rfl rfl ?_)
   rintro v w11 ⟨b11,rfl,hN⟩
   replace hH:=(hH.nu hN).as 3 rfl (r':=Ro 5 1 (some ⟨b11,0,none⟩) 3 3 [B 0,B 0,B 1]) (fun _ h=>h) (fun h=>(h:cL _ _ _ _).own (n:=3) (sz:=1) rfl (by decide))
   clear hN
   replace hH:=aI hH
   refine aK ?_
   refine aO ?_
   refine aA (cN (out:=[B 176]) hH (Ty.sle rfl) (Ty.bH rfl) rfl rfl rfl (by decide) rfl ?_)
   try clear hH
   intro _ b73 hH
   replace hH:=aI hH
   refine aK ?_
   refine aA (bZ 3 hH rfl (Ty.sle rfl) (Ty.bH rfl) rfl (Ty.gS rfl) (by decide) rfl rfl ((hH.b 4 rfl).cX) rfl (by simp) (by omega) (by simp only [maxLen];omega) rfl ?_)
   clear hH
   intro w12 a12 c12 hH
   replace hH:=hH.take 4
   replace hH:=aI hH
   refine aK ?_
   refine aO ?_
   refine aA (aC (qV (hH.o 2 rfl).sl hey rfl (by omega)) rfl rfl ?_)
   rintro v w13 ⟨a13,c13,rfl,hN⟩
   replace hH:=hH.nu hN
   clear hN
   replace hH:=aI hH
   have hfl:=qL (jT bd) 0
   generalize fB 0 (jT bd)=es at *
   have hel:(es.map B).length=es.length*1:=by simp
   have hone:∀ u∈es.map B,u.oneCell'=true:=fun u hu=>by obtain ⟨y,_,rfl⟩:=List.mem_map.1 hu;rfl
   refine aK ?_
   refine aA (bZ 3 hH rfl (Ty.sle rfl) (Ty.bH rfl) rfl (Ty.gS rfl) (by decide) rfl rfl (hH.o 4 rfl).sl hel hone (by omega) (by simp only [maxLen];omega) rfl ?_)
   clear hH
   intro w14 a14 c14 hH
   replace hH:=aI hH
   have hol:3+1+es.length=([0,0,1,176]++es).length:=by simp;omega
   rw [hol] at hH
   rw [hol]
   refine aK ?_
   refine cR Tryz.func53 rfl ⟨a14,c14,rfl,(hH.oA 3 rfl).as (fun _ h=>h) (fun h=>?_)⟩
   simpa [gH,Ro] using h
def mx (i:Nat) (A:List Nat):List Nat:=(A.take i).map (max · 8)++A.drop i
theorem vO (i:Nat) (A:List Nat):(mx i A).length=A.length:=by
 simp only [mx,List.length_append,List.length_map,List.length_take,List.length_drop];omega
theorem He {i:Nat} {A:List Nat} (h:gR A):gR (mx i A):=by
 refine gR.append ?_ (fun x hx=>h x (List.mem_of_mem_drop hx))
 intro x hx
 obtain ⟨y,hy,rfl⟩:=List.mem_map.1 hx
 have:=h y (List.mem_of_mem_take hy);omega
theorem LC {i:Nat} {A:List Nat} (h:i<A.length):(mx i A)[i]?=some A[i]:=by
 unfold mx
 rw [List.getElem?_append_right (by simp;omega)]
 simp [Nat.min_eq_left (Nat.le_of_lt h),h]
theorem FB {i:Nat} {A:List Nat} (h:i<A.length):(mx i A).set i (max A[i] 8)=mx (i+1) A:=by
 unfold mx
 have hl:((A.take i).map (max · 8)).length=i:=by rw [List.length_map,List.length_take];omega
 rw [List.set_append_right _ _ (by omega),hl,Nat.sub_self,List.drop_eq_getElem_cons h,List.take_succ_eq_append_getElem h,List.map_append,List.append_assoc]
 rfl
theorem IT {A:List Nat} {i:Nat} (h:A.length≤i):mx i A=A.map (max · 8):=by
 unfold mx;rw [List.take_of_length_le h,List.drop_of_length_le h,List.append_nil]
theorem Bl {wt:Bool} {A Bb:List Nat} {i x:Nat} (h:i<A.length):(SH.tc ⟨0,0,wt,A,Bb⟩).toArray.setIfInBounds (0+1+i) (B x)=(SH.tc ⟨0,0,wt,A.set i x,Bb⟩).toArray:=by
 rw [List.setIfInBounds_toArray,show 0+1+i=i+1 by omega]
 simp only [SH.tc,List.set_cons_succ]
 rw [List.set_append_left _ _ (by simpa using h),List.map_set]
theorem B7 {wt:Bool} {A Bb:List Nat} {i x:Nat} (ha:A.length=64):(SH.tc ⟨0,0,wt,A,Bb⟩).toArray.setIfInBounds (0+65+i) (B x)=(SH.tc ⟨0,0,wt,A,Bb.set i x⟩).toArray:=by
 rw [List.setIfInBounds_toArray,show 0+65+i=(i+64)+1 by omega]
 simp only [SH.tc,List.set_cons_succ]
 rw [List.set_append_right _ _ (by simp [ha]),List.map_set]
 simp [ha]
set_option maxRecDepth 20000 in
set_option maxHeartbeats 4000000 in
theorem FY {h:SH} (ho:h.ok) {w:World}:aX Tryz.prog 63 #[.agg h.tc.toArray] w fun v w'=>v=.agg h.fit.tc.toArray∧Ext [] w w':=by
 refine aL (args:=[_]) Tryz.func63 rfl rfl Tryz.ntmps63 rfl ?_
 have hH:=Hp.start w
 have hla:=ho.la
 have hlb:=ho.lb
 have hba:=ho.ba
 have hbb:=ho.bb
 obtain ⟨c,r,wt,A,Bb⟩:=h
 simp only at hla hlb hba hbb
 rw [show SH.tc ⟨c,r,wt,A,Bb⟩=SH.tc ⟨0,0,wt,A,Bb⟩ from rfl]
 refine aK ?_
 refine aA (bI (cs:=(SH.tc ⟨0,0,wt,A,Bb⟩).toArray) hH rfl rfl rfl ?_)
 try clear hH
 intro w1 b1 hH
 replace hH:=aI hH
 refine aK ?_
 refine aA (aQ hH (Ty.bH rfl) rfl ?_)
 try clear hH
 intro w2 b2 hH
 replace hH:=aI hH
 have hB:cL w2 b1 24 (SH.tc ⟨0,0,wt,A,Bb⟩).toArray:=hH.b 0 rfl
 cases wt with
 | false =>
  repeat (first|refine aR ?_|(refine aD (by first|refine aN rfl (Ty.bA rfl rfl)|refine aB rfl hB rfl (Ty.aF rfl)|refine bR (cs:=SH.tc SH.zero) (Ty.bH rfl) (Ty.iJ rfl) rfl) rfl ?_)|refine aT ?_)
  refine aA (aJ 1 hH rfl rfl rfl rfl rfl (Cp SH.zero) (Ty.aF rfl) ?_)
  try clear hH
  intro w3 hH
  replace hH:=aI hH
  refine aK ?_
  exact bP Tryz.func63 rfl rfl (hH.b 1 rfl) rfl (Ty.aF rfl) ⟨rfl,hH.ext⟩
 | true =>
  repeat (first|refine aR ?_|(refine aD (by first|refine aN rfl (Ty.bA rfl rfl)|refine aB rfl hB rfl (Ty.aF rfl)) rfl ?_)|refine aT ?_)
  clear hB
  obtain ⟨z,hz⟩:∃ z:Array Value,z.size=129∧Hp [] w w2 [Rb b1 24 (SH.tc ⟨0,0,true,A,Bb⟩).toArray,Rb b2 24 z]:=⟨_,rfl,hH⟩
  clear hH
  obtain ⟨hzs,hH⟩:=hz
  refine aV (G:=(Nat)) (fun i=>64-i) 268435208 (fun i=>[(8,.int .i64 i)]) (fun i w'=>i≤64∧Hp [] w w' [Rb b1 24 (SH.tc ⟨0,0,true,mx i A,mx i Bb⟩).toArray,Rb b2 24 z]) (0) ⟨rfl,trivial⟩ ⟨by omega,hH⟩ ?_
  rintro i w' σ ⟨hi,hH⟩ IH
  show WS _ _ _ _ _ (bQ [(8,.int .i64 i)] _) _
  by_cases hlt:i<64
  ·have hmA:=vO i A
   have hmB:=vO i Bb
   have hvA:((mx i A).map B)[i]?=some (B (A[i]'(by omega))):=by rw [List.getElem?_map,LC (by omega)];rfl
   have hvB:((mx i Bb).map B)[i]?=some (B (Bb[i]'(by omega))):=by rw [List.getElem?_map,LC (by omega)];rfl
   have hnA:=FB (i:=i) (A:=A) (by omega)
   have hnB:=FB (i:=i) (A:=Bb) (by omega)
   generalize A[i]'(by omega)=xA at *
   generalize Bb[i]'(by omega)=xB at *
   refine aK ?_
   refine lJ Ty.mixed (fun u=>Ext [b1] w' u) 18 rfl ?_
   replace hH:=hH.aH (Ext.dV (S:=[]))
   have hx0:Ext [b1] w' w'.drew:=Ext.dV
   generalize w'.drew=u0 at *
   have hBt:cL u0 b1 24 (SH.tc ⟨0,0,true,mx i A,mx i Bb⟩).toArray:=hH.b 0 rfl
   have hmo:SH.ok ⟨0,0,true,mx i A,mx i Bb⟩:=⟨by simp only;omega,by simp only;omega,He hba,He hbb⟩
   obtain ⟨_,hSA,hSB⟩:=H4 hmo hBt.cX
   have htz:(SH.tc ⟨0,0,true,mx i A,mx i Bb⟩).toArray.size=129:=by rw [List.size_toArray];exact SH.eS hmo
   have htz2:(SH.tc ⟨0,0,true,mx (i+1) A,mx i Bb⟩).toArray.size=129:=by
    rw [List.size_toArray]
    simp [SH.tc,vO,hla,hlb]
   have eA:max (xA:Int) 8=((max xA 8:Nat):Int):=by omega
   have eB:max (xB:Int) 8=((max xB 8:Nat):Int):=by omega
   refine bE 0 hx0 ?_
   refine bE 1 hx0 ?_
   refine bE 2 hx0 ?_
   refine aY 3 hx0 rfl (fun w' hw'=>by refine aN rfl (Ty.bA rfl rfl)) ?_
   refine aY 4 hx0 rfl (fun w' hw'=>by refine bD rfl rfl (Ty.arr rfl) (by omega)) ?_
   refine bE 7 hx0 ?_
   refine aY 8 hx0 rfl (fun w' hw'=>by refine aN rfl (Ty.bA rfl rfl)) ?_
   refine aY 9 hx0 rfl (fun w' hw'=>by refine bD rfl rfl (Ty.arr rfl) (by omega)) ?_
   refine aY 12 hx0 rfl (fun w' hw'=>by refine aN rfl (Ty.bA rfl rfl)) ?_
   refine aY 15 hx0 rfl (fun w' hw'=>by refine aN rfl (Ty.bA rfl rfl)) ?_
   refine mX 5 10 (by kernel_rfl) rfl rfl rfl rfl ?_ ?_
   ·refine fA (aU rfl hSA hvA (Ty.aF rfl)) rfl ⟨hx0,?_⟩
    refine aY 6 hx0 rfl (fun w' hw'=>by refine (gJ rfl rfl).is (congrArg (Value.int .u8) eA)) ?_
    refine bC 10 (by kernel_rfl) rfl rfl (fA (aU rfl hSB hvB (Ty.aF rfl)) rfl ⟨hx0,?_⟩)
    refine aY 11 hx0 rfl (fun w' hw'=>by refine (gJ rfl rfl).is (congrArg (Value.int .u8) eB)) ?_
    refine aY 13 hx0 rfl (fun w' hw'=>by refine bD rfl rfl (Ty.arr rfl) (by omega)) ?_
    refine bC 14 (by kernel_rfl) rfl rfl (gC (v:=B (max xA 8)) rfl rfl hBt (by rw [htz];simp;omega) rfl (Ty.aF rfl) ?_)
    intro u1 hE1 hB1 _
    have hB1':cL u1 b1 24 ((SH.tc ⟨0,0,true,mx i A,mx i Bb⟩).toArray.setIfInBounds (0+1+i) (B (max xA 8))):=hB1
    rw [Bl (by omega),hnA] at hB1'
    clear hB1
    replace hH:=hH.up 0 rfl (r':=Rb b1 24 _) ⟨hE1,hB1',fun _ hx=>.inl hx⟩
    replace hH:=aI hH
    have hx1:=hx0.iS hE1
    refine ⟨hx1,?_⟩
    refine aY 16 hx1 rfl (fun w' hw'=>by refine bD rfl rfl (Ty.arr rfl) (by omega)) ?_
    refine bC 17 (by kernel_rfl) rfl rfl (gC (v:=B (max xB 8)) rfl rfl hB1' (by rw [htz2];simp;omega) rfl (Ty.aF rfl) ?_)
    intro u2 hE2 hB2 _
    have hB2':cL u2 b1 24 ((SH.tc ⟨0,0,true,mx (i+1) A,mx i Bb⟩).toArray.setIfInBounds (0+65+i) (B (max xB 8))):=hB2
    rw [B7 (by rw [vO];exact hla),hnB] at hB2'
    clear hB2
    replace hH:=hH.up 0 rfl (r':=Rb b1 24 _) ⟨hE2,hB2',fun _ hx=>.inl hx⟩
    replace hH:=aI hH
    refine ⟨hx1.iS hE2,?_⟩
    refine aW (by kernel_rfl) ?_
    refine aK ?_
    refine IH (i+1) _ _ ?_ ?_ ?_ ?_
    ·omega
    ·exact ⟨rfl,trivial⟩
    ·exact cP
    ·exact ⟨by omega,hH⟩
   ·refine fA (aU rfl hSB hvB (Ty.aF rfl)) rfl ⟨hx0,?_⟩
    refine aY 11 hx0 rfl (fun w' hw'=>by refine (gJ rfl rfl).is (congrArg (Value.int .u8) eB)) ?_
    refine bC 5 (by kernel_rfl) rfl rfl (fA (aU rfl hSA hvA (Ty.aF rfl)) rfl ⟨hx0,?_⟩)
    refine aY 6 hx0 rfl (fun w' hw'=>by refine (gJ rfl rfl).is (congrArg (Value.int .u8) eA)) ?_
    refine aY 13 hx0 rfl (fun w' hw'=>by refine bD rfl rfl (Ty.arr rfl) (by omega)) ?_
    refine bC 14 (by kernel_rfl) rfl rfl (gC (v:=B (max xA 8)) rfl rfl hBt (by rw [htz];simp;omega) rfl (Ty.aF rfl) ?_)
    intro u1 hE1 hB1 _
    have hB1':cL u1 b1 24 ((SH.tc ⟨0,0,true,mx i A,mx i Bb⟩).toArray.setIfInBounds (0+1+i) (B (max xA 8))):=hB1
    rw [Bl (by omega),hnA] at hB1'
    clear hB1
    replace hH:=hH.up 0 rfl (r':=Rb b1 24 _) ⟨hE1,hB1',fun _ hx=>.inl hx⟩
    replace hH:=aI hH
    have hx1:=hx0.iS hE1
    refine ⟨hx1,?_⟩
    refine aY 16 hx1 rfl (fun w' hw'=>by refine bD rfl rfl (Ty.arr rfl) (by omega)) ?_
    refine bC 17 (by kernel_rfl) rfl rfl (gC (v:=B (max xB 8)) rfl rfl hB1' (by rw [htz2];simp;omega) rfl (Ty.aF rfl) ?_)
    intro u2 hE2 hB2 _
    have hB2':cL u2 b1 24 ((SH.tc ⟨0,0,true,mx (i+1) A,mx i Bb⟩).toArray.setIfInBounds (0+65+i) (B (max xB 8))):=hB2
    rw [B7 (by rw [vO];exact hla),hnB] at hB2'
    clear hB2
    replace hH:=hH.up 0 rfl (r':=Rb b1 24 _) ⟨hE2,hB2',fun _ hx=>.inl hx⟩
    replace hH:=aI hH
    refine ⟨hx1.iS hE2,?_⟩
    refine aW (by kernel_rfl) ?_
    refine aK ?_
    refine IH (i+1) _ _ ?_ ?_ ?_ ?_
    ·omega
    ·exact ⟨rfl,trivial⟩
    ·exact cP
    ·exact ⟨by omega,hH⟩
  ·obtain rfl:i=64:=by omega
   clear IH
   rw [IT (by omega),IT (by omega)] at hH
   have hft:SH.tc ⟨0,0,true,A.map (max · 8),Bb.map (max · 8)⟩=(SH.fit ⟨c,r,true,A,Bb⟩).tc:=by simp [SH.tc,SH.fit]
   rw [hft] at hH
   have hfl:(SH.fit ⟨c,r,true,A,Bb⟩).tc.toArray.size=129:=by rw [List.size_toArray];exact SH.eS (SH.AG ho)
   have hBt:cL w' b1 24 (SH.fit ⟨c,r,true,A,Bb⟩).tc.toArray:=hH.b 0 rfl
   repeat (first|refine aR ?_|(refine aD (by refine aE rfl hBt hfl (Ty.aF rfl)) rfl ?_)|refine aT ?_)
   refine aA (aJ 1 hH rfl rfl rfl hfl hzs (Cp _) (Ty.aF rfl) ?_)
   try clear hH
   intro w3 hH
   replace hH:=aI hH
   refine aK ?_
   exact bP Tryz.func63 rfl rfl (hH.b 1 rfl) hfl (Ty.aF rfl) ⟨rfl,hH.ext⟩
theorem PN {zs tc:List Value} {a b:Int} (hz:zs.length=131) (ht:tc.length=129):dU (fun i=>([(0,1),(1,1),(2,129)]:List (Nat × Nat))[i]?) zs [(0,.int .i64 a),(1,.int .i64 b),(2,.agg tc.toArray)]=some (.int .i64 a::.int .i64 b::tc):=by
 match zs,hz with
 | x::y::zs,hz =>
  have hz':zs.length=129:=by simpa using hz
  simp [dU,gG,Value.cells,hz',ht]
  rw [List.drop_of_length_le (by omega),List.append_nil]
  rfl
set_option maxRecDepth 20000 in
set_option maxHeartbeats 4000000 in
theorem Fh {h:SH} (ho:h.ok) {w:World}:aX Tryz.prog 33 #[.agg h.cells.toArray] w fun v w'=>v=.agg h.fit.cells.toArray∧Ext [] w w':=by
 refine aL (args:=[_]) Tryz.func33 rfl rfl Tryz.ntmps33 rfl ?_
 have hH:=Hp.start w
 refine aK ?_
 refine aA (bI (cs:=h.cells.toArray) hH rfl rfl rfl ?_)
 try clear hH
 intro w1 b1 hH
 replace hH:=aI hH
 refine aK ?_
 refine aA (aQ hH (Ty.bH rfl) rfl ?_)
 try clear hH
 intro w2 b2 hH
 replace hH:=aI hH
 have hB:cL w2 b1 26 h.cells.toArray:=hH.b 0 rfl
 have hS:cI w2 (some ⟨b1,0,none⟩) h.cells:=hB.cX
 have htc:=Bo ho
 have htl:=SH.eS ho
 have hfl:=SH.eS (SH.AG ho)
 have hfc:h.fit.cells.toArray.size=131:=by rw [List.size_toArray];exact SH.bK (SH.AG ho)
 have e1:h.c % ((2 ^ 3:Nat):Int)=h.c % 8:=rfl
 have e2:h.r % ((2 ^ 3:Nat):Int)=h.r % 8:=rfl
 refine aK ?_
 refine nK 12 rfl (by kernel_rfl) (by kernel_rfl) [Is (.pointer (some ⟨b1,0+0,none⟩)),Is (.int .i64 h.c),Is (.int .i64 (h.c % 8)),Is (.int .i64 (1+h.c % 8)),Is (.pointer (some ⟨b1,0+1,none⟩)),Is (.int .i64 h.r),Is (.int .i64 (h.r % 8)),Is (.int .i64 (1+h.r % 8)),Is (.pointer (some ⟨b1,0+2,none⟩)),Is (.agg h.tc.toArray),Is (.agg h.fit.tc.toArray),Is (.agg h.fit.cells.toArray)] Ty.mixed [(32736,[],true),(32712,[(0,3)],true),(32664,[(1,4)],true),(16312,[(2,5)],true),(32376,[],true),(31992,[(4,7)],true),(31224,[(5,8)],true),(15352,[(6,9)],true),(26616,[],true),(20472,[(8,11)],true),(8184,[(9,12)],true),(16376,[(3,6),(7,10),(10,13)],true)] 32760 [(11,14)] (by kernel_rfl) (by kernel_rfl) (by kernel_rfl) (by kernel_rfl) (by kernel_rfl) ⟨Is.st,Is.st,Is.st,Is.st,Is.st,Is.st,Is.st,Is.st,Is.st,Is.st,Is.st,Is.st,trivial⟩ ⟨⟨cC.none,?_⟩,⟨cC.none,?_⟩,⟨cC.none,?_⟩,⟨cC.none,?_⟩,⟨cC.none,?_⟩,⟨cC.none,?_⟩,⟨cC.none,?_⟩,⟨cC.none,?_⟩,⟨cC.none,?_⟩,⟨cC.none,?_⟩,⟨cC.none,?_⟩,⟨cC.none,?_⟩,trivial⟩ ?_
 ·intro w'' hE''
  intro σ''
  exact Au
 ·intro w'' hE''
  rintro _ rfl
  intro σ''
  exact xM
 ·intro w'' hE''
  rintro _ rfl
  intro σ''
  exact bJ (by refine (kR (i:=h.c) (k:=3) rfl rfl (by decide)).is (congrArg (Value.int .i64) e1)) rfl
 ·intro w'' hE''
  rintro _ rfl
  intro σ''
  exact xR
 ·intro w'' hE''
  intro σ''
  exact Au
 ·intro w'' hE''
  rintro _ rfl
  intro σ''
  exact xM
 ·intro w'' hE''
  rintro _ rfl
  intro σ''
  exact bJ (by refine (kR (i:=h.r) (k:=3) rfl rfl (by decide)).is (congrArg (Value.int .i64) e2)) rfl
 ·intro w'' hE''
  rintro _ rfl
  intro σ''
  exact xR
 ·intro w'' hE''
  intro σ''
  exact Au
 ·intro w'' hE''
  rintro _ rfl
  intro σ''
  exact bJ (by refine bG (j:=2) rfl (hS.aH hE'') htc htl (Ty.aF rfl)) rfl
 ·intro w'' hE''
  rintro _ rfl
  intro σ''
  refine aC (FY ho) rfl rfl ?_
  rintro v w3'' ⟨rfl,hE3⟩
  exact ⟨hE3,_,rfl,rfl⟩
 ·intro w'' hE''
  rintro _ rfl
  rintro _ rfl
  rintro _ rfl
  intro σ''
  exact bJ (by refine bR (cs:=h.fit.cells) (Ty.bH rfl) (Ty.iJ rfl) (PN rfl hfl)) rfl
 intro w'' hE''
 rintro _ rfl
 intro σ''
 replace hH:=hH.aH hE''
 refine aA (aJ 1 hH rfl rfl rfl hfc rfl (cells_one h.fit) (Ty.aF rfl) ?_)
 try clear hH
 intro w6 hH
 replace hH:=aI hH
 refine aK ?_
 exact bP Tryz.func33 rfl rfl (hH.b 1 rfl) hfc (Ty.aF rfl) ⟨rfl,hH.ext⟩
def SH.one:SH:=⟨1,1,false,List.replicate 64 0,List.replicate 64 0⟩
theorem OW:Ev Tryz.prog 213=true:=by kernel_rfl
abbrev CV (x y:Int):Value:=.complex .f64 (FN x) (FN y)
theorem vG {b:Nat} {w:World}:aX Tryz.prog 121 #[.float .f64 b] w fun v w'=>v=.int .i64 (whole b)∧w'=w:=by
 refine aL (args:=[_]) Tryz.func121 rfl rfl Tryz.ntmps121 rfl ?_
 rcases fl b with ⟨h,hw⟩|⟨h,h1,hw⟩|⟨h,o,h1,h2,hw⟩|⟨h,o,o',h1,ho,h2,ho',ht,he,he'⟩
 ·rw [hw]
  repeat (first|refine aR ?_|(refine aD (by refine uJ h rfl rfl) rfl ?_)|refine aT ?_)
  exact aM Tryz.func121 rfl ⟨rfl,rfl⟩
 ·rw [hw]
  repeat (first|refine aR ?_|(refine aD (by first|refine uJ h rfl rfl|refine Ap h1 rfl rfl) rfl ?_)|refine aT ?_)
  exact aM Tryz.func121 rfl ⟨rfl,rfl⟩
 ·rw [hw]
  repeat (first|refine aR ?_|(refine aD (by first|refine uJ h rfl rfl|refine Ap h1 rfl rfl|refine EG h2 rfl rfl) rfl ?_)|refine aT ?_)
  exact aM Tryz.func121 rfl ⟨rfl,rfl⟩
 ·have hb:=bU b
  repeat (first|refine aR ?_|(refine aD (by first|refine uJ h rfl rfl|refine (Ap h1 rfl rfl).is (Mp ho)|refine (EG h2 rfl rfl).is (not_lt ho')|refine lA rfl (Ty.AP rfl) (Ty.Co rfl) ht (by omega)) rfl ?_)|refine aT ?_)
  exact aM Tryz.func121 rfl ⟨rfl,rfl⟩
theorem dK {a b:Nat} {w:World}:aX Tryz.prog 80 #[.complex .f64 a b] w fun v w'=>v=.tuple #[.int .i64 (whole a),.int .i64 (whole b)]∧w'=w:=by
 refine aL (args:=[_]) Tryz.func80 rfl rfl Tryz.ntmps80 rfl ?_
 repeat (first|refine aR ?_|(refine aD (by refine DL rfl) rfl ?_)|refine aT ?_)
 refine aO ?_
 refine aA (aC (vG) rfl rfl ?_)
 rintro v w1 ⟨rfl,rfl⟩
 repeat (first|(refine aD (by refine DX rfl) rfl ?_)|refine aT ?_)
 refine aO ?_
 refine aA (aC (vG) rfl rfl ?_)
 rintro v w1 ⟨rfl,rfl⟩
 refine aK ?_
 exact cR Tryz.func80 rfl ⟨rfl,rfl⟩
theorem nG {x y:Int} {w:World}:aX Tryz.prog 115 #[.int .i64 x,.int .i64 y] w fun v w'=>v=CV x y∧w'=w:=by
 refine aL (args:=[_,_]) Tryz.func115 rfl rfl Tryz.ntmps115 rfl ?_
 repeat (first|refine aR ?_|(refine aD (by first|refine kX rfl (Ty.AP rfl) OW|refine rT rfl rfl) rfl ?_)|refine aT ?_)
 exact aM Tryz.func115 rfl ⟨rfl,rfl⟩
set_option maxHeartbeats 1000000 in
theorem pH {a b:Nat} {w:World}:aX Tryz.prog 159 #[.complex .f64 a b] w fun v w'=>v=.bool (Kz a b)∧w'=w:=by
 refine aL (args:=[_]) Tryz.func159 rfl rfl Tryz.ntmps159 rfl ?_
 have ha:=bU a
 have hb:=bU b
 refine aK ?_
 refine aO ?_
 refine aA (aC (dK) rfl rfl ?_)
 rintro v w1 ⟨rfl,rfl⟩
 refine aK ?_
 refine aO ?_
 refine aA (aC (nG) rfl rfl ?_)
 rintro v w1 ⟨rfl,rfl⟩
 unfold Kz
 generalize whole a=p at *
 generalize whole b=q at *
 cases he:(uM (FN p) a && uM (FN q) b) with
 | false =>
  repeat (first|refine aR ?_|(refine aD (by refine (vL rfl rfl).is (congrArg Value.bool he)) rfl ?_)|refine aT ?_)
  exact aM Tryz.func159 rfl ⟨rfl,rfl⟩
 | true =>
  by_cases hp:-31≤p∧p≤31
  ·repeat (first|refine aR ?_|(refine aD (by first|refine (vL rfl rfl).is (congrArg Value.bool he)|refine kH rfl (by omega)) rfl ?_)|refine aT ?_)
   exact aM Tryz.func159 rfl ⟨by rw [Bool.true_and,decide_eq_true hp,Bool.true_and];exact congrArg Value.bool (by rw [decide_eq_decide];omega),rfl⟩
  ·repeat (first|refine aR ?_|(refine aD (by first|refine (vL rfl rfl).is (congrArg Value.bool he)|refine kH rfl (by omega)) rfl ?_)|refine aT ?_)
   exact aM Tryz.func159 rfl ⟨by rw [decide_eq_false hp,Bool.false_and,Bool.and_false];rfl,rfl⟩
def Ib (a b c:Int):Int:=max (min a b) (min (max a b) c)
theorem Ce {a b c:Int} {w:World}:aX Tryz.prog 202 #[.int .i64 a,.int .i64 b,.int .i64 c] w fun v w'=>v=.int .i64 (Ib a b c)∧w'=w:=by
 refine aL (args:=[_,_,_]) Tryz.func202 rfl rfl Tryz.ntmps202 rfl ?_
 refine aK ?_
 exact aM Tryz.func202 rfl ⟨rfl,rfl⟩
set_option maxHeartbeats 1000000 in
theorem BZ {a b c d e f:Nat} {w:World}:aX Tryz.prog 170 #[.complex .f64 a b,.complex .f64 c d,.complex .f64 e f] w fun v w'=>v=CV (Ib (whole a) (whole c) (whole e)) (Ib (whole b) (whole d) (whole f))∧w'=w:=by
 refine aL (args:=[_,_,_]) Tryz.func170 rfl rfl Tryz.ntmps170 rfl ?_
 refine aK ?_
 refine aO ?_
 refine aA (aC (dK) rfl rfl ?_)
 rintro v w1 ⟨rfl,rfl⟩
 refine aK ?_
 refine aO ?_
 refine aA (aC (dK) rfl rfl ?_)
 rintro v w1 ⟨rfl,rfl⟩
 refine aK ?_
 refine aO ?_
 refine aA (aC (dK) rfl rfl ?_)
 rintro v w1 ⟨rfl,rfl⟩
 refine aK ?_
 refine aO ?_
 refine aA (aC (Ce) rfl rfl ?_)
 rintro v w1 ⟨rfl,rfl⟩
 refine aK ?_
 refine aO ?_
 refine aA (aC (Ce) rfl rfl ?_)
 rintro v w1 ⟨rfl,rfl⟩
 refine aK ?_
 refine aO ?_
 refine aA (aC (nG) rfl rfl ?_)
 rintro v w1 ⟨rfl,rfl⟩
 refine aK ?_
 exact aM Tryz.func170 rfl ⟨rfl,rfl⟩
def iW (n:Int):Int:=(n+32) % 64-32
theorem kU (n:Int):-32≤iW n∧iW n≤31:=by unfold iW;omega
theorem vR {n:Int} {w:World} (hn:-1000000≤n∧n≤1000000):aX Tryz.prog 167 #[.int .i64 n] w fun v w'=>v=.int .i64 (iW n)∧w'=w:=by
 refine aL (args:=[_]) Tryz.func167 rfl rfl Tryz.ntmps167 rfl ?_
 have e1:(n+32) % ((2 ^ 6:Nat):Int)=(n+32) % 64:=rfl
 have e2:((n+32) % 64+64) % ((2 ^ 6:Nat):Int)=(n+32) % 64:=by
  show ((n+32) % 64+64) % 64=_
  omega
 repeat (first|refine aR ?_|(refine aD (by first|refine (kR (i:=n+32) (k:=6) rfl rfl (by decide)).is (congrArg (Value.int .i64) e1)|refine (kR (i:=(n+32) % 64+64) (k:=6) rfl rfl (by decide)).is (congrArg (Value.int .i64) e2)) rfl ?_)|refine aT ?_)
 exact aM Tryz.func167 rfl ⟨rfl,rfl⟩
theorem rR {n:Int} (h:-32≤n∧n≤31):∃ s:Nat,Cr n=s∧QY s=n∧s≤64:=by
 obtain ⟨s,h1,h2,h3⟩:=Km n
 exact ⟨s,h1,h2,by omega⟩
def Dy (n:Int):List Bool:=rv (Cr n).toNat
theorem Dk {n:Int} {s:Nat} (h:Cr n=s):Dy n=rv s:=by unfold Dy;rw [h];rfl
theorem qN {n:Int} (h:-32≤n∧n≤31):(Dy n).length≤25:=by
 obtain ⟨s,h1,_,h3⟩:=rR h
 rw [Dk h1]
 have h1:=DA s
 have h2:=nV (x:=s+1) (m:=13) (by omega)
 omega
set_option maxHeartbeats 2000000 in
theorem yO {p c re im e1 e2:Nat} {a:Option Addr} {bs:List Bool} {w:World} (h:Kz re im=true) (hbl:bs.length≤900000000) (hR:(Rw p a c bs).holds w) :
  aX Tryz.prog 126 #[pt p,.complex .f64 re im,.complex .f64 e1 e2] w fun v w'=>v=.bool true∧∃ a' c',jA (Rw p a c bs) (Rw p a' c' (bs++(Dy (iW (whole re-whole e1))++Dy (iW (whole im-whole e2))))) w w':=by
 refine aL (args:=[_,_,_]) Tryz.func126 rfl rfl Tryz.ntmps126 rfl ?_
 have g1:=bU re
 have g2:=bU im
 have g3:=bU e1
 have g4:=bU e2
 repeat (first|refine aR ?_|(refine aD (by refine gF rfl rfl (.inr rfl) CY) rfl ?_)|refine aT ?_)
 refine aO ?_
 refine aA (aC (pH) rfl rfl ?_)
 rintro v w1 ⟨rfl,rfl⟩
 rw [h]
 refine aK ?_
 refine aO ?_
 refine aA (aC (dK) rfl rfl ?_)
 rintro v w1 ⟨rfl,rfl⟩
 refine aK ?_
 refine aO ?_
 refine aA (aC (dK) rfl rfl ?_)
 rintro v w1 ⟨rfl,rfl⟩
 refine aK ?_
 refine aO ?_
 refine aA (aC (vR (by omega)) rfl rfl ?_)
 rintro v w1 ⟨rfl,rfl⟩
 have hz1:=kU (whole re-whole e1)
 have hz2:=kU (whole im-whole e2)
 have hl1:=qN hz1
 obtain ⟨s1,hs1,_,hb1⟩:=rR hz1
 obtain ⟨s2,hs2,_,hb2⟩:=rR hz2
 rw [Dk hs1] at hl1 ⊢
 rw [Dk hs2]
 refine aK ?_
 refine aO ?_
 refine aA (aC (kL (by omega)) rfl rfl ?_)
 rintro v w1 ⟨rfl,rfl⟩
 rw [hs1]
 refine aK ?_
 refine aO ?_
 refine aA (aC (jJ (n:=s1) (by omega) (by omega) hR) rfl rfl ?_)
 rintro v w2 ⟨rfl,a2,c2,hU⟩
 refine aK ?_
 refine aO ?_
 refine aA (aC (vR (by omega)) rfl rfl ?_)
 rintro v w3 ⟨rfl,rfl⟩
 refine aK ?_
 refine aO ?_
 refine aA (aC (kL (by omega)) rfl rfl ?_)
 rintro v w3 ⟨rfl,rfl⟩
 rw [hs2]
 refine aK ?_
 refine aO ?_
 refine aA (aC (jJ (n:=s2) (by omega) (by simp;omega) hU.holds) rfl rfl ?_)
 rintro v w4 ⟨rfl,a4,c4,hU4⟩
 rw [List.append_assoc] at hU4
 refine aK ?_
 exact aM Tryz.func126 rfl ⟨rfl,a4,c4,hU.trans hU4⟩
def CT:List Int:=[-2,-1,1,2]
abbrev Iv (n:Int):Value:=.int .i64 n
theorem C1 (w:World):aX Tryz.prog 158 #[] w fun v w'=>v=.agg (CT.map Iv).toArray∧Ext [] w w':=by
 refine aL (args:=[]) Tryz.func158 rfl rfl Tryz.ntmps158 rfl ?_
 have hH:=Hp.start w
 refine aK ?_
 refine aA (aQ hH (Ty.bH rfl) rfl ?_)
 try clear hH
 intro w1 b hH
 replace hH:=aI hH
 repeat (first|refine aR ?_|(refine aD (by refine dC (cs:=CT.map Iv) (Ty.bH rfl) (Ty.arr rfl) rfl) rfl ?_))
 refine aA (aJ 0 hH rfl rfl rfl rfl rfl (by intro v hv;simp [CT] at hv;rcases hv with rfl|rfl|rfl|rfl<;>rfl) (Ty.aF rfl) ?_)
 try clear hH
 intro w2 hH
 replace hH:=aI hH
 refine aK ?_
 exact bP Tryz.func158 rfl rfl (hH.b 0 rfl) rfl (Ty.aF rfl) ⟨rfl,hH.ext⟩
theorem N4 {i:Nat} (h:i<4):∃ d,CT[i]?=some d∧(CT.map Iv).toArray[i]?=some (Iv d)∧(d=-2∨d=-1∨d=1∨d=2):=by
 rcases (show i=0∨i=1∨i=2∨i=3 by omega) with rfl|rfl|rfl|rfl
 ·exact ⟨-2,rfl,rfl,by omega⟩
 ·exact ⟨-1,rfl,rfl,by omega⟩
 ·exact ⟨1,rfl,rfl,by omega⟩
 ·exact ⟨2,rfl,rfl,by omega⟩
def Q2 (p q:Int) (v:Value):Prop :=
 (∃ i:Nat,i<4∧CT[i]?=some (q-p)∧(1≤q∧q≤31)∧v=.tuple #[.int .i64 i,.bool true])∨((∀ (i:Nat) (d:Int),CT[i]?=some d→¬ (p+d=q∧1≤q∧q≤31))∧v=.tuple #[.int .i64 0,.bool false])
theorem OY {i:Nat} {d:Int} (h:CT[i]?=some d):i<4:=(List.getElem?_eq_some_iff.1 h).1
set_option maxHeartbeats 1000000 in
theorem jI {p q:Int} {w:World} (hp:-1000≤p∧p≤1000):aX Tryz.prog 116 #[.int .i64 p,.int .i64 q] w fun v w'=>Q2 p q v∧Ext [] w w':=by
 refine aL (args:=[_,_]) Tryz.func116 rfl rfl Tryz.ntmps116 rfl ?_
 refine aK ?_
 refine aO ?_
 refine aA (aC (C1 w) rfl rfl ?_)
 rintro v w1 ⟨rfl,hE⟩
 refine aK ?_
 refine aV (G:=(Nat)) (fun i=>4-i) 268435184 (fun i=>[(9,.int .i64 i)]) (fun i w'=>i≤4∧(∀ (j:Nat) (d:Int),j<i→CT[j]?=some d→¬ (p+d=q∧1≤q∧q≤31))∧w'=w1) (0) ⟨rfl,trivial⟩ ⟨by omega,fun j d h=>by omega,rfl⟩ ?_
 rintro i w' σ ⟨hi,hno,hw⟩ IH
 show WS _ _ _ _ _ (bQ [(9,.int .i64 i)] _) _
 subst hw
 by_cases hlt:i<4
 ·obtain ⟨d,hd,hv,hdd⟩:=N4 hlt
  have hnx:¬ (p+d=q∧1≤q∧q≤31)→∀ j e,j<i+1→CT[j]?=some e→¬ (p+e=q∧1≤q∧q≤31):=fun h j e hj he=>by
   rcases Nat.lt_or_ge j i with h1|h1
   ·exact hno j e h1 he
   ·obtain rfl:j=i:=by omega
    rw [hd] at he;cases he;exact h
  by_cases k1:p+d=q
  ·by_cases k2:1≤q
   ·by_cases k3:q≤31
    ·repeat (first|refine aR ?_|(refine aD (by refine cB rfl rfl (Ty.arr rfl) (by omega) hv) rfl ?_)|refine aT ?_)
     exact cR Tryz.func116 rfl ⟨.inl ⟨i,hlt,by rw [hd];congr 1;omega,⟨k2,k3⟩,rfl⟩,hE⟩
    ·repeat (first|refine aR ?_|(refine aD (by refine cB rfl rfl (Ty.arr rfl) (by omega) hv) rfl ?_)|refine aT ?_)
     refine IH (i+1) _ _ ?_ ?_ ?_ ?_
     ·omega
     ·exact ⟨rfl,trivial⟩
     ·exact cP
     ·exact ⟨by omega,hnx (by omega),rfl⟩
   ·repeat (first|refine aR ?_|(refine aD (by refine cB rfl rfl (Ty.arr rfl) (by omega) hv) rfl ?_)|refine aT ?_)
    refine IH (i+1) _ _ ?_ ?_ ?_ ?_
    ·omega
    ·exact ⟨rfl,trivial⟩
    ·exact cP
    ·exact ⟨by omega,hnx (by omega),rfl⟩
  ·repeat (first|refine aR ?_|(refine aD (by refine cB rfl rfl (Ty.arr rfl) (by omega) hv) rfl ?_)|refine aT ?_)
   refine IH (i+1) _ _ ?_ ?_ ?_ ?_
   ·omega
   ·exact ⟨rfl,trivial⟩
   ·exact cP
   ·exact ⟨by omega,hnx (by omega),rfl⟩
 ·refine aK ?_
  exact cR Tryz.func116 rfl ⟨.inr ⟨fun j d hj=>hno j d (by have:=OY hj;omega) hj,rfl⟩,hE⟩
theorem Px:(!(uM 0 0 && uM 0 0))=false:=by decide +kernel
end Go.Proofs.YtdbnmbkjmeepkaaGreatDoor
