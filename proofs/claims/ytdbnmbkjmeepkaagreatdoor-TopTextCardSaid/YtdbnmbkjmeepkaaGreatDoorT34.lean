/- A part of the proof of the card of TopText; no condition. -/
import Derived.Test.YtdbnmbkjmeepkaaGreatDoorT33
namespace Go.Proofs.YtdbnmbkjmeepkaaGreatDoor
open Go Go.K Go.P Go.RowKit Go.Proofs
theorem mK {P:Program} {N:Nat} {ρ:Fr} {w:World} {K:Fr→World→Prop} {S:List Nat} {W:World} {H:List cK} {p:P2} {n o x:Nat} {xo y:Operand} {t ty:TypeId} {pos:String} {af:Array Edge} {gd:Option (Nat × Bool)} (i:Nat) (hH:Hp S W w H) (hi:H[i]?=some (RV p n)) (hx:ev ρ xo=.pointer (some (At p.1 o))) (hy:ev ρ y=.int .u8 x) (hx8:x<256) (ho:o<n) (ht:aF P t=some (false,1))
  (hk:∀ w',Hp S W w' H→K ρ w'):kC P N ρ ⟨none,.store t xo y,ty,pos,af,gd⟩ w K:=by
 obtain ⟨Z,hl,hb,hR⟩:=hH.at i hi
 refine vX hx hy hR (by rw [Nat.mul_one,hl];exact ho) rfl ht (fun w' hE hO _=>hk w' (Hp.same i hH hi ⟨hE,⟨Z.set o x,by rw [List.length_set,hl],fun c hc=>?_,?_⟩,fun _ hx=>.inl hx⟩))
 ·rcases List.mem_or_eq_of_mem_set hc with h|rfl
  ·exact hb c h
  ·exact hx8
 ·show Own _ _ _ _ (Z.set o x).length _ _
  rw [List.length_set,List.map_set]
  exact hO
set_option maxHeartbeats 4000000 in
theorem tP {c r s mo:Nat} {y u v:P2} {w:World} (hc:c≤8) (hr:r≤8) (hs:s<4294967296) (hmo:mo≤255) (hS:Sep (uG c r y u v) w) :
  aX Tryz.prog 37 #[.agg (jH c r y u v).cells.toArray,.int .u32 s,.int .i64 mo] w fun x w'=>x=.tuple #[]∧Hp (eY (uG c r y u v)) w w' (uG c r y u v):=by
 refine aL (args:=[_,_,_]) Tryz.func37 rfl rfl Tryz.ntmps37 rfl ?_
 have hH:=Hp.fQ hS
 have hm1:max (mo:Int) 0=mo:=by omega
 have hm2:min (mo:Int) 255=mo:=by omega
 refine aK ?_
 refine aO ?_
 refine aA (bI (cs:=(jH c r y u v).cells.toArray) hH rfl rfl rfl ?_)
 try clear hH
 intro _ b3 hH
 replace hH:=aI hH
 have hB3:=hH.b 3 rfl
 repeat (first|refine aR ?_|(refine aD (by first|refine (gJ rfl rfl).is (congrArg (Value.int .i64) hm1)|refine (eK rfl rfl).is (congrArg (Value.int .i64) hm2)|refine aE rfl hB3 rfl (Ty.aF rfl)) rfl ?_)|refine aT ?_)
 clear hB3
 refine aO ?_
 refine aA (aC (lP) rfl rfl ?_)
 rintro _ _ ⟨rfl,hE0⟩
 replace hH:=hH.aH hE0
 clear hE0
 replace hH:=aI hH
 refine aK ?_
 refine aV (G:=(Nat) × (Nat)) (fun|(k,s)=>3-k) 1125899906810754 (fun|(k,s)=>[(1,.int .u32 s),(15,.int .i64 k)]) (fun|(k,s),w'=>k≤3∧s<4294967296∧Hp (eY (uG c r y u v)) w w' (uG c r y u v++[Rb b3 54 (jH c r y u v).cells.toArray])) (0,s) ⟨rfl,rfl,trivial⟩ ⟨by omega,hs,hH⟩ ?_
 rintro ⟨k,s⟩ w' σ ⟨hk,hs,hH⟩ IH
 show WS _ _ _ _ _ (bQ [(1,.int .u32 s),(15,.int .i64 k)] _) _
 by_cases hk3:k<3
 ·have hat:=DQ (c:=c) (r:=r) (y:=y) (u:=u) (v:=v) (H:=[Rb b3 54 (jH c r y u v).cells.toArray]) k hk3
  have hex:=Gi (c:=c) (r:=r) (y:=y) (u:=u) (v:=v) k hk3
  obtain ⟨p,hp⟩:∃ p,PS y u v k=p:=⟨_,rfl⟩
  obtain ⟨m,hm⟩:∃ m,Cm k*c=m:=⟨_,rfl⟩
  obtain ⟨n,hn⟩:∃ n,Cm k*r=n:=⟨_,rfl⟩
  have hmb:m≤128:=hm▸EH hc
  have hnb:n≤128:=hn▸EH hr
  have hmn:m*n≤16384:=Nat.mul_le_mul hmb hnb
  rw [hp,hm,hn] at hat hex
  repeat (first|refine aR ?_|(refine aD (by refine (gY rfl rfl (Ty.arr rfl) (by omega)).is (congrArg Value.agg hex)) rfl ?_)|refine aT ?_)
  refine aO ?_
  refine aA (aQ hH (Ty.bH rfl) rfl ?_)
  try clear hH
  intro _ b7 hH
  replace hH:=aI hH
  refine aK ?_
  refine aO ?_
  refine aA (aJ 4 (vs:=(mI.cells m n ⟨p.1,p.2,[]⟩).toArray) (s:=3) hH rfl rfl rfl (by rfl) (by rfl) (by simp [Value.oneCell']) (Ty.aF rfl) ?_)
  try clear hH
  intro _ hH
  replace hH:=aI hH
  replace hat:(uG c r y u v++[Rb b3 54 (jH c r y u v).cells.toArray,Rb b7 52 (mI.cells m n ⟨p.1,p.2,[]⟩).toArray])[k]?=some (RV p (m*n)):=by
   rw [← hp,← hm,← hn];exact DQ k hk3
  have hB7:=hH.b 4 rfl
  repeat (first|refine aR ?_|(refine aD (by first|refine aN rfl (Ty.bA rfl rfl)|refine aB rfl hB7 rfl (Ty.aF rfl)) rfl ?_)|refine aT ?_)
  clear hB7
  refine aV (G:=(Nat) × (Nat)) (fun|(i,s)=>m*n-i) 562949951324930 (fun|(i,s)=>[(1,.int .u32 s),(21,.int .i64 i)]) (fun|(i,s),w'=>i≤m*n∧s<4294967296∧Hp (eY (uG c r y u v)) w w' (uG c r y u v++[Rb b3 54 (jH c r y u v).cells.toArray,Rb b7 52 (mI.cells m n ⟨p.1,p.2,[]⟩).toArray])) (0,s) ⟨rfl,rfl,trivial⟩ ⟨by omega,hs,hH⟩ ?_
  rintro ⟨i,s⟩ w' σ ⟨hi,hs,hH⟩ IH2
  show WS _ _ _ _ _ (bQ [(1,.int .u32 s),(21,.int .i64 i)] _) _
  by_cases hil:i<m*n
  ·obtain ⟨S,hSl,hSb,hSR⟩:=hH.at k hat
   have hSS:=Own.sl hSR
   have hll:(S.map B).length=m*n:=by rw [List.length_map,hSl]
   obtain ⟨x,hx⟩:∃ x,S[i]?=some x:=⟨_,List.getElem?_eq_getElem (by omega)⟩
   have hx8:x<256:=hSb x (List.mem_of_getElem? hx)
   have hxB:(S.map B)[i]?=some (.int .u8 x):=by rw [List.getElem?_map,hx];rfl
   obtain ⟨s1,hs1,hs2⟩:∃ s1,(s*1664525 % two .u32+1013904223) % two .u32=s1∧s1<4294967296:=⟨_,rfl,Nat.mod_lt _ (by decide)⟩
   obtain ⟨g,hg,hg2⟩:∃ g,s1 / 2 ^ 16=g∧g<65536:=⟨_,rfl,by omega⟩
   repeat (first|refine aR ?_|(refine aD (by first|refine cG rfl rfl hSS hll (Ty.sle rfl) (by omega)|refine aU rfl hSS hxB (Ty.aF rfl)|refine Mi (m:=s) (n:=1664525) rfl rfl rfl|refine (AA (m:=s*1664525 % two .u32) (n:=1013904223) rfl rfl rfl).is (congrArg (fun n:Nat=>Value.int .u32 n) hs1)) rfl ?_)|refine aT ?_)
   have hS7:=hH.b 4 rfl
   obtain ⟨e,he,he2⟩:∃ e:Int,(g:Int) % (2*(mo:Int)+1)=e∧(0≤e∧e≤65536):=⟨_,rfl,Int.emod_nonneg _ (by omega),by have:=Int.emod_lt_of_pos (g:Int) (show 0<2*(mo:Int)+1 by omega);omega⟩
   obtain ⟨z,hz⟩:∃ z:Int,max (min ((x:Int)+e-mo) 255) 0=z:=⟨_,rfl⟩
   obtain ⟨x2,hx2,hx28⟩:=K9 z
   refine cM Ty.mixed 18 rfl (by kernel_rfl) rfl (fun w1 hx1=>?_)
   refine F6 ?_
   refine aY 1 hx1 rfl (fun w' hw'=>by refine aB rfl (hS7.aH hw') rfl (Ty.aF rfl)) ?_
   refine bE 2 hx1 ?_
   refine bE 3 hx1 ?_
   refine aY 4 hx1 rfl (fun w' hw'=>by refine eT rfl rfl rfl (by omega)) ?_
   refine bE 5 hx1 ?_
   refine aY 6 hx1 rfl (fun w' hw'=>by refine (mV (m:=s1) (n:=16) rfl rfl (PL hs2)).is (congrArg (fun n:Nat=>Value.int .u32 n) hg)) ?_
   refine aY 7 hx1 rfl (fun w' hw'=>by refine eT rfl rfl rfl (by omega)) ?_
   refine bE 8 hx1 ?_
   refine aY 9 hx1 rfl (fun w' hw'=>by refine bN (m:=2) (n:=mo) rfl rfl (by omega)) ?_
   refine bE 10 hx1 ?_
   refine aY 11 hx1 rfl (fun w' hw'=>by refine (iX (m:=g) (n:=2*(mo:Int)+1) rfl rfl (by omega)).is (congrArg (Value.int .i64) he)) ?_
   refine bE 12 hx1 ?_
   refine bE 13 hx1 ?_
   refine bE 14 hx1 ?_
   refine bE 15 hx1 ?_
   refine aY 16 hx1 rfl (fun w' hw'=>by refine (gJ rfl rfl).is (congrArg (Value.int .i64) hz)) ?_
   refine aY 17 hx1 rfl (fun w' hw'=>by refine (wP (qd:=.u8) (i:=z) rfl (Ty.AP rfl) (Ty.Co rfl)).is (congrArg (Value.int .u8) hx2)) ?_
   refine aW (by kernel_rfl) ?_
   clear hS7
   repeat ((refine aD (by refine cG rfl rfl (hSS.aH hx1) hll (Ty.sle rfl) (by omega)) rfl ?_))
   replace hH:=hH.aH hx1
   clear hx1 hSS hSR
   refine aA (mK k hH hat rfl rfl hx28 (by omega) (Ty.aF rfl) ?_)
   clear hH
   intro _ hH
   replace hH:=aI hH
   refine aK ?_
   refine IH2 (i+1,s1) _ _ ?_ ?_ ?_ ?_
   ·simp only;omega
   ·exact ⟨rfl,rfl,trivial⟩
   ·exact cP
   ·exact ⟨by omega,hs2,hH⟩
  ·obtain rfl:i=m*n:=by omega
   clear IH2
   refine aK ?_
   replace hH:=hH.take 4
   refine IH (k+1,s) _ _ ?_ ?_ ?_ ?_
   ·simp only;omega
   ·exact ⟨rfl,rfl,trivial⟩
   ·exact cP
   ·exact ⟨by omega,hs,hH⟩
 ·obtain rfl:k=3:=by omega
  refine aK ?_
  exact cE Tryz.func37 rfl ⟨rfl,hH.take 3⟩
set_option maxHeartbeats 4000000 in
theorem Dm {c r x0 y0 l0 b0 r0:Nat} {y u v:P2} {w:World} (hc:c≤8) (hr:r≤8) (hx0:x0≤100) (hy0:y0≤100) (hl0:l0<256) (hb0:b0<256) (hr0:r0<256) (hS:Sep (uG c r y u v) w) :
  aX Tryz.prog 65 #[.agg (jH c r y u v).cells.toArray,.int .i64 x0,.int .i64 y0,.int .i64 9,.int .i64 13,.int .u8 l0,.int .u8 b0,.int .u8 r0] w fun x w'=>x=.tuple #[]∧Hp (eY (uG c r y u v)) w w' (uG c r y u v):=by
 refine aL (args:=[_,_,_,_,_,_,_,_]) Tryz.func65 rfl rfl Tryz.ntmps65 rfl ?_
 have hH:=Hp.fQ hS
 have hm1:max (x0:Int) 0=x0:=by omega
 have hm2:max (y0:Int) 0=y0:=by omega
 obtain ⟨N,hN⟩:∃ N:Nat,min ((y0:Int)+13) (16*r:Nat)=N:=⟨min (y0+13) (16*r),by omega⟩
 obtain ⟨M,hM⟩:∃ M:Nat,min ((x0:Int)+9) (16*c:Nat)=M:=⟨min (x0+9) (16*c),by omega⟩
 refine aK ?_
 refine aO ?_
 refine aA (bI (cs:=(jH c r y u v).cells.toArray) hH rfl rfl rfl ?_)
 try clear hH
 intro _ b8 hH
 replace hH:=aI hH
 repeat (first|refine aR ?_|(refine aD (by refine (gJ rfl rfl).is (congrArg (Value.int .i64) hm2)) rfl ?_)|refine aT ?_)
 refine aV (G:=(Nat)) (fun j=>N-j) 73786976294837354496 (fun j=>[(16,.int .i64 j)]) (fun j w'=>y0≤j∧Hp (eY (uG c r y u v)) w w' (uG c r y u v++[Rb b8 54 (jH c r y u v).cells.toArray])) (y0) ⟨rfl,trivial⟩ ⟨by omega,hH⟩ ?_
 rintro j w' σ ⟨hj,hH⟩ IH
 show WS _ _ _ _ _ (bQ [(16,.int .i64 j)] _) _
 have hB8:=hH.b 3 rfl
 by_cases hjl:j<N
 ·repeat (first|refine aR ?_|(refine aD (by first|refine aN rfl (Ty.bA rfl rfl)|refine aB (v:=.int .i64 (16*r:Nat)) rfl hB8 rfl (Ty.aF rfl)|refine (eK rfl rfl).is (congrArg (Value.int .i64) hN)|refine (gJ rfl rfl).is (congrArg (Value.int .i64) hm1)) rfl ?_)|refine aT ?_)
  clear hB8
  refine aV (G:=(Nat)) (fun i=>M-i) 73786976286248402944 (fun i=>[(17,.int .i64 i)]) (fun i w'=>x0≤i∧Hp (eY (uG c r y u v)) w w' (uG c r y u v++[Rb b8 54 (jH c r y u v).cells.toArray])) (x0) ⟨rfl,trivial⟩ ⟨by omega,hH⟩ ?_
  rintro i w' σ ⟨hi,hH⟩ IH2
  show WS _ _ _ _ _ (bQ [(17,.int .i64 i)] _) _
  have hB8:=hH.b 3 rfl
  by_cases hil:i<M
  ·have hS8:cI _ (some ⟨b8,0,none⟩) (jH c r y u v).cells:=hB8.cX
   repeat (first|refine aR ?_|(refine aD (by first|refine aN rfl (Ty.bA rfl rfl)|refine aB (v:=.int .i64 (16*c:Nat)) rfl hB8 rfl (Ty.aF rfl)|refine (eK rfl rfl).is (congrArg (Value.int .i64) hM)|refine bG (j:=0+2) (cs:=mI.cells (16*c) (16*r) ⟨y.1,y.2,[]⟩) rfl hS8 rfl rfl (Ty.aF rfl)) rfl ?_)|refine aT ?_)
   clear hB8 hS8
   obtain ⟨S,hSl,hSb,hSR⟩:=hH.at 0 rfl
   refine aO ?_
   refine aA (aC ((jP (p:=⟨y.1,y.2,S⟩) (m:=16*c) (n:=16*r) (i:=i) (j:=j) (x:=l0) (by omega) (by omega) (by omega) (by omega) hSl hSR)) rfl rfl ?_)
   rintro _ _ ⟨rfl,hU⟩
   replace hH:=hH.up 0 rfl (RV.dX hSl hSb hl0 hU)
   clear hU hSR
   replace hH:=aI hH
   have hS8:cI _ (some ⟨b8,0,none⟩) (jH c r y u v).cells:=(hH.b 3 rfl).cX
   have hi2:(i:Int) / 2=(i / 2:Nat):=by omega
   have hj2:(j:Int) / 2=(j / 2:Nat):=by omega
   repeat (first|refine aR ?_|(refine aD (by first|refine aN rfl (Ty.bA rfl rfl)|refine bG (j:=0+5) (cs:=mI.cells (8*c) (8*r) ⟨u.1,u.2,[]⟩) rfl hS8 rfl rfl (Ty.aF rfl)|refine (jC (m:=i) (n:=2) rfl rfl (by omega)).is (congrArg (Value.int .i64) hi2)|refine (jC (m:=j) (n:=2) rfl rfl (by omega)).is (congrArg (Value.int .i64) hj2)) rfl ?_)|refine aT ?_)
   clear hS8
   obtain ⟨S2,hSl2,hSb2,hSR2⟩:=hH.at 1 rfl
   refine aO ?_
   refine aA (aC ((jP (p:=⟨u.1,u.2,S2⟩) (m:=8*c) (n:=8*r) (i:=i / 2) (j:=j / 2) (x:=b0) (by omega) (by omega) (by omega) (by omega) hSl2 hSR2)) rfl rfl ?_)
   rintro _ _ ⟨rfl,hU⟩
   replace hH:=hH.up 1 rfl (RV.dX hSl2 hSb2 hb0 hU)
   clear hU hSR2
   replace hH:=aI hH
   have hS8:cI _ (some ⟨b8,0,none⟩) (jH c r y u v).cells:=(hH.b 3 rfl).cX
   repeat (first|refine aR ?_|(refine aD (by first|refine aN rfl (Ty.bA rfl rfl)|refine bG (j:=0+8) (cs:=mI.cells (8*c) (8*r) ⟨v.1,v.2,[]⟩) rfl hS8 rfl rfl (Ty.aF rfl)|refine (jC (m:=i) (n:=2) rfl rfl (by omega)).is (congrArg (Value.int .i64) hi2)|refine (jC (m:=j) (n:=2) rfl rfl (by omega)).is (congrArg (Value.int .i64) hj2)) rfl ?_)|refine aT ?_)
   clear hS8
   obtain ⟨S3,hSl3,hSb3,hSR3⟩:=hH.at 2 rfl
   refine aO ?_
   refine aA (aC ((jP (p:=⟨v.1,v.2,S3⟩) (m:=8*c) (n:=8*r) (i:=i / 2) (j:=j / 2) (x:=r0) (by omega) (by omega) (by omega) (by omega) hSl3 hSR3)) rfl rfl ?_)
   rintro _ _ ⟨rfl,hU⟩
   replace hH:=hH.up 2 rfl (RV.dX hSl3 hSb3 hr0 hU)
   clear hU hSR3
   replace hH:=aI hH
   refine aK ?_
   refine IH2 (i+1) _ _ ?_ ?_ ?_ ?_
   ·omega
   ·exact ⟨rfl,trivial⟩
   ·exact cP
   ·exact ⟨by omega,hH⟩
  ·clear IH2
   repeat (first|refine aR ?_|(refine aD (by first|refine aN rfl (Ty.bA rfl rfl)|refine aB (v:=.int .i64 (16*c:Nat)) rfl hB8 rfl (Ty.aF rfl)|refine (eK rfl rfl).is (congrArg (Value.int .i64) hM)) rfl ?_)|refine aT ?_)
   refine IH (j+1) _ _ ?_ ?_ ?_ ?_
   ·omega
   ·exact ⟨rfl,trivial⟩
   ·exact cP
   ·exact ⟨by omega,hH⟩
 ·repeat (first|refine aR ?_|(refine aD (by first|refine aN rfl (Ty.bA rfl rfl)|refine aB (v:=.int .i64 (16*r:Nat)) rfl hB8 rfl (Ty.aF rfl)|refine (eK rfl rfl).is (congrArg (Value.int .i64) hN)) rfl ?_)|refine aT ?_)
  exact cE Tryz.func65 rfl ⟨rfl,hH.take 3⟩
theorem NV {A:Prop} {Y:Fr→Int→Int→World→Prop} (Z:Int→Int→World→Prop) (h1:(∀ σ x y u,Z x y u→Y σ x y u)→A) (h2:∀ σ x y u,Z x y u→Y σ x y u):A:=h1 h2
abbrev Hi:List Value:=[.int .i64 0,.int .i64 0,.int .i64 0,.int .i64 0,.slice none 0 0,.int .i64 0,.int .i64 0,.slice none 0 0,.int .i64 0,.int .i64 0,.slice none 0 0]
set_option maxHeartbeats 4000000 in
theorem CU {c r:Nat} {f:FM} {w:World} (hc:c≤8) (hr:r≤8) (hf:f.ok c r) (hrd:f.rd w) :
  aX Tryz.prog 66 #[.agg f.cells.toArray] w fun x w'=>∃ y u v,x=.agg (jH c r y u v).cells.toArray∧Hp [] w w' (uG c r y u v):=by
 refine aL (args:=[_]) Tryz.func66 rfl rfl Tryz.ntmps66 rfl ?_
 obtain ⟨fc,fr,fy,fu,fv⟩:=f
 obtain ⟨hfc,hfr,hfy,hfu,hfv⟩:=hf
 simp only at hfc hfr hfy hfu hfv hrd
 obtain rfl:c=fc:=hfc.symm
 obtain rfl:r=fr:=hfr.symm
 obtain ⟨hry,hru,hrv⟩:=hrd
 have hmn1:16*c*(16*r)≤16384:=Nat.mul_le_mul (show 16*c≤128 by omega) (show 16*r≤128 by omega)
 have hmn2:8*c*(8*r)≤4096:=Nat.mul_le_mul (show 8*c≤64 by omega) (show 8*r≤64 by omega)
 have hH:=Hp.start w
 refine aK ?_
 refine aO ?_
 refine aA (bI (cs:=(FM.cells ⟨c,r,fy,fu,fv⟩).toArray) hH rfl rfl rfl ?_)
 try clear hH
 intro _ b1 hH
 replace hH:=aI hH
 refine aK ?_
 refine aA (aQ (zs:=Hi) hH (Ty.bH rfl) rfl ?_)
 clear hH
 intro _ b2 hH
 replace hH:=aI hH
 repeat (first|refine aR ?_|(refine aD (by refine aN rfl (Ty.bA rfl rfl)) rfl ?_))
 refine aO ?_
 refine aA (cN (out:=[.pointer (some ⟨b1,0+2,none⟩),.pointer (some ⟨b1,0+5,none⟩),.pointer (some ⟨b1,0+8,none⟩)]) hH (Ty.sle rfl) (Ty.bH rfl) rfl rfl rfl (by decide) rfl ?_)
 try clear hH
 intro _ b3 hH
 replace hH:=aI hH
 refine aK ?_
 refine Bt ?_
 have hB1:=hH.b 0 rfl
 have hB3:=hH.b 2 rfl
 have hS3:cI _ (some ⟨b3,0,none⟩) [.pointer (some ⟨b1,0+2,none⟩),.pointer (some ⟨b1,0+5,none⟩),.pointer (some ⟨b1,0+8,none⟩)]:=hB3.cX
 repeat (first|refine aR ?_|(refine aD (by first|refine cG rfl rfl hS3 rfl (Ty.sle rfl) (by decide)|refine aU rfl hS3 rfl (Ty.aF rfl)) rfl ?_)|refine aT ?_)
 clear hB3 hS3
 refine aA (cN (out:=[]) (sz:=1) hH (Ty.sle rfl) (Ty.bH rfl) rfl rfl rfl (by decide) rfl ?_)
 clear hH hB1
 intro _ b4 hH
 replace hH:=hH.as (r':=Ro 5 1 (some ⟨b4,0,none⟩) 0 0 []) 3 rfl (fun _ h=>h) (fun hB=>cL.own (sz:=1) (n:=0) hB rfl (by decide))
 replace hH:=aI hH
 have hB1:=hH.b 0 rfl
 repeat (first|(refine aD (by first|refine aG rfl|refine aN rfl (Ty.bA rfl rfl)|refine aB (v:=.slice fy.a (16*c*(16*r)) fy.cap) rfl hB1 rfl (Ty.aF rfl)) rfl ?_)|refine aT ?_)
 clear hB1
 refine aA (bZ 3 hH rfl (Ty.sle rfl) (Ty.bH rfl) rfl (Ty.gS rfl) (by decide) rfl rfl (hry.aH hH.ext) (by rw [List.length_map,hfy.1,Nat.mul_one]) (by simp [Value.oneCell']) (by omega) (by simp only [maxLen];omega) rfl ?_)
 clear hH
 intro _ a4 c4 hH
 rw [List.nil_append,Nat.zero_add] at hH
 replace hH:=aI hH
 repeat ((refine aD (by first|refine aG rfl|refine aN rfl (Ty.bA rfl rfl)) rfl ?_))
 refine aA (bV 0 (o:=0+2+2) (v:=.slice a4 (0+16*c*(16*r)) c4) hH rfl rfl rfl (Nat.le_of_ble_eq_true rfl) rfl (Ty.aF rfl) ?_)
 clear hH
 intro _ hH
 replace hH:=hH.as (r':=Rb b1 54 (FM.cells ⟨c,r,⟨a4,c4,fy.S⟩,fu,fv⟩).toArray) 0 rfl (fun _ h=>h) (fun h=>by rw [Nat.zero_add (16*c*(16*r))] at h;exact h)
 replace hH:=aI hH
 refine aK ?_
 refine gP ?_
 have hB1:=hH.b 0 rfl
 have hB3:=hH.b 2 rfl
 have hS3:cI _ (some ⟨b3,0,none⟩) [.pointer (some ⟨b1,0+2,none⟩),.pointer (some ⟨b1,0+5,none⟩),.pointer (some ⟨b1,0+8,none⟩)]:=hB3.cX
 repeat (first|refine aR ?_|(refine aD (by first|refine cG rfl rfl hS3 rfl (Ty.sle rfl) (by decide)|refine aU rfl hS3 rfl (Ty.aF rfl)) rfl ?_)|refine aT ?_)
 clear hB3 hS3
 refine aA (cN (out:=[]) (sz:=1) hH (Ty.sle rfl) (Ty.bH rfl) rfl rfl rfl (by decide) rfl ?_)
 clear hH hB1
 intro _ b5 hH
 replace hH:=hH.as (r':=Ro 5 1 (some ⟨b5,0,none⟩) 0 0 []) 4 rfl (fun _ h=>h) (fun hB=>cL.own (sz:=1) (n:=0) hB rfl (by decide))
 replace hH:=aI hH
 have hB1:=hH.b 0 rfl
 repeat (first|(refine aD (by first|refine aG rfl|refine aN rfl (Ty.bA rfl rfl)|refine aB (v:=.slice fu.a (8*c*(8*r)) fu.cap) rfl hB1 rfl (Ty.aF rfl)) rfl ?_)|refine aT ?_)
 clear hB1
 refine aA (bZ 4 hH rfl (Ty.sle rfl) (Ty.bH rfl) rfl (Ty.gS rfl) (by decide) rfl rfl (hru.aH hH.ext) (by rw [List.length_map,hfu.1,Nat.mul_one]) (by simp [Value.oneCell']) (by omega) (by simp only [maxLen];omega) rfl ?_)
 clear hH
 intro _ a5 c5 hH
 rw [List.nil_append,Nat.zero_add] at hH
 replace hH:=aI hH
 repeat ((refine aD (by first|refine aG rfl|refine aN rfl (Ty.bA rfl rfl)) rfl ?_))
 refine aA (bV 0 (o:=0+5+2) (v:=.slice a5 (0+8*c*(8*r)) c5) hH rfl rfl rfl (Nat.le_of_ble_eq_true rfl) rfl (Ty.aF rfl) ?_)
 clear hH
 intro _ hH
 replace hH:=hH.as (r':=Rb b1 54 (FM.cells ⟨c,r,⟨a4,c4,fy.S⟩,⟨a5,c5,fu.S⟩,fv⟩).toArray) 0 rfl (fun _ h=>h) (fun h=>by rw [Nat.zero_add (8*c*(8*r))] at h;exact h)
 replace hH:=aI hH
 refine aK ?_
 refine gP ?_
 have hB1:=hH.b 0 rfl
 have hB3:=hH.b 2 rfl
 have hS3:cI _ (some ⟨b3,0,none⟩) [.pointer (some ⟨b1,0+2,none⟩),.pointer (some ⟨b1,0+5,none⟩),.pointer (some ⟨b1,0+8,none⟩)]:=hB3.cX
 repeat (first|refine aR ?_|(refine aD (by first|refine cG rfl rfl hS3 rfl (Ty.sle rfl) (by decide)|refine aU rfl hS3 rfl (Ty.aF rfl)) rfl ?_)|refine aT ?_)
 clear hB3 hS3
 refine aA (cN (out:=[]) (sz:=1) hH (Ty.sle rfl) (Ty.bH rfl) rfl rfl rfl (by decide) rfl ?_)
 clear hH hB1
 intro _ b6 hH
 replace hH:=hH.as (r':=Ro 5 1 (some ⟨b6,0,none⟩) 0 0 []) 5 rfl (fun _ h=>h) (fun hB=>cL.own (sz:=1) (n:=0) hB rfl (by decide))
 replace hH:=aI hH
 have hB1:=hH.b 0 rfl
 repeat (first|(refine aD (by first|refine aG rfl|refine aN rfl (Ty.bA rfl rfl)|refine aB (v:=.slice fv.a (8*c*(8*r)) fv.cap) rfl hB1 rfl (Ty.aF rfl)) rfl ?_)|refine aT ?_)
 clear hB1
 refine aA (bZ 5 hH rfl (Ty.sle rfl) (Ty.bH rfl) rfl (Ty.gS rfl) (by decide) rfl rfl (hrv.aH hH.ext) (by rw [List.length_map,hfv.1,Nat.mul_one]) (by simp [Value.oneCell']) (by omega) (by simp only [maxLen];omega) rfl ?_)
 clear hH
 intro _ a6 c6 hH
 rw [List.nil_append,Nat.zero_add] at hH
 replace hH:=aI hH
 repeat ((refine aD (by first|refine aG rfl|refine aN rfl (Ty.bA rfl rfl)) rfl ?_))
 refine aA (bV 0 (o:=0+8+2) (v:=.slice a6 (0+8*c*(8*r)) c6) hH rfl rfl rfl (Nat.le_of_ble_eq_true rfl) rfl (Ty.aF rfl) ?_)
 clear hH
 intro _ hH
 replace hH:=hH.as (r':=Rb b1 54 (jH c r (a4,c4) (a5,c5) (a6,c6)).cells.toArray) 0 rfl (fun _ h=>h) (fun h=>by rw [Nat.zero_add (8*c*(8*r))] at h;exact h)
 replace hH:=aI hH
 refine aK ?_
 refine gP ?_
 have hB1:=hH.b 0 rfl
 repeat (first|refine aR ?_|(refine aD (by refine aE rfl hB1 rfl (Ty.aF rfl)) rfl ?_)|refine aT ?_)
 clear hB1
 refine aO ?_
 refine aA (aJ 1 (vs:=(jH c r (a4,c4) (a5,c5) (a6,c6)).cells.toArray) (s:=11) hH rfl rfl rfl (by rfl) (by rfl) (by simp [Value.oneCell']) (Ty.aF rfl) ?_)
 try clear hH
 intro _ hH
 replace hH:=aI hH
 refine aK ?_
 replace hH:=(((hH.as (r':=RV (a4,c4) (16*c*(16*r))) 3 rfl (fun _ h=>h) (fun h=>⟨fy.S,hfy.1,hfy.2,by show Own _ _ _ _ fy.S.length _ _;rw [hfy.1];rw [Nat.zero_add (16*c*(16*r))] at h;exact h⟩)).as (r':=RV (a5,c5) (8*c*(8*r))) 4 rfl (fun _ h=>h) (fun h=>⟨fu.S,hfu.1,hfu.2,by show Own _ _ _ _ fu.S.length _ _;rw [hfu.1];rw [Nat.zero_add (8*c*(8*r))] at h;exact h⟩)).as (r':=RV (a6,c6) (8*c*(8*r))) 5 rfl (fun _ h=>h) (fun h=>⟨fv.S,hfv.1,hfv.2,by show Own _ _ _ _ fv.S.length _ _;rw [hfv.1];rw [Nat.zero_add (8*c*(8*r))] at h;exact h⟩))
 replace hH:=aI hH
 exact bP Tryz.func66 rfl rfl (hH.b 1 rfl) rfl (Ty.aF rfl) ⟨_,_,_,rfl,(((hH.del 2).del 1).del 0)⟩
def FM.p3 (f:FM):Nat→mI
 | 0=>f.y
 | 1=>f.u
 | _=>f.v
theorem FM.PE {f:FM} {c r:Nat} (hf:f.ok c r):∀ k,(f.p3 k).ok (Cm k*c) (Cm k*r)
 | 0=>hf.y
 | 1=>hf.u
 | _+2=>hf.v
theorem FM.Nx {f:FM} {w:World} (h:f.rd w):∀ k,cI w (f.p3 k).a ((f.p3 k).S.map B)
 | 0=>h.1
 | 1=>h.2.1
 | _+2=>h.2.2
theorem FM.Ov {f:FM} {c r:Nat}:∀ k,k<3→(N3 c r (f.y.a,f.y.cap) (f.u.a,f.u.cap) (f.v.a,f.v.cap)).toArray.extract (k*3) (k*3+3)=(mI.cells (Cm k*c) (Cm k*r) (f.p3 k)).toArray
 | 0,_=>rfl
 | 1,_=>rfl
 | 2,_=>rfl
set_option maxHeartbeats 4000000 in
theorem BE {c r:Nat} {dx dy:Int} {f:FM} {w:World} (hc:1≤c∧c≤8) (hr:1≤r∧r≤8) (hx:-100≤dx∧dx≤100) (hy:-100≤dy∧dy≤100) (hf:f.ok c r) (hrd:f.rd w) :
  aX Tryz.prog 36 #[.agg f.cells.toArray,.int .i64 dx,.int .i64 dy] w fun x w'=>∃ y u v,x=.agg (jH c r y u v).cells.toArray∧Hp [] w w' (uG c r y u v):=by
 refine aL (args:=[_,_,_]) Tryz.func36 rfl rfl Tryz.ntmps36 rfl ?_
 have hfc:f.cells=(jH c r (f.y.a,f.y.cap) (f.u.a,f.u.cap) (f.v.a,f.v.cap)).cells:=by rw [← hf.hc,← hf.hr]
 have hH:=Hp.start w
 refine aK ?_
 refine aO ?_
 refine aA (bI (cs:=f.cells.toArray) hH rfl rfl rfl ?_)
 try clear hH
 intro _ b3 hH
 replace hH:=aI hH
 refine aK ?_
 refine aA (aQ (zs:=Hi) hH (Ty.bH rfl) rfl ?_)
 clear hH
 intro _ b6 hH
 replace hH:=aI hH
 have hB3:=hH.b 0 rfl
 repeat (first|refine aR ?_|(refine aD (by refine aE rfl hB3 rfl (Ty.aF rfl)) rfl ?_))
 clear hB3
 refine aO ?_
 refine aA (aC ((CU hc.2 hr.2 hf (hrd.ext hH.ext))) rfl rfl ?_)
 rintro _ _ ⟨y,u,v,rfl,hQ⟩
 replace hH:=hH.calls 0 hQ
 clear hQ
 replace hH:=aI hH
 refine aK ?_
 refine aA (aQ (zs:=Hi) hH (Ty.bH rfl) rfl ?_)
 clear hH
 intro _ b7 hH
 replace hH:=aI hH
 refine aK ?_
 refine aO ?_
 refine aA (aJ 5 (vs:=(jH c r y u v).cells.toArray) (s:=11) hH rfl rfl rfl (by rfl) (by rfl) (by simp [Value.oneCell']) (Ty.aF rfl) ?_)
 try clear hH
 intro _ hH
 replace hH:=aI hH
 have hB3:=hH.b 3 rfl
 repeat (first|refine aR ?_|(refine aD (by refine aE rfl hB3 rfl (Ty.aF rfl)) rfl ?_))
 clear hB3
 rw [hfc]
 refine aO ?_
 refine aA (aC (lP) rfl rfl ?_)
 rintro _ _ ⟨rfl,hE0⟩
 replace hH:=hH.aH hE0
 clear hE0
 replace hH:=aI hH
 refine aK ?_
 refine aV (G:=(Nat)) (fun k=>3-k) 1152921504606600960 (fun k=>[(18,.int .i64 k)]) (fun k w'=>k≤3∧Hp [] w w' (uG c r y u v++[Rb b3 54 f.cells.toArray,Rb b6 54 Hi.toArray,Rb b7 54 (jH c r y u v).cells.toArray])) (0) ⟨rfl,trivial⟩ ⟨by omega,hH⟩ ?_
 rintro k w' σ ⟨hk,hH⟩ IH
 show WS _ _ _ _ _ (bQ [(18,.int .i64 k)] _) _
 by_cases hk3:k<3
 ·have hex:=FM.Ov (f:=f) (c:=c) (r:=r) k hk3
  have hex2:=Gi (c:=c) (r:=r) (y:=y) (u:=u) (v:=v) k hk3
  have hpo:=FM.PE hf k
  obtain ⟨p,hp⟩:∃ p,PS y u v k=p:=⟨_,rfl⟩
  obtain ⟨P,hP⟩:∃ P,f.p3 k=P:=⟨_,rfl⟩
  obtain ⟨m,hm⟩:∃ m,Cm k*c=m:=⟨_,rfl⟩
  obtain ⟨n,hn⟩:∃ n,Cm k*r=n:=⟨_,rfl⟩
  have hmb:1≤m∧m≤128:=⟨hm▸Ks hc.1,hm▸EH hc.2⟩
  have hnb:1≤n∧n≤128:=⟨hn▸Ks hr.1,hn▸EH hr.2⟩
  have hmn:m*n≤16384:=Nat.mul_le_mul hmb.2 hnb.2
  rw [hp,hm,hn] at hex2
  rw [hP,hm,hn] at hex hpo
  repeat (first|refine aR ?_|(refine aD (by refine (gY rfl rfl (Ty.arr rfl) (by omega)).is (congrArg Value.agg hex)) rfl ?_)|refine aT ?_)
  refine aO ?_
  refine aA (aQ hH (Ty.bH rfl) rfl ?_)
  try clear hH
  intro _ b9 hH
  replace hH:=aI hH
  refine aK ?_
  refine aO ?_
  refine aA (aJ 6 (vs:=(mI.cells m n P).toArray) (s:=3) hH rfl rfl rfl (by rfl) (by rfl) (by simp [Value.oneCell']) (Ty.aF rfl) ?_)
  try clear hH
  intro _ hH
  replace hH:=aI hH
  apply NV (Z:=fun x' y' u'=>(-100≤x'∧x'≤100)∧(-100≤y'∧y'≤100)∧Hp [] w u' (uG c r y u v++[Rb b3 54 f.cells.toArray,Rb b6 54 Hi.toArray,Rb b7 54 (jH c r y u v).cells.toArray,Rb b9 52 (mI.cells m n P).toArray]))
  ·intro key
   by_cases hk0:0<k
   ·repeat (first|refine aR ?_|(refine aD (by refine DS (m:=1) rfl rfl (by decide)) rfl ?_)|refine aT ?_)
    apply eL 1152921504606600960 [(8,.int .i64 k),(9,pt b9),(10,.int .i64 (dx / 2 ^ 1)),(11,.int .i64 (dy / 2 ^ 1)),(18,.int .i64 k)]
    ·exact ⟨rfl,rfl,rfl,rfl,rfl,trivial⟩
    ·exact N6
    intro σ
    obtain ⟨x9,hx9⟩:∃ z:Int,z=dx / 2 ^ 1:=⟨_,rfl⟩
    obtain ⟨y9,hy9⟩:∃ z:Int,z=dy / 2 ^ 1:=⟨_,rfl⟩
    have e9:([(8,.int .i64 k),(9,pt b9),(10,.int .i64 (dx / 2 ^ 1)),(11,.int .i64 (dy / 2 ^ 1)),(18,.int .i64 k)]:List (Nat × Value))=[(8,.int .i64 k),(9,pt b9),(10,.int .i64 x9),(11,.int .i64 y9),(18,.int .i64 k)]:=by rw [hx9,hy9]
    rw [e9]
    exact eU fun u' hu=>key σ x9 y9 u' ⟨by omega,by omega,hu▸hH⟩
   ·refine aK ?_
    apply eL 1152921504606600960 [(8,.int .i64 k),(9,pt b9),(10,.int .i64 (dx)),(11,.int .i64 (dy)),(18,.int .i64 k)]
    ·exact ⟨rfl,rfl,rfl,rfl,rfl,trivial⟩
    ·exact N6
    intro σ
    obtain ⟨x9,hx9⟩:∃ z:Int,z=dx:=⟨_,rfl⟩
    obtain ⟨y9,hy9⟩:∃ z:Int,z=dy:=⟨_,rfl⟩
    have e9:([(8,.int .i64 k),(9,pt b9),(10,.int .i64 (dx)),(11,.int .i64 (dy)),(18,.int .i64 k)]:List (Nat × Value))=[(8,.int .i64 k),(9,pt b9),(10,.int .i64 x9),(11,.int .i64 y9),(18,.int .i64 k)]:=by rw [hx9,hy9]
    rw [e9]
    exact eU fun u' hu=>key σ x9 y9 u' ⟨by omega,by omega,hu▸hH⟩
  clear hH
  rintro σ x1 y1 w5 ⟨hx1,hy1,hH⟩
  have hB7:=hH.b 5 rfl
  repeat ((refine aD (by refine aE rfl hB7 rfl (Ty.aF rfl)) rfl ?_))
  clear hB7
  refine aO ?_
  refine aA (aC (lP) rfl rfl ?_)
  rintro _ _ ⟨rfl,hE0⟩
  replace hH:=hH.aH hE0
  clear hE0
  replace hH:=aI hH
  repeat (first|(refine aD (by refine (gY rfl rfl (Ty.arr rfl) (by omega)).is (congrArg Value.agg hex2)) rfl ?_)|refine aT ?_)
  refine aO ?_
  refine aA (aQ hH (Ty.bH rfl) rfl ?_)
  try clear hH
  intro _ b12 hH
  replace hH:=aI hH
  refine aK ?_
  refine aO ?_
  refine aA (aJ 7 (vs:=(mI.cells m n ⟨p.1,p.2,[]⟩).toArray) (s:=3) hH rfl rfl rfl (by rfl) (by rfl) (by simp [Value.oneCell']) (Ty.aF rfl) ?_)
  try clear hH
  intro _ hH
  replace hH:=aI hH
  have hat:(uG c r y u v++[Rb b3 54 f.cells.toArray,Rb b6 54 Hi.toArray,Rb b7 54 (jH c r y u v).cells.toArray,Rb b9 52 (mI.cells m n P).toArray,Rb b12 52 (mI.cells m n ⟨p.1,p.2,[]⟩).toArray])[k]?=some (RV p (m*n)):=by
   rw [← hp,← hm,← hn];exact DQ k hk3
  have hB12:=hH.b 7 rfl
  repeat (first|refine aR ?_|(refine aD (by first|refine aN rfl (Ty.bA rfl rfl)|refine aB (v:=.slice p.1 (m*n) p.2) rfl hB12 rfl (Ty.aF rfl)) rfl ?_)|refine aT ?_)
  clear hB12
  refine aV (G:=(Nat)) (fun i=>m*n-i) 576460614864478208 (fun i=>[(37,.int .i64 i)]) (fun i w'=>i≤m*n∧Hp [] w w' (uG c r y u v++[Rb b3 54 f.cells.toArray,Rb b6 54 Hi.toArray,Rb b7 54 (jH c r y u v).cells.toArray,Rb b9 52 (mI.cells m n P).toArray,Rb b12 52 (mI.cells m n ⟨p.1,p.2,[]⟩).toArray])) (0) ⟨rfl,trivial⟩ ⟨by omega,hH⟩ ?_
  rintro i w' σ ⟨hi,hH⟩ IH2
  show WS _ _ _ _ _ (bQ [(37,.int .i64 i)] _) _
  by_cases hil:i<m*n
  ·refine aK ?_
   have hrd':=FM.Nx (hrd.ext hH.ext) k
   rw [hP] at hrd'
   have hB9:=hH.b 6 rfl
   have hB12:=hH.b 7 rfl
   obtain ⟨S,hSl,hSb,hSR⟩:=hH.at k hat
   have hSS:=Own.sl hSR
   have hll:(S.map B).length=m*n:=by rw [List.length_map,hSl]
   obtain ⟨q1,hq1,hq2⟩:∃ q1:Int,(i:Int) % (m:Int)=q1∧(0≤q1∧q1≤128):=⟨_,rfl,Int.emod_nonneg _ (by omega),by have:=Int.emod_lt_of_pos (i:Int) (show 0<(m:Int) by omega);omega⟩
   obtain ⟨q3,hq3,hq4⟩:∃ q3:Int,(i:Int) / (m:Int)=q3∧(0≤q3∧q3≤20000):=⟨_,rfl,Int.ediv_nonneg (by omega) (by omega),by have:=Int.ediv_le_self (m:Int) (show 0≤(i:Int) by omega);omega⟩
   refine cM Ty.mixed 17 rfl (by kernel_rfl) rfl (fun w1 hx=>?_)
   refine aY 0 hx rfl (fun w' hw'=>by refine aN rfl (Ty.bA rfl rfl)) ?_
   refine aY 1 hx rfl (fun w' hw'=>by refine aB rfl (hB12.aH hw') rfl (Ty.aF rfl)) ?_
   refine bE 2 hx ?_
   refine aY 3 hx rfl (fun w' hw'=>by refine aE rfl (hB9.aH hw') rfl (Ty.aF rfl)) ?_
   refine bE 4 hx ?_
   refine aY 5 hx rfl (fun w' hw'=>by refine aN rfl (Ty.bA rfl rfl)) ?_
   refine aY 6 hx rfl (fun w' hw'=>by refine aB rfl (hB12.aH hw') rfl (Ty.aF rfl)) ?_
   refine aY 7 hx rfl (fun w' hw'=>by refine (iX (m:=i) (n:=m) rfl rfl (by omega)).is (congrArg (Value.int .i64) hq1)) ?_
   refine bE 8 hx ?_
   refine bE 9 hx ?_
   refine bE 10 hx ?_
   refine aY 11 hx rfl (fun w' hw'=>by refine aN rfl (Ty.bA rfl rfl)) ?_
   refine aY 12 hx rfl (fun w' hw'=>by refine aB rfl (hB12.aH hw') rfl (Ty.aF rfl)) ?_
   refine aY 13 hx rfl (fun w' hw'=>by refine (jC (m:=i) (n:=m) rfl rfl (by omega)).is (congrArg (Value.int .i64) hq3)) ?_
   refine bE 14 hx ?_
   refine bE 15 hx ?_
   refine bC 16 (by kernel_rfl) rfl rfl (aC (gL (p:=P) (m:=m) (n:=n) (i:=q1-x1) (j:=q3-y1) (by omega) (by omega) hpo (hrd'.aH hx)) rfl rfl ?_)
   rintro _ w2 ⟨rfl,hE⟩
   have hx2:=hx.bO hE
   refine ⟨hx2,?_⟩
   refine aW (by kernel_rfl) ?_
   repeat ((refine aD (by refine cG rfl rfl (hSS.aH hx2) hll (Ty.sle rfl) (by omega)) rfl ?_))
   replace hH:=hH.aH hx2
   clear hx hx2 hE hSS hSR hB9 hB12 hrd'
   refine aA (mK k hH hat rfl rfl (iH hpo.2) (by omega) (Ty.aF rfl) ?_)
   clear hH
   intro _ hH
   replace hH:=aI hH
   refine aK ?_
   refine IH2 (i+1) _ _ ?_ ?_ ?_ ?_
   ·omega
   ·exact ⟨rfl,trivial⟩
   ·exact cP
   ·exact ⟨by omega,hH⟩
  ·obtain rfl:i=m*n:=by omega
   clear IH2
   refine aK ?_
   replace hH:=hH.take 6
   refine IH (k+1) _ _ ?_ ?_ ?_ ?_
   ·omega
   ·exact ⟨rfl,trivial⟩
   ·exact cP
   ·exact ⟨by omega,hH⟩
 ·obtain rfl:k=3:=by omega
  have hB7:=hH.b 5 rfl
  repeat (first|refine aR ?_|(refine aD (by refine aE rfl hB7 rfl (Ty.aF rfl)) rfl ?_)|refine aT ?_)
  clear hB7
  refine aO ?_
  refine aA (aJ 4 (vs:=(jH c r y u v).cells.toArray) (s:=11) hH rfl rfl rfl (by rfl) (by rfl) (by simp [Value.oneCell']) (Ty.aF rfl) ?_)
  try clear hH
  intro _ hH
  replace hH:=aI hH
  refine aK ?_
  exact bP Tryz.func36 rfl rfl (hH.b 4 rfl) rfl (Ty.aF rfl) ⟨_,_,_,rfl,hH.take 3⟩
end Go.Proofs.YtdbnmbkjmeepkaaGreatDoor
