/- A part of the proof of the card of TopText; no condition. -/
import Derived.Test.YtdbnmbkjmeepkaaGreatDoorT34
namespace Go.Proofs.YtdbnmbkjmeepkaaGreatDoor
open Go Go.K Go.P Go.RowKit Go.Proofs
structure SM where
 cols:Nat
 rows:Nat
 kind:Nat
 A:Nat
 Bn:Nat
 Cn:Nat
 seed:Nat
 sa:Option Addr
 cap:Nat
 S:List Nat
abbrev SM.cells (s:SM):List Value:=[.int .u8 s.cols,.int .u8 s.rows,.int .u8 s.kind,.int .u8 s.A,.int .u8 s.Bn,.int .u8 s.Cn,.int .u32 s.seed,.slice s.sa s.S.length s.cap]
structure SM.ok (s:SM):Prop where
 kind:s.kind<256
 A:s.A<256
 Bn:s.Bn<256
 Cn:s.Cn<256
 seed:s.seed<4294967296
 S:gR s.S
 len:s.S.length≤2000
abbrev SM.rd (w:World) (s:SM):Prop:=cI w s.sa (s.S.map B)
theorem yI {S:List Nat} {W w:World} {H:List cK} {b n x:Nat} (i:Nat) (h:Hp S W w H) (hi:H[i]?=some (Rb b 5 (List.replicate n (Value.int .u8 x)).toArray)) (hn:n≤20000) (hx:x<256):Hp S W w (H.set i (RV (some ⟨b,0,none⟩,n) n)) :=
 h.as i hi (fun _ hx=>hx) (fun hB=>⟨List.replicate n x,List.length_replicate,fun c hc=>by rw [List.eq_of_mem_replicate hc];exact hx,by
  have h1:=cL.own (sz:=1) (n:=n) hB (by simp) (by omega)
  show Own _ _ _ _ (List.replicate n x).length _ _
  rw [List.length_replicate,List.map_replicate]
  exact h1⟩)
theorem Qe {c r:Nat} (hc:c≤8) (hr:r≤8):16*c*(16*r)≤16384:=Nat.mul_le_mul (show 16*c≤128 by omega) (show 16*r≤128 by omega)
theorem Qg {c r:Nat} (hc:c≤8) (hr:r≤8):8*c*(8*r)≤4096:=Nat.mul_le_mul (show 8*c≤64 by omega) (show 8*r≤64 by omega)
theorem Q0 {c r:Nat} (hc:1≤c) (hr:1≤r):64≤8*c*(8*r):=Nat.mul_le_mul (show 8≤8*c by omega) (show 8≤8*r by omega)
set_option maxRecDepth 20000 in
set_option maxHeartbeats 8000000 in
theorem B6 {c r:Nat} {s:SM} {w:World} (hc:1≤c∧c≤8) (hr:1≤r∧r≤8) (hs:s.ok) (hrd:s.rd w) :
  aX Tryz.prog 35 #[.agg s.cells.toArray,.int .i64 c,.int .i64 r] w fun x w'=>∃ y u v,x=.agg (jH c r y u v).cells.toArray∧Hp [] w w' (uG c r y u v):=by
 refine aL (args:=[_,_,_]) Tryz.func35 rfl rfl Tryz.ntmps35 rfl ?_
 have hq1:=Qe hc.2 hr.2
 have hq2:=Qg hc.2 hr.2
 have hq3:=Q0 hc.1 hr.1
 have hsl:=hs.len
 have hH:=Hp.start w
 refine aK ?_
 refine aO ?_
 refine aA (bI (cs:=s.cells.toArray) hH rfl rfl rfl ?_)
 try clear hH
 intro _ b3 hH
 replace hH:=aI hH
 refine aK ?_
 refine aA (aQ (zs:=Hi) hH (Ty.bH rfl) rfl ?_)
 clear hH
 intro _ b6 hH
 replace hH:=aI hH
 have hB3:=hH.b 0 rfl
 repeat (first|refine aR ?_|(refine aD (by first|refine aN rfl (Ty.bA rfl rfl)|refine aB rfl hB3 rfl (Ty.aF rfl)) rfl ?_)|refine aT ?_)
 clear hB3
 refine aO ?_
 refine aA (aC ((fZ (c:=c) (r:=r) (x:=s.A) hc.2 hr.2)) rfl rfl ?_)
 rintro _ _ ⟨y,u,v,rfl,hQ⟩
 replace hH:=hH.calls 0 hQ
 clear hQ
 replace hH:=aI hH
 replace hH:=yI 2 (yI 1 (yI 0 hH rfl (by omega) hs.A) rfl (by omega) hs.A) rfl (by omega) hs.A
 replace hH:=aI hH
 refine aK ?_
 refine aA (aQ (zs:=Hi) hH (Ty.bH rfl) rfl ?_)
 clear hH
 intro _ b7 hH
 replace hH:=aI hH
 refine aK ?_
 refine aO ?_
 refine aA (aJ 5 (vs:=(jH c r (some ⟨y,0,none⟩,16*c*(16*r)) (some ⟨u,0,none⟩,8*c*(8*r)) (some ⟨v,0,none⟩,8*c*(8*r))).cells.toArray) (s:=11) hH rfl rfl rfl (by rfl) (by rfl) (by simp [Value.oneCell']) (Ty.aF rfl) ?_)
 try clear hH
 intro _ hH
 replace hH:=aI hH
 have hk5:s.kind % 5<5:=Nat.mod_lt _ (by decide)
 have hB3:=hH.b 3 rfl
 have hB7:=hH.b 5 rfl
 have hA:=hs.A
 have hBb:=hs.Bn
 have hCb:=hs.Cn
 by_cases h1:s.kind % 5=1
 ·repeat (first|refine aR ?_|(refine aD (by first|refine aN rfl (Ty.bA rfl rfl)|refine aB rfl hB3 rfl (Ty.aF rfl)|refine aE rfl hB7 rfl (Ty.aF rfl)|refine dL (n:=5) rfl rfl (by decide)|refine dL (n:=40) rfl rfl (by decide)|refine eT rfl rfl rfl (by omega)) rfl ?_)|refine aT ?_)
  clear hB3 hB7
  refine aO ?_
  refine aA (aC ((tN (c:=c) (r:=r) (fr:=s.A) (ri:=(s.Bn % 40:Nat)-20) (dn:=(s.Cn % 40:Nat)-20) (y:=(some ⟨y,0,none⟩,16*c*(16*r))) (u:=(some ⟨u,0,none⟩,8*c*(8*r))) (v:=(some ⟨v,0,none⟩,8*c*(8*r))) hc.2 hr.2 hA (by omega) (by omega) (hH.at 0 rfl))) rfl rfl ?_)
  rintro _ _ ⟨rfl,hU⟩
  replace hH:=hH.up 0 rfl hU
  clear hU
  replace hH:=aI hH
  refine aK ?_
  replace hH:=hH.take 6
  replace hH:=aI hH
  have hB7:=hH.b 5 rfl
  repeat ((refine aD (by refine aE rfl hB7 rfl (Ty.aF rfl)) rfl ?_))
  clear hB7
  refine aO ?_
  refine aA (aJ 4 (vs:=(jH c r (some ⟨y,0,none⟩,16*c*(16*r)) (some ⟨u,0,none⟩,8*c*(8*r)) (some ⟨v,0,none⟩,8*c*(8*r))).cells.toArray) (s:=11) hH rfl rfl rfl (by rfl) (by rfl) (by simp [Value.oneCell']) (Ty.aF rfl) ?_)
  try clear hH
  intro _ hH
  replace hH:=aI hH
  refine aK ?_
  exact G9
 by_cases h2:s.kind % 5=2
 ·repeat (first|refine aR ?_|(refine aD (by first|refine aN rfl (Ty.bA rfl rfl)|refine aB rfl hB3 rfl (Ty.aF rfl)|refine aE rfl hB7 rfl (Ty.aF rfl)|refine dL (n:=5) rfl rfl (by decide)|refine dL (n:=40) rfl rfl (by decide)|refine eT rfl rfl rfl (by omega)) rfl ?_)|refine aT ?_)
  clear hB3 hB7
  refine aO ?_
  refine aA (aC ((tN (c:=c) (r:=r) (fr:=s.A) (ri:=(s.Bn % 40:Nat)-20) (dn:=(s.Cn % 40:Nat)-20) (y:=(some ⟨y,0,none⟩,16*c*(16*r))) (u:=(some ⟨u,0,none⟩,8*c*(8*r))) (v:=(some ⟨v,0,none⟩,8*c*(8*r))) hc.2 hr.2 hA (by omega) (by omega) (hH.at 0 rfl))) rfl rfl ?_)
  rintro _ _ ⟨rfl,hU⟩
  replace hH:=hH.up 0 rfl hU
  clear hU
  replace hH:=aI hH
  refine aK ?_
  have hB3:=hH.b 3 rfl
  have hB7:=hH.b 5 rfl
  repeat ((refine aD (by first|refine aN rfl (Ty.bA rfl rfl)|refine aB rfl hB3 rfl (Ty.aF rfl)|refine aE rfl hB7 rfl (Ty.aF rfl)|refine dL (n:=30) rfl rfl (by decide)|refine eT rfl rfl rfl (by omega)) rfl ?_))
  clear hB3 hB7
  refine aO ?_
  refine aA (aC ((tP (c:=c) (r:=r) (s:=s.seed) (mo:=s.Cn % 30) (y:=(some ⟨y,0,none⟩,16*c*(16*r))) (u:=(some ⟨u,0,none⟩,8*c*(8*r))) (v:=(some ⟨v,0,none⟩,8*c*(8*r))) hc.2 hr.2 hs.seed (by omega) (hH.jO 3))) rfl rfl ?_)
  rintro _ _ ⟨rfl,hQ⟩
  replace hH:=hH.calls 3 hQ
  clear hQ
  replace hH:=aI hH
  refine aK ?_
  replace hH:=hH.take 6
  replace hH:=aI hH
  have hB7:=hH.b 5 rfl
  repeat ((refine aD (by refine aE rfl hB7 rfl (Ty.aF rfl)) rfl ?_))
  clear hB7
  refine aO ?_
  refine aA (aJ 4 (vs:=(jH c r (some ⟨y,0,none⟩,16*c*(16*r)) (some ⟨u,0,none⟩,8*c*(8*r)) (some ⟨v,0,none⟩,8*c*(8*r))).cells.toArray) (s:=11) hH rfl rfl rfl (by rfl) (by rfl) (by simp [Value.oneCell']) (Ty.aF rfl) ?_)
  try clear hH
  intro _ hH
  replace hH:=aI hH
  refine aK ?_
  exact G9
 by_cases h3:s.kind % 5=3
 ·repeat (first|refine aR ?_|(refine aD (by first|refine aN rfl (Ty.bA rfl rfl)|refine aB rfl hB3 rfl (Ty.aF rfl)|refine aE rfl hB7 rfl (Ty.aF rfl)|refine dL (n:=5) rfl rfl (by decide)|refine dL (n:=40) rfl rfl (by decide)|refine eT rfl rfl rfl (by omega)|refine Iz (m:=255) rfl rfl rfl (by omega) (by decide)) rfl ?_)|refine aT ?_)
  clear hB3 hB7
  refine aO ?_
  refine aA (aC ((Dm (c:=c) (r:=r) (x0:=s.Bn % 40) (y0:=s.Cn % 40) (l0:=255-s.A) (b0:=s.Bn) (r0:=s.Cn) (y:=(some ⟨y,0,none⟩,16*c*(16*r))) (u:=(some ⟨u,0,none⟩,8*c*(8*r))) (v:=(some ⟨v,0,none⟩,8*c*(8*r))) hc.2 hr.2 (by omega) (by omega) (by omega) hBb hCb (hH.jO 3))) rfl rfl ?_)
  rintro _ _ ⟨rfl,hQ⟩
  replace hH:=hH.calls 3 hQ
  clear hQ
  replace hH:=aI hH
  refine aK ?_
  replace hH:=hH.take 6
  replace hH:=aI hH
  have hB7:=hH.b 5 rfl
  repeat ((refine aD (by refine aE rfl hB7 rfl (Ty.aF rfl)) rfl ?_))
  clear hB7
  refine aO ?_
  refine aA (aJ 4 (vs:=(jH c r (some ⟨y,0,none⟩,16*c*(16*r)) (some ⟨u,0,none⟩,8*c*(8*r)) (some ⟨v,0,none⟩,8*c*(8*r))).cells.toArray) (s:=11) hH rfl rfl rfl (by rfl) (by rfl) (by simp [Value.oneCell']) (Ty.aF rfl) ?_)
  try clear hH
  intro _ hH
  replace hH:=aI hH
  refine aK ?_
  exact G9
 by_cases h4:s.kind % 5=4
 ·repeat (first|refine aR ?_|(refine aD (by first|refine aN rfl (Ty.bA rfl rfl)|refine aB rfl hB3 rfl (Ty.aF rfl)|refine dL (n:=5) rfl rfl (by decide)) rfl ?_)|refine aT ?_)
  clear hB3 hB7
  refine aV (G:=(Nat)) (fun i=>s.S.length-i) 1361129467683734511040384595660277547776 (fun i=>[(84,.int .i64 i)]) (fun i w'=>i≤s.S.length∧Hp [] w w' (uG c r (some ⟨y,0,none⟩,16*c*(16*r)) (some ⟨u,0,none⟩,8*c*(8*r)) (some ⟨v,0,none⟩,8*c*(8*r))++[Rb b3 64 s.cells.toArray,Rb b6 54 Hi.toArray,Rb b7 54 (jH c r (some ⟨y,0,none⟩,16*c*(16*r)) (some ⟨u,0,none⟩,8*c*(8*r)) (some ⟨v,0,none⟩,8*c*(8*r))).cells.toArray])) (0) ⟨rfl,trivial⟩ ⟨by omega,hH⟩ ?_
  rintro i w' σ ⟨hi,hH⟩ IH
  show WS _ _ _ _ _ (bQ [(84,.int .i64 i)] _) _
  by_cases hil:i<s.S.length
  ·have hSS:=hrd.aH hH.ext
   have hll:(s.S.map B).length=s.S.length:=List.length_map _
   obtain ⟨x,hx⟩:∃ x,s.S[i]?=some x:=⟨_,List.getElem?_eq_getElem hil⟩
   have hx8:x<256:=hs.S x (List.mem_of_getElem? hx)
   have hxB:(s.S.map B)[i]?=some (.int .u8 x):=by rw [List.getElem?_map,hx];rfl
   have hB7:=hH.b 5 rfl
   by_cases h5:i<16*c*(16*r)
   ·by_cases h6:i<600
    ·obtain ⟨S0,hSl0,hSb0,hSR0⟩:=hH.at 0 rfl
     have hS0:=Own.sl hSR0
     have hl0:(S0.map B).length=16*c*(16*r):=by rw [List.length_map,hSl0]
     repeat (first|refine aR ?_|(refine aD (by first|refine aN rfl (Ty.bA rfl rfl)|refine cG rfl rfl hSS hll (Ty.sle rfl) (by omega)|refine aU rfl hSS hxB (Ty.aF rfl)|refine aB (v:=.slice (some ⟨y,0,none⟩) (16*c*(16*r)) (16*c*(16*r))) rfl hB7 rfl (Ty.aF rfl)|refine cG rfl rfl hS0 hl0 (Ty.sle rfl) (by omega)) rfl ?_)|refine aT ?_)
     clear hB7 hS0 hSR0 hSS
     refine aA (mK 0 hH rfl rfl rfl hx8 (by omega) (Ty.aF rfl) ?_)
     clear hH
     intro _ hH
     replace hH:=aI hH
     obtain ⟨j,hj,hj2⟩:∃ j:Nat,(i:Int) % ((8*c*(8*r):Nat):Int)=j∧j<8*c*(8*r):=⟨i % (8*c*(8*r)),by simp,Nat.mod_lt _ (by omega)⟩
     refine aK ?_
     have hB7:=hH.b 5 rfl
     refine cM Ty.mixed 11 rfl (by kernel_rfl) rfl (fun w1 hx1=>?_)
     refine F6 ?_
     refine xN ?_
     refine aY 2 hx1 rfl (fun w' hw'=>by refine aB (v:=.slice (some ⟨u,0,none⟩) (8*c*(8*r)) (8*c*(8*r))) rfl (hB7.aH hw') rfl (Ty.aF rfl)) ?_
     refine bE 3 hx1 ?_
     refine GX ?_
     refine Gf ?_
     refine aY 6 hx1 rfl (fun w' hw'=>by refine aB (v:=.slice (some ⟨u,0,none⟩) (8*c*(8*r)) (8*c*(8*r))) rfl (hB7.aH hw') rfl (Ty.aF rfl)) ?_
     refine bE 7 hx1 ?_
     refine aY 8 hx1 rfl (fun w' hw'=>by refine (iX (m:=i) (n:=(8*c*(8*r):Nat)) rfl rfl (by omega)).is (congrArg (Value.int .i64) hj)) ?_
     refine bE 9 hx1 ?_
     refine aY 10 hx1 rfl (fun w' hw'=>by refine iR (m:=x) (n:=2) rfl rfl (by decide) (CO hx8)) ?_
     refine aW (by kernel_rfl) ?_
     replace hH:=hH.aH hx1
     clear hx1 hB7
     obtain ⟨S1,hSl1,hSb1,hSR1⟩:=hH.at 1 rfl
     have hS1:=Own.sl hSR1
     have hl1:(S1.map B).length=8*c*(8*r):=by rw [List.length_map,hSl1]
     repeat ((refine aD (by refine cG rfl rfl hS1 hl1 (Ty.sle rfl) (by omega)) rfl ?_))
     clear hS1 hSR1
     refine aA (mK 1 (x:=x / 2) hH rfl rfl rfl (by omega) (by omega) (Ty.aF rfl) ?_)
     clear hH
     intro _ hH
     replace hH:=aI hH
     refine aK ?_
     have hB7:=hH.b 5 rfl
     refine cM Ty.mixed 11 rfl (by kernel_rfl) rfl (fun w1 hx1=>?_)
     refine F6 ?_
     refine xN ?_
     refine aY 2 hx1 rfl (fun w' hw'=>by refine aB (v:=.slice (some ⟨v,0,none⟩) (8*c*(8*r)) (8*c*(8*r))) rfl (hB7.aH hw') rfl (Ty.aF rfl)) ?_
     refine bE 3 hx1 ?_
     refine GX ?_
     refine Gf ?_
     refine aY 6 hx1 rfl (fun w' hw'=>by refine aB (v:=.slice (some ⟨v,0,none⟩) (8*c*(8*r)) (8*c*(8*r))) rfl (hB7.aH hw') rfl (Ty.aF rfl)) ?_
     refine bE 7 hx1 ?_
     refine aY 8 hx1 rfl (fun w' hw'=>by refine (iX (m:=i) (n:=(8*c*(8*r):Nat)) rfl rfl (by omega)).is (congrArg (Value.int .i64) hj)) ?_
     refine bE 9 hx1 ?_
     refine aY 10 hx1 rfl (fun w' hw'=>by refine Iz (m:=255) (n:=x) rfl rfl rfl (by omega) (by decide)) ?_
     refine aW (by kernel_rfl) ?_
     replace hH:=hH.aH hx1
     clear hx1 hB7
     obtain ⟨S1,hSl1,hSb1,hSR1⟩:=hH.at 2 rfl
     have hS1:=Own.sl hSR1
     have hl1:(S1.map B).length=8*c*(8*r):=by rw [List.length_map,hSl1]
     repeat ((refine aD (by refine cG rfl rfl hS1 hl1 (Ty.sle rfl) (by omega)) rfl ?_))
     clear hS1 hSR1
     refine aA (mK 2 (x:=255-x) hH rfl rfl rfl (by omega) (by omega) (Ty.aF rfl) ?_)
     clear hH
     intro _ hH
     replace hH:=aI hH
     refine aK ?_
     refine IH (i+1) _ _ ?_ ?_ ?_ ?_
     ·omega
     ·exact ⟨rfl,trivial⟩
     ·exact cP
     ·exact ⟨by omega,hH⟩
    ·repeat (first|refine aR ?_|(refine aD (by first|refine aN rfl (Ty.bA rfl rfl)|refine cG rfl rfl hSS hll (Ty.sle rfl) (by omega)|refine aU rfl hSS hxB (Ty.aF rfl)|refine aB (v:=.slice (some ⟨y,0,none⟩) (16*c*(16*r)) (16*c*(16*r))) rfl hB7 rfl (Ty.aF rfl)) rfl ?_)|refine aT ?_)
     refine IH (i+1) _ _ ?_ ?_ ?_ ?_
     ·omega
     ·exact ⟨rfl,trivial⟩
     ·exact cP
     ·exact ⟨by omega,hH⟩
   ·repeat (first|refine aR ?_|(refine aD (by first|refine aN rfl (Ty.bA rfl rfl)|refine cG rfl rfl hSS hll (Ty.sle rfl) (by omega)|refine aU rfl hSS hxB (Ty.aF rfl)|refine aB (v:=.slice (some ⟨y,0,none⟩) (16*c*(16*r)) (16*c*(16*r))) rfl hB7 rfl (Ty.aF rfl)) rfl ?_)|refine aT ?_)
    refine IH (i+1) _ _ ?_ ?_ ?_ ?_
    ·omega
    ·exact ⟨rfl,trivial⟩
    ·exact cP
    ·exact ⟨by omega,hH⟩
  ·clear IH
   refine aK ?_
   replace hH:=hH.take 6
   replace hH:=aI hH
   have hB7:=hH.b 5 rfl
   repeat ((refine aD (by refine aE rfl hB7 rfl (Ty.aF rfl)) rfl ?_))
   clear hB7
   refine aO ?_
   refine aA (aJ 4 (vs:=(jH c r (some ⟨y,0,none⟩,16*c*(16*r)) (some ⟨u,0,none⟩,8*c*(8*r)) (some ⟨v,0,none⟩,8*c*(8*r))).cells.toArray) (s:=11) hH rfl rfl rfl (by rfl) (by rfl) (by simp [Value.oneCell']) (Ty.aF rfl) ?_)
   try clear hH
   intro _ hH
   replace hH:=aI hH
   refine aK ?_
   exact G9
 ·repeat (first|refine aR ?_|(refine aD (by first|refine aN rfl (Ty.bA rfl rfl)|refine aB rfl hB3 rfl (Ty.aF rfl)|refine aE rfl hB7 rfl (Ty.aF rfl)|refine dL (n:=5) rfl rfl (by decide)) rfl ?_)|refine aT ?_)
  clear hB3 hB7
  replace hH:=hH.take 6
  replace hH:=aI hH
  have hB7:=hH.b 5 rfl
  skip
  clear hB7
  refine aO ?_
  refine aA (aJ 4 (vs:=(jH c r (some ⟨y,0,none⟩,16*c*(16*r)) (some ⟨u,0,none⟩,8*c*(8*r)) (some ⟨v,0,none⟩,8*c*(8*r))).cells.toArray) (s:=11) hH rfl rfl rfl (by rfl) (by rfl) (by simp [Value.oneCell']) (Ty.aF rfl) ?_)
  try clear hH
  intro _ hH
  replace hH:=aI hH
  refine aK ?_
  exact G9
abbrev P6:=P2 × P2 × P2
abbrev vcs (c r:Nat) (t:P6):List Value:=(jH c r t.1 t.2.1 t.2.2).cells
abbrev Ga (c r:Nat) (t:P6):cK:=(RV t.1 (16*c*(16*r))).and ((RV t.2.1 (8*c*(8*r))).and (RV t.2.2 (8*c*(8*r))))
theorem OE {A:Prop} {Y:Fr→P2→P2→P2→World→Prop} (Z:P2→P2→P2→World→Prop) (h1:(∀ σ a b d u,Z a b d u→Y σ a b d u)→A) (h2:∀ σ a b d u,Z a b d u→Y σ a b d u):A:=h1 h2
theorem DF {a:Option Addr} {vs:List Value}:∀ x∈(Rs a vs).fp,x∈dI a:=fun x hx=>by
 unfold Rs at hx
 simp only at hx
 split at hx
 ·cases hx
 ·exact hx
theorem H8 {c r:Nat} {t:P6} {w:World} (h:(Ga c r t).holds w):∃ f:FM,f.ok c r∧f.cells=vcs c r t∧f.rd w∧∀ x∈(rS f).fp,x∈(Ga c r t).fp:=by
 obtain ⟨⟨S1,hl1,hb1,h1⟩,⟨S2,hl2,hb2,h2⟩,S3,hl3,hb3,h3⟩:=h
 refine ⟨⟨c,r,⟨t.1.1,t.1.2,S1⟩,⟨t.2.1.1,t.2.1.2,S2⟩,⟨t.2.2.1,t.2.2.2,S3⟩⟩,⟨rfl,rfl,⟨hl1,hb1⟩,⟨hl2,hb2⟩,⟨hl3,hb3⟩⟩,rfl,⟨Own.sl h1,Own.sl h2,Own.sl h3⟩,fun x hx=>?_⟩
 rcases List.mem_append.1 hx with hx|hx
 ·exact List.mem_append.2 (.inl (DF x hx))
 rcases List.mem_append.1 hx with hx|hx
 ·exact List.mem_append.2 (.inr (List.mem_append.2 (.inl (DF x hx))))
 ·exact List.mem_append.2 (.inr (List.mem_append.2 (.inr (DF x hx))))
theorem E3 {c r:Nat} {w:World}:∀ {ts:List P6},(RZ (Ga c r) ts).holds w→∃ fs:List FM,fs.length=ts.length∧(∀ f∈fs,f.ok c r)∧fs.flatMap FM.cells=ts.flatMap (vcs c r)∧(∀ f∈fs,f.rd w)∧∀ f∈fs,∀ x∈(rS f).fp,x∈(RZ (Ga c r) ts).fp
 | [],_=>⟨[],rfl,by simp,rfl,by simp,by simp⟩
 | t::ts,h=>by
  obtain ⟨f,h1,h2,h3,h4⟩:=H8 (h t (by simp))
  obtain ⟨fs,g0,g1,g2,g3,g4⟩:=E3 (ts:=ts) (fun x hx=>h x (by simp [hx]))
  refine ⟨f::fs,by simp [g0],fun x hx=>?_,?_,fun x hx=>?_,fun x hx y hy=>?_⟩
  ·rcases List.mem_cons.1 hx with rfl|hx
   ·exact h1
   ·exact g1 x hx
  ·rw [List.flatMap_cons,List.flatMap_cons,g2,h2]
  ·rcases List.mem_cons.1 hx with rfl|hx
   ·exact h3
   ·exact g3 x hx
  ·rcases List.mem_cons.1 hx with rfl|hx
   ·exact List.mem_append.2 (.inl (h4 y hy))
   ·exact List.mem_append.2 (.inr (g4 x hx y hy))
theorem Cx {c r:Nat} {S:List Nat} {W w:World} {ts:List P6} {a:Option Addr} (h:Hp S W w [Rs a (ts.flatMap (vcs c r)),RZ (Ga c r) ts]):∃ fs:List FM,fs.length=ts.length∧(∀ f∈fs,f.ok c r)∧Hp S W w [Rs a (fs.flatMap FM.cells),RZ rS fs]:=by
 obtain ⟨fs,g0,g1,g2,g3,g4⟩:=E3 (h.at 1 rfl)
 refine ⟨fs,g0,g1,?_⟩
 rw [g2]
 exact h.as (r':=RZ rS fs) 1 rfl (fun x hx=>by
  obtain ⟨f,hf,hx⟩:=List.mem_flatMap.1 hx
  exact g4 f hf x hx) (fun _ f hf=>g3 f hf)
set_option maxRecDepth 20000 in
set_option maxHeartbeats 8000000 in
theorem tR {c r cap:Nat} {al:Option Addr} {l:List SM} {w:World} (hc:1≤c∧c≤8) (hr:1≤r∧r≤8) (hl:∀ s∈l,s.ok) (hL:cI w al (l.flatMap SM.cells)) (hR:∀ s∈l,s.rd w) (hl30:l.length≤30) :
  aX Tryz.prog 15 #[.int .i64 c,.int .i64 r,.slice al l.length cap] w fun x w'=>∃ (fs:List FM) (a:Option Addr) (cp:Nat),x=.slice a fs.length cp∧(1≤fs.length∧fs.length≤6)∧(∀ f∈fs,f.ok c r)∧Hp [] w w' [Rs a (fs.flatMap FM.cells),RZ rS fs]:=by
 refine aL (args:=[_,_,_]) Tryz.func15 rfl rfl Tryz.ntmps15 rfl ?_
 have hfm:=dQ (f:=SM.cells) (sz:=8) (l:=l) (fun _ _=>rfl)
 have hH:=Hp.start w
 replace hH:=(hH.nu (iA.HU (r:=Ga c r))).nu (iA.tY (e:=54) (sz:=11))
 replace hH:=aI hH
 refine aK ?_
 refine aV (G:=(Nat) × (List P6) × (Option Addr) × (Nat)) (fun|(i,ts,a,cp)=>l.length-i) 2305843009213687680 (fun|(i,ts,a,cp)=>[(7,.slice a i cp),(13,.int .i64 i)]) (fun|(i,ts,a,cp),w'=>i≤l.length∧i≤6∧ts.length=i∧Hp [] w w' [RZ (Ga c r) ts,Ro 54 11 a ts.length cp (ts.flatMap (vcs c r))]) (0,[],none,0) ⟨rfl,rfl,trivial⟩ ⟨by omega,by omega,rfl,hH⟩ ?_
 rintro ⟨i,ts,a,cp⟩ w' σ ⟨hi,hi6,htl,hH⟩ IH
 show WS _ _ _ _ _ (bQ [(7,.slice a i cp),(13,.int .i64 i)] _) _
 by_cases hil:i<l.length
 ·obtain ⟨s,hs⟩:∃ s,l[i]?=some s:=⟨_,List.getElem?_eq_getElem hil⟩
  have hsm:=List.mem_of_getElem? hs
  have hso:=hl s hsm
  have hat:=jV (f:=SM.cells) (sz:=8) (fun _ _=>rfl) hs
  have hSl:=hL.aH hH.ext
  repeat (first|refine aR ?_|(refine aD (by first|refine gE (sz:=8) rfl rfl hSl hfm (by decide) (Ty.sle rfl) (by omega)|refine bG (j:=i*8) (cs:=s.cells) rfl hSl hat rfl (Ty.aF rfl)) rfl ?_)|refine aT ?_)
  clear hSl
  refine aO ?_
  refine aA (aQ hH (Ty.bH rfl) rfl ?_)
  try clear hH
  intro _ b9 hH
  replace hH:=aI hH
  refine aK ?_
  refine aO ?_
  refine aA (aJ 2 (vs:=s.cells.toArray) (s:=8) hH rfl rfl rfl (by rfl) (by rfl) (by simp [Value.oneCell']) (Ty.aF rfl) ?_)
  try clear hH
  intro _ hH
  replace hH:=aI hH
  by_cases hi5:i<6
  ·have hB9:=hH.b 2 rfl
   repeat (first|refine aR ?_|(refine aD (by refine aE rfl hB9 rfl (Ty.aF rfl)) rfl ?_)|refine aT ?_)
   clear hB9
   refine aO ?_
   refine aA (aC ((B6 (c:=c) (r:=r) hc hr hso ((hR s hsm).aH hH.ext))) rfl rfl ?_)
   rintro _ _ ⟨y,u,v,rfl,hQ⟩
   replace hH:=hH.calls 0 hQ
   clear hQ
   replace hH:=aI hH
   refine aK ?_
   refine aA (aQ (zs:=Hi) hH (Ty.bH rfl) rfl ?_)
   clear hH
   intro _ b10 hH
   replace hH:=aI hH
   refine aK ?_
   refine aO ?_
   refine aA (aJ 6 (vs:=(jH c r y u v).cells.toArray) (s:=11) hH rfl rfl rfl (by rfl) (by rfl) (by simp [Value.oneCell']) (Ty.aF rfl) ?_)
   try clear hH
   intro _ hH
   replace hH:=aI hH
   have hB9:=hH.b 5 rfl
   apply OE (Z:=fun y u v u'=>Hp [] w u' [RV y (16*c*(16*r)),RV u (8*c*(8*r)),RV v (8*c*(8*r)),RZ (Ga c r) ts,Ro 54 11 a ts.length cp (ts.flatMap (vcs c r)),Rb b9 64 s.cells.toArray,Rb b10 54 (jH c r y u v).cells.toArray])
   ·intro key
    by_cases h0:i=0
    ·repeat (first|refine aR ?_|refine aT ?_)
     obtain ⟨y9,hy9⟩:∃ z,y=z:=⟨_,rfl⟩
     obtain ⟨u9,hu9⟩:∃ z,u=z:=⟨_,rfl⟩
     obtain ⟨v9,hv9⟩:∃ z,v=z:=⟨_,rfl⟩
     rw [hy9,hu9,hv9] at hH
     apply eL 2305843009213687680 [(7,.slice a i cp),(8,.int .i64 i),(9,pt b9),(10,pt b10),(13,.int .i64 i),(56,.slice a i cp)]
     ·exact ⟨rfl,rfl,rfl,rfl,rfl,rfl,trivial⟩
     ·repeat (first|((with_reducible apply eG.dX);· exact rfl)|((with_reducible apply eG.fK);· exact rfl)|((with_reducible apply eG.qI);· exact rfl)|(with_reducible apply eG.Ae)|((with_reducible apply eG.oW (W':=2305843009213687680));(· exact rfl);apply eG.refl))
     intro σ
     exact eU fun u' hu=>key σ y9 u9 v9 u' (hu▸hH)
    ·by_cases h4:s.seed % 4=0
     ·repeat (first|refine aR ?_|(refine aD (by first|refine aN rfl (Ty.bA rfl rfl)|refine aB rfl hB9 rfl (Ty.aF rfl)|refine dL (m:=s.seed) (n:=4) rfl rfl (by decide)) rfl ?_)|refine aT ?_)
      obtain ⟨y9,hy9⟩:∃ z,y=z:=⟨_,rfl⟩
      obtain ⟨u9,hu9⟩:∃ z,u=z:=⟨_,rfl⟩
      obtain ⟨v9,hv9⟩:∃ z,v=z:=⟨_,rfl⟩
      rw [hy9,hu9,hv9] at hH
      apply eL 2305843009213687680 [(7,.slice a i cp),(8,.int .i64 i),(9,pt b9),(10,pt b10),(13,.int .i64 i),(56,.slice a i cp)]
      ·exact ⟨rfl,rfl,rfl,rfl,rfl,rfl,trivial⟩
      ·repeat (first|((with_reducible apply eG.dX);· exact rfl)|((with_reducible apply eG.qI);· exact rfl)|(with_reducible apply eG.Ae)|((with_reducible apply eG.oW (W':=2305843009213687680));(· exact rfl);apply eG.refl))
      intro σ
      exact eU fun u' hu=>key σ y9 u9 v9 u' (hu▸hH)
     ·repeat (first|refine aR ?_|(refine aD (by first|refine aN rfl (Ty.bA rfl rfl)|refine aB rfl hB9 rfl (Ty.aF rfl)|refine dL (m:=s.seed) (n:=4) rfl rfl (by decide)) rfl ?_)|refine aT ?_)
      obtain ⟨t,ht⟩:∃ t,ts[i-1]?=some t:=⟨_,List.getElem?_eq_getElem (by omega)⟩
      have hat2:=jV (f:=vcs c r) (sz:=11) (fun _ _=>rfl) ht
      have hfm2:=dQ (f:=vcs c r) (sz:=11) (l:=ts) (fun _ _=>rfl)
      have hSo:=(hH.o 4 rfl).sl
      obtain ⟨f,hfo,hfc,hfrd,_⟩:=H8 (hH.at 3 rfl t (List.mem_of_getElem? ht))
      have him:(i:Int)-1=((i-1:Nat):Int):=by omega
      refine cM Ty.mixed 16 rfl (by kernel_rfl) rfl (fun w1 hx1=>?_)
      refine bE 0 hx1 ?_
      refine bE 1 hx1 ?_
      refine aY 2 hx1 rfl (fun w' hw'=>by refine (dM (m:=i) (n:=1) rfl rfl (by omega)).is (congrArg (Value.int .i64) him)) ?_
      refine aY 3 hx1 rfl (fun w' hw'=>by refine gE (sz:=11) rfl rfl (hSo.aH hw') (by rw [hfm2,htl]) (by decide) (Ty.sle rfl) (by omega)) ?_
      refine aY 4 hx1 rfl (fun w' hw'=>by refine bG (j:=(i-1)*11) (cs:=vcs c r t) rfl (hSo.aH hw') hat2 rfl (Ty.aF rfl)) ?_
      refine Gf ?_
      refine aY 6 hx1 rfl (fun w' hw'=>by refine aB rfl (hB9.aH hw') rfl (Ty.aF rfl)) ?_
      refine aY 7 hx1 rfl (fun w' hw'=>by refine dL (n:=9) rfl rfl (by decide)) ?_
      refine aY 8 hx1 rfl (fun w' hw'=>by refine eT rfl rfl rfl (by omega)) ?_
      refine aY 9 hx1 rfl (fun w' hw'=>by refine dM rfl rfl (by omega)) ?_
      refine Fu ?_
      refine aY 11 hx1 rfl (fun w' hw'=>by refine aB rfl (hB9.aH hw') rfl (Ty.aF rfl)) ?_
      refine aY 12 hx1 rfl (fun w' hw'=>by refine dL (n:=9) rfl rfl (by decide)) ?_
      refine aY 13 hx1 rfl (fun w' hw'=>by refine eT rfl rfl rfl (by omega)) ?_
      refine aY 14 hx1 rfl (fun w' hw'=>by refine dM rfl rfl (by omega)) ?_
      have hmv:=BE (w:=w1) (f:=f) (dx:=(s.Bn % 9:Nat)-4) (dy:=(s.Cn % 9:Nat)-4) hc hr (by omega) (by omega) hfo (hfrd.ext hx1)
      rw [hfc] at hmv
      refine bC 15 (by kernel_rfl) rfl rfl (aC hmv rfl rfl ?_)
      rintro _ w2 ⟨y2,u2,v2,rfl,hQ⟩
      refine ⟨hx1.bO hQ.ext,?_⟩
      refine aW (by kernel_rfl) ?_
      replace hH:=Hp.pick ((hH.aH hx1).calls 0 hQ) [0,1,2,6,7,8,9] (by decide)
      clear hx1 hQ hSo hmv hB9
      replace hH:=aI hH
      refine aO ?_
      refine aA (aJ 6 (vs:=(jH c r y2 u2 v2).cells.toArray) (s:=11) hH rfl rfl rfl (by rfl) (by rfl) (by simp [Value.oneCell']) (Ty.aF rfl) ?_)
      try clear hH
      intro _ hH
      replace hH:=aI hH
      have hB9:=hH.b 5 rfl
      have hB10:=hH.b 6 rfl
      repeat (first|refine aR ?_|(refine aD (by first|refine aN rfl (Ty.bA rfl rfl)|refine aB rfl hB9 rfl (Ty.aF rfl)|refine aE rfl hB10 rfl (Ty.aF rfl)|refine dL (n:=5) rfl rfl (by decide)|refine eT rfl rfl rfl (by omega)) rfl ?_))
      clear hB9 hB10
      refine aO ?_
      refine aA (aC ((tP (c:=c) (r:=r) (s:=s.seed) (mo:=s.A % 5) (y:=y2) (u:=u2) (v:=v2) hc.2 hr.2 hso.seed (by omega) (hH.jO 3))) rfl rfl ?_)
      rintro _ _ ⟨rfl,hQ⟩
      replace hH:=hH.calls 3 hQ
      clear hQ
      replace hH:=aI hH
      refine aK ?_
      apply eL 2305843009213687680 [(7,.slice a i cp),(8,.int .i64 i),(9,pt b9),(10,pt b10),(13,.int .i64 i),(56,.slice a i cp)]
      ·exact ⟨rfl,rfl,rfl,rfl,rfl,rfl,trivial⟩
      ·repeat (first|((with_reducible apply eG.dX);· exact rfl)|((with_reducible apply eG.qI);· exact rfl)|(with_reducible apply eG.Ae)|((with_reducible apply eG.oW (W':=2305843009213687680));(· exact rfl);apply eG.refl)|(apply eG.fK;· exact rfl))
      intro σ
      exact eU fun u' hu=>key σ y2 u2 v2 u' (hu▸hH)
   clear hH hB9
   rintro σ y u v w5 hH
   have hB10:=hH.b 6 rfl
   repeat ((refine aD (by refine aE rfl hB10 rfl (Ty.aF rfl)) rfl ?_))
   clear hB10
   refine aA (cN (out:=(jH c r y u v).cells) hH (Ty.sle rfl) (Ty.bH rfl) rfl rfl rfl (by decide) rfl ?_)
   clear hH
   intro _ b11 hH
   replace hH:=aI hH
   rw [htl] at hH
   refine aA (bZ 4 hH rfl (Ty.sle rfl) (Ty.bH rfl) rfl (Ty.gS rfl) (by decide) rfl rfl (hH.b 7 rfl).cX rfl (by simp [Value.oneCell']) (by omega) (by simp only [maxLen];omega) rfl ?_)
   clear hH
   intro _ a9 c9 hH
   replace hH:=hH.take 5
   replace hH:=aI hH
   replace hH:=(hH.merge 1 2 rfl rfl (by decide)).merge 0 1 rfl rfl (by decide)
   replace hH:=hH.as (r':=Ga c r (y,u,v)) 0 rfl (fun _ h=>h) (fun h=>⟨h.1,h.2.1.1,h.2.1.2.1⟩)
   replace hH:=RZ.add (r:=Ga c r) (e:=(y,u,v)) 0 1 (Hp.pick hH [1,0,2] (by decide)) rfl rfl (by decide)
   replace hH:=aI hH
   have htl2:(ts++[(y,u,v)]).length=i+1:=by simp [htl]
   have htc:ts.flatMap (vcs c r)++(jH c r y u v).cells=(ts++[(y,u,v)]).flatMap (vcs c r):=by simp
   rw [htc] at hH
   rw [show Ro 54 11 a9 (i+1) c9 ((ts++[(y,u,v)]).flatMap (vcs c r))=Ro 54 11 a9 (ts++[(y,u,v)]).length c9 ((ts++[(y,u,v)]).flatMap (vcs c r)) by rw [htl2]] at hH
   refine aK ?_
   refine IH (i+1,ts++[(y,u,v)],a9,c9) _ _ ?_ ?_ ?_ ?_
   ·simp only;omega
   ·exact ⟨rfl,rfl,trivial⟩
   ·exact cP
   ·exact ⟨by omega,by omega,htl2,hH⟩
  ·replace hH:=hH.take 2
   replace hH:=aI hH
   refine aK ?_
   refine aK ?_
   replace hH:=Hp.pick (Rs.of 1 hH rfl) [1,0] (by decide)
   replace hH:=aI hH
   obtain ⟨fs,hf0,hf1,hf2⟩:=Cx hH
   exact aM Tryz.func15 rfl ⟨fs,a,cp,by rw [hf0,htl];rfl,by omega,hf1,hf2⟩
 ·obtain rfl:i=l.length:=by omega
  clear IH
  by_cases h0:l.length=0
  ·refine aK ?_
   have hq1:=Qe hc.2 hr.2
   have hq2:=Qg hc.2 hr.2
   refine aO ?_
   refine aA (aC ((fZ (c:=c) (r:=r) (x:=100) hc.2 hr.2)) rfl rfl ?_)
   rintro _ _ ⟨y,u,v,rfl,hQ⟩
   replace hH:=hH.calls 0 hQ
   clear hQ
   replace hH:=aI hH
   replace hH:=yI 2 (yI 1 (yI 0 hH rfl (by omega) (by decide)) rfl (by omega) (by decide)) rfl (by omega) (by decide)
   replace hH:=aI hH
   refine aK ?_
   refine aA (cN (out:=(jH c r ((some ⟨y,0,none⟩,16*c*(16*r)):P2) ((some ⟨u,0,none⟩,8*c*(8*r)):P2) ((some ⟨v,0,none⟩,8*c*(8*r)):P2)).cells) hH (Ty.sle rfl) (Ty.bH rfl) rfl rfl rfl (by decide) rfl ?_)
   clear hH
   intro _ b11 hH
   replace hH:=aI hH
   rw [htl] at hH
   refine aA (bZ 4 hH rfl (Ty.sle rfl) (Ty.bH rfl) rfl (Ty.gS rfl) (by decide) rfl rfl (hH.b 5 rfl).cX rfl (by simp [Value.oneCell']) (by omega) (by simp only [maxLen];omega) rfl ?_)
   clear hH
   intro _ a9 c9 hH
   replace hH:=hH.take 5
   replace hH:=aI hH
   replace hH:=(hH.merge 1 2 rfl rfl (by decide)).merge 0 1 rfl rfl (by decide)
   replace hH:=hH.as (r':=Ga c r (((some ⟨y,0,none⟩,16*c*(16*r)):P2),((some ⟨u,0,none⟩,8*c*(8*r)):P2),((some ⟨v,0,none⟩,8*c*(8*r)):P2))) 0 rfl (fun _ h=>h) (fun h=>⟨h.1,h.2.1.1,h.2.1.2.1⟩)
   replace hH:=RZ.add (r:=Ga c r) (e:=(((some ⟨y,0,none⟩,16*c*(16*r)):P2),((some ⟨u,0,none⟩,8*c*(8*r)):P2),((some ⟨v,0,none⟩,8*c*(8*r)):P2))) 0 1 (Hp.pick hH [1,0,2] (by decide)) rfl rfl (by decide)
   replace hH:=aI hH
   have htl2:(ts++[(((some ⟨y,0,none⟩,16*c*(16*r)):P2),((some ⟨u,0,none⟩,8*c*(8*r)):P2),((some ⟨v,0,none⟩,8*c*(8*r)):P2))]).length=l.length+1:=by simp [htl]
   have htc:ts.flatMap (vcs c r)++(jH c r ((some ⟨y,0,none⟩,16*c*(16*r)):P2) ((some ⟨u,0,none⟩,8*c*(8*r)):P2) ((some ⟨v,0,none⟩,8*c*(8*r)):P2)).cells=(ts++[(((some ⟨y,0,none⟩,16*c*(16*r)):P2),((some ⟨u,0,none⟩,8*c*(8*r)):P2),((some ⟨v,0,none⟩,8*c*(8*r)):P2))]).flatMap (vcs c r):=by simp
   rw [htc] at hH
   refine aK ?_
   replace hH:=Hp.pick (Rs.of 1 hH rfl) [1,0] (by decide)
   replace hH:=aI hH
   obtain ⟨fs,hf0,hf1,hf2⟩:=Cx hH
   exact aM Tryz.func15 rfl ⟨fs,a9,c9,by rw [hf0,htl2];rfl,by omega,hf1,hf2⟩
  ·refine aK ?_
   refine aK ?_
   replace hH:=Hp.pick (Rs.of 1 hH rfl) [1,0] (by decide)
   replace hH:=aI hH
   obtain ⟨fs,hf0,hf1,hf2⟩:=Cx hH
   exact aM Tryz.func15 rfl ⟨fs,a,cp,by rw [hf0,htl];rfl,by omega,hf1,hf2⟩
theorem Oo:SH.zero.fit.c=1∧SH.zero.fit.r=1:=⟨by kernel_rfl,by kernel_rfl⟩
theorem Mh {S:List Nat} {W w:World} {H:List cK} {c r y u z x:Nat} (hx:x<256) (h:Hp S W w (QI c r y u z x++H)):∃ f:FM,f.ok c r∧f.cells=LK c r y u z∧f.rd w:=by
 have hb:∀ n,gR (List.replicate n x):=fun n y hy=>by rw [List.eq_of_mem_replicate hy];exact hx
 have e:∀ n,(List.replicate n x).map B=List.replicate n (Value.int .u8 x):=fun n=>by rw [List.map_replicate]
 have h0:=(h.b 0 rfl).cX
 have h1:=(h.b 1 rfl).cX
 have h2:=(h.b 2 rfl).cX
 refine ⟨⟨c,r,⟨some ⟨y,0,none⟩,16*c*(16*r),List.replicate (16*c*(16*r)) x⟩,⟨some ⟨u,0,none⟩,8*c*(8*r),List.replicate (8*c*(8*r)) x⟩,⟨some ⟨z,0,none⟩,8*c*(8*r),List.replicate (8*c*(8*r)) x⟩⟩,⟨rfl,rfl,⟨List.length_replicate,hb _⟩,⟨List.length_replicate,hb _⟩,⟨List.length_replicate,hb _⟩⟩,rfl,?_,?_,?_⟩
 ·rw [e];exact h0
 ·rw [e];exact h1
 ·rw [e];exact h2
theorem Jg {inter:Bool} {hq:Int} {gs:List GR} (h:Dh inter hq 0 gs 1):gs.length=1:=by
 have h1:=kP h
 match gs,h with
 | [],h=>cases (show (0:Nat)=1 from h)
 | [_],_=>rfl
 | _::_::_,_=>simp at h1
set_option maxRecDepth 20000 in
set_option maxHeartbeats 8000000 in
theorem CG (w:World):aX Tryz.prog 4 #[] w fun v w'=>v=.bool true∧Ext [] w w':=by
 refine aL (args:=[]) Tryz.func4 rfl rfl Tryz.ntmps4 rfl ?_
 have hH:=Hp.start w
 repeat (first|refine aR ?_|(refine aD (by refine bR (cs:=Ac SH.zero 0 0 0 false false false 0 0) (Ty.bH rfl) (Ty.iJ rfl) (by kernel_rfl)) rfl ?_)|refine aT ?_)
 refine aO ?_
 refine aA (aC ((qT (h:=SH.zero) SH.nP)) rfl rfl ?_)
 rintro _ _ ⟨C,rfl,hC,⟨hCc,_⟩,⟨hCr,_⟩,_,hE⟩
 replace hH:=hH.aH hE
 clear hE
 rw [Oo.1] at hCc
 rw [Oo.2] at hCr
 refine aK ?_
 refine aO ?_
 refine aA (aC ((fZ (c:=1) (r:=1) (x:=50) (by decide) (by decide))) rfl rfl ?_)
 rintro _ _ ⟨y,u,z,rfl,hQ⟩
 replace hH:=hH.calls 0 hQ
 clear hQ
 replace hH:=aI hH
 refine aK ?_
 refine aA (cN (out:=LK 1 1 y u z) hH (Ty.sle rfl) (Ty.bH rfl) rfl rfl rfl (by decide) rfl ?_)
 clear hH
 intro w8 b8 hH
 replace hH:=aI hH
 refine aK ?_
 obtain ⟨f,hfo,hfc,hfr⟩:=Mh (c:=1) (r:=1) (x:=50) (by decide) hH
 have hA:=(hH.b 3 rfl).cX
 have hA2:cI w8 (some ⟨b8,0,none⟩) ([f].flatMap FM.cells):=by
  show cI w8 _ (f.cells++[])
  rw [List.append_nil,hfc];exact hA
 refine aO ?_
 refine aA (aC ((iZ (C:=C) (fs:=[f]) (c:=1) (r:=1) hC (by rw [hCc];decide) (by rw [hCr];decide) (by decide) (by decide) (by simp) (fun x hx=>by simp at hx;rw [hx];exact hfo) hA2 (fun x hx=>by simp at hx;rw [hx];exact hfr))) rfl rfl ?_)
 rintro _ _ ⟨s,a2,c2,rfl,hso,hsl,hQ⟩
 replace hH:=hH.calls 0 hQ
 clear hQ hA hA2
 replace hH:=aI hH
 refine aK ?_
 refine aA (aQ (zs:=sz) hH (Ty.bH rfl) rfl ?_)
 clear hH
 intro _ b1 hH
 replace hH:=aI hH
 have dW:=gW (s:=s) hso.ho
 refine aK ?_
 refine aA (aJ 6 (vs:=s.cells.toArray) (s:=132) hH rfl rfl rfl (by rw [List.size_toArray,dW]) (by kernel_rfl) (iP s) (Ty.aF rfl) ?_)
 clear hH
 intro _ hH
 replace hH:=aI hH
 obtain ⟨p,hp⟩:∃ p,s.ps=[p]:=by
  match s.ps,hsl with
  | [p],_=>exact ⟨p,rfl⟩
 have hB1:=hH.b 6 rfl
 have hSp:=hH.s 0 rfl
 have hpl:s.ps.length=1:=hsl
 have hg1:p.gs.length=1:=Jg (hso.ps 0 p (by rw [hp];rfl)).gs
 have hst1:=Ah (s:=s) hso.ho
 rw [hpl] at hst1
 rw [hp] at hSp
 repeat (first|refine aR ?_|(refine aD (by first|refine aN rfl (Ty.bA rfl rfl)|refine aB rfl hB1 hst1 (Ty.aF rfl)|refine gE (sz:=5) rfl rfl hSp rfl (by decide) (Ty.sle rfl) (by omega)|refine aU (v:=.slice p.a p.gs.length p.cap) rfl hSp rfl (Ty.aF rfl)) rfl ?_)|refine aT ?_)
 refine aO ?_
 refine aA (aC ((pZ (p:=5) (c:=3) (by decide))) rfl rfl ?_)
 rintro _ _ ⟨rfl,rfl⟩
 refine aK ?_
 exact aM Tryz.func4 rfl ⟨rfl,hH.ext⟩
theorem Bf {s:SM} {w:World}:aX Tryz.prog 14 #[.agg s.cells.toArray] w fun v w'=>v=.bool (decide ((s.S.length:Int)≤2000))∧Ext [] w w':=by
 refine aL (args:=[_]) Tryz.func14 rfl rfl Tryz.ntmps14 rfl ?_
 have hH:=Hp.start w
 refine aK ?_
 refine aO ?_
 refine aA (bI (cs:=s.cells.toArray) hH rfl rfl rfl ?_)
 try clear hH
 intro _ b1 hH
 replace hH:=aI hH
 have hB1:=hH.b 0 rfl
 repeat (first|refine aR ?_|(refine aD (by first|refine aN rfl (Ty.bA rfl rfl)|refine aB rfl hB1 rfl (Ty.aF rfl)) rfl ?_)|refine aT ?_)
 exact aM Tryz.func14 rfl ⟨rfl,hH.ext⟩
theorem Bc {cap:Nat} {al:Option Addr} {l:List SM} {w:World} (hL:cI w al (l.flatMap SM.cells)) (hlen:(l.length:Int)≤9223372036854775807) :
  aX Tryz.prog 5 #[.slice al l.length cap] w fun v w'=>(v=.bool true∧(∀ s∈l,s.S.length≤2000)∧l.length≤30∨v=.bool false)∧Ext [] w w':=by
 refine aL (args:=[_]) Tryz.func5 rfl rfl Tryz.ntmps5 rfl ?_
 have hfm:=dQ (f:=SM.cells) (sz:=8) (l:=l) (fun _ _=>rfl)
 have hH:=Hp.start w
 refine aK ?_
 refine aV (G:=(Nat)) (fun i=>l.length-i) 32660 (fun i=>[(7,.int .i64 i)]) (fun i w'=>i≤l.length∧(∀ j s,l[j]?=some s→j<i→s.S.length≤2000)∧Hp [] w w' []) (0) ⟨rfl,trivial⟩ ⟨by omega,fun _ _ _ h=>by omega,hH⟩ ?_
 rintro i w' σ ⟨hi,cW,hH⟩ IH
 show WS _ _ _ _ _ (bQ [(7,.int .i64 i)] _) _
 by_cases hil:i<l.length
 ·obtain ⟨s,hs⟩:∃ s,l[i]?=some s:=⟨_,List.getElem?_eq_getElem hil⟩
  have hat:=jV (f:=SM.cells) (sz:=8) (fun _ _=>rfl) hs
  have hSl:=hL.aH hH.ext
  repeat (first|refine aR ?_|(refine aD (by first|refine gE (sz:=8) rfl rfl hSl hfm (by decide) (Ty.sle rfl) (by omega)|refine bG (j:=i*8) (cs:=s.cells) rfl hSl hat rfl (Ty.aF rfl)) rfl ?_)|refine aT ?_)
  clear hSl
  refine aO ?_
  refine aA (aQ hH (Ty.bH rfl) rfl ?_)
  try clear hH
  intro _ b4 hH
  replace hH:=aI hH
  refine aK ?_
  refine aO ?_
  refine aA (aJ 0 (vs:=s.cells.toArray) (s:=8) hH rfl rfl rfl (by rfl) (by rfl) (by simp [Value.oneCell']) (Ty.aF rfl) ?_)
  try clear hH
  intro _ hH
  replace hH:=aI hH
  have hB4:=hH.b 0 rfl
  repeat (first|refine aR ?_|(refine aD (by refine aE rfl hB4 rfl (Ty.aF rfl)) rfl ?_))
  clear hB4
  refine aO ?_
  refine aA (aC (Bf) rfl rfl ?_)
  rintro _ _ ⟨rfl,hE⟩
  replace hH:=hH.aH hE
  clear hE
  by_cases h2:(s.S.length:Int)≤2000
  ·refine aK ?_
   replace hH:=hH.take 0
   replace hH:=aI hH
   refine IH (i+1) _ _ ?_ ?_ ?_ ?_
   ·omega
   ·exact ⟨rfl,trivial⟩
   ·exact cP
   ·exact ⟨by omega,fun j s' hj hji=>(by
    by_cases h:j=i
    ·rw [h,hs] at hj
     obtain rfl:s=s':=Option.some.inj hj
     omega
    ·exact cW j s' hj (by omega)),hH⟩
  ·refine aK ?_
   exact aM Tryz.func5 rfl ⟨.inr rfl,hH.ext⟩
 ·obtain rfl:i=l.length:=by omega
  clear IH
  refine aK ?_
  refine aM Tryz.func5 rfl ⟨?_,hH.ext⟩
  by_cases h3:(l.length:Int)≤30
  ·refine .inl ⟨congrArg Value.bool (decide_eq_true h3),fun s hs=>?_,by omega⟩
   obtain ⟨j,hj⟩:=List.mem_iff_getElem?.1 hs
   exact cW j s hj (List.getElem?_eq_some_iff.1 hj).1
  ·exact .inr (congrArg Value.bool (decide_eq_false h3))
end Go.Proofs.YtdbnmbkjmeepkaaGreatDoor
