/- A part of the proof of the card of TopText; no condition. -/
import Derived.Test.YtdbnmbkjmeepkaaGreatDoorT10
import Derived.Test.YtdbnmbkjmeepkaaGreatDoorT11
namespace Go.Proofs.YtdbnmbkjmeepkaaGreatDoor
open Go Go.K Go.P Go.RowKit Go.Proofs
theorem Jj {r:Nat} {x:Int} (h:Cl (r,x)):Cr x-1=(GZ x:Nat)∧-2305843009213693952≤x∧x≤2305843009213693952:=by
 obtain ⟨_,h2,h3,h4⟩:=h
 simp only at h2 h3 h4
 unfold GZ
 have:0<Cr x:=by unfold Cr;split<;>omega
 omega
theorem Lb {ps:List (Nat × Int)} (hg:GB ps) {i:Nat} (hi:i<ps.length):∃ (r:Nat) (x:Int) (b:Bool),((pA ps).drop (i*3)).take 3=G4 r x b∧Cl (r,x)∧b=decide (i+1=ps.length)∧oP ((mk ps).take (i+1))=oP ((mk ps).take i)++I3 b (r,x):=by
 have hl:i<(mk ps).length:=by rw [vF];exact hi
 have hm:=Dt ps i hi
 have hs:=HX (mk ps) hl
 rw [List.getElem?_eq_getElem hl] at hm
 have hm2:=Option.some.inj hm
 rw [hm2] at hs
 exact ⟨ps[i].1,ps[i].2,_,Mt ps i hi,hg.ok _ (List.getElem_mem hi),rfl,hs⟩
theorem Hf {ps:List (Nat × Int)} (hg:GB ps) (i:Nat):(oP ((mk ps).take i)).length≤3200:=by
 have h1:=yL hg
 have h2:=hg.len
 have e:oP (mk ps)=oP ((mk ps).take i)++oP ((mk ps).drop i):=by rw [← ED,List.take_append_drop]
 rw [FE,e,List.length_append] at h1
 omega
set_option maxRecDepth 20000 in
set_option maxHeartbeats 4000000 in
theorem GP {p c n0 c0:Nat} {a ax:Option Addr} {bs:List Bool} {ps:List (Nat × Int)} {w:World} (hg:GB ps) (hn:ps.length=n0) (hbl:bs.length≤100000000) (hS:cI w ax (pA ps)) (hR:(Rw p a c bs).holds w) (hd:∀ s∈(Rw p a c bs).fp,s ∉ dI ax) :
  aX Tryz.prog 177 #[pt p,.slice ax n0 c0] w fun v w'=>v=.int .i64 0∧∃ a' c',jA (Rw p a c bs) (Rw p a' c' (bs++bb ps)) w w':=by
 subst hn
 refine aL (args:=[_,_]) Tryz.func177 rfl rfl Tryz.ntmps177 rfl ?_
 have hH:=Hp.fI hR
 have hne:0<ps.length:=by cases ps;exact absurd rfl hg.ne;simp
 have h64:=hg.len
 have hle:=uI ps
 repeat (first|refine aR ?_|(refine aD (by refine gF rfl rfl (.inr rfl) CY) rfl ?_)|refine aT ?_)
 refine aV (G:=(Nat)) (fun i=>ps.length-i) 2199019061360 (fun i=>[(22,.int .i64 i)]) (fun i w'=>i≤ps.length∧Hp (Rw p a c bs).fp w w' [Rw p a c bs]) (0) ⟨rfl,trivial⟩ ⟨by omega,hH⟩ ?_
 rintro i w' σ ⟨hi,hH⟩ IH
 show WS _ _ _ _ _ (bQ [(22,.int .i64 i)] _) _
 have hS1:=hH.Of hS hd
 by_cases hlt:i<ps.length
 ·obtain ⟨r,x,b,hev,hok,hb,_⟩:=Lb hg hlt
  have hbI:b=decide ((i:Int)=(ps.length:Int)-1):=by rw [hb];congr 1;exact propext ⟨fun h=>by omega,fun h=>by omega⟩
  repeat (first|refine aR ?_|(refine aD (by first|refine gE rfl rfl hS1 hle (by decide) (Ty.sle rfl) (by omega)|refine bG rfl hS1 hev rfl (Ty.aF rfl)) rfl ?_)|refine aT ?_)
  refine aA (aQ hH (Ty.bH rfl) rfl ?_)
  try clear hH
  intro w1 b6 hH
  replace hH:=aI hH
  refine aK ?_
  refine aA (aJ 1 hH rfl rfl rfl rfl rfl (E6 _ _ _) (Ty.aF rfl) ?_)
  clear hH
  intro w2 hH
  replace hH:=aI hH
  have hB6:cL w2 b6 312 (G4 r x b).toArray:=hH.b 1 rfl
  repeat (first|refine aR ?_|(refine aD (by refine aE rfl hB6 rfl (Ty.aF rfl)) rfl ?_))
  refine aO ?_
  refine aA (aC (CH) rfl rfl ?_)
  rintro v w3 ⟨rfl,hE⟩
  replace hH:=hH.aH hE
  clear hE hB6
  rw [decide_eq_true hok]
  have hB6:cL w3 b6 312 (G4 r x b).toArray:=hH.b 1 rfl
  replace hH:=hH.take 1
  replace hH:=aI hH
  repeat (first|refine aR ?_|(refine aD (by first|refine aN rfl (Ty.bA rfl rfl)|refine aB rfl hB6 rfl (Ty.aF rfl)|refine KT rfl rfl (by kernel_rfl) hbI) rfl ?_)|refine aT ?_)
  refine IH (i+1) _ _ ?_ ?_ ?_ ?_
  ·omega
  ·exact ⟨rfl,trivial⟩
  ·exact cP
  ·exact ⟨by omega,hH⟩
 ·clear IH
  refine aK ?_
  refine aV (G:=(Nat) × (Option Addr) × (Nat)) (fun|(j,ao,co)=>ps.length-j) 18446735277616530176 (fun|(j,ao,co)=>[(43,.int .i64 j)]) (fun|(j,ao,co),w'=>j≤ps.length∧Hp (Rw p a c bs).fp w w' [Rw p ao co (bs++oP ((mk ps).take j))]) (0,a,c) ⟨rfl,trivial⟩ ⟨by omega,by simpa [oP] using hH⟩ ?_
  rintro ⟨j,ao,co⟩ w' σ ⟨hj,hH⟩ IH
  show WS _ _ _ _ _ (bQ [(43,.int .i64 j)] _) _
  have hS2:=hH.Of hS hd
  by_cases hlt:j<ps.length
  ·obtain ⟨r,x,b,hev,hok,_,hnx⟩:=Lb hg hlt
   obtain ⟨hsg,hx1,hx2⟩:=Jj hok
   have hnum:=hok.num b
   simp only at hnum
   have hel:=Hf hg j
   have hel2:=Hf hg (j+1)
   rw [hnx,List.length_append,I3,List.length_append] at hel2
   repeat (first|refine aR ?_|(refine aD (by first|refine gE rfl rfl hS2 hle (by decide) (Ty.sle rfl) (by omega)|refine bG rfl hS2 hev rfl (Ty.aF rfl)) rfl ?_)|refine aT ?_)
   refine aA (aQ hH (Ty.bH rfl) rfl ?_)
   try clear hH
   intro w1 b8 hH
   replace hH:=aI hH
   refine aK ?_
   refine aA (aJ 1 hH rfl rfl rfl rfl rfl (E6 _ _ _) (Ty.aF rfl) ?_)
   clear hH
   intro w2 hH
   replace hH:=aI hH
   have hB8:cL w2 b8 312 (G4 r x b).toArray:=hH.b 1 rfl
   have hr63:r≤63:=hok.1
   have hm1:(2:Int)*(r:Int)=((2*r:Nat):Int):=by simp
   have hm2:((2*r:Nat):Int)+1=((2*r+1:Nat):Int):=by simp
   cases b with
   | true =>
    repeat (first|refine aR ?_|(refine aD (by first|refine aN rfl (Ty.bA rfl rfl)|refine aB rfl hB8 rfl (Ty.aF rfl)|refine (bN rfl rfl (by omega)).is (congrArg (Value.int .i64) hm1)|refine (cT rfl rfl (by omega)).is (congrArg (Value.int .i64) hm2)) rfl ?_)|refine aT ?_)
    refine aO ?_
    refine aA (aC (jJ (n:=2*r+true.toNat) (by omega) (by rw [List.length_append];omega) (hH.at 0 rfl)) rfl rfl ?_)
    rintro v w3 ⟨rfl,a3,c3,hU⟩
    replace hH:=hH.up 0 rfl hU
    clear hU
    replace hH:=aI hH
    have hB8:cL w3 b8 312 (G4 r x true).toArray:=hH.b 1 rfl
    repeat (first|refine aR ?_|(refine aD (by first|refine aN rfl (Ty.bA rfl rfl)|refine aB rfl hB8 rfl (Ty.aF rfl)) rfl ?_)|refine aT ?_)
    refine aO ?_
    refine aA (aC (kL ⟨hx1,hx2⟩) rfl rfl ?_)
    rintro v w4 ⟨rfl,rfl⟩
    repeat ((refine aD (by refine (dM rfl rfl (by omega)).is (congrArg (Value.int .i64) hsg)) rfl ?_))
    refine aO ?_
    refine aA (aC (jJ (n:=GZ x) (by omega) (by simp at hel2 ⊢;omega) (hH.at 0 rfl)) rfl rfl ?_)
    rintro v w5 ⟨rfl,a5,c5,hU⟩
    replace hH:=(hH.up 0 rfl hU).take 1
    clear hU
    replace hH:=aI hH
    rw [List.append_assoc,List.append_assoc,show rv (2*r+true.toNat)++rv (GZ x)=I3 true (r,x) from rfl,← hnx] at hH
    refine aK ?_
    refine IH (j+1,a5,c5) _ _ ?_ ?_ ?_ ?_
    ·simp only;omega
    ·exact ⟨rfl,trivial⟩
    ·exact cP
    ·exact ⟨by omega,hH⟩
   | false =>
    repeat (first|refine aR ?_|(refine aD (by first|refine aN rfl (Ty.bA rfl rfl)|refine aB rfl hB8 rfl (Ty.aF rfl)|refine (bN rfl rfl (by omega)).is (congrArg (Value.int .i64) hm1)) rfl ?_)|refine aT ?_)
    refine aO ?_
    refine aA (aC (jJ (n:=2*r+false.toNat) (by omega) (by rw [List.length_append];omega) (hH.at 0 rfl)) rfl rfl ?_)
    rintro v w3 ⟨rfl,a3,c3,hU⟩
    replace hH:=hH.up 0 rfl hU
    clear hU
    replace hH:=aI hH
    have hB8:cL w3 b8 312 (G4 r x false).toArray:=hH.b 1 rfl
    repeat (first|refine aR ?_|(refine aD (by first|refine aN rfl (Ty.bA rfl rfl)|refine aB rfl hB8 rfl (Ty.aF rfl)) rfl ?_)|refine aT ?_)
    refine aO ?_
    refine aA (aC (kL ⟨hx1,hx2⟩) rfl rfl ?_)
    rintro v w4 ⟨rfl,rfl⟩
    repeat ((refine aD (by refine (dM rfl rfl (by omega)).is (congrArg (Value.int .i64) hsg)) rfl ?_))
    refine aO ?_
    refine aA (aC (jJ (n:=GZ x) (by omega) (by simp at hel2 ⊢;omega) (hH.at 0 rfl)) rfl rfl ?_)
    rintro v w5 ⟨rfl,a5,c5,hU⟩
    replace hH:=(hH.up 0 rfl hU).take 1
    clear hU
    replace hH:=aI hH
    rw [List.append_assoc,List.append_assoc,show rv (2*r+false.toNat)++rv (GZ x)=I3 false (r,x) from rfl,← hnx] at hH
    refine aK ?_
    refine IH (j+1,a5,c5) _ _ ?_ ?_ ?_ ?_
    ·simp only;omega
    ·exact ⟨rfl,trivial⟩
    ·exact cP
    ·exact ⟨by omega,hH⟩
  ·obtain rfl:j=ps.length:=by omega
   rw [List.take_of_length_le (by rw [vF];omega),← FE] at hH
   refine aK ?_
   exact aM Tryz.func177 rfl ⟨rfl,ao,co,hH.dX 0 rfl⟩
theorem Fp (k:Nat) (s:RS):Bm k s=Nc k s:=rfl
set_option maxHeartbeats 2000000 in
theorem kE (h:PH) (w:World):aX Tryz.prog 46 #[h.v] w fun v w'=>v=.int .i64 h.err∧Ext [] w w':=by
 refine aL (args:=[_]) Tryz.func46 rfl rfl Tryz.ntmps46 rfl ?_
 obtain ⟨id,inter,down,qp⟩:=h
 have hH:=Hp.start w
 refine aK ?_
 refine aA (bI (cs:=#[.int .i64 id,.bool inter,.bool down,.int .i64 qp]) hH rfl rfl rfl ?_)
 try clear hH
 intro w1 b hH
 have hB:cL w1 b 57 #[.int .i64 id,.bool inter,.bool down,.int .i64 qp]:=hH.b 0 rfl
 unfold PH.err
 simp only
 by_cases h1:id<0
 ·rw [if_pos (.inl h1)]
  repeat (first|refine aR ?_|(refine aD (by first|refine aN rfl (Ty.bA rfl rfl)|refine aB rfl hB rfl (Ty.aF rfl)) rfl ?_)|refine aT ?_)
  exact C0
 by_cases h2:65535<id
 ·rw [if_pos (.inr h2)]
  repeat (first|refine aR ?_|(refine aD (by first|refine aN rfl (Ty.bA rfl rfl)|refine aB rfl hB rfl (Ty.aF rfl)) rfl ?_)|refine aT ?_)
  exact C0
 rw [if_neg (by omega)]
 by_cases h3:qp<1
 ·rw [if_pos (.inl h3)]
  repeat (first|refine aR ?_|(refine aD (by first|refine aN rfl (Ty.bA rfl rfl)|refine aB rfl hB rfl (Ty.aF rfl)) rfl ?_)|refine aT ?_)
  exact C0
 by_cases h4:31<qp
 ·rw [if_pos (.inr h4)]
  repeat (first|refine aR ?_|(refine aD (by first|refine aN rfl (Ty.bA rfl rfl)|refine aB rfl hB rfl (Ty.aF rfl)) rfl ?_)|refine aT ?_)
  exact C0
 rw [if_neg (by omega)]
 cases down with
 | false =>
  repeat (first|refine aR ?_|(refine aD (by first|refine aN rfl (Ty.bA rfl rfl)|refine aB rfl hB rfl (Ty.aF rfl)) rfl ?_)|refine aT ?_)
  exact C0
 | true=>cases inter with
  | true =>
   repeat (first|refine aR ?_|(refine aD (by first|refine aN rfl (Ty.bA rfl rfl)|refine aB rfl hB rfl (Ty.aF rfl)) rfl ?_)|refine aT ?_)
   exact C0
  | false =>
   repeat (first|refine aR ?_|(refine aD (by first|refine aN rfl (Ty.bA rfl rfl)|refine aB rfl hB rfl (Ty.aF rfl)) rfl ?_)|refine aT ?_)
   exact C0
set_option maxHeartbeats 1000000 in
theorem F5 {h:PH} {p c:Nat} {a:Option Addr} {bs:List Bool} {w:World} (he:h.err=0) (hbl:bs.length≤1000000000) (hR:(Rw p a c bs).holds w) :
  aX Tryz.prog 90 #[h.v,pt p] w fun v w'=>v=.int .i64 0∧∃ a' c',jA (Rw p a c bs) (Rw p a' c' (bs++h.bits)) w w':=by
 refine aL (args:=[_,_]) Tryz.func90 rfl rfl Tryz.ntmps90 rfl ?_
 have hk:=(PH.AN h).1 he
 have hH:=Hp.fI hR
 refine aK ?_
 refine aA (bI (cs:=h.cells.toArray) hH rfl rfl rfl ?_)
 try clear hH
 intro w1 b hH
 replace hH:=aI hH
 have hB:cL w1 b 57 h.cells.toArray:=hH.b 1 rfl
 repeat (first|refine aR ?_|(refine aD (by refine aE rfl hB rfl (Ty.aF rfl)) rfl ?_)|refine aT ?_)
 refine aO ?_
 refine aA (aC (kE h w1) rfl rfl ?_)
 rintro v w2 ⟨rfl,hE⟩
 replace hH:=hH.aH hE
 rw [he]
 obtain ⟨id,inter,down,qp⟩:=h
 simp only at hk
 obtain ⟨⟨hi1,hi2⟩,⟨hq1,hq2⟩,_⟩:=hk
 obtain ⟨n,rfl⟩:=Int.eq_ofNat_of_zero_le hi1
 obtain ⟨m,rfl⟩:=Int.eq_ofNat_of_zero_le (show 0≤qp by omega)
 have hB:cL w2 b 57 #[.int .i64 (n:Nat),.bool inter,.bool down,.int .i64 (m:Nat)]:=hH.b 1 rfl
 repeat (first|refine aR ?_|(refine aD (by first|refine aN rfl (Ty.bA rfl rfl)|refine aB rfl hB rfl (Ty.aF rfl)) rfl ?_)|refine aT ?_)
 refine aO ?_
 refine aA (aC (cH (n:=n) (s:=16) (by omega) (by decide) (by omega) (hH.at 0 rfl)) rfl rfl ?_)
 rintro v w3 ⟨rfl,a3,c3,hU⟩
 replace hH:=hH.up 0 rfl hU
 replace hH:=aI hH
 have hB:cL w3 b 57 #[.int .i64 (n:Nat),.bool inter,.bool down,.int .i64 (m:Nat)]:=hH.b 1 rfl
 repeat (first|refine aR ?_|(refine aD (by first|refine aN rfl (Ty.bA rfl rfl)|refine aB rfl hB rfl (Ty.aF rfl)) rfl ?_)|refine aT ?_)
 refine aO ?_
 refine aA (aC (iI (b:=inter) (by simp [cA];omega) (hH.at 0 rfl)) rfl rfl ?_)
 rintro v w4 ⟨rfl,a4,c4,hU⟩
 replace hH:=hH.up 0 rfl hU
 replace hH:=aI hH
 have hB:cL w4 b 57 #[.int .i64 (n:Nat),.bool inter,.bool down,.int .i64 (m:Nat)]:=hH.b 1 rfl
 repeat (first|refine aR ?_|(refine aD (by first|refine aN rfl (Ty.bA rfl rfl)|refine aB rfl hB rfl (Ty.aF rfl)) rfl ?_)|refine aT ?_)
 refine aO ?_
 refine aA (aC (iI (b:=down) (by simp [cA];omega) (hH.at 0 rfl)) rfl rfl ?_)
 rintro v w5 ⟨rfl,a5,c5,hU⟩
 replace hH:=hH.up 0 rfl hU
 replace hH:=aI hH
 have hB:cL w5 b 57 #[.int .i64 (n:Nat),.bool inter,.bool down,.int .i64 (m:Nat)]:=hH.b 1 rfl
 repeat (first|refine aR ?_|(refine aD (by first|refine aN rfl (Ty.bA rfl rfl)|refine aB rfl hB rfl (Ty.aF rfl)) rfl ?_)|refine aT ?_)
 refine aO ?_
 refine aA (aC (cH (n:=m) (s:=5) (by omega) (by decide) (by simp [cA];omega) (hH.at 0 rfl)) rfl rfl ?_)
 rintro v w6 ⟨rfl,a6,c6,hU⟩
 replace hH:=hH.up 0 rfl hU
 replace hH:=aI hH
 refine aK ?_
 refine aM Tryz.func90 rfl ⟨rfl,a6,c6,?_⟩
 have e:bs++(PH.mk (n:Nat) inter down (m:Nat)).bits=bs++nb n 16++[inter]++[down]++nb m 5:=by simp [PH.bits]
 rw [e]
 exact hH.dX 0 rfl
def I7 (h:PH) (f c:Int) (va vb:Value):List Value:=h.cells++[.int .i64 f,.int .i64 c,va,vb]
abbrev K1 (w:World) (b:Nat) (h:PH) (f c:Int) (a1:Option Addr) (n1 c1:Nat) (a2:Option Addr) (n2 c2:Nat):Prop :=
 cL w b 125 #[.int .i64 h.id,.bool h.inter,.bool h.down,.int .i64 h.qp,.int .i64 f,.int .i64 c,.slice a1 n1 c1,.slice a2 n2 c2]
theorem Eg {w:World} {b:Nat} {h:PH} {f c:Int} {va vb:Value} (hB:cL w b 125 (I7 h f c va vb).toArray):cI w (some ⟨b,0,none⟩) (I7 h f c va vb):=hB.cX
set_option maxHeartbeats 4000000 in
theorem zR {h:PH} {f c all:Int} {a1 a2:Option Addr} {n1 c1 n2 c2:Nat} {w:World} (cW:-9223372036854775808≤all∧all≤9223372036854775807) :
  aX Tryz.prog 89 #[.agg (I7 h f c (.slice a1 n1 c1) (.slice a2 n2 c2)).toArray,.int .i64 all] w fun v w'=>v=.int .i64 (hJ h f c n1 n2 all:Nat)∧Ext [] w w':=by
 refine aL (args:=[_,_]) Tryz.func89 rfl rfl Tryz.ntmps89 rfl ?_
 have hH:=Hp.start w
 refine aK ?_
 refine aA (bI (cs:=(I7 h f c (.slice a1 n1 c1) (.slice a2 n2 c2)).toArray) hH rfl rfl rfl ?_)
 try clear hH
 intro w1 b hH
 have hS:=Eg (hH.b 0 rfl)
 repeat (first|refine aR ?_|(refine aD (by first|refine aN rfl (Ty.bA rfl rfl)|refine bG (cs:=h.cells) (j:=0) rfl hS rfl rfl (Ty.aF rfl)) rfl ?_)|refine aT ?_)
 refine aO ?_
 refine aA (aC (kE h w1) rfl rfl ?_)
 rintro v w2 ⟨rfl,hE⟩
 replace hH:=hH.aH hE
 have hB:K1 w2 b h f c a1 n1 c1 a2 n2 c2:=hH.b 0 rfl
 by_cases h0:h.err=0
 ·rw [h0]
  have e0:¬ (h.err≠0):=by omega
  by_cases k1:f<0
  ·repeat (first|refine aR ?_|(refine aD (by first|refine aN rfl (Ty.bA rfl rfl)|refine aB rfl hB rfl (Ty.aF rfl)) rfl ?_)|refine aT ?_)
   exact aM Tryz.func89 rfl ⟨congrArg (fun n:Nat=>Value.int .i64 (n:Int)) (show _=hJ h f c n1 n2 all by unfold hJ;rw [if_neg e0,if_pos (.inl k1)]),hH.ext⟩
  by_cases k2:c<1
  ·repeat (first|refine aR ?_|(refine aD (by first|refine aN rfl (Ty.bA rfl rfl)|refine aB rfl hB rfl (Ty.aF rfl)) rfl ?_)|refine aT ?_)
   exact aM Tryz.func89 rfl ⟨congrArg (fun n:Nat=>Value.int .i64 (n:Int)) (show _=hJ h f c n1 n2 all by unfold hJ;rw [if_neg e0,if_pos (.inr (.inl k2))]),hH.ext⟩
  by_cases k3:all<f
  ·repeat (first|refine aR ?_|(refine aD (by first|refine aN rfl (Ty.bA rfl rfl)|refine aB rfl hB rfl (Ty.aF rfl)) rfl ?_)|refine aT ?_)
   exact aM Tryz.func89 rfl ⟨congrArg (fun n:Nat=>Value.int .i64 (n:Int)) (show _=hJ h f c n1 n2 all by unfold hJ;rw [if_neg e0,if_pos (.inr (.inr (.inl k3)))]),hH.ext⟩
  by_cases k4:all-f<c
  ·repeat (first|refine aR ?_|(refine aD (by first|refine aN rfl (Ty.bA rfl rfl)|refine aB rfl hB rfl (Ty.aF rfl)) rfl ?_)|refine aT ?_)
   exact aM Tryz.func89 rfl ⟨congrArg (fun n:Nat=>Value.int .i64 (n:Int)) (show _=hJ h f c n1 n2 all by unfold hJ;rw [if_neg e0,if_pos (.inr (.inr (.inr (.inl k4))))]),hH.ext⟩
  by_cases k5:64<all
  ·repeat (first|refine aR ?_|(refine aD (by first|refine aN rfl (Ty.bA rfl rfl)|refine aB rfl hB rfl (Ty.aF rfl)) rfl ?_)|refine aT ?_)
   exact aM Tryz.func89 rfl ⟨congrArg (fun n:Nat=>Value.int .i64 (n:Int)) (show _=hJ h f c n1 n2 all by unfold hJ;rw [if_neg e0,if_pos (.inr (.inr (.inr (.inr k5))))]),hH.ext⟩
  have e1:¬ (f<0∨c<1∨all<f∨all-f<c∨64<all):=by omega
  by_cases k6:n1<1
  ·repeat (first|refine aR ?_|(refine aD (by first|refine aN rfl (Ty.bA rfl rfl)|refine aB rfl hB rfl (Ty.aF rfl)) rfl ?_)|refine aT ?_)
   exact aM Tryz.func89 rfl ⟨congrArg (fun n:Nat=>Value.int .i64 (n:Int)) (show _=hJ h f c n1 n2 all by unfold hJ;rw [if_neg e0,if_neg e1,if_pos (.inl k6)]),hH.ext⟩
  by_cases k7:30000<n1
  ·repeat (first|refine aR ?_|(refine aD (by first|refine aN rfl (Ty.bA rfl rfl)|refine aB rfl hB rfl (Ty.aF rfl)) rfl ?_)|refine aT ?_)
   exact aM Tryz.func89 rfl ⟨congrArg (fun n:Nat=>Value.int .i64 (n:Int)) (show _=hJ h f c n1 n2 all by unfold hJ;rw [if_neg e0,if_neg e1,if_pos (.inr (.inl k7))]),hH.ext⟩
  by_cases k8:n2<1
  ·repeat (first|refine aR ?_|(refine aD (by first|refine aN rfl (Ty.bA rfl rfl)|refine aB rfl hB rfl (Ty.aF rfl)) rfl ?_)|refine aT ?_)
   exact aM Tryz.func89 rfl ⟨congrArg (fun n:Nat=>Value.int .i64 (n:Int)) (show _=hJ h f c n1 n2 all by unfold hJ;rw [if_neg e0,if_neg e1,if_pos (.inr (.inr (.inl k8)))]),hH.ext⟩
  by_cases k9:30000<n2
  ·repeat (first|refine aR ?_|(refine aD (by first|refine aN rfl (Ty.bA rfl rfl)|refine aB rfl hB rfl (Ty.aF rfl)) rfl ?_)|refine aT ?_)
   exact aM Tryz.func89 rfl ⟨congrArg (fun n:Nat=>Value.int .i64 (n:Int)) (show _=hJ h f c n1 n2 all by unfold hJ;rw [if_neg e0,if_neg e1,if_pos (.inr (.inr (.inr k9)))]),hH.ext⟩
  repeat (first|refine aR ?_|(refine aD (by first|refine aN rfl (Ty.bA rfl rfl)|refine aB rfl hB rfl (Ty.aF rfl)) rfl ?_)|refine aT ?_)
  exact aM Tryz.func89 rfl ⟨congrArg (fun n:Nat=>Value.int .i64 (n:Int)) (show _=hJ h f c n1 n2 all by unfold hJ;rw [if_neg e0,if_neg e1,if_neg (by omega)]),hH.ext⟩
 ·have e:hJ h f c n1 n2 all=h.err:=by unfold hJ;rw [if_pos h0]
  rw [e]
  generalize h.err=er at *
  repeat (first|refine aR ?_|(refine aD (by refine (eQ rfl rfl).is (bT (by omega))) rfl ?_)|refine aT ?_)
  exact aM Tryz.func89 rfl ⟨rfl,hH.ext⟩
set_option maxRecDepth 20000 in
set_option maxHeartbeats 8000000 in
theorem Di {h:PH} {f c:Nat} {all:Int} {a1 a2:Option Addr} {c1 c2:Nat} {A Bb:List Nat} {w:World} (cW:-9223372036854775808≤all∧all≤9223372036854775807) (he:hJ h f c A.length Bb.length all=0)
  (hSA:cI w a1 (A.map B)) (hSB:cI w a2 (Bb.map B)) (hA:gR A) (hBb:gR Bb) :
  aX Tryz.prog 55 #[.agg (I7 h f c (.slice a1 A.length c1) (.slice a2 Bb.length c2)).toArray,.int .i64 all] w fun v w' =>
   ∃ a' c',v=.tuple #[.slice a' (MI ⟨h,f,c,A.length,Bb.length,oC A,oC Bb⟩++A++Bb).length c',.int .i64 0]∧iA (gH a' c' (MI ⟨h,f,c,A.length,Bb.length,oC A,oC Bb⟩++A++Bb)) w w':=by
 refine aL (args:=[_,_]) Tryz.func55 rfl rfl Tryz.ntmps55 rfl ?_
 obtain ⟨ho,hk1,hk2⟩:=J6 he
 have hcA:=rV A
 have hcB:=rV Bb
 have hH:=Hp.start w
 refine aK ?_
 refine aA (bI (cs:=(I7 h f c (.slice a1 A.length c1) (.slice a2 Bb.length c2)).toArray) hH rfl rfl rfl ?_)
 try clear hH
 intro w1 b hH
 have hB:cL w1 b 125 (I7 h f c (.slice a1 A.length c1) (.slice a2 Bb.length c2)).toArray:=hH.b 0 rfl
 repeat (first|refine aR ?_|(refine aD (by refine aE rfl hB rfl (Ty.aF rfl)) rfl ?_)|refine aT ?_)
 refine aO ?_
 refine aA (aC (zR cW) rfl rfl ?_)
 rintro v w2 ⟨rfl,hE⟩
 replace hH:=hH.aH hE
 rw [he]
 repeat (first|refine aR ?_|(refine aD (by refine bR (cs:=[.slice none 0 0,.int .i64 0]) (Ty.bH rfl) (Ty.iJ rfl) rfl) rfl ?_)|refine aT ?_)
 refine aA (bI hH rfl rfl rfl ?_)
 try clear hH
 intro w3 q hH
 replace hH:Hp [] w w3 [Rb b 125 (I7 h f c (.slice a1 A.length c1) (.slice a2 Bb.length c2)).toArray,Rw q none 0 []]:=hH.as 1 rfl (fun x hx=>by simpa [Rw,sep,Rb,gH,Ro,dI] using hx) (fun hB=>⟨hB,Own.nil,fun _ _ hb=>by simp [gH,Ro,dI] at hb⟩)
 have hS:=Eg (hH.b 0 rfl)
 repeat (first|refine aR ?_|(refine aD (by first|refine aN rfl (Ty.bA rfl rfl)|refine bG (cs:=h.cells) (j:=0) rfl hS rfl rfl (Ty.aF rfl)) rfl ?_)|refine aT ?_)
 refine aO ?_
 refine aA (aC (F5 ho (by decide) (hH.at 1 rfl)) rfl rfl ?_)
 rintro v w4 ⟨rfl,a4,c4,hU⟩
 replace hH:=hH.up 1 rfl hU
 clear hU
 replace hH:=aI hH
 rw [List.nil_append] at hH
 have hB:K1 _ b h (f:Nat) (c:Nat) a1 A.length c1 a2 Bb.length c2:=hH.b 0 rfl
 repeat (first|refine aR ?_|(refine aD (by first|refine aN rfl (Ty.bA rfl rfl)|refine aB rfl hB rfl (Ty.aF rfl)) rfl ?_)|refine aT ?_)
 refine aO ?_
 refine aA (aC (cH (n:=f) (s:=7) (by omega) (by decide) (by (simp only [PH.gB];omega)) (hH.at 1 rfl)) rfl rfl ?_)
 rintro v w' ⟨rfl,a3,c3,hU⟩
 replace hH:=hH.up 1 rfl hU
 clear hU
 replace hH:=aI hH
 have hB:K1 _ b h (f:Nat) (c:Nat) a1 A.length c1 a2 Bb.length c2:=hH.b 0 rfl
 repeat (first|refine aR ?_|(refine aD (by first|refine aN rfl (Ty.bA rfl rfl)|refine aB rfl hB rfl (Ty.aF rfl)) rfl ?_)|refine aT ?_)
 refine aO ?_
 refine aA (aC (cH (n:=c) (s:=7) (by omega) (by decide) (by (simp only [List.length_append,PH.gB,cA];omega)) (hH.at 1 rfl)) rfl rfl ?_)
 rintro v w' ⟨rfl,a3,c3,hU⟩
 replace hH:=hH.up 1 rfl hU
 clear hU
 replace hH:=aI hH
 have hB:K1 _ b h (f:Nat) (c:Nat) a1 A.length c1 a2 Bb.length c2:=hH.b 0 rfl
 repeat (first|refine aR ?_|(refine aD (by first|refine aN rfl (Ty.bA rfl rfl)|refine aB rfl hB rfl (Ty.aF rfl)) rfl ?_)|refine aT ?_)
 refine aO ?_
 refine aA (aC (cH (n:=A.length) (s:=16) (by omega) (by decide) (by (simp only [List.length_append,PH.gB,cA];omega)) (hH.at 1 rfl)) rfl rfl ?_)
 rintro v w' ⟨rfl,a3,c3,hU⟩
 replace hH:=hH.up 1 rfl hU
 clear hU
 replace hH:=aI hH
 have hB:K1 _ b h (f:Nat) (c:Nat) a1 A.length c1 a2 Bb.length c2:=hH.b 0 rfl
 repeat (first|refine aR ?_|(refine aD (by first|refine aN rfl (Ty.bA rfl rfl)|refine aB rfl hB rfl (Ty.aF rfl)) rfl ?_)|refine aT ?_)
 refine aO ?_
 refine aA (aC (cH (n:=Bb.length) (s:=16) (by omega) (by decide) (by (simp only [List.length_append,PH.gB,cA];omega)) (hH.at 1 rfl)) rfl rfl ?_)
 rintro v w' ⟨rfl,a3,c3,hU⟩
 replace hH:=hH.up 1 rfl hU
 clear hU
 replace hH:=aI hH
 have hB:K1 _ b h (f:Nat) (c:Nat) a1 A.length c1 a2 Bb.length c2:=hH.b 0 rfl
 repeat (first|refine aR ?_|(refine aD (by first|refine aN rfl (Ty.bA rfl rfl)|refine aB rfl hB rfl (Ty.aF rfl)) rfl ?_)|refine aT ?_)
 skip
 refine aO ?_
 refine aA (cN (out:=[.slice a1 A.length c1]) hH (Ty.sle rfl) (Ty.bH rfl) rfl rfl rfl (by decide) rfl ?_)
 try clear hH
 intro _ bs hH
 replace hH:=aI hH
 have hbs:=hH.b 2 rfl
 replace hH:=hH.take 2
 replace hH:=aI hH
 refine aK ?_
 refine aO ?_
 refine aA (aC (qB hbs (hH.old hSA) hA rfl (by omega)) rfl rfl ?_)
 rintro v w' ⟨rfl,rfl⟩
 rw [show eX 65535 A=oC A from rfl]
 refine aK ?_
 refine aO ?_
 refine aA (aC (cH (n:=oC A) (s:=16) (by omega) (by decide) (by (simp only [List.length_append,PH.gB,cA];omega)) (hH.at 1 rfl)) rfl rfl ?_)
 rintro v w' ⟨rfl,a3,c3,hU⟩
 replace hH:=hH.up 1 rfl hU
 clear hU
 replace hH:=aI hH
 have hB:K1 _ b h (f:Nat) (c:Nat) a1 A.length c1 a2 Bb.length c2:=hH.b 0 rfl
 repeat (first|refine aR ?_|(refine aD (by first|refine aN rfl (Ty.bA rfl rfl)|refine aB rfl hB rfl (Ty.aF rfl)) rfl ?_)|refine aT ?_)
 skip
 refine aO ?_
 refine aA (cN (out:=[.slice a2 Bb.length c2]) hH (Ty.sle rfl) (Ty.bH rfl) rfl rfl rfl (by decide) rfl ?_)
 try clear hH
 intro _ bs hH
 replace hH:=aI hH
 have hbs:=hH.b 2 rfl
 replace hH:=hH.take 2
 replace hH:=aI hH
 refine aK ?_
 refine aO ?_
 refine aA (aC (qB hbs (hH.old hSB) hBb rfl (by omega)) rfl rfl ?_)
 rintro v w' ⟨rfl,rfl⟩
 rw [show eX 65535 Bb=oC Bb from rfl]
 refine aK ?_
 refine aO ?_
 refine aA (aC (cH (n:=oC Bb) (s:=16) (by omega) (by decide) (by (simp only [List.length_append,PH.gB,cA];omega)) (hH.at 1 rfl)) rfl rfl ?_)
 rintro v w' ⟨rfl,a3,c3,hU⟩
 replace hH:=hH.up 1 rfl hU
 clear hU
 replace hH:=aI hH
 obtain ⟨d,hd⟩:∃ d,d=PD.mk h f c A.length Bb.length (oC A) (oC Bb):=⟨_,rfl⟩
 have hdb:h.bits++nb f 7++nb c 7++nb A.length 16++nb Bb.length 16++nb (oC A) 16++nb (oC Bb) 16=d.bits:=by rw [hd];simp [PD.bits]
 rw [hdb] at hH
 have hdl:=PD.gB d
 have hpl:=eN d.bits
 have hpy:=oX d.bits
 have hcH:=rV (pk d.bits)
 refine aK ?_
 refine aO ?_
 refine aA (aC (tU (hH.at 1 rfl) (by omega)) rfl rfl ?_)
 rintro v w5 ⟨a5,c5,rfl,hN⟩
 replace hH:=hH.nu hN
 clear hN
 replace hH:=aI hH
 refine aK ?_
 refine aO ?_
 refine aA (cN (out:=[.slice a5 (pk d.bits).length c5]) hH (Ty.sle rfl) (Ty.bH rfl) rfl rfl rfl (by decide) rfl ?_)
 try clear hH
 intro _ bs hH
 replace hH:=aI hH
 have hbs:=hH.b 3 rfl
 have hS5:=(hH.o 2 rfl).sl
 replace hH:=hH.take 2
 replace hH:=aI hH
 refine aK ?_
 refine aO ?_
 refine aA (aC (qB hbs hS5 hpy rfl (by omega)) rfl rfl ?_)
 rintro v w' ⟨rfl,rfl⟩
 rw [show eX 65535 (pk d.bits)=oC (pk d.bits) from rfl]
 refine aK ?_
 refine aO ?_
 refine aA (aC (cH (n:=oC (pk d.bits)) (s:=16) (by omega) (by decide) (by omega) (hH.at 1 rfl)) rfl rfl ?_)
 rintro v w' ⟨rfl,a3,c3,hU⟩
 replace hH:=hH.up 1 rfl hU
 clear hU
 replace hH:=aI hH
 refine aK ?_
 refine aO ?_
 refine aA (aC (cH (n:=0) (s:=2) (by omega) (by decide) (by (simp only [List.length_append,cA];omega)) (hH.at 1 rfl)) rfl rfl ?_)
 rintro v w' ⟨rfl,a3,c3,hU⟩
 replace hH:=hH.up 1 rfl hU
 clear hU
 replace hH:=aI hH
 rw [List.append_assoc,show d.bits++(nb (oC (pk d.bits)) 16++nb 0 2)=xb d.bits from rfl] at hH
 have hxl:=NG d
 have hXy:=JK (xb d.bits)
 rw [show MI ⟨h,f,c,A.length,Bb.length,oC A,oC Bb⟩=[0,0,1,182]++KZ (xb d.bits) by rw [hd];rfl]
 obtain ⟨X,hX⟩:∃ X,X=xb d.bits:=⟨_,rfl⟩
 rw [← hX] at hH hxl hXy ⊢
 clear hX hcH hpy hpl hdl hdb hd hbs hS5
 refine aK ?_
 refine aO ?_
 refine aA (aC (mO) rfl rfl ?_)
 rintro v w6 ⟨b6,rfl,hN⟩
 replace hH:=hH.nu hN
 clear hN
 replace hH:=aI hH
 replace hH:=hH.as 2 rfl (r':=Ro 5 1 (some ⟨b6,0,none⟩) 3 3 [B 0,B 0,B 1]) (fun _ h=>h) (fun h=>(h:cL _ _ _ _).own (n:=3) (sz:=1) rfl (by decide))
 replace hH:=aI hH
 refine aK ?_
 refine aO ?_
 refine aA (cN (out:=[B 182]) hH (Ty.sle rfl) (Ty.bH rfl) rfl rfl rfl (by decide) rfl ?_)
 try clear hH
 intro _ blit hH
 replace hH:=aI hH
 refine aO ?_
 refine aA (bZ 2 hH rfl (Ty.sle rfl) (Ty.bH rfl) rfl (Ty.gS rfl) (by decide) rfl rfl ((hH.b 3 rfl).cX) (by simp;try omega) (by simp) (by omega) (by simp only [maxLen];omega) rfl ?_)
 try clear hH
 intro _ a7 c7 hH
 replace hH:=aI hH
 replace hH:=hH.del 3
 replace hH:=aI hH
 refine aK ?_
 refine aO ?_
 refine aA (aC (tU (hH.at 1 rfl) (by omega)) rfl rfl ?_)
 rintro v w8 ⟨a8,c8,rfl,hN⟩
 replace hH:=hH.nu hN
 clear hN
 replace hH:=aI hH
 refine aK ?_
 refine aO ?_
 refine aA (aC (Ft (hH.at 1 rfl)) rfl rfl ?_)
 rintro v w9 ⟨rfl,rfl⟩
 have hpl:=eN X
 have hpb:=oX X
 have hbp:=Oe X
 refine aK ?_
 refine aO ?_
 refine aA (aC (F7 (e:=X.length) (hH.o 3 rfl).sl rfl (by omega) (by omega)) rfl rfl ?_)
 rintro v w9 ⟨r,a9,c9,rfl,hN⟩
 replace hN:=Rr.rd hN (by omega) (by omega) hpb
 rw [hbp] at hN
 replace hH:=((hH.nu hN).del 3).del 1
 clear hN
 replace hH:=aI hH
 refine aK ?_
 refine aV (G:=(Nat) × (Option Addr) × (Nat)) (fun|(i,ao,co)=>17-i) 38647847295805176428888320 (fun|(i,ao,co)=>[(75,.int .i64 i),(8,.slice ao (4+i) co)]) (fun|(i,ao,co),w'=>i≤17∧Hp [] w w' [Rb b 125 (I7 h f c (.slice a1 A.length c1) (.slice a2 Bb.length c2)).toArray,Ro 5 1 ao (4+i) co (([0,0,1,182]++(List.range i).map (ch X)).map B),Rd r a9 c9 ⟨X.drop (7*i),false⟩]) (0,a7,c7) ⟨rfl,rfl,trivial⟩ ⟨by omega,hH⟩ ?_
 rintro ⟨i,ao,co⟩ w' σ ⟨hi,hH⟩ IH
 show WS _ _ _ _ _ (bQ [(75,.int .i64 i),(8,.slice ao (4+i) co)] _) _
 by_cases hlt:i<17
 ·have hrb:Bm 7 (⟨X.drop (7*i),false⟩:RS)=(lE 0 ((X.drop (7*i)).take 7),⟨X.drop (7*(i+1)),false⟩):=by
   rw [Fp,Hh (by simp;omega),List.drop_drop,show 7*i+7=7*(i+1) by omega]
  have hlt7:=Ai ((X.drop (7*i)).take 7) 0 0 (by decide)
  rw [show ((X.drop (7*i)).take 7).length=7 by simp;omega] at hlt7
  have hnx:(([0,0,1,182]++(List.range (i+1)).map (ch X)).map B)=([0,0,1,182]++(List.range i).map (ch X)).map B++[B (ch X i)]:=by rw [List.range_succ,List.map_append];simp
  have hor:128 ||| lE 0 ((X.drop (7*i)).take 7)=ch X i:=by
   have h:=Nat.two_pow_add_eq_or_of_lt (i:=7) (b:=lE 0 ((X.drop (7*i)).take 7)) (by omega) 1
   unfold ch
   exact h.symm
  have hcl:=LJ X i
  refine aK ?_
  refine aO ?_
  refine aA (aC (Bp (k:=7) (by decide) (hH.at 2 rfl)) rfl rfl ?_)
  rintro v w10 ⟨rfl,hU⟩
  replace hH:=hH.up 2 rfl hU
  clear hU
  replace hH:=aI hH
  rw [hrb] at hH ⊢
  generalize lE 0 ((X.drop (7 * i)).take 7)=x at *
  generalize ch X i=y at *
  repeat ((refine aD (by first|refine kA (qd:=.u8) rfl (Ty.AP rfl) (Ty.Co rfl) (CO (by omega))|refine (HL (m:=128) (n:=x) rfl rfl rfl (CO (by omega))).is (congrArg (fun n:Nat=>Value.int .u8 (n:Int)) hor)) rfl ?_))
  refine aO ?_
  refine aA (cN (out:=[B y]) hH (Ty.sle rfl) (Ty.bH rfl) rfl rfl rfl (by decide) rfl ?_)
  try clear hH
  intro _ blit hH
  replace hH:=aI hH
  refine aO ?_
  refine aA (bZ 1 hH rfl (Ty.sle rfl) (Ty.bH rfl) rfl (Ty.gS rfl) (by decide) rfl rfl ((hH.b 3 rfl).cX) (by simp;try omega) (by simp) (by omega) (by simp only [maxLen];omega) rfl ?_)
  try clear hH
  intro _ a11 c11 hH
  replace hH:=aI hH
  replace hH:=hH.del 3
  replace hH:=aI hH
  repeat (first|refine aR ?_|refine aT ?_)
  refine IH (i+1,a11,c11) _ _ ?_ ?_ ?_ ?_
  ·simp only;omega
  ·exact ⟨rfl,rfl,trivial⟩
  ·exact cP
  ·exact ⟨by omega,by rw [hnx];exact hH⟩
 obtain rfl:i=17:=by omega
 clear IH
 rw [show (List.range 17).map (ch X)=KZ X from rfl] at hH
 replace hH:=hH.take 2
 replace hH:=aI hH
 have hO:=hH.o 1 rfl
 have hB:K1 w' b h (f:Nat) (c:Nat) a1 A.length c1 a2 Bb.length c2:=hH.b 0 rfl
 have hdj:=hH.dj 1 0 rfl rfl (by decide)
 have hall1:∀ {l:List Nat},∀ u∈l.map B,u.oneCell'=true:=fun u hu=>by obtain ⟨x,_,rfl⟩:=List.mem_map.1 hu;rfl
 refine aK ?_
 refine lJ Ty.mixed (fun w''=>Ext (dI ao) w' w'') 9 rfl ?_
 replace hH:=hH.aH (Ext.dV (S:=[]))
 have hx0:Ext (dI ao) w' w'.drew:=Ext.dV
 have hO0:=hO.aH (Ext.dV (S:=[]))
 generalize w'.drew=w12 at *
 refine bE 0 hx0 ?_
 refine aY 1 hx0 rfl (fun w' hw'=>by refine aN rfl (Ty.bA rfl rfl)) ?_
 refine aY 2 hx0 rfl (fun w' hw'=>by refine aB rfl (hB.ext hw' (fun h=>hdj _ h (by simp [Rb]))) rfl (Ty.aF rfl)) ?_
 refine aY 4 hx0 rfl (fun w' hw'=>by refine aN rfl (Ty.bA rfl rfl)) ?_
 refine aY 5 hx0 rfl (fun w' hw'=>by refine aB rfl (hB.ext hw' (fun h=>hdj _ h (by simp [Rb]))) rfl (Ty.aF rfl)) ?_
 refine bC 3 (by kernel_rfl) rfl rfl (kY (Ty.sle rfl) (Ty.bH rfl) rfl (Ty.gS rfl) (by decide) rfl hO0 rfl (hH.old hSA) (by simp) hall1 (by omega) (by simp only [maxLen];omega) rfl ?_)
 intro w13 a13 c13 hE13 hO13 hf13 _
 have hx1:=hx0.iS hE13
 replace hH:=hH.up (r':=Ro 5 1 a13 (4+17+A.length) c13 (List.map B ([0,0,1,182]++KZ X)++List.map B A)) 1 rfl ⟨hE13,hO13,hf13⟩
 replace hH:=aI hH
 refine ⟨hx1,?_⟩
 refine bC 6 (by kernel_rfl) rfl rfl (kY (Ty.sle rfl) (Ty.bH rfl) rfl (Ty.gS rfl) (by decide) rfl hO13 rfl (hH.old hSB) (by simp) hall1 (by omega) (by simp only [maxLen];omega) rfl ?_)
 intro w14 a14 c14 hE14 hO14 hf14 _
 have hx2:Ext (dI ao) w' w14:=hx1.trans hE14 (fun t ht=>by
  rcases hf13 t ht with h1|h1
  ·exact .inl h1
  ·exact .inr (Nat.le_trans hx0.size h1))
 replace hH:=hH.up (r':=Ro 5 1 a14 (4+17+A.length+Bb.length) c14 (List.map B ([0,0,1,182]++KZ X)++List.map B A++List.map B Bb)) 1 rfl ⟨hE14,hO14,hf14⟩
 replace hH:=aI hH
 refine ⟨hx2,?_⟩
 refine bE 7 hx2 ?_
 refine bE 8 hx2 ?_
 refine aW (by kernel_rfl) ?_
 have hln:4+17+A.length+Bb.length=(([0,0,1,182]++KZ X)++A++Bb).length:=by simp [FD];omega
 rw [hln] at hH ⊢
 refine aK ?_
 refine cR Tryz.func55 rfl ⟨a14,c14,rfl,(hH.oA 1 rfl).as (fun _ h=>h) (fun h=>?_)⟩
 simpa [gH,Ro] using h
theorem CN {A:List Nat} {i:Nat} (h:i<A.length):(A.map B)[i]?=some (B A[i]):=by simp [h]
theorem H4 {w:World} {b o:Nat} {h:SH} (ho:h.ok) (hS:cI w (some ⟨b,o,none⟩) h.tc):w.cell? ⟨b,o,none⟩=some (.bool h.wt)∧cI w (some ⟨b,o+1,none⟩) (h.A.map B)∧cI w (some ⟨b,o+65,none⟩) (h.Bb.map B):=by
 refine ⟨by simpa [At] using hS.cell 0 (.bool h.wt) rfl,⟨fun j v hj=>?_,fun _=>⟨b,_,rfl⟩⟩,⟨fun j v hj=>?_,fun _=>⟨b,_,rfl⟩⟩⟩
 ·have hl:j<(h.A.map B).length:=(List.getElem?_eq_some_iff.1 hj).1
  have:=hS.cell (j+1) v (by rw [SH.tc,List.getElem?_cons_succ,List.getElem?_append_left hl];exact hj)
  simp only [At,Option.getD_some] at this ⊢
  rwa [show o+1+j=o+(j+1) by omega]
 ·have:=hS.cell (j+65) v (by rw [SH.tc,show j+65=j+64+1 by omega,List.getElem?_cons_succ,List.getElem?_append_right (by simp [ho.la])];simpa [ho.la] using hj)
  simp only [At,Option.getD_some] at this ⊢
  rwa [show o+65+j=o+(j+65) by omega]
theorem Bo {h:SH} (ho:h.ok):(h.cells.drop 2).take 129=h.tc:=List.take_of_length_le (by simp [SH.cells,SH.eS ho])
theorem Cp (h:SH):∀ v∈h.tc,v.oneCell'=true:=by
 intro v hv
 simp only [SH.tc,List.mem_cons,List.mem_append,List.mem_map] at hv
 rcases hv with rfl|⟨x,_,rfl⟩|⟨x,_,rfl⟩<;>rfl
theorem cells_one (h:SH):∀ v∈h.cells.toArray.toList,v.oneCell'=true:=by
 intro v hv
 simp only [SH.cells,List.mem_cons] at hv
 rcases hv with rfl|rfl|hv
 ·rfl
 ·rfl
 ·exact Cp h v hv
def Cj (wt:Bool) (x:Nat):Prop:=if wt=true then 8≤x else x=0
theorem pR {h:SH} {x:Nat} (hx:x∈h.A++h.Bb) (hb:¬ Cj h.wt x):xS h.wt (h.A++h.Bb)=if h.wt=true then 2 else 4:=by
 unfold Cj at hb
 unfold xS
 cases hw:h.wt with
 | true =>
  simp only [hw,if_true] at hb ⊢
  rw [if_pos ⟨x,hx,by omega⟩]
 | false =>
  simp only [hw,Bool.false_eq_true,if_false] at hb ⊢
  rw [if_pos ⟨x,hx,hb⟩]
theorem IQ {wt:Bool} {t:List Nat} (h:∀ x∈t,Cj wt x):xS wt t=0:=by
 unfold Cj at h
 unfold xS
 cases wt with
 | true =>
  simp only [if_true] at h ⊢
  rw [if_neg (fun ⟨x,hx,hl⟩=>by have:=h x hx;omega)]
 | false =>
  simp only [Bool.false_eq_true,if_false] at h ⊢
  rw [if_neg (fun ⟨x,hx,hl⟩=>hl (h x hx))]
set_option maxHeartbeats 2000000 in
theorem BF {h:SH} (ho:h.ok) {w:World}:aX Tryz.prog 75 #[.agg h.tc.toArray] w fun v w'=>v=.int .i64 (xS h.wt (h.A++h.Bb):Nat)∧Ext [] w w':=by
 refine aL (args:=[_]) Tryz.func75 rfl rfl Tryz.ntmps75 rfl ?_
 have hH:=Hp.start w
 refine aK ?_
 refine aA (bI (cs:=h.tc.toArray) hH rfl rfl rfl ?_)
 try clear hH
 intro w1 b hH
 have hB:cL w1 b 24 h.tc.toArray:=hH.b 0 rfl
 obtain ⟨_,hSA,hSB⟩:=H4 ho hB.cX
 have hla:=ho.la
 have hlb:=ho.lb
 have hW1:Ext [] w w1:=hH.ext
 obtain ⟨c,r,wt,A,Bb⟩:=h
 simp only at hla hlb hSA hSB
 refine aK ?_
 refine aV (G:=(Nat)) (fun i=>64-i) 8796093022204 (fun i=>[(4,.int .i64 i)]) (fun i w'=>i≤64∧Ext [] w1 w'∧∀ x∈A.take i++Bb.take i,Cj wt x) (0) ⟨rfl,trivial⟩ ⟨by omega,.refl,by simp⟩ ?_
 rintro i w' σ ⟨hi,hW,hok⟩ IH
 show WS _ _ _ _ _ (bQ [(4,.int .i64 i)] _) _
 by_cases hlt:i<64
 ·have hvA:=CN (A:=A) (i:=i) (by omega)
  have hvB:=CN (A:=Bb) (i:=i) (by omega)
  have hxA:A[i]'(by omega)∈A++Bb:=List.mem_append_left _ (List.getElem_mem _)
  have hxB:Bb[i]'(by omega)∈A++Bb:=List.mem_append_right _ (List.getElem_mem _)
  have hnx:Cj wt (A[i]'(by omega))→Cj wt (Bb[i]'(by omega))→∀ x∈A.take (i+1)++Bb.take (i+1),Cj wt x:=by
   intro h1 h2 x hx
   rw [List.take_succ_eq_append_getElem (by omega),List.take_succ_eq_append_getElem (by omega)] at hx
   simp only [List.mem_append,List.mem_singleton] at hx
   rcases hx with (hx|rfl)|hx|rfl
   ·exact hok x (List.mem_append_left _ hx)
   ·exact h1
   ·exact hok x (List.mem_append_right _ hx)
   ·exact h2
  generalize A[i]'(by omega)=xA at *
  generalize Bb[i]'(by omega)=xB at *
  cases wt with
  | true =>
   by_cases k1:xA<8
   ·repeat (first|refine aR ?_|(refine aD (by first|refine aN rfl (Ty.bA rfl rfl)|refine bD rfl rfl (Ty.arr rfl) (by omega)|refine aU rfl (hSA.aH hW) hvA (Ty.aF rfl)|refine aB rfl (hB.aH hW) rfl (Ty.aF rfl)) rfl ?_)|refine aT ?_)
    exact aM Tryz.func75 rfl ⟨by rw [pR (h:=⟨c,r,true,A,Bb⟩) hxA (by unfold Cj;simp;omega)];rfl,hW1.bO hW⟩
   by_cases k2:xB<8
   ·repeat (first|refine aR ?_|(refine aD (by first|refine aN rfl (Ty.bA rfl rfl)|refine bD rfl rfl (Ty.arr rfl) (by omega)|refine aU rfl (hSA.aH hW) hvA (Ty.aF rfl)|refine aU rfl (hSB.aH hW) hvB (Ty.aF rfl)|refine aB rfl (hB.aH hW) rfl (Ty.aF rfl)) rfl ?_)|refine aT ?_)
    exact aM Tryz.func75 rfl ⟨by rw [pR (h:=⟨c,r,true,A,Bb⟩) hxB (by unfold Cj;simp;omega)];rfl,hW1.bO hW⟩
   have hk1:=hnx (by unfold Cj;simp;omega) (by unfold Cj;simp;omega)
   repeat (first|refine aR ?_|(refine aD (by first|refine aN rfl (Ty.bA rfl rfl)|refine bD rfl rfl (Ty.arr rfl) (by omega)|refine aU rfl (hSA.aH hW) hvA (Ty.aF rfl)|refine aU rfl (hSB.aH hW) hvB (Ty.aF rfl)|refine aB rfl (hB.aH hW) rfl (Ty.aF rfl)) rfl ?_)|refine aT ?_)
   refine IH (i+1) _ _ ?_ ?_ ?_ ?_
   ·omega
   ·exact ⟨rfl,trivial⟩
   ·exact cP
   ·exact ⟨by omega,hW,hk1⟩
  | false =>
   by_cases k1:xA=0
   ·by_cases k2:xB=0
    ·have hk1:=hnx (by unfold Cj;simp;omega) (by unfold Cj;simp;omega)
     repeat (first|refine aR ?_|(refine aD (by first|refine aN rfl (Ty.bA rfl rfl)|refine bD rfl rfl (Ty.arr rfl) (by omega)|refine aU rfl (hSA.aH hW) hvA (Ty.aF rfl)|refine aU rfl (hSB.aH hW) hvB (Ty.aF rfl)|refine aB rfl (hB.aH hW) rfl (Ty.aF rfl)|refine (eQ rfl rfl).is (bF (by omega))) rfl ?_)|refine aT ?_)
     refine IH (i+1) _ _ ?_ ?_ ?_ ?_
     ·omega
     ·exact ⟨rfl,trivial⟩
     ·exact cP
     ·exact ⟨by omega,hW,hk1⟩
    ·repeat (first|refine aR ?_|(refine aD (by first|refine aN rfl (Ty.bA rfl rfl)|refine bD rfl rfl (Ty.arr rfl) (by omega)|refine aU rfl (hSA.aH hW) hvA (Ty.aF rfl)|refine aU rfl (hSB.aH hW) hvB (Ty.aF rfl)|refine aB rfl (hB.aH hW) rfl (Ty.aF rfl)|refine (eQ rfl rfl).is (bT (by omega))|refine (eQ rfl rfl).is (bF (by omega))) rfl ?_)|refine aT ?_)
     exact aM Tryz.func75 rfl ⟨by rw [pR (h:=⟨c,r,false,A,Bb⟩) hxB (by unfold Cj;simp;omega)];rfl,hW1.bO hW⟩
   ·repeat (first|refine aR ?_|(refine aD (by first|refine aN rfl (Ty.bA rfl rfl)|refine bD rfl rfl (Ty.arr rfl) (by omega)|refine aU rfl (hSA.aH hW) hvA (Ty.aF rfl)|refine aB rfl (hB.aH hW) rfl (Ty.aF rfl)|refine (eQ rfl rfl).is (bT (by omega))) rfl ?_)|refine aT ?_)
    exact aM Tryz.func75 rfl ⟨by rw [pR (h:=⟨c,r,false,A,Bb⟩) hxA (by unfold Cj;simp;omega)];rfl,hW1.bO hW⟩
 ·obtain rfl:i=64:=by omega
  refine aK ?_
  rw [List.take_of_length_le (by omega),List.take_of_length_le (by omega)] at hok
  exact aM Tryz.func75 rfl ⟨by rw [IQ hok];rfl,hW1.bO hW⟩
theorem kG {h:SH} (ho:h.ok) {w:World}:aX Tryz.prog 45 #[.agg h.cells.toArray] w fun v w'=>v=.int .i64 (h.err:Nat)∧Ext [] w w':=by
 refine aL (args:=[_]) Tryz.func45 rfl rfl Tryz.ntmps45 rfl ?_
 have hH:=Hp.start w
 refine aK ?_
 refine aA (bI (cs:=h.cells.toArray) hH rfl rfl rfl ?_)
 try clear hH
 intro w1 b hH
 have hB:cL w1 b 26 h.cells.toArray:=hH.b 0 rfl
 have hS:cI w1 (some ⟨b,0,none⟩) h.cells:=hB.cX
 have htc:=Bo ho
 have htl:=SH.eS ho
 obtain ⟨c,r,wt,A,Bb⟩:=h
 by_cases k1:c<1
 ·repeat (first|refine aR ?_|(refine aD (by first|refine aN rfl (Ty.bA rfl rfl)|refine aB rfl hB rfl (Ty.aF rfl)) rfl ?_)|refine aT ?_)
  exact aM Tryz.func45 rfl ⟨congrArg (fun n:Nat=>Value.int .i64 (n:Int)) (show _=SH.err ⟨c,r,wt,A,Bb⟩ by unfold SH.err;rw [if_pos (.inl k1)]),hH.ext⟩
 by_cases k2:8<c
 ·repeat (first|refine aR ?_|(refine aD (by first|refine aN rfl (Ty.bA rfl rfl)|refine aB rfl hB rfl (Ty.aF rfl)) rfl ?_)|refine aT ?_)
  exact aM Tryz.func45 rfl ⟨congrArg (fun n:Nat=>Value.int .i64 (n:Int)) (show _=SH.err ⟨c,r,wt,A,Bb⟩ by unfold SH.err;rw [if_pos (.inr (.inl k2))]),hH.ext⟩
 by_cases k3:r<1
 ·repeat (first|refine aR ?_|(refine aD (by first|refine aN rfl (Ty.bA rfl rfl)|refine aB rfl hB rfl (Ty.aF rfl)) rfl ?_)|refine aT ?_)
  exact aM Tryz.func45 rfl ⟨congrArg (fun n:Nat=>Value.int .i64 (n:Int)) (show _=SH.err ⟨c,r,wt,A,Bb⟩ by unfold SH.err;rw [if_pos (.inr (.inr (.inl k3)))]),hH.ext⟩
 by_cases k4:8<r
 ·repeat (first|refine aR ?_|(refine aD (by first|refine aN rfl (Ty.bA rfl rfl)|refine aB rfl hB rfl (Ty.aF rfl)) rfl ?_)|refine aT ?_)
  exact aM Tryz.func45 rfl ⟨congrArg (fun n:Nat=>Value.int .i64 (n:Int)) (show _=SH.err ⟨c,r,wt,A,Bb⟩ by unfold SH.err;rw [if_pos (.inr (.inr (.inr k4)))]),hH.ext⟩
 repeat (first|refine aR ?_|(refine aD (by first|refine aN rfl (Ty.bA rfl rfl)|refine aB rfl hB rfl (Ty.aF rfl)|refine bG (j:=2) rfl hS htc htl (Ty.aF rfl)) rfl ?_)|refine aT ?_)
 refine aO ?_
 refine aA (aC (BF ho) rfl rfl ?_)
 rintro v w2 ⟨rfl,hE⟩
 refine aK ?_
 refine aM Tryz.func45 rfl ⟨?_,hH.ext.bO hE⟩
 rw [show SH.err ⟨c,r,wt,A,Bb⟩=xS wt (A++Bb) by unfold SH.err;rw [if_neg (by simp only;omega)]]
 rfl
end Go.Proofs.YtdbnmbkjmeepkaaGreatDoor
