/- A part of the proof of the card of TopText; no condition. -/
import Derived.Test.YtdbnmbkjmeepkaaGreatDoorT15
namespace Go.Proofs.YtdbnmbkjmeepkaaGreatDoor
open Go Go.K Go.P Go.RowKit Go.Proofs
set_option maxHeartbeats 1000000 in
theorem Bs {a0 b0 a1 b1 a2 b2 a3 b3:Nat} {w:World}:aX Tryz.prog 211 #[.agg #[.complex .f64 a0 b0,.complex .f64 a1 b1,.complex .f64 a2 b2,.complex .f64 a3 b3]] w fun v w'=>v=.tuple #[.int .i64 (whole a0+whole a1+whole a2+whole a3),.int .i64 (whole b0+whole b1+whole b2+whole b3)]∧Ext [] w w':=by
 refine aL (args:=[_]) Tryz.func211 rfl rfl Tryz.ntmps211 rfl ?_
 have hH:=Hp.start w
 refine aK ?_
 refine aA (bI hH rfl rfl rfl ?_)
 clear hH
 intro _ bx hH
 replace hH:=aI hH
 have hB:cL _ bx 90 #[.complex .f64 a0 b0,.complex .f64 a1 b1,.complex .f64 a2 b2,.complex .f64 a3 b3]:=hH.b 0 rfl
 repeat (first|refine aR ?_|(refine aD (by refine aE rfl hB rfl (Ty.aF rfl)) rfl ?_)|refine aT ?_)
 have h1:=bU a0
 have h2:=bU a1
 have h3:=bU a2
 have h4:=bU a3
 have h5:=bU b0
 have h6:=bU b1
 have h7:=bU b2
 have h8:=bU b3
 obtain ⟨xs,hxs⟩:∃ xs:List Int,xs=[0,whole a0,whole a0+whole a1,whole a0+whole a1+whole a2,whole a0+whole a1+whole a2+whole a3]:=⟨_,rfl⟩
 obtain ⟨ys,hys⟩:∃ ys:List Int,ys=[0,whole b0,whole b0+whole b1,whole b0+whole b1+whole b2,whole b0+whole b1+whole b2+whole b3]:=⟨_,rfl⟩
 have hx0:xs.getD 0 0=0:=by rw [hxs];rfl
 have hy0:ys.getD 0 0=0:=by rw [hys];rfl
 have step:∀ k:Nat,k<4→∃ a b:Nat,(#[.complex .f64 a0 b0,.complex .f64 a1 b1,.complex .f64 a2 b2,.complex .f64 a3 b3]:Array Value)[((k:Int)).toNat]?=some (.complex .f64 a b)∧xs.getD (k+1) 0=xs.getD k 0+whole a∧ys.getD (k+1) 0=ys.getD k 0+whole b∧-256≤xs.getD k 0∧xs.getD k 0≤256∧-256≤ys.getD k 0∧ys.getD k 0≤256:=fun k hk=>by
  have:k=0∨k=1∨k=2∨k=3:=by omega
  rcases this with rfl|rfl|rfl|rfl
  ·exact ⟨a0,b0,rfl,by rw [hxs];simp,by rw [hys];simp,by rw [hxs];simp,by rw [hxs];simp,by rw [hys];simp,by rw [hys];simp⟩
  ·exact ⟨a1,b1,rfl,by rw [hxs];simp,by rw [hys];simp,by rw [hxs];simp;omega,by rw [hxs];simp;omega,by rw [hys];simp;omega,by rw [hys];simp;omega⟩
  ·exact ⟨a2,b2,rfl,by rw [hxs];simp,by rw [hys];simp,by rw [hxs];simp;omega,by rw [hxs];simp;omega,by rw [hys];simp;omega,by rw [hys];simp;omega⟩
  ·exact ⟨a3,b3,rfl,by rw [hxs];simp,by rw [hys];simp,by rw [hxs];simp;omega,by rw [hxs];simp;omega,by rw [hys];simp;omega,by rw [hys];simp;omega⟩
 have hx4:xs.getD 4 0=whole a0+whole a1+whole a2+whole a3:=by rw [hxs];rfl
 have hy4:ys.getD 4 0=whole b0+whole b1+whole b2+whole b3:=by rw [hys];rfl
 clear hxs hys
 refine aV (G:=(Nat)) (fun k=>4-k) 16776940 (fun k=>[(9,.int .i64 k),(2,.int .i64 (xs.getD k 0)),(3,.int .i64 (ys.getD k 0))]) (fun k w'=>k≤4∧Ext [] w w') (0) ⟨rfl,congrArg (Value.int .i64) hx0.symm,congrArg (Value.int .i64) hy0.symm,trivial⟩ ⟨by omega,hH.ext⟩ ?_
 rintro k w' σ ⟨hk,hE⟩ IH
 show WS _ _ _ _ _ (bQ [(9,.int .i64 k),(2,.int .i64 (xs.getD k 0)),(3,.int .i64 (ys.getD k 0))] _) _
 by_cases hlt:k<4
 ·obtain ⟨a,b,hv,e1,e2,g1,g2,g3,g4⟩:=step k hlt
  have ha:=bU a
  have hb:=bU b
  repeat (first|refine aR ?_|(refine aD (by refine cB rfl rfl (Ty.arr rfl) (by omega) hv) rfl ?_)|refine aT ?_)
  refine aO ?_
  refine aA (aC (dK) rfl rfl ?_)
  rintro v w1 ⟨rfl,rfl⟩
  refine aK ?_
  refine IH (k+1) _ _ ?_ ?_ ?_ ?_
  ·omega
  ·exact ⟨rfl,congrArg (Value.int .i64) e1.symm,congrArg (Value.int .i64) e2.symm,trivial⟩
  ·exact cP
  ·exact ⟨by omega,hE⟩
 ·obtain rfl:k=4:=by omega
  rw [hx4,hy4]
  refine aK ?_
  exact cR Tryz.func211 rfl ⟨rfl,hE⟩
def Mk (n:Int):Int:=if n<0 then -((4-n) / 8) else (n+4) / 8
theorem H7 {n:Int} (h:-256≤n∧n≤256):-33≤Mk n∧Mk n≤33:=by unfold Mk;split<;>omega
theorem pT {n:Int} {w:World} (h:-256≤n∧n≤256):aX Tryz.prog 212 #[.int .i64 n] w fun v w'=>v=.int .i64 (Mk n)∧w'=w:=by
 refine aL (args:=[_]) Tryz.func212 rfl rfl Tryz.ntmps212 rfl ?_
 unfold Mk
 by_cases h0:n<0
 ·rw [if_pos h0]
  repeat (first|refine aR ?_|(refine aD (by refine kH rfl (by omega)) rfl ?_)|refine aT ?_)
  exact aM Tryz.func212 rfl ⟨rfl,rfl⟩
 ·rw [if_neg h0]
  refine aK ?_
  exact aM Tryz.func212 rfl ⟨rfl,rfl⟩
structure V4 where
 a0:Nat
 b0:Nat
 a1:Nat
 b1:Nat
 a2:Nat
 b2:Nat
 a3:Nat
 b3:Nat
abbrev V4.cells (u:V4):List Value:=[.complex .f64 u.a0 u.b0,.complex .f64 u.a1 u.b1,.complex .f64 u.a2 u.b2,.complex .f64 u.a3 u.b3]
def V4.cx (u:V4):Int:=Mk (whole u.a0+whole u.a1+whole u.a2+whole u.a3)
def V4.cy (u:V4):Int:=Mk (whole u.b0+whole u.b1+whole u.b2+whole u.b3)
theorem V4.le (u:V4):(-33≤u.cx∧u.cx≤33)∧(-33≤u.cy∧u.cy≤33):=by
 have h1:=bU u.a0
 have h2:=bU u.a1
 have h3:=bU u.a2
 have h4:=bU u.a3
 have h5:=bU u.b0
 have h6:=bU u.b1
 have h7:=bU u.b2
 have h8:=bU u.b3
 exact ⟨H7 (by omega),H7 (by omega)⟩
theorem tS {u:V4} {w:World}:aX Tryz.prog 187 #[.agg u.cells.toArray] w fun v w'=>v=CV u.cx u.cy∧Ext [] w w':=by
 refine aL (args:=[_]) Tryz.func187 rfl rfl Tryz.ntmps187 rfl ?_
 have hH:=Hp.start w
 have h1:=bU u.a0
 have h2:=bU u.a1
 have h3:=bU u.a2
 have h4:=bU u.a3
 have h5:=bU u.b0
 have h6:=bU u.b1
 have h7:=bU u.b2
 have h8:=bU u.b3
 refine aK ?_
 refine aO ?_
 refine aA (bI (cs:=u.cells.toArray) hH rfl rfl rfl ?_)
 try clear hH
 intro _ b1 hH
 replace hH:=aI hH
 have hB:=hH.b 0 rfl
 repeat (first|refine aR ?_|(refine aD (by refine aE rfl hB rfl (Ty.aF rfl)) rfl ?_)|refine aT ?_)
 clear hB
 refine aO ?_
 refine aA (aC (Bs) rfl rfl ?_)
 rintro _ _ ⟨rfl,hE0⟩
 replace hH:=hH.aH hE0
 clear hE0
 replace hH:=aI hH
 refine aK ?_
 refine aO ?_
 refine aA (aC ((pT (by omega))) rfl rfl ?_)
 rintro _ _ ⟨rfl,rfl⟩
 refine aK ?_
 refine aO ?_
 refine aA (aC ((pT (by omega))) rfl rfl ?_)
 rintro _ _ ⟨rfl,rfl⟩
 refine aK ?_
 refine aO ?_
 refine aA (aC (nG) rfl rfl ?_)
 rintro _ _ ⟨rfl,rfl⟩
 refine aK ?_
 exact aM Tryz.func187 rfl ⟨rfl,hH.ext⟩
theorem sE {n:Int} {w:World}:aX Tryz.prog 222 #[.int .i64 n] w fun v w'=>v=.tuple #[.int .i64 (n / 2),.int .i64 (n % 2)]∧w'=w:=by
 refine aL (args:=[_]) Tryz.func222 rfl rfl Tryz.ntmps222 rfl ?_
 repeat (first|refine aR ?_|(refine aD (by first|refine DS (m:=1) rfl rfl (by decide)|refine kR (k:=1) rfl rfl (by decide)) rfl ?_)|refine aT ?_)
 exact cR Tryz.func222 rfl ⟨rfl,rfl⟩
def Qy (p d e:Int):Int:=min (max ((2*p+d) / 2) 0) (max (e-1) 0)
def N0 (p d e:Int):Int:=min (max ((2*p+d) / 2+7+(2*p+d) % 2) 0) (max (e-1) 0)
theorem FZ {p d e:Int} {w:World} (hp:0≤p∧p≤10000) (hd:-64≤d∧d≤64) (he:0≤e∧e≤10000):aX Tryz.prog 209 #[.int .i64 p,.int .i64 d,.int .i64 e] w fun v w'=>v=.tuple #[.int .i64 (Qy p d e),.int .i64 (N0 p d e)]∧w'=w:=by
 refine aL (args:=[_,_,_]) Tryz.func209 rfl rfl Tryz.ntmps209 rfl ?_
 refine aK ?_
 refine aO ?_
 refine aA (aC (sE) rfl rfl ?_)
 rintro _ _ ⟨rfl,rfl⟩
 refine aK ?_
 exact cR Tryz.func209 rfl ⟨rfl,rfl⟩
def q1 (q:Int):Int:=64*max 2 (min (max q 1) 31 / 2)
theorem HT (q:Int):128≤q1 q∧q1 q≤960:=by unfold q1;omega
def Hz (n q:Int):Int:=min ((max n 0+q1 q / 2) / q1 q) 127
theorem Db (n q:Int):0≤Hz n q∧Hz n q≤127:=by
 have h:=HT q
 have h2:0≤(max n 0+q1 q / 2) / q1 q:=Int.ediv_nonneg (by omega) (by omega)
 unfold Hz;omega
def J5 (l q:Int):Int:=min (max l 0) 127*q1 q
theorem DH (l q:Int):0≤J5 l q∧J5 l q≤121920:=by
 have h:=HT q
 have h1:(0:Int)≤min (max l 0) 127*q1 q:=Int.mul_nonneg (by omega) (by omega)
 have h2:min (max l 0) 127*q1 q≤127*960:=Int.mul_le_mul (by omega) h.2 (by omega) (by omega)
 unfold J5;omega
theorem uR {q:Int} {w:World}:aX Tryz.prog 207 #[.int .i64 q] w fun v w'=>v=.int .i64 (q1 q)∧w'=w:=by
 refine aL (args:=[_]) Tryz.func207 rfl rfl Tryz.ntmps207 rfl ?_
 refine aK ?_
 exact aM Tryz.func207 rfl ⟨rfl,rfl⟩
theorem cZ {n q:Int} {w:World} (hn:n≤1000000000):aX Tryz.prog 180 #[.int .i64 n,.int .i64 q] w fun v w'=>v=.int .i64 (Hz n q)∧w'=w:=by
 refine aL (args:=[_,_]) Tryz.func180 rfl rfl Tryz.ntmps180 rfl ?_
 have h:=HT q
 refine aK ?_
 refine aO ?_
 refine aA (aC (uR) rfl rfl ?_)
 rintro _ _ ⟨rfl,rfl⟩
 refine aK ?_
 exact aM Tryz.func180 rfl ⟨rfl,rfl⟩
theorem nJ {l q:Int} {w:World}:aX Tryz.prog 190 #[.int .i64 l,.int .i64 q] w fun v w'=>v=.int .i64 (J5 l q)∧w'=w:=by
 refine aL (args:=[_,_]) Tryz.func190 rfl rfl Tryz.ntmps190 rfl ?_
 have h:=DH l q
 unfold J5 at h
 refine aK ?_
 refine aO ?_
 refine aA (aC (uR) rfl rfl ?_)
 rintro _ _ ⟨rfl,rfl⟩
 refine aK ?_
 exact aM Tryz.func190 rfl ⟨rfl,rfl⟩
def l0 (k:Nat) (n:Int):List Int:=if k=0 then List.replicate 64 0 else n::List.replicate 63 0
abbrev FV:=Int→Option PF
def NM (F:FV):Int→Option Value:=fun i=>(F i).map PV
def FV.put (F:FV) (i:Int) (p:PF):FV:=fun k=>if k=i then some p else F k
theorem KJ {F:FV} {i:Int} {p:PF}:rO (NM F) i (PV p)=NM (F.put i p):=by
 funext k
 unfold rO NM FV.put
 split<;>rfl
def RF (b m c r:Nat) (F:FV):cK where
 fp:=[b,m]
 holds:=fun w=>cL w b 261 #[.int .i64 c,.int .i64 r,.map (some m)]∧jE w m .i64 (NM F)
 keep:=fun ⟨h1,h2⟩ hE hS=>⟨h1.ext hE (fun hb=>hS _ hb (by simp)),h2.ext hE (fun hb=>hS _ hb (by simp))⟩
 lt:=fun ⟨h1,h2⟩ s hs=>by
  simp at hs
  rcases hs with rfl|rfl
  ·exact h1.lt
  ·exact h2.lt
theorem gD {w:World} {b m:Nat} {e:TypeId} {cs:Array Value} {q:IntKind} {F:Int→Option Value} (h:cL w b e cs) (h2:jE w m q F):b≠m:=by
 rintro rfl
 obtain ⟨_,_,h3,_⟩:=h2
 unfold cL at h
 rw [h] at h3
 cases h3
theorem eI {c r mb:Nat} (hc:c≤8) (hr:r≤8) (h:mb<c*r):mb<64∧1≤c:=by
 have h1:c*r≤8*8:=Nat.mul_le_mul hc hr
 refine ⟨by omega,?_⟩
 rcases c with _|c
 ·simp at h
 ·omega
theorem yW {y W:Int} (hW:0≤W∧W≤1000) (hy:0≤y∧y≤1000):0≤y*W∧y*W≤1000000 :=
 ⟨Int.mul_nonneg hy.1 hW.1,Int.le_trans (Int.mul_le_mul hy.2 hW.2 hW.1 (by omega)) (by omega)⟩
set_option maxHeartbeats 4000000 in
theorem GK {c r:Nat} {w:World} (hc:c≤8) (hr:r≤8) :
  aX Tryz.prog 123 #[.int .i64 c,.int .i64 r] w fun v w'=>∃ b m,v=.pointer (some ⟨b,0,none⟩)∧iA (RF b m c r fun _=>none) w w':=by
 refine aL (args:=[_,_]) Tryz.func123 rfl rfl Tryz.ntmps123 rfl ?_
 have hH:=Hp.start w
 have e1:min (max (c:Int) 0) 8=c:=by omega
 have e2:min (max (r:Int) 0) 8=r:=by omega
 repeat (first|refine aR ?_|(refine aD (by first|refine (eK rfl rfl).is (congrArg (Value.int .i64) e1)|refine (eK rfl rfl).is (congrArg (Value.int .i64) e2)) rfl ?_)|refine aT ?_)
 refine aA (lM .i64 hH rfl ?_)
 intro _ m1 hH
 replace hH:=aI hH
 repeat ((refine aD (by refine bR (cs:=[.int .i64 c,.int .i64 r,.map (some m1)]) (Ty.bH rfl) (Ty.iJ rfl) rfl) rfl ?_))
 refine aO ?_
 refine aA (bI (cs:=#[.int .i64 c,.int .i64 r,.map (some m1)]) hH rfl rfl rfl ?_)
 try clear hH
 intro _ b1 hH
 replace hH:=aI hH
 refine aK ?_
 refine aM Tryz.func123 rfl ⟨b1,m1,rfl,hH.ext,⟨hH.b 1 rfl,hH.at 0 rfl⟩,?_⟩
 intro x hx
 simp [RF] at hx
 rcases hx with rfl|rfl
 ·rcases hH.new _ (List.mem_of_getElem? (i:=1) rfl) x (by simp [Rb]) with h|h;cases h;exact h
 ·rcases hH.new _ (List.mem_of_getElem? (i:=0) rfl) x (by simp [GU]) with h|h;cases h;exact h
theorem PW:nC Tryz.prog 167=true:=by kernel_rfl
def fX (c mb k:Nat):Nat:=2*(mb % c)+k % 2
def fY (c mb k:Nat):Nat:=2*(mb / c)+k / 2
def FV.set (F:FV) (c mb k:Nat) (p:PF):FV:=F.put (fY c mb k*2*c+fX c mb k) p
def FV.at (F:FV) (c r:Nat) (x y:Int):Option PF:=if x<0∨y<0∨2*(c:Int)≤x∨2*(r:Int)≤y then none else F (y*2*c+x)
def JI (X Y:Int):List (Int × Int):=[(X-1,Y),(X,Y-1),(X+1,Y-1)]
def FV.row (F:FV) (c r mb k:Nat) (n:Nat):List PF:=((JI (fX c mb k) (fY c mb k)).take n).filterMap fun p=>F.at c r p.1 p.2
def L9:List PF→PF
 | []=>(0,0)
 | [a,b,c]=>(FN (Ib (whole a.1) (whole b.1) (whole c.1)),FN (Ib (whole a.2) (whole b.2) (whole c.2)))
 | a::_=>a
def FV.exp (F:FV) (c r mb k:Nat):PF:=L9 (F.row c r mb k 3)
section
variable {b m c r mb k:Nat} {F:FV} {w:World}
set_option maxHeartbeats 4000000 in
theorem tK (hc:c≤8) (hr:r≤8) (hmb:mb<c*r) (hk:k<4) (hR:(RF b m c r F).holds w) :
  aX Tryz.prog 168 #[.pointer (some ⟨b,0,none⟩),.int .i64 mb,.int .i64 k] w fun v w'=>v=.tuple #[.int .i64 (fX c mb k:Nat),.int .i64 (fY c mb k:Nat)]∧Ext [] w w':=by
 refine aL (args:=[_,_,_]) Tryz.func168 rfl rfl Tryz.ntmps168 rfl ?_
 obtain ⟨hm,hc1⟩:=eI hc hr hmb
 have hB:=hR.1
 have e1:max (c:Int) 1=c:=by omega
 unfold fX fY
 obtain ⟨M,hM⟩:∃ M,mb % c=M:=⟨_,rfl⟩
 obtain ⟨D,hD⟩:∃ D,mb / c=D:=⟨_,rfl⟩
 have e4:M<c:=hM▸Nat.mod_lt _ (by omega)
 have e5:D≤mb:=hD▸Nat.div_le_self _ _
 rw [hM,hD]
 repeat (first|refine aR ?_|(refine aD (by first|refine aG rfl|refine aN rfl (Ty.bA rfl rfl)|refine aB rfl hB rfl (Ty.aF rfl)|refine (gJ rfl rfl).is (congrArg (Value.int .i64) e1)) rfl ?_)|refine aT ?_)
 refine cD Ty.mixed 16 rfl (fun w1 hx1=>?_)
 refine bE 0 hx1 ?_
 refine bE 1 hx1 ?_
 refine Lh ?_
 refine aY 3 hx1 rfl (fun w' hw'=>by refine bN (m:=2) (n:=M) rfl rfl (by omega)) ?_
 refine bE 4 hx1 ?_
 refine aY 5 hx1 rfl (fun w' hw'=>by refine dL (n:=2) rfl rfl (by decide)) ?_
 refine bE 6 hx1 ?_
 refine bE 7 hx1 ?_
 refine bE 8 hx1 ?_
 refine aY 9 hx1 rfl (fun w' hw'=>by refine (iR (m:=mb) (n:=c) rfl rfl (by omega) (mU (by omega))).is (congrArg (fun n:Nat=>Value.int .i64 n) hD)) ?_
 refine aY 10 hx1 rfl (fun w' hw'=>by refine bN (m:=2) (n:=D) rfl rfl (by omega)) ?_
 refine bE 11 hx1 ?_
 refine aY 12 hx1 rfl (fun w' hw'=>by refine iR (n:=2) rfl rfl (by decide) (mU (by omega))) ?_
 refine bE 13 hx1 ?_
 refine bE 14 hx1 ?_
 refine bE 15 hx1 ?_
 refine aW (by kernel_rfl) ?_
 refine aK ?_
 exact cR Tryz.func168 rfl ⟨rfl,hx1⟩
theorem Qa (hc:c≤8) (hr:r≤8) (hmb:mb<c*r) (hk:k<4):fX c mb k≤20∧fY c mb k≤130:=by
 obtain ⟨hm,hc1⟩:=eI hc hr hmb
 have e4:mb % c<c:=Nat.mod_lt _ (by omega)
 have e5:mb / c≤mb:=Nat.div_le_self _ _
 unfold fX fY
 omega
set_option maxRecDepth 20000 in
set_option maxHeartbeats 4000000 in
theorem rM {p:PF} (hc:c≤8) (hr:r≤8) (hmb:mb<c*r) (hk:k<4) (hR:(RF b m c r F).holds w) :
  aX Tryz.prog 128 #[.pointer (some ⟨b,0,none⟩),.int .i64 mb,.int .i64 k,PV p] w fun v w'=>v=.tuple #[]∧jA (RF b m c r F) (RF b m c r (F.set c mb k p)) w w':=by
 refine aL (args:=[_,_,_,_]) Tryz.func128 rfl rfl Tryz.ntmps128 rfl ?_
 obtain ⟨hm,hc1⟩:=eI hc hr hmb
 obtain ⟨hX,hY⟩:=Qa hc hr hmb hk
 have hH:=Hp.fI hR
 have hB:=hR.1
 have hcr:c*r≤64:=Nat.mul_le_mul hc hr
 have hcm:(c:Int)*r=((c*r:Nat):Int):=by simp
 unfold FV.set
 repeat refine DM ?_
 refine cD Ty.mixed 27 rfl (fun w1 hx1=>?_)
 refine FL ?_
 refine aY 1 hx1 rfl (fun w' hw'=>by refine gF rfl rfl (.inr rfl) PW) ?_
 refine aY 2 hx1 rfl (fun w' hw'=>by refine aP rfl) ?_
 refine bM 3 rfl (by kernel_rfl) hx1 rfl rfl rfl rfl rfl (fun w' hw'=>by refine aP rfl) ?_
 refine bM 4 rfl (by kernel_rfl) hx1 rfl rfl rfl rfl rfl (fun w' hw'=>by exact aP (congrArg some (dF (by omega)))) ?_
 refine aY 5 hx1 rfl (fun w' hw'=>by refine aP rfl) ?_
 refine aY 6 hx1 rfl (fun w' hw'=>by refine aP rfl) ?_
 refine bM 7 rfl (by kernel_rfl) hx1 rfl rfl rfl rfl rfl (fun w' hw'=>by refine aP rfl) ?_
 refine bM 8 rfl (by kernel_rfl) hx1 rfl rfl rfl rfl rfl (fun w' hw'=>by refine aP rfl) ?_
 refine bM 9 rfl (by kernel_rfl) hx1 rfl rfl rfl rfl rfl (fun w' hw'=>by refine aG rfl) ?_
 refine L1 ?_
 refine Lo ?_
 refine bM 12 rfl (by kernel_rfl) hx1 rfl rfl rfl rfl rfl (fun w' hw'=>by refine aP rfl) ?_
 refine bM 13 rfl (by kernel_rfl) hx1 rfl rfl rfl rfl rfl (fun w' hw'=>by refine aG rfl) ?_
 refine M0 ?_
 refine L8 ?_
 refine Lj ?_
 refine bM 17 rfl (by kernel_rfl) hx1 rfl rfl rfl rfl rfl (fun w' hw'=>by exact aP (congrArg some (dF (by omega)))) ?_
 refine aY 18 hx1 rfl (fun w' hw'=>by refine aP rfl) ?_
 refine aY 19 hx1 rfl (fun w' hw'=>by refine aP rfl) ?_
 refine bM 20 rfl (by kernel_rfl) hx1 rfl rfl rfl rfl rfl (fun w' hw'=>by refine aP rfl) ?_
 refine bM 21 rfl (by kernel_rfl) hx1 rfl rfl rfl rfl rfl (fun w' hw'=>by exact aP (congrArg some (dF (by omega)))) ?_
 refine aY 22 hx1 rfl (fun w' hw'=>by refine aP rfl) ?_
 refine aY 23 hx1 rfl (fun w' hw'=>by refine aP rfl) ?_
 refine bM 24 rfl (by kernel_rfl) hx1 rfl rfl rfl rfl rfl (fun w' hw'=>by refine aP rfl) ?_
 refine bM 25 rfl (by kernel_rfl) hx1 rfl rfl rfl rfl rfl (fun w' hw'=>by exact aP (congrArg some (dF (by omega)))) ?_
 refine aY 26 hx1 rfl (fun w' hw'=>by refine aP rfl) ?_
 refine aW (by kernel_rfl) ?_
 replace hH:=hH.aH hx1
 refine aK ?_
 refine aO ?_
 refine aA (aC ((tK hc hr hmb hk (hH.at 0 rfl))) rfl rfl ?_)
 rintro _ w2 ⟨rfl,hE0⟩
 replace hH:=hH.aH hE0
 replace hH:=aI hH
 generalize fX c mb k=X at *
 generalize fY c mb k=Y at *
 refine aK ?_
 replace hB:=(hH.at 0 rfl).1
 have hyc:=yW (W:=c) (y:=(Y:Int)*2) (by omega) (by omega)
 refine qD Ty.mixed 14 rfl (by kernel_rfl) rfl (fun w1 hx1=>?_)
 refine bE 0 hx1 ?_
 refine AO ?_
 refine uN ?_
 refine I5 ?_
 refine bE 4 hx1 ?_
 refine aY 5 hx1 rfl (fun w' hw'=>by refine bN (m:=Y) (n:=2) rfl rfl (by omega)) ?_
 refine bE 6 hx1 ?_
 refine aY 7 hx1 rfl (fun w' hw'=>by refine aG rfl) ?_
 refine DJ ?_
 refine aY 9 hx1 rfl (fun w' hw'=>by refine aB rfl (hB.aH hw') rfl (Ty.aF rfl)) ?_
 refine aY 10 hx1 rfl (fun w' hw'=>by refine bN (m:=(Y:Int)*2) (n:=c) rfl rfl (by omega)) ?_
 refine bE 11 hx1 ?_
 refine bE 12 hx1 ?_
 refine bE 13 hx1 ?_
 refine aW (by kernel_rfl) ?_
 replace hH:=hH.aH hx1
 refine aK ?_
 refine aA (nR (e:=89) (q:=.i64) (v:=PV p) (by kernel_rfl) rfl rfl rfl (hH.at 0 rfl).2 ?_)
 intro w7 hE hM
 rw [KJ] at hM
 replace hH:=hH.up 0 rfl (r':=RF b m c r (F.put ((Y:Int)*2*c+X) p)) ⟨hE.weaken (by simp [RF]),⟨(hH.at 0 rfl).1.ext hE (by simpa using gD (hH.at 0 rfl).1 (hH.at 0 rfl).2),hM⟩,fun _ hx=>.inl hx⟩
 replace hH:=aI hH
 refine aK ?_
 exact cE Tryz.func128 rfl ⟨rfl,hH.dX 0 rfl⟩
set_option maxRecDepth 20000 in
set_option maxHeartbeats 4000000 in
theorem Ia {x y:Int} (hc:c≤8) (hr:r≤8) (hx:-1≤x∧x≤2000) (hy:-1≤y∧y≤2000) (hR:(RF b m c r F).holds w) :
  aX Tryz.prog 169 #[.pointer (some ⟨b,0,none⟩),.int .i64 x,.int .i64 y] w fun v w'=>v=.tuple #[PV ((F.at c r x y).getD (0,0)),.bool (F.at c r x y).isSome]∧Ext [] w w':=by
 refine aL (args:=[_,_,_]) Tryz.func169 rfl rfl Tryz.ntmps169 rfl ?_
 have hB:=hR.1
 by_cases h1:x<0
 ·repeat (first|refine aR ?_|refine aT ?_)
  exact JZ
 by_cases h2:y<0
 ·repeat (first|refine aR ?_|refine aT ?_)
  exact JZ
 by_cases h3:2*(c:Int)≤x
 ·repeat (first|refine aR ?_|(refine aD (by first|refine aG rfl|refine aN rfl (Ty.bA rfl rfl)|refine aB rfl hB rfl (Ty.aF rfl)) rfl ?_)|refine aT ?_)
  exact JZ
 by_cases h4:2*(r:Int)≤y
 ·repeat (first|refine aR ?_|(refine aD (by first|refine aG rfl|refine aN rfl (Ty.bA rfl rfl)|refine aB rfl hB rfl (Ty.aF rfl)) rfl ?_)|refine aT ?_)
  exact JZ
 repeat (first|refine aR ?_|(refine aD (by first|refine aG rfl|refine aN rfl (Ty.bA rfl rfl)|refine aB rfl hB rfl (Ty.aF rfl)) rfl ?_)|refine aT ?_)
 have hyc:=yW (W:=c) (y:=y*2) (by omega) (by omega)
 refine cD Ty.mixed 19 rfl (fun w1 hx1=>?_)
 refine bE 0 hx1 ?_
 refine AO ?_
 refine uN ?_
 refine I5 ?_
 refine bE 4 hx1 ?_
 refine aY 5 hx1 rfl (fun w' hw'=>by refine bN (m:=y) (n:=2) rfl rfl (by omega)) ?_
 refine bE 6 hx1 ?_
 refine aY 7 hx1 rfl (fun w' hw'=>by refine aG rfl) ?_
 refine DJ ?_
 refine aY 9 hx1 rfl (fun w' hw'=>by refine aB rfl (hB.aH hw') rfl (Ty.aF rfl)) ?_
 refine aY 10 hx1 rfl (fun w' hw'=>by refine bN (m:=y*2) (n:=c) rfl rfl (by omega)) ?_
 refine bE 11 hx1 ?_
 refine bE 12 hx1 ?_
 refine bC 13 (by kernel_rfl) rfl rfl (nS (e:=89) (q:=.i64) (u:=.complex .f64 0 0) (by kernel_rfl) (by kernel_rfl) rfl rfl (hR.2.aH hx1) rfl ?_)
 refine ⟨hx1,?_⟩
 refine aY 14 hx1 rfl (fun w' hw'=>by refine wF rfl) ?_
 refine bE 15 hx1 ?_
 refine bE 16 hx1 ?_
 refine aY 17 hx1 rfl (fun w' hw'=>by refine jM rfl) ?_
 refine aY 18 hx1 rfl (fun w' hw'=>by refine jM rfl) ?_
 refine aW (by kernel_rfl) ?_
 refine aK ?_
 have e:Value.tuple #[(NM F (y*2*c+x)).getD (.complex .f64 0 0),.bool (NM F (y*2*c+x)).isSome]=.tuple #[PV ((F.at c r x y).getD (0,0)),.bool (F.at c r x y).isSome]:=by
  rw [FV.at,if_neg (by omega),NM]
  cases F (y*2*c+x)<;>rfl
 exact cR Tryz.func169 rfl ⟨e,hx1⟩
theorem Fg {n:Nat} {p:Int × Int} (h:(JI (fX c mb k) (fY c mb k))[n]?=some p):F.row c r mb k (n+1)=F.row c r mb k n++(F.at c r p.1 p.2).toList:=by
 unfold FV.row
 rw [List.take_add_one,h,List.filterMap_append]
 congr 1
theorem HC (n:Nat) (h:n≤3):(F.row c r mb k n).length≤n:=by
 unfold FV.row
 exact Nat.le_trans (List.length_filterMap_le _ _) (by simp [JI];omega)
set_option maxRecDepth 20000 in
set_option maxHeartbeats 4000000 in
theorem yT (hc:c≤8) (hr:r≤8) (hmb:mb<c*r) (hk:k<4) (hR:(RF b m c r F).holds w) :
  aX Tryz.prog 127 #[.pointer (some ⟨b,0,none⟩),.int .i64 mb,.int .i64 k] w fun v w'=>v=PV (F.exp c r mb k)∧Ext [] w w':=by
 refine aL (args:=[_,_,_]) Tryz.func127 rfl rfl Tryz.ntmps127 rfl ?_
 obtain ⟨hm,hc1⟩:=eI hc hr hmb
 obtain ⟨hX,hY⟩:=Qa hc hr hmb hk
 have hH:=Hp.start w
 have hB:=hR.1
 have hcr:c*r≤64:=Nat.mul_le_mul hc hr
 have hcm:(c:Int)*r=((c*r:Nat):Int):=by simp
 have hnext:=fun n p=>Fg (F:=F) (c:=c) (r:=r) (mb:=mb) (k:=k) (n:=n) (p:=p)
 have hlen:=HC (F:=F) (c:=c) (r:=r) (mb:=mb) (k:=k)
 unfold FV.exp
 have h0:F.row c r mb k 0=[]:=rfl
 refine aK ?_
 refine cD Ty.mixed 27 rfl (fun w1 hx1=>?_)
 refine FL ?_
 refine aY 1 hx1 rfl (fun w' hw'=>by refine gF rfl rfl (.inr rfl) PW) ?_
 refine aY 2 hx1 rfl (fun w' hw'=>by refine aP rfl) ?_
 refine bM 3 rfl (by kernel_rfl) hx1 rfl rfl rfl rfl rfl (fun w' hw'=>by refine aP rfl) ?_
 refine bM 4 rfl (by kernel_rfl) hx1 rfl rfl rfl rfl rfl (fun w' hw'=>by exact aP (congrArg some (dF (by omega)))) ?_
 refine aY 5 hx1 rfl (fun w' hw'=>by refine aP rfl) ?_
 refine aY 6 hx1 rfl (fun w' hw'=>by refine aP rfl) ?_
 refine bM 7 rfl (by kernel_rfl) hx1 rfl rfl rfl rfl rfl (fun w' hw'=>by refine aP rfl) ?_
 refine bM 8 rfl (by kernel_rfl) hx1 rfl rfl rfl rfl rfl (fun w' hw'=>by refine aP rfl) ?_
 refine bM 9 rfl (by kernel_rfl) hx1 rfl rfl rfl rfl rfl (fun w' hw'=>by refine aG rfl) ?_
 refine L1 ?_
 refine Lo ?_
 refine bM 12 rfl (by kernel_rfl) hx1 rfl rfl rfl rfl rfl (fun w' hw'=>by refine aP rfl) ?_
 refine bM 13 rfl (by kernel_rfl) hx1 rfl rfl rfl rfl rfl (fun w' hw'=>by refine aG rfl) ?_
 refine M0 ?_
 refine L8 ?_
 refine Lj ?_
 refine bM 17 rfl (by kernel_rfl) hx1 rfl rfl rfl rfl rfl (fun w' hw'=>by exact aP (congrArg some (dF (by omega)))) ?_
 refine aY 18 hx1 rfl (fun w' hw'=>by refine aP rfl) ?_
 refine aY 19 hx1 rfl (fun w' hw'=>by refine aP rfl) ?_
 refine bM 20 rfl (by kernel_rfl) hx1 rfl rfl rfl rfl rfl (fun w' hw'=>by refine aP rfl) ?_
 refine bM 21 rfl (by kernel_rfl) hx1 rfl rfl rfl rfl rfl (fun w' hw'=>by exact aP (congrArg some (dF (by omega)))) ?_
 refine aY 22 hx1 rfl (fun w' hw'=>by refine aP rfl) ?_
 refine aY 23 hx1 rfl (fun w' hw'=>by refine aP rfl) ?_
 refine bM 24 rfl (by kernel_rfl) hx1 rfl rfl rfl rfl rfl (fun w' hw'=>by refine aP rfl) ?_
 refine bM 25 rfl (by kernel_rfl) hx1 rfl rfl rfl rfl rfl (fun w' hw'=>by exact aP (congrArg some (dF (by omega)))) ?_
 refine aY 26 hx1 rfl (fun w' hw'=>by refine aP rfl) ?_
 refine aW (by kernel_rfl) ?_
 replace hH:=hH.aH hx1
 refine aK ?_
 refine aO ?_
 refine aA (aC ((tK hc hr hmb hk ((RF b m c r F).keep hR hH.ext (by simp)))) rfl rfl ?_)
 rintro _ w2 ⟨rfl,hE0⟩
 replace hH:=hH.aH hE0
 replace hH:=aI hH
 generalize F.row c r mb k=ro at *
 generalize fX c mb k=X at *
 generalize fY c mb k=Y at *
 repeat (first|refine aR ?_|(refine aD (by first|refine dC (cs:=[.int .i64 ((X:Int)-1),.int .i64 Y]) (Ty.bH rfl) (Ty.arr rfl) rfl|refine dC (cs:=[.int .i64 X,.int .i64 ((Y:Int)-1)]) (Ty.bH rfl) (Ty.arr rfl) rfl|refine dC (cs:=[.int .i64 ((X:Int)+1),.int .i64 ((Y:Int)-1)]) (Ty.bH rfl) (Ty.arr rfl) rfl|refine dC (cs:=[.int .i64 ((X:Int)-1),.int .i64 Y,.int .i64 X,.int .i64 ((Y:Int)-1),.int .i64 ((X:Int)+1),.int .i64 ((Y:Int)-1)]) (Ty.bH rfl) (Ty.arr rfl) rfl) rfl ?_)|refine aT ?_)
 refine aV (G:=(Nat) × (Option Addr) × (Nat) × (Nat)) (fun|(i,a,n,cap)=>3-i) 1208921207928610747333120 (fun|(i,a,n,cap)=>[(62,.int .i64 i),(9,.slice a n cap)]) (fun|(i,a,n,cap),w'=>i≤3∧(ro i).length=n∧Hp [] w w' [Ro 89 1 a n cap (sO (ro i))]) (0,none,0,0) ⟨rfl,rfl,trivial⟩ ⟨by omega,by rw [h0];rfl,by rw [h0];exact hH.nu iA.tY⟩ ?_
 rintro ⟨i,a,n,cap⟩ w' σ ⟨hi,hvl,hH⟩ IH
 show WS _ _ _ _ _ (bQ [(62,.int .i64 i),(9,.slice a n cap)] _) _
 by_cases hlt:i<3
 ·obtain ⟨x,y,hx,hy,hxy,hpt⟩:∃ x y:Int,(-1≤x∧x≤2000)∧(-1≤y∧y≤2000)∧(#[Value.int .i64 ((X:Int)-1),.int .i64 Y,.int .i64 X,.int .i64 ((Y:Int)-1),.int .i64 ((X:Int)+1),.int .i64 ((Y:Int)-1)]).extract (i*2) (i*2+2)=#[.int .i64 x,.int .i64 y]∧(JI X Y)[i]?=some (x,y):=by
   rcases (show i=0∨i=1∨i=2 by omega) with rfl|rfl|rfl
   ·exact ⟨_,_,by omega,by omega,rfl,rfl⟩
   ·exact ⟨_,_,by omega,by omega,rfl,rfl⟩
   ·exact ⟨_,_,by omega,by omega,rfl,rfl⟩
  have hro:=hnext i _ hpt
  have hli:=hlen i hi
  repeat (first|refine aR ?_|(refine aD (by refine (gY rfl rfl (Ty.arr rfl) (by omega)).is (congrArg Value.agg hxy)) rfl ?_)|refine aT ?_)
  refine aO ?_
  refine aA (aQ hH (Ty.bH rfl) rfl ?_)
  try clear hH
  intro _ b2 hH
  replace hH:=aI hH
  refine aO ?_
  refine aA (aJ 1 (vs:=#[.int .i64 x,.int .i64 y]) (s:=2) hH rfl rfl rfl (by rfl) (by rfl) (by simp [Value.oneCell']) (Ty.aF rfl) ?_)
  try clear hH
  intro _ hH
  replace hH:=aI hH
  have hB2:=hH.b 1 rfl
  repeat (first|refine aR ?_|(refine aD (by first|refine bD rfl rfl (Ty.arr rfl) (by decide)|refine aB rfl hB2 rfl (Ty.aF rfl)) rfl ?_)|refine aT ?_)
  refine aO ?_
  refine aA (aC ((Ia hc hr hx hy ((RF b m c r F).keep hR hH.ext (by simp)))) rfl rfl ?_)
  rintro _ w3 ⟨rfl,hE1⟩
  replace hH:=hH.aH hE1
  replace hH:=aI hH
  cases ho:F.at c r x y with
  | none =>
   rw [ho] at hro
   simp only [Option.toList_none,List.append_nil] at hro
   refine aK ?_
   replace hH:=hH.del 1
   replace hH:=aI hH
   refine IH (i+1,a,n,cap) _ _ ?_ ?_ ?_ ?_
   ·simp only;omega
   ·exact ⟨rfl,rfl,trivial⟩
   ·exact cP
   ·exact ⟨by omega,by rw [hro];exact hvl,by rw [hro];exact hH⟩
  | some p =>
   rw [ho] at hro
   refine aK ?_
   refine aO ?_
   refine aA (cN (out:=[PV p]) hH (Ty.sle rfl) (Ty.bH rfl) rfl rfl rfl (by decide) rfl ?_)
   try clear hH
   intro _ blit hH
   replace hH:=aI hH
   refine aO ?_
   refine aA (bZ 0 hH rfl (Ty.sle rfl) (Ty.bH rfl) rfl (Ty.gS rfl) (by decide) rfl rfl ((hH.b 2 rfl).cX) (by simp;try omega) (by simp) (by omega) (by simp only [maxLen];omega) rfl ?_)
   try clear hH
   intro _ a2 c2 hH
   replace hH:=aI hH
   replace hH:=hH.del 2
   replace hH:=aI hH
   refine aK ?_
   replace hH:=hH.del 1
   replace hH:=aI hH
   refine IH (i+1,a2,n+1,c2) _ _ ?_ ?_ ?_ ?_
   ·simp only;omega
   ·exact ⟨rfl,rfl,trivial⟩
   ·exact cP
   ·exact ⟨by omega,by rw [hro];simp [hvl],by rw [hro,show sO (ro i++(some p).toList)=sO (ro i)++[PV p] by simp];exact hH⟩
 ·obtain rfl:i=3:=by omega
  have hl3:=hlen 3 (by omega)
  have hS:=(hH.o 0 rfl).sl
  generalize ro 3=vs at *
  rcases vs with _|⟨v0,vs⟩
  ·obtain rfl:n=0:=by simpa using hvl.symm
   refine aK ?_
   exact aM Tryz.func127 rfl ⟨rfl,hH.ext⟩
  by_cases h3:n=3
  ·subst h3
   rcases vs with _|⟨v1,_|⟨v2,_|⟨v3,vs⟩⟩⟩
   ·simp at hvl
   ·simp at hvl
   ·refine aK ?_
    refine gX [Is (.slice a 3 cap),Is (.pointer (some (At a (0:Int).toNat))),Is (PV v0),Is (.slice a 3 cap),Is (.pointer (some (At a (1:Int).toNat))),Is (PV v1),Is (.slice a 3 cap),Is (.pointer (some (At a (2:Int).toNat))),Is (PV v2),Is (PV (L9 [v0,v1,v2])),Is (PV (L9 [v0,v1,v2]))] Ty.mixed [(78918677504442992524819169280,[],true),(78686563747076983723275583488,[(0,86)],true),(39227224994855487460865998848,[(1,87)],true),(77293881202880930914014068736,[],true),(75436971143952860501665382400,[(3,89)],true),(37060829926106071979792531456,[(4,90)],true),(64295510790384438027573264384,[],true),(49440230318959874728783773696,[(6,92)],true),(19729669376110748131204792320,[(7,93)],true),(39536710004676832529590779904,[(2,88),(5,91),(8,94)],true),(79150791261809001326362755072,[(9,95)],true)] 79150791261809001326362755136 [(10,6)] (by kernel_rfl) (by kernel_rfl) (by kernel_rfl) (by kernel_rfl) (by kernel_rfl) ⟨Is.st,Is.st,Is.st,Is.st,Is.st,Is.st,Is.st,Is.st,Is.st,Is.st,Is.st,trivial⟩ ⟨⟨cC.none,?_⟩,⟨cC.none,?_⟩,⟨cC.none,?_⟩,⟨cC.none,?_⟩,⟨cC.none,?_⟩,⟨cC.none,?_⟩,⟨cC.none,?_⟩,⟨cC.none,?_⟩,⟨cC.none,?_⟩,⟨cC.none,?_⟩,⟨cC.none,?_⟩,trivial⟩ ?_
    ·intro w'' hE''
     intro σ''
     exact bJ (by refine aP rfl) rfl
    ·intro w'' hE''
     rintro _ rfl
     intro σ''
     exact Ll
    ·intro w'' hE''
     rintro _ rfl
     intro σ''
     exact Ly
    ·intro w'' hE''
     intro σ''
     exact bJ (by refine aP rfl) rfl
    ·intro w'' hE''
     rintro _ rfl
     intro σ''
     exact Ll
    ·intro w'' hE''
     rintro _ rfl
     intro σ''
     exact Ly
    ·intro w'' hE''
     intro σ''
     exact bJ (by refine aP rfl) rfl
    ·intro w'' hE''
     rintro _ rfl
     intro σ''
     exact Ll
    ·intro w'' hE''
     rintro _ rfl
     intro σ''
     exact Ly
    ·intro w'' hE''
     rintro _ rfl
     rintro _ rfl
     rintro _ rfl
     intro σ''
     refine aC BZ rfl rfl ?_
     rintro v w3'' ⟨rfl,rfl⟩
     exact ⟨.refl,_,rfl,rfl⟩
    ·intro w'' hE''
     rintro _ rfl
     intro σ''
     exact bJ (by refine aP rfl) rfl
    intro w'' hE''
    rintro _ rfl
    intro σ''
    refine aK ?_
    exact aM Tryz.func127 rfl ⟨rfl,(hH.aH hE'').ext⟩
   ·simp at hvl
  ·have hl0:(sO (v0::vs)).length=n:=by simpa using hvl
   have hn1:1≤n:=by simp at hvl;omega
   repeat (first|refine aR ?_|(refine aD (by first|refine cG rfl rfl hS hl0 (Ty.sle rfl) (by omega)|refine aU rfl hS rfl (Ty.aF rfl)) rfl ?_)|refine aT ?_)
   refine aM Tryz.func127 rfl ⟨?_,hH.ext⟩
   rcases vs with _|⟨v1,_|⟨v2,vs⟩⟩
   ·rfl
   ·rfl
   ·simp only [List.length_cons] at hvl hl3;omega
end
end Go.Proofs.YtdbnmbkjmeepkaaGreatDoor
