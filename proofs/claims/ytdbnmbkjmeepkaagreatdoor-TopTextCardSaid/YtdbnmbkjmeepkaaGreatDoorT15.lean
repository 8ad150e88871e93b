/- A part of the proof of the card of TopText; no condition. -/
import Derived.Test.YtdbnmbkjmeepkaaGreatDoorT13
namespace Go.Proofs.YtdbnmbkjmeepkaaGreatDoor
open Go Go.K Go.P Go.RowKit Go.Proofs
theorem MQ {P:Program} {ρ:Fr} {w:World} {dst:Option Nat} {ty t u:TypeId} {pos:String} {af:Array Edge} {gd:Option (Nat × Bool)} {x y:Operand} {a b c d r i:Nat} (hx:ev ρ x=.complex .f64 a b) (hy:ev ρ y=.complex .f64 c d) (h1:FloatKind.f64.format.sub a c=some r) (h2:FloatKind.f64.format.sub b d=some i):cU P ρ ⟨dst,.binOp .sub t x y u,ty,pos,af,gd⟩ w (.complex .f64 r i) w :=
 dB hx hy (aZ rfl) (by simp [binOp,Op.complexOp,Op.Complex.arith,Op.floatArith,h1,h2])
theorem Ew {P:Program} {ρ:Fr} {w:World} {dst:Option Nat} {ty t u:TypeId} {pos:String} {af:Array Edge} {gd:Option (Nat × Bool)} {x y:Operand} {a b r:PF} (hx:ev ρ x=.complex .f64 a.1 a.2) (hy:ev ρ y=.complex .f64 b.1 b.2) (h:II a b=some r):cU P ρ ⟨dst,.binOp .sub t x y u,ty,pos,af,gd⟩ w (.complex .f64 r.1 r.2) w:=by
 unfold II at h
 split at h
 ·rename_i h1 h2
  obtain rfl:=Option.some.inj h
  exact MQ hx hy h1 h2
 ·cases h
theorem Ez {P:Program} {ρ:Fr} {w:World} {dst:Option Nat} {ty t u:TypeId} {pos:String} {af:Array Edge} {gd:Option (Nat × Bool)} {x y:Operand} {a b r:PF} (hx:ev ρ x=.complex .f64 a.1 a.2) (hy:ev ρ y=.complex .f64 b.1 b.2) (h:Gw a b=some r):cU P ρ ⟨dst,.binOp .add t x y u,ty,pos,af,gd⟩ w (.complex .f64 r.1 r.2) w:=by
 unfold Gw at h
 split at h
 ·rename_i h1 h2
  obtain rfl:=Option.some.inj h
  exact NC hx hy h1 h2
 ·cases h
abbrev PV (p:PF):Value:=.complex .f64 p.1 p.2
abbrev sO (v:List PF):List Value:=v.map PV
theorem oV {v:List PF} {i:Nat} (h:i<v.length):(sO v)[i]?=some (PV (v.getD i (0,0))):=by
 simp [List.getD_eq_getElem?_getD,List.getElem?_eq_getElem h]
theorem Kk {v:List PF}:∀ u∈(sO v).toArray.toList,u.oneCell'=true:=by
 intro u hu
 simp at hu
 obtain ⟨a,b,_,rfl⟩:=hu
 rfl
abbrev EO:List Value:=[.int .i64 0,.int .i64 4,.int .i64 6,.int .i64 2,.int .i64 3,.int .i64 7,.int .i64 5,.int .i64 1]
set_option maxRecDepth 20000 in
set_option maxHeartbeats 4000000 in
theorem tQ {w:World}:aX Tryz.prog 213 #[] w fun v w'=>v=.agg EO.toArray∧Ext [] w w':=by
 refine aL (args:=[]) Tryz.func213 rfl rfl Tryz.ntmps213 rfl ?_
 have hH:=Hp.start w
 refine aK ?_
 refine aA (aQ hH (Ty.bH rfl) rfl ?_)
 try clear hH
 intro w1 b1 hH
 replace hH:=aI hH
 repeat (first|refine aR ?_|(refine aD (by refine dC (cs:=EO) (Ty.bH rfl) (Ty.arr rfl) rfl) rfl ?_))
 refine aA (aJ 0 (vs:=EO.toArray) (s:=8) hH rfl rfl rfl rfl rfl (by decide) (Ty.aF rfl) ?_)
 clear hH
 intro w2 hH
 replace hH:=aI hH
 refine aK ?_
 exact bP Tryz.func213 rfl rfl (hH.b 0 rfl) rfl (Ty.aF rfl) ⟨rfl,hH.ext⟩
theorem xI {α β:Type} {t:List β} {l:List α} {f:α→β} {k:Nat} {o:α} (h:t.take k=(l.take k).map f) (ho:l[k]?=some o) (hk:k<t.length):(t.set k (f o)).take (k+1)=(l.take (k+1)).map f:=by
 have hl:=(List.getElem?_eq_some_iff.1 ho).1
 rw [List.take_add_one,List.take_add_one,List.map_append,List.take_set_of_le (Nat.le_refl k),h,List.getElem?_set_self hk,ho]
 rfl
theorem ET:∀ k,k<8→∃ o,gV[k]?=some o∧o<8∧EO.toArray[k]?=some (.int .i64 (o:Nat))
 | 0,_=>⟨0,rfl,by omega,rfl⟩|1,_=>⟨4,rfl,by omega,rfl⟩|2,_=>⟨6,rfl,by omega,rfl⟩|3,_=>⟨2,rfl,by omega,rfl⟩
 | 4,_=>⟨3,rfl,by omega,rfl⟩|5,_=>⟨7,rfl,by omega,rfl⟩|6,_=>⟨5,rfl,by omega,rfl⟩|7,_=>⟨1,rfl,by omega,rfl⟩
 | k+8,h=>absurd h (by omega)
theorem G1:∀ n,n<3→∀ i,i<8→i &&& 2 ^ n=0→i+2 ^ n<8:=by decide
theorem LU:∀ n,n<3→2 ^ n<8:=by decide
set_option maxRecDepth 20000 in
set_option maxHeartbeats 4000000 in
theorem DI {v u:List PF} {w:World} (hl:v.length=8) (h:AI v=some u) :
  aX Tryz.prog 208 #[.agg (sO v).toArray] w fun r w'=>r=.agg (sO u).toArray∧Ext [] w w':=by
 refine aL (args:=[_]) Tryz.func208 rfl rfl Tryz.ntmps208 rfl ?_
 obtain ⟨z,hz,hzu⟩:=Option.map_eq_some_iff.1 h
 have hzl:z.length=8:=(qC hz).trans hl
 have hH:=Hp.start w
 refine aK ?_
 refine aA (bI (cs:=(sO v).toArray) hH rfl rfl rfl ?_)
 try clear hH
 intro w1 b1 hH
 replace hH:=aI hH
 refine aA (aQ hH (Ty.bH rfl) rfl ?_)
 try clear hH
 intro w2 b2 hH
 replace hH:=aI hH
 refine aK ?_
 refine aV (G:=(Nat) × (List PF)) (fun|(n,x)=>3-n) 4398046510200 (fun|(n,x)=>[(3,.int .i64 ((2 ^ n:Nat):Int))]) (fun|(n,x),w'=>n≤3∧cW v n=some x∧Hp [] w w' [Rb b1 315 (sO x).toArray,Rb b2 315 (sO (List.replicate 8 (0,0))).toArray]) (0,v) ⟨rfl,trivial⟩ ⟨by omega,rfl,hH⟩ ?_
 rintro ⟨n,x⟩ w' σ ⟨hn,hx,hH⟩ IH
 show WS _ _ _ _ _ (bQ [(3,.int .i64 ((2 ^ n:Nat):Int))] _) _
 have hxl:x.length=8:=(qC hx).trans hl
 by_cases hlt:n<3
 ·obtain ⟨y,hy,hyn⟩:=yK hz hlt hx
  have hp:=LU n hlt
  have hal:=G1 n hlt
  have hdb:((2 ^ n:Nat):Int)*2=((2 ^ (n+1):Nat):Int):=by rw [Nat.pow_succ];omega
  obtain ⟨hh,hhe⟩:∃ hh,2 ^ n=hh:=⟨_,rfl⟩
  rw [hhe] at hy hp hal hdb ⊢
  refine aK ?_
  have IH0:=IH
  clear IH
  refine aV (G:=(Nat) × (List PF)) (fun|(i,t)=>8-i) 4398046494832 (fun|(i,t)=>[(14,.int .i64 i)]) (fun|(i,t),w'=>i≤8∧oE hh x i=some t∧Hp [] w w' [Rb b1 315 (sO t).toArray,Rb b2 315 (sO (List.replicate 8 (0,0))).toArray]) (0,x) ⟨rfl,trivial⟩ ⟨by omega,rfl,hH⟩ ?_
  rintro ⟨i,t⟩ w' σ ⟨hi,ht,hH⟩ IH
  show WS _ _ _ _ _ (bQ [(14,.int .i64 i)] _) _
  have htl:t.length=8:=(qW ht).trans hxl
  by_cases hlt8:i<8
  ·obtain ⟨s,hs,hsn⟩:=yY hy hlt8 ht
   repeat (first|refine aR ?_|(refine aD (by refine tT rfl rfl (mU (by omega)) (mU (by omega))) rfl ?_)|refine aT ?_)
   refine sL rfl (fun h0=>?_) (fun h0=>?_)
   ·have h0':i &&& hh=0:=Int.ofNat.inj h0
    have hih:=hal i hlt8 h0'
    unfold dW at hs
    rw [if_pos h0'] at hs
    split at hs
    case h_2=>cases hs
    rename_i a b ha hb
    obtain rfl:=Option.some.inj hs
    have hB:cI w' (some ⟨b1,0,none⟩) (sO t):=(hH.b 0 rfl).cX
    have hi1:=oV (v:=t) (i:=i) (by omega)
    have hi2:=oV (v:=t) (i:=i+hh) (by omega)
    refine aK ?_
    refine cD Ty.mixed 10 rfl (fun w1 hx1=>?_)
    refine bE 0 hx1 ?_
    refine aY 1 hx1 rfl (fun w' hw'=>by refine bD rfl rfl (Ty.arr rfl) (by omega)) ?_
    refine aY 2 hx1 rfl (fun w' hw'=>by refine aU rfl (hB.aH hw') hi1 (Ty.aF rfl)) ?_
    refine bE 3 hx1 ?_
    refine bE 4 hx1 ?_
    refine bE 5 hx1 ?_
    refine aY 6 hx1 rfl (fun w' hw'=>by refine bD rfl rfl (Ty.arr rfl) (by omega)) ?_
    refine aY 7 hx1 rfl (fun w' hw'=>by refine aU rfl (hB.aH hw') hi2 (Ty.aF rfl)) ?_
    refine bE 8 hx1 ?_
    refine bE 9 hx1 ?_
    refine aW (by kernel_rfl) ?_
    replace hH:=hH.aH hx1
    repeat (first|refine aR ?_|(refine aD (by first|refine Ez rfl rfl ha|refine Ew rfl rfl hb|refine bD rfl rfl (Ty.arr rfl) (by omega)) rfl ?_)|refine aT ?_)
    refine aA (cF 0 (v:=PV a) hH rfl rfl rfl (by simp;omega) rfl (Ty.aF rfl) ?_)
    clear hH
    intro w4 hH
    replace hH:=aI hH
    repeat ((refine aD (by refine bD rfl rfl (Ty.arr rfl) (by omega)) rfl ?_))
    refine aA (cF 0 (v:=PV b) hH rfl rfl rfl (by simp;omega) rfl (Ty.aF rfl) ?_)
    clear hH
    intro w5 hH
    replace hH:=aI hH
    rw [← List.map_set,← List.map_set] at hH
    refine aK ?_
    refine IH (i+1,(t.set i a).set (i+hh) b) _ _ ?_ ?_ ?_ ?_
    ·simp only;omega
    ·exact ⟨rfl,trivial⟩
    ·exact cP
    ·exact ⟨by omega,hsn,hH⟩
   ·have h0':¬ (i &&& hh=0):=fun h=>h0 (by rw [h];rfl)
    unfold dW at hs
    rw [if_neg h0'] at hs
    obtain rfl:=Option.some.inj hs
    refine aK ?_
    refine IH (i+1,t) _ _ ?_ ?_ ?_ ?_
    ·simp only;omega
    ·exact ⟨rfl,trivial⟩
    ·exact cP
    ·exact ⟨by omega,hsn,hH⟩
  ·obtain rfl:i=8:=by omega
   obtain rfl:y=t:=by rw [ht] at hy;exact (Option.some.inj hy).symm
   refine aK ?_
   refine IH0 (n+1,y) _ _ ?_ ?_ ?_ ?_
   ·simp only;omega
   ·exact ⟨congrArg (Value.int .i64) hdb,trivial⟩
   ·exact cP
   ·exact ⟨by omega,hyn,hH⟩
 ·obtain rfl:n=3:=by omega
  obtain rfl:z=x:=by rw [hx] at hz;exact (Option.some.inj hz).symm
  refine aK ?_
  refine aA (aQ hH (Ty.bH rfl) rfl ?_)
  try clear hH
  intro w3 b7 hH
  replace hH:=aI hH
  refine aK ?_
  refine aO ?_
  refine aA (aC (tQ) rfl rfl ?_)
  rintro _ w4 ⟨rfl,hE⟩
  replace hH:=hH.aH hE
  replace hH:=aI hH
  refine aK ?_
  refine aV (G:=(Nat) × (List PF)) (fun|(k,t)=>8-k) 8998403161719552 (fun|(k,t)=>[(43,.int .i64 k)]) (fun|(k,t),w'=>k≤8∧t.length=8∧t.take k=(gV.take k).map (fun k=>z.getD k (0,0))∧Hp [] w w' [Rb b1 315 (sO z).toArray,Rb b2 315 (sO (List.replicate 8 (0,0))).toArray,Rb b7 315 (sO t).toArray]) (0,List.replicate 8 (0,0)) ⟨rfl,trivial⟩ ⟨by omega,rfl,rfl,hH⟩ ?_
  rintro ⟨k,t⟩ w' σ ⟨hk,htl,ht,hH⟩ IH
  show WS _ _ _ _ _ (bQ [(43,.int .i64 k)] _) _
  by_cases hlt8:k<8
  ·obtain ⟨o,ho,ho8,hx1⟩:=ET k hlt8
   have hi1:=oV (v:=z) (i:=o) (by omega)
   have hB:cI w' (some ⟨b1,0,none⟩) (sO z):=(hH.b 0 rfl).cX
   repeat (first|refine aR ?_|(refine aD (by first|refine cB rfl rfl (Ty.arr rfl) (by omega) hx1|refine bD rfl rfl (Ty.arr rfl) (by omega)|refine aU rfl hB hi1 (Ty.aF rfl)) rfl ?_)|refine aT ?_)
   refine aA (cF 2 (v:=PV (z.getD o (0,0))) hH rfl rfl rfl (by simp;omega) rfl (Ty.aF rfl) ?_)
   clear hH
   intro w5 hH
   replace hH:=aI hH
   rw [← List.map_set] at hH
   refine aK ?_
   refine IH (k+1,t.set k (z.getD o (0,0))) _ _ ?_ ?_ ?_ ?_
   ·simp only;omega
   ·exact ⟨rfl,trivial⟩
   ·exact cP
   ·exact ⟨by omega,by rw [List.length_set];exact htl,xI ht ho (by omega),hH⟩
  ·obtain rfl:k=8:=by omega
   have e:t=u:=by
    rw [List.take_of_length_le (by omega),List.take_of_length_le (by decide)] at ht
    rw [ht,← hzu]
   subst e
   have hB:=hH.b 2 rfl
   repeat (first|refine aR ?_|(refine aD (by refine aE rfl hB (by simp;omega) (Ty.aF rfl)) rfl ?_)|refine aT ?_)
   refine aA (aJ 1 (vs:=(sO t).toArray) (s:=8) hH rfl rfl rfl (by simp;omega) rfl Kk (Ty.aF rfl) ?_)
   clear hH
   intro w6 hH
   replace hH:=aI hH
   refine aK ?_
   exact bP Tryz.func208 rfl rfl (hH.b 1 rfl) (by simp;omega) (Ty.aF rfl) ⟨rfl,hH.ext⟩
theorem zG {r n:Nat} {u:List PF} {o x y:List Int} (e:iQ r u o 8=some x) (hn:n<8) (hy:iQ r u o n=some y):∃ a b,Be (u.getD n (0,0)).1=some a∧Be (u.getD n (0,0)).2=some b∧iQ r u o (n+1)=some ((y.set (8*n+r) a).set (8*n+r+1) b):=by
 have pre:∀ {m k:Nat} {x:List Int},iQ r u o m=some x→k≤m→∃ z,iQ r u o k=some z:=by
  intro m
  induction m with
  | zero=>intro k x e hk;obtain rfl:k=0:=(by omega);exact ⟨o,rfl⟩
  | succ m ih =>
   intro k x e hk
   by_cases h:k=m+1
   ·subst h;exact ⟨x,e⟩
   ·obtain ⟨z,h1,_⟩:=Option.bind_eq_some_iff.1 e
    exact ih h1 (by omega)
 obtain ⟨z,hz⟩:=pre e (show n+1≤8 by omega)
 have h2:=hz
 unfold iQ at h2
 rw [hy] at h2
 simp only [Option.bind_some] at h2
 split at h2
 ·rename_i a b ha hb
  exact ⟨a,b,ha,hb,by rw [hz];exact h2.symm⟩
 ·cases h2
theorem DB {b x o:List Int} {n:Nat} (e:iM b 4=some x) (hn:n<4) (ho:iM b n=some o):∃ u y,AI (qS b (2*n))=some u∧iQ (2*n) u o 8=some y∧iM b (n+1)=some y:=by
 have pre:∀ {m k:Nat} {x:List Int},iM b m=some x→k≤m→∃ z,iM b k=some z:=by
  intro m
  induction m with
  | zero=>intro k x e hk;obtain rfl:k=0:=(by omega);exact ⟨_,rfl⟩
  | succ m ih =>
   intro k x e hk
   by_cases h:k=m+1
   ·subst h;exact ⟨x,e⟩
   ·obtain ⟨z,h1,_⟩:=Option.bind_eq_some_iff.1 e
    exact ih h1 (by omega)
 obtain ⟨z,hz⟩:=pre e (show n+1≤4 by omega)
 have h2:=hz
 unfold iM at h2
 rw [ho] at h2
 simp only [Option.bind_some] at h2
 obtain ⟨u,h3,h4⟩:=Option.bind_eq_some_iff.1 h2
 exact ⟨u,z,h3,h4,hz⟩
theorem ints_at {b:List Int} {i:Nat} (h:i<b.length):(b.map (Value.int .i64))[i]?=some (.int .i64 (b.getD i 0)):=by
 simp [List.getD_eq_getElem?_getD,List.getElem?_eq_getElem h]
theorem bB {v:List Int}:∀ u∈(v.map (Value.int .i64)).toArray.toList,u.oneCell'=true:=by
 intro u hu
 simp at hu
 obtain ⟨a,_,rfl⟩:=hu
 rfl
theorem FU {b:List Int} {r k:Nat} (t:List PF) (ht:t.take k=(qS b r).take k) (hk:k<8) (hl:t.length=8):(t.set k (FN (b.getD (8*r+k) 0),FN (b.getD (8*r+8+k) 0))).take (k+1)=(qS b r).take (k+1):=by
 have e:(qS b r)[k]?=some (FN (b.getD (8*r+k) 0),FN (b.getD (8*r+8+k) 0)):=by simp [qS,hk]
 rw [List.take_add_one,List.take_add_one,List.take_set_of_le (Nat.le_refl k),ht,List.getElem?_set_self (by omega),e]
set_option maxRecDepth 20000 in
set_option maxHeartbeats 4000000 in
theorem yE {b x:List Int} {w:World} (hb:b.length=64) (h:iM b 4=some x) :
  aX Tryz.prog 181 #[.agg (b.map (Value.int .i64)).toArray] w fun r w'=>r=.agg (x.map (Value.int .i64)).toArray∧Ext [] w w':=by
 refine aL (args:=[_]) Tryz.func181 rfl rfl Tryz.ntmps181 rfl ?_
 have hH:=Hp.start w
 refine aK ?_
 refine aA (bI (cs:=(b.map (Value.int .i64)).toArray) hH rfl rfl rfl ?_)
 try clear hH
 intro w1 b1 hH
 replace hH:=aI hH
 refine aA (aQ hH (Ty.bH rfl) rfl ?_)
 try clear hH
 intro w2 b2 hH
 replace hH:=aI hH
 refine aK ?_
 refine aA (aQ hH (Ty.bH rfl) rfl ?_)
 try clear hH
 intro w3 b3 hH
 replace hH:=aI hH
 refine aK ?_
 refine aV (G:=(Nat) × (List Int)) (fun|(n,o)=>4-n) 576460752303423472 (fun|(n,o)=>[(4,.int .i64 ((2*n:Nat):Int))]) (fun|(n,o),w'=>n≤4∧iM b n=some o∧Hp [] w w' [Rb b1 92 (b.map (Value.int .i64)).toArray,Rb b2 92 ((List.replicate 64 (0:Int)).map (Value.int .i64)).toArray,Rb b3 92 (o.map (Value.int .i64)).toArray]) (0,List.replicate 64 0) ⟨rfl,trivial⟩ ⟨by omega,rfl,hH⟩ ?_
 rintro ⟨n,o⟩ w' σ ⟨hn,ho,hH⟩ IH
 show WS _ _ _ _ _ (bQ [(4,.int .i64 ((2*n:Nat):Int))] _) _
 have hol:=yF ho
 by_cases hlt:n<4
 ·obtain ⟨u,y,hu,hy,hyn⟩:=DB h hlt ho
  refine aK ?_
  refine aA (aQ hH (Ty.bH rfl) rfl ?_)
  try clear hH
  intro w4 b5 hH
  replace hH:=aI hH
  refine aK ?_
  have IH0:=IH
  clear IH
  refine aV (G:=(Nat) × (List PF)) (fun|(i,t)=>8-i) 34359730240 (fun|(i,t)=>[(13,.int .i64 i)]) (fun|(i,t),w'=>i≤8∧t.length=8∧t.take i=(qS b (2*n)).take i∧Hp [] w w' [Rb b1 92 (b.map (Value.int .i64)).toArray,Rb b2 92 ((List.replicate 64 (0:Int)).map (Value.int .i64)).toArray,Rb b3 92 (o.map (Value.int .i64)).toArray,Rb b5 315 (sO t).toArray]) (0,List.replicate 8 (0,0)) ⟨rfl,trivial⟩ ⟨by omega,rfl,rfl,hH⟩ ?_
  rintro ⟨i,t⟩ w' σ ⟨hi,htl,ht,hH⟩ IH
  show WS _ _ _ _ _ (bQ [(13,.int .i64 i)] _) _
  by_cases hlt8:i<8
  ·have hB:cI w' (some ⟨b1,0,none⟩) (b.map (Value.int .i64)):=(hH.b 0 rfl).cX
   have hi1:=ints_at (b:=b) (i:=8*(2*n)+i) (by omega)
   have hi2:=ints_at (b:=b) (i:=8*(2*n)+8+i) (by omega)
   refine aK ?_
   refine iL Ty.mixed 18 rfl (by kernel_rfl) rfl (fun u=>Ext [] w' u) ?_
   have hx1:Ext [] w' w'.drew:=Ext.dV
   refine FL ?_
   refine aY 1 hx1 rfl (fun w' hw'=>by refine aP rfl) ?_
   refine aY 2 hx1 rfl (fun w' hw'=>by refine bN rfl rfl (by omega)) ?_
   refine aY 3 hx1 rfl (fun w' hw'=>by refine aP rfl) ?_
   refine aY 4 hx1 rfl (fun w' hw'=>by refine cT rfl rfl (by omega)) ?_
   refine aY 5 hx1 rfl (fun w' hw'=>by refine bD rfl rfl (Ty.arr rfl) (by omega)) ?_
   refine aY 6 hx1 rfl (fun w' hw'=>by refine aU rfl (hB.aH hw') hi1 (Ty.aF rfl)) ?_
   refine aY 7 hx1 rfl (fun w' hw'=>by refine kX rfl (Ty.AP rfl) OW) ?_
   refine aY 8 hx1 rfl (fun w' hw'=>by refine aP rfl) ?_
   refine aY 9 hx1 rfl (fun w' hw'=>by refine bN rfl rfl (by omega)) ?_
   refine aY 10 hx1 rfl (fun w' hw'=>by refine cT rfl rfl (by omega)) ?_
   refine aY 11 hx1 rfl (fun w' hw'=>by refine aP rfl) ?_
   refine aY 12 hx1 rfl (fun w' hw'=>by refine cT rfl rfl (by omega)) ?_
   refine aY 13 hx1 rfl (fun w' hw'=>by refine bD rfl rfl (Ty.arr rfl) (by omega)) ?_
   refine aY 14 hx1 rfl (fun w' hw'=>by refine aU rfl (hB.aH hw') hi2 (Ty.aF rfl)) ?_
   refine aY 15 hx1 rfl (fun w' hw'=>by refine kX rfl (Ty.AP rfl) OW) ?_
   refine aY 16 hx1 rfl (fun w' hw'=>by refine rT rfl rfl) ?_
   refine aY 17 hx1 rfl (fun w' hw'=>by refine bD rfl rfl (Ty.arr rfl) (by omega)) ?_
   refine aW (by kernel_rfl) ?_
   replace hH:=hH.aH hx1
   refine aA (cF 3 (v:=PV (FN (b.getD (8*(2*n)+i) 0),FN (b.getD (8*(2*n)+8+i) 0))) hH rfl rfl rfl (by simp;omega) rfl (Ty.aF rfl) ?_)
   clear hH
   intro w5 hH
   replace hH:=aI hH
   rw [← List.map_set] at hH
   refine aK ?_
   refine IH (i+1,t.set i (FN (b.getD (8*(2*n)+i) 0),FN (b.getD (8*(2*n)+8+i) 0))) _ _ ?_ ?_ ?_ ?_
   ·simp only;omega
   ·exact ⟨rfl,trivial⟩
   ·exact cP
   ·exact ⟨by omega,by rw [List.length_set];exact htl,FU t ht hlt8 htl,hH⟩
  ·obtain rfl:i=8:=by omega
   have e:t=qS b (2*n):=by
    rw [List.take_of_length_le (by omega),List.take_of_length_le (by simp [qS])] at ht
    exact ht
   subst e
   have hB:=hH.b 3 rfl
   repeat (first|refine aR ?_|(refine aD (by refine aE rfl hB (by simp [qS]) (Ty.aF rfl)) rfl ?_)|refine aT ?_)
   refine aO ?_
   refine aA (aC ((DI htl hu)) rfl rfl ?_)
   rintro _ w4 ⟨rfl,hE⟩
   replace hH:=(hH.aH hE).del 3
   replace hH:=aI hH
   clear hB IH
   have hul:u.length=8:=by
    obtain ⟨z,_,hzu⟩:=Option.map_eq_some_iff.1 hu
    rw [← hzu];rfl
   refine aK ?_
   refine aV (G:=(Nat) × (List Int)) (fun|(k,q)=>8-k) 576460614864470400 (fun|(k,q)=>[(37,.int .i64 k)]) (fun|(k,q),w'=>k≤8∧iQ (2*n) u o k=some q∧Hp [] w w' [Rb b1 92 (b.map (Value.int .i64)).toArray,Rb b2 92 ((List.replicate 64 (0:Int)).map (Value.int .i64)).toArray,Rb b3 92 (q.map (Value.int .i64)).toArray]) (0,o) ⟨rfl,trivial⟩ ⟨by omega,rfl,hH⟩ ?_
   rintro ⟨k,q⟩ w' σ ⟨hk,hq,hH⟩ IH
   show WS _ _ _ _ _ (bQ [(37,.int .i64 k)] _) _
   have hql:q.length=64:=(nH hq).trans hol
   by_cases hlt8:k<8
   ·obtain ⟨x1,x2,hx1,hx2,hqn⟩:=zG hy hlt8 hq
    obtain ⟨ht1,hr1⟩:=nM hx1
    obtain ⟨ht2,hr2⟩:=nM hx2
    have hi1:(sO u).toArray[k]?=some (PV (u.getD k (0,0))):=by rw [List.getElem?_toArray];exact oV (by omega)
    repeat (first|refine aR ?_|(refine aD (by first|refine cB rfl rfl (Ty.arr rfl) (by omega) hi1|refine DL rfl|refine DX rfl|refine lA rfl (Ty.AP rfl) (Ty.Co rfl) ht1 hr1|refine lA rfl (Ty.AP rfl) (Ty.Co rfl) ht2 hr2|refine bD rfl rfl (Ty.arr rfl) (by omega)) rfl ?_)|refine aT ?_)
    refine aA (cF 2 (v:=.int .i64 x1) hH rfl rfl rfl (by simp;omega) rfl (Ty.aF rfl) ?_)
    clear hH
    intro w5 hH
    replace hH:=aI hH
    repeat ((refine aD (by refine bD rfl rfl (Ty.arr rfl) (by omega)) rfl ?_))
    refine aA (cF 2 (v:=.int .i64 x2) hH rfl rfl rfl (by simp;omega) rfl (Ty.aF rfl) ?_)
    clear hH
    intro w6 hH
    replace hH:=aI hH
    rw [← List.map_set,← List.map_set] at hH
    refine aK ?_
    refine IH (k+1,(q.set (8*k+2*n) x1).set (8*k+2*n+1) x2) _ _ ?_ ?_ ?_ ?_
    ·simp only;omega
    ·exact ⟨rfl,trivial⟩
    ·exact cP
    ·exact ⟨by omega,hqn,hH⟩
   ·obtain rfl:k=8:=by omega
    obtain rfl:y=q:=by rw [hq] at hy;exact (Option.some.inj hy).symm
    refine aK ?_
    refine IH0 (n+1,y) _ _ ?_ ?_ ?_ ?_
    ·simp only;omega
    ·exact ⟨congrArg (Value.int .i64) (show ((2*n:Nat):Int)+2=((2*(n+1):Nat):Int) by omega),trivial⟩
    ·exact cP
    ·exact ⟨by omega,hyn,hH⟩
 ·obtain rfl:n=4:=by omega
  obtain rfl:x=o:=by rw [ho] at h;exact (Option.some.inj h).symm
  have hB:=hH.b 2 rfl
  repeat (first|refine aR ?_|(refine aD (by refine aE rfl hB (by simp;omega) (Ty.aF rfl)) rfl ?_)|refine aT ?_)
  refine aA (aJ 1 (vs:=(x.map (Value.int .i64)).toArray) (s:=64) hH rfl rfl rfl (by simp;omega) (by simp) bB (Ty.aF rfl) ?_)
  clear hH
  intro w6 hH
  replace hH:=aI hH
  refine aK ?_
  exact bP Tryz.func181 rfl rfl (hH.b 1 rfl) (by simp;omega) (Ty.aF rfl) ⟨rfl,hH.ext⟩
theorem Bz {b x o:List Int} {n:Nat} (e:fH b 4=some x) (hn:n<4) (ho:fH b n=some o):∃ u y,cW (Dd b (2*n) 8) 3=some u∧iQ (2*n) u o 8=some y∧fH b (n+1)=some y:=by
 have pre:∀ {m k:Nat} {x:List Int},fH b m=some x→k≤m→∃ z,fH b k=some z:=by
  intro m
  induction m with
  | zero=>intro k x e hk;obtain rfl:k=0:=(by omega);exact ⟨_,rfl⟩
  | succ m ih =>
   intro k x e hk
   by_cases h:k=m+1
   ·subst h;exact ⟨x,e⟩
   ·obtain ⟨z,h1,_⟩:=Option.bind_eq_some_iff.1 e
    exact ih h1 (by omega)
 obtain ⟨z,hz⟩:=pre e (show n+1≤4 by omega)
 have h2:=hz
 unfold fH at h2
 rw [ho] at h2
 simp only [Option.bind_some] at h2
 obtain ⟨u,h3,h4⟩:=Option.bind_eq_some_iff.1 h2
 exact ⟨u,z,h3,h4,hz⟩
set_option maxRecDepth 20000 in
set_option maxHeartbeats 8000000 in
theorem zI {b x:List Int} {w:World} (hb:b.length=64) (h:fH b 4=some x) :
  aX Tryz.prog 188 #[.agg (b.map (Value.int .i64)).toArray] w fun r w'=>r=.agg (x.map (Value.int .i64)).toArray∧Ext [] w w':=by
 refine aL (args:=[_]) Tryz.func188 rfl rfl Tryz.ntmps188 rfl ?_
 have hH:=Hp.start w
 refine aK ?_
 refine aA (bI (cs:=(b.map (Value.int .i64)).toArray) hH rfl rfl rfl ?_)
 try clear hH
 intro w1 b1 hH
 replace hH:=aI hH
 refine aA (aQ hH (Ty.bH rfl) rfl ?_)
 try clear hH
 intro w2 b2 hH
 replace hH:=aI hH
 refine aK ?_
 refine aA (aQ hH (Ty.bH rfl) rfl ?_)
 try clear hH
 intro w3 b3 hH
 replace hH:=aI hH
 refine aK ?_
 refine aV (G:=(Nat) × (List Int)) (fun|(n,o)=>4-n) 158456325028528675187087900656 (fun|(n,o)=>[(4,.int .i64 ((2*n:Nat):Int))]) (fun|(n,o),w'=>n≤4∧fH b n=some o∧Hp [] w w' [Rb b1 92 (b.map (Value.int .i64)).toArray,Rb b2 92 ((List.replicate 64 (0:Int)).map (Value.int .i64)).toArray,Rb b3 92 (o.map (Value.int .i64)).toArray]) (0,List.replicate 64 0) ⟨rfl,trivial⟩ ⟨by omega,rfl,hH⟩ ?_
 rintro ⟨n,o⟩ w' σ ⟨hn,ho,hH⟩ IH
 show WS _ _ _ _ _ (bQ [(4,.int .i64 ((2*n:Nat):Int))] _) _
 have hol:=wN ho
 by_cases hlt:n<4
 ·obtain ⟨u,y,hu,hy,hyn⟩:=Bz h hlt ho
  refine aK ?_
  refine aA (aQ hH (Ty.bH rfl) rfl ?_)
  try clear hH
  intro w4 b5 hH
  replace hH:=aI hH
  refine aK ?_
  refine aO ?_
  refine aA (aC (tQ) rfl rfl ?_)
  rintro _ w5 ⟨rfl,hE⟩
  replace hH:=hH.aH hE
  replace hH:=aI hH
  refine aK ?_
  have IH0:=IH
  clear IH
  refine aV (G:=(Nat)) (fun i=>8-i) 4398045987008 (fun i=>[(19,.int .i64 i)]) (fun i w'=>i≤8∧Hp [] w w' [Rb b1 92 (b.map (Value.int .i64)).toArray,Rb b2 92 ((List.replicate 64 (0:Int)).map (Value.int .i64)).toArray,Rb b3 92 (o.map (Value.int .i64)).toArray,Rb b5 315 (sO (Dd b (2*n) i)).toArray]) (0) ⟨rfl,trivial⟩ ⟨by omega,hH⟩ ?_
  rintro i w' σ ⟨hi,hH⟩ IH
  show WS _ _ _ _ _ (bQ [(19,.int .i64 i)] _) _
  have htl:=uC b (2*n) i
  by_cases hlt8:i<8
  ·have hB:cI w' (some ⟨b1,0,none⟩) (b.map (Value.int .i64)):=(hH.b 0 rfl).cX
   have hi1:=ints_at (b:=b) (i:=8*(2*n)+i) (by omega)
   have hi2:=ints_at (b:=b) (i:=8*(2*n)+8+i) (by omega)
   obtain ⟨o',ho',ho8,hx1⟩:=ET i hlt8
   repeat (first|refine aR ?_|(refine aD (by refine cB rfl rfl (Ty.arr rfl) (by omega) hx1) rfl ?_)|refine aT ?_)
   refine iL Ty.mixed 18 rfl (by kernel_rfl) rfl (fun u=>Ext [] w' u) ?_
   have hx1:Ext [] w' w'.drew:=Ext.dV
   refine FL ?_
   refine aY 1 hx1 rfl (fun w' hw'=>by refine aP rfl) ?_
   refine aY 2 hx1 rfl (fun w' hw'=>by refine bN rfl rfl (by omega)) ?_
   refine aY 3 hx1 rfl (fun w' hw'=>by refine aP rfl) ?_
   refine aY 4 hx1 rfl (fun w' hw'=>by refine cT rfl rfl (by omega)) ?_
   refine aY 5 hx1 rfl (fun w' hw'=>by refine bD rfl rfl (Ty.arr rfl) (by omega)) ?_
   refine aY 6 hx1 rfl (fun w' hw'=>by refine aU rfl (hB.aH hw') hi1 (Ty.aF rfl)) ?_
   refine aY 7 hx1 rfl (fun w' hw'=>by refine kX rfl (Ty.AP rfl) OW) ?_
   refine aY 8 hx1 rfl (fun w' hw'=>by refine aP rfl) ?_
   refine aY 9 hx1 rfl (fun w' hw'=>by refine bN rfl rfl (by omega)) ?_
   refine aY 10 hx1 rfl (fun w' hw'=>by refine cT rfl rfl (by omega)) ?_
   refine aY 11 hx1 rfl (fun w' hw'=>by refine aP rfl) ?_
   refine aY 12 hx1 rfl (fun w' hw'=>by refine cT rfl rfl (by omega)) ?_
   refine aY 13 hx1 rfl (fun w' hw'=>by refine bD rfl rfl (Ty.arr rfl) (by omega)) ?_
   refine aY 14 hx1 rfl (fun w' hw'=>by refine aU rfl (hB.aH hw') hi2 (Ty.aF rfl)) ?_
   refine aY 15 hx1 rfl (fun w' hw'=>by refine kX rfl (Ty.AP rfl) OW) ?_
   refine aY 16 hx1 rfl (fun w' hw'=>by refine rT rfl rfl) ?_
   refine aY 17 hx1 rfl (fun w' hw'=>by refine bD rfl rfl (Ty.arr rfl) (by omega)) ?_
   refine aW (by kernel_rfl) ?_
   replace hH:=hH.aH hx1
   refine aA (cF 3 (v:=PV (FN (b.getD (8*(2*n)+i) 0),FN (b.getD (8*(2*n)+8+i) 0))) hH rfl rfl rfl (by simp;omega) rfl (Ty.aF rfl) ?_)
   clear hH
   intro w6 hH
   replace hH:=aI hH
   rw [← List.map_set] at hH
   have dW:(Dd b (2*n) i).set o' (FN (b.getD (8*(2*n)+i) 0),FN (b.getD (8*(2*n)+8+i) 0))=Dd b (2*n) (i+1):=by
    have e:gV.getD i 0=o':=by rw [List.getD_eq_getElem?_getD,ho'];rfl
    show _=(Dd b (2*n) i).set (gV.getD i 0) _
    rw [e]
   replace hH:Hp [] w w6 [Rb b1 92 (b.map (Value.int .i64)).toArray,Rb b2 92 ((List.replicate 64 (0:Int)).map (Value.int .i64)).toArray,Rb b3 92 (o.map (Value.int .i64)).toArray,Rb b5 315 (sO (Dd b (2*n) (i+1))).toArray]:=dW▸hH
   refine aK ?_
   refine IH (i+1) _ _ ?_ ?_ ?_ ?_
   ·omega
   ·exact ⟨rfl,trivial⟩
   ·exact cP
   ·exact ⟨by omega,hH⟩
  ·obtain rfl:i=8:=by omega
   clear IH
   generalize Dd b (2 * n) 8=v at *
   refine aK ?_
   refine aV (G:=(Nat) × (List PF)) (fun|(m,x2)=>3-m) 18889465927080534347520 (fun|(m,x2)=>[(8,.int .i64 ((2 ^ m:Nat):Int))]) (fun|(m,x2),w'=>m≤3∧cW v m=some x2∧Hp [] w w' [Rb b1 92 (b.map (Value.int .i64)).toArray,Rb b2 92 ((List.replicate 64 (0:Int)).map (Value.int .i64)).toArray,Rb b3 92 (o.map (Value.int .i64)).toArray,Rb b5 315 (sO x2).toArray]) (0,v) ⟨rfl,trivial⟩ ⟨by omega,rfl,hH⟩ ?_
   rintro ⟨m,x2⟩ w' σ ⟨hn,hx,hH⟩ IH
   show WS _ _ _ _ _ (bQ [(8,.int .i64 ((2 ^ m:Nat):Int))] _) _
   have hxl:x2.length=8:=(qC hx).trans htl
   by_cases hlt:m<3
   ·obtain ⟨y,hy,hyn⟩:=yK hu hlt hx
    have hp:=LU m hlt
    have hal:=G1 m hlt
    have hdb:((2 ^ m:Nat):Int)*2=((2 ^ (m+1):Nat):Int):=by rw [Nat.pow_succ];omega
    obtain ⟨hh,hhe⟩:∃ hh,2 ^ m=hh:=⟨_,rfl⟩
    rw [hhe] at hy hp hal hdb ⊢
    refine aK ?_
    have IH1:=IH
    clear IH
    refine aV (G:=(Nat) × (List PF)) (fun|(j,t)=>8-j) 18889465861109836680704 (fun|(j,t)=>[(46,.int .i64 j)]) (fun|(j,t),w'=>j≤8∧oE hh x2 j=some t∧Hp [] w w' [Rb b1 92 (b.map (Value.int .i64)).toArray,Rb b2 92 ((List.replicate 64 (0:Int)).map (Value.int .i64)).toArray,Rb b3 92 (o.map (Value.int .i64)).toArray,Rb b5 315 (sO t).toArray]) (0,x2) ⟨rfl,trivial⟩ ⟨by omega,rfl,hH⟩ ?_
    rintro ⟨j,t⟩ w' σ ⟨hi,ht,hH⟩ IH
    show WS _ _ _ _ _ (bQ [(46,.int .i64 j)] _) _
    have htl:t.length=8:=(qW ht).trans hxl
    by_cases hlt8:j<8
    ·obtain ⟨s,hs,hsn⟩:=yY hy hlt8 ht
     repeat (first|refine aR ?_|(refine aD (by refine tT rfl rfl (mU (by omega)) (mU (by omega))) rfl ?_)|refine aT ?_)
     refine sL rfl (fun h0=>?_) (fun h0=>?_)
     ·have h0':j &&& hh=0:=Int.ofNat.inj h0
      have hih:=hal j hlt8 h0'
      unfold dW at hs
      rw [if_pos h0'] at hs
      split at hs
      case h_2=>cases hs
      rename_i a b' ha hb
      obtain rfl:=Option.some.inj hs
      have hB:cI w' (some ⟨b5,0,none⟩) (sO t):=(hH.b 3 rfl).cX
      have hi1:=oV (v:=t) (i:=j) (by omega)
      have hi2:=oV (v:=t) (i:=j+hh) (by omega)
      refine aK ?_
      refine cD Ty.mixed 10 rfl (fun w1 hx1=>?_)
      refine bE 0 hx1 ?_
      refine aY 1 hx1 rfl (fun w' hw'=>by refine bD rfl rfl (Ty.arr rfl) (by omega)) ?_
      refine aY 2 hx1 rfl (fun w' hw'=>by refine aU rfl (hB.aH hw') hi1 (Ty.aF rfl)) ?_
      refine bE 3 hx1 ?_
      refine bE 4 hx1 ?_
      refine bE 5 hx1 ?_
      refine aY 6 hx1 rfl (fun w' hw'=>by refine bD rfl rfl (Ty.arr rfl) (by omega)) ?_
      refine aY 7 hx1 rfl (fun w' hw'=>by refine aU rfl (hB.aH hw') hi2 (Ty.aF rfl)) ?_
      refine bE 8 hx1 ?_
      refine bE 9 hx1 ?_
      refine aW (by kernel_rfl) ?_
      replace hH:=hH.aH hx1
      repeat (first|refine aR ?_|(refine aD (by first|refine Ez rfl rfl ha|refine Ew rfl rfl hb|refine bD rfl rfl (Ty.arr rfl) (by omega)) rfl ?_)|refine aT ?_)
      refine aA (cF 3 (v:=PV a) hH rfl rfl rfl (by simp;omega) rfl (Ty.aF rfl) ?_)
      clear hH
      intro w4 hH
      replace hH:=aI hH
      repeat ((refine aD (by refine bD rfl rfl (Ty.arr rfl) (by omega)) rfl ?_))
      refine aA (cF 3 (v:=PV b') hH rfl rfl rfl (by simp;omega) rfl (Ty.aF rfl) ?_)
      clear hH
      intro w5 hH
      replace hH:=aI hH
      rw [← List.map_set,← List.map_set] at hH
      refine aK ?_
      refine IH (j+1,(t.set j a).set (j+hh) b') _ _ ?_ ?_ ?_ ?_
      ·simp only;omega
      ·exact ⟨rfl,trivial⟩
      ·exact cP
      ·exact ⟨by omega,hsn,hH⟩
     ·have h0':¬ (j &&& hh=0):=fun h=>h0 (by rw [h];rfl)
      unfold dW at hs
      rw [if_neg h0'] at hs
      obtain rfl:=Option.some.inj hs
      refine aK ?_
      refine IH (j+1,t) _ _ ?_ ?_ ?_ ?_
      ·simp only;omega
      ·exact ⟨rfl,trivial⟩
      ·exact cP
      ·exact ⟨by omega,hsn,hH⟩
    ·obtain rfl:j=8:=by omega
     obtain rfl:y=t:=by rw [ht] at hy;exact (Option.some.inj hy).symm
     refine aK ?_
     refine IH1 (m+1,y) _ _ ?_ ?_ ?_ ?_
     ·simp only;omega
     ·exact ⟨congrArg (Value.int .i64) hdb,trivial⟩
     ·exact cP
     ·exact ⟨by omega,hyn,hH⟩
   ·obtain rfl:m=3:=by omega
    obtain rfl:u=x2:=by rw [hx] at hu;exact (Option.some.inj hu).symm
    have hB:=hH.b 3 rfl
    repeat (first|refine aR ?_|(refine aD (by refine aE rfl hB (by simp;omega) (Ty.aF rfl)) rfl ?_)|refine aT ?_)
    replace hH:=hH.del 3
    replace hH:=aI hH
    clear hB IH
    have hul:u.length=8:=hxl
    refine aK ?_
    refine aV (G:=(Nat) × (List Int)) (fun|(k,q)=>8-k) 158456287249596812229926203392 (fun|(k,q)=>[(75,.int .i64 k)]) (fun|(k,q),w'=>k≤8∧iQ (2*n) u o k=some q∧Hp [] w w' [Rb b1 92 (b.map (Value.int .i64)).toArray,Rb b2 92 ((List.replicate 64 (0:Int)).map (Value.int .i64)).toArray,Rb b3 92 (q.map (Value.int .i64)).toArray]) (0,o) ⟨rfl,trivial⟩ ⟨by omega,rfl,hH⟩ ?_
    rintro ⟨k,q⟩ w' σ ⟨hk,hq,hH⟩ IH
    show WS _ _ _ _ _ (bQ [(75,.int .i64 k)] _) _
    have hql:q.length=64:=(nH hq).trans hol
    by_cases hlt8:k<8
    ·obtain ⟨x1,x2,hx1,hx2,hqn⟩:=zG hy hlt8 hq
     obtain ⟨ht1,hr1⟩:=nM hx1
     obtain ⟨ht2,hr2⟩:=nM hx2
     have hi1:(sO u).toArray[k]?=some (PV (u.getD k (0,0))):=by rw [List.getElem?_toArray];exact oV (by omega)
     repeat (first|refine aR ?_|(refine aD (by first|refine cB rfl rfl (Ty.arr rfl) (by omega) hi1|refine DL rfl|refine DX rfl|refine lA rfl (Ty.AP rfl) (Ty.Co rfl) ht1 hr1|refine lA rfl (Ty.AP rfl) (Ty.Co rfl) ht2 hr2|refine bD rfl rfl (Ty.arr rfl) (by omega)) rfl ?_)|refine aT ?_)
     refine aA (cF 2 (v:=.int .i64 x1) hH rfl rfl rfl (by simp;omega) rfl (Ty.aF rfl) ?_)
     clear hH
     intro w5 hH
     replace hH:=aI hH
     repeat ((refine aD (by refine bD rfl rfl (Ty.arr rfl) (by omega)) rfl ?_))
     refine aA (cF 2 (v:=.int .i64 x2) hH rfl rfl rfl (by simp;omega) rfl (Ty.aF rfl) ?_)
     clear hH
     intro w6 hH
     replace hH:=aI hH
     rw [← List.map_set,← List.map_set] at hH
     refine aK ?_
     refine IH (k+1,(q.set (8*k+2*n) x1).set (8*k+2*n+1) x2) _ _ ?_ ?_ ?_ ?_
     ·simp only;omega
     ·exact ⟨rfl,trivial⟩
     ·exact cP
     ·exact ⟨by omega,hqn,hH⟩
    ·obtain rfl:k=8:=by omega
     obtain rfl:y=q:=by rw [hq] at hy;exact (Option.some.inj hy).symm
     refine aK ?_
     refine IH0 (n+1,y) _ _ ?_ ?_ ?_ ?_
     ·simp only;omega
     ·exact ⟨congrArg (Value.int .i64) (show ((2*n:Nat):Int)+2=((2*(n+1):Nat):Int) by omega),trivial⟩
     ·exact cP
     ·exact ⟨by omega,hyn,hH⟩
 ·obtain rfl:n=4:=by omega
  obtain rfl:x=o:=by rw [ho] at h;exact (Option.some.inj h).symm
  have hB:=hH.b 2 rfl
  repeat (first|refine aR ?_|(refine aD (by refine aE rfl hB (by simp;omega) (Ty.aF rfl)) rfl ?_)|refine aT ?_)
  refine aA (aJ 1 (vs:=(x.map (Value.int .i64)).toArray) (s:=64) hH rfl rfl rfl (by simp;omega) (by simp) bB (Ty.aF rfl) ?_)
  clear hH
  intro w6 hH
  replace hH:=aI hH
  refine aK ?_
  exact bP Tryz.func188 rfl rfl (hH.b 1 rfl) (by simp;omega) (Ty.aF rfl) ⟨rfl,hH.ext⟩
set_option maxRecDepth 20000 in
set_option maxHeartbeats 4000000 in
theorem wM {n e:Int} {w:World} (he:-9223372036854775807≤e∧e≤9223372036854775807):aX Tryz.prog 107 #[.int .i64 n,.int .i64 e] w fun v w'=>v=.int .i64 (max (min n (e-1)) 0)∧w'=w:=by
 refine aL (args:=[_,_]) Tryz.func107 rfl rfl Tryz.ntmps107 rfl ?_
 refine aK ?_
 exact aM Tryz.func107 rfl ⟨rfl,rfl⟩
abbrev Ld (m n b:Nat):List Value:=[.int .i64 (m:Nat),.int .i64 (n:Nat),.slice (some ⟨b,0,none⟩) (m*n) (m*n)]
theorem J4 {k n:Nat} {x y:Value} (h:k<n):(List.replicate k x++List.replicate (n-k) y).set k x=List.replicate (k+1) x++List.replicate (n-(k+1)) y:=by
 rw [show n-k=(n-(k+1))+1 by omega,List.replicate_succ,List.set_append_right _ _ (by simp)]
 simp [List.replicate_succ']
set_option maxHeartbeats 4000000 in
theorem oU {m n x:Nat} {w:World} (hm:m≤1024) (hn:n≤1024) :
  aX Tryz.prog 34 #[.int .i64 m,.int .i64 n,.int .u8 x] w fun v w'=>∃ b,v=.agg (Ld m n b).toArray∧iA (Rb b 5 (List.replicate (m*n) (Value.int .u8 x)).toArray) w w':=by
 refine aL (args:=[_,_,_]) Tryz.func34 rfl rfl Tryz.ntmps34 rfl ?_
 have hmn:m*n≤1048576:=Nat.mul_le_mul hm hn
 have hmi:(m:Int)*n=((m*n:Nat):Int):=by simp
 have hH:=Hp.start w
 refine aK ?_
 refine aA (aQ hH (Ty.bH rfl) rfl ?_)
 try clear hH
 intro w1 b1 hH
 replace hH:=aI hH
 have e1:min (max (m:Int) 0) 1024=m:=by omega
 have e2:min (max (n:Int) 0) 1024=n:=by omega
 repeat (first|refine aR ?_|(refine aD (by first|refine (eK rfl rfl).is (congrArg (Value.int .i64) e1)|refine (eK rfl rfl).is (congrArg (Value.int .i64) e2)|refine (bN (m:=m) (n:=n) rfl rfl (by omega)).is (congrArg (Value.int .i64) hmi)) rfl ?_)|refine aT ?_)
 refine aA (IY (n:=m*n) hH (Ty.sle rfl) (Ty.bH rfl) (Ty.gS rfl) rfl rfl rfl rfl (by omega) (by simp only [maxLen];omega) rfl ?_)
 clear hH
 intro w2 b2 hH
 replace hH:=aI hH
 rw [BU] at hH
 repeat ((refine aD (by refine bR (cs:=Ld m n b2) (Ty.bH rfl) (Ty.iJ rfl) rfl) rfl ?_))
 refine aA (aQ hH (Ty.bH rfl) rfl ?_)
 clear hH
 intro w3 b7 hH
 replace hH:=aI hH
 refine aK ?_
 refine aA (aJ 2 (vs:=(Ld m n b2).toArray) (s:=3) hH rfl rfl rfl rfl rfl (by simp [Value.oneCell']) (Ty.aF rfl) ?_)
 clear hH
 intro w4 hH
 replace hH:=aI hH
 have hB:=hH.b 2 rfl
 repeat (first|refine aR ?_|(refine aD (by first|refine aN rfl (Ty.bA rfl rfl)|refine aB rfl hB rfl (Ty.aF rfl)) rfl ?_)|refine aT ?_)
 clear hB
 obtain ⟨N,hN⟩:∃ N,m*n=N:=⟨_,rfl⟩
 refine aV (G:=(Nat)) (fun k=>m*n-k) 17146315008 (fun k=>[(25,.int .i64 k)]) (fun k w'=>k≤m*n∧Hp [] w w' [Rb b1 52 #[.int .i64 0,.int .i64 0,.slice none 0 0],Rb b2 5 (List.replicate k (Value.int .u8 x)++List.replicate (m*n-k) (Value.int .u8 0)).toArray,Rb b7 52 (Ld m n b2).toArray]) (0) ⟨rfl,trivial⟩ ⟨by omega,hH⟩ ?_
 rintro k w' σ ⟨hk,hH⟩ IH
 show WS _ _ _ _ _ (bQ [(25,.int .i64 k)] _) _
 have hB:=hH.b 2 rfl
 have hS:cI w' (some ⟨b2,0,none⟩) (List.replicate k (Value.int .u8 x)++List.replicate (m*n-k) (Value.int .u8 0)):=(hH.b 1 rfl).cX
 by_cases hlt:k<m*n
 ·repeat (first|refine aR ?_|(refine aD (by first|refine aN rfl (Ty.bA rfl rfl)|refine aB rfl hB rfl (Ty.aF rfl)|refine cG rfl rfl hS (by simp;omega) (Ty.sle rfl) (by omega)) rfl ?_)|refine aT ?_)
  refine aA (cF 1 (v:=.int .u8 x) hH rfl rfl rfl (by simp;omega) rfl (Ty.aF rfl) ?_)
  clear hH
  intro w5 hH
  replace hH:=aI hH
  rw [Int.toNat_natCast,J4 hlt] at hH
  refine aK ?_
  refine IH (k+1) _ _ ?_ ?_ ?_ ?_
  ·omega
  ·exact ⟨rfl,trivial⟩
  ·exact cP
  ·exact ⟨by omega,hH⟩
 ·obtain rfl:k=m*n:=by omega
  rw [Nat.sub_self,List.replicate_zero,List.append_nil] at hH
  repeat (first|refine aR ?_|(refine aD (by refine aE rfl hB rfl (Ty.aF rfl)) rfl ?_)|refine aT ?_)
  refine aA (aJ 0 (vs:=(Ld m n b2).toArray) (s:=3) hH rfl rfl rfl rfl rfl (by simp [Value.oneCell']) (Ty.aF rfl) ?_)
  clear hH
  intro w6 hH
  replace hH:=aI hH
  refine aK ?_
  exact bP Tryz.func34 rfl rfl (hH.b 0 rfl) rfl (Ty.aF rfl) ⟨b2,rfl,hH.oA 1 rfl⟩
abbrev LK (c r y u v:Nat):List Value:=[.int .i64 (c:Nat),.int .i64 (r:Nat)]++Ld (16*c) (16*r) y++Ld (8*c) (8*r) u++Ld (8*c) (8*r) v
abbrev QI (c r y u v x:Nat):List cK:=[Rb y 5 (List.replicate (16*c*(16*r)) (Value.int .u8 x)).toArray,Rb u 5 (List.replicate (8*c*(8*r)) (Value.int .u8 x)).toArray,Rb v 5 (List.replicate (8*c*(8*r)) (Value.int .u8 x)).toArray]
set_option maxHeartbeats 4000000 in
theorem fZ {c r x:Nat} {w:World} (hc:c≤8) (hr:r≤8) :
  aX Tryz.prog 12 #[.int .i64 c,.int .i64 r,.int .u8 x] w fun v w'=>∃ y u z,v=.agg (LK c r y u z).toArray∧Hp [] w w' (QI c r y u z x):=by
 refine aL (args:=[_,_,_]) Tryz.func12 rfl rfl Tryz.ntmps12 rfl ?_
 have hH:=Hp.start w
 refine aK ?_
 refine aA (aQ hH (Ty.bH rfl) rfl ?_)
 try clear hH
 intro w1 b1 hH
 replace hH:=aI hH
 have e1:min (max (c:Int) 0) 8=c:=by omega
 have e2:min (max (r:Int) 0) 8=r:=by omega
 have e3:(16:Int)*c=((16*c:Nat):Int):=by omega
 have e4:(16:Int)*r=((16*r:Nat):Int):=by omega
 have e5:(8:Int)*c=((8*c:Nat):Int):=by omega
 have e6:(8:Int)*r=((8*r:Nat):Int):=by omega
 repeat (first|refine aR ?_|(refine aD (by first|refine (eK rfl rfl).is (congrArg (Value.int .i64) e1)|refine (eK rfl rfl).is (congrArg (Value.int .i64) e2)|refine (bN (m:=16) (n:=c) rfl rfl (by omega)).is (congrArg (Value.int .i64) e3)|refine (bN (m:=16) (n:=r) rfl rfl (by omega)).is (congrArg (Value.int .i64) e4)) rfl ?_)|refine aT ?_)
 refine aO ?_
 refine aA (aC ((oU (m:=16*c) (n:=16*r) (x:=x) (by omega) (by omega))) rfl rfl ?_)
 rintro _ w2 ⟨y,rfl,hN⟩
 replace hH:=hH.nu hN
 replace hH:=aI hH
 repeat (first|(refine aD (by first|refine (bN (m:=8) (n:=c) rfl rfl (by omega)).is (congrArg (Value.int .i64) e5)|refine (bN (m:=8) (n:=r) rfl rfl (by omega)).is (congrArg (Value.int .i64) e6)) rfl ?_)|refine aT ?_)
 refine aO ?_
 refine aA (aC ((oU (m:=8*c) (n:=8*r) (x:=x) (by omega) (by omega))) rfl rfl ?_)
 rintro _ w3 ⟨u,rfl,hN2⟩
 replace hH:=hH.nu hN2
 replace hH:=aI hH
 repeat (first|(refine aD (by first|refine (bN (m:=8) (n:=c) rfl rfl (by omega)).is (congrArg (Value.int .i64) e5)|refine (bN (m:=8) (n:=r) rfl rfl (by omega)).is (congrArg (Value.int .i64) e6)) rfl ?_)|refine aT ?_)
 refine aO ?_
 refine aA (aC ((oU (m:=8*c) (n:=8*r) (x:=x) (by omega) (by omega))) rfl rfl ?_)
 rintro _ w4 ⟨z,rfl,hN3⟩
 replace hH:=hH.nu hN3
 replace hH:=aI hH
 repeat ((refine aD (by refine bR (cs:=LK c r y u z) (Ty.bH rfl) (Ty.iJ rfl) rfl) rfl ?_))
 refine aA (aJ 0 (vs:=(LK c r y u z).toArray) (s:=11) hH rfl rfl rfl rfl rfl (by simp [Value.oneCell']) (Ty.aF rfl) ?_)
 clear hH
 intro w5 hH
 replace hH:=aI hH
 refine aK ?_
 exact bP Tryz.func12 rfl rfl (hH.b 0 rfl) rfl (Ty.aF rfl) ⟨y,u,z,rfl,hH.del 0⟩
def bX (c mb k:Nat):Nat:=if k<4 then 16*(mb % c)+8*(k % 2) else 8*(mb % c)
def bY (c mb k:Nat):Nat:=if k<4 then 16*(mb / c)+8*(k / 2) else 8*(mb / c)
set_option maxRecDepth 20000 in
set_option maxHeartbeats 4000000 in
theorem sS {c mb k:Nat} {r y0 y1 y2 u0 u1 u2 v0 v1 v2:Value} {w:World} (hc:1≤c∧c≤1000) (hmb:mb≤1000) (hk:k<6) (h1:∀ v∈[y0,y1,y2,u0,u1,u2,v0,v1,v2],v.oneCell'=true) :
  aX Tryz.prog 104 #[.agg #[.int .i64 c,r,y0,y1,y2,u0,u1,u2,v0,v1,v2],.int .i64 mb,.int .i64 k] w fun v w'=>v=.tuple #[.agg (if k<4 then #[y0,y1,y2] else if k=4 then #[u0,u1,u2] else #[v0,v1,v2]),.int .i64 (bX c mb k:Nat),.int .i64 (bY c mb k:Nat)]∧Ext [] w w':=by
 refine aL (args:=[_,_,_]) Tryz.func104 rfl rfl Tryz.ntmps104 rfl ?_
 have hH:=Hp.start w
 refine aK ?_
 refine aA (bI (cs:=#[.int .i64 c,r,y0,y1,y2,u0,u1,u2,v0,v1,v2]) hH rfl rfl rfl ?_)
 try clear hH
 intro w1 b1 hH
 replace hH:=aI hH
 refine aA (aQ hH (Ty.bH rfl) rfl ?_)
 try clear hH
 intro w2 b2 hH
 replace hH:=aI hH
 have hB:=hH.b 0 rfl
 have e1:max (c:Int) 1=c:=by omega
 obtain ⟨M,hM⟩:∃ M,mb % c=M:=⟨_,rfl⟩
 obtain ⟨D,hD⟩:∃ D,mb / c=D:=⟨_,rfl⟩
 have e4:M<c:=hM▸Nat.mod_lt _ (by omega)
 have e5:D≤mb:=hD▸Nat.div_le_self _ _
 repeat (first|refine aR ?_|(refine aD (by first|refine aN rfl (Ty.bA rfl rfl)|refine aB rfl hB rfl (Ty.aF rfl)|refine (gJ rfl rfl).is (congrArg (Value.int .i64) e1)) rfl ?_)|refine aT ?_)
 refine cD Ty.mixed 8 rfl (fun w1 hx1=>?_)
 refine bE 0 hx1 ?_
 refine bE 1 hx1 ?_
 refine Lh ?_
 refine bE 3 hx1 ?_
 refine bE 4 hx1 ?_
 refine aY 5 hx1 rfl (fun w' hw'=>by refine (iR (m:=mb) (n:=c) rfl rfl (by omega) (mU (by omega))).is (congrArg (fun n:Nat=>Value.int .i64 n) hD)) ?_
 refine bE 6 hx1 ?_
 refine bE 7 hx1 ?_
 refine aW (by kernel_rfl) ?_
 replace hH:=hH.aH hx1
 clear hB
 have hS:=(hH.b 0 rfl).cX
 unfold bX bY
 rw [hM,hD]
 have h3:∀ {u v w:Value},u.oneCell'=true→v.oneCell'=true→w.oneCell'=true→∀ x∈(#[u,v,w]:Array Value).toList,x.oneCell'=true:=by
  intro u v w hu hv hw x hx
  simp at hx
  rcases hx with rfl|rfl|rfl<;>assumption
 rcases (show k<4∨k=4∨k=5 by omega) with h4|rfl|rfl
 ·repeat (first|refine aR ?_|(refine aD (by first|refine aN rfl (Ty.bA rfl rfl)|refine bG (j:=2) (cs:=[y0,y1,y2]) rfl hS rfl rfl (Ty.aF rfl)) rfl ?_)|refine aT ?_)
  refine aA (aJ 1 (vs:=#[y0,y1,y2]) (s:=3) hH rfl rfl rfl rfl rfl (h3 (h1 _ (by simp)) (h1 _ (by simp)) (h1 _ (by simp))) (Ty.aF rfl) ?_)
  clear hH hS
  intro w5 hH
  replace hH:=aI hH
  refine aK ?_
  refine jR Tryz.func104 rfl rfl (hH.b 1 rfl) rfl (Ty.aF rfl) ⟨?_,hH.ext⟩
  rw [if_pos h4,if_pos h4,if_pos h4]
  rfl
 ·repeat (first|refine aR ?_|(refine aD (by first|refine aN rfl (Ty.bA rfl rfl)|refine bG (j:=5) (cs:=[u0,u1,u2]) rfl hS rfl rfl (Ty.aF rfl)) rfl ?_)|refine aT ?_)
  refine aA (aJ 1 (vs:=#[u0,u1,u2]) (s:=3) hH rfl rfl rfl rfl rfl (h3 (h1 _ (by simp)) (h1 _ (by simp)) (h1 _ (by simp))) (Ty.aF rfl) ?_)
  clear hH hS
  intro w5 hH
  replace hH:=aI hH
  refine aK ?_
  exact jR Tryz.func104 rfl rfl (hH.b 1 rfl) rfl (Ty.aF rfl) ⟨rfl,hH.ext⟩
 ·repeat (first|refine aR ?_|(refine aD (by first|refine aN rfl (Ty.bA rfl rfl)|refine bG (j:=8) (cs:=[v0,v1,v2]) rfl hS rfl rfl (Ty.aF rfl)) rfl ?_)|refine aT ?_)
  refine aA (aJ 1 (vs:=#[v0,v1,v2]) (s:=3) hH rfl rfl rfl rfl rfl (h3 (h1 _ (by simp)) (h1 _ (by simp)) (h1 _ (by simp))) (Ty.aF rfl) ?_)
  clear hH hS
  intro w5 hH
  replace hH:=aI hH
  refine aK ?_
  exact jR Tryz.func104 rfl rfl (hH.b 1 rfl) rfl (Ty.aF rfl) ⟨rfl,hH.ext⟩
end Go.Proofs.YtdbnmbkjmeepkaaGreatDoor
