/- A part of the proof of the card of TopText; no condition. -/
import Derived.Test.YtdbnmbkjmeepkaaGreatDoorT13
namespace Go.Proofs.YtdbnmbkjmeepkaaGreatDoor
open Go Go.K Go.P Go.RowKit Go.Proofs
abbrev iv (T:List Int):List Value:=T.map (Value.int .i64)
theorem AF (T:List Int):(iv T).length=T.length:=by simp
theorem Ey {T:List Int} {k:Nat} {b:Bool} (h:2*k+b.toNat<T.length):(iv T)[k*2+0+b.toNat]?=some (.int .i64 (slot T k b)):=by
 unfold slot
 rw [show k*2+0+b.toNat=2*k+b.toNat by omega,List.getElem?_map,List.getD_eq_getElem?_getD,List.getElem?_eq_getElem h]
 rfl
def Rk (p:Nat) (v0 v1:Value) (a:Option Addr) (n c:Nat) (T:List Int):cK:=sep (Rb p 226 #[v0,v1,.slice a n c]) (Ro 282 2 a n c (iv T))
set_option maxRecDepth 20000 in
set_option maxHeartbeats 4000000 in
theorem FW {p c n wd s i:Nat} {a:Option Addr} {v0 v1:Value} {T:List Int} {P:List (List Bool)} {W:List (List Bool × Nat)} {w:World} (hT:TI T P W []) (hP:P.length=n) (hn:n≤1000000) (hf:∀ u∈W,¬ u.1 <+: nb wd s∧¬ nb wd s <+: u.1) (hs:1≤s∧s≤32) (hw:wd<18446744073709551616) (hi:i<64) (hR:(Rk p v0 v1 a n c T).holds w) :
  aX Tryz.prog 132 #[pt p,.int .u64 wd,.int .i64 s,.int .i64 i] w fun v w'=>v=.tuple #[]∧∃ a' c' n' T' P',P'.length=n'∧n'≤n+31∧TI T' P' (W++[(nb wd s,i)]) []∧jA (Rk p v0 v1 a n c T) (Rk p v0 v1 a' n' c' T') w w':=by
 subst hP
 refine aL (args:=[_,_,_,_]) Tryz.func132 rfl rfl Tryz.ntmps132 rfl ?_
 have hH:=(Hp.fI hR).split 0 rfl
 replace hH:=aI hH
 obtain ⟨fp,hfp⟩:∃ fp,(Rk p v0 v1 a P.length c T).fp=fp:=⟨_,rfl⟩
 rw [hfp] at hH
 refine aK ?_
 refine aV (G:=(Nat) × (List Int) × (List (List Bool)) × (Option Addr) × (Nat) × (Nat) × (List Bool)) (fun|(k,T1,P1,a1,c1,at',q)=>k) 147573952589676406528 (fun|(k,T1,P1,a1,c1,at',q)=>[(8,.int .i64 at'),(9,.int .i64 k)]) (fun|(k,T1,P1,a1,c1,at',q),w'=>k<s∧TI T1 P1 W (nb wd s)∧P1.length+k≤P.length+(s-1)∧nb wd s=q++nb wd (k+1)∧P1[at']?=some q∧reach T1 0 q at'∧Hp fp w w' [Rb p 226 #[v0,v1,.slice a1 P1.length c1],Ro 282 2 a1 P1.length c1 (iv T1)]) (s-1,T,P,a,c,0,[]) ⟨rfl,congrArg (Value.int .i64) (show (s:Int)-1=((s-1:Nat):Int) by omega),trivial⟩ ⟨by omega,hT.want _,by omega,by rw [show s-1+1=s by omega];rfl,hT.root,rfl,hH⟩ ?_
 rintro ⟨k,T1,P1,a1,c1,at',q⟩ w' σ ⟨hk,hT1,hPl,hx,hat,hre,hH⟩ IH
 show WS _ _ _ _ _ (bQ [(8,.int .i64 at'),(9,.int .i64 k)] _) _
 have hatl:=(List.getElem?_eq_some_iff.1 hat).1
 have hq64:wd / 2 ^ k<18446744073709551616:=Nat.lt_of_le_of_lt (Nat.div_le_self _ _) hw
 have hbit:=Pr wd k
 rw [JP] at hx
 obtain ⟨b,hb⟩:∃ b,wd.testBit k=b:=⟨_,rfl⟩
 rw [hb] at hbit hx
 have hb2:b.toNat<2:=by cases b<;>decide
 have hdn:=hT1.down hx hat hre (fun u hu=>(hf u hu).1)
 by_cases hlt:0<k
 ·have hqn:nb wd k≠[]:=fun e=>by have:=congrArg List.length e;rw [cA] at this;simp at this;omega
  obtain ⟨j,rfl⟩:∃ j,k=j+1:=⟨k-1,by omega⟩
  have hx2:nb wd s=(q++[b])++nb wd (j+1):=by rw [hx];simp
  have hB1:=hH.b 0 rfl
  have hO1:=(hH.o 1 rfl).sl
  have hl1:(iv T1).length=P1.length*2:=by rw [AF,hT1.len];omega
  have hv:=Ey (hT1.lt hat b)
  repeat (first|refine aR ?_|(refine aD (by first|refine aG rfl|refine aN rfl (Ty.bA rfl rfl)|refine aB rfl hB1 rfl (Ty.aF rfl)|refine mV rfl rfl (kI hw)|refine (tT (n:=1) rfl rfl (kI hq64) rfl).is (congrArg (fun n:Nat=>Value.int .u64 (n:Int)) hbit)|refine gE (sz:=2) rfl rfl hO1 hl1 (by decide) (Ty.sle rfl) (by omega)|refine lN rfl rfl (Ty.arr rfl) (by omega)|refine aU rfl hO1 hv (Ty.aF rfl)) rfl ?_)|refine aT ?_)
  rcases hdn with h0|⟨m,hm,hm0,hPm,hrm⟩
  ·rw [h0]
   repeat (first|refine aR ?_|(refine aD (by first|refine aG rfl|refine aN rfl (Ty.bA rfl rfl)|refine aB rfl hB1 rfl (Ty.aF rfl)|refine bR (cs:=[.int .i64 0,.int .i64 0]) (Ty.bH rfl) (Ty.iJ rfl) rfl) rfl ?_)|refine aT ?_)
   refine aO ?_
   refine aA (cN (out:=[.int .i64 0,.int .i64 0]) hH (Ty.sle rfl) (Ty.bH rfl) rfl rfl rfl (by decide) rfl ?_)
   try clear hH
   intro _ b38 hH
   replace hH:=aI hH
   refine aK ?_
   refine aA (bZ 1 hH rfl (Ty.sle rfl) (Ty.bH rfl) rfl (Ty.gS rfl) (by decide) rfl rfl (hH.b 2 rfl).cX (by rfl) (by simp [Value.oneCell']) (by omega) (by simp only [maxLen];omega) rfl ?_)
   clear hH
   intro w4 a5 c5 hH
   replace hH:=hH.del 2
   replace hH:=aI hH
   repeat ((refine aD (by first|refine aG rfl|refine aN rfl (Ty.bA rfl rfl)) rfl ?_))
   refine aA (dR 0 (v:=.slice a5 (P1.length+1) c5) hH rfl rfl rfl (Nat.le_of_ble_eq_true rfl) rfl (Ty.aF rfl) ?_)
   clear hH
   intro w5 hH
   replace hH:Hp fp w w5 [Rb p 226 #[v0,v1,.slice a5 (P1.length+1) c5],Ro 282 2 a5 (P1.length+1) c5 (iv T1++[Value.int .i64 0,Value.int .i64 0])]:=hH
   obtain ⟨hT2,hs2,hr2⟩:=hT1.grow hx hqn hat hre h0
   have e2:(P1++[q++[b]]).length=P1.length+1:=by simp
   have e3:(iv T1++[Value.int .i64 0,Value.int .i64 0]).set (at'*2+0+b.toNat) (.int .i64 (P1.length:Nat))=iv ((T1++[0,0]).set (2*at'+b.toNat) (P1.length:Nat)):=by
    rw [show at'*2+0+b.toNat=2*at'+b.toNat by omega]
    show _=((T1++[0,0]).set _ _).map (Value.int .i64)
    rw [List.map_set,List.map_append];rfl
   have hB1:=hH.b 0 rfl
   have hO1:=(hH.o 1 rfl).sl
   have hl1:(iv T1++[Value.int .i64 0,Value.int .i64 0]).length=(P1.length+1)*2:=by rw [List.length_append,AF,hT1.len];simp;omega
   clear hv
   refine aK ?_
   refine iL Ty.mixed 15 rfl (by kernel_rfl) rfl (fun u=>Ext [] w5 u) ?_
   have hx1:Ext [] w5 w5.drew:=Ext.dV
   refine bE 0 hx1 ?_
   refine AO ?_
   refine uN ?_
   refine aY 3 hx1 rfl (fun w' hw'=>by refine aB rfl (hB1.aH hw') rfl (Ty.aF rfl)) ?_
   refine bE 4 hx1 ?_
   refine bE 5 hx1 ?_
   refine bE 6 hx1 ?_
   refine aY 7 hx1 rfl (fun w' hw'=>by refine aG rfl) ?_
   refine DJ ?_
   refine aY 9 hx1 rfl (fun w' hw'=>by refine aB rfl (hB1.aH hw') rfl (Ty.aF rfl)) ?_
   refine bE 10 hx1 ?_
   refine bE 11 hx1 ?_
   refine aY 12 hx1 rfl (fun w' hw'=>by refine gE (sz:=2) rfl rfl (hO1.aH hw') hl1 (by decide) (Ty.sle rfl) (by omega)) ?_
   refine aY 13 hx1 rfl (fun w' hw'=>by refine aN rfl (Ty.bA rfl rfl)) ?_
   refine aY 14 hx1 rfl (fun w' hw'=>by refine lN rfl rfl (Ty.arr rfl) (by omega)) ?_
   refine aW (by kernel_rfl) ?_
   replace hH:=hH.aH hx1
   refine aA (jU 1 (v:=.int .i64 (P1.length:Nat)) hH rfl rfl (congrArg (Value.int .i64) (by omega)) (by omega) rfl (Ty.aF rfl) ?_)
   clear hH hB1 hO1 hl1
   intro w6 hH
   replace hH:Hp fp w w6 [Rb p 226 #[v0,v1,.slice a5 (P1.length+1) c5],Ro 282 2 a5 (P1.length+1) c5 ((iv T1++[Value.int .i64 0,Value.int .i64 0]).set (at'*2+0+b.toNat) (.int .i64 (P1.length:Nat)))]:=hH
   rw [e3,← e2] at hH
   clear e3
   generalize (T1++[0,0]).set (2 * at' + b.toNat) ((P1.length:Nat):Int)=T2 at *
   have hB1:=hH.b 0 rfl
   have hO1:=(hH.o 1 rfl).sl
   have hl1:(iv T2).length=(P1++[q++[b]]).length*2:=by rw [AF,hT2.len];omega
   have hat2:(P1++[q++[b]])[at']?=some q:=by rw [List.getElem?_append_left hatl];exact hat
   have hv:=Ey (hT2.lt hat2 b)
   rw [hs2] at hv
   have hnew:(P1++[q++[b]])[P1.length]?=some (q++[b]):=by simp
   repeat (first|refine aR ?_|(refine aD (by first|refine aG rfl|refine aN rfl (Ty.bA rfl rfl)|refine aB rfl hB1 rfl (Ty.aF rfl)|refine gE (sz:=2) rfl rfl hO1 hl1 (by decide) (Ty.sle rfl) (by omega)|refine lN rfl rfl (Ty.arr rfl) (by omega)|refine aU rfl hO1 hv (Ty.aF rfl)) rfl ?_)|refine aT ?_)
   refine IH (j,T2,P1++[q++[b]],a5,c5,P1.length,q++[b]) _ _ ?_ ?_ ?_ ?_
   ·simp only;omega
   ·exact ⟨rfl,congrArg (Value.int .i64) (by omega),trivial⟩
   ·exact cP
   ·exact ⟨by omega,hT2,by omega,hx2,hnew,hr2,hH⟩
  ·rw [hm] at hv ⊢
   repeat (first|refine aR ?_|(refine aD (by first|refine aG rfl|refine aN rfl (Ty.bA rfl rfl)|refine aB rfl hB1 rfl (Ty.aF rfl)|refine gE (sz:=2) rfl rfl hO1 hl1 (by decide) (Ty.sle rfl) (by omega)|refine lN rfl rfl (Ty.arr rfl) (by omega)|refine aU rfl hO1 hv (Ty.aF rfl)) rfl ?_)|refine aT ?_)
   refine IH (j,T1,P1,a1,c1,m,q++[b]) _ _ ?_ ?_ ?_ ?_
   ·simp only;omega
   ·exact ⟨rfl,congrArg (Value.int .i64) (by omega),trivial⟩
   ·exact cP
   ·exact ⟨by omega,hT1,by omega,hx2,hPm,hrm,hH⟩
 ·obtain rfl:k=0:=by omega
  clear IH hdn
  have hx2:nb wd s=q++[b]:=by rw [hx];rfl
  have hb0:wd &&& 1=b.toNat:=by simpa using hbit
  obtain ⟨h0,hT2⟩:=hT1.done hx2 hat hre hf i
  have hB1:=hH.b 0 rfl
  have hO1:=(hH.o 1 rfl).sl
  have hl1:(iv T1).length=P1.length*2:=by rw [AF,hT1.len];omega
  have e3:(iv T1).set (at'*2+0+b.toNat) (.int .i64 (-1-(i:Int)))=iv (T1.set (2*at'+b.toNat) (-1-(i:Int))):=by
   rw [show at'*2+0+b.toNat=2*at'+b.toNat by omega,← List.map_set]
  repeat (first|refine aR ?_|(refine aD (by first|refine aG rfl|refine aN rfl (Ty.bA rfl rfl)|refine aB rfl hB1 rfl (Ty.aF rfl)|refine (tT (n:=1) rfl rfl (kI hw) rfl).is (congrArg (fun n:Nat=>Value.int .u64 (n:Int)) hb0)|refine gE (sz:=2) rfl rfl hO1 hl1 (by decide) (Ty.sle rfl) (by omega)|refine lN rfl rfl (Ty.arr rfl) (by omega)) rfl ?_)|refine aT ?_)
  refine aA (jU 1 (v:=.int .i64 (-1-(i:Int))) hH rfl rfl rfl (by omega) rfl (Ty.aF rfl) ?_)
  clear hH hB1 hO1 hl1
  intro w6 hH
  replace hH:Hp fp w w6 [Rb p 226 #[v0,v1,.slice a1 P1.length c1],Ro 282 2 a1 P1.length c1 ((iv T1).set (at'*2+0+b.toNat) (.int .i64 (-1-(i:Int))))]:=hH
  rw [e3] at hH
  replace hH:=hH.merge 0 1 rfl rfl (by decide)
  refine aK ?_
  rw [← hfp] at hH
  exact cE Tryz.func132 rfl ⟨rfl,a1,c1,P1.length,_,P1,rfl,by omega,hT2,hH.dX 0 rfl⟩
abbrev nv (l:List Nat):List Value:=l.map fun (n:Nat)=>Value.int .i64 (n:Int)
abbrev uv (l:List Nat):List Value:=l.map fun (n:Nat)=>Value.int .u64 (n:Int)
structure CD where
 sz:List Nat
 ws:List Nat
 T:List Int
 a0:Option Addr
 c0:Nat
 a1:Option Addr
 c1:Nat
 a2:Option Addr
 n2:Nat
 c2:Nat
abbrev CD.cs (D:CD):Array Value:=#[.slice D.a0 D.sz.length D.c0,.slice D.a1 D.sz.length D.c1,.slice D.a2 D.n2 D.c2]
def RC (p:Nat) (D:CD):cK:=cK.and (Rb p 226 D.cs) (cK.and (Rs D.a0 (nv D.sz)) (cK.and (Rs D.a1 (uv D.ws)) (Rs D.a2 (iv D.T))))
abbrev CD.ok (D:CD):Prop:=GC D.sz D.ws D.T∧D.T.length=2*D.n2
theorem Hn {a:Option Addr} {vs:List Value} {x:Nat} (h:x∈(Rs a vs).fp):x∈dI a:=by
 have h':x∈(if vs=[] then [] else dI a):=h
 split at h'
 ·cases h'
 ·exact h'
theorem RC.new {p n0 n2:Nat} {a0 a1 a2:Option Addr} {c0 c1 c2:Nat} {sz ws:List Nat} {T:List Int} {w w':World} (hn:sz.length=n0) (h:Hp [] w w' [Rb p 226 #[.slice a0 n0 c0,.slice a1 n0 c1,.slice a2 n2 c2],Ro 3 1 a0 n0 c0 (nv sz),Ro 158 1 a1 n0 c1 (uv ws),Ro 282 2 a2 n2 c2 (iv T)]) :
  iA (RC p ⟨sz,ws,T,a0,c0,a1,c1,a2,n2,c2⟩) w w':=by
 subst hn
 refine ⟨h.ext,⟨h.b 0 rfl,(h.o 1 rfl).sl,(h.o 2 rfl).sl,(h.o 3 rfl).sl⟩,fun x hx=>?_⟩
 have key:∀ (i:Nat) (r:cK),[Rb p 226 #[.slice a0 sz.length c0,.slice a1 sz.length c1,.slice a2 n2 c2],Ro 3 1 a0 sz.length c0 (nv sz),Ro 158 1 a1 sz.length c1 (uv ws),Ro 282 2 a2 n2 c2 (iv T)][i]?=some r→x∈r.fp→w.heap.size≤x:=fun i r hi hr=>by
  rcases h.new r (List.mem_of_getElem? hi) x hr with h1|h1
  ·cases h1
  ·exact h1
 rcases List.mem_append.1 hx with hx|hx
 ·exact key 0 _ rfl hx
 rcases List.mem_append.1 hx with hx|hx
 ·exact key 1 _ rfl (Hn hx)
 rcases List.mem_append.1 hx with hx|hx
 ·exact key 2 _ rfl (Hn hx)
 ·exact key 3 _ rfl (Hn hx)
def MU (l:List Int) (v:Value) (w w':World):Prop :=
 (¬ (1≤l.length∧l.length≤64)∧v=.tuple #[np,.int .i64 7]∧Ext [] w w') ∨
 ((1≤l.length∧l.length≤64)∧(∃ x∈l,¬ (1≤x∧x≤32))∧v=.tuple #[np,.int .i64 2]∧Ext [] w w') ∨
 ∃ sz:List Nat,l=sz.map (fun (n:Nat)=>(n:Int))∧(1≤sz.length∧sz.length≤64)∧(∀ n∈sz,1≤n∧n≤32) ∧
  ((codeOf sz=none∧v=.tuple #[np,.int .i64 8]∧Ext [] w w')∨∃ p D,D.sz=sz∧D.ok∧v=.tuple #[pt p,.int .i64 0]∧iA (RC p D) w w')
def PX (W0:Nat) (e:TypeId) (n:Nat) (vs:List Value):Value→World→Prop:=fun v w=>∃ a c,v=.slice a n c∧Own w e 1 a n c vs∧∀ x∈dI a,W0≤x
theorem PX.st {W0 n:Nat} {e:TypeId} {vs:List Value}:mQ (PX W0 e n vs):=fun _ _ _ ⟨a,c,h,hO,hf⟩ hE=>⟨a,c,h,hO.aH hE,hf⟩
def Cg (W0 n:Nat) (vs:List Value) (a:Option Addr) (c b5 b6:Nat) (w:World):Prop :=
 (Own w 3 1 a n c vs∧∀ x∈dI a,W0≤x)∧(cL w b5 158 (madeCells [Value.int .u64 0].toArray (n*1))∧W0≤b5)∧(cL w b6 282 (madeCells [Value.int .i64 0,Value.int .i64 0].toArray (1*2))∧W0≤b6)
theorem Cg.aH {W0 n:Nat} {vs:List Value} {a:Option Addr} {c b5 b6:Nat} {w w':World} (h:Cg W0 n vs a c b5 b6 w) (hE:Ext [] w w'):Cg W0 n vs a c b5 b6 w':=⟨⟨h.1.1.aH hE,h.1.2⟩,⟨h.2.1.1.aH hE,h.2.1.2⟩,⟨h.2.2.1.aH hE,h.2.2.2⟩⟩
abbrev N1 (n:Nat) (a:Option Addr) (c b5 b6:Nat):Array Value:=#[.slice a n c,.slice (some ⟨b5,0,none⟩) n n,.slice (some ⟨b6,0,none⟩) 1 1]
def PY (W0 n:Nat) (vs:List Value):Value→World→Prop:=fun v w=>∃ a c b5 b6,v=.agg (N1 n a c b5 b6)∧Cg W0 n vs a c b5 b6 w
theorem PY.st {W0 n:Nat} {vs:List Value}:mQ (PY W0 n vs):=fun _ _ _ ⟨a,c,b5,b6,h,hP⟩ hE=>⟨a,c,b5,b6,h,hP.aH hE⟩
theorem O6 (x y:Value):madeCells [x,y].toArray (1*2)=#[x,y]:=by
 refine Array.ext (by simp [size_madeCells]) (fun i h1 h2=>?_)
 have:i=0∨i=1:=by simp at h2;omega
 rcases this with rfl|rfl<;>simp [madeCells]
def K2 (W0 n:Nat) (vs:List Value):Value→World→Prop:=fun v w=>∃ a c b5 b6 b8,v=pt b8∧Cg W0 n vs a c b5 b6 w∧cL w b8 226 (N1 n a c b5 b6)∧W0≤b8
theorem K2.st {W0 n:Nat} {vs:List Value}:mQ (K2 W0 n vs):=fun _ _ _ ⟨a,c,b5,b6,b8,h,hP,hB,hb⟩ hE=>⟨a,c,b5,b6,b8,h,hP.aH hE,hB.aH hE,hb⟩
theorem Gh {w:World} {b b':Nat} {e e':TypeId} {cs cs':Array Value} (h:cL w b e cs) (h':cL w b' e' cs') (hne:e≠e'):b≠b':=fun hb=>by
 subst hb
 have h3:some (Obj.cells cs e (0,0))=some (Obj.cells cs' e' (0,0)):=h.symm.trans h'
 simp only [Option.some.injEq,Obj.cells.injEq] at h3
 exact hne h3.2.1
theorem NW {w:World} {b sz n c:Nat} {e e':TypeId} {cs:Array Value} {a:Option Addr} {vs:List Value} (h:cL w b e cs) (h':Own w e' sz a n c vs) (hne:e≠e'):b ∉ dI a:=fun hb=>by
 obtain ⟨_,_,_,⟨rfl,_⟩|⟨b',cur,rfl,hB,_⟩⟩:=h'
 ·cases hb
 ·exact Gh h hB hne (by simpa [dI] using hb)
theorem K2.hp {w w':World} {n:Nat} {vs:List Value} {v:Value} (hn:n≤9223372036854775807) (hE:Ext [] w w') (h:K2 w.heap.size n vs v w'):∃ a c b5 b6 b8,v=pt b8 ∧
  Hp [] w w' [Rb b8 226 (N1 n a c b5 b6),Ro 3 1 a n c vs,Ro 158 1 (some ⟨b5,0,none⟩) n n (uv (List.replicate n 0)),Ro 282 2 (some ⟨b6,0,none⟩) 1 1 (iv [0,0])]:=by
 obtain ⟨a,c,b5,b6,b8,rfl,⟨⟨hO,hf⟩,⟨hB5,h5⟩,⟨hB6,h6⟩⟩,hB8,h8⟩:=h
 refine ⟨a,c,b5,b6,b8,rfl,?_⟩
 have h0:Hp [] w w' [Rb b8 226 (N1 n a c b5 b6),Ro 3 1 a n c vs,Rb b5 158 (madeCells [Value.int .u64 0].toArray (n*1)),Rb b6 282 (madeCells [Value.int .i64 0,Value.int .i64 0].toArray (1*2))]:=by
  refine ⟨hE,fun r hr=>?_,fun r hr x hx=>.inr ?_,?_⟩
  ·simp only [List.mem_cons,List.not_mem_nil,or_false] at hr
   rcases hr with rfl|rfl|rfl|rfl
   ·exact hB8
   ·exact hO
   ·exact hB5
   ·exact hB6
  ·simp only [List.mem_cons,List.not_mem_nil,or_false] at hr
   rcases hr with rfl|rfl|rfl|rfl
   ·have:x=b8:=by simpa [Rb] using hx
    omega
   ·exact hf x hx
   ·have:x=b5:=by simpa [Rb] using hx
    omega
   ·have:x=b6:=by simpa [Rb] using hx
    omega
  ·have d1:∀ {b:Nat} {e:TypeId} {cs:Array Value},cL w' b e cs→e≠3→Dj (Rb b e cs) (Ro 3 1 a n c vs):=fun {b e cs} hB hne x hx hx'=>by
    have:x=b:=by simpa [Rb] using hx
    subst this
    exact NW hB hO hne hx'
   have d2:∀ {b b':Nat} {e e':TypeId} {cs cs':Array Value},cL w' b e cs→cL w' b' e' cs'→e≠e'→Dj (Rb b e cs) (Rb b' e' cs'):=fun {b b' e e' cs cs'} hB hB' hne x hx hx'=>by
    have h1:x=b:=by simpa [Rb] using hx
    have h2:x=b':=by simpa [Rb] using hx'
    exact Gh hB hB' hne (h1.symm.trans h2)
   simp only [List.pairwise_cons,List.mem_cons,List.not_mem_nil,or_false,forall_eq_or_imp,forall_eq,List.Pairwise.nil,and_true,false_implies,implies_true]
   exact ⟨⟨d1 hB8 (by decide),d2 hB8 hB5 (by decide),d2 hB8 hB6 (by decide)⟩,⟨(d1 hB5 (by decide)).symm,(d1 hB6 (by decide)).symm⟩,d2 hB5 hB6 (by decide)⟩
 have h1:=h0.made 2 rfl hn
 have h2:=h1.as 3 rfl (r':=Ro 282 2 (some ⟨b6,0,none⟩) 1 1 (iv [0,0])) (fun _ h=>h) (fun h=>by
  rw [O6] at h
  exact (h:cL _ _ _ _).own (n:=1) (sz:=2) rfl (by decide))
 simpa [uv] using h2
abbrev Qr (a:CE):List Bool × Nat:=(nb a.2.1 a.2.2,a.1)
theorem IW {l:List Int} (h:∀ x∈l,1≤x∧x≤32):∃ sz:List Nat,l=sz.map (fun (n:Nat)=>(n:Int))∧∀ n∈sz,1≤n∧n≤32:=by
 refine ⟨l.map Int.toNat,?_,fun n hn=>?_⟩
 ·rw [List.map_map]
  refine (List.map_id' l).symm.trans (List.map_congr_left fun x hx=>?_)
  have:=h x hx
  show x=((x.toNat:Nat):Int)
  omega
 ·obtain ⟨x,hx,rfl⟩:=List.mem_map.1 hn
  have:=h x hx
  omega
set_option maxRecDepth 20000 in
set_option maxHeartbeats 8000000 in
theorem sP {a:Option Addr} {n0 c:Nat} {l:List Int} {w:World} (hS:cI w a (l.map (Value.int .i64))) (hn:l.length=n0) (hlen:n0≤9223372036854775807) :
  aX Tryz.prog 95 #[.slice a n0 c] w fun v w'=>MU l v w w':=by
 subst hn
 refine aL (args:=[_]) Tryz.func95 rfl rfl Tryz.ntmps95 rfl ?_
 by_cases hlo:l.length<1
 ·refine aK ?_
  exact cR Tryz.func95 rfl (.inl ⟨by omega,rfl,.refl⟩)
 by_cases hhi:64<l.length
 ·refine aK ?_
  exact cR Tryz.func95 rfl (.inl ⟨by omega,rfl,.refl⟩)
 have hll:(l.map (Value.int .i64)).length=l.length:=by simp
 refine aK ?_
 refine gX [fP w.heap.size 3 #[] (fun b=>.slice (some ⟨b,0,none⟩) 0 0),Is (.slice a l.length c),PX w.heap.size 3 l.length (l.map (Value.int .i64)),Is (.slice a l.length c),Is (.int .i64 l.length),fP w.heap.size 158 (madeCells [Value.int .u64 0].toArray (l.length*1)) (fun b=>.slice (some ⟨b,0,none⟩) l.length l.length),fP w.heap.size 282 (madeCells [Value.int .i64 0,Value.int .i64 0].toArray (1*2)) (fun b=>.slice (some ⟨b,0,none⟩) 1 1),PY w.heap.size l.length (l.map (Value.int .i64)),K2 w.heap.size l.length (l.map (Value.int .i64)),K2 w.heap.size l.length (l.map (Value.int .i64))] Ty.mixed [(265289728,[],true),(264765440,[],true),(198705152,[(0,19),(1,20)],true),(255328256,[],true),(242745344,[(3,22)],true),(184025088,[(4,23)],true),(167247872,[],true),(66584576,[(2,21),(5,24),(6,25)],true),(133693440,[(7,26)],true),(267911168,[(8,27)],true)] 267911184 [(9,4)] (by kernel_rfl) (by kernel_rfl) (by kernel_rfl) (by kernel_rfl) (by kernel_rfl) ⟨(by exact fP.st),Is.st,(by exact PX.st),Is.st,Is.st,(by exact fP.st),(by exact fP.st),(by exact PY.st),(by exact K2.st),(by exact K2.st),trivial⟩ ⟨⟨cC.none,?_⟩,⟨cC.none,?_⟩,⟨cC.none,?_⟩,⟨cC.none,?_⟩,⟨cC.none,?_⟩,⟨cC.none,?_⟩,⟨cC.none,?_⟩,⟨cC.none,?_⟩,⟨cC.none,?_⟩,⟨cC.none,?_⟩,trivial⟩ ?_
 ·intro w'' hE''
  intro σ''
  refine oK (out:=[]) (Ty.sle rfl) (Ty.bH rfl) rfl rfl rfl (by decide) rfl ?_
  intro w3'' b'' hb'' hE3'' hB'' hs''
  exact xO
 ·intro w'' hE''
  intro σ''
  exact bJ (by refine aP rfl) rfl
 ·intro w'' hE''
  rintro _ h0
  rintro _ rfl
  intro σ''
  obtain ⟨b0,rfl,hB0,hb0⟩:=h0
  refine xY (Ty.sle rfl) (Ty.bH rfl) rfl (Ty.gS rfl) (by decide) rfl hB0 rfl (hS.aH hE'') (by simp) (by omega) (by simp only [maxLen];omega) rfl ?_
  intro w3'' a'' c'' hE3'' hO3'' hf''
  exact ⟨hE3'',_,rfl,a'',c'',rfl,hO3'',fun x hx=>by have:=hE''.size;rcases hf'' x hx with h|h<;>omega⟩
 ·intro w'' hE''
  intro σ''
  exact bJ (by refine aP rfl) rfl
 ·intro w'' hE''
  rintro _ rfl
  intro σ''
  exact bJ (by refine yC rfl (Ty.LP rfl)) rfl
 ·intro w'' hE''
  rintro _ rfl
  intro σ''
  refine Dl (n:=l.length) (Ty.sle rfl) (Ty.bH rfl) (Ty.gS rfl) rfl rfl rfl rfl (by omega) (by simp only [maxLen];omega) rfl ?_
  intro w3'' b'' hb'' hE3'' hB'' hs''
  exact xO
 ·intro w'' hE''
  intro σ''
  refine Dl (n:=1) (Ty.sle rfl) (Ty.bH rfl) (Ty.gS rfl) rfl rfl rfl rfl (by decide) (by decide) rfl ?_
  intro w3'' b'' hb'' hE3'' hB'' hs''
  exact xO
 ·intro w'' hE''
  rintro _ h2
  rintro _ h5
  rintro _ h6
  intro σ''
  obtain ⟨a2,c2,rfl,hO2,hf2⟩:=h2
  obtain ⟨b5,rfl,hB5,hb5⟩:=h5
  obtain ⟨b6,rfl,hB6,hb6⟩:=h6
  exact fA (bR (cs:=[.slice a2 l.length c2,.slice (some ⟨b5,0,none⟩) l.length l.length,.slice (some ⟨b6,0,none⟩) 1 1]) (Ty.bH rfl) (Ty.iJ rfl) rfl) rfl ⟨.refl,_,rfl,a2,c2,b5,b6,rfl,⟨hO2,hf2⟩,⟨hB5,hb5⟩,⟨hB6,hb6⟩⟩
 ·intro w'' hE''
  rintro _ h7
  intro σ''
  obtain ⟨a2,c2,b5,b6,rfl,hP⟩:=h7
  refine Ca (cs:=N1 l.length a2 c2 b5 b6) rfl rfl rfl ?_
  intro w3'' b'' hb'' hE3'' hB'' hs''
  exact ⟨hE3'',_,rfl,a2,c2,b5,b6,b'',rfl,hP.aH hE3'',hB'',by have:=hE''.size;omega⟩
 ·intro w'' hE''
  rintro _ h8
  intro σ''
  exact fA (jM rfl) rfl ⟨.refl,_,rfl,h8⟩
 intro w'' hE''
 rintro _ h9
 intro σ''
 obtain ⟨aS,cS,b5,b6,p,rfl,hH⟩:=h9.hp (by omega) hE''
 clear h9 hE''
 have hS1:=hH.old hS
 refine aK ?_
 refine aV (G:=(Nat)) (fun i=>l.length-i) 2197949513804 (fun i=>[(30,.int .i64 i)]) (fun i w'=>i≤l.length∧(∀ x∈l.take i,1≤x∧x≤32)∧Ext [] w'' w') (0) ⟨rfl,trivial⟩ ⟨by omega,by simp,.refl⟩ ?_
 rintro i u1 σ ⟨hi,hok,hW⟩ IH
 show WS _ _ _ _ _ (bQ [(30,.int .i64 i)] _) _
 by_cases hlt:i<l.length
 ·have hv:(l.map (Value.int .i64))[i]?=some (.int .i64 l[i]):=by simp [hlt]
  have hS2:=hS1.aH hW
  have hmem:=List.getElem_mem hlt
  have htk:l.take (i+1)=l.take i++[l[i]]:=List.take_succ_eq_append_getElem hlt
  generalize l[i]=x at *
  by_cases h1:x<1
  ·repeat (first|refine aR ?_|(refine aD (by first|refine cG rfl rfl hS2 hll (Ty.sle rfl) (by omega)|refine aU rfl hS2 hv (Ty.aF rfl)) rfl ?_)|refine aT ?_)
   exact cR Tryz.func95 rfl (.inr (.inl ⟨⟨by omega,by omega⟩,⟨x,hmem,by omega⟩,rfl,(hH.aH hW).ext⟩))
  by_cases h2:32<x
  ·repeat (first|refine aR ?_|(refine aD (by first|refine cG rfl rfl hS2 hll (Ty.sle rfl) (by omega)|refine aU rfl hS2 hv (Ty.aF rfl)) rfl ?_)|refine aT ?_)
   exact cR Tryz.func95 rfl (.inr (.inl ⟨⟨by omega,by omega⟩,⟨x,hmem,by omega⟩,rfl,(hH.aH hW).ext⟩))
  repeat (first|refine aR ?_|(refine aD (by first|refine cG rfl rfl hS2 hll (Ty.sle rfl) (by omega)|refine aU rfl hS2 hv (Ty.aF rfl)) rfl ?_)|refine aT ?_)
  refine IH (i+1) _ _ ?_ ?_ ?_ ?_
  ·omega
  ·exact ⟨rfl,trivial⟩
  ·exact cP
  ·exact ⟨by omega,fun y hy=>by rw [htk] at hy;rcases List.mem_append.1 hy with h|h;exact hok y h;(simp at h;subst h;omega),hW⟩
 clear IH
 rw [List.take_of_length_le (by omega)] at hok
 obtain ⟨sz,hsz,hszok⟩:=IW hok
 have hlz:l.length=sz.length:=by rw [hsz,List.length_map]
 have hnv:l.map (Value.int .i64)=nv sz:=by rw [hsz,List.map_map];rfl
 replace hH:=hH.aH hW
 replace hS1:=hS1.aH hW
 rw [hnv] at hS1 hH hll
 refine aK ?_
 clear hW hok hi hlt
 refine aV (G:=(Nat) × (Nat) × (List CE) × (List Nat) × (List Int) × (List (List Bool)) × (Option Addr) × (Nat)) (fun|(s,wd,A,ws,T,P,a6,c6)=>33-s) 75557863723715300165516 (fun|(s,wd,A,ws,T,P,a6,c6)=>[(7,.int .u64 wd),(8,.int .i64 s)]) (fun|(s,wd,A,ws,T,P,a6,c6),w'=>1≤s∧s≤33∧codeOf sz=cout (Fx sz) (33-s) s wd A∧CI sz s 0 (2*wd) A∧(ws.length=sz.length∧∀ a∈A,ws[a.1]?=some a.2.1)∧TI T P (A.map Qr) []∧P.length≤1+31*A.length∧Hp [] w w' [Rb p 226 #[.slice aS l.length cS,.slice (some ⟨b5,0,none⟩) l.length l.length,.slice a6 P.length c6],Ro 3 1 aS l.length cS (nv sz),Ro 158 1 (some ⟨b5,0,none⟩) l.length l.length (uv ws),Ro 282 2 a6 P.length c6 (iv T)]) (1,0,[],List.replicate l.length 0,[0,0],[[]],some ⟨b6,0,none⟩,1) ⟨rfl,rfl,trivial⟩ ⟨by omega,by omega,rfl,CI.zero,⟨by rw [List.length_replicate,hlz],by simp⟩,TI.zero,by simp,hH⟩ ?_
 rintro ⟨s,wd,A,ws,T,P,a6,c6⟩ u2 σ ⟨hs1,hs33,hco,hci,⟨hwl,hws⟩,hT,hPl,hH⟩ IH
 show WS _ _ _ _ _ (bQ [(7,.int .u64 wd),(8,.int .i64 s)] _) _
 by_cases hs:s≤32
 ·rw [Dc hs] at hco
  have h2s:2 ^ s≤2 ^ 32:=Nat.pow_le_pow_right (by decide) hs
  have htop:=hci.top
  have hw2:wd*2 ^ 1 % 18446744073709551616=2*wd:=by rw [Nat.mod_eq_of_lt (by omega)];omega
  have hsh:1*2 ^ s % 18446744073709551616=2 ^ s:=by rw [Nat.mod_eq_of_lt (by omega)];omega
  obtain ⟨v,hv2⟩:∃ v,v=2*wd:=⟨_,rfl⟩
  rw [← hv2] at hw2 hco hci
  clear htop
  repeat (first|refine aR ?_|(refine aD (by refine (Al (m:=wd) (n:=1) rfl rfl).is (congrArg (fun n:Nat=>Value.int .u64 (n:Int)) hw2)) rfl ?_)|refine aT ?_)
  clear hw2 hv2
  refine aV (G:=(Nat) × (Nat) × (List CE) × (List Nat) × (List Int) × (List (List Bool)) × (Option Addr) × (Nat)) (fun|(i,wd,A,ws,T,P,a6,c6)=>l.length-i) 75557863162964369999500 (fun|(i,wd,A,ws,T,P,a6,c6)=>[(7,.int .u64 wd),(49,.int .i64 i)]) (fun|(i,wd,A,ws,T,P,a6,c6),w'=>i≤l.length∧codeOf sz=lY sz s i wd A∧CI sz s i wd A∧(ws.length=sz.length∧∀ a∈A,ws[a.1]?=some a.2.1)∧TI T P (A.map Qr) []∧P.length≤1+31*A.length∧Hp [] w w' [Rb p 226 #[.slice aS l.length cS,.slice (some ⟨b5,0,none⟩) l.length l.length,.slice a6 P.length c6],Ro 3 1 aS l.length cS (nv sz),Ro 158 1 (some ⟨b5,0,none⟩) l.length l.length (uv ws),Ro 282 2 a6 P.length c6 (iv T)]) (0,v,A,ws,T,P,a6,c6) ⟨rfl,rfl,trivial⟩ ⟨by omega,hco,hci,⟨hwl,hws⟩,hT,hPl,hH⟩ ?_
  rintro ⟨i,wd,A,ws,T,P,a6,c6⟩ u3 σ ⟨hi,hco,hci,⟨hwl,hws⟩,hT,hPl,hH⟩ IH
  show WS _ _ _ _ _ (bQ [(7,.int .u64 wd),(49,.int .i64 i)] _) _
  by_cases hlt:i<l.length
  ·have hiz:i<sz.length:=by omega
   have hS2:=hH.old hS
   rw [hnv] at hS2
   have hv:(nv sz)[i]?=some (.int .i64 (sz[i]:Nat)):=by simp [nv,hiz]
   have hnum:=hci.num
   have hwtop:=hci.top
   by_cases hn:sz[i]=s
   ·by_cases hw:2 ^ s≤wd
    ·rw [DU hiz hn hw] at hco
     rw [hn] at hv
     repeat (first|refine aR ?_|(refine aD (by first|refine cG rfl rfl hS2 hll (Ty.sle rfl) (by omega)|refine aU rfl hS2 hv (Ty.aF rfl)|refine (Al (m:=1) (n:=s) rfl rfl).is (congrArg (fun n:Nat=>Value.int .u64 (n:Int)) hsh)|refine (H0 (q:=.u64) rfl rfl).is (bT (by omega))|refine (eQ (q:=.i64) rfl rfl).is (bF (fun h=>h rfl))) rfl ?_)|refine aT ?_)
     exact cR Tryz.func95 rfl (.inr (.inr ⟨sz,hsz,⟨by omega,by omega⟩,hszok,.inl ⟨hco,rfl,hH.ext⟩⟩))
    ·rw [Ir hiz hn (by omega)] at hco
     have hci2:=hci.put hiz hn hs1 (by omega)
     have hfr:=hci.free (show wd<2 ^ s by omega)
     have hnew:=hci.new hiz hn
     have hws2:∀ a∈A++[(i,wd,s)],(ws.set i wd)[a.1]?=some a.2.1:=fun a ha=>by
      rcases List.mem_append.1 ha with ha|ha
      ·rw [List.getElem?_set_ne (Ne.symm (hnew a ha))];exact hws a ha
      ·simp at ha;subst ha
       exact List.getElem?_set_self (by omega)
     rw [hn] at hv
     have hB:=hH.b 0 rfl
     have e4:(uv ws).set i (.int .u64 wd)=uv (ws.set i wd):=by rw [← List.map_set]
     repeat (first|refine aR ?_|(refine aD (by first|refine cG rfl rfl hS2 hll (Ty.sle rfl) (by omega)|refine aU rfl hS2 hv (Ty.aF rfl)|refine (Al (m:=1) (n:=s) rfl rfl).is (congrArg (fun n:Nat=>Value.int .u64 (n:Int)) hsh)|refine (H0 (q:=.u64) rfl rfl).is (bF (by omega))|refine (eQ (q:=.i64) rfl rfl).is (bF (fun h=>h rfl))|refine aG rfl|refine aN rfl (Ty.bA rfl rfl)|refine aB rfl hB rfl (Ty.aF rfl)|refine NF rfl rfl (Ty.sle rfl) (by omega)) rfl ?_)|refine aT ?_)
     refine aA (jU 2 (v:=.int .u64 wd) hH rfl rfl rfl (by omega) rfl (Ty.aF rfl) ?_)
     clear hH hB
     intro u4 hH
     replace hH:=aI hH
     rw [show ((i:Nat):Int).toNat=i from rfl,e4] at hH
     replace hH:=hH.merge 0 3 rfl rfl (by decide)
     replace hH:=aI hH
     refine aK ?_
     refine aO ?_
     refine aA (aC (FW hT rfl (by omega) (fun u hu=>by obtain ⟨a,ha,rfl⟩:=List.mem_map.1 hu;exact hfr a ha) ⟨hs1,hs⟩ (by omega) (by omega) (hH.at 0 rfl)) rfl rfl ?_)
     rintro v w8 ⟨rfl,a7,c7,n7,T7,P7,rfl,hn7,hT7,hU⟩
     replace hH:=(hH.up 0 rfl hU).split 0 rfl
     clear hU
     replace hH:=aI hH
     repeat (first|refine aR ?_|(refine aD (by refine MW (m:=wd) (n:=1) rfl rfl (by omega)) rfl ?_)|refine aT ?_)
     refine IH (i+1,wd+1,A++[(i,wd,s)],ws.set i wd,T7,P7,a7,c7) _ _ ?_ ?_ ?_ ?_
     ·simp only;omega
     ·exact ⟨rfl,rfl,trivial⟩
     ·exact cP
     ·exact ⟨by omega,hco,hci2,⟨by rw [List.length_set];exact hwl,hws2⟩,by rw [List.map_append];exact hT7,by simp;omega,hH⟩
   ·rw [Hw hiz hn] at hco
    have hci2:=hci.skip hiz hn
    repeat (first|refine aR ?_|(refine aD (by first|refine cG rfl rfl hS2 hll (Ty.sle rfl) (by omega)|refine aU rfl hS2 hv (Ty.aF rfl)|refine (eQ (q:=.i64) rfl rfl).is (bT (by omega))) rfl ?_)|refine aT ?_)
    refine IH (i+1,wd,A,ws,T,P,a6,c6) _ _ ?_ ?_ ?_ ?_
    ·simp only;omega
    ·exact ⟨rfl,rfl,trivial⟩
    ·exact cP
    ·exact ⟨by omega,hco,hci2,⟨hwl,hws⟩,hT,hPl,hH⟩
  obtain rfl:i=l.length:=by omega
  clear IH
  rw [hlz,Fj] at hco
  rw [hlz] at hci
  have hci2:=hci.next (by omega) hs1
  refine aK ?_
  refine IH (s+1,wd,A,ws,T,P,a6,c6) _ _ ?_ ?_ ?_ ?_
  ·simp only;omega
  ·exact ⟨rfl,rfl,trivial⟩
  ·exact cP
  ·exact ⟨by omega,by omega,by rw [show 33-(s+1)=32-s by omega];exact hco,hci2,⟨hwl,hws⟩,hT,hPl,hH⟩
 obtain rfl:s=33:=by omega
 clear IH
 refine aK ?_
 exact cR Tryz.func95 rfl (.inr (.inr ⟨sz,hsz,⟨by omega,by omega⟩,hszok,.inr ⟨p,⟨sz,ws,T,aS,cS,some ⟨b5,0,none⟩,l.length,a6,P.length,c6⟩,rfl,⟨⟨⟨show 1≤sz.length by omega,show sz.length≤64 by omega⟩,hszok,hwl,A,_,P,hco,hci,hws,hT⟩,hT.len⟩,rfl,RC.new hlz.symm hH⟩⟩))
theorem QZ:nC Tryz.prog 127=true:=by kernel_rfl
section
variable {p:Nat} {D:CD} {w:World}
theorem RC.b (h:(RC p D).holds w):cL w p 226 D.cs:=h.1
theorem RC.s (h:(RC p D).holds w):cI w D.a0 (nv D.sz):=h.2.1
theorem RC.u (h:(RC p D).holds w):cI w D.a1 (uv D.ws):=h.2.2.1
theorem Od {l:List Nat} {i:Nat} (h:i<l.length):(nv l)[i]?=some (.int .i64 (l.getD i 0:Nat)):=by
 rw [List.getElem?_map,List.getD_eq_getElem?_getD,List.getElem?_eq_getElem h];rfl
theorem PU {l:List Nat} {i:Nat} (h:i<l.length):(uv l)[i]?=some (.int .u64 (l.getD i 0:Nat)):=by
 rw [List.getElem?_map,List.getD_eq_getElem?_getD,List.getElem?_eq_getElem h];rfl
end
set_option maxRecDepth 20000 in
set_option maxHeartbeats 2000000 in
theorem pC {p q c i:Nat} {a:Option Addr} {bs:List Bool} {D:CD} {w:World} (hD:D.ok) (hi:i<D.sz.length) (hbl:bs.length≤1000000000) (hR:(RC p D).holds w) (hW:(Rw q a c bs).holds w) :
  aX Tryz.prog 164 #[pt p,pt q,.int .i64 i] w fun v w'=>v=.int .i64 0∧∃ a' c',jA (Rw q a c bs) (Rw q a' c' (bs++cw D.sz D.ws i)) w w':=by
 refine aL (args:=[_,_,_]) Tryz.func164 rfl rfl Tryz.ntmps164 rfl ?_
 have hB:=RC.b hR
 have hS:=RC.s hR
 have hU:=RC.u hR
 have hl:(nv D.sz).length=D.sz.length:=by simp
 have hl2:(uv D.ws).length=D.sz.length:=by rw [List.length_map];exact hD.1.wl
 have hv:=Od hi
 have hv2:=PU (l:=D.ws) (i:=i) (by have:=hD.1.wl;omega)
 have hs:=hD.1.Ot hi
 repeat (first|refine aR ?_|(refine aD (by first|refine aG rfl|refine aN rfl (Ty.bA rfl rfl)|refine gF rfl rfl (.inr rfl) QZ|refine aB rfl hB rfl (Ty.aF rfl)) rfl ?_)|refine aT ?_)
 refine iL Ty.mixed 15 rfl (by kernel_rfl) rfl (fun u=>Ext [] w u) ?_
 have hx1:Ext [] w w.drew:=Ext.dV
 refine bE 0 hx1 ?_
 refine bE 1 hx1 ?_
 refine xF ?_
 refine D8 ?_
 refine aY 4 hx1 rfl (fun w' hw'=>by refine aB rfl (hB.aH hw') rfl (Ty.aF rfl)) ?_
 refine bE 5 hx1 ?_
 refine aY 6 hx1 rfl (fun w' hw'=>by refine cG rfl rfl (hU.aH hw') hl2 (Ty.sle rfl) (by omega)) ?_
 refine aY 7 hx1 rfl (fun w' hw'=>by refine aU rfl (hU.aH hw') hv2 (Ty.aF rfl)) ?_
 refine bE 8 hx1 ?_
 refine aY 9 hx1 rfl (fun w' hw'=>by refine aG rfl) ?_
 refine Fu ?_
 refine aY 11 hx1 rfl (fun w' hw'=>by refine aB rfl (hB.aH hw') rfl (Ty.aF rfl)) ?_
 refine bE 12 hx1 ?_
 refine aY 13 hx1 rfl (fun w' hw'=>by refine cG rfl rfl (hS.aH hw') hl (Ty.sle rfl) (by omega)) ?_
 refine aY 14 hx1 rfl (fun w' hw'=>by refine aU rfl (hS.aH hw') hv (Ty.aF rfl)) ?_
 refine aW (by kernel_rfl) ?_
 refine aO ?_
 refine aA (aC (cH (s:=D.sz.getD i 0) (hD.1.Qw hi) (by omega) (by omega) ((Rw q a c bs).keep hW hx1 (by simp))) rfl rfl ?_)
 rintro v w2 ⟨rfl,a2,c2,hU2⟩
 refine aK ?_
 exact aM Tryz.func164 rfl ⟨rfl,a2,c2,(hx1.weaken (by simp)).trans hU2.ext (fun t ht=>.inl ht),hU2.holds,fun x hx=>(hU2.fp x hx).imp id (fun h=>Nat.le_trans hx1.size h)⟩
theorem K4 {l:List Int} {sz:List Nat} (h:l=sz.map (fun (n:Nat)=>(n:Int))):sz=l.map Int.toNat:=by
 subst h
 rw [List.map_map]
 exact (List.map_id' sz).symm
theorem MU.ok {l:List Int} {v:Value} {w w':World} (h:MU l v w w') (h1:1≤l.length∧l.length≤64) (h2:l.all (fun x=>decide (1≤x∧x≤32))=true) (h3:(codeOf (l.map Int.toNat)).isSome=true) :
  ∃ p D,D.sz=l.map Int.toNat∧D.ok∧v=.tuple #[pt p,.int .i64 0]∧iA (RC p D) w w':=by
 rcases h with ⟨h,_⟩|⟨_,⟨x,hx,h⟩,_⟩|⟨sz,hl,_,_,⟨hn,_⟩|⟨p,D,hD,hok,rfl,hN⟩⟩
 ·exact absurd h1 h
 ·exact absurd (of_decide_eq_true (List.all_eq_true.1 h2 x hx)) h
 ·rw [← K4 hl,hn] at h3;cases h3
 ·exact ⟨p,D,by rw [hD];exact K4 hl,hok,rfl,hN⟩
def Ns:List Int:=[2,1,3,4,4]
def Mv:List Int:=[3,2,2,3,3,4,5,6,7,8,9,10,10]
def Nu:List Int:=[3,4,4,4,4,4,5,4,4,5,4,4,4,5,5,3]
set_option maxRecDepth 20000 in
theorem DK {w:World}:aX Tryz.prog 56 #[] w fun v w'=>∃ p D,D.sz=Ns.map Int.toNat∧D.ok∧v=pt p∧iA (RC p D) w w':=by
 refine aL (args:=[]) Tryz.func56 rfl rfl Tryz.ntmps56 rfl ?_
 have hH:=Hp.start w
 refine aK ?_
 refine aO ?_
 refine aA (cN (out:=(Ns.map (Value.int .i64))) hH (Ty.sle rfl) (Ty.bH rfl) rfl rfl rfl (by decide) rfl ?_)
 try clear hH
 intro _ b4 hH
 replace hH:=aI hH
 refine aK ?_
 refine aO ?_
 refine aA (aC (sP (l:=Ns) (hH.b 0 rfl).cX rfl (by decide)) rfl rfl ?_)
 rintro v w2 hCN
 obtain ⟨p,D,hsz,hok,rfl,hN⟩:=hCN.ok (by decide) (by decide) (by decide +kernel)
 replace hH:=(hH.nu hN).del 0
 replace hH:=aI hH
 refine aK ?_
 exact aM Tryz.func56 rfl ⟨p,D,hsz,hok,rfl,hH.oA 0 rfl⟩
set_option maxRecDepth 20000 in
theorem DD {w:World}:aX Tryz.prog 57 #[] w fun v w'=>∃ p D,D.sz=Mv.map Int.toNat∧D.ok∧v=pt p∧iA (RC p D) w w':=by
 refine aL (args:=[]) Tryz.func57 rfl rfl Tryz.ntmps57 rfl ?_
 have hH:=Hp.start w
 refine aK ?_
 refine aO ?_
 refine aA (cN (out:=(Mv.map (Value.int .i64))) hH (Ty.sle rfl) (Ty.bH rfl) rfl rfl rfl (by decide) rfl ?_)
 try clear hH
 intro _ b4 hH
 replace hH:=aI hH
 refine aK ?_
 refine aO ?_
 refine aA (aC (sP (l:=Mv) (hH.b 0 rfl).cX rfl (by decide)) rfl rfl ?_)
 rintro v w2 hCN
 obtain ⟨p,D,hsz,hok,rfl,hN⟩:=hCN.ok (by decide) (by decide) (by decide +kernel)
 replace hH:=(hH.nu hN).del 0
 replace hH:=aI hH
 refine aK ?_
 exact aM Tryz.func57 rfl ⟨p,D,hsz,hok,rfl,hH.oA 0 rfl⟩
set_option maxRecDepth 20000 in
theorem xK {w:World}:aX Tryz.prog 58 #[] w fun v w'=>∃ p D,D.sz=Nu.map Int.toNat∧D.ok∧v=pt p∧iA (RC p D) w w':=by
 refine aL (args:=[]) Tryz.func58 rfl rfl Tryz.ntmps58 rfl ?_
 have hH:=Hp.start w
 refine aK ?_
 refine aO ?_
 refine aA (cN (out:=(Nu.map (Value.int .i64))) hH (Ty.sle rfl) (Ty.bH rfl) rfl rfl rfl (by decide) rfl ?_)
 try clear hH
 intro _ b4 hH
 replace hH:=aI hH
 refine aK ?_
 refine aO ?_
 refine aA (aC (sP (l:=Nu) (hH.b 0 rfl).cX rfl (by decide)) rfl rfl ?_)
 rintro v w2 hCN
 obtain ⟨p,D,hsz,hok,rfl,hN⟩:=hCN.ok (by decide) (by decide) (by decide +kernel)
 replace hH:=(hH.nu hN).del 0
 replace hH:=aI hH
 refine aK ?_
 exact aM Tryz.func58 rfl ⟨p,D,hsz,hok,rfl,hH.oA 0 rfl⟩
def VG (u:Value):Prop:=∃ x y:Int,(-31≤x∧x≤31)∧(-31≤y∧y≤31)∧u=CV x y
theorem VG.one {u:Value} (h:VG u):u.oneCell'=true:=by obtain ⟨x,y,_,_,rfl⟩:=h;rfl
section
variable {cs:List Value}
end
theorem mL {P:Program} {N:Nat} {K:Fr→World→Prop} {ρ:Fr} {S:List Nat} {W w:World} {H:List cK} {ty t e:TypeId} {pos:String} {af:Array Edge} {gd:Option (Nat × Bool)} {x y:Operand} (i:Nat) {b o s:Nat} {cs vs:List Value} (hH:Hp S W w H) (hi:H[i]?=some (Rb b e cs.toArray)) (hx:ev ρ x=.pointer (some ⟨b,o,none⟩)) (hy:ev ρ y=.agg vs.toArray) (ho:o+vs.length≤cs.length) (h1:∀ v∈vs,v.oneCell'=true) (ht:aF P t=some (true,s)) (hs:vs.length=s)
  (hk:∀ w',Hp S W w' (H.set i (Rb b e (cs.take o++vs++cs.drop (o+vs.length)).toArray))→K ρ w'):kC P N ρ ⟨none,.store t x y,ty,pos,af,gd⟩ w K :=
 vV hx hy (hH.b i hi) (by simpa using ho) h1 ht (by simpa using hs) (fun w' hE hB _=>hk w' (hH.up i hi ⟨hE,hB,fun _ hx=>.inl hx⟩))
theorem bV {P:Program} {N:Nat} {K:Fr→World→Prop} {ρ:Fr} {S:List Nat} {W w:World} {H:List cK} {ty t e:TypeId} {pos:String} {af:Array Edge} {gd:Option (Nat × Bool)} {x y:Operand} {v:Value} (i:Nat) {b o:Nat} {cs:List Value} (hH:Hp S W w H) (hi:H[i]?=some (Rb b e cs.toArray)) (hx:ev ρ x=.pointer (some ⟨b,o,none⟩)) (hy:ev ρ y=v) (ho:o<cs.length) (h1:v.oneCell'=true) (ht:aF P t=some (false,1))
  (hk:∀ w',Hp S W w' (H.set i (Rb b e (cs.set o v).toArray))→K ρ w'):kC P N ρ ⟨none,.store t x y,ty,pos,af,gd⟩ w K :=
 dR i hH hi hx hy (by simpa using ho) h1 ht (fun w' h=>hk w' (by simpa using h))
theorem wK {u:Value} {w:World} (hu:VG u):aX Tryz.prog 99 #[u] w fun v w'=>v=.agg #[u,u,u,u]∧Ext [] w w':=by
 refine aL (args:=[_]) Tryz.func99 rfl rfl Tryz.ntmps99 rfl ?_
 have hH:=Hp.start w
 obtain ⟨x,y,_,_,rfl⟩:=hu
 refine aK ?_
 refine aA (aQ hH (Ty.bH rfl) rfl ?_)
 try clear hH
 intro w1 b hH
 replace hH:=aI hH
 repeat (first|refine aR ?_|(refine aD (by refine dC (cs:=[CV x y,CV x y,CV x y,CV x y]) (Ty.bH rfl) (Ty.arr rfl) rfl) rfl ?_)|refine aT ?_)
 refine aA (aJ 0 hH rfl rfl rfl rfl rfl (by intro v hv;simp at hv;subst hv;rfl) (Ty.aF rfl) ?_)
 try clear hH
 intro w2 hH
 replace hH:=aI hH
 refine aK ?_
 exact bP Tryz.func99 rfl rfl (hH.b 0 rfl) rfl (Ty.aF rfl) ⟨rfl,hH.ext⟩
end Go.Proofs.YtdbnmbkjmeepkaaGreatDoor
