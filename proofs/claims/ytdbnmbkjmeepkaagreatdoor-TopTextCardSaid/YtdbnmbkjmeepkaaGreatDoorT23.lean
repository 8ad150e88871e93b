/- A part of the proof of the card of TopText; no condition. -/
import Derived.Test.YtdbnmbkjmeepkaaGreatDoorT22
namespace Go.Proofs.YtdbnmbkjmeepkaaGreatDoor
open Go Go.K Go.P Go.RowKit Go.Proofs
abbrev EV:=Option Addr × Nat × List (Nat × Int)
abbrev Jk (e:EV):Value:=.slice e.1 e.2.2.length e.2.1
abbrev Qo (e:EV):Prop:=e.2.2.length≤64∧∀ p∈e.2.2,Cl p
def RE (es:List EV):cK where
 fp:=es.flatMap fun e=>(Rs e.1 (pA e.2.2)).fp
 holds:=fun w=>∀ e∈es,(Rs e.1 (pA e.2.2)).holds w
 keep:=fun h hE hS e he=>(Rs e.1 (pA e.2.2)).keep (h e he) hE (fun s hs hb=>hS s hs (List.mem_flatMap.2 ⟨e,he,hb⟩))
 lt:=fun h s hs=>by
  obtain ⟨e,he,hse⟩:=List.mem_flatMap.1 hs
  exact (Rs e.1 (pA e.2.2)).lt (h e he) s hse
theorem RE.nil {w:World}:iA (RE []) w w:=by
 refine ⟨.refl,?_,?_⟩
 ·intro e he;exact absurd he (by simp)
 ·intro x hx;exact absurd hx (by simp [RE])
theorem RE.add {S:List Nat} {W w:World} {H:List cK} {es:List EV} {e:EV} (i j:Nat) (h:Hp S W w H) (hi:H[i]?=some (RE es)) (hj:H[j]?=some (Rs e.1 (pA e.2.2))) (hij:i<j) :
  Hp S W w (((H.set i (sep (RE es) (Rs e.1 (pA e.2.2)))).eraseIdx j).set i (RE (es++[e]))):=by
 have h1:=h.merge i j hi hj (by omega)
 have hil:=(List.getElem?_eq_some_iff.1 hi).1
 refine h1.as i (r:=sep (RE es) (Rs e.1 (pA e.2.2))) ?_ (fun x hx=>?_) (fun hh=>?_)
 ·rw [List.getElem?_eraseIdx,if_pos hij,List.getElem?_set_self hil]
 ·obtain ⟨e',he',hxe⟩:=List.mem_flatMap.1 hx
  rcases List.mem_append.1 he' with he'|he'
  ·exact List.mem_append.2 (.inl (List.mem_flatMap.2 ⟨e',he',hxe⟩))
  ·simp at he';subst he'
   exact List.mem_append.2 (.inr hxe)
 ·intro e' he'
  rcases List.mem_append.1 he' with he'|he'
  ·exact hh.1 e' he'
  ·simp at he';subst he'
   exact hh.2.1
theorem MP {B:Int} {u:List Int} (h:fC B u) (hB:0≤B):fC B (u.set 0 0):=⟨by rw [List.length_set];exact h.1,fun n hn=>by
 rcases List.mem_or_eq_of_mem_set hn with h1|h1
 ·exact h.2 n h1
 ·omega⟩
theorem JT {u:List Int} {f:Nat} (h:fC 2047 u):(fF 0 (u.drop f)).length≤64∧∀ p∈fF 0 (u.drop f),Cl p:=by
 have hl:(u.drop f).length≤64:=by rw [List.length_drop,h.1];omega
 refine ⟨by have:=sH 0 (u.drop f);omega,fun p hp=>?_⟩
 obtain ⟨_,h2,h3⟩:=sN 0 (u.drop f) p hp
 have h1:=vA 0 (u.drop f) p hp
 exact ⟨by omega,h3,h.2 _ (List.mem_of_mem_drop h2)⟩
section
variable {d:SD} {qp:Int} {F:FV} {T:TV} {v x:Nat} {t s:WT} {k:KD} {w:World} {kd:Nat} {q:Int} {u0 u1 u2 u3:Value} {e:Bool} {L:List Int}
abbrev P1 (d:SD) (qp:Int) (F:FV) (T:TV) (v:Nat) (t:WT) (x:Nat) (s:WT) (k:KD) (b9 b11:Nat) (m:List Value) (es:List EV):List cK :=
 [RS d qp F T,RX v t,RX x s,RK k,Rb b9 95 m.toArray,Rb b11 271 (es.map Jk++List.replicate (6-es.length) (Value.slice none 0 0)).toArray,RE es]
theorem M7 {es:List EV} {e:EV} (h:es.length<6):(es.map Jk++List.replicate (6-es.length) (Value.slice none 0 0)).set es.length (Jk e)=(es++[e]).map Jk++List.replicate (6-(es++[e]).length) (Value.slice none 0 0):=by
 rw [show 6-es.length=(6-(es++[e]).length)+1 by simp;omega,List.replicate_succ,List.set_append_right _ _ (by simp)]
 simp
theorem M6 {es:List EV} (h:es.length≤6):(es.map Jk++List.replicate (6-es.length) (Value.slice none 0 0)).length=6:=by simp;omega
theorem Lx {es:List EV} {i:Nat} {e:EV} (h:es[i]?=some e):(es.map Jk++List.replicate (6-es.length) (Value.slice none 0 0))[i]?=some (Jk e):=by
 have hi:=(List.getElem?_eq_some_iff.1 h).1
 rw [List.getElem?_append_left (by simpa using hi),List.getElem?_map,h];rfl
theorem Ak {R:List Int} {q:Int} (h:R.length=64):dU (fun i=>[(0,64),(64,1)][i]?) ((List.replicate 65 (0:Int)).map (Value.int .i64)) [(0,.agg (R.map (Value.int .i64)).toArray),(1,.int .i64 q)]=some ((R++[q]).map (Value.int .i64)):=by
 have e:∀ l:List Value,l.length=64→List.drop 65 (l++[Value.int .i64 0])=[]:=fun l hl=>List.drop_of_length_le (by simp [hl])
 simp [dU,gG,Value.cells,h]
 rw [e _ (by simp [h])]
 rfl
theorem BX {l e z:List Int} (hl:l.length=64) (he:e.length=64) (h:gA l e=some z):fC 2047 z:=by
 unfold gA at h
 split at h
 ·rename_i hb
  obtain rfl:=Option.some.inj h
  exact ⟨by simp [hl,he],hb⟩
 ·cases h
theorem FQ {n:Int} (hn:-127≤n∧n≤127):(tM n).length≤39:=by
 have h1:fR n.natAbs≤7:=nV (x:=n.natAbs) (m:=7) (by omega)
 unfold tM
 generalize fR n.natAbs=z at *
 have h2:(Nj z).length≤32:=by
  unfold Nj
  rw [Af]
  have:∀ z,z≤7→(Mv.map Int.toNat).getD z 0≤32:=by decide
  exact this z h1
 rw [List.length_append,cA]
 omega
structure BQ where
 T:TV
 v:List Bool
 p:Nat
 g:Nat
 es:List (List (Nat × Int))
def Da (c mb kd:Nat) (q:Int) (e:Bool) (R:List Int) (T:TV) (b:Nat):List Int:=if kd=3∨kd=4 then (if e then (gA R (T.rC c mb b q)).getD R else R).set 0 0 else R
def IJ (c mb kd:Nat) (q:Int) (e:Bool) (R:List Int) (T:TV) (b:Nat):List (Nat × Int):=fF 0 ((J3 (Hb e (T.Gd c mb b).1) (Da c mb kd q e R T b)).drop (if kd=3∨kd=4 then 1 else 0))
noncomputable def zY (c mb kd:Nat) (q:Int) (R:List Int) (T:TV) (b:Nat):List Bool:=if kd=3∨kd=4 then tM (R.getD 0 0-Hz (T.Gd c mb b).2 q) else []
def rK (c mb kd:Nat) (q:Int) (R:List Int) (T:TV) (b:Nat):TV:=if kd=3∨kd=4 then T.set c mb b (R++[q]) else T
noncomputable def BQ.next (s:BQ) (c mb kd:Nat) (q:Int) (e:Bool) (R:List Int) (b:Nat):BQ :=
 ⟨rK c mb kd q R s.T b,s.v++zY c mb kd q R s.T b,
  if (IJ c mb kd q e R s.T b).length=0 then s.p else if b<4 then s.p ||| 8 / 2 ^ b else s.p,
  if (IJ c mb kd q e R s.T b).length=0 then s.g else if b<4 then s.g else s.g ||| 2 / 2 ^ (b-4),
  s.es++[IJ c mb kd q e R s.T b]⟩
noncomputable def gU (c mb kd:Nat) (q:Int) (e:Bool) (L:List Int) (T:TV):Nat→BQ
 | 0=>⟨T,[],0,0,[]⟩
 | b+1=>(gU c mb kd q e L T b).next c mb kd q e (row L b) b
def oP (l:List (List (Nat × Int))):List Bool:=l.flatMap fun ps=>if ps=[] then [] else bb ps
noncomputable def xX (c mb kd:Nat) (q:Int) (e:Bool) (L:List Int) (T:TV):List Bool:=(gU c mb kd q e L T 6).v++(NA (gU c mb kd q e L T 6).p++nb (gU c mb kd q e L T 6).g 2)
noncomputable def Jx (c mb kd:Nat) (q:Int) (e:Bool) (L:List Int) (T:TV):List Bool:=oP (gU c mb kd q e L T 6).es
def xP (c mb kd:Nat) (q:Int) (e:Bool) (L:List Int) (T:TV):Prop:=kd=3∨kd=4→e=true→∀ b,b<6→∃ z,gA (row L b) ((gU c mb kd q e L T b).T.rC c mb b q)=some z
theorem Nw {A:Prop} {Y:Fr→WT→List Int→World→Prop} (Z:WT→List Int→World→Prop) (h1:(∀ σ t z u,Z t z u→Y σ t z u)→A) (h2:∀ σ t z u,Z t z u→Y σ t z u):A:=h1 h2
theorem LS {A:Prop} {Y:Fr→Nat→World→Prop} (Z:Nat→World→Prop) (h1:(∀ σ b u,Z b u→Y σ b u)→A) (h2:∀ σ b u,Z b u→Y σ b u):A:=h1 h2
set_option maxRecDepth 20000 in
set_option maxHeartbeats 16000000 in
theorem mJ {mb:Nat} (hk:k.ok) (hbc:k.bc=d.bc) (h:MV kd q u0 u1 u2 u3 e L) (hc:d.c≤8) (hr:d.r≤8) (hmb:mb<d.c*d.r) (hed:xP d.c mb kd q e L T) (ht:t.2.2.length≤900000) (hs:s.2.2.length≤900000) (hP:Sep (PA d qp F T v t x s k) w) :
  aX Tryz.prog 129 #[pt d.s,pt v,pt x,.int .i64 mb,.agg (eF kd q u0 u1 u2 u3 e L).toArray] w fun r w'=>r=.int .i64 0∧(xX d.c mb kd q e L T).length≤400∧(Jx d.c mb kd q e L T).length≤19200∧∃ a1 c1 a2 c2,Hp (eY (PA d qp F T v t x s k)) w w' (PA d qp F (gU d.c mb kd q e L T 6).T v (a1,c1,t.2.2++xX d.c mb kd q e L T) x (a2,c2,s.2.2++Jx d.c mb kd q e L T) k):=by
 refine aL (args:=[_,_,_,_,_]) Tryz.func129 rfl rfl Tryz.ntmps129 rfl ?_
 have hH:=Hp.fQ hP
 have hk5:=h.k5
 have hml:=bL (k:=kd) (q:=q) (u0:=u0) (u1:=u1) (u2:=u2) (u3:=u3) (e:=e) h.len
 obtain ⟨m,hm⟩:∃ m,eF kd q u0 u1 u2 u3 e L=m:=⟨_,rfl⟩
 have m1:m.toArray[1]?=some (.int .i64 q):=by rw [← hm];rfl
 have m6:m.toArray[6]?=some (.bool e):=by rw [← hm];rfl
 have m7:(m.drop (0+7)).take 384=L.map (Value.int .i64):=by rw [← hm,Nat.zero_add,rA,List.take_of_length_le (by rw [List.length_map,h.len];decide)]
 have mal:=fun w=>dO (w:=w) (k:=kd) (q:=q) (u0:=u0) (u1:=u1) (u2:=u2) (u3:=u3) (e:=e) (L:=L)
 have mst:=fun w=>CQ (w:=w) (k:=kd) (q:=q) (u0:=u0) (u1:=u1) (u2:=u2) (u3:=u3) (e:=e) h.len
 simp only [hm] at mal mst hml ⊢
 unfold xX Jx
 unfold xP at hed
 have h0:gU d.c mb kd q e L T 0=⟨T,[],0,0,[]⟩:=rfl
 have hs1:∀ b,gU d.c mb kd q e L T (b+1)=(gU d.c mb kd q e L T b).next d.c mb kd q e (row L b) b:=fun _=>rfl
 generalize gU d.c mb kd q e L T=B at *
 refine aK ?_
 refine aO ?_
 refine aA (bI (cs:=m.toArray) hH rfl rfl rfl ?_)
 try clear hH
 intro _ b9 hH
 replace hH:=aI hH
 refine aK ?_
 refine aO ?_
 refine aA (aQ hH (Ty.bH rfl) rfl ?_)
 try clear hH
 intro _ b11 hH
 replace hH:=aI hH
 have hS:cI _ (some ⟨b9,0,none⟩) m:=(hH.b 4 rfl).cX
 repeat (first|refine aR ?_|(refine aD (by first|refine aN rfl (Ty.bA rfl rfl)|refine bG (j:=0+7) (cs:=L.map (Value.int .i64)) rfl hS m7 (by rw [List.length_map,h.len]) (Ty.aF rfl)) rfl ?_)|refine aT ?_)
 clear hS
 replace hH:=hH.nu RE.nil
 replace hH:=aI hH
 refine aV (G:=(Nat) × (Option Addr) × (Nat) × (List EV)) (fun|(b,a0,c0,es)=>6-b) 2596148429267413814265248099595264 (fun|(b,a0,c0,es)=>[(12,.int .i64 ((B b).p:Nat)),(13,.int .u64 ((B b).g:Nat)),(26,.int .i64 b)]) (fun|(b,a0,c0,es),w'=>b≤6∧(B b).p<16∧(B b).g<4∧(B b).v.length≤40*b∧es.length=b∧es.map (fun e=>e.2.2)=(B b).es∧(∀ e∈es,Qo e)∧Hp (eY (PA d qp F T v t x s k)) w w' (P1 d qp F (B b).T v (a0,c0,t.2.2++(B b).v) x s k b9 b11 m es)) (0,t.1,t.2.1,[]) ⟨by rw [h0];rfl,by rw [h0];rfl,rfl,trivial⟩ ⟨by omega,by rw [h0];exact Nat.succ_pos _,by rw [h0];exact Nat.succ_pos _,by rw [h0];exact Nat.le_refl _,rfl,by rw [h0];rfl,fun _ h=>(by cases h),by rw [h0];simp only [List.append_nil];exact hH⟩ ?_
 rintro ⟨b,a0,c0,es⟩ w' σ ⟨hb,hp,hg,ht1,hel,hee,heo,hH⟩ IH
 show WS _ _ _ _ _ (bQ [(12,.int .i64 ((B b).p:Nat)),(13,.int .u64 ((B b).g:Nat)),(26,.int .i64 b)] _) _
 by_cases hlt:b<6
 ·have hR1:=pU (b:=b) h.len hlt
  have hrx:=wJ (L:=L) (b:=b)
  have hBn:=hs1 b
  have hedb:kd=3∨kd=4→e=true→∃ z,gA (row L b) ((B b).T.rC d.c mb b q)=some z:=fun h1 h2=>hed h1 h2 b hlt
  obtain ⟨S1,hS1⟩:∃ S1,B b=S1:=⟨_,rfl⟩
  rw [hS1] at hp hg ht1 hee hH hBn hedb ⊢
  have hTok:S1.T.ok:=(hH.at 0 rfl).2.2.1.2.2.2.2.1
  have hrb:∀ (i:Nat) (n:Int),(row L b)[i]?=some n→i<64→(-2047≤n∧n≤2047)∧(3≤kd→i=0→0≤n∧n≤127):=fun i n hn hi=>by
   rw [wG hi] at hn
   obtain ⟨a1,_,a3⟩:=h.lv _ n hn
   exact ⟨a1,fun h3 h0=>a3 h3 (by omega)⟩
  obtain ⟨R,hR⟩:∃ R,row L b=R:=⟨_,rfl⟩
  rw [hR] at hR1 hrx hrb hBn hedb
  have hRm:∀ n∈R,-2047≤n∧n≤2047:=fun n hn=>by
   obtain ⟨i,hi⟩:=List.mem_iff_getElem?.1 hn
   exact (hrb i n hi (by have:=(List.getElem?_eq_some_iff.1 hi).1;omega)).1
  obtain ⟨r0,hr0'⟩:∃ r0,R[0]?=some r0:=⟨_,List.getElem?_eq_getElem (by omega)⟩
  have hr0:(R.map (Value.int .i64))[0]?=some (.int .i64 r0):=by rw [List.getElem?_map,hr0'];rfl
  have hr03:=(hrb 0 r0 hr0' (by decide)).2
  have hRs:fC 2047 R:=⟨hR1,hRm⟩
  have hkg:kg (R++[q]):=⟨by simp [hR1],fun i hi=>by
   rw [List.getD_eq_getElem?_getD,List.getElem?_append_left (by omega),List.getElem?_eq_getElem (by omega)]
   exact hRm _ (List.getElem_mem _)⟩
  have hRr:R.getD 0 0=r0:=by rw [List.getD_eq_getElem?_getD,hr0'];rfl
  clear hR hrb
  repeat (first|refine aR ?_|(refine aD (by refine (gY rfl rfl (Ty.arr rfl) (by omega)).is (congrArg Value.agg hrx)) rfl ?_)|refine aT ?_)
  refine aO ?_
  refine aA (aQ hH (Ty.bH rfl) rfl ?_)
  try clear hH
  intro _ b15 hH
  replace hH:=aI hH
  refine aK ?_
  have hl1:=hR1
  refine aO ?_
  refine aA (aJ 7 (vs:=(R.map (Value.int .i64)).toArray) (s:=64) hH rfl rfl rfl (by simp [hl1]) (by rfl) (by exact bB) (Ty.aF rfl) ?_)
  try clear hH
  intro _ hH
  replace hH:=aI hH
  have hB:=(hH.at 0 rfl).1
  have hBm:=hH.b 4 rfl
  refine aK ?_
  refine cD Ty.mixed 14 rfl (fun w1 hx1=>?_)
  refine bE 0 hx1 ?_
  refine AO ?_
  refine uN ?_
  refine I5 ?_
  refine bE 4 hx1 ?_
  refine bE 5 hx1 ?_
  refine xD ?_
  refine aY 7 hx1 rfl (fun w' hw'=>by refine aB rfl (hBm.aH hw') m1 (Ty.aF rfl)) ?_
  refine bC 8 (by kernel_rfl) rfl rfl (aC (xZ (q:=q) hc hr hmb hlt ((d.T S1.T).keep (hH.at 0 rfl).2.2.1 hx1 (by simp))) rfl rfl ?_)
  rintro _ w2 ⟨rfl,hE0⟩
  obtain ⟨f,hff⟩:∃ f,(S1.T.Gd d.c mb b).1=f:=⟨_,rfl⟩
  have hf:f<3:=hff▸Gl _ _ _
  obtain ⟨n,hnn⟩:∃ n,Hz (S1.T.Gd d.c mb b).2 q=n:=⟨_,rfl⟩
  have hn:0≤n∧n≤127:=hnn▸Db _ _
  rw [hff,hnn]
  have hx2:=hx1.bO hE0
  refine ⟨hx2,?_⟩
  refine bE 9 hx2 ?_
  refine bE 10 hx2 ?_
  refine bE 11 hx2 ?_
  refine bE 12 hx2 ?_
  refine bE 13 hx2 ?_
  refine aW (by kernel_rfl) ?_
  replace hH:=hH.aH hx2
  clear hx2 hx1 hE0 hB hBm
  replace hH:=aI hH
  have hB15:=hH.b 7 rfl
  repeat (first|refine aR ?_|(refine aD (by refine aE rfl hB15 (by simp [hR1]) (Ty.aF rfl)) rfl ?_))
  clear hB15
  refine aO ?_
  refine aA (aQ hH (Ty.bH rfl) rfl ?_)
  try clear hH
  intro _ b18 hH
  replace hH:=aI hH
  refine aO ?_
  refine aA (aJ 8 (vs:=(R.map (Value.int .i64)).toArray) (s:=64) hH rfl rfl rfl (by simp [hl1]) (by rfl) (by exact bB) (Ty.aF rfl) ?_)
  try clear hH
  intro _ hH
  replace hH:=aI hH
  have hBm:=hH.b 4 rfl
  repeat (first|refine aR ?_|(refine aD (by refine aE rfl hBm (by simp [hml]) (Ty.aF rfl)) rfl ?_))
  refine aO ?_
  refine aA (aC ((mal _)) rfl rfl ?_)
  rintro _ w3 ⟨rfl,hE0⟩
  replace hH:=hH.aH hE0
  clear hE0 hBm
  replace hH:=aI hH
  obtain ⟨t1,ht1e⟩:∃ t1:WT,(a0,c0,t.2.2++S1.v)=t1:=⟨_,rfl⟩
  rw [ht1e] at hH
  have ht1l:t1.2.2.length≤t.2.2.length+240:=by rw [← ht1e,List.length_append];omega
  have ht1v:t1.2.2=t.2.2++S1.v:=by rw [← ht1e]
  apply Nw (Z:=fun t2 z u=>t2.2.2=t1.2.2++zY d.c mb kd q R S1.T b∧z=Da d.c mb kd q e R S1.T b∧Hp (eY (PA d qp F T v t x s k)) w u (P1 d qp F (rK d.c mb kd q R S1.T b) v t2 x s k b9 b11 m es++[Rb b15 92 (R.map (Value.int .i64)).toArray,Rb b18 92 (z.map (Value.int .i64)).toArray]))
  ·intro key
   by_cases hal:kd=3∨kd=4
   ·have hr04:=hr03 (by omega) rfl
    have hBm:=hH.b 4 rfl
    by_cases he:e=false
    ·repeat (first|refine aR ?_|(refine aD (by first|refine aN rfl (Ty.bA rfl rfl)|refine (aB rfl hBm m6 (Ty.aF rfl)).is (congrArg Value.bool he)) rfl ?_)|refine aT ?_)
     clear hBm
     have hB:=(hH.at 0 rfl).1
     have hS15:cI _ (some ⟨b15,0,none⟩) (R.map (Value.int .i64)):=(hH.b 7 rfl).cX
     repeat (first|(refine aD (by first|refine bD rfl rfl (Ty.arr rfl) (by decide)|refine aU rfl hS15 hr0 (Ty.aF rfl)) rfl ?_)|refine aT ?_)
     clear hS15 hB
     refine aO ?_
     refine aA (aC ((yA (n:=r0-n) hk hbc (by omega) (by omega) (hH.jO 4))) rfl rfl ?_)
     rintro _ w7 ⟨rfl,ht2,a7,c7,hQ⟩
     replace hH:=hH.calls 4 hQ
     clear hQ
     replace hH:=aI hH
     have hB:=(hH.at 0 rfl).1
     have hB15:=hH.b 7 rfl
     have hBm:=hH.b 4 rfl
     refine aK ?_
     refine cM Ty.mixed 10 rfl (by kernel_rfl) rfl (fun w1 hx1=>?_)
     refine bE 0 hx1 ?_
     refine AO ?_
     refine uN ?_
     refine I5 ?_
     refine bE 4 hx1 ?_
     refine bE 5 hx1 ?_
     refine aY 6 hx1 rfl (fun w' hw'=>by refine aE rfl (hB15.aH hw') (by simp [hR1]) (Ty.aF rfl)) ?_
     refine xV ?_
     refine aY 8 hx1 rfl (fun w' hw'=>by refine aB rfl (hBm.aH hw') m1 (Ty.aF rfl)) ?_
     refine aY 9 hx1 rfl (fun w' hw'=>by refine bR (Ty.bH rfl) (Ty.iJ rfl) (Ak hR1)) ?_
     refine aW (by kernel_rfl) ?_
     replace hH:=hH.aH hx1
     clear hB hB15 hBm hx1
     refine aO ?_
     refine aA (aC ((rY (l:=R++[q]) hc hr hmb hlt hkg (hH.at 0 rfl).2.2.1)) rfl rfl ?_)
     rintro _ _ ⟨rfl,hU⟩
     replace hH:=hH.up 0 rfl (RS.t (hH.at 0 rfl) hU)
     clear hU
     replace hH:=aI hH
     repeat (first|refine aR ?_|(refine aD (by refine bD rfl rfl (Ty.arr rfl) (by decide)) rfl ?_))
     refine aO ?_
     refine aA (cF 8 (v:=.int .i64 0) hH rfl rfl rfl (by simp [hR1]) rfl (Ty.aF rfl) ?_)
     try clear hH
     intro _ hH
     replace hH:=aI hH
     rw [← List.map_set] at hH
     refine aK ?_
     apply fE 2596148429267413814265248099595264 [(12,.int .i64 (S1.p:Nat)),(13,.int .u64 (S1.g:Nat)),(14,.int .i64 b),(16,.int .u8 f),(18,pt b18),(26,.int .i64 b)]
     ·exact ⟨rfl,rfl,rfl,rfl,rfl,rfl,trivial⟩
     ·exact Nl
     intro σ
     replace hH:=hH.take 9
     obtain ⟨z9,hz9⟩:∃ z9,(R).set (Int.toNat 0) 0=z9:=⟨_,rfl⟩
     rw [hz9] at hH
     obtain ⟨t9,ht9⟩:∃ t9:WT,(a7,c7,t1.2.2++tM (r0-n))=t9:=⟨_,rfl⟩
     rw [ht9] at hH
     exact key σ t9 z9 _ ⟨by rw [zY,if_pos hal,hRr,hnn,← ht9],by rw [Da,if_pos hal,← hz9,he,if_neg (by decide)];rfl,by rw [rK,if_pos hal];exact hH⟩
    ·have hB:=(hH.at 0 rfl).1
     have hB15:=hH.b 7 rfl
     replace he:e=true:=by simpa using he
     obtain ⟨z,hzr⟩:=hedb hal he
     have hus:fC 2047 (S1.T.rC d.c mb b q):=TV.Ax (hH.at 0 rfl).2.2.1.2.2.2.2.1
     have hzz:=BX hR1 hus.1 hzr
     repeat (first|refine aR ?_|(refine aD (by first|refine aN rfl (Ty.bA rfl rfl)|refine (aB rfl hBm m6 (Ty.aF rfl)).is (congrArg Value.bool he)) rfl ?_))
     clear hB hB15 hBm
     apply LS (Z:=fun b19 u=>Hp (eY (PA d qp F T v t x s k)) w u (P1 d qp F S1.T v t1 x s k b9 b11 m es++[Rb b15 92 (R.map (Value.int .i64)).toArray,Rb b18 92 (R.map (Value.int .i64)).toArray,Rb b19 92 (z.map (Value.int .i64)).toArray]))
     ·intro key2
      refine cD Ty.mixed 17 rfl (fun w4 hx1=>?_)
      have hB:=(hH.at 0 rfl).1
      have hB15:=hH.b 7 rfl
      have hBm:=hH.b 4 rfl
      refine aY 0 hx1 rfl (fun w' hw'=>by refine aE rfl (hB15.aH hw') (by simp [hR1]) (Ty.aF rfl)) ?_
      refine bE 1 hx1 ?_
      refine xF ?_
      refine D8 ?_
      refine aY 4 hx1 rfl (fun w' hw'=>by refine aB rfl (hB.aH hw') rfl (Ty.aF rfl)) ?_
      refine bE 5 hx1 ?_
      refine bE 6 hx1 ?_
      refine xV ?_
      refine aY 8 hx1 rfl (fun w' hw'=>by refine aB rfl (hBm.aH hw') m1 (Ty.aF rfl)) ?_
      replace hH:=hH.aH hx1
      clear hB hB15 hBm
      replace hH:=aI hH
      refine mX 9 14 (by kernel_rfl) rfl rfl rfl rfl ?_ ?_
      ·refine aC (pJ (q:=q) hc hr hmb hlt (hH.at 0 rfl).2.2.1) rfl rfl ?_
       rintro _ _ ⟨rfl,hE9⟩
       have hx9:=hx1.bO hE9
       refine ⟨hx9,?_⟩
       replace hH:=hH.aH hE9
       clear hE9
       refine mX 10 14 (by kernel_rfl) rfl rfl rfl rfl ?_ ?_
       ·refine aC (lG hRs hus) rfl rfl ?_
        rintro _ _ ⟨rfl,hE10⟩
        rw [hzr]
        have hx10:=hx9.bO hE10
        refine ⟨hx10,?_⟩
        replace hH:=hH.aH hE10
        clear hE10
        refine bE 11 hx10 ?_
        refine bE 12 hx10 ?_
        refine bE 13 hx10 ?_
        refine bC 14 (by kernel_rfl) rfl rfl ?_
        refine dS (Ty.bH rfl) rfl ?_
        intro _ b19 hb19 hE14 hB14 _
        have hx14:=hx10.bO hE14
        refine ⟨hx14,?_⟩
        have hsz:=hx10.size
        replace hH:=hH.nu (r:=Rb b19 92 ((List.replicate 64 (0:Int)).map (Value.int .i64)).toArray) ⟨hE14,hB14,fun x hx=>by simp [Rb] at hx;omega⟩
        clear hE14 hB14
        refine bC 15 (by kernel_rfl) rfl rfl (dH (s:=64) (vs:=(z.map (Value.int .i64)).toArray) rfl rfl (hH.b 9 rfl) (by simp [hzz.1]) rfl bB (Ty.aF rfl) (fun w7 hE7 hB7 _=>?_))
        have hx7:=hx14.kS hE7 (by omega)
        refine ⟨hx7,?_⟩
        replace hH:=hH.up 9 rfl (r':=Rb b19 92 (z.map (Value.int .i64)).toArray) ⟨hE7,hB7,fun _ hx=>.inl hx⟩
        clear hE7 hB7
        refine bE 16 hx7 ?_
        refine aW (by kernel_rfl) ?_
        apply fE 2596148429267413814265248099595264 [(12,.int .i64 (S1.p:Nat)),(13,.int .u64 (S1.g:Nat)),(14,.int .i64 b),(15,pt b15),(16,.int .u8 f),(17,.int .i64 n),(18,pt b18),(19,pt b19),(20,.bool true),(26,.int .i64 b)]
        ·exact ⟨rfl,rfl,rfl,rfl,rfl,rfl,rfl,rfl,rfl,rfl,trivial⟩
        ·exact Nl
        intro σ
        exact key2 σ b19 w7 hH
       ·refine dS (Ty.bH rfl) rfl ?_
        intro _ b19 hb19 hE14 hB14 _
        have hx14:=hx9.bO hE14
        refine ⟨hx14,?_⟩
        have hsz:=hx9.size
        replace hH:=hH.nu (r:=Rb b19 92 ((List.replicate 64 (0:Int)).map (Value.int .i64)).toArray) ⟨hE14,hB14,fun x hx=>by simp [Rb] at hx;omega⟩
        clear hE14 hB14
        refine bC 10 (by kernel_rfl) rfl rfl ?_
        refine aC (lG hRs hus) rfl rfl ?_
        rintro _ _ ⟨rfl,hE10⟩
        rw [hzr]
        have hx10:=hx14.bO hE10
        refine ⟨hx10,?_⟩
        replace hH:=hH.aH hE10
        clear hE10
        refine bE 11 hx10 ?_
        refine bE 12 hx10 ?_
        refine bE 13 hx10 ?_
        have hx14:=hx10
        refine bC 15 (by kernel_rfl) rfl rfl (dH (s:=64) (vs:=(z.map (Value.int .i64)).toArray) rfl rfl (hH.b 9 rfl) (by simp [hzz.1]) rfl bB (Ty.aF rfl) (fun w7 hE7 hB7 _=>?_))
        have hx7:=hx14.kS hE7 (by omega)
        refine ⟨hx7,?_⟩
        replace hH:=hH.up 9 rfl (r':=Rb b19 92 (z.map (Value.int .i64)).toArray) ⟨hE7,hB7,fun _ hx=>.inl hx⟩
        clear hE7 hB7
        refine bE 16 hx7 ?_
        refine aW (by kernel_rfl) ?_
        apply fE 2596148429267413814265248099595264 [(12,.int .i64 (S1.p:Nat)),(13,.int .u64 (S1.g:Nat)),(14,.int .i64 b),(15,pt b15),(16,.int .u8 f),(17,.int .i64 n),(18,pt b18),(19,pt b19),(20,.bool true),(26,.int .i64 b)]
        ·exact ⟨rfl,rfl,rfl,rfl,rfl,rfl,rfl,rfl,rfl,rfl,trivial⟩
        ·exact Nl
        intro σ
        exact key2 σ b19 w7 hH
      ·refine dS (Ty.bH rfl) rfl ?_
       intro _ b19 hb19 hE14 hB14 _
       have hx14:=hx1.bO hE14
       refine ⟨hx14,?_⟩
       have hsz:=hx1.size
       replace hH:=hH.nu (r:=Rb b19 92 ((List.replicate 64 (0:Int)).map (Value.int .i64)).toArray) ⟨hE14,hB14,fun x hx=>by simp [Rb] at hx;omega⟩
       clear hE14 hB14
       refine bC 9 (by kernel_rfl) rfl rfl ?_
       refine aC (pJ (q:=q) hc hr hmb hlt (hH.at 0 rfl).2.2.1) rfl rfl ?_
       rintro _ _ ⟨rfl,hE9⟩
       have hx9:=hx14.bO hE9
       refine ⟨hx9,?_⟩
       replace hH:=hH.aH hE9
       clear hE9
       refine bC 10 (by kernel_rfl) rfl rfl ?_
       refine aC (lG hRs hus) rfl rfl ?_
       rintro _ _ ⟨rfl,hE10⟩
       rw [hzr]
       have hx10:=hx9.bO hE10
       refine ⟨hx10,?_⟩
       replace hH:=hH.aH hE10
       clear hE10
       refine bE 11 hx10 ?_
       refine bE 12 hx10 ?_
       refine bE 13 hx10 ?_
       have hx14:=hx10
       refine bC 15 (by kernel_rfl) rfl rfl (dH (s:=64) (vs:=(z.map (Value.int .i64)).toArray) rfl rfl (hH.b 9 rfl) (by simp [hzz.1]) rfl bB (Ty.aF rfl) (fun w7 hE7 hB7 _=>?_))
       have hx7:=hx14.kS hE7 (by omega)
       refine ⟨hx7,?_⟩
       replace hH:=hH.up 9 rfl (r':=Rb b19 92 (z.map (Value.int .i64)).toArray) ⟨hE7,hB7,fun _ hx=>.inl hx⟩
       clear hE7 hB7
       refine bE 16 hx7 ?_
       refine aW (by kernel_rfl) ?_
       apply fE 2596148429267413814265248099595264 [(12,.int .i64 (S1.p:Nat)),(13,.int .u64 (S1.g:Nat)),(14,.int .i64 b),(15,pt b15),(16,.int .u8 f),(17,.int .i64 n),(18,pt b18),(19,pt b19),(20,.bool true),(26,.int .i64 b)]
       ·exact ⟨rfl,rfl,rfl,rfl,rfl,rfl,rfl,rfl,rfl,rfl,trivial⟩
       ·exact Nl
       intro σ
       exact key2 σ b19 w7 hH
     clear hH
     intro σ b19 w8 hH
     replace hl1:=And.intro hzz.1 hR1
     have hB19:=hH.b 9 rfl
     repeat (first|refine aR ?_|(refine aD (by refine aE rfl hB19 (by simp [hl1]) (Ty.aF rfl)) rfl ?_)|refine aT ?_)
     clear hB19
     refine aO ?_
     refine aA (aJ 8 (vs:=(z.map (Value.int .i64)).toArray) (s:=64) hH rfl rfl rfl (by simp [hl1]) (by simp [hl1]) (by exact bB) (Ty.aF rfl) ?_)
     try clear hH
     intro _ hH
     replace hH:=aI hH
     have hB:=(hH.at 0 rfl).1
     have hS15:cI _ (some ⟨b15,0,none⟩) (R.map (Value.int .i64)):=(hH.b 7 rfl).cX
     repeat (first|refine aR ?_|(refine aD (by first|refine bD rfl rfl (Ty.arr rfl) (by decide)|refine aU rfl hS15 hr0 (Ty.aF rfl)) rfl ?_)|refine aT ?_)
     clear hS15 hB
     refine aO ?_
     refine aA (aC ((yA (n:=r0-n) hk hbc (by omega) (by omega) (hH.jO 4))) rfl rfl ?_)
     rintro _ w7 ⟨rfl,ht2,a7,c7,hQ⟩
     replace hH:=hH.calls 4 hQ
     clear hQ
     replace hH:=aI hH
     have hB:=(hH.at 0 rfl).1
     have hB15:=hH.b 7 rfl
     have hBm:=hH.b 4 rfl
     refine aK ?_
     refine cM Ty.mixed 10 rfl (by kernel_rfl) rfl (fun w1 hx1=>?_)
     refine bE 0 hx1 ?_
     refine AO ?_
     refine uN ?_
     refine I5 ?_
     refine bE 4 hx1 ?_
     refine bE 5 hx1 ?_
     refine aY 6 hx1 rfl (fun w' hw'=>by refine aE rfl (hB15.aH hw') (by simp [hR1]) (Ty.aF rfl)) ?_
     refine xV ?_
     refine aY 8 hx1 rfl (fun w' hw'=>by refine aB rfl (hBm.aH hw') m1 (Ty.aF rfl)) ?_
     refine aY 9 hx1 rfl (fun w' hw'=>by refine bR (Ty.bH rfl) (Ty.iJ rfl) (Ak hR1)) ?_
     refine aW (by kernel_rfl) ?_
     replace hH:=hH.aH hx1
     clear hB hB15 hBm hx1
     refine aO ?_
     refine aA (aC ((rY (l:=R++[q]) hc hr hmb hlt hkg (hH.at 0 rfl).2.2.1)) rfl rfl ?_)
     rintro _ _ ⟨rfl,hU⟩
     replace hH:=hH.up 0 rfl (RS.t (hH.at 0 rfl) hU)
     clear hU
     replace hH:=aI hH
     repeat (first|refine aR ?_|(refine aD (by refine bD rfl rfl (Ty.arr rfl) (by decide)) rfl ?_))
     refine aO ?_
     refine aA (cF 8 (v:=.int .i64 0) hH rfl rfl rfl (by simp [hzz.1]) rfl (Ty.aF rfl) ?_)
     try clear hH
     intro _ hH
     replace hH:=aI hH
     rw [← List.map_set] at hH
     refine aK ?_
     apply fE 2596148429267413814265248099595264 [(12,.int .i64 (S1.p:Nat)),(13,.int .u64 (S1.g:Nat)),(14,.int .i64 b),(16,.int .u8 f),(18,pt b18),(26,.int .i64 b)]
     ·exact ⟨rfl,rfl,rfl,rfl,rfl,rfl,trivial⟩
     ·exact Nl
     intro σ
     replace hH:=hH.take 9
     obtain ⟨z9,hz9⟩:∃ z9,(z).set (Int.toNat 0) 0=z9:=⟨_,rfl⟩
     rw [hz9] at hH
     obtain ⟨t9,ht9⟩:∃ t9:WT,(a7,c7,t1.2.2++tM (r0-n))=t9:=⟨_,rfl⟩
     rw [ht9] at hH
     exact key σ t9 z9 _ ⟨by rw [zY,if_pos hal,hRr,hnn,← ht9],by rw [Da,if_pos hal,← hz9,if_pos he,hzr];rfl,by rw [rK,if_pos hal];exact hH⟩
   ·refine aK ?_
    apply fE 2596148429267413814265248099595264 [(12,.int .i64 (S1.p:Nat)),(13,.int .u64 (S1.g:Nat)),(14,.int .i64 b),(16,.int .u8 f),(18,pt b18),(26,.int .i64 b)]
    ·exact ⟨rfl,rfl,rfl,rfl,rfl,rfl,trivial⟩
    ·exact Nl
    intro σ
    obtain ⟨t9,z9,ht9,hz9,hH9⟩:∃ (t9:WT) (z9:List Int),t9.2.2=t1.2.2++zY d.c mb kd q R S1.T b∧z9=Da d.c mb kd q e R S1.T b∧Hp _ _ _ (P1 d qp F (rK d.c mb kd q R S1.T b) v t9 x s k b9 b11 m es++[Rb b15 92 (R.map (Value.int .i64)).toArray,Rb b18 92 (z9.map (Value.int .i64)).toArray]):=⟨t1,R,by rw [zY,if_neg hal,List.append_nil],by rw [Da,if_neg hal],by rw [rK,if_neg hal];exact hH⟩
    exact oG fun u hu=>key σ t9 z9 u ⟨ht9,hz9,hu▸hH9⟩
  clear hH
  rintro σ t2 z w4 ⟨ht2,hze,hH⟩
  have hz:fC 2047 z:=by
   rw [hze,Da]
   split
   ·rename_i hal
    refine MP ?_ (by decide)
    cases he:e with
    | false=>exact hRs
    | true =>
     obtain ⟨z,hzr⟩:=hedb hal he
     rw [if_pos rfl,hzr]
     exact BX hR1 (TV.Ax (T:=S1.T) hTok).1 hzr
   ·exact hRs
  have ht2l:(zY d.c mb kd q R S1.T b).length≤39:=by
   unfold zY
   split
   ·rename_i hal
    rw [hnn,hRr]
    exact FQ (by have:=hr03 (by omega) rfl;omega)
   ·simp
  obtain ⟨o,ho,ho3⟩:∃ o:Nat,Hb e f=o∧o<3:=⟨_,rfl,JV _ _⟩
  have hord:=fun w=>Cv (w:=w) (e:=e) hf
  rw [ho] at hord
  obtain ⟨fr,hfr,hfr1⟩:∃ fr:Nat,(if kd=3∨kd=4 then 1 else 0:Nat)=fr∧fr≤1:=⟨_,rfl,by split<;>decide⟩
  have mst2:=mst
  rw [hfr] at mst2
  have hB18:=hH.b 8 rfl
  have hBm:=hH.b 4 rfl
  refine cM Ty.mixed 11 rfl (by kernel_rfl) rfl (fun w1 hx1=>?_)
  refine bE 0 hx1 ?_
  refine xN ?_
  refine aY 2 hx1 rfl (fun w' hw'=>by refine aB rfl (hBm.aH hw') m6 (Ty.aF rfl)) ?_
  refine bE 3 hx1 ?_
  refine aY 5 hx1 rfl (fun w' hw'=>by refine aE rfl (hB18.aH hw') (by simp [hz.1]) (Ty.aF rfl)) ?_
  refine aY 7 hx1 rfl (fun w' hw'=>by refine aE rfl (hBm.aH hw') (by simp [hml]) (Ty.aF rfl)) ?_
  refine bC 4 (by kernel_rfl) rfl rfl (aC (hord _) rfl rfl ?_)
  rintro _ _ ⟨rfl,rfl⟩
  refine ⟨hx1,?_⟩
  refine bC 6 (by kernel_rfl) rfl rfl (aC (Fz ho3 hz.1) rfl rfl ?_)
  rintro _ w2 ⟨rfl,hE0⟩
  have hl:=EZ o z
  have hlm:∀ n∈J3 o z,n=0∨n∈z:=fun n hn=>by
   obtain ⟨p,_,rfl⟩:=List.mem_map.1 hn
   rw [List.getD_eq_getElem?_getD]
   cases h9:z[p]? with
   | none=>exact .inl rfl
   | some y=>exact .inr (List.mem_of_getElem? h9)
  have hps:IJ d.c mb kd q e R S1.T b=fF 0 ((J3 o z).drop fr):=by rw [IJ,hff,ho,← hze,hfr]
  generalize J3 o z=l at *
  have hx2:=hx1.bO hE0
  refine ⟨hx2,?_⟩
  refine bC 8 (by kernel_rfl) rfl rfl (aC (mst2 _) rfl rfl ?_)
  rintro _ w3 ⟨rfl,hE1⟩
  have hx3:=hx2.bO hE1
  refine ⟨hx3,?_⟩
  refine bC 9 (by kernel_rfl) rfl rfl (aC (KR (f:=fr) hl (by omega)) rfl rfl ?_)
  rintro _ w5 ⟨a,cap,rfl,hO,hF,hE2⟩
  have hx5:=hx3.bO hE2
  refine ⟨hx5,?_⟩
  refine aY 10 hx5 rfl (fun w' hw'=>by refine bD rfl rfl (Ty.arr rfl) (by omega)) ?_
  refine aW (by kernel_rfl) ?_
  have hlz:fC 2047 l:=⟨hl,fun n hn=>by rcases hlm n hn with h1|h1;omega;exact hz.2 n h1⟩
  have hev:=JT (f:=fr) hlz
  generalize fF 0 (l.drop fr)=ps at *
  have hee2:(es++[((a,cap,ps):EV)]).map (fun e=>e.2.2)=(S1.next d.c mb kd q e R b).es:=by rw [List.map_append,hee,BQ.next,hps];rfl
  have hvn:(S1.next d.c mb kd q e R b).v=S1.v++zY d.c mb kd q R S1.T b:=rfl
  have hTn:(S1.next d.c mb kd q e R b).T=rK d.c mb kd q R S1.T b:=rfl
  have hpn:(S1.next d.c mb kd q e R b).p=if ps.length=0 then S1.p else if b<4 then S1.p ||| 8 / 2 ^ b else S1.p:=by rw [BQ.next,hps]
  have hgn:(S1.next d.c mb kd q e R b).g=if ps.length=0 then S1.g else if b<4 then S1.g else S1.g ||| 2 / 2 ^ (b-4):=by rw [BQ.next,hps]
  generalize S1.next d.c mb kd q e R b=S2 at *
  replace hH:=(hH.aH hx3).nu (r:=Ro 312 3 a ps.length cap (pA ps)) ⟨hE2,hO,hF⟩
  clear hB18 hBm hx1 hx2 hx3 hx5 hE0 hE1 hE2 hO hF
  replace hH:=aI hH
  refine aO ?_
  refine aA (cF 5 (v:=Jk (a,cap,ps)) hH rfl rfl rfl (by rw [M6 (by omega)];omega) rfl (Ty.aF rfl) ?_)
  try clear hH
  intro _ hH
  replace hH:=aI hH
  replace hH:=Rs.of 9 hH rfl
  replace hH:=(hH.del 8).del 7
  rw [Int.toNat_natCast,← hel,M7 (by omega)] at hH
  replace hH:=RE.add (e:=(a,cap,ps)) 6 7 hH rfl rfl (by decide)
  replace hH:=aI hH
  have heo2:∀ e'∈es++[(a,cap,ps)],Qo e':=fun e' he'=>by
   rcases List.mem_append.1 he' with h1|h1
   ·exact heo e' h1
   ·simp at h1;subst h1;exact hev
  have hel2:(es++[(a,cap,ps)]).length=b+1:=by simp [hel]
  have hat:_=some (Value.slice a ps.length cap):=Lx (es:=es++[(a,cap,ps)]) (i:=b) (e:=(a,cap,ps)) (by rw [← hel];simp)
  have hS11:cI _ (some ⟨b11,0,none⟩) _:=(hH.b 5 rfl).cX
  generalize es++[(a,cap,ps)]=es2 at *
  obtain ⟨a9,c9,v9⟩:=t2
  have ht2':v9=t.2.2++S2.v:=by rw [hvn,← List.append_assoc,← ht1v];exact ht2
  rw [ht2',hel,← hTn] at hH
  have hvl:S2.v.length≤40*(b+1):=by rw [hvn,List.length_append];omega
  by_cases hp0:ps.length=0
  ·repeat (first|refine aR ?_|(refine aD (by first|refine bD rfl rfl (Ty.arr rfl) (by omega)|refine aU rfl hS11 hat (Ty.aF rfl)|refine (yC rfl (Ty.LP rfl)).is (congrArg (fun n:Nat=>Value.int .i64 n) hp0)) rfl ?_)|refine aT ?_)
   rw [if_pos hp0] at hpn hgn
   refine IH (b+1,a9,c9,es2) _ _ ?_ ?_ ?_ ?_
   ·simp only;omega
   ·exact ⟨by rw [hBn,hpn];rfl,by rw [hBn,hgn];rfl,rfl,trivial⟩
   ·exact cP
   ·exact ⟨by omega,by rw [hBn];omega,by rw [hBn];omega,by rw [hBn];exact hvl,hel2,by rw [hBn];exact hee2,heo2,by rw [hBn];exact hH⟩
  ·rw [if_neg hp0] at hpn hgn
   by_cases hb4:b<4
   ·obtain ⟨h8,hh8⟩:∃ h8,8 / 2 ^ b=h8:=⟨_,rfl⟩
    have h88:h8<2 ^ 4:=by rw [← hh8];exact Nat.lt_of_le_of_lt (Nat.div_le_self _ _) (by decide)
    repeat (first|refine aR ?_|(refine aD (by first|refine bD rfl rfl (Ty.arr rfl) (by omega)|refine aU rfl hS11 hat (Ty.aF rfl)|refine (mV (m:=8) (n:=b) rfl rfl rfl).is (congrArg (fun n:Nat=>Value.int .i64 n) hh8)|refine HL (m:=S1.p) (n:=h8) rfl rfl (mU (by omega)) (mU (by omega))) rfl ?_)|refine aT ?_)
    rw [if_pos hb4,hh8] at hpn
    rw [if_pos hb4] at hgn
    refine IH (b+1,a9,c9,es2) _ _ ?_ ?_ ?_ ?_
    ·simp only;omega
    ·exact ⟨by rw [hBn,hpn];rfl,by rw [hBn,hgn];rfl,rfl,trivial⟩
    ·exact cP
    ·exact ⟨by omega,by rw [hBn,hpn];exact Nat.or_lt_two_pow (n:=4) hp h88,by rw [hBn];omega,by rw [hBn];exact hvl,hel2,by rw [hBn];exact hee2,heo2,by rw [hBn];exact hH⟩
   ·obtain ⟨h8,hh8⟩:∃ h8,2 / 2 ^ (b-4)=h8:=⟨_,rfl⟩
    have h88:h8<2 ^ 2:=by rw [← hh8];exact Nat.lt_of_le_of_lt (Nat.div_le_self _ _) (by decide)
    have hb44:(b:Int)-4=((b-4:Nat):Int):=by omega
    repeat (first|refine aR ?_|(refine aD (by first|refine bD rfl rfl (Ty.arr rfl) (by omega)|refine aU rfl hS11 hat (Ty.aF rfl)|refine (dM rfl rfl (by omega)).is (congrArg (Value.int .i64) hb44)|refine (mV (m:=2) (n:=b-4) rfl rfl rfl).is (congrArg (fun n:Nat=>Value.int .u64 n) hh8)|refine HL (m:=S1.g) (n:=h8) rfl rfl (kI (by omega)) (kI (by omega))) rfl ?_)|refine aT ?_)
    rw [if_neg hb4] at hpn
    rw [if_neg hb4,hh8] at hgn
    refine IH (b+1,a9,c9,es2) _ _ ?_ ?_ ?_ ?_
    ·simp only;omega
    ·exact ⟨by rw [hBn,hpn];rfl,by rw [hBn,hgn];rfl,rfl,trivial⟩
    ·exact cP
    ·exact ⟨by omega,by rw [hBn];omega,by rw [hBn,hgn];exact Nat.or_lt_two_pow (n:=2) hg h88,by rw [hBn];exact hvl,hel2,by rw [hBn];exact hee2,heo2,by rw [hBn];exact hH⟩
 ·obtain rfl:b=6:=by omega
  clear IH
  obtain ⟨S6,hS6⟩:∃ S6,B 6=S6:=⟨_,rfl⟩
  rw [hS6] at hp hg ht1 hee hH ⊢
  obtain ⟨p,hpp⟩:∃ p,S6.p=p:=⟨_,rfl⟩
  obtain ⟨g,hgg⟩:∃ g,S6.g=g:=⟨_,rfl⟩
  rw [hpp] at hp ⊢
  rw [hgg] at hg ⊢
  have hB:=(hH.at 0 rfl).1
  have hC:cL _ d.bc 130 #[pt k.p0,pt k.p1,pt k.p2]:=hbc▸(hH.at 3 rfl).1
  repeat (first|refine aR ?_|(refine aD (by first|refine aG rfl|refine aN rfl (Ty.bA rfl rfl)|refine aB rfl hB rfl (Ty.aF rfl)|refine aB rfl hC rfl (Ty.aF rfl)) rfl ?_)|refine aT ?_)
  have hi:p<k.D2.sz.length:=by rw [hk.s2];exact Nat.lt_of_lt_of_le hp (by decide)
  have hszd:=hk.o2.1.Ot hi
  refine aO ?_
  refine aA (aC ((pC (i:=p) hk.o2 hi (by rw [List.length_append];omega) (hH.at 3 rfl).2.2.2 (hH.at 1 rfl))) rfl rfl ?_)
  rintro _ _ ⟨rfl,a2,c2,hU⟩
  replace hH:=hH.up 1 rfl hU
  have hl:(NA p).length≤32:=by rw [← hk.w2,Af];omega
  rw [hk.w2] at hH
  clear hU hB hC
  replace hH:=aI hH
  refine aK ?_
  refine aO ?_
  refine aA (aC ((cH (n:=g) (s:=2) (by omega) (by omega) (by rw [List.length_append,List.length_append];omega) (hH.at 1 rfl))) rfl rfl ?_)
  rintro _ _ ⟨rfl,a3,c3,hU⟩
  replace hH:=hH.up 1 rfl hU
  rw [show t.2.2++S6.v++NA p++nb g 2=t.2.2++(S6.v++(NA p++nb g 2)) by simp only [List.append_assoc]] at hH
  have hl3:(S6.v++(NA p++nb g 2)).length≤400:=by rw [List.length_append,List.length_append,cA];omega
  generalize S6.v++(NA p++nb g 2)=bs3 at *
  clear hU
  replace hH:=aI hH
  have hB11:=hH.b 5 rfl
  rw [hel,Nat.sub_self,List.replicate_zero,List.append_nil] at hB11
  repeat (first|refine aR ?_|(refine aD (by refine aE rfl hB11 (by simp [hel]) (Ty.aF rfl)) rfl ?_)|refine aT ?_)
  clear hB11
  rw [← hee]
  refine aV (G:=(Nat) × (Option Addr) × (Nat)) (fun|(i,a5,c5)=>6-i) 348406608431175869278562676184201690088448 (fun|(i,a5,c5)=>[(125,.int .i64 i)]) (fun|(i,a5,c5),w'=>i≤6∧(oP ((es.take i).map fun e=>e.2.2)).length≤3200*i∧Hp (eY (PA d qp F T v t x s k)) w w' (P1 d qp F S6.T v (a3,c3,t.2.2++bs3) x (a5,c5,s.2.2++oP ((es.take i).map fun e=>e.2.2)) k b9 b11 m es)) (0,s.1,s.2.1) ⟨rfl,trivial⟩ ⟨by omega,by simp [oP],by simp only [List.take_zero,List.map_nil,oP,List.flatMap_nil,List.append_nil];exact hH⟩ ?_
  rintro ⟨i,a5,c5⟩ w' σ ⟨hi6,hs1,hH⟩ IH
  show WS _ _ _ _ _ (bQ [(125,.int .i64 i)] _) _
  by_cases hil:i<6
  ·obtain ⟨⟨a,cap,ps⟩,hev⟩:∃ e',es[i]?=some e':=⟨_,List.getElem?_eq_getElem (by omega)⟩
   have hmem:=List.mem_of_getElem? hev
   have hok:=heo _ hmem
   have hx1:(es.map Jk).toArray[i]?=some (Value.slice a ps.length cap):=by simp [hev]
   have hnx:oP ((es.take (i+1)).map fun e=>e.2.2)=oP ((es.take i).map fun e=>e.2.2)++if ps=[] then [] else bb ps:=by
    rw [List.take_add_one,hev,List.map_append,oP,oP,List.flatMap_append]
    simp
   by_cases hp0:ps=[]
   ·subst hp0
    repeat (first|refine aR ?_|(refine aD (by refine cB rfl rfl (Ty.arr rfl) (by omega) hx1) rfl ?_)|refine aT ?_)
    rw [if_pos rfl,List.append_nil] at hnx
    refine IH (i+1,a5,c5) _ _ ?_ ?_ ?_ ?_
    ·simp only;omega
    ·exact ⟨rfl,trivial⟩
    ·exact cP
    ·exact ⟨by omega,by rw [hnx];omega,by rw [hnx];exact hH⟩
   ·have hg:GB ps:=⟨hp0,hok.1,hok.2⟩
    have hpl:0<ps.length:=List.length_pos_iff.2 hp0
    have hce:pA ps≠[]:=fun h=>by have h2:=uI ps;rw [h] at h2;simp at h2;omega
    have hSe:cI w' a (pA ps):=(hH.at 6 rfl) _ hmem
    have hdj:=hH.dj 2 6 rfl rfl (by decide)
    repeat (first|refine aR ?_|(refine aD (by refine cB rfl rfl (Ty.arr rfl) (by omega) hx1) rfl ?_)|refine aT ?_)
    refine aO ?_
    refine aA (aC ((GP hg rfl (by rw [List.length_append];omega) hSe (hH.at 2 rfl) (fun y hy hb=>hdj y hy (List.mem_flatMap.2 ⟨_,hmem,by simp [Rs,hce,hb]⟩)))) rfl rfl ?_)
    rintro _ _ ⟨rfl,a4,c4,hU⟩
    replace hH:=hH.up 2 rfl hU
    have hp64:ps.length≤64:=hok.1
    have hl4:(bb ps).length≤3200:=by have:=yL hg;omega
    rw [if_neg hp0] at hnx
    rw [List.append_assoc,← hnx] at hH
    clear hU hSe hdj
    replace hH:=aI hH
    refine aK ?_
    refine IH (i+1,a4,c4) _ _ ?_ ?_ ?_ ?_
    ·simp only;omega
    ·exact ⟨rfl,trivial⟩
    ·exact cP
    ·exact ⟨by omega,by rw [hnx,List.length_append];omega,hH⟩
  ·obtain rfl:i=6:=by omega
   refine aK ?_
   rw [List.take_of_length_le (by omega)] at hs1 hH
   exact aM Tryz.func129 rfl ⟨rfl,hl3,by omega,a3,c3,a5,c5,hH.take 4⟩
end
end Go.Proofs.YtdbnmbkjmeepkaaGreatDoor
