/- A part of the proof of the card of TopText; no condition. -/
import Derived.Test.YtdbnmbkjmeepkaaGreatDoorT19
import Derived.Test.YtdbnmbkjmeepkaaGreatDoorT21
namespace Go.Proofs.YtdbnmbkjmeepkaaGreatDoor
open Go Go.K Go.P Go.RowKit Go.Proofs
set_option maxRecDepth 20000 in
set_option maxHeartbeats 4000000 in
theorem BK {o:Nat} {w:World} (ho:o<3):aX Tryz.prog 205 #[.int .u8 o] w fun v w'=>v=.agg (((iJ o).map Int.ofNat).map (Value.int .i64)).toArray∧Ext [] w w':=by
 refine aL (args:=[_]) Tryz.func205 rfl rfl Tryz.ntmps205 rfl ?_
 have hH:=Hp.start w
 refine aK ?_
 refine aO ?_
 refine aA (bI (cs:=#[.int .u8 o]) hH rfl rfl rfl ?_)
 try clear hH
 intro _ b1 hH
 replace hH:=aI hH
 refine aO ?_
 refine aA (aQ hH (Ty.bH rfl) rfl ?_)
 try clear hH
 intro _ b2 hH
 replace hH:=aI hH
 refine aK ?_
 refine aO ?_
 refine aA (aQ hH (Ty.bH rfl) rfl ?_)
 try clear hH
 intro _ b3 hH
 replace hH:=aI hH
 refine aK ?_
 obtain ⟨z,hz⟩:∃ z,(List.range 64).map Int.ofNat=z:=⟨_,rfl⟩
 have hzl:z.length=64:=by rw [← hz];rfl
 refine aV (G:=(Nat)) (fun k=>64-k) 4080 (fun k=>[(5,.int .i64 k)]) (fun k w'=>k≤64∧Hp [] w w' [Rb b1 277 #[.int .u8 o],Rb b2 92 ((List.replicate 64 (0:Int)).map (Value.int .i64)).toArray,Rb b3 92 ((mix z (List.replicate 64 0) k).map (Value.int .i64)).toArray]) (0) ⟨rfl,trivial⟩ ⟨by omega,by rw [kV];exact hH⟩ ?_
 rintro k w' σ ⟨hk,hH⟩ IH
 show WS _ _ _ _ _ (bQ [(5,.int .i64 k)] _) _
 have hml:=eZ hzl (List.length_replicate (n:=64) (a:=(0:Int))) hk
 by_cases hlt:k<64
 ·have hzk:z[k]?=some (k:Int):=by rw [← hz];simp [hlt]
  repeat (first|refine aR ?_|(refine aD (by refine bD rfl rfl (Ty.arr rfl) (by omega)) rfl ?_)|refine aT ?_)
  refine aO ?_
  refine aA (cF 2 (v:=.int .i64 k) hH rfl rfl rfl (by rw [List.length_map,hml];omega) rfl (Ty.aF rfl) ?_)
  try clear hH
  intro _ hH
  replace hH:=aI hH
  rw [← List.map_set,Int.toNat_natCast,gZ hzl (by simp) hlt hzk] at hH
  refine aK ?_
  refine IH (k+1) _ _ ?_ ?_ ?_ ?_
  ·omega
  ·exact ⟨rfl,trivial⟩
  ·exact cP
  ·exact ⟨by omega,hH⟩
 ·obtain rfl:k=64:=by omega
  rw [lD hzl (by simp),← hz] at hH
  repeat (first|refine aR ?_|(refine aD (by first|refine It rfl (Ty.arr rfl)|refine tG rfl) rfl ?_)|refine aT ?_)
  refine aO ?_
  refine aA (aC ((GI ho (hH.b 2 rfl) (hH.b 0 rfl))) rfl rfl ?_)
  rintro _ w4 ⟨rfl,hU⟩
  replace hH:=hH.up 2 rfl hU
  have hl1:((iJ o).map Int.ofNat).length=64:=by rw [List.length_map,AL]
  generalize (iJ o).map Int.ofNat=l at *
  replace hH:=aI hH
  refine aK ?_
  have hB:=hH.b 2 rfl
  repeat ((refine aD (by refine aE rfl hB (by simp [hl1]) (Ty.aF rfl)) rfl ?_))
  refine aO ?_
  refine aA (aJ 1 (vs:=(l.map (Value.int .i64)).toArray) (s:=64) hH rfl rfl rfl (by simp [hl1]) (by rfl) (by exact bB) (Ty.aF rfl) ?_)
  try clear hH
  intro _ hH
  replace hH:=aI hH
  refine aK ?_
  exact bP Tryz.func205 rfl rfl (hH.b 1 rfl) (by simp [hl1]) (Ty.aF rfl) ⟨rfl,hH.ext⟩
def J3 (o:Nat) (b:List Int):List Int:=(iJ o).map fun p=>b.getD p 0
theorem EZ (o:Nat) (b:List Int):(J3 o b).length=64:=by simp [J3,AL]
set_option maxRecDepth 20000 in
set_option maxHeartbeats 4000000 in
theorem Fz {o:Nat} {bl:List Int} {w:World} (ho:o<3) (hbl:bl.length=64):aX Tryz.prog 175 #[.int .u8 o,.agg (bl.map (Value.int .i64)).toArray] w fun v w'=>v=.agg ((J3 o bl).map (Value.int .i64)).toArray∧Ext [] w w':=by
 refine aL (args:=[_,_]) Tryz.func175 rfl rfl Tryz.ntmps175 rfl ?_
 have hH:=Hp.start w
 refine aK ?_
 refine aO ?_
 refine aA (bI (cs:=(bl.map (Value.int .i64)).toArray) hH rfl rfl rfl ?_)
 try clear hH
 intro _ b1 hH
 replace hH:=aI hH
 refine aO ?_
 refine aA (aQ hH (Ty.bH rfl) rfl ?_)
 try clear hH
 intro _ b2 hH
 replace hH:=aI hH
 refine aK ?_
 refine aO ?_
 refine aA (aQ hH (Ty.bH rfl) rfl ?_)
 try clear hH
 intro _ b3 hH
 replace hH:=aI hH
 refine aK ?_
 refine aO ?_
 refine aA (aC ((BK ho)) rfl rfl ?_)
 rintro _ _ ⟨rfl,hE0⟩
 replace hH:=hH.aH hE0
 clear hE0
 replace hH:=aI hH
 have hpl:=AL o
 have hpb:=MH o
 have hsc:=EZ o bl
 have hsc2:J3 o bl=(iJ o).map fun p=>bl.getD p 0:=rfl
 generalize J3 o bl=z at *
 generalize iJ o=ps at *
 refine aK ?_
 refine aV (G:=(Nat)) (fun k=>64-k) 1047744 (fun k=>[(10,.int .i64 k)]) (fun k w'=>k≤64∧Hp [] w w' [Rb b1 92 (bl.map (Value.int .i64)).toArray,Rb b2 92 ((List.replicate 64 (0:Int)).map (Value.int .i64)).toArray,Rb b3 92 ((mix z (List.replicate 64 0) k).map (Value.int .i64)).toArray]) (0) ⟨rfl,trivial⟩ ⟨by omega,by rw [kV];exact hH⟩ ?_
 rintro k w' σ ⟨hk,hH⟩ IH
 show WS _ _ _ _ _ (bQ [(10,.int .i64 k)] _) _
 have hml:=eZ hsc (List.length_replicate (n:=64) (a:=(0:Int))) hk
 by_cases hlt:k<64
 ·obtain ⟨p,hp⟩:∃ p,ps[k]?=some p:=⟨_,List.getElem?_eq_getElem (by omega)⟩
  have hpp:=hpb p (List.mem_of_getElem? hp)
  have hzk:z[k]?=some (bl.getD p 0):=by rw [hsc2,List.getElem?_map,hp];rfl
  have hx1:((ps.map Int.ofNat).map (Value.int .i64)).toArray[k]?=some (.int .i64 p):=by simp [hp]
  have hx2:(bl.map (Value.int .i64))[p]?=some (.int .i64 (bl.getD p 0)):=by simp [List.getD_eq_getElem?_getD,List.getElem?_eq_getElem (show p<bl.length by omega)]
  have hS:cI w' (some ⟨b1,0,none⟩) (bl.map (Value.int .i64)):=(hH.b 0 rfl).cX
  repeat (first|refine aR ?_|(refine aD (by first|refine cB rfl rfl (Ty.arr rfl) (by omega) hx1|refine bD rfl rfl (Ty.arr rfl) (by omega)|refine aU rfl hS hx2 (Ty.aF rfl)) rfl ?_)|refine aT ?_)
  refine aO ?_
  refine aA (cF 2 (v:=.int .i64 (bl.getD p 0)) hH rfl rfl rfl (by rw [List.length_map,hml];omega) rfl (Ty.aF rfl) ?_)
  try clear hH
  intro _ hH
  replace hH:=aI hH
  rw [← List.map_set,Int.toNat_natCast,gZ hsc (by simp) hlt hzk] at hH
  refine aK ?_
  refine IH (k+1) _ _ ?_ ?_ ?_ ?_
  ·omega
  ·exact ⟨rfl,trivial⟩
  ·exact cP
  ·exact ⟨by omega,hH⟩
 ·obtain rfl:k=64:=by omega
  rw [lD hsc (by simp)] at hH
  have hB:=hH.b 2 rfl
  have hl1:=hsc
  repeat (first|refine aR ?_|(refine aD (by refine aE rfl hB (by simp [hsc]) (Ty.aF rfl)) rfl ?_)|refine aT ?_)
  refine aO ?_
  refine aA (aJ 1 (vs:=(z.map (Value.int .i64)).toArray) (s:=64) hH rfl rfl rfl (by simp [hl1]) (by rfl) (by exact bB) (Ty.aF rfl) ?_)
  try clear hH
  intro _ hH
  replace hH:=aI hH
  refine aK ?_
  exact bP Tryz.func175 rfl rfl (hH.b 1 rfl) (by simp [hsc]) (Ty.aF rfl) ⟨rfl,hH.ext⟩
structure KD where
 bc:Nat
 p0:Nat
 p1:Nat
 p2:Nat
 D0:CD
 D1:CD
 D2:CD
structure KD.ok (d:KD):Prop where
 s0:d.D0.sz=Ns.map Int.toNat
 s1:d.D1.sz=Mv.map Int.toNat
 s2:d.D2.sz=Nu.map Int.toNat
 o0:d.D0.ok
 o1:d.D1.ok
 o2:d.D2.ok
def RK (d:KD):cK:=cK.and (Rb d.bc 130 #[pt d.p0,pt d.p1,pt d.p2]) (cK.and (RC d.p0 d.D0) (cK.and (RC d.p1 d.D1) (RC d.p2 d.D2)))
structure SD where
 s:Nat
 bf:Nat
 mf:Nat
 bt:Nat
 m1:Nat
 m2:Nat
 m3:Nat
 c:Nat
 r:Nat
 bc:Nat
 id:Int
 hq:Int
 inter:Bool
 down:Bool
abbrev SD.cells (d:SD) (qp:Int):Array Value:=#[pt d.bc,.int .i64 d.id,.bool d.inter,.bool d.down,.int .i64 d.hq,.int .i64 qp,pt d.bf,pt d.bt]
abbrev SD.F (d:SD) (F:FV):cK:=RF d.bf d.mf d.c d.r F
abbrev SD.T (d:SD) (T:TV):cK:=RT d.bt d.m1 d.m2 d.m3 d.c d.r T
def RS (d:SD) (qp:Int) (F:FV) (T:TV):cK where
 fp:=d.s::((d.F F).fp++(d.T T).fp)
 holds:=fun w=>cL w d.s 169 (d.cells qp)∧(d.F F).holds w∧(d.T T).holds w∧d.mf ∉ [d.m1,d.m2,d.m3]
 keep:=fun ⟨h1,h2,h3,h4⟩ hE hS=>⟨h1.ext hE (fun hb=>hS _ hb (by simp)),(d.F F).keep h2 hE (fun s hs hb=>hS s hs (by simp [hb])),(d.T T).keep h3 hE (fun s hs hb=>hS s hs (by simp [hb])),h4⟩
 lt:=fun ⟨h1,h2,h3,_⟩ s hs=>by
  rcases List.mem_cons.1 hs with rfl|hs
  ·exact h1.lt
  ·rcases List.mem_append.1 hs with hs|hs
   ·exact (d.F F).lt h2 s hs
   ·exact (d.T T).lt h3 s hs
section
variable {d:SD} {qp:Int} {F F':FV} {T T':TV} {w w':World}
theorem RS.apart (h:(RS d qp F T).holds w):(d.s ∉ (d.F F).fp∧d.s ∉ (d.T T).fp)∧(∀ x∈(d.F F).fp,x ∉ (d.T T).fp)∧∀ x∈(d.T T).fp,x ∉ (d.F F).fp:=by
 obtain ⟨h1,h2,h3,h4⟩:=h
 have hft:∀ x∈(d.F F).fp,x ∉ (d.T T).fp:=by
  intro x hx hx2
  simp only [SD.F,RF,List.mem_cons,List.not_mem_nil,or_false] at hx
  simp only [SD.T,RT,List.mem_cons,List.not_mem_nil,or_false] at hx2
  rcases hx with rfl|rfl
  ·rcases hx2 with e|e|e|e
   ·exact uF h2.1 h3.1 (by decide) e
   ·exact gD h2.1 h3.2.1 e
   ·exact gD h2.1 h3.2.2.1 e
   ·exact gD h2.1 h3.2.2.2.1 e
  ·rcases hx2 with e|e|e|e
   ·exact gD h3.1 h2.2 e.symm
   ·exact h4 (by simp [e])
   ·exact h4 (by simp [e])
   ·exact h4 (by simp [e])
 refine ⟨⟨?_,?_⟩,hft,fun x hx hx2=>hft x hx2 hx⟩
 ·simp only [SD.F,RF,List.mem_cons,List.not_mem_nil,or_false,not_or]
  exact ⟨uF h1 h2.1 (by decide),gD h1 h2.2⟩
 ·simp only [SD.T,RT,List.mem_cons,List.not_mem_nil,or_false,not_or]
  exact ⟨uF h1 h3.1 (by decide),gD h1 h3.2.1,gD h1 h3.2.2.1,gD h1 h3.2.2.2.1⟩
theorem RS.f (h:(RS d qp F T).holds w) (hU:jA (d.F F) (d.F F') w w'):jA (RS d qp F T) (RS d qp F' T) w w':=by
 obtain ⟨⟨hsf,_⟩,hft,_⟩:=RS.apart h
 obtain ⟨h1,h2,h3,h4⟩:=h
 exact ⟨hU.ext.weaken (fun s hs=>by simp [RS,hs]),⟨h1.ext hU.ext hsf,hU.holds,(d.T T).keep h3 hU.ext hft,h4⟩,fun _ hx=>.inl hx⟩
theorem RS.t (h:(RS d qp F T).holds w) (hU:jA (d.T T) (d.T T') w w'):jA (RS d qp F T) (RS d qp F T') w w':=by
 obtain ⟨⟨_,dW⟩,_,hft⟩:=RS.apart h
 obtain ⟨h1,h2,h3,h4⟩:=h
 exact ⟨hU.ext.weaken (fun s hs=>by simp [RS,hs]),⟨h1.ext hU.ext dW,(d.F F).keep h2 hU.ext hft,hU.holds,h4⟩,fun _ hx=>.inl hx⟩
theorem RS.q {q:Int} (h:(RS d qp F T).holds w) (hE:Ext [d.s] w w') (hB:cL w' d.s 169 (d.cells q)):jA (RS d qp F T) (RS d q F T) w w':=by
 obtain ⟨⟨hsf,dW⟩,_⟩:=RS.apart h
 obtain ⟨h1,h2,h3,h4⟩:=h
 exact ⟨hE.weaken (fun s hs=>by simp at hs;simp [RS,hs]),⟨hB,(d.F F).keep h2 hE (fun s hs hb=>by simp at hs;subst hs;exact hsf hb),(d.T T).keep h3 hE (fun s hs hb=>by simp at hs;subst hs;exact dW hb),h4⟩,fun _ hx=>.inl hx⟩
end
theorem GC.one {sz ws ws':List Nat} {T T':List Int} (h:GC sz ws T) (h':GC sz ws' T'):ws=ws':=by
 apply List.ext_getElem (h.wl.trans h'.wl.symm)
 intro i h1 h2
 obtain ⟨A,wd,P,hA,hC,hw,_⟩:=h.it
 obtain ⟨A',wd',P',hA',hC',hw',_⟩:=h'.it
 rw [hA] at hA'
 obtain rfl:=Option.some.inj hA'
 have hi:i<sz.length:=by rw [← h.wl];exact h1
 have e1:=hw _ (DR hC h.ok hw hi)
 have e2:=hw' _ (DR hC h.ok hw hi)
 simp only at e1 e2
 rw [List.getElem?_eq_getElem h1] at e1
 rw [List.getElem?_eq_getElem h2] at e2
 exact (Option.some.inj e1).trans (Option.some.inj e2).symm
open Classical in
noncomputable def wz (sz:List Nat):List Nat:=if h:∃ ws T,GC sz ws T then h.choose else []
theorem HG {sz ws:List Nat} {T:List Int} (h:GC sz ws T):ws=wz sz:=by
 have h2:∃ ws T,GC sz ws T:=⟨ws,T,h⟩
 rw [wz,dif_pos h2]
 obtain ⟨T',hT⟩:=h2.choose_spec
 exact GC.one h hT
noncomputable def Hs (i:Nat):List Bool:=cw (Ns.map Int.toNat) (wz (Ns.map Int.toNat)) i
noncomputable def Nj (i:Nat):List Bool:=cw (Mv.map Int.toNat) (wz (Mv.map Int.toNat)) i
noncomputable def NA (i:Nat):List Bool:=cw (Nu.map Int.toNat) (wz (Nu.map Int.toNat)) i
theorem KD.ok.w0 {d:KD} (h:d.ok) (i:Nat):cw d.D0.sz d.D0.ws i=Hs i:=by rw [HG h.o0.1,h.s0];rfl
theorem KD.ok.w1 {d:KD} (h:d.ok) (i:Nat):cw d.D1.sz d.D1.ws i=Nj i:=by rw [HG h.o1.1,h.s1];rfl
theorem KD.ok.w2 {d:KD} (h:d.ok) (i:Nat):cw d.D2.sz d.D2.ws i=NA i:=by rw [HG h.o2.1,h.s2];rfl
theorem yU {w:World}:aX Tryz.prog 31 #[] w fun v w'=>∃ d:KD,d.ok∧v=pt d.bc∧iA (RK d) w w':=by
 refine aL (args:=[]) Tryz.func31 rfl rfl Tryz.ntmps31 rfl ?_
 have hH:=Hp.start w
 refine aK ?_
 refine aO ?_
 refine aA (aC (DK) rfl rfl ?_)
 rintro _ _ ⟨p0,D0,hs0,ho0,rfl,hN⟩
 replace hH:=hH.nu hN
 replace hH:=aI hH
 refine aK ?_
 refine aO ?_
 refine aA (aC (DD) rfl rfl ?_)
 rintro _ _ ⟨p1,D1,hs1,ho1,rfl,hN⟩
 replace hH:=hH.nu hN
 replace hH:=aI hH
 refine aK ?_
 refine aO ?_
 refine aA (aC (xK) rfl rfl ?_)
 rintro _ _ ⟨p2,D2,hs2,ho2,rfl,hN⟩
 replace hH:=hH.nu hN
 replace hH:=aI hH
 repeat ((refine aD (by refine bR (cs:=[pt p0,pt p1,pt p2]) (Ty.bH rfl) (Ty.iJ rfl) rfl) rfl ?_))
 refine aO ?_
 refine aA (bI (cs:=#[pt p0,pt p1,pt p2]) hH rfl rfl rfl ?_)
 try clear hH
 intro _ b hH
 replace hH:=aI hH
 refine aK ?_
 refine aM Tryz.func31 rfl ⟨⟨b,p0,p1,p2,D0,D1,D2⟩,⟨hs0,hs1,hs2,ho0,ho1,ho2⟩,rfl,hH.ext,⟨hH.b 3 rfl,hH.at 0 rfl,hH.at 1 rfl,hH.at 2 rfl⟩,?_⟩
 intro x hx
 have hn:∀ (i:Nat) (r:cK),[RC p0 D0,RC p1 D1,RC p2 D2,Rb b 130 #[pt p0,pt p1,pt p2]][i]?=some r→x∈r.fp→w.heap.size≤x:=fun i r hr hx=>by
  rcases hH.new r (List.mem_of_getElem? hr) x hx with h|h
  ·cases h
  ·exact h
 rcases List.mem_append.1 hx with h|h
 ·exact hn 3 _ rfl h
 ·rcases List.mem_append.1 h with h|h
  ·exact hn 0 _ rfl h
  ·rcases List.mem_append.1 h with h|h
   ·exact hn 1 _ rfl h
   ·exact hn 2 _ rfl h
def Hb (e:Bool) (f:Nat):Nat:=if e then (if f=1 then 2 else if f=2 then 1 else 0) else 0
theorem JV (e:Bool) (f:Nat):Hb e f<3:=by unfold Hb;split<;>(try split)<;>(try split)<;>decide
theorem Cv {f:Nat} {e:Bool} {w:World} (hf:f<3):aX Tryz.prog 174 #[.bool e,.int .u8 f] w fun v w'=>v=.int .u8 (Hb e f:Nat)∧w'=w:=by
 refine aL (args:=[_,_]) Tryz.func174 rfl rfl Tryz.ntmps174 rfl ?_
 cases e
 ·refine aK ?_
  exact aM Tryz.func174 rfl ⟨rfl,rfl⟩
 ·rcases (show f=0∨f=1∨f=2 by omega) with rfl|rfl|rfl
  ·refine aK ?_
   exact aM Tryz.func174 rfl ⟨rfl,rfl⟩
  ·refine aK ?_
   exact aM Tryz.func174 rfl ⟨rfl,rfl⟩
  ·refine aK ?_
   exact aM Tryz.func174 rfl ⟨rfl,rfl⟩
set_option maxHeartbeats 1000000 in
theorem CQ {k:Nat} {q:Int} {u0 u1 u2 u3:Value} {e:Bool} {L:List Int} {w:World} (hl:L.length=384):aX Tryz.prog 176 #[.agg (eF k q u0 u1 u2 u3 e L).toArray] w fun v w'=>v=.int .i64 (if k=3∨k=4 then 1 else 0:Nat)∧Ext [] w w':=by
 refine aL (args:=[_]) Tryz.func176 rfl rfl Tryz.ntmps176 rfl ?_
 have hH:=Hp.start w
 have hml:=bL (k:=k) (q:=q) (u0:=u0) (u1:=u1) (u2:=u2) (u3:=u3) (e:=e) hl
 refine aK ?_
 refine aO ?_
 refine aA (bI (cs:=(eF k q u0 u1 u2 u3 e L).toArray) hH rfl rfl rfl ?_)
 try clear hH
 intro _ b1 hH
 replace hH:=aI hH
 have hB:=hH.b 0 rfl
 repeat (first|refine aR ?_|(refine aD (by refine aE rfl hB (by simp [hml]) (Ty.aF rfl)) rfl ?_)|refine aT ?_)
 refine aO ?_
 refine aA (aC (dO) rfl rfl ?_)
 rintro _ _ ⟨rfl,hE0⟩
 replace hH:=hH.aH hE0
 clear hE0
 replace hH:=aI hH
 by_cases h:k=3∨k=4
 ·rw [if_pos h]
  refine aK ?_
  exact aM Tryz.func176 rfl ⟨rfl,hH.ext⟩
 ·rw [if_neg h]
  refine aK ?_
  exact aM Tryz.func176 rfl ⟨rfl,hH.ext⟩
set_option maxHeartbeats 4000000 in
theorem DN {bc c r:Nat} {id hq:Int} {inter down:Bool} {hc:List Value} {w:World} (hc8:c≤8) (hr8:r≤8) :
  aX Tryz.prog 87 #[pt bc,.agg (.int .i64 c::.int .i64 r::hc).toArray,.agg #[.int .i64 id,.bool inter,.bool down,.int .i64 hq]] w fun v w'=>∃ d:SD,(d.c=c∧d.r=r∧d.bc=bc∧d.inter=inter)∧v=pt d.s∧iA (RS d hq (fun _=>none) T0) w w':=by
 refine aL (args:=[_,_,_]) Tryz.func87 rfl rfl Tryz.ntmps87 rfl ?_
 have hH:=Hp.start w
 refine aK ?_
 refine aO ?_
 refine aA (bI (cs:=(.int .i64 c::.int .i64 r::hc).toArray) hH rfl rfl rfl ?_)
 try clear hH
 intro _ b1 hH
 replace hH:=aI hH
 refine aO ?_
 refine aA (bI (cs:=#[.int .i64 id,.bool inter,.bool down,.int .i64 hq]) hH rfl rfl rfl ?_)
 try clear hH
 intro _ b2 hH
 replace hH:=aI hH
 have hB1:=hH.b 0 rfl
 have hB2:=hH.b 1 rfl
 refine aK ?_
 refine cD Ty.mixed 17 rfl (fun w1 hx1=>?_)
 refine bE 0 hx1 ?_
 refine aY 1 hx1 rfl (fun w' hw'=>by refine aE rfl (hB2.aH hw') rfl (Ty.aF rfl)) ?_
 refine uN ?_
 refine aY 3 hx1 rfl (fun w' hw'=>by refine aB rfl (hB2.aH hw') rfl (Ty.aF rfl)) ?_
 refine GX ?_
 refine aY 5 hx1 rfl (fun w' hw'=>by refine aB rfl (hB1.aH hw') rfl (Ty.aF rfl)) ?_
 refine xD ?_
 refine aY 7 hx1 rfl (fun w' hw'=>by refine aB rfl (hB1.aH hw') rfl (Ty.aF rfl)) ?_
 refine AJ ?_
 refine aY 10 hx1 rfl (fun w' hw'=>by refine aB rfl (hB1.aH hw') rfl (Ty.aF rfl)) ?_
 refine aY 11 hx1 rfl (fun w' hw'=>by refine aN rfl (Ty.bA rfl rfl)) ?_
 refine aY 12 hx1 rfl (fun w' hw'=>by refine aB rfl (hB1.aH hw') rfl (Ty.aF rfl)) ?_
 refine bC 8 (by kernel_rfl) rfl rfl (aC (GK hc8 hr8) rfl rfl ?_)
 rintro _ w2 ⟨bf,mf,rfl,hN⟩
 have hx2:=hx1.bO hN.ext
 refine ⟨hx2,?_⟩
 replace hH:=(hH.aH hx1).nu hN
 replace hH:=aI hH
 refine bC 13 (by kernel_rfl) rfl rfl (aC (qO hc8 hr8) rfl rfl ?_)
 rintro _ w3 ⟨bt,m1,m2,m3,rfl,hN2⟩
 have hx3:=hx2.bO hN2.ext
 refine ⟨hx3,?_⟩
 replace hH:=hH.nu hN2
 replace hH:=aI hH
 refine aY 14 hx3 rfl (fun w' hw'=>by refine bR (cs:=[pt bc,.int .i64 id,.bool inter,.bool down,.int .i64 hq,.int .i64 hq,pt bf,pt bt]) (Ty.bH rfl) (Ty.iJ rfl) rfl) ?_
 refine bC 15 (by kernel_rfl) rfl rfl (Ca (cs:=#[pt bc,.int .i64 id,.bool inter,.bool down,.int .i64 hq,.int .i64 hq,pt bf,pt bt]) rfl rfl rfl (fun w4 s hs hE hB _=>?_))
 have hx4:=hx3.bO hE
 refine ⟨hx4,?_⟩
 replace hH:=hH.nu (r:=Rb s 169 #[pt bc,.int .i64 id,.bool inter,.bool down,.int .i64 hq,.int .i64 hq,pt bf,pt bt]) ⟨hE,hB,fun x hx=>by simp [Rb] at hx;omega⟩
 replace hH:=aI hH
 refine bE 16 hx4 ?_
 refine aW (by kernel_rfl) ?_
 refine aK ?_
 have hdj:=hH.dj 2 3 rfl rfl (by decide)
 refine aM Tryz.func87 rfl ⟨⟨s,bf,mf,bt,m1,m2,m3,c,r,bc,id,hq,inter,down⟩,⟨rfl,rfl,rfl,rfl⟩,rfl,hH.ext,⟨hH.b 4 rfl,hH.at 2 rfl,hH.at 3 rfl,fun h=>hdj mf (by simp [RF]) (by simp [RT];simp at h;exact .inr h)⟩,?_⟩
 intro x hx
 have hn:∀ (i:Nat) (r':cK),([Rb b1 26 (Value.int .i64 c::.int .i64 r::hc).toArray,Rb b2 57 #[.int .i64 id,.bool inter,.bool down,.int .i64 hq],RF bf mf c r fun _=>none,RT bt m1 m2 m3 c r T0,Rb s 169 #[pt bc,.int .i64 id,.bool inter,.bool down,.int .i64 hq,.int .i64 hq,pt bf,pt bt]]:List cK)[i]?=some r'→x∈r'.fp→w.heap.size≤x:=fun i r' hr hx=>by
  rcases hH.new r' (List.mem_of_getElem? hr) x hx with h|h
  ·cases h
  ·exact h
 rcases List.mem_cons.1 hx with h|h
 ·exact hn 4 _ rfl (by simp [Rb,h])
 ·rcases List.mem_append.1 h with h|h
  ·exact hn 2 _ rfl h
  ·exact hn 3 _ rfl h
abbrev WT:=Option Addr × Nat × List Bool
abbrev RX (p:Nat) (t:WT):cK:=Rw p t.1 t.2.1 t.2.2
abbrev PA (d:SD) (qp:Int) (F:FV) (T:TV) (v:Nat) (t:WT) (x:Nat) (s:WT) (k:KD):List cK:=[RS d qp F T,RX v t,RX x s,RK k]
section
variable {d:SD} {qp:Int} {F:FV} {T:TV} {v x:Nat} {t s:WT} {k:KD} {w:World}
noncomputable def tM (n:Int):List Bool:=Nj (fR n.natAbs)++nb (if n<0 then n+((2 ^ fR n.natAbs:Nat)-1) else n).toNat (fR n.natAbs)
set_option maxHeartbeats 4000000 in
theorem yA {n:Int} (hk:k.ok) (hbc:k.bc=d.bc) (hn:-127≤n∧n≤127) (ht:t.2.2.length≤1000000) (hP:Sep (PA d qp F T v t x s k) w) :
  aX Tryz.prog 172 #[pt d.s,pt v,.int .i64 n] w fun r w'=>r=.tuple #[]∧(tM n).length≤39∧∃ a c,Hp (eY (PA d qp F T v t x s k)) w w' (PA d qp F T v (a,c,t.2.2++tM n) x s k):=by
 refine aL (args:=[_,_,_]) Tryz.func172 rfl rfl Tryz.ntmps172 rfl ?_
 have hH:=Hp.fQ hP
 unfold tM
 obtain ⟨m,hmn⟩:∃ m:Nat,n.natAbs=m:=⟨_,rfl⟩
 have hm:max n (-n)=m:=by omega
 have hm2:m≤127:=by omega
 rw [hmn]
 repeat (first|refine aR ?_|(refine aD (by first|refine kH rfl (by omega)|refine (gJ rfl rfl).is (congrArg (Value.int .i64) hm)|refine iK (m:=m) rfl rfl rfl (by omega)) rfl ?_)|refine aT ?_)
 refine aO ?_
 refine aA (aC ((Ci (x:=m) (by omega))) rfl rfl ?_)
 rintro _ _ ⟨rfl,rfl⟩
 have hb7:fR m≤7:=nV (x:=m) (m:=7) (by omega)
 have hup:=EK (x:=m)
 obtain ⟨z,hz⟩:∃ z,fR m=z:=⟨_,rfl⟩
 rw [hz] at hb7 hup ⊢
 have hB:=(hH.at 0 rfl).1
 have hC:cL _ d.bc 130 #[pt k.p0,pt k.p1,pt k.p2]:=hbc▸(hH.at 3 rfl).1
 have hi:z<k.D1.sz.length:=by rw [hk.s1];exact Nat.lt_of_le_of_lt hb7 (by decide)
 repeat (first|refine aR ?_|(refine aD (by first|refine aG rfl|refine aN rfl (Ty.bA rfl rfl)|refine aB rfl hB rfl (Ty.aF rfl)|refine aB rfl hC rfl (Ty.aF rfl)) rfl ?_)|refine aT ?_)
 have hszd:=hk.o1.1.Ot hi
 refine aO ?_
 refine aA (aC ((pC (i:=z) hk.o1 hi (by omega) (hH.at 3 rfl).2.2.1 (hH.at 1 rfl))) rfl rfl ?_)
 rintro _ w2 ⟨rfl,a2,c2,hU⟩
 replace hH:=hH.up 1 rfl hU
 clear hU hB hC
 rw [hk.w1] at hH
 have hl:(Nj z).length≤32:=by rw [← hk.w1,Af];omega
 have hl2:(t.2.2++Nj z).length≤1000032:=by rw [List.length_append];omega
 replace hH:=aI hH
 by_cases h0:n<0
 ·have hpz:2 ^ z≤128:=Nat.pow_le_pow_right (by decide) hb7
  obtain ⟨N,hN⟩:∃ N:Nat,n+((1*2 ^ z:Nat)-1)=N:=⟨(n+((1*2 ^ z:Nat)-1)).toNat,by omega⟩
  repeat (first|refine aR ?_|(refine aD (by first|refine JJ (m:=1) (n:=z) rfl rfl (by omega) (by omega)|refine (cT rfl rfl (by omega)).is (congrArg (Value.int .i64) hN)|refine iK (m:=N) rfl rfl rfl (by omega)) rfl ?_)|refine aT ?_)
  refine aO ?_
  refine aA (aC ((cH (n:=N) (s:=z) (by omega) (by omega) (by omega) (hH.at 1 rfl))) rfl rfl ?_)
  rintro _ w3 ⟨rfl,a3,c3,hU⟩
  replace hH:=hH.up 1 rfl hU
  replace hH:=aI hH
  refine aK ?_
  have e:(if n<0 then n+((2 ^ z:Nat)-1) else n).toNat=N:=by rw [if_pos h0];omega
  rw [e]
  exact cE Tryz.func172 rfl ⟨rfl,by rw [List.length_append,cA];omega,a3,c3,by rw [← List.append_assoc];exact hH⟩
 ·obtain ⟨N,rfl⟩:∃ N:Nat,n=N:=⟨n.toNat,by omega⟩
  repeat (first|refine aR ?_|(refine aD (by refine iK (m:=N) rfl rfl rfl (by omega)) rfl ?_)|refine aT ?_)
  refine aO ?_
  refine aA (aC ((cH (n:=N) (s:=z) (by omega) (by omega) (by omega) (hH.at 1 rfl))) rfl rfl ?_)
  rintro _ w3 ⟨rfl,a3,c3,hU⟩
  replace hH:=hH.up 1 rfl hU
  replace hH:=aI hH
  refine aK ?_
  have e:(if (N:Int)<0 then (N:Int)+((2 ^ z:Nat)-1) else (N:Int)).toNat=N:=by rw [if_neg h0];omega
  rw [e]
  exact cE Tryz.func172 rfl ⟨rfl,by rw [List.length_append,cA];omega,a3,c3,by rw [← List.append_assoc];exact hH⟩
def oO (p q:Int):Nat:=if q=p-2 then 0 else if q=p-1 then 1 else if q=p+1 then 2 else 3
theorem vM (p q:Int):oO p q<4:=by unfold oO;split<;>(try split)<;>(try split)<;>decide
theorem E1 {p q:Int} (h:jQ p q) (hp:1≤p∧p≤31) (hq:1≤q∧q≤31) (w:World):aX Tryz.prog 116 #[.int .i64 p,.int .i64 q] w fun v w'=>v=.tuple #[.int .i64 (oO p q:Nat),.bool true]∧Ext [] w w':=by
 obtain ⟨d,hi,hd,hqd⟩:∃ (d:Int),oO p q<4∧CT[oO p q]?=some d∧p+d=q:=by
  refine ⟨q-p,vM p q,?_,by omega⟩
  unfold oO
  rcases h with h|h|h|h<;>subst h
  ·rw [if_pos rfl];simp [CT];omega
  ·rw [if_neg (by omega),if_pos rfl];simp [CT];omega
  ·rw [if_neg (by omega),if_neg (by omega),if_pos rfl];simp [CT];omega
  ·rw [if_neg (by omega),if_neg (by omega),if_neg (by omega)];simp [CT];omega
 generalize oO p q=i at *
 refine (jI (by omega)).mono ?_
 rintro v w' ⟨⟨j,hj,hd2,_,rfl⟩|⟨hno,_⟩,hE⟩
 ·have:d=q-p:=by omega
  subst this
  have hij:i=j:=by
   rw [← hd2] at hd
   exact (List.getElem?_inj (l:=CT) (by simpa [CT] using hi) (by decide)).1 hd
  rw [hij]
  exact ⟨rfl,hE⟩
 ·exact absurd ⟨hqd,hq.1,hq.2⟩ (hno i d hd)
noncomputable def BH (inter:Bool) (kd:Nat) (p q:Int):List Bool:=(if inter then Hs kd else [decide (kd=4)])++if kd=4 then nb (oO p q) 2 else []
section
variable {kd:Nat} {q:Int} {u0 u1 u2 u3:Value} {e:Bool} {L:List Int}
set_option maxHeartbeats 4000000 in
theorem FX (hk:k.ok) (hbc:k.bc=d.bc) (h:MV kd q u0 u1 u2 u3 e L) (hqp:1≤qp∧qp≤31) (hq:kd=4→jQ qp q) (ht:t.2.2.length≤1000000) (hP:Sep (PA d qp F T v t x s k) w) :
  aX Tryz.prog 124 #[pt d.s,pt v,.agg (eF kd q u0 u1 u2 u3 e L).toArray] w fun r w'=>r=.tuple #[]∧(BH d.inter kd qp q).length≤34∧∃ a c,Hp (eY (PA d qp F T v t x s k)) w w' (PA d (if kd=4 then q else qp) F T v (a,c,t.2.2++BH d.inter kd qp q) x s k):=by
 refine aL (args:=[_,_,_]) Tryz.func124 rfl rfl Tryz.ntmps124 rfl ?_
 have hH:=Hp.fQ hP
 have hk5:=h.k5
 refine aK ?_
 refine aO ?_
 refine aA (bI (cs:=(eF kd q u0 u1 u2 u3 e L).toArray) hH rfl rfl rfl ?_)
 try clear hH
 intro _ b5 hH
 replace hH:=aI hH
 have hB:=(hH.at 0 rfl).1
 have hC:cL _ d.bc 130 #[pt k.p0,pt k.p1,pt k.p2]:=hbc▸(hH.at 3 rfl).1
 have hBm:=hH.b 4 rfl
 unfold BH
 cases hin:d.inter
 ·repeat (first|refine aR ?_|(refine aD (by first|refine aG rfl|refine aN rfl (Ty.bA rfl rfl)|refine (aB rfl hB rfl (Ty.aF rfl)).is (congrArg Value.bool hin)|refine aB rfl hBm rfl (Ty.aF rfl)) rfl ?_)|refine aT ?_)
  refine aO ?_
  refine aA (aC ((iI (by omega) (hH.at 1 rfl))) rfl rfl ?_)
  rintro _ _ ⟨rfl,a2,c2,hU⟩
  replace hH:=hH.up 1 rfl hU
  clear hU hB hC hBm
  replace hH:=aI hH
  change Hp _ _ _ [RS d qp F T,Rw v a2 c2 (t.2.2++[decide ((kd:Int)=4)]),RX x s,RK k,Rb b5 95 (eF kd q u0 u1 u2 u3 e L).toArray] at hH
  rw [show decide ((kd:Int)=4)=decide (kd=4) from decide_eq_decide.2 (by omega)] at hH
  have hbs:t.2.2++(if false=true then Hs kd else [decide (kd=4)])=t.2.2++[decide (kd=4)]:=rfl
  have hk0:(if false=true then Hs kd else [decide (kd=4)]).length≤32:=by simp
  generalize (if false=true then Hs kd else [decide (kd=4)])=kb at *
  obtain ⟨bs2,hbs2⟩:∃ bs2,t.2.2++[decide (kd=4)]=bs2:=⟨_,rfl⟩
  rw [hbs2] at hbs
  have hl:bs2.length≤t.2.2.length+32:=by rw [← hbs2];simp
  replace hH:Hp _ _ _ [RS d qp F T,Rw v a2 c2 bs2,RX x s,RK k,Rb b5 95 (eF kd q u0 u1 u2 u3 e L).toArray]:=hbs2▸hH
  by_cases h4:kd=4
  ·have dW:=E1 (hq h4) hqp h.q1
   have hi:=vM qp q
   rw [if_pos h4]
   generalize oO qp q=i at *
   have hBm:=hH.b 4 rfl
   have hB:=(hH.at 0 rfl).1
   repeat (first|refine aR ?_|(refine aD (by first|refine aN rfl (Ty.bA rfl rfl)|refine aB rfl hBm rfl (Ty.aF rfl)|refine (dJ (q:=.u8) rfl rfl).is (bT (by omega))) rfl ?_))
   refine gX [Is (pt d.s),Is (pt d.s),Is (.pointer (some ⟨d.s,0+5,none⟩)),Is (.int .i64 qp),Is (.pointer (some ⟨b5,0+1,none⟩)),Is (.int .i64 q),Is (.tuple #[.int .i64 i,.bool true]),Is (.tuple #[.int .i64 i,.bool true]),Is (.int .i64 i),Is (.bool true),Is (.int .i64 i),Is (.bool true)] Ty.mixed [(8735963480064,[],true),(8684423872512,[(0,34)],true),(8581344657408,[(1,35)],true),(7550552506368,[(2,36)],true),(7962869366784,[],true),(7138235645952,[(4,38)],true),(7679401525248,[(3,37),(5,39)],true),(2181843386368,[(6,40)],true),(6588479832064,[(7,33)],true),(4389456576576,[(7,33)],true),(8787503087616,[(8,41)],true),(8787503087680,[(9,42)],true)] 8787503087808 [(10,6)] (by kernel_rfl) (by kernel_rfl) (by kernel_rfl) (by kernel_rfl) (by kernel_rfl) ⟨Is.st,Is.st,Is.st,Is.st,Is.st,Is.st,Is.st,Is.st,Is.st,Is.st,Is.st,Is.st,trivial⟩ ⟨⟨cC.none,?_⟩,⟨cC.none,?_⟩,⟨cC.none,?_⟩,⟨cC.none,?_⟩,⟨cC.none,?_⟩,⟨cC.none,?_⟩,⟨cC.none,?_⟩,⟨cC.none,?_⟩,⟨cC.none,?_⟩,⟨cC.none,?_⟩,⟨cC.none,?_⟩,⟨cC.none,?_⟩,trivial⟩ ?_
   ·intro w'' hE''
    intro σ''
    exact bJ (by refine aP rfl) rfl
   ·intro w'' hE''
    rintro _ rfl
    intro σ''
    exact bJ (by refine aP rfl) rfl
   ·intro w'' hE''
    rintro _ rfl
    intro σ''
    exact Au
   ·intro w'' hE''
    rintro _ rfl
    intro σ''
    exact xM
   ·intro w'' hE''
    intro σ''
    exact Au
   ·intro w'' hE''
    rintro _ rfl
    intro σ''
    exact bJ (by refine aB rfl (hBm.aH hE'') rfl (Ty.aF rfl)) rfl
   ·intro w'' hE''
    rintro _ rfl
    rintro _ rfl
    intro σ''
    refine aC (dW _) rfl rfl ?_
    rintro v w3'' ⟨rfl,hE3''⟩
    exact ⟨hE3'',_,rfl,rfl⟩
   ·intro w'' hE''
    rintro _ rfl
    intro σ''
    exact bJ (by refine aP rfl) rfl
   ·intro w'' hE''
    rintro _ rfl
    intro σ''
    exact bJ (by refine iE rfl rfl) rfl
   ·intro w'' hE''
    rintro _ rfl
    intro σ''
    exact bJ (by refine iE rfl rfl) rfl
   ·intro w'' hE''
    rintro _ rfl
    intro σ''
    exact bJ (by refine aP rfl) rfl
   ·intro w'' hE''
    rintro _ rfl
    intro σ''
    exact bJ (by refine aP rfl) rfl
   intro w'' hE''
   rintro _ rfl
   intro σ''
   replace hH:=hH.aH hE''
   clear hB hBm hE''
   replace hH:=aI hH
   repeat (first|refine aR ?_|(refine aD (by refine iK (m:=i) rfl rfl rfl (by omega)) rfl ?_)|refine aT ?_)
   refine aO ?_
   refine aA (aC ((cH (n:=i) (s:=2) (by omega) (by omega) (by omega) (hH.at 1 rfl))) rfl rfl ?_)
   rintro _ _ ⟨rfl,a3,c3,hU⟩
   replace hH:=hH.up 1 rfl hU
   clear hU
   replace hH:=aI hH
   have hBm:=hH.b 4 rfl
   have hB:=(hH.at 0 rfl).1
   repeat (first|refine aR ?_|(refine aD (by first|refine aG rfl|refine aN rfl (Ty.bA rfl rfl)|refine aB rfl hBm rfl (Ty.aF rfl)) rfl ?_)|refine aT ?_)
   refine aA (gC rfl rfl hB (by simp) rfl (Ty.aF rfl) (fun w9 hE hB9 _=>?_))
   replace hH:=hH.up 0 rfl (RS.q (q:=q) (hH.at 0 rfl) hE hB9)
   clear hBm hB hB9 hE
   replace hH:=aI hH
   refine aK ?_
   refine cE Tryz.func124 rfl ⟨rfl,by rw [List.length_append,cA];omega,a3,c3,?_⟩
   rw [if_pos h4,← List.append_assoc,hbs]
   exact hH.take 4
  ·have hBm:=hH.b 4 rfl
   repeat (first|refine aR ?_|(refine aD (by first|refine aN rfl (Ty.bA rfl rfl)|refine aB rfl hBm rfl (Ty.aF rfl)|refine (dJ (q:=.u8) rfl rfl).is (bF (by omega))) rfl ?_))
   rw [if_neg h4,List.append_nil]
   refine cE Tryz.func124 rfl ⟨rfl,by omega,a2,c2,?_⟩
   rw [if_neg h4,hbs]
   exact hH.take 4
 ·have hi:kd<k.D0.sz.length:=by rw [hk.s0];exact Nat.lt_of_lt_of_le hk5 (by decide)
  have hszd:=hk.o0.1.Ot hi
  repeat (first|refine aR ?_|(refine aD (by first|refine aG rfl|refine aN rfl (Ty.bA rfl rfl)|refine (aB rfl hB rfl (Ty.aF rfl)).is (congrArg Value.bool hin)) rfl ?_)|refine aT ?_)
  refine cM Ty.mixed 11 rfl (by kernel_rfl) rfl (fun w1 hx1=>?_)
  refine bE 0 hx1 ?_
  refine AO ?_
  refine uN ?_
  refine I5 ?_
  refine aY 4 hx1 rfl (fun w' hw'=>by refine aG rfl) ?_
  refine Gf ?_
  refine aY 6 hx1 rfl (fun w' hw'=>by refine aB rfl (hC.aH hw') rfl (Ty.aF rfl)) ?_
  refine bE 7 hx1 ?_
  refine DJ ?_
  refine aY 9 hx1 rfl (fun w' hw'=>by refine aB rfl (hBm.aH hw') rfl (Ty.aF rfl)) ?_
  refine bE 10 hx1 ?_
  refine aW (by kernel_rfl) ?_
  replace hH:=hH.aH hx1
  refine aO ?_
  refine aA (aC ((pC (i:=kd) hk.o0 hi (by omega) (hH.at 3 rfl).2.1 (hH.at 1 rfl))) rfl rfl ?_)
  rintro _ _ ⟨rfl,a2,c2,hU⟩
  replace hH:=hH.up 1 rfl hU
  clear hU hB hC hBm
  replace hH:=aI hH
  rw [hk.w0] at hH
  have hbs:t.2.2++(if true=true then Hs kd else [decide (kd=4)])=t.2.2++Hs kd:=rfl
  have hk0:(if true=true then Hs kd else [decide (kd=4)]).length≤32:=by rw [if_pos rfl,← hk.w0,Af];omega
  have hk1:(Hs kd).length≤32:=hk0
  generalize (if true=true then Hs kd else [decide (kd=4)])=kb at *
  obtain ⟨bs2,hbs2⟩:∃ bs2,t.2.2++Hs kd=bs2:=⟨_,rfl⟩
  rw [hbs2] at hbs hH
  have hl:bs2.length≤t.2.2.length+32:=by rw [← hbs2,List.length_append];omega
  by_cases h4:kd=4
  ·have dW:=E1 (hq h4) hqp h.q1
   have hi:=vM qp q
   rw [if_pos h4]
   generalize oO qp q=i at *
   have hBm:=hH.b 4 rfl
   have hB:=(hH.at 0 rfl).1
   repeat (first|refine aR ?_|(refine aD (by first|refine aN rfl (Ty.bA rfl rfl)|refine aB rfl hBm rfl (Ty.aF rfl)|refine (dJ (q:=.u8) rfl rfl).is (bT (by omega))) rfl ?_))
   refine gX [Is (pt d.s),Is (pt d.s),Is (.pointer (some ⟨d.s,0+5,none⟩)),Is (.int .i64 qp),Is (.pointer (some ⟨b5,0+1,none⟩)),Is (.int .i64 q),Is (.tuple #[.int .i64 i,.bool true]),Is (.tuple #[.int .i64 i,.bool true]),Is (.int .i64 i),Is (.bool true),Is (.int .i64 i),Is (.bool true)] Ty.mixed [(8735963480064,[],true),(8684423872512,[(0,34)],true),(8581344657408,[(1,35)],true),(7550552506368,[(2,36)],true),(7962869366784,[],true),(7138235645952,[(4,38)],true),(7679401525248,[(3,37),(5,39)],true),(2181843386368,[(6,40)],true),(6588479832064,[(7,33)],true),(4389456576576,[(7,33)],true),(8787503087616,[(8,41)],true),(8787503087680,[(9,42)],true)] 8787503087808 [(10,6)] (by kernel_rfl) (by kernel_rfl) (by kernel_rfl) (by kernel_rfl) (by kernel_rfl) ⟨Is.st,Is.st,Is.st,Is.st,Is.st,Is.st,Is.st,Is.st,Is.st,Is.st,Is.st,Is.st,trivial⟩ ⟨⟨cC.none,?_⟩,⟨cC.none,?_⟩,⟨cC.none,?_⟩,⟨cC.none,?_⟩,⟨cC.none,?_⟩,⟨cC.none,?_⟩,⟨cC.none,?_⟩,⟨cC.none,?_⟩,⟨cC.none,?_⟩,⟨cC.none,?_⟩,⟨cC.none,?_⟩,⟨cC.none,?_⟩,trivial⟩ ?_
   ·intro w'' hE''
    intro σ''
    exact bJ (by refine aP rfl) rfl
   ·intro w'' hE''
    rintro _ rfl
    intro σ''
    exact bJ (by refine aP rfl) rfl
   ·intro w'' hE''
    rintro _ rfl
    intro σ''
    exact Au
   ·intro w'' hE''
    rintro _ rfl
    intro σ''
    exact xM
   ·intro w'' hE''
    intro σ''
    exact Au
   ·intro w'' hE''
    rintro _ rfl
    intro σ''
    exact bJ (by refine aB rfl (hBm.aH hE'') rfl (Ty.aF rfl)) rfl
   ·intro w'' hE''
    rintro _ rfl
    rintro _ rfl
    intro σ''
    refine aC (dW _) rfl rfl ?_
    rintro v w3'' ⟨rfl,hE3''⟩
    exact ⟨hE3'',_,rfl,rfl⟩
   ·intro w'' hE''
    rintro _ rfl
    intro σ''
    exact bJ (by refine aP rfl) rfl
   ·intro w'' hE''
    rintro _ rfl
    intro σ''
    exact bJ (by refine iE rfl rfl) rfl
   ·intro w'' hE''
    rintro _ rfl
    intro σ''
    exact bJ (by refine iE rfl rfl) rfl
   ·intro w'' hE''
    rintro _ rfl
    intro σ''
    exact bJ (by refine aP rfl) rfl
   ·intro w'' hE''
    rintro _ rfl
    intro σ''
    exact bJ (by refine aP rfl) rfl
   intro w'' hE''
   rintro _ rfl
   intro σ''
   replace hH:=hH.aH hE''
   clear hB hBm hE''
   replace hH:=aI hH
   repeat (first|refine aR ?_|(refine aD (by refine iK (m:=i) rfl rfl rfl (by omega)) rfl ?_)|refine aT ?_)
   refine aO ?_
   refine aA (aC ((cH (n:=i) (s:=2) (by omega) (by omega) (by omega) (hH.at 1 rfl))) rfl rfl ?_)
   rintro _ _ ⟨rfl,a3,c3,hU⟩
   replace hH:=hH.up 1 rfl hU
   clear hU
   replace hH:=aI hH
   have hBm:=hH.b 4 rfl
   have hB:=(hH.at 0 rfl).1
   repeat (first|refine aR ?_|(refine aD (by first|refine aG rfl|refine aN rfl (Ty.bA rfl rfl)|refine aB rfl hBm rfl (Ty.aF rfl)) rfl ?_)|refine aT ?_)
   refine aA (gC rfl rfl hB (by simp) rfl (Ty.aF rfl) (fun w9 hE hB9 _=>?_))
   replace hH:=hH.up 0 rfl (RS.q (q:=q) (hH.at 0 rfl) hE hB9)
   clear hBm hB hB9 hE
   replace hH:=aI hH
   refine aK ?_
   refine cE Tryz.func124 rfl ⟨rfl,by rw [List.length_append,cA];omega,a3,c3,?_⟩
   rw [if_pos h4,← List.append_assoc,hbs]
   exact hH.take 4
  ·have hBm:=hH.b 4 rfl
   repeat (first|refine aR ?_|(refine aD (by first|refine aN rfl (Ty.bA rfl rfl)|refine aB rfl hBm rfl (Ty.aF rfl)|refine (dJ (q:=.u8) rfl rfl).is (bF (by omega))) rfl ?_))
   rw [if_neg h4,List.append_nil]
   refine cE Tryz.func124 rfl ⟨rfl,by omega,a2,c2,?_⟩
   rw [if_neg h4,hbs]
   exact hH.take 4
def lV:Value→PF
 | .complex _ a b=>(a,b)
 | _=>(0,0)
def FV.KF (F:FV) (c mb:Nat) (us:List Value):Nat→FV
 | 0=>F
 | n+1=>(F.KF c mb us n).set c mb n (lV (us.getD n zV))
set_option maxHeartbeats 4000000 in
theorem nL {mb:Nat} (h:MV kd q u0 u1 u2 u3 e L) (hc:d.c≤8) (hr:d.r≤8) (hmb:mb<d.c*d.r) (hP:Sep (PA d qp F T v t x s k) w) :
  aX Tryz.prog 125 #[pt d.s,.int .i64 mb,.agg (eF kd q u0 u1 u2 u3 e L).toArray] w fun r w'=>r=.tuple #[]∧Hp (eY (PA d qp F T v t x s k)) w w' (PA d qp (F.KF d.c mb [u0,u1,u2,u3] 4) T v t x s k):=by
 refine aL (args:=[_,_,_]) Tryz.func125 rfl rfl Tryz.ntmps125 rfl ?_
 have hH:=Hp.fQ hP
 refine aK ?_
 refine aO ?_
 refine aA (bI (cs:=(eF kd q u0 u1 u2 u3 e L).toArray) hH rfl rfl rfl ?_)
 try clear hH
 intro _ b5 hH
 replace hH:=aI hH
 have hS:cI _ (some ⟨b5,0,none⟩) (eF kd q u0 u1 u2 u3 e L):=(hH.b 4 rfl).cX
 repeat (first|refine aR ?_|(refine aD (by first|refine aN rfl (Ty.bA rfl rfl)|refine bG (j:=0+2) (cs:=[u0,u1,u2,u3]) rfl hS rfl rfl (Ty.aF rfl)) rfl ?_)|refine aT ?_)
 clear hS
 refine aV (G:=(Nat)) (fun i=>4-i) 8387776 (fun i=>[(10,.int .i64 i)]) (fun i w'=>i≤4∧Hp (eY (PA d qp F T v t x s k)) w w' (PA d qp (F.KF d.c mb [u0,u1,u2,u3] i) T v t x s k++[Rb b5 95 (eF kd q u0 u1 u2 u3 e L).toArray])) (0) ⟨rfl,trivial⟩ ⟨by omega,hH⟩ ?_
 rintro i w' σ ⟨hi,hH⟩ IH
 show WS _ _ _ _ _ (bQ [(10,.int .i64 i)] _) _
 by_cases hlt:i<4
 ·obtain ⟨x1,y1,_,_,hv,_⟩:=h.vi hlt
  have hB:=(hH.at 0 rfl).1
  repeat (first|refine aR ?_|(refine aD (by first|refine cB rfl rfl (Ty.arr rfl) (by omega) hv|refine aG rfl|refine aN rfl (Ty.bA rfl rfl)|refine aB rfl hB rfl (Ty.aF rfl)) rfl ?_)|refine aT ?_)
  refine aO ?_
  refine aA (aC ((rM (p:=(FN x1,FN y1)) hc hr hmb hlt (hH.at 0 rfl).2.1)) rfl rfl ?_)
  rintro _ _ ⟨rfl,hU⟩
  replace hH:=hH.up 0 rfl (RS.f (hH.at 0 rfl) hU)
  have hvp:(FN x1,FN y1)=lV ([u0,u1,u2,u3].getD i zV):=by
   rw [List.getElem?_toArray] at hv
   rw [List.getD_eq_getElem?_getD,hv];rfl
  rw [hvp] at hH
  clear hU hB
  refine aK ?_
  refine IH (i+1) _ _ ?_ ?_ ?_ ?_
  ·omega
  ·exact ⟨rfl,trivial⟩
  ·exact cP
  ·exact ⟨by omega,hH⟩
 ·obtain rfl:i=4:=by omega
  refine aK ?_
  exact cE Tryz.func125 rfl ⟨rfl,hH.take 4⟩
end
end
end Go.Proofs.YtdbnmbkjmeepkaaGreatDoor
