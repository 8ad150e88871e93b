/- A part of the proof of the card of TopText; no condition. -/
import Derived.Test.YtdbnmbkjmeepkaaGreatDoorT25
import Derived.Test.YtdbnmbkjmeepkaaGreatDoorT27
namespace Go.Proofs.YtdbnmbkjmeepkaaGreatDoor
open Go Go.K Go.P Go.RowKit Go.Proofs
theorem nZ.vg {p:Int × Int} (h:nZ p):VG (cO p):=⟨p.1,p.2,h.1,h.2,rfl⟩
theorem BS:nZ (0,0):=by unfold nZ;decide
theorem nZ.get {l:List (Int × Int)} (h:∀ p∈l,nZ p) {i:Nat} (hi:i<l.length):∃ p,(l.map cO)[i]?=some (cO p)∧nZ p:=⟨l[i],by simp [hi],h _ (List.getElem_mem hi)⟩
theorem nT {S:List Nat} {W w w':World} {H:List cK} (n:Nat) (h:Hp S W w H) (hE:Ext (eY (H.take n)) w w'):Ext S W w':=h.ext.trans hE (fun t ht=>by
 obtain ⟨r,hr,hx⟩:=List.mem_flatMap.1 ht
 exact h.new r (List.mem_of_mem_take hr) t hx)
abbrev Qu (p:Int × Int):V4:=⟨FN p.1,FN p.2,FN p.1,FN p.2,FN p.1,FN p.2,FN p.1,FN p.2⟩
abbrev tA (bS bf bm bg bd bs bl bb:Nat) (far lim:Int) (f g:FM) (mb:Nat) (down s:Bool) (l:Int) (p:Int × Int):List cK:=[Rb bS 185 #[.int .i64 far,.int .i64 lim],Rb bf 54 f.cells.toArray,Rb bg 54 g.cells.toArray,Rb bm 3 #[.int .i64 mb],Rb bd 4 #[.bool down],Rb bb 89 #[cO p],Rb bl 3 #[.int .i64 l],Rb bs 4 #[.bool s]]
set_option maxRecDepth 20000 in
set_option maxHeartbeats 4000000 in
theorem uO {bS bf bm bg bd bs bl bb:Nat} {far lim:Int} {f g:FM} {c r mb:Nat} {down s:Bool} {l:Int} {p:Int × Int} {a:Option Addr} {cap:Nat} {vs:List (Int × Int)} {w:World} (hc:1≤c∧c≤8) (hr:1≤r∧r≤8) (hmb:mb<c*r) (hf:f.ok c r) (hg:g.ok c r)
  (hS:Sep (tA bS bf bm bg bd bs bl bb far lim f g mb down s l p++[Rs a (vs.map cO)]) w) (hrd:∀ w',Ext (eY (tA bS bf bm bg bd bs bl bb far lim f g mb down s l p++[Rs a (vs.map cO)])) w w'→f.rd w'∧g.rd w') (hvs:∀ p∈vs,nZ p) (hn:vs.length≤100000) (hp:nZ p) (hl:0≤l∧l≤160000) :
  aX Tryz.prog 139 #[.slice a vs.length cap,pt bS,pt bf,pt bm,pt bg,pt bd,pt bs,pt bl,pt bb] w fun v w'=>v=.tuple #[]∧∃ s' l' p',(0≤l'∧l'≤160000)∧nZ p'∧Hp (eY (tA bS bf bm bg bd bs bl bb far lim f g mb down s l p++[Rs a (vs.map cO)])) w w' (tA bS bf bm bg bd bs bl bb far lim f g mb down s' l' p'++[Rs a (vs.map cO)]):=by
 refine aL (args:=[_,_,_,_,_,_,_,_,_]) Tryz.func139 rfl rfl Tryz.ntmps139 rfl ?_
 have hH:=Hp.fQ hS
 obtain ⟨hm64,_⟩:=eI hc.2 hr.2 hmb
 have hfv:f.cells.toArray[0]?=some (.int .i64 c):=by rw [← hf.hc];rfl
 generalize eY (tA bS bf bm bg bd bs bl bb far lim f g mb down s l p++[Rs a (vs.map cO)])=F at *
 clear hS
 refine aK ?_
 refine aV (G:=(Nat) × (Bool) × (Int) × (Int × Int)) (fun|(i,s,l,p)=>vs.length-i) 8796092995584 (fun|(i,s,l,p)=>[(15,.int .i64 i)]) (fun|(i,s,l,p),w'=>i≤vs.length∧(0≤l∧l≤160000)∧nZ p∧Hp F w w' [Rb bS 185 #[.int .i64 far,.int .i64 lim],Rb bf 54 f.cells.toArray,Rb bg 54 g.cells.toArray,Rb bm 3 #[.int .i64 mb],Rb bd 4 #[.bool down],Rb bb 89 #[cO p],Rb bl 3 #[.int .i64 l],Rb bs 4 #[.bool s],Rs a (vs.map cO)]) (0,s,l,p) ⟨rfl,trivial⟩ ⟨by omega,hl,hp,hH⟩ ?_
 rintro ⟨i,s,l,p⟩ w' σ ⟨hi,hl,hp,hH⟩ IH
 show WS _ _ _ _ _ (bQ [(15,.int .i64 i)] _) _
 by_cases hil:i<vs.length
 ·obtain ⟨q,hqv,hq⟩:=nZ.get hvs hil
  have hS8:=hH.s 8 rfl
  have hll:(vs.map cO).length=vs.length:=by simp
  repeat (first|refine aR ?_|(refine aD (by first|refine cG rfl rfl hS8 hll (Ty.sle rfl) (by omega)|refine aU rfl hS8 hqv (Ty.aF rfl)) rfl ?_)|refine aT ?_)
  clear hS8
  have hB0:=hH.b 0 rfl
  have hB1:=hH.b 1 rfl
  have hB2:=hH.b 3 rfl
  refine cD Ty.mixed 8 rfl (fun w1 hx1=>?_)
  refine aY 0 hx1 rfl (fun w' hw'=>by refine aE rfl (hB0.aH hw') rfl (Ty.aF rfl)) ?_
  refine xN ?_
  refine aY 2 hx1 rfl (fun w' hw'=>by refine aB rfl (hB1.aH hw') hfv (Ty.aF rfl)) ?_
  refine aY 3 hx1 rfl (fun w' hw'=>by refine aB rfl (hB2.aH hw') rfl (Ty.aF rfl)) ?_
  refine bE 4 hx1 ?_
  refine bC 5 (by kernel_rfl) rfl rfl (aC (wK hq.vg) rfl rfl ?_)
  rintro _ w2 ⟨rfl,hE0⟩
  have hx2:=hx1.bO hE0
  refine ⟨hx2,?_⟩
  refine bC 6 (by kernel_rfl) rfl rfl (aC (rE (u:=Qu q) hc (by omega)) rfl rfl ?_)
  rintro _ w3 ⟨ok,rfl,hE1⟩
  have hx3:=hx2.bO hE1
  refine ⟨hx3,?_⟩
  refine bE 7 hx3 ?_
  refine aW (by kernel_rfl) ?_
  replace hH:=hH.aH hx3
  clear hx1 hx2 hx3 hE0 hE1 hB0 hB1 hB2
  cases ok with
  | false =>
   refine aK ?_
   refine IH (i+1,s,l,p) _ _ ?_ ?_ ?_ ?_
   ·simp only;omega
   ·exact ⟨rfl,trivial⟩
   ·exact cP
   ·exact ⟨by omega,hl,hp,hH⟩
  | true =>
   have hB1:=hH.b 1 rfl
   have hB2:=hH.b 3 rfl
   have hB3:=hH.b 2 rfl
   have hB4:=hH.b 4 rfl
   repeat (first|refine aR ?_|(refine aD (by first|refine aE rfl hB1 rfl (Ty.aF rfl)|refine aE rfl hB3 rfl (Ty.aF rfl)|refine aB rfl hB2 rfl (Ty.aF rfl)|refine aB rfl hB4 rfl (Ty.aF rfl)) rfl ?_)|refine aT ?_)
   clear hB1 hB2 hB3 hB4
   obtain ⟨hr1,hr2⟩:=hrd _ hH.ext
   refine aO ?_
   refine aA (aC ((Bg (re:=FN q.1) (im:=FN q.2) hc hr hmb hf hg hr1 hr2)) rfl rfl ?_)
   rintro _ _ ⟨n,rfl,hn2,hE⟩
   replace hH:=hH.aH hE
   clear hE hr1 hr2
   have hB5:=hH.b 7 rfl
   have hB6:=hH.b 6 rfl
   cases s with
   | false =>
    repeat (first|refine aR ?_|(refine aD (by refine aB rfl hB5 rfl (Ty.aF rfl)) rfl ?_)|refine aT ?_)
    clear hB5 hB6
    refine aO ?_
    refine aA (dR 5 (v:=cO q) hH rfl rfl rfl (Nat.le_of_ble_eq_true rfl) rfl (Ty.aF rfl) ?_)
    try clear hH
    intro _ hH
    replace hH:=aI hH
    refine aO ?_
    refine aA (dR 6 (v:=.int .i64 n) hH rfl rfl rfl (Nat.le_of_ble_eq_true rfl) rfl (Ty.aF rfl) ?_)
    try clear hH
    intro _ hH
    replace hH:=aI hH
    refine aO ?_
    refine aA (dR 7 (v:=.bool true) hH rfl rfl rfl (Nat.le_of_ble_eq_true rfl) rfl (Ty.aF rfl) ?_)
    try clear hH
    intro _ hH
    replace hH:=aI hH
    refine aK ?_
    refine IH (i+1,true,n,q) _ _ ?_ ?_ ?_ ?_
    ·simp only;omega
    ·exact ⟨rfl,trivial⟩
    ·exact cP
    ·exact ⟨by omega,by omega,hq,hH⟩
   | true =>
    by_cases hnl:n<l
    ·repeat (first|refine aR ?_|(refine aD (by first|refine aB rfl hB5 rfl (Ty.aF rfl)|refine aB rfl hB6 rfl (Ty.aF rfl)) rfl ?_)|refine aT ?_)
     clear hB5 hB6
     refine aO ?_
     refine aA (dR 5 (v:=cO q) hH rfl rfl rfl (Nat.le_of_ble_eq_true rfl) rfl (Ty.aF rfl) ?_)
     try clear hH
     intro _ hH
     replace hH:=aI hH
     refine aO ?_
     refine aA (dR 6 (v:=.int .i64 n) hH rfl rfl rfl (Nat.le_of_ble_eq_true rfl) rfl (Ty.aF rfl) ?_)
     try clear hH
     intro _ hH
     replace hH:=aI hH
     refine aO ?_
     refine aA (dR 7 (v:=.bool true) hH rfl rfl rfl (Nat.le_of_ble_eq_true rfl) rfl (Ty.aF rfl) ?_)
     try clear hH
     intro _ hH
     replace hH:=aI hH
     refine aK ?_
     refine IH (i+1,true,n,q) _ _ ?_ ?_ ?_ ?_
     ·simp only;omega
     ·exact ⟨rfl,trivial⟩
     ·exact cP
     ·exact ⟨by omega,by omega,hq,hH⟩
    ·repeat (first|refine aR ?_|(refine aD (by first|refine aB rfl hB5 rfl (Ty.aF rfl)|refine aB rfl hB6 rfl (Ty.aF rfl)) rfl ?_)|refine aT ?_)
     refine IH (i+1,true,l,p) _ _ ?_ ?_ ?_ ?_
     ·simp only;omega
     ·exact ⟨rfl,trivial⟩
     ·exact cP
     ·exact ⟨by omega,hl,hp,hH⟩
 ·obtain rfl:i=vs.length:=by omega
  refine aK ?_
  exact cE Tryz.func139 rfl ⟨rfl,s,l,p,hl,hp,hH⟩
theorem D9 {a:Option Addr} {vs:List Value}:∀ x∈(Rs a vs).fp,x∈dI a:=fun x hx=>by
 unfold Rs at hx
 simp only at hx
 split at hx
 ·cases hx
 ·exact hx
theorem Bq {P:Program} {ρ:Fr} {w:World} {dst:Option Nat} {ty:TypeId} {pos:String} {af:Array Edge} {gd:Option (Nat × Bool)} {xs:List Operand} {vs:List Value} {fn:Fn} (h:Nh ρ xs=vs):cU P ρ ⟨dst,.makeFunc fn #[] xs.toArray,ty,pos,af,gd⟩ w (.func fn #[] vs.toArray) w:=by
 subst h
 constructor;unfold execOp;simp [Instr.makeFunc,tZ]
set_option maxRecDepth 20000 in
set_option maxHeartbeats 4000000 in
theorem AD {far:Nat} {lim:Int} {f g:FM} {c r mb:Nat} {down:Bool} {w:World} (hc:1≤c∧c≤8) (hr:1≤r∧r≤8) (hmb:mb<c*r) (hfar:far≤15) (hf:f.ok c r) (hg:g.ok c r) (hfr:f.rd w) (hgr:g.rd w) :
  aX Tryz.prog 97 #[.agg #[.int .i64 far,.int .i64 lim],.agg f.cells.toArray,.agg g.cells.toArray,.int .i64 mb,.bool down] w fun v w'=>∃ s l p,v=.tuple #[cO p,.int .i64 l,.bool s]∧(0≤l∧l≤160000)∧nZ p∧Ext [] w w':=by
 refine aL (args:=[_,_,_,_,_]) Tryz.func97 rfl rfl Tryz.ntmps97 rfl ?_
 have hH:=Hp.start w
 have e1:min (max (far:Int) 0) 15=far:=by omega
 have e2:(2:Int)*far=((2*far:Nat):Int):=by omega
 refine aK ?_
 refine aO ?_
 refine aA (bI (cs:=#[.int .i64 far,.int .i64 lim]) hH rfl rfl rfl ?_)
 try clear hH
 intro _ b5 hH
 replace hH:=aI hH
 refine aK ?_
 refine aO ?_
 refine aA (bI (cs:=f.cells.toArray) hH rfl rfl rfl ?_)
 try clear hH
 intro _ b6 hH
 replace hH:=aI hH
 refine aK ?_
 refine aO ?_
 refine aA (bI (cs:=g.cells.toArray) hH rfl rfl rfl ?_)
 try clear hH
 intro _ b7 hH
 replace hH:=aI hH
 refine aK ?_
 refine aO ?_
 refine aA (bI (cs:=#[.int .i64 mb]) hH rfl rfl rfl ?_)
 try clear hH
 intro _ b8 hH
 replace hH:=aI hH
 refine aK ?_
 refine aO ?_
 refine aA (bI (cs:=#[.bool down]) hH rfl rfl rfl ?_)
 try clear hH
 intro _ b9 hH
 replace hH:=aI hH
 refine aK ?_
 refine aO ?_
 refine aA (aQ hH (Ty.bH rfl) rfl ?_)
 try clear hH
 intro _ b13 hH
 replace hH:=aI hH
 refine aK ?_
 refine aO ?_
 refine aA (aQ hH (Ty.bH rfl) rfl ?_)
 try clear hH
 intro _ b14 hH
 replace hH:=aI hH
 refine aK ?_
 refine aO ?_
 refine aA (aQ hH (Ty.bH rfl) rfl ?_)
 try clear hH
 intro _ b15 hH
 replace hH:=aI hH
 refine aO ?_
 refine aA (dR 5 (v:=cO (0,0)) hH rfl rfl rfl (Nat.le_of_ble_eq_true rfl) rfl (Ty.aF rfl) ?_)
 try clear hH
 intro _ hH
 replace hH:=aI hH
 refine aO ?_
 refine aA (dR 6 (v:=.int .i64 0) hH rfl rfl rfl (Nat.le_of_ble_eq_true rfl) rfl (Ty.aF rfl) ?_)
 try clear hH
 intro _ hH
 replace hH:=aI hH
 refine aO ?_
 refine aA (dR 7 (v:=.bool false) hH rfl rfl rfl (Nat.le_of_ble_eq_true rfl) rfl (Ty.aF rfl) ?_)
 try clear hH
 intro _ hH
 replace hH:=aI hH
 have hB0:=hH.b 0 rfl
 repeat (first|refine aR ?_|(refine aD (by first|refine aN rfl (Ty.bA rfl rfl)|refine aB rfl hB0 rfl (Ty.aF rfl)|refine Bq rfl|refine (eK rfl rfl).is (congrArg (Value.int .i64) e1)) rfl ?_)|refine aT ?_)
 clear hB0
 refine aO ?_
 refine aA (cN (out:=[cO (0,0)]) hH (Ty.sle rfl) (Ty.bH rfl) rfl rfl rfl (by decide) rfl ?_)
 try clear hH
 intro _ b24 hH
 replace hH:=aI hH
 replace hH:=hH.as (r':=Rs (some ⟨b24,0,none⟩) ([(0,0)].map cO)) 8 rfl D9 (fun h=>cL.cX h)
 replace hH:=aI hH
 have hl:(0:Int)≤0∧(0:Int)≤160000:=by decide
 have hp:=BS
 have hvs:∀ p∈[((0:Int),(0:Int))],nZ p:=fun p h=>by rw [List.mem_singleton] at h;rw [h];exact BS
 have hvn:[((0:Int),(0:Int))].length≤100000:=by decide
 refine aA (jB (vs:=[.slice (some ⟨b24,0,none⟩) 1 1]) (caps:=[pt b5,pt b6,pt b8,pt b7,pt b9,pt b15,pt b14,pt b13]) rfl (uO (vs:=[(0,0)]) hc hr hmb hf hg (hH.jO 9) (fun w' hE=>⟨hfr.ext (nT 9 hH hE),hgr.ext (nT 9 hH hE)⟩) hvs hvn hp hl) rfl rfl ?_)
 rintro _ _ ⟨rfl,s1,l1,p1,hl9,hp9,hQ⟩
 replace hH:=(hH.calls 9 hQ).take 8
 clear hQ hvs hvn hl hp
 obtain ⟨hl,hp⟩:=And.intro hl9 hp9
 clear hl9 hp9
 replace hH:=aI hH
 have hB0:=hH.b 0 rfl
 repeat (first|refine aR ?_|(refine aD (by first|refine aE rfl hB0 rfl (Ty.aF rfl)|refine (bN (m:=2) (n:=far) rfl rfl (by omega)).is (congrArg (Value.int .i64) e2)) rfl ?_)|refine aT ?_)
 clear hB0
 refine aO ?_
 refine aA (aC ((mM (S:=[.int .i64 far,.int .i64 lim]) (p:=(0,0)) (by':=2) (far:=2*far) BS rfl (by simp [Value.oneCell']) ⟨by decide,by decide⟩ (by omega))) rfl rfl ?_)
 rintro _ _ ⟨a9,c9,vs,rfl,hvs,hvn,hN⟩
 replace hH:=hH.nu hN
 replace hH:=aI hH
 replace hH:=hH.as (r':=Rs a9 (vs.map cO)) 8 rfl D9 (fun h=>Own.sl h)
 replace hH:=aI hH
 clear hN
 refine aA (jB (vs:=[.slice a9 vs.length c9]) (caps:=[pt b5,pt b6,pt b8,pt b7,pt b9,pt b15,pt b14,pt b13]) rfl (uO (vs:=vs) hc hr hmb hf hg (hH.jO 9) (fun w' hE=>⟨hfr.ext (nT 9 hH hE),hgr.ext (nT 9 hH hE)⟩) hvs hvn hp hl) rfl rfl ?_)
 rintro _ _ ⟨rfl,s2,l2,p2,hl9,hp9,hQ⟩
 replace hH:=(hH.calls 9 hQ).take 8
 clear hQ hvs hvn hl hp
 obtain ⟨hl,hp⟩:=And.intro hl9 hp9
 clear hl9 hp9
 replace hH:=aI hH
 have hB7:=hH.b 7 rfl
 cases s2 with
 | false =>
  repeat (first|refine aR ?_|(refine aD (by refine aB rfl hB7 rfl (Ty.aF rfl)) rfl ?_))
  clear hB7
  have hB5:=hH.b 5 rfl
  have hB6:=hH.b 6 rfl
  have hB7:=hH.b 7 rfl
  refine cD Ty.mixed 6 rfl (fun w1 hx1=>?_)
  refine aY 0 hx1 rfl (fun w' hw'=>by refine aB rfl (hB5.aH hw') rfl (Ty.aF rfl)) ?_
  refine aY 1 hx1 rfl (fun w' hw'=>by refine aB rfl (hB6.aH hw') rfl (Ty.aF rfl)) ?_
  refine aY 2 hx1 rfl (fun w' hw'=>by refine aB rfl (hB7.aH hw') rfl (Ty.aF rfl)) ?_
  refine bE 3 hx1 ?_
  refine bE 4 hx1 ?_
  refine bE 5 hx1 ?_
  refine aW (by kernel_rfl) ?_
  exact zQ Tryz.func97 rfl ⟨false,l2,p2,rfl,hl,hp,hH.ext.bO hx1⟩
 | true =>
  have hB0:=hH.b 0 rfl
  have hB5:=hH.b 5 rfl
  repeat (first|refine aR ?_|(refine aD (by first|refine aB rfl hB7 rfl (Ty.aF rfl)|refine aE rfl hB0 rfl (Ty.aF rfl)|refine aB rfl hB5 rfl (Ty.aF rfl)) rfl ?_)|refine aT ?_)
  clear hB7 hB0 hB5
  refine aO ?_
  refine aA (aC ((mM (S:=[.int .i64 far,.int .i64 lim]) (p:=p2) (by':=1) (far:=1) hp rfl (by simp [Value.oneCell']) ⟨by decide,by decide⟩ (by omega))) rfl rfl ?_)
  rintro _ _ ⟨a9,c9,vs,rfl,hvs,hvn,hN⟩
  replace hH:=hH.nu hN
  replace hH:=aI hH
  replace hH:=hH.as (r':=Rs a9 (vs.map cO)) 8 rfl D9 (fun h=>Own.sl h)
  replace hH:=aI hH
  clear hN
  refine aA (jB (vs:=[.slice a9 vs.length c9]) (caps:=[pt b5,pt b6,pt b8,pt b7,pt b9,pt b15,pt b14,pt b13]) rfl (uO (vs:=vs) hc hr hmb hf hg (hH.jO 9) (fun w' hE=>⟨hfr.ext (nT 9 hH hE),hgr.ext (nT 9 hH hE)⟩) hvs hvn hp hl) rfl rfl ?_)
  rintro _ _ ⟨rfl,s3,l3,p3,hl9,hp9,hQ⟩
  replace hH:=(hH.calls 9 hQ).take 8
  clear hQ hvs hvn hl hp
  obtain ⟨hl,hp⟩:=And.intro hl9 hp9
  clear hl9 hp9
  replace hH:=aI hH
  refine aK ?_
  have hB5:=hH.b 5 rfl
  have hB6:=hH.b 6 rfl
  have hB7:=hH.b 7 rfl
  refine cD Ty.mixed 6 rfl (fun w1 hx1=>?_)
  refine aY 0 hx1 rfl (fun w' hw'=>by refine aB rfl (hB5.aH hw') rfl (Ty.aF rfl)) ?_
  refine aY 1 hx1 rfl (fun w' hw'=>by refine aB rfl (hB6.aH hw') rfl (Ty.aF rfl)) ?_
  refine aY 2 hx1 rfl (fun w' hw'=>by refine aB rfl (hB7.aH hw') rfl (Ty.aF rfl)) ?_
  refine bE 3 hx1 ?_
  refine bE 4 hx1 ?_
  refine bE 5 hx1 ?_
  refine aW (by kernel_rfl) ?_
  exact zQ Tryz.func97 rfl ⟨s3,l3,p3,rfl,hl,hp,hH.ext.bO hx1⟩
def Ck (L:List (Int × Int)):Prop:=L.length=4∧∀ p∈L,nZ p
theorem Ck.v4 {L:List (Int × Int)} (h:Ck L):∃ u:V4,u.cells=L.map cO:=by
 obtain ⟨h,_⟩:=h
 match L,h with
 | [p0,p1,p2,p3],_=>exact ⟨⟨FN p0.1,FN p0.2,FN p1.1,FN p1.2,FN p2.1,FN p2.2,FN p3.1,FN p3.2⟩,rfl⟩
theorem Ck.set {L:List (Int × Int)} (h:Ck L) {p:Int × Int} (hp:nZ p) (k:Nat):Ck (L.set k p):=⟨by simpa using h.1,fun q hq=>by
 rcases List.mem_or_eq_of_mem_set hq with h1|rfl
 ·exact h.2 q h1
 ·exact hp⟩
theorem Ck.all {p:Int × Int} (hp:nZ p):Ck [p,p,p,p]:=⟨rfl,fun q hq=>by simp at hq;rw [hq];exact hp⟩
theorem oN {far lim:Int} {c mb:Nat} {L:List (Int × Int)} {w:World} (hL:Ck L) (hc:1≤c∧c≤8) (hmb:mb≤1000) :
  aX Tryz.prog 140 #[.agg #[.int .i64 far,.int .i64 lim],.int .i64 c,.int .i64 mb,.agg (L.map cO).toArray] w fun v w'=>∃ b,v=.bool b∧Ext [] w w':=by
 obtain ⟨u,hu⟩:=hL.v4
 rw [← hu]
 exact rE hc hmb
theorem qM {L:List (Int × Int)}:∀ v∈(L.map cO).toArray.toList,v.oneCell'=true:=fun v hv=>by simp at hv;obtain ⟨_,_,_,rfl⟩:=hv;rfl
set_option maxRecDepth 20000 in
set_option maxHeartbeats 4000000 in
theorem oM {far:Nat} {lim:Int} {f g:FM} {c r mb:Nat} {p:Int × Int} {down:Bool} {w:World} (hc:1≤c∧c≤8) (hr:1≤r∧r≤8) (hmb:mb<c*r) (hf:f.ok c r) (hg:g.ok c r) (hfr:f.rd w) (hgr:g.rd w) (hp:nZ p) :
  aX Tryz.prog 100 #[.agg #[.int .i64 far,.int .i64 lim],.agg f.cells.toArray,.agg g.cells.toArray,.int .i64 mb,cO p,.bool down] w fun v w'=>∃ L n ok,v=.tuple #[.agg (L.map cO).toArray,.int .i64 n,.bool ok]∧Ck L∧(0≤n∧n≤160000)∧Ext [] w w':=by
 refine aL (args:=[_,_,_,_,_,_]) Tryz.func100 rfl rfl Tryz.ntmps100 rfl ?_
 have hH:=Hp.start w
 obtain ⟨hm64,_⟩:=eI hc.2 hr.2 hmb
 have hfv:f.cells.toArray[0]?=some (.int .i64 c):=by rw [← hf.hc];rfl
 have h0:Ck [(0,0),(0,0),(0,0),(0,0)]:=Ck.all BS
 refine aK ?_
 refine aO ?_
 refine aA (bI (cs:=#[.int .i64 far,.int .i64 lim]) hH rfl rfl rfl ?_)
 try clear hH
 intro _ b6 hH
 replace hH:=aI hH
 refine aK ?_
 refine aO ?_
 refine aA (bI (cs:=f.cells.toArray) hH rfl rfl rfl ?_)
 try clear hH
 intro _ b7 hH
 replace hH:=aI hH
 refine aK ?_
 refine aO ?_
 refine aA (bI (cs:=g.cells.toArray) hH rfl rfl rfl ?_)
 try clear hH
 intro _ b8 hH
 replace hH:=aI hH
 refine aK ?_
 refine aA (aQ (zs:=[((0:Int),(0:Int)),(0,0),(0,0),(0,0)].map cO) hH (Ty.bH rfl) rfl ?_)
 clear hH
 intro _ b12 hH
 replace hH:=aI hH
 refine aK ?_
 refine aO ?_
 refine aA (aC ((wK hp.vg)) rfl rfl ?_)
 rintro _ _ ⟨rfl,hE0⟩
 replace hH:=hH.aH hE0
 clear hE0
 replace hH:=aI hH
 refine aK ?_
 refine aA (aQ (zs:=[((0:Int),(0:Int)),(0,0),(0,0),(0,0)].map cO) hH (Ty.bH rfl) rfl ?_)
 clear hH
 intro _ b15 hH
 replace hH:=aI hH
 refine aK ?_
 refine aO ?_
 refine aA (aJ 4 (vs:=([p,p,p,p].map cO).toArray) (s:=4) hH rfl rfl rfl (by rfl) (by rfl) (by simp [Value.oneCell']) (Ty.aF rfl) ?_)
 try clear hH
 intro _ hH
 replace hH:=aI hH
 have hB6:=hH.b 0 rfl
 have hB7:=hH.b 1 rfl
 have hB15:=hH.b 4 rfl
 repeat (first|refine aR ?_|(refine aD (by first|refine aN rfl (Ty.bA rfl rfl)|refine aE rfl hB6 rfl (Ty.aF rfl)|refine aB rfl hB7 hfv (Ty.aF rfl)|refine aE rfl hB15 rfl (Ty.aF rfl)) rfl ?_)|refine aT ?_)
 clear hB6 hB7 hB15
 refine aO ?_
 refine aA (aC ((oN (Ck.all hp) hc (by omega))) rfl rfl ?_)
 rintro _ _ ⟨ok,rfl,hE⟩
 replace hH:=hH.aH hE
 clear hE
 cases ok with
 | false =>
  repeat (first|refine aR ?_|(refine aD (by refine dC (ps:=[]) (cs:=[((0:Int),(0:Int)),(0,0),(0,0),(0,0)].map cO) (Ty.bH rfl) (Ty.arr rfl) rfl) rfl ?_)|refine aT ?_)
  refine aO ?_
  refine aA (aJ 3 (vs:=([((0:Int),(0:Int)),(0,0),(0,0),(0,0)].map cO).toArray) (s:=4) hH rfl rfl rfl (by rfl) (by rfl) (by decide) (Ty.aF rfl) ?_)
  try clear hH
  intro _ hH
  replace hH:=aI hH
  refine aK ?_
  exact jR Tryz.func100 rfl rfl (hH.b 3 rfl) rfl (Ty.aF rfl) ⟨_,0,false,rfl,h0,by decide,hH.ext⟩
 | true =>
  refine aK ?_
  refine aV (G:=(Nat) × (Int) × (List (Int × Int))) (fun|(k,s,L)=>4-k) 1208925819614620592570368 (fun|(k,s,L)=>[(16,.int .i64 s),(33,.int .i64 k)]) (fun|(k,s,L),w'=>k≤4∧(0≤s∧s≤40000*k)∧Ck L∧Hp [] w w' [Rb b6 185 #[.int .i64 far,.int .i64 lim],Rb b7 54 f.cells.toArray,Rb b8 54 g.cells.toArray,Rb b12 91 ([((0:Int),(0:Int)),(0,0),(0,0),(0,0)].map cO).toArray,Rb b15 91 (L.map cO).toArray]) (0,0,[p,p,p,p]) ⟨rfl,rfl,trivial⟩ ⟨by omega,by omega,Ck.all hp,hH⟩ ?_
  rintro ⟨k,s,L⟩ w' σ ⟨hk,hs,hL,hH⟩ IH
  show WS _ _ _ _ _ (bQ [(16,.int .i64 s),(33,.int .i64 k)] _) _
  by_cases hlt:k<4
  ·have hB7:=hH.b 1 rfl
   have hB8:=hH.b 2 rfl
   repeat (first|refine aR ?_|(refine aD (by first|refine aE rfl hB7 rfl (Ty.aF rfl)|refine aE rfl hB8 rfl (Ty.aF rfl)) rfl ?_)|refine aT ?_)
   clear hB7 hB8
   refine aO ?_
   refine aA (aC ((sB (k:=k) (down:=down) hc hr hmb (by omega) hf hg (hfr.ext hH.ext) (hgr.ext hH.ext))) rfl rfl ?_)
   rintro _ _ ⟨n,rfl,hn,hE⟩
   replace hH:=hH.aH hE
   clear hE
   have hB6:=hH.b 0 rfl
   repeat (first|refine aR ?_|(refine aD (by refine aE rfl hB6 rfl (Ty.aF rfl)) rfl ?_)|refine aT ?_)
   clear hB6
   refine aO ?_
   refine aA (aC ((mM (S:=[.int .i64 far,.int .i64 lim]) (p:=p) (by':=1) (far:=2) hp rfl (by simp [Value.oneCell']) ⟨by decide,by decide⟩ (by omega))) rfl rfl ?_)
   rintro _ _ ⟨a9,c9,vs,rfl,hvs,hvn,hN⟩
   replace hH:=hH.nu hN
   replace hH:=aI hH
   replace hH:=hH.as (r':=Rs a9 (vs.map cO)) 5 rfl D9 (fun h=>Own.sl h)
   replace hH:=aI hH
   clear hN
   refine aK ?_
   refine aV (G:=(Nat) × (Int) × (List (Int × Int))) (fun|(i,l,L)=>vs.length-i) 75557863585176842665984 (fun|(i,l,L)=>[(18,.int .i64 l),(47,.int .i64 i)]) (fun|(i,l,L),w'=>i≤vs.length∧(0≤l∧l≤40000)∧Ck L∧Hp [] w w' [Rb b6 185 #[.int .i64 far,.int .i64 lim],Rb b7 54 f.cells.toArray,Rb b8 54 g.cells.toArray,Rb b12 91 ([((0:Int),(0:Int)),(0,0),(0,0),(0,0)].map cO).toArray,Rb b15 91 (L.map cO).toArray,Rs a9 (vs.map cO)]) (0,n,L) ⟨rfl,rfl,trivial⟩ ⟨by omega,hn,hL,hH⟩ ?_
   rintro ⟨i,l,L⟩ w' σ ⟨hi,hl,hL,hH⟩ IH2
   show WS _ _ _ _ _ (bQ [(18,.int .i64 l),(47,.int .i64 i)] _) _
   by_cases hil:i<vs.length
   ·obtain ⟨q,hqv,hq⟩:=nZ.get hvs hil
    have hS8:=hH.s 5 rfl
    have hll:(vs.map cO).length=vs.length:=by simp
    have hB15:=hH.b 4 rfl
    have hl1:=hL.1
    repeat (first|refine aR ?_|(refine aD (by first|refine cG rfl rfl hS8 hll (Ty.sle rfl) (by omega)|refine aU rfl hS8 hqv (Ty.aF rfl)|refine aE rfl hB15 (by simp [hl1]) (Ty.aF rfl)) rfl ?_)|refine aT ?_)
    clear hS8 hB15
    refine aO ?_
    refine aA (aQ hH (Ty.bH rfl) rfl ?_)
    try clear hH
    intro _ b21 hH
    replace hH:=aI hH
    refine aK ?_
    refine aA (aJ 6 (vs:=(L.map cO).toArray) (s:=4) hH rfl rfl rfl (by simp [hl1]) rfl qM (Ty.aF rfl) ?_)
    clear hH
    intro _ hH
    replace hH:=aI hH
    repeat (first|refine aR ?_|(refine aD (by refine bD rfl rfl (Ty.arr rfl) (by omega)) rfl ?_)|refine aT ?_)
    refine aO ?_
    refine aA (cF 6 (v:=cO q) hH rfl rfl rfl (by rw [List.length_map,hl1];omega) rfl (Ty.aF rfl) ?_)
    try clear hH
    intro _ hH
    replace hH:=aI hH
    rw [Int.toNat_natCast,← List.map_set] at hH
    have hL2:=hL.set hq k
    generalize L.set k q=L2 at *
    have hB7:=hH.b 1 rfl
    have hB8:=hH.b 2 rfl
    repeat (first|refine aR ?_|(refine aD (by first|refine aE rfl hB7 rfl (Ty.aF rfl)|refine aE rfl hB8 rfl (Ty.aF rfl)) rfl ?_)|refine aT ?_)
    clear hB7 hB8
    refine aO ?_
    refine aA (aC ((sB (re:=FN q.1) (im:=FN q.2) (k:=k) (down:=down) hc hr hmb (by omega) hf hg (hfr.ext hH.ext) (hgr.ext hH.ext))) rfl rfl ?_)
    rintro _ _ ⟨m,rfl,hm,hE⟩
    replace hH:=hH.aH hE
    clear hE
    by_cases hml:m<l
    ·have hB6:=hH.b 0 rfl
     have hB7:=hH.b 1 rfl
     have hB21:=hH.b 6 rfl
     have hl2:=hL2.1
     repeat (first|refine aR ?_|(refine aD (by first|refine aN rfl (Ty.bA rfl rfl)|refine aE rfl hB6 rfl (Ty.aF rfl)|refine aB rfl hB7 hfv (Ty.aF rfl)|refine aE rfl hB21 (by simp [hl2]) (Ty.aF rfl)) rfl ?_)|refine aT ?_)
     clear hB6 hB7 hB21
     refine aO ?_
     refine aA (aC ((oN hL2 hc (by omega))) rfl rfl ?_)
     rintro _ _ ⟨ok,rfl,hE⟩
     replace hH:=hH.aH hE
     clear hE
     cases ok with
     | false =>
      refine aK ?_
      replace hH:=hH.take 6
      replace hH:=aI hH
      refine IH2 (i+1,l,L) _ _ ?_ ?_ ?_ ?_
      ·simp only;omega
      ·exact ⟨rfl,rfl,trivial⟩
      ·exact cP
      ·exact ⟨by omega,hl,hL,hH⟩
     | true =>
      refine aK ?_
      have hB21:=hH.b 6 rfl
      refine cM Ty.mixed 3 rfl (by kernel_rfl) rfl (fun w1 hx1=>?_)
      refine bE 0 hx1 ?_
      refine aY 1 hx1 rfl (fun w' hw'=>by refine aE rfl (hB21.aH hw') (by simp [hl2]) (Ty.aF rfl)) ?_
      refine bE 2 hx1 ?_
      refine aW (by kernel_rfl) ?_
      replace hH:=hH.aH hx1
      clear hx1 hB21
      refine aA (aJ 4 (vs:=(L2.map cO).toArray) (s:=4) hH rfl rfl rfl (by simp [hl2]) (by simp [hl1]) qM (Ty.aF rfl) ?_)
      clear hH
      intro _ hH
      replace hH:=aI hH
      replace hH:=hH.take 6
      replace hH:=aI hH
      refine aK ?_
      refine IH2 (i+1,m,L2) _ _ ?_ ?_ ?_ ?_
      ·simp only;omega
      ·exact ⟨rfl,rfl,trivial⟩
      ·exact cP
      ·exact ⟨by omega,hm,hL2,hH⟩
    ·refine aK ?_
     replace hH:=hH.take 6
     replace hH:=aI hH
     refine IH2 (i+1,l,L) _ _ ?_ ?_ ?_ ?_
     ·simp only;omega
     ·exact ⟨rfl,rfl,trivial⟩
     ·exact cP
     ·exact ⟨by omega,hl,hL,hH⟩
   ·clear IH2
    refine aK ?_
    replace hH:=hH.take 5
    replace hH:=aI hH
    refine IH (k+1,s+l,L) _ _ ?_ ?_ ?_ ?_
    ·simp only;omega
    ·exact ⟨rfl,rfl,trivial⟩
    ·exact cP
    ·exact ⟨by omega,by omega,hL,hH⟩
  ·obtain rfl:k=4:=by omega
   have hB15:=hH.b 4 rfl
   have hl1:=hL.1
   repeat (first|refine aR ?_|(refine aD (by refine aE rfl hB15 (by simp [hl1]) (Ty.aF rfl)) rfl ?_)|refine aT ?_)
   clear hB15
   refine aA (aJ 3 (vs:=(L.map cO).toArray) (s:=4) hH rfl rfl rfl (by simp [hl1]) rfl qM (Ty.aF rfl) ?_)
   clear hH
   intro _ hH
   replace hH:=aI hH
   refine aK ?_
   exact jR Tryz.func100 rfl rfl (hH.b 3 rfl) (by simp [hl1]) (Ty.aF rfl) ⟨L,s,true,rfl,hL,by omega,hH.ext⟩
structure CF where
 h:SH
 q0:Nat
 every:Nat
 far:Nat
 four:Bool
 wave:Bool
 turns:Bool
 many:Nat
 target:Nat
abbrev CF.tail (c:CF):List Value:=[.int .i64 c.q0,.int .i64 c.every,.int .i64 c.far,.bool c.four,.bool c.wave,.bool c.turns,.int .i64 c.many,.int .i64 c.target]
abbrev CF.cells (c:CF):List Value:=c.h.cells++c.tail
structure CF.ok (c:CF):Prop where
 ho:c.h.ok
 he:c.h.err=0
 q:1≤c.q0∧c.q0≤31
 far:c.far≤8
 many:1≤c.many∧c.many≤8
 ev:c.every≤1000
 tg:c.target≤100000
theorem cQ {h:SH} (ho:h.ok) {T:List Value} {n:Nat} (hn:131≤n):(h.cells++T).toArray[n]?=T[n-131]?:=by
 have hl:=SH.bK ho
 rw [List.getElem?_toArray,List.getElem?_append_right (by omega),hl]
theorem uD {h:SH} (ho:h.ok) {T:List Value}:(h.cells++T).take 131=h.cells:=List.take_left' (SH.bK ho)
theorem fS {h:SH} (ho:h.ok) {T:List Value} {n:Nat} {v:Value} (hn:131≤n):(h.cells++T).set n v=h.cells++T.set (n-131) v:=by
 have hl:=SH.bK ho
 rw [List.set_append_right _ _ (by omega),hl]
theorem Ho {c:CF}:∀ v∈c.cells.toArray.toList,v.oneCell'=true:=by
 intro v hv
 simp only [List.mem_append,SH.cells,SH.tc,List.mem_cons,List.mem_map] at hv
 rcases hv with (rfl|rfl|rfl|⟨_,_,rfl⟩|⟨_,_,rfl⟩)|hv
 all_goals first|rfl|skip
 simp at hv
 rcases hv with rfl|rfl|rfl|rfl|rfl|rfl|rfl|rfl<;>rfl
set_option maxRecDepth 20000 in
set_option maxHeartbeats 4000000 in
theorem Aa {c:CF} {w:World} (hc:c.ok):aX Tryz.prog 29 #[.agg c.cells.toArray] w fun v w'=>v=.int .i64 0∧Ext [] w w':=by
 refine aL (args:=[_]) Tryz.func29 rfl rfl Tryz.ntmps29 rfl ?_
 have hH:=Hp.start w
 obtain ⟨ho,he,hq,hfar,hmany,hev,htg⟩:=hc
 refine aK ?_
 refine aO ?_
 refine aA (bI (cs:=c.cells.toArray) hH rfl rfl rfl ?_)
 try clear hH
 intro _ b1 hH
 replace hH:=aI hH
 have hS1:cI _ (some ⟨b1,0,none⟩) c.cells:=(hH.b 0 rfl).cX
 repeat (first|refine aR ?_|(refine aD (by first|refine aN rfl (Ty.bA rfl rfl)|refine bG (j:=0+0) (cs:=c.h.cells) rfl hS1 (uD ho) (SH.bK ho) (Ty.aF rfl)) rfl ?_)|refine aT ?_)
 clear hS1
 refine aO ?_
 refine aA (aC ((kG ho)) rfl rfl ?_)
 rw [he]
 rintro _ _ ⟨rfl,hE0⟩
 replace hH:=hH.aH hE0
 have hB1:=hH.b 0 rfl
 repeat (first|refine aR ?_|(refine aD (by first|refine aN rfl (Ty.bA rfl rfl)|refine aB rfl hB1 ((cQ ho (Nat.le_of_ble_eq_true rfl)).trans rfl) (Ty.aF rfl)) rfl ?_)|refine aT ?_)
 exact aM Tryz.func29 rfl ⟨rfl,hH.ext⟩
theorem pZ {p c:Nat} {w:World} (hc:1≤c):aX Tryz.prog 13 #[.int .i64 p,.int .i64 c] w fun v w'=>v=.int .i64 ((p % c:Nat):Int)∧w'=w:=by
 refine aL (args:=[_,_]) Tryz.func13 rfl rfl Tryz.ntmps13 rfl ?_
 have e1:max (c:Int) 1=c:=by omega
 have e2:((p:Int) % c)=((p % c:Nat):Int):=by simp
 repeat (first|refine aR ?_|(refine aD (by first|refine (gJ rfl rfl).is (congrArg (Value.int .i64) e1)|refine (iX (m:=p) (n:=c) rfl rfl (by omega)).is (congrArg (Value.int .i64) e2)) rfl ?_)|refine aT ?_)
 exact aM Tryz.func13 rfl ⟨rfl,rfl⟩
structure ES where
 C:CF
 bc:Nat
 g:FM
 qp:Nat
 pic:Nat
 ed:Value
 down:Bool
 inter:Bool
abbrev ES.tail (e:ES):List Value:=e.C.tail++(pt e.bc::(e.g.cells++[.int .i64 e.qp,.int .i64 e.pic,e.ed,.bool e.down,.bool e.inter]))
abbrev ES.cells (e:ES):List Value:=e.C.h.cells++e.tail
theorem PO {e:ES} (ho:e.C.h.ok):e.cells.take 139=e.C.cells:=by
 rw [ES.cells,ES.tail,← List.append_assoc]
 exact List.take_left' (by rw [List.length_append,SH.bK ho];rfl)
theorem JE {e:ES} (ho:e.C.h.ok):(e.cells.drop 140).take 11=e.g.cells:=by
 have hl:(e.C.h.cells++(e.C.tail++[pt e.bc])).length=140:=by rw [List.length_append,SH.bK ho];rfl
 rw [ES.cells,ES.tail,show e.C.h.cells++(e.C.tail++(pt e.bc::(e.g.cells++[.int .i64 e.qp,.int .i64 e.pic,e.ed,.bool e.down,.bool e.inter])))=(e.C.h.cells++(e.C.tail++[pt e.bc]))++(e.g.cells++[.int .i64 e.qp,.int .i64 e.pic,e.ed,.bool e.down,.bool e.inter]) by simp,List.drop_left' hl]
 exact List.take_left' rfl
theorem LL {e:ES} (ho:e.C.h.ok):(e.cells.drop 2).take 129=e.C.h.tc:=by
 show ((e.C.h.tc++e.tail)).take 129=_
 exact List.take_left' (SH.eS ho)
theorem kN {e:ES} (ho:e.C.h.ok):e.cells.length=156:=by rw [ES.cells,List.length_append,SH.bK ho];rfl
set_option maxRecDepth 20000 in
set_option maxHeartbeats 4000000 in
theorem D3 {b:Nat} {e:ES} {n:Nat} {w:World} (hc:e.C.ok) (hq:1≤e.qp∧e.qp≤31) (hB:(Rb b 105 e.cells.toArray).holds w):aX Tryz.prog 62 #[pt b,.int .i64 n] w fun v w'=>v=.tuple #[]∧∃ q:Nat,(1≤q∧q≤31)∧jA (Rb b 105 e.cells.toArray) (Rb b 105 ({ e with qp:=q }:ES).cells.toArray) w w':=by
 refine aL (args:=[_,_]) Tryz.func62 rfl rfl Tryz.ntmps62 rfl ?_
 have ho:=hc.ho
 have htg:=hc.tg
 have hel:=kN (e:=e) ho
 have hH:=Hp.fI hB
 have hB1:=hH.b 0 rfl
 by_cases h0:e.C.target=0
 ·repeat (first|refine aR ?_|(refine aD (by first|refine aG rfl|refine aN rfl (Ty.bA rfl rfl)|refine aB rfl hB1 ((cQ ho (Nat.le_of_ble_eq_true rfl)).trans rfl) (Ty.aF rfl)) rfl ?_)|refine aT ?_)
  exact cE Tryz.func62 rfl ⟨rfl,e.qp,hq,hH.dX 0 rfl⟩
 ·by_cases h1:(e.C.target:Int)<n
  ·obtain ⟨q,hq2⟩:∃ q:Nat,min ((e.qp:Int)+1) 31=q:=⟨min (e.qp+1) 31,by omega⟩
   repeat (first|refine aR ?_|(refine aD (by first|refine aG rfl|refine aN rfl (Ty.bA rfl rfl)|refine aB rfl hB1 ((cQ ho (Nat.le_of_ble_eq_true rfl)).trans rfl) (Ty.aF rfl)|refine (eK rfl rfl).is (congrArg (Value.int .i64) hq2)) rfl ?_)|refine aT ?_)
   clear hB1
   refine aA (bV 0 (o:=0+151) (v:=.int .i64 q) hH rfl rfl rfl (by rw [hel];decide) rfl (Ty.aF rfl) ?_)
   clear hH
   intro _ hH
   rw [fS ho (by decide)] at hH
   replace hH:=hH.as (r':=Rb b 105 ({ e with qp:=q }:ES).cells.toArray) 0 rfl (fun _ h=>h) (fun h=>h)
   replace hH:=aI hH
   refine aK ?_
   exact cE Tryz.func62 rfl ⟨rfl,q,by omega,hH.dX 0 rfl⟩
  ·by_cases h2:(n:Int)<(e.C.target:Int) / 2
   ·obtain ⟨q,hq2⟩:∃ q:Nat,max ((e.qp:Int)-1) 1=q:=⟨max (e.qp-1) 1,by omega⟩
    repeat (first|refine aR ?_|(refine aD (by first|refine aG rfl|refine aN rfl (Ty.bA rfl rfl)|refine aB rfl hB1 ((cQ ho (Nat.le_of_ble_eq_true rfl)).trans rfl) (Ty.aF rfl)|refine (gJ rfl rfl).is (congrArg (Value.int .i64) hq2)) rfl ?_)|refine aT ?_)
    clear hB1
    refine aA (bV 0 (o:=0+151) (v:=.int .i64 q) hH rfl rfl rfl (by rw [hel];decide) rfl (Ty.aF rfl) ?_)
    clear hH
    intro _ hH
    rw [fS ho (by decide)] at hH
    replace hH:=hH.as (r':=Rb b 105 ({ e with qp:=q }:ES).cells.toArray) 0 rfl (fun _ h=>h) (fun h=>h)
    replace hH:=aI hH
    refine aK ?_
    exact cE Tryz.func62 rfl ⟨rfl,q,by omega,hH.dX 0 rfl⟩
   ·repeat (first|refine aR ?_|(refine aD (by first|refine aG rfl|refine aN rfl (Ty.bA rfl rfl)|refine aB rfl hB1 ((cQ ho (Nat.le_of_ble_eq_true rfl)).trans rfl) (Ty.aF rfl)) rfl ?_)|refine aT ?_)
    exact cE Tryz.func62 rfl ⟨rfl,e.qp,hq,hH.dX 0 rfl⟩
end Go.Proofs.YtdbnmbkjmeepkaaGreatDoor
