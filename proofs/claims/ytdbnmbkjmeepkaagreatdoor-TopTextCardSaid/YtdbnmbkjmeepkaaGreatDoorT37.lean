/- A part of the proof of the card of TopText; no condition. -/
import Derived.Test.YtdbnmbkjmeepkaaGreatDoorT36
namespace Go.Proofs.YtdbnmbkjmeepkaaGreatDoor
open Go Go.K Go.P Go.RowKit Go.Proofs
abbrev zw (w:World):World:={ w with drawn:=0 }
theorem Jv {w w':World} (h:Below w.heap.size w w'):Ext [] (zw w) w':=⟨h.os,h.tape,h.output,h.size,Nat.zero_le _,fun b hb _=>h.block b hb⟩
def sX (b:Nat) (p v:Value) (l:cV):cK where
 fp:=b::(match v.ownBlock with|some g=>[g]|none=>[])
 holds:=fun w=>w.heap[b]?=some (.cells #[p,v] 75 (0,0))∧w.ownsRowF b 5 1 v l.length (Lib.byteCells l)∧v.ownBlock≠some b
 keep:=by
  rintro S w w' ⟨h1,h2,h3⟩ hE hS
  have hb:b<w.heap.size:=(Array.getElem?_eq_some_iff.1 h1).1
  refine ⟨(hE.block b hb (fun h=>hS b h (by simp))).trans h1,?_,h3⟩
  obtain ⟨hl,h2⟩:=h2
  refine ⟨hl,?_⟩
  rcases h2 with h2|⟨g,cap,cur,fz,rfl,hg,hg2,h4⟩
  ·exact .inl h2
  ·have hgl:g<w.heap.size:=(Array.getElem?_eq_some_iff.1 hg2).1
   exact .inr ⟨g,cap,cur,fz,rfl,hg,(hE.block g hgl (fun h=>hS g h (by simp [Value.ownBlock]))).trans hg2,h4⟩
 lt:=by
  rintro w ⟨h1,⟨_,h2⟩,h3⟩ s hs
  rcases List.mem_cons.1 hs with rfl|hs
  ·exact (Array.getElem?_eq_some_iff.1 h1).1
  ·rcases h2 with ⟨rfl,_⟩|⟨g,cap,cur,fz,rfl,hg,hg2,h4⟩
   ·simp [Value.ownBlock] at hs
   ·simp [Value.ownBlock] at hs
    rw [hs]
    exact (Array.getElem?_eq_some_iff.1 hg2).1
theorem sX.is {b:Nat} {l:cV} {w:World} {p v:Value} (hp:p=.pointer none∨p=.pointer (some ⟨b,0,none⟩)) (h:(sX b p v l).holds w):Lib.IsBuilderF 75 5 b b (Lib.byteCells l) w:=by
 obtain ⟨h1,h2,h3⟩:=h
 have hl:(Lib.byteCells l).length=l.length:=List.length_map _
 rcases hp with rfl|rfl
 ·exact .inl ⟨Nat.le_refl _,v,h1,by rw [hl];exact h2,h3⟩
 ·exact .inr ⟨Nat.le_refl _,v,h1,by rw [hl];exact h2,h3⟩
theorem FP (l:cV):Lib.strCells ⟨l.toArray⟩=Lib.byteCells l:=rfl
theorem sX.of {b:Nat} {l:cV} {w:World} (h:Lib.BuilderAtF 75 5 b b (.pointer (some ⟨b,0,none⟩)) (Lib.byteCells l) w):∃ v,(sX b (.pointer (some ⟨b,0,none⟩)) v l).holds w:=by
 obtain ⟨_,v,h1,h2,h3⟩:=h
 have hl:(Lib.byteCells l).length=l.length:=List.length_map _
 rw [hl] at h2
 exact ⟨v,h1,h2,h3⟩
theorem DZ {a:Option Addr} {n c:Nat} {xs:List cV} {w:World} (hS:cI w a (fV xs)) (hn:xs.length=n) (h0:xs≠[]) (hc:n≤c) (hlt:∀ s∈dI a,s<w.heap.size) (hl:(Lib.join xs [32]).length≤1000000) (hn2:n≤1000000):aX Tryz.prog 22 #[.slice a n c,.string ⟨#[32]⟩] w fun v w'=>v=sV (Lib.join xs [32])∧Below w.heap.size w w':=by
 obtain ⟨b,o,rfl⟩:=hS.head (by simpa using h0)
 subst hn
 have hm:(xs.map fun y=>(⟨y.toArray⟩:ByteArray)).map (·.data.toList)=xs:=by rw [List.map_map];simp [Function.comp_def]
 have h:=Tryz.strings_Join b o c (xs.map fun y=>(⟨y.toArray⟩:ByteArray)) ⟨#[32]⟩ w (fun j x hx=>by
  rw [List.getElem?_map] at hx
  cases hj:xs[j]? with
  | none=>rw [hj] at hx;cases hx
  | some y =>
   rw [hj] at hx
   cases hx
   have:=hS.cell j (sV y) (by rw [List.getElem?_map,hj];rfl)
   simpa [At] using this) (hlt b (by simp [dI])) (by rw [List.length_map];omega) (by rw [List.length_map];exact hc) (by rw [hm];exact Nat.le_trans hl (by decide))
 rw [hm,List.length_map] at h
 exact .inl ⟨enters_of Tryz.func22 (by kernel_rfl) rfl _,h.mono fun e w' ⟨he,hw⟩=>⟨_,he,rfl,hw⟩⟩
theorem BG {b:Nat} {p v:Value} {l m:cV} {w:World} (hp:p=.pointer none∨p=.pointer (some ⟨b,0,none⟩)) (hB:(sX b p v l).holds w) (hl:l.length+m.length≤10000000):aX Tryz.prog 21 #[pt b,sV m] w fun _ w'=>(∃ v',(sX b (.pointer (some ⟨b,0,none⟩)) v' (l++m)).holds w')∧Below b w w'∧Lib.OthersKept 5 (some b) w w':=by
 have hbw:b<w.heap.size:=(Array.getElem?_eq_some_iff.1 hB.1).1
 have h:=Tryz.Builder_WriteString_k b b (Lib.byteCells l) ⟨m.toArray⟩ w (sX.is hp hB) (by
  show (Lib.byteCells l).length+m.length≤_
  rw [Lib.byteCells,List.length_map]
  omega) (by omega)
 refine .inl ⟨enters_of Tryz.func21 (by kernel_rfl) rfl _,h.mono fun e w' ⟨he,h1,h2,h3⟩=>⟨_,he,sX.of ?_,h2,h3⟩⟩
 rw [FP] at h1
 have e1:Lib.byteCells l++Lib.byteCells m=Lib.byteCells (l++m):=by simp [Lib.byteCells]
 rw [e1] at h1
 exact h1
abbrev Nq (xs:List cV):cV:=Lib.join xs [32]++[10]
theorem iD {b n c:Nat} {a:Option Addr} {p v:Value} {l:cV} {xs:List cV} {w:World} (hS:cI w a (fV xs)) (hn:xs.length=n) (h0:xs≠[]) (hc:n≤c) (hlt:∀ s∈dI a,s<w.heap.size) (hl:(Lib.join xs [32]).length≤1000000) (hn2:n≤1000000)
  (hp:p=.pointer none∨p=.pointer (some ⟨b,0,none⟩)) (hB:(sX b p v l).holds w) (hl2:l.length≤5000000) :
  aX Tryz.prog 20 #[.slice a n c,pt b] w fun u w'=>u=.tuple #[]∧(∃ v',(sX b (.pointer (some ⟨b,0,none⟩)) v' (l++Nq xs)).holds w')∧Below b w w'∧Lib.OthersKept 5 (some b) w w':=by
 refine aL (args:=[_,_]) Tryz.func20 rfl rfl Tryz.ntmps20 rfl ?_
 have hbw:b<w.heap.size:=(Array.getElem?_eq_some_iff.1 hB.1).1
 refine aK ?_
 refine aO ?_
 refine aA (aC ((DZ hS hn h0 hc hlt hl hn2)) rfl rfl ?_)
 rintro _ w2 ⟨rfl,hE⟩
 have hB2:(sX b p v l).holds w2:=(sX b p v l).keep (w:=zw w) hB (Jv hE) (by simp)
 repeat ((refine aD (by refine zF rfl rfl (by simp;omega)) rfl ?_))
 refine aO ?_
 refine aA (aC ((BG (m:=Nq xs) hp hB2 (by simp;omega))) rfl rfl ?_)
 rintro _ w3 ⟨h1,h2,h3⟩
 refine aK ?_
 refine cE Tryz.func20 rfl ⟨rfl,h1,(hE.mono (Nat.le_of_lt hbw)).trans h2,Lib.OthersKept.trans (fun k o hk _ _=>?_) h3⟩
 rw [hE.block k (Array.getElem?_eq_some_iff.1 hk).1]
 exact hk
abbrev OB (L:List (Nat × TypeId × Array Value)):List cK:=L.map fun x=>Rb x.1 x.2.1 x.2.2
theorem Hp.line {W w w':World} {b:Nat} {p v p' v':Value} {l l':cV} {L:List (Nat × TypeId × Array Value)} (h:Hp [] W w (sX b p v l::OB L)) (hW:W.drawn=0) (hL:∀ x∈L,x.2.1≠5) (hWb:W.heap.size≤b) (hB:(sX b p' v' l').holds w') (h1:Below b w w') (h2:Lib.OthersKept 5 (some b) w w'):Hp [] W w' (sX b p' v' l'::OB L):=by
 have hbx:∀ x∈L,x.1≠b:=fun x hx e=>by
  obtain ⟨i,hi⟩:=List.mem_iff_getElem?.1 hx
  have:=h.dj 0 (i+1) (r:=sX b p v l) (s:=Rb x.1 x.2.1 x.2.2) rfl (by simp [OB,hi]) (by omega) b (by simp [sX]) (by simp [Rb,e])
  exact this
 have hblk:∀ x∈L,cL w' x.1 x.2.1 x.2.2:=fun x hx=>by
  have h3:cL w x.1 x.2.1 x.2.2:=h.all (Rb x.1 x.2.1 x.2.2) (List.mem_cons_of_mem _ (List.mem_map.2 ⟨x,hx,rfl⟩))
  exact h2 _ _ h3 (by simpa using hbx x hx) (fun c fz e=>hL x hx (by injection e))
 have hfp:∀ y∈(sX b p' v' l').fp,y=b∨b≤y∧∃ c fz,w'.heap[y]?=some (.cells c 5 fz):=fun y hy=>by
  rcases List.mem_cons.1 hy with rfl|hy
  ·exact .inl rfl
  ·obtain ⟨_,⟨_,h4⟩,_⟩:=hB
   rcases h4 with ⟨rfl,_⟩|⟨g,cap,cur,fz,rfl,hg,hg2,_⟩
   ·simp [Value.ownBlock] at hy
   ·simp [Value.ownBlock] at hy
    exact .inr ⟨by omega,cur,fz,by rw [hy];exact hg2⟩
 refine ⟨⟨h1.os.trans h.ext.os,h1.tape.trans h.ext.tape,h1.output.trans h.ext.output,Nat.le_trans h.ext.size h1.size,by rw [hW];exact Nat.zero_le _,fun k hk hs=>(h1.block k (by omega)).trans (h.ext.block k hk hs)⟩,fun r hr=>?_,fun r hr y hy=>?_,?_⟩
 ·rcases List.mem_cons.1 hr with rfl|hr
  ·exact hB
  ·obtain ⟨x,hx,rfl⟩:=List.mem_map.1 hr
   exact hblk x hx
 ·rcases List.mem_cons.1 hr with rfl|hr
  ·rcases hfp y hy with rfl|⟨h5,_⟩
   ·exact .inr hWb
   ·exact .inr (by omega)
  ·exact h.new r (List.mem_cons_of_mem _ hr) y hy
 ·rw [List.pairwise_cons]
  refine ⟨fun r hr y hy hyr=>?_,(List.pairwise_cons.1 h.apart).2⟩
  obtain ⟨x,hx,rfl⟩:=List.mem_map.1 hr
  have hyx:y=x.1:=by simpa [Rb] using hyr
  rcases hfp y hy with rfl|⟨_,c,fz,h5⟩
  ·exact hbx x hx hyx.symm
  ·have h6:=hblk x hx
   rw [hyx] at h5
   have h7:=h5.symm.trans h6
   injection h7 with h8
   injection h8 with _ h9 _
   exact hL x hx h9.symm
def Fs:cV:=[115,116,114,101,97,109]
def sC:cV:=[119,101,105,103,104,116,101,100]
def rQ:cV:=[112,108,97,105,110]
def eJ:cV:=[119,101,105,103,104,116,115]
def Bw:cV:=[112,105,99,116,117,114,101]
def Ar:cV:=[105,110,116,101,114]
def AU:cV:=[105,110,116,114,97]
def Ju:cV:=[100,111,119,110]
def KO:cV:=[117,112]
def AH:cV:=[112,97,99,107,101,116]
def JM (h:SH):List (List cV):=[Fs,Lib.itoa h.c,Lib.itoa h.r,if h.wt then sC else rQ]::(if h.wt then [eJ::gT h.A,eJ::gT h.Bb] else [])
def BB (g:Nat × List MB):List (List cV):=[AH,Lib.itoa g.1,Lib.itoa g.2.length]::g.2.map mC
def sI (p:CP):List (List cV):=[Bw,Lib.itoa p.h.id,if p.h.inter then Ar else AU,if p.h.down then Ju else KO,Lib.itoa p.h.qp]::p.gs.flatMap BB
def uU (s:CS):List (List cV):=JM s.h++s.ps.flatMap sI
abbrev tx (ls:List (List cV)):cV:=ls.flatMap Nq
theorem sD (A:List (List cV)) (x:List cV):tx A++Nq x=tx (A++[x]):=by simp
theorem mD {A R T:List (List cV)} {x:List cV} (h:A++(x::R)=T) {N:Nat} (hT:(tx T).length≤N):(tx A).length+(Lib.join x [32]).length≤N:=by
 rw [← h] at hT
 simp only [tx,List.flatMap_append,List.flatMap_cons,List.length_append] at hT ⊢
 omega
theorem nN {A R:List (List cV)} {x:List cV} {T:List (List cV)} (h:A++(x::R)=T):(A++[x])++R=T:=by rw [← h];simp
theorem lR {w w':World} {a:Option Addr} {vs:List Value} (h:cI w a vs) (hE:Ext [] (zw w) w'):cI w' a vs:=cI.aH (w:=zw w) ⟨h.cell,h.head⟩ hE
theorem lX {w w':World} (h:GL w) (hE:Ext [] (zw w) w'):GL w':=GL.ext (w:=zw w) h hE
theorem Hp.AT (w:World):Hp [] (zw w) w []:=⟨⟨rfl,rfl,rfl,Nat.le_refl _,Nat.zero_le _,fun _ _ _=>rfl⟩,by simp,by simp,.nil⟩
theorem Av {inter:Bool} {hq:Int} {g:GR}:∀ {n:Nat} {l:List GR} {e:Nat},Dh inter hq n l e→g∈l→g.f+g.ms.length≤e∧BM inter hq g.ms
 | _,[],_,_,h=>by cases h
 | n,x::l,e,h,hg=>by
  rcases List.mem_cons.1 hg with rfl|hg
  ·have:=kP h.2.2.2
   exact ⟨by rw [h.1];omega,h.2.2.1⟩
  ·exact Av h.2.2.2 hg
abbrev Qh (b:Nat):Value:=.func (.func 20) #[] #[pt b]
theorem OS {A:Prop} {Y:Fr→Value→World→Prop} (Z:Value→World→Prop) (h1:(∀ σ v u,Z v u→Y σ v u)→A) (h2:∀ σ v u,Z v u→Y σ v u):A:=h1 h2
theorem Pq {h:SH}:∀ j v,(h.A.map B)[j]?=some v→h.cells.toArray[0+2+1+j]?=some v:=fun j v hj=>by
 have hl:j<h.A.length:=by simpa using (List.getElem?_eq_some_iff.1 hj).1
 rw [List.getElem?_toArray,show 0+2+1+j=j+3 by omega]
 show (h.A.map B++h.Bb.map B)[j]?=_
 rw [List.getElem?_append_left (by rw [List.length_map];exact hl)]
 exact hj
theorem QV {h:SH} (ho:h.ok):∀ j v,(h.Bb.map B)[j]?=some v→h.cells.toArray[0+2+65+j]?=some v:=fun j v hj=>by
 rw [List.getElem?_toArray,show 0+2+65+j=(64+j)+3 by omega]
 show (h.A.map B++h.Bb.map B)[64+j]?=_
 rw [List.getElem?_append_right (by rw [List.length_map,ho.la];omega),List.length_map,ho.la,Nat.add_sub_cancel_left]
 exact hj
theorem KS {w w1 w2:World} {b:Nat} (h:Ext [] (zw w) w1) (h1:Below b w1 w2) (hb:(zw w).heap.size≤b):Ext [] (zw w) w2:=⟨h1.os.trans h.os,h1.tape.trans h.tape,h1.output.trans h.output,Nat.le_trans h.size h1.size,Nat.zero_le _,fun k hk hs=>(h1.block k (by omega)).trans (h.block k hk hs)⟩
theorem Ab {b:Nat} {p v:Value} {l:cV} {w:World} (hp:p=.pointer none∨p=.pointer (some ⟨b,0,none⟩)) (hB:(sX b p v l).holds w):aX Tryz.prog 27 #[pt b] w fun v w'=>v=sV l∧Below b w w':=by
 have hbw:b<w.heap.size:=(Array.getElem?_eq_some_iff.1 hB.1).1
 have h:=Tryz.Builder_String_any_k b b l w (sX.is hp hB) (by omega)
 exact .inl ⟨enters_of Tryz.func27 (by kernel_rfl) rfl _,h.mono fun e w' ⟨he,_,h2,_⟩=>⟨_,he,rfl,h2⟩⟩
set_option maxRecDepth 20000 in
set_option maxHeartbeats 8000000 in
theorem Dq {s:ST} {C R:Nat} {w:World} (hg:GL w) (hs:s.ok C R) (hrd:s.rd w) (hT:(tx (uU s.eP)).length≤1000000):aX Tryz.prog 8 #[.agg s.cells.toArray] w fun v w'=>v=sV (tx (uU s.eP))∧Ext [] (zw w) w':=by
 refine aL (args:=[_]) Tryz.func8 rfl rfl Tryz.ntmps8 rfl ?_
 have hH:=Hp.AT w
 have ho:=hs.ho
 have hsl:=gW (s:=s) ho
 have hhl:=SH.bK ho
 refine aK ?_
 refine aO ?_
 refine aA (bI (cs:=s.cells.toArray) hH rfl rfl rfl ?_)
 try clear hH
 intro _ b1 hH
 replace hH:=aI hH
 refine aK ?_
 refine aA (aQ (zs:=[.pointer none,.slice none 0 0]) hH (Ty.bH rfl) rfl ?_)
 clear hH
 intro _ b3 hH
 replace hH:=aI hH
 have hbw:(zw w).heap.size≤b3:=by
  rcases hH.new _ (List.mem_of_getElem? (i:=1) rfl) b3 (by simp [Rb]) with h|h
  ·cases h
  ·exact h
 replace hH:=hH.as (r':=sX b3 (.pointer none) (.slice none 0 0) (tx [])) 1 rfl (fun x hx=>by simp [sX,Value.ownBlock] at hx;simp [Rb,hx]) (fun h=>⟨h,⟨rfl,.inl ⟨rfl,rfl⟩⟩,by simp [Value.ownBlock]⟩)
 replace hH:=Hp.pick hH [1,0] (by decide)
 replace hH:=aI hH
 have hS1:cI _ (some ⟨b1,0,none⟩) s.cells:=(hH.b 1 rfl).cX
 have hhd:(s.cells.drop (0+0)).take 131=s.h.cells:=by
  show (s.h.cells++[_]).take 131=_
  rw [List.take_left' hhl]
 repeat (first|refine aR ?_|(refine aD (by first|refine aN rfl (Ty.bA rfl rfl)|refine tG rfl|refine bG (j:=0+0) (cs:=s.h.cells) rfl hS1 hhd hhl (Ty.aF rfl)) rfl ?_)|refine aT ?_)
 clear hS1
 refine aA (aQ (zs:=SH.zero.cells) hH (Ty.bH rfl) rfl ?_)
 clear hH
 intro _ b5 hH
 replace hH:=aI hH
 refine aK ?_
 refine aA (aJ 2 (vs:=s.h.cells.toArray) (s:=131) hH rfl rfl rfl (by rw [List.size_toArray,hhl]) (by kernel_rfl) (cells_one s.h) (Ty.aF rfl) ?_)
 clear hH
 intro w0 hH
 replace hH:=aI hH
 refine aK ?_
 have hgd:=SH.D5 hs.err
 have hsc:=hs.c
 have hsr:=hs.r
 have hCR:C*R≤64:=Nat.mul_le_mul (show C≤8 by omega) (show R≤8 by omega)
 have hB5:=hH.b 2 rfl
 refine cM Ty.mixed 12 rfl (by kernel_rfl) rfl (fun w1 hx1=>?_)
 refine bE 0 hx1 ?_
 refine xN ?_
 refine aY 2 hx1 rfl (fun w' hw'=>by refine aB (v:=.int .i64 s.h.c) rfl (hB5.aH hw') rfl (Ty.aF rfl)) ?_
 refine GX ?_
 refine aY 5 hx1 rfl (fun w' hw'=>by refine aB (v:=.int .i64 s.h.r) rfl (hB5.aH hw') rfl (Ty.aF rfl)) ?_
 refine xV ?_
 refine DJ ?_
 refine aY 9 hx1 rfl (fun w' hw'=>by refine aB (v:=.bool s.h.wt) rfl (hB5.aH hw') rfl (Ty.aF rfl)) ?_
 replace hH:=hH.aH hx1
 refine bC 3 (by kernel_rfl) rfl rfl (aC (dP (n:=s.h.c) (lX hg hH.ext) (by omega)) rfl rfl ?_)
 rintro _ w3 ⟨rfl,hE⟩
 have hx3:=hx1.bO hE
 refine ⟨hx3,?_⟩
 replace hH:=hH.aH hE
 refine bC 6 (by kernel_rfl) rfl rfl (aC (dP (n:=s.h.r) (lX hg hH.ext) (by omega)) rfl rfl ?_)
 rintro _ w4 ⟨rfl,hE⟩
 have hx4:=hx3.bO hE
 refine ⟨hx4,?_⟩
 replace hH:=hH.aH hE
 refine bC 10 (by kernel_rfl) rfl rfl (aC (oZ (b:=s.h.wt) (s:=sC) (t:=rQ)) rfl rfl ?_)
 rintro _ w5 ⟨rfl,hE⟩
 have hx5:=hx4.bO hE
 refine ⟨hx5,?_⟩
 replace hH:=hH.aH hE
 refine bC 11 (by kernel_rfl) rfl rfl ?_
 refine oK (out:=fV [Fs,Lib.itoa s.h.c,Lib.itoa s.h.r,if s.h.wt then sC else rQ]) (Ty.sle rfl) (Ty.bH rfl) rfl rfl rfl (by decide) rfl ?_
 intro w6 bl hbl hE hBl _
 refine ⟨hx5.bO hE,?_⟩
 replace hH:=hH.aH hE
 refine aW (by kernel_rfl) ?_
 clear hB5 hx1 hx3 hx4 hx5 hE
 have hA:([]:List (List cV))++uU s.eP=uU s.eP:=rfl
 have hA:([]:List (List cV))++([Fs,Lib.itoa s.h.c,Lib.itoa s.h.r,if s.h.wt then sC else rQ]::((if s.h.wt then [eJ::gT s.h.A,eJ::gT s.h.Bb] else [])++s.eP.ps.flatMap sI))=uU s.eP:=rfl
 refine aA (jB (vs:=[.slice (some ⟨bl,0,none⟩) (4) (4)]) (caps:=[pt b3]) rfl (iD (xs:=[Fs,Lib.itoa s.h.c,Lib.itoa s.h.r,if s.h.wt then sC else rQ]) hBl.cX (by simp) (by simp) (Nat.le_refl _) (fun s hs=>by simp [dI] at hs;rw [hs];exact hBl.lt) (by have:=mD hA hT;omega) (by omega) (.inl rfl) (hH.at 0 rfl) (by have:=mD hA hT;omega)) rfl rfl ?_)
 rintro _ w9 ⟨rfl,⟨v9,hB9⟩,h91,h92⟩
 replace hH:=Hp.line (L:=[(b1,34,s.cells.toArray),(b5,26,s.h.cells.toArray)]) hH rfl (by simp) hbw hB9 h91 h92
 rw [sD] at hH
 replace hA:=nN hA
 clear hB9 h91 h92
 replace hH:=aI hH
 clear hBl hbl
 have hB5:=hH.b 2 rfl
 obtain ⟨R0,hR0⟩:∃ R,R=s.eP.ps.flatMap sI:=⟨_,rfl⟩
 rw [← hR0] at hA
 obtain ⟨A0,hA0⟩:∃ A0,A0=JM s.h:=⟨_,rfl⟩
 have hA0R:A0++R0=uU s.eP:=by rw [hA0,hR0];rfl
 apply OS (Z:=fun v u=>Hp [] (zw w) u [sX b3 (.pointer (some ⟨b3,0,none⟩)) v (tx A0),Rb b1 34 s.cells.toArray,Rb b5 26 s.h.cells.toArray])
 ·intro key
  obtain ⟨b,hb⟩:∃ b,s.h.wt=b:=⟨_,rfl⟩
  cases b with
  | false =>
   repeat (first|refine aR ?_|(refine aD (by first|refine aN rfl (Ty.bA rfl rfl)|refine (aB (v:=.bool s.h.wt) rfl hB5 rfl (Ty.aF rfl)).is (congrArg Value.bool hb)) rfl ?_))
   obtain ⟨v8,hv8⟩:∃ z:Value,v9=z:=⟨_,rfl⟩
   rw [hv8,show ([]++[[Fs,Lib.itoa s.h.c,Lib.itoa s.h.r,if s.h.wt then sC else rQ]])=A0 by rw [hA0];simp [JM,hb]] at hH
   exact eU fun u' hu=>cJ [(1,pt b1),(3,pt b3),(4,Qh b3),(47,.pointer (some ⟨b1,0+131,none⟩))] ⟨rfl,rfl,rfl,rfl,trivial⟩ (fun σ=>key σ v8 u' (hu▸hH))
  | true =>
   repeat (first|refine aR ?_|(refine aD (by first|refine aN rfl (Ty.bA rfl rfl)|refine (aB (v:=.bool s.h.wt) rfl hB5 rfl (Ty.aF rfl)).is (congrArg Value.bool hb)) rfl ?_)|refine aT ?_)
   replace hA:([]++[[Fs,Lib.itoa s.h.c,Lib.itoa s.h.r,if s.h.wt then sC else rQ]])++((eJ::gT s.h.A)::((eJ::gT s.h.Bb)::R0))=uU s.eP:=by rw [← hA];simp [hb]
   refine aA (cN (out:=[sV eJ]) hH (Ty.sle rfl) (Ty.bH rfl) rfl rfl rfl (by decide) rfl ?_)
   try clear hH
   intro _ bl hH
   replace hH:=AR (l:=[eJ]) 3 hH rfl (by decide)
   replace hH:=aI hH
   repeat ((refine aD (by first|refine aN rfl (Ty.bA rfl rfl)|refine It rfl (Ty.arr rfl)) rfl ?_))
   have hns:=wI (l:=s.h.A) (cap:=64) (lX hg hH.ext) (by rw [ho.la];decide) ho.ba (cL.sl (hH.b 2 rfl) Pq)
   rw [ho.la] at hns
   refine aO ?_
   refine aA (aC (hns) rfl rfl ?_)
   clear hns
   rintro _ _ ⟨a2,c2,rfl,hN⟩
   replace hH:=hH.nu hN
   clear hN
   replace hH:=aI hH
   have hnl:(fV (gT (s.h.A))).length=64:=by rw [List.length_map,List.length_map,ho.la]
   refine aA (bZ 3 hH rfl (Ty.sle rfl) (Ty.bH rfl) rfl (Ty.gS rfl) (by decide) rfl rfl (hH.o 4 rfl).sl (by rw [hnl]) (by simp [Value.oneCell']) (by decide) (by decide) rfl ?_)
   try clear hH
   intro _ a9 c9 hH
   replace hH:=aI hH
   have hSl:=(hH.o 3 rfl).sl
   have hlt:=(hH.o 3 rfl).lt
   have hcp:([eJ].length+64)≤c9:=(hH.o 3 rfl).2.1
   replace hH:=hH.take 3
   replace hH:=aI hH
   have hxs:fV [eJ]++fV (gT (s.h.A))=fV (eJ::gT (s.h.A)):=rfl
   rw [hxs] at hSl
   refine aA (jB (vs:=[.slice a9 ([eJ].length+64) c9]) (caps:=[pt b3]) rfl (iD (xs:=eJ::gT (s.h.A)) hSl (by rw [List.length_cons,List.length_map,ho.la];rfl) (by simp) hcp hlt (by have:=mD hA hT;omega) (by decide) (.inr rfl) (hH.at 0 rfl) (by have:=mD hA hT;omega)) rfl rfl ?_)
   rintro _ w9 ⟨rfl,⟨v9,hB9⟩,h91,h92⟩
   replace hH:=Hp.line (L:=[(b1,34,s.cells.toArray),(b5,26,s.h.cells.toArray)]) hH rfl (by simp) hbw hB9 h91 h92
   rw [sD] at hH
   replace hA:=nN hA
   clear hB9 h91 h92 hSl hlt hcp hxs hnl
   replace hH:=aI hH
   repeat (first|refine aR ?_|refine aT ?_)
   refine aA (cN (out:=[sV eJ]) hH (Ty.sle rfl) (Ty.bH rfl) rfl rfl rfl (by decide) rfl ?_)
   try clear hH
   intro _ bl hH
   replace hH:=AR (l:=[eJ]) 3 hH rfl (by decide)
   replace hH:=aI hH
   repeat ((refine aD (by first|refine aN rfl (Ty.bA rfl rfl)|refine It rfl (Ty.arr rfl)) rfl ?_))
   have hns:=wI (l:=s.h.Bb) (cap:=64) (lX hg hH.ext) (by rw [ho.lb];decide) ho.bb (cL.sl (hH.b 2 rfl) (QV ho))
   rw [ho.lb] at hns
   refine aO ?_
   refine aA (aC (hns) rfl rfl ?_)
   clear hns
   rintro _ _ ⟨a2,c2,rfl,hN⟩
   replace hH:=hH.nu hN
   clear hN
   replace hH:=aI hH
   have hnl:(fV (gT (s.h.Bb))).length=64:=by rw [List.length_map,List.length_map,ho.lb]
   refine aA (bZ 3 hH rfl (Ty.sle rfl) (Ty.bH rfl) rfl (Ty.gS rfl) (by decide) rfl rfl (hH.o 4 rfl).sl (by rw [hnl]) (by simp [Value.oneCell']) (by decide) (by decide) rfl ?_)
   try clear hH
   intro _ a9 c9 hH
   replace hH:=aI hH
   have hSl:=(hH.o 3 rfl).sl
   have hlt:=(hH.o 3 rfl).lt
   have hcp:([eJ].length+64)≤c9:=(hH.o 3 rfl).2.1
   replace hH:=hH.take 3
   replace hH:=aI hH
   have hxs:fV [eJ]++fV (gT (s.h.Bb))=fV (eJ::gT (s.h.Bb)):=rfl
   rw [hxs] at hSl
   refine aA (jB (vs:=[.slice a9 ([eJ].length+64) c9]) (caps:=[pt b3]) rfl (iD (xs:=eJ::gT (s.h.Bb)) hSl (by rw [List.length_cons,List.length_map,ho.lb];rfl) (by simp) hcp hlt (by have:=mD hA hT;omega) (by decide) (.inr rfl) (hH.at 0 rfl) (by have:=mD hA hT;omega)) rfl rfl ?_)
   rintro _ w9 ⟨rfl,⟨v9,hB9⟩,h91,h92⟩
   replace hH:=Hp.line (L:=[(b1,34,s.cells.toArray),(b5,26,s.h.cells.toArray)]) hH rfl (by simp) hbw hB9 h91 h92
   rw [sD] at hH
   replace hA:=nN hA
   clear hB9 h91 h92 hSl hlt hcp hxs hnl
   replace hH:=aI hH
   repeat (first|refine aR ?_|(refine aD (by refine aN rfl (Ty.bA rfl rfl)) rfl ?_))
   obtain ⟨v8,hv8⟩:∃ z:Value,v9=z:=⟨_,rfl⟩
   rw [hv8,show ([]++[[Fs,Lib.itoa s.h.c,Lib.itoa s.h.r,if s.h.wt then sC else rQ]]++[eJ::gT s.h.A]++[eJ::gT s.h.Bb])=A0 by rw [hA0];simp [JM,hb]] at hH
   exact eU fun u' hu=>cJ [(1,pt b1),(3,pt b3),(4,Qh b3),(47,.pointer (some ⟨b1,0+131,none⟩))] ⟨rfl,rfl,rfl,rfl,trivial⟩ (fun σ=>key σ v8 u' (hu▸hH))
 clear hH hB5 hA
 rintro σ v u5 hH
 have hB1:=hH.b 1 rfl
 have hpl:s.eP.ps.length=s.ps.length:=List.length_map _
 repeat (first|refine aR ?_|(refine aD (by refine aB rfl hB1 (Ah (s:=s) ho) (Ty.aF rfl)) rfl ?_)|refine aT ?_)
 clear hB1
 have hfm:=dQ (f:=PR.cells) (sz:=5) (l:=s.ps) (fun _ _=>rfl)
 refine aV (G:=(Nat) × (List (List cV)) × (Value)) (fun|(i,A,v)=>s.ps.length-i) 20282409603651669298047344446080 (fun|(i,A,v)=>[(50,.int .i64 i)]) (fun|(i,A,v),w'=>i≤s.ps.length∧A++(s.eP.ps.drop i).flatMap sI=uU s.eP∧Hp [] (zw w) w' [sX b3 (.pointer (some ⟨b3,0,none⟩)) v (tx A),Rb b1 34 s.cells.toArray,Rb b5 26 s.h.cells.toArray]) (0,A0,v) ⟨rfl,trivial⟩ ⟨by omega,by rw [List.drop_zero,← hR0];exact hA0R,hH⟩ ?_
 rintro ⟨i,A,v⟩ w' σ ⟨hi,hA,hH⟩ IH
 show WS _ _ _ _ _ (bQ [(50,.int .i64 i)] _) _
 by_cases hil:i<s.ps.length
 ·obtain ⟨p,hp⟩:∃ p,s.ps[i]?=some p:=⟨_,List.getElem?_eq_getElem hil⟩
  have hpm:=List.mem_of_getElem? hp
  have hpo:=hs.ps i p hp
  have hat:=jV (f:=PR.cells) (sz:=5) (fun _ _=>rfl) hp
  have hSp:=lR hrd.1 hH.ext
  have xU:=(PH.AN _).1 hpo.err
  have hgl9:=kP hpo.gs
  have hpl16:=hs.len
  repeat (first|refine aR ?_|(refine aD (by first|refine gE (sz:=5) rfl rfl hSp hfm (by decide) (Ty.sle rfl) (by omega)|refine bG (j:=i*5) (cs:=p.cells) rfl hSp hat rfl (Ty.aF rfl)) rfl ?_)|refine aT ?_)
  clear hSp
  refine aO ?_
  refine aA (aQ hH (Ty.bH rfl) rfl ?_)
  try clear hH
  intro _ b7 hH
  replace hH:=aI hH
  refine aK ?_
  refine aO ?_
  refine aA (aJ 3 (vs:=p.cells.toArray) (s:=5) hH rfl rfl rfl (by rfl) (by rfl) (by simp [Value.oneCell']) (Ty.aF rfl) ?_)
  try clear hH
  intro _ hH
  replace hH:=aI hH
  obtain ⟨R1,hR1⟩:∃ R,R=(s.eP.ps.drop (i+1)).flatMap sI:=⟨_,rfl⟩
  have hpc:s.eP.ps[i]?=some p.eP:=by
   show (s.ps.map PR.eP)[i]?=_
   rw [List.getElem?_map,hp];rfl
  have hdr:(s.eP.ps.drop i).flatMap sI=sI p.eP++R1:=by
   rw [List.drop_eq_getElem_cons (by rw [hpl];exact hil),List.flatMap_cons,hR1]
   have h:=(List.getElem?_eq_some_iff.1 hpc).2
   rw [h]
  rw [hdr] at hA
  replace hA:A++([Bw,Lib.itoa p.h.id,if p.h.inter then Ar else AU,if p.h.down then Ju else KO,Lib.itoa p.h.qp]::(p.eP.gs.flatMap BB++R1))=uU s.eP:=hA
  refine aK ?_
  have hB7:=hH.b 3 rfl
  refine cM Ty.mixed 18 rfl (by kernel_rfl) rfl (fun w1 hx1=>?_)
  refine bE 0 hx1 ?_
  refine xN ?_
  refine uN ?_
  refine aY 3 hx1 rfl (fun w' hw'=>by refine aB (v:=.int .i64 p.h.id) rfl (hB7.aH hw') rfl (Ty.aF rfl)) ?_
  refine Gf ?_
  refine xD ?_
  refine aY 7 hx1 rfl (fun w' hw'=>by refine aB (v:=.bool p.h.inter) rfl (hB7.aH hw') rfl (Ty.aF rfl)) ?_
  refine AJ ?_
  refine Fu ?_
  refine aY 11 hx1 rfl (fun w' hw'=>by refine aB (v:=.bool p.h.down) rfl (hB7.aH hw') rfl (Ty.aF rfl)) ?_
  refine aY 13 hx1 rfl (fun w' hw'=>by refine aN rfl (Ty.bA rfl rfl)) ?_
  refine aY 14 hx1 rfl (fun w' hw'=>by refine aN rfl (Ty.bA rfl rfl)) ?_
  refine aY 15 hx1 rfl (fun w' hw'=>by refine aB (v:=.int .i64 p.h.qp) rfl (hB7.aH hw') rfl (Ty.aF rfl)) ?_
  replace hH:=hH.aH hx1
  refine bC 4 (by kernel_rfl) rfl rfl (aC (dP (n:=p.h.id) (lX hg hH.ext) (by omega)) rfl rfl ?_)
  rintro _ w3 ⟨rfl,hE⟩
  have hx3:=hx1.bO hE
  refine ⟨hx3,?_⟩
  replace hH:=hH.aH hE
  refine bC 8 (by kernel_rfl) rfl rfl (aC (oZ (b:=p.h.inter) (s:=Ar) (t:=AU)) rfl rfl ?_)
  rintro _ w4 ⟨rfl,hE⟩
  have hx4:=hx3.bO hE
  refine ⟨hx4,?_⟩
  replace hH:=hH.aH hE
  refine bC 12 (by kernel_rfl) rfl rfl (aC (oZ (b:=p.h.down) (s:=Ju) (t:=KO)) rfl rfl ?_)
  rintro _ w5 ⟨rfl,hE⟩
  have hx5:=hx4.bO hE
  refine ⟨hx5,?_⟩
  replace hH:=hH.aH hE
  refine bC 16 (by kernel_rfl) rfl rfl (aC (dP (n:=p.h.qp) (lX hg hH.ext) (by omega)) rfl rfl ?_)
  rintro _ w6 ⟨rfl,hE⟩
  have hx6:=hx5.bO hE
  refine ⟨hx6,?_⟩
  replace hH:=hH.aH hE
  refine bC 17 (by kernel_rfl) rfl rfl ?_
  refine oK (out:=fV [Bw,Lib.itoa p.h.id,if p.h.inter then Ar else AU,if p.h.down then Ju else KO,Lib.itoa p.h.qp]) (Ty.sle rfl) (Ty.bH rfl) rfl rfl rfl (by decide) rfl ?_
  intro w7 bl hbl hE hBl _
  refine ⟨hx6.bO hE,?_⟩
  replace hH:=hH.aH hE
  refine aW (by kernel_rfl) ?_
  clear hB7 hx1 hx3 hx4 hx5 hx6 hE
  refine aA (jB (vs:=[.slice (some ⟨bl,0,none⟩) (5) (5)]) (caps:=[pt b3]) rfl (iD (xs:=[Bw,Lib.itoa p.h.id,if p.h.inter then Ar else AU,if p.h.down then Ju else KO,Lib.itoa p.h.qp]) hBl.cX (by simp) (by simp) (Nat.le_refl _) (fun s hs=>by simp [dI] at hs;rw [hs];exact hBl.lt) (by have:=mD hA hT;omega) (by omega) (.inr rfl) (hH.at 0 rfl) (by have:=mD hA hT;omega)) rfl rfl ?_)
  rintro _ w9 ⟨rfl,⟨v9,hB9⟩,h91,h92⟩
  replace hH:=Hp.line (L:=[(b1,34,s.cells.toArray),(b5,26,s.h.cells.toArray),(b7,60,p.cells.toArray)]) hH rfl (by simp) hbw hB9 h91 h92
  rw [sD] at hH
  replace hA:=nN hA
  clear hB9 h91 h92
  replace hH:=aI hH
  clear hBl hbl
  have hgr:=hrd.2 p hpm
  have hfg:=dQ (f:=GR.cells) (sz:=2) (l:=p.gs) (fun _ _=>rfl)
  have hcgl:p.eP.gs.length=p.gs.length:=List.length_map _
  have hB7:=hH.b 3 rfl
  repeat (first|refine aR ?_|(refine aD (by first|refine aN rfl (Ty.bA rfl rfl)|refine aB (v:=.slice p.a p.gs.length p.cap) rfl hB7 rfl (Ty.aF rfl)) rfl ?_)|refine aT ?_)
  clear hB7
  refine aV (G:=(Nat) × (List (List cV)) × (Value)) (fun|(k,A,v)=>p.gs.length-k) 10141204726267971486059302226432 (fun|(k,A,v)=>[(76,.int .i64 k)]) (fun|(k,A,v),w'=>k≤p.gs.length∧A++((p.eP.gs.drop k).flatMap BB++R1)=uU s.eP∧Hp [] (zw w) w' [sX b3 (.pointer (some ⟨b3,0,none⟩)) v (tx A),Rb b1 34 s.cells.toArray,Rb b5 26 s.h.cells.toArray,Rb b7 60 p.cells.toArray]) (0,_,v9) ⟨rfl,trivial⟩ ⟨by omega,hA,hH⟩ ?_
  rintro ⟨k,A,v⟩ w' σ ⟨hk,hA,hH⟩ IH2
  show WS _ _ _ _ _ (bQ [(76,.int .i64 k)] _) _
  by_cases hkl:k<p.gs.length
  ·obtain ⟨g,hgk⟩:∃ g,p.gs[k]?=some g:=⟨_,List.getElem?_eq_getElem hkl⟩
   have hgm:=List.mem_of_getElem? hgk
   have hgo:=Av hpo.gs hgm
   have hmo:=rJ hgo.2
   have hat2:=jV (f:=GR.cells) (sz:=2) (fun _ _=>rfl) hgk
   have hSg:=lR hgr.1 hH.ext
   repeat (first|refine aR ?_|(refine aD (by first|refine gE (sz:=2) rfl rfl hSg hfg (by decide) (Ty.sle rfl) (by omega)|refine bG (j:=k*2) (cs:=g.cells) rfl hSg hat2 rfl (Ty.aF rfl)) rfl ?_)|refine aT ?_)
   clear hSg
   refine aO ?_
   refine aA (aQ hH (Ty.bH rfl) rfl ?_)
   try clear hH
   intro _ b9 hH
   replace hH:=aI hH
   refine aK ?_
   refine aO ?_
   refine aA (aJ 4 (vs:=g.cells.toArray) (s:=2) hH rfl rfl rfl (by rfl) (by rfl) (by simp [Value.oneCell']) (Ty.aF rfl) ?_)
   try clear hH
   intro _ hH
   replace hH:=aI hH
   obtain ⟨R2,hR2⟩:∃ R,R=(p.eP.gs.drop (k+1)).flatMap BB++R1:=⟨_,rfl⟩
   have hgc:p.eP.gs[k]?=some (g.f,g.ms):=by
    show (p.gs.map fun g=>(g.f,g.ms))[k]?=_
    rw [List.getElem?_map,hgk];rfl
   have hdr2:(p.eP.gs.drop k).flatMap BB++R1=BB (g.f,g.ms)++R2:=by
    rw [List.drop_eq_getElem_cons (by rw [hcgl];exact hkl),List.flatMap_cons,hR2,List.append_assoc]
    have h:=(List.getElem?_eq_some_iff.1 hgc).2
    rw [h]
   rw [hdr2] at hA
   replace hA:A++([AH,Lib.itoa (g.f:Nat),Lib.itoa (g.ms.length:Nat)]::(g.ms.map mC++R2))=uU s.eP:=hA
   refine aK ?_
   have hB9:=hH.b 4 rfl
   refine cM Ty.mixed 9 rfl (by kernel_rfl) rfl (fun w1 hx1=>?_)
   refine bE 0 hx1 ?_
   refine xN ?_
   refine aY 2 hx1 rfl (fun w' hw'=>by refine aB (v:=.int .i64 (g.f:Nat)) rfl (hB9.aH hw') rfl (Ty.aF rfl)) ?_
   refine GX ?_
   refine aY 5 hx1 rfl (fun w' hw'=>by refine aB (v:=.slice g.a g.ms.length g.cap) rfl (hB9.aH hw') rfl (Ty.aF rfl)) ?_
   refine bE 6 hx1 ?_
   replace hH:=hH.aH hx1
   refine bC 3 (by kernel_rfl) rfl rfl (aC (dP (n:=(g.f:Nat)) (lX hg hH.ext) (by omega)) rfl rfl ?_)
   rintro _ w3 ⟨rfl,hE⟩
   have hx3:=hx1.bO hE
   refine ⟨hx3,?_⟩
   replace hH:=hH.aH hE
   refine bC 7 (by kernel_rfl) rfl rfl (aC (dP (n:=(g.ms.length:Nat)) (lX hg hH.ext) (by omega)) rfl rfl ?_)
   rintro _ w6 ⟨rfl,hE⟩
   have hx6:=hx3.bO hE
   refine ⟨hx6,?_⟩
   replace hH:=hH.aH hE
   refine bC 8 (by kernel_rfl) rfl rfl ?_
   refine oK (out:=fV [AH,Lib.itoa (g.f:Nat),Lib.itoa (g.ms.length:Nat)]) (Ty.sle rfl) (Ty.bH rfl) rfl rfl rfl (by decide) rfl ?_
   intro w7 bl hbl hE hBl _
   refine ⟨hx6.bO hE,?_⟩
   replace hH:=hH.aH hE
   refine aW (by kernel_rfl) ?_
   clear hB9 hx1 hx3 hx6 hE
   refine aA (jB (vs:=[.slice (some ⟨bl,0,none⟩) (3) (3)]) (caps:=[pt b3]) rfl (iD (xs:=[AH,Lib.itoa (g.f:Nat),Lib.itoa (g.ms.length:Nat)]) hBl.cX (by simp) (by simp) (Nat.le_refl _) (fun s hs=>by simp [dI] at hs;rw [hs];exact hBl.lt) (by have:=mD hA hT;omega) (by omega) (.inr rfl) (hH.at 0 rfl) (by have:=mD hA hT;omega)) rfl rfl ?_)
   rintro _ w9 ⟨rfl,⟨v9,hB9⟩,h91,h92⟩
   replace hH:=Hp.line (L:=[(b1,34,s.cells.toArray),(b5,26,s.h.cells.toArray),(b7,60,p.cells.toArray),(b9,87,g.cells.toArray)]) hH rfl (by simp) hbw hB9 h91 h92
   rw [sD] at hH
   replace hA:=nN hA
   clear hB9 h91 h92
   replace hH:=aI hH
   clear hBl hbl
   have hgms:=hgr.2 g hgm
   have hml:=qR hmo
   have hB9:=hH.b 4 rfl
   repeat (first|refine aR ?_|(refine aD (by first|refine aN rfl (Ty.bA rfl rfl)|refine aB (v:=.slice g.a g.ms.length g.cap) rfl hB9 rfl (Ty.aF rfl)) rfl ?_)|refine aT ?_)
   clear hB9
   refine aV (G:=(Nat) × (List (List cV)) × (Value)) (fun|(j,A,v)=>g.ms.length-j) 5060698880598634563787619829760 (fun|(j,A,v)=>[(93,.int .i64 j)]) (fun|(j,A,v),w'=>j≤g.ms.length∧A++((g.ms.drop j).map mC++R2)=uU s.eP∧Hp [] (zw w) w' [sX b3 (.pointer (some ⟨b3,0,none⟩)) v (tx A),Rb b1 34 s.cells.toArray,Rb b5 26 s.h.cells.toArray,Rb b7 60 p.cells.toArray,Rb b9 87 g.cells.toArray]) (0,_,v9) ⟨rfl,trivial⟩ ⟨by omega,hA,hH⟩ ?_
   rintro ⟨j,A,v⟩ w' σ ⟨hj,hA,hH⟩ IH3
   show WS _ _ _ _ _ (bQ [(93,.int .i64 j)] _) _
   by_cases hjl:j<g.ms.length
   ·obtain ⟨m,hmj⟩:∃ m,g.ms[j]?=some m:=⟨_,List.getElem?_eq_getElem hjl⟩
    have hm:=hmo m (List.mem_of_getElem? hmj)
    have hat3:=zM hmo hmj
    have hm391:m.cells.length=391:=bL hm.len
    have hSm:=lR hgms hH.ext
    repeat (first|refine aR ?_|(refine aD (by first|refine gE (sz:=391) rfl rfl hSm hml (by decide) (Ty.sle rfl) (by omega)|refine bG (j:=j*391) (cs:=m.cells) rfl hSm hat3 hm391 (Ty.aF rfl)) rfl ?_)|refine aT ?_)
    clear hSm
    refine aA (aQ (zs:=mH 0 0 (List.replicate 384 0)) hH (Ty.bH rfl) rfl ?_)
    clear hH
    intro _ b11 hH
    replace hH:=aI hH
    refine aK ?_
    refine aA (aJ 5 (vs:=m.cells.toArray) (s:=391) hH rfl rfl rfl (by rw [List.size_toArray,hm391]) (by rw [List.size_toArray];exact bL List.length_replicate) (dZ hm) (Ty.aF rfl) ?_)
    clear hH
    intro _ hH
    replace hH:=aI hH
    have hB11:=hH.b 5 rfl
    repeat (first|refine aR ?_|(refine aD (by refine aE rfl hB11 (by rw [List.size_toArray,hm391]) (Ty.aF rfl)) rfl ?_)|refine aT ?_)
    clear hB11
    refine aO ?_
    refine aA (aC ((B2 (lX hg hH.ext) hm)) rfl rfl ?_)
    rintro _ _ ⟨aw,cw,rfl,hN⟩
    replace hH:=hH.nu hN
    clear hN
    replace hH:=aI hH
    have hSl:=(hH.o 6 rfl).sl
    have hlt:=(hH.o 6 rfl).lt
    have hcp:=(hH.o 6 rfl).2.1
    replace hH:=hH.take 6
    replace hH:=aI hH
    have hmc:(g.ms.drop j).map mC++R2=mC m::((g.ms.drop (j+1)).map mC++R2):=by
     rw [List.drop_eq_getElem_cons hjl,List.map_cons]
     have h:=(List.getElem?_eq_some_iff.1 hmj).2
     rw [h];rfl
    rw [hmc] at hA
    have hmw:(mC m).length≤1000:=by
     have h1:=nW m.L 384
     have h2:(wZ m).length≤4:=by
      unfold wZ
      split
      ·simp
      ·split
       ·simp
       ·split<;>simp
     simp only [mC,List.length_cons,List.length_append]
     split<;>simp<;>omega
    refine aA (jB (vs:=[.slice aw (mC m).length cw]) (caps:=[pt b3]) rfl (iD (xs:=mC m) hSl rfl (by simp [mC]) hcp hlt (by have:=mD hA hT;omega) (by omega) (.inr rfl) (hH.at 0 rfl) (by have:=mD hA hT;omega)) rfl rfl ?_)
    rintro _ w9 ⟨rfl,⟨v9,hB9⟩,h91,h92⟩
    replace hH:=Hp.line (L:=[(b1,34,s.cells.toArray),(b5,26,s.h.cells.toArray),(b7,60,p.cells.toArray),(b9,87,g.cells.toArray),(b11,95,m.cells.toArray)]) hH rfl (by simp) hbw hB9 h91 h92
    rw [sD] at hH
    replace hA:=nN hA
    clear hB9 h91 h92 hSl hlt hcp
    replace hH:=aI hH
    replace hH:=hH.take 5
    replace hH:=aI hH
    refine aK ?_
    refine IH3 (j+1,A++[mC m],v9) _ _ ?_ ?_ ?_ ?_
    ·simp only;omega
    ·exact ⟨rfl,trivial⟩
    ·exact cP
    ·exact ⟨by omega,hA,hH⟩
   ·obtain rfl:j=g.ms.length:=by omega
    clear IH3
    rw [List.drop_length,List.map_nil,List.nil_append,hR2] at hA
    refine aK ?_
    replace hH:=hH.take 4
    replace hH:=aI hH
    refine IH2 (k+1,A,v) _ _ ?_ ?_ ?_ ?_
    ·simp only;omega
    ·exact ⟨rfl,trivial⟩
    ·exact cP
    ·exact ⟨by omega,hA,hH⟩
  ·obtain rfl:k=p.gs.length:=by omega
   clear IH2
   rw [← hcgl,List.drop_length,List.flatMap_nil,List.nil_append,hR1] at hA
   refine aK ?_
   replace hH:=hH.take 3
   replace hH:=aI hH
   refine IH (i+1,A,v) _ _ ?_ ?_ ?_ ?_
   ·simp only;omega
   ·exact ⟨rfl,trivial⟩
   ·exact cP
   ·exact ⟨by omega,hA,hH⟩
 ·obtain rfl:i=s.ps.length:=by omega
  clear IH
  rw [← hpl,List.drop_length,List.flatMap_nil,List.append_nil] at hA
  refine aK ?_
  refine aO ?_
  refine aA (aC ((Ab (.inr rfl) (hH.at 0 rfl))) rfl rfl ?_)
  rintro _ w9 ⟨rfl,hE9⟩
  refine aK ?_
  exact aM Tryz.func8 rfl ⟨by rw [← hA];rfl,KS hH.ext hE9 hbw⟩
end Go.Proofs.YtdbnmbkjmeepkaaGreatDoor
