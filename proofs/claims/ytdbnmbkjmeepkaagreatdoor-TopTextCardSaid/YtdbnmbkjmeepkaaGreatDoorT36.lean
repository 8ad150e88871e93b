/- A part of the proof of the card of TopText; no condition. -/
import Derived.Test.YtdbnmbkjmeepkaaGreatDoorT35
namespace Go.Proofs.YtdbnmbkjmeepkaaGreatDoor
open Go Go.K Go.P Go.RowKit Go.Proofs
set_option maxRecDepth 20000 in
set_option maxHeartbeats 8000000 in
theorem C5 {h:SH} {q ev fa:Int} {fo wa tu:Bool} {ma ta:Int} {l:List SM} {al:Option Addr} {cap:Nat} {w:World} (ho:h.ok) (hlo:∀ s∈l,s.ok) (hL:cI w al (l.flatMap SM.cells)) (hR:∀ s∈l,s.rd w) (hl30:l.length≤30) :
  aX Tryz.prog 6 #[.agg (Ac h q ev fa fo wa tu ma ta).toArray,.slice al l.length cap] w fun v w'=>∃ (s:ST) (c r:Nat) (a2:Option Addr) (n2 c2:Nat),v=.tuple #[.agg s.cells.toArray,.slice a2 n2 c2,.bool true]∧s.ok c r∧((1≤c∧c≤3)∧(1≤r∧r≤3)∧s.ps.length≤6)∧s.rd w'∧Ext [] w w':=by
 refine aL (args:=[_,_]) Tryz.func6 rfl rfl Tryz.ntmps6 rfl ?_
 have hH:=Hp.start w
 refine aK ?_
 refine aO ?_
 refine aA (bI (cs:=(Ac h q ev fa fo wa tu ma ta).toArray) hH rfl rfl rfl ?_)
 try clear hH
 intro _ b2 hH
 replace hH:=aI hH
 refine aK ?_
 refine aA (aQ (zs:=sz) hH (Ty.bH rfl) rfl ?_)
 clear hH
 intro _ b4 hH
 replace hH:=aI hH
 have hB2:=hH.b 0 rfl
 repeat (first|refine aR ?_|(refine aD (by refine aE rfl hB2 (by rw [List.size_toArray];exact qP ho) (Ty.aF rfl)) rfl ?_)|refine aT ?_)
 clear hB2
 refine aO ?_
 refine aA (aC ((qT ho)) rfl rfl ?_)
 rintro _ _ ⟨C,rfl,hC,⟨_,hc1,hc2⟩,⟨_,hr1,hr2⟩,_,hE⟩
 replace hH:=hH.aH hE
 clear hE
 obtain ⟨c,hCc,hc⟩:∃ c:Nat,C.h.c=c∧(1≤c∧c≤8):=⟨C.h.c.toNat,by omega,by omega⟩
 obtain ⟨r,hCr,hr⟩:∃ r:Nat,C.h.r=r∧(1≤r∧r≤8):=⟨C.h.r.toNat,by omega,by omega⟩
 have hc3:c≤3:=by omega
 have hr3:r≤3:=by omega
 have hcl:C.cells.length=139:=by rw [CF.cells,List.length_append,SH.bK hC.ho];rfl
 refine aK ?_
 refine aA (aQ (zs:=No) hH (Ty.bH rfl) rfl ?_)
 clear hH
 intro _ b7 hH
 replace hH:=aI hH
 refine aK ?_
 refine aA (aJ 2 (vs:=C.cells.toArray) (s:=139) hH rfl rfl rfl (by rw [List.size_toArray,hcl]) (by kernel_rfl) Ho (Ty.aF rfl) ?_)
 clear hH
 intro w0 hH
 replace hH:=aI hH
 have hB7:=hH.b 2 rfl
 have hlc:C.cells.toArray[0+0+0]?=some (.int .i64 c):=by rw [← hCc];rfl
 have hlr:C.cells.toArray[0+0+1]?=some (.int .i64 r):=by rw [← hCr];rfl
 refine aK ?_
 refine cD Ty.mixed 18 rfl (fun w1 hx1=>?_)
 refine aY 0 hx1 rfl (fun w' hw'=>by refine aE rfl (hB7.aH hw') (by rw [List.size_toArray,hcl]) (Ty.aF rfl)) ?_
 refine xN ?_
 refine uN ?_
 refine aY 3 hx1 rfl (fun w' hw'=>by refine aB rfl (hB7.aH hw') hlc (Ty.aF rfl)) ?_
 refine GX ?_
 refine Gf ?_
 refine aY 6 hx1 rfl (fun w' hw'=>by refine aB rfl (hB7.aH hw') hlr (Ty.aF rfl)) ?_
 refine bE 7 hx1 ?_
 replace hH:=hH.aH hx1
 clear hB7
 refine mX 8 14 (by kernel_rfl) rfl rfl rfl rfl ?_ ?_
 ·refine aC (tR (c:=c) (r:=r) (l:=l) (cap:=cap) hc hr hlo (hL.aH hH.ext) (fun s hs=>(hR s hs).aH hH.ext) hl30) rfl rfl ?_
  rintro _ w8 ⟨fs,af,cf,rfl,hfl,hfo,hQ⟩
  have hx8:=hx1.bO hQ.ext
  refine ⟨hx8,?_⟩
  have hA:=hQ.s 0 rfl
  have hF:∀ f∈fs,f.rd w8:=hQ.at 1 rfl
  replace hH:=hH.aH hQ.ext
  clear hQ
  refine mX 9 14 (by kernel_rfl) rfl rfl rfl rfl ?_ ?_
  ·refine aC (iZ (C:=C) (fs:=fs) (cap:=cf) hC hCc hCr hc hr (by omega) hfo hA hF) rfl rfl ?_
   rintro _ w9 ⟨s,a2,c2,rfl,hso,hsl,hQ⟩
   have hx9:=hx8.bO hQ.ext
   refine ⟨hx9,?_⟩
   replace hH:=hH.calls 0 hQ
   clear hQ
   replace hH:=aI hH
   refine bE 10 hx9 ?_
   refine bE 11 hx9 ?_
   refine bE 12 hx9 ?_
   refine bE 13 hx9 ?_
   refine bC 14 (by kernel_rfl) rfl rfl ?_
   refine dS (zs:=sz) (Ty.bH rfl) rfl ?_
   intro w14 b8 hb8 hE14 hB14 _
   have hx14:=hx9.bO hE14
   refine ⟨hx14,?_⟩
   have hsz:=hx9.size
   replace hH:=hH.nu (r:=Rb b8 34 sz.toArray) ⟨hE14,hB14,fun x hx=>by simp [Rb] at hx;omega⟩
   replace hH:=aI hH
   clear hA hF
   have dW:=gW (s:=s) hso.ho
   have hn8:w0.heap.size≤b8:=by omega
   refine bC 15 (by kernel_rfl) rfl rfl (dH (s:=132) (vs:=s.cells.toArray) rfl rfl (hH.b 5 rfl) (by rw [List.size_toArray,dW]) (by kernel_rfl) (iP s) (Ty.aF rfl) (fun w15 hE15 hB15 _=>?_))
   have hx15:=hx14.kS hE15 hn8
   refine ⟨hx15,?_⟩
   replace hH:=hH.up 5 rfl (r':=Rb b8 34 s.cells.toArray) ⟨hE15,hB15,fun _ hx=>.inl hx⟩
   replace hH:=aI hH
   refine bE 16 hx15 ?_
   refine bE 17 hx15 ?_
   refine aW (by kernel_rfl) ?_
   have hB8:=hH.b 5 rfl
   repeat (first|refine aR ?_|(refine aD (by refine aE rfl hB8 (by rw [List.size_toArray,dW]) (Ty.aF rfl)) rfl ?_)|refine aT ?_)
   clear hB8
   refine aA (aJ 3 (vs:=s.cells.toArray) (s:=132) hH rfl rfl rfl (by rw [List.size_toArray,dW]) (by kernel_rfl) (iP s) (Ty.aF rfl) ?_)
   clear hH
   intro _ hH
   replace hH:=aI hH
   refine aK ?_
   exact ML
  ·refine dS (zs:=sz) (Ty.bH rfl) rfl ?_
   intro w14 b8 hb8 hE14 hB14 _
   have hx14:=hx8.bO hE14
   refine ⟨hx14,?_⟩
   have hsz:=hx8.size
   replace hH:=hH.nu (r:=Rb b8 34 sz.toArray) ⟨hE14,hB14,fun x hx=>by simp [Rb] at hx;omega⟩
   replace hH:=aI hH
   replace hA:=hA.aH hE14
   replace hF:=fun f hf=>(hF f hf).ext hE14
   refine bC 9 (by kernel_rfl) rfl rfl ?_
   refine aC (iZ (C:=C) (fs:=fs) (cap:=cf) hC hCc hCr hc hr (by omega) hfo hA hF) rfl rfl ?_
   rintro _ w9 ⟨s,a2,c2,rfl,hso,hsl,hQ⟩
   have hx9:=hx14.bO hQ.ext
   refine ⟨hx9,?_⟩
   replace hH:=hH.calls 0 hQ
   clear hQ
   replace hH:=aI hH
   refine bE 10 hx9 ?_
   refine bE 11 hx9 ?_
   refine bE 12 hx9 ?_
   refine bE 13 hx9 ?_
   clear hA hF
   have dW:=gW (s:=s) hso.ho
   have hn8:w0.heap.size≤b8:=by omega
   refine bC 15 (by kernel_rfl) rfl rfl (dH (s:=132) (vs:=s.cells.toArray) rfl rfl (hH.b 5 rfl) (by rw [List.size_toArray,dW]) (by kernel_rfl) (iP s) (Ty.aF rfl) (fun w15 hE15 hB15 _=>?_))
   have hx15:=hx9.kS hE15 hn8
   refine ⟨hx15,?_⟩
   replace hH:=hH.up 5 rfl (r':=Rb b8 34 s.cells.toArray) ⟨hE15,hB15,fun _ hx=>.inl hx⟩
   replace hH:=aI hH
   refine bE 16 hx15 ?_
   refine bE 17 hx15 ?_
   refine aW (by kernel_rfl) ?_
   have hB8:=hH.b 5 rfl
   repeat (first|refine aR ?_|(refine aD (by refine aE rfl hB8 (by rw [List.size_toArray,dW]) (Ty.aF rfl)) rfl ?_)|refine aT ?_)
   clear hB8
   refine aA (aJ 3 (vs:=s.cells.toArray) (s:=132) hH rfl rfl rfl (by rw [List.size_toArray,dW]) (by kernel_rfl) (iP s) (Ty.aF rfl) ?_)
   clear hH
   intro _ hH
   replace hH:=aI hH
   refine aK ?_
   exact ML
 ·refine dS (zs:=sz) (Ty.bH rfl) rfl ?_
  intro w14 b8 hb8 hE14 hB14 _
  have hx14:=hx1.bO hE14
  refine ⟨hx14,?_⟩
  have hsz:=hx1.size
  replace hH:=hH.nu (r:=Rb b8 34 sz.toArray) ⟨hE14,hB14,fun x hx=>by simp [Rb] at hx;omega⟩
  replace hH:=aI hH
  refine bC 8 (by kernel_rfl) rfl rfl ?_
  refine aC (tR (c:=c) (r:=r) (l:=l) (cap:=cap) hc hr hlo (hL.aH hH.ext) (fun s hs=>(hR s hs).aH hH.ext) hl30) rfl rfl ?_
  rintro _ w8 ⟨fs,af,cf,rfl,hfl,hfo,hQ⟩
  have hx8:=hx14.bO hQ.ext
  refine ⟨hx8,?_⟩
  have hA:=hQ.s 0 rfl
  have hF:∀ f∈fs,f.rd w8:=hQ.at 1 rfl
  replace hH:=hH.aH hQ.ext
  clear hQ
  refine bC 9 (by kernel_rfl) rfl rfl ?_
  refine aC (iZ (C:=C) (fs:=fs) (cap:=cf) hC hCc hCr hc hr (by omega) hfo hA hF) rfl rfl ?_
  rintro _ w9 ⟨s,a2,c2,rfl,hso,hsl,hQ⟩
  have hx9:=hx8.bO hQ.ext
  refine ⟨hx9,?_⟩
  replace hH:=hH.calls 0 hQ
  clear hQ
  replace hH:=aI hH
  refine bE 10 hx9 ?_
  refine bE 11 hx9 ?_
  refine bE 12 hx9 ?_
  refine bE 13 hx9 ?_
  clear hA hF
  have dW:=gW (s:=s) hso.ho
  have hn8:w0.heap.size≤b8:=by omega
  refine bC 15 (by kernel_rfl) rfl rfl (dH (s:=132) (vs:=s.cells.toArray) rfl rfl (hH.b 5 rfl) (by rw [List.size_toArray,dW]) (by kernel_rfl) (iP s) (Ty.aF rfl) (fun w15 hE15 hB15 _=>?_))
  have hx15:=hx9.kS hE15 hn8
  refine ⟨hx15,?_⟩
  replace hH:=hH.up 5 rfl (r':=Rb b8 34 s.cells.toArray) ⟨hE15,hB15,fun _ hx=>.inl hx⟩
  replace hH:=aI hH
  refine bE 16 hx15 ?_
  refine bE 17 hx15 ?_
  refine aW (by kernel_rfl) ?_
  have hB8:=hH.b 5 rfl
  repeat (first|refine aR ?_|(refine aD (by refine aE rfl hB8 (by rw [List.size_toArray,dW]) (Ty.aF rfl)) rfl ?_)|refine aT ?_)
  clear hB8
  refine aA (aJ 3 (vs:=s.cells.toArray) (s:=132) hH rfl rfl rfl (by rw [List.size_toArray,dW]) (by kernel_rfl) (iP s) (Ty.aF rfl) ?_)
  clear hH
  intro _ hH
  replace hH:=aI hH
  refine aK ?_
  exact ML
abbrev sV (l:cV):Value:=.string ⟨l.toArray⟩
abbrev fV (l:List cV):List Value:=l.map sV
def GL (w:World):Prop:=Lib.TabIs Tryz.prog w "internal/strconv.uint64pow10" .u64 Lib.pow10Tab∧∃ m,w.cell? ⟨0,0,none⟩=some (.int .i64 m)
theorem JC {P:Program} {w w':World} {n:String} {cs:Array Value} (h:w.var? P n=some cs) (hE:Ext [] w w'):w'.var? P n=some cs:=by
 unfold World.var? at h ⊢
 cases hg:P.globalNamed n with
 | none=>rw [hg] at h;cases h
 | some g =>
  rw [hg] at h
  simp only [Option.bind_some] at h ⊢
  cases ho:w.heap[g]? with
  | none=>rw [ho] at h;cases h
  | some o =>
   have hlt:g<w.heap.size:=(Array.getElem?_eq_some_iff.1 ho).1
   rw [hE.block g hlt (by simp)]
   exact h
theorem GL.ext {w w':World} (h:GL w) (hE:Ext [] w w'):GL w':=by
 obtain ⟨h1,m,h2⟩:=h
 exact ⟨JC h1 hE,m,hE.cell h2 (by simp)⟩
theorem Gx {w:World} {k:Nat} {os:Array Obj}:Ext [] w (Go.Sort.grow (w.drewN k) os):=by
 refine ⟨rfl,rfl,rfl,?_,?_,fun b hb _=>?_⟩
 ·show w.heap.size≤(w.heap++os).size
  rw [Array.size_append];omega
 ·show w.drawn≤w.drawn+k
  omega
 ·show (w.heap++os)[b]?=_
  rw [Array.getElem?_append,if_pos hb]
theorem uQ {n:Int} {w:World} (hg:GL w) (hn:-9223372036854775808≤n∧n≤9223372036854775807):aX Tryz.prog 50 #[.int .i64 n] w fun v w'=>v=sV (Lib.itoa n)∧Ext [] w w':=by
 have h:=Tryz.strconv_Itoa n hn.1 hn.2 w hg.1
 refine .inl ⟨enters_of Tryz.func50 (by kernel_rfl) rfl _,h.mono fun e w' ⟨he,k,os,hw⟩=>⟨_,he,rfl,?_⟩⟩
 rw [hw]
 exact Gx
theorem DY {n:Int} {w:World} (hl:(Lib.itoa n).length≤18):aX Tryz.prog 72 #[sV (Lib.itoa n)] w fun v w'=>v=.tuple #[.int .i64 n,.nilIface]∧Ext [] w w':=by
 have h:=Tryz.strconv_Atoi ⟨(Lib.itoa n).toArray⟩ n hl (GD n) w
 refine .inl ⟨enters_of Tryz.func72 (by kernel_rfl) rfl _,h.mono fun e w' ⟨he,t,hw⟩=>⟨_,he,rfl,?_⟩⟩
 rw [hw]
 refine ⟨rfl,rfl,rfl,?_,?_,fun b hb _=>Lib.bytesWorld_at_old _ _ _ _ hb⟩
 ·simp [Lib.bytesWorld,World.freeze,World.alloc,World.drew,-World.alloc_eq,-World.drew_eq]
 ·simp [Lib.bytesWorld,World.freeze,World.alloc,World.drew,-World.alloc_eq,-World.drew_eq]
theorem sZ {c:UInt8} {x:cV} {r:List cV} {w:World} (hg:GL w) (h:∀ y∈x::r,c ∉ y) (hl:(Lib.join (x::r) [c]).length<4294967281):aX Tryz.prog 16 #[sV (Lib.join (x::r) [c]),.string ⟨#[c]⟩] w fun v w'=>∃ b,v=.slice (some ⟨b,0,none⟩) (r.length+1) (r.length+1)∧iA (Rb b 9 (fV (x::r)).toArray) w w':=by
 obtain ⟨m,hm⟩:=hg.2
 have h1:=Tryz.strings_Split ⟨(Lib.join (x::r) [c]).toArray⟩ ⟨#[c]⟩ m w hl hm (Nat.le_refl 1)
 obtain ⟨h2,h3⟩:=Dn h
 rw [h3,h2] at h1
 refine .inl ⟨enters_of Tryz.func16 (by kernel_rfl) rfl _,h1.mono fun e w' ⟨he,hw⟩=>⟨_,he,w.heap.size,rfl,?_⟩⟩
 rw [hw,List.map_map]
 refine ⟨⟨rfl,rfl,rfl,by simp [World.alloc,-World.alloc_eq],by simp [World.alloc,-World.alloc_eq],fun b hb _=>Below.heap_alloc _ _ _ hb⟩,?_,fun y hy=>by simp [Rb] at hy;omega⟩
 show (w.alloc _).heap[w.heap.size]?=_
 simp [World.alloc,-World.alloc_eq]
theorem rX {c:UInt8} {a b:cV} {w:World} (hg:GL w) (h:c ∉ a) (hl:(a++c::b).length<4294967281):aX Tryz.prog 114 #[sV (a++c::b),.string ⟨#[c]⟩] w fun v w'=>v=.tuple #[sV a,sV b,.bool true]∧Ext [] w w':=by
 obtain ⟨m,hm⟩:=hg.2
 have h1:=Tryz.strings_Cut ⟨(a++c::b).toArray⟩ ⟨#[c]⟩ m w hl hm
 have h2:Lib.cut (a++c::b) [c]=(a,b,true):=Hl h
 have h3:Lib.cut (⟨(a++c::b).toArray⟩:ByteArray).data.toList (⟨#[c]⟩:ByteArray).data.toList=(a,b,true):=h2
 rw [h3] at h1
 refine .inl ⟨enters_of Tryz.func114 (by kernel_rfl) rfl _,h1.mono fun e w' ⟨he,n,hw⟩=>⟨_,he,rfl,?_⟩⟩
 rw [hw]
 exact ⟨rfl,rfl,rfl,Nat.le_refl _,Nat.le_add_right _ _,fun _ _ _=>rfl⟩
theorem dP {n:Int} {w:World} (hg:GL w) (hn:-9223372036854775808≤n∧n≤9223372036854775807):aX Tryz.prog 23 #[.int .i64 n] w fun v w'=>v=sV (Lib.itoa n)∧Ext [] w w':=by
 refine aL (args:=[_]) Tryz.func23 rfl rfl Tryz.ntmps23 rfl ?_
 have hH:=Hp.start w
 refine aK ?_
 refine aO ?_
 refine aA (aC ((uQ hg hn)) rfl rfl ?_)
 rintro _ _ ⟨rfl,hE0⟩
 replace hH:=hH.aH hE0
 clear hE0
 replace hH:=aI hH
 refine aK ?_
 exact aM Tryz.func23 rfl ⟨rfl,hH.ext⟩
theorem oZ {b:Bool} {s t:cV} {w:World}:aX Tryz.prog 24 #[.bool b,sV s,sV t] w fun v w'=>v=sV (if b then s else t)∧Ext [] w w':=by
 refine aL (args:=[_,_,_]) Tryz.func24 rfl rfl Tryz.ntmps24 rfl ?_
 have hH:=Hp.start w
 cases b with
 | true =>
  refine aK ?_
  exact aM Tryz.func24 rfl ⟨rfl,hH.ext⟩
 | false =>
  refine aK ?_
  exact aM Tryz.func24 rfl ⟨rfl,hH.ext⟩
theorem MY (l m:cV):(⟨l.toArray⟩:ByteArray)++⟨m.toArray⟩=⟨(l++m).toArray⟩:=by
 apply ByteArray.ext
 simp
theorem zF {P:Program} {ρ:Fr} {w:World} {dst:Option Nat} {ty t u:TypeId} {pos:String} {af:Array Edge} {gd:Option (Nat × Bool)} {x y:Operand} {l m:cV} (hx:ev ρ x=sV l) (hy:ev ρ y=sV m) (hn:l.length+m.length≤2000000):cU P ρ ⟨dst,.binOp .add t x y u,ty,pos,af,gd⟩ w (sV (l++m)) w :=
 dB hx hy (aZ rfl) (by
  show (Op.stringOp .add ⟨l.toArray⟩ ⟨m.toArray⟩).run P w=_
  have h:¬ (((⟨l.toArray⟩:ByteArray).size+(⟨m.toArray⟩:ByteArray).size:Nat):Int) > IntKind.i64.max:=by
   show ¬ ((l.length+m.length:Nat):Int) > 9223372036854775807
   omega
  simp only [Op.stringOp]
  rw [if_neg h,Sem.run_pure,MY])
def kw:Nat→cV
 | 0=>[115,107,105,112]
 | 1=>[105,110,116,101,114]
 | 2=>[102,111,117,114]
 | 3=>[105,110,116,114,97]
 | _=>[102,114,101,115,104]
theorem vP {k:Nat} {w:World} (hk:k<5):aX Tryz.prog 51 #[.int .u8 k] w fun v w'=>v=sV (kw k)∧Ext [] w w':=by
 refine aL (args:=[_]) Tryz.func51 rfl rfl Tryz.ntmps51 rfl ?_
 have hH:=Hp.start w
 have hm:min (k:Int) 4=k:=by omega
 refine aK ?_
 refine aA (cN (out:=[sV (kw 0),sV (kw 1),sV (kw 2),sV (kw 3),sV (kw 4)]) hH (Ty.sle rfl) (Ty.bH rfl) rfl rfl rfl (by decide) rfl ?_)
 clear hH
 intro _ b3 hH
 replace hH:=aI hH
 have hS:=(hH.b 0 rfl).cX
 have hv:[sV (kw 0),sV (kw 1),sV (kw 2),sV (kw 3),sV (kw 4)][k]?=some (sV (kw k)):=by
  match k,hk with
  | 0,_=>rfl
  | 1,_=>rfl
  | 2,_=>rfl
  | 3,_=>rfl
  | 4,_=>rfl
 repeat (first|refine aR ?_|(refine aD (by first|refine (eK rfl rfl).is (congrArg (Value.int .u8) hm)|refine cG rfl rfl hS rfl (Ty.sle rfl) (by omega)|refine aU rfl hS hv (Ty.aF rfl)) rfl ?_)|refine aT ?_)
 exact aM Tryz.func51 rfl ⟨rfl,hH.ext⟩
theorem uA (ws:List cV) (x:cV):fV ws++[sV x]=fV (ws++[x]):=by simp
abbrev gT (l:List Nat):List cV:=l.map fun (n:Nat)=>Lib.itoa n
set_option maxHeartbeats 4000000 in
theorem wI {a:Option Addr} {cap:Nat} {l:List Nat} {w:World} (hg:GL w) (hl:l.length≤1000) (hb:gR l) (hS:cI w a (l.map B)):aX Tryz.prog 25 #[.slice a l.length cap] w fun v w'=>∃ a2 c2,v=.slice a2 l.length c2∧iA (Ro 9 1 a2 l.length c2 (fV (gT l))) w w':=by
 refine aL (args:=[_]) Tryz.func25 rfl rfl Tryz.ntmps25 rfl ?_
 have hH:=(Hp.start w).nu (iA.tY (e:=9) (sz:=1))
 have hll:(l.map B).length=l.length:=List.length_map _
 replace hH:=aI hH
 refine aK ?_
 refine aV (G:=(Nat) × (List cV) × (Option Addr) × (Nat)) (fun|(i,ws,a2,c2)=>l.length-i) 524072 (fun|(i,ws,a2,c2)=>[(3,.slice a2 i c2),(8,.int .i64 i)]) (fun|(i,ws,a2,c2),w'=>i≤l.length∧ws=gT (l.take i)∧Hp [] w w' [Ro 9 1 a2 i c2 (fV ws)]) (0,[],none,0) ⟨rfl,rfl,trivial⟩ ⟨by omega,rfl,hH⟩ ?_
 rintro ⟨i,ws,a2,c2⟩ w' σ ⟨hi,hws,hH⟩ IH
 show WS _ _ _ _ _ (bQ [(3,.slice a2 i c2),(8,.int .i64 i)] _) _
 by_cases hil:i<l.length
 ·obtain ⟨x,hx⟩:∃ x,l[i]?=some x:=⟨_,List.getElem?_eq_getElem hil⟩
  have hx8:x<256:=hb x (List.mem_of_getElem? hx)
  have hxB:(l.map B)[i]?=some (.int .u8 x):=by rw [List.getElem?_map,hx];rfl
  have hSS:=hS.aH hH.ext
  repeat (first|refine aR ?_|(refine aD (by first|refine cG rfl rfl hSS hll (Ty.sle rfl) (by omega)|refine aU rfl hSS hxB (Ty.aF rfl)) rfl ?_)|refine aT ?_)
  clear hSS
  refine aO ?_
  refine aA (aC ((dP (n:=(x:Int)) (hg.ext hH.ext) (by omega))) rfl rfl ?_)
  rintro _ _ ⟨rfl,hE0⟩
  replace hH:=hH.aH hE0
  clear hE0
  replace hH:=aI hH
  refine aA (cN (out:=[sV (Lib.itoa x)]) hH (Ty.sle rfl) (Ty.bH rfl) rfl rfl rfl (by decide) rfl ?_)
  clear hH
  intro _ blit hH
  replace hH:=aI hH
  refine aA (bZ 0 hH rfl (Ty.sle rfl) (Ty.bH rfl) rfl (Ty.gS rfl) (by decide) rfl rfl (hH.b 1 rfl).cX rfl (by simp [Value.oneCell']) (by omega) (by simp only [maxLen];omega) rfl ?_)
  clear hH
  intro _ a9 c9 hH
  replace hH:=hH.del 1
  replace hH:=aI hH
  rw [uA] at hH
  have hws2:ws++[Lib.itoa x]=gT (l.take (i+1)):=by
   rw [hws,List.take_add_one,hx];simp
  refine aK ?_
  refine IH (i+1,ws++[Lib.itoa x],a9,c9) _ _ ?_ ?_ ?_ ?_
  ·simp only;omega
  ·exact ⟨rfl,rfl,trivial⟩
  ·exact cP
  ·exact ⟨by omega,hws2,hH⟩
 ·obtain rfl:i=l.length:=by omega
  refine aK ?_
  rw [List.take_length] at hws
  rw [hws] at hH
  exact aM Tryz.func25 rfl ⟨a2,c2,rfl,hH.oA 0 rfl⟩
def dD (u:Value):cV:=Lib.itoa (whole (lV u).1)++44::Lib.itoa (whole (lV u).2)
theorem yB {u:Value} {w:World} (hg:GL w) (hu:VG u):aX Tryz.prog 52 #[u] w fun v w'=>v=sV (dD u)∧Ext [] w w':=by
 obtain ⟨x,y,_,_,rfl⟩:=hu
 refine aL (args:=[_]) Tryz.func52 rfl rfl Tryz.ntmps52 rfl ?_
 have hH:=Hp.start w
 have h1:=bU (lV (CV x y)).1
 have h2:=bU (lV (CV x y)).2
 have h3:=Lib.itoa_length_le (whole (lV (CV x y)).1) (by omega) (by omega)
 have h4:=Lib.itoa_length_le (whole (lV (CV x y)).2) (by omega) (by omega)
 refine aK ?_
 refine aO ?_
 refine aA (aC ((dK (a:=(lV (CV x y)).1) (b:=(lV (CV x y)).2))) rfl rfl ?_)
 rintro _ _ ⟨rfl,rfl⟩
 refine aK ?_
 refine aO ?_
 refine aA (aC ((dP (n:=whole (lV (CV x y)).1) (hg.ext hH.ext) (by omega))) rfl rfl ?_)
 rintro _ _ ⟨rfl,hE0⟩
 replace hH:=hH.aH hE0
 clear hE0
 replace hH:=aI hH
 repeat (first|(refine aD (by refine zF rfl rfl (by simp;omega)) rfl ?_)|refine aT ?_)
 refine aO ?_
 refine aA (aC ((dP (n:=whole (lV (CV x y)).2) (hg.ext hH.ext) (by omega))) rfl rfl ?_)
 rintro _ _ ⟨rfl,hE0⟩
 replace hH:=hH.aH hE0
 clear hE0
 replace hH:=aI hH
 repeat (first|refine aR ?_|(refine aD (by refine zF rfl rfl (by simp;omega)) rfl ?_)|refine aT ?_)
 exact aM Tryz.func52 rfl ⟨by unfold dD;simp;rfl,hH.ext⟩
def Gg (k i:Nat) (n:Int):cV:=Lib.itoa k++58::(Lib.itoa i++61::Lib.itoa n)
def qQ (L:List Int):Nat→List cV
 | 0=>[]
 | j+1=>qQ L j++(if L.getD j 0≠0 then [Gg (j / 64) (j % 64) (L.getD j 0)] else [])
def DC:cV:=[101,100,103,101]
def La:cV:=[113,112]
def wZ (m:MB):List cV:=if m.k=4 then [La,Lib.itoa m.q] else if m.k=1 then [dD m.u0] else if m.k=2 then [dD m.u0,dD m.u1,dD m.u2,dD m.u3] else []
def mC (m:MB):List cV:=kw m.k::(wZ m++((if m.e then [DC] else [])++qQ m.L 384))
theorem nW (L:List Int):∀ j,(qQ L j).length≤j
 | 0=>Nat.le_refl _
 | j+1=>by
  have:=nW L j
  unfold qQ
  rw [List.length_append]
  split<;>simp<;>omega
theorem Kt {A:Prop} {Y:Fr→List cV→Option Addr→Nat→World→Prop} (Z:List cV→Option Addr→Nat→World→Prop) (h1:(∀ σ ws a c u,Z ws a c u→Y σ ws a c u)→A) (h2:∀ σ ws a c u,Z ws a c u→Y σ ws a c u):A:=h1 h2
theorem AR {S:List Nat} {W w:World} {H:List cK} {b:Nat} {l:List cV} (i:Nat) (h:Hp S W w H) (hi:H[i]?=some (Rb b 9 (fV l).toArray)) (hl:l.length≤100000):Hp S W w (H.set i (Ro 9 1 (some ⟨b,0,none⟩) l.length l.length (fV l))) :=
 h.as i hi (fun _ hx=>hx) (fun hB=>cL.own (sz:=1) (n:=l.length) hB (by simp) (by omega))
set_option maxRecDepth 20000 in
set_option maxHeartbeats 8000000 in
theorem B2 {m:MB} {w:World} (hg:GL w) (hm:m.ok):aX Tryz.prog 26 #[.agg m.cells.toArray] w fun v w'=>∃ a c,v=.slice a (mC m).length c∧iA (Ro 9 1 a (mC m).length c (fV (mC m))) w w':=by
 refine aL (args:=[_]) Tryz.func26 rfl rfl Tryz.ntmps26 rfl ?_
 have hH:=Hp.start w
 have hml:m.cells.length=391:=bL hm.len
 have hk5:=hm.k5
 have hq:=hm.q1
 refine aK ?_
 refine aO ?_
 refine aA (bI (cs:=m.cells.toArray) hH rfl rfl rfl ?_)
 try clear hH
 intro _ b1 hH
 replace hH:=aI hH
 have hB1:=hH.b 0 rfl
 repeat (first|refine aR ?_|(refine aD (by first|refine aG rfl|refine aN rfl (Ty.bA rfl rfl)|refine aB (v:=.int .u8 m.k) rfl hB1 rfl (Ty.aF rfl)) rfl ?_)|refine aT ?_)
 clear hB1
 refine aO ?_
 refine aA (aC ((vP hk5)) rfl rfl ?_)
 rintro _ _ ⟨rfl,hE0⟩
 replace hH:=hH.aH hE0
 clear hE0
 replace hH:=aI hH
 refine aA (cN (out:=[sV (kw m.k)]) hH (Ty.sle rfl) (Ty.bH rfl) rfl rfl rfl (by decide) rfl ?_)
 clear hH
 intro _ b3 hH
 replace hH:=AR (l:=[kw m.k]) 1 hH rfl (Nat.le_of_ble_eq_true rfl)
 replace hH:=aI hH
 have hB1:=hH.b 0 rfl
 repeat (first|refine aR ?_|(refine aD (by first|refine aG rfl|refine aN rfl (Ty.bA rfl rfl)|refine aB (v:=.int .u8 m.k) rfl hB1 rfl (Ty.aF rfl)) rfl ?_)|refine aT ?_)
 apply Kt (Z:=fun ws a c u=>ws=kw m.k::wZ m∧Hp [] w u [Rb b1 95 m.cells.toArray,Ro 9 1 a ws.length c (fV ws)])
 ·intro key
  by_cases h4:m.k=4
  ·repeat (first|refine aR ?_|(refine aD (by first|refine aG rfl|refine aN rfl (Ty.bA rfl rfl)|refine aB (v:=.int .i64 m.q) rfl hB1 rfl (Ty.aF rfl)) rfl ?_)|refine aT ?_)
   try clear hB1
   refine aO ?_
   refine aA (aC ((dP (n:=m.q) (hg.ext hH.ext) (by omega))) rfl rfl ?_)
   rintro _ _ ⟨rfl,hE0⟩
   replace hH:=hH.aH hE0
   clear hE0
   replace hH:=aI hH
   refine aA (cN (out:=[sV La,sV (Lib.itoa m.q)]) hH (Ty.sle rfl) (Ty.bH rfl) rfl rfl rfl (by decide) rfl ?_)
   try clear hH
   intro _ blit hH
   replace hH:=aI hH
   refine aA (bZ 1 hH rfl (Ty.sle rfl) (Ty.bH rfl) rfl (Ty.gS rfl) (by decide) rfl rfl (hH.b 2 rfl).cX rfl (by simp [Value.oneCell']) (by simp) (by simp [maxLen]) rfl ?_)
   try clear hH
   intro _ a9 c9 hH
   replace hH:=hH.take 2
   replace hH:=aI hH
   repeat (first|refine aR ?_|(refine aD (by first|refine aG rfl|refine aN rfl (Ty.bA rfl rfl)) rfl ?_)|refine aT ?_)
   obtain ⟨w9,hw9⟩:∃ z,kw m.k::[La,Lib.itoa m.q]=z:=⟨_,rfl⟩
   obtain ⟨a9',ha9⟩:∃ z:Option Addr,a9=z:=⟨_,rfl⟩
   obtain ⟨c9',hc9⟩:∃ z:Nat,c9=z:=⟨_,rfl⟩
   replace hH:=Hp.eqv (r':=Ro 9 1 a9' w9.length c9' (fV w9)) 1 hH rfl (by rw [← hw9,← ha9,← hc9];try rfl)
   replace hH:=aI hH
   exact eU fun u' hu=>cJ [(1,pt b1),(3,.slice a9' w9.length c9'),(46,.pointer (some ⟨b1,0+6,none⟩))] ⟨rfl,by rw [← hw9,← ha9,← hc9];rfl,rfl,trivial⟩ (fun σ=>key σ w9 a9' c9' u' ⟨by rw [← hw9,wZ,if_pos h4],hu▸hH⟩)
  by_cases h1:m.k=1
  ·repeat (first|refine aR ?_|(refine aD (by first|refine aG rfl|refine aN rfl (Ty.bA rfl rfl)|refine bD rfl rfl (Ty.arr rfl) (by omega)|refine aB (v:=m.u0) rfl hB1 rfl (Ty.aF rfl)) rfl ?_)|refine aT ?_)
   try clear hB1
   refine aO ?_
   refine aA (aC ((yB (hg.ext hH.ext) hm.g0)) rfl rfl ?_)
   rintro _ _ ⟨rfl,hE0⟩
   replace hH:=hH.aH hE0
   clear hE0
   replace hH:=aI hH
   refine aA (cN (out:=[sV (dD m.u0)]) hH (Ty.sle rfl) (Ty.bH rfl) rfl rfl rfl (by decide) rfl ?_)
   try clear hH
   intro _ blit hH
   replace hH:=aI hH
   refine aA (bZ 1 hH rfl (Ty.sle rfl) (Ty.bH rfl) rfl (Ty.gS rfl) (by decide) rfl rfl (hH.b 2 rfl).cX rfl (by simp [Value.oneCell']) (by simp) (by simp [maxLen]) rfl ?_)
   try clear hH
   intro _ a9 c9 hH
   replace hH:=hH.take 2
   replace hH:=aI hH
   repeat (first|refine aR ?_|(refine aD (by first|refine aG rfl|refine aN rfl (Ty.bA rfl rfl)) rfl ?_)|refine aT ?_)
   obtain ⟨w9,hw9⟩:∃ z,kw m.k::[dD m.u0]=z:=⟨_,rfl⟩
   obtain ⟨a9',ha9⟩:∃ z:Option Addr,a9=z:=⟨_,rfl⟩
   obtain ⟨c9',hc9⟩:∃ z:Nat,c9=z:=⟨_,rfl⟩
   replace hH:=Hp.eqv (r':=Ro 9 1 a9' w9.length c9' (fV w9)) 1 hH rfl (by rw [← hw9,← ha9,← hc9];try rfl)
   replace hH:=aI hH
   exact eU fun u' hu=>cJ [(1,pt b1),(3,.slice a9' w9.length c9'),(46,.pointer (some ⟨b1,0+6,none⟩))] ⟨rfl,by rw [← hw9,← ha9,← hc9];rfl,rfl,trivial⟩ (fun σ=>key σ w9 a9' c9' u' ⟨by rw [← hw9,wZ,if_neg h4,if_pos h1],hu▸hH⟩)
  by_cases h2:m.k=2
  ·have hS1:cI _ (some ⟨b1,0,none⟩) m.cells:=hB1.cX
   repeat (first|refine aR ?_|(refine aD (by first|refine aG rfl|refine aN rfl (Ty.bA rfl rfl)|refine bG (j:=0+2) (cs:=[m.u0,m.u1,m.u2,m.u3]) rfl hS1 rfl rfl (Ty.aF rfl)) rfl ?_)|refine aT ?_)
   refine aV (G:=(Nat) × (List cV) × (Option Addr) × (Nat)) (fun|(i,ws,a3,c3)=>4-i) 70231305224232 (fun|(i,ws,a3,c3)=>[(3,.slice a3 ws.length c3),(37,.int .i64 i)]) (fun|(i,ws,a3,c3),w'=>i≤4∧ws=kw m.k::([dD m.u0,dD m.u1,dD m.u2,dD m.u3].take i)∧Hp [] w w' [Rb b1 95 m.cells.toArray,Ro 9 1 a3 ws.length c3 (fV ws)]) (0,[kw m.k],some ⟨b3,0,none⟩,1) ⟨rfl,rfl,trivial⟩ ⟨by omega,rfl,hH⟩ ?_
   rintro ⟨i,ws,a3,c3⟩ w' σ ⟨hi,hws,hH⟩ IH
   show WS _ _ _ _ _ (bQ [(3,.slice a3 ws.length c3),(37,.int .i64 i)] _) _
   by_cases hi4:i<4
   ·have hwl:ws.length=i+1:=by rw [hws];simp;omega
    obtain ⟨u,hu,hvu,hwu⟩:∃ u,#[m.u0,m.u1,m.u2,m.u3][i]?=some u∧VG u∧[dD m.u0,dD m.u1,dD m.u2,dD m.u3][i]?=some (dD u):=by
     match i,hi4 with
     | 0,_=>exact ⟨m.u0,rfl,hm.g0,rfl⟩
     | 1,_=>exact ⟨m.u1,rfl,hm.g1,rfl⟩
     | 2,_=>exact ⟨m.u2,rfl,hm.g2,rfl⟩
     | 3,_=>exact ⟨m.u3,rfl,hm.g3,rfl⟩
    repeat (first|refine aR ?_|(refine aD (by refine cB rfl rfl (Ty.arr rfl) (by omega) hu) rfl ?_)|refine aT ?_)
    refine aO ?_
    refine aA (aC ((yB (hg.ext hH.ext) hvu)) rfl rfl ?_)
    rintro _ _ ⟨rfl,hE0⟩
    replace hH:=hH.aH hE0
    clear hE0
    replace hH:=aI hH
    refine aA (cN (out:=[sV (dD u)]) hH (Ty.sle rfl) (Ty.bH rfl) rfl rfl rfl (by decide) rfl ?_)
    try clear hH
    intro _ blit hH
    replace hH:=aI hH
    refine aA (bZ 1 hH rfl (Ty.sle rfl) (Ty.bH rfl) rfl (Ty.gS rfl) (by decide) rfl rfl (hH.b 2 rfl).cX rfl (by simp [Value.oneCell']) (by omega) (by simp only [maxLen];omega) rfl ?_)
    try clear hH
    intro _ a9 c9 hH
    replace hH:=hH.take 2
    replace hH:=aI hH
    rw [uA] at hH
    have hws2:ws++[dD u]=kw m.k::([dD m.u0,dD m.u1,dD m.u2,dD m.u3].take (i+1)):=by
     rw [hws,List.take_add_one,hwu];first|done|rfl
    have hwl2:(ws++[dD u]).length=ws.length+1:=by simp
    rw [← hwl2] at hH
    refine aK ?_
    refine IH (i+1,ws++[dD u],a9,c9) _ _ ?_ ?_ ?_ ?_
    ·simp only;omega
    ·exact ⟨by rw [hwl2];rfl,rfl,trivial⟩
    ·exact cP
    ·exact ⟨by omega,hws2,hH⟩
   ·obtain rfl:i=4:=by omega
    repeat (first|refine aR ?_|(refine aD (by first|refine aG rfl|refine aN rfl (Ty.bA rfl rfl)) rfl ?_)|refine aT ?_)
    rw [show [dD m.u0,dD m.u1,dD m.u2,dD m.u3].take 4=[dD m.u0,dD m.u1,dD m.u2,dD m.u3] from rfl] at hws
    obtain ⟨w9,hw9⟩:∃ z,ws=z:=⟨_,rfl⟩
    obtain ⟨a9',ha9⟩:∃ z:Option Addr,a3=z:=⟨_,rfl⟩
    obtain ⟨c9',hc9⟩:∃ z:Nat,c3=z:=⟨_,rfl⟩
    replace hH:=Hp.eqv (r':=Ro 9 1 a9' w9.length c9' (fV w9)) 1 hH rfl (by rw [← hw9,← ha9,← hc9];try rfl)
    replace hH:=aI hH
    exact eU fun u' hu=>cJ [(1,pt b1),(3,.slice a9' w9.length c9'),(46,.pointer (some ⟨b1,0+6,none⟩))] ⟨rfl,by rw [← hw9,← ha9,← hc9];rfl,rfl,trivial⟩ (fun σ=>key σ w9 a9' c9' u' ⟨by rw [← hw9,hws,wZ,if_neg h4,if_neg h1,if_pos h2],hu▸hH⟩)
  ·repeat (first|refine aR ?_|(refine aD (by first|refine aG rfl|refine aN rfl (Ty.bA rfl rfl)) rfl ?_)|refine aT ?_)
   obtain ⟨w9,hw9⟩:∃ z,[kw m.k]=z:=⟨_,rfl⟩
   obtain ⟨a9',ha9⟩:∃ z:Option Addr,some ⟨b3,0,none⟩=z:=⟨_,rfl⟩
   obtain ⟨c9',hc9⟩:∃ z:Nat,1=z:=⟨_,rfl⟩
   replace hH:=Hp.eqv (r':=Ro 9 1 a9' w9.length c9' (fV w9)) 1 hH rfl (by rw [← hw9,← ha9,← hc9];try rfl)
   replace hH:=aI hH
   exact eU fun u' hu=>cJ [(1,pt b1),(3,.slice a9' w9.length c9'),(46,.pointer (some ⟨b1,0+6,none⟩))] ⟨rfl,by rw [← hw9,← ha9,← hc9];rfl,rfl,trivial⟩ (fun σ=>key σ w9 a9' c9' u' ⟨by rw [← hw9,wZ,if_neg h4,if_neg h1,if_neg h2],hu▸hH⟩)
 clear hH hB1
 rintro σ ws a c w5 ⟨hws,hH⟩
 have hw5:ws.length≤5:=by
  rw [hws,List.length_cons]
  unfold wZ
  split
  ·simp
  ·split
   ·simp
   ·split<;>simp
 have hB1:=hH.b 0 rfl
 apply Kt (Z:=fun ws2 a c u=>ws2=ws++(if m.e then [DC] else [])∧Hp [] w u [Rb b1 95 m.cells.toArray,Ro 9 1 a ws2.length c (fV ws2)])
 ·intro key
  obtain ⟨me,hme⟩:∃ b,m.e=b:=⟨_,rfl⟩
  cases me with
  | false =>
   repeat (first|refine aR ?_|(refine aD (by first|refine aG rfl|refine aN rfl (Ty.bA rfl rfl)|refine (aB (v:=.bool m.e) rfl hB1 rfl (Ty.aF rfl)).is (congrArg Value.bool hme)) rfl ?_)|refine aT ?_)
   obtain ⟨w9,hw9⟩:∃ z,ws=z:=⟨_,rfl⟩
   obtain ⟨a9',ha9⟩:∃ z:Option Addr,a=z:=⟨_,rfl⟩
   obtain ⟨c9',hc9⟩:∃ z:Nat,c=z:=⟨_,rfl⟩
   replace hH:=Hp.eqv (r':=Ro 9 1 a9' w9.length c9' (fV w9)) 1 hH rfl (by rw [← hw9,← ha9,← hc9])
   replace hH:=aI hH
   exact eU fun u' hu=>cJ [(1,pt b1),(3,.slice a9' w9.length c9'),(51,.pointer (some ⟨b1,0+7,none⟩))] ⟨rfl,by rw [← hw9,← ha9,← hc9];first|rfl|(rw [hwl2];rfl),rfl,trivial⟩ (fun σ=>key σ w9 a9' c9' u' ⟨by rw [← hw9,hme];simp,hu▸hH⟩)
  | true =>
   repeat (first|refine aR ?_|(refine aD (by first|refine aG rfl|refine aN rfl (Ty.bA rfl rfl)|refine (aB (v:=.bool m.e) rfl hB1 rfl (Ty.aF rfl)).is (congrArg Value.bool hme)) rfl ?_)|refine aT ?_)
   refine aA (cN (out:=[sV DC]) hH (Ty.sle rfl) (Ty.bH rfl) rfl rfl rfl (by decide) rfl ?_)
   try clear hH
   intro _ blit hH
   replace hH:=aI hH
   refine aA (bZ 1 hH rfl (Ty.sle rfl) (Ty.bH rfl) rfl (Ty.gS rfl) (by decide) rfl rfl (hH.b 2 rfl).cX rfl (by simp [Value.oneCell']) (by omega) (by simp only [maxLen];omega) rfl ?_)
   try clear hH
   intro _ a9 c9 hH
   replace hH:=hH.take 2
   replace hH:=aI hH
   rw [uA] at hH
   have hwl2:(ws++[DC]).length=ws.length+1:=by simp
   rw [← hwl2] at hH
   repeat (first|refine aR ?_|(refine aD (by first|refine aG rfl|refine aN rfl (Ty.bA rfl rfl)) rfl ?_)|refine aT ?_)
   obtain ⟨w9,hw9⟩:∃ z,ws++[DC]=z:=⟨_,rfl⟩
   obtain ⟨a9',ha9⟩:∃ z:Option Addr,a9=z:=⟨_,rfl⟩
   obtain ⟨c9',hc9⟩:∃ z:Nat,c9=z:=⟨_,rfl⟩
   replace hH:=Hp.eqv (r':=Ro 9 1 a9' w9.length c9' (fV w9)) 1 hH rfl (by rw [← hw9,← ha9,← hc9])
   replace hH:=aI hH
   exact eU fun u' hu=>cJ [(1,pt b1),(3,.slice a9' w9.length c9'),(51,.pointer (some ⟨b1,0+7,none⟩))] ⟨rfl,by rw [← hw9,← ha9,← hc9];first|rfl|(rw [hwl2];rfl),rfl,trivial⟩ (fun σ=>key σ w9 a9' c9' u' ⟨by rw [← hw9,hme];simp,hu▸hH⟩)
 clear hH hB1
 rintro σ ws2 a c w5 ⟨hws2,hH⟩
 have hw6:ws2.length≤6:=by
  rw [hws2,List.length_append]
  split<;>simp<;>omega
 obtain ⟨n0,hn0⟩:∃ n,ws2.length=n:=⟨_,rfl⟩
 have hmd:((m.cells).drop (0+7)).take 384=m.L.map (Value.int .i64):=by
  rw [rA,List.take_of_length_le (by rw [List.length_map,hm.len];exact Nat.le_refl _)]
 have hS1:cI _ (some ⟨b1,0,none⟩) m.cells:=(hH.b 0 rfl).cX
 repeat (first|refine aR ?_|(refine aD (by first|refine aG rfl|refine aN rfl (Ty.bA rfl rfl)|refine bG (j:=0+7) (cs:=m.L.map (Value.int .i64)) rfl hS1 hmd (by rw [List.length_map,hm.len]) (Ty.aF rfl)) rfl ?_)|refine aT ?_)
 clear hS1
 refine aV (G:=(Nat) × (List cV) × (Option Addr) × (Nat)) (fun|(k,wv,a3,c3)=>6-k) 604462900800115332613064 (fun|(k,wv,a3,c3)=>[(3,.slice a3 wv.length c3),(53,.int .i64 k)]) (fun|(k,wv,a3,c3),w'=>k≤6∧wv=ws2++qQ m.L (k*64)∧Hp [] w w' [Rb b1 95 m.cells.toArray,Ro 9 1 a3 wv.length c3 (fV wv)]) (0,ws2,a,c) ⟨rfl,rfl,trivial⟩ ⟨by omega,by simp [qQ],hH⟩ ?_
 rintro ⟨k,wv,a3,c3⟩ w' σ ⟨hk,hwv,hH⟩ IH
 show WS _ _ _ _ _ (bQ [(3,.slice a3 wv.length c3),(53,.int .i64 k)] _) _
 by_cases hk6:k<6
 ·have hex:=wJ (L:=m.L) (b:=k)
  have hrl:=pU hm.len hk6
  repeat (first|refine aR ?_|(refine aD (by refine (gY rfl rfl (Ty.arr rfl) (by omega)).is (congrArg Value.agg hex)) rfl ?_)|refine aT ?_)
  refine aA (aQ (zs:=List.replicate 64 (.int .i64 0)) hH (Ty.bH rfl) rfl ?_)
  clear hH
  intro _ b7 hH
  replace hH:=aI hH
  refine aK ?_
  refine aA (aJ 2 (vs:=((row m.L k).map (Value.int .i64)).toArray) (s:=64) hH rfl rfl rfl (by simp [hrl]) rfl (by simp [Value.oneCell']) (Ty.aF rfl) ?_)
  clear hH
  intro _ hH
  replace hH:=aI hH
  have hB7:=hH.b 2 rfl
  repeat (first|refine aR ?_|(refine aD (by refine aE rfl hB7 (by simp [hrl]) (Ty.aF rfl)) rfl ?_)|refine aT ?_)
  clear hB7
  refine aV (G:=(Nat) × (List cV) × (Option Addr) × (Nat)) (fun|(i,wv,a3,c3)=>64-i) 302231166673281141965576 (fun|(i,wv,a3,c3)=>[(3,.slice a3 wv.length c3),(58,.int .i64 i)]) (fun|(i,wv,a3,c3),w'=>i≤64∧wv=ws2++qQ m.L (k*64+i)∧Hp [] w w' [Rb b1 95 m.cells.toArray,Ro 9 1 a3 wv.length c3 (fV wv),Rb b7 92 ((row m.L k).map (Value.int .i64)).toArray]) (0,wv,a3,c3) ⟨rfl,rfl,trivial⟩ ⟨by omega,hwv,hH⟩ ?_
  rintro ⟨i,wv,a3,c3⟩ w' σ ⟨hi,hwv,hH⟩ IH2
  show WS _ _ _ _ _ (bQ [(3,.slice a3 wv.length c3),(58,.int .i64 i)] _) _
  by_cases hi64:i<64
  ·have hlen:=nW m.L (k*64+i)
   have hwl:wv.length≤400:=by rw [hwv,List.length_append];omega
   have hji:k*64+i<m.L.length:=by rw [hm.len];omega
   obtain ⟨n,hn⟩:∃ n,m.L[k*64+i]?=some n:=⟨_,List.getElem?_eq_getElem hji⟩
   have hnb:=(hm.lv _ _ hn).1
   have hgd:m.L.getD (k*64+i) 0=n:=by rw [List.getD_eq_getElem?_getD,hn];rfl
   have hrn:((row m.L k).map (Value.int .i64)).toArray[i]?=some (.int .i64 n):=by
    rw [List.getElem?_toArray,List.getElem?_map,wG hi64,hn];rfl
   have hkd:(k*64+i) / 64=k:=by omega
   have hkm:(k*64+i) % 64=i:=by omega
   by_cases hn0:n=0
   ·repeat (first|refine aR ?_|(refine aD (by refine cB rfl rfl (Ty.arr rfl) (by omega) hrn) rfl ?_)|refine aT ?_)
    have hl:qQ m.L (k*64+i+1)=qQ m.L (k*64+i):=by
     rw [qQ,hgd,hn0];simp
    refine IH2 (i+1,wv,a3,c3) _ _ ?_ ?_ ?_ ?_
    ·simp only;omega
    ·exact ⟨rfl,rfl,trivial⟩
    ·exact cP
    ·exact ⟨by omega,by rw [← Nat.add_assoc,hl];exact hwv,hH⟩
   ·have h1:=Lib.itoa_length_le (k:Int) (by omega) (by omega)
    have h2:=Lib.itoa_length_le (i:Int) (by omega) (by omega)
    have h3:=Lib.itoa_length_le n (by omega) (by omega)
    repeat (first|refine aR ?_|(refine aD (by refine cB rfl rfl (Ty.arr rfl) (by omega) hrn) rfl ?_)|refine aT ?_)
    refine aO ?_
    refine aA (aC ((dP (n:=(k:Int)) (hg.ext hH.ext) (by omega))) rfl rfl ?_)
    rintro _ _ ⟨rfl,hE0⟩
    replace hH:=hH.aH hE0
    clear hE0
    replace hH:=aI hH
    repeat (first|refine aR ?_|(refine aD (by refine zF rfl rfl (by simp;omega)) rfl ?_)|refine aT ?_)
    refine aO ?_
    refine aA (aC ((dP (n:=(i:Int)) (hg.ext hH.ext) (by omega))) rfl rfl ?_)
    rintro _ _ ⟨rfl,hE0⟩
    replace hH:=hH.aH hE0
    clear hE0
    replace hH:=aI hH
    repeat (first|refine aR ?_|(refine aD (by refine zF rfl rfl (by simp;omega)) rfl ?_)|refine aT ?_)
    refine aO ?_
    refine aA (aC ((dP (n:=n) (hg.ext hH.ext) (by omega))) rfl rfl ?_)
    rintro _ _ ⟨rfl,hE0⟩
    replace hH:=hH.aH hE0
    clear hE0
    replace hH:=aI hH
    repeat (first|refine aR ?_|(refine aD (by refine zF rfl rfl (by simp;omega)) rfl ?_)|refine aT ?_)
    refine aA (cN (out:=[sV (Lib.itoa k++[58]++Lib.itoa i++[61]++Lib.itoa n)]) hH (Ty.sle rfl) (Ty.bH rfl) rfl rfl rfl (by decide) rfl ?_)
    clear hH
    intro _ blit hH
    replace hH:=aI hH
    refine aA (bZ 1 hH rfl (Ty.sle rfl) (Ty.bH rfl) rfl (Ty.gS rfl) (by decide) rfl rfl (hH.b 3 rfl).cX rfl (by simp [Value.oneCell']) (by omega) (by simp only [maxLen];omega) rfl ?_)
    clear hH
    intro _ a9 c9 hH
    replace hH:=hH.take 3
    replace hH:=aI hH
    have hlw:Lib.itoa k++[58]++Lib.itoa i++[61]++Lib.itoa n=Gg k i n:=by simp [Gg]
    rw [uA,hlw] at hH
    have hwl2:(wv++[Gg k i n]).length=wv.length+1:=by simp
    rw [← hwl2] at hH
    have hl:qQ m.L (k*64+i+1)=qQ m.L (k*64+i)++[Gg k i n]:=by
     rw [qQ,hgd,if_pos hn0,hkd,hkm]
    refine aK ?_
    refine IH2 (i+1,wv++[Gg k i n],a9,c9) _ _ ?_ ?_ ?_ ?_
    ·simp only;omega
    ·exact ⟨by rw [hwl2];rfl,rfl,trivial⟩
    ·exact cP
    ·exact ⟨by omega,by rw [← Nat.add_assoc,hl,hwv,List.append_assoc],hH⟩
  ·obtain rfl:i=64:=by omega
   clear IH2
   refine aK ?_
   replace hH:=hH.take 2
   refine IH (k+1,wv,a3,c3) _ _ ?_ ?_ ?_ ?_
   ·simp only;omega
   ·exact ⟨rfl,rfl,trivial⟩
   ·exact cP
   ·exact ⟨by omega,by rw [Nat.succ_mul];exact hwv,hH⟩
 ·obtain rfl:k=6:=by omega
  clear IH
  refine aK ?_
  have hfin:wv=mC m:=by
   rw [hwv,hws2,hws]
   simp [mC]
  rw [hfin] at hH
  exact aM Tryz.func26 rfl ⟨a3,c3,by rw [← hfin];rfl,hH.oA 1 rfl⟩
end Go.Proofs.YtdbnmbkjmeepkaaGreatDoor
