/- The law TopWorse: with more fates no less is damaged, at every input; no condition. -/
import Derived.Test.YtpbiicegmcpkpaaGreatT40
import Derived.Test.YtpbiicegmcpkpaaGreatRows
namespace Go.Proofs.YtpbiicegmcpkpaaGreat
open Go Go.K Go.P Go.RowKit Go.Proofs Go.ChangeShapes Go.WideShapes Go.ChangeAt
set_option maxHeartbeats 4000000 in
theorem topworse_spec {h:SH} {a b al ab:Option Addr} {n k m p nl cl nb cb:Nat} {P:List PZ} {Z:List (List Value)} {l:List FS} {bs:List Bool} {w:World} (ho:h.ok) (hP:SlA w a (P.flatMap pzc)) (hPl:P.length=n) (hnk:n≤k) (hPo:∀ z∈P,pzok z) (hZ:SlA w b (Z.flatMap id)) (hZl:Z.length=m) (hz:∀ z∈Z,ZM z)
  (hL:SlA w al (l.flatMap FS.cells)) (hll:l.length=nl) (hn2:nl≤9223372036854775807) (hlr:∀ f∈l,f.rd w) (hb:SlA w ab (bs.map Value.bool)) (hbl:bs.length=nb) :
  Does Tryz.prog 3 #[.agg (smc h.cells a b n k m p).toArray,.slice al nl cl,.slice ab nb cb] w fun v w'=>v=.bool true∧Ext [] w w' :=
 have hl:=SH.cells_len ho
 top_spec (Q:=n≤30∧m≤300) (by rw [smc,List.length_append,hl];rfl) awake29 (fun _ hE=>tlight_spec hl (hL.ext0 hE) hll hn2)
  (fun hq _ hE=>stream_spec ho (hP.ext0 hE) hPl hnk hPo (hZ.ext0 hE) hZl hz hq.1 hq.2) hL hll hlr hb hbl
abbrev TbD:Desc:=.str (.cons .bool (.cons (.arr 64 (.int .u8)) (.cons (.arr 64 (.int .u8)) .nil)))
abbrev HdD:Desc:=.str (.cons (.int .i64) (.cons (.int .i64) (.cons TbD .nil)))
abbrev SmD:Desc:=.str (.cons (.int .u8) (.cons (.int .u8) (.cons (.str (.cons (.arr 4 (.int .i8)) (.cons (.arr 4 (.int .i8)) (.cons .bool .nil)))) (.cons .bool (.cons (.arr 6 (.int .u64)) (.cons (.int .u32) (.cons .bool .nil)))))))
abbrev PzD:Desc:=.str (.cons .bool (.cons .bool (.cons (.int .u8) (.cons (.int .u8) .nil))))
abbrev ScD:Desc:=.str (.cons HdD (.cons (.sl PzD) (.cons (.sl SmD) .nil)))
abbrev FsD:Desc:=.str (.cons (.int .u8) (.cons (.int .u16) (.cons (.int .u16) (.cons (.sl (.int .u16)) (.cons (.sl (.int .u8)) .nil)))))
theorem rd_list {α:Type} {f:α→List Value} {Q:α→Prop}:∀ {ess:List (List Value)},(∀ e∈ess,∃ x,e=f x∧Q x)→∃ l:List α,l.length=ess.length∧ess.flatten=l.flatMap f∧∀ x∈l,Q x
 | [],_=>⟨[],rfl,rfl,by simp⟩
 | e::ess,h=>by
  obtain ⟨x,hx,hq⟩:=h e (by simp)
  obtain ⟨l,h1,h2,h3⟩:=rd_list (ess:=ess) (fun e he=>h e (by simp [he]))
  exact ⟨x::l,by simp [h1],by simp [hx,h2],fun y hy=>by
   rcases List.mem_cons.1 hy with rfl|hy
   ·exact hq
   ·exact h3 y hy⟩
theorem rd_byt {cs:List Value} {w:World} (h:K.Rd w (.arr 64 (.int .u8)) cs):∃ l:List Nat,l.length=64∧Byt l∧cs=l.map B:=by
 obtain ⟨ess,hl,rfl,he⟩:=h
 obtain ⟨l,h1,h2,h3⟩:=rd_list (f:=fun n:Nat=>[B n]) (Q:=fun n=>n<256) (fun e hx=>by
  obtain ⟨n,rfl,hf⟩:=he e hx
  obtain ⟨m,rfl,hm⟩:=fits_u8 hf
  exact ⟨m,rfl,hm⟩)
 exact ⟨l,by omega,h3,by rw [h2,List.map_eq_flatMap]⟩
theorem rd_hd {cs:List Value} {w:World} (h:K.Rd w HdD cs):∃ h:SH,cs=h.cells∧h.ok:=by
 obtain ⟨d1,d2,rfl,⟨c,rfl,hc⟩,d3,d4,rfl,⟨r,rfl,hr⟩,d5,d6,rfl,⟨d7,d8,rfl,⟨b,rfl⟩,d9,d10,rfl,hA,d11,d12,rfl,hB,rfl⟩,rfl⟩:=h
 obtain ⟨A,la,ba,rfl⟩:=rd_byt hA
 obtain ⟨Bb,lb,bb,rfl⟩:=rd_byt hB
 exact ⟨⟨c,r,b,A,Bb⟩,by simp [SH.cells,SH.tc],⟨la,lb,ba,bb⟩⟩
theorem rd_ar {n:Nat} {q:IntKind} {cs:List Value} {w:World} (h:K.Rd w (.arr n (.int q)) cs):cs.length=n∧∀ i,i<n→∃ x:Int,cs[i]?=some (.int q x)∧Fits q x:=by
 obtain ⟨ess,hl,rfl,he⟩:=h
 have h1:∀ e∈ess,e.length=1:=fun e hx=>by obtain ⟨x,rfl,_⟩:=he e hx;rfl
 refine ⟨by rw [flatten_len h1,hl,Nat.mul_one],fun i hi=>?_⟩
 rw [flatten_get (by decide) h1,Nat.div_one,Nat.mod_one,List.getElem?_eq_getElem (by omega)]
 obtain ⟨x,hx,hf⟩:=he ess[i] (List.getElem_mem _)
 exact ⟨x,by rw [hx];rfl,hf⟩
theorem rd_zm {cs:List Value} {w:World} (h:K.Rd w SmD cs):ZM cs:=by
 obtain ⟨_,_,rfl,⟨k,rfl,hk⟩,_,_,rfl,⟨s,rfl,hs⟩,_,_,rfl,⟨X,_,rfl,hX,Y,_,rfl,hY,_,_,rfl,⟨b,rfl⟩,rfl⟩,_,_,rfl,⟨e,rfl⟩,Z,_,rfl,hZ,_,_,rfl,⟨n,rfl,hn⟩,_,_,rfl,⟨g,rfl⟩,rfl⟩:=h
 obtain ⟨hX1,hX2⟩:=rd_ar hX
 obtain ⟨hY1,hY2⟩:=rd_ar hY
 obtain ⟨hZ1,hZ2⟩:=rd_ar hZ
 obtain ⟨k,rfl,hk2⟩:=fits_u8 hk
 obtain ⟨s,rfl,hs2⟩:=fits_u8 hs
 obtain ⟨n,rfl,hn2⟩:=fits_u32 hn
 obtain ⟨x0,x1,x2,x3,rfl⟩:∃ x0 x1 x2 x3,X=[x0,x1,x2,x3]:=by
  match X,hX1 with
  | [x0,x1,x2,x3],_=>exact ⟨_,_,_,_,rfl⟩
 obtain ⟨y0,y1,y2,y3,rfl⟩:∃ x0 x1 x2 x3,Y=[x0,x1,x2,x3]:=by
  match Y,hY1 with
  | [x0,x1,x2,x3],_=>exact ⟨_,_,_,_,rfl⟩
 obtain ⟨z0,z1,z2,z3,z4,z5,rfl⟩:∃ x0 x1 x2 x3 x4 x5,Z=[x0,x1,x2,x3,x4,x5]:=by
  match Z,hZ1 with
  | [x0,x1,x2,x3,x4,x5],_=>exact ⟨_,_,_,_,_,_,rfl⟩
 refine ⟨rfl,⟨k,hk2,rfl⟩,⟨s,hs2,rfl⟩,⟨rfl,fun i hi=>?_,⟨b,rfl⟩⟩,⟨e,rfl⟩,fun i hi=>?_,⟨n,hn2,rfl⟩,⟨g,rfl⟩⟩
 ·by_cases h4:i<4
  ·obtain ⟨x,hx,hf⟩:=hX2 i h4
   refine ⟨x,fits_i8 hf,?_⟩
   rcases (show i=0∨i=1∨i=2∨i=3 by omega) with rfl|rfl|rfl|rfl<;>exact hx
  ·obtain ⟨x,hx,hf⟩:=hY2 (i-4) (by omega)
   refine ⟨x,fits_i8 hf,?_⟩
   rcases (show i=4∨i=5∨i=6∨i=7 by omega) with rfl|rfl|rfl|rfl<;>exact hx
 ·obtain ⟨x,hx,hf⟩:=hZ2 i hi
  obtain ⟨m,rfl,hm⟩:=fits_u64 hf
  refine ⟨m,hm,?_⟩
  rcases (show i=0∨i=1∨i=2∨i=3∨i=4∨i=5 by omega) with rfl|rfl|rfl|rfl|rfl|rfl<;>exact hx
theorem rd_pz {cs:List Value} {w:World} (h:K.Rd w PzD cs):∃ z:PZ,cs=pzc z∧pzok z:=by
 obtain ⟨_,_,rfl,⟨x,rfl⟩,_,_,rfl,⟨y,rfl⟩,_,_,rfl,⟨q,rfl,hq⟩,_,_,rfl,⟨m,rfl,hm⟩,rfl⟩:=h
 obtain ⟨q,rfl,hq2⟩:=fits_u8 hq
 obtain ⟨m,rfl,hm2⟩:=fits_u8 hm
 exact ⟨(x,y,q,m),rfl,hq2,hm2⟩
theorem rd_fs {cs:List Value} {w:World} (h:K.Rd w FsD cs):∃ f:FS,cs=f.cells∧f.rd w:=by
 obtain ⟨_,_,rfl,⟨k,rfl,hk⟩,_,_,rfl,⟨x,rfl,hx⟩,_,_,rfl,⟨y,rfl,hy⟩,_,_,rfl,⟨a,n,c,E,rfl,hn,hS,hE,_,_⟩,_,_,rfl,⟨a2,n2,c2,E2,rfl,hn2,hS2,hE2,hc2,_⟩,rfl⟩:=h
 obtain ⟨k,rfl,hk2⟩:=fits_u8 hk
 obtain ⟨x,rfl,hx2⟩:=fits_u16 hx
 obtain ⟨y,rfl,hy2⟩:=fits_u16 hy
 obtain ⟨us,u1,u2,u3⟩:=rd_list (f:=fun n:Nat=>[U6 n]) (Q:=fun n=>n<65536) (fun e he=>by
  obtain ⟨n,rfl,hf⟩:=hE e he
  obtain ⟨m,rfl,hm⟩:=fits_u16 hf
  exact ⟨m,rfl,hm⟩)
 obtain ⟨bs,b1,b2,b3⟩:=rd_list (f:=fun n:Nat=>[B n]) (Q:=fun n=>n<256) (fun e he=>by
  obtain ⟨n,rfl,hf⟩:=hE2 e he
  obtain ⟨m,rfl,hm⟩:=fits_u8 hf
  exact ⟨m,rfl,hm⟩)
 rw [u2,← List.map_eq_flatMap] at hS
 rw [b2,← List.map_eq_flatMap] at hS2
 obtain rfl:us.length=n:=by omega
 obtain rfl:bs.length=n2:=by omega
 exact ⟨⟨k,x,y,a,c,us,(a2,c2,bs)⟩,rfl,hk2,hx2,hy2,hS,u3,hS2,b3,hc2⟩
theorem rd_sc {cs:List Value} {w:World} (h:K.Rd w ScD cs):∃ (h:SH) (a b:Option Addr) (n k m p:Nat) (P:List PZ) (Z:List (List Value)),cs=smc h.cells a b n k m p∧h.ok∧SlA w a (P.flatMap pzc)∧P.length=n∧n≤k∧(∀ z∈P,pzok z)∧SlA w b (Z.flatMap id)∧Z.length=m∧∀ z∈Z,ZM z:=by
 obtain ⟨_,_,rfl,hh,_,_,rfl,⟨a,n,c,E,rfl,hn,hS,hE,hc,_⟩,_,_,rfl,⟨a2,n2,c2,E2,rfl,hn2,hS2,hE2,_,_⟩,rfl⟩:=h
 obtain ⟨h,rfl,ho⟩:=rd_hd hh
 obtain ⟨P,p1,p2,p3⟩:=rd_list (f:=pzc) (Q:=pzok) (fun e he=>rd_pz (hE e he))
 rw [p2] at hS
 exact ⟨h,a,a2,n,c,n2,c2,P,E2,rfl,ho,hS,by omega,hc,p3,by simpa using hS2,hn2,fun z hz=>rd_zm (hE2 z hz)⟩
def zsml:Value:=Value.agg (SH.zero.cells++[Value.slice none 0 0,Value.slice none 0 0]).toArray
theorem own_topWorse:ownKnob Tryz.prog.godebug=none:=by kernel_rfl
theorem laid_topWorse:laidOutB Tryz.prog=true:=by kernel_rfl
set_option maxRecDepth 100000 in
theorem topWorse_lifted (os:Os) (started:os.Started) (H:Type) (enc:TypeId × Value→H) :
  ReturnsInHanded {} Tryz.checked os 3 .any (Rows.topWorseSpec.pre6 enc Tryz.prog Tryz.f3 Rows.topWorseRow.domain false) (Rows.topWorseSpec.post enc Tryz.prog Tryz.f3 false true false false):=by
 refine returnsInHanded_of_change (C:=Tryz.checked) own_topWorse started (by kernel_rfl) Tryz.func3
  (ChangeSpec.witness6 (enc:=enc) (C:=Tryz.checked) false ⟨#[],#[zsml,.slice none 0 0,.slice none 0 0],[]⟩ 8 (by kernel_rfl) (by kernel_rfl) (by kernel_rfl) (by kernel_rfl)) ?_
 intro W base args ds gs before hval0 hW _ _
 have hval:∀ (j:Nat) t v,Tryz.f3.params[j]?=some t→args[j]?=some v→Value.okWide Tryz.prog W .any base t v:=hval0
 have hW':=hW
 obtain ⟨p,q,hA0,hV,rfl,hfz,hnd⟩:=hW
 have hA:DataW.TrodAll enc Tryz.prog W 0 (fun _=>true) true Tryz.f3.params.toList args.toList ds p:=hA0
 rw [Tryz.params3] at hA hval
 obtain ⟨v0,r0,d0,e0,p0,q0,ha0,rfl,rfl,h0,hA⟩:=trodAll_cons hA
 obtain ⟨v1,r1,d1,e1,p1,q1,ha1,rfl,rfl,h1,hA⟩:=trodAll_cons hA
 obtain ⟨v2,r2,d2,e2,p2,q2,ha2,rfl,rfl,h2,hA⟩:=trodAll_cons hA
 obtain ⟨hnil,rfl,rfl⟩:=trodAll_nil hA
 obtain rfl:args=#[v0,v1,v2]:=by cases args;simp_all
 have hv0:=hval 0 _ v0 rfl rfl
 have hv1:=hval 1 _ v1 rfl rfl
 have hv2:=hval 2 _ v2 rfl rfl
 clear hA0 hval0 ha0 ha1 ha2 hnil
 obtain ⟨cs,rfl⟩:=rd_agg (Ty.shp rfl) hv0
 obtain ⟨h,a,b,n,k,m,p,P,Z,hcs,ho,hP,hPl,hnk,hPo,hZ,hZl,hz⟩:=rd_sc (rd_arg ScD (by kernel_rfl) h0)
 obtain rfl:cs=smc h.cells a b n k m p:=by simpa [Value.cells] using hcs
 obtain ⟨al,nl,cl,E,hc1,hn1,hS1,hE1,_,hm1⟩:=rd_arg (.sl FsD) (by kernel_rfl) h1
 obtain ⟨l,l1,l2,l3⟩:=rd_list (f:=FS.cells) (Q:=fun f=>f.rd W) (fun e he=>rd_fs (hE1 e he))
 rw [l2] at hS1
 obtain ⟨a',n',cap',rfl⟩:=okWide_slice (sle_spec (Ty.sle rfl)).1 hv1
 obtain ⟨rfl,rfl,rfl⟩:a'=al∧n'=nl∧cap'=cl:=by simpa [Value.cells] using hc1
 obtain ⟨ab,nb,cb,E2,hc2,hn2,hS2,hE2,_,_⟩:=rd_arg (.sl .bool) (by kernel_rfl) h2
 obtain ⟨bs,b1,b2,_⟩:=rd_list (f:=fun x:Bool=>[Value.bool x]) (Q:=fun _=>True) (fun e he=>by
  obtain ⟨x,rfl⟩:=hE2 e he
  exact ⟨x,rfl,trivial⟩)
 rw [b2,← List.map_eq_flatMap] at hS2
 obtain ⟨a2,n2,cap2,rfl⟩:=okWide_slice (sle_spec (Ty.sle rfl)).1 hv2
 obtain ⟨rfl,rfl,rfl⟩:a2=ab∧n2=nb∧cap2=cb:=by simpa [Value.cells] using hc2
 have hm1':n'≤9223372036854775807:=by simp only [maxLen] at hm1;omega
 refine ((topworse_spec ho hP hPl hnk hPo hZ hZl hz hS1 (by omega) hm1' l3 hS2 (by omega)).enter Tryz.func3 rfl rfl).mono ?_
 rintro e W' ⟨v,rfl,rfl,hE⟩
 exact ⟨_,rfl,law_post laid_topWorse (by kernel_rfl) hW' rfl rfl (by kernel_rfl) ⟨rfl,rfl,rfl⟩ hE⟩
theorem topWorse_holds:Rows.TopWorseSaid :=
 OpenClaim.holds_of_wide 3 Tryz.f3 rfl rfl rfl rfl rfl rfl rfl ⟨rfl,rfl,rfl,rfl,rfl⟩ rfl rfl rfl rfl rfl (by kernel_rfl) Tryz.func3 (by kernel_rfl)
  (of_decide_eq_true (by kernel_rfl)) (by unfold Func.isWrapper;first|(rw [if_pos (by decide +kernel)];kernel_rfl)|(rw [if_neg (by decide +kernel)];exact ⟨rfl,rfl⟩))
  (fun os started H enc _=>topWorse_lifted os started H enc)
#print axioms topWorse_holds
end Go.Proofs.YtpbiicegmcpkpaaGreat
