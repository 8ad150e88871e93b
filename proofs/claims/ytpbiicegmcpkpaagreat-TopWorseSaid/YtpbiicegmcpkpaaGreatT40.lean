/- A part of the proof that TopWorse is true at every input; no condition. -/
import Derived.Test.YtpbiicegmcpkpaaGreatT39
namespace Go.Proofs.YtpbiicegmcpkpaaGreat
open Go Go.K Go.P Go.RowKit Go.Proofs
theorem rcd_1 {s:ST} {a b c:Option Addr} {n k m p q r:Nat} {o:Bool} (h:s.cells.length=132):(rcd s a b c n k m p q r o).toArray[132]?=some (.slice a n k):=by
 rw [List.getElem?_toArray,List.getElem?_append_right (by rw [h];decide),h];rfl
theorem rcd_3 {s:ST} {a b c:Option Addr} {n k m p q r:Nat} {o:Bool} (h:s.cells.length=132):(rcd s a b c n k m p q r o).toArray[134]?=some (.slice c q r):=by
 rw [List.getElem?_toArray,List.getElem?_append_right (by rw [h];decide),h];rfl
theorem joinO {A:Prop} {Y:Fr→Bool→World→Prop} (Z:Bool→World→Prop) (h1:(∀ σ x w,Z x w→Y σ x w)→A) (h2:∀ σ x w,Z x w→Y σ x w):A:=h1 h2
set_option maxRecDepth 20000 in
set_option maxHeartbeats 16000000 in
theorem top_spec {cs:List Value} {nl cl nb cb:Nat} {al ab:Option Addr} {l:List FS} {bs:List Bool} {w:World} {Q:Prop} (hcs:cs.length=133)
  (hA:∀ w,Does Tryz.prog 4 #[] w fun v w'=>v=.bool true∧Ext [] w w')
  (hG:∀ w1,Ext [] w w1→Does Tryz.prog 5 #[.agg cs.toArray,.slice al nl cl] w1 fun v w'=>∃ b,v=.bool b∧(b=true→few l∧Q)∧Ext [] w1 w')
  (hT:Q→∀ w1,Ext [] w w1→Does Tryz.prog 6 #[.agg cs.toArray] w1 fun v w'=>∃ (s:ST) (C R:Nat),v=.agg s.cells.toArray∧s.ok C R∧s.rd w'∧Ext [] w1 w')
  (hL:SlA w al (l.flatMap FS.cells)) (hll:l.length=nl) (hlr:∀ f∈l,f.rd w) (hb:SlA w ab (bs.map Value.bool)) (hbl:bs.length=nb) :
  Does Tryz.prog 3 #[.agg cs.toArray,.slice al nl cl,.slice ab nb cb] w fun v w'=>v=.bool true∧Ext [] w w':=by
 refine Does_of (args:=[_,_,_]) Tryz.func3 rfl rfl Tryz.ntmps3 rfl ?_
 have hH:=Hp.start w
 repeat (first|refine WS_seq ?_|refine WS_region ?_)
 refine WL_s (H_box (cs:=cs.toArray) hH rfl rfl rfl ?_)
 try clear hH
 intro _ b3 hH
 replace hH:=nn1 hH
 repeat (first|refine WS_seq ?_|refine WS_region ?_|refine WL_nil ?_|refine lp rfl rfl ?_)
 refine WL_s (S_call ((hA _)) rfl rfl ?_)
 rintro _ _ ⟨rfl,hE0⟩
 replace hH:=hH.ext0 hE0
 clear hE0
 replace hH:=nn1 hH
 have hB3:=hH.b 0 rfl
 repeat (first|refine WS_seq ?_|refine WS_region ?_|refine WL_nil ?_|refine WS_skip ?_|refine WS_false rfl ?_|(refine WL_r (by first|refine k_loadA rfl hB3 (by simp [hcs]) (Ty.shp rfl)|refine Run_pev rfl) rfl ?_))
 clear hB3
 refine WL_s (S_call ((hG _ hH.ext)) rfl rfl ?_)
 rintro _ _ ⟨b,rfl,hbQ,hE0⟩
 replace hH:=hH.ext0 hE0
 clear hE0
 replace hH:=nn1 hH
 cases b
 ·repeat (first|refine WS_seq ?_|refine WS_region ?_|refine WL_nil ?_|refine WS_true rfl ?_|refine WL_gno rfl rfl rfl rfl rfl ?_|refine lp rfl rfl ?_)
  exact WS_ret1 Tryz.func3 rfl ⟨rfl,hH.ext⟩
 obtain ⟨hfew,hq⟩:=hbQ rfl
 by_cases hn:100<nb
 ·repeat (first|refine WS_seq ?_|refine WS_region ?_|refine WL_nil ?_|refine WS_yes rfl (by omega) ?_|refine WL_gyes rfl rfl rfl ?_|(refine WL_r (by first|refine Run_pev rfl|refine k_len rfl (Ty.isl rfl)) rfl ?_))
  exact WS_ret1 Tryz.func3 rfl ⟨rfl,hH.ext⟩
 have hB3:=hH.b 0 rfl
 repeat (first|refine WS_seq ?_|refine WS_region ?_|refine WL_nil ?_|refine WS_skip ?_|refine WS_no rfl (by omega) ?_|refine WL_gyes rfl rfl rfl ?_|(refine WL_r (by first|refine k_loadA rfl hB3 (by simp [hcs]) (Ty.shp rfl)|refine Run_pev rfl|refine k_len rfl (Ty.isl rfl)) rfl ?_))
 clear hB3
 refine WL_s (S_call ((hT hq _ hH.ext)) rfl rfl ?_)
 rintro _ w2 ⟨s,C,R,rfl,hs,hrd,hE0⟩
 replace hH:=hH.ext0 hE0
 have hE2:=hH.ext
 clear hE0
 replace hH:=nn1 hH
 have h64:=npk_64 hs
 have hsl:=ST.cells_len hs.ho
 replace hH:=Hp.start w2
 replace hlr:∀ f∈l,f.rd w2:=fun f hf=>(hlr f hf).ext hE2
 replace hL:=hL.ext0 hE2
 replace hb:=hb.ext0 hE2
 refine WL_s (H_alloc hH (Ty.zer rfl) rfl ?_)
 try clear hH
 intro _ b7 hH
 replace hH:=nn1 hH
 have hs1:∀ v∈s.cells.toArray.toList,v.oneCell'=true:=fun v hv=>by
  have hv2:v∈s.h.cells++[.slice s.a s.ps.length s.cap]:=hv
  rcases List.mem_append.1 hv2 with h|h
  ·exact cells_one s.h v (by simpa using h)
  ·simp at h;subst h;rfl
 refine WL_s (H_storeA 0 (vs:=s.cells.toArray) (s:=132) hH rfl rfl rfl (by simp [hsl]) rfl hs1 (Ty.shp rfl) ?_)
 clear hH
 intro _ hH
 replace hH:=nn1 hH
 have hB7:=hH.b 0 rfl
 repeat (first|refine WS_seq ?_|refine WS_region ?_|refine WL_nil ?_|(refine WL_r (by first|refine k_loadA rfl hB7 (by simp [hsl]) (Ty.shp rfl)|refine Run_pev rfl) rfl ?_))
 clear hB7
 refine WL_s (S_call ((sent_spec hs (hrd.ext hH.ext) (hL.ext0 hH.ext) hll hfew (fun f hf=>(hlr f hf).ext hH.ext))) rfl rfl ?_)
 rintro _ w3 ⟨a,c,e0,es,b,m,p,d,q,k,o,af,cf,F,ow,rfl,hP,hkl,hclo,hFl,hFG,hFc,hQ⟩
 replace hH:=hH.calls 0 hQ
 clear hQ
 replace hH:=nn7 hH
 have hr136:(rcd s a b d (es.length+1) c m p k.length q o).toArray.size=136:=by rw [List.size_toArray,List.length_append,hsl];rfl
 repeat ((refine WL_r (by first|refine Run_pev rfl|refine k_extract rfl rfl) rfl ?_))
 refine WL_s (H_alloc hH (Ty.zer rfl) rfl ?_)
 try clear hH
 intro _ b8 hH
 replace hH:=nn8 hH
 refine WL_s (H_storeA 7 (vs:=(rcd s a b d (es.length+1) c m p k.length q o).toArray) (s:=136) hH rfl rfl rfl hr136 rfl rcd_one (Ty.shp rfl) ?_)
 clear hH
 intro _ hH
 replace hH:=nn8 hH
 have hB8:=hH.b 7 rfl
 have hlf:=hP.len
 have hes1:((es.length+1:Nat):Int)-1=(es.length:Nat):=by omega
 repeat (first|refine WS_seq ?_|refine WS_region ?_|refine WL_nil ?_|refine WS_block ?_|refine WS_skip ?_|refine WS_false rfl ?_|(refine WL_r (by first|refine k_fa rfl (Ty.fld rfl rfl)|refine k_loadb rfl hB8 (rcd_1 hsl) (Ty.shp rfl)|refine (k_sub64 rfl rfl (by omega)).is (congrArg (Value.int .i64) hes1)|refine Run_pev rfl|refine k_len rfl (Ty.isl rfl)) rfl ?_))
 clear hB8
 have hFa:=FG.fas hFG (fun f hf=>(hlr f hf).ext hH.ext) (hH.at 5 rfl)
 replace hH:=hH.nu (New.nilO (e:=48) (sz:=2))
 replace hH:=nn9 hH
 have hle:(F.flatMap fac).length=F.length*2:=fm_len (fun _ _=>rfl)
 refine WS_loop (G:=(Nat) × (Option Addr) × (Nat) × (List FA)) (fun|(i,a1,c1,G)=>es.length-i) 151115727381459902689280 (fun|(i,a1,c1,G)=>[(12,.slice a1 G.length c1),(46,.int .i64 i)]) (fun|(i,a1,c1,G),w'=>i≤es.length∧G.length=i∧(∀ e∈G,FG l e ow)∧(∀ (t:Nat) (e:FA),t<i→F[t]?=some e→∃ e',G[t]?=some e'∧(e.1=true→e'.1=true)∧e'.2.2.2=e.2.2.2)∧Hp [] w2 w' [RM k,Rmp C R d k,RL (e0::es),Rpk a e0 es,Rs af (F.flatMap fac),RL ow,Rb b7 37 s.cells.toArray,Rb b8 43 (rcd s a b d (es.length+1) c m p k.length q o).toArray,Ro 48 2 a1 G.length c1 (G.flatMap fac)]) (0,none,0,[]) ⟨rfl,rfl,trivial⟩ ⟨by omega,rfl,by simp,by omega,hH⟩ ?_
 rintro ⟨i,a1,c1,G⟩ w' σ ⟨hi,hGl,hGG,hGF,hH⟩ IH
 show WS _ _ _ _ _ (updL [(12,.slice a1 G.length c1),(46,.int .i64 i)] _) _
 by_cases hlt:i<es.length
 ·repeat (first|refine WS_seq ?_|refine WS_region ?_|refine WL_nil ?_|refine WS_block ?_|refine WS_skip ?_|refine WS_yes rfl (by omega) ?_|refine lp rfl rfl ?_)
  refine WL_s (H_alloc hH (Ty.zer rfl) rfl ?_)
  try clear hH
  intro _ b14 hH
  replace hH:=nn10 hH
  obtain ⟨fe,hfe⟩:∃ fe,F.getD i fnil=fe:=⟨_,rfl⟩
  have hfe2:FG l fe ow:=by
   by_cases h:i<F.length
   ·rw [← hfe,List.getD_eq_getElem?_getD,List.getElem?_eq_getElem h];exact hFG _ (List.getElem_mem h)
   ·rw [← hfe,List.getD_eq_getElem?_getD,List.getElem?_eq_none (by omega)];exact ⟨.inr (.inr rfl),by simp [fnil,Byt],by simp [fnil],by simp [fnil]⟩
  apply joinW (Z:=fun u=>Hp [] w2 u [RM k,Rmp C R d k,RL (e0::es),Rpk a e0 es,Rs af (F.flatMap fac),RL ow,Rb b7 37 s.cells.toArray,Rb b8 43 (rcd s a b d (es.length+1) c m p k.length q o).toArray,Ro 48 2 a1 G.length c1 (G.flatMap fac),Rb b14 48 (fac fe).toArray])
  ·intro key
   by_cases hin:i<F.length
   ·have hg:F[i]?=some fe:=by rw [← hfe,List.getD_eq_getElem?_getD,List.getElem?_eq_getElem hin];rfl
    have hSf:=hH.s 4 rfl
    have hat:=fm_at (f:=fac) (sz:=2) (fun _ _=>rfl) hg
    repeat (first|refine WS_seq ?_|refine WS_region ?_|refine WL_nil ?_|refine WS_yes rfl (by omega) ?_|(refine WL_r (by first|refine k_ix (sz:=2) rfl rfl hSf hle (by decide) (Ty.sle rfl) (by omega)|refine k_loadC (j:=i*2) (cs:=fac fe) rfl hSf hat rfl (Ty.shp rfl)|refine Run_pev rfl|refine k_len rfl (Ty.isl rfl)) rfl ?_))
    refine WL_s (H_storeA 9 (vs:=(fac fe).toArray) (s:=2) hH rfl rfl rfl (by rfl) (by rfl) (by simp [Value.oneCell']) (Ty.shp rfl) ?_)
    try clear hH
    intro _ hH
    replace hH:=nn10 hH
    repeat (first|refine WS_seq ?_|refine WS_region ?_|refine WL_nil ?_)
    apply WL_keepM 151115727381459902689280 [(12,.slice a1 G.length c1),(13,.int .i64 i),(14,pt b14),(46,.int .i64 i)]
    ·exact ⟨rfl,rfl,rfl,rfl,trivial⟩
    ·repeat (first|((with_reducible apply Agr.upd);· exact rfl)|((with_reducible apply Agr.consL);· exact rfl)|(with_reducible apply Agr.nilL)|((with_reducible apply Agr.mrg (W':=151115727381459902689280));(· exact rfl);apply Agr.refl))
    intro σ
    exact WL_wC fun u hu=>key σ u (hu▸hH)
   ·have hg:fe=fnil:=by rw [← hfe,List.getD_eq_getElem?_getD,List.getElem?_eq_none (by omega)];rfl
    repeat (first|refine WS_seq ?_|refine WS_region ?_|refine WL_nil ?_|refine WS_skip ?_|refine WS_no rfl (by omega) ?_|(refine WL_r (by first|refine Run_pev rfl|refine k_len rfl (Ty.isl rfl)) rfl ?_))
    apply WL_keepM 151115727381459902689280 [(12,.slice a1 G.length c1),(13,.int .i64 i),(14,pt b14),(46,.int .i64 i)]
    ·exact ⟨rfl,rfl,rfl,rfl,trivial⟩
    ·repeat (first|((with_reducible apply Agr.upd);· exact rfl)|((with_reducible apply Agr.consL);· exact rfl)|(with_reducible apply Agr.nilL)|((with_reducible apply Agr.mrg (W':=151115727381459902689280));(· exact rfl);apply Agr.refl))
    intro σ
    exact WL_wC fun u hu=>key σ u (hu▸(by rw [hg];exact hH))
  clear hH
  rintro σ w4 hH
  have hB14:=hH.b 9 rfl
  apply joinO (Z:=fun x u=>(fe.1=true→x=true)∧Hp [] w2 u [RM k,Rmp C R d k,RL (e0::es),Rpk a e0 es,Rs af (F.flatMap fac),RL ow,Rb b7 37 s.cells.toArray,Rb b8 43 (rcd s a b d (es.length+1) c m p k.length q o).toArray,Ro 48 2 a1 G.length c1 (G.flatMap fac),Rb b14 48 #[.bool x,bsl fe.2]])
  ·intro key
   by_cases hl:fe.1=true
   ·repeat (first|refine WL_gno rfl rfl rfl rfl rfl ?_|refine WL_gund rfl rfl rfl ?_|(refine WL_r (by first|refine k_fa rfl (Ty.fld rfl rfl)|refine (k_loadb rfl hB14 rfl (Ty.shp rfl)).is (congrArg Value.bool hl)|refine Run_pev rfl) rfl ?_))
    refine WL_s (H_store 9 (v:=.bool true) hH rfl rfl rfl (Nat.le_of_ble_eq_true rfl) rfl (Ty.shp rfl) ?_)
    try clear hH
    intro _ hH
    replace hH:=nn10 hH
    obtain ⟨x9,hx9⟩:∃ x9,x9=true:=⟨_,rfl⟩
    replace hH:=hH.as (r':=Rb b14 48 #[.bool x9,bsl fe.2]) 9 rfl (fun _ h=>h) (fun h=>by rw [hx9];exact h)
    replace hH:=nn10 hH
    apply WL_keepM 151115727381459902689280 [(12,.slice a1 G.length c1),(13,.int .i64 i),(14,pt b14),(46,.int .i64 i)]
    ·exact ⟨rfl,rfl,rfl,rfl,trivial⟩
    ·repeat (first|((with_reducible apply Agr.upd);· exact rfl)|((with_reducible apply Agr.updo);· exact rfl)|((with_reducible apply Agr.consL);· exact rfl)|(with_reducible apply Agr.nilL)|((with_reducible apply Agr.mrg (W':=151115727381459902689280));(· exact rfl);apply Agr.refl))
    intro σ
    exact WL_wC fun u hu=>key σ x9 u ⟨fun _=>hx9,hu▸hH⟩
   ·replace hl:fe.1=false:=by simpa using hl
    by_cases hin:i<nb
    ·obtain ⟨x,hx⟩:∃ x,bs[i]?=some x:=⟨_,List.getElem?_eq_getElem (by omega)⟩
     have hxv:(bs.map Value.bool)[i]?=some (.bool x):=by rw [List.getElem?_map,hx];rfl
     have hSb:=hb.ext0 hH.ext
     repeat (first|refine WL_gyes rfl rfl rfl ?_|refine WL_gyes rfl rfl (dT (by omega)) ?_|(refine WL_r (by first|refine k_fa rfl (Ty.fld rfl rfl)|refine (k_loadb (v:=.bool fe.1) rfl hB14 rfl (Ty.shp rfl)).is (congrArg Value.bool hl)|refine k_ix1 rfl rfl hSb (by simp [hbl]) (Ty.sle rfl) (by omega)|refine k_loads rfl hSb hxv (Ty.shp rfl)|refine Run_pev rfl|refine k_len rfl (Ty.isl rfl)|refine k_pick_t (dT (by omega)) rfl) rfl ?_))
     refine WL_s (H_store 9 (v:=.bool x) hH rfl rfl rfl (Nat.le_of_ble_eq_true rfl) rfl (Ty.shp rfl) ?_)
     try clear hH
     intro _ hH
     replace hH:=nn10 hH
     obtain ⟨x9,hx9⟩:∃ x9,x9=x:=⟨_,rfl⟩
     replace hH:=hH.as (r':=Rb b14 48 #[.bool x9,bsl fe.2]) 9 rfl (fun _ h=>h) (fun h=>by rw [hx9];exact h)
     replace hH:=nn10 hH
     apply WL_keepM 151115727381459902689280 [(12,.slice a1 G.length c1),(13,.int .i64 i),(14,pt b14),(46,.int .i64 i)]
     ·exact ⟨rfl,rfl,rfl,rfl,trivial⟩
     ·repeat (first|((with_reducible apply Agr.upd);· exact rfl)|((with_reducible apply Agr.consL);· exact rfl)|(with_reducible apply Agr.nilL)|((with_reducible apply Agr.mrg (W':=151115727381459902689280));(· exact rfl);apply Agr.refl))
     intro σ
     exact WL_wC fun u hu=>key σ x9 u ⟨(fun h=>by rw [hl] at h;cases h),hu▸hH⟩
    ·repeat (first|refine WL_gyes rfl rfl rfl ?_|refine WL_gno (b:=false) rfl rfl (dF (by omega)) rfl rfl ?_|(refine WL_r (by first|refine k_fa rfl (Ty.fld rfl rfl)|refine (k_loadb (v:=.bool fe.1) rfl hB14 rfl (Ty.shp rfl)).is (congrArg Value.bool hl)|refine Run_pev rfl|refine k_len rfl (Ty.isl rfl)|refine k_pick_f (dF (by omega)) rfl) rfl ?_))
     refine WL_s (H_store 9 (v:=.bool false) hH rfl rfl rfl (Nat.le_of_ble_eq_true rfl) rfl (Ty.shp rfl) ?_)
     try clear hH
     intro _ hH
     replace hH:=nn10 hH
     obtain ⟨x9,hx9⟩:∃ x9,x9=false:=⟨_,rfl⟩
     replace hH:=hH.as (r':=Rb b14 48 #[.bool x9,bsl fe.2]) 9 rfl (fun _ h=>h) (fun h=>by rw [hx9];exact h)
     replace hH:=nn10 hH
     apply WL_keepM 151115727381459902689280 [(12,.slice a1 G.length c1),(13,.int .i64 i),(14,pt b14),(46,.int .i64 i)]
     ·exact ⟨rfl,rfl,rfl,rfl,trivial⟩
     ·repeat (first|((with_reducible apply Agr.upd);· exact rfl)|((with_reducible apply Agr.updo);· exact rfl)|((with_reducible apply Agr.consL);· exact rfl)|(with_reducible apply Agr.nilL)|((with_reducible apply Agr.mrg (W':=151115727381459902689280));(· exact rfl);apply Agr.refl))
     intro σ
     exact WL_wC fun u hu=>key σ x9 u ⟨(fun h=>by rw [hl] at h;cases h),hu▸hH⟩
  clear hH hB14
  rintro σ x w5 ⟨hx1,hH⟩
  have hB14:=hH.b 9 rfl
  repeat (first|refine WS_region ?_|refine WL_nil ?_|(refine WL_r (by first|refine k_loadA rfl hB14 rfl (Ty.shp rfl)|refine Run_pev rfl) rfl ?_))
  refine WL_s (H_lit (out:=[.bool x,bsl fe.2]) hH (Ty.sle rfl) (Ty.zer rfl) rfl rfl rfl (by decide) rfl ?_)
  try clear hH
  intro _ blit hH
  replace hH:=nn11 hH
  refine WL_s (H_append 8 hH rfl (Ty.sle rfl) (Ty.zer rfl) rfl (Ty.byt rfl) (by decide) rfl rfl ((hH.b 10 rfl).sl0) (by simp;try omega) (by simp) (by omega) (by simp only [maxLen];omega) rfl ?_)
  try clear hH
  intro _ a9 c9 hH
  replace hH:=nn11 hH
  replace hH:=hH.del 10
  replace hH:=nn10 hH
  repeat (first|refine WS_region ?_|refine WL_nil ?_|refine WS_inBlock ?_|(refine WL_r (by first|refine Run_pev rfl|refine k_add64 rfl rfl (by omega)) rfl ?_))
  replace hH:=hH.del 9
  replace hH:=nn9 hH
  have hes2:G.length+1=(G++[((x,fe.2):FA)]).length:=by simp
  have hec2:G.flatMap fac++[.bool x,bsl fe.2]=(G++[((x,fe.2):FA)]).flatMap fac:=by simp
  rw [hes2,hec2] at hH
  rw [hes2]
  have hG2:(G++[((x,fe.2):FA)]).length=i+1:=by simp [hGl]
  have hGG2:∀ e∈G++[((x,fe.2):FA)],FG l e ow:=fun e he=>by
   rcases List.mem_append.1 he with h|h
   ·exact hGG e h
   ·simp at h;subst h;exact hfe2
  have hGF2:∀ (t:Nat) (e:FA),t<i+1→F[t]?=some e→∃ e',(G++[((x,fe.2):FA)])[t]?=some e'∧(e.1=true→e'.1=true)∧e'.2.2.2=e.2.2.2:=fun t e ht he=>by
   by_cases h:t<i
   ·obtain ⟨e',h1,h2⟩:=hGF t e h he
    exact ⟨e',by rw [List.getElem?_append_left (by omega)];exact h1,h2⟩
   ·have e1:t=i:=by omega
    rw [e1] at he ⊢
    have e2:fe=e:=by rw [← hfe,List.getD_eq_getElem?_getD,he];rfl
    rw [← e2]
    exact ⟨(x,fe.2),by rw [List.getElem?_append_right (by omega),hGl,Nat.sub_self];rfl,hx1,rfl⟩
  generalize G++[((x,fe.2):FA)]=G2 at *
  refine IH (i+1,a9,c9,G2) _ _ ?_ ?_ ?_ ?_
  ·simp only;omega
  ·exact ⟨rfl,rfl,trivial⟩
  ·repeat first|with_reducible apply Agr.refl|refine Agr.upd rfl ?_|refine Agr.updL rfl ?_|refine Agr.mrg rfl ?_
  ·exact ⟨by omega,hG2,hGG2,hGF2,hH⟩
 ·obtain rfl:i=es.length:=by omega
  clear IH
  repeat (first|refine WS_seq ?_|refine WS_region ?_|refine WL_nil ?_|refine WS_exit rfl ?_|refine WS_no rfl (by omega) ?_|refine lp rfl rfl ?_)
  have hB7:=hH.b 6 rfl
  have hPb:∀ e∈es,e.2.2.length≤1000000:=fun e he=>by have:=(pkt_byt (hP.pk e he)).2.1;omega
  have hGa:=FG.fas hGG (fun f hf=>(hlr f hf).ext hH.ext) (hH.at 5 rfl)
  refine WS_drawE Ty.mixed 6 rfl (fun w5 hx=>?_)
  refine wt 0 hx rfl rfl rfl (fun w' hw'=>by refine k_loadA rfl (hB7.ext0 hw') (by simp [hsl]) (Ty.shp rfl)) ?_
  refine wp 1 hx rfl rfl rfl rfl ?_
  refine wp 3 hx rfl rfl rfl rfl ?_
  replace hH:=hH.ext0 hx
  replace hGa:=hGa.ext hx
  refine WA_one 2 (by kernel_rfl) rfl rfl (S_call (sizes_spec' (hH.at 3 rfl) rfl hPb (by omega)) rfl rfl ?_)
  rintro _ w6 ⟨az,cz,rfl,hZ,hE0⟩
  replace hx:=hx.then0 hE0
  replace hH:=hH.ext0 hE0
  replace hGa:=hGa.ext hE0
  refine ⟨hx,?_⟩
  refine WA_one 4 (by kernel_rfl) rfl rfl (S_call (closure_spec hs (hrd.ext hH.ext) hZ (by simp [szs]) hlf.symm (hH.o 8 rfl).sl rfl (by omega) (fun e he=>⟨(hGa e he).1,(hGa e he).2.2.1,by have:=(hGa e he).2.2.2;omega⟩)) rfl rfl ?_)
  rintro _ w7 ⟨a2,c2,l2,rfl,hclo2,hlen2,hQ⟩
  replace hx:=hx.then0 hQ.ext
  replace hH:=hH.calls 0 hQ
  clear hQ
  refine ⟨hx,?_⟩
  refine wp 5 hx rfl rfl rfl rfl ?_
  refine WA_done (by kernel_rfl) ?_
  replace hH:=nn11 hH
  have hmore:∀ (t:Nat) (e:FA),F[t]?=some e→∃ e',G[t]?=some e'∧(e.1=true→e'.1=true)∧e'.2.2.2=e.2.2.2:=fun t e he=>hGF t e (by have:=(List.getElem?_eq_some_iff.1 he).1;omega) he
  have hmono:=clo_mono hs (F:=F) (F':=G) (Z:=szs es) (fun _=>more_lo (by omega) hmore) (fun _=>more_to hmore)
  rw [← hclo,← hclo2] at hmono
  have hlen:l2.length≤k.length:=by have:=hmono.1;simpa using this
  have hle2:∀ (i:Nat) (e e':MP),k[i]?=some e→l2[i]?=some e'→le e.2 e'.2:=fun i e e' h h'=>hmono.2 (k:=i) (by rw [List.getElem?_map,h];rfl) (by rw [List.getElem?_map,h'];rfl)
  have hkb:k.length≤100:=by
   have h1:k.length=(clo C R s.ps F (szs es)).length:=by rw [← hclo];simp
   rw [clo_len] at h1
   have:=hs.len
   omega
  have hB8:=hH.b 9 rfl
  repeat (first|refine WS_seq ?_|refine WS_region ?_|refine WL_nil ?_|refine WS_block ?_|refine WS_skip ?_|refine WS_no rfl (by omega) ?_|(refine WL_r (by first|refine k_fa rfl (Ty.fld rfl rfl)|refine k_loadb rfl hB8 (rcd_3 hsl) (Ty.shp rfl)|refine Run_pev rfl|refine k_len rfl (Ty.isl rfl)) rfl ?_))
  clear hB8
  have hf2:(l2.flatMap fun e:MP=>dmc C R e.1).length=l2.length*3:=fm_len (fun _ _=>rfl)
  have hf1:(k.flatMap fun e:MP=>dmc C R e.1).length=k.length*3:=fm_len (fun _ _=>rfl)
  obtain ⟨_,_,hCR⟩:=c_bounds hs.err hs.c hs.r
  refine WS_loop (G:=(Nat)) (fun i=>l2.length-i) 83076748498617202771107666368856128 (fun i=>[(90,.int .i64 i)]) (fun i w'=>i≤l2.length∧Hp [] w2 w' [RM l2,Rmp C R a2 l2,RM k,Rmp C R d k,RL (e0::es),Rpk a e0 es,Rs af (F.flatMap fac),RL ow,Rb b7 37 s.cells.toArray,Rb b8 43 (rcd s a b d (es.length+1) c m p k.length q o).toArray,Ro 48 2 a1 G.length c1 (G.flatMap fac)]) (0) ⟨rfl,trivial⟩ ⟨by omega,hH⟩ ?_
  rintro i w' σ ⟨hi,hH⟩ IH
  show WS _ _ _ _ _ (updL [(90,.int .i64 i)] _) _
  by_cases hlt:i<l2.length
  ·obtain ⟨e2,he2⟩:∃ e2,l2[i]?=some e2:=⟨_,List.getElem?_eq_getElem (by omega)⟩
   obtain ⟨e1,he1⟩:∃ e1,k[i]?=some e1:=⟨_,List.getElem?_eq_getElem (by omega)⟩
   have hat2:=fm_at (f:=fun e:MP=>dmc C R e.1) (sz:=3) (fun _ _=>rfl) he2
   have hat1:=fm_at (f:=fun e:MP=>dmc C R e.1) (sz:=3) (fun _ _=>rfl) he1
   have hle12:=hle2 i e1 e2 he1 he2
   have hm1:=List.mem_of_getElem? he1
   have hm2:=List.mem_of_getElem? he2
   have hSl:=hH.s 1 rfl
   repeat (first|refine WS_seq ?_|refine WS_region ?_|refine WL_nil ?_|refine WS_block ?_|refine WS_skip ?_|refine WS_yes rfl (by omega) ?_|(refine WL_r (by first|refine k_ix (sz:=3) rfl rfl hSl hf2 (by decide) (Ty.sle rfl) (by omega)|refine k_loadC (j:=i*3) (cs:=dmc C R e2.1) rfl hSl hat2 rfl (Ty.shp rfl)|refine Run_pev rfl) rfl ?_))
   clear hSl
   refine WL_s (H_alloc hH (Ty.zer rfl) rfl ?_)
   try clear hH
   intro _ b17 hH
   replace hH:=nn12 hH
   repeat (refine lp rfl rfl ?_)
   refine WL_s (H_storeA 11 (vs:=(dmc C R e2.1).toArray) (s:=3) hH rfl rfl rfl (by rfl) (by rfl) (by simp [Value.oneCell']) (Ty.shp rfl) ?_)
   try clear hH
   intro _ hH
   replace hH:=nn12 hH
   have hB17:=hH.b 11 rfl
   repeat (first|refine WS_seq ?_|refine WS_region ?_|refine WL_nil ?_|refine WS_block ?_|(refine WL_r (by first|refine k_fa rfl (Ty.fld rfl rfl)|refine k_loadb rfl hB17 rfl (Ty.shp rfl)|refine Run_pev rfl|refine k_len rfl (Ty.isl rfl)) rfl ?_))
   clear hB17
   refine WS_loop (G:=(Nat)) (fun j=>C*R-j) 41538057955628563970893596458221632 (fun j=>[(98,.int .i64 j)]) (fun j w'=>j≤C*R∧Hp [] w2 w' [RM l2,Rmp C R a2 l2,RM k,Rmp C R d k,RL (e0::es),Rpk a e0 es,Rs af (F.flatMap fac),RL ow,Rb b7 37 s.cells.toArray,Rb b8 43 (rcd s a b d (es.length+1) c m p k.length q o).toArray,Ro 48 2 a1 G.length c1 (G.flatMap fac),Rb b17 53 (dmc C R e2.1).toArray]) (0) ⟨rfl,trivial⟩ ⟨by omega,hH⟩ ?_
   rintro j w' σ ⟨hj,hH⟩ IH2
   show WS _ _ _ _ _ (updL [(98,.int .i64 j)] _) _
   by_cases hjl:j<C*R
   ·have hSk:=hH.s 3 rfl
    have hB8:=hH.b 9 rfl
    repeat (first|refine WS_seq ?_|refine WS_region ?_|refine WL_nil ?_|refine WS_block ?_|refine WS_skip ?_|refine WS_yes rfl (by omega) ?_|(refine WL_r (by first|refine k_fa rfl (Ty.fld rfl rfl)|refine k_loadb rfl hB8 (rcd_3 hsl) (Ty.shp rfl)|refine k_ix (sz:=3) rfl rfl hSk hf1 (by decide) (Ty.sle rfl) (by omega)|refine k_loadC (j:=i*3) (cs:=dmc C R e1.1) rfl hSk hat1 rfl (Ty.shp rfl)|refine Run_pev rfl) rfl ?_))
    clear hSk hB8
    refine WL_s (S_call ((dhas_spec (n:=(j:Int)) (hkl e1 hm1) (hH.at 2 rfl e1 hm1))) rfl rfl ?_)
    rintro _ _ ⟨rfl,hE0⟩
    replace hH:=hH.ext0 hE0
    clear hE0
    replace hH:=nn12 hH
    cases hh:hasB e1.2 j
    ·repeat (first|refine WS_region ?_|refine WL_nil ?_|refine WS_inBlock ?_|refine WS_skip ?_|refine WS_false rfl ?_|refine WL_gno rfl rfl rfl rfl rfl ?_|(refine WL_r (by first|refine Run_pev rfl|refine k_add64 rfl rfl (by omega)) rfl ?_))
     refine IH2 (j+1) _ _ ?_ ?_ ?_ ?_
     ·omega
     ·exact ⟨rfl,trivial⟩
     ·repeat first|with_reducible apply Agr.refl|refine Agr.upd rfl ?_|refine Agr.updL rfl ?_|refine Agr.mrg rfl ?_
     ·exact ⟨by omega,hH⟩
    ·have hB17:=hH.b 11 rfl
     repeat (first|refine WL_gyes rfl rfl rfl ?_|(refine WL_r (by first|refine k_loadA rfl hB17 rfl (Ty.shp rfl)|refine Run_pev rfl) rfl ?_))
     clear hB17
     refine WL_s (S_call ((dhas_spec (n:=(j:Int)) (hlen2 e2 hm2) (hH.at 0 rfl e2 hm2))) rfl rfl ?_)
     rintro _ _ ⟨rfl,hE0⟩
     replace hH:=hH.ext0 hE0
     clear hE0
     replace hH:=nn12 hH
     rw [hasB_mono hle12 hh]
     repeat (first|refine WS_region ?_|refine WL_nil ?_|refine WS_inBlock ?_|refine WS_skip ?_|refine WS_false rfl ?_|refine WL_gyes rfl rfl rfl ?_|(refine WL_r (by first|refine Run_pev rfl|refine k_add64 rfl rfl (by omega)) rfl ?_))
     refine IH2 (j+1) _ _ ?_ ?_ ?_ ?_
     ·omega
     ·exact ⟨rfl,trivial⟩
     ·repeat first|with_reducible apply Agr.refl|refine Agr.upd rfl ?_|refine Agr.updL rfl ?_|refine Agr.mrg rfl ?_
     ·exact ⟨by omega,hH⟩
   ·obtain rfl:j=C*R:=by omega
    clear IH2
    repeat (first|refine WS_seq ?_|refine WS_region ?_|refine WL_nil ?_|refine WS_inBlock ?_|refine WS_exit rfl ?_|refine WS_no rfl (by omega) ?_|(refine WL_r (by first|refine Run_pev rfl|refine k_add64 rfl rfl (by omega)) rfl ?_))
    replace hH:=hH.del 11
    replace hH:=nn11 hH
    refine IH (i+1) _ _ ?_ ?_ ?_ ?_
    ·omega
    ·exact ⟨rfl,trivial⟩
    ·repeat first|with_reducible apply Agr.refl|refine Agr.upd rfl ?_|refine Agr.updL rfl ?_|refine Agr.mrg rfl ?_
    ·exact ⟨by omega,hH⟩
  ·obtain rfl:i=l2.length:=by omega
   repeat (first|refine WS_seq ?_|refine WS_region ?_|refine WL_nil ?_|refine WS_exit rfl ?_|refine WS_no rfl (by omega) ?_|refine lp rfl rfl ?_)
   exact WS_ret1 Tryz.func3 rfl ⟨rfl,(hE2.then0 hH.ext)⟩
end Go.Proofs.YtpbiicegmcpkpaaGreat
