/- A part of the proof that TopWorse is true at every input; no condition. -/
import Derived.Test.YtpbiicegmcpkpaaGreatT17
import Derived.Test.YtpbiicegmcpkpaaGreatT21
namespace Go.Proofs.YtpbiicegmcpkpaaGreat
open Go Go.K Go.P Go.RowKit Go.Proofs
def mcl (k:Nat) (q:Int) (u0 u1 u2 u3:Value) (e:Bool) (L:List Int):List Value:=.int .u8 k::.int .i64 q::u0::u1::u2::u3::.bool e::L.map (Value.int .i64)
abbrev zV:Value:=.complex .f64 0 0
structure MV (k:Nat) (q:Int) (u0 u1 u2 u3:Value) (e:Bool) (L:List Int):Prop where
 k5:k<5
 q1:1≤q∧q≤31
 g0:VG u0
 g1:VG u1
 g2:VG u2
 g3:VG u3
 all:k≠2→u1=u0∧u2=u0∧u3=u0
 nil:k≠1→k≠2→u0=zV
 ed:e=true→3≤k
 len:L.length=384
 lv:∀ (i:Nat) (n:Int),L[i]?=some n→(-1000≤n∧n≤1000)∧(k=0→n=0)∧(3≤k→i % 64=0→0≤n∧n≤127)
section
variable {k:Nat} {q:Int} {u0 u1 u2 u3:Value} {e:Bool} {L:List Int} {w:World}
theorem mcl_len (h:L.length=384):(mcl k q u0 u1 u2 u3 e L).length=391:=by simp [mcl,h]
theorem mcl_drop:(mcl k q u0 u1 u2 u3 e L).drop 7=L.map (Value.int .i64):=rfl
def row (L:List Int) (k:Nat):List Int:=(L.drop (k*64)).take 64
theorem row_len {b:Nat} (h:L.length=384) (hb:b<6):(row L b).length=64:=by simp [row,h];omega
theorem row_at {b i:Nat} (hi:i<64):(row L b)[i]?=L[b*64+i]?:=by
 rw [row,List.getElem?_take,if_pos hi,List.getElem?_drop]
theorem row_ex {b:Nat}:(L.map (Value.int .i64)).toArray.extract (b*64) (b*64+64)=((row L b).map (Value.int .i64)).toArray:=by
 rw [row,List.map_take,List.map_drop]
 simp
theorem MV.vi (h:MV k q u0 u1 u2 u3 e L) {i:Nat} (hi:i<4):∃ x y:Int,(-31≤x∧x≤31)∧(-31≤y∧y≤31)∧[u0,u1,u2,u3].toArray[i]?=some (CV x y)∧(k≠2→CV x y=u0):=by
 rcases (show i=0∨i=1∨i=2∨i=3 by omega) with rfl|rfl|rfl|rfl
 ·obtain ⟨x,y,hx,hy,rfl⟩:=h.g0;exact ⟨x,y,hx,hy,rfl,fun _=>rfl⟩
 ·have ha:=h.all;obtain ⟨x,y,hx,hy,rfl⟩:=h.g1;exact ⟨x,y,hx,hy,rfl,fun hk=>(ha hk).1⟩
 ·have ha:=h.all;obtain ⟨x,y,hx,hy,rfl⟩:=h.g2;exact ⟨x,y,hx,hy,rfl,fun hk=>(ha hk).2.1⟩
 ·have ha:=h.all;obtain ⟨x,y,hx,hy,rfl⟩:=h.g3;exact ⟨x,y,hx,hy,rfl,fun hk=>(ha hk).2.2⟩
theorem malone_spec:Does Tryz.prog 35 #[.agg (mcl k q u0 u1 u2 u3 e L).toArray] w fun v w'=>v=.bool (decide (k=3∨k=4))∧Ext [] w w':=by
 refine Does_of (args:=[_]) Tryz.func35 rfl rfl Tryz.ntmps35 rfl ?_
 have hH:=Hp.start w
 repeat (first|refine WS_seq ?_|refine WS_region ?_)
 refine WL_s (H_box (cs:=(mcl k q u0 u1 u2 u3 e L).toArray) hH rfl rfl rfl ?_)
 try clear hH
 intro _ b1 hH
 replace hH:=nn1 hH
 have hB:=hH.b 0 rfl
 by_cases h3:k=3
 ·repeat (first|refine WS_seq ?_|refine WS_region ?_|refine WL_nil ?_|refine WL_gno rfl rfl rfl rfl rfl ?_|(refine WL_r (by first|refine k_fa rfl (Ty.fld rfl rfl)|refine k_loadb rfl hB rfl (Ty.shp rfl)|refine (k_eql (q:=.u8) rfl rfl).is (bT (by omega))|refine Run_pev rfl) rfl ?_))
  exact WS_ret1 Tryz.func35 rfl ⟨by rw [decide_eq_true (.inl h3)];rfl,hH.ext⟩
 by_cases h4:k=4
 ·repeat (first|refine WS_seq ?_|refine WS_region ?_|refine WL_nil ?_|refine WL_gyes rfl rfl rfl ?_|(refine WL_r (by first|refine k_fa rfl (Ty.fld rfl rfl)|refine k_loadb rfl hB rfl (Ty.shp rfl)|refine (k_eql (q:=.u8) rfl rfl).is (bT (by omega))|refine (k_eql (q:=.u8) rfl rfl).is (bF (by omega))|refine Run_pev rfl) rfl ?_))
  exact WS_ret1 Tryz.func35 rfl ⟨by rw [decide_eq_true (.inr h4)];rfl,hH.ext⟩
 ·repeat (first|refine WS_seq ?_|refine WS_region ?_|refine WL_nil ?_|refine WL_gyes rfl rfl rfl ?_|(refine WL_r (by first|refine k_fa rfl (Ty.fld rfl rfl)|refine k_loadb rfl hB rfl (Ty.shp rfl)|refine (k_eql (q:=.u8) rfl rfl).is (bF (by omega))|refine Run_pev rfl) rfl ?_))
  exact WS_ret1 Tryz.func35 rfl ⟨by rw [decide_eq_false (by omega)];rfl,hH.ext⟩
theorem feqs {x y:Int} (hx:-31≤x∧x≤31) (hy:-31≤y∧y≤31):(!(feq (FN x) (FN x) && feq (FN y) (FN y)))=false:=by rw [feq_FN x (by omega),feq_FN y (by omega)];rfl
set_option maxHeartbeats 4000000 in
theorem mvectors_spec (h:MV k q u0 u1 u2 u3 e L):Does Tryz.prog 94 #[.agg (mcl k q u0 u1 u2 u3 e L).toArray] w fun v w'=>v=.int .i64 0∧Ext [] w w':=by
 refine Does_of (args:=[_]) Tryz.func94 rfl rfl Tryz.ntmps94 rfl ?_
 have hH:=Hp.start w
 repeat (first|refine WS_seq ?_|refine WS_region ?_)
 refine WL_s (H_box (cs:=(mcl k q u0 u1 u2 u3 e L).toArray) hH rfl rfl rfl ?_)
 try clear hH
 intro _ b1 hH
 replace hH:=nn1 hH
 have hS:SlA _ (some ⟨b1,0,none⟩) (mcl k q u0 u1 u2 u3 e L):=(hH.b 0 rfl).sl0
 repeat (first|refine WS_seq ?_|refine WS_region ?_|refine WL_nil ?_|refine WS_block ?_|(refine WL_r (by first|refine k_fa rfl (Ty.fld rfl rfl)|refine k_loadC (j:=0+2) (cs:=[u0,u1,u2,u3]) rfl hS rfl rfl (Ty.shp rfl)|refine Run_pev rfl) rfl ?_))
 clear hS
 refine WS_loop (G:=(Nat)) (fun i=>4-i) 274877906836 (fun i=>[(7,.int .i64 i)]) (fun i w'=>i≤4∧Hp [] w w' [Rb b1 97 (mcl k q u0 u1 u2 u3 e L).toArray]) (0) ⟨rfl,trivial⟩ ⟨by omega,hH⟩ ?_
 rintro i w' σ ⟨hi,hH⟩ IH
 show WS _ _ _ _ _ (updL [(7,.int .i64 i)] _) _
 by_cases hlt:i<4
 ·obtain ⟨x,y,hx,hy,hv,hu⟩:=h.vi hlt
  have hR:=isR_FN hx hy
  have hB:=hH.b 0 rfl
  have hk5:=h.k5
  repeat (first|refine WS_seq ?_|refine WS_region ?_|refine WL_nil ?_|refine WS_block ?_|refine WS_skip ?_|refine WS_yes rfl (by omega) ?_|(refine WL_r (by first|refine k_index1 rfl rfl (Ty.arr rfl) (by omega) hv|refine Run_pev rfl) rfl ?_))
  refine WL_s (S_call (right_spec) rfl rfl ?_)
  rintro _ _ ⟨rfl,rfl⟩
  by_cases h2:k=2
  ·repeat (first|refine WS_seq ?_|refine WS_region ?_|refine WL_nil ?_|refine WS_inBlock ?_|refine WS_skip ?_|refine WS_false rfl ?_|refine WL_gyes rfl rfl rfl ?_|refine WL_gno rfl rfl rfl rfl rfl ?_|(refine WL_r (by first|refine (k_notb rfl).is (congrArg (fun b=>Value.bool !b) hR)|refine k_fa rfl (Ty.fld rfl rfl)|refine k_loadb rfl hB rfl (Ty.shp rfl)|refine (k_neq (q:=.u8) rfl rfl).is (bF (by omega))|refine (k_neq (q:=.u8) rfl rfl).is (bT (by omega))|refine Run_pev rfl|refine k_add64 rfl rfl (by omega)) rfl ?_))
   refine IH (i+1) _ _ ?_ ?_ ?_ ?_
   ·omega
   ·exact ⟨rfl,trivial⟩
   ·repeat first|with_reducible apply Agr.refl|refine Agr.upd rfl ?_|refine Agr.updL rfl ?_|refine Agr.mrg rfl ?_
   ·exact ⟨by omega,hH⟩
  ·have hxy:=hu h2
   have h0:(mcl k q u0 u1 u2 u3 e L).toArray[2]?=some (CV x y):=by rw [hxy];rfl
   by_cases h1:k=1
   ·repeat (first|refine WS_seq ?_|refine WS_region ?_|refine WL_nil ?_|refine WS_inBlock ?_|refine WS_skip ?_|refine WS_false rfl ?_|refine WL_gyes rfl rfl rfl ?_|refine WL_gno rfl rfl rfl rfl rfl ?_|(refine WL_r (by first|refine (k_notb rfl).is (congrArg (fun b=>Value.bool !b) hR)|refine k_fa rfl (Ty.fld rfl rfl)|refine k_loadb rfl hB h0 (Ty.shp rfl)|refine k_loadb rfl hB rfl (Ty.shp rfl)|refine (k_neq (q:=.u8) rfl rfl).is (bF (by omega))|refine (k_neq (q:=.u8) rfl rfl).is (bT (by omega))|refine k_ixa1 rfl rfl (Ty.arr rfl) (by decide)|refine (k_cneq rfl rfl).is (congrArg Value.bool (feqs hx hy))|refine Run_pev rfl|refine k_add64 rfl rfl (by omega)) rfl ?_))
    refine IH (i+1) _ _ ?_ ?_ ?_ ?_
    ·omega
    ·exact ⟨rfl,trivial⟩
    ·repeat first|with_reducible apply Agr.refl|refine Agr.upd rfl ?_|refine Agr.updL rfl ?_|refine Agr.mrg rfl ?_
    ·exact ⟨by omega,hH⟩
   ·have hz:CV x y=zV:=hxy.trans (h.nil h1 h2)
    obtain ⟨e1,e2⟩:FN x=0∧FN y=0:=by
     have h:=hz
     simp only [Value.complex.injEq,true_and] at h
     exact h
    repeat (first|refine WS_seq ?_|refine WS_region ?_|refine WL_nil ?_|refine WS_inBlock ?_|refine WS_skip ?_|refine WS_false rfl ?_|refine WL_gyes rfl rfl rfl ?_|(refine WL_r (by first|refine (k_notb rfl).is (congrArg (fun b=>Value.bool !b) hR)|refine k_fa rfl (Ty.fld rfl rfl)|refine k_loadb rfl hB h0 (Ty.shp rfl)|refine k_loadb rfl hB rfl (Ty.shp rfl)|refine (k_neq (q:=.u8) rfl rfl).is (bT (by omega))|refine k_ixa1 rfl rfl (Ty.arr rfl) (by decide)|refine (k_cneq rfl rfl).is (congrArg Value.bool (feqs hx hy))|refine (k_cneq rfl rfl).is (congrArg Value.bool (show (!(feq (FN x) 0 && feq (FN y) 0))=false by rw [e1,e2];exact feq0))|refine Run_pev rfl|refine k_add64 rfl rfl (by omega)) rfl ?_))
    refine IH (i+1) _ _ ?_ ?_ ?_ ?_
    ·omega
    ·exact ⟨rfl,trivial⟩
    ·repeat first|with_reducible apply Agr.refl|refine Agr.upd rfl ?_|refine Agr.updL rfl ?_|refine Agr.mrg rfl ?_
    ·exact ⟨by omega,hH⟩
 ·obtain rfl:i=4:=by omega
  repeat (first|refine WS_seq ?_|refine WS_region ?_|refine WL_nil ?_|refine WS_exit rfl ?_|refine WS_false rfl ?_|refine lp rfl rfl ?_)
  exact WS_ret1 Tryz.func94 rfl ⟨rfl,hH.ext⟩
set_option maxRecDepth 20000 in
set_option maxHeartbeats 8000000 in
theorem mlevels_spec (h:MV k q u0 u1 u2 u3 e L):Does Tryz.prog 95 #[.agg (mcl k q u0 u1 u2 u3 e L).toArray] w fun v w'=>v=.int .i64 0∧Ext [] w w':=by
 refine Does_of (args:=[_]) Tryz.func95 rfl rfl Tryz.ntmps95 rfl ?_
 have hH:=Hp.start w
 have hml:=mcl_len (k:=k) (q:=q) (u0:=u0) (u1:=u1) (u2:=u2) (u3:=u3) (e:=e) h.len
 repeat (first|refine WS_seq ?_|refine WS_region ?_)
 refine WL_s (H_box (cs:=(mcl k q u0 u1 u2 u3 e L).toArray) hH rfl rfl rfl ?_)
 try clear hH
 intro _ b1 hH
 replace hH:=nn1 hH
 have hS:SlA _ (some ⟨b1,0,none⟩) (mcl k q u0 u1 u2 u3 e L):=(hH.b 0 rfl).sl0
 repeat (first|refine WS_seq ?_|refine WS_region ?_|refine WL_nil ?_|refine WS_block ?_|(refine WL_r (by first|refine k_fa rfl (Ty.fld rfl rfl)|refine k_loadC (j:=0+7) (cs:=L.map (Value.int .i64)) rfl hS (by rw [Nat.zero_add,mcl_drop,List.take_of_length_le (by rw [List.length_map,h.len];decide)]) (by rw [List.length_map,h.len]) (Ty.shp rfl)|refine Run_pev rfl) rfl ?_))
 clear hS
 refine WS_loop (G:=(Nat)) (fun b=>6-b) 281474976710260 (fun b=>[(9,.int .i64 b)]) (fun b w'=>b≤6∧Hp [] w w' [Rb b1 97 (mcl k q u0 u1 u2 u3 e L).toArray]) (0) ⟨rfl,trivial⟩ ⟨by omega,hH⟩ ?_
 rintro b w' σ ⟨hb,hH⟩ IH
 show WS _ _ _ _ _ (updL [(9,.int .i64 b)] _) _
 by_cases hlt:b<6
 ·have hl1:=row_len (b:=b) h.len hlt
  repeat (first|refine WS_seq ?_|refine WS_region ?_|refine WL_nil ?_|refine WS_block ?_|refine WS_skip ?_|refine WS_yes rfl (by omega) ?_|(refine WL_r (by first|refine (k_indexN rfl rfl (Ty.arr rfl) (by omega)).is (congrArg Value.agg (row_ex (L:=L) (b:=b)))|refine Run_pev rfl) rfl ?_))
  refine WL_s (H_alloc hH (Ty.zer rfl) rfl ?_)
  try clear hH
  intro _ b2 hH
  replace hH:=nn2 hH
  refine WL_s (H_storeA 1 (vs:=((row L b).map (Value.int .i64)).toArray) (s:=64) hH rfl rfl rfl (by simp [hl1]) (by rfl) (by exact ints_one) (Ty.shp rfl) ?_)
  try clear hH
  intro _ hH
  replace hH:=nn2 hH
  have hB2:=hH.b 1 rfl
  repeat (first|refine WS_seq ?_|refine WS_region ?_|refine WL_nil ?_|refine WS_block ?_|(refine WL_r (by first|refine k_loadA rfl hB2 (by simp [hl1]) (Ty.shp rfl)|refine Run_pev rfl) rfl ?_))
  clear hB2
  refine WS_loop (G:=(Nat)) (fun i=>64-i) 140737488347236 (fun i=>[(13,.int .i64 i)]) (fun i w'=>i≤64∧Hp [] w w' [Rb b1 97 (mcl k q u0 u1 u2 u3 e L).toArray,Rb b2 94 ((row L b).map (Value.int .i64)).toArray]) (0) ⟨rfl,trivial⟩ ⟨by omega,hH⟩ ?_
  rintro i w' σ ⟨hi,hH⟩ IH2
  show WS _ _ _ _ _ (updL [(13,.int .i64 i)] _) _
  by_cases hil:i<64
  ·obtain ⟨n,hn⟩:∃ n,(row L b)[i]?=some n:=⟨_,List.getElem?_eq_getElem (by omega)⟩
   have hx1:((row L b).map (Value.int .i64)).toArray[i]?=some (.int .i64 n):=by simp [hn]
   rw [row_at hil] at hn
   obtain ⟨hn1,hn0,hn3⟩:=h.lv _ n hn
   have hB:=hH.b 0 rfl
   have hk5:=h.k5
   by_cases h0:i=0
   ·subst h0
    by_cases hk0:k=0
    ·have e0:=hn0 hk0
     repeat (first|refine WS_seq ?_|refine WS_region ?_|refine WL_nil ?_|refine WS_block ?_|refine WS_skip ?_|refine WS_true rfl ?_|refine WS_no rfl (by omega) ?_|refine WL_gyes rfl rfl rfl ?_|refine WL_gyes rfl rfl (dF (by omega)) ?_|(refine WL_r (by first|refine k_index1 rfl rfl (Ty.arr rfl) (by omega) hx1|refine k_fa rfl (Ty.fld rfl rfl)|refine k_loadb rfl hB rfl (Ty.shp rfl)|refine (k_eql (q:=.u8) rfl rfl).is (bT (by omega))|refine k_loadA rfl hB (by simp [hml]) (Ty.shp rfl)|refine Run_pev rfl|refine k_pick_f (dF (by omega)) rfl) rfl ?_))
     refine WL_s (S_call (malone_spec) rfl rfl ?_)
     rintro _ _ ⟨rfl,hE0⟩
     replace hH:=hH.ext0 hE0
     clear hE0
     replace hH:=nn2 hH
     clear hB
     repeat (first|refine WS_region ?_|refine WL_nil ?_|refine WS_inBlock ?_|refine WS_skip ?_|refine WS_false rfl ?_|refine WL_gund rfl rfl rfl ?_|refine WL_gno (b:=false) rfl rfl (dF (by omega)) rfl rfl ?_|(refine WL_r (by first|refine Run_pev rfl|refine k_add64 rfl rfl (by omega)|refine k_pick_f (dF (by omega)) rfl) rfl ?_))
     refine IH2 1 _ _ ?_ ?_ ?_ ?_
     ·omega
     ·exact ⟨rfl,trivial⟩
     ·repeat first|with_reducible apply Agr.refl|refine Agr.upd rfl ?_|refine Agr.updL rfl ?_|refine Agr.mrg rfl ?_
     ·exact ⟨by omega,hH⟩
    ·repeat (first|refine WS_seq ?_|refine WS_region ?_|refine WL_nil ?_|refine WS_block ?_|refine WS_skip ?_|refine WS_true rfl ?_|refine WS_false rfl ?_|refine WS_no rfl (by omega) ?_|refine WL_gyes rfl rfl rfl ?_|refine WL_gno rfl rfl rfl rfl rfl ?_|refine WL_gyes rfl rfl (dF (by omega)) ?_|(refine WL_r (by first|refine k_index1 rfl rfl (Ty.arr rfl) (by omega) hx1|refine k_fa rfl (Ty.fld rfl rfl)|refine k_loadb rfl hB rfl (Ty.shp rfl)|refine (k_eql (q:=.u8) rfl rfl).is (bF (by omega))|refine k_loadA rfl hB (by simp [hml]) (Ty.shp rfl)|refine Run_pev rfl|refine k_pick_f (dF (by omega)) rfl) rfl ?_))
     refine WL_s (S_call (malone_spec) rfl rfl ?_)
     rintro _ _ ⟨rfl,hE0⟩
     replace hH:=hH.ext0 hE0
     clear hE0
     replace hH:=nn2 hH
     clear hB
     by_cases h34:k=3∨k=4
     ·have e0:=hn3 (by omega) (by omega)
      repeat (first|refine WS_region ?_|refine WL_nil ?_|refine WS_inBlock ?_|refine WS_skip ?_|refine WS_no rfl (by omega) ?_|refine WL_gyes rfl rfl (dF (by omega)) ?_|refine WL_gyes rfl rfl (dT (by omega)) ?_|(refine WL_r (by first|refine Run_pev rfl|refine k_add64 rfl rfl (by omega)|refine k_pick_f (dF (by omega)) rfl|refine k_pick_t (dT (by omega)) rfl) rfl ?_))
      refine IH2 1 _ _ ?_ ?_ ?_ ?_
      ·omega
      ·exact ⟨rfl,trivial⟩
      ·repeat first|with_reducible apply Agr.refl|refine Agr.upd rfl ?_|refine Agr.updL rfl ?_|refine Agr.mrg rfl ?_
      ·exact ⟨by omega,hH⟩
     ·repeat (first|refine WS_region ?_|refine WL_nil ?_|refine WS_inBlock ?_|refine WS_skip ?_|refine WS_false rfl ?_|refine WL_gund rfl rfl rfl ?_|refine WL_gno (b:=false) rfl rfl (dF (by omega)) rfl rfl ?_|(refine WL_r (by first|refine Run_pev rfl|refine k_add64 rfl rfl (by omega)|refine k_pick_f (dF (by omega)) rfl) rfl ?_))
      refine IH2 1 _ _ ?_ ?_ ?_ ?_
      ·omega
      ·exact ⟨rfl,trivial⟩
      ·repeat first|with_reducible apply Agr.refl|refine Agr.upd rfl ?_|refine Agr.updL rfl ?_|refine Agr.mrg rfl ?_
      ·exact ⟨by omega,hH⟩
   ·by_cases hk0:k=0
    ·have e0:=hn0 hk0
     repeat (first|refine WS_seq ?_|refine WS_region ?_|refine WL_nil ?_|refine WS_block ?_|refine WS_inBlock ?_|refine WS_skip ?_|refine WS_false rfl ?_|refine WS_yes rfl (by omega) ?_|refine WS_no rfl (by omega) ?_|refine WL_gyes rfl rfl rfl ?_|refine WL_gno rfl rfl rfl rfl rfl ?_|refine WL_gund rfl rfl rfl ?_|refine WL_gyes rfl rfl (dF (by omega)) ?_|refine WL_gno (b:=false) rfl rfl (dF (by omega)) rfl rfl ?_|(refine WL_r (by first|refine k_index1 rfl rfl (Ty.arr rfl) (by omega) hx1|refine k_fa rfl (Ty.fld rfl rfl)|refine k_loadb rfl hB rfl (Ty.shp rfl)|refine (k_eql (q:=.u8) rfl rfl).is (bT (by omega))|refine Run_pev rfl|refine k_add64 rfl rfl (by omega)|refine k_pick_f (dF (by omega)) rfl) rfl ?_))
     refine IH2 (i+1) _ _ ?_ ?_ ?_ ?_
     ·omega
     ·exact ⟨rfl,trivial⟩
     ·repeat first|with_reducible apply Agr.refl|refine Agr.upd rfl ?_|refine Agr.updL rfl ?_|refine Agr.mrg rfl ?_
     ·exact ⟨by omega,hH⟩
    ·repeat (first|refine WS_seq ?_|refine WS_region ?_|refine WL_nil ?_|refine WS_block ?_|refine WS_inBlock ?_|refine WS_skip ?_|refine WS_false rfl ?_|refine WS_yes rfl (by omega) ?_|refine WS_no rfl (by omega) ?_|refine WL_gno rfl rfl rfl rfl rfl ?_|refine WL_gund rfl rfl rfl ?_|refine WL_gyes rfl rfl (dF (by omega)) ?_|refine WL_gno (b:=false) rfl rfl (dF (by omega)) rfl rfl ?_|(refine WL_r (by first|refine k_index1 rfl rfl (Ty.arr rfl) (by omega) hx1|refine k_fa rfl (Ty.fld rfl rfl)|refine k_loadb rfl hB rfl (Ty.shp rfl)|refine (k_eql (q:=.u8) rfl rfl).is (bF (by omega))|refine Run_pev rfl|refine k_add64 rfl rfl (by omega)|refine k_pick_f (dF (by omega)) rfl) rfl ?_))
     refine IH2 (i+1) _ _ ?_ ?_ ?_ ?_
     ·omega
     ·exact ⟨rfl,trivial⟩
     ·repeat first|with_reducible apply Agr.refl|refine Agr.upd rfl ?_|refine Agr.updL rfl ?_|refine Agr.mrg rfl ?_
     ·exact ⟨by omega,hH⟩
  ·obtain rfl:i=64:=by omega
   repeat (first|refine WS_seq ?_|refine WS_region ?_|refine WL_nil ?_|refine WS_inBlock ?_|refine WS_exit rfl ?_|refine WS_false rfl ?_|(refine WL_r (by first|refine Run_pev rfl|refine k_add64 rfl rfl (by omega)) rfl ?_))
   replace hH:=hH.del 1
   replace hH:=nn1 hH
   refine IH (b+1) _ _ ?_ ?_ ?_ ?_
   ·omega
   ·exact ⟨rfl,trivial⟩
   ·repeat first|with_reducible apply Agr.refl|refine Agr.upd rfl ?_|refine Agr.updL rfl ?_|refine Agr.mrg rfl ?_
   ·exact ⟨by omega,hH⟩
 ·obtain rfl:b=6:=by omega
  repeat (first|refine WS_seq ?_|refine WS_region ?_|refine WL_nil ?_|refine WS_exit rfl ?_|refine WS_false rfl ?_|refine lp rfl rfl ?_)
  exact WS_ret1 Tryz.func95 rfl ⟨rfl,hH.ext⟩
def stepOk (p q:Int):Prop:=q=p-2∨q=p-1∨q=p+1∨q=p+2
set_option maxRecDepth 20000 in
set_option maxHeartbeats 8000000 in
theorem mcheck_gen {inter:Bool} {was:Int} (h:MV k q u0 u1 u2 u3 e L) (hw:1≤was∧was≤31) (hi:inter=false→3≤k) (hq:if k=4 then stepOk was q else q=was) :
  Does Tryz.prog 64 #[.agg (mcl k q u0 u1 u2 u3 e L).toArray,.bool inter,.int .i64 was] w fun v w'=>v=.int .i64 0∧Ext [] w w':=by
 refine Does_of (args:=[_,_,_]) Tryz.func64 rfl rfl Tryz.ntmps64 rfl ?_
 have hH:=Hp.start w
 have hml:=mcl_len (k:=k) (q:=q) (u0:=u0) (u1:=u1) (u2:=u2) (u3:=u3) (e:=e) h.len
 have hk5:=h.k5
 have hq1:=h.q1
 repeat (first|refine WS_seq ?_|refine WS_region ?_)
 refine WL_s (H_box (cs:=(mcl k q u0 u1 u2 u3 e L).toArray) hH rfl rfl rfl ?_)
 try clear hH
 intro _ b1 hH
 replace hH:=nn1 hH
 have hB:=hH.b 0 rfl
 cases inter
 ·have hk3:=hi rfl
  have hA:(decide (k=3∨k=4))=true:=decide_eq_true (by omega)
  repeat (first|refine WS_seq ?_|refine WS_region ?_|refine WL_nil ?_|refine WS_block ?_|refine WS_no rfl (by omega) ?_|refine WL_gyes rfl rfl rfl ?_|(refine WL_r (by first|refine k_fa rfl (Ty.fld rfl rfl)|refine k_loadb rfl hB rfl (Ty.shp rfl)|refine k_loadA rfl hB (by simp [hml]) (Ty.shp rfl)|refine Run_pev rfl) rfl ?_))
  refine WL_s (S_call (malone_spec) rfl rfl ?_)
  rintro _ _ ⟨rfl,hE0⟩
  replace hH:=hH.ext0 hE0
  clear hE0
  replace hH:=nn1 hH
  clear hB
  have hB:=hH.b 0 rfl
  cases e
  ·have hA:(decide (k=3∨k=4))=true∨True:=.inr trivial
   by_cases h4:k=4
   ·rw [if_pos h4] at hq
    repeat (first|refine WS_seq ?_|refine WS_region ?_|refine WL_nil ?_|refine WS_inBlock ?_|refine WS_skip ?_|refine WS_true rfl ?_|refine WS_false rfl ?_|refine WS_no rfl (by omega) ?_|refine WL_gyes rfl rfl rfl ?_|refine WL_gno rfl rfl rfl rfl rfl ?_|(refine WL_r (by first|refine k_fa rfl (Ty.fld rfl rfl)|refine k_loadb rfl hB rfl (Ty.shp rfl)|refine (k_eql (q:=.u8) rfl rfl).is (bT (by omega))|refine Run_pev rfl|refine k_not rfl) rfl ?_))
    refine WL_s (S_call ((step_spec (by omega))) rfl rfl ?_)
    rintro v _ ⟨hs,hE0⟩
    obtain ⟨i,rfl⟩:∃ i:Nat,v=.tuple #[.int .i64 i,.bool true]:=by
     rcases hs with ⟨i,_,_,_,rfl⟩|⟨hno,_⟩
     ·exact ⟨i,rfl⟩
     ·exfalso
      rcases hq with hq|hq|hq|hq
      ·exact hno 0 (-2) rfl (by omega)
      ·exact hno 1 (-1) rfl (by omega)
      ·exact hno 2 1 rfl (by omega)
      ·exact hno 3 2 rfl (by omega)
    replace hH:=hH.ext0 hE0
    clear hE0 hB
    replace hH:=nn1 hH
    have hB:=hH.b 0 rfl
    repeat (first|refine WS_seq ?_|refine WS_region ?_|refine WL_nil ?_|refine WS_skip ?_|refine WS_false rfl ?_|(refine WL_r (by first|refine k_loadA rfl hB (by simp [hml]) (Ty.shp rfl)|refine Run_pev rfl|refine k_extract rfl rfl) rfl ?_))
    refine WL_s (S_call ((mvectors_spec h)) rfl rfl ?_)
    rintro _ _ ⟨rfl,hE0⟩
    replace hH:=hH.ext0 hE0
    clear hE0
    replace hH:=nn1 hH
    clear hB
    have hB:=hH.b 0 rfl
    repeat (first|refine WS_seq ?_|refine WS_region ?_|refine WL_nil ?_|refine WS_skip ?_|refine WS_false rfl ?_|(refine WL_r (by first|refine k_loadA rfl hB (by simp [hml]) (Ty.shp rfl)|refine Run_pev rfl) rfl ?_))
    refine WL_s (S_call ((mlevels_spec h)) rfl rfl ?_)
    rintro _ _ ⟨rfl,hE0⟩
    replace hH:=hH.ext0 hE0
    clear hE0
    replace hH:=nn1 hH
    repeat (first|refine WL_nil ?_|refine lp rfl rfl ?_)
    exact WS_ret1 Tryz.func64 rfl ⟨rfl,hH.ext⟩
   ·rw [if_neg h4] at hq
    subst hq
    repeat (first|refine WS_seq ?_|refine WS_region ?_|refine WL_nil ?_|refine WS_inBlock ?_|refine WS_skip ?_|refine WS_false rfl ?_|refine WS_no rfl (by omega) ?_|refine WL_gyes rfl rfl rfl ?_|refine WL_gno rfl rfl rfl rfl rfl ?_|(refine WL_r (by first|refine k_fa rfl (Ty.fld rfl rfl)|refine k_loadb rfl hB rfl (Ty.shp rfl)|refine k_loadA rfl hB (by simp [hml]) (Ty.shp rfl)|refine (k_eql (q:=.u8) rfl rfl).is (bF (by omega))|refine (k_neq rfl rfl).is (bF (fun h=>h rfl))|refine Run_pev rfl|refine k_not rfl) rfl ?_))
    clear hB
    have hB:=hH.b 0 rfl
    skip
    refine WL_s (S_call ((mvectors_spec h)) rfl rfl ?_)
    rintro _ _ ⟨rfl,hE0⟩
    replace hH:=hH.ext0 hE0
    clear hE0
    replace hH:=nn1 hH
    clear hB
    have hB:=hH.b 0 rfl
    repeat (first|refine WS_seq ?_|refine WS_region ?_|refine WL_nil ?_|refine WS_skip ?_|refine WS_false rfl ?_|(refine WL_r (by first|refine k_loadA rfl hB (by simp [hml]) (Ty.shp rfl)|refine Run_pev rfl) rfl ?_))
    refine WL_s (S_call ((mlevels_spec h)) rfl rfl ?_)
    rintro _ _ ⟨rfl,hE0⟩
    replace hH:=hH.ext0 hE0
    clear hE0
    replace hH:=nn1 hH
    repeat (first|refine WL_nil ?_|refine lp rfl rfl ?_)
    exact WS_ret1 Tryz.func64 rfl ⟨rfl,hH.ext⟩
  ·have hA:(decide (k=3∨k=4))=true:=decide_eq_true (by have:=h.ed rfl;omega)
   repeat (first|refine WS_seq ?_|refine WS_region ?_|refine WL_nil ?_|refine WS_false rfl ?_|refine WL_gyes rfl rfl rfl ?_|(refine WL_r (by first|refine (k_notb rfl).is (congrArg (fun b=>Value.bool !b) hA)|refine k_fa rfl (Ty.fld rfl rfl)|refine k_loadb rfl hB rfl (Ty.shp rfl)|refine k_loadA rfl hB (by simp [hml]) (Ty.shp rfl)|refine Run_pev rfl) rfl ?_))
   refine WL_s (S_call (malone_spec) rfl rfl ?_)
   rintro _ _ ⟨rfl,hE0⟩
   replace hH:=hH.ext0 hE0
   clear hE0
   replace hH:=nn1 hH
   clear hB
   have hB:=hH.b 0 rfl
   by_cases h4:k=4
   ·rw [if_pos h4] at hq
    repeat (first|refine WS_seq ?_|refine WS_region ?_|refine WL_nil ?_|refine WS_inBlock ?_|refine WS_skip ?_|refine WS_true rfl ?_|refine WS_false rfl ?_|refine WL_gyes rfl rfl rfl ?_|(refine WL_r (by first|refine (k_notb rfl).is (congrArg (fun b=>Value.bool !b) hA)|refine k_fa rfl (Ty.fld rfl rfl)|refine k_loadb rfl hB rfl (Ty.shp rfl)|refine (k_eql (q:=.u8) rfl rfl).is (bT (by omega))|refine Run_pev rfl) rfl ?_))
    refine WL_s (S_call ((step_spec (by omega))) rfl rfl ?_)
    rintro v _ ⟨hs,hE0⟩
    obtain ⟨i,rfl⟩:∃ i:Nat,v=.tuple #[.int .i64 i,.bool true]:=by
     rcases hs with ⟨i,_,_,_,rfl⟩|⟨hno,_⟩
     ·exact ⟨i,rfl⟩
     ·exfalso
      rcases hq with hq|hq|hq|hq
      ·exact hno 0 (-2) rfl (by omega)
      ·exact hno 1 (-1) rfl (by omega)
      ·exact hno 2 1 rfl (by omega)
      ·exact hno 3 2 rfl (by omega)
    replace hH:=hH.ext0 hE0
    clear hE0 hB
    replace hH:=nn1 hH
    have hB:=hH.b 0 rfl
    repeat (first|refine WS_seq ?_|refine WS_region ?_|refine WL_nil ?_|refine WS_skip ?_|refine WS_false rfl ?_|(refine WL_r (by first|refine k_loadA rfl hB (by simp [hml]) (Ty.shp rfl)|refine Run_pev rfl|refine k_extract rfl rfl) rfl ?_))
    refine WL_s (S_call ((mvectors_spec h)) rfl rfl ?_)
    rintro _ _ ⟨rfl,hE0⟩
    replace hH:=hH.ext0 hE0
    clear hE0
    replace hH:=nn1 hH
    clear hB
    have hB:=hH.b 0 rfl
    repeat (first|refine WS_seq ?_|refine WS_region ?_|refine WL_nil ?_|refine WS_skip ?_|refine WS_false rfl ?_|(refine WL_r (by first|refine k_loadA rfl hB (by simp [hml]) (Ty.shp rfl)|refine Run_pev rfl) rfl ?_))
    refine WL_s (S_call ((mlevels_spec h)) rfl rfl ?_)
    rintro _ _ ⟨rfl,hE0⟩
    replace hH:=hH.ext0 hE0
    clear hE0
    replace hH:=nn1 hH
    repeat (first|refine WL_nil ?_|refine lp rfl rfl ?_)
    exact WS_ret1 Tryz.func64 rfl ⟨rfl,hH.ext⟩
   ·rw [if_neg h4] at hq
    subst hq
    repeat (first|refine WS_seq ?_|refine WS_region ?_|refine WL_nil ?_|refine WS_inBlock ?_|refine WS_skip ?_|refine WS_false rfl ?_|refine WL_gyes rfl rfl rfl ?_|(refine WL_r (by first|refine (k_notb rfl).is (congrArg (fun b=>Value.bool !b) hA)|refine k_fa rfl (Ty.fld rfl rfl)|refine k_loadb rfl hB rfl (Ty.shp rfl)|refine k_loadA rfl hB (by simp [hml]) (Ty.shp rfl)|refine (k_eql (q:=.u8) rfl rfl).is (bF (by omega))|refine (k_neq rfl rfl).is (bF (fun h=>h rfl))|refine Run_pev rfl) rfl ?_))
    clear hB
    have hB:=hH.b 0 rfl
    skip
    refine WL_s (S_call ((mvectors_spec h)) rfl rfl ?_)
    rintro _ _ ⟨rfl,hE0⟩
    replace hH:=hH.ext0 hE0
    clear hE0
    replace hH:=nn1 hH
    clear hB
    have hB:=hH.b 0 rfl
    repeat (first|refine WS_seq ?_|refine WS_region ?_|refine WL_nil ?_|refine WS_skip ?_|refine WS_false rfl ?_|(refine WL_r (by first|refine k_loadA rfl hB (by simp [hml]) (Ty.shp rfl)|refine Run_pev rfl) rfl ?_))
    refine WL_s (S_call ((mlevels_spec h)) rfl rfl ?_)
    rintro _ _ ⟨rfl,hE0⟩
    replace hH:=hH.ext0 hE0
    clear hE0
    replace hH:=nn1 hH
    repeat (first|refine WL_nil ?_|refine lp rfl rfl ?_)
    exact WS_ret1 Tryz.func64 rfl ⟨rfl,hH.ext⟩
 ·skip
  clear hB
  have hB:=hH.b 0 rfl
  cases e
  ·have hA:(decide (k=3∨k=4))=true∨True:=.inr trivial
   by_cases h4:k=4
   ·rw [if_pos h4] at hq
    repeat (first|refine WS_seq ?_|refine WS_region ?_|refine WL_nil ?_|refine WS_block ?_|refine WS_inBlock ?_|refine WS_skip ?_|refine WS_true rfl ?_|refine WS_false rfl ?_|refine WS_no rfl (by omega) ?_|refine WL_gno rfl rfl rfl rfl rfl ?_|(refine WL_r (by first|refine k_fa rfl (Ty.fld rfl rfl)|refine k_loadb rfl hB rfl (Ty.shp rfl)|refine (k_eql (q:=.u8) rfl rfl).is (bT (by omega))|refine Run_pev rfl) rfl ?_))
    refine WL_s (S_call ((step_spec (by omega))) rfl rfl ?_)
    rintro v _ ⟨hs,hE0⟩
    obtain ⟨i,rfl⟩:∃ i:Nat,v=.tuple #[.int .i64 i,.bool true]:=by
     rcases hs with ⟨i,_,_,_,rfl⟩|⟨hno,_⟩
     ·exact ⟨i,rfl⟩
     ·exfalso
      rcases hq with hq|hq|hq|hq
      ·exact hno 0 (-2) rfl (by omega)
      ·exact hno 1 (-1) rfl (by omega)
      ·exact hno 2 1 rfl (by omega)
      ·exact hno 3 2 rfl (by omega)
    replace hH:=hH.ext0 hE0
    clear hE0 hB
    replace hH:=nn1 hH
    have hB:=hH.b 0 rfl
    repeat (first|refine WS_seq ?_|refine WS_region ?_|refine WL_nil ?_|refine WS_skip ?_|refine WS_false rfl ?_|(refine WL_r (by first|refine k_loadA rfl hB (by simp [hml]) (Ty.shp rfl)|refine Run_pev rfl|refine k_extract rfl rfl) rfl ?_))
    refine WL_s (S_call ((mvectors_spec h)) rfl rfl ?_)
    rintro _ _ ⟨rfl,hE0⟩
    replace hH:=hH.ext0 hE0
    clear hE0
    replace hH:=nn1 hH
    clear hB
    have hB:=hH.b 0 rfl
    repeat (first|refine WS_seq ?_|refine WS_region ?_|refine WL_nil ?_|refine WS_skip ?_|refine WS_false rfl ?_|(refine WL_r (by first|refine k_loadA rfl hB (by simp [hml]) (Ty.shp rfl)|refine Run_pev rfl) rfl ?_))
    refine WL_s (S_call ((mlevels_spec h)) rfl rfl ?_)
    rintro _ _ ⟨rfl,hE0⟩
    replace hH:=hH.ext0 hE0
    clear hE0
    replace hH:=nn1 hH
    repeat (first|refine WL_nil ?_|refine lp rfl rfl ?_)
    exact WS_ret1 Tryz.func64 rfl ⟨rfl,hH.ext⟩
   ·rw [if_neg h4] at hq
    subst hq
    repeat (first|refine WS_seq ?_|refine WS_region ?_|refine WL_nil ?_|refine WS_block ?_|refine WS_inBlock ?_|refine WS_skip ?_|refine WS_false rfl ?_|refine WS_no rfl (by omega) ?_|refine WL_gno rfl rfl rfl rfl rfl ?_|(refine WL_r (by first|refine k_fa rfl (Ty.fld rfl rfl)|refine k_loadb rfl hB rfl (Ty.shp rfl)|refine k_loadA rfl hB (by simp [hml]) (Ty.shp rfl)|refine (k_eql (q:=.u8) rfl rfl).is (bF (by omega))|refine (k_neq rfl rfl).is (bF (fun h=>h rfl))|refine Run_pev rfl) rfl ?_))
    clear hB
    have hB:=hH.b 0 rfl
    skip
    refine WL_s (S_call ((mvectors_spec h)) rfl rfl ?_)
    rintro _ _ ⟨rfl,hE0⟩
    replace hH:=hH.ext0 hE0
    clear hE0
    replace hH:=nn1 hH
    clear hB
    have hB:=hH.b 0 rfl
    repeat (first|refine WS_seq ?_|refine WS_region ?_|refine WL_nil ?_|refine WS_skip ?_|refine WS_false rfl ?_|(refine WL_r (by first|refine k_loadA rfl hB (by simp [hml]) (Ty.shp rfl)|refine Run_pev rfl) rfl ?_))
    refine WL_s (S_call ((mlevels_spec h)) rfl rfl ?_)
    rintro _ _ ⟨rfl,hE0⟩
    replace hH:=hH.ext0 hE0
    clear hE0
    replace hH:=nn1 hH
    repeat (first|refine WL_nil ?_|refine lp rfl rfl ?_)
    exact WS_ret1 Tryz.func64 rfl ⟨rfl,hH.ext⟩
  ·have hA:(decide (k=3∨k=4))=true:=decide_eq_true (by have:=h.ed rfl;omega)
   repeat (first|refine WS_seq ?_|refine WS_region ?_|refine WL_nil ?_|refine WS_block ?_|refine WS_false rfl ?_|refine WS_no rfl (by omega) ?_|refine WL_gyes rfl rfl rfl ?_|refine WL_gno rfl rfl rfl rfl rfl ?_|(refine WL_r (by first|refine k_fa rfl (Ty.fld rfl rfl)|refine k_loadb rfl hB rfl (Ty.shp rfl)|refine k_loadA rfl hB (by simp [hml]) (Ty.shp rfl)|refine Run_pev rfl) rfl ?_))
   refine WL_s (S_call (malone_spec) rfl rfl ?_)
   rintro _ _ ⟨rfl,hE0⟩
   replace hH:=hH.ext0 hE0
   clear hE0
   replace hH:=nn1 hH
   clear hB
   have hB:=hH.b 0 rfl
   by_cases h4:k=4
   ·rw [if_pos h4] at hq
    repeat (first|refine WS_seq ?_|refine WS_region ?_|refine WL_nil ?_|refine WS_inBlock ?_|refine WS_skip ?_|refine WS_true rfl ?_|refine WS_false rfl ?_|refine WL_gyes rfl rfl rfl ?_|(refine WL_r (by first|refine (k_notb rfl).is (congrArg (fun b=>Value.bool !b) hA)|refine k_fa rfl (Ty.fld rfl rfl)|refine k_loadb rfl hB rfl (Ty.shp rfl)|refine (k_eql (q:=.u8) rfl rfl).is (bT (by omega))|refine Run_pev rfl) rfl ?_))
    refine WL_s (S_call ((step_spec (by omega))) rfl rfl ?_)
    rintro v _ ⟨hs,hE0⟩
    obtain ⟨i,rfl⟩:∃ i:Nat,v=.tuple #[.int .i64 i,.bool true]:=by
     rcases hs with ⟨i,_,_,_,rfl⟩|⟨hno,_⟩
     ·exact ⟨i,rfl⟩
     ·exfalso
      rcases hq with hq|hq|hq|hq
      ·exact hno 0 (-2) rfl (by omega)
      ·exact hno 1 (-1) rfl (by omega)
      ·exact hno 2 1 rfl (by omega)
      ·exact hno 3 2 rfl (by omega)
    replace hH:=hH.ext0 hE0
    clear hE0 hB
    replace hH:=nn1 hH
    have hB:=hH.b 0 rfl
    repeat (first|refine WS_seq ?_|refine WS_region ?_|refine WL_nil ?_|refine WS_skip ?_|refine WS_false rfl ?_|(refine WL_r (by first|refine k_loadA rfl hB (by simp [hml]) (Ty.shp rfl)|refine Run_pev rfl|refine k_extract rfl rfl) rfl ?_))
    refine WL_s (S_call ((mvectors_spec h)) rfl rfl ?_)
    rintro _ _ ⟨rfl,hE0⟩
    replace hH:=hH.ext0 hE0
    clear hE0
    replace hH:=nn1 hH
    clear hB
    have hB:=hH.b 0 rfl
    repeat (first|refine WS_seq ?_|refine WS_region ?_|refine WL_nil ?_|refine WS_skip ?_|refine WS_false rfl ?_|(refine WL_r (by first|refine k_loadA rfl hB (by simp [hml]) (Ty.shp rfl)|refine Run_pev rfl) rfl ?_))
    refine WL_s (S_call ((mlevels_spec h)) rfl rfl ?_)
    rintro _ _ ⟨rfl,hE0⟩
    replace hH:=hH.ext0 hE0
    clear hE0
    replace hH:=nn1 hH
    repeat (first|refine WL_nil ?_|refine lp rfl rfl ?_)
    exact WS_ret1 Tryz.func64 rfl ⟨rfl,hH.ext⟩
   ·rw [if_neg h4] at hq
    subst hq
    repeat (first|refine WS_seq ?_|refine WS_region ?_|refine WL_nil ?_|refine WS_inBlock ?_|refine WS_skip ?_|refine WS_false rfl ?_|refine WL_gyes rfl rfl rfl ?_|(refine WL_r (by first|refine (k_notb rfl).is (congrArg (fun b=>Value.bool !b) hA)|refine k_fa rfl (Ty.fld rfl rfl)|refine k_loadb rfl hB rfl (Ty.shp rfl)|refine k_loadA rfl hB (by simp [hml]) (Ty.shp rfl)|refine (k_eql (q:=.u8) rfl rfl).is (bF (by omega))|refine (k_neq rfl rfl).is (bF (fun h=>h rfl))|refine Run_pev rfl) rfl ?_))
    clear hB
    have hB:=hH.b 0 rfl
    skip
    refine WL_s (S_call ((mvectors_spec h)) rfl rfl ?_)
    rintro _ _ ⟨rfl,hE0⟩
    replace hH:=hH.ext0 hE0
    clear hE0
    replace hH:=nn1 hH
    clear hB
    have hB:=hH.b 0 rfl
    repeat (first|refine WS_seq ?_|refine WS_region ?_|refine WL_nil ?_|refine WS_skip ?_|refine WS_false rfl ?_|(refine WL_r (by first|refine k_loadA rfl hB (by simp [hml]) (Ty.shp rfl)|refine Run_pev rfl) rfl ?_))
    refine WL_s (S_call ((mlevels_spec h)) rfl rfl ?_)
    rintro _ _ ⟨rfl,hE0⟩
    replace hH:=hH.ext0 hE0
    clear hE0
    replace hH:=nn1 hH
    repeat (first|refine WL_nil ?_|refine lp rfl rfl ?_)
    exact WS_ret1 Tryz.func64 rfl ⟨rfl,hH.ext⟩
end
end Go.Proofs.YtpbiicegmcpkpaaGreat
