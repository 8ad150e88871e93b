/- A part of the proof that TopWorse is true at every input; no condition. -/
import Derived.Test.YtpbiicegmcpkpaaGreatT27
namespace Go.Proofs.YtpbiicegmcpkpaaGreat
open Go Go.K Go.P Go.RowKit Go.Proofs
section
variable {d:SD} {qp:Int} {v x:Nat} {t s:WT} {k:KD} {w:World} {kd:Nat} {q:Int} {u0 u1 u2 u3:Value} {e:Bool} {L:List Int}
set_option maxRecDepth 20000 in
set_option maxHeartbeats 16000000 in
theorem mput_spec {mb:Nat} (hk:k.ok) (hbc:k.bc=d.bc) (h:MV kd q u0 u1 u2 u3 e L) (hqp:1≤qp∧qp≤31) (hq:kd=4→stepOk qp q) (hc:d.c≤8) (hr:d.r≤8) (hmb:mb<d.c*d.r) (ht:t.2.2.length≤800000) (hs:s.2.2.length≤800000) (hP:Sep (PA d qp v t x s k) w) :
  Does Tryz.prog 65 #[pt d.s,pt v,pt x,.int .i64 mb,.agg (mcl kd q u0 u1 u2 u3 e L).toArray] w fun r w'=>r=.int .i64 0∧∃ t' s',t'.2.2.length≤t.2.2.length+1000∧s'.2.2.length≤s.2.2.length+19200∧Hp (fps (PA d qp v t x s k)) w w' (PA d (if kd=4 then q else qp) v t' x s' k):=by
 refine Does_of (args:=[_,_,_,_,_]) Tryz.func65 rfl rfl Tryz.ntmps65 rfl ?_
 have hH:=Hp.startL hP
 have hk5:=h.k5
 have hml:=mcl_len (k:=kd) (q:=q) (u0:=u0) (u1:=u1) (u2:=u2) (u3:=u3) (e:=e) h.len
 repeat (first|refine WS_seq ?_|refine WS_region ?_)
 refine WL_s (H_box (cs:=(mcl kd q u0 u1 u2 u3 e L).toArray) hH rfl rfl rfl ?_)
 try clear hH
 intro _ b9 hH
 replace hH:=nn5 hH
 have hBm:=hH.b 4 rfl
 repeat (first|refine WS_seq ?_|refine WS_region ?_|refine WL_nil ?_|(refine WL_r (by first|refine k_loadA rfl hBm (by simp [hml]) (Ty.shp rfl)|refine Run_pev rfl) rfl ?_))
 clear hBm
 refine WL_s (S_call ((kind_spec hk hbc h hqp hq (by omega) (hH.sepN 4))) rfl rfl ?_)
 rintro _ _ ⟨rfl,t2,ht2,hQ⟩
 replace hH:=hH.calls 4 hQ
 clear hQ
 replace hH:=nn5 hH
 have hBm:=hH.b 4 rfl
 by_cases h0:kd=0
 ·repeat (first|refine WS_seq ?_|refine WS_region ?_|refine WL_nil ?_|refine WS_block ?_|refine WS_true rfl ?_|(refine WL_r (by first|refine k_fa rfl (Ty.fld rfl rfl)|refine k_loadb rfl hBm rfl (Ty.shp rfl)|refine (k_eql (q:=.u8) rfl rfl).is (bT (by omega))|refine Run_pev rfl) rfl ?_))
  have hBm:=hH.b 4 rfl
  repeat ((refine WL_r (by refine k_loadA rfl hBm (by simp [hml]) (Ty.shp rfl)) rfl ?_))
  clear hBm
  refine WL_s (S_call ((vecs_spec h hc hr hmb (hH.sepN 4))) rfl rfl ?_)
  rintro _ _ ⟨rfl,hQ⟩
  replace hH:=hH.calls 4 hQ
  clear hQ
  replace hH:=nn5 hH
  repeat (first|refine WS_seq ?_|refine WS_region ?_|refine WL_nil ?_|refine lp rfl rfl ?_)
  exact WS_ret1 Tryz.func65 rfl ⟨rfl,t2,s,by omega,by omega,hH.take 4⟩
 by_cases h1:kd=1
 ·skip
  repeat (first|refine WS_seq ?_|refine WS_region ?_|refine WL_nil ?_|refine WS_block ?_|refine WS_skip ?_|refine WS_true rfl ?_|refine WS_false rfl ?_|(refine WL_r (by first|refine k_fa rfl (Ty.fld rfl rfl)|refine k_loadb rfl hBm rfl (Ty.shp rfl)|refine (k_eql (q:=.u8) rfl rfl).is (bT (by omega))|refine (k_eql (q:=.u8) rfl rfl).is (bF (by omega))|refine Run_pev rfl) rfl ?_))
  clear hBm
  refine WS_loop (G:=(Nat) × (WT)) (fun|(i,t1)=>1-i) 295147904079841202176 (fun|(i,t1)=>[(40,.int .i64 i)]) (fun|(i,t1),w'=>i≤1∧t1.2.2.length≤t.2.2.length+40+100*i∧Hp (fps (PA d qp v t x s k)) w w' (PA d (if kd=4 then q else qp) v t1 x s k++[Rb b9 97 (mcl kd q u0 u1 u2 u3 e L).toArray])) (0,t2) ⟨rfl,trivial⟩ ⟨by omega,by omega,hH⟩ ?_
  rintro ⟨i,t1⟩ w' σ ⟨hi,ht1,hH⟩ IH
  show WS _ _ _ _ _ (updL [(40,.int .i64 i)] _) _
  by_cases hlt:i<1
  ·have hi4:i<4:=by omega
   obtain ⟨x1,y1,hx1,hy1,hv,_⟩:=h.vi hi4
   have hB:=(hH.at 0 rfl).1
   have hBm:=hH.b 4 rfl
   have hSm:SlA _ (some ⟨b9,0+2,none⟩) [u0,u1,u2,u3]:=hBm.sl (fun j v' hj=>by
    have hj4:j<4:=(List.getElem?_eq_some_iff.1 hj).1
    rcases (show j=0∨j=1∨j=2∨j=3 by omega) with rfl|rfl|rfl|rfl<;>exact hj)
   have hvv:[u0,u1,u2,u3][i]?=some (CV x1 y1):=by simpa using hv
   repeat (first|refine WS_seq ?_|refine WS_region ?_|refine WL_nil ?_|refine WS_block ?_|refine WS_skip ?_|refine WS_yes rfl (by omega) ?_|refine lp rfl rfl ?_)
   refine WS_tailE Ty.mixed 12 rfl (by kernel_rfl) rfl (fun w1 hx=>?_)
   refine wp 0 hx rfl rfl rfl rfl ?_
   refine wp 1 hx rfl rfl rfl rfl ?_
   refine wt 2 hx rfl rfl rfl (fun w' hw'=>by refine k_fa rfl (Ty.fld rfl rfl)) ?_
   refine wt 3 hx rfl rfl rfl (fun w' hw'=>by refine k_ixa1 rfl rfl (Ty.arr rfl) (by omega)) ?_
   refine wt 4 hx rfl rfl rfl (fun w' hw'=>by refine k_loads rfl (hSm.ext0 hw') hvv (Ty.shp rfl)) ?_
   refine wp 5 hx rfl rfl rfl rfl ?_
   refine wt 6 hx rfl rfl rfl (fun w' hw'=>by refine k_nilCheck rfl) ?_
   refine wt 7 hx rfl rfl rfl (fun w' hw'=>by refine k_fa rfl (Ty.fld rfl rfl)) ?_
   refine wt 8 hx rfl rfl rfl (fun w' hw'=>by refine k_loadb rfl (hB.ext0 hw') rfl (Ty.shp rfl)) ?_
   refine wp 9 hx rfl rfl rfl rfl ?_
   refine wp 10 hx rfl rfl rfl rfl ?_
   refine WA_one 11 (by kernel_rfl) rfl rfl (S_call (vexp_spec hc hr hmb hi4 (d.F.keep (hH.at 0 rfl).2.1 hx (by simp))) rfl rfl ?_)
   rintro _ w2 ⟨⟨re,im,rfl⟩,hE0⟩
   have hx2:=hx.then0 hE0
   refine ⟨hx2,?_⟩
   refine WA_done (by kernel_rfl) ?_
   replace hH:=hH.ext0 hx2
   clear hx hE0 hx2 hB hBm hSm
   refine WL_s (S_call ((vput_spec (isR_FN hx1 hy1) (by omega) (hH.at 1 rfl))) rfl rfl ?_)
   rintro _ _ ⟨rfl,a3,c3,hU⟩
   replace hH:=hH.up 1 rfl hU
   have l1:=srv_len (wrapZ_le (whole (FN x1)-whole re))
   have l2:=srv_len (wrapZ_le (whole (FN y1)-whole im))
   have hl3:(t1.2.2++(srv (wrapZ (whole (FN x1)-whole re))++srv (wrapZ (whole (FN y1)-whole im)))).length≤t1.2.2.length+50:=by rw [List.length_append,List.length_append];omega
   generalize t1.2.2++(srv (wrapZ (whole (FN x1)-whole re))++srv (wrapZ (whole (FN y1)-whole im)))=bs3 at *
   clear hU l1 l2
   have hB:=(hH.at 0 rfl).1
   have hBm:Blk _ b9 97 (mcl kd q u0 u1 u2 u3 e L).toArray:=hH.b 4 rfl
   have hSm:SlA _ (some ⟨b9,0+2,none⟩) [u0,u1,u2,u3]:=hBm.sl (fun j v' hj=>by
    have hj4:j<4:=(List.getElem?_eq_some_iff.1 hj).1
    rcases (show j=0∨j=1∨j=2∨j=3 by omega) with rfl|rfl|rfl|rfl<;>exact hj)
   repeat (refine WL_nil ?_)
   refine WS_tailE Ty.mixed 10 rfl (by kernel_rfl) rfl (fun w1 hx1=>?_)
   refine wp 0 hx1 rfl rfl rfl rfl ?_
   refine wt 1 hx1 rfl rfl rfl (fun w' hw'=>by refine k_nilCheck rfl) ?_
   refine wt 2 hx1 rfl rfl rfl (fun w' hw'=>by refine k_fa rfl (Ty.fld rfl rfl)) ?_
   refine wt 3 hx1 rfl rfl rfl (fun w' hw'=>by refine k_loadb rfl (hB.ext0 hw') rfl (Ty.shp rfl)) ?_
   refine wp 4 hx1 rfl rfl rfl rfl ?_
   refine wp 5 hx1 rfl rfl rfl rfl ?_
   refine wp 6 hx1 rfl rfl rfl rfl ?_
   refine wt 7 hx1 rfl rfl rfl (fun w' hw'=>by refine k_fa rfl (Ty.fld rfl rfl)) ?_
   refine wt 8 hx1 rfl rfl rfl (fun w' hw'=>by refine k_ixa1 rfl rfl (Ty.arr rfl) (by omega)) ?_
   refine wt 9 hx1 rfl rfl rfl (fun w' hw'=>by refine k_loads rfl (hSm.ext0 hw') hvv (Ty.shp rfl)) ?_
   refine WA_done (by kernel_rfl) ?_
   replace hH:=hH.ext0 hx1
   clear hx1 hB hBm hSm
   refine WL_s (S_call ((vset_spec hc hr hmb hi4 (hH.at 0 rfl).2.1)) rfl rfl ?_)
   rintro _ _ ⟨rfl,hU⟩
   replace hH:=hH.up 0 rfl (RS.f (hH.at 0 rfl) hU)
   clear hU
   repeat (first|refine WS_region ?_|refine WL_nil ?_|refine WS_inBlock ?_|(refine WL_r (by first|refine Run_pev rfl|refine k_add64 rfl rfl (by omega)) rfl ?_))
   refine IH (i+1,(a3,c3,bs3)) _ _ ?_ ?_ ?_ ?_
   ·simp only;omega
   ·exact ⟨rfl,trivial⟩
   ·repeat first|with_reducible apply Agr.refl|refine Agr.upd rfl ?_|refine Agr.updL rfl ?_|refine Agr.mrg rfl ?_
   ·exact ⟨by omega,by simp only;omega,hH⟩
  ·obtain rfl:i=1:=by omega
   clear IH
   replace hH:=nn5 hH
   have hBm:=hH.b 4 rfl
   repeat (first|refine WS_seq ?_|refine WS_region ?_|refine WL_nil ?_|refine WS_exit rfl ?_|refine WS_false rfl ?_|(refine WL_r (by first|refine k_loadA rfl hBm (by simp [hml]) (Ty.shp rfl)|refine Run_pev rfl) rfl ?_))
   clear hBm
   refine WL_s (S_call ((vecs_spec h hc hr hmb (hH.sepN 4))) rfl rfl ?_)
   rintro _ _ ⟨rfl,hQ⟩
   replace hH:=hH.calls 4 hQ
   clear hQ
   replace hH:=nn5 hH
   have hBm:=hH.b 4 rfl
   repeat (first|refine WS_seq ?_|refine WS_region ?_|refine WL_nil ?_|refine WS_inBlock ?_|(refine WL_r (by first|refine k_loadA rfl hBm (by simp [hml]) (Ty.shp rfl)|refine Run_pev rfl) rfl ?_))
   clear hBm
   refine WL_s (S_call ((blocks_spec hk hbc h hc hr hmb (by (try simp only);omega) (by omega) (hH.sepN 4))) rfl rfl ?_)
   rintro _ _ ⟨rfl,t9,s9,ht9,hs9,hQ⟩
   replace hH:=hH.calls 4 hQ
   clear hQ
   replace hH:=nn5 hH
   repeat (first|refine WL_nil ?_|refine lp rfl rfl ?_)
   exact WS_ret1 Tryz.func65 rfl ⟨rfl,t9,s9,by (try simp only at ht9);omega,by omega,hH.take 4⟩
 by_cases h2:kd=2
 ·skip
  repeat (first|refine WS_seq ?_|refine WS_region ?_|refine WL_nil ?_|refine WS_block ?_|refine WS_true rfl ?_|refine WS_false rfl ?_|(refine WL_r (by first|refine k_fa rfl (Ty.fld rfl rfl)|refine k_loadb rfl hBm rfl (Ty.shp rfl)|refine (k_eql (q:=.u8) rfl rfl).is (bT (by omega))|refine (k_eql (q:=.u8) rfl rfl).is (bF (by omega))|refine Run_pev rfl) rfl ?_))
  clear hBm
  refine WS_loop (G:=(Nat) × (WT)) (fun|(i,t1)=>4-i) 295147904079841202176 (fun|(i,t1)=>[(40,.int .i64 i)]) (fun|(i,t1),w'=>i≤4∧t1.2.2.length≤t.2.2.length+40+100*i∧Hp (fps (PA d qp v t x s k)) w w' (PA d (if kd=4 then q else qp) v t1 x s k++[Rb b9 97 (mcl kd q u0 u1 u2 u3 e L).toArray])) (0,t2) ⟨rfl,trivial⟩ ⟨by omega,by omega,hH⟩ ?_
  rintro ⟨i,t1⟩ w' σ ⟨hi,ht1,hH⟩ IH
  show WS _ _ _ _ _ (updL [(40,.int .i64 i)] _) _
  by_cases hlt:i<4
  ·have hi4:i<4:=by omega
   obtain ⟨x1,y1,hx1,hy1,hv,_⟩:=h.vi hi4
   have hB:=(hH.at 0 rfl).1
   have hBm:=hH.b 4 rfl
   have hSm:SlA _ (some ⟨b9,0+2,none⟩) [u0,u1,u2,u3]:=hBm.sl (fun j v' hj=>by
    have hj4:j<4:=(List.getElem?_eq_some_iff.1 hj).1
    rcases (show j=0∨j=1∨j=2∨j=3 by omega) with rfl|rfl|rfl|rfl<;>exact hj)
   have hvv:[u0,u1,u2,u3][i]?=some (CV x1 y1):=by simpa using hv
   repeat (first|refine WS_seq ?_|refine WS_region ?_|refine WL_nil ?_|refine WS_block ?_|refine WS_skip ?_|refine WS_yes rfl (by omega) ?_|refine lp rfl rfl ?_)
   refine WS_tailE Ty.mixed 12 rfl (by kernel_rfl) rfl (fun w1 hx=>?_)
   refine wp 0 hx rfl rfl rfl rfl ?_
   refine wp 1 hx rfl rfl rfl rfl ?_
   refine wt 2 hx rfl rfl rfl (fun w' hw'=>by refine k_fa rfl (Ty.fld rfl rfl)) ?_
   refine wt 3 hx rfl rfl rfl (fun w' hw'=>by refine k_ixa1 rfl rfl (Ty.arr rfl) (by omega)) ?_
   refine wt 4 hx rfl rfl rfl (fun w' hw'=>by refine k_loads rfl (hSm.ext0 hw') hvv (Ty.shp rfl)) ?_
   refine wp 5 hx rfl rfl rfl rfl ?_
   refine wt 6 hx rfl rfl rfl (fun w' hw'=>by refine k_nilCheck rfl) ?_
   refine wt 7 hx rfl rfl rfl (fun w' hw'=>by refine k_fa rfl (Ty.fld rfl rfl)) ?_
   refine wt 8 hx rfl rfl rfl (fun w' hw'=>by refine k_loadb rfl (hB.ext0 hw') rfl (Ty.shp rfl)) ?_
   refine wp 9 hx rfl rfl rfl rfl ?_
   refine wp 10 hx rfl rfl rfl rfl ?_
   refine WA_one 11 (by kernel_rfl) rfl rfl (S_call (vexp_spec hc hr hmb hi4 (d.F.keep (hH.at 0 rfl).2.1 hx (by simp))) rfl rfl ?_)
   rintro _ w2 ⟨⟨re,im,rfl⟩,hE0⟩
   have hx2:=hx.then0 hE0
   refine ⟨hx2,?_⟩
   refine WA_done (by kernel_rfl) ?_
   replace hH:=hH.ext0 hx2
   clear hx hE0 hx2 hB hBm hSm
   refine WL_s (S_call ((vput_spec (isR_FN hx1 hy1) (by omega) (hH.at 1 rfl))) rfl rfl ?_)
   rintro _ _ ⟨rfl,a3,c3,hU⟩
   replace hH:=hH.up 1 rfl hU
   have l1:=srv_len (wrapZ_le (whole (FN x1)-whole re))
   have l2:=srv_len (wrapZ_le (whole (FN y1)-whole im))
   have hl3:(t1.2.2++(srv (wrapZ (whole (FN x1)-whole re))++srv (wrapZ (whole (FN y1)-whole im)))).length≤t1.2.2.length+50:=by rw [List.length_append,List.length_append];omega
   generalize t1.2.2++(srv (wrapZ (whole (FN x1)-whole re))++srv (wrapZ (whole (FN y1)-whole im)))=bs3 at *
   clear hU l1 l2
   have hB:=(hH.at 0 rfl).1
   have hBm:Blk _ b9 97 (mcl kd q u0 u1 u2 u3 e L).toArray:=hH.b 4 rfl
   have hSm:SlA _ (some ⟨b9,0+2,none⟩) [u0,u1,u2,u3]:=hBm.sl (fun j v' hj=>by
    have hj4:j<4:=(List.getElem?_eq_some_iff.1 hj).1
    rcases (show j=0∨j=1∨j=2∨j=3 by omega) with rfl|rfl|rfl|rfl<;>exact hj)
   repeat (refine WL_nil ?_)
   refine WS_tailE Ty.mixed 10 rfl (by kernel_rfl) rfl (fun w1 hx1=>?_)
   refine wp 0 hx1 rfl rfl rfl rfl ?_
   refine wt 1 hx1 rfl rfl rfl (fun w' hw'=>by refine k_nilCheck rfl) ?_
   refine wt 2 hx1 rfl rfl rfl (fun w' hw'=>by refine k_fa rfl (Ty.fld rfl rfl)) ?_
   refine wt 3 hx1 rfl rfl rfl (fun w' hw'=>by refine k_loadb rfl (hB.ext0 hw') rfl (Ty.shp rfl)) ?_
   refine wp 4 hx1 rfl rfl rfl rfl ?_
   refine wp 5 hx1 rfl rfl rfl rfl ?_
   refine wp 6 hx1 rfl rfl rfl rfl ?_
   refine wt 7 hx1 rfl rfl rfl (fun w' hw'=>by refine k_fa rfl (Ty.fld rfl rfl)) ?_
   refine wt 8 hx1 rfl rfl rfl (fun w' hw'=>by refine k_ixa1 rfl rfl (Ty.arr rfl) (by omega)) ?_
   refine wt 9 hx1 rfl rfl rfl (fun w' hw'=>by refine k_loads rfl (hSm.ext0 hw') hvv (Ty.shp rfl)) ?_
   refine WA_done (by kernel_rfl) ?_
   replace hH:=hH.ext0 hx1
   clear hx1 hB hBm hSm
   refine WL_s (S_call ((vset_spec hc hr hmb hi4 (hH.at 0 rfl).2.1)) rfl rfl ?_)
   rintro _ _ ⟨rfl,hU⟩
   replace hH:=hH.up 0 rfl (RS.f (hH.at 0 rfl) hU)
   clear hU
   repeat (first|refine WS_region ?_|refine WL_nil ?_|refine WS_inBlock ?_|(refine WL_r (by first|refine Run_pev rfl|refine k_add64 rfl rfl (by omega)) rfl ?_))
   refine IH (i+1,(a3,c3,bs3)) _ _ ?_ ?_ ?_ ?_
   ·simp only;omega
   ·exact ⟨rfl,trivial⟩
   ·repeat first|with_reducible apply Agr.refl|refine Agr.upd rfl ?_|refine Agr.updL rfl ?_|refine Agr.mrg rfl ?_
   ·exact ⟨by omega,by simp only;omega,hH⟩
  ·obtain rfl:i=4:=by omega
   clear IH
   replace hH:=nn5 hH
   have hBm:=hH.b 4 rfl
   repeat (first|refine WS_seq ?_|refine WS_region ?_|refine WL_nil ?_|refine WS_exit rfl ?_|refine WS_false rfl ?_|(refine WL_r (by first|refine k_loadA rfl hBm (by simp [hml]) (Ty.shp rfl)|refine Run_pev rfl) rfl ?_))
   clear hBm
   refine WL_s (S_call ((vecs_spec h hc hr hmb (hH.sepN 4))) rfl rfl ?_)
   rintro _ _ ⟨rfl,hQ⟩
   replace hH:=hH.calls 4 hQ
   clear hQ
   replace hH:=nn5 hH
   have hBm:=hH.b 4 rfl
   repeat (first|refine WS_seq ?_|refine WS_region ?_|refine WL_nil ?_|refine WS_inBlock ?_|(refine WL_r (by first|refine k_loadA rfl hBm (by simp [hml]) (Ty.shp rfl)|refine Run_pev rfl) rfl ?_))
   clear hBm
   refine WL_s (S_call ((blocks_spec hk hbc h hc hr hmb (by (try simp only);omega) (by omega) (hH.sepN 4))) rfl rfl ?_)
   rintro _ _ ⟨rfl,t9,s9,ht9,hs9,hQ⟩
   replace hH:=hH.calls 4 hQ
   clear hQ
   replace hH:=nn5 hH
   repeat (first|refine WL_nil ?_|refine lp rfl rfl ?_)
   exact WS_ret1 Tryz.func65 rfl ⟨rfl,t9,s9,by (try simp only at ht9);omega,by omega,hH.take 4⟩
 ·repeat (first|refine WS_seq ?_|refine WS_region ?_|refine WL_nil ?_|refine WS_block ?_|refine WS_false rfl ?_|(refine WL_r (by first|refine k_fa rfl (Ty.fld rfl rfl)|refine k_loadb rfl hBm rfl (Ty.shp rfl)|refine (k_eql (q:=.u8) rfl rfl).is (bF (by omega))|refine Run_pev rfl) rfl ?_))
  clear hBm
  refine WL_s (S_call ((wflag_spec (by omega) (hH.at 1 rfl))) rfl rfl ?_)
  rintro _ _ ⟨rfl,a3,c3,hU⟩
  replace hH:=hH.up 1 rfl hU
  have hl3:(t2.2.2++[e]).length=t2.2.2.length+1:=by simp
  obtain ⟨bs3,hbs⟩:∃ bs3,t2.2.2++[e]=bs3:=⟨_,rfl⟩
  rw [hbs] at hH hl3
  clear hU
  replace hH:Hp _ _ _ (PA d (if kd=4 then q else qp) v (a3,c3,bs3) x s k++[Rb b9 97 (mcl kd q u0 u1 u2 u3 e L).toArray]):=hH
  replace hH:=nn5 hH
  have hBm:=hH.b 4 rfl
  repeat (first|refine WS_region ?_|refine WL_nil ?_|(refine WL_r (by first|refine k_loadA rfl hBm (by simp [hml]) (Ty.shp rfl)|refine Run_pev rfl) rfl ?_))
  clear hBm
  refine WL_s (S_call ((vecs_spec h hc hr hmb (hH.sepN 4))) rfl rfl ?_)
  rintro _ _ ⟨rfl,hQ⟩
  replace hH:=hH.calls 4 hQ
  clear hQ
  replace hH:=nn5 hH
  have hBm:=hH.b 4 rfl
  repeat (first|refine WS_seq ?_|refine WS_region ?_|refine WL_nil ?_|refine WS_inBlock ?_|(refine WL_r (by first|refine k_loadA rfl hBm (by simp [hml]) (Ty.shp rfl)|refine Run_pev rfl) rfl ?_))
  clear hBm
  refine WL_s (S_call ((blocks_spec hk hbc h hc hr hmb (by (try simp only);omega) (by omega) (hH.sepN 4))) rfl rfl ?_)
  rintro _ _ ⟨rfl,t9,s9,ht9,hs9,hQ⟩
  replace hH:=hH.calls 4 hQ
  clear hQ
  replace hH:=nn5 hH
  repeat (first|refine WL_nil ?_|refine lp rfl rfl ?_)
  exact WS_ret1 Tryz.func65 rfl ⟨rfl,t9,s9,by (try simp only at ht9);omega,by omega,hH.take 4⟩
end
structure MB where
 k:Nat
 q:Int
 u0:Value
 u1:Value
 u2:Value
 u3:Value
 e:Bool
 L:List Int
abbrev MB.cells (m:MB):List Value:=mcl m.k m.q m.u0 m.u1 m.u2 m.u3 m.e m.L
abbrev MB.ok (m:MB):Prop:=MV m.k m.q m.u0 m.u1 m.u2 m.u3 m.e m.L
def chn (inter:Bool):Int→List MB→Prop
 | _,[]=>True
 | p,m::l=>m.ok∧(inter=false→3≤m.k)∧(if m.k=4 then stepOk p m.q else m.q=p)∧chn inter m.q l
abbrev mcs (ms:List MB):List Value:=ms.flatMap MB.cells
theorem chn_ok {inter:Bool}:∀ {p:Int} {ms:List MB},chn inter p ms→∀ m∈ms,m.ok
 | _,_::_,h,m,hm=>by
  rcases List.mem_cons.1 hm with rfl|hm
  ·exact h.1
  ·exact chn_ok h.2.2.2 m hm
theorem mcs_len:∀ {ms:List MB},(∀ m∈ms,m.ok)→(mcs ms).length=ms.length*391
 | [],_=>rfl
 | m::ms,h=>by
  rw [mcs,List.flatMap_cons,List.length_append,mcl_len (h m (by simp)).len,← mcs,mcs_len (fun x hx=>h x (by simp [hx])),List.length_cons]
  omega
theorem mcs_at:∀ {ms:List MB} {i:Nat} {m:MB},(∀ m∈ms,m.ok)→ms[i]?=some m→((mcs ms).drop (i*391)).take 391=m.cells
 | a::ms,0,m,h,hi=>by
  obtain rfl:a=m:=Option.some.inj hi
  rw [Nat.zero_mul,List.drop_zero,mcs,List.flatMap_cons,List.take_left' (mcl_len (h a (by simp)).len)]
 | a::ms,i+1,m,h,hi=>by
  rw [mcs,List.flatMap_cons,Nat.add_mul,Nat.one_mul,Nat.add_comm,← List.drop_drop,List.drop_left' (mcl_len (h a (by simp)).len)]
  exact mcs_at (fun x hx=>h x (by simp [hx])) (by simpa using hi)
theorem mcl_one {m:MB} (h:m.ok):∀ v∈m.cells.toArray.toList,v.oneCell'=true:=by
 intro v hv
 simp only [mcl,List.mem_cons,List.mem_map] at hv
 rcases hv with rfl|rfl|rfl|rfl|rfl|rfl|rfl|⟨_,_,rfl⟩
 ·rfl
 ·rfl
 ·exact h.g0.one
 ·exact h.g1.one
 ·exact h.g2.one
 ·exact h.g3.one
 ·rfl
 ·rfl
theorem escF_ge:∀ (l:List Nat) (z:Nat),l.length≤(escF z l).length
 | [],_=>Nat.zero_le _
 | c::l,z=>by
  have h:=escF_ge l (escS z c)
  have h1:1≤(escO z c).length:=by unfold escO;split<;>simp
  simp only [escF,List.length_append,List.length_cons]
  omega
theorem ptrK:isPtr Tryz.prog 109=true:=by kernel_rfl
set_option maxRecDepth 20000 in
set_option maxHeartbeats 16000000 in
theorem coput_spec {k:KD} {h:SH} {hp:PH} {C R f n cap:Nat} {a:Option Addr} {ms:List MB} {w:World} (hk:k.ok) (hK:(RK k).holds w) (ho:h.ok) (he:h.err=0) (hcC:h.c=C) (hrR:h.r=R) (hpe:hp.err=0)
  (hS:SlA w a (mcs ms)) (hd:∀ s∈(RK k).fp,s ∉ blk a) (hn:ms.length=n) (hn1:1≤n∧n≤5) (hf:f+n≤C*R) (hch:chn hp.inter hp.qp ms) :
  Does Tryz.prog 38 #[pt k.bc,.agg h.cells.toArray,hp.v,.int .i64 f,.slice a n cap] w fun v w'=>∃ a1 c1 A a2 c2 Bb,v=.tuple #[.slice a1 A.length c1,.slice a2 Bb.length c2,.int .i64 0]∧(1≤A.length∧A.length≤30000)∧(1≤Bb.length∧Bb.length≤30000)∧Byt A∧Byt Bb∧Hp (RK k).fp w w' [RK k,RBy a1 c1 A,RBy a2 c2 Bb]:=by
 refine Does_of (args:=[_,_,_,_,_]) Tryz.func38 rfl rfl Tryz.ntmps38 rfl ?_
 have hH:=Hp.start1 hK
 obtain ⟨c0,r0,wt,tA,tB⟩:=h
 obtain ⟨id,inter,down,hq⟩:=hp
 simp only at hcC hrR
 subst hcC hrR
 have hck:=fun w=>hcheck_spec ho (w:=w)
 have hpk:=fun w=>pcheck_spec ⟨id,inter,down,hq⟩ w
 simp only [he] at hck
 simp only [hpe] at hpk
 have hcl:=SH.cells_len ho
 have hCR:C≤8∧R≤8:=by
  unfold SH.err at he
  split at he
  ·cases he
  ·rename_i h;simp only at h;omega
 have hq1:1≤hq∧hq≤31:=by
  unfold PH.err at hpe
  simp only at hpe
  split at hpe
  ·cases hpe
  ·split at hpe
   ·cases hpe
   ·omega
 have hCR2:C*R≤64:=Nat.mul_le_mul hCR.1 hCR.2
 have hcm:(C:Int)*R=((C*R:Nat):Int):=by simp
 have hok:=chn_ok hch
 repeat (first|refine WS_seq ?_|refine WS_region ?_)
 refine WL_s (H_box (cs:=(SH.cells ⟨C,R,wt,tA,tB⟩).toArray) hH rfl rfl rfl ?_)
 try clear hH
 intro _ b6 hH
 replace hH:=nn2 hH
 refine WL_s (H_box (cs:=#[.int .i64 id,.bool inter,.bool down,.int .i64 hq]) hH rfl rfl rfl ?_)
 try clear hH
 intro _ b7 hH
 replace hH:=nn3 hH
 have hB6:=hH.b 1 rfl
 repeat (first|refine WS_seq ?_|refine WS_region ?_|refine WL_nil ?_|refine WS_skip ?_|refine WS_false rfl ?_|(refine WL_r (by first|refine k_pnil rfl rfl (.inr rfl) ptrK|refine k_loadA rfl hB6 (by simp [hcl]) (Ty.shp rfl)|refine Run_pev rfl) rfl ?_))
 refine WL_s (S_call ((hck _)) rfl rfl ?_)
 rintro _ _ ⟨rfl,hE0⟩
 replace hH:=hH.ext0 hE0
 clear hE0
 replace hH:=nn3 hH
 clear hB6
 have hB7:=hH.b 2 rfl
 repeat (first|refine WS_seq ?_|refine WS_region ?_|refine WL_nil ?_|refine WS_skip ?_|refine WS_false rfl ?_|(refine WL_r (by first|refine k_loadA rfl hB7 rfl (Ty.shp rfl)|refine Run_pev rfl) rfl ?_))
 refine WL_s (S_call ((hpk _)) rfl rfl ?_)
 rintro _ _ ⟨rfl,hE0⟩
 replace hH:=hH.ext0 hE0
 clear hE0
 replace hH:=nn3 hH
 clear hB7
 have hB6:=hH.b 1 rfl
 have hB7:=hH.b 2 rfl
 repeat (first|refine WS_seq ?_|refine WS_region ?_|refine WL_nil ?_|refine WS_skip ?_|refine WS_false rfl ?_|refine WS_no rfl (by omega) ?_|refine WL_gyes rfl rfl rfl ?_|refine WL_gyes rfl rfl (dF (by omega)) ?_|(refine WL_r (by first|refine k_fa rfl (Ty.fld rfl rfl)|refine k_loadb rfl hB6 rfl (Ty.shp rfl)|refine (k_mul64 (m:=C) (n:=R) rfl rfl (by omega)).is (congrArg (Value.int .i64) hcm)|refine k_loadA rfl hB6 (by simp [hcl]) (Ty.shp rfl)|refine k_loadA rfl hB7 rfl (Ty.shp rfl)|refine Run_pev rfl|refine k_sub64 rfl rfl (by omega)|refine k_len rfl (Ty.isl rfl)|refine k_pick_f (dF (by omega)) rfl) rfl ?_))
 clear hB6 hB7
 refine WL_s (S_call ((begin_spec (bc:=k.bc) (c:=C) (r:=R) (id:=id) (hq:=hq) (inter:=inter) (down:=down) (hc:=SH.tc ⟨C,R,wt,tA,tB⟩) hCR.1 hCR.2)) rfl rfl ?_)
 rintro _ _ ⟨d,⟨hdc,hdr,hdb,hdi⟩,rfl,hN⟩
 replace hH:=hH.nu hN
 clear hN
 replace hH:=nn4 hH
 repeat (first|refine WS_seq ?_|refine WS_region ?_|refine WL_nil ?_|(refine WL_r (by first|refine k_buildS (cs:=[.slice none 0 0,.int .i64 0]) (Ty.zer rfl) (Ty.plc rfl) rfl|refine Run_pev rfl) rfl ?_))
 refine WL_s (H_box (cs:=#[.slice none 0 0,.int .i64 0]) hH rfl rfl rfl ?_)
 try clear hH
 intro _ v hH
 replace hH:=nn5 hH
 repeat ((refine WL_r (by refine k_buildS (cs:=[.slice none 0 0,.int .i64 0]) (Ty.zer rfl) (Ty.plc rfl) rfl) rfl ?_))
 refine WL_s (H_box (cs:=#[.slice none 0 0,.int .i64 0]) hH rfl rfl rfl ?_)
 try clear hH
 intro _ x hH
 replace hH:=nn6 hH
 replace hH:=hH.as (r':=RX v (none,0,[])) 4 rfl (fun x hx=>by simpa [Rw,sep,Rb,RBy,Ro,blk] using hx) (fun hB=>⟨hB,Own.nil,fun _ _ hb=>by simp [RBy,Ro,blk] at hb⟩)
 replace hH:=hH.as (r':=RX x (none,0,[])) 5 rfl (fun x hx=>by simpa [Rw,sep,Rb,RBy,Ro,blk] using hx) (fun hB=>⟨hB,Own.nil,fun _ _ hb=>by simp [RBy,Ro,blk] at hb⟩)
 replace hH:=nn6 hH
 replace hH:=hH.swap (H':=PA d hq v (none,0,[]) x (none,0,[]) k++[Rb b6 26 (SH.cells ⟨C,R,wt,tA,tB⟩).toArray,Rb b7 69 #[.int .i64 id,.bool inter,.bool down,.int .i64 hq]]) (List.perm_append_comm (l₁:=[_,_,_]) (l₂:=[_,_,_]))
 repeat (first|refine WS_seq ?_|refine WS_region ?_|refine WL_nil ?_|refine WS_block ?_|(refine WL_r (by first|refine Run_pev rfl|refine k_len rfl (Ty.isl rfl)) rfl ?_))
 refine WS_loop (G:=(Nat) × (Int) × (WT) × (WT)) (fun|(i,qp,t,s)=>n-i) 2535301191011725837254119922688 (fun|(i,qp,t,s)=>[(73,.int .i64 i)]) (fun|(i,qp,t,s),w'=>i≤n∧(1≤qp∧qp≤31)∧chn inter qp (ms.drop i)∧t.2.2.length≤1000*i∧s.2.2.length≤19200*i∧Hp (RK k).fp w w' (PA d qp v t x s k++[Rb b6 26 (SH.cells ⟨C,R,wt,tA,tB⟩).toArray,Rb b7 69 #[.int .i64 id,.bool inter,.bool down,.int .i64 hq]])) (0,hq,(none,0,[]),(none,0,[])) ⟨rfl,trivial⟩ ⟨by omega,hq1,hch,by decide,by decide,hH⟩ ?_
 rintro ⟨i,qp,t,s⟩ w' σ ⟨hi,hqp,hcd,ht,hs,hH⟩ IH
 show WS _ _ _ _ _ (updL [(73,.int .i64 i)] _) _
 by_cases hlt:i<n
 ·obtain ⟨m,hm⟩:∃ m,ms[i]?=some m:=⟨_,List.getElem?_eq_getElem (by omega)⟩
  have hmd:ms.drop i=m::ms.drop (i+1):=by
   have h2:=(List.getElem?_eq_some_iff.1 hm)
   rw [List.drop_eq_getElem_cons h2.1,h2.2]
  rw [hmd] at hcd
  obtain ⟨hmo,hmi,hmq,hcd⟩:=hcd
  have hml:=mcl_len (k:=m.k) (q:=m.q) (u0:=m.u0) (u1:=m.u1) (u2:=m.u2) (u3:=m.u3) (e:=m.e) hmo.len
  have hSm:SlA w' a (mcs ms):=hS.ext hH.ext hd
  have hat:=mcs_at hok hm
  repeat (first|refine WS_seq ?_|refine WS_region ?_|refine WL_nil ?_|refine WS_block ?_|refine WS_skip ?_|refine WS_yes rfl (by omega) ?_|(refine WL_r (by first|refine k_ix (sz:=391) rfl rfl hSm (by rw [mcs_len hok,hn]) (by decide) (Ty.sle rfl) (by omega)|refine k_loadC (j:=i*391) (cs:=m.cells) rfl hSm hat hml (Ty.shp rfl)|refine Run_pev rfl) rfl ?_))
  clear hSm
  refine WL_s (H_alloc hH (Ty.zer rfl) rfl ?_)
  try clear hH
  intro _ b19 hH
  replace hH:=nn7 hH
  repeat (refine lp rfl rfl ?_)
  refine WL_s (H_storeA 6 (vs:=m.cells.toArray) (s:=391) hH rfl rfl rfl (by simp [hml]) rfl (mcl_one hmo) (Ty.shp rfl) ?_)
  clear hH
  intro _ hH
  replace hH:=nn7 hH
  have hB:=(hH.at 0 rfl).1
  have hB7:=hH.b 5 rfl
  have hB19:=hH.b 6 rfl
  repeat (first|refine WS_seq ?_|refine WL_nil ?_)
  refine WS_specK [Is (.agg m.cells.toArray),Is (.pointer (some ⟨b7,0+1,none⟩)),Is (.bool inter),Is (pt d.s),Is (pt d.s),Is (.pointer (some ⟨d.s,0+5,none⟩)),Is (.int .i64 qp),Is (.int .i64 0),Is (.int .i64 0)] Ty.mixed [(38081163317860819003244544,[],true),(75255632271010666125459456,[],true),(37174468953149847122214912,[(1,79)],true),(69815466082744834839281664,[],true),(62561911165057059791044608,[(3,81)],true),(48054801329681509694570496,[(4,82)],true),(19040581658930409501622272,[(5,83)],true),(38383394772764476296921088,[(0,78),(2,80),(6,84)],true),(77069021000432609887518720,[(7,85)],true)] 77069021000432609888567296 [(8,20)] (by kernel_rfl) (by kernel_rfl) (by kernel_rfl) (by kernel_rfl) (by kernel_rfl) ⟨Is.st,Is.st,Is.st,Is.st,Is.st,Is.st,Is.st,Is.st,Is.st,trivial⟩ ⟨⟨GOk.none,?_⟩,⟨GOk.none,?_⟩,⟨GOk.none,?_⟩,⟨GOk.none,?_⟩,⟨GOk.none,?_⟩,⟨GOk.none,?_⟩,⟨GOk.none,?_⟩,⟨GOk.none,?_⟩,⟨GOk.none,?_⟩,trivial⟩ ?_
  ·intro w'' hE''
   intro σ''
   exact sp_is (by refine k_loadA rfl (hB19.ext0 hE'') (by simp [hml]) (Ty.shp rfl)) rfl
  ·intro w'' hE''
   intro σ''
   exact sp_is (by refine k_fa rfl (Ty.fld rfl rfl)) rfl
  ·intro w'' hE''
   rintro _ rfl
   intro σ''
   exact sp_is (by refine k_loadb rfl (hB7.ext0 hE'') rfl (Ty.shp rfl)) rfl
  ·intro w'' hE''
   intro σ''
   exact sp_is (by refine Run_pev rfl) rfl
  ·intro w'' hE''
   rintro _ rfl
   intro σ''
   exact sp_is (by refine Run_pev rfl) rfl
  ·intro w'' hE''
   rintro _ rfl
   intro σ''
   exact sp_is (by refine k_fa rfl (Ty.fld rfl rfl)) rfl
  ·intro w'' hE''
   rintro _ rfl
   intro σ''
   exact sp_is (by refine k_loadb rfl (hB.ext0 hE'') rfl (Ty.shp rfl)) rfl
  ·intro w'' hE''
   rintro _ rfl
   rintro _ rfl
   rintro _ rfl
   intro σ''
   refine S_call (mcheck_gen hmo hqp hmi hmq) rfl rfl ?_
   rintro v w3'' ⟨rfl,hE3''⟩
   exact ⟨hE3'',_,rfl,rfl⟩
  ·intro w'' hE''
   rintro _ rfl
   intro σ''
   exact sp_is (by refine Run_pev rfl) rfl
  intro w'' hE''
  rintro _ rfl
  intro σ''
  replace hH:=hH.ext0 hE''
  clear hB hB7 hB19 hE''
  have hB19:=hH.b 6 rfl
  have hfi:(f:Int)+i=((f+i:Nat):Int):=by omega
  repeat (first|refine WS_seq ?_|refine WS_region ?_|refine WL_nil ?_|refine WS_skip ?_|refine WS_false rfl ?_|(refine WL_r (by first|refine k_loadA rfl hB19 (by simp [hml]) (Ty.shp rfl)|refine (k_add64 (m:=f) (n:=i) rfl rfl (by omega)).is (congrArg (Value.int .i64) hfi)|refine Run_pev rfl) rfl ?_))
  clear hB19
  refine WL_s (S_call ((mput_spec (mb:=f+i) hk hdb.symm hmo hqp (fun h4=>by rw [if_pos h4] at hmq;exact hmq) (by omega) (by omega) (by rw [hdc,hdr];omega) (by omega) (by omega) (hH.sepN 4))) rfl rfl ?_)
  rintro _ _ ⟨rfl,t2,s2,ht2,hs2,hQ⟩
  replace hH:=(hH.calls 4 hQ).del 6
  have hqe:(if m.k=4 then m.q else qp)=m.q:=by
   split
   ·rfl
   ·rename_i h4;rw [if_neg h4] at hmq;exact hmq.symm
  rw [hqe] at hH
  clear hQ
  replace hH:=nn6 hH
  repeat (first|refine WS_seq ?_|refine WS_region ?_|refine WL_nil ?_|refine WS_inBlock ?_|refine WS_skip ?_|refine WS_false rfl ?_|(refine WL_r (by first|refine Run_pev rfl|refine k_add64 rfl rfl (by omega)) rfl ?_))
  refine IH (i+1,m.q,t2,s2) _ _ ?_ ?_ ?_ ?_
  ·simp only;omega
  ·exact ⟨rfl,trivial⟩
  ·repeat first|with_reducible apply Agr.refl|refine Agr.upd rfl ?_|refine Agr.updL rfl ?_|refine Agr.mrg rfl ?_
  ·exact ⟨by omega,hmo.q1,hcd,by omega,by omega,hH⟩
 ·obtain rfl:i=n:=by omega
  clear IH
  repeat (first|refine WS_seq ?_|refine WS_region ?_|refine WL_nil ?_|refine WS_exit rfl ?_|refine WS_no rfl (by omega) ?_|refine lp rfl rfl ?_)
  refine WL_s (S_call ((wdone_spec (hH.at 1 rfl) (by omega))) rfl rfl ?_)
  rintro _ _ ⟨a1,c1,rfl,hN⟩
  replace hH:=hH.nu hN
  clear hN
  replace hH:=nn7 hH
  have hl1:(pk (t.2.2++[true])).length=(t.2.2.length+1+7) / 8:=by rw [pk_len];simp
  have hb1:=pk_byt (t.2.2++[true])
  generalize pk (t.2.2++[true])=r1 at *
  skip
  refine WL_s (S_call ((put_spec (hH.o 6 rfl).sl hb1 rfl (by omega))) rfl rfl ?_)
  rintro _ _ ⟨a2,c2,rfl,hN⟩
  replace hH:=hH.nu hN
  clear hN
  replace hH:=nn8 hH
  repeat (refine lp rfl rfl ?_)
  refine WL_s (S_call ((wdone_spec (hH.at 2 rfl) (by omega))) rfl rfl ?_)
  rintro _ _ ⟨a3,c3,rfl,hN⟩
  replace hH:=hH.nu hN
  clear hN
  replace hH:=nn9 hH
  have hl2:(pk (s.2.2++[true])).length=(s.2.2.length+1+7) / 8:=by rw [pk_len];simp
  have hb2:=pk_byt (s.2.2++[true])
  generalize pk (s.2.2++[true])=r2 at *
  skip
  refine WL_s (S_call ((put_spec (hH.o 8 rfl).sl hb2 rfl (by omega))) rfl rfl ?_)
  rintro _ _ ⟨a4,c4,rfl,hN⟩
  replace hH:=hH.nu hN
  clear hN
  replace hH:=nn10 hH
  have g1:=escF_len r1 0
  have g2:=escF_ge r1 0
  have g3:=escF_len r2 0
  have g4:=escF_ge r2 0
  repeat (first|refine WS_seq ?_|refine WS_region ?_|refine WL_nil ?_|refine WS_skip ?_|refine WS_no rfl (by omega) ?_|refine WL_gyes rfl rfl (dF (by omega)) ?_|(refine WL_r (by first|refine Run_pev rfl|refine k_len rfl (Ty.isl rfl)|refine k_pick_f (dF (by omega)) rfl) rfl ?_))
  exact WS_ret3 Tryz.func38 rfl ⟨a2,c2,escF 0 r1,a4,c4,escF 0 r2,rfl,by omega,by omega,escF_byt _ _ hb1,escF_byt _ _ hb2,((((((hH.del 8).del 6).del 5).del 4).del 2).del 1).del 0⟩
end Go.Proofs.YtpbiicegmcpkpaaGreat
