/- A part of the proof that TopWorse is true at every input; no condition. -/
import Derived.Test.YtpbiicegmcpkpaaGreatT18
namespace Go.Proofs.YtpbiicegmcpkpaaGreat
open Go Go.K Go.P Go.RowKit Go.Proofs
theorem hbacks_next {b x o:List Int} {n:Nat} (e:hbacks b 4=some x) (hn:n<4) (ho:hbacks b n=some o):∃ u y,hall (hvb b (2*n) 8) 3=some u∧hput (2*n) u o 8=some y∧hbacks b (n+1)=some y:=by
 have pre:∀ {m k:Nat} {x:List Int},hbacks b m=some x→k≤m→∃ z,hbacks b k=some z:=by
  intro m
  induction m with
  | zero=>intro k x e hk;obtain rfl:k=0:=(by omega);exact ⟨_,rfl⟩
  | succ m ih =>
   intro k x e hk
   by_cases h:k=m+1
   ·subst h;exact ⟨x,e⟩
   ·obtain ⟨z,h1,_⟩:=Option.bind_eq_some_iff.1 e
    exact ih h1 (by omega)
 obtain ⟨z,hz⟩:=pre e (show n+1≤4 by omega)
 have h2:=hz
 unfold hbacks at h2
 rw [ho] at h2
 simp only [Option.bind_some] at h2
 obtain ⟨u,h3,h4⟩:=Option.bind_eq_some_iff.1 h2
 exact ⟨u,z,h3,h4,hz⟩
set_option maxRecDepth 20000 in
set_option maxHeartbeats 8000000 in
theorem back_spec {b x:List Int} {w:World} (hb:b.length=64) (h:hbacks b 4=some x) :
  Does Tryz.prog 166 #[.agg (b.map (Value.int .i64)).toArray] w fun r w'=>r=.agg (x.map (Value.int .i64)).toArray∧Ext [] w w':=by
 refine Does_of (args:=[_]) Tryz.func166 rfl rfl Tryz.ntmps166 rfl ?_
 have hH:=Hp.start w
 repeat (first|refine WS_seq ?_|refine WS_region ?_)
 refine WL_s (H_box (cs:=(b.map (Value.int .i64)).toArray) hH rfl rfl rfl ?_)
 try clear hH
 intro w1 b1 hH
 replace hH:=nn1 hH
 refine WL_s (H_alloc hH (Ty.zer rfl) rfl ?_)
 try clear hH
 intro w2 b2 hH
 replace hH:=nn2 hH
 repeat (first|refine WS_seq ?_|refine WS_region ?_|refine WL_nil ?_)
 refine WL_s (H_alloc hH (Ty.zer rfl) rfl ?_)
 try clear hH
 intro w3 b3 hH
 replace hH:=nn3 hH
 repeat (first|refine WS_seq ?_|refine WS_region ?_|refine WL_nil ?_|refine WS_block ?_|refine lp rfl rfl ?_)
 refine WS_loop (G:=(Nat) × (List Int)) (fun|(n,o)=>4-n) 158456325028528675187087900656 (fun|(n,o)=>[(4,.int .i64 ((2*n:Nat):Int))]) (fun|(n,o),w'=>n≤4∧hbacks b n=some o∧Hp [] w w' [Rb b1 94 (b.map (Value.int .i64)).toArray,Rb b2 94 ((List.replicate 64 (0:Int)).map (Value.int .i64)).toArray,Rb b3 94 (o.map (Value.int .i64)).toArray]) (0,List.replicate 64 0) ⟨rfl,trivial⟩ ⟨by omega,rfl,hH⟩ ?_
 rintro ⟨n,o⟩ w' σ ⟨hn,ho,hH⟩ IH
 show WS _ _ _ _ _ (updL [(4,.int .i64 ((2*n:Nat):Int))] _) _
 have hol:=hbacks_len ho
 by_cases hlt:n<4
 ·obtain ⟨u,y,hu,hy,hyn⟩:=hbacks_next h hlt ho
  repeat (first|refine WS_seq ?_|refine WS_region ?_|refine WL_nil ?_|refine WS_block ?_|refine WS_skip ?_|refine WS_yes rfl (by omega) ?_|refine lp rfl rfl ?_)
  refine WL_s (H_alloc hH (Ty.zer rfl) rfl ?_)
  try clear hH
  intro w4 b5 hH
  replace hH:=nn4 hH
  repeat (first|refine WS_seq ?_|refine WS_region ?_|refine WL_nil ?_)
  refine WL_s (S_call (horder_spec) rfl rfl ?_)
  rintro _ w5 ⟨rfl,hE⟩
  replace hH:=hH.ext0 hE
  replace hH:=nn4 hH
  repeat (first|refine WL_nil ?_|refine WS_block ?_|refine lp rfl rfl ?_)
  have IH0:=IH
  clear IH
  refine WS_loop (G:=(Nat)) (fun i=>8-i) 4398045987008 (fun i=>[(19,.int .i64 i)]) (fun i w'=>i≤8∧Hp [] w w' [Rb b1 94 (b.map (Value.int .i64)).toArray,Rb b2 94 ((List.replicate 64 (0:Int)).map (Value.int .i64)).toArray,Rb b3 94 (o.map (Value.int .i64)).toArray,Rb b5 301 (pcs (hvb b (2*n) i)).toArray]) (0) ⟨rfl,trivial⟩ ⟨by omega,hH⟩ ?_
  rintro i w' σ ⟨hi,hH⟩ IH
  show WS _ _ _ _ _ (updL [(19,.int .i64 i)] _) _
  have htl:=hvb_len b (2*n) i
  by_cases hlt8:i<8
  ·have hB:SlA w' (some ⟨b1,0,none⟩) (b.map (Value.int .i64)):=(hH.b 0 rfl).sl0
   have hi1:=ints_at (b:=b) (i:=8*(2*n)+i) (by omega)
   have hi2:=ints_at (b:=b) (i:=8*(2*n)+8+i) (by omega)
   obtain ⟨o',ho',ho8,hx1⟩:=hord_at i hlt8
   repeat (first|refine WS_seq ?_|refine WS_region ?_|refine WL_nil ?_|refine WS_block ?_|refine WS_skip ?_|refine WS_yes rfl (by omega) ?_|(refine WL_r (by first|refine k_index1 rfl rfl (Ty.arr rfl) (by omega) hx1|refine Run_pev rfl) rfl ?_))
   refine WS_tailS Ty.mixed 18 rfl (by kernel_rfl) rfl (fun u=>Ext [] w' u) ?_
   have hx1:Ext [] w' w'.drew:=Ext.drew0
   refine wp 0 hx1 rfl rfl rfl rfl ?_
   refine wp 1 hx1 rfl rfl rfl rfl ?_
   refine wt 2 hx1 rfl rfl rfl (fun w' hw'=>by refine k_mul64 rfl rfl (by omega)) ?_
   refine wp 3 hx1 rfl rfl rfl rfl ?_
   refine wt 4 hx1 rfl rfl rfl (fun w' hw'=>by refine k_add64 rfl rfl (by omega)) ?_
   refine wt 5 hx1 rfl rfl rfl (fun w' hw'=>by refine k_ixa1 rfl rfl (Ty.arr rfl) (by omega)) ?_
   refine wt 6 hx1 rfl rfl rfl (fun w' hw'=>by refine k_loads rfl (hB.ext0 hw') hi1 (Ty.shp rfl)) ?_
   refine wt 7 hx1 rfl rfl rfl (fun w' hw'=>by refine k_conv_if rfl (Ty.und rfl) isf) ?_
   refine wp 8 hx1 rfl rfl rfl rfl ?_
   refine wt 9 hx1 rfl rfl rfl (fun w' hw'=>by refine k_mul64 rfl rfl (by omega)) ?_
   refine wt 10 hx1 rfl rfl rfl (fun w' hw'=>by refine k_add64 rfl rfl (by omega)) ?_
   refine wp 11 hx1 rfl rfl rfl rfl ?_
   refine wt 12 hx1 rfl rfl rfl (fun w' hw'=>by refine k_add64 rfl rfl (by omega)) ?_
   refine wt 13 hx1 rfl rfl rfl (fun w' hw'=>by refine k_ixa1 rfl rfl (Ty.arr rfl) (by omega)) ?_
   refine wt 14 hx1 rfl rfl rfl (fun w' hw'=>by refine k_loads rfl (hB.ext0 hw') hi2 (Ty.shp rfl)) ?_
   refine wt 15 hx1 rfl rfl rfl (fun w' hw'=>by refine k_conv_if rfl (Ty.und rfl) isf) ?_
   refine wt 16 hx1 rfl rfl rfl (fun w' hw'=>by refine k_complex rfl rfl) ?_
   refine wt 17 hx1 rfl rfl rfl (fun w' hw'=>by refine k_ixa1 rfl rfl (Ty.arr rfl) (by omega)) ?_
   refine WA_done (by kernel_rfl) ?_
   replace hH:=hH.ext0 hx1
   refine WL_s (H_storeB 3 (v:=PV (FN (b.getD (8*(2*n)+i) 0),FN (b.getD (8*(2*n)+8+i) 0))) hH rfl rfl rfl (by simp;omega) rfl (Ty.shp rfl) ?_)
   clear hH
   intro w6 hH
   replace hH:=nn4 hH
   rw [← List.map_set] at hH
   have hst:(hvb b (2*n) i).set o' (FN (b.getD (8*(2*n)+i) 0),FN (b.getD (8*(2*n)+8+i) 0))=hvb b (2*n) (i+1):=by
    have e:horder.getD i 0=o':=by rw [List.getD_eq_getElem?_getD,ho'];rfl
    show _=(hvb b (2*n) i).set (horder.getD i 0) _
    rw [e]
   replace hH:Hp [] w w6 [Rb b1 94 (b.map (Value.int .i64)).toArray,Rb b2 94 ((List.replicate 64 (0:Int)).map (Value.int .i64)).toArray,Rb b3 94 (o.map (Value.int .i64)).toArray,Rb b5 301 (pcs (hvb b (2*n) (i+1))).toArray]:=hst▸hH
   repeat (first|refine WS_region ?_|refine WL_nil ?_|refine WS_inBlock ?_|(refine WL_r (by first|refine Run_pev rfl|refine k_add64 rfl rfl (by omega)) rfl ?_))
   refine IH (i+1) _ _ ?_ ?_ ?_ ?_
   ·omega
   ·exact ⟨rfl,trivial⟩
   ·repeat first|with_reducible apply Agr.refl|refine Agr.upd rfl ?_|refine Agr.updL rfl ?_|refine Agr.mrg rfl ?_
   ·exact ⟨by omega,hH⟩
  ·obtain rfl:i=8:=by omega
   clear IH
   generalize hvb b (2 * n) 8=v at *
   repeat (first|refine WS_seq ?_|refine WS_region ?_|refine WL_nil ?_|refine WS_block ?_|refine WS_exit rfl ?_|refine WS_false rfl ?_|refine lp rfl rfl ?_)
   refine WS_loop (G:=(Nat) × (List PF)) (fun|(m,x2)=>3-m) 18889465927080534347520 (fun|(m,x2)=>[(8,.int .i64 ((2 ^ m:Nat):Int))]) (fun|(m,x2),w'=>m≤3∧hall v m=some x2∧Hp [] w w' [Rb b1 94 (b.map (Value.int .i64)).toArray,Rb b2 94 ((List.replicate 64 (0:Int)).map (Value.int .i64)).toArray,Rb b3 94 (o.map (Value.int .i64)).toArray,Rb b5 301 (pcs x2).toArray]) (0,v) ⟨rfl,trivial⟩ ⟨by omega,rfl,hH⟩ ?_
   rintro ⟨m,x2⟩ w' σ ⟨hn,hx,hH⟩ IH
   show WS _ _ _ _ _ (updL [(8,.int .i64 ((2 ^ m:Nat):Int))] _) _
   have hxl:x2.length=8:=(hall_len hx).trans htl
   by_cases hlt:m<3
   ·obtain ⟨y,hy,hyn⟩:=hall_next hu hlt hx
    have hp:=p2_lt m hlt
    have hal:=and_lt m hlt
    have hdb:((2 ^ m:Nat):Int)*2=((2 ^ (m+1):Nat):Int):=by rw [Nat.pow_succ];omega
    obtain ⟨hh,hhe⟩:∃ hh,2 ^ m=hh:=⟨_,rfl⟩
    rw [hhe] at hy hp hal hdb ⊢
    repeat (first|refine WS_seq ?_|refine WS_region ?_|refine WL_nil ?_|refine WS_block ?_|refine WS_skip ?_|refine WS_yes rfl (by omega) ?_|refine lp rfl rfl ?_)
    have IH1:=IH
    clear IH
    refine WS_loop (G:=(Nat) × (List PF)) (fun|(j,t)=>8-j) 18889465861109836680704 (fun|(j,t)=>[(46,.int .i64 j)]) (fun|(j,t),w'=>j≤8∧hrow hh x2 j=some t∧Hp [] w w' [Rb b1 94 (b.map (Value.int .i64)).toArray,Rb b2 94 ((List.replicate 64 (0:Int)).map (Value.int .i64)).toArray,Rb b3 94 (o.map (Value.int .i64)).toArray,Rb b5 301 (pcs t).toArray]) (0,x2) ⟨rfl,trivial⟩ ⟨by omega,rfl,hH⟩ ?_
    rintro ⟨j,t⟩ w' σ ⟨hi,ht,hH⟩ IH
    show WS _ _ _ _ _ (updL [(46,.int .i64 j)] _) _
    have htl:t.length=8:=(hrow_len ht).trans hxl
    by_cases hlt8:j<8
    ·obtain ⟨s,hs,hsn⟩:=hrow_next hy hlt8 ht
     repeat (first|refine WS_seq ?_|refine WS_region ?_|refine WL_nil ?_|refine WS_block ?_|refine WS_skip ?_|refine WS_yes rfl (by omega) ?_|(refine WL_r (by first|refine k_and rfl rfl (fiti (by omega)) (fiti (by omega))|refine Run_pev rfl) rfl ?_))
     refine WS_ite rfl (fun h0=>?_) (fun h0=>?_)
     ·have h0':j &&& hh=0:=Int.ofNat.inj h0
      have hih:=hal j hlt8 h0'
      unfold hst at hs
      rw [if_pos h0'] at hs
      split at hs
      case h_2=>cases hs
      rename_i a b' ha hb
      obtain rfl:=Option.some.inj hs
      have hB:SlA w' (some ⟨b5,0,none⟩) (pcs t):=(hH.b 3 rfl).sl0
      have hi1:=pcs_at (v:=t) (i:=j) (by omega)
      have hi2:=pcs_at (v:=t) (i:=j+hh) (by omega)
      repeat (refine WS_seq ?_)
      refine WS_drawE Ty.mixed 10 rfl (fun w1 hx1=>?_)
      refine wp 0 hx1 rfl rfl rfl rfl ?_
      refine wt 1 hx1 rfl rfl rfl (fun w' hw'=>by refine k_ixa1 rfl rfl (Ty.arr rfl) (by omega)) ?_
      refine wt 2 hx1 rfl rfl rfl (fun w' hw'=>by refine k_loads rfl (hB.ext0 hw') hi1 (Ty.shp rfl)) ?_
      refine wp 3 hx1 rfl rfl rfl rfl ?_
      refine wp 4 hx1 rfl rfl rfl rfl ?_
      refine wt 5 hx1 rfl rfl rfl (fun w' hw'=>by refine k_add64 rfl rfl (by omega)) ?_
      refine wt 6 hx1 rfl rfl rfl (fun w' hw'=>by refine k_ixa1 rfl rfl (Ty.arr rfl) (by omega)) ?_
      refine wt 7 hx1 rfl rfl rfl (fun w' hw'=>by refine k_loads rfl (hB.ext0 hw') hi2 (Ty.shp rfl)) ?_
      refine wp 8 hx1 rfl rfl rfl rfl ?_
      refine wp 9 hx1 rfl rfl rfl rfl ?_
      refine WA_done (by kernel_rfl) ?_
      replace hH:=hH.ext0 hx1
      repeat (first|refine WS_region ?_|(refine WL_r (by first|refine k_caddP rfl rfl ha|refine k_csubP rfl rfl hb|refine k_ixa1 rfl rfl (Ty.arr rfl) (by omega)|refine Run_pev rfl|refine k_add64 rfl rfl (by omega)) rfl ?_))
      refine WL_s (H_storeB 3 (v:=PV a) hH rfl rfl rfl (by simp;omega) rfl (Ty.shp rfl) ?_)
      clear hH
      intro w4 hH
      replace hH:=nn4 hH
      repeat ((refine WL_r (by refine k_ixa1 rfl rfl (Ty.arr rfl) (by omega)) rfl ?_))
      refine WL_s (H_storeB 3 (v:=PV b') hH rfl rfl rfl (by simp;omega) rfl (Ty.shp rfl) ?_)
      clear hH
      intro w5 hH
      replace hH:=nn4 hH
      rw [← List.map_set,← List.map_set] at hH
      repeat (first|refine WS_region ?_|refine WL_nil ?_|refine WS_inBlock ?_|(refine WL_r (by first|refine Run_pev rfl|refine k_add64 rfl rfl (by omega)) rfl ?_))
      refine IH (j+1,(t.set j a).set (j+hh) b') _ _ ?_ ?_ ?_ ?_
      ·simp only;omega
      ·exact ⟨rfl,trivial⟩
      ·repeat first|with_reducible apply Agr.refl|refine Agr.upd rfl ?_|refine Agr.updL rfl ?_|refine Agr.mrg rfl ?_
      ·exact ⟨by omega,hsn,hH⟩
     ·have h0':¬ (j &&& hh=0):=fun h=>h0 (by rw [h];rfl)
      unfold hst at hs
      rw [if_neg h0'] at hs
      obtain rfl:=Option.some.inj hs
      repeat (first|refine WS_region ?_|refine WL_nil ?_|refine WS_inBlock ?_|refine WS_skip ?_|(refine WL_r (by first|refine Run_pev rfl|refine k_add64 rfl rfl (by omega)) rfl ?_))
      refine IH (j+1,t) _ _ ?_ ?_ ?_ ?_
      ·simp only;omega
      ·exact ⟨rfl,trivial⟩
      ·repeat first|with_reducible apply Agr.refl|refine Agr.upd rfl ?_|refine Agr.updL rfl ?_|refine Agr.mrg rfl ?_
      ·exact ⟨by omega,hsn,hH⟩
    ·obtain rfl:j=8:=by omega
     obtain rfl:y=t:=by rw [ht] at hy;exact (Option.some.inj hy).symm
     repeat (first|refine WS_seq ?_|refine WS_region ?_|refine WL_nil ?_|refine WS_inBlock ?_|refine WS_exit rfl ?_|refine WS_false rfl ?_|(refine WL_r (by first|refine Run_pev rfl|refine k_mul64 rfl rfl (by omega)) rfl ?_))
     refine IH1 (m+1,y) _ _ ?_ ?_ ?_ ?_
     ·simp only;omega
     ·exact ⟨congrArg (Value.int .i64) hdb,trivial⟩
     ·repeat first|with_reducible apply Agr.refl|refine Agr.upd rfl ?_|refine Agr.updL rfl ?_|refine Agr.mrg rfl ?_
     ·exact ⟨by omega,hyn,hH⟩
   ·obtain rfl:m=3:=by omega
    obtain rfl:u=x2:=by rw [hx] at hu;exact (Option.some.inj hu).symm
    have hB:=hH.b 3 rfl
    repeat (first|refine WS_seq ?_|refine WS_region ?_|refine WL_nil ?_|refine WS_block ?_|refine WS_exit rfl ?_|refine WS_false rfl ?_|(refine WL_r (by first|refine k_loadA rfl hB (by simp;omega) (Ty.shp rfl)|refine Run_pev rfl) rfl ?_))
    replace hH:=hH.del 3
    replace hH:=nn3 hH
    clear hB IH
    have hul:u.length=8:=hxl
    skip
    refine WS_loop (G:=(Nat) × (List Int)) (fun|(k,q)=>8-k) 158456287249596812229926203392 (fun|(k,q)=>[(75,.int .i64 k)]) (fun|(k,q),w'=>k≤8∧hput (2*n) u o k=some q∧Hp [] w w' [Rb b1 94 (b.map (Value.int .i64)).toArray,Rb b2 94 ((List.replicate 64 (0:Int)).map (Value.int .i64)).toArray,Rb b3 94 (q.map (Value.int .i64)).toArray]) (0,o) ⟨rfl,trivial⟩ ⟨by omega,rfl,hH⟩ ?_
    rintro ⟨k,q⟩ w' σ ⟨hk,hq,hH⟩ IH
    show WS _ _ _ _ _ (updL [(75,.int .i64 k)] _) _
    have hql:q.length=64:=(hput_len hq).trans hol
    by_cases hlt8:k<8
    ·obtain ⟨x1,x2,hx1,hx2,hqn⟩:=hput_next hy hlt8 hq
     obtain ⟨ht1,hr1⟩:=fint_spec hx1
     obtain ⟨ht2,hr2⟩:=fint_spec hx2
     have hi1:(pcs u).toArray[k]?=some (PV (u.getD k (0,0))):=by rw [List.getElem?_toArray];exact pcs_at (by omega)
     repeat (first|refine WS_seq ?_|refine WS_region ?_|refine WL_nil ?_|refine WS_block ?_|refine WS_skip ?_|refine WS_yes rfl (by omega) ?_|(refine WL_r (by first|refine k_index1 rfl rfl (Ty.arr rfl) (by omega) hi1|refine k_real rfl|refine k_imag rfl|refine k_conv_fi rfl (Ty.und rfl) (Ty.knd rfl) ht1 hr1|refine k_conv_fi rfl (Ty.und rfl) (Ty.knd rfl) ht2 hr2|refine k_ixa1 rfl rfl (Ty.arr rfl) (by omega)|refine Run_pev rfl|refine k_add64 rfl rfl (by omega)|refine k_mul64 rfl rfl (by omega)) rfl ?_))
     refine WL_s (H_storeB 2 (v:=.int .i64 x1) hH rfl rfl rfl (by simp;omega) rfl (Ty.shp rfl) ?_)
     clear hH
     intro w5 hH
     replace hH:=nn3 hH
     repeat ((refine WL_r (by refine k_ixa1 rfl rfl (Ty.arr rfl) (by omega)) rfl ?_))
     refine WL_s (H_storeB 2 (v:=.int .i64 x2) hH rfl rfl rfl (by simp;omega) rfl (Ty.shp rfl) ?_)
     clear hH
     intro w6 hH
     replace hH:=nn3 hH
     rw [← List.map_set,← List.map_set] at hH
     repeat (first|refine WS_region ?_|refine WL_nil ?_|refine WS_inBlock ?_|(refine WL_r (by first|refine Run_pev rfl|refine k_add64 rfl rfl (by omega)) rfl ?_))
     refine IH (k+1,(q.set (8*k+2*n) x1).set (8*k+2*n+1) x2) _ _ ?_ ?_ ?_ ?_
     ·simp only;omega
     ·exact ⟨rfl,trivial⟩
     ·repeat first|with_reducible apply Agr.refl|refine Agr.upd rfl ?_|refine Agr.updL rfl ?_|refine Agr.mrg rfl ?_
     ·exact ⟨by omega,hqn,hH⟩
    ·obtain rfl:k=8:=by omega
     obtain rfl:y=q:=by rw [hq] at hy;exact (Option.some.inj hy).symm
     repeat (first|refine WS_seq ?_|refine WS_region ?_|refine WL_nil ?_|refine WS_inBlock ?_|refine WS_exit rfl ?_|refine WS_false rfl ?_|(refine WL_r (by first|refine Run_pev rfl|refine k_add64 rfl rfl (by omega)) rfl ?_))
     refine IH0 (n+1,y) _ _ ?_ ?_ ?_ ?_
     ·simp only;omega
     ·exact ⟨congrArg (Value.int .i64) (show ((2*n:Nat):Int)+2=((2*(n+1):Nat):Int) by omega),trivial⟩
     ·repeat first|with_reducible apply Agr.refl|refine Agr.upd rfl ?_|refine Agr.updL rfl ?_|refine Agr.mrg rfl ?_
     ·exact ⟨by omega,hyn,hH⟩
 ·obtain rfl:n=4:=by omega
  obtain rfl:x=o:=by rw [ho] at h;exact (Option.some.inj h).symm
  have hB:=hH.b 2 rfl
  repeat (first|refine WS_seq ?_|refine WS_region ?_|refine WL_nil ?_|refine WS_exit rfl ?_|refine WS_false rfl ?_|(refine WL_r (by first|refine k_loadA rfl hB (by simp;omega) (Ty.shp rfl)|refine Run_pev rfl) rfl ?_))
  refine WL_s (H_storeA 1 (vs:=(x.map (Value.int .i64)).toArray) (s:=64) hH rfl rfl rfl (by simp;omega) (by simp) ints_one (Ty.shp rfl) ?_)
  clear hH
  intro w6 hH
  replace hH:=nn3 hH
  repeat (refine WL_nil ?_)
  exact WS_retc1 Tryz.func166 rfl rfl (hH.b 1 rfl) (by simp;omega) (Ty.shp rfl) ⟨rfl,hH.ext⟩
theorem rep_at {n i:Nat} {x:Int} (h:i<n):((List.replicate n x).map (Value.int .i64)).toArray[i]?=some (.int .i64 x):=by
 rw [List.getElem?_toArray,List.getElem?_map,List.getElem?_replicate,if_pos h];rfl
set_option maxRecDepth 20000 in
set_option maxHeartbeats 4000000 in
theorem inverse50 {w:World}:Does Tryz.prog 125 #[.agg (((3200:Int)::List.replicate 63 0).map (Value.int .i64)).toArray] w fun r w'=>r=.agg ((List.replicate 64 (50:Int)).map (Value.int .i64)).toArray∧Ext [] w w':=by
 obtain ⟨x,hx,hy⟩:=Option.bind_eq_some_iff.1 back50
 have hxl:=hbacks_len hx
 refine Does_of (args:=[_]) Tryz.func125 rfl rfl Tryz.ntmps125 rfl ?_
 have hH:=Hp.start w
 repeat (first|refine WS_seq ?_|refine WS_region ?_)
 refine WL_s (H_box (cs:=(((3200:Int)::List.replicate 63 0).map (Value.int .i64)).toArray) hH rfl rfl rfl ?_)
 try clear hH
 intro w1 b1 hH
 replace hH:=nn1 hH
 refine WL_s (H_alloc hH (Ty.zer rfl) rfl ?_)
 try clear hH
 intro w2 b2 hH
 replace hH:=nn2 hH
 repeat (first|refine WS_seq ?_|refine WS_region ?_|refine WL_nil ?_)
 refine WL_s (H_alloc hH (Ty.zer rfl) rfl ?_)
 try clear hH
 intro w3 b3 hH
 replace hH:=nn3 hH
 have hB:=hH.b 0 rfl
 repeat (first|refine WS_seq ?_|refine WS_region ?_|refine WL_nil ?_|(refine WL_r (by refine k_loadA rfl hB (by simp) (Ty.shp rfl)) rfl ?_))
 refine WL_s (S_call ((back_spec (by simp) hx)) rfl rfl ?_)
 rintro _ w4 ⟨rfl,hE⟩
 replace hH:=hH.ext0 hE
 replace hH:=nn3 hH
 skip
 refine WL_s (S_call ((back_spec hxl hy)) rfl rfl ?_)
 rintro _ w5 ⟨rfl,hE2⟩
 replace hH:=hH.ext0 hE2
 replace hH:=nn3 hH
 clear hB
 skip
 refine WL_s (H_alloc hH (Ty.zer rfl) rfl ?_)
 try clear hH
 intro w6 b4 hH
 replace hH:=nn4 hH
 skip
 refine WL_s (H_storeA 3 (vs:=((List.replicate 64 (3200:Int)).map (Value.int .i64)).toArray) (s:=64) hH rfl rfl rfl (by simp) (by simp) ints_one (Ty.shp rfl) ?_)
 clear hH
 intro w7 hH
 replace hH:=nn4 hH
 have hB:=hH.b 3 rfl
 repeat (first|refine WS_seq ?_|refine WS_region ?_|refine WL_nil ?_|refine WS_block ?_|(refine WL_r (by first|refine k_loadA rfl hB (by simp) (Ty.shp rfl)|refine Run_pev rfl) rfl ?_))
 clear hB
 refine WS_loop (G:=(Nat) × (List Int)) (fun|(i,q)=>64-i) 2095200 (fun|(i,q)=>[(11,.int .i64 i)]) (fun|(i,q),w'=>i≤64∧q.length=64∧q.take i=List.replicate i 50∧Hp [] w w' [Rb b1 94 (((3200:Int)::List.replicate 63 0).map (Value.int .i64)).toArray,Rb b2 94 ((List.replicate 64 (0:Int)).map (Value.int .i64)).toArray,Rb b3 94 (q.map (Value.int .i64)).toArray,Rb b4 94 ((List.replicate 64 (3200:Int)).map (Value.int .i64)).toArray]) (0,List.replicate 64 0) ⟨rfl,trivial⟩ ⟨by omega,by simp,rfl,hH⟩ ?_
 rintro ⟨i,q⟩ w' σ ⟨hi,hql,hq,hH⟩ IH
 show WS _ _ _ _ _ (updL [(11,.int .i64 i)] _) _
 by_cases hlt:i<64
 ·have hx1:((List.replicate 64 (3200:Int)).map (Value.int .i64)).toArray[i]?=some (.int .i64 3200):=rep_at hlt
  repeat (first|refine WS_seq ?_|refine WS_region ?_|refine WL_nil ?_|refine WS_block ?_|refine WS_skip ?_|refine WS_yes rfl (by omega) ?_|(refine WL_r (by first|refine k_index1 rfl rfl (Ty.arr rfl) (by omega) hx1|refine k_shr (m:=3232) (n:=6) rfl rfl (fiti (by decide))|refine k_ixa1 rfl rfl (Ty.arr rfl) (by omega)|refine Run_pev rfl|refine k_add64 rfl rfl (by omega)) rfl ?_))
  refine WL_s (H_storeB 2 (v:=.int .i64 50) hH rfl rfl rfl (by simp;omega) rfl (Ty.shp rfl) ?_)
  clear hH
  intro w8 hH
  replace hH:=nn4 hH
  rw [← List.map_set] at hH
  repeat (first|refine WS_region ?_|refine WL_nil ?_|refine WS_inBlock ?_|(refine WL_r (by first|refine Run_pev rfl|refine k_add64 rfl rfl (by omega)) rfl ?_))
  refine IH (i+1,q.set i 50) _ _ ?_ ?_ ?_ ?_
  ·simp only;omega
  ·exact ⟨rfl,trivial⟩
  ·repeat first|with_reducible apply Agr.refl|refine Agr.upd rfl ?_|refine Agr.updL rfl ?_|refine Agr.mrg rfl ?_
  ·exact ⟨by omega,by rw [List.length_set];exact hql,by rw [List.take_add_one,List.take_set_of_le (Nat.le_refl i),hq,List.getElem?_set_self (by omega),List.replicate_succ'];rfl,hH⟩
 ·obtain rfl:i=64:=by omega
  have e:q=List.replicate 64 50:=by rw [← hq,List.take_of_length_le (by omega)]
  subst e
  have hB:=hH.b 2 rfl
  repeat (first|refine WS_seq ?_|refine WS_region ?_|refine WL_nil ?_|refine WS_exit rfl ?_|refine WS_false rfl ?_|(refine WL_r (by first|refine k_loadA rfl hB (by simp) (Ty.shp rfl)|refine Run_pev rfl) rfl ?_))
  refine WL_s (H_storeA 1 (vs:=((List.replicate 64 (50:Int)).map (Value.int .i64)).toArray) (s:=64) hH rfl rfl rfl (by simp) (by simp) ints_one (Ty.shp rfl) ?_)
  clear hH
  intro w9 hH
  replace hH:=nn4 hH
  repeat (refine WL_nil ?_)
  exact WS_retc1 Tryz.func125 rfl rfl (hH.b 1 rfl) (by simp) (Ty.shp rfl) ⟨rfl,hH.ext⟩
end Go.Proofs.YtpbiicegmcpkpaaGreat
namespace Go.Proofs.YtpbiicegmcpkpaaGreat
open Go Go.K Go.P Go.RowKit Go.Proofs
theorem clamp_spec {n e:Int} {w:World} (he:-9223372036854775807≤e∧e≤9223372036854775807):Does Tryz.prog 184 #[.int .i64 n,.int .i64 e] w fun v w'=>v=.int .i64 (max (min n (e-1)) 0)∧w'=w:=by
 refine Does_of (args:=[_,_]) Tryz.func184 rfl rfl Tryz.ntmps184 rfl ?_
 repeat (first|refine WS_seq ?_|refine WS_region ?_|refine WL_nil ?_|(refine WL_r (by first|refine Run_pev rfl|refine k_sub64 rfl rfl (by omega)|refine k_min rfl rfl|refine k_max rfl rfl) rfl ?_))
 exact WS_ret1 Tryz.func184 rfl ⟨rfl,rfl⟩
abbrev plC (m n b:Nat):List Value:=[.int .i64 (m:Nat),.int .i64 (n:Nat),.slice (some ⟨b,0,none⟩) (m*n) (m*n)]
theorem rep_set {k n:Nat} {x y:Value} (h:k<n):(List.replicate k x++List.replicate (n-k) y).set k x=List.replicate (k+1) x++List.replicate (n-(k+1)) y:=by
 rw [show n-k=(n-(k+1))+1 by omega,List.replicate_succ,List.set_append_right _ _ (by simp)]
 simp [List.replicate_succ']
set_option maxHeartbeats 4000000 in
theorem plnew_spec {m n x:Nat} {w:World} (hm:m≤1024) (hn:n≤1024) :
  Does Tryz.prog 30 #[.int .i64 m,.int .i64 n,.int .u8 x] w fun v w'=>∃ b,v=.agg (plC m n b).toArray∧New (Rb b 5 (List.replicate (m*n) (Value.int .u8 x)).toArray) w w':=by
 refine Does_of (args:=[_,_,_]) Tryz.func30 rfl rfl Tryz.ntmps30 rfl ?_
 have hmn:m*n≤1048576:=Nat.mul_le_mul hm hn
 have hmi:(m:Int)*n=((m*n:Nat):Int):=by simp
 have hH:=Hp.start w
 repeat (first|refine WS_seq ?_|refine WS_region ?_)
 refine WL_s (H_alloc hH (Ty.zer rfl) rfl ?_)
 try clear hH
 intro w1 b1 hH
 replace hH:=nn1 hH
 have e1:min (max (m:Int) 0) 1024=m:=by omega
 have e2:min (max (n:Int) 0) 1024=n:=by omega
 repeat (first|refine WS_seq ?_|refine WS_region ?_|refine WL_nil ?_|(refine WL_r (by first|refine (k_min rfl rfl).is (congrArg (Value.int .i64) e1)|refine (k_min rfl rfl).is (congrArg (Value.int .i64) e2)|refine (k_mul64 (m:=m) (n:=n) rfl rfl (by omega)).is (congrArg (Value.int .i64) hmi)|refine Run_pev rfl|refine k_max rfl rfl) rfl ?_))
 refine WL_s (H_make (n:=m*n) hH (Ty.sle rfl) (Ty.zer rfl) (Ty.byt rfl) rfl rfl rfl rfl (by omega) (by simp only [maxLen];omega) rfl ?_)
 clear hH
 intro w2 b2 hH
 replace hH:=nn2 hH
 rw [made_one] at hH
 repeat ((refine WL_r (by refine k_buildS (cs:=plC m n b2) (Ty.zer rfl) (Ty.plc rfl) rfl) rfl ?_))
 refine WL_s (H_alloc hH (Ty.zer rfl) rfl ?_)
 clear hH
 intro w3 b7 hH
 replace hH:=nn3 hH
 skip
 refine WL_s (H_storeA 2 (vs:=(plC m n b2).toArray) (s:=3) hH rfl rfl rfl rfl rfl (by simp [Value.oneCell']) (Ty.shp rfl) ?_)
 clear hH
 intro w4 hH
 replace hH:=nn3 hH
 have hB:=hH.b 2 rfl
 repeat (first|refine WS_seq ?_|refine WS_region ?_|refine WL_nil ?_|refine WS_block ?_|(refine WL_r (by first|refine k_fa rfl (Ty.fld rfl rfl)|refine k_loadb rfl hB rfl (Ty.shp rfl)|refine Run_pev rfl|refine k_len rfl (Ty.isl rfl)) rfl ?_))
 clear hB
 obtain ⟨N,hN⟩:∃ N,m*n=N:=⟨_,rfl⟩
 refine WS_loop (G:=(Nat)) (fun k=>m*n-k) 17146315008 (fun k=>[(25,.int .i64 k)]) (fun k w'=>k≤m*n∧Hp [] w w' [Rb b1 64 #[.int .i64 0,.int .i64 0,.slice none 0 0],Rb b2 5 (List.replicate k (Value.int .u8 x)++List.replicate (m*n-k) (Value.int .u8 0)).toArray,Rb b7 64 (plC m n b2).toArray]) (0) ⟨rfl,trivial⟩ ⟨by omega,hH⟩ ?_
 rintro k w' σ ⟨hk,hH⟩ IH
 show WS _ _ _ _ _ (updL [(25,.int .i64 k)] _) _
 have hB:=hH.b 2 rfl
 have hS:SlA w' (some ⟨b2,0,none⟩) (List.replicate k (Value.int .u8 x)++List.replicate (m*n-k) (Value.int .u8 0)):=(hH.b 1 rfl).sl0
 by_cases hlt:k<m*n
 ·repeat (first|refine WS_seq ?_|refine WS_region ?_|refine WL_nil ?_|refine WS_block ?_|refine WS_skip ?_|refine WS_yes rfl (by omega) ?_|(refine WL_r (by first|refine k_fa rfl (Ty.fld rfl rfl)|refine k_loadb rfl hB rfl (Ty.shp rfl)|refine k_ix1 rfl rfl hS (by simp;omega) (Ty.sle rfl) (by omega)|refine Run_pev rfl) rfl ?_))
  refine WL_s (H_storeB 1 (v:=.int .u8 x) hH rfl rfl rfl (by simp;omega) rfl (Ty.shp rfl) ?_)
  clear hH
  intro w5 hH
  replace hH:=nn3 hH
  rw [Int.toNat_natCast,rep_set hlt] at hH
  repeat (first|refine WS_region ?_|refine WL_nil ?_|refine WS_inBlock ?_|(refine WL_r (by first|refine Run_pev rfl|refine k_add64 rfl rfl (by omega)) rfl ?_))
  refine IH (k+1) _ _ ?_ ?_ ?_ ?_
  ·omega
  ·exact ⟨rfl,trivial⟩
  ·repeat first|with_reducible apply Agr.refl|refine Agr.upd rfl ?_|refine Agr.updL rfl ?_|refine Agr.mrg rfl ?_
  ·exact ⟨by omega,hH⟩
 ·obtain rfl:k=m*n:=by omega
  rw [Nat.sub_self,List.replicate_zero,List.append_nil] at hH
  repeat (first|refine WS_seq ?_|refine WS_region ?_|refine WL_nil ?_|refine WS_exit rfl ?_|refine WS_no rfl (by omega) ?_|(refine WL_r (by first|refine k_loadA rfl hB rfl (Ty.shp rfl)|refine Run_pev rfl) rfl ?_))
  refine WL_s (H_storeA 0 (vs:=(plC m n b2).toArray) (s:=3) hH rfl rfl rfl rfl rfl (by simp [Value.oneCell']) (Ty.shp rfl) ?_)
  clear hH
  intro w6 hH
  replace hH:=nn3 hH
  repeat (refine WL_nil ?_)
  exact WS_retc1 Tryz.func30 rfl rfl (hH.b 0 rfl) rfl (Ty.shp rfl) ⟨b2,rfl,hH.new1 1 rfl⟩
abbrev frC (c r y u v:Nat):List Value:=[.int .i64 (c:Nat),.int .i64 (r:Nat)]++plC (16*c) (16*r) y++plC (8*c) (8*r) u++plC (8*c) (8*r) v
abbrev frR (c r y u v x:Nat):List Res:=[Rb y 5 (List.replicate (16*c*(16*r)) (Value.int .u8 x)).toArray,Rb u 5 (List.replicate (8*c*(8*r)) (Value.int .u8 x)).toArray,Rb v 5 (List.replicate (8*c*(8*r)) (Value.int .u8 x)).toArray]
set_option maxHeartbeats 4000000 in
theorem newframe_spec {c r x:Nat} {w:World} (hc:c≤8) (hr:r≤8) :
  Does Tryz.prog 13 #[.int .i64 c,.int .i64 r,.int .u8 x] w fun v w'=>∃ y u z,v=.agg (frC c r y u z).toArray∧Hp [] w w' (frR c r y u z x):=by
 refine Does_of (args:=[_,_,_]) Tryz.func13 rfl rfl Tryz.ntmps13 rfl ?_
 have hH:=Hp.start w
 repeat (first|refine WS_seq ?_|refine WS_region ?_)
 refine WL_s (H_alloc hH (Ty.zer rfl) rfl ?_)
 try clear hH
 intro w1 b1 hH
 replace hH:=nn1 hH
 have e1:min (max (c:Int) 0) 8=c:=by omega
 have e2:min (max (r:Int) 0) 8=r:=by omega
 have e3:(16:Int)*c=((16*c:Nat):Int):=by omega
 have e4:(16:Int)*r=((16*r:Nat):Int):=by omega
 have e5:(8:Int)*c=((8*c:Nat):Int):=by omega
 have e6:(8:Int)*r=((8*r:Nat):Int):=by omega
 repeat (first|refine WS_seq ?_|refine WS_region ?_|refine WL_nil ?_|(refine WL_r (by first|refine (k_min rfl rfl).is (congrArg (Value.int .i64) e1)|refine (k_min rfl rfl).is (congrArg (Value.int .i64) e2)|refine (k_mul64 (m:=16) (n:=c) rfl rfl (by omega)).is (congrArg (Value.int .i64) e3)|refine (k_mul64 (m:=16) (n:=r) rfl rfl (by omega)).is (congrArg (Value.int .i64) e4)|refine Run_pev rfl|refine k_max rfl rfl) rfl ?_))
 refine WL_s (S_call ((plnew_spec (m:=16*c) (n:=16*r) (x:=x) (by omega) (by omega))) rfl rfl ?_)
 rintro _ w2 ⟨y,rfl,hN⟩
 replace hH:=hH.nu hN
 replace hH:=nn2 hH
 repeat ((refine WL_r (by first|refine (k_mul64 (m:=8) (n:=c) rfl rfl (by omega)).is (congrArg (Value.int .i64) e5)|refine (k_mul64 (m:=8) (n:=r) rfl rfl (by omega)).is (congrArg (Value.int .i64) e6)|refine Run_pev rfl) rfl ?_))
 refine WL_s (S_call ((plnew_spec (m:=8*c) (n:=8*r) (x:=x) (by omega) (by omega))) rfl rfl ?_)
 rintro _ w3 ⟨u,rfl,hN2⟩
 replace hH:=hH.nu hN2
 replace hH:=nn3 hH
 repeat ((refine WL_r (by first|refine (k_mul64 (m:=8) (n:=c) rfl rfl (by omega)).is (congrArg (Value.int .i64) e5)|refine (k_mul64 (m:=8) (n:=r) rfl rfl (by omega)).is (congrArg (Value.int .i64) e6)|refine Run_pev rfl) rfl ?_))
 refine WL_s (S_call ((plnew_spec (m:=8*c) (n:=8*r) (x:=x) (by omega) (by omega))) rfl rfl ?_)
 rintro _ w4 ⟨z,rfl,hN3⟩
 replace hH:=hH.nu hN3
 replace hH:=nn4 hH
 repeat ((refine WL_r (by refine k_buildS (cs:=frC c r y u z) (Ty.zer rfl) (Ty.plc rfl) rfl) rfl ?_))
 refine WL_s (H_storeA 0 (vs:=(frC c r y u z).toArray) (s:=11) hH rfl rfl rfl rfl rfl (by simp [Value.oneCell']) (Ty.shp rfl) ?_)
 clear hH
 intro w5 hH
 replace hH:=nn4 hH
 repeat (refine WL_nil ?_)
 exact WS_retc1 Tryz.func13 rfl rfl (hH.b 0 rfl) rfl (Ty.shp rfl) ⟨y,u,z,rfl,hH.del 0⟩
end Go.Proofs.YtpbiicegmcpkpaaGreat
namespace Go.Proofs.YtpbiicegmcpkpaaGreat
open Go Go.K Go.P Go.RowKit Go.Proofs
set_option maxHeartbeats 4000000 in
theorem plat_spec {m n b x:Nat} {i j:Int} {w:World} (hm:1≤m∧m≤1024) (hn:1≤n∧n≤1024) (hS:SlA w (some ⟨b,0,none⟩) (List.replicate (m*n) (Value.int .u8 x))) :
  Does Tryz.prog 160 #[.agg (plC m n b).toArray,.int .i64 i,.int .i64 j] w fun v w'=>v=.int .u8 x∧Ext [] w w':=by
 refine Does_of (args:=[_,_,_]) Tryz.func160 rfl rfl Tryz.ntmps160 rfl ?_
 have hmn:m*n≤1048576:=Nat.mul_le_mul hm.2 hn.2
 have hH:=Hp.start w
 repeat (first|refine WS_seq ?_|refine WS_region ?_)
 refine WL_s (H_box (cs:=(plC m n b).toArray) hH rfl rfl rfl ?_)
 try clear hH
 intro w1 b1 hH
 replace hH:=nn1 hH
 have hB:=hH.b 0 rfl
 replace hS:=hS.ext0 hH.ext
 obtain ⟨q,hq⟩:∃ q:Nat,max (min j ((n:Int)-1)) 0=q:=⟨(max (min j ((n:Int)-1)) 0).toNat,by omega⟩
 obtain ⟨p,hp⟩:∃ p:Nat,max (min i ((m:Int)-1)) 0=p:=⟨(max (min i ((m:Int)-1)) 0).toNat,by omega⟩
 have hq2:q<n:=by omega
 have hp2:p<m:=by omega
 have hqm:(q:Int)*m=((q*m:Nat):Int):=by simp
 have hlt:q*m+p<m*n:=by
  have h1:(q+1)*m≤n*m:=Nat.mul_le_mul_right m (by omega)
  rw [Nat.add_mul,Nat.mul_comm n m] at h1
  omega
 have hqp:((q*m:Nat):Int)+p=((q*m+p:Nat):Int):=by omega
 repeat (first|refine WS_seq ?_|refine WL_nil ?_|refine lp rfl rfl ?_)
 refine WS_specK [Is (.int .i64 j),Is (.pointer (some ⟨b1,0+1,none⟩)),Is (.int .i64 n),Is (.int .i64 q),Is (.pointer (some ⟨b1,0+0,none⟩)),Is (.int .i64 m),Is (.int .i64 (q*m:Nat)),Is (.int .i64 i),Is (.pointer (some ⟨b1,0+0,none⟩)),Is (.int .i64 m),Is (.int .i64 p),Is (.int .i64 (q*m+p:Nat)),Is (.int .i64 (q*m+p:Nat))] Ty.mixed [(1046016,[],true),(1046784,[],true),(1045248,[(1,9)],true),(767744,[(0,8),(2,10)],true),(1036032,[],true),(1023744,[(4,12)],true),(507648,[(3,11),(5,13)],true),(753408,[],true),(851712,[],true),(655104,[(8,16)],true),(261888,[(7,15),(9,17)],true),(524032,[(6,14),(10,18)],true),(1048320,[(11,19)],true)] 1048448 [(12,7)] (by kernel_rfl) (by kernel_rfl) (by kernel_rfl) (by kernel_rfl) (by kernel_rfl) ⟨Is.st,Is.st,Is.st,Is.st,Is.st,Is.st,Is.st,Is.st,Is.st,Is.st,Is.st,Is.st,Is.st,trivial⟩ ⟨⟨GOk.none,?_⟩,⟨GOk.none,?_⟩,⟨GOk.none,?_⟩,⟨GOk.none,?_⟩,⟨GOk.none,?_⟩,⟨GOk.none,?_⟩,⟨GOk.none,?_⟩,⟨GOk.none,?_⟩,⟨GOk.none,?_⟩,⟨GOk.none,?_⟩,⟨GOk.none,?_⟩,⟨GOk.none,?_⟩,⟨GOk.none,?_⟩,trivial⟩ ?_
 ·intro w'' hE''
  intro σ''
  exact sp_is (by refine Run_pev rfl) rfl
 ·intro w'' hE''
  intro σ''
  exact sp_is (by refine k_fa rfl (Ty.fld rfl rfl)) rfl
 ·intro w'' hE''
  rintro _ rfl
  intro σ''
  exact sp_is (by refine k_loadb rfl (hB.ext0 hE'') rfl (Ty.shp rfl)) rfl
 ·intro w'' hE''
  rintro _ rfl
  rintro _ rfl
  intro σ''
  refine S_call (clamp_spec (n:=j) (e:=n) (by omega)) rfl rfl ?_
  rintro v w3'' ⟨rfl,rfl⟩
  exact ⟨.refl,_,rfl,congrArg (Value.int .i64) hq⟩
 ·intro w'' hE''
  intro σ''
  exact sp_is (by refine k_fa rfl (Ty.fld rfl rfl)) rfl
 ·intro w'' hE''
  rintro _ rfl
  intro σ''
  exact sp_is (by refine k_loadb rfl (hB.ext0 hE'') rfl (Ty.shp rfl)) rfl
 ·intro w'' hE''
  rintro _ rfl
  rintro _ rfl
  intro σ''
  exact sp_is (by refine (k_mul64 (m:=q) (n:=m) rfl rfl (by omega)).is (congrArg (Value.int .i64) hqm)) rfl
 ·intro w'' hE''
  intro σ''
  exact sp_is (by refine Run_pev rfl) rfl
 ·intro w'' hE''
  intro σ''
  exact sp_is (by refine k_fa rfl (Ty.fld rfl rfl)) rfl
 ·intro w'' hE''
  rintro _ rfl
  intro σ''
  exact sp_is (by refine k_loadb rfl (hB.ext0 hE'') rfl (Ty.shp rfl)) rfl
 ·intro w'' hE''
  rintro _ rfl
  rintro _ rfl
  intro σ''
  refine S_call (clamp_spec (n:=i) (e:=m) (by omega)) rfl rfl ?_
  rintro v w3'' ⟨rfl,rfl⟩
  exact ⟨.refl,_,rfl,congrArg (Value.int .i64) hp⟩
 ·intro w'' hE''
  rintro _ rfl
  rintro _ rfl
  intro σ''
  exact sp_is (by refine (k_add64 (m:=(q*m:Nat)) (n:=p) rfl rfl (by omega)).is (congrArg (Value.int .i64) hqp)) rfl
 ·intro w'' hE''
  rintro _ rfl
  intro σ''
  exact sp_is (by refine Run_pev rfl) rfl
 intro w'' hE''
 rintro _ rfl
 intro σ''
 replace hH:=hH.ext0 hE''
 replace hS:=hS.ext0 hE''
 clear hB
 have hB:=hH.b 0 rfl
 have hl:(List.replicate (m*n) (Value.int .u8 x)).length=m*n:=by simp
 have hv:(List.replicate (m*n) (Value.int .u8 x))[q*m+p]?=some (.int .u8 x):=by rw [List.getElem?_replicate,if_pos hlt]
 repeat (first|refine WS_seq ?_|refine WS_region ?_|refine WL_nil ?_|refine WS_skip ?_|refine WS_no rfl (by omega) ?_|refine WL_gyes rfl rfl (dF (by omega)) ?_|(refine WL_r (by first|refine k_fa rfl (Ty.fld rfl rfl)|refine k_loadb rfl hB rfl (Ty.shp rfl)|refine k_ix1 rfl rfl hS hl (Ty.sle rfl) (by omega)|refine k_loads rfl hS hv (Ty.shp rfl)|refine Run_pev rfl|refine k_len rfl (Ty.isl rfl)|refine k_pick_f (dF (by omega)) rfl) rfl ?_))
 exact WS_ret1 Tryz.func160 rfl ⟨rfl,hH.ext⟩
set_option maxRecDepth 20000 in
set_option maxHeartbeats 4000000 in
theorem plblock_spec {m n b x i j:Nat} {w:World} (hm:1≤m∧m≤1024) (hn:1≤n∧n≤1024) (hi:i≤100000) (hj:j≤100000) (hx:x<256) (hS:SlA w (some ⟨b,0,none⟩) (List.replicate (m*n) (Value.int .u8 x))) :
  Does Tryz.prog 115 #[.agg (plC m n b).toArray,.int .i64 i,.int .i64 j] w fun v w'=>v=.agg ((List.replicate 64 (x:Int)).map (Value.int .i64)).toArray∧Ext [] w w':=by
 refine Does_of (args:=[_,_,_]) Tryz.func115 rfl rfl Tryz.ntmps115 rfl ?_
 have hH:=Hp.start w
 repeat (first|refine WS_seq ?_|refine WS_region ?_)
 refine WL_s (H_box (cs:=(plC m n b).toArray) hH rfl rfl rfl ?_)
 try clear hH
 intro w1 b1 hH
 replace hH:=nn1 hH
 refine WL_s (H_alloc hH (Ty.zer rfl) rfl ?_)
 try clear hH
 intro w2 b2 hH
 replace hH:=nn2 hH
 repeat (first|refine WS_seq ?_|refine WS_region ?_|refine WL_nil ?_)
 refine WL_s (H_alloc hH (Ty.zer rfl) rfl ?_)
 try clear hH
 intro w3 b3 hH
 replace hH:=nn3 hH
 repeat (first|refine WS_seq ?_|refine WS_region ?_|refine WL_nil ?_|refine WS_block ?_|refine lp rfl rfl ?_)
 refine WS_loop (G:=(Nat) × (List Int)) (fun|(k,q)=>64-k) 67108608 (fun|(k,q)=>[(9,.int .i64 k)]) (fun|(k,q),w'=>k≤64∧q.length=64∧q.take k=List.replicate k (x:Int)∧Hp [] w w' [Rb b1 64 (plC m n b).toArray,Rb b2 94 ((List.replicate 64 (0:Int)).map (Value.int .i64)).toArray,Rb b3 94 (q.map (Value.int .i64)).toArray]) (0,List.replicate 64 0) ⟨rfl,trivial⟩ ⟨by omega,by simp,rfl,hH⟩ ?_
 rintro ⟨k,q⟩ w' σ ⟨hk,hql,hq,hH⟩ IH
 show WS _ _ _ _ _ (updL [(9,.int .i64 k)] _) _
 by_cases hlt:k<64
 ·have hB:=hH.b 0 rfl
  repeat (first|refine WS_seq ?_|refine WS_region ?_|refine WL_nil ?_|refine WS_block ?_|refine WS_skip ?_|refine WS_yes rfl (by omega) ?_|(refine WL_r (by first|refine k_loadA rfl hB rfl (Ty.shp rfl)|refine Run_pev rfl|refine k_add64 rfl rfl (by omega)|refine k_quo64 rfl rfl (by omega)|refine k_rem rfl rfl (by omega)) rfl ?_))
  refine WL_s (S_call ((plat_spec (m:=m) (n:=n) (b:=b) (x:=x) hm hn (hS.ext0 hH.ext))) rfl rfl ?_)
  rintro _ w4 ⟨rfl,hE⟩
  replace hH:=hH.ext0 hE
  replace hH:=nn3 hH
  clear hB
  repeat ((refine WL_r (by first|refine k_ixa1 rfl rfl (Ty.arr rfl) (by omega)|refine k_convI rfl rfl rfl (by omega)) rfl ?_))
  refine WL_s (H_storeB 2 (v:=.int .i64 x) hH rfl rfl rfl (by simp;omega) rfl (Ty.shp rfl) ?_)
  clear hH
  intro w5 hH
  replace hH:=nn3 hH
  rw [← List.map_set] at hH
  repeat (first|refine WS_region ?_|refine WL_nil ?_|refine WS_inBlock ?_|(refine WL_r (by first|refine Run_pev rfl|refine k_add64 rfl rfl (by omega)) rfl ?_))
  refine IH (k+1,q.set k x) _ _ ?_ ?_ ?_ ?_
  ·simp only;omega
  ·exact ⟨rfl,trivial⟩
  ·repeat first|with_reducible apply Agr.refl|refine Agr.upd rfl ?_|refine Agr.updL rfl ?_|refine Agr.mrg rfl ?_
  ·exact ⟨by omega,by rw [List.length_set];exact hql,by rw [List.take_add_one,List.take_set_of_le (Nat.le_refl k),hq,List.getElem?_set_self (by omega),List.replicate_succ'];rfl,hH⟩
 ·obtain rfl:k=64:=by omega
  have e:q=List.replicate 64 (x:Int):=by rw [← hq,List.take_of_length_le (by omega)]
  subst e
  have hB:=hH.b 2 rfl
  repeat (first|refine WS_seq ?_|refine WS_region ?_|refine WL_nil ?_|refine WS_exit rfl ?_|refine WS_false rfl ?_|(refine WL_r (by first|refine k_loadA rfl hB (by simp) (Ty.shp rfl)|refine Run_pev rfl) rfl ?_))
  refine WL_s (H_storeA 1 (vs:=((List.replicate 64 (x:Int)).map (Value.int .i64)).toArray) (s:=64) hH rfl rfl rfl (by simp) (by simp) ints_one (Ty.shp rfl) ?_)
  clear hH
  intro w9 hH
  replace hH:=nn3 hH
  repeat (refine WL_nil ?_)
  exact WS_retc1 Tryz.func115 rfl rfl (hH.b 1 rfl) (by simp) (Ty.shp rfl) ⟨rfl,hH.ext⟩
end Go.Proofs.YtpbiicegmcpkpaaGreat
namespace Go.Proofs.YtpbiicegmcpkpaaGreat
open Go Go.K Go.P Go.RowKit Go.Proofs
def bX (c mb k:Nat):Nat:=if k<4 then 16*(mb % c)+8*(k % 2) else 8*(mb % c)
def bY (c mb k:Nat):Nat:=if k<4 then 16*(mb / c)+8*(k / 2) else 8*(mb / c)
set_option maxRecDepth 20000 in
set_option maxHeartbeats 4000000 in
theorem fblock_spec {c mb k:Nat} {r y0 y1 y2 u0 u1 u2 v0 v1 v2:Value} {w:World} (hc:1≤c∧c≤1000) (hmb:mb≤1000) (hk:k<6) (h1:∀ v∈[y0,y1,y2,u0,u1,u2,v0,v1,v2],v.oneCell'=true) :
  Does Tryz.prog 78 #[.agg #[.int .i64 c,r,y0,y1,y2,u0,u1,u2,v0,v1,v2],.int .i64 mb,.int .i64 k] w fun v w'=>v=.tuple #[.agg (if k<4 then #[y0,y1,y2] else if k=4 then #[u0,u1,u2] else #[v0,v1,v2]),.int .i64 (bX c mb k:Nat),.int .i64 (bY c mb k:Nat)]∧Ext [] w w':=by
 refine Does_of (args:=[_,_,_]) Tryz.func78 rfl rfl Tryz.ntmps78 rfl ?_
 have hH:=Hp.start w
 repeat (first|refine WS_seq ?_|refine WS_region ?_)
 refine WL_s (H_box (cs:=#[.int .i64 c,r,y0,y1,y2,u0,u1,u2,v0,v1,v2]) hH rfl rfl rfl ?_)
 try clear hH
 intro w1 b1 hH
 replace hH:=nn1 hH
 refine WL_s (H_alloc hH (Ty.zer rfl) rfl ?_)
 try clear hH
 intro w2 b2 hH
 replace hH:=nn2 hH
 have hB:=hH.b 0 rfl
 have e1:max (c:Int) 1=c:=by omega
 obtain ⟨M,hM⟩:∃ M,mb % c=M:=⟨_,rfl⟩
 obtain ⟨D,hD⟩:∃ D,mb / c=D:=⟨_,rfl⟩
 have e4:M<c:=hM▸Nat.mod_lt _ (by omega)
 have e5:D≤mb:=hD▸Nat.div_le_self _ _
 repeat (first|refine WS_seq ?_|refine WS_region ?_|refine WL_nil ?_|(refine WL_r (by first|refine k_fa rfl (Ty.fld rfl rfl)|refine k_loadb rfl hB rfl (Ty.shp rfl)|refine (k_max rfl rfl).is (congrArg (Value.int .i64) e1)|refine Run_pev rfl) rfl ?_))
 refine WS_drawE Ty.mixed 8 rfl (fun w1 hx1=>?_)
 refine wp 0 hx1 rfl rfl rfl rfl ?_
 refine wp 1 hx1 rfl rfl rfl rfl ?_
 refine wt 2 hx1 rfl rfl rfl (fun w' hw'=>by refine (k_remu (m:=mb) (n:=c) rfl rfl (by omega)).is (congrArg (fun n:Nat=>Value.int .i64 n) hM)) ?_
 refine wp 3 hx1 rfl rfl rfl rfl ?_
 refine wp 4 hx1 rfl rfl rfl rfl ?_
 refine wt 5 hx1 rfl rfl rfl (fun w' hw'=>by refine (k_quou (m:=mb) (n:=c) rfl rfl (by omega) (fiti (by omega))).is (congrArg (fun n:Nat=>Value.int .i64 n) hD)) ?_
 refine wp 6 hx1 rfl rfl rfl rfl ?_
 refine wp 7 hx1 rfl rfl rfl rfl ?_
 refine WA_done (by kernel_rfl) ?_
 replace hH:=hH.ext0 hx1
 clear hB
 have hS:=(hH.b 0 rfl).sl0
 unfold bX bY
 rw [hM,hD]
 have h3:∀ {u v w:Value},u.oneCell'=true→v.oneCell'=true→w.oneCell'=true→∀ x∈(#[u,v,w]:Array Value).toList,x.oneCell'=true:=by
  intro u v w hu hv hw x hx
  simp at hx
  rcases hx with rfl|rfl|rfl<;>assumption
 rcases (show k<4∨k=4∨k=5 by omega) with h4|rfl|rfl
 ·repeat (first|refine WS_seq ?_|refine WS_region ?_|refine WL_nil ?_|refine WS_block ?_|refine WS_yes rfl (by omega) ?_|(refine WL_r (by first|refine k_fa rfl (Ty.fld rfl rfl)|refine k_loadC (j:=2) (cs:=[y0,y1,y2]) rfl hS rfl rfl (Ty.shp rfl)|refine Run_pev rfl|refine k_add64 rfl rfl (by omega)|refine k_mul64 rfl rfl (by omega)|refine k_quo64 rfl rfl (by omega)|refine k_rem rfl rfl (by omega)) rfl ?_))
  refine WL_s (H_storeA 1 (vs:=#[y0,y1,y2]) (s:=3) hH rfl rfl rfl rfl rfl (h3 (h1 _ (by simp)) (h1 _ (by simp)) (h1 _ (by simp))) (Ty.shp rfl) ?_)
  clear hH hS
  intro w5 hH
  replace hH:=nn2 hH
  repeat (first|refine WL_nil ?_|refine lp rfl rfl ?_)
  refine WS_retc3 Tryz.func78 rfl rfl (hH.b 1 rfl) rfl (Ty.shp rfl) ⟨?_,hH.ext⟩
  rw [if_pos h4,if_pos h4,if_pos h4]
  rfl
 ·repeat (first|refine WS_seq ?_|refine WS_region ?_|refine WL_nil ?_|refine WS_block ?_|refine WS_true rfl ?_|refine WS_false rfl ?_|(refine WL_r (by first|refine k_fa rfl (Ty.fld rfl rfl)|refine k_loadC (j:=5) (cs:=[u0,u1,u2]) rfl hS rfl rfl (Ty.shp rfl)|refine Run_pev rfl|refine k_mul64 rfl rfl (by omega)) rfl ?_))
  refine WL_s (H_storeA 1 (vs:=#[u0,u1,u2]) (s:=3) hH rfl rfl rfl rfl rfl (h3 (h1 _ (by simp)) (h1 _ (by simp)) (h1 _ (by simp))) (Ty.shp rfl) ?_)
  clear hH hS
  intro w5 hH
  replace hH:=nn2 hH
  repeat (first|refine WL_nil ?_|refine lp rfl rfl ?_)
  exact WS_retc3 Tryz.func78 rfl rfl (hH.b 1 rfl) rfl (Ty.shp rfl) ⟨rfl,hH.ext⟩
 ·repeat (first|refine WS_seq ?_|refine WS_region ?_|refine WL_nil ?_|refine WS_block ?_|refine WS_inBlock ?_|refine WS_skip ?_|refine WS_false rfl ?_|(refine WL_r (by first|refine k_fa rfl (Ty.fld rfl rfl)|refine k_loadC (j:=8) (cs:=[v0,v1,v2]) rfl hS rfl rfl (Ty.shp rfl)|refine Run_pev rfl|refine k_mul64 rfl rfl (by omega)) rfl ?_))
  refine WL_s (H_storeA 1 (vs:=#[v0,v1,v2]) (s:=3) hH rfl rfl rfl rfl rfl (h3 (h1 _ (by simp)) (h1 _ (by simp)) (h1 _ (by simp))) (Ty.shp rfl) ?_)
  clear hH hS
  intro w5 hH
  replace hH:=nn2 hH
  repeat (first|refine WL_nil ?_|refine lp rfl rfl ?_)
  exact WS_retc3 Tryz.func78 rfl rfl (hH.b 1 rfl) rfl (Ty.shp rfl) ⟨rfl,hH.ext⟩
end Go.Proofs.YtpbiicegmcpkpaaGreat
