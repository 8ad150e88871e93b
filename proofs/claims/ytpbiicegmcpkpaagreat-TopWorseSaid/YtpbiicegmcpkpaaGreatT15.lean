/- A part of the proof that TopWorse is true at every input; no condition. -/
import Derived.Test.YtpbiicegmcpkpaaGreatT09
import Derived.Test.YtpbiicegmcpkpaaGreatT10
import Derived.Test.YtpbiicegmcpkpaaGreatT11
namespace Go.Proofs.YtpbiicegmcpkpaaGreat
open Go Go.K Go.P Go.RowKit Go.Proofs
theorem map_B_at {A:List Nat} {i:Nat} (h:i<A.length):(A.map B)[i]?=some (B A[i]):=by simp [h]
theorem tc_sl {w:World} {b o:Nat} {h:SH} (ho:h.ok) (hS:SlA w (some ⟨b,o,none⟩) h.tc):w.cell? ⟨b,o,none⟩=some (.bool h.wt)∧SlA w (some ⟨b,o+1,none⟩) (h.A.map B)∧SlA w (some ⟨b,o+65,none⟩) (h.Bb.map B):=by
 refine ⟨by simpa [At] using hS.cell 0 (.bool h.wt) rfl,⟨fun j v hj=>?_,fun _=>⟨b,_,rfl⟩⟩,⟨fun j v hj=>?_,fun _=>⟨b,_,rfl⟩⟩⟩
 ·have hl:j<(h.A.map B).length:=(List.getElem?_eq_some_iff.1 hj).1
  have:=hS.cell (j+1) v (by rw [SH.tc,List.getElem?_cons_succ,List.getElem?_append_left hl];exact hj)
  simp only [At,Option.getD_some] at this ⊢
  rwa [show o+1+j=o+(j+1) by omega]
 ·have:=hS.cell (j+65) v (by rw [SH.tc,show j+65=j+64+1 by omega,List.getElem?_cons_succ,List.getElem?_append_right (by simp [ho.la])];simpa [ho.la] using hj)
  simp only [At,Option.getD_some] at this ⊢
  rwa [show o+65+j=o+(j+65) by omega]
theorem cells_tc {h:SH} (ho:h.ok):(h.cells.drop 2).take 129=h.tc:=List.take_of_length_le (by simp [SH.cells,SH.tc_len ho])
theorem tc_one (h:SH):∀ v∈h.tc,v.oneCell'=true:=by
 intro v hv
 simp only [SH.tc,List.mem_cons,List.mem_append,List.mem_map] at hv
 rcases hv with rfl|⟨x,_,rfl⟩|⟨x,_,rfl⟩<;>rfl
theorem cells_one (h:SH):∀ v∈h.cells.toArray.toList,v.oneCell'=true:=by
 intro v hv
 simp only [SH.cells,List.mem_cons] at hv
 rcases hv with rfl|rfl|hv
 ·rfl
 ·rfl
 ·exact tc_one h v hv
def okT (wt:Bool) (x:Nat):Prop:=if wt=true then 8≤x else x=0
theorem terr_bad {h:SH} {x:Nat} (hx:x∈h.A++h.Bb) (hb:¬ okT h.wt x):terr h.wt (h.A++h.Bb)=if h.wt=true then 2 else 4:=by
 unfold okT at hb
 unfold terr
 cases hw:h.wt with
 | true =>
  simp only [hw,if_true] at hb ⊢
  rw [if_pos ⟨x,hx,by omega⟩]
 | false =>
  simp only [hw,Bool.false_eq_true,if_false] at hb ⊢
  rw [if_pos ⟨x,hx,hb⟩]
theorem terr_all {wt:Bool} {t:List Nat} (h:∀ x∈t,okT wt x):terr wt t=0:=by
 unfold okT at h
 unfold terr
 cases wt with
 | true =>
  simp only [if_true] at h ⊢
  rw [if_neg (fun ⟨x,hx,hl⟩=>by have:=h x hx;omega)]
 | false =>
  simp only [Bool.false_eq_true,if_false] at h ⊢
  rw [if_neg (fun ⟨x,hx,hl⟩=>hl (h x hx))]
set_option maxHeartbeats 2000000 in
theorem tcheck_spec {h:SH} (ho:h.ok) {w:World}:Does Tryz.prog 81 #[.agg h.tc.toArray] w fun v w'=>v=.int .i64 (terr h.wt (h.A++h.Bb):Nat)∧Ext [] w w':=by
 refine Does_of (args:=[_]) Tryz.func81 rfl rfl Tryz.ntmps81 rfl ?_
 have hH:=Hp.start w
 repeat (first|refine WS_seq ?_|refine WS_region ?_)
 refine WL_s (H_box (cs:=h.tc.toArray) hH rfl rfl rfl ?_)
 try clear hH
 intro w1 b hH
 have hB:Blk w1 b 24 h.tc.toArray:=hH.b 0 rfl
 obtain ⟨_,hSA,hSB⟩:=tc_sl ho hB.sl0
 have hla:=ho.la
 have hlb:=ho.lb
 have hW1:Ext [] w w1:=hH.ext
 obtain ⟨c,r,wt,A,Bb⟩:=h
 simp only at hla hlb hSA hSB
 repeat (first|refine WS_seq ?_|refine WS_region ?_|refine WL_nil ?_|refine WS_block ?_|refine lp rfl rfl ?_)
 refine WS_loop (G:=(Nat)) (fun i=>64-i) 8796093022204 (fun i=>[(4,.int .i64 i)]) (fun i w'=>i≤64∧Ext [] w1 w'∧∀ x∈A.take i++Bb.take i,okT wt x) (0) ⟨rfl,trivial⟩ ⟨by omega,.refl,by simp⟩ ?_
 rintro i w' σ ⟨hi,hW,hok⟩ IH
 show WS _ _ _ _ _ (updL [(4,.int .i64 i)] _) _
 by_cases hlt:i<64
 ·have hvA:=map_B_at (A:=A) (i:=i) (by omega)
  have hvB:=map_B_at (A:=Bb) (i:=i) (by omega)
  have hxA:A[i]'(by omega)∈A++Bb:=List.mem_append_left _ (List.getElem_mem _)
  have hxB:Bb[i]'(by omega)∈A++Bb:=List.mem_append_right _ (List.getElem_mem _)
  have hnx:okT wt (A[i]'(by omega))→okT wt (Bb[i]'(by omega))→∀ x∈A.take (i+1)++Bb.take (i+1),okT wt x:=by
   intro h1 h2 x hx
   rw [List.take_succ_eq_append_getElem (by omega),List.take_succ_eq_append_getElem (by omega)] at hx
   simp only [List.mem_append,List.mem_singleton] at hx
   rcases hx with (hx|rfl)|hx|rfl
   ·exact hok x (List.mem_append_left _ hx)
   ·exact h1
   ·exact hok x (List.mem_append_right _ hx)
   ·exact h2
  generalize A[i]'(by omega)=xA at *
  generalize Bb[i]'(by omega)=xB at *
  cases wt with
  | true =>
   by_cases k1:xA<8
   ·skip
    repeat (first|refine WS_seq ?_|refine WS_region ?_|refine WL_nil ?_|refine WS_block ?_|refine WS_skip ?_|refine WS_true rfl ?_|refine WS_yes rfl (by omega) ?_|refine WL_gyes rfl rfl rfl ?_|refine WL_gno (b:=true) rfl rfl (dT (by omega)) rfl rfl ?_|(refine WL_r (by first|refine k_fa rfl (Ty.fld rfl rfl)|refine k_ixa1 rfl rfl (Ty.arr rfl) (by omega)|refine k_loads rfl (hSA.ext0 hW) hvA (Ty.shp rfl)|refine k_loadb rfl (hB.ext0 hW) rfl (Ty.shp rfl)|refine Run_pev rfl|refine k_pick_t (dT (by omega)) rfl) rfl ?_))
    exact WS_ret1 Tryz.func81 rfl ⟨by rw [terr_bad (h:=⟨c,r,true,A,Bb⟩) hxA (by unfold okT;simp;omega)];rfl,hW1.then0 hW⟩
   by_cases k2:xB<8
   ·skip
    repeat (first|refine WS_seq ?_|refine WS_region ?_|refine WL_nil ?_|refine WS_block ?_|refine WS_skip ?_|refine WS_yes rfl (by omega) ?_|refine WL_gyes rfl rfl rfl ?_|refine WL_gyes rfl rfl (dF (by omega)) ?_|(refine WL_r (by first|refine k_fa rfl (Ty.fld rfl rfl)|refine k_ixa1 rfl rfl (Ty.arr rfl) (by omega)|refine k_loads rfl (hSA.ext0 hW) hvA (Ty.shp rfl)|refine k_loads rfl (hSB.ext0 hW) hvB (Ty.shp rfl)|refine k_loadb rfl (hB.ext0 hW) rfl (Ty.shp rfl)|refine Run_pev rfl|refine k_pick_f (dF (by omega)) rfl) rfl ?_))
    exact WS_ret1 Tryz.func81 rfl ⟨by rw [terr_bad (h:=⟨c,r,true,A,Bb⟩) hxB (by unfold okT;simp;omega)];rfl,hW1.then0 hW⟩
   have hk1:=hnx (by unfold okT;simp;omega) (by unfold okT;simp;omega)
   repeat (first|refine WS_seq ?_|refine WS_region ?_|refine WL_nil ?_|refine WS_block ?_|refine WS_inBlock ?_|refine WS_skip ?_|refine WS_false rfl ?_|refine WS_yes rfl (by omega) ?_|refine WS_no rfl (by omega) ?_|refine WL_gyes rfl rfl rfl ?_|refine WL_gno rfl rfl rfl rfl rfl ?_|refine WL_gund rfl rfl rfl ?_|refine WL_gyes rfl rfl (dF (by omega)) ?_|(refine WL_r (by first|refine k_fa rfl (Ty.fld rfl rfl)|refine k_ixa1 rfl rfl (Ty.arr rfl) (by omega)|refine k_loads rfl (hSA.ext0 hW) hvA (Ty.shp rfl)|refine k_loads rfl (hSB.ext0 hW) hvB (Ty.shp rfl)|refine k_loadb rfl (hB.ext0 hW) rfl (Ty.shp rfl)|refine Run_pev rfl|refine k_add64 rfl rfl (by omega)|refine k_pick_f (dF (by omega)) rfl) rfl ?_))
   refine IH (i+1) _ _ ?_ ?_ ?_ ?_
   ·omega
   ·exact ⟨rfl,trivial⟩
   ·repeat first|with_reducible apply Agr.refl|refine Agr.upd rfl ?_|refine Agr.updL rfl ?_|refine Agr.mrg rfl ?_
   ·exact ⟨by omega,hW,hk1⟩
  | false =>
   by_cases k1:xA=0
   ·by_cases k2:xB=0
    ·skip
     have hk1:=hnx (by unfold okT;simp;omega) (by unfold okT;simp;omega)
     repeat (first|refine WS_seq ?_|refine WS_region ?_|refine WL_nil ?_|refine WS_block ?_|refine WS_inBlock ?_|refine WS_skip ?_|refine WS_false rfl ?_|refine WS_yes rfl (by omega) ?_|refine WL_gyes rfl rfl rfl ?_|refine WL_gno rfl rfl rfl rfl rfl ?_|refine WL_gund rfl rfl rfl ?_|(refine WL_r (by first|refine k_fa rfl (Ty.fld rfl rfl)|refine k_ixa1 rfl rfl (Ty.arr rfl) (by omega)|refine k_loads rfl (hSA.ext0 hW) hvA (Ty.shp rfl)|refine k_loads rfl (hSB.ext0 hW) hvB (Ty.shp rfl)|refine k_loadb rfl (hB.ext0 hW) rfl (Ty.shp rfl)|refine (k_neq rfl rfl).is (bF (by omega))|refine Run_pev rfl|refine k_add64 rfl rfl (by omega)) rfl ?_))
     refine IH (i+1) _ _ ?_ ?_ ?_ ?_
     ·omega
     ·exact ⟨rfl,trivial⟩
     ·repeat first|with_reducible apply Agr.refl|refine Agr.upd rfl ?_|refine Agr.updL rfl ?_|refine Agr.mrg rfl ?_
     ·exact ⟨by omega,hW,hk1⟩
    ·skip
     repeat (first|refine WS_seq ?_|refine WS_region ?_|refine WL_nil ?_|refine WS_block ?_|refine WS_skip ?_|refine WS_true rfl ?_|refine WS_false rfl ?_|refine WS_yes rfl (by omega) ?_|refine WL_gyes rfl rfl rfl ?_|refine WL_gno rfl rfl rfl rfl rfl ?_|refine WL_gund rfl rfl rfl ?_|(refine WL_r (by first|refine k_fa rfl (Ty.fld rfl rfl)|refine k_ixa1 rfl rfl (Ty.arr rfl) (by omega)|refine k_loads rfl (hSA.ext0 hW) hvA (Ty.shp rfl)|refine k_loads rfl (hSB.ext0 hW) hvB (Ty.shp rfl)|refine k_loadb rfl (hB.ext0 hW) rfl (Ty.shp rfl)|refine (k_neq rfl rfl).is (bT (by omega))|refine (k_neq rfl rfl).is (bF (by omega))|refine Run_pev rfl) rfl ?_))
     exact WS_ret1 Tryz.func81 rfl ⟨by rw [terr_bad (h:=⟨c,r,false,A,Bb⟩) hxB (by unfold okT;simp;omega)];rfl,hW1.then0 hW⟩
   ·skip
    repeat (first|refine WS_seq ?_|refine WS_region ?_|refine WL_nil ?_|refine WS_block ?_|refine WS_skip ?_|refine WS_true rfl ?_|refine WS_false rfl ?_|refine WS_yes rfl (by omega) ?_|refine WL_gyes rfl rfl rfl ?_|refine WL_gno rfl rfl rfl rfl rfl ?_|refine WL_gund rfl rfl rfl ?_|(refine WL_r (by first|refine k_fa rfl (Ty.fld rfl rfl)|refine k_ixa1 rfl rfl (Ty.arr rfl) (by omega)|refine k_loads rfl (hSA.ext0 hW) hvA (Ty.shp rfl)|refine k_loadb rfl (hB.ext0 hW) rfl (Ty.shp rfl)|refine (k_neq rfl rfl).is (bT (by omega))|refine Run_pev rfl) rfl ?_))
    exact WS_ret1 Tryz.func81 rfl ⟨by rw [terr_bad (h:=⟨c,r,false,A,Bb⟩) hxA (by unfold okT;simp;omega)];rfl,hW1.then0 hW⟩
 ·obtain rfl:i=64:=by omega
  repeat (first|refine WS_seq ?_|refine WS_region ?_|refine WL_nil ?_|refine WS_exit rfl ?_|refine WS_false rfl ?_|refine lp rfl rfl ?_)
  rw [List.take_of_length_le (by omega),List.take_of_length_le (by omega)] at hok
  exact WS_ret1 Tryz.func81 rfl ⟨by rw [terr_all hok];rfl,hW1.then0 hW⟩
theorem hcheck_spec {h:SH} (ho:h.ok) {w:World}:Does Tryz.prog 46 #[.agg h.cells.toArray] w fun v w'=>v=.int .i64 (h.err:Nat)∧Ext [] w w':=by
 refine Does_of (args:=[_]) Tryz.func46 rfl rfl Tryz.ntmps46 rfl ?_
 have hH:=Hp.start w
 repeat (first|refine WS_seq ?_|refine WS_region ?_)
 refine WL_s (H_box (cs:=h.cells.toArray) hH rfl rfl rfl ?_)
 try clear hH
 intro w1 b hH
 have hB:Blk w1 b 26 h.cells.toArray:=hH.b 0 rfl
 have hS:SlA w1 (some ⟨b,0,none⟩) h.cells:=hB.sl0
 have htc:=cells_tc ho
 have htl:=SH.tc_len ho
 obtain ⟨c,r,wt,A,Bb⟩:=h
 by_cases k1:c<1
 ·skip
  repeat (first|refine WS_seq ?_|refine WS_region ?_|refine WL_nil ?_|refine WS_true rfl ?_|refine WL_gno rfl rfl rfl rfl rfl ?_|refine WL_gno (b:=true) rfl rfl (dT (by omega)) rfl rfl ?_|(refine WL_r (by first|refine k_fa rfl (Ty.fld rfl rfl)|refine k_loadb rfl hB rfl (Ty.shp rfl)|refine Run_pev rfl|refine k_pick_t (dT (by omega)) rfl) rfl ?_))
  exact WS_ret1 Tryz.func46 rfl ⟨congrArg (fun n:Nat=>Value.int .i64 (n:Int)) (show _=SH.err ⟨c,r,wt,A,Bb⟩ by unfold SH.err;rw [if_pos (.inl k1)]),hH.ext⟩
 by_cases k2:8<c
 ·skip
  repeat (first|refine WS_seq ?_|refine WS_region ?_|refine WL_nil ?_|refine WS_true rfl ?_|refine WL_gno rfl rfl rfl rfl rfl ?_|refine WL_gyes rfl rfl (dF (by omega)) ?_|refine WL_gno (b:=true) rfl rfl (dT (by omega)) rfl rfl ?_|(refine WL_r (by first|refine k_fa rfl (Ty.fld rfl rfl)|refine k_loadb rfl hB rfl (Ty.shp rfl)|refine Run_pev rfl|refine k_pick_f (dF (by omega)) rfl|refine k_pick_t (dT (by omega)) rfl) rfl ?_))
  exact WS_ret1 Tryz.func46 rfl ⟨congrArg (fun n:Nat=>Value.int .i64 (n:Int)) (show _=SH.err ⟨c,r,wt,A,Bb⟩ by unfold SH.err;rw [if_pos (.inr (.inl k2))]),hH.ext⟩
 by_cases k3:r<1
 ·skip
  repeat (first|refine WS_seq ?_|refine WS_region ?_|refine WL_nil ?_|refine WS_true rfl ?_|refine WL_gyes rfl rfl (dF (by omega)) ?_|refine WL_gno (b:=true) rfl rfl (dT (by omega)) rfl rfl ?_|(refine WL_r (by first|refine k_fa rfl (Ty.fld rfl rfl)|refine k_loadb rfl hB rfl (Ty.shp rfl)|refine Run_pev rfl|refine k_pick_f (dF (by omega)) rfl|refine k_pick_t (dT (by omega)) rfl) rfl ?_))
  exact WS_ret1 Tryz.func46 rfl ⟨congrArg (fun n:Nat=>Value.int .i64 (n:Int)) (show _=SH.err ⟨c,r,wt,A,Bb⟩ by unfold SH.err;rw [if_pos (.inr (.inr (.inl k3)))]),hH.ext⟩
 by_cases k4:8<r
 ·skip
  repeat (first|refine WS_seq ?_|refine WS_region ?_|refine WL_nil ?_|refine WS_yes rfl (by omega) ?_|refine WL_gyes rfl rfl (dF (by omega)) ?_|(refine WL_r (by first|refine k_fa rfl (Ty.fld rfl rfl)|refine k_loadb rfl hB rfl (Ty.shp rfl)|refine Run_pev rfl|refine k_pick_f (dF (by omega)) rfl) rfl ?_))
  exact WS_ret1 Tryz.func46 rfl ⟨congrArg (fun n:Nat=>Value.int .i64 (n:Int)) (show _=SH.err ⟨c,r,wt,A,Bb⟩ by unfold SH.err;rw [if_pos (.inr (.inr (.inr k4)))]),hH.ext⟩
 repeat (first|refine WS_seq ?_|refine WS_region ?_|refine WL_nil ?_|refine WS_skip ?_|refine WS_no rfl (by omega) ?_|refine WL_gyes rfl rfl (dF (by omega)) ?_|(refine WL_r (by first|refine k_fa rfl (Ty.fld rfl rfl)|refine k_loadb rfl hB rfl (Ty.shp rfl)|refine k_loadC (j:=2) rfl hS htc htl (Ty.shp rfl)|refine Run_pev rfl|refine k_pick_f (dF (by omega)) rfl) rfl ?_))
 refine WL_s (S_call (tcheck_spec ho) rfl rfl ?_)
 rintro v w2 ⟨rfl,hE⟩
 repeat (first|refine WL_nil ?_|refine lp rfl rfl ?_)
 refine WS_ret1 Tryz.func46 rfl ⟨?_,hH.ext.then0 hE⟩
 rw [show SH.err ⟨c,r,wt,A,Bb⟩=terr wt (A++Bb) by unfold SH.err;rw [if_neg (by simp only;omega)]]
 rfl
end Go.Proofs.YtpbiicegmcpkpaaGreat
namespace Go.Proofs.YtpbiicegmcpkpaaGreat
open Go Go.K Go.P Go.RowKit Go.Proofs
theorem lit2 {ρ:Fr} {x y:Operand} {sz:Nat} {cs ds:List Value} (hx:ev ρ x=.agg cs.toArray) (hy:ev ρ y=.agg ds.toArray) (h1:cs.length=sz) (h2:ds.length=sz):litCells ρ sz 0 [(0,x),(1,y)]=some (cs++ds):=by
 simp [litCells,hx,hy,Value.cells,h1,h2]
theorem tab_part {A Bb:List Nat} {k:Nat} (ha:A.length=64) (hb:Bb.length=64) (hk:k<2):(((A++Bb).drop (64*k)).take 64).length=64∧(((A.map B++Bb.map B).drop (k*64)).take 64)=(((A++Bb).drop (64*k)).take 64).map B:=by
 refine ⟨by simp [ha,hb];omega,?_⟩
 rw [← List.map_append,List.map_take,List.map_drop,Nat.mul_comm]
theorem tb_next {T:List Nat} {m:Nat} (h:m<T.length):tb (T.take (m+1))=tb (T.take m)++nb T[m] 8:=by
 rw [List.take_succ_eq_append_getElem h,tb_snoc]
set_option maxRecDepth 20000 in
set_option maxHeartbeats 8000000 in
theorem hput_spec {h:SH} (ho:h.ok) (he:h.err=0) {w:World}:Does Tryz.prog 37 #[.agg h.cells.toArray] w fun v w'=>∃ a' c',v=.tuple #[.slice a' h.out.length c',.int .i64 0]∧New (RBy a' c' h.out) w w':=by
 refine Does_of (args:=[_]) Tryz.func37 rfl rfl Tryz.ntmps37 rfl ?_
 have hH:=Hp.start w
 repeat (first|refine WS_seq ?_|refine WS_region ?_)
 refine WL_s (H_box (cs:=h.cells.toArray) hH rfl rfl rfl ?_)
 try clear hH
 intro w1 b1 hH
 have hB:Blk w1 b1 26 h.cells.toArray:=hH.b 0 rfl
 repeat (first|refine WS_seq ?_|refine WS_region ?_|refine WL_nil ?_|(refine WL_r (by first|refine k_loadA rfl hB (SH.cells_len ho) (Ty.shp rfl)|refine Run_pev rfl) rfl ?_))
 refine WL_s (S_call (hcheck_spec ho) rfl rfl ?_)
 rintro v w2 ⟨rfl,hE⟩
 replace hH:=hH.ext0 hE
 clear hB
 obtain ⟨hk1,hk2,_⟩:=SH.good he
 have hla:=ho.la
 have hlb:=ho.lb
 have hba:=ho.ba
 have hbb:=ho.bb
 rw [he]
 obtain ⟨c,r,wt,A,Bb⟩:=h
 simp only at hk1 hk2 hla hlb hba hbb
 obtain ⟨c,rfl⟩:=Int.eq_ofNat_of_zero_le (show 0≤c by omega)
 obtain ⟨r,rfl⟩:=Int.eq_ofNat_of_zero_le (show 0≤r by omega)
 repeat (first|refine WS_seq ?_|refine WS_region ?_|refine WL_nil ?_|refine WS_skip ?_|refine WS_false rfl ?_|(refine WL_r (by first|refine k_buildS (cs:=[.slice none 0 0,.int .i64 0]) (Ty.zer rfl) (Ty.plc rfl) rfl|refine Run_pev rfl) rfl ?_))
 refine WL_s (H_box hH rfl rfl rfl ?_)
 try clear hH
 intro w3 q hH
 replace hH:Hp [] w w3 [Rb b1 26 (SH.cells ⟨(c:Nat),(r:Nat),wt,A,Bb⟩).toArray,Rw q none 0 []]:=hH.as 1 rfl (fun x hx=>by simpa [Rw,sep,Rb,RBy,Ro,blk] using hx) (fun hB=>⟨hB,Own.nil,fun _ _ hb=>by simp [RBy,Ro,blk] at hb⟩)
 have hB:Blk _ b1 26 (SH.cells ⟨(c:Nat),(r:Nat),wt,A,Bb⟩).toArray:=hH.b 0 rfl
 repeat (first|refine WS_seq ?_|refine WS_region ?_|refine WL_nil ?_|(refine WL_r (by first|refine k_fa rfl (Ty.fld rfl rfl)|refine k_loadb rfl hB rfl (Ty.shp rfl)|refine Run_pev rfl|refine k_conv64 rfl rfl rfl (by omega)) rfl ?_))
 refine WL_s (S_call (wput_spec (n:=c) (s:=8) (by omega) (by decide) (by simp) (hH.at 1 rfl)) rfl rfl ?_)
 rintro v w4 ⟨rfl,a4,c4,hU⟩
 replace hH:=hH.up 1 rfl hU
 clear hU
 replace hH:=nn2 hH
 have hB:Blk _ b1 26 (SH.cells ⟨(c:Nat),(r:Nat),wt,A,Bb⟩).toArray:=hH.b 0 rfl
 repeat (first|refine WS_seq ?_|refine WS_region ?_|refine WL_nil ?_|(refine WL_r (by first|refine k_fa rfl (Ty.fld rfl rfl)|refine k_loadb rfl hB rfl (Ty.shp rfl)|refine Run_pev rfl|refine k_conv64 rfl rfl rfl (by omega)) rfl ?_))
 refine WL_s (S_call (wput_spec (n:=r) (s:=8) (by omega) (by decide) (by simp [nb_len]) (hH.at 1 rfl)) rfl rfl ?_)
 rintro v w5 ⟨rfl,a5,c5,hU⟩
 replace hH:=hH.up 1 rfl hU
 clear hU
 replace hH:=nn2 hH
 have hB:Blk _ b1 26 (SH.cells ⟨(c:Nat),(r:Nat),wt,A,Bb⟩).toArray:=hH.b 0 rfl
 repeat (first|refine WS_seq ?_|refine WS_region ?_|refine WL_nil ?_|(refine WL_r (by first|refine k_fa rfl (Ty.fld rfl rfl)|refine k_loadb rfl hB rfl (Ty.shp rfl)|refine Run_pev rfl) rfl ?_))
 refine WL_s (S_call (wflag_spec (b:=wt) (by simp [nb_len]) (hH.at 1 rfl)) rfl rfl ?_)
 rintro v w6 ⟨rfl,a6,c6,hU⟩
 replace hH:=hH.up 1 rfl hU
 clear hU
 replace hH:=nn2 hH
 have hbl:(SH.bits ⟨(c:Nat),(r:Nat),wt,A,Bb⟩).length≤2000:=by
  have:=tb_len (A++Bb)
  simp only [SH.bits,List.length_append,List.length_cons,nb_len]
  split
  ·rw [this,List.length_append];omega
  ·simp
 cases wt with
 | false =>
  rw [show []++nb c 8++nb r 8++[false]=SH.bits ⟨(c:Nat),(r:Nat),false,A,Bb⟩ by simp [SH.bits]] at hH
  have hB:Blk _ b1 26 (SH.cells ⟨(c:Nat),(r:Nat),false,A,Bb⟩).toArray:=hH.b 0 rfl
  repeat (first|refine WS_seq ?_|refine WS_region ?_|refine WL_nil ?_|refine WS_skip ?_|refine WS_false rfl ?_|(refine WL_r (by first|refine k_fa rfl (Ty.fld rfl rfl)|refine k_loadb rfl hB rfl (Ty.shp rfl)|refine Run_pev rfl) rfl ?_))
  skip
  refine WL_s (S_call (wdone_spec (hH.at 1 rfl) (by omega)) rfl rfl ?_)
  rintro v w8 ⟨a8,c8,rfl,hN⟩
  replace hH:=hH.nu hN
  clear hN
  replace hH:=nn3 hH
  rw [show pk (SH.bits ⟨(c:Nat),(r:Nat),false,A,Bb⟩++[true])=SH.body ⟨(c:Nat),(r:Nat),false,A,Bb⟩ from rfl] at hH ⊢
  have hby:=SH.body_byt ⟨(c:Nat),(r:Nat),false,A,Bb⟩
  have hbn:(SH.body ⟨(c:Nat),(r:Nat),false,A,Bb⟩).length≤131:=by rw [SH.body_len ho he];split<;>decide
  have hout:SH.out ⟨(c:Nat),(r:Nat),false,A,Bb⟩=[0,0,1,176]++escF 0 (endd (SH.body ⟨(c:Nat),(r:Nat),false,A,Bb⟩)):=rfl
  rw [hout]
  clear hout
  generalize (SH.body ⟨(c:Nat),(r:Nat),false,A,Bb⟩)=bd at *
  repeat (first|refine WS_seq ?_|refine WS_region ?_|refine WL_nil ?_|refine lp rfl rfl ?_)
  refine WL_s (H_lit (out:=[.slice a8 bd.length c8]) hH (Ty.sle rfl) (Ty.zer rfl) rfl rfl rfl (by decide) rfl ?_)
  try clear hH
  intro _ b62 hH
  replace hH:=nn4 hH
  skip
  refine WL_s (S_call (sum_one (hH.b 3 rfl) (hH.o 2 rfl).sl hby rfl (by omega)) rfl rfl ?_)
  rintro v w9 ⟨rfl,rfl⟩
  have hcl:=crc_lt bd
  rw [show crcAdd 65535 bd=crc bd from rfl]
  have hey:=endd_byt hby
  have hen:(endd bd).length=bd.length+3:=by simp [endd]
  have hem:bd.map B++[B (crc bd / 256),B (crc bd % 256),B 128]=(endd bd).map B:=by simp [endd]
  obtain ⟨cv,hcv⟩:∃ cv,cv=crc bd:=⟨_,rfl⟩
  rw [← hcv] at hcl hem ⊢
  replace hH:=hH.take 3
  replace hH:=nn3 hH
  repeat (first|refine WS_seq ?_|refine WS_region ?_|refine WL_nil ?_|(refine WL_r (by first|refine (k_shr (m:=cv) (n:=8) rfl rfl (fit16 (by omega))).is (congrArg (fun n:Nat=>Value.int .u16 (n:Int)) (show cv / 2 ^ 8=cv / 256 from rfl))|refine Run_pev rfl|refine k_conv8 rfl rfl rfl (by omega)|refine k_convB rfl rfl rfl) rfl ?_))
  refine WL_s (H_lit (out:=[B (cv / 256),B (cv % 256),B 128]) hH (Ty.sle rfl) (Ty.zer rfl) rfl rfl rfl (by decide) rfl ?_)
  try clear hH
  intro _ b70 hH
  replace hH:=nn4 hH
  skip
  refine WL_s (H_append 2 hH rfl (Ty.sle rfl) (Ty.zer rfl) rfl (Ty.byt rfl) (by decide) rfl rfl ((hH.b 3 rfl).sl0) rfl (by simp) (by omega) (by simp only [maxLen];omega) rfl ?_)
  clear hH
  intro w10 a10 c10 hH
  replace hH:=hH.take 3
  replace hH:=nn3 hH
  rw [show bd.length+3=(endd bd).length from hen.symm,hem] at hH
  rw [show bd.length+3=(endd bd).length from hen.symm]
  repeat (first|refine WS_seq ?_|refine WS_region ?_|refine WL_nil ?_|refine lp rfl rfl ?_)
  refine WL_s (S_call (marker_spec) rfl rfl ?_)
  rintro v w11 ⟨b11,rfl,hN⟩
  replace hH:=(hH.nu hN).as 3 rfl (r':=Ro 5 1 (some ⟨b11,0,none⟩) 3 3 [B 0,B 0,B 1]) (fun _ h=>h) (fun h=>(h:Blk _ _ _ _).own (n:=3) (sz:=1) rfl (by decide))
  clear hN
  replace hH:=nn4 hH
  skip
  refine WL_s (H_lit (out:=[B 176]) hH (Ty.sle rfl) (Ty.zer rfl) rfl rfl rfl (by decide) rfl ?_)
  try clear hH
  intro _ b73 hH
  replace hH:=nn5 hH
  skip
  refine WL_s (H_append 3 hH rfl (Ty.sle rfl) (Ty.zer rfl) rfl (Ty.byt rfl) (by decide) rfl rfl ((hH.b 4 rfl).sl0) rfl (by simp) (by omega) (by simp only [maxLen];omega) rfl ?_)
  clear hH
  intro w12 a12 c12 hH
  replace hH:=hH.take 4
  replace hH:=nn4 hH
  repeat (refine lp rfl rfl ?_)
  refine WL_s (S_call (put_spec (hH.o 2 rfl).sl hey rfl (by omega)) rfl rfl ?_)
  rintro v w13 ⟨a13,c13,rfl,hN⟩
  replace hH:=hH.nu hN
  clear hN
  replace hH:=nn5 hH
  have hfl:=escF_len (endd bd) 0
  generalize escF 0 (endd bd)=es at *
  have hel:(es.map B).length=es.length*1:=by simp
  have hone:∀ u∈es.map B,u.oneCell'=true:=fun u hu=>by obtain ⟨y,_,rfl⟩:=List.mem_map.1 hu;rfl
  skip
  refine WL_s (H_append 3 hH rfl (Ty.sle rfl) (Ty.zer rfl) rfl (Ty.byt rfl) (by decide) rfl rfl (hH.o 4 rfl).sl hel hone (by omega) (by simp only [maxLen];omega) rfl ?_)
  clear hH
  intro w14 a14 c14 hH
  replace hH:=nn5 hH
  have hol:3+1+es.length=([0,0,1,176]++es).length:=by simp;omega
  rw [hol] at hH
  rw [hol]
  repeat (first|refine WL_nil ?_|refine lp rfl rfl ?_)
  refine WS_ret2 Tryz.func37 rfl ⟨a14,c14,rfl,(hH.new1 3 rfl).as (fun _ h=>h) (fun h=>?_)⟩
  simpa [RBy,Ro] using h
 | true =>
  have hbx:([]++nb c 8++nb r 8++[true]).length=17:=by simp [nb_len]
  have hbz:[]++nb c 8++nb r 8++[true]++tb (A++Bb)=SH.bits ⟨(c:Nat),(r:Nat),true,A,Bb⟩:=by simp [SH.bits]
  generalize []++nb c 8++nb r 8++[true]=X at *
  have hB:Blk w6 b1 26 (SH.cells ⟨(c:Nat),(r:Nat),true,A,Bb⟩).toArray:=hH.b 0 rfl
  have hS2:SlA w6 (some ⟨b1,2,none⟩) (SH.tc ⟨(c:Nat),(r:Nat),true,A,Bb⟩):=hB.sl (fun j v hj=>by
   rw [Nat.add_comm 2 j];simpa [SH.cells] using hj)
  obtain ⟨_,hSA,hSB⟩:=tc_sl ho hS2
  have hAt:((A.map B).drop 0).take 64=A.map B:=by rw [List.drop_zero];exact List.take_of_length_le (by simp [hla])
  have hBt:((Bb.map B).drop 0).take 64=Bb.map B:=by rw [List.drop_zero];exact List.take_of_length_le (by simp [hlb])
  repeat (first|refine WS_seq ?_|refine WS_region ?_|refine WL_nil ?_|refine WS_true rfl ?_|(refine WL_r (by first|refine k_fa rfl (Ty.fld rfl rfl)|refine k_loadb rfl hB rfl (Ty.shp rfl)|refine k_loadC (j:=0) rfl hSA hAt (by simp [hla]) (Ty.shp rfl)|refine k_loadC (j:=0) rfl hSB hBt (by simp [hlb]) (Ty.shp rfl)) rfl ?_))
  refine WL_s (H_lit (out:=A.map B++Bb.map B) hH (Ty.sle rfl) (Ty.zer rfl) rfl (lit2 rfl rfl (by simp [hla]) (by simp [hlb])) rfl (by decide) rfl ?_)
  try clear hH
  intro w7 b43 hH
  replace hH:=nn3 hH
  clear hB hS2 hSA hSB hAt hBt
  repeat (first|refine WL_nil ?_|refine WS_block ?_|(refine WL_r (by first|refine Run_pev rfl|refine k_len rfl (Ty.isl rfl)) rfl ?_))
  refine WS_loop (G:=(Nat) × (Option Addr) × (Nat)) (fun|(k,ao,co)=>2-k) 576425567931335296 (fun|(k,ao,co)=>[(45,.int .i64 k)]) (fun|(k,ao,co),w'=>k≤2∧Hp [] w w' [Rb b1 26 (SH.cells ⟨(c:Nat),(r:Nat),true,A,Bb⟩).toArray,Rw q ao co (X++tb ((A++Bb).take (64*k))),Rb b43 22 (A.map B++Bb.map B).toArray]) (0,a6,c6) ⟨rfl,trivial⟩ ⟨by omega,by rw [Nat.mul_zero,List.take_zero,show tb []=[] from rfl,List.append_nil];exact hH⟩ ?_
  rintro ⟨k,ao,co⟩ w' σ ⟨hk,hH⟩ IH
  show WS _ _ _ _ _ (updL [(45,.int .i64 k)] _) _
  by_cases hlt:k<2
  ·obtain ⟨hpl,hpe⟩:=tab_part (k:=k) hla hlb hlt
   have hS:SlA w' (some ⟨b43,0,none⟩) (A.map B++Bb.map B):=(hH.b 2 rfl).sl0
   have hSl:(A.map B++Bb.map B).length=2*64:=by simp [hla,hlb]
   have hpg:∀ j,j<64→((A++Bb).drop (64*k)).take 64=((A++Bb).drop (64*k)).take 64:=fun _ _=>rfl
   obtain ⟨l,hl⟩:∃ l,l=((A++Bb).drop (64*k)).take 64:=⟨_,rfl⟩
   rw [← hl] at hpl hpe
   have hll:(l.map B).length=64:=by simp [hpl]
   repeat (first|refine WS_seq ?_|refine WS_region ?_|refine WL_nil ?_|refine WS_block ?_|refine WS_skip ?_|refine WS_yes rfl (by omega) ?_|(refine WL_r (by first|refine k_ix rfl rfl hS hSl (by decide) (Ty.sle rfl) (by omega)|refine k_loadC rfl hS hpe hll (Ty.shp rfl)|refine Run_pev rfl) rfl ?_))
   refine WL_s (H_alloc hH (Ty.zer rfl) rfl ?_)
   try clear hH
   intro w8 b7 hH
   replace hH:=nn4 hH
   skip
   refine WL_s (H_storeA 3 hH rfl rfl rfl (by simp [hpl]) rfl (by simp) (Ty.shp rfl) ?_)
   try clear hH
   intro w9 hH
   replace hH:=nn4 hH
   have hB7:Blk w9 b7 22 (l.map B).toArray:=hH.b 3 rfl
   repeat (first|refine WS_seq ?_|refine WS_region ?_|refine WL_nil ?_|refine WS_block ?_|(refine WL_r (by first|refine k_loadA rfl hB7 (by simp [hpl]) (Ty.shp rfl)|refine Run_pev rfl) rfl ?_))
   refine WS_loop (G:=(Nat) × (Option Addr) × (Nat)) (fun|(j,ai,ci)=>64-j) 287104476244869632 (fun|(j,ai,ci)=>[(50,.int .i64 j)]) (fun|(j,ai,ci),w'=>j≤64∧Hp [] w w' [Rb b1 26 (SH.cells ⟨(c:Nat),(r:Nat),true,A,Bb⟩).toArray,Rw q ai ci (X++tb ((A++Bb).take (64*k+j))),Rb b43 22 (A.map B++Bb.map B).toArray]) (0,ao,co) ⟨rfl,trivial⟩ ⟨by omega,hH.take 3⟩ ?_
   rintro ⟨j,ai,ci⟩ w' σ ⟨hj,hH⟩ IH2
   show WS _ _ _ _ _ (updL [(50,.int .i64 j)] _) _
   by_cases hlj:j<64
   ·have hT:64*k+j<(A++Bb).length:=by rw [List.length_append];omega
    have hv:(l.map B).toArray[j]?=some (B (A++Bb)[64*k+j]):=by
     rw [List.getElem?_toArray,List.getElem?_map,hl,List.getElem?_take,if_pos hlj,List.getElem?_drop,List.getElem?_eq_getElem hT];rfl
    have hxb:(A++Bb)[64*k+j]<256:=Byt.append hba hbb _ (List.getElem_mem _)
    have hnx:=tb_next hT
    have htl:=tb_len ((A++Bb).take (64*k+j))
    rw [List.length_take] at htl
    generalize (A++Bb)[64 * k + j]=x at *
    repeat (first|refine WS_seq ?_|refine WS_region ?_|refine WL_nil ?_|refine WS_block ?_|refine WS_skip ?_|refine WS_yes rfl (by omega) ?_|(refine WL_r (by first|refine k_index1 rfl rfl (Ty.arr rfl) (by omega) hv|refine Run_pev rfl|refine k_conv64 rfl rfl rfl (by omega)) rfl ?_))
    refine WL_s (S_call (wput_spec (n:=x) (s:=8) (by omega) (by decide) (by rw [List.length_append,htl];omega) (hH.at 1 rfl)) rfl rfl ?_)
    rintro v w11 ⟨rfl,a11,c11,hU⟩
    replace hH:=hH.up 1 rfl hU
    clear hU
    replace hH:=nn3 hH
    rw [List.append_assoc,← hnx] at hH
    repeat (first|refine WS_region ?_|refine WL_nil ?_|refine WS_inBlock ?_|(refine WL_r (by first|refine Run_pev rfl|refine k_add64 rfl rfl (by omega)) rfl ?_))
    refine IH2 (j+1,a11,c11) _ _ ?_ ?_ ?_ ?_
    ·simp only;omega
    ·exact ⟨rfl,trivial⟩
    ·repeat first|with_reducible apply Agr.refl|refine Agr.upd rfl ?_|refine Agr.updL rfl ?_|refine Agr.mrg rfl ?_
    ·exact ⟨by omega,hH⟩
   ·obtain rfl:j=64:=by omega
    repeat (first|refine WS_seq ?_|refine WS_region ?_|refine WL_nil ?_|refine WS_inBlock ?_|refine WS_exit rfl ?_|refine WS_false rfl ?_|(refine WL_r (by first|refine Run_pev rfl|refine k_add64 rfl rfl (by omega)) rfl ?_))
    refine IH (k+1,ai,ci) _ _ ?_ ?_ ?_ ?_
    ·simp only;omega
    ·exact ⟨rfl,trivial⟩
    ·repeat first|with_reducible apply Agr.refl|refine Agr.upd rfl ?_|refine Agr.updL rfl ?_|refine Agr.mrg rfl ?_
    ·exact ⟨by omega,hH⟩
  ·obtain rfl:k=2:=by omega
   rw [List.take_of_length_le (by rw [List.length_append];omega),hbz] at hH
   replace hH:=hH.take 2
   replace hH:=nn2 hH
   repeat (first|refine WS_seq ?_|refine WS_region ?_|refine WL_nil ?_|refine WS_exit rfl ?_|refine WS_false rfl ?_|refine lp rfl rfl ?_)
   refine WL_s (S_call (wdone_spec (hH.at 1 rfl) (by omega)) rfl rfl ?_)
   rintro v w8 ⟨a8,c8,rfl,hN⟩
   replace hH:=hH.nu hN
   clear hN
   replace hH:=nn3 hH
   rw [show pk (SH.bits ⟨(c:Nat),(r:Nat),true,A,Bb⟩++[true])=SH.body ⟨(c:Nat),(r:Nat),true,A,Bb⟩ from rfl] at hH ⊢
   have hby:=SH.body_byt ⟨(c:Nat),(r:Nat),true,A,Bb⟩
   have hbn:(SH.body ⟨(c:Nat),(r:Nat),true,A,Bb⟩).length≤131:=by rw [SH.body_len ho he];split<;>decide
   have hout:SH.out ⟨(c:Nat),(r:Nat),true,A,Bb⟩=[0,0,1,176]++escF 0 (endd (SH.body ⟨(c:Nat),(r:Nat),true,A,Bb⟩)):=rfl
   rw [hout]
   clear hout
   generalize (SH.body ⟨(c:Nat),(r:Nat),true,A,Bb⟩)=bd at *
   repeat (first|refine WS_seq ?_|refine WS_region ?_|refine WL_nil ?_|refine lp rfl rfl ?_)
   refine WL_s (H_lit (out:=[.slice a8 bd.length c8]) hH (Ty.sle rfl) (Ty.zer rfl) rfl rfl rfl (by decide) rfl ?_)
   try clear hH
   intro _ b62 hH
   replace hH:=nn4 hH
   skip
   refine WL_s (S_call (sum_one (hH.b 3 rfl) (hH.o 2 rfl).sl hby rfl (by omega)) rfl rfl ?_)
   rintro v w9 ⟨rfl,rfl⟩
   have hcl:=crc_lt bd
   rw [show crcAdd 65535 bd=crc bd from rfl]
   have hey:=endd_byt hby
   have hen:(endd bd).length=bd.length+3:=by simp [endd]
   have hem:bd.map B++[B (crc bd / 256),B (crc bd % 256),B 128]=(endd bd).map B:=by simp [endd]
   obtain ⟨cv,hcv⟩:∃ cv,cv=crc bd:=⟨_,rfl⟩
   rw [← hcv] at hcl hem ⊢
   replace hH:=hH.take 3
   replace hH:=nn3 hH
   repeat (first|refine WS_seq ?_|refine WS_region ?_|refine WL_nil ?_|(refine WL_r (by first|refine (k_shr (m:=cv) (n:=8) rfl rfl (fit16 (by omega))).is (congrArg (fun n:Nat=>Value.int .u16 (n:Int)) (show cv / 2 ^ 8=cv / 256 from rfl))|refine Run_pev rfl|refine k_conv8 rfl rfl rfl (by omega)|refine k_convB rfl rfl rfl) rfl ?_))
   refine WL_s (H_lit (out:=[B (cv / 256),B (cv % 256),B 128]) hH (Ty.sle rfl) (Ty.zer rfl) rfl rfl rfl (by decide) rfl ?_)
   try clear hH
   intro _ b70 hH
   replace hH:=nn4 hH
   skip
   refine WL_s (H_append 2 hH rfl (Ty.sle rfl) (Ty.zer rfl) rfl (Ty.byt rfl) (by decide) rfl rfl ((hH.b 3 rfl).sl0) rfl (by simp) (by omega) (by simp only [maxLen];omega) rfl ?_)
   clear hH
   intro w10 a10 c10 hH
   replace hH:=hH.take 3
   replace hH:=nn3 hH
   rw [show bd.length+3=(endd bd).length from hen.symm,hem] at hH
   rw [show bd.length+3=(endd bd).length from hen.symm]
   repeat (first|refine WS_seq ?_|refine WS_region ?_|refine WL_nil ?_|refine lp rfl rfl ?_)
   refine WL_s (S_call (marker_spec) rfl rfl ?_)
   rintro v w11 ⟨b11,rfl,hN⟩
   replace hH:=(hH.nu hN).as 3 rfl (r':=Ro 5 1 (some ⟨b11,0,none⟩) 3 3 [B 0,B 0,B 1]) (fun _ h=>h) (fun h=>(h:Blk _ _ _ _).own (n:=3) (sz:=1) rfl (by decide))
   clear hN
   replace hH:=nn4 hH
   skip
   refine WL_s (H_lit (out:=[B 176]) hH (Ty.sle rfl) (Ty.zer rfl) rfl rfl rfl (by decide) rfl ?_)
   try clear hH
   intro _ b73 hH
   replace hH:=nn5 hH
   skip
   refine WL_s (H_append 3 hH rfl (Ty.sle rfl) (Ty.zer rfl) rfl (Ty.byt rfl) (by decide) rfl rfl ((hH.b 4 rfl).sl0) rfl (by simp) (by omega) (by simp only [maxLen];omega) rfl ?_)
   clear hH
   intro w12 a12 c12 hH
   replace hH:=hH.take 4
   replace hH:=nn4 hH
   repeat (refine lp rfl rfl ?_)
   refine WL_s (S_call (put_spec (hH.o 2 rfl).sl hey rfl (by omega)) rfl rfl ?_)
   rintro v w13 ⟨a13,c13,rfl,hN⟩
   replace hH:=hH.nu hN
   clear hN
   replace hH:=nn5 hH
   have hfl:=escF_len (endd bd) 0
   generalize escF 0 (endd bd)=es at *
   have hel:(es.map B).length=es.length*1:=by simp
   have hone:∀ u∈es.map B,u.oneCell'=true:=fun u hu=>by obtain ⟨y,_,rfl⟩:=List.mem_map.1 hu;rfl
   skip
   refine WL_s (H_append 3 hH rfl (Ty.sle rfl) (Ty.zer rfl) rfl (Ty.byt rfl) (by decide) rfl rfl (hH.o 4 rfl).sl hel hone (by omega) (by simp only [maxLen];omega) rfl ?_)
   clear hH
   intro w14 a14 c14 hH
   replace hH:=nn5 hH
   have hol:3+1+es.length=([0,0,1,176]++es).length:=by simp;omega
   rw [hol] at hH
   rw [hol]
   repeat (first|refine WL_nil ?_|refine lp rfl rfl ?_)
   refine WS_ret2 Tryz.func37 rfl ⟨a14,c14,rfl,(hH.new1 3 rfl).as (fun _ h=>h) (fun h=>?_)⟩
   simpa [RBy,Ro] using h
end Go.Proofs.YtpbiicegmcpkpaaGreat
