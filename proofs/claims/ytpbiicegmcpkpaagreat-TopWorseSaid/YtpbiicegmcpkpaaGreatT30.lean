/- A part of the proof that TopWorse is true at every input; no condition. -/
import Derived.Test.YtpbiicegmcpkpaaGreatT29
namespace Go.Proofs.YtpbiicegmcpkpaaGreat
open Go Go.K Go.P Go.RowKit Go.Proofs
abbrev dmc (C R b:Nat):List Value:=[.int .i64 C,.int .i64 R,.slice (some ⟨b,0,none⟩) (C*R) (C*R)]
abbrev dmR (b:Nat) (l:List Bool):Res:=Rb b 4 (l.map Value.bool).toArray
set_option maxHeartbeats 4000000 in
theorem dnew_spec {C R:Nat} {w:World} (hC:C≤8) (hR:R≤8):Does Tryz.prog 22 #[.int .i64 C,.int .i64 R,.bool true] w fun v w'=>∃ b,v=.agg (dmc C R b).toArray∧New (dmR b (List.replicate (C*R) true)) w w':=by
 refine Does_of (args:=[_,_,_]) Tryz.func22 rfl rfl Tryz.ntmps22 rfl ?_
 have hCR:C*R≤64:=Nat.mul_le_mul hC hR
 have hcm:(C:Int)*R=((C*R:Nat):Int):=by simp
 have hH:=Hp.start w
 have e1:min (max (C:Int) 0) 8=C:=by omega
 have e2:min (max (R:Int) 0) 8=R:=by omega
 repeat (first|refine WS_seq ?_|refine WS_region ?_)
 refine WL_s (H_alloc hH (Ty.zer rfl) rfl ?_)
 try clear hH
 intro _ b1 hH
 replace hH:=nn1 hH
 repeat (first|refine WS_seq ?_|refine WS_region ?_|refine WL_nil ?_|(refine WL_r (by first|refine (k_min rfl rfl).is (congrArg (Value.int .i64) e1)|refine (k_min rfl rfl).is (congrArg (Value.int .i64) e2)|refine (k_mul64 (m:=C) (n:=R) rfl rfl (by omega)).is (congrArg (Value.int .i64) hcm)|refine Run_pev rfl|refine k_max rfl rfl) rfl ?_))
 refine WL_s (H_make (n:=C*R) hH (Ty.sle rfl) (Ty.zer rfl) (Ty.byt rfl) rfl rfl rfl rfl (by omega) (by simp only [maxLen];omega) rfl ?_)
 clear hH
 intro w2 b2 hH
 replace hH:=nn2 hH
 rw [made_one] at hH
 repeat ((refine WL_r (by refine k_buildS (cs:=dmc C R b2) (Ty.zer rfl) (Ty.plc rfl) rfl) rfl ?_))
 refine WL_s (H_alloc hH (Ty.zer rfl) rfl ?_)
 try clear hH
 intro _ b7 hH
 replace hH:=nn3 hH
 refine WL_s (H_storeA 2 (vs:=(dmc C R b2).toArray) (s:=3) hH rfl rfl rfl (by rfl) (by rfl) (by simp [Value.oneCell']) (Ty.shp rfl) ?_)
 try clear hH
 intro _ hH
 replace hH:=nn3 hH
 have hB:=hH.b 2 rfl
 repeat (first|refine WS_seq ?_|refine WS_region ?_|refine WL_nil ?_|refine WS_block ?_|(refine WL_r (by first|refine k_fa rfl (Ty.fld rfl rfl)|refine k_loadb rfl hB rfl (Ty.shp rfl)|refine Run_pev rfl|refine k_len rfl (Ty.isl rfl)) rfl ?_))
 clear hB
 refine WS_loop (G:=(Nat)) (fun k=>C*R-k) 17146315008 (fun k=>[(25,.int .i64 k)]) (fun k w'=>k≤C*R∧Hp [] w w' [Rb b1 53 #[.int .i64 0,.int .i64 0,.slice none 0 0],Rb b2 4 (List.replicate k (Value.bool true)++List.replicate (C*R-k) (Value.bool false)).toArray,Rb b7 53 (dmc C R b2).toArray]) (0) ⟨rfl,trivial⟩ ⟨by omega,hH⟩ ?_
 rintro k w' σ ⟨hk,hH⟩ IH
 show WS _ _ _ _ _ (updL [(25,.int .i64 k)] _) _
 have hB:=hH.b 2 rfl
 have hS:SlA w' (some ⟨b2,0,none⟩) (List.replicate k (Value.bool true)++List.replicate (C*R-k) (Value.bool false)):=(hH.b 1 rfl).sl0
 by_cases hlt:k<C*R
 ·repeat (first|refine WS_seq ?_|refine WS_region ?_|refine WL_nil ?_|refine WS_block ?_|refine WS_skip ?_|refine WS_yes rfl (by omega) ?_|(refine WL_r (by first|refine k_fa rfl (Ty.fld rfl rfl)|refine k_loadb rfl hB rfl (Ty.shp rfl)|refine k_ix1 rfl rfl hS (by simp;omega) (Ty.sle rfl) (by omega)|refine Run_pev rfl) rfl ?_))
  refine WL_s (H_storeB 1 (v:=.bool true) hH rfl rfl rfl (by simp;omega) rfl (Ty.shp rfl) ?_)
  try clear hH
  intro _ hH
  replace hH:=nn3 hH
  rw [Int.toNat_natCast,rep_set hlt] at hH
  repeat (first|refine WS_region ?_|refine WL_nil ?_|refine WS_inBlock ?_|(refine WL_r (by first|refine Run_pev rfl|refine k_add64 rfl rfl (by omega)) rfl ?_))
  refine IH (k+1) _ _ ?_ ?_ ?_ ?_
  ·omega
  ·exact ⟨rfl,trivial⟩
  ·repeat first|with_reducible apply Agr.refl|refine Agr.upd rfl ?_|refine Agr.updL rfl ?_|refine Agr.mrg rfl ?_
  ·exact ⟨by omega,hH⟩
 ·obtain rfl:k=C*R:=by omega
  rw [Nat.sub_self,List.replicate_zero,List.append_nil,← List.map_replicate] at hH
  repeat (first|refine WS_seq ?_|refine WS_region ?_|refine WL_nil ?_|refine WS_exit rfl ?_|refine WS_no rfl (by omega) ?_|(refine WL_r (by first|refine k_loadA rfl hB rfl (Ty.shp rfl)|refine Run_pev rfl) rfl ?_))
  refine WL_s (H_storeA 0 (vs:=(dmc C R b2).toArray) (s:=3) hH rfl rfl rfl (by rfl) (by rfl) (by simp [Value.oneCell']) (Ty.shp rfl) ?_)
  try clear hH
  intro _ hH
  replace hH:=nn3 hH
  repeat (refine WL_nil ?_)
  exact WS_retc1 Tryz.func22 rfl rfl (hH.b 0 rfl) rfl (Ty.shp rfl) ⟨b2,rfl,hH.new1 1 rfl⟩
def hasB (l:List Bool) (n:Int):Bool:=decide (0≤n) && l.getD n.toNat false
section
variable {C R b:Nat} {l:List Bool} {w:World}
theorem dhas_spec {n:Int} (hl:l.length=C*R) (hB:Blk w b 4 (l.map Value.bool).toArray):Does Tryz.prog 10 #[.agg (dmc C R b).toArray,.int .i64 n] w fun v w'=>v=.bool (hasB l n)∧Ext [] w w':=by
 refine Does_of (args:=[_,_]) Tryz.func10 rfl rfl Tryz.ntmps10 rfl ?_
 have hH:=Hp.start w
 repeat (first|refine WS_seq ?_|refine WS_region ?_)
 refine WL_s (H_box (cs:=(dmc C R b).toArray) hH rfl rfl rfl ?_)
 try clear hH
 intro _ b1 hH
 replace hH:=nn1 hH
 have hB1:=hH.b 0 rfl
 have hS:SlA _ (some ⟨b,0,none⟩) (l.map Value.bool):=(hB.ext0 hH.ext).sl0
 by_cases h0:0≤n
 ·by_cases h1:n<(C*R:Nat)
  ·have hv:(l.map Value.bool)[n.toNat]?=some (.bool (l.getD n.toNat false)):=by
    rw [List.getElem?_map,List.getD_eq_getElem?_getD,List.getElem?_eq_getElem (by omega)];rfl
   repeat (first|refine WS_seq ?_|refine WS_region ?_|refine WL_nil ?_|refine WL_gyes rfl rfl (dT (by omega)) ?_|(refine WL_r (by first|refine k_fa rfl (Ty.fld rfl rfl)|refine k_loadb rfl hB1 rfl (Ty.shp rfl)|refine k_ix1 rfl rfl hS (by simp [hl]) (Ty.sle rfl) (by omega)|refine k_loads rfl hS hv (Ty.shp rfl)|refine Run_pev rfl|refine k_len rfl (Ty.isl rfl)|refine k_pick_t (dT (by omega)) rfl) rfl ?_))
   refine WS_ret1 Tryz.func10 rfl ⟨?_,hH.ext⟩
   unfold hasB
   rw [decide_eq_true h0]
   rfl
  ·repeat (first|refine WS_seq ?_|refine WS_region ?_|refine WL_nil ?_|refine WL_gyes rfl rfl (dT (by omega)) ?_|refine WL_gno (b:=false) rfl rfl (dF (by omega)) rfl rfl ?_|(refine WL_r (by first|refine k_fa rfl (Ty.fld rfl rfl)|refine k_loadb rfl hB1 rfl (Ty.shp rfl)|refine Run_pev rfl|refine k_len rfl (Ty.isl rfl)|refine k_pick_f (dF (by omega)) rfl|refine k_pick_t (dT (by omega)) rfl) rfl ?_))
   refine WS_ret1 Tryz.func10 rfl ⟨?_,hH.ext⟩
   unfold hasB
   rw [List.getD_eq_getElem?_getD,List.getElem?_eq_none (by omega),Option.getD_none,Bool.and_false]
   rfl
 ·repeat (first|refine WS_seq ?_|refine WS_region ?_|refine WL_nil ?_|refine WL_gno rfl rfl rfl rfl rfl ?_|refine WL_gno (b:=false) rfl rfl (dF (by omega)) rfl rfl ?_|(refine WL_r (by first|refine Run_pev rfl|refine k_pick_f (dF (by omega)) rfl) rfl ?_))
  refine WS_ret1 Tryz.func10 rfl ⟨?_,hH.ext⟩
  unfold hasB
  rw [decide_eq_false h0]
  rfl
theorem dset_spec {i:Nat} {v:Bool} (hl:l.length=C*R) (hi:i<C*R) (hB:Blk w b 4 (l.map Value.bool).toArray):Does Tryz.prog 24 #[.agg (dmc C R b).toArray,.int .i64 i,.bool v] w fun r w'=>r=.tuple #[]∧Upd (dmR b l) (dmR b (l.set i v)) w w':=by
 refine Does_of (args:=[_,_,_]) Tryz.func24 rfl rfl Tryz.ntmps24 rfl ?_
 have hH:=Hp.start1 (r:=dmR b l) hB
 repeat (first|refine WS_seq ?_|refine WS_region ?_)
 refine WL_s (H_box (cs:=(dmc C R b).toArray) hH rfl rfl rfl ?_)
 try clear hH
 intro _ b1 hH
 replace hH:=nn2 hH
 have hB1:=hH.b 1 rfl
 have hS:SlA _ (some ⟨b,0,none⟩) (l.map Value.bool):=(hH.b 0 rfl).sl0
 repeat (first|refine WS_seq ?_|refine WS_region ?_|refine WL_nil ?_|refine WS_yes rfl (by omega) ?_|refine WL_gyes rfl rfl rfl ?_|(refine WL_r (by first|refine k_fa rfl (Ty.fld rfl rfl)|refine k_loadb rfl hB1 rfl (Ty.shp rfl)|refine k_ix1 rfl rfl hS (by simp [hl]) (Ty.sle rfl) (by omega)|refine Run_pev rfl|refine k_len rfl (Ty.isl rfl)) rfl ?_))
 clear hS hB1
 refine WL_s (H_storeB 0 (v:=.bool v) hH rfl rfl rfl (by simp [hl];omega) rfl (Ty.shp rfl) ?_)
 try clear hH
 intro _ hH
 replace hH:=nn2 hH
 rw [← List.map_set,Int.toNat_natCast] at hH
 repeat (refine WL_nil ?_)
 exact WS_end0 Tryz.func24 rfl ⟨rfl,hH.upd 0 rfl⟩
end
def vre:Value→Nat
 | .complex _ a _=>a
 | _=>0
def vim:Value→Nat
 | .complex _ _ a=>a
 | _=>0
abbrev MB.v4 (m:MB):V4:=⟨vre m.u0,vim m.u0,vre m.u1,vim m.u1,vre m.u2,vim m.u2,vre m.u3,vim m.u3⟩
theorem VG.cx {u:Value} (h:VG u):.complex .f64 (vre u) (vim u)=u:=by obtain ⟨_,_,_,_,rfl⟩:=h;rfl
theorem MB.v4_cells {m:MB} (h:m.ok):m.v4.cells=[m.u0,m.u1,m.u2,m.u3]:=by
 show [_,_,_,_]=_
 rw [h.g0.cx,h.g1.cx,h.g2.cx,h.g3.cx]
open Classical in
noncomputable def dFr (C R:Nat) (old:List Bool) (mb:Nat) (m:MB):Bool:=decide (¬ (m.k=3∨m.k=4)∧∃ n:Int,Tch C R mb m.v4 n∧hasB old n=true)
open Classical in
theorem dFr_t {C R mb:Nat} {old:List Bool} {m:MB} (h:¬ (m.k=3∨m.k=4)∧∃ n:Int,Tch C R mb m.v4 n∧hasB old n=true):dFr C R old mb m=true:=by
 unfold dFr
 exact decide_eq_true h
open Classical in
theorem dFr_f {C R mb:Nat} {old:List Bool} {m:MB} (h:¬ (¬ (m.k=3∨m.k=4)∧∃ n:Int,Tch C R mb m.v4 n∧hasB old n=true)):dFr C R old mb m=false:=by
 unfold dFr
 exact decide_eq_false h
set_option maxRecDepth 20000 in
set_option maxHeartbeats 8000000 in
theorem dfrom_spec {C R b mb:Nat} {l:List Bool} {m:MB} {w:World} (hC:1≤C∧C≤8) (hR:1≤R∧R≤8) (hmb:mb≤64) (hm:m.ok) (hl:l.length=C*R) (hB:Blk w b 4 (l.map Value.bool).toArray) :
  Does Tryz.prog 25 #[.agg (dmc C R b).toArray,.int .i64 mb,.agg m.cells.toArray] w fun v w'=>v=.bool (dFr C R l mb m)∧Ext [] w w':=by
 refine Does_of (args:=[_,_,_]) Tryz.func25 rfl rfl Tryz.ntmps25 rfl ?_
 have hH:=Hp.start w
 have hml:=mcl_len (k:=m.k) (q:=m.q) (u0:=m.u0) (u1:=m.u1) (u2:=m.u2) (u3:=m.u3) (e:=m.e) hm.len
 repeat (first|refine WS_seq ?_|refine WS_region ?_)
 refine WL_s (H_box (cs:=(dmc C R b).toArray) hH rfl rfl rfl ?_)
 try clear hH
 intro _ b3 hH
 replace hH:=nn1 hH
 refine WL_s (H_box (cs:=m.cells.toArray) hH rfl rfl rfl ?_)
 try clear hH
 intro _ b5 hH
 replace hH:=nn2 hH
 have hB5:=hH.b 1 rfl
 repeat (first|refine WS_seq ?_|refine WS_region ?_|refine WL_nil ?_|(refine WL_r (by first|refine k_loadA rfl hB5 (by simp [hml]) (Ty.shp rfl)|refine Run_pev rfl) rfl ?_))
 clear hB5
 refine WL_s (S_call (malone_spec) rfl rfl ?_)
 rintro _ _ ⟨rfl,hE0⟩
 replace hH:=hH.ext0 hE0
 clear hE0
 replace hH:=nn2 hH
 by_cases hal:m.k=3∨m.k=4
 ·repeat (first|refine WS_seq ?_|refine WS_region ?_|refine WL_nil ?_|refine WS_yes rfl (by omega) ?_|refine lp rfl rfl ?_)
  have hd:dFr C R l mb m=false:=dFr_f (fun h=>h.1 hal)
  rw [hd]
  exact WS_ret1 Tryz.func25 rfl ⟨rfl,hH.ext⟩
 have hB3:=hH.b 0 rfl
 have hS5:SlA _ (some ⟨b5,0,none⟩) m.cells:=(hH.b 1 rfl).sl0
 repeat (first|refine WS_seq ?_|refine WS_region ?_|refine WL_nil ?_|refine WS_skip ?_|refine WS_no rfl (by omega) ?_|(refine WL_r (by first|refine k_fa rfl (Ty.fld rfl rfl)|refine k_loadb rfl hB3 rfl (Ty.shp rfl)|refine k_loadC (j:=0+2) (cs:=m.v4.cells) rfl hS5 (by rw [MB.v4_cells hm];rfl) rfl (Ty.shp rfl)|refine Run_pev rfl) rfl ?_))
 clear hB3 hS5
 refine WL_s (S_call ((touches_spec hC hR hmb)) rfl rfl ?_)
 rintro _ w2 ⟨a,n,c,ts,rfl,htl,htn,hSt,hmem,hE0⟩
 replace hH:=hH.ext0 hE0
 clear hE0
 replace hH:=nn2 hH
 repeat (first|refine WL_nil ?_|refine WS_block ?_|(refine WL_r (by first|refine Run_pev rfl|refine k_len rfl (Ty.isl rfl)) rfl ?_))
 refine WS_loop (G:=(Nat)) (fun i=>n-i) 267387200 (fun i=>[(20,.int .i64 i)]) (fun i w'=>i≤n∧(∀ j x,j<i→ts[j]?=some x→hasB l x=false)∧Ext [] w2 w'∧Hp [] w w' [Rb b3 53 (dmc C R b).toArray,Rb b5 97 m.cells.toArray]) (0) ⟨rfl,trivial⟩ ⟨by omega,by omega,.refl,hH⟩ ?_
 rintro i w' σ ⟨hi,hno,hE2,hH⟩ IH
 show WS _ _ _ _ _ (updL [(20,.int .i64 i)] _) _
 by_cases hlt:i<n
 ·obtain ⟨x,hx⟩:∃ x,ts[i]?=some x:=⟨_,List.getElem?_eq_getElem (by omega)⟩
  have hv:(ts.map (Value.int .i64))[i]?=some (.int .i64 x):=by rw [List.getElem?_map,hx];rfl
  have hS2:=hSt.ext0 hE2
  have hB3:=hH.b 0 rfl
  repeat (first|refine WS_seq ?_|refine WS_region ?_|refine WL_nil ?_|refine WS_block ?_|refine WS_skip ?_|refine WS_yes rfl (by omega) ?_|(refine WL_r (by first|refine k_ix1 rfl rfl hS2 (by simp [htl]) (Ty.sle rfl) (by omega)|refine k_loads rfl hS2 hv (Ty.shp rfl)|refine k_loadA rfl hB3 rfl (Ty.shp rfl)|refine Run_pev rfl) rfl ?_))
  clear hB3 hS2
  refine WL_s (S_call ((dhas_spec (n:=x) hl (hB.ext0 hH.ext))) rfl rfl ?_)
  rintro _ w3 ⟨rfl,hE0⟩
  replace hH:=hH.ext0 hE0
  replace hH:=nn2 hH
  cases hh:hasB l x
  ·repeat (first|refine WS_region ?_|refine WL_nil ?_|refine WS_inBlock ?_|refine WS_skip ?_|refine WS_false rfl ?_|(refine WL_r (by first|refine Run_pev rfl|refine k_add64 rfl rfl (by omega)) rfl ?_))
   refine IH (i+1) _ _ ?_ ?_ ?_ ?_
   ·omega
   ·exact ⟨rfl,trivial⟩
   ·repeat first|with_reducible apply Agr.refl|refine Agr.upd rfl ?_|refine Agr.updL rfl ?_|refine Agr.mrg rfl ?_
   ·exact ⟨by omega,fun j y hj hy=>(Nat.lt_or_ge j i).elim (fun h=>hno j y h hy) (fun h=>by have e:j=i:=(by omega);subst e;rw [hx] at hy;cases hy;exact hh),hE2.then0 hE0,hH⟩
  ·repeat (first|refine WS_seq ?_|refine WS_region ?_|refine WL_nil ?_|refine WS_true rfl ?_|refine lp rfl rfl ?_)
   have hd:dFr C R l mb m=true:=dFr_t ⟨hal,x,(hmem x).1 (List.mem_of_getElem? hx),hh⟩
   rw [hd]
   exact WS_ret1 Tryz.func25 rfl ⟨rfl,hH.ext⟩
 ·obtain rfl:i=n:=by omega
  repeat (first|refine WS_seq ?_|refine WS_region ?_|refine WL_nil ?_|refine WS_exit rfl ?_|refine WS_no rfl (by omega) ?_|refine lp rfl rfl ?_)
  have hd:dFr C R l mb m=false:=by
   refine dFr_f (fun h=>?_)
   obtain ⟨_,y,hy,hyh⟩:=h
   obtain ⟨j,hj⟩:=List.mem_iff_getElem?.1 ((hmem y).2 hy)
   have hjl:=(List.getElem?_eq_some_iff.1 hj).1
   rw [hno j y (by omega) hj] at hyh
   cases hyh
  rw [hd]
  exact WS_ret1 Tryz.func25 rfl ⟨rfl,hH.ext⟩
def ftT (lost:Bool) (mask:List Nat) (size:Int):Bool:=lost || (mask.take (min (mask.length:Int) (max size 0)).toNat).any fun c=>decide (c≠0)
set_option maxHeartbeats 4000000 in
theorem touched_spec {lost:Bool} {mask:List Nat} {a:Option Addr} {n c:Nat} {size:Int} {w:World} (hS:SlA w a (mask.map B)) (hn:mask.length=n) (hnc:n≤c) (hn2:n≤1000000) :
  Does Tryz.prog 23 #[.agg #[.bool lost,.slice a n c],.int .i64 size] w fun v w'=>v=.bool (ftT lost mask size)∧Ext [] w w':=by
 refine Does_of (args:=[_,_]) Tryz.func23 rfl rfl Tryz.ntmps23 rfl ?_
 have hH:=Hp.start w
 repeat (first|refine WS_seq ?_|refine WS_region ?_)
 refine WL_s (H_box (cs:=#[.bool lost,.slice a n c]) hH rfl rfl rfl ?_)
 try clear hH
 intro _ b2 hH
 replace hH:=nn1 hH
 have hB2:=hH.b 0 rfl
 cases lost
 ·obtain ⟨h,hh⟩:∃ h:Nat,min (n:Int) (max size 0)=h:=⟨(min (n:Int) (max size 0)).toNat,by omega⟩
  have hhn:h≤n:=by omega
  have hft:ftT false mask size=(mask.take h).any fun c=>decide (c≠0):=by
   unfold ftT
   rw [hn,hh]
   rfl
  rw [hft]
  repeat (first|refine WS_seq ?_|refine WS_region ?_|refine WL_nil ?_|refine WS_block ?_|refine WS_skip ?_|refine WS_false rfl ?_|(refine WL_r (by first|refine k_fa rfl (Ty.fld rfl rfl)|refine k_loadb rfl hB2 rfl (Ty.shp rfl)|refine (k_min rfl rfl).is (congrArg (Value.int .i64) hh)|refine k_slchN rfl rfl (Ty.sle rfl) (by omega)|refine Run_pev rfl|refine k_len rfl (Ty.isl rfl)|refine k_max rfl rfl) rfl ?_))
  have hSt:=take_cells hS hhn hnc
  rw [← List.map_take] at hSt
  have htl:(mask.take h).length=h:=by simp;omega
  generalize mask.take h=ms at *
  refine WS_loop (G:=(Nat)) (fun i=>h-i) 66584656 (fun i=>[(19,.int .i64 i)]) (fun i w'=>i≤h∧(∀ j x,j<i→ms[j]?=some x→x=0)∧Hp [] w w' [Rb b2 48 #[.bool false,.slice a n c]]) (0) ⟨rfl,trivial⟩ ⟨by omega,by omega,hH⟩ ?_
  rintro i w' σ ⟨hi,hno,hH⟩ IH
  show WS _ _ _ _ _ (updL [(19,.int .i64 i)] _) _
  by_cases hlt:i<h
  ·obtain ⟨x,hx⟩:∃ x,ms[i]?=some x:=⟨_,List.getElem?_eq_getElem (by omega)⟩
   have hv:(ms.map B)[i]?=some (B x):=by rw [List.getElem?_map,hx];rfl
   have hS2:=hSt.ext0 hH.ext
   by_cases h0:x=0
   ·subst h0
    repeat (first|refine WS_seq ?_|refine WS_region ?_|refine WL_nil ?_|refine WS_block ?_|refine WS_inBlock ?_|refine WS_skip ?_|refine WS_false rfl ?_|refine WS_yes rfl (by omega) ?_|(refine WL_r (by first|refine k_ix1 rfl rfl hS2 (by simp [htl]) (Ty.sle rfl) (by omega)|refine k_loads rfl hS2 hv (Ty.shp rfl)|refine (k_neq (q:=.u8) rfl rfl).is (bF (by omega))|refine Run_pev rfl|refine k_add64 rfl rfl (by omega)) rfl ?_))
    refine IH (i+1) _ _ ?_ ?_ ?_ ?_
    ·omega
    ·exact ⟨rfl,trivial⟩
    ·repeat first|with_reducible apply Agr.refl|refine Agr.upd rfl ?_|refine Agr.updL rfl ?_|refine Agr.mrg rfl ?_
    ·exact ⟨by omega,fun j y hj hy=>(Nat.lt_or_ge j i).elim (fun h=>hno j y h hy) (fun h=>by have e:j=i:=(by omega);subst e;rw [hx] at hy;cases hy;rfl),hH⟩
   ·have ha:(ms.any fun c=>decide (c≠0))=true:=List.any_eq_true.2 ⟨x,List.mem_of_getElem? hx,by simpa using h0⟩
    rw [ha]
    repeat (first|refine WS_seq ?_|refine WS_region ?_|refine WL_nil ?_|refine WS_block ?_|refine WS_skip ?_|refine WS_true rfl ?_|refine WS_yes rfl (by omega) ?_|(refine WL_r (by first|refine k_ix1 rfl rfl hS2 (by simp [htl]) (Ty.sle rfl) (by omega)|refine k_loads rfl hS2 hv (Ty.shp rfl)|refine (k_neq (q:=.u8) rfl rfl).is (bT (by omega))|refine Run_pev rfl) rfl ?_))
    exact WS_ret1 Tryz.func23 rfl ⟨rfl,hH.ext⟩
  ·obtain rfl:i=h:=by omega
   have ha:(ms.any fun c=>decide (c≠0))=false:=by
    rw [List.any_eq_false]
    intro x hx
    obtain ⟨j,hj⟩:=List.mem_iff_getElem?.1 hx
    have hjl:=(List.getElem?_eq_some_iff.1 hj).1
    simp [hno j x (by omega) hj]
   rw [ha]
   repeat (first|refine WS_seq ?_|refine WS_region ?_|refine WL_nil ?_|refine WS_exit rfl ?_|refine WS_no rfl (by omega) ?_|refine lp rfl rfl ?_)
   exact WS_ret1 Tryz.func23 rfl ⟨rfl,hH.ext⟩
 ·repeat (first|refine WS_seq ?_|refine WS_region ?_|refine WL_nil ?_|refine WS_true rfl ?_|(refine WL_r (by first|refine k_fa rfl (Ty.fld rfl rfl)|refine k_loadb rfl hB2 rfl (Ty.shp rfl)|refine Run_pev rfl) rfl ?_))
  exact WS_ret1 Tryz.func23 rfl ⟨rfl,hH.ext⟩
def szs (es:List BT):List Int:=es.map fun e=>max ((e.2.2.length:Int)-21) 0
set_option maxHeartbeats 4000000 in
theorem sizes_spec' {a:Option Addr} {n c:Nat} {e0:BT} {es:List BT} {w:World} (hS:SlA w a ((e0::es).map bsl)) (hn:es.length+1=n) (hb:∀ e∈es,e.2.2.length≤1000000) (hn2:n≤1000000) :
  Does Tryz.prog 9 #[.slice a n c] w fun v w'=>∃ (a':Option Addr) (c':Nat),v=.slice a' es.length c'∧SlA w' a' ((szs es).map (Value.int .i64))∧Ext [] w w':=by
 refine Does_of (args:=[_]) Tryz.func9 rfl rfl Tryz.ntmps9 rfl ?_
 have hH:=(Hp.start w).nu (New.nilO (e:=3) (sz:=1))
 replace hH:=nn1 hH
 repeat (first|refine WS_seq ?_|refine WS_region ?_|refine WL_nil ?_|refine WS_block ?_|(refine WL_r (by first|refine Run_pev rfl|refine k_len rfl (Ty.isl rfl)) rfl ?_))
 refine WS_loop (G:=(Nat) × (Option Addr) × (Nat) × (List Int)) (fun|(i,a1,c1,l)=>n-i) 8388408 (fun|(i,a1,c1,l)=>[(8,.int .i64 i),(3,.slice a1 l.length c1)]) (fun|(i,a1,c1,l),w'=>i≤n∧l=szs (es.take (i-1))∧Hp [] w w' [Ro 3 1 a1 l.length c1 (l.map (Value.int .i64))]) (0,none,0,[]) ⟨rfl,rfl,trivial⟩ ⟨by omega,rfl,hH⟩ ?_
 rintro ⟨i,a1,c1,l⟩ w' σ ⟨hi,hl,hH⟩ IH
 show WS _ _ _ _ _ (updL [(8,.int .i64 i),(3,.slice a1 l.length c1)] _) _
 by_cases hlt:i<n
 ·obtain ⟨e,he⟩:∃ e,(e0::es)[i]?=some e:=⟨_,List.getElem?_eq_getElem (by simp;omega)⟩
  have hv:((e0::es).map bsl)[i]?=some (.slice e.1 e.2.2.length e.2.1):=by rw [List.getElem?_map,he];rfl
  have hS2:=hS.ext0 hH.ext
  have hll:l.length=i-1:=by rw [hl];simp [szs];omega
  by_cases h0:i=0
  ·subst h0
   repeat (first|refine WS_seq ?_|refine WS_region ?_|refine WL_nil ?_|refine WS_block ?_|refine WS_inBlock ?_|refine WS_skip ?_|refine WS_false rfl ?_|refine WS_yes rfl (by omega) ?_|(refine WL_r (by first|refine k_ix1 rfl rfl hS2 (by simp;omega) (Ty.sle rfl) (by omega)|refine k_loads rfl hS2 hv (Ty.shp rfl)|refine Run_pev rfl|refine k_add64 rfl rfl (by omega)) rfl ?_))
   refine IH (1,a1,c1,l) _ _ ?_ ?_ ?_ ?_
   ·simp only;omega
   ·exact ⟨rfl,rfl,trivial⟩
   ·repeat first|with_reducible apply Agr.refl|refine Agr.upd rfl ?_|refine Agr.updL rfl ?_|refine Agr.mrg rfl ?_
   ·exact ⟨by omega,hl,hH⟩
  ·have he2:es[i-1]?=some e:=by
    rw [show i=(i-1)+1 by omega] at he
    simpa using he
   have hbe:=hb e (List.mem_of_getElem? he2)
   repeat (first|refine WS_seq ?_|refine WS_region ?_|refine WL_nil ?_|refine WS_block ?_|refine WS_skip ?_|refine WS_yes rfl (by omega) ?_|(refine WL_r (by first|refine k_ix1 rfl rfl hS2 (by simp;omega) (Ty.sle rfl) (by omega)|refine k_loads rfl hS2 hv (Ty.shp rfl)|refine Run_pev rfl|refine k_sub64 rfl rfl (by omega)|refine k_len rfl (Ty.isl rfl)|refine k_max rfl rfl) rfl ?_))
   refine WL_s (H_lit (out:=[.int .i64 (max ((e.2.2.length:Int)-21) 0)]) hH (Ty.sle rfl) (Ty.zer rfl) rfl rfl rfl (by decide) rfl ?_)
   try clear hH
   intro _ blit hH
   replace hH:=nn2 hH
   refine WL_s (H_append 0 hH rfl (Ty.sle rfl) (Ty.zer rfl) rfl (Ty.byt rfl) (by decide) rfl rfl ((hH.b 1 rfl).sl0) (by simp;try omega) (by simp) (by omega) (by simp only [maxLen];omega) rfl ?_)
   try clear hH
   intro _ a2 c2 hH
   replace hH:=nn2 hH
   replace hH:=hH.del 1
   replace hH:=nn1 hH
   repeat (first|refine WS_region ?_|refine WL_nil ?_|refine WS_inBlock ?_|(refine WL_r (by first|refine Run_pev rfl|refine k_add64 rfl rfl (by omega)) rfl ?_))
   have hl2:szs (es.take (i+1-1))=l++[max ((e.2.2.length:Int)-21) 0]:=by
    rw [hl,show i+1-1=(i-1)+1 by omega,List.take_add_one,he2]
    simp [szs]
   have hc2:l.length+1=(l++[max ((e.2.2.length:Int)-21) 0]).length:=by simp
   have hm2:l.map (Value.int .i64)++[.int .i64 (max ((e.2.2.length:Int)-21) 0)]=(l++[max ((e.2.2.length:Int)-21) 0]).map (Value.int .i64):=by simp
   rw [hc2,hm2] at hH
   rw [hc2]
   generalize l++[max ((e.2.2.length:Int)-21) 0]=l2 at *
   refine IH (i+1,a2,c2,l2) _ _ ?_ ?_ ?_ ?_
   ·simp only;omega
   ·exact ⟨rfl,rfl,trivial⟩
   ·repeat first|with_reducible apply Agr.refl|refine Agr.upd rfl ?_|refine Agr.updL rfl ?_|refine Agr.mrg rfl ?_
   ·exact ⟨by omega,hl2.symm,hH⟩
 ·obtain rfl:i=n:=by omega
  have hl3:l=szs es:=by rw [hl,List.take_of_length_le (by omega)]
  have hll:es.length=l.length:=by rw [hl3];simp [szs]
  repeat (first|refine WS_seq ?_|refine WS_region ?_|refine WL_nil ?_|refine WS_exit rfl ?_|refine WS_no rfl (by omega) ?_|refine lp rfl rfl ?_)
  exact WS_ret1 Tryz.func9 rfl ⟨a1,c1,by rw [hll];rfl,by rw [← hl3];exact (hH.o 0 rfl).sl,hH.ext⟩
end Go.Proofs.YtpbiicegmcpkpaaGreat
