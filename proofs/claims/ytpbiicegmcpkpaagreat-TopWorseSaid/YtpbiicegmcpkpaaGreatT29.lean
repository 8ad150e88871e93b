/- A part of the proof that TopWorse is true at every input; no condition. -/
import Derived.Test.YtpbiicegmcpkpaaGreatT13
import Derived.Test.YtpbiicegmcpkpaaGreatT28
namespace Go.Proofs.YtpbiicegmcpkpaaGreat
open Go Go.K Go.P Go.RowKit Go.Proofs
structure GR where
 f:Nat
 a:Option Addr
 cap:Nat
 ms:List MB
abbrev GR.cells (g:GR):List Value:=[.int .i64 g.f,.slice g.a g.ms.length g.cap]
structure PR where
 h:PH
 a:Option Addr
 cap:Nat
 gs:List GR
abbrev PR.cells (p:PR):List Value:=[.int .i64 p.h.id,.bool p.h.inter,.bool p.h.down,.int .i64 p.h.qp,.slice p.a p.gs.length p.cap]
structure ST where
 h:SH
 a:Option Addr
 cap:Nat
 ps:List PR
abbrev ST.cells (s:ST):List Value:=.int .i64 s.h.c::.int .i64 s.h.r::(s.h.tc++[.slice s.a s.ps.length s.cap])
abbrev GR.rd (w:World) (g:GR):Prop:=SlA w g.a (mcs g.ms)
def PR.rd (w:World) (p:PR):Prop:=SlA w p.a (p.gs.flatMap GR.cells)∧∀ g∈p.gs,g.rd w
def ST.rd (w:World) (s:ST):Prop:=SlA w s.a (s.ps.flatMap PR.cells)∧∀ p∈s.ps,p.rd w
theorem PR.rd.ext {w w':World} {p:PR} (h:p.rd w) (hE:Ext [] w w'):p.rd w':=⟨h.1.ext0 hE,fun g hg=>(h.2 g hg).ext0 hE⟩
theorem ST.rd.ext {w w':World} {s:ST} (h:s.rd w) (hE:Ext [] w w'):s.rd w':=⟨h.1.ext0 hE,fun p hp=>(h.2 p hp).ext hE⟩
def gok (inter:Bool) (hq:Int):Nat→List GR→Nat→Prop
 | n,[],e=>n=e
 | n,g::l,e=>g.f=n∧(1≤g.ms.length∧g.ms.length≤5)∧chn inter hq g.ms∧gok inter hq (n+g.ms.length) l e
theorem gok_le {inter:Bool} {hq:Int}:∀ {n:Nat} {l:List GR} {e:Nat},gok inter hq n l e→n+l.length≤e
 | _,[],_,h=>Nat.le_of_eq h
 | n,g::l,e,h=>by have:=gok_le h.2.2.2;have:=h.2.1;simp only [List.length_cons];omega
structure PR.ok (C R i:Nat) (p:PR):Prop where
 id:p.h.id=i
 err:p.h.err=0
 first:i=0→p.h.inter=false
 gs:gok p.h.inter p.h.qp 0 p.gs (C*R)
structure ST.ok (C R:Nat) (s:ST):Prop where
 ho:s.h.ok
 err:s.h.err=0
 c:s.h.c=C
 r:s.h.r=R
 len:1≤s.ps.length∧s.ps.length≤16
 ps:∀ (i:Nat) (p:PR),s.ps[i]?=some p→p.ok C R i
theorem fm_len {α:Type} {f:α→List Value} {sz:Nat}:∀ {l:List α},(∀ x∈l,(f x).length=sz)→(l.flatMap f).length=l.length*sz
 | [],_=>by simp
 | m::ms,h=>by
  rw [List.flatMap_cons,List.length_append,h m (by simp),fm_len (fun x hx=>h x (by simp [hx])),List.length_cons,Nat.add_mul]
  omega
theorem fm_at {α:Type} {f:α→List Value} {sz:Nat}:∀ {l:List α} {i:Nat} {m:α},(∀ x∈l,(f x).length=sz)→l[i]?=some m→((l.flatMap f).drop (i*sz)).take sz=f m
 | a::ms,0,m,h,hi=>by
  obtain rfl:a=m:=Option.some.inj hi
  rw [Nat.zero_mul,List.drop_zero,List.flatMap_cons,List.take_left' (h a (by simp))]
 | a::ms,i+1,m,h,hi=>by
  rw [List.flatMap_cons,Nat.add_mul,Nat.one_mul,Nat.add_comm,← List.drop_drop,List.drop_left' (h a (by simp))]
  exact fm_at (fun x hx=>h x (by simp [hx])) (by simpa using hi)
theorem drop_at {α:Type} {l:List α} {i:Nat} {m:α} (h:l[i]?=some m):l.drop i=m::l.drop (i+1):=by
 have h2:=(List.getElem?_eq_some_iff.1 h)
 rw [List.drop_eq_getElem_cons h2.1,h2.2]
theorem c_bounds {h:SH} {C R:Nat} (he:h.err=0) (hc:h.c=C) (hr:h.r=R):(1≤C∧C≤8)∧(1≤R∧R≤8)∧C*R≤64:=by
 unfold SH.err at he
 split at he
 ·cases he
 ·rename_i h1
  have h2:C≤8∧R≤8:=by omega
  exact ⟨by omega,by omega,Nat.mul_le_mul h2.1 h2.2⟩
theorem qp_bounds {h:PH} (he:h.err=0):1≤h.qp∧h.qp≤31:=by
 unfold PH.err at he
 split at he
 ·cases he
 ·split at he
  ·cases he
  ·omega
set_option maxRecDepth 20000 in
set_option maxHeartbeats 16000000 in
theorem groups_spec {s:ST} {p:PR} {C R i0:Nat} {w:World} (hs:s.ok C R) (hp:p.ok C R i0) (hrd:p.rd w) :
  Does Tryz.prog 56 #[.agg s.cells.toArray,.agg p.cells.toArray] w fun v w'=>v=.int .i64 0∧Ext [] w w':=by
 refine Does_of (args:=[_,_]) Tryz.func56 rfl rfl Tryz.ntmps56 rfl ?_
 have hH:=Hp.start w
 obtain ⟨hC,hR,hCR⟩:=c_bounds hs.err hs.c hs.r
 have hq1:=qp_bounds hp.err
 have hgok:=hp.gs
 have hgl0:=gok_le hgok
 have hcm:(C:Int)*R=((C*R:Nat):Int):=by simp
 have s0:s.cells.toArray[0]?=some (.int .i64 C):=by rw [← hs.c];rfl
 have s1:s.cells.toArray[1]?=some (.int .i64 R):=by rw [← hs.r];rfl
 repeat (first|refine WS_seq ?_|refine WS_region ?_)
 refine WL_s (H_box (cs:=s.cells.toArray) hH rfl rfl rfl ?_)
 try clear hH
 intro _ b2 hH
 replace hH:=nn1 hH
 refine WL_s (H_box (cs:=p.cells.toArray) hH rfl rfl rfl ?_)
 try clear hH
 intro _ b3 hH
 replace hH:=nn2 hH
 have hB3:=hH.b 1 rfl
 repeat (first|refine WS_seq ?_|refine WS_region ?_|refine WL_nil ?_|refine WS_block ?_|(refine WL_r (by first|refine k_fa rfl (Ty.fld rfl rfl)|refine k_loadb rfl hB3 rfl (Ty.shp rfl)|refine Run_pev rfl|refine k_len rfl (Ty.isl rfl)) rfl ?_))
 clear hB3
 refine WS_loop (G:=(Nat) × (Nat)) (fun|(i,nx)=>p.gs.length-i) 144115188075826608 (fun|(i,nx)=>[(5,.int .i64 nx),(15,.int .i64 i)]) (fun|(i,nx),w'=>i≤p.gs.length∧gok p.h.inter p.h.qp nx (p.gs.drop i) (C*R)∧Hp [] w w' [Rb b2 37 s.cells.toArray,Rb b3 72 p.cells.toArray]) (0,0) ⟨rfl,rfl,trivial⟩ ⟨by omega,hgok,hH⟩ ?_
 rintro ⟨i,nx⟩ w' σ ⟨hi,hg,hH⟩ IH
 show WS _ _ _ _ _ (updL [(5,.int .i64 nx),(15,.int .i64 i)] _) _
 by_cases hlt:i<p.gs.length
 ·obtain ⟨g,hgi⟩:∃ g,p.gs[i]?=some g:=⟨_,List.getElem?_eq_getElem (by omega)⟩
  have hgm:=List.mem_of_getElem? hgi
  have hSg:=hrd.1.ext0 hH.ext
  have hat:=fm_at (f:=GR.cells) (sz:=2) (fun _ _=>rfl) hgi
  have hle:=fm_len (f:=GR.cells) (sz:=2) (l:=p.gs) (fun _ _=>rfl)
  rw [drop_at hgi] at hg
  have hgl:=gok_le hg.2.2.2
  obtain ⟨hgf,hgn,hgc,hgt⟩:=hg
  have hok:=chn_ok hgc
  repeat (first|refine WS_seq ?_|refine WS_region ?_|refine WL_nil ?_|refine WS_block ?_|refine WS_skip ?_|refine WS_yes rfl (by omega) ?_|(refine WL_r (by first|refine k_ix (sz:=2) rfl rfl hSg hle (by decide) (Ty.sle rfl) (by omega)|refine k_loadC (j:=i*2) (cs:=g.cells) rfl hSg hat rfl (Ty.shp rfl)|refine Run_pev rfl) rfl ?_))
  clear hSg
  refine WL_s (H_alloc hH (Ty.zer rfl) rfl ?_)
  try clear hH
  intro _ b7 hH
  replace hH:=nn3 hH
  refine WL_s (H_storeA 2 (vs:=g.cells.toArray) (s:=2) hH rfl rfl rfl (by rfl) (by rfl) (by simp [Value.oneCell']) (Ty.shp rfl) ?_)
  try clear hH
  intro _ hH
  replace hH:=nn3 hH
  have hB7:=hH.b 2 rfl
  have hB3:=hH.b 1 rfl
  repeat (first|refine WS_seq ?_|refine WS_region ?_|refine WL_nil ?_|refine WS_block ?_|refine WS_skip ?_|refine WS_no rfl (by omega) ?_|refine WL_gyes rfl rfl (dF (by omega)) ?_|(refine WL_r (by first|refine k_fa rfl (Ty.fld rfl rfl)|refine k_loadb rfl hB7 rfl (Ty.shp rfl)|refine k_loadb rfl hB3 rfl (Ty.shp rfl)|refine Run_pev rfl|refine k_len rfl (Ty.isl rfl)|refine k_pick_f (dF (by omega)) rfl) rfl ?_))
  clear hB7 hB3
  refine WS_loop (G:=(Nat) × (Int)) (fun|(j,q)=>g.ms.length-j) 2251765453950224 (fun|(j,q)=>[(8,.int .i64 q),(35,.int .i64 j)]) (fun|(j,q),w'=>j≤g.ms.length∧(1≤q∧q≤31)∧chn p.h.inter q (g.ms.drop j)∧Hp [] w w' [Rb b2 37 s.cells.toArray,Rb b3 72 p.cells.toArray,Rb b7 80 g.cells.toArray]) (0,p.h.qp) ⟨rfl,rfl,trivial⟩ ⟨by omega,hq1,hgc,hH⟩ ?_
  rintro ⟨j,q⟩ w' σ ⟨hj,hq,hch,hH⟩ IH2
  show WS _ _ _ _ _ (updL [(8,.int .i64 q),(35,.int .i64 j)] _) _
  by_cases hjl:j<g.ms.length
  ·obtain ⟨m,hm⟩:∃ m,g.ms[j]?=some m:=⟨_,List.getElem?_eq_getElem (by omega)⟩
   have hSm:SlA w' g.a (mcs g.ms):=(hrd.2 g hgm).ext0 hH.ext
   rw [drop_at hm] at hch
   obtain ⟨hmo,hmi,hmq,hch⟩:=hch
   have hml:=mcl_len (k:=m.k) (q:=m.q) (u0:=m.u0) (u1:=m.u1) (u2:=m.u2) (u3:=m.u3) (e:=m.e) hmo.len
   have hma:=mcs_at hok hm
   repeat (first|refine WS_seq ?_|refine WS_region ?_|refine WL_nil ?_|refine WS_block ?_|refine WS_skip ?_|refine WS_yes rfl (by omega) ?_|(refine WL_r (by first|refine k_ix (sz:=391) rfl rfl hSm (by rw [mcs_len hok]) (by decide) (Ty.sle rfl) (by omega)|refine k_loadC (j:=j*391) (cs:=m.cells) rfl hSm hma hml (Ty.shp rfl)|refine Run_pev rfl) rfl ?_))
   clear hSm
   refine WL_s (H_alloc hH (Ty.zer rfl) rfl ?_)
   try clear hH
   intro _ b10 hH
   replace hH:=nn4 hH
   refine WL_s (H_storeA 3 (vs:=m.cells.toArray) (s:=391) hH rfl rfl rfl (by simp [hml]) rfl (mcl_one hmo) (Ty.shp rfl) ?_)
   clear hH
   intro _ hH
   replace hH:=nn4 hH
   have hB10:=hH.b 3 rfl
   have hB3:=hH.b 1 rfl
   repeat (first|refine WS_seq ?_|refine WS_region ?_|refine WL_nil ?_|(refine WL_r (by first|refine k_fa rfl (Ty.fld rfl rfl)|refine k_loadA rfl hB10 (by simp [hml]) (Ty.shp rfl)|refine k_loadb rfl hB3 rfl (Ty.shp rfl)|refine Run_pev rfl) rfl ?_))
   clear hB10 hB3
   refine WL_s (S_call ((mcheck_gen hmo hq hmi hmq)) rfl rfl ?_)
   rintro _ _ ⟨rfl,hE0⟩
   replace hH:=hH.ext0 hE0
   clear hE0
   replace hH:=nn4 hH
   have hB10:=hH.b 3 rfl
   repeat (first|refine WS_seq ?_|refine WS_region ?_|refine WL_nil ?_|refine WS_inBlock ?_|refine WS_skip ?_|refine WS_false rfl ?_|(refine WL_r (by first|refine k_fa rfl (Ty.fld rfl rfl)|refine k_loadb rfl hB10 rfl (Ty.shp rfl)|refine Run_pev rfl|refine k_add64 rfl rfl (by omega)) rfl ?_))
   clear hB10
   replace hH:=hH.del 3
   replace hH:=nn3 hH
   refine IH2 (j+1,m.q) _ _ ?_ ?_ ?_ ?_
   ·simp only;omega
   ·exact ⟨rfl,rfl,trivial⟩
   ·repeat first|with_reducible apply Agr.refl|refine Agr.upd rfl ?_|refine Agr.updL rfl ?_|refine Agr.mrg rfl ?_
   ·exact ⟨by omega,hmo.q1,hch,hH⟩
  ·obtain rfl:j=g.ms.length:=by omega
   clear IH2
   have hB7:=hH.b 2 rfl
   have hnx:(nx:Int)+g.ms.length=((nx+g.ms.length:Nat):Int):=by omega
   repeat (first|refine WS_seq ?_|refine WS_region ?_|refine WL_nil ?_|refine WS_inBlock ?_|refine WS_exit rfl ?_|refine WS_no rfl (by omega) ?_|(refine WL_r (by first|refine k_fa rfl (Ty.fld rfl rfl)|refine k_loadb rfl hB7 rfl (Ty.shp rfl)|refine (k_add64 (m:=nx) (n:=g.ms.length) rfl rfl (by omega)).is (congrArg (Value.int .i64) hnx)|refine Run_pev rfl|refine k_add64 rfl rfl (by omega)|refine k_len rfl (Ty.isl rfl)) rfl ?_))
   clear hB7
   replace hH:=hH.del 2
   replace hH:=nn2 hH
   refine IH (i+1,nx+g.ms.length) _ _ ?_ ?_ ?_ ?_
   ·simp only;omega
   ·exact ⟨rfl,rfl,trivial⟩
   ·repeat first|with_reducible apply Agr.refl|refine Agr.upd rfl ?_|refine Agr.updL rfl ?_|refine Agr.mrg rfl ?_
   ·exact ⟨by omega,hgt,hH⟩
 ·obtain rfl:i=p.gs.length:=by omega
  rw [List.drop_length] at hg
  obtain rfl:nx=C*R:=hg
  have hB2:=hH.b 0 rfl
  repeat (first|refine WS_seq ?_|refine WS_region ?_|refine WL_nil ?_|refine WS_skip ?_|refine WS_exit rfl ?_|refine WS_no rfl (by omega) ?_|(refine WL_r (by first|refine k_fa rfl (Ty.fld rfl rfl)|refine k_loadb rfl hB2 s0 (Ty.shp rfl)|refine k_loadb rfl hB2 s1 (Ty.shp rfl)|refine (k_mul64 (m:=C) (n:=R) rfl rfl (by omega)).is (congrArg (Value.int .i64) hcm)|refine Run_pev rfl) rfl ?_))
  exact WS_ret1 Tryz.func56 rfl ⟨rfl,hH.ext⟩
set_option maxRecDepth 20000 in
set_option maxHeartbeats 16000000 in
theorem scheck_spec {s:ST} {C R:Nat} {w:World} (hs:s.ok C R) (hrd:s.rd w) :
  Does Tryz.prog 36 #[.agg s.cells.toArray] w fun v w'=>v=.int .i64 0∧Ext [] w w':=by
 refine Does_of (args:=[_]) Tryz.func36 rfl rfl Tryz.ntmps36 rfl ?_
 have hH:=Hp.start w
 have hlen:=hs.len
 have htc:=SH.tc_len hs.ho
 have hck:=fun w=>hcheck_spec hs.ho (w:=w)
 simp only [hs.err] at hck
 have h131:(s.cells.drop 0).take 131=s.h.cells:=by
  show (s.h.cells++[_]).take 131=_
  rw [List.take_left' (SH.cells_len hs.ho)]
 have s131:s.cells.toArray[131]?=some (.slice s.a s.ps.length s.cap):=by
  show (s.h.cells++[_]).toArray[131]?=_
  rw [List.getElem?_toArray,List.getElem?_append_right (by rw [SH.cells_len hs.ho];decide),SH.cells_len hs.ho]
  rfl
 repeat (first|refine WS_seq ?_|refine WS_region ?_)
 refine WL_s (H_box (cs:=s.cells.toArray) hH rfl rfl rfl ?_)
 try clear hH
 intro _ b1 hH
 replace hH:=nn1 hH
 have hS1:SlA _ (some ⟨b1,0,none⟩) s.cells:=(hH.b 0 rfl).sl0
 repeat (first|refine WS_seq ?_|refine WS_region ?_|refine WL_nil ?_|(refine WL_r (by first|refine k_fa rfl (Ty.fld rfl rfl)|refine k_loadC (j:=0+0) (cs:=s.h.cells) rfl hS1 h131 (SH.cells_len hs.ho) (Ty.shp rfl)|refine Run_pev rfl) rfl ?_))
 clear hS1
 refine WL_s (S_call ((hck _)) rfl rfl ?_)
 rintro _ _ ⟨rfl,hE0⟩
 replace hH:=hH.ext0 hE0
 clear hE0
 replace hH:=nn1 hH
 have hB1:=hH.b 0 rfl
 repeat (first|refine WS_seq ?_|refine WS_region ?_|refine WL_nil ?_|refine WS_block ?_|refine WS_skip ?_|refine WS_false rfl ?_|refine WS_no rfl (by omega) ?_|refine WL_gyes rfl rfl (dF (by omega)) ?_|(refine WL_r (by first|refine k_fa rfl (Ty.fld rfl rfl)|refine k_loadb rfl hB1 s131 (Ty.shp rfl)|refine Run_pev rfl|refine k_len rfl (Ty.isl rfl)|refine k_pick_f (dF (by omega)) rfl) rfl ?_))
 clear hB1
 refine WS_loop (G:=(Nat)) (fun i=>s.ps.length-i) 576460752169206004 (fun i=>[(27,.int .i64 i)]) (fun i w'=>i≤s.ps.length∧Hp [] w w' [Rb b1 37 s.cells.toArray]) (0) ⟨rfl,trivial⟩ ⟨by omega,hH⟩ ?_
 rintro i w' σ ⟨hi,hH⟩ IH
 show WS _ _ _ _ _ (updL [(27,.int .i64 i)] _) _
 by_cases hlt:i<s.ps.length
 ·obtain ⟨p,hpi⟩:∃ p,s.ps[i]?=some p:=⟨_,List.getElem?_eq_getElem (by omega)⟩
  have hpo:=hs.ps i p hpi
  have hSg:=hrd.1.ext0 hH.ext
  have hat:=fm_at (f:=PR.cells) (sz:=5) (fun _ _=>rfl) hpi
  have hle:=fm_len (f:=PR.cells) (sz:=5) (l:=s.ps) (fun _ _=>rfl)
  have hpk:=fun w=>pcheck_spec p.h w
  simp only [hpo.err] at hpk
  have hid:=hpo.id
  repeat (first|refine WS_seq ?_|refine WS_region ?_|refine WL_nil ?_|refine WS_block ?_|refine WS_skip ?_|refine WS_yes rfl (by omega) ?_|(refine WL_r (by first|refine k_ix (sz:=5) rfl rfl hSg hle (by decide) (Ty.sle rfl) (by omega)|refine k_loadC (j:=i*5) (cs:=p.cells) rfl hSg hat rfl (Ty.shp rfl)|refine Run_pev rfl) rfl ?_))
  clear hSg
  refine WL_s (H_alloc hH (Ty.zer rfl) rfl ?_)
  try clear hH
  intro _ b5 hH
  replace hH:=nn2 hH
  repeat (refine lp rfl rfl ?_)
  refine WL_s (H_storeA 1 (vs:=p.cells.toArray) (s:=5) hH rfl rfl rfl (by rfl) (by rfl) (by simp [Value.oneCell']) (Ty.shp rfl) ?_)
  try clear hH
  intro _ hH
  replace hH:=nn2 hH
  have hS5:SlA _ (some ⟨b5,0,none⟩) p.cells:=(hH.b 1 rfl).sl0
  repeat (first|refine WS_seq ?_|refine WS_region ?_|refine WL_nil ?_|(refine WL_r (by first|refine k_fa rfl (Ty.fld rfl rfl)|refine k_loadC (j:=0+0) (cs:=p.h.cells) rfl hS5 rfl rfl (Ty.shp rfl)) rfl ?_))
  clear hS5
  refine WL_s (S_call ((hpk _)) rfl rfl ?_)
  rintro _ _ ⟨rfl,hE0⟩
  replace hH:=hH.ext0 hE0
  clear hE0
  replace hH:=nn2 hH
  have hB5:=hH.b 1 rfl
  have hB1:=hH.b 0 rfl
  by_cases h0:i=0
  ·have hin:=hpo.first h0
   repeat (first|refine WS_seq ?_|refine WS_region ?_|refine WL_nil ?_|refine WS_skip ?_|refine WS_false rfl ?_|refine WL_gyes rfl rfl (dF (by omega)) ?_|refine WL_gyes rfl rfl (dT (by omega)) ?_|(refine WL_r (by first|refine k_fa rfl (Ty.fld rfl rfl)|refine (k_loadb rfl hB5 (show p.cells.toArray[1]?=some (.bool false) by rw [← hin];rfl) (Ty.shp rfl))|refine k_loadb rfl hB5 rfl (Ty.shp rfl)|refine k_loadA rfl hB1 (by simp [htc]) (Ty.shp rfl)|refine k_loadA rfl hB5 rfl (Ty.shp rfl)|refine Run_pev rfl|refine k_pick_f (dF (by omega)) rfl|refine k_pick_t (dT (by omega)) rfl) rfl ?_))
   clear hB5 hB1
   refine WL_s (S_call ((groups_spec hs hpo ((hrd.2 p (List.mem_of_getElem? hpi)).ext hH.ext))) rfl rfl ?_)
   rintro _ _ ⟨rfl,hE0⟩
   replace hH:=hH.ext0 hE0
   clear hE0
   replace hH:=nn2 hH
   repeat (first|refine WS_seq ?_|refine WS_region ?_|refine WL_nil ?_|refine WS_inBlock ?_|refine WS_skip ?_|refine WS_false rfl ?_|(refine WL_r (by first|refine Run_pev rfl|refine k_add64 rfl rfl (by omega)) rfl ?_))
   replace hH:=hH.del 1
   replace hH:=nn1 hH
   refine IH (i+1) _ _ ?_ ?_ ?_ ?_
   ·omega
   ·exact ⟨rfl,trivial⟩
   ·repeat first|with_reducible apply Agr.refl|refine Agr.upd rfl ?_|refine Agr.updL rfl ?_|refine Agr.mrg rfl ?_
   ·exact ⟨by omega,hH⟩
  ·skip
   repeat (first|refine WS_seq ?_|refine WS_region ?_|refine WL_nil ?_|refine WS_skip ?_|refine WS_false rfl ?_|refine WL_gyes rfl rfl (dF (by omega)) ?_|refine WL_gno (b:=false) rfl rfl (dF (by omega)) rfl rfl ?_|(refine WL_r (by first|refine k_fa rfl (Ty.fld rfl rfl)|refine k_loadb rfl hB5 rfl (Ty.shp rfl)|refine k_loadA rfl hB1 (by simp [htc]) (Ty.shp rfl)|refine k_loadA rfl hB5 rfl (Ty.shp rfl)|refine Run_pev rfl|refine k_pick_f (dF (by omega)) rfl) rfl ?_))
   clear hB5 hB1
   refine WL_s (S_call ((groups_spec hs hpo ((hrd.2 p (List.mem_of_getElem? hpi)).ext hH.ext))) rfl rfl ?_)
   rintro _ _ ⟨rfl,hE0⟩
   replace hH:=hH.ext0 hE0
   clear hE0
   replace hH:=nn2 hH
   repeat (first|refine WS_seq ?_|refine WS_region ?_|refine WL_nil ?_|refine WS_inBlock ?_|refine WS_skip ?_|refine WS_false rfl ?_|(refine WL_r (by first|refine Run_pev rfl|refine k_add64 rfl rfl (by omega)) rfl ?_))
   replace hH:=hH.del 1
   replace hH:=nn1 hH
   refine IH (i+1) _ _ ?_ ?_ ?_ ?_
   ·omega
   ·exact ⟨rfl,trivial⟩
   ·repeat first|with_reducible apply Agr.refl|refine Agr.upd rfl ?_|refine Agr.updL rfl ?_|refine Agr.mrg rfl ?_
   ·exact ⟨by omega,hH⟩
 ·obtain rfl:i=s.ps.length:=by omega
  repeat (first|refine WS_seq ?_|refine WS_region ?_|refine WL_nil ?_|refine WS_exit rfl ?_|refine WS_no rfl (by omega) ?_|refine lp rfl rfl ?_)
  exact WS_ret1 Tryz.func36 rfl ⟨rfl,hH.ext⟩
end Go.Proofs.YtpbiicegmcpkpaaGreat
namespace Go.Proofs.YtpbiicegmcpkpaaGreat
open Go Go.K Go.P Go.RowKit Go.Proofs
abbrev BT:=Option Addr × Nat × List Nat
abbrev bsl (e:BT):Value:=.slice e.1 e.2.2.length e.2.1
def RL (es:List BT):Res where
 fp:=es.flatMap fun e=>(Rs e.1 (e.2.2.map B)).fp
 holds:=fun w=>∀ e∈es,SlA w e.1 (e.2.2.map B)
 keep:=fun h hE hS e he=>(Rs e.1 (e.2.2.map B)).keep (h e he) hE (fun s hs hb=>hS s hs (List.mem_flatMap.2 ⟨e,he,hb⟩))
 lt:=fun h s hs=>by
  obtain ⟨e,he,hse⟩:=List.mem_flatMap.1 hs
  exact (Rs e.1 (e.2.2.map B)).lt (h e he) s hse
theorem RL.add {S:List Nat} {W w:World} {H:List Res} {es:List BT} {e:BT} (i j:Nat) (h:Hp S W w H) (hi:H[i]?=some (RL es)) (hj:H[j]?=some (Rs e.1 (e.2.2.map B))) (hij:i<j) :
  Hp S W w (((H.set i (sep (RL es) (Rs e.1 (e.2.2.map B)))).eraseIdx j).set i (RL (es++[e]))):=by
 have h1:=h.merge i j hi hj (by omega)
 have hil:=(List.getElem?_eq_some_iff.1 hi).1
 refine h1.as i (r:=sep (RL es) (Rs e.1 (e.2.2.map B))) ?_ (fun x hx=>?_) (fun hh=>?_)
 ·rw [List.getElem?_eraseIdx,if_pos hij,List.getElem?_set_self hil]
 ·obtain ⟨e',he',hxe⟩:=List.mem_flatMap.1 hx
  rcases List.mem_append.1 he' with he'|he'
  ·exact List.mem_append.2 (.inl (List.mem_flatMap.2 ⟨e',he',hxe⟩))
  ·simp at he';subst he'
   exact List.mem_append.2 (.inr hxe)
 ·intro e' he'
  rcases List.mem_append.1 he' with he'|he'
  ·exact hh.1 e' he'
  ·simp at he';subst he'
   exact hh.2.1
def pkt (e:BT):Prop:=∃ (d:PD) (A Bb:List Nat),e.2.2=phd d++A++Bb∧d.n=A.length∧d.m=Bb.length∧(1≤A.length∧A.length≤30000)∧(1≤Bb.length∧Bb.length≤30000)∧Byt A∧Byt Bb∧e.2.2.length≤e.2.1
def npk (ps:List PR):Nat:=(ps.map fun p=>p.gs.length).sum
theorem npk_take {ps:List PR} {i:Nat} {p:PR} (h:ps[i]?=some p):npk (ps.take (i+1))=npk (ps.take i)+p.gs.length:=by
 rw [npk,npk,List.take_add_one,h];simp
theorem gok_at {inter:Bool} {hq:Int}:∀ {n:Nat} {l:List GR} {e:Nat} {j:Nat} {g:GR},gok inter hq n l e→l[j]?=some g→g.f+g.ms.length≤e∧(1≤g.ms.length∧g.ms.length≤5)∧chn inter hq g.ms
 | n,g::l,e,0,g',h,hj=>by
  obtain rfl:g=g':=Option.some.inj hj
  have:=gok_le h.2.2.2
  exact ⟨by rw [h.1];omega,h.2.1,h.2.2.1⟩
 | n,g::l,e,j+1,g',h,hj=>gok_at h.2.2.2 (by simpa using hj)
theorem perr_of {h:PH} {f c all:Int} {la lb:Nat} (he:h.err=0) (h1:0≤f∧1≤c∧f+c≤all∧all≤64) (h2:(1≤la∧la≤30000)∧1≤lb∧lb≤30000):perr h f c la lb all=0:=by
 unfold perr
 rw [if_neg (by simp [he]),if_neg (by omega),if_neg (by omega)]
set_option maxRecDepth 20000 in
set_option maxHeartbeats 16000000 in
theorem packets_spec {s:ST} {C R:Nat} {w:World} (hs:s.ok C R) (hrd:s.rd w) :
  Does Tryz.prog 19 #[.agg s.cells.toArray] w fun v w'=>∃ (a:Option Addr) (c:Nat) (e0:BT) (es:List BT),v=.tuple #[.slice a (es.length+1) c,.int .i64 0]∧es.length=npk s.ps∧(∀ e∈es,pkt e)∧es.length+1≤c∧e0.2.2.length≤e0.2.1∧e0.2.2.length≤1000∧Hp [] w w' [RL (e0::es),Rs a ((e0::es).map bsl)]:=by
 refine Does_of (args:=[_]) Tryz.func19 rfl rfl Tryz.ntmps19 rfl ?_
 have hH:=Hp.start w
 obtain ⟨hC,hR,hCR⟩:=c_bounds hs.err hs.c hs.r
 have hlen:=hs.len
 have htc:=SH.tc_len hs.ho
 have hcm:(C:Int)*R=((C*R:Nat):Int):=by simp
 have s0:s.cells.toArray[0]?=some (.int .i64 C):=by rw [← hs.c];rfl
 have s1:s.cells.toArray[1]?=some (.int .i64 R):=by rw [← hs.r];rfl
 have h131:(s.cells.drop 0).take 131=s.h.cells:=by
  show (s.h.cells++[_]).take 131=_
  rw [List.take_left' (SH.cells_len hs.ho)]
 have s131:s.cells.toArray[131]?=some (.slice s.a s.ps.length s.cap):=by
  show (s.h.cells++[_]).toArray[131]?=_
  rw [List.getElem?_toArray,List.getElem?_append_right (by rw [SH.cells_len hs.ho];decide),SH.cells_len hs.ho]
  rfl
 repeat (first|refine WS_seq ?_|refine WS_region ?_)
 refine WL_s (H_box (cs:=s.cells.toArray) hH rfl rfl rfl ?_)
 try clear hH
 intro _ b1 hH
 replace hH:=nn1 hH
 have hB1:=hH.b 0 rfl
 repeat (first|refine WS_seq ?_|refine WS_region ?_|refine WL_nil ?_|(refine WL_r (by first|refine k_loadA rfl hB1 (by simp [htc]) (Ty.shp rfl)|refine Run_pev rfl) rfl ?_))
 refine WL_s (S_call ((scheck_spec hs (hrd.ext hH.ext))) rfl rfl ?_)
 rintro _ _ ⟨rfl,hE0⟩
 replace hH:=hH.ext0 hE0
 clear hE0
 replace hH:=nn1 hH
 clear hB1
 have hS1:SlA _ (some ⟨b1,0,none⟩) s.cells:=(hH.b 0 rfl).sl0
 repeat (first|refine WS_seq ?_|refine WS_region ?_|refine WL_nil ?_|refine WS_skip ?_|refine WS_false rfl ?_|(refine WL_r (by first|refine k_fa rfl (Ty.fld rfl rfl)|refine k_loadC (j:=0+0) (cs:=s.h.cells) rfl hS1 h131 (SH.cells_len hs.ho) (Ty.shp rfl)|refine Run_pev rfl) rfl ?_))
 clear hS1
 refine WL_s (S_call ((hput_spec hs.ho hs.err)) rfl rfl ?_)
 rintro _ _ ⟨a0,c0,rfl,hN⟩
 replace hH:=hH.nu hN
 clear hN
 replace hH:=nn2 hH
 have hO0:=hH.o 1 rfl
 have hol:s.h.out.length≤1000:=by rw [SH.out_len hs.ho hs.err];split<;>decide
 replace hH:=Rs.of 1 hH rfl
 replace hH:=nn2 hH
 have hc0:s.h.out.length≤c0:=hO0.2.1
 repeat (first|refine WS_seq ?_|refine WS_region ?_|refine WL_nil ?_|refine WS_skip ?_|refine WS_false rfl ?_|(refine WL_r (by first|refine Run_pev rfl|refine k_extract rfl rfl) rfl ?_))
 refine WL_s (H_lit (out:=[.slice a0 s.h.out.length c0]) hH (Ty.sle rfl) (Ty.zer rfl) rfl rfl rfl (by decide) rfl ?_)
 try clear hH
 intro _ b7 hH
 replace hH:=nn3 hH
 repeat (first|refine WS_seq ?_|refine WS_region ?_|refine WL_nil ?_|refine lp rfl rfl ?_)
 refine WL_s (S_call (pnew_spec) rfl rfl ?_)
 rintro _ _ ⟨k,hk,rfl,hN⟩
 replace hH:=hH.nu hN
 clear hN
 replace hH:=nn4 hH
 replace hH:=hH.as (r':=Ro 40 1 (some ⟨b7,0,none⟩) 1 1 [.slice a0 s.h.out.length c0]) 2 rfl (fun _ hx=>hx) (fun hB=>hB.own rfl (by decide))
 replace hH:=hH.as (r':=RL [(a0,c0,s.h.out)]) 1 rfl (fun x hx=>by simpa [RL] using hx) (fun hB e he=>by simp at he;subst he;exact hB)
 replace hH:=nn4 hH
 have hel0:((a0,c0,s.h.out):BT).2.2.length≤1000:=hol
 have hec0:((a0,c0,s.h.out):BT).2.2.length≤((a0,c0,s.h.out):BT).2.1:=hc0
 change Hp [] w _ [Rb b1 37 s.cells.toArray,RL ((a0,c0,s.h.out)::[]),Ro 40 1 (some ⟨b7,0,none⟩) (([]:List BT).length+1) 1 (((a0,c0,s.h.out)::[]).map bsl),RK k] at hH
 generalize ((a0,c0,s.h.out):BT)=e0 at hH hel0 hec0
 have hB1:=hH.b 0 rfl
 repeat (first|refine WS_seq ?_|refine WS_region ?_|refine WL_nil ?_|refine WS_block ?_|(refine WL_r (by first|refine k_fa rfl (Ty.fld rfl rfl)|refine k_loadb rfl hB1 s131 (Ty.shp rfl)|refine Run_pev rfl|refine k_len rfl (Ty.isl rfl)) rfl ?_))
 clear hB1
 refine WS_loop (G:=(Nat) × (Option Addr) × (Nat) × (List BT)) (fun|(i,a,cap,es)=>s.ps.length-i) 39614081257132168659333149836 (fun|(i,a,cap,es)=>[(7,.slice a (es.length+1) cap),(37,.int .i64 i)]) (fun|(i,a,cap,es),w'=>i≤s.ps.length∧es.length=npk (s.ps.take i)∧es.length≤64*i∧(∀ e∈es,pkt e)∧Hp [] w w' [Rb b1 37 s.cells.toArray,RL (e0::es),Ro 40 1 a (es.length+1) cap ((e0::es).map bsl),RK k]) (0,some ⟨b7,0,none⟩,1,[]) ⟨rfl,rfl,trivial⟩ ⟨by omega,rfl,by decide,by simp,hH⟩ ?_
 rintro ⟨i,a,cap,es⟩ w' σ ⟨hi,hel,he64,hpk,hH⟩ IH
 show WS _ _ _ _ _ (updL [(7,.slice a (es.length+1) cap),(37,.int .i64 i)] _) _
 by_cases hlt:i<s.ps.length
 ·obtain ⟨p,hpi⟩:∃ p,s.ps[i]?=some p:=⟨_,List.getElem?_eq_getElem (by omega)⟩
  have hpm:=List.mem_of_getElem? hpi
  have hpo:=hs.ps i p hpi
  have hgl0:=gok_le hpo.gs
  have hSg:=hrd.1.ext0 hH.ext
  have hat:=fm_at (f:=PR.cells) (sz:=5) (fun _ _=>rfl) hpi
  have hle:=fm_len (f:=PR.cells) (sz:=5) (l:=s.ps) (fun _ _=>rfl)
  repeat (first|refine WS_seq ?_|refine WS_region ?_|refine WL_nil ?_|refine WS_block ?_|refine WS_skip ?_|refine WS_yes rfl (by omega) ?_|(refine WL_r (by first|refine k_ix (sz:=5) rfl rfl hSg hle (by decide) (Ty.sle rfl) (by omega)|refine k_loadC (j:=i*5) (cs:=p.cells) rfl hSg hat rfl (Ty.shp rfl)|refine Run_pev rfl) rfl ?_))
  clear hSg
  refine WL_s (H_alloc hH (Ty.zer rfl) rfl ?_)
  try clear hH
  intro _ b10 hH
  replace hH:=nn5 hH
  refine WL_s (H_storeA 4 (vs:=p.cells.toArray) (s:=5) hH rfl rfl rfl (by rfl) (by rfl) (by simp [Value.oneCell']) (Ty.shp rfl) ?_)
  try clear hH
  intro _ hH
  replace hH:=nn5 hH
  have hB10:=hH.b 4 rfl
  repeat (first|refine WS_seq ?_|refine WS_region ?_|refine WL_nil ?_|refine WS_block ?_|(refine WL_r (by first|refine k_fa rfl (Ty.fld rfl rfl)|refine k_loadb rfl hB10 rfl (Ty.shp rfl)|refine Run_pev rfl|refine k_len rfl (Ty.isl rfl)) rfl ?_))
  clear hB10
  refine WS_loop (G:=(Nat) × (Option Addr) × (Nat) × (List BT)) (fun|(j,a,cap,es)=>p.gs.length-j) 19807040628566066806200070284 (fun|(j,a,cap,es)=>[(7,.slice a (es.length+1) cap),(44,.int .i64 j)]) (fun|(j,a,cap,es),w'=>j≤p.gs.length∧es.length=npk (s.ps.take i)+j∧es.length≤64*i+j∧(∀ e∈es,pkt e)∧Hp [] w w' [Rb b1 37 s.cells.toArray,RL (e0::es),Ro 40 1 a (es.length+1) cap ((e0::es).map bsl),RK k,Rb b10 72 p.cells.toArray]) (0,a,cap,es) ⟨rfl,rfl,trivial⟩ ⟨by omega,hel,he64,hpk,hH⟩ ?_
  rintro ⟨j,a,cap,es⟩ w' σ ⟨hj,hel,he64,hpk,hH⟩ IH2
  show WS _ _ _ _ _ (updL [(7,.slice a (es.length+1) cap),(44,.int .i64 j)] _) _
  by_cases hjl:j<p.gs.length
  ·obtain ⟨g,hgj⟩:∃ g,p.gs[j]?=some g:=⟨_,List.getElem?_eq_getElem (by omega)⟩
   have hgm:=List.mem_of_getElem? hgj
   obtain ⟨hgf,hgn,hgc⟩:=gok_at hpo.gs hgj
   have hok:=chn_ok hgc
   have hSp:SlA w' p.a (p.gs.flatMap GR.cells):=(hrd.2 p hpm).1.ext0 hH.ext
   have hat:=fm_at (f:=GR.cells) (sz:=2) (fun _ _=>rfl) hgj
   have hle:=fm_len (f:=GR.cells) (sz:=2) (l:=p.gs) (fun _ _=>rfl)
   repeat (first|refine WS_seq ?_|refine WS_region ?_|refine WL_nil ?_|refine WS_block ?_|refine WS_skip ?_|refine WS_yes rfl (by omega) ?_|(refine WL_r (by first|refine k_ix (sz:=2) rfl rfl hSp hle (by decide) (Ty.sle rfl) (by omega)|refine k_loadC (j:=j*2) (cs:=g.cells) rfl hSp hat rfl (Ty.shp rfl)|refine Run_pev rfl) rfl ?_))
   clear hSp
   refine WL_s (H_alloc hH (Ty.zer rfl) rfl ?_)
   try clear hH
   intro _ b12 hH
   replace hH:=nn6 hH
   refine WL_s (H_storeA 5 (vs:=g.cells.toArray) (s:=2) hH rfl rfl rfl (by rfl) (by rfl) (by simp [Value.oneCell']) (Ty.shp rfl) ?_)
   try clear hH
   intro _ hH
   replace hH:=nn6 hH
   have hS1:SlA _ (some ⟨b1,0,none⟩) s.cells:=(hH.b 0 rfl).sl0
   have hS10:SlA _ (some ⟨b10,0,none⟩) p.cells:=(hH.b 4 rfl).sl0
   have hB12:=hH.b 5 rfl
   repeat (first|refine WS_seq ?_|refine WS_region ?_|refine WL_nil ?_|(refine WL_r (by first|refine k_fa rfl (Ty.fld rfl rfl)|refine k_loadC (j:=0+0) (cs:=s.h.cells) rfl hS1 h131 (SH.cells_len hs.ho) (Ty.shp rfl)|refine k_loadC (j:=0+0) (cs:=p.h.cells) rfl hS10 rfl rfl (Ty.shp rfl)|refine k_loadb rfl hB12 rfl (Ty.shp rfl)|refine Run_pev rfl) rfl ?_))
   clear hS1 hS10 hB12
   have hSm0:=(hrd.2 p hpm).2 g hgm
   have hne:mcs g.ms≠[]:=fun h=>by have h2:=mcs_len hok;rw [h] at h2;simp at h2;omega
   refine WL_s (S_call ((coput_spec (f:=g.f) hk (hH.at 3 rfl) hs.ho hs.err hs.c hs.r hpo.err (hSm0.ext0 hH.ext) (fun y hy hb=>by rcases hH.new (RK k) (List.mem_of_getElem? (i:=3) rfl) y hy with h|h;cases h;have:=SlA.lt hSm0 hne y hb;omega) rfl hgn hgf hgc)) rfl rfl ?_)
   rintro _ _ ⟨a1,c1,A,a2,c2,Bb,rfl,hA1,hB2,hAb,hBb,hQ⟩
   replace hH:=hH.call 3 rfl hQ
   clear hQ
   replace hH:=nn8 hH
   have hS10:SlA _ (some ⟨b10,0,none⟩) p.cells:=(hH.b 3 rfl).sl0
   have hB12:=hH.b 4 rfl
   have hB1:=hH.b 0 rfl
   repeat (first|refine WS_seq ?_|refine WS_region ?_|refine WL_nil ?_|refine WS_skip ?_|refine WS_false rfl ?_|(refine WL_r (by first|refine k_fa rfl (Ty.fld rfl rfl)|refine k_loadC (j:=0+0) (cs:=p.h.cells) rfl hS10 rfl rfl (Ty.shp rfl)|refine k_loadb rfl hB12 rfl (Ty.shp rfl)|refine k_buildS (cs:=pkc p.h g.f g.ms.length (.slice a1 A.length c1) (.slice a2 Bb.length c2)) (Ty.zer rfl) (Ty.plc rfl) rfl|refine k_loadb rfl hB1 s0 (Ty.shp rfl)|refine k_loadb rfl hB1 s1 (Ty.shp rfl)|refine (k_mul64 (m:=C) (n:=R) rfl rfl (by omega)).is (congrArg (Value.int .i64) hcm)|refine Run_pev rfl|refine k_len rfl (Ty.isl rfl)|refine k_extract rfl rfl) rfl ?_))
   clear hS10 hB12 hB1
   refine WL_s (S_call ((pkput_spec (h:=p.h) (f:=g.f) (c:=g.ms.length) (all:=(C*R:Nat)) (by omega) (perr_of hpo.err (by omega) ⟨hA1,hB2⟩) (hH.o 6 rfl).sl (hH.o 7 rfl).sl hAb hBb)) rfl rfl ?_)
   rintro _ _ ⟨a3,c3,rfl,hN⟩
   replace hH:=hH.nu hN
   clear hN
   replace hH:=nn9 hH
   have hpn:pkt (a3,c3,phd ⟨p.h,g.f,g.ms.length,A.length,Bb.length,crc A,crc Bb⟩++A++Bb):=⟨_,A,Bb,rfl,rfl,rfl,hA1,hB2,hAb,hBb,(hH.o 8 rfl).2.1⟩
   generalize phd ⟨p.h,g.f,g.ms.length,A.length,Bb.length,crc A,crc Bb⟩++A++Bb=xs at *
   replace hH:=Rs.of 8 hH rfl
   replace hH:=(((RL.add (e:=(a3,c3,xs)) 1 8 hH rfl rfl (by decide)).del 7).del 6).del 4
   replace hH:=hH.swap (H':=[Rb b1 37 s.cells.toArray,RL (e0::(es++[(a3,c3,xs)])),Ro 40 1 a (es.length+1) cap ((e0::es).map bsl),RK k,Rb b10 72 p.cells.toArray]) (.cons _ (.cons _ (.cons _ (.swap _ _ _))))
   repeat (first|refine WS_seq ?_|refine WS_region ?_|refine WL_nil ?_|refine WS_skip ?_|refine WS_false rfl ?_|(refine WL_r (by first|refine Run_pev rfl|refine k_extract rfl rfl) rfl ?_))
   refine WL_s (H_lit (out:=[.slice a3 xs.length c3]) hH (Ty.sle rfl) (Ty.zer rfl) rfl rfl rfl (by decide) rfl ?_)
   try clear hH
   intro _ blit hH
   replace hH:=nn6 hH
   refine WL_s (H_append 2 hH rfl (Ty.sle rfl) (Ty.zer rfl) rfl (Ty.byt rfl) (by decide) rfl rfl ((hH.b 5 rfl).sl0) (by simp;try omega) (by simp) (by omega) (by simp only [maxLen];omega) rfl ?_)
   try clear hH
   intro _ a9 c9 hH
   replace hH:=nn6 hH
   replace hH:=hH.del 5
   replace hH:=nn5 hH
   repeat (first|refine WS_region ?_|refine WL_nil ?_|refine WS_inBlock ?_|(refine WL_r (by first|refine Run_pev rfl|refine k_add64 rfl rfl (by omega)) rfl ?_))
   have hes:es.length+1+1=(es++[(a3,c3,xs)]).length+1:=by simp
   have hec:(e0::es).map bsl++[.slice a3 xs.length c3]=(e0::(es++[(a3,c3,xs)])).map bsl:=by simp
   rw [hes,hec] at hH
   rw [hes]
   have hel2:(es++[(a3,c3,xs)]).length=es.length+1:=by simp
   have hpk2:∀ e∈es++[(a3,c3,xs)],pkt e:=fun e he=>by
    rcases List.mem_append.1 he with h1|h1
    ·exact hpk e h1
    ·simp at h1;subst h1;exact hpn
   generalize es++[(a3,c3,xs)]=es2 at *
   refine IH2 (j+1,a9,c9,es2) _ _ ?_ ?_ ?_ ?_
   ·simp only;omega
   ·exact ⟨rfl,rfl,trivial⟩
   ·repeat first|with_reducible apply Agr.refl|refine Agr.upd rfl ?_|refine Agr.updL rfl ?_|refine Agr.mrg rfl ?_
   ·exact ⟨by omega,by omega,by omega,hpk2,hH⟩
  ·obtain rfl:j=p.gs.length:=by omega
   clear IH2
   repeat (first|refine WS_seq ?_|refine WS_region ?_|refine WL_nil ?_|refine WS_inBlock ?_|refine WS_exit rfl ?_|refine WS_no rfl (by omega) ?_|(refine WL_r (by first|refine Run_pev rfl|refine k_add64 rfl rfl (by omega)) rfl ?_))
   replace hH:=hH.del 4
   replace hH:=nn4 hH
   refine IH (i+1,a,cap,es) _ _ ?_ ?_ ?_ ?_
   ·simp only;omega
   ·exact ⟨rfl,rfl,trivial⟩
   ·repeat first|with_reducible apply Agr.refl|refine Agr.upd rfl ?_|refine Agr.updL rfl ?_|refine Agr.mrg rfl ?_
   ·exact ⟨by omega,by rw [npk_take hpi];exact hel,by omega,hpk,hH⟩
 ·obtain rfl:i=s.ps.length:=by omega
  clear IH
  rw [List.take_length] at hel
  repeat (first|refine WS_seq ?_|refine WS_region ?_|refine WL_nil ?_|refine WS_exit rfl ?_|refine WS_no rfl (by omega) ?_|refine lp rfl rfl ?_)
  exact WS_ret2 Tryz.func19 rfl ⟨a,cap,e0,es,rfl,hel,hpk,(hH.o 2 rfl).2.1,hec0,hel0,((Rs.of 2 hH rfl).del 3).del 0⟩
end Go.Proofs.YtpbiicegmcpkpaaGreat
