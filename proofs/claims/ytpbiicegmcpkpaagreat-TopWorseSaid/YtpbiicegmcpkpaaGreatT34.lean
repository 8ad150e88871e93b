/- A part of the proof that TopWorse is true at every input; no condition. -/
import Derived.Test.YtpbiicegmcpkpaaGreatT33
namespace Go.Proofs.YtpbiicegmcpkpaaGreat
open Go Go.K Go.P Go.RowKit Go.Proofs
set_option maxHeartbeats 4000000 in
theorem fone_spec {a:Option Addr} {n c:Nat} {l:List Nat} {w:World} (hS:SlA w a (l.map B)) (hn:l.length=n) (hb:Byt l) (hn2:n≤1000000) :
  Does Tryz.prog 75 #[.slice a n c] w fun v w'=>(∃ b,v=.bool b)∧Ext [] w w':=by
 refine Does_of (args:=[_]) Tryz.func75 rfl rfl Tryz.ntmps75 rfl ?_
 have hH:=Hp.start w
 have hn8:(n:Int)*8=((n*8:Nat):Int):=by simp
 repeat (first|refine WS_seq ?_|refine WS_region ?_|refine WL_nil ?_|refine WS_block ?_|(refine WL_r (by first|refine (k_mul64 rfl rfl (by omega)).is (congrArg (Value.int .i64) hn8)|refine Run_pev rfl|refine k_len rfl (Ty.isl rfl)) rfl ?_))
 refine WS_loop (G:=(Nat) × (Int) × (Int) × (Nat)) (fun|(i,x,y,k)=>n*8-i) 2147482744 (fun|(i,x,y,k)=>[(3,.int .i64 x),(4,.int .i64 y),(5,.int .i64 k),(10,.int .i64 i)]) (fun|(i,x,y,k),w'=>i≤n*8∧(-1≤x∧x≤i)∧(-1≤y∧y≤i)∧k≤i∧Hp [] w w' []) (0,-1,-1,0) ⟨rfl,rfl,rfl,rfl,trivial⟩ ⟨by omega,by omega,by omega,by omega,hH⟩ ?_
 rintro ⟨i,x,y,k⟩ w' σ ⟨hi,hx,hy,hk,hH⟩ IH
 show WS _ _ _ _ _ (updL [(3,.int .i64 x),(4,.int .i64 y),(5,.int .i64 k),(10,.int .i64 i)] _) _
 by_cases hlt:i<n*8
 ·obtain ⟨u,hu⟩:∃ u,l[i / 8]?=some u:=⟨_,List.getElem?_eq_getElem (by omega)⟩
  have huv:(l.map B)[i / 8]?=some (B u):=by rw [List.getElem?_map,hu];rfl
  have hub:=hb u (List.mem_of_getElem? hu)
  have hS2:=hS.ext0 hH.ext
  have h7:(7:Int)-(i % 8:Nat)=((7-i % 8:Nat):Int):=by omega
  have hud:u / 2 ^ (7-i % 8)<256:=Nat.lt_of_le_of_lt (Nat.div_le_self _ _) hub
  by_cases hbit:u / 2 ^ (7-i % 8) &&& 1=1
  ·by_cases hx0:x<0
   ·repeat (first|refine WS_seq ?_|refine WS_region ?_|refine WL_nil ?_|refine WS_block ?_|refine WS_inBlock ?_|refine WS_skip ?_|refine WS_true rfl ?_|refine WS_yes rfl (by omega) ?_|(refine WL_r (by first|refine k_quou (m:=i) (n:=8) rfl rfl (by decide) (fiti (by omega))|refine k_remu (m:=i) (n:=8) rfl rfl (by decide)|refine (k_sub64 rfl rfl (by omega)).is (congrArg (Value.int .i64) h7)|refine k_ix1 rfl rfl hS2 (by simp [hn]) (Ty.sle rfl) (by omega)|refine k_loads rfl hS2 huv (Ty.shp rfl)|refine k_shr (m:=u) (n:=7-i % 8) rfl rfl (fit8 hub)|refine k_and (n:=1) rfl rfl (fit8 hud) (by decide)|refine (k_eql (q:=.u8) rfl rfl).is (bT (by omega))|refine Run_pev rfl|refine k_add64 rfl rfl (by omega)) rfl ?_))
    refine IH (i+1,i,i,k+1) _ _ ?_ ?_ ?_ ?_
    ·simp only;omega
    ·exact ⟨rfl,rfl,rfl,rfl,trivial⟩
    ·repeat first|with_reducible apply Agr.refl|refine Agr.upd rfl ?_|refine Agr.updL rfl ?_|refine Agr.mrg rfl ?_
    ·exact ⟨by omega,by omega,by omega,by omega,hH⟩
   ·repeat (first|refine WS_seq ?_|refine WS_region ?_|refine WL_nil ?_|refine WS_block ?_|refine WS_inBlock ?_|refine WS_skip ?_|refine WS_true rfl ?_|refine WS_yes rfl (by omega) ?_|refine WS_no rfl (by omega) ?_|(refine WL_r (by first|refine k_quou (m:=i) (n:=8) rfl rfl (by decide) (fiti (by omega))|refine k_remu (m:=i) (n:=8) rfl rfl (by decide)|refine (k_sub64 rfl rfl (by omega)).is (congrArg (Value.int .i64) h7)|refine k_ix1 rfl rfl hS2 (by simp [hn]) (Ty.sle rfl) (by omega)|refine k_loads rfl hS2 huv (Ty.shp rfl)|refine k_shr (m:=u) (n:=7-i % 8) rfl rfl (fit8 hub)|refine k_and (n:=1) rfl rfl (fit8 hud) (by decide)|refine (k_eql (q:=.u8) rfl rfl).is (bT (by omega))|refine Run_pev rfl|refine k_add64 rfl rfl (by omega)) rfl ?_))
    refine IH (i+1,x,i,k+1) _ _ ?_ ?_ ?_ ?_
    ·simp only;omega
    ·exact ⟨rfl,rfl,rfl,rfl,trivial⟩
    ·repeat first|with_reducible apply Agr.refl|refine Agr.upd rfl ?_|refine Agr.updL rfl ?_|refine Agr.mrg rfl ?_
    ·exact ⟨by omega,by omega,by omega,by omega,hH⟩
  ·repeat (first|refine WS_seq ?_|refine WS_region ?_|refine WL_nil ?_|refine WS_block ?_|refine WS_inBlock ?_|refine WS_skip ?_|refine WS_false rfl ?_|refine WS_yes rfl (by omega) ?_|(refine WL_r (by first|refine k_quou (m:=i) (n:=8) rfl rfl (by decide) (fiti (by omega))|refine k_remu (m:=i) (n:=8) rfl rfl (by decide)|refine (k_sub64 rfl rfl (by omega)).is (congrArg (Value.int .i64) h7)|refine k_ix1 rfl rfl hS2 (by simp [hn]) (Ty.sle rfl) (by omega)|refine k_loads rfl hS2 huv (Ty.shp rfl)|refine k_shr (m:=u) (n:=7-i % 8) rfl rfl (fit8 hub)|refine k_and (n:=1) rfl rfl (fit8 hud) (by decide)|refine (k_eql (q:=.u8) rfl rfl).is (bF (by omega))|refine Run_pev rfl|refine k_add64 rfl rfl (by omega)) rfl ?_))
   refine IH (i+1,x,y,k) _ _ ?_ ?_ ?_ ?_
   ·simp only;omega
   ·exact ⟨rfl,rfl,rfl,rfl,trivial⟩
   ·repeat first|with_reducible apply Agr.refl|refine Agr.upd rfl ?_|refine Agr.updL rfl ?_|refine Agr.mrg rfl ?_
   ·exact ⟨by omega,by omega,by omega,by omega,hH⟩
 ·obtain rfl:i=n*8:=by omega
  clear IH
  by_cases h0:k=0
  ·repeat (first|refine WS_seq ?_|refine WS_region ?_|refine WL_nil ?_|refine WS_exit rfl ?_|refine WS_no rfl (by omega) ?_|refine WL_gno rfl rfl rfl rfl rfl ?_|refine WL_gno (b:=true) rfl rfl (dT (by omega)) rfl rfl ?_|(refine WL_r (by first|refine Run_pev rfl|refine k_pick_t (dT (by omega)) rfl) rfl ?_))
   exact WS_ret1 Tryz.func75 rfl ⟨⟨_,rfl⟩,hH.ext⟩
  ·by_cases h1:(k:Int) % 2=1
   ·repeat (first|refine WS_seq ?_|refine WS_region ?_|refine WL_nil ?_|refine WS_exit rfl ?_|refine WS_no rfl (by omega) ?_|refine WL_gyes rfl rfl (dF (by omega)) ?_|refine WL_gno (b:=true) rfl rfl (dT (by omega)) rfl rfl ?_|(refine WL_r (by first|refine Run_pev rfl|refine k_rem rfl rfl (by omega)|refine k_pick_f (dF (by omega)) rfl|refine k_pick_t (dT (by omega)) rfl) rfl ?_))
    exact WS_ret1 Tryz.func75 rfl ⟨⟨_,rfl⟩,hH.ext⟩
   ·repeat (first|refine WS_seq ?_|refine WS_region ?_|refine WL_nil ?_|refine WS_exit rfl ?_|refine WS_no rfl (by omega) ?_|refine WL_gyes rfl rfl (dF (by omega)) ?_|(refine WL_r (by first|refine Run_pev rfl|refine k_sub64 rfl rfl (by omega)|refine k_rem rfl rfl (by omega)|refine k_pick_f (dF (by omega)) rfl) rfl ?_))
    exact WS_ret1 Tryz.func75 rfl ⟨⟨_,rfl⟩,hH.ext⟩
set_option maxHeartbeats 4000000 in
theorem ftold_spec {a:Option Addr} {n c x y:Nat} {l:List Nat} {w:World} (hS:SlA w a (l.map B)) (hn:l.length=n) (hb:Byt l) (hn2:n≤1000000) (hnc:n≤c) (hx:x≤100000) (hy:y≤100000) :
  Does Tryz.prog 44 #[.slice a n c,.int .i64 x,.int .i64 y] w fun v w'=>(∃ b,v=.bool b)∧Ext [] w w':=by
 refine Does_of (args:=[_,_,_]) Tryz.func44 rfl rfl Tryz.ntmps44 rfl ?_
 have hH:=Hp.start w
 have e1:min (max (x:Int) 0) n=(min x n:Nat):=by omega
 have e2:min (max (x:Int) 0+max (y:Int) 0) n=(min (x+y) n:Nat):=by omega
 have hxn:min x n≤n:=by omega
 have hyn:min (x+y) n≤n:=by omega
 have hxy:min x n≤min (x+y) n:=by omega
 generalize min x n=p at *
 generalize min (x + y) n=q at *
 repeat (first|refine WS_seq ?_|refine WS_region ?_|refine WL_nil ?_|(refine WL_r (by first|refine (k_min rfl rfl).is (congrArg (Value.int .i64) e1)|refine (k_min rfl rfl).is (congrArg (Value.int .i64) e2)|refine k_slchN rfl rfl (Ty.sle rfl) (by omega)|refine Run_pev rfl|refine k_add64 rfl rfl (by omega)|refine k_len rfl (Ty.isl rfl)|refine k_max rfl rfl) rfl ?_))
 have hS1:=take_cells hS hxn hnc
 rw [← List.map_take] at hS1
 refine WL_s (S_call ((fone_spec (n:=p) hS1 (by rw [List.length_take];omega) (fun z hz=>hb z (List.mem_of_mem_take hz)) (by omega))) rfl rfl ?_)
 rintro _ _ ⟨⟨b,rfl⟩,hE0⟩
 replace hH:=hH.ext0 hE0
 clear hE0
 replace hH:=nn0 hH
 cases b
 ·repeat (first|refine WL_nil ?_|refine WL_gno rfl rfl rfl rfl rfl ?_|refine lp rfl rfl ?_)
  exact WS_ret1 Tryz.func44 rfl ⟨⟨_,rfl⟩,hH.ext⟩
 ·repeat (first|refine WL_gyes rfl rfl rfl ?_|(refine WL_r (by first|refine k_slcN (l:=p) (h:=q) rfl rfl rfl (Ty.sle rfl) (by omega)|refine Run_pev rfl) rfl ?_))
  have hS2:=mid_cells (hS.ext0 hH.ext) hxy hyn hnc
  rw [← List.map_drop,← List.map_take] at hS2
  refine WL_s (S_call ((fone_spec (n:=q-p) hS2 (by rw [List.length_take,List.length_drop];omega) (fun z hz=>hb z (List.mem_of_mem_drop (List.mem_of_mem_take hz))) (by omega))) rfl rfl ?_)
  rintro _ _ ⟨⟨b2,rfl⟩,hE0⟩
  replace hH:=hH.ext0 hE0
  clear hE0
  replace hH:=nn0 hH
  repeat (first|refine WL_nil ?_|refine lp rfl rfl ?_)
  exact WS_ret1 Tryz.func44 rfl ⟨⟨_,rfl⟩,hH.ext⟩
set_option maxHeartbeats 4000000 in
theorem cparts_spec {a:Option Addr} {n c:Nat} {l:List Nat} {w:World} (hS:SlA w a (l.map B)) (hn:l.length=n) (hb:Byt l) (hnc:n≤c) (hn2:n≤1000000) :
  Does Tryz.prog 43 #[.slice a n c] w fun v w'=>(∃ x y:Nat,x≤100000∧y≤100000∧v=.tuple #[.int .i64 x,.int .i64 y])∧Ext [] w w':=by
 refine Does_of (args:=[_]) Tryz.func43 rfl rfl Tryz.ntmps43 rfl ?_
 have hH:=Hp.start w
 repeat (first|refine WS_seq ?_|refine WS_region ?_|refine WL_nil ?_|refine lp rfl rfl ?_)
 refine WL_s (S_call ((pktake_spec (all:=64) hS hb hn hnc (by omega) (by decide))) rfl rfl ?_)
 rintro v w1 hv
 obtain ⟨tk,e,x,y,rfl,hl,h1,hE,hxy⟩:∃ (tk:List Value) (e x y:Nat),v=.tuple #[.agg tk.toArray,.int .i64 e]∧tk.length=11∧(∀ u∈tk.toArray.toList,u.oneCell'=true)∧Ext [] w w1∧(e=0→x≤30000∧y≤30000∧∃ a1 c1 a2 c2,tk[6]?=some (.slice a1 x c1)∧tk[7]?=some (.slice a2 y c2)):=by
  rcases hv with ⟨d,hG,⟨hl,hp,a1,c1,a2,c2,rfl,hH⟩|⟨e,he,rfl,hE,_⟩⟩|⟨_,e,he,rfl,hE⟩
  ·have hp2:=perr_ok hp
   refine ⟨_,0,d.n,d.m,rfl,rfl,tkc_one _ _ _ _ _ _ _ _ _ _ _ _,hH.ext,fun _=>⟨by omega,by omega,a1,c1,a2,c2,rfl,rfl⟩⟩
  ·exact ⟨tkz,e,0,0,rfl,rfl,tkz_one,hE,fun h=>absurd h he⟩
  ·exact ⟨tkz,e,0,0,rfl,rfl,tkz_one,hE,fun h=>absurd h he⟩
 replace hH:=hH.ext0 hE
 clear hv hE
 replace hH:=nn0 hH
 repeat ((refine WL_r (by first|refine Run_pev rfl|refine k_extract rfl rfl) rfl ?_))
 refine WL_s (H_alloc hH (Ty.zer rfl) rfl ?_)
 try clear hH
 intro _ b4 hH
 replace hH:=nn1 hH
 refine WL_s (H_storeA 0 (vs:=tk.toArray) (s:=11) hH rfl rfl rfl (by simp [hl]) rfl h1 (Ty.shp rfl) ?_)
 clear hH
 intro _ hH
 replace hH:=nn1 hH
 by_cases he:e=0
 ·obtain ⟨hx,hy,a1,c1,a2,c2,g1,g2⟩:=hxy he
  have hB:=hH.b 0 rfl
  repeat (first|refine WS_seq ?_|refine WS_region ?_|refine WL_nil ?_|refine WS_skip ?_|refine WS_false rfl ?_|(refine WL_r (by first|refine (k_neq (q:=.i64) rfl rfl).is (bF (by omega))|refine Run_pev rfl) rfl ?_))
  replace g1:tk.toArray[6]?=some (.slice a1 x c1):=by rw [List.getElem?_toArray];exact g1
  replace g2:tk.toArray[7]?=some (.slice a2 y c2):=by rw [List.getElem?_toArray];exact g2
  refine WS_drawE Ty.mixed 10 rfl (fun w1 hx1=>?_)
  refine wt 0 hx1 rfl rfl rfl (fun w' hw'=>by refine k_fa rfl (Ty.fld rfl rfl)) ?_
  refine wt 1 hx1 rfl rfl rfl (fun w' hw'=>by refine k_fa rfl (Ty.fld rfl rfl)) ?_
  refine wt 2 hx1 rfl rfl rfl (fun w' hw'=>by refine k_loadb rfl (hB.ext0 hw') g1 (Ty.shp rfl)) ?_
  refine wt 3 hx1 rfl rfl rfl (fun w' hw'=>by refine k_len rfl (Ty.isl rfl)) ?_
  refine wt 4 hx1 rfl rfl rfl (fun w' hw'=>by refine k_fa rfl (Ty.fld rfl rfl)) ?_
  refine wt 5 hx1 rfl rfl rfl (fun w' hw'=>by refine k_fa rfl (Ty.fld rfl rfl)) ?_
  refine wt 6 hx1 rfl rfl rfl (fun w' hw'=>by refine k_loadb rfl (hB.ext0 hw') g2 (Ty.shp rfl)) ?_
  refine wt 7 hx1 rfl rfl rfl (fun w' hw'=>by refine k_len rfl (Ty.isl rfl)) ?_
  refine wp 8 hx1 rfl rfl rfl rfl ?_
  refine wp 9 hx1 rfl rfl rfl rfl ?_
  refine WA_done (by kernel_rfl) ?_
  replace hH:=hH.ext0 hx1
  skip
  exact WS_ret2 Tryz.func43 rfl ⟨⟨x,y,by omega,by omega,rfl⟩,hH.ext⟩
 ·repeat (first|refine WS_seq ?_|refine WS_region ?_|refine WL_nil ?_|refine WS_true rfl ?_|(refine WL_r (by first|refine (k_neq (q:=.i64) rfl rfl).is (bT (by omega))|refine Run_pev rfl) rfl ?_))
  exact WS_ret2 Tryz.func43 rfl ⟨⟨0,0,by decide,by decide,rfl⟩,hH.ext⟩
end Go.Proofs.YtpbiicegmcpkpaaGreat
namespace Go.Proofs.YtpbiicegmcpkpaaGreat
open Go Go.K Go.P Go.RowKit Go.Proofs
theorem pkt_byt {e:BT} (h:pkt e):Byt e.2.2∧e.2.2.length≤60021∧e.2.2.length≤e.2.1:=by
 obtain ⟨d,A,Bb,hx,_,_,hA,hB,hAb,hBb,hc⟩:=h
 refine ⟨by rw [hx];exact Byt.append (Byt.append (phd_byt d) hAb) hBb,?_,hc⟩
 rw [hx,List.length_append,List.length_append,phd_len];omega
set_option maxRecDepth 20000 in
set_option maxHeartbeats 8000000 in
theorem fapply_spec {a af:Option Addr} {n c nf cf:Nat} {e0:BT} {es:List BT} {F:List FA} {w:World} (hS:SlA w a ((e0::es).map bsl)) (hn:es.length+1=n) (hn2:n≤100000) (hpk:∀ e∈es,pkt e) (hrd:∀ e∈e0::es,SlA w e.1 (e.2.2.map B)) (h0:e0.2.2.length≤1000)
  (hF:SlA w af (F.flatMap fac)) (hFl:F.length=nf) (hFn:nf≤100000) (hFm:FAs w F) :
  Does Tryz.prog 42 #[.slice a n c,.slice af nf cf] w fun v w'=>(∃ a' n' c',v=.slice a' n' c')∧Ext [] w w':=by
 refine Does_of (args:=[_,_]) Tryz.func42 rfl rfl Tryz.ntmps42 rfl ?_
 have hH:=(Hp.start w).nu (New.nilO (e:=5) (sz:=1))
 replace hH:=nn1 hH
 have hle:(F.flatMap fac).length=nf*2:=by rw [← hFl];exact fm_len (fun _ _=>rfl)
 repeat (first|refine WS_seq ?_|refine WS_region ?_|refine WL_nil ?_|refine WS_block ?_|(refine WL_r (by first|refine Run_pev rfl|refine k_len rfl (Ty.isl rfl)) rfl ?_))
 refine WS_loop (G:=(Nat) × (Option Addr) × (Nat) × (Nat) × (List Nat)) (fun|(i,a1,m,c1,l)=>n-i) 18446744073709539296 (fun|(i,a1,m,c1,l)=>[(14,.int .i64 i),(5,.slice a1 m c1)]) (fun|(i,a1,m,c1,l),w'=>i≤n∧m≤70000*i∧Hp [] w w' [Ro 5 1 a1 m c1 (l.map B)]) (0,none,0,0,[]) ⟨rfl,rfl,trivial⟩ ⟨by omega,by omega,hH⟩ ?_
 rintro ⟨i,a1,m,c1,l⟩ w' σ ⟨hi,hm,hH⟩ IH
 show WS _ _ _ _ _ (updL [(14,.int .i64 i),(5,.slice a1 m c1)] _) _
 by_cases hlt:i<n
 ·obtain ⟨e,he⟩:∃ e,(e0::es)[i]?=some e:=⟨_,List.getElem?_eq_getElem (by simp;omega)⟩
  have hem:=List.mem_of_getElem? he
  have hv:((e0::es).map bsl)[i]?=some (.slice e.1 e.2.2.length e.2.1):=by rw [List.getElem?_map,he];rfl
  have hS2:=hS.ext0 hH.ext
  have hel:e.2.2.length≤60021∧(i≠0→Byt e.2.2):=by
   rcases List.mem_cons.1 hem with h|h
   ·refine ⟨by rw [h];omega,fun h0=>?_⟩
    have:es[i-1]?=some e:=by rw [show i=(i-1)+1 by omega] at he;simpa using he
    exact (pkt_byt (hpk e (List.mem_of_getElem? this))).1
   ·exact ⟨(pkt_byt (hpk e h)).2.1,fun _=>(pkt_byt (hpk e h)).1⟩
  obtain ⟨xs,hxs⟩:∃ xs,e.2.2=xs:=⟨_,rfl⟩
  obtain ⟨nx,hnx⟩:∃ nx,e.2.2.length=nx:=⟨_,rfl⟩
  have hse:=hrd e hem
  rw [hnx] at hv hel
  repeat (first|refine WS_seq ?_|refine WS_region ?_|refine WL_nil ?_|refine WS_block ?_|refine WS_skip ?_|refine WS_yes rfl (by omega) ?_|(refine WL_r (by first|refine k_ix1 rfl rfl hS2 (by simp;omega) (Ty.sle rfl) (by omega)|refine k_loads rfl hS2 hv (Ty.shp rfl)|refine Run_pev rfl) rfl ?_))
  clear hS2
  refine WL_s (H_lit (out:=[]) hH (Ty.sle rfl) (Ty.zer rfl) rfl rfl rfl (by decide) rfl ?_)
  try clear hH
  intro _ bl hH
  replace hH:=nn2 hH
  replace hH:=hH.as (r':=Ro 5 1 (some ⟨bl,0,none⟩) 0 0 []) 1 rfl (fun _ h=>h) (fun hB=>hB.own rfl (by decide))
  replace hH:=nn2 hH
  repeat (refine lp rfl rfl ?_)
  refine WL_s (H_append 1 hH rfl (Ty.sle rfl) (Ty.zer rfl) rfl (Ty.byt rfl) (by decide) rfl rfl (hse.ext0 hH.ext) (by simp [hnx]) (by simp) (by omega) (by simp only [maxLen];omega) rfl ?_)
  clear hH
  intro _ a2 c2 hH
  replace hH:=nn2 hH
  rw [List.nil_append,Nat.zero_add,hxs] at hH
  rw [Nat.zero_add]
  rw [hxs] at hnx hel hse
  have hi0:i=0∨(i≠0∧Byt xs):=by by_cases h:i=0;exact .inl h;exact .inr ⟨h,hel.2 h⟩
  obtain ⟨hel,_⟩:=hel
  by_cases hi1:0<i∧i-1<nf
  ·have hxb:Byt xs:=hi0.elim (fun h=>by omega) (fun h=>h.2)
   obtain ⟨fe,hfe⟩:∃ fe,F[i-1]?=some fe:=⟨_,List.getElem?_eq_getElem (by omega)⟩
   obtain ⟨hfm,hfb,hfc,hfl⟩:=hFm fe (List.mem_of_getElem? hfe)
   have hat:=fm_at (f:=fac) (sz:=2) (fun _ _=>rfl) hfe
   have hi2:(i:Int)-1=((i-1:Nat):Int):=by omega
   have hF2:=hF.ext0 hH.ext
   repeat (first|refine WS_seq ?_|refine WS_region ?_|refine WL_nil ?_|refine WS_yes rfl (by omega) ?_|refine WL_gyes rfl rfl (dT (by omega)) ?_|(refine WL_r (by first|refine (k_sub64 rfl rfl (by omega)).is (congrArg (Value.int .i64) hi2)|refine k_ix (sz:=2) rfl rfl hF2 hle (by decide) (Ty.sle rfl) (by omega)|refine k_loadC (j:=(i-1)*2) (cs:=fac fe) rfl hF2 hat rfl (Ty.shp rfl)|refine Run_pev rfl|refine k_len rfl (Ty.isl rfl)|refine k_pick_t (dT (by omega)) rfl) rfl ?_))
   clear hF2
   refine WL_s (H_alloc hH (Ty.zer rfl) rfl ?_)
   try clear hH
   intro _ b9 hH
   replace hH:=nn3 hH
   refine WL_s (H_storeA 2 (vs:=(fac fe).toArray) (s:=2) hH rfl rfl rfl (by rfl) (by rfl) (by simp [Value.oneCell']) (Ty.shp rfl) ?_)
   try clear hH
   intro _ hH
   replace hH:=nn3 hH
   have hB9:=hH.b 2 rfl
   by_cases hl:fe.1=true
   ·repeat (first|refine WS_seq ?_|refine WS_region ?_|refine WL_nil ?_|refine WS_exit rfl ?_|refine WS_true rfl ?_|(refine WL_r (by first|refine k_fa rfl (Ty.fld rfl rfl)|refine (k_loadb rfl hB9 rfl (Ty.shp rfl)).is (congrArg Value.bool hl)|refine Run_pev rfl|refine k_add64 rfl rfl (by omega)) rfl ?_))
    replace hH:=(hH.del 2).del 1
    replace hH:=nn1 hH
    refine IH (i+1,a1,m,c1,l) _ _ ?_ ?_ ?_ ?_
    ·simp only;omega
    ·exact ⟨rfl,rfl,trivial⟩
    ·repeat first|with_reducible apply Agr.refl|refine Agr.upd rfl ?_|refine Agr.updL rfl ?_|refine Agr.mrg rfl ?_
    ·exact ⟨by omega,by omega,hH⟩
   ·replace hl:fe.1=false:=by simpa using hl
    repeat (first|refine WS_seq ?_|refine WS_region ?_|refine WL_nil ?_|refine WS_block ?_|refine WS_skip ?_|refine WS_false rfl ?_|(refine WL_r (by first|refine k_fa rfl (Ty.fld rfl rfl)|refine (k_loadb (v:=.bool fe.1) rfl hB9 rfl (Ty.shp rfl)).is (congrArg Value.bool hl)|refine k_loadb rfl hB9 rfl (Ty.shp rfl)|refine Run_pev rfl|refine k_len rfl (Ty.isl rfl)) rfl ?_))
    clear hB9
    refine WS_loop (G:=(Nat) × (List Nat)) (fun|(k,ys)=>fe.2.2.2.length-k) 1152919305583594496 (fun|(k,ys)=>[(41,.int .i64 k)]) (fun|(k,ys),w'=>k≤fe.2.2.2.length∧ys.length=nx∧Byt ys∧Hp [] w w' [Ro 5 1 a1 m c1 (l.map B),Ro 5 1 a2 nx c2 (ys.map B),Rb b9 48 (fac fe).toArray]) (0,xs) ⟨rfl,trivial⟩ ⟨by omega,hnx,hxb,hH⟩ ?_
    rintro ⟨k,ys⟩ w' σ ⟨hk,hyl,hyb,hH⟩ IH2
    show WS _ _ _ _ _ (updL [(41,.int .i64 k)] _) _
    by_cases hkl:k<fe.2.2.2.length
    ·obtain ⟨u,hu⟩:∃ u,fe.2.2.2[k]?=some u:=⟨_,List.getElem?_eq_getElem (by omega)⟩
     have huv:(fe.2.2.2.map B)[k]?=some (B u):=by rw [List.getElem?_map,hu];rfl
     have hub:=hfb u (List.mem_of_getElem? hu)
     have hSm:=hfm.ext0 hH.ext
     have hk21:(21:Int)+k=((21+k:Nat):Int):=by simp
     by_cases hin:21+k<nx
     ·obtain ⟨y,hy⟩:∃ y,ys[21+k]?=some y:=⟨_,List.getElem?_eq_getElem (by omega)⟩
      have hyv:(ys.map B)[21+k]?=some (B y):=by rw [List.getElem?_map,hy];rfl
      have hyb1:=hyb y (List.mem_of_getElem? hy)
      have hSy:=(hH.o 1 rfl).sl
      repeat (first|refine WS_seq ?_|refine WS_region ?_|refine WL_nil ?_|refine WS_block ?_|refine WS_skip ?_|refine WS_yes rfl (by omega) ?_|(refine WL_r (by first|refine k_ix1 rfl rfl hSm (by simp) (Ty.sle rfl) (by omega)|refine k_loads rfl hSm huv (Ty.shp rfl)|refine (k_add64 (m:=21) (n:=k) rfl rfl (by omega)).is (congrArg (Value.int .i64) hk21)|refine k_ix1 rfl rfl hSy (by simp [hyl]) (Ty.sle rfl) (by omega)|refine k_loads rfl hSy hyv (Ty.shp rfl)|refine k_xor rfl rfl (fit8 hyb1) (fit8 hub)|refine Run_pev rfl|refine k_len rfl (Ty.isl rfl)) rfl ?_))
      refine WL_s (H_storeO 1 (v:=B (y ^^^ u)) hH rfl rfl rfl (by simp;omega) rfl (Ty.shp rfl) ?_)
      clear hH hSy
      intro _ hH
      replace hH:=nn3 hH
      rw [Int.toNat_natCast,← List.map_set] at hH
      repeat (first|refine WS_region ?_|refine WL_nil ?_|refine WS_inBlock ?_|(refine WL_r (by first|refine Run_pev rfl|refine k_add64 rfl rfl (by omega)) rfl ?_))
      refine IH2 (k+1,ys.set (21+k) (y ^^^ u)) _ _ ?_ ?_ ?_ ?_
      ·simp only;omega
      ·exact ⟨rfl,trivial⟩
      ·repeat first|with_reducible apply Agr.refl|refine Agr.upd rfl ?_|refine Agr.updL rfl ?_|refine Agr.mrg rfl ?_
      ·exact ⟨by omega,by simp [hyl],fun z hz=>(List.mem_or_eq_of_mem_set hz).elim (hyb z) (fun h=>by rw [h];exact xor_lt hyb1 hub),hH⟩
     ·repeat (first|refine WS_seq ?_|refine WS_region ?_|refine WL_nil ?_|refine WS_block ?_|refine WS_inBlock ?_|refine WS_skip ?_|refine WS_yes rfl (by omega) ?_|refine WS_no rfl (by omega) ?_|(refine WL_r (by first|refine k_ix1 rfl rfl hSm (by simp) (Ty.sle rfl) (by omega)|refine k_loads rfl hSm huv (Ty.shp rfl)|refine (k_add64 (m:=21) (n:=k) rfl rfl (by omega)).is (congrArg (Value.int .i64) hk21)|refine Run_pev rfl|refine k_add64 rfl rfl (by omega)|refine k_len rfl (Ty.isl rfl)) rfl ?_))
      refine IH2 (k+1,ys) _ _ ?_ ?_ ?_ ?_
      ·simp only;omega
      ·exact ⟨rfl,trivial⟩
      ·repeat first|with_reducible apply Agr.refl|refine Agr.upd rfl ?_|refine Agr.updL rfl ?_|refine Agr.mrg rfl ?_
      ·exact ⟨by omega,hyl,hyb,hH⟩
    ·obtain rfl:k=fe.2.2.2.length:=by omega
     clear IH2
     replace hH:=hH.del 2
     replace hH:=nn2 hH
     repeat (first|refine WS_seq ?_|refine WS_region ?_|refine WL_nil ?_|refine WS_exit rfl ?_|refine WS_no rfl (by omega) ?_|refine lp rfl rfl ?_)
     refine WL_s (H_append 0 hH rfl (Ty.sle rfl) (Ty.zer rfl) rfl (Ty.byt rfl) (by decide) rfl rfl ((hH.o 1 rfl).sl) (by simp;try omega) (by simp) (by omega) (by simp only [maxLen];omega) rfl ?_)
     try clear hH
     intro _ a9 c9 hH
     replace hH:=nn2 hH
     replace hH:=hH.del 1
     replace hH:=nn1 hH
     rw [← List.map_append] at hH
     repeat (first|refine WS_region ?_|refine WL_nil ?_|refine WS_inBlock ?_|(refine WL_r (by first|refine Run_pev rfl|refine k_add64 rfl rfl (by omega)) rfl ?_))
     refine IH (i+1,a9,m+nx,c9,l++ys) _ _ ?_ ?_ ?_ ?_
     ·simp only;omega
     ·exact ⟨rfl,rfl,trivial⟩
     ·repeat first|with_reducible apply Agr.refl|refine Agr.upd rfl ?_|refine Agr.updL rfl ?_|refine Agr.mrg rfl ?_
     ·exact ⟨by omega,by omega,hH⟩
  ·by_cases hi3:0<i
   ·repeat (first|refine WS_seq ?_|refine WS_region ?_|refine WL_nil ?_|refine WS_skip ?_|refine WS_no rfl (by omega) ?_|refine WL_gyes rfl rfl (dT (by omega)) ?_|(refine WL_r (by first|refine Run_pev rfl|refine k_sub64 rfl rfl (by omega)|refine k_len rfl (Ty.isl rfl)|refine k_pick_t (dT (by omega)) rfl) rfl ?_))
    refine WL_s (H_append 0 hH rfl (Ty.sle rfl) (Ty.zer rfl) rfl (Ty.byt rfl) (by decide) rfl rfl ((hH.o 1 rfl).sl) (by simp;try omega) (by simp) (by omega) (by simp only [maxLen];omega) rfl ?_)
    try clear hH
    intro _ a9 c9 hH
    replace hH:=nn2 hH
    replace hH:=hH.del 1
    replace hH:=nn1 hH
    rw [← List.map_append] at hH
    repeat (first|refine WS_region ?_|refine WL_nil ?_|refine WS_inBlock ?_|(refine WL_r (by first|refine Run_pev rfl|refine k_add64 rfl rfl (by omega)) rfl ?_))
    refine IH (i+1,a9,m+nx,c9,l++xs) _ _ ?_ ?_ ?_ ?_
    ·simp only;omega
    ·exact ⟨rfl,rfl,trivial⟩
    ·repeat first|with_reducible apply Agr.refl|refine Agr.upd rfl ?_|refine Agr.updL rfl ?_|refine Agr.mrg rfl ?_
    ·exact ⟨by omega,by omega,hH⟩
   ·repeat (first|refine WS_seq ?_|refine WS_region ?_|refine WL_nil ?_|refine WS_skip ?_|refine WS_false rfl ?_|refine WL_gno (b:=false) rfl rfl (dF (by omega)) rfl rfl ?_|(refine WL_r (by first|refine Run_pev rfl|refine k_pick_f (dF (by omega)) rfl) rfl ?_))
    refine WL_s (H_append 0 hH rfl (Ty.sle rfl) (Ty.zer rfl) rfl (Ty.byt rfl) (by decide) rfl rfl ((hH.o 1 rfl).sl) (by simp;try omega) (by simp) (by omega) (by simp only [maxLen];omega) rfl ?_)
    try clear hH
    intro _ a9 c9 hH
    replace hH:=nn2 hH
    replace hH:=hH.del 1
    replace hH:=nn1 hH
    rw [← List.map_append] at hH
    repeat (first|refine WS_region ?_|refine WL_nil ?_|refine WS_inBlock ?_|(refine WL_r (by first|refine Run_pev rfl|refine k_add64 rfl rfl (by omega)) rfl ?_))
    refine IH (i+1,a9,m+nx,c9,l++xs) _ _ ?_ ?_ ?_ ?_
    ·simp only;omega
    ·exact ⟨rfl,rfl,trivial⟩
    ·repeat first|with_reducible apply Agr.refl|refine Agr.upd rfl ?_|refine Agr.updL rfl ?_|refine Agr.mrg rfl ?_
    ·exact ⟨by omega,by omega,hH⟩
 ·obtain rfl:i=n:=by omega
  repeat (first|refine WS_seq ?_|refine WS_region ?_|refine WL_nil ?_|refine WS_exit rfl ?_|refine WS_no rfl (by omega) ?_|refine lp rfl rfl ?_)
  exact WS_ret1 Tryz.func42 rfl ⟨⟨_,_,_,rfl⟩,hH.ext⟩
end Go.Proofs.YtpbiicegmcpkpaaGreat
namespace Go.Proofs.YtpbiicegmcpkpaaGreat
open Go Go.K Go.P Go.RowKit Go.Proofs
abbrev rcd (s:ST) (a b c:Option Addr) (n k m p q r:Nat) (o:Bool):List Value:=s.cells++[.slice a n k,.slice b m p,.slice c q r,.bool o]
theorem ST.cells_len {s:ST} (h:s.h.ok):s.cells.length=132:=by
 show (s.h.cells++[_]).length=132
 rw [List.length_append,SH.cells_len h];rfl
theorem rc_fill {X zs:List Value} {a b c:Option Addr} {n k m p q r:Nat} {o:Bool} (h:X.length=132) (hz:zs.length=136):fillL (fun i=>[(0,132),(132,1),(133,1),(134,1),(135,1)][i]?) zs [(0,.agg X.toArray),(1,.slice a n k),(2,.slice b m p),(3,.slice c q r),(4,.bool o)]=some (X++[.slice a n k,.slice b m p,.slice c q r,.bool o]):=by
 obtain ⟨z0,z1,z2,z3,hd⟩:∃ z0 z1 z2 z3,zs.drop 132=[z0,z1,z2,z3]:=by
  have hl:(zs.drop 132).length=4:=by simp [hz]
  match h2:zs.drop 132,hl with
  | [z0,z1,z2,z3],_=>exact ⟨_,_,_,_,rfl⟩
 have e:∀ (l:List Value) (i j:Nat),(X++l).take (132+i)=X++l.take i∧(X++l).drop (132+j)=l.drop j:=fun l i j=>by
  rw [← h];exact ⟨List.take_length_add_append i,List.drop_length_add_append j⟩
 have e0:∀ (l:List Value),(X++l).take 132=X:=fun l=>List.take_left' h
 simp only [fillL,splice,Value.cells,List.getElem?_cons_zero,List.getElem?_cons_succ,List.size_toArray,h,hz,Nat.beq_refl,Bool.true_and]
 simp only [List.take_zero,List.nil_append,hd,Nat.zero_add,e0,List.length_append,h,List.length_cons,List.length_nil]
 have t:=fun l=>(e l 1 1);have t2:=fun l=>(e l 2 2);have t3:=fun l=>(e l 3 3);have t4:=fun l=>(e l 4 4)
 simp [h,(t _).1,(t _).2,(t2 _).1,(t2 _).2,(t3 _).1,(t3 _).2,(t4 _).2,Nat.ble]
theorem rcd_one {s:ST} {a b c:Option Addr} {n k m p q r:Nat} {o:Bool}:∀ v∈(rcd s a b c n k m p q r o).toArray.toList,v.oneCell'=true:=by
 intro v hv
 have hv2:v∈(s.h.cells++[.slice s.a s.ps.length s.cap])++[.slice a n k,.slice b m p,.slice c q r,.bool o]:=hv
 rcases List.mem_append.1 hv2 with h|h
 ·rcases List.mem_append.1 h with h|h
  ·exact cells_one s.h v (by simpa using h)
  ·simp at h;subst h;rfl
 ·simp at h;rcases h with rfl|rfl|rfl|rfl<;>rfl
theorem rcd_at {s:ST} {a b c:Option Addr} {n k m p q r:Nat} {o:Bool} (h:s.cells.length=132):(rcd s a b c n k m p q r o).toArray[135]?=some (.bool o):=by
 rw [List.getElem?_toArray,List.getElem?_append_right (by rw [h];decide),h];rfl
theorem rcd_set {s:ST} {a b c:Option Addr} {n k m p q r:Nat} {o o2:Bool} (h:s.cells.length=132):(rcd s a b c n k m p q r o).set 135 (.bool o2)=rcd s a b c n k m p q r o2:=by
 rw [List.set_append_right (h:=by rw [h];decide),h];rfl
theorem joinS {A:Prop} {Y:Fr→Nat→Value→Option Addr→Nat→List MP→World→Prop} (Z:Nat→Value→Option Addr→Nat→List MP→World→Prop) (h1:(∀ σ b v a c l u,Z b v a c l u→Y σ b v a c l u)→A) (h2:∀ σ b v a c l u,Z b v a c l u→Y σ b v a c l u):A:=h1 h2
structure PKs (s:ST) (c:Nat) (e0:BT) (es:List BT):Prop where
 len:es.length=npk s.ps
 pk:∀ e∈es,pkt e
 cap:es.length+1≤c
 l0:e0.2.2.length≤1000
abbrev Rpk (a:Option Addr) (e0:BT) (es:List BT):Res:=Rs a ((e0::es).map bsl)
abbrev Rmp (C R:Nat) (d:Option Addr) (l:List MP):Res:=Rs d (l.flatMap fun e=>dmc C R e.1)
theorem npk_64 {s:ST} {C R:Nat} (hs:s.ok C R):npk s.ps≤1024:=by
 obtain ⟨hC,hR,hCR⟩:=c_bounds hs.err hs.c hs.r
 have key:∀ k,k≤s.ps.length→npk (s.ps.take k)≤64*k:=by
  intro k
  induction k with
  | zero=>intro _;simp [npk]
  | succ k ih =>
   intro hk
   obtain ⟨p,hp⟩:∃ p,s.ps[k]?=some p:=⟨_,List.getElem?_eq_getElem (by omega)⟩
   rw [npk_take hp]
   have:=ih (by omega)
   have:=gok_le (hs.ps k p hp).gs
   omega
 have:=key s.ps.length (Nat.le_refl _)
 rw [List.take_length] at this
 have:=hs.len
 omega
set_option maxRecDepth 20000 in
set_option maxHeartbeats 16000000 in
theorem csend_spec {s:ST} {C R nf cf:Nat} {af:Option Addr} {F:List FA} {w:World} (hs:s.ok C R) (hrd:s.rd w) (hF:SlA w af (F.flatMap fac)) (hFl:F.length=nf) (hFn:nf≤100000) (hFm:FAs w F) (hFc:nf≤cf) :
  Does Tryz.prog 21 #[.agg s.cells.toArray,.slice af nf cf] w fun v w'=>∃ (a:Option Addr) (c:Nat) (e0:BT) (es:List BT) (b:Option Addr) (m p:Nat) (d:Option Addr) (q:Nat) (l:List MP) (o:Bool),v=.tuple #[.agg (rcd s a b d (es.length+1) c m p l.length q o).toArray,.int .i64 0]∧PKs s c e0 es∧(∀ e∈l,e.2.length=C*R)∧l.map (·.2)=clo C R s.ps F (szs es)∧Hp [] w w' [RM l,Rmp C R d l,RL (e0::es),Rpk a e0 es]:=by
 refine Does_of (args:=[_,_]) Tryz.func21 rfl rfl Tryz.ntmps21 rfl ?_
 have hH:=Hp.start w
 have h64:=npk_64 hs
 have hsl:=ST.cells_len hs.ho
 repeat (first|refine WS_seq ?_|refine WS_region ?_)
 refine WL_s (H_box (cs:=s.cells.toArray) hH rfl rfl rfl ?_)
 try clear hH
 intro _ b2 hH
 replace hH:=nn1 hH
 refine WL_s (H_alloc hH (Ty.zer rfl) rfl ?_)
 try clear hH
 intro _ b4 hH
 replace hH:=nn2 hH
 have hB2:=hH.b 0 rfl
 repeat (first|refine WS_seq ?_|refine WS_region ?_|refine WL_nil ?_|(refine WL_r (by first|refine k_loadA rfl hB2 (by simp [hsl]) (Ty.shp rfl)|refine Run_pev rfl) rfl ?_))
 clear hB2
 refine WL_s (S_call ((packets_spec hs (hrd.ext hH.ext))) rfl rfl ?_)
 rintro _ w1 ⟨a,c,e0,es,rfl,hel,hpk,hec,_,h0,hQ⟩
 replace hH:=hH.calls 0 hQ
 have hP:PKs s c e0 es:=⟨hel,hpk,hec,h0⟩
 clear hQ
 replace hH:=nn4 hH
 repeat (first|refine WS_seq ?_|refine WS_region ?_|refine WL_nil ?_|refine WS_skip ?_|refine WS_false rfl ?_|(refine WL_r (by first|refine Run_pev rfl|refine k_extract rfl rfl) rfl ?_))
 have hPb:∀ e∈es,e.2.2.length≤1000000:=fun e he=>by have:=(pkt_byt (hpk e he)).2.1;omega
 refine WL_s (S_call ((sizes_spec' (hH.at 1 rfl) rfl hPb (by omega))) rfl rfl ?_)
 rintro _ w2 ⟨az,cz,rfl,hZ,hE0⟩
 replace hH:=hH.ext0 hE0
 clear hE0
 replace hH:=nn4 hH
 repeat (first|refine WS_seq ?_|refine WL_nil ?_|refine lp rfl rfl ?_)
 have hB2:=hH.b 2 rfl
 apply joinS (Z:=fun b9 v d q l u=>(∃ b' n' c',v=.agg (rcd s a b' d (es.length+1) c n' c' l.length q true).toArray)∧(∀ e∈l,e.2.length=C*R)∧l.map (·.2)=clo C R s.ps F (szs es)∧∃ z1 z2:Array Value,z1.size=136∧z2.size=136∧Hp [] w u [RM l,Rmp C R d l,RL (e0::es),Rpk a e0 es,Rb b2 37 s.cells.toArray,Rb b4 43 z1,Rb b9 43 z2])
 ·intro key
  refine WS_tailE Ty.mixed 11 rfl (by kernel_rfl) rfl (fun w3 hx=>?_)
  refine wt 0 hx rfl rfl rfl (fun w' hw'=>by refine k_loadA rfl (hB2.ext0 hw') (by simp [hsl]) (Ty.shp rfl)) ?_
  refine wp 1 hx rfl rfl rfl rfl ?_
  refine wp 2 hx rfl rfl rfl rfl ?_
  refine wp 3 hx rfl rfl rfl rfl ?_
  refine wt 5 hx rfl rfl rfl (fun w' hw'=>by refine k_loadA rfl (hB2.ext0 hw') (by simp [hsl]) (Ty.shp rfl)) ?_
  refine wp 6 hx rfl rfl rfl rfl ?_
  refine wp 7 hx rfl rfl rfl rfl ?_
  replace hH:=hH.ext0 hx
  refine WA_two 4 10 (by kernel_rfl) rfl rfl rfl rfl ?_ ?_
  ·skip
   refine S_call (fapply_spec (hH.at 1 rfl) rfl (by omega) hP.pk (hH.at 0 rfl) hP.l0 (hF.ext0 hH.ext) hFl hFn (hFm.ext hH.ext)) rfl rfl ?_
   rintro _ _ ⟨⟨b',n',c',rfl⟩,hE0⟩
   replace hx:=hx.then0 hE0
   replace hH:=hH.ext0 hE0
   clear hE0
   refine ⟨hx,?_⟩
   refine WA_two 8 10 (by kernel_rfl) rfl rfl rfl rfl ?_ ?_
   ·skip
    refine S_call (closure_spec hs (hrd.ext hH.ext) (hZ.ext0 hx) (by simp [szs]) hP.len.symm (hF.ext0 hH.ext) hFl (by omega) (fun e he=>⟨(hFm e he).1.ext0 hH.ext,(hFm e he).2.2.1,by have:=(hFm e he).2.2.2;omega⟩)) rfl rfl ?_
    rintro _ _ ⟨d,q,l,rfl,hclo,hlen,hQ⟩
    replace hx:=hx.then0 hQ.ext
    replace hH:=hH.calls 0 hQ
    clear hQ
    refine ⟨hx,?_⟩
    refine wt 9 hx rfl rfl rfl (fun w' hw'=>by refine k_buildS (cs:=rcd s a b' d (es.length+1) c n' c' l.length q true) (Ty.zer rfl) (Ty.plc rfl) (rc_fill hsl rfl)) ?_
    refine WA_one 10 (by kernel_rfl) rfl rfl ?_
    refine S_alloc (Ty.zer rfl) rfl ?_
    intro w9 b9 hb9 hE0 hB9 _
    replace hx:=hx.then0 hE0
    replace hH:=hH.nu (r:=Rb b9 43 _) ⟨hE0,hB9,fun x hx=>by simp [Rb] at hx;omega⟩
    clear hE0 hB9 hb9
    refine ⟨hx,?_⟩
    refine WA_done (by kernel_rfl) ?_
    replace hH:=nn7 hH
    obtain ⟨v9,hv9⟩:∃ v9,v9=Value.agg (rcd s a b' d (es.length+1) c n' c' l.length q true).toArray:=⟨_,rfl⟩
    refine WL_keep [(1,.slice af nf cf),(4,pt b4),(6,.slice a (es.length+1) c),(9,pt b9),(34,v9)] ⟨rfl,rfl,rfl,rfl,hv9.symm,trivial⟩ (fun σ=>?_)
    exact WL_wC fun u hu=>key σ b9 v9 d q l u ⟨⟨b',n',c',hv9⟩,hlen,hclo,_,_,rfl,rfl,hu▸hH⟩
   ·skip
    refine S_alloc (Ty.zer rfl) rfl ?_
    intro w9 b9 hb9 hE0 hB9 _
    replace hx:=hx.then0 hE0
    replace hH:=hH.nu (r:=Rb b9 43 _) ⟨hE0,hB9,fun x hx=>by simp [Rb] at hx;omega⟩
    clear hE0 hB9 hb9
    refine ⟨hx,?_⟩
    refine WA_one 8 (by kernel_rfl) rfl rfl ?_
    refine S_call (closure_spec hs (hrd.ext hH.ext) (hZ.ext0 hx) (by simp [szs]) hP.len.symm (hF.ext0 hH.ext) hFl (by omega) (fun e he=>⟨(hFm e he).1.ext0 hH.ext,(hFm e he).2.2.1,by have:=(hFm e he).2.2.2;omega⟩)) rfl rfl ?_
    rintro _ _ ⟨d,q,l,rfl,hclo,hlen,hQ⟩
    replace hx:=hx.then0 hQ.ext
    replace hH:=hH.calls 0 hQ
    clear hQ
    refine ⟨hx,?_⟩
    refine wt 9 hx rfl rfl rfl (fun w' hw'=>by refine k_buildS (cs:=rcd s a b' d (es.length+1) c n' c' l.length q true) (Ty.zer rfl) (Ty.plc rfl) (rc_fill hsl rfl)) ?_
    refine WA_done (by kernel_rfl) ?_
    replace hH:=nn7 hH
    obtain ⟨v9,hv9⟩:∃ v9,v9=Value.agg (rcd s a b' d (es.length+1) c n' c' l.length q true).toArray:=⟨_,rfl⟩
    refine WL_keep [(1,.slice af nf cf),(4,pt b4),(6,.slice a (es.length+1) c),(9,pt b9),(34,v9)] ⟨rfl,rfl,rfl,rfl,hv9.symm,trivial⟩ (fun σ=>?_)
    exact WL_wC fun u hu=>key σ b9 v9 d q l u ⟨⟨b',n',c',hv9⟩,hlen,hclo,_,_,rfl,rfl,hu▸hH⟩
  ·skip
   refine S_alloc (Ty.zer rfl) rfl ?_
   intro w9 b9 hb9 hE0 hB9 _
   replace hx:=hx.then0 hE0
   replace hH:=hH.nu (r:=Rb b9 43 _) ⟨hE0,hB9,fun x hx=>by simp [Rb] at hx;omega⟩
   clear hE0 hB9 hb9
   refine ⟨hx,?_⟩
   refine WA_one 4 (by kernel_rfl) rfl rfl ?_
   refine S_call (fapply_spec (hH.at 1 rfl) rfl (by omega) hP.pk (hH.at 0 rfl) hP.l0 (hF.ext0 hH.ext) hFl hFn (hFm.ext hH.ext)) rfl rfl ?_
   rintro _ _ ⟨⟨b',n',c',rfl⟩,hE0⟩
   replace hx:=hx.then0 hE0
   replace hH:=hH.ext0 hE0
   clear hE0
   refine ⟨hx,?_⟩
   refine WA_one 8 (by kernel_rfl) rfl rfl ?_
   refine S_call (closure_spec hs (hrd.ext hH.ext) (hZ.ext0 hx) (by simp [szs]) hP.len.symm (hF.ext0 hH.ext) hFl (by omega) (fun e he=>⟨(hFm e he).1.ext0 hH.ext,(hFm e he).2.2.1,by have:=(hFm e he).2.2.2;omega⟩)) rfl rfl ?_
   rintro _ _ ⟨d,q,l,rfl,hclo,hlen,hQ⟩
   replace hx:=hx.then0 hQ.ext
   replace hH:=hH.calls 0 hQ
   clear hQ
   refine ⟨hx,?_⟩
   refine wt 9 hx rfl rfl rfl (fun w' hw'=>by refine k_buildS (cs:=rcd s a b' d (es.length+1) c n' c' l.length q true) (Ty.zer rfl) (Ty.plc rfl) (rc_fill hsl rfl)) ?_
   refine WA_done (by kernel_rfl) ?_
   replace hH:=nn7 hH
   obtain ⟨v9,hv9⟩:∃ v9,v9=Value.agg (rcd s a b' d (es.length+1) c n' c' l.length q true).toArray:=⟨_,rfl⟩
   refine WL_keep [(1,.slice af nf cf),(4,pt b4),(6,.slice a (es.length+1) c),(9,pt b9),(34,v9)] ⟨rfl,rfl,rfl,rfl,hv9.symm,trivial⟩ (fun σ=>?_)
   exact WL_wC fun u hu=>key σ b9 v9 d q l u ⟨⟨b',n',c',hv9⟩,hlen,hclo,_,_,rfl,rfl,hu▸hH⟩
 clear hH hB2
 rintro σ b9 v d q l u ⟨⟨b',n',c',hv⟩,hlen,hclo,z1,z2,hz1,hz2,hH⟩
 have hr136:∀ o,(rcd s a b' d (es.length+1) c n' c' l.length q o).toArray.size=136:=fun o=>by rw [List.size_toArray,List.length_append,hsl];rfl
 refine WL_s (H_storeA 6 (vs:=(rcd s a b' d (es.length+1) c n' c' l.length q true).toArray) (s:=136) hH rfl rfl hv (hr136 _) hz2 rcd_one (Ty.shp rfl) ?_)
 clear hH
 intro w3 hH
 replace hH:=nn7 hH
 repeat (first|refine WS_seq ?_|refine WS_region ?_|refine WL_nil ?_|refine WS_block ?_|(refine WL_r (by first|refine Run_pev rfl|refine k_len rfl (Ty.isl rfl)) rfl ?_))
 have hle:(F.flatMap fac).length=nf*2:=by rw [← hFl];exact fm_len (fun _ _=>rfl)
 refine WS_loop (G:=(Nat) × (Bool)) (fun|(i,o)=>nf-i) 4722366482732206275584 (fun|(i,o)=>[(37,.int .i64 i)]) (fun|(i,o),w'=>i≤nf∧Hp [] w w' [RM l,Rmp C R d l,RL (e0::es),Rpk a e0 es,Rb b2 37 s.cells.toArray,Rb b4 43 z1,Rb b9 43 (rcd s a b' d (es.length+1) c n' c' l.length q o).toArray]) (0,true) ⟨rfl,trivial⟩ ⟨by omega,hH⟩ ?_
 rintro ⟨i,o⟩ w' σ ⟨hi,hH⟩ IH
 show WS _ _ _ _ _ (updL [(37,.int .i64 i)] _) _
 by_cases hlt:i<nf
 ·obtain ⟨fe,hfe⟩:∃ fe,F[i]?=some fe:=⟨_,List.getElem?_eq_getElem (by omega)⟩
  obtain ⟨hfm,hfb,hfc,hfl⟩:=hFm fe (List.mem_of_getElem? hfe)
  have hat:=fm_at (f:=fac) (sz:=2) (fun _ _=>rfl) hfe
  have hF2:=hF.ext0 hH.ext
  repeat (first|refine WS_seq ?_|refine WS_region ?_|refine WL_nil ?_|refine WS_block ?_|refine WS_skip ?_|refine WS_yes rfl (by omega) ?_|(refine WL_r (by first|refine k_ix (sz:=2) rfl rfl hF2 hle (by decide) (Ty.sle rfl) (by omega)|refine k_loadC (j:=i*2) (cs:=fac fe) rfl hF2 hat rfl (Ty.shp rfl)|refine Run_pev rfl) rfl ?_))
  clear hF2
  refine WL_s (H_alloc hH (Ty.zer rfl) rfl ?_)
  try clear hH
  intro _ b11 hH
  replace hH:=nn8 hH
  repeat (refine lp rfl rfl ?_)
  refine WL_s (H_storeA 7 (vs:=(fac fe).toArray) (s:=2) hH rfl rfl rfl (by rfl) (by rfl) (by simp [Value.oneCell']) (Ty.shp rfl) ?_)
  try clear hH
  intro _ hH
  replace hH:=nn8 hH
  have hB11:=hH.b 7 rfl
  by_cases hin:i<es.length
  ·by_cases hl:fe.1=true
   ·repeat (first|refine WS_seq ?_|refine WS_region ?_|refine WL_nil ?_|refine WS_inBlock ?_|refine WS_skip ?_|refine WS_false rfl ?_|refine WL_gyes rfl rfl (dT (by omega)) ?_|(refine WL_r (by first|refine k_fa rfl (Ty.fld rfl rfl)|refine (k_loadb rfl hB11 rfl (Ty.shp rfl)).is (congrArg Value.bool hl)|refine Run_pev rfl|refine k_add64 rfl rfl (by omega)|refine k_len rfl (Ty.isl rfl)|refine k_pick_t (dT (by omega)) rfl) rfl ?_))
    replace hH:=hH.del 7
    replace hH:=nn7 hH
    refine IH (i+1,o) _ _ ?_ ?_ ?_ ?_
    ·simp only;omega
    ·exact ⟨rfl,trivial⟩
    ·repeat first|with_reducible apply Agr.refl|refine Agr.upd rfl ?_|refine Agr.updL rfl ?_|refine Agr.mrg rfl ?_
    ·exact ⟨by omega,hH⟩
   ·replace hl:fe.1=false:=by simpa using hl
    obtain ⟨e,he⟩:∃ e,es[i]?=some e:=⟨_,List.getElem?_eq_getElem (by omega)⟩
    have hem:=List.mem_of_getElem? he
    have hpe:=pkt_byt (hP.pk e hem)
    have hv2:((e0::es).map bsl)[i+1]?=some (.slice e.1 e.2.2.length e.2.1):=by rw [List.getElem?_map,List.getElem?_cons_succ,he];rfl
    have hi1:(i:Int)+1=((i+1:Nat):Int):=by simp
    have hSk:=hH.s 3 rfl
    repeat (first|refine WS_seq ?_|refine WS_region ?_|refine WL_nil ?_|refine WS_true rfl ?_|refine WL_gyes rfl rfl (dT (by omega)) ?_|(refine WL_r (by first|refine k_fa rfl (Ty.fld rfl rfl)|refine (k_loadb (v:=.bool fe.1) rfl hB11 rfl (Ty.shp rfl)).is (congrArg Value.bool hl)|refine (k_add64 rfl rfl (by omega)).is (congrArg (Value.int .i64) hi1)|refine k_ix1 rfl rfl hSk (by simp) (Ty.sle rfl) (by omega)|refine k_loads rfl hSk hv2 (Ty.shp rfl)|refine Run_pev rfl|refine k_len rfl (Ty.isl rfl)|refine k_pick_t (dT (by omega)) rfl) rfl ?_))
    clear hSk hB11
    refine WL_s (S_call ((cparts_spec (hH.at 2 rfl e (List.mem_cons_of_mem _ hem)) rfl hpe.1 hpe.2.2 (by omega))) rfl rfl ?_)
    rintro _ _ ⟨⟨x,y,hx,hy,rfl⟩,hE0⟩
    replace hH:=hH.ext0 hE0
    clear hE0
    replace hH:=nn8 hH
    have hB9:=hH.b 6 rfl
    have hB11:=hH.b 7 rfl
    cases o
    ·repeat (first|refine WS_region ?_|refine WL_nil ?_|refine WL_gno rfl rfl rfl rfl rfl ?_|(refine WL_r (by first|refine k_fa rfl (Ty.fld rfl rfl)|refine k_loadb rfl hB9 (rcd_at hsl) (Ty.shp rfl)|refine Run_pev rfl|refine k_extract rfl rfl) rfl ?_))
     refine WL_s (H_storeB 6 (v:=.bool false) hH rfl rfl rfl (by rw [List.length_append,hsl];exact Nat.le_of_ble_eq_true rfl) rfl (Ty.shp rfl) ?_)
     try clear hH
     intro _ hH
     replace hH:=nn8 hH
     rw [rcd_set hsl] at hH
     replace hH:=hH.del 7
     replace hH:=nn7 hH
     repeat (first|refine WS_region ?_|refine WL_nil ?_|refine WS_inBlock ?_|(refine WL_r (by first|refine Run_pev rfl|refine k_add64 rfl rfl (by omega)) rfl ?_))
     refine IH (i+1,false) _ _ ?_ ?_ ?_ ?_
     ·simp only;omega
     ·exact ⟨rfl,trivial⟩
     ·repeat first|with_reducible apply Agr.refl|refine Agr.upd rfl ?_|refine Agr.updL rfl ?_|refine Agr.mrg rfl ?_
     ·exact ⟨by omega,hH⟩
    ·repeat (first|refine WS_region ?_|refine WL_nil ?_|refine WL_gyes rfl rfl rfl ?_|(refine WL_r (by first|refine k_fa rfl (Ty.fld rfl rfl)|refine k_loadb rfl hB9 (rcd_at hsl) (Ty.shp rfl)|refine k_loadb rfl hB11 rfl (Ty.shp rfl)|refine Run_pev rfl|refine k_extract rfl rfl) rfl ?_))
     refine WL_s (S_call ((ftold_spec (hfm.ext0 hH.ext) rfl hfb (by omega) hfc hx hy)) rfl rfl ?_)
     rintro _ _ ⟨⟨o2,rfl⟩,hE0⟩
     replace hH:=hH.ext0 hE0
     clear hE0
     replace hH:=nn8 hH
     repeat ((refine WL_r (by first|refine k_fa rfl (Ty.fld rfl rfl)|refine Run_pev rfl) rfl ?_))
     refine WL_s (H_storeB 6 (v:=.bool o2) hH rfl rfl rfl (by rw [List.length_append,hsl];exact Nat.le_of_ble_eq_true rfl) rfl (Ty.shp rfl) ?_)
     try clear hH
     intro _ hH
     replace hH:=nn8 hH
     rw [rcd_set hsl] at hH
     replace hH:=hH.del 7
     replace hH:=nn7 hH
     repeat (first|refine WS_region ?_|refine WL_nil ?_|refine WS_inBlock ?_|(refine WL_r (by first|refine Run_pev rfl|refine k_add64 rfl rfl (by omega)) rfl ?_))
     refine IH (i+1,o2) _ _ ?_ ?_ ?_ ?_
     ·simp only;omega
     ·exact ⟨rfl,trivial⟩
     ·repeat first|with_reducible apply Agr.refl|refine Agr.upd rfl ?_|refine Agr.updL rfl ?_|refine Agr.mrg rfl ?_
     ·exact ⟨by omega,hH⟩
  ·repeat (first|refine WS_seq ?_|refine WS_region ?_|refine WL_nil ?_|refine WS_inBlock ?_|refine WS_skip ?_|refine WS_false rfl ?_|refine WL_gno (b:=false) rfl rfl (dF (by omega)) rfl rfl ?_|(refine WL_r (by first|refine Run_pev rfl|refine k_add64 rfl rfl (by omega)|refine k_len rfl (Ty.isl rfl)|refine k_pick_f (dF (by omega)) rfl) rfl ?_))
   replace hH:=hH.del 7
   replace hH:=nn7 hH
   refine IH (i+1,o) _ _ ?_ ?_ ?_ ?_
   ·simp only;omega
   ·exact ⟨rfl,trivial⟩
   ·repeat first|with_reducible apply Agr.refl|refine Agr.upd rfl ?_|refine Agr.updL rfl ?_|refine Agr.mrg rfl ?_
   ·exact ⟨by omega,hH⟩
 ·obtain rfl:i=nf:=by omega
  clear IH
  have hB9:=hH.b 6 rfl
  repeat (first|refine WS_seq ?_|refine WS_region ?_|refine WL_nil ?_|refine WS_exit rfl ?_|refine WS_no rfl (by omega) ?_|(refine WL_r (by first|refine k_loadA rfl hB9 (hr136 _) (Ty.shp rfl)|refine Run_pev rfl) rfl ?_))
  refine WL_s (H_storeA 5 (vs:=(rcd s a b' d (es.length+1) c n' c' l.length q o).toArray) (s:=136) hH rfl rfl rfl (hr136 _) hz1 rcd_one (Ty.shp rfl) ?_)
  clear hH
  intro w3 hH
  replace hH:=nn7 hH
  repeat (first|refine WL_nil ?_|refine lp rfl rfl ?_)
  exact WS_retc2 Tryz.func21 rfl rfl (hH.b 5 rfl) (hr136 _) (Ty.shp rfl) ⟨a,c,e0,es,b',n',c',d,q,l,o,rfl,hP,hlen,hclo,hH.take 4⟩
end Go.Proofs.YtpbiicegmcpkpaaGreat
