/- A part of the proof that TopWorse is true at every input; no condition. -/
import Derived.Test.YtpbiicegmcpkpaaGreatT25
namespace Go.Proofs.YtpbiicegmcpkpaaGreat
open Go Go.K Go.P Go.RowKit Go.Proofs
set_option maxHeartbeats 4000000 in
theorem begin_spec {bc c r:Nat} {id hq:Int} {inter down:Bool} {hc:List Value} {w:World} (hc8:c≤8) (hr8:r≤8) :
  Does Tryz.prog 63 #[pt bc,.agg (.int .i64 c::.int .i64 r::hc).toArray,.agg #[.int .i64 id,.bool inter,.bool down,.int .i64 hq]] w fun v w'=>∃ d:SD,(d.c=c∧d.r=r∧d.bc=bc∧d.inter=inter)∧v=pt d.s∧New (RS d hq) w w':=by
 refine Does_of (args:=[_,_,_]) Tryz.func63 rfl rfl Tryz.ntmps63 rfl ?_
 have hH:=Hp.start w
 repeat (first|refine WS_seq ?_|refine WS_region ?_)
 refine WL_s (H_box (cs:=(.int .i64 c::.int .i64 r::hc).toArray) hH rfl rfl rfl ?_)
 try clear hH
 intro _ b1 hH
 replace hH:=nn1 hH
 refine WL_s (H_box (cs:=#[.int .i64 id,.bool inter,.bool down,.int .i64 hq]) hH rfl rfl rfl ?_)
 try clear hH
 intro _ b2 hH
 replace hH:=nn2 hH
 have hB1:=hH.b 0 rfl
 have hB2:=hH.b 1 rfl
 repeat (first|refine WS_seq ?_|refine WL_nil ?_|refine lp rfl rfl ?_)
 refine WS_drawE Ty.mixed 17 rfl (fun w1 hx1=>?_)
 refine wp 0 hx1 rfl rfl rfl rfl ?_
 refine wt 1 hx1 rfl rfl rfl (fun w' hw'=>by refine k_loadA rfl (hB2.ext0 hw') rfl (Ty.shp rfl)) ?_
 refine wt 2 hx1 rfl rfl rfl (fun w' hw'=>by refine k_fa rfl (Ty.fld rfl rfl)) ?_
 refine wt 3 hx1 rfl rfl rfl (fun w' hw'=>by refine k_loadb rfl (hB2.ext0 hw') rfl (Ty.shp rfl)) ?_
 refine wt 4 hx1 rfl rfl rfl (fun w' hw'=>by refine k_fa rfl (Ty.fld rfl rfl)) ?_
 refine wt 5 hx1 rfl rfl rfl (fun w' hw'=>by refine k_loadb rfl (hB1.ext0 hw') rfl (Ty.shp rfl)) ?_
 refine wt 6 hx1 rfl rfl rfl (fun w' hw'=>by refine k_fa rfl (Ty.fld rfl rfl)) ?_
 refine wt 7 hx1 rfl rfl rfl (fun w' hw'=>by refine k_loadb rfl (hB1.ext0 hw') rfl (Ty.shp rfl)) ?_
 refine wt 9 hx1 rfl rfl rfl (fun w' hw'=>by refine k_fa rfl (Ty.fld rfl rfl)) ?_
 refine wt 10 hx1 rfl rfl rfl (fun w' hw'=>by refine k_loadb rfl (hB1.ext0 hw') rfl (Ty.shp rfl)) ?_
 refine wt 11 hx1 rfl rfl rfl (fun w' hw'=>by refine k_fa rfl (Ty.fld rfl rfl)) ?_
 refine wt 12 hx1 rfl rfl rfl (fun w' hw'=>by refine k_loadb rfl (hB1.ext0 hw') rfl (Ty.shp rfl)) ?_
 refine WA_one 8 (by kernel_rfl) rfl rfl (S_call (vnew_spec hc8 hr8) rfl rfl ?_)
 rintro _ w2 ⟨bf,mf,rfl,hN⟩
 have hx2:=hx1.then0 hN.ext
 refine ⟨hx2,?_⟩
 replace hH:=(hH.ext0 hx1).nu hN
 replace hH:=nn3 hH
 refine WA_one 13 (by kernel_rfl) rfl rfl (S_call (prednew_spec 1000 hc8 hr8) rfl rfl ?_)
 rintro _ w3 ⟨bt,m1,m2,m3,rfl,hN2⟩
 have hx3:=hx2.then0 hN2.ext
 refine ⟨hx3,?_⟩
 replace hH:=hH.nu hN2
 replace hH:=nn4 hH
 refine wt 14 hx3 rfl rfl rfl (fun w' hw'=>by refine k_buildS (cs:=[pt bc,.int .i64 id,.bool inter,.bool down,.int .i64 hq,.int .i64 hq,pt bf,pt bt]) (Ty.zer rfl) (Ty.plc rfl) rfl) ?_
 refine WA_one 15 (by kernel_rfl) rfl rfl (S_box (cs:=#[pt bc,.int .i64 id,.bool inter,.bool down,.int .i64 hq,.int .i64 hq,pt bf,pt bt]) rfl rfl rfl (fun w4 s hs hE hB _=>?_))
 have hx4:=hx3.then0 hE
 refine ⟨hx4,?_⟩
 replace hH:=hH.nu (r:=Rb s 167 #[pt bc,.int .i64 id,.bool inter,.bool down,.int .i64 hq,.int .i64 hq,pt bf,pt bt]) ⟨hE,hB,fun x hx=>by simp [Rb] at hx;omega⟩
 replace hH:=nn5 hH
 refine wp 16 hx4 rfl rfl rfl rfl ?_
 refine WA_done (by kernel_rfl) ?_
 skip
 have hdj:=hH.dj 2 3 rfl rfl (by decide)
 refine WS_ret1 Tryz.func63 rfl ⟨⟨s,bf,mf,bt,m1,m2,m3,c,r,bc,id,hq,inter,down⟩,⟨rfl,rfl,rfl,rfl⟩,rfl,hH.ext,⟨hH.b 4 rfl,hH.at 2 rfl,hH.at 3 rfl,fun h=>hdj mf (by simp [RF]) (by simp [RT];simp at h;exact .inr h)⟩,?_⟩
 intro x hx
 have hn:∀ (i:Nat) (r':Res),([Rb b1 26 (Value.int .i64 c::.int .i64 r::hc).toArray,Rb b2 69 #[.int .i64 id,.bool inter,.bool down,.int .i64 hq],RF bf mf c r,RT 1000 bt m1 m2 m3 c r,Rb s 167 #[pt bc,.int .i64 id,.bool inter,.bool down,.int .i64 hq,.int .i64 hq,pt bf,pt bt]]:List Res)[i]?=some r'→x∈r'.fp→w.heap.size≤x:=fun i r' hr hx=>by
  rcases hH.new r' (List.mem_of_getElem? hr) x hx with h|h
  ·cases h
  ·exact h
 rcases List.mem_cons.1 hx with h|h
 ·exact hn 4 _ rfl (by simp [Rb,h])
 ·rcases List.mem_append.1 h with h|h
  ·exact hn 2 _ rfl h
  ·exact hn 3 _ rfl h
abbrev WT:=Option Addr × Nat × List Bool
abbrev RX (p:Nat) (t:WT):Res:=Rw p t.1 t.2.1 t.2.2
abbrev PA (d:SD) (qp:Int) (v:Nat) (t:WT) (x:Nat) (s:WT) (k:KD):List Res:=[RS d qp,RX v t,RX x s,RK k]
section
variable {d:SD} {qp:Int} {v x:Nat} {t s:WT} {k:KD} {w:World}
set_option maxHeartbeats 4000000 in
theorem diff_spec {n:Int} (hk:k.ok) (hbc:k.bc=d.bc) (hn:-127≤n∧n≤127) (ht:t.2.2.length≤1000000) (hP:Sep (PA d qp v t x s k) w) :
  Does Tryz.prog 137 #[pt d.s,pt v,.int .i64 n] w fun r w'=>r=.tuple #[]∧∃ t',t'.2.2.length≤t.2.2.length+40∧Hp (fps (PA d qp v t x s k)) w w' (PA d qp v t' x s k):=by
 refine Does_of (args:=[_,_,_]) Tryz.func137 rfl rfl Tryz.ntmps137 rfl ?_
 have hH:=Hp.startL hP
 obtain ⟨m,hm⟩:∃ m:Nat,max n (-n)=m:=⟨(max n (-n)).toNat,by omega⟩
 have hm2:m≤127:=by omega
 repeat (first|refine WS_seq ?_|refine WS_region ?_|(refine WL_r (by first|refine k_neg64 rfl (by omega)|refine (k_max rfl rfl).is (congrArg (Value.int .i64) hm)|refine k_conv64 (m:=m) rfl rfl rfl (by omega)|refine Run_pev rfl) rfl ?_))
 refine WL_s (S_call ((len_spec (x:=m) (by omega))) rfl rfl ?_)
 rintro _ _ ⟨rfl,rfl⟩
 have hb7:blen m≤7:=blen_le (x:=m) (m:=7) (by omega)
 have hup:=blen_up (x:=m)
 obtain ⟨z,hz⟩:∃ z,blen m=z:=⟨_,rfl⟩
 rw [hz] at hb7 hup ⊢
 have hB:=(hH.at 0 rfl).1
 have hC:Blk _ d.bc 146 #[pt k.p0,pt k.p1,pt k.p2]:=hbc▸(hH.at 3 rfl).1
 have hi:z<k.D1.sz.length:=by rw [hk.s1];exact Nat.lt_of_le_of_lt hb7 (by decide)
 repeat (first|refine WS_seq ?_|refine WS_region ?_|refine WL_nil ?_|(refine WL_r (by first|refine k_nilCheck rfl|refine k_fa rfl (Ty.fld rfl rfl)|refine k_loadb rfl hB rfl (Ty.shp rfl)|refine k_loadb rfl hC rfl (Ty.shp rfl)|refine Run_pev rfl) rfl ?_))
 have hszd:=hk.o1.1.szd hi
 refine WL_s (S_call ((cputw_spec (i:=z) hk.o1 hi (by omega) (hH.at 3 rfl).2.2.1 (hH.at 1 rfl))) rfl rfl ?_)
 rintro _ w2 ⟨rfl,a2,c2,hU⟩
 replace hH:=hH.up 1 rfl hU
 clear hU hB hC
 replace hH:=nn4 hH
 have hl:(t.2.2++cw k.D1.sz k.D1.ws z).length≤t.2.2.length+32:=by rw [List.length_append,cw_len];omega
 by_cases h0:n<0
 ·have hpz:2 ^ z≤128:=Nat.pow_le_pow_right (by decide) hb7
  obtain ⟨N,hN⟩:∃ N:Nat,n+((1*2 ^ z:Nat)-1)=N:=⟨(n+((1*2 ^ z:Nat)-1)).toNat,by omega⟩
  repeat (first|refine WS_seq ?_|refine WS_region ?_|refine WL_nil ?_|refine WS_yes rfl (by omega) ?_|(refine WL_r (by first|refine k_shl64 (m:=1) (n:=z) rfl rfl (by omega) (by omega)|refine (k_add64 rfl rfl (by omega)).is (congrArg (Value.int .i64) hN)|refine k_conv64 (m:=N) rfl rfl rfl (by omega)|refine Run_pev rfl|refine k_sub64 rfl rfl (by omega)) rfl ?_))
  refine WL_s (S_call ((wput_spec (n:=N) (s:=z) (by omega) (by omega) (by omega) (hH.at 1 rfl))) rfl rfl ?_)
  rintro _ w3 ⟨rfl,a3,c3,hU⟩
  replace hH:=hH.up 1 rfl hU
  replace hH:=nn4 hH
  repeat (refine WL_nil ?_)
  exact WS_end0 Tryz.func137 rfl ⟨rfl,(a3,c3,_),by rw [List.length_append,nb_len];omega,hH⟩
 ·obtain ⟨N,rfl⟩:∃ N:Nat,n=N:=⟨n.toNat,by omega⟩
  repeat (first|refine WS_seq ?_|refine WS_region ?_|refine WL_nil ?_|refine WS_skip ?_|refine WS_false rfl ?_|(refine WL_r (by first|refine k_conv64 (m:=N) rfl rfl rfl (by omega)|refine Run_pev rfl) rfl ?_))
  refine WL_s (S_call ((wput_spec (n:=N) (s:=z) (by omega) (by omega) (by omega) (hH.at 1 rfl))) rfl rfl ?_)
  rintro _ w3 ⟨rfl,a3,c3,hU⟩
  replace hH:=hH.up 1 rfl hU
  replace hH:=nn4 hH
  repeat (refine WL_nil ?_)
  exact WS_end0 Tryz.func137 rfl ⟨rfl,(a3,c3,_),by rw [List.length_append,nb_len];omega,hH⟩
theorem RS.q {q:Int} {w':World} (h:(RS d qp).holds w) (hE:Ext [d.s] w w') (hB:Blk w' d.s 167 (d.cells q)):Upd (RS d qp) (RS d q) w w':=by
 obtain ⟨h1,h2,h3,h4⟩:=h
 have hsf:d.s ∉ d.F.fp:=by
  simp only [SD.F,RF,List.mem_cons,List.not_mem_nil,or_false,not_or]
  exact ⟨blk_ne' h1 h2.1 (by decide),blk_map h1 h2.2⟩
 have hst:d.s ∉ d.T.fp:=by
  simp only [SD.T,RT,List.mem_cons,List.not_mem_nil,or_false,not_or]
  exact ⟨blk_ne' h1 h3.1 (by decide),blk_map h1 h3.2.1,blk_map h1 h3.2.2.1,blk_map h1 h3.2.2.2⟩
 exact ⟨hE.weaken (fun s hs=>by simp at hs;simp [RS,hs]),⟨hB,d.F.keep h2 hE (fun s hs hb=>by simp at hs;subst hs;exact hsf hb),d.T.keep h3 hE (fun s hs hb=>by simp at hs;subst hs;exact hst hb),h4⟩,fun _ hx=>.inl hx⟩
theorem step_is {p q:Int} (h:stepOk p q) (hp:1≤p∧p≤31) (hq:1≤q∧q≤31):∃ i:Nat,i<4∧∀ w:World,Does Tryz.prog 93 #[.int .i64 p,.int .i64 q] w fun v w'=>v=.tuple #[.int .i64 i,.bool true]∧Ext [] w w':=by
 obtain ⟨i,d,hi,hd,hqd⟩:∃ (i:Nat) (d:Int),i<4∧stL[i]?=some d∧p+d=q:=by
  rcases h with h|h|h|h
  ·exact ⟨0,-2,by decide,rfl,by omega⟩
  ·exact ⟨1,-1,by decide,rfl,by omega⟩
  ·exact ⟨2,1,by decide,rfl,by omega⟩
  ·exact ⟨3,2,by decide,rfl,by omega⟩
 refine ⟨i,hi,fun w=>(step_spec (by omega)).mono ?_⟩
 rintro v w' ⟨⟨j,hj,hd2,_,rfl⟩|⟨hno,_⟩,hE⟩
 ·have:d=q-p:=by omega
  subst this
  have hij:i=j:=by
   rw [← hd2] at hd
   exact (List.getElem?_inj (l:=stL) (by simpa [stL] using hi) (by decide)).1 hd
  rw [hij]
  exact ⟨rfl,hE⟩
 ·exact absurd ⟨hqd,hq.1,hq.2⟩ (hno i d hd)
section
variable {kd:Nat} {q:Int} {u0 u1 u2 u3:Value} {e:Bool} {L:List Int}
set_option maxHeartbeats 4000000 in
theorem kind_spec (hk:k.ok) (hbc:k.bc=d.bc) (h:MV kd q u0 u1 u2 u3 e L) (hqp:1≤qp∧qp≤31) (hq:kd=4→stepOk qp q) (ht:t.2.2.length≤1000000) (hP:Sep (PA d qp v t x s k) w) :
  Does Tryz.prog 96 #[pt d.s,pt v,.agg (mcl kd q u0 u1 u2 u3 e L).toArray] w fun r w'=>r=.tuple #[]∧∃ t',t'.2.2.length≤t.2.2.length+40∧Hp (fps (PA d qp v t x s k)) w w' (PA d (if kd=4 then q else qp) v t' x s k):=by
 refine Does_of (args:=[_,_,_]) Tryz.func96 rfl rfl Tryz.ntmps96 rfl ?_
 have hH:=Hp.startL hP
 have hk5:=h.k5
 repeat (first|refine WS_seq ?_|refine WS_region ?_)
 refine WL_s (H_box (cs:=(mcl kd q u0 u1 u2 u3 e L).toArray) hH rfl rfl rfl ?_)
 try clear hH
 intro _ b5 hH
 replace hH:=nn5 hH
 have hB:=(hH.at 0 rfl).1
 have hC:Blk _ d.bc 146 #[pt k.p0,pt k.p1,pt k.p2]:=hbc▸(hH.at 3 rfl).1
 have hBm:=hH.b 4 rfl
 cases hin:d.inter
 ·repeat (first|refine WS_seq ?_|refine WS_region ?_|refine WL_nil ?_|refine WS_false rfl ?_|(refine WL_r (by first|refine k_nilCheck rfl|refine k_fa rfl (Ty.fld rfl rfl)|refine (k_loadb rfl hB rfl (Ty.shp rfl)).is (congrArg Value.bool hin)|refine k_loadb rfl hBm rfl (Ty.shp rfl)|refine Run_pev rfl) rfl ?_))
  refine WL_s (S_call ((wflag_spec (by omega) (hH.at 1 rfl))) rfl rfl ?_)
  rintro _ _ ⟨rfl,a2,c2,hU⟩
  replace hH:=hH.up 1 rfl hU
  clear hU hB hC hBm
  replace hH:=nn5 hH
  obtain ⟨bs2,hbs⟩:∃ bs2,t.2.2++[decide ((kd:Int)=4)]=bs2:=⟨_,rfl⟩
  have hl:bs2.length=t.2.2.length+1:=by rw [← hbs];simp
  replace hH:Hp _ _ _ [RS d qp,Rw v a2 c2 bs2,RX x s,RK k,Rb b5 97 (mcl kd q u0 u1 u2 u3 e L).toArray]:=hbs▸hH
  by_cases h4:kd=4
  ·obtain ⟨i,hi,hst⟩:=step_is (hq h4) hqp h.q1
   have hBm:=hH.b 4 rfl
   have hB:=(hH.at 0 rfl).1
   repeat (first|refine WS_seq ?_|refine WS_region ?_|refine WL_nil ?_|refine WS_true rfl ?_|(refine WL_r (by first|refine k_fa rfl (Ty.fld rfl rfl)|refine k_loadb rfl hBm rfl (Ty.shp rfl)|refine (k_eql (q:=.u8) rfl rfl).is (bT (by omega))) rfl ?_))
   refine WS_specK [Is (pt d.s),Is (pt d.s),Is (.pointer (some ⟨d.s,0+5,none⟩)),Is (.int .i64 qp),Is (.pointer (some ⟨b5,0+1,none⟩)),Is (.int .i64 q),Is (.tuple #[.int .i64 i,.bool true]),Is (.tuple #[.int .i64 i,.bool true]),Is (.int .i64 i),Is (.bool true),Is (.int .i64 i),Is (.bool true)] Ty.mixed [(8735963480064,[],true),(8684423872512,[(0,34)],true),(8581344657408,[(1,35)],true),(7550552506368,[(2,36)],true),(7962869366784,[],true),(7138235645952,[(4,38)],true),(7679401525248,[(3,37),(5,39)],true),(2181843386368,[(6,40)],true),(6588479832064,[(7,33)],true),(4389456576576,[(7,33)],true),(8787503087616,[(8,41)],true),(8787503087680,[(9,42)],true)] 8787503087808 [(10,6)] (by kernel_rfl) (by kernel_rfl) (by kernel_rfl) (by kernel_rfl) (by kernel_rfl) ⟨Is.st,Is.st,Is.st,Is.st,Is.st,Is.st,Is.st,Is.st,Is.st,Is.st,Is.st,Is.st,trivial⟩ ⟨⟨GOk.none,?_⟩,⟨GOk.none,?_⟩,⟨GOk.none,?_⟩,⟨GOk.none,?_⟩,⟨GOk.none,?_⟩,⟨GOk.none,?_⟩,⟨GOk.none,?_⟩,⟨GOk.none,?_⟩,⟨GOk.none,?_⟩,⟨GOk.none,?_⟩,⟨GOk.none,?_⟩,⟨GOk.none,?_⟩,trivial⟩ ?_
   ·intro w'' hE''
    intro σ''
    exact sp_is (by refine Run_pev rfl) rfl
   ·intro w'' hE''
    rintro _ rfl
    intro σ''
    exact sp_is (by refine Run_pev rfl) rfl
   ·intro w'' hE''
    rintro _ rfl
    intro σ''
    exact sp_is (by refine k_fa rfl (Ty.fld rfl rfl)) rfl
   ·intro w'' hE''
    rintro _ rfl
    intro σ''
    exact sp_is (by refine k_loadb rfl (hB.ext0 hE'') rfl (Ty.shp rfl)) rfl
   ·intro w'' hE''
    intro σ''
    exact sp_is (by refine k_fa rfl (Ty.fld rfl rfl)) rfl
   ·intro w'' hE''
    rintro _ rfl
    intro σ''
    exact sp_is (by refine k_loadb rfl (hBm.ext0 hE'') rfl (Ty.shp rfl)) rfl
   ·intro w'' hE''
    rintro _ rfl
    rintro _ rfl
    intro σ''
    refine S_call (hst _) rfl rfl ?_
    rintro v w3'' ⟨rfl,hE3''⟩
    exact ⟨hE3'',_,rfl,rfl⟩
   ·intro w'' hE''
    rintro _ rfl
    intro σ''
    exact sp_is (by refine Run_pev rfl) rfl
   ·intro w'' hE''
    rintro _ rfl
    intro σ''
    exact sp_is (by refine k_extract rfl rfl) rfl
   ·intro w'' hE''
    rintro _ rfl
    intro σ''
    exact sp_is (by refine k_extract rfl rfl) rfl
   ·intro w'' hE''
    rintro _ rfl
    intro σ''
    exact sp_is (by refine Run_pev rfl) rfl
   ·intro w'' hE''
    rintro _ rfl
    intro σ''
    exact sp_is (by refine Run_pev rfl) rfl
   intro w'' hE''
   rintro _ rfl
   intro σ''
   replace hH:=hH.ext0 hE''
   clear hB hBm hE''
   replace hH:=nn5 hH
   repeat (first|refine WS_seq ?_|refine WS_region ?_|(refine WL_r (by first|refine k_conv64 (m:=i) rfl rfl rfl (by omega)|refine Run_pev rfl) rfl ?_))
   refine WL_s (S_call ((wput_spec (n:=i) (s:=2) (by omega) (by omega) (by omega) (hH.at 1 rfl))) rfl rfl ?_)
   rintro _ _ ⟨rfl,a3,c3,hU⟩
   replace hH:=hH.up 1 rfl hU
   clear hU
   replace hH:=nn5 hH
   have hBm:=hH.b 4 rfl
   have hB:=(hH.at 0 rfl).1
   repeat (first|refine WS_region ?_|refine WL_nil ?_|(refine WL_r (by first|refine k_nilCheck rfl|refine k_fa rfl (Ty.fld rfl rfl)|refine k_loadb rfl hBm rfl (Ty.shp rfl)|refine Run_pev rfl) rfl ?_))
   refine WL_s (S_store rfl rfl hB (by simp) rfl (Ty.shp rfl) (fun w9 hE hB9 _=>?_))
   replace hH:=hH.up 0 rfl (RS.q (q:=q) (hH.at 0 rfl) hE hB9)
   clear hBm hB hB9 hE
   replace hH:=nn5 hH
   repeat (refine WL_nil ?_)
   refine WS_end0 Tryz.func96 rfl ⟨rfl,(a3,c3,bs2++nb i 2),by rw [List.length_append,nb_len];omega,?_⟩
   rw [if_pos h4]
   exact hH.take 4
  ·have hBm:=hH.b 4 rfl
   repeat (first|refine WS_seq ?_|refine WS_region ?_|refine WL_nil ?_|refine WS_skip ?_|refine WS_false rfl ?_|(refine WL_r (by first|refine k_fa rfl (Ty.fld rfl rfl)|refine k_loadb rfl hBm rfl (Ty.shp rfl)|refine (k_eql (q:=.u8) rfl rfl).is (bF (by omega))) rfl ?_))
   refine WS_end0 Tryz.func96 rfl ⟨rfl,(a2,c2,bs2),by simp only;omega,?_⟩
   rw [if_neg h4]
   exact hH.take 4
 ·have hi:kd<k.D0.sz.length:=by rw [hk.s0];exact Nat.lt_of_lt_of_le hk5 (by decide)
  have hszd:=hk.o0.1.szd hi
  repeat (first|refine WS_seq ?_|refine WS_region ?_|refine WL_nil ?_|refine WS_true rfl ?_|(refine WL_r (by first|refine k_nilCheck rfl|refine k_fa rfl (Ty.fld rfl rfl)|refine (k_loadb rfl hB rfl (Ty.shp rfl)).is (congrArg Value.bool hin)|refine Run_pev rfl) rfl ?_))
  refine WS_tailE Ty.mixed 11 rfl (by kernel_rfl) rfl (fun w1 hx1=>?_)
  refine wp 0 hx1 rfl rfl rfl rfl ?_
  refine wt 1 hx1 rfl rfl rfl (fun w' hw'=>by refine k_nilCheck rfl) ?_
  refine wt 2 hx1 rfl rfl rfl (fun w' hw'=>by refine k_fa rfl (Ty.fld rfl rfl)) ?_
  refine wt 3 hx1 rfl rfl rfl (fun w' hw'=>by refine k_loadb rfl (hB.ext0 hw') rfl (Ty.shp rfl)) ?_
  refine wt 4 hx1 rfl rfl rfl (fun w' hw'=>by refine k_nilCheck rfl) ?_
  refine wt 5 hx1 rfl rfl rfl (fun w' hw'=>by refine k_fa rfl (Ty.fld rfl rfl)) ?_
  refine wt 6 hx1 rfl rfl rfl (fun w' hw'=>by refine k_loadb rfl (hC.ext0 hw') rfl (Ty.shp rfl)) ?_
  refine wp 7 hx1 rfl rfl rfl rfl ?_
  refine wt 8 hx1 rfl rfl rfl (fun w' hw'=>by refine k_fa rfl (Ty.fld rfl rfl)) ?_
  refine wt 9 hx1 rfl rfl rfl (fun w' hw'=>by refine k_loadb rfl (hBm.ext0 hw') rfl (Ty.shp rfl)) ?_
  refine wt 10 hx1 rfl rfl rfl (fun w' hw'=>by refine k_convI rfl rfl rfl (by omega)) ?_
  refine WA_done (by kernel_rfl) ?_
  replace hH:=hH.ext0 hx1
  refine WL_s (S_call ((cputw_spec (i:=kd) hk.o0 hi (by omega) (hH.at 3 rfl).2.1 (hH.at 1 rfl))) rfl rfl ?_)
  rintro _ _ ⟨rfl,a2,c2,hU⟩
  replace hH:=hH.up 1 rfl hU
  clear hU hB hC hBm
  replace hH:=nn5 hH
  obtain ⟨bs2,hbs⟩:∃ bs2,t.2.2++cw k.D0.sz k.D0.ws kd=bs2:=⟨_,rfl⟩
  have hl:bs2.length≤t.2.2.length+32:=by rw [← hbs,List.length_append,cw_len];omega
  rw [hbs] at hH
  by_cases h4:kd=4
  ·obtain ⟨i,hi,hst⟩:=step_is (hq h4) hqp h.q1
   have hBm:=hH.b 4 rfl
   have hB:=(hH.at 0 rfl).1
   repeat (first|refine WS_seq ?_|refine WS_region ?_|refine WL_nil ?_|refine WS_true rfl ?_|(refine WL_r (by first|refine k_fa rfl (Ty.fld rfl rfl)|refine k_loadb rfl hBm rfl (Ty.shp rfl)|refine (k_eql (q:=.u8) rfl rfl).is (bT (by omega))) rfl ?_))
   refine WS_specK [Is (pt d.s),Is (pt d.s),Is (.pointer (some ⟨d.s,0+5,none⟩)),Is (.int .i64 qp),Is (.pointer (some ⟨b5,0+1,none⟩)),Is (.int .i64 q),Is (.tuple #[.int .i64 i,.bool true]),Is (.tuple #[.int .i64 i,.bool true]),Is (.int .i64 i),Is (.bool true),Is (.int .i64 i),Is (.bool true)] Ty.mixed [(8735963480064,[],true),(8684423872512,[(0,34)],true),(8581344657408,[(1,35)],true),(7550552506368,[(2,36)],true),(7962869366784,[],true),(7138235645952,[(4,38)],true),(7679401525248,[(3,37),(5,39)],true),(2181843386368,[(6,40)],true),(6588479832064,[(7,33)],true),(4389456576576,[(7,33)],true),(8787503087616,[(8,41)],true),(8787503087680,[(9,42)],true)] 8787503087808 [(10,6)] (by kernel_rfl) (by kernel_rfl) (by kernel_rfl) (by kernel_rfl) (by kernel_rfl) ⟨Is.st,Is.st,Is.st,Is.st,Is.st,Is.st,Is.st,Is.st,Is.st,Is.st,Is.st,Is.st,trivial⟩ ⟨⟨GOk.none,?_⟩,⟨GOk.none,?_⟩,⟨GOk.none,?_⟩,⟨GOk.none,?_⟩,⟨GOk.none,?_⟩,⟨GOk.none,?_⟩,⟨GOk.none,?_⟩,⟨GOk.none,?_⟩,⟨GOk.none,?_⟩,⟨GOk.none,?_⟩,⟨GOk.none,?_⟩,⟨GOk.none,?_⟩,trivial⟩ ?_
   ·intro w'' hE''
    intro σ''
    exact sp_is (by refine Run_pev rfl) rfl
   ·intro w'' hE''
    rintro _ rfl
    intro σ''
    exact sp_is (by refine Run_pev rfl) rfl
   ·intro w'' hE''
    rintro _ rfl
    intro σ''
    exact sp_is (by refine k_fa rfl (Ty.fld rfl rfl)) rfl
   ·intro w'' hE''
    rintro _ rfl
    intro σ''
    exact sp_is (by refine k_loadb rfl (hB.ext0 hE'') rfl (Ty.shp rfl)) rfl
   ·intro w'' hE''
    intro σ''
    exact sp_is (by refine k_fa rfl (Ty.fld rfl rfl)) rfl
   ·intro w'' hE''
    rintro _ rfl
    intro σ''
    exact sp_is (by refine k_loadb rfl (hBm.ext0 hE'') rfl (Ty.shp rfl)) rfl
   ·intro w'' hE''
    rintro _ rfl
    rintro _ rfl
    intro σ''
    refine S_call (hst _) rfl rfl ?_
    rintro v w3'' ⟨rfl,hE3''⟩
    exact ⟨hE3'',_,rfl,rfl⟩
   ·intro w'' hE''
    rintro _ rfl
    intro σ''
    exact sp_is (by refine Run_pev rfl) rfl
   ·intro w'' hE''
    rintro _ rfl
    intro σ''
    exact sp_is (by refine k_extract rfl rfl) rfl
   ·intro w'' hE''
    rintro _ rfl
    intro σ''
    exact sp_is (by refine k_extract rfl rfl) rfl
   ·intro w'' hE''
    rintro _ rfl
    intro σ''
    exact sp_is (by refine Run_pev rfl) rfl
   ·intro w'' hE''
    rintro _ rfl
    intro σ''
    exact sp_is (by refine Run_pev rfl) rfl
   intro w'' hE''
   rintro _ rfl
   intro σ''
   replace hH:=hH.ext0 hE''
   clear hB hBm hE''
   replace hH:=nn5 hH
   repeat (first|refine WS_seq ?_|refine WS_region ?_|(refine WL_r (by first|refine k_conv64 (m:=i) rfl rfl rfl (by omega)|refine Run_pev rfl) rfl ?_))
   refine WL_s (S_call ((wput_spec (n:=i) (s:=2) (by omega) (by omega) (by omega) (hH.at 1 rfl))) rfl rfl ?_)
   rintro _ _ ⟨rfl,a3,c3,hU⟩
   replace hH:=hH.up 1 rfl hU
   clear hU
   replace hH:=nn5 hH
   have hBm:=hH.b 4 rfl
   have hB:=(hH.at 0 rfl).1
   repeat (first|refine WS_region ?_|refine WL_nil ?_|(refine WL_r (by first|refine k_nilCheck rfl|refine k_fa rfl (Ty.fld rfl rfl)|refine k_loadb rfl hBm rfl (Ty.shp rfl)|refine Run_pev rfl) rfl ?_))
   refine WL_s (S_store rfl rfl hB (by simp) rfl (Ty.shp rfl) (fun w9 hE hB9 _=>?_))
   replace hH:=hH.up 0 rfl (RS.q (q:=q) (hH.at 0 rfl) hE hB9)
   clear hBm hB hB9 hE
   replace hH:=nn5 hH
   repeat (refine WL_nil ?_)
   refine WS_end0 Tryz.func96 rfl ⟨rfl,(a3,c3,bs2++nb i 2),by rw [List.length_append,nb_len];omega,?_⟩
   rw [if_pos h4]
   exact hH.take 4
  ·have hBm:=hH.b 4 rfl
   repeat (first|refine WS_seq ?_|refine WS_region ?_|refine WL_nil ?_|refine WS_skip ?_|refine WS_false rfl ?_|(refine WL_r (by first|refine k_fa rfl (Ty.fld rfl rfl)|refine k_loadb rfl hBm rfl (Ty.shp rfl)|refine (k_eql (q:=.u8) rfl rfl).is (bF (by omega))) rfl ?_))
   refine WS_end0 Tryz.func96 rfl ⟨rfl,(a2,c2,bs2),by simp only;omega,?_⟩
   rw [if_neg h4]
   exact hH.take 4
set_option maxHeartbeats 4000000 in
theorem vecs_spec {mb:Nat} (h:MV kd q u0 u1 u2 u3 e L) (hc:d.c≤8) (hr:d.r≤8) (hmb:mb<d.c*d.r) (hP:Sep (PA d qp v t x s k) w) :
  Does Tryz.prog 97 #[pt d.s,.int .i64 mb,.agg (mcl kd q u0 u1 u2 u3 e L).toArray] w fun r w'=>r=.tuple #[]∧Hp (fps (PA d qp v t x s k)) w w' (PA d qp v t x s k):=by
 refine Does_of (args:=[_,_,_]) Tryz.func97 rfl rfl Tryz.ntmps97 rfl ?_
 have hH:=Hp.startL hP
 repeat (first|refine WS_seq ?_|refine WS_region ?_)
 refine WL_s (H_box (cs:=(mcl kd q u0 u1 u2 u3 e L).toArray) hH rfl rfl rfl ?_)
 try clear hH
 intro _ b5 hH
 replace hH:=nn5 hH
 have hS:SlA _ (some ⟨b5,0,none⟩) (mcl kd q u0 u1 u2 u3 e L):=(hH.b 4 rfl).sl0
 repeat (first|refine WS_seq ?_|refine WS_region ?_|refine WL_nil ?_|refine WS_block ?_|(refine WL_r (by first|refine k_fa rfl (Ty.fld rfl rfl)|refine k_loadC (j:=0+2) (cs:=[u0,u1,u2,u3]) rfl hS rfl rfl (Ty.shp rfl)|refine Run_pev rfl) rfl ?_))
 clear hS
 refine WS_loop (G:=(Nat)) (fun i=>4-i) 8387776 (fun i=>[(10,.int .i64 i)]) (fun i w'=>i≤4∧Hp (fps (PA d qp v t x s k)) w w' (PA d qp v t x s k++[Rb b5 97 (mcl kd q u0 u1 u2 u3 e L).toArray])) (0) ⟨rfl,trivial⟩ ⟨by omega,hH⟩ ?_
 rintro i w' σ ⟨hi,hH⟩ IH
 show WS _ _ _ _ _ (updL [(10,.int .i64 i)] _) _
 by_cases hlt:i<4
 ·obtain ⟨x1,y1,_,_,hv,_⟩:=h.vi hlt
  have hB:=(hH.at 0 rfl).1
  repeat (first|refine WS_seq ?_|refine WS_region ?_|refine WL_nil ?_|refine WS_block ?_|refine WS_skip ?_|refine WS_yes rfl (by omega) ?_|(refine WL_r (by first|refine k_index1 rfl rfl (Ty.arr rfl) (by omega) hv|refine k_nilCheck rfl|refine k_fa rfl (Ty.fld rfl rfl)|refine k_loadb rfl hB rfl (Ty.shp rfl)|refine Run_pev rfl) rfl ?_))
  refine WL_s (S_call ((vset_spec hc hr hmb hlt (hH.at 0 rfl).2.1)) rfl rfl ?_)
  rintro _ _ ⟨rfl,hU⟩
  replace hH:=hH.up 0 rfl (RS.f (hH.at 0 rfl) hU)
  clear hU hB
  repeat (first|refine WS_region ?_|refine WL_nil ?_|refine WS_inBlock ?_|(refine WL_r (by first|refine Run_pev rfl|refine k_add64 rfl rfl (by omega)) rfl ?_))
  refine IH (i+1) _ _ ?_ ?_ ?_ ?_
  ·omega
  ·exact ⟨rfl,trivial⟩
  ·repeat first|with_reducible apply Agr.refl|refine Agr.upd rfl ?_|refine Agr.updL rfl ?_|refine Agr.mrg rfl ?_
  ·exact ⟨by omega,hH⟩
 ·obtain rfl:i=4:=by omega
  repeat (first|refine WS_seq ?_|refine WS_region ?_|refine WL_nil ?_|refine WS_exit rfl ?_|refine WS_false rfl ?_|refine lp rfl rfl ?_)
  exact WS_end0 Tryz.func97 rfl ⟨rfl,hH.take 4⟩
end
end
end Go.Proofs.YtpbiicegmcpkpaaGreat
