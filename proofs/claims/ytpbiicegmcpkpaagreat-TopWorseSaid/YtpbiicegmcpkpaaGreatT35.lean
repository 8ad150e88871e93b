/- A part of the proof that TopWorse is true at every input; no condition. -/
import Derived.Test.YtpbiicegmcpkpaaGreatT34
namespace Go.Proofs.YtpbiicegmcpkpaaGreat
open Go Go.K Go.P Go.RowKit Go.Proofs
set_option maxRecDepth 20000 in
set_option maxHeartbeats 8000000 in
theorem sent_spec {s:ST} {C R nl cl:Nat} {al:Option Addr} {l:List FS} {w:World} (hs:s.ok C R) (hrd:s.rd w) (hL:SlA w al (l.flatMap FS.cells)) (hll:l.length=nl) (hfew:few l) (hlr:∀ f∈l,f.rd w) :
  Does Tryz.prog 7 #[.agg s.cells.toArray,.slice al nl cl] w fun v w'=>∃ (a:Option Addr) (c:Nat) (e0:BT) (es:List BT) (b:Option Addr) (m p:Nat) (d:Option Addr) (q:Nat) (k:List MP) (o:Bool) (af:Option Addr) (cf:Nat) (F:List FA) (ow:List BT),
   v=.tuple #[.agg (rcd s a b d (es.length+1) c m p k.length q o).toArray,.slice af F.length cf,.bool true]∧PKs s c e0 es∧(∀ e∈k,e.2.length=C*R)∧k.map (·.2)=clo C R s.ps F (szs es)∧F.length≤es.length∧(∀ e∈F,FG l e ow)∧F.length≤cf∧Hp [] w w' [RM k,Rmp C R d k,RL (e0::es),Rpk a e0 es,Rs af (F.flatMap fac),RL ow]:=by
 refine Does_of (args:=[_,_]) Tryz.func7 rfl rfl Tryz.ntmps7 rfl ?_
 have hH:=Hp.start w
 have h64:=npk_64 hs
 have hsl:=ST.cells_len hs.ho
 repeat (first|refine WS_seq ?_|refine WS_region ?_)
 refine WL_s (H_box (cs:=s.cells.toArray) hH rfl rfl rfl ?_)
 try clear hH
 intro _ b2 hH
 replace hH:=nn1 hH
 refine WL_s (H_alloc hH (Ty.zer rfl) rfl ?_)
 try clear hH
 intro _ b4 hH
 replace hH:=nn2 hH
 have hB2:=hH.b 0 rfl
 repeat (first|refine WS_seq ?_|refine WS_region ?_|refine WL_nil ?_|(refine WL_r (by first|refine k_loadA rfl hB2 (by simp [hsl]) (Ty.shp rfl)|refine Run_pev rfl) rfl ?_))
 clear hB2
 refine WL_s (S_call ((packets_spec hs (hrd.ext hH.ext))) rfl rfl ?_)
 rintro _ w1 ⟨a1,c1,e1,es1,rfl,hel1,hpk1,hec1,_,h01,hQ⟩
 replace hH:=hH.calls 0 hQ
 clear hQ
 replace hH:=nn4 hH
 repeat (first|refine WS_seq ?_|refine WS_region ?_|refine WL_nil ?_|refine WS_skip ?_|refine WS_false rfl ?_|(refine WL_r (by first|refine (k_neq (q:=.i64) rfl rfl).is (bF (by omega))|refine Run_pev rfl|refine k_extract rfl rfl) rfl ?_))
 refine WL_s (S_call ((ffates_spec (hH.at 1 rfl) rfl (by omega) hpk1 (fun e he=>hH.at 0 rfl e (List.mem_cons_of_mem _ he)) (hL.ext0 hH.ext) hll hfew (fun f hf=>(hlr f hf).ext hH.ext))) rfl rfl ?_)
 rintro _ w2 ⟨af,cf,F,ow,rfl,hFl,hFG,hFc,hQ⟩
 replace hH:=hH.calls 0 hQ
 replace hH:=nn6 hH
 have hB2:=hH.b 4 rfl
 repeat (first|refine WS_seq ?_|refine WS_region ?_|refine WL_nil ?_|(refine WL_r (by first|refine k_loadA rfl hB2 (by simp [hsl]) (Ty.shp rfl)|refine Run_pev rfl) rfl ?_))
 clear hB2
 refine WL_s (S_call ((csend_spec hs (hrd.ext hH.ext) (hH.at 0 rfl) rfl (by omega) (FG.fas hFG (fun f hf=>(hlr f hf).ext hH.ext) (hH.at 1 rfl)) hFc)) rfl rfl ?_)
 rintro _ w3 ⟨a,c,e0,es,b,m,p,d,q,k,o,rfl,hP,hkl,hclo,hQ2⟩
 replace hH:=hH.calls 0 hQ2
 clear hQ hQ2
 replace hH:=nn10 hH
 have hr136:(rcd s a b d (es.length+1) c m p k.length q o).toArray.size=136:=by rw [List.size_toArray,List.length_append,hsl];rfl
 repeat ((refine WL_r (by first|refine Run_pev rfl|refine k_extract rfl rfl) rfl ?_))
 refine WL_s (H_alloc hH (Ty.zer rfl) rfl ?_)
 try clear hH
 intro _ b10 hH
 replace hH:=nn11 hH
 refine WL_s (H_storeA 10 (vs:=(rcd s a b d (es.length+1) c m p k.length q o).toArray) (s:=136) hH rfl rfl rfl hr136 rfl rcd_one (Ty.shp rfl) ?_)
 clear hH
 intro _ hH
 replace hH:=nn11 hH
 have hB10:=hH.b 10 rfl
 repeat (first|refine WS_seq ?_|refine WS_region ?_|refine WL_nil ?_|(refine WL_r (by first|refine k_loadA rfl hB10 hr136 (Ty.shp rfl)|refine (k_eql (q:=.i64) rfl rfl).is (bT (by omega))|refine Run_pev rfl) rfl ?_))
 clear hB10
 refine WL_s (H_storeA 9 (vs:=(rcd s a b d (es.length+1) c m p k.length q o).toArray) (s:=136) hH rfl rfl rfl hr136 rfl rcd_one (Ty.shp rfl) ?_)
 clear hH
 intro _ hH
 replace hH:=nn11 hH
 repeat (first|refine WL_nil ?_|refine lp rfl rfl ?_)
 have hl:=hP.len
 exact WS_retc3 Tryz.func7 rfl rfl (hH.b 9 rfl) hr136 (Ty.shp rfl) ⟨a,c,e0,es,b,m,p,d,q,k,o,af,cf,F,ow,rfl,hP,hkl,hclo,by omega,hFG,hFc,hH.take 6⟩
end Go.Proofs.YtpbiicegmcpkpaaGreat
namespace Go.Proofs.YtpbiicegmcpkpaaGreat
open Go Go.K Go.P Go.RowKit Go.Proofs
abbrev smc (hd:List Value) (a b:Option Addr) (n k m p:Nat):List Value:=hd++[.slice a n k,.slice b m p]
theorem smc_at {hd:List Value} {a b:Option Addr} {n k m p:Nat} (h:hd.length=131):(smc hd a b n k m p).toArray[131]?=some (.slice a n k)∧(smc hd a b n k m p).toArray[132]?=some (.slice b m p):=by
 refine ⟨?_,?_⟩
 ·rw [List.getElem?_toArray,List.getElem?_append_right (by rw [h];decide),h];rfl
 ·rw [List.getElem?_toArray,List.getElem?_append_right (by rw [h];decide),h];rfl
set_option maxHeartbeats 4000000 in
theorem slight_spec {hd:List Value} {a b:Option Addr} {n k m p:Nat} {w:World} (h:hd.length=131) :
  Does Tryz.prog 15 #[.agg (smc hd a b n k m p).toArray] w fun v w'=>∃ o,v=.bool o∧(o=true→n≤30∧m≤300)∧Ext [] w w':=by
 refine Does_of (args:=[_]) Tryz.func15 rfl rfl Tryz.ntmps15 rfl ?_
 have hH:=Hp.start w
 repeat (first|refine WS_seq ?_|refine WS_region ?_)
 refine WL_s (H_box (cs:=(smc hd a b n k m p).toArray) hH rfl rfl rfl ?_)
 try clear hH
 intro _ b1 hH
 replace hH:=nn1 hH
 have hB1:=hH.b 0 rfl
 by_cases h1:n≤30
 ·repeat (first|refine WS_seq ?_|refine WS_region ?_|refine WL_nil ?_|refine WL_gyes rfl rfl (dT (by omega)) ?_|(refine WL_r (by first|refine k_fa rfl (Ty.fld rfl rfl)|refine k_loadb rfl hB1 (smc_at h).1 (Ty.shp rfl)|refine k_loadb rfl hB1 (smc_at h).2 (Ty.shp rfl)|refine Run_pev rfl|refine k_len rfl (Ty.isl rfl)|refine k_pick_t (dT (by omega)) rfl) rfl ?_))
  exact WS_ret1 Tryz.func15 rfl ⟨_,rfl,fun ho=>⟨h1,by have:=of_decide_eq_true ho;omega⟩,hH.ext⟩
 ·repeat (first|refine WS_seq ?_|refine WS_region ?_|refine WL_nil ?_|refine WL_gno (b:=false) rfl rfl (dF (by omega)) rfl rfl ?_|(refine WL_r (by first|refine k_fa rfl (Ty.fld rfl rfl)|refine k_loadb rfl hB1 (smc_at h).1 (Ty.shp rfl)|refine Run_pev rfl|refine k_len rfl (Ty.isl rfl)|refine k_pick_f (dF (by omega)) rfl) rfl ?_))
  exact WS_ret1 Tryz.func15 rfl ⟨false,rfl,by simp,hH.ext⟩
set_option maxHeartbeats 4000000 in
theorem tlight_spec {hd:List Value} {a b al:Option Addr} {n k m p nl cl:Nat} {l:List FS} {w:World} (h:hd.length=131) (hL:SlA w al (l.flatMap FS.cells)) (hll:l.length=nl) (hn2:nl≤9223372036854775807) :
  Does Tryz.prog 5 #[.agg (smc hd a b n k m p).toArray,.slice al nl cl] w fun v w'=>∃ o,v=.bool o∧(o=true→few l∧(n≤30∧m≤300))∧Ext [] w w':=by
 refine Does_of (args:=[_,_]) Tryz.func5 rfl rfl Tryz.ntmps5 rfl ?_
 have hH:=Hp.start w
 repeat (first|refine WS_seq ?_|refine WS_region ?_)
 refine WL_s (H_box (cs:=(smc hd a b n k m p).toArray) hH rfl rfl rfl ?_)
 try clear hH
 intro _ b2 hH
 replace hH:=nn1 hH
 have hB2:=hH.b 0 rfl
 repeat (first|refine WS_seq ?_|refine WS_region ?_|refine WL_nil ?_|(refine WL_r (by first|refine k_loadA rfl hB2 (by simp [h]) (Ty.shp rfl)|refine Run_pev rfl) rfl ?_))
 clear hB2
 refine WL_s (S_call ((slight_spec h)) rfl rfl ?_)
 rintro _ _ ⟨o,rfl,ho,hE0⟩
 replace hH:=hH.ext0 hE0
 clear hE0
 cases o
 ·repeat (first|refine WL_nil ?_|refine WL_gno rfl rfl rfl rfl rfl ?_|refine lp rfl rfl ?_)
  exact WS_ret1 Tryz.func5 rfl ⟨false,rfl,by simp,hH.ext⟩
 ·repeat (first|refine WL_gyes rfl rfl rfl ?_|refine lp rfl rfl ?_)
  refine WL_s (S_call ((flight_spec (hL.ext0 hH.ext) hll hn2)) rfl rfl ?_)
  rintro _ _ ⟨o2,rfl,ho2,hE0⟩
  replace hH:=hH.ext0 hE0
  clear hE0
  repeat (first|refine WL_nil ?_|refine lp rfl rfl ?_)
  exact WS_ret1 Tryz.func5 rfl ⟨o2,rfl,fun h2=>⟨ho2 h2,ho rfl⟩,hH.ext⟩
end Go.Proofs.YtpbiicegmcpkpaaGreat
namespace Go.Proofs.YtpbiicegmcpkpaaGreat
open Go Go.K Go.P Go.RowKit Go.Proofs
structure ZM (zs:List Value):Prop where
 len:zs.length=20
 kd:∃ k:Nat,k<256∧zs[0]?=some (.int .u8 k)
 st:∃ k:Nat,k<256∧zs[1]?=some (.int .u8 k)
 ws:W9 ((zs.drop 2).take 9)
 ed:∃ b:Bool,zs[11]?=some (.bool b)
 kp:∀ i,i<6→∃ n:Nat,n<18446744073709551616∧zs[12+i]?=some (.int .u64 n)
 sd:∃ n:Nat,n<4294967296∧zs[18]?=some (.int .u32 n)
 gr:∃ b:Bool,zs[19]?=some (.bool b)
theorem WL_w {P:Program} {N:Nat} {C:Fr→World→Prop} {ops:Array Oper} {l:List Oper} {ρ:Fr} {w:World} (h:∀ u,u=w→WL P N C ops l ρ u):WL P N C ops l ρ w:=h w rfl
abbrev pm (p:Nat):Value:=.pointer (some ⟨p,0,none⟩)
abbrev h3 (b3 b6 b7:Nat) (zs cs:List Value):List Res:=[Rb b3 89 zs.toArray,Rb b6 97 (mk0 0 0).toArray,Rb b7 97 cs.toArray]
theorem mk0_mcl {k:Nat} {q:Int}:mk0 k q=mcl k q zV zV zV zV false (List.replicate 384 0):=by
 unfold mk0 mcl
 rw [List.map_replicate];rfl
theorem mcl_set {k:Nat} {q:Int} {u0 u1 u2 u3:Value} {e:Bool} {L:List Int} {o j:Nat} {n:Int} (h:o=j+7):(mcl k q u0 u1 u2 u3 e L).set o (.int .i64 n)=mcl k q u0 u1 u2 u3 e (L.set j n):=by
 subst h
 unfold mcl
 rw [List.map_set];rfl
def LVs (k m:Nat) (L:List Int):Prop:=∀ (i:Nat) (n:Int),L[i]?=some n→(-1000≤n∧n≤1000)∧(3≤k→i % 64=0→i<64*m→0≤n∧n≤127)
theorem LVs.set {k m j:Nat} {L:List Int} {n:Int} (h:LVs k m L) (hn:-1000≤n∧n≤1000) (hj:64*m≤j):LVs k m (L.set j n):=fun i x hx=>by
 rw [List.getElem?_set] at hx
 split at hx
 ·split at hx
  ·obtain rfl:=Option.some.inj hx
   exact ⟨hn,fun _ _ hi=>by omega⟩
  ·cases hx
 ·exact h i x hx
theorem LVs.next {k m:Nat} {L:List Int} {n:Int} (h:LVs k m L) (hn:0≤n∧n≤127):LVs k (m+1) (L.set (m*64) n):=fun i x hx=>by
 rw [List.getElem?_set] at hx
 split at hx
 ·split at hx
  ·obtain rfl:=Option.some.inj hx
   exact ⟨by omega,fun _ _ _=>hn⟩
  ·cases hx
 ·obtain ⟨h1,h2⟩:=h i x hx
  exact ⟨h1,fun hk h0 hi=>h2 hk h0 (by omega)⟩
theorem LVs.skip {k m:Nat} {L:List Int} (h:LVs k m L) (hk:¬ 3≤k):LVs k (m+1) L:=fun i x hx=>⟨(h i x hx).1,fun h3=>absurd h3 hk⟩
theorem rp0_at {i:Nat} {n:Int} (h:(List.replicate 384 (0:Int))[i]?=some n):n=0:=by
 rw [List.getElem?_replicate] at h
 split at h
 ·exact (Option.some.inj h).symm
 ·cases h
theorem mv0 {k:Nat} {q:Int} (hk:k<5) (hq:1≤q∧q≤31):MB.ok ⟨k,q,zV,zV,zV,zV,false,List.replicate 384 0⟩:=⟨hk,hq,cv0,cv0,cv0,cv0,fun _=>⟨rfl,rfl,rfl⟩,fun _ _=>rfl,(fun h=>by cases h),List.length_replicate,fun i n h=>by have:=rp0_at h;subst this;exact ⟨by omega,fun _=>rfl,fun _ _=>by omega⟩⟩
set_option maxRecDepth 20000 in
set_option maxHeartbeats 8000000 in
theorem macro3_spec {zs:List Value} {inter:Bool} {qp:Int} {w:World} (hz:ZM zs) (hqp:1≤qp∧qp≤31):Does Tryz.prog 18 #[.agg zs.toArray,.bool inter,.int .i64 qp] w fun v w'=>∃ m:MB,v=.agg m.cells.toArray∧m.ok∧(inter=false→3≤m.k)∧(if m.k=4 then stepOk qp m.q else m.q=qp)∧Ext [] w w':=by
 refine Does_of (args:=[_,_,_]) Tryz.func18 rfl rfl Tryz.ntmps18 rfl ?_
 have hH:=Hp.start w
 obtain ⟨kd,hkd,hkv⟩:=hz.kd
 obtain ⟨st,hst,hsv⟩:=hz.st
 obtain ⟨ed,hev⟩:=hz.ed
 obtain ⟨sd,hsd,hdv⟩:=hz.sd
 obtain ⟨gr,hgv⟩:=hz.gr
 have hL0:(List.replicate 384 (0:Int)).length=384:=by simp
 have hM0:(mk0 0 0).length=391:=by rw [mk0_mcl];exact mcl_len hL0
 repeat (first|refine WS_seq ?_|refine WS_region ?_)
 refine WL_s (H_box (cs:=zs.toArray) hH rfl rfl rfl ?_)
 try clear hH
 intro w1 b3 hH
 replace hH:=nn1 hH
 skip
 refine WL_s (H_alloc (zs:=mk0 0 0) hH (Ty.zer rfl) rfl ?_)
 try clear hH
 intro w2 b6 hH
 replace hH:=nn2 hH
 have hS3:SlA w2 (some ⟨b3,0,none⟩) zs:=(hH.b 0 rfl).sl0
 repeat (first|refine WS_seq ?_|refine WS_region ?_|refine WL_nil ?_|(refine WL_r (by first|refine k_fa rfl (Ty.fld rfl rfl)|refine k_loads rfl hS3 hkv (Ty.shp rfl)|refine k_remu (n:=5) rfl rfl (by decide)|refine k_buildS (cs:=mk0 (kd % 5) qp) (Ty.zer rfl) (Ty.plc rfl) rfl|refine Run_pev rfl) rfl ?_))
 clear hS3
 refine WL_s (H_alloc (zs:=mk0 0 0) hH (Ty.zer rfl) rfl ?_)
 try clear hH
 intro w3 b7 hH
 replace hH:=nn3 hH
 skip
 refine WL_s (H_storeA 2 (vs:=(mcl (kd % 5) qp zV zV zV zV false (List.replicate 384 0)).toArray) (s:=391) hH rfl rfl (congrArg (fun l:List Value=>Value.agg l.toArray) mk0_mcl) (by rw [List.size_toArray];exact mcl_len hL0) (by rw [List.size_toArray];exact hM0) (mcl_one (mv0 (k:=kd % 5) (by omega) hqp)) (Ty.shp rfl) ?_)
 clear hH
 intro w4 hH
 replace hH:=nn3 hH
 apply joinW (Z:=fun u=>∃ k:Nat,k<5∧(inter=false→3≤k)∧Hp [] w u (h3 b3 b6 b7 zs (mcl k qp zV zV zV zV false (List.replicate 384 0))))
 ·intro key
  by_cases hin:inter=true
  ·repeat (first|refine WS_seq ?_|refine WS_region ?_|refine WL_nil ?_|refine WS_skip ?_|refine WS_false rfl ?_|(refine WL_r (by first|refine (k_notb rfl).is (v':=.bool false) (congrArg Value.bool (by rw [hin];rfl))|refine Run_pev rfl) rfl ?_))
   refine WL_keep [(2,.int .i64 qp),(3,pm b3),(6,pm b6),(7,pm b7)] ⟨rfl,rfl,rfl,rfl,trivial⟩ (fun σ=>WL_w fun u hu=>?_)
   exact key σ u ⟨_,by omega,by rw [hin];simp,hu▸hH⟩
  ·have hin2:inter=false:=by simpa using hin
   have hS3:SlA w4 (some ⟨b3,0,none⟩) zs:=(hH.b 0 rfl).sl0
   have hcl:=mcl_len (k:=kd % 5) (q:=qp) (u0:=zV) (u1:=zV) (u2:=zV) (u3:=zV) (e:=false) hL0
   repeat (first|refine WS_seq ?_|refine WS_region ?_|refine WL_nil ?_|refine WS_true rfl ?_|(refine WL_r (by first|refine (k_notb rfl).is (v':=.bool true) (congrArg Value.bool (by rw [hin2];rfl))|refine k_fa rfl (Ty.fld rfl rfl)|refine k_loads rfl hS3 hkv (Ty.shp rfl)|refine k_remu (n:=2) rfl rfl (by decide)|refine (k_addu (q:=.u8) (m:=3) (n:=kd % 2) rfl rfl rfl)|refine Run_pev rfl) rfl ?_))
   refine WL_s (H_storeL 2 (o:=0+0) (v:=.int .u8 (((3+kd % 2) % 256:Nat):Int)) hH rfl rfl rfl (by rw [hcl];omega) rfl (Ty.shp rfl) ?_)
   try clear hH
   intro _ hH
   replace hH:=nn3 hH
   replace hH:Hp [] w _ (h3 b3 b6 b7 zs (mcl ((3+kd % 2) % 256) qp zV zV zV zV false (List.replicate 384 0))):=hH
   repeat (first|refine WS_seq ?_|refine WS_region ?_|refine WL_nil ?_)
   refine WL_keep [(2,.int .i64 qp),(3,pm b3),(6,pm b6),(7,pm b7)] ⟨rfl,rfl,rfl,rfl,trivial⟩ (fun σ=>WL_w fun u hu=>?_)
   exact key σ u ⟨_,by omega,fun _=>by omega,hu▸hH⟩
 clear hH
 rintro σ u1 ⟨k,hk,hki,hH⟩
 have hcl:=mcl_len (k:=k) (q:=qp) (u0:=zV) (u1:=zV) (u2:=zV) (u3:=zV) (e:=false) hL0
 have hS7:SlA u1 (some ⟨b7,0,none⟩) (mcl k qp zV zV zV zV false (List.replicate 384 0)):=(hH.b 2 rfl).sl0
 apply joinW (Z:=fun u=>∃ (k:Nat) (q:Int),k<5∧(inter=false→3≤k)∧(1≤q∧q≤31)∧(if k=4 then stepOk qp q else q=qp)∧Hp [] w u (h3 b3 b6 b7 zs (mcl k q zV zV zV zV false (List.replicate 384 0))))
 ·intro key
  by_cases h4:k=4
  ·have hS4:SlA u1 (some ⟨b7,0,none⟩) (mcl 4 qp zV zV zV zV false (List.replicate 384 0)):=by rw [← h4];exact hS7
   have hH4:Hp [] w u1 (h3 b3 b6 b7 zs (mcl 4 qp zV zV zV zV false (List.replicate 384 0))):=by rw [← h4];exact hH
   have hH:=hH4
   have hcl:=mcl_len (k:=4) (q:=qp) (u0:=zV) (u1:=zV) (u2:=zV) (u3:=zV) (e:=false) hL0
   repeat (first|refine WS_seq ?_|refine WS_region ?_|refine WL_nil ?_|refine WS_true rfl ?_|(refine WL_r (by first|refine k_fa rfl (Ty.fld rfl rfl)|refine k_loads (j:=0) rfl hS4 rfl (Ty.shp rfl)|refine Run_pev rfl) rfl ?_))
   refine WL_s (H_storeL 2 (o:=0+0) (v:=.int .u8 3) hH rfl rfl rfl (by rw [hcl];omega) rfl (Ty.shp rfl) ?_)
   try clear hH
   intro _ hH
   replace hH:=nn3 hH
   replace hH:Hp [] w _ (h3 b3 b6 b7 zs (mcl 3 qp zV zV zV zV false (List.replicate 384 0))):=hH
   obtain ⟨d,hd,hdx,hdd⟩:=st_at (i:=st % 4) (Nat.mod_lt _ (by decide))
   have hS3:SlA _ (some ⟨b3,0,none⟩) zs:=(hH.b 0 rfl).sl0
   repeat (first|refine WS_seq ?_|refine WL_nil ?_)
   refine WS_specK [Is (.int .i64 qp),Is (.agg (stL.map Iv).toArray),Is (.pointer (some ⟨b3,0+1,none⟩)),Is (.int .u8 st),Is (.int .u8 (st % 4:Nat)),Is (Iv d),Is (.int .i64 (qp+d)),Is (.int .i64 (qp+d))] Ty.mixed [(33285996544,[],true),(49928994816,[],true),(61740154880,[],true),(55297703936,[(2,31)],true),(42412802048,[(3,32)],true),(16642998272,[(1,30),(4,33)],true),(33822867456,[(0,29),(5,34)],true),(68182605824,[(6,35)],true)] 68182606080 [(7,8)] (by kernel_rfl) (by kernel_rfl) (by kernel_rfl) (by kernel_rfl) (by kernel_rfl) ⟨Is.st,Is.st,Is.st,Is.st,Is.st,Is.st,Is.st,Is.st,trivial⟩ ⟨⟨GOk.none,?_⟩,⟨GOk.none,?_⟩,⟨GOk.none,?_⟩,⟨GOk.none,?_⟩,⟨GOk.none,?_⟩,⟨GOk.none,?_⟩,⟨GOk.none,?_⟩,⟨GOk.none,?_⟩,trivial⟩ ?_
   ·intro w'' hE''
    intro σ''
    exact sp_is (by refine Run_pev rfl) rfl
   ·intro w'' hE''
    intro σ''
    refine S_call (steps_spec _) rfl rfl ?_
    rintro v w3'' ⟨rfl,hE⟩
    exact ⟨hE,_,rfl,rfl⟩
   ·intro w'' hE''
    intro σ''
    exact sp_is (by refine k_fa rfl (Ty.fld rfl rfl)) rfl
   ·intro w'' hE''
    rintro _ rfl
    intro σ''
    exact sp_is (by refine k_loads (j:=1) rfl (hS3.ext0 hE'') hsv (Ty.shp rfl)) rfl
   ·intro w'' hE''
    rintro _ rfl
    intro σ''
    exact sp_is (by refine k_remu (n:=4) rfl rfl (by decide)) rfl
   ·intro w'' hE''
    rintro _ rfl
    rintro _ rfl
    intro σ''
    exact sp_is (by refine k_index1 rfl rfl (Ty.arr rfl) (by omega) hdx) rfl
   ·intro w'' hE''
    rintro _ rfl
    rintro _ rfl
    intro σ''
    exact sp_is (by refine k_add64 rfl rfl (by omega)) rfl
   ·intro w'' hE''
    rintro _ rfl
    intro σ''
    exact sp_is (by refine Run_pev rfl) rfl
   intro w'' hE''
   rintro _ rfl
   intro σ''
   replace hH:=hH.ext0 hE''
   clear hE'' hS3
   replace hcl:=mcl_len (k:=3) (q:=qp) (u0:=zV) (u1:=zV) (u2:=zV) (u3:=zV) (e:=false) hL0
   by_cases hq1:1≤qp+d
   ·by_cases hq2:qp+d≤31
    ·repeat (first|refine WS_seq ?_|refine WS_region ?_|refine WL_nil ?_|refine WS_yes rfl (by omega) ?_|refine WL_gyes rfl rfl (dT (by omega)) ?_|(refine WL_r (by first|refine k_fa rfl (Ty.fld rfl rfl)|refine Run_pev rfl|refine k_pick_t (dT (by omega)) rfl) rfl ?_))
     refine WL_s (H_storeL 2 (o:=0+0) (v:=.int .u8 4) hH rfl rfl rfl (by rw [hcl];omega) rfl (Ty.shp rfl) ?_)
     try clear hH
     intro _ hH
     replace hH:=nn3 hH
     replace hH:Hp [] w _ (h3 b3 b6 b7 zs (mcl 4 qp zV zV zV zV false (List.replicate 384 0))):=hH
     replace hcl:=mcl_len (k:=4) (q:=qp) (u0:=zV) (u1:=zV) (u2:=zV) (u3:=zV) (e:=false) hL0
     repeat ((refine WL_r (by refine k_fa rfl (Ty.fld rfl rfl)) rfl ?_))
     refine WL_s (H_storeL 2 (o:=0+1) (v:=.int .i64 (qp+d)) hH rfl rfl rfl (by rw [hcl];omega) rfl (Ty.shp rfl) ?_)
     try clear hH
     intro _ hH
     replace hH:=nn3 hH
     replace hH:Hp [] w _ (h3 b3 b6 b7 zs (mcl 4 (qp+d) zV zV zV zV false (List.replicate 384 0))):=hH
     obtain ⟨q9,hq9⟩:∃ q9,qp+d=q9:=⟨_,rfl⟩
     rw [hq9] at hH
     repeat (first|refine WS_seq ?_|refine WS_region ?_|refine WL_nil ?_)
     refine WL_keep [(3,pm b3),(6,pm b6),(7,pm b7)] ⟨rfl,rfl,rfl,trivial⟩ (fun σ=>WL_w fun u hu=>?_)
     exact key σ u ⟨4,q9,by omega,fun _=>by omega,by omega,by rw [if_pos rfl];unfold stepOk;omega,hu▸hH⟩
    ·repeat (first|refine WS_seq ?_|refine WS_region ?_|refine WL_nil ?_|refine WS_skip ?_|refine WS_no rfl (by omega) ?_|refine WL_gyes rfl rfl (dT (by omega)) ?_|(refine WL_r (by first|refine Run_pev rfl|refine k_pick_t (dT (by omega)) rfl) rfl ?_))
     refine WL_keep [(3,pm b3),(6,pm b6),(7,pm b7)] ⟨rfl,rfl,rfl,trivial⟩ (fun σ=>WL_w fun u hu=>?_)
     exact key σ u ⟨3,qp,by omega,fun _=>by omega,by omega,by rw [if_neg (by decide)],hu▸hH⟩
   ·repeat (first|refine WS_seq ?_|refine WS_region ?_|refine WL_nil ?_|refine WS_skip ?_|refine WS_false rfl ?_|refine WL_gno (b:=false) rfl rfl (dF (by omega)) rfl rfl ?_|(refine WL_r (by first|refine Run_pev rfl|refine k_pick_f (dF (by omega)) rfl) rfl ?_))
    refine WL_keep [(3,pm b3),(6,pm b6),(7,pm b7)] ⟨rfl,rfl,rfl,trivial⟩ (fun σ=>WL_w fun u hu=>?_)
    exact key σ u ⟨3,qp,by omega,fun _=>by omega,by omega,by rw [if_neg (by decide)],hu▸hH⟩
  ·repeat (first|refine WS_seq ?_|refine WS_region ?_|refine WL_nil ?_|refine WS_skip ?_|refine WS_false rfl ?_|(refine WL_r (by first|refine k_fa (b:=b7) rfl (Ty.fld rfl rfl)|refine k_loads (j:=0) rfl hS7 rfl (Ty.shp rfl)|refine (k_eql (q:=.u8) rfl rfl).is (bF (by omega))) rfl ?_))
   refine WL_keep [(3,pm b3),(6,pm b6),(7,pm b7)] ⟨rfl,rfl,rfl,trivial⟩ (fun σ=>WL_w fun u hu=>?_)
   exact key σ u ⟨k,qp,hk,hki,hqp,by rw [if_neg h4],hu▸hH⟩
 clear hH hS7 hk hki hcl
 rintro σ u2 ⟨k,q,hk,hki,hq,hst4,hH⟩
 have hS3:SlA u2 (some ⟨b3,0,none⟩) zs:=(hH.b 0 rfl).sl0
 repeat ((refine WL_r (by first|refine k_fa rfl (Ty.fld rfl rfl)|refine k_loadC (j:=0+2) (cs:=(zs.drop 2).take 9) rfl hS3 rfl hz.ws.len (Ty.shp rfl)) rfl ?_))
 clear hS3
 refine WL_s (S_call (vectors19 hz.ws) rfl rfl ?_)
 rintro v u3 ⟨vs,hvl,hvg,rfl,hE⟩
 replace hH:=hH.ext0 hE
 clear hE
 skip
 refine WL_s (H_alloc (zs:=List.replicate 4 (Value.complex .f64 0 0)) hH (Ty.zer rfl) rfl ?_)
 clear hH
 intro u4 b9 hH
 replace hH:=nn4 hH
 skip
 refine WL_s (H_storeA 3 (vs:=vs.toArray) (s:=4) hH rfl rfl rfl (by simpa using hvl) (by simp) (fun u hu=>(hvg u (by simpa using hu)).one) (Ty.shp rfl) ?_)
 clear hH
 intro u5 hH
 replace hH:=nn4 hH
 have hcl:=mcl_len (k:=k) (q:=q) (u0:=zV) (u1:=zV) (u2:=zV) (u3:=zV) (e:=false) hL0
 have hS7:SlA u5 (some ⟨b7,0,none⟩) (mcl k q zV zV zV zV false (List.replicate 384 0)):=(hH.b 2 rfl).sl0
 by_cases hk00:k=0
 ·subst hk00
  have hB7:=hH.b 2 rfl
  repeat (first|refine WS_seq ?_|refine WS_region ?_|refine WL_nil ?_|refine WS_block ?_|refine WS_true rfl ?_|(refine WL_r (by first|refine k_fa rfl (Ty.fld rfl rfl)|refine k_loads (j:=0) rfl hS7 rfl (Ty.shp rfl)|refine k_loadA rfl hB7 (by simpa using hcl) (Ty.shp rfl)|refine Run_pev rfl) rfl ?_))
  have hm:=mv0 (k:=0) (by decide) hq
  refine WL_s (H_storeA 1 (vs:=(MB.cells ⟨0,q,zV,zV,zV,zV,false,List.replicate 384 0⟩).toArray) (s:=391) hH rfl rfl rfl (by simpa using hcl) (by simpa using hM0) (mcl_one hm) (Ty.shp rfl) ?_)
  clear hH
  intro u6 hH
  replace hH:=nn4 hH
  repeat (refine WL_nil ?_)
  exact WS_retc1 Tryz.func18 rfl rfl (hH.b 1 rfl) (by simpa using hcl) (Ty.shp rfl) ⟨⟨0,q,zV,zV,zV,zV,false,List.replicate 384 0⟩,rfl,hm,hki,hst4,hH.ext⟩
 apply joinW (Z:=fun u=>∃ (u0 u1 u2 u3:Value) (e:Bool),VG u0∧VG u1∧VG u2∧VG u3∧(k≠2→u1=u0∧u2=u0∧u3=u0)∧(k≠1→k≠2→u0=zV)∧(e=true→3≤k)∧Hp [] w u (h3 b3 b6 b7 zs (mcl k q u0 u1 u2 u3 e (List.replicate 384 0))))
 ·intro key
  have hB9:Blk u5 b9 93 vs.toArray:=hH.b 3 rfl
  by_cases hk1:k=1
  ·have hv0:vs[0]?=some vs[0]:=List.getElem?_eq_getElem _
   have hg0:=hvg vs[0] (List.getElem_mem _)
   generalize vs[0]=v0 at *
   have hS9:SlA u5 (some ⟨b9,0,none⟩) vs:=hB9.sl0
   have hS1:SlA u5 (some ⟨b7,0,none⟩) (mcl 1 q zV zV zV zV false (List.replicate 384 0)):=by rw [← hk1];exact hS7
   have hH1:Hp [] w u5 _:=hH
   rw [hk1] at hH1
   have hcl:=mcl_len (k:=1) (q:=q) (u0:=zV) (u1:=zV) (u2:=zV) (u3:=zV) (e:=false) hL0
   repeat (first|refine WS_seq ?_|refine WS_region ?_|refine WL_nil ?_|refine WS_block ?_|refine WS_true rfl ?_|refine WS_false rfl ?_|(refine WL_r (by first|refine k_fa rfl (Ty.fld rfl rfl)|refine k_loads (j:=0) rfl hS1 rfl (Ty.shp rfl)|refine k_ixa1 rfl rfl (Ty.arr rfl) (by decide)|refine k_loads (j:=0) rfl hS9 hv0 (Ty.shp rfl)|refine Run_pev rfl) rfl ?_))
   refine WL_s (S_call (all_spec hg0) rfl rfl ?_)
   rintro v u6 ⟨hv,hE⟩
   rw [hv]
   have hH2:=hH1.ext0 hE
   repeat ((refine WL_r (by refine k_fa rfl (Ty.fld rfl rfl)) rfl ?_))
   refine WL_s (H_storeN 2 (o:=0+2) (vs:=[v0,v0,v0,v0]) (s:=4) hH2 rfl rfl rfl (by rw [hcl];simp) (fun u hu=>by simp at hu;subst hu;exact hg0.one) (Ty.shp rfl) rfl ?_)
   intro u7 hH3
   replace hH3:Hp [] w u7 (h3 b3 b6 b7 zs (mcl 1 q v0 v0 v0 v0 false (List.replicate 384 0))):=hH3.take 3
   repeat (first|refine WS_seq ?_|refine WS_region ?_|refine WL_nil ?_|refine WS_inBlock ?_)
   refine WL_keep [(3,pm b3),(6,pm b6),(7,pm b7)] ⟨rfl,rfl,rfl,trivial⟩ (fun σ=>WL_w fun u hu=>?_)
   exact key σ u ⟨v0,v0,v0,v0,false,hg0,hg0,hg0,hg0,fun _=>⟨rfl,rfl,rfl⟩,fun h=>absurd hk1 h,by simp,by rw [hk1];exact hu▸hH3⟩
  by_cases hk2:k=2
  ·have hS2:SlA u5 (some ⟨b7,0,none⟩) (mcl 2 q zV zV zV zV false (List.replicate 384 0)):=by rw [← hk2];exact hS7
   have hH1:Hp [] w u5 _:=hH
   rw [hk2] at hH1
   have hcl:=mcl_len (k:=2) (q:=q) (u0:=zV) (u1:=zV) (u2:=zV) (u3:=zV) (e:=false) hL0
   repeat (first|refine WS_seq ?_|refine WS_region ?_|refine WL_nil ?_|refine WS_block ?_|refine WS_true rfl ?_|refine WS_false rfl ?_|(refine WL_r (by first|refine k_fa rfl (Ty.fld rfl rfl)|refine k_loads (j:=0) rfl hS2 rfl (Ty.shp rfl)|refine k_loadA rfl hB9 (by simpa using hvl) (Ty.shp rfl)|refine Run_pev rfl) rfl ?_))
   refine WL_s (H_storeN 2 (o:=0+2) (vs:=vs) (s:=4) hH1 rfl rfl rfl (by rw [hcl,hvl];omega) (fun u hu=>(hvg u hu).one) (Ty.shp rfl) hvl ?_)
   intro u7 hH3
   obtain ⟨v0,v1,v2,v3,hv⟩:∃ v0 v1 v2 v3,vs=[v0,v1,v2,v3]:=by
    match vs,hvl with
    | [a,b,c,d],_=>exact ⟨a,b,c,d,rfl⟩
   have hvg2:=hvg
   rw [hv] at hH3 hvg2
   replace hH3:Hp [] w u7 (h3 b3 b6 b7 zs (mcl 2 q v0 v1 v2 v3 false (List.replicate 384 0))):=hH3.take 3
   repeat (first|refine WS_seq ?_|refine WS_region ?_|refine WL_nil ?_|refine WS_inBlock ?_)
   refine WL_keep [(3,pm b3),(6,pm b6),(7,pm b7)] ⟨rfl,rfl,rfl,trivial⟩ (fun σ=>WL_w fun u hu=>?_)
   exact key σ u ⟨v0,v1,v2,v3,false,hvg2 _ (by simp),hvg2 _ (by simp),hvg2 _ (by simp),hvg2 _ (by simp),fun h=>absurd hk2 h,fun _ h=>absurd hk2 h,by simp,by rw [hk2];exact hu▸hH3⟩
  ·have hS3:SlA u5 (some ⟨b3,0,none⟩) zs:=(hH.b 0 rfl).sl0
   repeat (first|refine WS_seq ?_|refine WS_region ?_|refine WL_nil ?_|refine WS_block ?_|refine WS_false rfl ?_|(refine WL_r (by first|refine k_fa rfl (Ty.fld rfl rfl)|refine k_loads (j:=0) rfl hS7 rfl (Ty.shp rfl)|refine (k_eql (q:=.u8) rfl rfl).is (bF (by omega))|refine k_loads rfl hS3 hev (Ty.shp rfl)|refine Run_pev rfl) rfl ?_))
   refine WL_s (H_storeL 2 (o:=0+6) (v:=.bool ed) hH rfl rfl rfl (by rw [hcl];omega) rfl (Ty.shp rfl) ?_)
   intro u7 hH3
   replace hH3:Hp [] w u7 (h3 b3 b6 b7 zs (mcl k q zV zV zV zV ed (List.replicate 384 0))):=hH3.take 3
   repeat (first|refine WS_seq ?_|refine WS_region ?_|refine WL_nil ?_|refine WS_inBlock ?_)
   refine WL_keep [(3,pm b3),(6,pm b6),(7,pm b7)] ⟨rfl,rfl,rfl,trivial⟩ (fun σ=>WL_w fun u hu=>?_)
   exact key σ u ⟨zV,zV,zV,zV,ed,cv0,cv0,cv0,cv0,fun _=>⟨rfl,rfl,rfl⟩,fun _ _=>rfl,fun _=>by omega,hu▸hH3⟩
 clear hH hS7 hvg hvl hcl
 rintro σ u6 ⟨u0,u1,u2,u3,e,hg0,hg1,hg2,hg3,hall,hnil,hed,hH⟩
 have hS3:SlA u6 (some ⟨b3,0,none⟩) zs:=(hH.b 0 rfl).sl0
 repeat (first|refine WS_seq ?_|refine WS_region ?_|refine WL_nil ?_|refine WS_block ?_|(refine WL_r (by first|refine k_fa rfl (Ty.fld rfl rfl)|refine k_loads rfl hS3 hdv (Ty.shp rfl)|refine Run_pev rfl) rfl ?_))
 clear hS3
 have hLV0:LVs k 0 (List.replicate 384 0):=fun i n h=>by have:=rp0_at h;subst this;exact ⟨by omega,fun _ _ _=>by omega⟩
 refine WS_loop (G:=(Nat) × (Nat) × (List Int)) (fun|(kk,n,L)=>6-kk) 664613997892457641303998350787353600 (fun|(kk,n,L)=>[(10,.int .u32 n),(68,.int .i64 kk)]) (fun|(kk,n,L),w'=>kk≤6∧n<4294967296∧L.length=384∧LVs k kk L∧Hp [] w w' (h3 b3 b6 b7 zs (mcl k q u0 u1 u2 u3 e L))) (0,sd,List.replicate 384 0) ⟨rfl,rfl,trivial⟩ ⟨by omega,hsd,hL0,hLV0,hH⟩ ?_
 rintro ⟨kk,n,L⟩ u7 σ ⟨hkk,hn,hLl,hLV,hH⟩ IH
 show WS _ _ _ _ _ (updL [(10,.int .u32 n),(68,.int .i64 kk)] _) _
 by_cases hkl:kk<6
 ·obtain ⟨kp,hkp,hkpv⟩:=hz.kp kk hkl
  repeat (first|refine WS_seq ?_|refine WS_region ?_|refine WL_nil ?_|refine WS_block ?_|refine WS_skip ?_|refine WS_yes rfl (by omega) ?_|refine lp rfl rfl ?_)
  refine WS_loop (G:=(Nat) × (Nat) × (List Int)) (fun|(i,n,L)=>64-i) 324518553656065543541721197974528 (fun|(i,n,L)=>[(10,.int .u32 n),(71,.int .i64 i)]) (fun|(i,n,L),w'=>i≤64∧n<4294967296∧L.length=384∧LVs k kk L∧Hp [] w w' (h3 b3 b6 b7 zs (mcl k q u0 u1 u2 u3 e L))) (0,n,L) ⟨rfl,rfl,trivial⟩ ⟨by omega,hn,hLl,hLV,hH⟩ ?_
  rintro ⟨i,n,L⟩ u8 σ ⟨hi,hn,hLl,hLV,hH⟩ IH
  show WS _ _ _ _ _ (updL [(10,.int .u32 n),(71,.int .i64 i)] _) _
  by_cases hil:i<64
  ·obtain ⟨n2,hn2⟩:∃ n2,(n*1664525 % 4294967296+1013904223) % 4294967296=n2:=⟨_,rfl⟩
   have hlt2:n2<4294967296:=by omega
   obtain ⟨h16,hh⟩:∃ h16,n2 / 2 ^ 16=h16:=⟨_,rfl⟩
   have hh2:h16<65536:=by omega
   have hr1:(h16:Int) % 7<7∧0≤(h16:Int) % 7:=by omega
   have hr2:(h16:Int) % 1001<1001∧0≤(h16:Int) % 1001:=by omega
   have hB3:Blk u8 b3 89 zs.toArray:=hH.b 0 rfl
   have hSk:SlA u8 (some ⟨b3,0+12,none⟩) (zs.drop 12):=hB3.sl (fun j v hj=>by rw [List.getElem?_drop] at hj;rw [List.getElem?_toArray,Nat.zero_add];exact hj)
   have hkt:(zs.drop 12)[(kk:Int).toNat]?=some (.int .u64 kp):=by rw [show (kk:Int).toNat=kk from rfl,List.getElem?_drop];exact hkpv
   have hq64:kp / 2 ^ i<18446744073709551616:=Nat.lt_of_le_of_lt (Nat.div_le_self _ _) hkp
   have hS3:SlA u8 (some ⟨b3,0,none⟩) zs:=hB3.sl0
   repeat (first|refine WS_seq ?_|refine WS_region ?_|refine WL_nil ?_|refine WS_block ?_|refine WS_skip ?_|refine WS_yes rfl (by omega) ?_|(refine WL_r (by first|refine k_fa rfl (Ty.fld rfl rfl)|refine (k_mulu (q:=.u32) rfl rfl rfl).is (v':=.int .u32 ((n*1664525 % 4294967296:Nat):Int)) rfl|refine (k_addu (q:=.u32) rfl rfl rfl).is (congrArg (fun n:Nat=>Value.int .u32 (n:Int)) hn2)|refine k_ixa1 rfl rfl (Ty.arr rfl) (by omega)|refine k_loads rfl hSk hkt (Ty.shp rfl)|refine k_shr rfl rfl (fit64 hkp)|refine k_and (n:=1) rfl rfl (fit64 hq64) rfl|refine Run_pev rfl) rfl ?_))
   clear hSk hB3
   refine WS_ite rfl (fun h1=>?_) (fun h1=>?_)
   ·skip
    repeat (first|refine WS_seq ?_|refine WS_region ?_|(refine WL_r (by first|refine k_fa rfl (Ty.fld rfl rfl)|refine (k_shr (q:=.u32) (n:=16) rfl rfl (fit32 hlt2)).is (congrArg (fun n:Nat=>Value.int .u32 (n:Int)) hh)|refine k_ixaA rfl rfl (Ty.arr rfl) (by omega)|refine k_ixaN rfl rfl (Ty.arr rfl) (by omega)|refine Run_pev rfl|refine k_sub64 rfl rfl (by omega)|refine k_rem rfl rfl (by omega)|refine k_convI rfl rfl rfl (by omega)) rfl ?_))
    have hcl:=mcl_len (k:=k) (q:=q) (u0:=u0) (u1:=u1) (u2:=u2) (u3:=u3) (e:=e) hLl
    refine WL_s (H_storeL 2 (o:=0+7+((kk:Int).toNat*64+(i:Int).toNat)) (v:=.int .i64 ((h16:Int) % 7-3)) hH rfl rfl rfl (by rw [hcl];omega) rfl (Ty.shp rfl) ?_)
    try clear hH
    intro _ hH
    replace hH:=nn3 hH
    rw [mcl_set (j:=kk*64+i) (by simp only [Int.toNat_natCast];omega)] at hH
    replace hLV:=hLV.set (j:=kk*64+i) (n:=(h16:Int) % 7-3) (by omega) (by omega)
    replace hLl:(L.set (kk*64+i) ((h16:Int) % 7-3)).length=384:=by rw [List.length_set];exact hLl
    generalize L.set (kk * 64 + i) ((h16:Int) % 7-3)=L at *
    have hS3:SlA _ (some ⟨b3,0,none⟩) zs:=(hH.b 0 rfl).sl0
    cases gr with
    | false =>
     repeat (first|refine WS_seq ?_|refine WS_region ?_|refine WL_nil ?_|refine WS_inBlock ?_|refine WS_skip ?_|refine WS_false rfl ?_|(refine WL_r (by first|refine k_fa rfl (Ty.fld rfl rfl)|refine k_loads rfl hS3 hgv (Ty.shp rfl)|refine Run_pev rfl|refine k_add64 rfl rfl (by omega)) rfl ?_))
     refine IH (i+1,n2,L) _ _ ?_ ?_ ?_ ?_
     ·simp only;omega
     ·exact ⟨rfl,rfl,trivial⟩
     ·repeat first|with_reducible apply Agr.refl|refine Agr.upd rfl ?_|refine Agr.updL rfl ?_|refine Agr.mrg rfl ?_
     ·exact ⟨by omega,hlt2,hLl,hLV,hH⟩
    | true =>
     repeat (first|refine WS_seq ?_|refine WS_region ?_|refine WL_nil ?_|refine WS_true rfl ?_|(refine WL_r (by first|refine k_fa rfl (Ty.fld rfl rfl)|refine k_loads rfl hS3 hgv (Ty.shp rfl)|refine (k_shr (q:=.u32) (n:=16) rfl rfl (fit32 hlt2)).is (congrArg (fun n:Nat=>Value.int .u32 (n:Int)) hh)|refine k_ixaA rfl rfl (Ty.arr rfl) (by omega)|refine k_ixaN rfl rfl (Ty.arr rfl) (by omega)|refine Run_pev rfl|refine k_sub64 rfl rfl (by omega)|refine k_rem rfl rfl (by omega)|refine k_convI rfl rfl rfl (by omega)) rfl ?_))
     have hcl:=mcl_len (k:=k) (q:=q) (u0:=u0) (u1:=u1) (u2:=u2) (u3:=u3) (e:=e) hLl
     refine WL_s (H_storeL 2 (o:=0+7+((kk:Int).toNat*64+(i:Int).toNat)) (v:=.int .i64 ((h16:Int) % 1001-500)) hH rfl rfl rfl (by rw [hcl];omega) rfl (Ty.shp rfl) ?_)
     try clear hH
     intro _ hH
     replace hH:=nn3 hH
     rw [mcl_set (j:=kk*64+i) (by simp only [Int.toNat_natCast];omega)] at hH
     replace hLV:=hLV.set (j:=kk*64+i) (n:=(h16:Int) % 1001-500) (by omega) (by omega)
     replace hLl:(L.set (kk*64+i) ((h16:Int) % 1001-500)).length=384:=by rw [List.length_set];exact hLl
     generalize L.set (kk * 64 + i) ((h16:Int) % 1001-500)=L at *
     repeat (first|refine WS_region ?_|refine WL_nil ?_|refine WS_inBlock ?_|(refine WL_r (by first|refine Run_pev rfl|refine k_add64 rfl rfl (by omega)) rfl ?_))
     refine IH (i+1,n2,L) _ _ ?_ ?_ ?_ ?_
     ·simp only;omega
     ·exact ⟨rfl,rfl,trivial⟩
     ·repeat first|with_reducible apply Agr.refl|refine Agr.upd rfl ?_|refine Agr.updL rfl ?_|refine Agr.mrg rfl ?_
     ·exact ⟨by omega,hlt2,hLl,hLV,hH⟩
   ·repeat (first|refine WS_region ?_|refine WL_nil ?_|refine WS_inBlock ?_|refine WS_skip ?_|(refine WL_r (by first|refine Run_pev rfl|refine k_add64 rfl rfl (by omega)) rfl ?_))
    refine IH (i+1,n2,L) _ _ ?_ ?_ ?_ ?_
    ·simp only;omega
    ·exact ⟨rfl,rfl,trivial⟩
    ·repeat first|with_reducible apply Agr.refl|refine Agr.upd rfl ?_|refine Agr.updL rfl ?_|refine Agr.mrg rfl ?_
    ·exact ⟨by omega,hlt2,hLl,hLV,hH⟩
  clear IH
  have hB7:=hH.b 2 rfl
  have hcl:=mcl_len (k:=k) (q:=q) (u0:=u0) (u1:=u1) (u2:=u2) (u3:=u3) (e:=e) hLl
  repeat (first|refine WS_seq ?_|refine WS_region ?_|refine WL_nil ?_|refine WS_exit rfl ?_|refine WS_no rfl (by omega) ?_|(refine WL_r (by first|refine k_loadA rfl hB7 (by simpa using hcl) (Ty.shp rfl)|refine Run_pev rfl) rfl ?_))
  refine WL_s (S_call (malone_spec) rfl rfl ?_)
  rintro _ u9 ⟨rfl,hE⟩
  replace hH:=hH.ext0 hE
  clear hB7 hE
  by_cases hk3:k=3∨k=4
  ·obtain ⟨h20,hh⟩:∃ h20,n / 2 ^ 20=h20:=⟨_,rfl⟩
   have hh2:h20<4096:=by omega
   have hr1:(h20:Int) % 128<128∧0≤(h20:Int) % 128:=by omega
   rw [decide_eq_true hk3]
   repeat (first|refine WS_region ?_|refine WL_nil ?_|refine WS_true rfl ?_|(refine WL_r (by first|refine k_fa rfl (Ty.fld rfl rfl)|refine (k_shr (q:=.u32) (n:=20) rfl rfl (fit32 hn)).is (congrArg (fun n:Nat=>Value.int .u32 (n:Int)) hh)|refine k_ixaA (i:=0) rfl rfl (Ty.arr rfl) (by decide)|refine k_ixaN rfl rfl (Ty.arr rfl) (by omega)|refine Run_pev rfl|refine k_rem rfl rfl (by omega)|refine k_convI rfl rfl rfl (by omega)) rfl ?_))
   refine WL_s (H_storeL 2 (o:=0+7+((kk:Int).toNat*64+(0:Int).toNat)) (v:=.int .i64 ((h20:Int) % 128)) hH rfl rfl rfl (by rw [hcl];omega) rfl (Ty.shp rfl) ?_)
   try clear hH
   intro _ hH
   replace hH:=nn3 hH
   rw [mcl_set (j:=kk*64) (by simp only [Int.toNat_natCast];simp;omega)] at hH
   replace hLV:=hLV.next (n:=(h20:Int) % 128) (by omega)
   replace hLl:(L.set (kk*64) ((h20:Int) % 128)).length=384:=by rw [List.length_set];exact hLl
   generalize L.set (kk * 64) ((h20:Int) % 128)=L at *
   repeat (first|refine WS_region ?_|refine WL_nil ?_|refine WS_inBlock ?_|(refine WL_r (by first|refine Run_pev rfl|refine k_add64 rfl rfl (by omega)) rfl ?_))
   refine IH (kk+1,n,L) _ _ ?_ ?_ ?_ ?_
   ·simp only;omega
   ·exact ⟨rfl,rfl,trivial⟩
   ·repeat first|with_reducible apply Agr.refl|refine Agr.upd rfl ?_|refine Agr.updL rfl ?_|refine Agr.mrg rfl ?_
   ·exact ⟨by omega,hn,hLl,hLV,hH⟩
  ·rw [decide_eq_false hk3]
   repeat (first|refine WS_region ?_|refine WL_nil ?_|refine WS_inBlock ?_|refine WS_skip ?_|refine WS_false rfl ?_|(refine WL_r (by first|refine Run_pev rfl|refine k_add64 rfl rfl (by omega)) rfl ?_))
   refine IH (kk+1,n,L) _ _ ?_ ?_ ?_ ?_
   ·simp only;omega
   ·exact ⟨rfl,rfl,trivial⟩
   ·repeat first|with_reducible apply Agr.refl|refine Agr.upd rfl ?_|refine Agr.updL rfl ?_|refine Agr.mrg rfl ?_
   ·exact ⟨by omega,hn,hLl,hLV.skip (by omega),hH⟩
 clear IH
 obtain rfl:kk=6:=by omega
 have hB7:=hH.b 2 rfl
 have hcl:=mcl_len (k:=k) (q:=q) (u0:=u0) (u1:=u1) (u2:=u2) (u3:=u3) (e:=e) hLl
 have hm:MB.ok ⟨k,q,u0,u1,u2,u3,e,L⟩:=⟨hk,hq,hg0,hg1,hg2,hg3,hall,hnil,hed,hLl,fun i n h=>⟨(hLV i n h).1,fun h=>absurd h hk00,fun h3 h0=>(hLV i n h).2 h3 h0 (by have h9:i<L.length:=(List.getElem?_eq_some_iff.1 h).1;omega)⟩⟩
 repeat (first|refine WS_seq ?_|refine WS_region ?_|refine WL_nil ?_|refine WS_exit rfl ?_|refine WS_false rfl ?_|(refine WL_r (by first|refine k_loadA rfl hB7 (by simpa using hcl) (Ty.shp rfl)|refine Run_pev rfl) rfl ?_))
 refine WL_s (H_storeA 1 (vs:=(MB.cells ⟨k,q,u0,u1,u2,u3,e,L⟩).toArray) (s:=391) hH rfl rfl rfl (by simpa using hcl) (by simpa using hM0) (mcl_one hm) (Ty.shp rfl) ?_)
 clear hH
 intro u8 hH
 replace hH:=nn3 hH
 repeat (refine WL_nil ?_)
 exact WS_retc1 Tryz.func18 rfl rfl (hH.b 1 rfl) (by simpa using hcl) (Ty.shp rfl) ⟨⟨k,q,u0,u1,u2,u3,e,L⟩,rfl,hm,hki,hst4,hH.ext⟩
end Go.Proofs.YtpbiicegmcpkpaaGreat
