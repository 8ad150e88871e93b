/- A part of the proof that TopWorse is true at every input; no condition. -/
import Derived.Test.YtpbiicegmcpkpaaGreatT35
namespace Go.Proofs.YtpbiicegmcpkpaaGreat
open Go Go.K Go.P Go.RowKit Go.Proofs
def RZ {α:Type} (r:α→Res) (l:List α):Res where
 fp:=l.flatMap fun x=>(r x).fp
 holds:=fun w=>∀ x∈l,(r x).holds w
 keep:=fun h hE hS e he=>(r e).keep (h e he) hE (fun s hs hb=>hS s hs (List.mem_flatMap.2 ⟨e,he,hb⟩))
 lt:=fun h s hs=>by
  obtain ⟨e,he,hse⟩:=List.mem_flatMap.1 hs
  exact (r e).lt (h e he) s hse
theorem RZ.add {α:Type} {r:α→Res} {S:List Nat} {W w:World} {H:List Res} {es:List α} {e:α} (i j:Nat) (h:Hp S W w H) (hi:H[i]?=some (RZ r es)) (hj:H[j]?=some (r e)) (hij:i<j) :
  Hp S W w (((H.set i (sep (RZ r es) (r e))).eraseIdx j).set i (RZ r (es++[e]))):=by
 have h1:=h.merge i j hi hj (by omega)
 have hil:=(List.getElem?_eq_some_iff.1 hi).1
 refine h1.as i (r:=sep (RZ r es) (r e)) ?_ (fun x hx=>?_) (fun hh=>?_)
 ·rw [List.getElem?_eraseIdx,if_pos hij,List.getElem?_set_self hil]
 ·obtain ⟨e',he',hxe⟩:=List.mem_flatMap.1 hx
  rcases List.mem_append.1 he' with he'|he'
  ·exact List.mem_append.2 (.inl (List.mem_flatMap.2 ⟨e',he',hxe⟩))
  ·simp at he';subst he'
   exact List.mem_append.2 (.inr hxe)
 ·intro e' he'
  rcases List.mem_append.1 he' with he'|he'
  ·exact hh.1 e' he'
  ·simp at he';subst he'
   exact hh.2.1
theorem New.nilX {α:Type} {r:α→Res} {w:World}:New (RZ r []) w w:=⟨.refl,fun _ h=>by simp at h,fun _ h=>by simp [RZ] at h⟩
abbrev rG (g:GR):Res:=Rs g.a (mcs g.ms)
abbrev rP (p:PR):Res:=(Rs p.a (p.gs.flatMap GR.cells)).and (RZ rG p.gs)
abbrev PZ:=Bool × Bool × Nat × Nat
abbrev pzc (p:PZ):List Value:=[.bool p.1,.bool p.2.1,.int .u8 p.2.2.1,.int .u8 p.2.2.2]
def pzok (p:PZ):Prop:=p.2.2.1<256∧p.2.2.2<256
def lq:Int→List MB→Int
 | p,[]=>p
 | _,m::l=>lq m.q l
theorem lq_add {p:Int} {l:List MB} {m:MB}:lq p (l++[m])=m.q:=by
 induction l generalizing p with
 | nil=>rfl
 | cons a l ih=>exact ih
theorem chn_add {inter:Bool} {m:MB} (hm:m.ok) (hi:inter=false→3≤m.k):∀ {p:Int} {l:List MB},chn inter p l→(if m.k=4 then stepOk (lq p l) m.q else m.q=lq p l)→chn inter p (l++[m])
 | _,[],_,hq=>⟨hm,hi,hq,trivial⟩
 | _,_::_,h,hq=>⟨h.1,h.2.1,h.2.2.1,chn_add hm hi h.2.2.2 hq⟩
theorem gok_add {inter:Bool} {hq:Int} {g:GR}:∀ {n:Nat} {l:List GR} {e:Nat},gok inter hq n l e→g.f=e→(1≤g.ms.length∧g.ms.length≤5)→chn inter hq g.ms→gok inter hq n (l++[g]) (e+g.ms.length)
 | _,[],_,h,hf,hl,hc=>⟨by rw [hf];exact h.symm,hl,hc,by rw [show _=_ from h];rfl⟩
 | _,_::_,_,h,hf,hl,hc=>⟨h.1,h.2.1,h.2.2.1,gok_add h.2.2.2 hf hl hc⟩
abbrev zz (k:Nat):List Value:=.int .u8 k::.int .u8 0::(List.replicate 8 (.int .i8 0)++.bool false::.bool false::(List.replicate 6 (.int .u64 0)++[.int .u32 0,.bool false]))
theorem zz_ok {k:Nat} (h:k<256):ZM (zz k):=by
 refine ⟨rfl,⟨k,h,rfl⟩,⟨0,by decide,rfl⟩,?_,⟨false,rfl⟩,fun i hi=>⟨0,by decide,?_⟩,⟨0,by decide,rfl⟩,⟨false,rfl⟩⟩
 ·refine ⟨rfl,fun i hi=>⟨0,by decide,?_⟩,⟨false,rfl⟩⟩
  match i,hi with
  | 0,_=>rfl
  | 1,_=>rfl
  | 2,_=>rfl
  | 3,_=>rfl
  | 4,_=>rfl
  | 5,_=>rfl
  | 6,_=>rfl
  | 7,_=>rfl
 ·match i,hi with
  | 0,_=>rfl
  | 1,_=>rfl
  | 2,_=>rfl
  | 3,_=>rfl
  | 4,_=>rfl
  | 5,_=>rfl
theorem ZM.one {zs:List Value} (h:ZM zs):∀ v∈zs.toArray.toList,v.oneCell'=true:=fun v hv=>by
 obtain ⟨i,hi⟩:=List.mem_iff_getElem?.1 (show v∈zs from hv)
 have hl:i<zs.length:=(List.getElem?_eq_some_iff.1 hi).1
 rw [h.len] at hl
 rcases (show i=0∨i=1∨(2≤i∧i<10)∨i=10∨i=11∨(12≤i∧i<18)∨i=18∨i=19 by omega) with rfl|rfl|h2|rfl|rfl|h2|rfl|rfl
 ·obtain ⟨k,_,h1⟩:=h.kd;rw [h1] at hi;cases hi;rfl
 ·obtain ⟨k,_,h1⟩:=h.st;rw [h1] at hi;cases hi;rfl
 ·obtain ⟨k,_,h1⟩:=h.ws.x (i-2) (by omega)
  rw [List.getElem?_take,if_pos (by omega),List.getElem?_drop,show 2+(i-2)=i by omega,hi] at h1
  cases h1;rfl
 ·obtain ⟨k,h1⟩:=h.ws.b
  rw [List.getElem?_take,if_pos (by omega),List.getElem?_drop,hi] at h1
  cases h1;rfl
 ·obtain ⟨k,h1⟩:=h.ed;rw [h1] at hi;cases hi;rfl
 ·obtain ⟨k,_,h1⟩:=h.kp (i-12) (by omega)
  rw [show 12+(i-12)=i by omega,hi] at h1
  cases h1;rfl
 ·obtain ⟨k,_,h1⟩:=h.sd;rw [h1] at hi;cases hi;rfl
 ·obtain ⟨k,h1⟩:=h.gr;rw [h1] at hi;cases hi;rfl
abbrev sz:List Value:=SH.zero.cells++[.slice none 0 0]
theorem fillH {h:SH} (ho:h.ok):fillL (fun i=>([(0,131),(131,1)]:List (Nat × Nat))[i]?) sz [(0,.agg h.cells.toArray)]=some (ST.cells ⟨h,none,0,[]⟩):=by
 have hl:=SH.cells_len ho
 have h0:SH.zero.cells.length=131:=SH.cells_len SH.zero_ok
 simp [fillL,splice,Value.cells,hl,h0]
 rfl
theorem st_set {h:SH} (ho:h.ok) {a a':Option Addr} {c c':Nat} {l l':List PR}:(ST.cells ⟨h,a,c,l⟩).set (0+131) (.slice a' l'.length c')=ST.cells ⟨h,a',c',l'⟩:=by
 have hl:=SH.cells_len ho
 show (h.cells++[_]).set (0+131) _=h.cells++[_]
 rw [List.set_append_right _ _ (by omega),hl]
 rfl
theorem lit1 {ρ:Fr} {x:Operand} {sz:Nat} {cs:List Value} (hx:ev ρ x=.agg cs.toArray) (hl:cs.length=sz):litCells ρ sz 0 [(0,x)]=some cs:=by
 simp [litCells,hx,Value.cells,hl]
theorem joinQ {A:Prop} {Y:Fr→Option Addr→Nat→Nat→World→Prop} (Z:Option Addr→Nat→Nat→World→Prop) (h1:(∀ σ a n c u,Z a n c u→Y σ a n c u)→A) (h2:∀ σ a n c u,Z a n c u→Y σ a n c u):A:=h1 h2
theorem joinE {A:Prop} {Y:Fr→Bool→World→Prop} (Z:Bool→World→Prop) (h1:(∀ σ x w,Z x w→Y σ x w)→A) (h2:∀ σ x w,Z x w→Y σ x w):A:=h1 h2
theorem st_one (s:ST):∀ v∈s.cells.toArray.toList,v.oneCell'=true:=fun v hv=>by
 have hv2:v∈s.h.cells++[.slice s.a s.ps.length s.cap]:=hv
 rcases List.mem_append.1 hv2 with h|h
 ·exact cells_one s.h v (by simpa using h)
 ·simp at h;subst h;rfl
set_option maxRecDepth 20000 in
set_option maxHeartbeats 16000000 in
theorem stream_spec {h:SH} {a b:Option Addr} {n k m p:Nat} {P:List PZ} {Z:List (List Value)} {w:World} (ho:h.ok) (hP:SlA w a (P.flatMap pzc)) (hPl:P.length=n) (hnk:n≤k) (hPo:∀ z∈P,pzok z) (hZ:SlA w b (Z.flatMap id)) (hZl:Z.length=m) (hz:∀ z∈Z,ZM z) (hn:n≤30) (hm:m≤300) :
  Does Tryz.prog 6 #[.agg (smc h.cells a b n k m p).toArray] w fun v w'=>∃ (s:ST) (C R:Nat),v=.agg s.cells.toArray∧s.ok C R∧s.rd w'∧Ext [] w w':=by
 refine Does_of (args:=[_]) Tryz.func6 rfl rfl Tryz.ntmps6 rfl ?_
 have hH:=Hp.start w
 have hl:=SH.cells_len ho
 have hfo:=SH.fit_ok ho
 have hfl:=SH.cells_len hfo
 have hfe:=SH.good (SH.fit_err h)
 repeat (first|refine WS_seq ?_|refine WS_region ?_)
 refine WL_s (H_box (cs:=(smc h.cells a b n k m p).toArray) hH rfl rfl rfl ?_)
 try clear hH
 intro _ b1 hH
 replace hH:=nn1 hH
 skip
 refine WL_s (H_alloc (zs:=sz) hH (Ty.zer rfl) rfl ?_)
 try clear hH
 intro _ b2 hH
 replace hH:=nn2 hH
 have hS1:SlA _ (some ⟨b1,0,none⟩) (smc h.cells a b n k m p):=(hH.b 0 rfl).sl0
 have h131:((smc h.cells a b n k m p).drop 0).take 131=h.cells:=by
  show (h.cells++[_,_]).take 131=_
  rw [List.take_left' hl]
 repeat (first|refine WS_seq ?_|refine WS_region ?_|refine WL_nil ?_|(refine WL_r (by first|refine k_fa rfl (Ty.fld rfl rfl)|refine k_loadC (j:=0+0) (cs:=h.cells) rfl hS1 h131 hl (Ty.shp rfl)) rfl ?_))
 clear hS1
 refine WL_s (S_call ((sfit_spec ho)) rfl rfl ?_)
 rintro _ _ ⟨rfl,hE0⟩
 replace hH:=hH.ext0 hE0
 clear hE0
 replace hH:=nn2 hH
 skip
 refine WL_s (H_alloc (zs:=SH.zero.cells) hH (Ty.zer rfl) rfl ?_)
 try clear hH
 intro _ b3 hH
 replace hH:=nn3 hH
 skip
 refine WL_s (H_storeA 2 (vs:=h.fit.cells.toArray) (s:=131) hH rfl rfl rfl (by simpa using hfl) rfl (cells_one h.fit) (Ty.shp rfl) ?_)
 clear hH
 intro _ hH
 replace hH:=nn3 hH
 have hB3:=hH.b 2 rfl
 repeat (first|refine WS_seq ?_|refine WS_region ?_|refine WL_nil ?_|(refine WL_r (by first|refine k_fa rfl (Ty.fld rfl rfl)|refine k_loadb rfl hB3 rfl (Ty.shp rfl)|refine k_add64 rfl rfl (by omega)|refine k_rem rfl rfl (by omega)) rfl ?_))
 clear hB3
 obtain ⟨C,hC,hC3⟩:∃ C:Nat,1+h.fit.c % 3=C∧(1≤C∧C≤3):=⟨(1+h.fit.c % 3).toNat,by omega⟩
 obtain ⟨R,hR,hR3⟩:∃ R:Nat,1+h.fit.r % 3=R∧(1≤R∧R≤3):=⟨(1+h.fit.r % 3).toNat,by omega⟩
 obtain ⟨h2,hh2⟩:∃ h2:SH,h2=⟨C,R,h.fit.wt,h.fit.A,h.fit.Bb⟩:=⟨_,rfl⟩
 have h2o:h2.ok:=by subst hh2;exact ⟨hfo.la,hfo.lb,hfo.ba,hfo.bb⟩
 have h2c:h2.c=C:=by subst hh2;rfl
 have h2r:h2.r=R:=by subst hh2;rfl
 have h2e:h2.err=0:=by
  have h:=SH.fit_err h
  unfold SH.err at h ⊢
  rw [if_neg (by omega)] at h
  rw [if_neg (by omega)]
  subst hh2;exact h
 have h2l:=SH.cells_len h2o
 refine WL_s (H_storeL 2 (o:=0+0) (v:=.int .i64 (1+h.fit.c % 3)) hH rfl rfl rfl (by rw [hfl];decide) rfl (Ty.shp rfl) ?_)
 clear hH
 intro _ hH
 replace hH:=nn3 hH
 repeat ((refine WL_r (by refine k_fa rfl (Ty.fld rfl rfl)) rfl ?_))
 refine WL_s (H_storeL 2 (o:=0+1) (v:=.int .i64 (1+h.fit.r % 3)) hH rfl rfl rfl (by rw [List.length_set,hfl];decide) rfl (Ty.shp rfl) ?_)
 clear hH
 intro _ hH
 replace hH:=nn3 hH
 have hcs:(h.fit.cells.set (0+0) (.int .i64 (1+h.fit.c % 3))).set (0+1) (.int .i64 (1+h.fit.r % 3))=h2.cells:=by rw [hC,hR,hh2];rfl
 rw [hcs] at hH
 have hB3:=hH.b 2 rfl
 repeat (first|refine WS_seq ?_|refine WS_region ?_|refine WL_nil ?_|(refine WL_r (by first|refine k_loadA rfl hB3 (by simpa using h2l) (Ty.shp rfl)|refine k_buildS (cs:=ST.cells ⟨h2,none,0,[]⟩) (Ty.zer rfl) (Ty.plc rfl) (fillH h2o)) rfl ?_))
 clear hB3
 refine WL_s (H_alloc (zs:=sz) hH (Ty.zer rfl) rfl ?_)
 try clear hH
 intro _ b4 hH
 replace hH:=nn4 hH
 skip
 refine WL_s (H_storeA 3 (vs:=(ST.cells ⟨h2,none,0,[]⟩).toArray) (s:=132) hH rfl rfl rfl (by simpa using ST.cells_len (s:=⟨h2,none,0,[]⟩) h2o) rfl (st_one _) (Ty.shp rfl) ?_)
 clear hH
 intro _ hH
 replace hH:=nn4 hH
 have hB1:=hH.b 0 rfl
 obtain ⟨N,hN,hN5⟩:∃ N:Nat,min (n:Int) 5=N∧N≤n∧N≤5∧(n=0 ↔ N=0):=⟨min n 5,by omega,by omega,by omega,by omega⟩
 have ha0:(if k=0 then a else a.map (·.add 0))=a:=by
  split
  ·rfl
  ·cases a<;>rfl
 repeat (first|refine WS_seq ?_|refine WS_region ?_|refine WL_nil ?_|(refine WL_r (by first|refine k_fa rfl (Ty.fld rfl rfl)|refine k_loadb rfl hB1 (smc_at hl).1 (Ty.shp rfl)|refine (k_min rfl rfl).is (congrArg (Value.int .i64) hN)|refine (k_slchN (h:=N) rfl rfl (Ty.sle rfl) (by omega)).is (congrArg (fun x=>Value.slice x N k) ha0)|refine Run_pev rfl|refine k_len rfl (Ty.isl rfl)) rfl ?_))
 clear hB1
 have hnil:SlA w none ([]:List Value):=SlA.nil
 apply joinQ (Z:=fun a5 n5 c5 u=>∃ (Q:List PZ) (a6:Option Addr) (c6:List Value),Q.length=n5∧(1≤n5∧n5≤5)∧(∀ z∈Q,pzok z)∧(∀ u',Ext [] w u'→(Rs a6 c6).holds u'→SlA u' a5 (Q.flatMap pzc))∧Hp [] w u [Rb b1 30 (smc h.cells a b n k m p).toArray,Rb b2 37 sz.toArray,Rb b3 26 h2.cells.toArray,Rb b4 37 (ST.cells ⟨h2,none,0,[]⟩).toArray,Rs a6 c6])
 ·intro key
  obtain ⟨c9,hc9⟩:∃ x,x=k:=⟨_,rfl⟩
  by_cases h0:N=0
  ·repeat (first|refine WS_region ?_|refine WS_yes rfl (by omega) ?_|(refine WL_r (by refine k_buildS (cs:=pzc (false,false,0,0)) (Ty.zer rfl) (Ty.plc rfl) rfl) rfl ?_))
   refine WL_s (H_lit (out:=[.bool false,.bool false,.int .u8 0,.int .u8 0]) hH (Ty.sle rfl) (Ty.zer rfl) rfl rfl rfl (by decide) rfl ?_)
   try clear hH
   intro _ b5 hH
   replace hH:=nn5 hH
   repeat (first|refine WS_seq ?_|refine WS_region ?_|refine WL_nil ?_|refine WS_block ?_|(refine WL_r (by first|refine Run_pev rfl|refine k_len rfl (Ty.isl rfl)) rfl ?_))
   obtain ⟨a9,ha9⟩:∃ x,x=(some ⟨b5,0,none⟩:Option Addr):=⟨_,rfl⟩
   obtain ⟨n9,hn9⟩:∃ x,x=1:=⟨_,rfl⟩
   obtain ⟨d9,hd9⟩:∃ x,x=1:=⟨_,rfl⟩
   replace hH:=hH.as (r':=Rs a9 ([(false,false,0,0)].flatMap pzc)) 4 rfl (fun x hx=>by rw [ha9] at hx;exact hx) (fun h=>by rw [ha9];exact h.sl0)
   replace hH:=nn5 hH
   refine WS_keep [(1,pm b1),(2,pm b2),(3,pm b3),(4,pm b4),(5,.slice a9 n9 d9),(6,.int .i64 0),(44,.slice a9 n9 d9),(45,.int .i64 n9),(46,.int .i64 0)] ⟨rfl,rfl,rfl,rfl,by rw [ha9,hn9,hd9];rfl,rfl,by rw [ha9,hn9,hd9];rfl,by rw [hn9];rfl,rfl,trivial⟩ (fun σ=>WS_w fun u hu=>?_)
   exact key σ a9 n9 d9 u ⟨[(false,false,0,0)],a9,_,by rw [hn9];rfl,by omega,by simp [pzok],fun _ _ h=>h,hu▸hH⟩
  ·repeat (first|refine WS_seq ?_|refine WS_region ?_|refine WL_nil ?_|refine WS_block ?_|refine WS_skip ?_|refine WS_no rfl (by omega) ?_|(refine WL_r (by first|refine Run_pev rfl|refine k_len rfl (Ty.isl rfl)) rfl ?_))
   obtain ⟨a9,ha9⟩:∃ x,x=a:=⟨_,rfl⟩
   obtain ⟨n9,hn9⟩:∃ x,x=N:=⟨_,rfl⟩
   replace hH:=hH.nu (New.nilS (a:=none))
   replace hH:=nn5 hH
   refine WS_keep [(1,pm b1),(2,pm b2),(3,pm b3),(4,pm b4),(5,.slice a9 n9 c9),(6,.int .i64 0),(44,.slice a9 n9 c9),(45,.int .i64 n9),(46,.int .i64 0)] ⟨rfl,rfl,rfl,rfl,by rw [ha9,hn9,hc9];rfl,rfl,by rw [ha9,hn9,hc9];rfl,by rw [hn9];rfl,rfl,trivial⟩ (fun σ=>WS_w fun u hu=>?_)
   exact key σ a9 n9 c9 u ⟨P.take N,none,[],by rw [hn9,List.length_take];omega,by omega,fun z hz=>hPo z (List.mem_of_mem_take hz),fun u' hE _=>by
    have h4:=(hP.ext0 hE).take (N*4)
    rw [fm_take (f:=pzc) (sz:=4) (fun _ _=>rfl)] at h4
    rw [ha9];exact h4,hu▸hH⟩
 clear hH
 rintro σ a5 n5 c5 w5 ⟨Q,a6,c6,hQl,hQ5,hQo,hQS,hH⟩
 replace hH:=(hH.nu (New.nilX (r:=rP))).nu (New.nilO (e:=72) (sz:=5))
 replace hH:=nn7 hH
 refine WS_loop (G:=(Nat) × (Nat) × (List PR) × (Option Addr) × (Nat)) (fun|(i,u,ps,a1,c1)=>n5-i) 1461501637330902918203684832716282949287188496320 (fun|(i,u,ps,a1,c1)=>[(6,.int .i64 u),(46,.int .i64 i)]) (fun|(i,u,ps,a1,c1),w'=>i≤n5∧u≤9*i∧ps.length=i∧(∀ (j:Nat) (q:PR),ps[j]?=some q→q.ok C R j)∧Hp [] w w' [Rb b1 30 (smc h.cells a b n k m p).toArray,Rb b2 37 sz.toArray,Rb b3 26 h2.cells.toArray,Rb b4 37 (ST.cells ⟨h2,a1,c1,ps⟩).toArray,Rs a6 c6,RZ rP ps,Ro 72 5 a1 ps.length c1 (ps.flatMap PR.cells)]) (0,0,[],none,0) ⟨rfl,rfl,trivial⟩ ⟨by omega,by omega,rfl,by simp,hH⟩ ?_
 rintro ⟨i,u,ps,a1,c1⟩ w' σ ⟨hi,hu9,hpl,hps,hH⟩ IH
 show WS _ _ _ _ _ (updL [(6,.int .i64 u),(46,.int .i64 i)] _) _
 by_cases hlt:i<n5
 ·obtain ⟨pz,hpz⟩:∃ pz,Q[i]?=some pz:=⟨_,List.getElem?_eq_getElem (by omega)⟩
  have hpo:=hQo pz (List.mem_of_getElem? hpz)
  have hSq:=hQS _ hH.ext (hH.at 4 rfl)
  have hat:=fm_at (f:=pzc) (sz:=4) (fun _ _=>rfl) hpz
  have hle:=fm_len (f:=pzc) (sz:=4) (l:=Q) (fun _ _=>rfl)
  repeat (first|refine WS_seq ?_|refine WS_region ?_|refine WL_nil ?_|refine WS_block ?_|refine WS_skip ?_|refine WS_yes rfl (by omega) ?_|(refine WL_r (by first|refine k_ix (sz:=4) rfl rfl hSq (by rw [hle,hQl]) (by decide) (Ty.sle rfl) (by omega)|refine k_loadC (j:=i*4) (cs:=pzc pz) rfl hSq hat rfl (Ty.shp rfl)|refine Run_pev rfl) rfl ?_))
  clear hSq
  refine WL_s (H_alloc hH (Ty.zer rfl) rfl ?_)
  try clear hH
  intro _ b8 hH
  replace hH:=nn8 hH
  repeat (refine lp rfl rfl ?_)
  refine WL_s (H_storeA 7 (vs:=(pzc pz).toArray) (s:=4) hH rfl rfl rfl (by rfl) (by rfl) (by simp [Value.oneCell']) (Ty.shp rfl) ?_)
  try clear hH
  intro _ hH
  replace hH:=nn8 hH
  repeat (first|refine WS_seq ?_|refine WS_region ?_|refine WL_nil ?_)
  refine WL_s (H_alloc hH (Ty.zer rfl) rfl ?_)
  try clear hH
  intro _ b9 hH
  replace hH:=nn9 hH
  have hB8:=hH.b 7 rfl
  apply joinE (Z:=fun x u'=>(i=0→x=false)∧Hp [] w u' [Rb b1 30 (smc h.cells a b n k m p).toArray,Rb b2 37 sz.toArray,Rb b3 26 h2.cells.toArray,Rb b4 37 (ST.cells ⟨h2,a1,c1,ps⟩).toArray,Rs a6 c6,RZ rP ps,Ro 72 5 a1 ps.length c1 (ps.flatMap PR.cells),Rb b8 77 (pzc pz).toArray,Rb b9 72 (PR.cells ⟨⟨i,x,false,0⟩,none,0,[]⟩).toArray])
  ·intro key
   by_cases h1:pz.1=true
   ·repeat (first|refine WS_seq ?_|refine WS_region ?_|refine WL_nil ?_|refine WL_gyes rfl rfl rfl ?_|(refine WL_r (by first|refine k_fa rfl (Ty.fld rfl rfl)|refine (k_loadb rfl hB8 rfl (Ty.shp rfl)).is (congrArg Value.bool h1)|refine Run_pev rfl) rfl ?_))
    refine WL_s (H_store 8 (v:=.int .i64 i) hH rfl rfl rfl (Nat.le_of_ble_eq_true rfl) rfl (Ty.shp rfl) ?_)
    try clear hH
    intro _ hH
    replace hH:=nn9 hH
    repeat ((refine WL_r (by refine k_fa rfl (Ty.fld rfl rfl)) rfl ?_))
    refine WL_s (H_store 8 (v:=.bool (decide ((i:Int) > 0))) hH rfl rfl rfl (Nat.le_of_ble_eq_true rfl) rfl (Ty.shp rfl) ?_)
    try clear hH
    intro _ hH
    replace hH:=nn9 hH
    obtain ⟨x9,hx9⟩:∃ x9,x9=decide ((i:Int) > 0):=⟨_,rfl⟩
    replace hH:=hH.as (r':=Rb b9 72 (PR.cells ⟨⟨i,x9,false,0⟩,none,0,[]⟩).toArray) 8 rfl (fun _ h=>h) (fun h=>by rw [hx9];exact h)
    replace hH:=nn9 hH
    apply WL_keepM 1461501637330902918203684832716282949287188496320 [(6,.int .i64 u),(7,.int .i64 i),(8,pt b8),(9,pt b9),(46,.int .i64 i)]
    ·exact ⟨rfl,rfl,rfl,rfl,rfl,trivial⟩
    ·repeat (first|((with_reducible apply Agr.upd);· exact rfl)|((with_reducible apply Agr.consL);· exact rfl)|(with_reducible apply Agr.nilL)|((with_reducible apply Agr.mrg (W':=1461501637330902918203684832716282949287188496320));(· exact rfl);apply Agr.refl))
    intro σ
    exact WL_wC fun u' hu=>key σ x9 u' ⟨fun h=>by rw [hx9];simp;omega,hu▸hH⟩
   ·replace h1:pz.1=false:=by simpa using h1
    repeat (first|refine WS_seq ?_|refine WS_region ?_|refine WL_nil ?_|refine WL_gno rfl rfl rfl rfl rfl ?_|(refine WL_r (by first|refine k_fa rfl (Ty.fld rfl rfl)|refine (k_loadb rfl hB8 rfl (Ty.shp rfl)).is (congrArg Value.bool h1)|refine Run_pev rfl) rfl ?_))
    refine WL_s (H_store 8 (v:=.int .i64 i) hH rfl rfl rfl (Nat.le_of_ble_eq_true rfl) rfl (Ty.shp rfl) ?_)
    try clear hH
    intro _ hH
    replace hH:=nn9 hH
    repeat ((refine WL_r (by refine k_fa rfl (Ty.fld rfl rfl)) rfl ?_))
    refine WL_s (H_store 8 (v:=.bool false) hH rfl rfl rfl (Nat.le_of_ble_eq_true rfl) rfl (Ty.shp rfl) ?_)
    try clear hH
    intro _ hH
    replace hH:=nn9 hH
    obtain ⟨x9,hx9⟩:∃ x9,x9=false:=⟨_,rfl⟩
    replace hH:=hH.as (r':=Rb b9 72 (PR.cells ⟨⟨i,x9,false,0⟩,none,0,[]⟩).toArray) 8 rfl (fun _ h=>h) (fun h=>by rw [hx9];exact h)
    replace hH:=nn9 hH
    apply WL_keepM 1461501637330902918203684832716282949287188496320 [(6,.int .i64 u),(7,.int .i64 i),(8,pt b8),(9,pt b9),(46,.int .i64 i)]
    ·exact ⟨rfl,rfl,rfl,rfl,rfl,trivial⟩
    ·repeat (first|((with_reducible apply Agr.upd);· exact rfl)|((with_reducible apply Agr.updo);· exact rfl)|((with_reducible apply Agr.consL);· exact rfl)|(with_reducible apply Agr.nilL)|((with_reducible apply Agr.mrg (W':=1461501637330902918203684832716282949287188496320));(· exact rfl);apply Agr.refl))
    intro σ
    exact WL_wC fun u' hu=>key σ x9 u' ⟨fun _=>hx9,hu▸hH⟩
  clear hH hB8
  rintro σ x w4 ⟨hx0,hH⟩
  repeat (first|refine WS_seq ?_|refine WL_nil ?_)
  have hB8:=hH.b 7 rfl
  have hB9:=hH.b 8 rfl
  obtain ⟨q,hq,hq31⟩:∃ q:Int,1+((pz.2.2.1 % 31:Nat):Int)=q∧(1≤q∧q≤31):=⟨_,rfl,by omega⟩
  apply joinE (Z:=fun d u'=>(d=true→x=true)∧Hp [] w u' [Rb b1 30 (smc h.cells a b n k m p).toArray,Rb b2 37 sz.toArray,Rb b3 26 h2.cells.toArray,Rb b4 37 (ST.cells ⟨h2,a1,c1,ps⟩).toArray,Rs a6 c6,RZ rP ps,Ro 72 5 a1 ps.length c1 (ps.flatMap PR.cells),Rb b8 77 (pzc pz).toArray,Rb b9 72 (PR.cells ⟨⟨i,x,d,q⟩,none,0,[]⟩).toArray])
  ·intro key
   by_cases h1:x=true
   ·skip
    have hne:b8 ∉ [b9]:=by have:=hH.dj 7 8 rfl rfl (by decide) b8 (by simp [Rb]);simpa [Rb] using this
    refine WS_draw Ty.mixed (fun u'=>Ext [b9] w4 u'∧∃ (dd:Bool) (qq:Int),Blk u' b9 72 (PR.cells ⟨⟨i,x,dd,qq⟩,none,0,[]⟩).toArray) 18 rfl ?_
    have hBd:Blk w4.drew b9 72 (PR.cells ⟨⟨i,x,false,0⟩,none,0,[]⟩).toArray:=hB9.ext0 Ext.drew0
    have hx1:Ext [b9] w4 w4.drew∧∃ (dd:Bool) (qq:Int),Blk w4.drew b9 72 (PR.cells ⟨⟨i,x,dd,qq⟩,none,0,[]⟩).toArray:=⟨Ext.drew0,_,_,hBd⟩
    refine wt 0 hx1 rfl rfl rfl (fun w' hw'=>by refine k_fa rfl (Ty.fld rfl rfl)) ?_
    refine wt 1 hx1 rfl rfl rfl (fun w' hw'=>by refine k_fa rfl (Ty.fld rfl rfl)) ?_
    refine wt 2 hx1 rfl rfl rfl (fun w' hw'=>by refine hw'.2.elim fun _ h=>h.elim fun _ h=>(k_loadb (v:=.bool x) rfl h rfl (Ty.shp rfl)).is (congrArg Value.bool h1)) ?_
    refine wp 3 hx1 rfl rfl rfl rfl ?_
    refine WA_takey 4 rfl (by kernel_rfl) hx1 rfl rfl rfl rfl rfl (fun w' hw'=>by refine k_fa rfl (Ty.fld rfl rfl)) ?_
    refine WA_takey 5 rfl (by kernel_rfl) hx1 rfl rfl rfl rfl rfl (fun w' hw'=>by refine k_loadb rfl (hB8.ext hw'.1 hne) rfl (Ty.shp rfl)) ?_
    refine wp 6 hx1 rfl rfl rfl rfl ?_
    refine wt 7 hx1 rfl rfl rfl (fun w' hw'=>by refine k_fa rfl (Ty.fld rfl rfl)) ?_
    refine wt 8 hx1 rfl rfl rfl (fun w' hw'=>by refine k_loadb rfl (hB8.ext hw'.1 hne) rfl (Ty.shp rfl)) ?_
    refine wt 9 hx1 rfl rfl rfl (fun w' hw'=>by refine k_remu (n:=31) rfl rfl (by decide)) ?_
    refine wt 10 hx1 rfl rfl rfl (fun w' hw'=>by refine k_convI rfl rfl rfl (by omega)) ?_
    refine wt 11 hx1 rfl rfl rfl (fun w' hw'=>by refine (k_add64 rfl rfl (by omega)).is (congrArg (Value.int .i64) hq)) ?_
    refine wt 12 hx1 rfl rfl rfl (fun w' hw'=>by refine k_fa rfl (Ty.fld rfl rfl)) ?_
    refine wt 13 hx1 rfl rfl rfl (fun w' hw'=>by refine k_fa rfl (Ty.fld rfl rfl)) ?_
    refine WA_one 14 (by kernel_rfl) rfl rfl (S_store (v:=.bool (pz.2.1)) rfl rfl hBd (Nat.le_of_ble_eq_true rfl) rfl (Ty.shp rfl) ?_)
    intro u1 hE1 hB1 _
    have hB1':Blk u1 b9 72 (PR.cells ⟨⟨i,x,pz.2.1,0⟩,none,0,[]⟩).toArray:=hB1
    have hx2:Ext [b9] w4 u1∧∃ (dd:Bool) (qq:Int),Blk u1 b9 72 (PR.cells ⟨⟨i,x,dd,qq⟩,none,0,[]⟩).toArray:=⟨hx1.1.then1' hE1,_,_,hB1'⟩
    refine ⟨hx2,?_⟩
    refine wt 15 hx2 rfl rfl rfl (fun w' hw'=>by refine k_fa rfl (Ty.fld rfl rfl)) ?_
    refine wt 16 hx2 rfl rfl rfl (fun w' hw'=>by refine k_fa rfl (Ty.fld rfl rfl)) ?_
    refine WA_one 17 (by kernel_rfl) rfl rfl (S_store (v:=.int .i64 q) rfl rfl hB1' (Nat.le_of_ble_eq_true rfl) rfl (Ty.shp rfl) ?_)
    intro u2 hE2 hB2 _
    obtain ⟨x9,hx9⟩:∃ x9,x9=pz.2.1:=⟨_,rfl⟩
    have hB2':Blk u2 b9 72 (PR.cells ⟨⟨i,x,x9,q⟩,none,0,[]⟩).toArray:=by rw [hx9];exact hB2
    refine ⟨⟨hx2.1.then1' hE2,_,_,hB2'⟩,?_⟩
    refine WA_done (by kernel_rfl) ?_
    replace hH:=hH.up 8 rfl (r':=Rb b9 72 (PR.cells ⟨⟨i,x,x9,q⟩,none,0,[]⟩).toArray) ⟨hx2.1.then1' hE2,hB2',fun _ hx=>.inl hx⟩
    replace hH:=nn9 hH
    apply WS_keepM 1461501637330902918203684832716282949287188496320 [(6,.int .i64 u),(7,.int .i64 i),(8,pt b8),(9,pt b9),(46,.int .i64 i)]
    ·exact ⟨rfl,rfl,rfl,rfl,rfl,trivial⟩
    ·repeat (first|((with_reducible apply Agr.consL);· exact rfl)|(with_reducible apply Agr.nilL)|((with_reducible apply Agr.mrg (W':=1461501637330902918203684832716282949287188496320));(· exact rfl);apply Agr.refl)|(apply Agr.updo;· exact rfl))
    intro σ
    exact WS_w fun u' hu=>key σ x9 u' ⟨fun _=>h1,hu▸hH⟩
   ·replace h1:x=false:=by simpa using h1
    have hne:b8 ∉ [b9]:=by have:=hH.dj 7 8 rfl rfl (by decide) b8 (by simp [Rb]);simpa [Rb] using this
    refine WS_draw Ty.mixed (fun u'=>Ext [b9] w4 u'∧∃ (dd:Bool) (qq:Int),Blk u' b9 72 (PR.cells ⟨⟨i,x,dd,qq⟩,none,0,[]⟩).toArray) 18 rfl ?_
    have hBd:Blk w4.drew b9 72 (PR.cells ⟨⟨i,x,false,0⟩,none,0,[]⟩).toArray:=hB9.ext0 Ext.drew0
    have hx1:Ext [b9] w4 w4.drew∧∃ (dd:Bool) (qq:Int),Blk w4.drew b9 72 (PR.cells ⟨⟨i,x,dd,qq⟩,none,0,[]⟩).toArray:=⟨Ext.drew0,_,_,hBd⟩
    refine wt 0 hx1 rfl rfl rfl (fun w' hw'=>by refine k_fa rfl (Ty.fld rfl rfl)) ?_
    refine wt 1 hx1 rfl rfl rfl (fun w' hw'=>by refine k_fa rfl (Ty.fld rfl rfl)) ?_
    refine wt 2 hx1 rfl rfl rfl (fun w' hw'=>by refine hw'.2.elim fun _ h=>h.elim fun _ h=>(k_loadb (v:=.bool x) rfl h rfl (Ty.shp rfl)).is (congrArg Value.bool h1)) ?_
    refine wp 3 hx1 rfl rfl rfl rfl ?_
    refine WA_taken (b:=false) 4 rfl (by kernel_rfl) hx1 rfl rfl rfl rfl rfl rfl ?_
    refine WA_taken (b:=false) 5 rfl (by kernel_rfl) hx1 rfl rfl rfl rfl rfl rfl ?_
    refine wp 6 hx1 rfl rfl rfl rfl ?_
    refine wt 7 hx1 rfl rfl rfl (fun w' hw'=>by refine k_fa rfl (Ty.fld rfl rfl)) ?_
    refine wt 8 hx1 rfl rfl rfl (fun w' hw'=>by refine k_loadb rfl (hB8.ext hw'.1 hne) rfl (Ty.shp rfl)) ?_
    refine wt 9 hx1 rfl rfl rfl (fun w' hw'=>by refine k_remu (n:=31) rfl rfl (by decide)) ?_
    refine wt 10 hx1 rfl rfl rfl (fun w' hw'=>by refine k_convI rfl rfl rfl (by omega)) ?_
    refine wt 11 hx1 rfl rfl rfl (fun w' hw'=>by refine (k_add64 rfl rfl (by omega)).is (congrArg (Value.int .i64) hq)) ?_
    refine wt 12 hx1 rfl rfl rfl (fun w' hw'=>by refine k_fa rfl (Ty.fld rfl rfl)) ?_
    refine wt 13 hx1 rfl rfl rfl (fun w' hw'=>by refine k_fa rfl (Ty.fld rfl rfl)) ?_
    refine WA_one 14 (by kernel_rfl) rfl rfl (S_store (v:=.bool (false)) rfl rfl hBd (Nat.le_of_ble_eq_true rfl) rfl (Ty.shp rfl) ?_)
    intro u1 hE1 hB1 _
    have hB1':Blk u1 b9 72 (PR.cells ⟨⟨i,x,false,0⟩,none,0,[]⟩).toArray:=hB1
    have hx2:Ext [b9] w4 u1∧∃ (dd:Bool) (qq:Int),Blk u1 b9 72 (PR.cells ⟨⟨i,x,dd,qq⟩,none,0,[]⟩).toArray:=⟨hx1.1.then1' hE1,_,_,hB1'⟩
    refine ⟨hx2,?_⟩
    refine wt 15 hx2 rfl rfl rfl (fun w' hw'=>by refine k_fa rfl (Ty.fld rfl rfl)) ?_
    refine wt 16 hx2 rfl rfl rfl (fun w' hw'=>by refine k_fa rfl (Ty.fld rfl rfl)) ?_
    refine WA_one 17 (by kernel_rfl) rfl rfl (S_store (v:=.int .i64 q) rfl rfl hB1' (Nat.le_of_ble_eq_true rfl) rfl (Ty.shp rfl) ?_)
    intro u2 hE2 hB2 _
    obtain ⟨x9,hx9⟩:∃ x9,x9=false:=⟨_,rfl⟩
    have hB2':Blk u2 b9 72 (PR.cells ⟨⟨i,x,x9,q⟩,none,0,[]⟩).toArray:=by rw [hx9];exact hB2
    refine ⟨⟨hx2.1.then1' hE2,_,_,hB2'⟩,?_⟩
    refine WA_done (by kernel_rfl) ?_
    replace hH:=hH.up 8 rfl (r':=Rb b9 72 (PR.cells ⟨⟨i,x,x9,q⟩,none,0,[]⟩).toArray) ⟨hx2.1.then1' hE2,hB2',fun _ hx=>.inl hx⟩
    replace hH:=nn9 hH
    apply WS_keepM 1461501637330902918203684832716282949287188496320 [(6,.int .i64 u),(7,.int .i64 i),(8,pt b8),(9,pt b9),(46,.int .i64 i)]
    ·exact ⟨rfl,rfl,rfl,rfl,rfl,trivial⟩
    ·repeat (first|((with_reducible apply Agr.consL);· exact rfl)|(with_reducible apply Agr.nilL)|((with_reducible apply Agr.mrg (W':=1461501637330902918203684832716282949287188496320));(· exact rfl);apply Agr.refl)|(apply Agr.updo;· exact rfl))
    intro σ
    exact WS_w fun u' hu=>key σ x9 u' ⟨fun h=>(by rw [hx9] at h;cases h),hu▸hH⟩
  clear hH hB8 hB9
  rintro σ d w4 ⟨hd,hH⟩
  have hB3:=hH.b 2 rfl
  have hCR:(C:Int)*R=((C*R:Nat):Int):=by simp
  have hCR9:1≤C*R∧C*R≤9:=⟨Nat.mul_le_mul hC3.1 hR3.1,Nat.mul_le_mul hC3.2 hR3.2⟩
  have hl0:h2.cells.toArray[0+0]?=some (.int .i64 C):=by rw [← h2c];rfl
  have hl1:h2.cells.toArray[0+1]?=some (.int .i64 R):=by rw [← h2r];rfl
  replace hH:=(hH.nu (New.nilX (r:=rG))).nu (New.nilO (e:=80) (sz:=2))
  replace hH:=nn11 hH
  repeat (first|refine WS_seq ?_|refine WS_region ?_|refine WL_nil ?_|refine WS_block ?_|(refine WL_r (by first|refine k_fa rfl (Ty.fld rfl rfl)|refine k_loadb rfl hB3 hl0 (Ty.shp rfl)|refine k_loadb rfl hB3 hl1 (Ty.shp rfl)|refine (k_mul64 (m:=C) (n:=R) rfl rfl (by omega)).is (congrArg (Value.int .i64) hCR)|refine Run_pev rfl) rfl ?_))
  clear hB3
  refine WS_loop (G:=(Nat) × (Nat) × (List GR) × (Option Addr) × (Nat)) (fun|(f,u,gs,a2,c2)=>C*R-f) 11417981541647679048456616349039044057664452672 (fun|(f,u,gs,a2,c2)=>[(6,.int .i64 u),(11,.int .i64 f)]) (fun|(f,u,gs,a2,c2),w'=>f≤C*R∧u≤9*i+f∧gok x q 0 gs f∧Hp [] w w' [Rb b1 30 (smc h.cells a b n k m p).toArray,Rb b2 37 sz.toArray,Rb b3 26 h2.cells.toArray,Rb b4 37 (ST.cells ⟨h2,a1,c1,ps⟩).toArray,Rs a6 c6,RZ rP ps,Ro 72 5 a1 ps.length c1 (ps.flatMap PR.cells),Rb b8 77 (pzc pz).toArray,Rb b9 72 (PR.cells ⟨⟨i,x,d,q⟩,a2,c2,gs⟩).toArray,RZ rG gs,Ro 80 2 a2 gs.length c2 (gs.flatMap GR.cells)]) (0,u,[],none,0) ⟨rfl,rfl,trivial⟩ ⟨by omega,by omega,rfl,hH⟩ ?_
  rintro ⟨f,u,gs,a2,c2⟩ w' σ ⟨hf,hu9,hgk,hH⟩ IH2
  show WS _ _ _ _ _ (updL [(6,.int .i64 u),(11,.int .i64 f)] _) _
  by_cases hfl2:f<C*R
  ·obtain ⟨N2,hN2,hN25⟩:∃ N2:Nat,min (1+((pz.2.2.2 % 5:Nat):Int)) (((C*R:Nat):Int)-f)=N2∧(1≤N2∧N2≤5)∧f+N2≤C*R:=⟨min (1+pz.2.2.2 % 5) (C*R-f),by omega,by omega,by omega⟩
   have hB8:=hH.b 7 rfl
   repeat (first|refine WS_seq ?_|refine WS_region ?_|refine WL_nil ?_|refine WS_block ?_|refine WS_skip ?_|refine WS_yes rfl (by omega) ?_|(refine WL_r (by first|refine k_fa rfl (Ty.fld rfl rfl)|refine k_loadb rfl hB8 rfl (Ty.shp rfl)|refine k_remu (n:=5) rfl rfl (by decide)|refine k_add64 rfl rfl (by omega)|refine (k_min rfl rfl).is (congrArg (Value.int .i64) hN2)|refine k_buildS (cs:=GR.cells ⟨f,none,0,[]⟩) (Ty.zer rfl) (Ty.plc rfl) rfl|refine Run_pev rfl|refine k_sub64 rfl rfl (by omega)|refine k_convI rfl rfl rfl (by omega)) rfl ?_))
   clear hB8
   refine WL_s (H_alloc hH (Ty.zer rfl) rfl ?_)
   try clear hH
   intro _ b13 hH
   replace hH:=nn12 hH
   skip
   refine WL_s (H_storeA 11 (vs:=(GR.cells ⟨f,none,0,[]⟩).toArray) (s:=2) hH rfl rfl rfl (by rfl) (by rfl) (by simp [Value.oneCell']) (Ty.shp rfl) ?_)
   try clear hH
   intro _ hH
   replace hH:=nn12 hH
   have hB9:=hH.b 8 rfl
   replace hH:=hH.nu (New.nilO (e:=97) (sz:=391))
   replace hH:=nn13 hH
   repeat (first|refine WS_seq ?_|refine WS_region ?_|refine WL_nil ?_|refine WS_block ?_|(refine WL_r (by first|refine k_fa rfl (Ty.fld rfl rfl)|refine k_loadb (v:=.int .i64 q) rfl hB9 rfl (Ty.shp rfl)|refine Run_pev rfl) rfl ?_))
   clear hB9
   refine WS_loop (G:=(Nat) × (Nat) × (Int) × (List MB) × (Option Addr) × (Nat)) (fun|(j,u,qp,ms,a3,c3)=>N2-j) 22300745198528087840335261813845368099684416 (fun|(j,u,qp,ms,a3,c3)=>[(6,.int .i64 u),(14,.int .i64 qp),(101,.int .i64 j)]) (fun|(j,u,qp,ms,a3,c3),w'=>j≤N2∧u≤9*i+f+j∧ms.length=j∧chn x q ms∧lq q ms=qp∧(1≤qp∧qp≤31)∧Hp [] w w' [Rb b1 30 (smc h.cells a b n k m p).toArray,Rb b2 37 sz.toArray,Rb b3 26 h2.cells.toArray,Rb b4 37 (ST.cells ⟨h2,a1,c1,ps⟩).toArray,Rs a6 c6,RZ rP ps,Ro 72 5 a1 ps.length c1 (ps.flatMap PR.cells),Rb b8 77 (pzc pz).toArray,Rb b9 72 (PR.cells ⟨⟨i,x,d,q⟩,a2,c2,gs⟩).toArray,RZ rG gs,Ro 80 2 a2 gs.length c2 (gs.flatMap GR.cells),Rb b13 80 (GR.cells ⟨f,a3,c3,ms⟩).toArray,Ro 97 391 a3 ms.length c3 (mcs ms)]) (0,u,q,[],none,0) ⟨rfl,rfl,rfl,trivial⟩ ⟨by omega,by omega,rfl,trivial,rfl,hq31,hH⟩ ?_
   rintro ⟨j,u,qp,ms,a3,c3⟩ w' σ ⟨hj,hu9,hml,hch,hlq,hqp,hH⟩ IH3
   show WS _ _ _ _ _ (updL [(6,.int .i64 u),(14,.int .i64 qp),(101,.int .i64 j)] _) _
   by_cases hjl:j<N2
   ·repeat (first|refine WS_seq ?_|refine WS_region ?_|refine WL_nil ?_|refine WS_block ?_|refine WS_skip ?_|refine WS_yes rfl (by omega) ?_|(refine WL_r (by first|refine (k_conv_u8 (m:=u) rfl rfl (Ty.knd rfl)).is (congrArg (fun n:Nat=>Value.int .u8 n) (Nat.mod_eq_of_lt (by omega)))|refine k_buildS (cs:=zz u) (Ty.zer rfl) (Ty.plc rfl) rfl|refine Run_pev rfl) rfl ?_))
    refine WL_s (H_alloc hH (Ty.zer rfl) rfl ?_)
    try clear hH
    intro _ b15 hH
    replace hH:=nn14 hH
    skip
    refine WL_s (H_storeA 13 (vs:=(zz u).toArray) (s:=20) hH rfl rfl rfl rfl rfl (zz_ok (k:=u) (by omega)).one (Ty.shp rfl) ?_)
    clear hH
    intro _ hH
    replace hH:=nn14 hH
    apply joinW (Z:=fun u'=>∃ zs,ZM zs∧Hp [] w u' [Rb b1 30 (smc h.cells a b n k m p).toArray,Rb b2 37 sz.toArray,Rb b3 26 h2.cells.toArray,Rb b4 37 (ST.cells ⟨h2,a1,c1,ps⟩).toArray,Rs a6 c6,RZ rP ps,Ro 72 5 a1 ps.length c1 (ps.flatMap PR.cells),Rb b8 77 (pzc pz).toArray,Rb b9 72 (PR.cells ⟨⟨i,x,d,q⟩,a2,c2,gs⟩).toArray,RZ rG gs,Ro 80 2 a2 gs.length c2 (gs.flatMap GR.cells),Rb b13 80 (GR.cells ⟨f,a3,c3,ms⟩).toArray,Ro 97 391 a3 ms.length c3 (mcs ms),Rb b15 89 zs.toArray])
    ·intro key
     have hB1:=hH.b 0 rfl
     by_cases hm0:m=0
     ·repeat (first|refine WS_seq ?_|refine WS_region ?_|refine WL_nil ?_|refine WS_skip ?_|refine WS_no rfl (by omega) ?_|(refine WL_r (by first|refine k_fa rfl (Ty.fld rfl rfl)|refine k_loadb rfl hB1 (smc_at hl).2 (Ty.shp rfl)|refine Run_pev rfl|refine k_add64 rfl rfl (by omega)|refine k_len rfl (Ty.isl rfl)) rfl ?_))
      apply WL_keepM 22300745198528087840335261813845368099684416 [(6,.int .i64 (u+1)),(14,.int .i64 qp),(15,pt b15),(101,.int .i64 j)]
      ·exact ⟨rfl,rfl,rfl,rfl,trivial⟩
      ·repeat (first|((with_reducible apply Agr.upd);· exact rfl)|((with_reducible apply Agr.consL);· exact rfl)|(with_reducible apply Agr.nilL)|((with_reducible apply Agr.mrg (W':=22300745198528087840335261813845368099684416));(· exact rfl);apply Agr.refl))
      intro σ
      exact WL_w fun u' hu=>key σ u' ⟨zz u,zz_ok (by omega),hu▸hH⟩
     ·have hum:u % m<m:=Nat.mod_lt _ (by omega)
      obtain ⟨z,hzu⟩:∃ z,Z[u % m]?=some z:=⟨_,List.getElem?_eq_getElem (by omega)⟩
      have hzm:=hz z (List.mem_of_getElem? hzu)
      have hZ2:=hZ.ext0 hH.ext
      have hat2:=fm_at (f:=id) (sz:=20) (fun x hx=>(hz x hx).len) hzu
      have hle2:=fm_len (f:=id) (sz:=20) (l:=Z) (fun x hx=>(hz x hx).len)
      repeat (first|refine WS_seq ?_|refine WS_region ?_|refine WL_nil ?_|refine WS_yes rfl (by omega) ?_|(refine WL_r (by first|refine k_fa rfl (Ty.fld rfl rfl)|refine k_loadb rfl hB1 (smc_at hl).2 (Ty.shp rfl)|refine Run_pev rfl|refine k_len rfl (Ty.isl rfl)) rfl ?_))
      refine WS_tailE Ty.mixed 9 rfl (by kernel_rfl) rfl (fun w1 hx1=>?_)
      refine wt 0 hx1 rfl rfl rfl (fun w' hw'=>by refine k_fa rfl (Ty.fld rfl rfl)) ?_
      refine wt 1 hx1 rfl rfl rfl (fun w' hw'=>by refine k_loadb rfl (hB1.ext0 hw') (smc_at hl).2 (Ty.shp rfl)) ?_
      refine wp 2 hx1 rfl rfl rfl rfl ?_
      refine wt 3 hx1 rfl rfl rfl (fun w' hw'=>by refine k_fa rfl (Ty.fld rfl rfl)) ?_
      refine wt 4 hx1 rfl rfl rfl (fun w' hw'=>by refine k_loadb rfl (hB1.ext0 hw') (smc_at hl).2 (Ty.shp rfl)) ?_
      refine wt 5 hx1 rfl rfl rfl (fun w' hw'=>by refine k_len rfl (Ty.isl rfl)) ?_
      refine wt 6 hx1 rfl rfl rfl (fun w' hw'=>by refine k_remu (m:=u) (n:=m) rfl rfl hm0) ?_
      refine wt 7 hx1 rfl rfl rfl (fun w' hw'=>by refine k_ix (sz:=20) rfl rfl (hZ2.ext0 hw') (by rw [hle2,hZl]) (by decide) (Ty.sle rfl) (by omega)) ?_
      refine wt 8 hx1 rfl rfl rfl (fun w' hw'=>by refine k_loadC (j:=u % m*20) (cs:=z) rfl (hZ2.ext0 hw') hat2 hzm.len (Ty.shp rfl)) ?_
      refine WA_done (by kernel_rfl) ?_
      replace hH:=hH.ext0 hx1
      clear hx1 hZ2
      refine WL_s (H_storeA 13 (vs:=z.toArray) (s:=20) hH rfl rfl rfl (by simpa using hzm.len) rfl hzm.one (Ty.shp rfl) ?_)
      clear hH
      intro _ hH
      replace hH:=nn14 hH
      repeat (first|refine WS_seq ?_|refine WS_region ?_|refine WL_nil ?_|(refine WL_r (by first|refine Run_pev rfl|refine k_add64 rfl rfl (by omega)) rfl ?_))
      apply WL_keepM 22300745198528087840335261813845368099684416 [(6,.int .i64 (u+1)),(14,.int .i64 qp),(15,pt b15),(101,.int .i64 j)]
      ·exact ⟨rfl,rfl,rfl,rfl,trivial⟩
      ·repeat (first|((with_reducible apply Agr.upd);· exact rfl)|((with_reducible apply Agr.consL);· exact rfl)|(with_reducible apply Agr.nilL)|((with_reducible apply Agr.mrg (W':=22300745198528087840335261813845368099684416));(· exact rfl);apply Agr.refl)|(apply Agr.updo;· exact rfl))
      intro σ
      exact WL_w fun u' hu=>key σ u' ⟨z,hzm,hu▸hH⟩
    clear hH
    rintro σ w5 ⟨zs,hzs,hH⟩
    have hB15:=hH.b 13 rfl
    have hB9:=hH.b 8 rfl
    repeat ((refine WL_r (by first|refine k_fa rfl (Ty.fld rfl rfl)|refine k_loadA rfl hB15 (by simpa using hzs.len) (Ty.shp rfl)|refine k_loadb (v:=.bool x) rfl hB9 rfl (Ty.shp rfl)|refine Run_pev rfl) rfl ?_))
    clear hB15 hB9
    refine WL_s (S_call ((macro3_spec hzs hqp)) rfl rfl ?_)
    rintro _ _ ⟨y,rfl,hyo,hyi,hyq,hE0⟩
    replace hH:=hH.ext0 hE0
    clear hE0
    have hyl:=mcl_len (k:=y.k) (q:=y.q) (u0:=y.u0) (u1:=y.u1) (u2:=y.u2) (u3:=y.u3) (e:=y.e) hyo.len
    skip
    refine WL_s (H_alloc (zs:=mk0 0 0) hH (Ty.zer rfl) rfl ?_)
    clear hH
    intro _ b16 hH
    replace hH:=nn15 hH
    skip
    refine WL_s (H_storeA 14 (vs:=y.cells.toArray) (s:=391) hH rfl rfl rfl (by simpa using hyl) (by rw [mk0_mcl,List.size_toArray];exact mcl_len (by simp)) (mcl_one hyo) (Ty.shp rfl) ?_)
    clear hH
    intro _ hH
    replace hH:=nn15 hH
    obtain ⟨gr,hgv⟩:=hzs.gr
    apply joinE (Z:=fun e2 u'=>(e2=true→y.e=true)∧Hp [] w u' [Rb b1 30 (smc h.cells a b n k m p).toArray,Rb b2 37 sz.toArray,Rb b3 26 h2.cells.toArray,Rb b4 37 (ST.cells ⟨h2,a1,c1,ps⟩).toArray,Rs a6 c6,RZ rP ps,Ro 72 5 a1 ps.length c1 (ps.flatMap PR.cells),Rb b8 77 (pzc pz).toArray,Rb b9 72 (PR.cells ⟨⟨i,x,d,q⟩,a2,c2,gs⟩).toArray,RZ rG gs,Ro 80 2 a2 gs.length c2 (gs.flatMap GR.cells),Rb b13 80 (GR.cells ⟨f,a3,c3,ms⟩).toArray,Ro 97 391 a3 ms.length c3 (mcs ms),Rb b15 89 zs.toArray,Rb b16 97 (mcl y.k y.q y.u0 y.u1 y.u2 y.u3 e2 y.L).toArray])
    ·intro key
     have hS15:SlA _ (some ⟨b15,0,none⟩) zs:=(hH.b 13 rfl).sl0
     have hB16:=hH.b 14 rfl
     by_cases he:y.e=true
     ·skip
      repeat (first|refine WS_seq ?_|refine WS_region ?_|refine WL_nil ?_|refine WL_gyes rfl rfl rfl ?_|(refine WL_r (by first|refine k_fa rfl (Ty.fld rfl rfl)|refine (k_loadb rfl hB16 rfl (Ty.shp rfl)).is (congrArg Value.bool he)|refine k_loads (j:=19) rfl hS15 hgv (Ty.shp rfl)|refine Run_pev rfl|refine k_notb rfl) rfl ?_))
      refine WL_s (H_storeL 14 (o:=0+6) (v:=.bool (!gr)) hH rfl rfl rfl (by rw [hyl];decide) rfl (Ty.shp rfl) ?_)
      try clear hH
      intro _ hH
      replace hH:=nn15 hH
      obtain ⟨x9,hx9⟩:∃ x9,x9=(!gr):=⟨_,rfl⟩
      replace hH:=hH.as (r':=Rb b16 97 (mcl y.k y.q y.u0 y.u1 y.u2 y.u3 x9 y.L).toArray) 14 rfl (fun _ h=>h) (fun h=>by rw [hx9];exact h)
      replace hH:=nn15 hH
      apply WL_keepM 22300745198528087840335261813845368099684416 [(6,.int .i64 (u+1)),(14,.int .i64 qp),(15,pt b15),(16,pt b16),(101,.int .i64 j)]
      ·exact ⟨rfl,rfl,rfl,rfl,rfl,trivial⟩
      ·repeat (first|((with_reducible apply Agr.upd);· exact rfl)|((with_reducible apply Agr.consL);· exact rfl)|(with_reducible apply Agr.nilL)|((with_reducible apply Agr.mrg (W':=22300745198528087840335261813845368099684416));(· exact rfl);apply Agr.refl))
      intro σ
      exact WL_wC fun u' hu=>key σ x9 u' ⟨fun _=>he,hu▸hH⟩
     ·replace he:y.e=false:=by simpa using he
      repeat (first|refine WS_seq ?_|refine WS_region ?_|refine WL_nil ?_|refine WL_gno rfl rfl rfl rfl rfl ?_|(refine WL_r (by first|refine k_fa rfl (Ty.fld rfl rfl)|refine (k_loadb rfl hB16 rfl (Ty.shp rfl)).is (congrArg Value.bool he)|refine Run_pev rfl) rfl ?_))
      refine WL_s (H_storeL 14 (o:=0+6) (v:=.bool (false)) hH rfl rfl rfl (by rw [hyl];decide) rfl (Ty.shp rfl) ?_)
      try clear hH
      intro _ hH
      replace hH:=nn15 hH
      obtain ⟨x9,hx9⟩:∃ x9,x9=(false):=⟨_,rfl⟩
      replace hH:=hH.as (r':=Rb b16 97 (mcl y.k y.q y.u0 y.u1 y.u2 y.u3 x9 y.L).toArray) 14 rfl (fun _ h=>h) (fun h=>by rw [hx9];exact h)
      replace hH:=nn15 hH
      apply WL_keepM 22300745198528087840335261813845368099684416 [(6,.int .i64 (u+1)),(14,.int .i64 qp),(15,pt b15),(16,pt b16),(101,.int .i64 j)]
      ·exact ⟨rfl,rfl,rfl,rfl,rfl,trivial⟩
      ·repeat (first|((with_reducible apply Agr.upd);· exact rfl)|((with_reducible apply Agr.updo);· exact rfl)|((with_reducible apply Agr.consL);· exact rfl)|(with_reducible apply Agr.nilL)|((with_reducible apply Agr.mrg (W':=22300745198528087840335261813845368099684416));(· exact rfl);apply Agr.refl))
      intro σ
      exact WL_wC fun u' hu=>key σ x9 u' ⟨fun h=>(by rw [hx9] at h;cases h),hu▸hH⟩
    clear hH
    rintro σ e2 w6 ⟨he2,hH⟩
    obtain ⟨y2,hy2⟩:∃ y2:MB,y2=⟨y.k,y.q,y.u0,y.u1,y.u2,y.u3,e2,y.L⟩:=⟨_,rfl⟩
    have hy2o:y2.ok:=by rw [hy2];exact { hyo with ed:=fun h=>hyo.ed (he2 h) }
    have hy2l:=mcl_len (k:=y2.k) (q:=y2.q) (u0:=y2.u0) (u1:=y2.u1) (u2:=y2.u2) (u3:=y2.u3) (e:=y2.e) hy2o.len
    have hyk:y2.k=y.k∧y2.q=y.q:=by rw [hy2];exact ⟨rfl,rfl⟩
    rw [show mcl y.k y.q y.u0 y.u1 y.u2 y.u3 e2 y.L=y2.cells by rw [hy2]] at hH
    have hB16:=hH.b 14 rfl
    have hB13:=hH.b 11 rfl
    repeat (first|refine WS_seq ?_|refine WS_region ?_|refine WL_nil ?_|(refine WL_r (by first|refine k_fa rfl (Ty.fld rfl rfl)|refine k_loadb (v:=.int .i64 y2.q) rfl hB16 rfl (Ty.shp rfl)|refine k_loadb rfl hB13 rfl (Ty.shp rfl)|refine k_loadA rfl hB16 (by simpa using hy2l) (Ty.shp rfl)|refine Run_pev rfl) rfl ?_))
    clear hB16 hB13
    refine WL_s (H_lit (out:=y2.cells) hH (Ty.sle rfl) (Ty.zer rfl) rfl (lit1 rfl hy2l) rfl (by decide) rfl ?_)
    clear hH
    intro _ b17 hH
    replace hH:=nn16 hH
    refine WL_s (H_append 12 hH rfl (Ty.sle rfl) (Ty.zer rfl) rfl (Ty.byt rfl) (by decide) rfl rfl (hH.b 15 rfl).sl0 (by rw [hy2l]) (fun v hv=>mcl_one hy2o v (by simpa using hv)) (by omega) (by simp only [maxLen];omega) rfl ?_)
    clear hH
    intro _ a9 c9 hH
    replace hH:=nn16 hH
    replace hH:=((hH.del 15).del 14).del 13
    replace hH:=nn13 hH
    repeat ((refine WL_r (by refine k_fa rfl (Ty.fld rfl rfl)) rfl ?_))
    refine WL_s (H_store 11 (v:=.slice a9 (ms.length+1) c9) hH rfl rfl rfl (Nat.le_of_ble_eq_true rfl) rfl (Ty.shp rfl) ?_)
    try clear hH
    intro _ hH
    replace hH:=nn13 hH
    have hms:ms.length+1=(ms++[y2]).length:=by simp
    have hmc:mcs ms++y2.cells=mcs (ms++[y2]):=by simp [mcs]
    rw [hms,hmc] at hH
    have hml2:(ms++[y2]).length=j+1:=by simp [hml]
    have hch2:chn x q (ms++[y2]):=chn_add hy2o (by rw [hyk.1];exact hyi) hch (by rw [hlq,hyk.1,hyk.2];exact hyq)
    have hlq2:lq q (ms++[y2])=y2.q:=lq_add
    generalize ms++[y2]=ms2 at *
    replace hH:=hH.as (r':=Rb b13 80 (GR.cells ⟨f,a9,c9,ms2⟩).toArray) 11 rfl (fun _ h=>h) (fun h=>h)
    replace hH:=nn13 hH
    repeat (first|refine WS_region ?_|refine WL_nil ?_|refine WS_inBlock ?_|(refine WL_r (by first|refine Run_pev rfl|refine k_add64 rfl rfl (by omega)) rfl ?_))
    refine IH3 (j+1,u+1,y2.q,ms2,a9,c9) _ _ ?_ ?_ ?_ ?_
    ·simp only;omega
    ·exact ⟨rfl,rfl,rfl,trivial⟩
    ·repeat first|with_reducible apply Agr.refl|refine Agr.upd rfl ?_|refine Agr.updL rfl ?_|refine Agr.mrg rfl ?_
    ·exact ⟨by omega,by omega,hml2,hch2,hlq2,hy2o.q1,hH⟩
   ·obtain rfl:j=N2:=by omega
    clear IH3
    have hgl9:=gok_le hgk
    have hB9:=hH.b 8 rfl
    have hB13:=hH.b 11 rfl
    repeat (first|refine WS_seq ?_|refine WS_region ?_|refine WL_nil ?_|refine WS_exit rfl ?_|refine WS_no rfl (by omega) ?_|(refine WL_r (by first|refine k_fa rfl (Ty.fld rfl rfl)|refine k_loadb rfl hB9 rfl (Ty.shp rfl)|refine k_loadA rfl hB13 rfl (Ty.shp rfl)|refine Run_pev rfl) rfl ?_))
    refine WL_s (H_lit (out:=[.int .i64 f,.slice a3 ms.length c3]) hH (Ty.sle rfl) (Ty.zer rfl) rfl rfl rfl (by decide) rfl ?_)
    try clear hH
    intro _ blit hH
    replace hH:=nn14 hH
    refine WL_s (H_append 10 hH rfl (Ty.sle rfl) (Ty.zer rfl) rfl (Ty.byt rfl) (by decide) rfl rfl ((hH.b 13 rfl).sl0) (by simp;try omega) (by simp) (by omega) (by simp only [maxLen];omega) rfl ?_)
    try clear hH
    intro _ a9 c9 hH
    replace hH:=nn14 hH
    replace hH:=hH.del 13
    replace hH:=nn13 hH
    repeat ((refine WL_r (by refine k_fa rfl (Ty.fld rfl rfl)) rfl ?_))
    clear hB9 hB13
    refine WL_s (H_store 8 (v:=.slice a9 (gs.length+1) c9) hH rfl rfl rfl (Nat.le_of_ble_eq_true rfl) rfl (Ty.shp rfl) ?_)
    try clear hH
    intro _ hH
    replace hH:=nn13 hH
    replace hH:=(Rs.of 12 hH rfl).del 11
    replace hH:=nn12 hH
    obtain ⟨g,hg⟩:∃ g:GR,g=⟨f,a3,c3,ms⟩:=⟨_,rfl⟩
    replace hH:=hH.as (r':=rG g) 11 rfl (fun _ h=>by rw [hg] at h;exact h) (fun h=>by rw [hg];exact h)
    replace hH:=nn12 hH
    replace hH:=RZ.add (r:=rG) (e:=g) 9 11 hH rfl rfl (by decide)
    replace hH:=nn11 hH
    have hgl:gs.length+1=(gs++[g]).length:=by simp
    have hgc:gs.flatMap GR.cells++[.int .i64 f,.slice a3 ms.length c3]=(gs++[g]).flatMap GR.cells:=by simp [hg]
    rw [hgl,hgc] at hH
    have hgk2:gok x q 0 (gs++[g]) (f+ms.length):=by
     have:=gok_add (g:=g) hgk (by rw [hg]) (by rw [hg];exact ⟨by simp only;omega,by simp only;omega⟩) (by rw [hg];exact hch)
     rw [hg] at this ⊢
     exact this
    generalize gs++[g]=gs2 at *
    replace hH:=hH.as (r':=Rb b9 72 (PR.cells ⟨⟨i,x,d,q⟩,a9,c9,gs2⟩).toArray) 8 rfl (fun _ h=>h) (fun h=>h)
    replace hH:=nn11 hH
    repeat (first|refine WS_region ?_|refine WL_nil ?_|refine WS_inBlock ?_|(refine WL_r (by first|refine Run_pev rfl|refine k_add64 rfl rfl (by omega)) rfl ?_))
    rw [hml] at hgk2
    refine IH2 (f+j,u,gs2,a9,c9) _ _ ?_ ?_ ?_ ?_
    ·simp only;omega
    ·exact ⟨rfl,rfl,trivial⟩
    ·repeat first|with_reducible apply Agr.refl|refine Agr.upd rfl ?_|refine Agr.updL rfl ?_|refine Agr.mrg rfl ?_
    ·exact ⟨by omega,by omega,hgk2,hH⟩
  ·obtain rfl:f=C*R:=by omega
   clear IH2
   have hB4:=hH.b 3 rfl
   have hB9:=hH.b 8 rfl
   have hst:(ST.cells ⟨h2,a1,c1,ps⟩).toArray[0+131]?=some (.slice a1 ps.length c1):=by
    show (h2.cells++[_]).toArray[0+131]?=_
    rw [List.getElem?_toArray,List.getElem?_append_right (by omega),h2l]
    rfl
   repeat (first|refine WS_seq ?_|refine WS_region ?_|refine WL_nil ?_|refine WS_exit rfl ?_|refine WS_no rfl (by omega) ?_|(refine WL_r (by first|refine k_fa rfl (Ty.fld rfl rfl)|refine k_loadb rfl hB4 hst (Ty.shp rfl)|refine k_loadA rfl hB9 rfl (Ty.shp rfl)|refine Run_pev rfl) rfl ?_))
   refine WL_s (H_lit (out:=[.int .i64 i,.bool x,.bool d,.int .i64 q,.slice a2 gs.length c2]) hH (Ty.sle rfl) (Ty.zer rfl) rfl rfl rfl (by decide) rfl ?_)
   try clear hH
   intro _ blit hH
   replace hH:=nn12 hH
   refine WL_s (H_append 6 hH rfl (Ty.sle rfl) (Ty.zer rfl) rfl (Ty.byt rfl) (by decide) rfl rfl ((hH.b 11 rfl).sl0) (by simp;try omega) (by simp) (by omega) (by simp only [maxLen];omega) rfl ?_)
   try clear hH
   intro _ a9 c9 hH
   replace hH:=nn12 hH
   replace hH:=hH.del 11
   replace hH:=nn11 hH
   repeat ((refine WL_r (by refine k_fa rfl (Ty.fld rfl rfl)) rfl ?_))
   clear hB9 hB4
   refine WL_s (H_storeL 3 (o:=0+131) (v:=.slice a9 (ps.length+1) c9) hH rfl rfl rfl (by rw [ST.cells_len (s:=⟨h2,a1,c1,ps⟩) h2o];decide) rfl (Ty.shp rfl) ?_)
   clear hH
   intro _ hH
   replace hH:=nn11 hH
   replace hH:=((Rs.of 10 hH rfl).merge 10 9 rfl rfl (by decide)).del 7
   replace hH:=nn9 hH
   obtain ⟨p9,hp9⟩:∃ p9:PR,p9=⟨⟨i,x,d,q⟩,a2,c2,gs⟩:=⟨_,rfl⟩
   replace hH:=hH.as (r':=rP p9) 8 rfl (fun _ h=>by rw [hp9] at h;exact h) (fun h=>by rw [hp9];exact ⟨h.1,h.2.1⟩)
   replace hH:=nn9 hH
   replace hH:=(RZ.add (r:=rP) (e:=p9) 5 8 hH rfl rfl (by decide)).del 7
   replace hH:=nn7 hH
   have hpl1:ps.length+1=(ps++[p9]).length:=by simp
   have hpc:ps.flatMap PR.cells++[.int .i64 i,.bool x,.bool d,.int .i64 q,.slice a2 gs.length c2]=(ps++[p9]).flatMap PR.cells:=by simp [hp9]
   rw [hpl1,hpc,st_set h2o] at hH
   have hpl2:(ps++[p9]).length=i+1:=by simp [hpl]
   have hps2:∀ (j:Nat) (q:PR),(ps++[p9])[j]?=some q→q.ok C R j:=fun j q9 hj=>by
    by_cases hji:j<i
    ·exact hps j q9 (by rw [List.getElem?_append_left (by omega)] at hj;exact hj)
    ·have hj1:j<(ps++[p9]).length:=(List.getElem?_eq_some_iff.1 hj).1
     obtain rfl:j=i:=by omega
     rw [List.getElem?_append_right (by omega),hpl,Nat.sub_self] at hj
     obtain rfl:p9=q9:=Option.some.inj hj
     rw [hp9]
     exact ⟨rfl,(PH.ok_iff _).2 ⟨⟨by simp only;omega,by simp only;omega⟩,hq31,hd⟩,hx0,hgk⟩
   generalize ps++[p9]=ps2 at *
   repeat (first|refine WS_region ?_|refine WL_nil ?_|refine WS_inBlock ?_|(refine WL_r (by first|refine Run_pev rfl|refine k_add64 rfl rfl (by omega)) rfl ?_))
   refine IH (i+1,u,ps2,a9,c9) _ _ ?_ ?_ ?_ ?_
   ·simp only;omega
   ·exact ⟨rfl,rfl,trivial⟩
   ·repeat first|with_reducible apply Agr.refl|refine Agr.upd rfl ?_|refine Agr.updL rfl ?_|refine Agr.mrg rfl ?_
   ·exact ⟨by omega,by omega,hpl2,hps2,hH⟩
 ·obtain rfl:i=n5:=by omega
  clear IH
  have hB4:=hH.b 3 rfl
  have hsl:=ST.cells_len (s:=⟨h2,a1,c1,ps⟩) h2o
  repeat (first|refine WS_seq ?_|refine WS_region ?_|refine WL_nil ?_|refine WS_exit rfl ?_|refine WS_no rfl (by omega) ?_|(refine WL_r (by first|refine k_loadA rfl hB4 (by simpa using hsl) (Ty.shp rfl)|refine Run_pev rfl) rfl ?_))
  refine WL_s (H_storeA 1 (vs:=(ST.cells ⟨h2,a1,c1,ps⟩).toArray) (s:=132) hH rfl rfl rfl (by simpa using hsl) rfl (st_one _) (Ty.shp rfl) ?_)
  clear hH
  intro _ hH
  replace hH:=nn7 hH
  repeat (refine WL_nil ?_)
  exact WS_retc1 Tryz.func6 rfl rfl (hH.b 1 rfl) (by simpa using hsl) (Ty.shp rfl) ⟨⟨h2,a1,c1,ps⟩,C,R,rfl,⟨h2o,h2e,h2c,h2r,⟨by simp only;omega,by simp only;omega⟩,hps⟩,⟨(hH.o 6 rfl).sl,hH.at 5 rfl⟩,hH.ext⟩
end Go.Proofs.YtpbiicegmcpkpaaGreat
