/- A part of the proof that TopWorse is true at every input; no condition. -/
import Derived.Test.YtpbiicegmcpkpaaGreatT30
namespace Go.Proofs.YtpbiicegmcpkpaaGreat
open Go Go.K Go.P Go.RowKit Go.Proofs
abbrev FA:=Bool × BT
abbrev fac (e:FA):List Value:=[.bool e.1,bsl e.2]
def fnil:FA:=(false,none,0,[])
def loA (F:List FA) (t:Nat):Bool:=(F.getD t fnil).1
def toA (F:List FA) (Z:List Int) (t:Nat):Bool:=ftT (F.getD t fnil).1 (F.getD t fnil).2.2.2 (Z.getD t 0)
abbrev MP:=Nat × List Bool
def RM (es:List MP):Res where
 fp:=es.flatMap fun e=>(dmR e.1 e.2).fp
 holds:=fun w=>∀ e∈es,Blk w e.1 4 (e.2.map Value.bool).toArray
 keep:=fun h hE hS e he=>(dmR e.1 e.2).keep (h e he) hE (fun s hs hb=>hS s hs (List.mem_flatMap.2 ⟨e,he,hb⟩))
 lt:=fun h s hs=>by
  obtain ⟨e,he,hse⟩:=List.mem_flatMap.1 hs
  exact (dmR e.1 e.2).lt (h e he) s hse
theorem RM.add {S:List Nat} {W w:World} {H:List Res} {es:List MP} {e:MP} (i j:Nat) (h:Hp S W w H) (hi:H[i]?=some (RM es)) (hj:H[j]?=some (dmR e.1 e.2)) (hij:i<j) :
  Hp S W w (((H.set i (sep (RM es) (dmR e.1 e.2))).eraseIdx j).set i (RM (es++[e]))):=by
 have h1:=h.merge i j hi hj (by omega)
 have hil:=(List.getElem?_eq_some_iff.1 hi).1
 refine h1.as i (r:=sep (RM es) (dmR e.1 e.2)) ?_ (fun x hx=>?_) (fun hh=>?_)
 ·rw [List.getElem?_eraseIdx,if_pos hij,List.getElem?_set_self hil]
 ·obtain ⟨e',he',hxe⟩:=List.mem_flatMap.1 hx
  rcases List.mem_append.1 he' with he'|he'
  ·exact List.mem_append.2 (.inl (List.mem_flatMap.2 ⟨e',he',hxe⟩))
  ·simp at he';subst he'
   exact List.mem_append.2 (.inr hxe)
 ·intro e' he'
  rcases List.mem_append.1 he' with he'|he'
  ·exact hh.1 e' he'
  ·simp at he';subst he'
   exact hh.2.1
noncomputable def setG (C R:Nat) (old:List Bool):Nat→List MB→List Bool→List Bool
 | _,[],m=>m
 | n,x::l,m=>setG C R old (n+1) l (m.set n (dFr C R old n x))
noncomputable def runG (C R:Nat) (T:Nat→Bool) (old:List Bool):Nat→List GR→List Bool→List Bool
 | _,[],m=>m
 | t,g::l,m=>runG C R T old (t+1) l (if T t then m else setG C R old g.f g.ms m)
noncomputable def runP (C R:Nat) (T:Nat→Bool):Nat→List Bool→List PR→List (List Bool)
 | _,_,[]=>[]
 | t,old,p::l=>runG C R T old t p.gs (List.replicate (C*R) true)::runP C R T (t+p.gs.length) (runG C R T old t p.gs (List.replicate (C*R) true)) l
def lastG (L:Nat→Bool) (k:Int):Nat→Nat→Int→Int
 | _,0,r=>r
 | t,n+1,r=>lastG L k (t+1) n (if L t then r else k)
def lastP (L:Nat→Bool):Nat→Nat→List PR→Int→Int
 | _,_,[],r=>r
 | k,t,p::l,r=>lastP L (k+1) (t+p.gs.length) l (lastG L k t p.gs.length r)
noncomputable def clo (C R:Nat) (ps:List PR) (F:List FA) (Z:List Int):List (List Bool) :=
 (runP C R (toA F Z) 0 (List.replicate (C*R) true) ps).take (lastP (loA F) 0 0 ps (-1)+1).toNat
theorem setG_len {C R:Nat} {old:List Bool} {n:Nat} {l:List MB} {m:List Bool}:(setG C R old n l m).length=m.length:=by
 induction l generalizing n m with
 | nil=>rfl
 | cons x l ih=>exact ih.trans (by simp)
theorem runG_len {C R:Nat} {T:Nat→Bool} {old:List Bool} {t:Nat} {l:List GR} {m:List Bool}:(runG C R T old t l m).length=m.length:=by
 induction l generalizing t m with
 | nil=>rfl
 | cons g l ih =>
  refine ih.trans ?_
  cases T t
  ·exact setG_len
  ·rfl
theorem runP_len {C R:Nat} {T:Nat→Bool} {t:Nat} {old:List Bool} {l:List PR}:(runP C R T t old l).length=l.length:=by
 induction l generalizing t old with
 | nil=>rfl
 | cons g l ih=>exact congrArg (·+1) ih
theorem npk_le {ps:List PR} {i:Nat}:npk (ps.take i)≤npk ps:=by
 have h:npk ps=npk (ps.take i)+npk (ps.drop i):=by
  unfold npk
  rw [← List.sum_append,← List.map_append,List.take_append_drop]
 omega
theorem lastG_le {L:Nat→Bool} {k:Nat}:∀ {t n:Nat} {r:Int},-1≤r∧r≤k→-1≤lastG L k t n r∧lastG L k t n r≤k
 | _,0,_,h=>h
 | t,n+1,r,h=>lastG_le (n:=n) (by split<;>omega)
theorem fm_take {α:Type} {f:α→List Value} {sz:Nat}:∀ {l:List α} {n:Nat},(∀ x∈l,(f x).length=sz)→(l.flatMap f).take (n*sz)=(l.take n).flatMap f
 | [],_,_=>by simp
 | a::l,0,_=>by simp
 | a::l,n+1,h=>by
  have ha:=h a (by simp)
  rw [List.flatMap_cons,List.take_succ_cons,List.flatMap_cons,Nat.add_mul,Nat.one_mul,Nat.add_comm,← ha,List.take_length_add_append,ha]
  rw [fm_take (fun x hx=>h x (by simp [hx]))]
theorem WL_wC {P:Program} {N:Nat} {C:Fr→World→Prop} {ops:Array Oper} {l:List Oper} {ρ:Fr} {w:World} (h:∀ u,u=w→WL P N C ops l ρ u):WL P N C ops l ρ w:=h w rfl
theorem joinF {A:Prop} {Y:Fr→FA→World→Prop} (Z:FA→World→Prop) (h1:(∀ σ t u,Z t u→Y σ t u)→A) (h2:∀ σ t u,Z t u→Y σ t u):A:=h1 h2
theorem rs_take {a:Option Addr} {c h C R x:Nat} {es:List MP} (hx:x∈(Rs (if c=0 then a else a.map (·.add (0*3))) ((es.take h).flatMap fun e=>dmc C R e.1)).fp):x∈(Rs a (es.flatMap fun e=>dmc C R e.1)).fp:=by
 unfold Rs at hx ⊢
 simp only at hx ⊢
 split at hx
 ·cases hx
 ·rename_i hne
  have hne2:es.flatMap (fun e=>dmc C R e.1)≠[]:=fun h0=>hne (by
   have:es=[]:=by cases es with|nil=>rfl|cons e l=>simp at h0
   simp [this])
  rw [if_neg hne2]
  split at hx
  ·exact hx
  ·cases a with
   | none=>exact hx
   | some a=>simpa [blk,Addr.add] using hx
set_option maxRecDepth 20000 in
set_option maxHeartbeats 16000000 in
theorem closure_spec {s:ST} {C R nz cz nf cf:Nat} {az af:Option Addr} {Z:List Int} {F:List FA} {w:World} (hs:s.ok C R) (hrd:s.rd w) (hZ:SlA w az (Z.map (Value.int .i64))) (hZl:Z.length=nz) (hZn:npk s.ps=nz)
  (hF:SlA w af (F.flatMap fac)) (hFl:F.length=nf) (hFn:nf≤1000000) (hFm:∀ e∈F,SlA w e.2.1 (e.2.2.2.map B)∧e.2.2.2.length≤e.2.2.1∧e.2.2.2.length≤1000000) :
  Does Tryz.prog 8 #[.agg s.cells.toArray,.slice az nz cz,.slice af nf cf] w fun v w'=>∃ (a:Option Addr) (c:Nat) (es:List MP),v=.slice a es.length c∧es.map (·.2)=clo C R s.ps F Z∧(∀ e∈es,e.2.length=C*R)∧Hp [] w w' [RM es,Rs a (es.flatMap fun e=>dmc C R e.1)]:=by
 refine Does_of (args:=[_,_,_]) Tryz.func8 rfl rfl Tryz.ntmps8 rfl ?_
 have hH:=(Hp.start w)
 obtain ⟨hC,hR,hCR⟩:=c_bounds hs.err hs.c hs.r
 have hlen:=hs.len
 have hcm:(C:Int)*R=((C*R:Nat):Int):=by simp
 have s0:s.cells.toArray[0]?=some (.int .i64 C):=by rw [← hs.c];rfl
 have s1:s.cells.toArray[1]?=some (.int .i64 R):=by rw [← hs.r];rfl
 have s131:s.cells.toArray[131]?=some (.slice s.a s.ps.length s.cap):=by
  show (s.h.cells++[_]).toArray[131]?=_
  rw [List.getElem?_toArray,List.getElem?_append_right (by rw [SH.cells_len hs.ho];decide),SH.cells_len hs.ho]
  rfl
 have hfe:∀ t:Nat,SlA w (F.getD t fnil).2.1 ((F.getD t fnil).2.2.2.map B)∧(F.getD t fnil).2.2.2.length≤(F.getD t fnil).2.2.1∧(F.getD t fnil).2.2.2.length≤1000000:=fun t=>by
  by_cases ht:t<F.length
  ·rw [List.getD_eq_getElem?_getD,List.getElem?_eq_getElem ht]
   exact hFm _ (List.getElem_mem ht)
  ·rw [List.getD_eq_getElem?_getD,List.getElem?_eq_none (by omega)]
   exact ⟨SlA.nil,by simp [fnil],by simp [fnil]⟩
 repeat (first|refine WS_seq ?_|refine WS_region ?_)
 refine WL_s (H_box (cs:=s.cells.toArray) hH rfl rfl rfl ?_)
 try clear hH
 intro _ b3 hH
 replace hH:=nn1 hH
 have hB3:=hH.b 0 rfl
 repeat (first|refine WS_seq ?_|refine WS_region ?_|refine WL_nil ?_|(refine WL_r (by first|refine k_fa rfl (Ty.fld rfl rfl)|refine k_loadb rfl hB3 s0 (Ty.shp rfl)|refine k_loadb rfl hB3 s1 (Ty.shp rfl)|refine Run_pev rfl) rfl ?_))
 clear hB3
 refine WL_s (S_call ((dnew_spec hC.2 hR.2)) rfl rfl ?_)
 rintro _ _ ⟨bo,rfl,hN⟩
 replace hH:=hH.nu hN
 clear hN
 replace hH:=nn2 hH
 refine WL_s (H_alloc hH (Ty.zer rfl) rfl ?_)
 try clear hH
 intro _ b8 hH
 replace hH:=nn3 hH
 refine WL_s (H_storeA 2 (vs:=(dmc C R bo).toArray) (s:=3) hH rfl rfl rfl (by rfl) (by rfl) (by simp [Value.oneCell']) (Ty.shp rfl) ?_)
 try clear hH
 intro _ hH
 replace hH:=nn3 hH
 replace hH:=hH.as (r':=RM [(bo,List.replicate (C*R) true)]) 1 rfl (fun x hx=>by simpa [RM] using hx) (fun hB e he=>by simp at he;subst he;exact hB)
 replace hH:=hH.nu (New.nilO (e:=53) (sz:=3))
 replace hH:=nn4 hH
 have hB3:=hH.b 0 rfl
 repeat (first|refine WS_seq ?_|refine WS_region ?_|refine WL_nil ?_|refine WS_block ?_|(refine WL_r (by first|refine k_fa rfl (Ty.fld rfl rfl)|refine k_loadb rfl hB3 s131 (Ty.shp rfl)|refine Run_pev rfl|refine k_len rfl (Ty.isl rfl)) rfl ?_))
 clear hB3
 obtain ⟨l0,hl0⟩:∃ l0,List.replicate (C*R) true=l0:=⟨_,rfl⟩
 have hl0l:l0.length=C*R:=by rw [← hl0];simp
 rw [hl0] at hH
 refine WS_loop (G:=(Nat) × (Nat) × (Int) × (Nat) × (List Bool) × (Option Addr) × (Nat) × (List MP)) (fun|(i,t,r,b,old,a,c,es)=>s.ps.length-i) 20282409603651670423946178576000 (fun|(i,t,r,b,old,a,c,es)=>[(9,.int .i64 t),(10,.int .i64 r),(7,.slice a es.length c),(30,.int .i64 i)]) (fun|(i,t,r,b,old,a,c,es),w'=>i≤s.ps.length∧t=npk (s.ps.take i)∧t≤64*i∧es.length=i∧(-1≤r∧r<i)∧(b,old)∈(bo,l0)::es∧(∀ e∈(bo,l0)::es,e.2.length=C*R)∧es.map (·.2)++runP C R (toA F Z) t old (s.ps.drop i)=runP C R (toA F Z) 0 l0 s.ps∧lastP (loA F) i t (s.ps.drop i) r=lastP (loA F) 0 0 s.ps (-1)∧Hp [] w w' [Rb b3 37 s.cells.toArray,RM ((bo,l0)::es),Rb b8 53 (dmc C R b).toArray,Ro 53 3 a es.length c (es.flatMap fun e=>dmc C R e.1)]) (0,0,-1,bo,l0,none,0,[]) ⟨rfl,rfl,rfl,rfl,trivial⟩ ⟨by omega,rfl,by omega,rfl,by omega,by simp,by simp [hl0l],rfl,rfl,hH⟩ ?_
 rintro ⟨i,t,r,b,old,a,c,es⟩ w' σ ⟨hi,ht,ht64,hel,hr,hmem,hall,hrun,hlast,hH⟩ IH
 show WS _ _ _ _ _ (updL [(9,.int .i64 t),(10,.int .i64 r),(7,.slice a es.length c),(30,.int .i64 i)] _) _
 by_cases hlt:i<s.ps.length
 ·obtain ⟨p,hpi⟩:∃ p,s.ps[i]?=some p:=⟨_,List.getElem?_eq_getElem (by omega)⟩
  have hpm:=List.mem_of_getElem? hpi
  have hpo:=hs.ps i p hpi
  have hgl0:=gok_le hpo.gs
  have htp:=npk_take hpi
  have htn:npk (s.ps.take (i+1))≤nz:=by
   rw [← hZn]
   exact npk_le
  have hSg:=hrd.1.ext0 hH.ext
  have hat:=fm_at (f:=PR.cells) (sz:=5) (fun _ _=>rfl) hpi
  have hle:=fm_len (f:=PR.cells) (sz:=5) (l:=s.ps) (fun _ _=>rfl)
  rw [drop_at hpi] at hrun hlast
  repeat (first|refine WS_seq ?_|refine WS_region ?_|refine WL_nil ?_|refine WS_block ?_|refine WS_skip ?_|refine WS_yes rfl (by omega) ?_|(refine WL_r (by first|refine k_ix (sz:=5) rfl rfl hSg hle (by decide) (Ty.sle rfl) (by omega)|refine k_loadC (j:=i*5) (cs:=p.cells) rfl hSg hat rfl (Ty.shp rfl)|refine Run_pev rfl) rfl ?_))
  clear hSg
  refine WL_s (H_alloc hH (Ty.zer rfl) rfl ?_)
  try clear hH
  intro _ b12 hH
  replace hH:=nn5 hH
  repeat (refine lp rfl rfl ?_)
  refine WL_s (H_storeA 4 (vs:=p.cells.toArray) (s:=5) hH rfl rfl rfl (by rfl) (by rfl) (by simp [Value.oneCell']) (Ty.shp rfl) ?_)
  try clear hH
  intro _ hH
  replace hH:=nn5 hH
  have hB3:=hH.b 0 rfl
  repeat (first|refine WS_seq ?_|refine WS_region ?_|refine WL_nil ?_|(refine WL_r (by first|refine k_fa rfl (Ty.fld rfl rfl)|refine k_loadb rfl hB3 s0 (Ty.shp rfl)|refine k_loadb rfl hB3 s1 (Ty.shp rfl)) rfl ?_))
  clear hB3
  refine WL_s (S_call ((dnew_spec hC.2 hR.2)) rfl rfl ?_)
  rintro _ _ ⟨bc,rfl,hN⟩
  replace hH:=hH.nu hN
  clear hN
  replace hH:=nn6 hH
  refine WL_s (H_alloc hH (Ty.zer rfl) rfl ?_)
  try clear hH
  intro _ b13 hH
  replace hH:=nn7 hH
  refine WL_s (H_storeA 6 (vs:=(dmc C R bc).toArray) (s:=3) hH rfl rfl rfl (by rfl) (by rfl) (by simp [Value.oneCell']) (Ty.shp rfl) ?_)
  try clear hH
  intro _ hH
  replace hH:=nn7 hH
  have hB12:=hH.b 4 rfl
  repeat (first|refine WS_seq ?_|refine WS_region ?_|refine WL_nil ?_|refine WS_block ?_|(refine WL_r (by first|refine k_fa rfl (Ty.fld rfl rfl)|refine k_loadb rfl hB12 rfl (Ty.shp rfl)|refine Run_pev rfl|refine k_len rfl (Ty.isl rfl)) rfl ?_))
  clear hB12
  rw [hl0] at hH
  obtain ⟨M,hM⟩:∃ M,runG C R (toA F Z) old t p.gs l0=M:=⟨_,rfl⟩
  obtain ⟨r9,hr9⟩:∃ r9,lastG (loA F) i t p.gs.length r=r9:=⟨_,rfl⟩
  have hMl:M.length=C*R:=by rw [← hM,runG_len,hl0l]
  have hr9b:-1≤r9∧r9≤i:=by rw [← hr9];exact lastG_le (by omega)
  replace hrun:es.map (·.2)++M::runP C R (toA F Z) (t+p.gs.length) M (s.ps.drop (i+1))=runP C R (toA F Z) 0 l0 s.ps:=by rw [← hrun,← hM,← hl0];rfl
  replace hlast:lastP (loA F) (i+1) (t+p.gs.length) (s.ps.drop (i+1)) r9=lastP (loA F) 0 0 s.ps (-1):=by rw [← hlast,← hr9];rfl
  refine WS_loop (G:=(Nat) × (Int) × (List Bool) × (Nat)) (fun|(j,r1,m,nx)=>p.gs.length-j) 316912650057057315189804729856 (fun|(j,r1,m,nx)=>[(9,.int .i64 ((t+j:Nat):Int)),(10,.int .i64 r1),(45,.int .i64 j)]) (fun|(j,r1,m,nx),w'=>j≤p.gs.length∧m.length=C*R∧runG C R (toA F Z) old (t+j) (p.gs.drop j) m=M∧lastG (loA F) i (t+j) (p.gs.length-j) r1=r9∧Hp [] w w' [Rb b3 37 s.cells.toArray,RM ((bo,l0)::es),Rb b8 53 (dmc C R b).toArray,Ro 53 3 a es.length c (es.flatMap fun e=>dmc C R e.1),Rb b12 72 p.cells.toArray,dmR bc m,Rb b13 53 (dmc C R bc).toArray]) (0,r,l0,0) ⟨rfl,rfl,rfl,trivial⟩ ⟨by omega,hl0l,hM,hr9,hH⟩ ?_
  rintro ⟨j,r1,m,nx⟩ w' σ ⟨hj,hml,hG,hL,hH⟩ IH2
  show WS _ _ _ _ _ (updL [(9,.int .i64 ((t+j:Nat):Int)),(10,.int .i64 r1),(45,.int .i64 j)] _) _
  by_cases hjl:j<p.gs.length
  ·obtain ⟨g,hgj⟩:∃ g,p.gs[j]?=some g:=⟨_,List.getElem?_eq_getElem (by omega)⟩
   have hgm:=List.mem_of_getElem? hgj
   obtain ⟨hgf,hgn,hgc⟩:=gok_at hpo.gs hgj
   have hok:=chn_ok hgc
   have hSp:SlA w' p.a (p.gs.flatMap GR.cells):=(hrd.2 p hpm).1.ext0 hH.ext
   have hat:=fm_at (f:=GR.cells) (sz:=2) (fun _ _=>rfl) hgj
   have hle:=fm_len (f:=GR.cells) (sz:=2) (l:=p.gs) (fun _ _=>rfl)
   rw [drop_at hgj] at hG
   have hL2:lastG (loA F) i (t+j+1) (p.gs.length-(j+1)) (if loA F (t+j) then r1 else i)=r9:=by
    rw [← hL,show p.gs.length-j=(p.gs.length-(j+1))+1 by omega];rfl
   have hG2:runG C R (toA F Z) old (t+j+1) (p.gs.drop (j+1)) (if toA F Z (t+j) then m else setG C R old g.f g.ms m)=M:=hG
   clear hG hL
   repeat (first|refine WS_seq ?_|refine WS_region ?_|refine WL_nil ?_|refine WS_block ?_|refine WS_skip ?_|refine WS_yes rfl (by omega) ?_|(refine WL_r (by first|refine k_ix (sz:=2) rfl rfl hSp hle (by decide) (Ty.sle rfl) (by omega)|refine k_loadC (j:=j*2) (cs:=g.cells) rfl hSp hat rfl (Ty.shp rfl)|refine Run_pev rfl) rfl ?_))
   clear hSp
   refine WL_s (H_alloc hH (Ty.zer rfl) rfl ?_)
   try clear hH
   intro _ b15 hH
   replace hH:=nn8 hH
   refine WL_s (H_storeA 7 (vs:=g.cells.toArray) (s:=2) hH rfl rfl rfl (by rfl) (by rfl) (by simp [Value.oneCell']) (Ty.shp rfl) ?_)
   try clear hH
   intro _ hH
   replace hH:=nn8 hH
   repeat (first|refine WS_seq ?_|refine WS_region ?_|refine WL_nil ?_|(refine WL_r (by refine k_buildS (cs:=[.bool false,.slice none 0 0]) (Ty.zer rfl) (Ty.plc rfl) rfl) rfl ?_))
   refine WL_s (H_alloc hH (Ty.zer rfl) rfl ?_)
   try clear hH
   intro _ b16 hH
   replace hH:=nn9 hH
   refine WL_s (H_storeA 8 (vs:=#[.bool false,.slice none 0 0]) (s:=2) hH rfl rfl rfl (by rfl) (by rfl) (by decide) (Ty.shp rfl) ?_)
   try clear hH
   intro _ hH
   replace hH:=nn9 hH
   have hfu:=hfe (t+j)
   have htz:t+j<nz:=by omega
   obtain ⟨z,hz⟩:∃ z,Z[t+j]?=some z:=⟨_,List.getElem?_eq_getElem (by omega)⟩
   have hzd:Z.getD (t+j) 0=z:=by rw [List.getD_eq_getElem?_getD,hz];rfl
   have hzv:(Z.map (Value.int .i64))[t+j]?=some (.int .i64 z):=by rw [List.getElem?_map,hz];rfl
   have htoA:toA F Z (t+j)=ftT (F.getD (t+j) fnil).1 (F.getD (t+j) fnil).2.2.2 z:=by unfold toA;rw [hzd]
   have hloA:loA F (t+j)=(F.getD (t+j) fnil).1:=rfl
   rw [htoA] at hG2
   rw [hloA] at hL2
   apply joinF (Z:=fun fe u=>fe=F.getD (t+j) fnil∧Hp [] w u [Rb b3 37 s.cells.toArray,RM ((bo,l0)::es),Rb b8 53 (dmc C R b).toArray,Ro 53 3 a es.length c (es.flatMap fun e=>dmc C R e.1),Rb b12 72 p.cells.toArray,dmR bc m,Rb b13 53 (dmc C R bc).toArray,Rb b15 80 g.cells.toArray,Rb b16 48 (fac fe).toArray])
   ·intro key
    by_cases hjf:t+j<nf
    ·have hge:F[t+j]?=some (F.getD (t+j) fnil):=by
      rw [List.getD_eq_getElem?_getD,List.getElem?_eq_getElem (by omega)];rfl
     have hSf:=hF.ext0 hH.ext
     have hat:=fm_at (f:=fac) (sz:=2) (fun _ _=>rfl) hge
     have hle:(F.flatMap fac).length=nf*2:=by rw [← hFl];exact fm_len (fun _ _=>rfl)
     repeat (first|refine WS_seq ?_|refine WS_region ?_|refine WL_nil ?_|refine WS_yes rfl (by omega) ?_|(refine WL_r (by first|refine k_ix (sz:=2) rfl rfl hSf hle (by decide) (Ty.sle rfl) (by omega)|refine k_loadC (j:=(t+j)*2) (cs:=fac (F.getD (t+j) fnil)) rfl hSf hat rfl (Ty.shp rfl)|refine Run_pev rfl|refine k_len rfl (Ty.isl rfl)) rfl ?_))
     clear hSf
     refine WL_s (H_storeA 8 (vs:=(fac (F.getD (t+j) fnil)).toArray) (s:=2) hH rfl rfl rfl (by rfl) (by rfl) (by simp [Value.oneCell']) (Ty.shp rfl) ?_)
     try clear hH
     intro _ hH
     replace hH:=nn9 hH
     have hSz:=hZ.ext0 hH.ext
     repeat (first|refine WS_seq ?_|refine WS_region ?_|refine WL_nil ?_|refine WS_yes rfl (by omega) ?_|(refine WL_r (by first|refine k_ix1 rfl rfl hSz (by simp [hZl]) (Ty.sle rfl) (by omega)|refine k_loads rfl hSz hzv (Ty.shp rfl)|refine Run_pev rfl|refine k_add64 rfl rfl (by omega)|refine k_len rfl (Ty.isl rfl)) rfl ?_))
     clear hSz
     apply WL_keepM 316912650057057315189804729856 [(9,.int .i64 ((t+j:Nat)+1)),(10,.int .i64 r1),(15,pt b15),(16,pt b16),(17,.int .i64 z),(45,.int .i64 j)]
     ·exact ⟨rfl,rfl,rfl,rfl,rfl,rfl,trivial⟩
     ·repeat (first|((with_reducible apply Agr.upd);· exact rfl)|((with_reducible apply Agr.consL);· exact rfl)|(with_reducible apply Agr.nilL)|((with_reducible apply Agr.mrg (W':=316912650057057315189804729856));(· exact rfl);apply Agr.refl))
     intro σ
     obtain ⟨fe,hfe2,hH9⟩:∃ fe:FA,fe=F.getD (t+j) fnil∧Hp [] w _ [Rb b3 37 s.cells.toArray,RM ((bo,l0)::es),Rb b8 53 (dmc C R b).toArray,Ro 53 3 a es.length c (es.flatMap fun e=>dmc C R e.1),Rb b12 72 p.cells.toArray,dmR bc m,Rb b13 53 (dmc C R bc).toArray,Rb b15 80 g.cells.toArray,Rb b16 48 (fac fe).toArray]:=⟨_,rfl,hH⟩
     exact WL_wC fun u hu=>key σ fe u ⟨hfe2,hu▸hH9⟩
    ·have hge:F.getD (t+j) fnil=fnil:=by
      rw [List.getD_eq_getElem?_getD,List.getElem?_eq_none (by omega)];rfl
     have hSz:=hZ.ext0 hH.ext
     repeat (first|refine WS_seq ?_|refine WS_region ?_|refine WL_nil ?_|refine WS_skip ?_|refine WS_yes rfl (by omega) ?_|refine WS_no rfl (by omega) ?_|(refine WL_r (by first|refine k_ix1 rfl rfl hSz (by simp [hZl]) (Ty.sle rfl) (by omega)|refine k_loads rfl hSz hzv (Ty.shp rfl)|refine Run_pev rfl|refine k_add64 rfl rfl (by omega)|refine k_len rfl (Ty.isl rfl)) rfl ?_))
     clear hSz
     apply WL_keepM 316912650057057315189804729856 [(9,.int .i64 ((t+j:Nat)+1)),(10,.int .i64 r1),(15,pt b15),(16,pt b16),(17,.int .i64 z),(45,.int .i64 j)]
     ·exact ⟨rfl,rfl,rfl,rfl,rfl,rfl,trivial⟩
     ·repeat (first|((with_reducible apply Agr.upd);· exact rfl)|((with_reducible apply Agr.consL);· exact rfl)|(with_reducible apply Agr.nilL)|((with_reducible apply Agr.mrg (W':=316912650057057315189804729856));(· exact rfl);apply Agr.refl))
     intro σ
     obtain ⟨fe,hfe2,hH9⟩:∃ fe:FA,fe=F.getD (t+j) fnil∧Hp [] w _ [Rb b3 37 s.cells.toArray,RM ((bo,l0)::es),Rb b8 53 (dmc C R b).toArray,Ro 53 3 a es.length c (es.flatMap fun e=>dmc C R e.1),Rb b12 72 p.cells.toArray,dmR bc m,Rb b13 53 (dmc C R bc).toArray,Rb b15 80 g.cells.toArray,Rb b16 48 (fac fe).toArray]:=⟨fnil,hge.symm,hH⟩
     exact WL_wC fun u hu=>key σ fe u ⟨hfe2,hu▸hH9⟩
   clear hH
   rintro σ fe w4 ⟨hfe2,hH⟩
   rw [← hfe2] at hfu hG2 hL2
   have hB16:=hH.b 8 rfl
   obtain ⟨r2,hr2⟩:∃ r2,(if fe.1 then r1 else (i:Int))=r2:=⟨_,rfl⟩
   rw [hr2] at hL2
   apply joinW (Z:=fun u=>Hp [] w u [Rb b3 37 s.cells.toArray,RM ((bo,l0)::es),Rb b8 53 (dmc C R b).toArray,Ro 53 3 a es.length c (es.flatMap fun e=>dmc C R e.1),Rb b12 72 p.cells.toArray,dmR bc m,Rb b13 53 (dmc C R bc).toArray,Rb b15 80 g.cells.toArray,Rb b16 48 (fac fe).toArray])
   ·intro key
    by_cases hl:fe.1=true
    ·have e2:r1=r2:=by rw [← hr2,if_pos hl]
     repeat (first|refine WS_seq ?_|refine WS_region ?_|refine WL_nil ?_|refine WS_skip ?_|refine WS_false rfl ?_|(refine WL_r (by first|refine k_fa rfl (Ty.fld rfl rfl)|refine (k_loadb rfl hB16 rfl (Ty.shp rfl)).is (congrArg Value.bool hl)|refine Run_pev rfl) rfl ?_))
     apply WL_keepM 316912650057057315189804729856 [(9,.int .i64 ((t+j:Nat)+1)),(10,.int .i64 r2),(15,pt b15),(16,pt b16),(17,.int .i64 z),(45,.int .i64 j)]
     ·exact ⟨rfl,congrArg (Value.int .i64) e2,rfl,rfl,rfl,rfl,trivial⟩
     ·repeat (first|((with_reducible apply Agr.upd);· exact rfl)|((with_reducible apply Agr.consL);· exact rfl)|(with_reducible apply Agr.nilL)|((with_reducible apply Agr.mrg (W':=316912650057057315189804729856));(· exact rfl);apply Agr.refl))
     intro σ
     exact WL_wC fun u hu=>key σ u (hu▸hH)
    ·have e2:(i:Int)=r2:=by rw [← hr2,if_neg hl]
     replace hl:fe.1=false:=by simpa using hl
     repeat (first|refine WS_seq ?_|refine WS_region ?_|refine WL_nil ?_|refine WS_true rfl ?_|(refine WL_r (by first|refine k_fa rfl (Ty.fld rfl rfl)|refine (k_loadb rfl hB16 rfl (Ty.shp rfl)).is (congrArg Value.bool hl)|refine Run_pev rfl) rfl ?_))
     apply WL_keepM 316912650057057315189804729856 [(9,.int .i64 ((t+j:Nat)+1)),(10,.int .i64 r2),(15,pt b15),(16,pt b16),(17,.int .i64 z),(45,.int .i64 j)]
     ·exact ⟨rfl,congrArg (Value.int .i64) e2,rfl,rfl,rfl,rfl,trivial⟩
     ·repeat (first|((with_reducible apply Agr.upd);· exact rfl)|((with_reducible apply Agr.consL);· exact rfl)|(with_reducible apply Agr.nilL)|((with_reducible apply Agr.mrg (W':=316912650057057315189804729856));(· exact rfl);apply Agr.refl))
     intro σ
     exact WL_wC fun u hu=>key σ u (hu▸hH)
   clear hH hB16
   rintro σ w5 hH
   have hB16:=hH.b 8 rfl
   repeat ((refine WL_r (by first|refine k_loadA rfl hB16 rfl (Ty.shp rfl)|refine Run_pev rfl) rfl ?_))
   clear hB16
   refine WL_s (S_call ((touched_spec (size:=z) (hfu.1.ext0 hH.ext) rfl hfu.2.1 hfu.2.2)) rfl rfl ?_)
   rintro _ _ ⟨rfl,hE0⟩
   replace hH:=hH.ext0 hE0
   clear hE0
   replace hH:=nn9 hH
   cases hto:ftT fe.1 fe.2.2.2 z
   ·rw [hto] at hG2
    replace hG2:runG C R (toA F Z) old (t+j+1) (p.gs.drop (j+1)) (setG C R old g.f g.ms m)=M:=hG2
    have hB15:=hH.b 7 rfl
    repeat (first|refine WS_seq ?_|refine WS_region ?_|refine WL_nil ?_|refine WS_block ?_|refine WS_skip ?_|refine WS_false rfl ?_|(refine WL_r (by first|refine k_fa rfl (Ty.fld rfl rfl)|refine k_loadb rfl hB15 rfl (Ty.shp rfl)|refine Run_pev rfl|refine k_len rfl (Ty.isl rfl)) rfl ?_))
    clear hB15
    obtain ⟨M2,hM2⟩:∃ M2,setG C R old g.f g.ms m=M2:=⟨_,rfl⟩
    have hM2l:M2.length=C*R:=by rw [← hM2,setG_len,hml]
    rw [hM2] at hG2
    refine WS_loop (G:=(Nat) × (List Bool)) (fun|(k,m1)=>g.ms.length-k) 158456022797073771529795010560 (fun|(k,m1)=>[(78,.int .i64 k)]) (fun|(k,m1),w'=>k≤g.ms.length∧m1.length=C*R∧setG C R old (g.f+k) (g.ms.drop k) m1=M2∧Hp [] w w' [Rb b3 37 s.cells.toArray,RM ((bo,l0)::es),Rb b8 53 (dmc C R b).toArray,Ro 53 3 a es.length c (es.flatMap fun e=>dmc C R e.1),Rb b12 72 p.cells.toArray,dmR bc m1,Rb b13 53 (dmc C R bc).toArray,Rb b15 80 g.cells.toArray,Rb b16 48 (fac fe).toArray]) (0,m) ⟨rfl,trivial⟩ ⟨by omega,hml,hM2,hH⟩ ?_
    rintro ⟨k,m1⟩ w' σ ⟨hk,hml1,hS,hH⟩ IH3
    show WS _ _ _ _ _ (updL [(78,.int .i64 k)] _) _
    by_cases hkl:k<g.ms.length
    ·obtain ⟨x,hx⟩:∃ x,g.ms[k]?=some x:=⟨_,List.getElem?_eq_getElem (by omega)⟩
     have hxo:=hok x (List.mem_of_getElem? hx)
     have hSm:SlA w' g.a (mcs g.ms):=((hrd.2 p hpm).2 g hgm).ext0 hH.ext
     have hxl:=mcl_len (k:=x.k) (q:=x.q) (u0:=x.u0) (u1:=x.u1) (u2:=x.u2) (u3:=x.u3) (e:=x.e) hxo.len
     have hma:=mcs_at hok hx
     rw [drop_at hx] at hS
     replace hS:setG C R old (g.f+(k+1)) (g.ms.drop (k+1)) (m1.set (g.f+k) (dFr C R old (g.f+k) x))=M2:=hS
     repeat (first|refine WS_seq ?_|refine WS_region ?_|refine WL_nil ?_|refine WS_block ?_|refine WS_skip ?_|refine WS_yes rfl (by omega) ?_|(refine WL_r (by first|refine k_ix (sz:=391) rfl rfl hSm (by rw [mcs_len hok]) (by decide) (Ty.sle rfl) (by omega)|refine k_loadC (j:=k*391) (cs:=x.cells) rfl hSm hma hxl (Ty.shp rfl)|refine Run_pev rfl) rfl ?_))
     clear hSm
     refine WL_s (H_alloc hH (Ty.zer rfl) rfl ?_)
     try clear hH
     intro _ b19 hH
     replace hH:=nn10 hH
     repeat (refine lp rfl rfl ?_)
     refine WL_s (H_storeA 9 (vs:=x.cells.toArray) (s:=391) hH rfl rfl rfl (by simp [hxl]) rfl (mcl_one hxo) (Ty.shp rfl) ?_)
     clear hH
     intro _ hH
     replace hH:=nn10 hH
     repeat (refine WL_nil ?_)
     have hfk:(g.f:Int)+k=((g.f+k:Nat):Int):=by simp
     have hB8:=hH.b 2 rfl
     have hB13:=hH.b 6 rfl
     have hB15:=hH.b 7 rfl
     have hB19:=hH.b 9 rfl
     refine WS_tailE Ty.mixed 12 rfl (by kernel_rfl) rfl (fun w1 hx1=>?_)
     refine wt 0 hx1 rfl rfl rfl (fun w' hw'=>by refine k_loadA rfl (hB13.ext0 hw') rfl (Ty.shp rfl)) ?_
     refine wt 1 hx1 rfl rfl rfl (fun w' hw'=>by refine k_fa rfl (Ty.fld rfl rfl)) ?_
     refine wt 2 hx1 rfl rfl rfl (fun w' hw'=>by refine k_loadb rfl (hB15.ext0 hw') rfl (Ty.shp rfl)) ?_
     refine wp 3 hx1 rfl rfl rfl rfl ?_
     refine wt 4 hx1 rfl rfl rfl (fun w' hw'=>by refine (k_add64 rfl rfl (by omega)).is (congrArg (Value.int .i64) hfk)) ?_
     refine wt 5 hx1 rfl rfl rfl (fun w' hw'=>by refine k_loadA rfl (hB8.ext0 hw') rfl (Ty.shp rfl)) ?_
     refine wt 6 hx1 rfl rfl rfl (fun w' hw'=>by refine k_fa rfl (Ty.fld rfl rfl)) ?_
     refine wt 7 hx1 rfl rfl rfl (fun w' hw'=>by refine k_loadb rfl (hB15.ext0 hw') rfl (Ty.shp rfl)) ?_
     refine wp 8 hx1 rfl rfl rfl rfl ?_
     refine wt 9 hx1 rfl rfl rfl (fun w' hw'=>by refine (k_add64 rfl rfl (by omega)).is (congrArg (Value.int .i64) hfk)) ?_
     refine wt 10 hx1 rfl rfl rfl (fun w' hw'=>by refine k_loadA rfl (hB19.ext0 hw') (by simp [hxl]) (Ty.shp rfl)) ?_
     refine WA_one 11 (by kernel_rfl) rfl rfl (S_call (dfrom_spec hC hR (by omega) hxo (hall _ hmem) ((hH.at 1 rfl _ hmem).ext0 hx1)) rfl rfl ?_)
     rintro _ w2 ⟨rfl,hE0⟩
     have hx2:=hx1.then0 hE0
     refine ⟨hx2,?_⟩
     refine WA_done (by kernel_rfl) ?_
     replace hH:=hH.ext0 hx2
     clear hx1 hE0 hx2 hB8 hB13 hB15 hB19
     refine WL_s (S_call ((dset_spec (i:=g.f+k) (v:=dFr C R old (g.f+k) x) hml1 (by omega) (hH.b 5 rfl))) rfl rfl ?_)
     rintro _ _ ⟨rfl,hU⟩
     replace hH:=(hH.up 5 rfl hU).del 9
     clear hU
     replace hH:=nn9 hH
     repeat (first|refine WS_region ?_|refine WL_nil ?_|refine WS_inBlock ?_|(refine WL_r (by first|refine Run_pev rfl|refine k_add64 rfl rfl (by omega)) rfl ?_))
     refine IH3 (k+1,m1.set (g.f+k) (dFr C R old (g.f+k) x)) _ _ ?_ ?_ ?_ ?_
     ·simp only;omega
     ·exact ⟨rfl,trivial⟩
     ·repeat first|with_reducible apply Agr.refl|refine Agr.upd rfl ?_|refine Agr.updL rfl ?_|refine Agr.mrg rfl ?_
     ·exact ⟨by omega,by simp [hml1],hS,hH⟩
    ·obtain rfl:k=g.ms.length:=by omega
     clear IH3
     rw [List.drop_length] at hS
     obtain rfl:m1=M2:=hS
     repeat (first|refine WS_seq ?_|refine WS_region ?_|refine WL_nil ?_|refine WS_inBlock ?_|refine WS_exit rfl ?_|refine WS_no rfl (by omega) ?_|(refine WL_r (by first|refine Run_pev rfl|refine k_add64 rfl rfl (by omega)) rfl ?_))
     replace hH:=(hH.del 8).del 7
     replace hH:=nn7 hH
     refine IH2 (j+1,r2,m1,0) _ _ ?_ ?_ ?_ ?_
     ·simp only;omega
     ·exact ⟨rfl,rfl,rfl,trivial⟩
     ·repeat first|with_reducible apply Agr.refl|refine Agr.upd rfl ?_|refine Agr.updL rfl ?_|refine Agr.mrg rfl ?_
     ·exact ⟨by omega,hml1,hG2,hL2,hH⟩
   ·rw [hto] at hG2
    replace hG2:runG C R (toA F Z) old (t+j+1) (p.gs.drop (j+1)) m=M:=hG2
    repeat (first|refine WS_region ?_|refine WL_nil ?_|refine WS_exit rfl ?_|refine WS_true rfl ?_|(refine WL_r (by first|refine Run_pev rfl|refine k_add64 rfl rfl (by omega)) rfl ?_))
    replace hH:=(hH.del 8).del 7
    replace hH:=nn7 hH
    refine IH2 (j+1,r2,m,0) _ _ ?_ ?_ ?_ ?_
    ·simp only;omega
    ·exact ⟨rfl,rfl,rfl,trivial⟩
    ·repeat first|with_reducible apply Agr.refl|refine Agr.upd rfl ?_|refine Agr.updL rfl ?_|refine Agr.mrg rfl ?_
    ·exact ⟨by omega,hml,hG2,hL2,hH⟩
  ·obtain rfl:j=p.gs.length:=by omega
   clear IH2
   rw [List.drop_length] at hG
   rw [Nat.sub_self] at hL
   obtain rfl:m=M:=hG
   obtain rfl:r1=r9:=hL
   have hB13:=hH.b 6 rfl
   repeat (first|refine WS_seq ?_|refine WS_region ?_|refine WL_nil ?_|refine WS_exit rfl ?_|refine WS_no rfl (by omega) ?_|(refine WL_r (by first|refine k_loadA rfl hB13 rfl (Ty.shp rfl)|refine Run_pev rfl) rfl ?_))
   refine WL_s (H_lit (out:=[.int .i64 C,.int .i64 R,.slice (some ⟨bc,0,none⟩) (C*R) (C*R)]) hH (Ty.sle rfl) (Ty.zer rfl) rfl rfl rfl (by decide) rfl ?_)
   try clear hH
   intro _ blit hH
   replace hH:=nn8 hH
   refine WL_s (H_append 3 hH rfl (Ty.sle rfl) (Ty.zer rfl) rfl (Ty.byt rfl) (by decide) rfl rfl ((hH.b 7 rfl).sl0) (by simp;try omega) (by simp) (by omega) (by simp only [maxLen];omega) rfl ?_)
   try clear hH
   intro _ a9 c9 hH
   replace hH:=nn8 hH
   replace hH:=hH.del 7
   replace hH:=nn7 hH
   repeat (first|refine WS_region ?_|refine WL_nil ?_|refine lp rfl rfl ?_)
   have hB13:=hH.b 6 rfl
   repeat ((refine WL_r (by refine k_loadA rfl hB13 rfl (Ty.shp rfl)) rfl ?_))
   clear hB13
   refine WL_s (H_storeA 2 (vs:=(dmc C R bc).toArray) (s:=3) hH rfl rfl rfl (by rfl) (by rfl) (by simp [Value.oneCell']) (Ty.shp rfl) ?_)
   try clear hH
   intro _ hH
   replace hH:=nn7 hH
   replace hH:=RM.add (e:=(bc,m)) 1 5 hH rfl rfl (by decide)
   replace hH:=nn6 hH
   replace hH:=((hH.del 5).del 4)
   replace hH:=nn4 hH
   have hes:es.length+1=(es++[(bc,m)]).length:=by simp
   have hec:(es.flatMap fun e=>dmc C R e.1)++[.int .i64 C,.int .i64 R,.slice (some ⟨bc,0,none⟩) (C*R) (C*R)]=(es++[(bc,m)]).flatMap fun e=>dmc C R e.1:=by simp
   have hem:es.map (·.2)++m::runP C R (toA F Z) (t+p.gs.length) m (s.ps.drop (i+1))=(es++[(bc,m)]).map (·.2)++runP C R (toA F Z) (t+p.gs.length) m (s.ps.drop (i+1)):=by simp
   have hin:(bc,m)∈(bo,l0)::(es++[(bc,m)]):=by simp
   have hall2:∀ e∈(bo,l0)::(es++[(bc,m)]),e.2.length=C*R:=fun e he=>by
    rw [← List.cons_append] at he
    rcases List.mem_append.1 he with h1|h1
    ·exact hall e h1
    ·simp at h1;subst h1;exact hml
   rw [hes,hec] at hH
   rw [hem] at hrun
   change Hp [] w _ [Rb b3 37 s.cells.toArray,RM ((bo,l0)::(es++[(bc,m)])),Rb b8 53 (dmc C R bc).toArray,Ro 53 3 a9 (es++[(bc,m)]).length c9 ((es++[(bc,m)]).flatMap fun e=>dmc C R e.1)] at hH
   rw [hes]
   have hel2:(es++[(bc,m)]).length=i+1:=by simp [hel]
   generalize es++[(bc,m)]=es2 at *
   repeat (first|refine WS_region ?_|refine WL_nil ?_|refine WS_inBlock ?_|(refine WL_r (by first|refine Run_pev rfl|refine k_add64 rfl rfl (by omega)) rfl ?_))
   refine IH (i+1,t+p.gs.length,r1,bc,m,a9,c9,es2) _ _ ?_ ?_ ?_ ?_
   ·simp only;omega
   ·exact ⟨rfl,rfl,rfl,rfl,trivial⟩
   ·repeat first|with_reducible apply Agr.refl|refine Agr.upd rfl ?_|refine Agr.updL rfl ?_|refine Agr.mrg rfl ?_
   ·exact ⟨by omega,by omega,by omega,hel2,by omega,hin,hall2,hrun,hlast,hH⟩
 ·obtain rfl:i=s.ps.length:=by omega
  clear IH
  rw [List.drop_length] at hrun hlast
  obtain ⟨h,hh⟩:∃ h:Nat,r+1=(h:Int):=⟨(r+1).toNat,by omega⟩
  have hhl:h≤es.length:=by omega
  repeat (first|refine WS_seq ?_|refine WS_region ?_|refine WL_nil ?_|refine WS_exit rfl ?_|refine WS_no rfl (by omega) ?_|(refine WL_r (by first|refine (k_add64 rfl rfl (by omega)).is (congrArg (Value.int .i64) hh)|refine k_slchN rfl rfl (Ty.sle rfl) (by have:=(hH.o 3 rfl).2.1;omega)|refine Run_pev rfl) rfl ?_))
  have hcap:=(hH.o 3 rfl).2.1
  have hlt:(es.take h).length=h:=by simp;omega
  have hH2:=(((Rs.of 3 hH rfl).del 2).del 0).as (r':=RM (es.take h)) 0 rfl (fun x hx=>by
   obtain ⟨e,he,hxe⟩:=List.mem_flatMap.1 hx
   exact List.mem_flatMap.2 ⟨e,List.mem_cons_of_mem _ (List.mem_of_mem_take he),hxe⟩) (fun hh e he=>hh e (List.mem_cons_of_mem _ (List.mem_of_mem_take he)))
  have hH3:=hH2.as (r':=Rs (if c=0 then a else a.map (·.add (0*3))) ((es.take h).flatMap fun e=>dmc C R e.1)) 1 rfl (fun x hx=>rs_take hx) (fun hS=>by
   have hSc:=sl_sliced (l:=0) (h:=h) (sz:=3) hS (Nat.zero_le _) hhl hcap
   rw [Nat.zero_mul,List.drop_zero,Nat.sub_zero,fm_take (f:=fun e:MP=>dmc C R e.1) (sz:=3) (fun _ _=>rfl)] at hSc
   rw [Nat.zero_mul]
   exact hSc)
  refine WS_ret1 Tryz.func8 rfl ⟨_,c,es.take h,by rw [hlt];rfl,?_,fun e he=>hall e (List.mem_cons_of_mem _ (List.mem_of_mem_take he)),hH3⟩
  have hrun2:es.map (·.2)=runP C R (toA F Z) 0 l0 s.ps:=by rw [← hrun];exact (List.append_nil _).symm
  have hr3:r=lastP (loA F) 0 0 s.ps (-1):=hlast
  unfold clo
  rw [List.map_take,hrun2,← hr3,hh,hl0,Int.toNat_natCast]
end Go.Proofs.YtpbiicegmcpkpaaGreat
