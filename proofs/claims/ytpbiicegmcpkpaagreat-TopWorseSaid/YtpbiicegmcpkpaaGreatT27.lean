/- A part of the proof that TopWorse is true at every input; no condition. -/
import Derived.Test.YtpbiicegmcpkpaaGreatT26
namespace Go.Proofs.YtpbiicegmcpkpaaGreat
open Go Go.K Go.P Go.RowKit Go.Proofs
abbrev EV:=Option Addr × Nat × List (Nat × Int)
abbrev esl (e:EV):Value:=.slice e.1 e.2.2.length e.2.1
abbrev eok (e:EV):Prop:=e.2.2.length≤64∧∀ p∈e.2.2,okE p
def RE (es:List EV):Res where
 fp:=es.flatMap fun e=>(Rs e.1 (evC e.2.2)).fp
 holds:=fun w=>∀ e∈es,(Rs e.1 (evC e.2.2)).holds w
 keep:=fun h hE hS e he=>(Rs e.1 (evC e.2.2)).keep (h e he) hE (fun s hs hb=>hS s hs (List.mem_flatMap.2 ⟨e,he,hb⟩))
 lt:=fun h s hs=>by
  obtain ⟨e,he,hse⟩:=List.mem_flatMap.1 hs
  exact (Rs e.1 (evC e.2.2)).lt (h e he) s hse
theorem RE.nil {w:World}:New (RE []) w w:=by
 refine ⟨.refl,?_,?_⟩
 ·intro e he;exact absurd he (by simp)
 ·intro x hx;exact absurd hx (by simp [RE])
theorem RE.add {S:List Nat} {W w:World} {H:List Res} {es:List EV} {e:EV} (i j:Nat) (h:Hp S W w H) (hi:H[i]?=some (RE es)) (hj:H[j]?=some (Rs e.1 (evC e.2.2))) (hij:i<j) :
  Hp S W w (((H.set i (sep (RE es) (Rs e.1 (evC e.2.2)))).eraseIdx j).set i (RE (es++[e]))):=by
 have h1:=h.merge i j hi hj (by omega)
 have hil:=(List.getElem?_eq_some_iff.1 hi).1
 refine h1.as i (r:=sep (RE es) (Rs e.1 (evC e.2.2))) ?_ (fun x hx=>?_) (fun hh=>?_)
 ·rw [List.getElem?_eraseIdx,if_pos hij,List.getElem?_set_self hil]
 ·obtain ⟨e',he',hxe⟩:=List.mem_flatMap.1 hx
  rcases List.mem_append.1 he' with he'|he'
  ·exact List.mem_append.2 (.inl (List.mem_flatMap.2 ⟨e',he',hxe⟩))
  ·simp at he';subst he'
   exact List.mem_append.2 (.inr hxe)
 ·intro e' he'
  rcases List.mem_append.1 he' with he'|he'
  ·exact hh.1 e' he'
  ·simp at he';subst he'
   exact hh.2.1
abbrev sm64 (B:Int) (u:List Int):Prop:=u.length=64∧∀ n∈u,-B≤n∧n≤B
theorem sm_set {B:Int} {u:List Int} (h:sm64 B u) (hB:0≤B):sm64 B (u.set 0 0):=⟨by rw [List.length_set];exact h.1,fun n hn=>by
 rcases List.mem_or_eq_of_mem_set hn with h1|h1
 ·exact h.2 n h1
 ·omega⟩
theorem ev_good {u:List Int} {f:Nat} (h:sm64 2047 u):(pairs 0 (u.drop f)).length≤64∧∀ p∈pairs 0 (u.drop f),okE p:=by
 have hl:(u.drop f).length≤64:=by rw [List.length_drop,h.1];omega
 refine ⟨by have:=pairs_len 0 (u.drop f);omega,fun p hp=>?_⟩
 obtain ⟨_,h2,h3⟩:=pairs_mem 0 (u.drop f) p hp
 have h1:=pairs_lt 0 (u.drop f) p hp
 exact ⟨by omega,h3,h.2 _ (List.mem_of_mem_drop h2)⟩
section
variable {d:SD} {qp:Int} {v x:Nat} {t s:WT} {k:KD} {w:World} {kd:Nat} {q:Int} {u0 u1 u2 u3:Value} {e:Bool} {L:List Int}
abbrev P1 (d:SD) (qp:Int) (v:Nat) (t:WT) (x:Nat) (s:WT) (k:KD) (b9 b11:Nat) (m:List Value) (es:List EV):List Res :=
 [RS d qp,RX v t,RX x s,RK k,Rb b9 97 m.toArray,Rb b11 259 (es.map esl++List.replicate (6-es.length) (Value.slice none 0 0)).toArray,RE es]
theorem ev_set {es:List EV} {e:EV} (h:es.length<6):(es.map esl++List.replicate (6-es.length) (Value.slice none 0 0)).set es.length (esl e)=(es++[e]).map esl++List.replicate (6-(es++[e]).length) (Value.slice none 0 0):=by
 rw [show 6-es.length=(6-(es++[e]).length)+1 by simp;omega,List.replicate_succ,List.set_append_right _ _ (by simp)]
 simp
theorem ev_len {es:List EV} (h:es.length≤6):(es.map esl++List.replicate (6-es.length) (Value.slice none 0 0)).length=6:=by simp;omega
theorem esl_at {es:List EV} {i:Nat} {e:EV} (h:es[i]?=some e):(es.map esl++List.replicate (6-es.length) (Value.slice none 0 0))[i]?=some (esl e):=by
 have hi:=(List.getElem?_eq_some_iff.1 h).1
 rw [List.getElem?_append_left (by simpa using hi),List.getElem?_map,h];rfl
theorem kn_fill {R:List Int} {q:Int} (h:R.length=64):fillL (fun i=>[(0,64),(64,1)][i]?) ((List.replicate 65 (0:Int)).map (Value.int .i64)) [(0,.agg (R.map (Value.int .i64)).toArray),(1,.int .i64 q)]=some ((R++[q]).map (Value.int .i64)):=by
 have e:∀ l:List Value,l.length=64→List.drop 65 (l++[Value.int .i64 0])=[]:=fun l hl=>List.drop_of_length_le (by simp [hl])
 simp [fillL,splice,Value.cells,h]
 rw [e _ (by simp [h])]
 rfl
theorem zsub {R u:List Int} (hR:R.length=64) (hb:∀ n∈R,-1000≤n∧n≤1000) (hu:sm64 1000 u):(∀ (i:Nat) (a d:Int),R[i]?=some a→u[i]?=some d→-2047≤a-d∧a-d≤2047)∧sm64 2047 (List.zipWith (· - ·) R u):=by
 have h1:∀ (i:Nat) (a d:Int),R[i]?=some a→u[i]?=some d→-2047≤a-d∧a-d≤2047:=fun i a d ha hd=>by
  have h2:=hb a (List.mem_of_getElem? ha)
  have h3:=hu.2 d (List.mem_of_getElem? hd)
  omega
 refine ⟨h1,by simp [hR,hu.1],fun n hn=>?_⟩
 obtain ⟨i,hi⟩:=List.mem_iff_getElem?.1 hn
 rw [List.getElem?_zipWith] at hi
 split at hi
 ·rename_i a d ha hd
  cases hi
  exact h1 i a d ha hd
 ·cases hi
theorem joinB {A:Prop} {Y:Fr→WT→List Int→World→Prop} (Z:WT→List Int→World→Prop) (h1:(∀ σ t z u,Z t z u→Y σ t z u)→A) (h2:∀ σ t z u,Z t z u→Y σ t z u):A:=h1 h2
theorem joinD {A:Prop} {Y:Fr→List Int→Nat→World→Prop} (Z:List Int→Nat→World→Prop) (h1:(∀ σ z b u,Z z b u→Y σ z b u)→A) (h2:∀ σ z b u,Z z b u→Y σ z b u):A:=h1 h2
set_option maxRecDepth 20000 in
set_option maxHeartbeats 16000000 in
theorem blocks_spec {mb:Nat} (hk:k.ok) (hbc:k.bc=d.bc) (h:MV kd q u0 u1 u2 u3 e L) (hc:d.c≤8) (hr:d.r≤8) (hmb:mb<d.c*d.r) (ht:t.2.2.length≤900000) (hs:s.2.2.length≤900000) (hP:Sep (PA d qp v t x s k) w) :
  Does Tryz.prog 101 #[pt d.s,pt v,pt x,.int .i64 mb,.agg (mcl kd q u0 u1 u2 u3 e L).toArray] w fun r w'=>r=.int .i64 0∧∃ t' s',t'.2.2.length≤t.2.2.length+400∧s'.2.2.length≤s.2.2.length+19200∧Hp (fps (PA d qp v t x s k)) w w' (PA d qp v t' x s' k):=by
 refine Does_of (args:=[_,_,_,_,_]) Tryz.func101 rfl rfl Tryz.ntmps101 rfl ?_
 have hH:=Hp.startL hP
 have hk5:=h.k5
 have hml:=mcl_len (k:=kd) (q:=q) (u0:=u0) (u1:=u1) (u2:=u2) (u3:=u3) (e:=e) h.len
 obtain ⟨m,hm⟩:∃ m,mcl kd q u0 u1 u2 u3 e L=m:=⟨_,rfl⟩
 have m1:m.toArray[1]?=some (.int .i64 q):=by rw [← hm];rfl
 have m6:m.toArray[6]?=some (.bool e):=by rw [← hm];rfl
 have m7:(m.drop (0+7)).take 384=L.map (Value.int .i64):=by rw [← hm,Nat.zero_add,mcl_drop,List.take_of_length_le (by rw [List.length_map,h.len];decide)]
 have mal:=fun w=>malone_spec (w:=w) (k:=kd) (q:=q) (u0:=u0) (u1:=u1) (u2:=u2) (u3:=u3) (e:=e) (L:=L)
 have mst:=fun w=>pstart_spec (w:=w) (k:=kd) (q:=q) (u0:=u0) (u1:=u1) (u2:=u2) (u3:=u3) (e:=e) h.len
 simp only [hm] at mal mst hml ⊢
 repeat (first|refine WS_seq ?_|refine WS_region ?_)
 refine WL_s (H_box (cs:=m.toArray) hH rfl rfl rfl ?_)
 try clear hH
 intro _ b9 hH
 replace hH:=nn5 hH
 repeat (first|refine WS_seq ?_|refine WS_region ?_|refine WL_nil ?_|refine lp rfl rfl ?_)
 refine WL_s (H_alloc hH (Ty.zer rfl) rfl ?_)
 try clear hH
 intro _ b11 hH
 replace hH:=nn6 hH
 have hS:SlA _ (some ⟨b9,0,none⟩) m:=(hH.b 4 rfl).sl0
 repeat (first|refine WS_seq ?_|refine WS_region ?_|refine WL_nil ?_|refine WS_block ?_|(refine WL_r (by first|refine k_fa rfl (Ty.fld rfl rfl)|refine k_loadC (j:=0+7) (cs:=L.map (Value.int .i64)) rfl hS m7 (by rw [List.length_map,h.len]) (Ty.shp rfl)|refine Run_pev rfl) rfl ?_))
 clear hS
 replace hH:=hH.nu RE.nil
 replace hH:=nn7 hH
 refine WS_loop (G:=(Nat) × (Nat) × (Nat) × (WT) × (List EV)) (fun|(b,p,g,t1,es)=>6-b) 2596148429267413814265248099595264 (fun|(b,p,g,t1,es)=>[(12,.int .i64 p),(13,.int .u64 g),(26,.int .i64 b)]) (fun|(b,p,g,t1,es),w'=>b≤6∧p<16∧g<4∧t1.2.2.length≤t.2.2.length+40*b∧es.length=b∧(∀ e∈es,eok e)∧Hp (fps (PA d qp v t x s k)) w w' (P1 d qp v t1 x s k b9 b11 m es)) (0,0,0,t,[]) ⟨rfl,rfl,rfl,trivial⟩ ⟨by omega,by decide,by decide,by omega,rfl,fun _ h=>(by cases h),hH⟩ ?_
 rintro ⟨b,p,g,t1,es⟩ w' σ ⟨hb,hp,hg,ht1,hel,heo,hH⟩ IH
 show WS _ _ _ _ _ (updL [(12,.int .i64 p),(13,.int .u64 g),(26,.int .i64 b)] _) _
 by_cases hlt:b<6
 ·have hR1:=row_len (b:=b) h.len hlt
  have hrx:=row_ex (L:=L) (b:=b)
  have hrb:∀ (i:Nat) (n:Int),(row L b)[i]?=some n→i<64→(-1000≤n∧n≤1000)∧(3≤kd→i=0→0≤n∧n≤127):=fun i n hn hi=>by
   rw [row_at hi] at hn
   obtain ⟨a1,_,a3⟩:=h.lv _ n hn
   exact ⟨a1,fun h3 h0=>a3 h3 (by omega)⟩
  obtain ⟨R,hR⟩:∃ R,row L b=R:=⟨_,rfl⟩
  rw [hR] at hR1 hrx hrb
  have hRm:∀ n∈R,-1000≤n∧n≤1000:=fun n hn=>by
   obtain ⟨i,hi⟩:=List.mem_iff_getElem?.1 hn
   exact (hrb i n hi (by have:=(List.getElem?_eq_some_iff.1 hi).1;omega)).1
  obtain ⟨r0,hr0'⟩:∃ r0,R[0]?=some r0:=⟨_,List.getElem?_eq_getElem (by omega)⟩
  have hr0:(R.map (Value.int .i64))[0]?=some (.int .i64 r0):=by rw [List.getElem?_map,hr0'];rfl
  have hr03:=(hrb 0 r0 hr0' (by decide)).2
  have hkg:kgL 1000 (R++[q]):=⟨by simp [hR1],fun i n _ hi hn=>by
   rw [List.getElem?_append_left (by omega)] at hn
   exact (hrb i n hn hi).1⟩
  clear hR hrb
  repeat (first|refine WS_seq ?_|refine WS_region ?_|refine WL_nil ?_|refine WS_block ?_|refine WS_skip ?_|refine WS_yes rfl (by omega) ?_|(refine WL_r (by first|refine (k_indexN rfl rfl (Ty.arr rfl) (by omega)).is (congrArg Value.agg hrx)|refine Run_pev rfl) rfl ?_))
  refine WL_s (H_alloc hH (Ty.zer rfl) rfl ?_)
  try clear hH
  intro _ b15 hH
  replace hH:=nn8 hH
  repeat (refine lp rfl rfl ?_)
  have hl1:=hR1
  refine WL_s (H_storeA 7 (vs:=(R.map (Value.int .i64)).toArray) (s:=64) hH rfl rfl rfl (by simp [hl1]) (by rfl) (by exact ints_one) (Ty.shp rfl) ?_)
  try clear hH
  intro _ hH
  replace hH:=nn8 hH
  have hB:=(hH.at 0 rfl).1
  have hBm:=hH.b 4 rfl
  repeat (first|refine WS_seq ?_|refine WL_nil ?_)
  refine WS_drawE Ty.mixed 14 rfl (fun w1 hx1=>?_)
  refine wp 0 hx1 rfl rfl rfl rfl ?_
  refine wt 1 hx1 rfl rfl rfl (fun w' hw'=>by refine k_nilCheck rfl) ?_
  refine wt 2 hx1 rfl rfl rfl (fun w' hw'=>by refine k_fa rfl (Ty.fld rfl rfl)) ?_
  refine wt 3 hx1 rfl rfl rfl (fun w' hw'=>by refine k_loadb rfl (hB.ext0 hw') rfl (Ty.shp rfl)) ?_
  refine wp 4 hx1 rfl rfl rfl rfl ?_
  refine wp 5 hx1 rfl rfl rfl rfl ?_
  refine wt 6 hx1 rfl rfl rfl (fun w' hw'=>by refine k_fa rfl (Ty.fld rfl rfl)) ?_
  refine wt 7 hx1 rfl rfl rfl (fun w' hw'=>by refine k_loadb rfl (hBm.ext0 hw') m1 (Ty.shp rfl)) ?_
  refine WA_one 8 (by kernel_rfl) rfl rfl (S_call (pexp_spec (q:=q) (by decide) hc hr hmb hlt (d.T.keep (hH.at 0 rfl).2.2.1 hx1 (by simp))) rfl rfl ?_)
  rintro _ w2 ⟨f,n,hf,hn,rfl,hE0⟩
  have hx2:=hx1.then0 hE0
  refine ⟨hx2,?_⟩
  refine wp 9 hx2 rfl rfl rfl rfl ?_
  refine wt 10 hx2 rfl rfl rfl (fun w' hw'=>by refine k_extract rfl rfl) ?_
  refine wt 11 hx2 rfl rfl rfl (fun w' hw'=>by refine k_extract rfl rfl) ?_
  refine wp 12 hx2 rfl rfl rfl rfl ?_
  refine wp 13 hx2 rfl rfl rfl rfl ?_
  refine WA_done (by kernel_rfl) ?_
  replace hH:=hH.ext0 hx2
  clear hx2 hx1 hE0 hB hBm
  replace hH:=nn8 hH
  have hB15:=hH.b 7 rfl
  repeat (first|refine WS_seq ?_|refine WS_region ?_|(refine WL_r (by refine k_loadA rfl hB15 (by simp [hR1]) (Ty.shp rfl)) rfl ?_))
  clear hB15
  refine WL_s (H_alloc hH (Ty.zer rfl) rfl ?_)
  try clear hH
  intro _ b18 hH
  replace hH:=nn9 hH
  refine WL_s (H_storeA 8 (vs:=(R.map (Value.int .i64)).toArray) (s:=64) hH rfl rfl rfl (by simp [hl1]) (by rfl) (by exact ints_one) (Ty.shp rfl) ?_)
  try clear hH
  intro _ hH
  replace hH:=nn9 hH
  have hBm:=hH.b 4 rfl
  repeat (first|refine WS_seq ?_|refine WS_region ?_|refine WL_nil ?_|(refine WL_r (by refine k_loadA rfl hBm (by simp [hml]) (Ty.shp rfl)) rfl ?_))
  refine WL_s (S_call ((mal _)) rfl rfl ?_)
  rintro _ w3 ⟨rfl,hE0⟩
  replace hH:=hH.ext0 hE0
  clear hE0 hBm
  replace hH:=nn9 hH
  apply joinB (Z:=fun t2 z u=>t2.2.2.length≤t1.2.2.length+40∧sm64 2047 z∧Hp (fps (PA d qp v t x s k)) w u (P1 d qp v t2 x s k b9 b11 m es++[Rb b15 94 (R.map (Value.int .i64)).toArray,Rb b18 94 (z.map (Value.int .i64)).toArray]))
  ·intro key
   have hR2047:sm64 2047 R:=⟨hR1,fun n hn=>by have:=hRm n hn;omega⟩
   by_cases hal:kd=3∨kd=4
   ·have hr04:=hr03 (by omega) rfl
    have hBm:=hH.b 4 rfl
    by_cases he:e=false
    ·repeat (first|refine WS_seq ?_|refine WS_region ?_|refine WL_nil ?_|refine WS_skip ?_|refine WS_false rfl ?_|refine WS_yes rfl (by omega) ?_|(refine WL_r (by first|refine k_fa rfl (Ty.fld rfl rfl)|refine (k_loadb rfl hBm m6 (Ty.shp rfl)).is (congrArg Value.bool he)|refine Run_pev rfl) rfl ?_))
     clear hBm
     have hB:=(hH.at 0 rfl).1
     have hS15:SlA _ (some ⟨b15,0,none⟩) (R.map (Value.int .i64)):=(hH.b 7 rfl).sl0
     repeat ((refine WL_r (by first|refine k_ixa1 rfl rfl (Ty.arr rfl) (by decide)|refine k_loads rfl hS15 hr0 (Ty.shp rfl)|refine Run_pev rfl|refine k_sub64 rfl rfl (by omega)) rfl ?_))
     clear hS15 hB
     refine WL_s (S_call ((diff_spec (n:=r0-n) hk hbc (by omega) (by omega) (hH.sepN 4))) rfl rfl ?_)
     rintro _ w7 ⟨rfl,t2,ht2,hQ⟩
     replace hH:=hH.calls 4 hQ
     clear hQ
     replace hH:=nn9 hH
     have hB:=(hH.at 0 rfl).1
     have hB15:=hH.b 7 rfl
     have hBm:=hH.b 4 rfl
     repeat (first|refine WS_seq ?_|refine WL_nil ?_)
     refine WS_tailE Ty.mixed 10 rfl (by kernel_rfl) rfl (fun w1 hx1=>?_)
     refine wp 0 hx1 rfl rfl rfl rfl ?_
     refine wt 1 hx1 rfl rfl rfl (fun w' hw'=>by refine k_nilCheck rfl) ?_
     refine wt 2 hx1 rfl rfl rfl (fun w' hw'=>by refine k_fa rfl (Ty.fld rfl rfl)) ?_
     refine wt 3 hx1 rfl rfl rfl (fun w' hw'=>by refine k_loadb rfl (hB.ext0 hw') rfl (Ty.shp rfl)) ?_
     refine wp 4 hx1 rfl rfl rfl rfl ?_
     refine wp 5 hx1 rfl rfl rfl rfl ?_
     refine wt 6 hx1 rfl rfl rfl (fun w' hw'=>by refine k_loadA rfl (hB15.ext0 hw') (by simp [hR1]) (Ty.shp rfl)) ?_
     refine wt 7 hx1 rfl rfl rfl (fun w' hw'=>by refine k_fa rfl (Ty.fld rfl rfl)) ?_
     refine wt 8 hx1 rfl rfl rfl (fun w' hw'=>by refine k_loadb rfl (hBm.ext0 hw') m1 (Ty.shp rfl)) ?_
     refine wt 9 hx1 rfl rfl rfl (fun w' hw'=>by refine k_buildS (Ty.zer rfl) (Ty.plc rfl) (kn_fill hR1)) ?_
     refine WA_done (by kernel_rfl) ?_
     replace hH:=hH.ext0 hx1
     clear hB hB15 hBm hx1
     refine WL_s (S_call ((pset_spec (l:=R++[q]) hc hr hmb hlt hkg (hH.at 0 rfl).2.2.1)) rfl rfl ?_)
     rintro _ _ ⟨rfl,hU⟩
     replace hH:=hH.up 0 rfl (RS.t (hH.at 0 rfl) hU)
     clear hU
     replace hH:=nn9 hH
     repeat (first|refine WS_region ?_|refine WL_nil ?_|(refine WL_r (by refine k_ixa1 rfl rfl (Ty.arr rfl) (by decide)) rfl ?_))
     refine WL_s (H_storeB 8 (v:=.int .i64 0) hH rfl rfl rfl (by simp [hR1]) rfl (Ty.shp rfl) ?_)
     try clear hH
     intro _ hH
     replace hH:=nn9 hH
     rw [← List.map_set] at hH
     repeat (first|refine WS_seq ?_|refine WL_nil ?_)
     apply WS_keepM 2596148429267413814265248099595264 [(12,.int .i64 p),(13,.int .u64 g),(14,.int .i64 b),(16,.int .u8 f),(18,pt b18),(26,.int .i64 b)]
     ·exact ⟨rfl,rfl,rfl,rfl,rfl,rfl,trivial⟩
     ·repeat (first|((with_reducible apply Agr.upd);· exact rfl)|((with_reducible apply Agr.consL);· exact rfl)|(with_reducible apply Agr.nilL)|((with_reducible apply Agr.mrg (W':=2596148429267413814265248099595264));(· exact rfl);apply Agr.refl)|(apply Agr.updo;· exact rfl))
     intro σ
     replace hH:=hH.take 9
     obtain ⟨z9,hz9⟩:∃ z9,(R).set (Int.toNat 0) 0=z9:=⟨_,rfl⟩
     rw [hz9] at hH
     exact key σ t2 z9 _ ⟨by omega,by rw [← hz9];exact sm_set hR2047 (by decide),hH⟩
    ·have hB:=(hH.at 0 rfl).1
     have hB15:=hH.b 7 rfl
     replace he:e=true:=by simpa using he
     repeat (first|refine WS_seq ?_|refine WS_region ?_|refine WL_nil ?_|refine WS_true rfl ?_|refine WS_yes rfl (by omega) ?_|(refine WL_r (by first|refine k_fa rfl (Ty.fld rfl rfl)|refine (k_loadb rfl hBm m6 (Ty.shp rfl)).is (congrArg Value.bool he)) rfl ?_))
     clear hB hB15 hBm
     apply joinD (Z:=fun z b19 u=>sm64 2047 z∧Hp (fps (PA d qp v t x s k)) w u (P1 d qp v t1 x s k b9 b11 m es++[Rb b15 94 (R.map (Value.int .i64)).toArray,Rb b18 94 (R.map (Value.int .i64)).toArray,Rb b19 94 (z.map (Value.int .i64)).toArray]))
     ·intro key2
      refine WS_drawE Ty.mixed 17 rfl (fun w4 hx1=>?_)
      have hB:=(hH.at 0 rfl).1
      have hB15:=hH.b 7 rfl
      have hBm:=hH.b 4 rfl
      refine wt 0 hx1 rfl rfl rfl (fun w' hw'=>by refine k_loadA rfl (hB15.ext0 hw') (by simp [hR1]) (Ty.shp rfl)) ?_
      refine wp 1 hx1 rfl rfl rfl rfl ?_
      refine wt 2 hx1 rfl rfl rfl (fun w' hw'=>by refine k_nilCheck rfl) ?_
      refine wt 3 hx1 rfl rfl rfl (fun w' hw'=>by refine k_fa rfl (Ty.fld rfl rfl)) ?_
      refine wt 4 hx1 rfl rfl rfl (fun w' hw'=>by refine k_loadb rfl (hB.ext0 hw') rfl (Ty.shp rfl)) ?_
      refine wp 5 hx1 rfl rfl rfl rfl ?_
      refine wp 6 hx1 rfl rfl rfl rfl ?_
      refine wt 7 hx1 rfl rfl rfl (fun w' hw'=>by refine k_fa rfl (Ty.fld rfl rfl)) ?_
      refine wt 8 hx1 rfl rfl rfl (fun w' hw'=>by refine k_loadb rfl (hBm.ext0 hw') m1 (Ty.shp rfl)) ?_
      replace hH:=hH.ext0 hx1
      clear hB hB15 hBm
      replace hH:=nn9 hH
      refine WA_two 9 14 (by kernel_rfl) rfl rfl rfl rfl ?_ ?_
      ·skip
       refine S_call (pedge_spec (q:=q) (by decide) hc hr hmb hlt (hH.at 0 rfl).2.2.1) rfl rfl ?_
       rintro _ _ ⟨u,hul,hub,rfl,hE9⟩
       have hx9:=hx1.then0 hE9
       refine ⟨hx9,?_⟩
       replace hH:=hH.ext0 hE9
       clear hE9
       refine WA_two 10 14 (by kernel_rfl) rfl rfl rfl rfl ?_ ?_
       ·skip
        refine S_call (pless_spec hR1 hul (zsub hR1 hRm ⟨hul,hub⟩).1) rfl rfl ?_
        rintro _ _ ⟨rfl,hE10⟩
        have hx10:=hx9.then0 hE10
        refine ⟨hx10,?_⟩
        replace hH:=hH.ext0 hE10
        clear hE10
        refine wp 11 hx10 rfl rfl rfl rfl ?_
        refine wt 12 hx10 rfl rfl rfl (fun w' hw'=>by refine k_extract rfl rfl) ?_
        refine wt 13 hx10 rfl rfl rfl (fun w' hw'=>by refine k_extract rfl rfl) ?_
        refine WA_one 14 (by kernel_rfl) rfl rfl ?_
        refine S_alloc (Ty.zer rfl) rfl ?_
        intro _ b19 hb19 hE14 hB14 _
        have hx14:=hx10.then0 hE14
        refine ⟨hx14,?_⟩
        have hsz:=hx10.size
        replace hH:=hH.nu (r:=Rb b19 94 ((List.replicate 64 (0:Int)).map (Value.int .i64)).toArray) ⟨hE14,hB14,fun x hx=>by simp [Rb] at hx;omega⟩
        clear hE14 hB14
        have hzz:=(zsub hR1 hRm ⟨hul,hub⟩).2
        obtain ⟨z,hzr⟩:∃ z,List.zipWith (· - ·) R u=z:=⟨_,rfl⟩
        rw [hzr] at hzz
        refine WA_one 15 (by kernel_rfl) rfl rfl (S_storeA (s:=64) (vs:=(z.map (Value.int .i64)).toArray) rfl (by rw [← hzr];rfl) (hH.b 9 rfl) (by simp [hzz.1]) rfl ints_one (Ty.shp rfl) (fun w7 hE7 hB7 _=>?_))
        have hx7:=hx14.thenB hE7 (by omega)
        refine ⟨hx7,?_⟩
        replace hH:=hH.up 9 rfl (r':=Rb b19 94 (z.map (Value.int .i64)).toArray) ⟨hE7,hB7,fun _ hx=>.inl hx⟩
        clear hE7 hB7
        refine wp 16 hx7 rfl rfl rfl rfl ?_
        refine WA_done (by kernel_rfl) ?_
        apply WS_keepM 2596148429267413814265248099595264 [(12,.int .i64 p),(13,.int .u64 g),(14,.int .i64 b),(15,pt b15),(16,.int .u8 f),(17,.int .i64 n),(18,pt b18),(19,pt b19),(20,.bool true),(26,.int .i64 b)]
        ·exact ⟨rfl,rfl,rfl,rfl,rfl,rfl,rfl,rfl,rfl,rfl,trivial⟩
        ·repeat (first|((with_reducible apply Agr.upd);· exact rfl)|((with_reducible apply Agr.consL);· exact rfl)|(with_reducible apply Agr.nilL)|((with_reducible apply Agr.mrg (W':=2596148429267413814265248099595264));(· exact rfl);apply Agr.refl)|(apply Agr.updo;· exact rfl))
        intro σ
        exact key2 σ z b19 w7 ⟨hzz,hH⟩
       ·skip
        refine S_alloc (Ty.zer rfl) rfl ?_
        intro _ b19 hb19 hE14 hB14 _
        have hx14:=hx9.then0 hE14
        refine ⟨hx14,?_⟩
        have hsz:=hx9.size
        replace hH:=hH.nu (r:=Rb b19 94 ((List.replicate 64 (0:Int)).map (Value.int .i64)).toArray) ⟨hE14,hB14,fun x hx=>by simp [Rb] at hx;omega⟩
        clear hE14 hB14
        refine WA_one 10 (by kernel_rfl) rfl rfl ?_
        refine S_call (pless_spec hR1 hul (zsub hR1 hRm ⟨hul,hub⟩).1) rfl rfl ?_
        rintro _ _ ⟨rfl,hE10⟩
        have hx10:=hx14.then0 hE10
        refine ⟨hx10,?_⟩
        replace hH:=hH.ext0 hE10
        clear hE10
        refine wp 11 hx10 rfl rfl rfl rfl ?_
        refine wt 12 hx10 rfl rfl rfl (fun w' hw'=>by refine k_extract rfl rfl) ?_
        refine wt 13 hx10 rfl rfl rfl (fun w' hw'=>by refine k_extract rfl rfl) ?_
        have hx14:=hx10
        have hzz:=(zsub hR1 hRm ⟨hul,hub⟩).2
        obtain ⟨z,hzr⟩:∃ z,List.zipWith (· - ·) R u=z:=⟨_,rfl⟩
        rw [hzr] at hzz
        refine WA_one 15 (by kernel_rfl) rfl rfl (S_storeA (s:=64) (vs:=(z.map (Value.int .i64)).toArray) rfl (by rw [← hzr];rfl) (hH.b 9 rfl) (by simp [hzz.1]) rfl ints_one (Ty.shp rfl) (fun w7 hE7 hB7 _=>?_))
        have hx7:=hx14.thenB hE7 (by omega)
        refine ⟨hx7,?_⟩
        replace hH:=hH.up 9 rfl (r':=Rb b19 94 (z.map (Value.int .i64)).toArray) ⟨hE7,hB7,fun _ hx=>.inl hx⟩
        clear hE7 hB7
        refine wp 16 hx7 rfl rfl rfl rfl ?_
        refine WA_done (by kernel_rfl) ?_
        apply WS_keepM 2596148429267413814265248099595264 [(12,.int .i64 p),(13,.int .u64 g),(14,.int .i64 b),(15,pt b15),(16,.int .u8 f),(17,.int .i64 n),(18,pt b18),(19,pt b19),(20,.bool true),(26,.int .i64 b)]
        ·exact ⟨rfl,rfl,rfl,rfl,rfl,rfl,rfl,rfl,rfl,rfl,trivial⟩
        ·repeat (first|((with_reducible apply Agr.upd);· exact rfl)|((with_reducible apply Agr.consL);· exact rfl)|(with_reducible apply Agr.nilL)|((with_reducible apply Agr.mrg (W':=2596148429267413814265248099595264));(· exact rfl);apply Agr.refl)|(apply Agr.updo;· exact rfl))
        intro σ
        exact key2 σ z b19 w7 ⟨hzz,hH⟩
      ·skip
       refine S_alloc (Ty.zer rfl) rfl ?_
       intro _ b19 hb19 hE14 hB14 _
       have hx14:=hx1.then0 hE14
       refine ⟨hx14,?_⟩
       have hsz:=hx1.size
       replace hH:=hH.nu (r:=Rb b19 94 ((List.replicate 64 (0:Int)).map (Value.int .i64)).toArray) ⟨hE14,hB14,fun x hx=>by simp [Rb] at hx;omega⟩
       clear hE14 hB14
       refine WA_one 9 (by kernel_rfl) rfl rfl ?_
       refine S_call (pedge_spec (q:=q) (by decide) hc hr hmb hlt (hH.at 0 rfl).2.2.1) rfl rfl ?_
       rintro _ _ ⟨u,hul,hub,rfl,hE9⟩
       have hx9:=hx14.then0 hE9
       refine ⟨hx9,?_⟩
       replace hH:=hH.ext0 hE9
       clear hE9
       refine WA_one 10 (by kernel_rfl) rfl rfl ?_
       refine S_call (pless_spec hR1 hul (zsub hR1 hRm ⟨hul,hub⟩).1) rfl rfl ?_
       rintro _ _ ⟨rfl,hE10⟩
       have hx10:=hx9.then0 hE10
       refine ⟨hx10,?_⟩
       replace hH:=hH.ext0 hE10
       clear hE10
       refine wp 11 hx10 rfl rfl rfl rfl ?_
       refine wt 12 hx10 rfl rfl rfl (fun w' hw'=>by refine k_extract rfl rfl) ?_
       refine wt 13 hx10 rfl rfl rfl (fun w' hw'=>by refine k_extract rfl rfl) ?_
       have hx14:=hx10
       have hzz:=(zsub hR1 hRm ⟨hul,hub⟩).2
       obtain ⟨z,hzr⟩:∃ z,List.zipWith (· - ·) R u=z:=⟨_,rfl⟩
       rw [hzr] at hzz
       refine WA_one 15 (by kernel_rfl) rfl rfl (S_storeA (s:=64) (vs:=(z.map (Value.int .i64)).toArray) rfl (by rw [← hzr];rfl) (hH.b 9 rfl) (by simp [hzz.1]) rfl ints_one (Ty.shp rfl) (fun w7 hE7 hB7 _=>?_))
       have hx7:=hx14.thenB hE7 (by omega)
       refine ⟨hx7,?_⟩
       replace hH:=hH.up 9 rfl (r':=Rb b19 94 (z.map (Value.int .i64)).toArray) ⟨hE7,hB7,fun _ hx=>.inl hx⟩
       clear hE7 hB7
       refine wp 16 hx7 rfl rfl rfl rfl ?_
       refine WA_done (by kernel_rfl) ?_
       apply WS_keepM 2596148429267413814265248099595264 [(12,.int .i64 p),(13,.int .u64 g),(14,.int .i64 b),(15,pt b15),(16,.int .u8 f),(17,.int .i64 n),(18,pt b18),(19,pt b19),(20,.bool true),(26,.int .i64 b)]
       ·exact ⟨rfl,rfl,rfl,rfl,rfl,rfl,rfl,rfl,rfl,rfl,trivial⟩
       ·repeat (first|((with_reducible apply Agr.upd);· exact rfl)|((with_reducible apply Agr.consL);· exact rfl)|(with_reducible apply Agr.nilL)|((with_reducible apply Agr.mrg (W':=2596148429267413814265248099595264));(· exact rfl);apply Agr.refl)|(apply Agr.updo;· exact rfl))
       intro σ
       exact key2 σ z b19 w7 ⟨hzz,hH⟩
     clear hH
     rintro σ z b19 w8 ⟨hz,hH⟩
     replace hl1:=And.intro hz.1 hR1
     have hB19:=hH.b 9 rfl
     repeat (first|refine WS_seq ?_|refine WS_region ?_|refine WL_nil ?_|refine WS_skip ?_|refine WS_false rfl ?_|(refine WL_r (by first|refine k_loadA rfl hB19 (by simp [hl1]) (Ty.shp rfl)|refine Run_pev rfl) rfl ?_))
     clear hB19
     refine WL_s (H_storeA 8 (vs:=(z.map (Value.int .i64)).toArray) (s:=64) hH rfl rfl rfl (by simp [hl1]) (by simp [hl1]) (by exact ints_one) (Ty.shp rfl) ?_)
     try clear hH
     intro _ hH
     replace hH:=nn10 hH
     have hB:=(hH.at 0 rfl).1
     have hS15:SlA _ (some ⟨b15,0,none⟩) (R.map (Value.int .i64)):=(hH.b 7 rfl).sl0
     repeat (first|refine WS_seq ?_|refine WS_region ?_|refine WL_nil ?_|(refine WL_r (by first|refine k_ixa1 rfl rfl (Ty.arr rfl) (by decide)|refine k_loads rfl hS15 hr0 (Ty.shp rfl)|refine Run_pev rfl|refine k_sub64 rfl rfl (by omega)) rfl ?_))
     clear hS15 hB
     refine WL_s (S_call ((diff_spec (n:=r0-n) hk hbc (by omega) (by omega) (hH.sepN 4))) rfl rfl ?_)
     rintro _ w7 ⟨rfl,t2,ht2,hQ⟩
     replace hH:=hH.calls 4 hQ
     clear hQ
     replace hH:=nn10 hH
     have hB:=(hH.at 0 rfl).1
     have hB15:=hH.b 7 rfl
     have hBm:=hH.b 4 rfl
     repeat (first|refine WS_seq ?_|refine WL_nil ?_)
     refine WS_tailE Ty.mixed 10 rfl (by kernel_rfl) rfl (fun w1 hx1=>?_)
     refine wp 0 hx1 rfl rfl rfl rfl ?_
     refine wt 1 hx1 rfl rfl rfl (fun w' hw'=>by refine k_nilCheck rfl) ?_
     refine wt 2 hx1 rfl rfl rfl (fun w' hw'=>by refine k_fa rfl (Ty.fld rfl rfl)) ?_
     refine wt 3 hx1 rfl rfl rfl (fun w' hw'=>by refine k_loadb rfl (hB.ext0 hw') rfl (Ty.shp rfl)) ?_
     refine wp 4 hx1 rfl rfl rfl rfl ?_
     refine wp 5 hx1 rfl rfl rfl rfl ?_
     refine wt 6 hx1 rfl rfl rfl (fun w' hw'=>by refine k_loadA rfl (hB15.ext0 hw') (by simp [hR1]) (Ty.shp rfl)) ?_
     refine wt 7 hx1 rfl rfl rfl (fun w' hw'=>by refine k_fa rfl (Ty.fld rfl rfl)) ?_
     refine wt 8 hx1 rfl rfl rfl (fun w' hw'=>by refine k_loadb rfl (hBm.ext0 hw') m1 (Ty.shp rfl)) ?_
     refine wt 9 hx1 rfl rfl rfl (fun w' hw'=>by refine k_buildS (Ty.zer rfl) (Ty.plc rfl) (kn_fill hR1)) ?_
     refine WA_done (by kernel_rfl) ?_
     replace hH:=hH.ext0 hx1
     clear hB hB15 hBm hx1
     refine WL_s (S_call ((pset_spec (l:=R++[q]) hc hr hmb hlt hkg (hH.at 0 rfl).2.2.1)) rfl rfl ?_)
     rintro _ _ ⟨rfl,hU⟩
     replace hH:=hH.up 0 rfl (RS.t (hH.at 0 rfl) hU)
     clear hU
     replace hH:=nn10 hH
     repeat (first|refine WS_region ?_|refine WL_nil ?_|(refine WL_r (by refine k_ixa1 rfl rfl (Ty.arr rfl) (by decide)) rfl ?_))
     refine WL_s (H_storeB 8 (v:=.int .i64 0) hH rfl rfl rfl (by simp [hz.1]) rfl (Ty.shp rfl) ?_)
     try clear hH
     intro _ hH
     replace hH:=nn10 hH
     rw [← List.map_set] at hH
     repeat (first|refine WS_seq ?_|refine WL_nil ?_)
     apply WS_keepM 2596148429267413814265248099595264 [(12,.int .i64 p),(13,.int .u64 g),(14,.int .i64 b),(16,.int .u8 f),(18,pt b18),(26,.int .i64 b)]
     ·exact ⟨rfl,rfl,rfl,rfl,rfl,rfl,trivial⟩
     ·repeat (first|((with_reducible apply Agr.upd);· exact rfl)|((with_reducible apply Agr.consL);· exact rfl)|(with_reducible apply Agr.nilL)|((with_reducible apply Agr.mrg (W':=2596148429267413814265248099595264));(· exact rfl);apply Agr.refl)|(apply Agr.updo;· exact rfl))
     intro σ
     replace hH:=hH.take 9
     obtain ⟨z9,hz9⟩:∃ z9,(z).set (Int.toNat 0) 0=z9:=⟨_,rfl⟩
     rw [hz9] at hH
     exact key σ t2 z9 _ ⟨by omega,by rw [← hz9];exact sm_set hz (by decide),hH⟩
   ·repeat (first|refine WS_seq ?_|refine WL_nil ?_|refine WS_skip ?_|refine WS_no rfl (by omega) ?_)
    apply WS_keepM 2596148429267413814265248099595264 [(12,.int .i64 p),(13,.int .u64 g),(14,.int .i64 b),(16,.int .u8 f),(18,pt b18),(26,.int .i64 b)]
    ·exact ⟨rfl,rfl,rfl,rfl,rfl,rfl,trivial⟩
    ·repeat (first|((with_reducible apply Agr.upd);· exact rfl)|((with_reducible apply Agr.consL);· exact rfl)|(with_reducible apply Agr.nilL)|((with_reducible apply Agr.mrg (W':=2596148429267413814265248099595264));(· exact rfl);apply Agr.refl)|(apply Agr.updo;· exact rfl))
    intro σ
    obtain ⟨t9,z9,ht9,hz9,hH9⟩:∃ (t9:WT) (z9:List Int),t9.2.2.length≤t1.2.2.length+40∧sm64 2047 z9∧Hp _ _ _ (P1 d qp v t9 x s k b9 b11 m es++[Rb b15 94 (R.map (Value.int .i64)).toArray,Rb b18 94 (z9.map (Value.int .i64)).toArray]):=⟨t1,R,by omega,hR2047,hH⟩
    exact WS_w fun u hu=>key σ t9 z9 u ⟨ht9,hz9,hu▸hH9⟩
  clear hH
  rintro σ t2 z w4 ⟨ht2,hz,hH⟩
  obtain ⟨o,ho,ho3⟩:∃ o:Nat,(if e then (if f=1 then 2 else if f=2 then 1 else 0) else 0:Nat)=o∧o<3:=⟨_,rfl,by split<;>(try split)<;>(try split)<;>decide⟩
  have hord:=fun w=>order_spec (w:=w) (e:=e) hf
  rw [ho] at hord
  obtain ⟨fr,hfr,hfr1⟩:∃ fr:Nat,(if kd=3∨kd=4 then 1 else 0:Nat)=fr∧fr≤1:=⟨_,rfl,by split<;>decide⟩
  have mst2:=mst
  rw [hfr] at mst2
  have hB18:=hH.b 8 rfl
  have hBm:=hH.b 4 rfl
  refine WS_tailE Ty.mixed 11 rfl (by kernel_rfl) rfl (fun w1 hx1=>?_)
  refine wp 0 hx1 rfl rfl rfl rfl ?_
  refine wt 1 hx1 rfl rfl rfl (fun w' hw'=>by refine k_fa rfl (Ty.fld rfl rfl)) ?_
  refine wt 2 hx1 rfl rfl rfl (fun w' hw'=>by refine k_loadb rfl (hBm.ext0 hw') m6 (Ty.shp rfl)) ?_
  refine wp 3 hx1 rfl rfl rfl rfl ?_
  refine wt 5 hx1 rfl rfl rfl (fun w' hw'=>by refine k_loadA rfl (hB18.ext0 hw') (by simp [hz.1]) (Ty.shp rfl)) ?_
  refine wt 7 hx1 rfl rfl rfl (fun w' hw'=>by refine k_loadA rfl (hBm.ext0 hw') (by simp [hml]) (Ty.shp rfl)) ?_
  refine WA_one 4 (by kernel_rfl) rfl rfl (S_call (hord _) rfl rfl ?_)
  rintro _ _ ⟨rfl,rfl⟩
  refine ⟨hx1,?_⟩
  refine WA_one 6 (by kernel_rfl) rfl rfl (S_call (sput_spec ho3 hz.1) rfl rfl ?_)
  rintro _ w2 ⟨l,hl,hlm,rfl,hE0⟩
  have hx2:=hx1.then0 hE0
  refine ⟨hx2,?_⟩
  refine WA_one 8 (by kernel_rfl) rfl rfl (S_call (mst2 _) rfl rfl ?_)
  rintro _ w3 ⟨rfl,hE1⟩
  have hx3:=hx2.then0 hE1
  refine ⟨hx3,?_⟩
  refine WA_one 9 (by kernel_rfl) rfl rfl (S_call (of_spec (f:=fr) hl (by omega)) rfl rfl ?_)
  rintro _ w5 ⟨a,cap,rfl,hO,hF,hE2⟩
  have hx5:=hx3.then0 hE2
  refine ⟨hx5,?_⟩
  refine wt 10 hx5 rfl rfl rfl (fun w' hw'=>by refine k_ixa1 rfl rfl (Ty.arr rfl) (by omega)) ?_
  refine WA_done (by kernel_rfl) ?_
  have hlz:sm64 2047 l:=⟨hl,fun n hn=>by rcases hlm n hn with h1|h1;omega;exact hz.2 n h1⟩
  have hev:=ev_good (f:=fr) hlz
  generalize pairs 0 (l.drop fr)=ps at *
  replace hH:=(hH.ext0 hx3).nu (r:=Ro 293 3 a ps.length cap (evC ps)) ⟨hE2,hO,hF⟩
  clear hB18 hBm hx1 hx2 hx3 hx5 hE0 hE1 hE2 hO hF
  replace hH:=nn10 hH
  refine WL_s (H_storeB 5 (v:=esl (a,cap,ps)) hH rfl rfl rfl (by rw [ev_len (by omega)];omega) rfl (Ty.shp rfl) ?_)
  try clear hH
  intro _ hH
  replace hH:=nn10 hH
  replace hH:=Rs.of 9 hH rfl
  replace hH:=(hH.del 8).del 7
  rw [Int.toNat_natCast,← hel,ev_set (by omega)] at hH
  replace hH:=RE.add (e:=(a,cap,ps)) 6 7 hH rfl rfl (by decide)
  replace hH:=nn7 hH
  have heo2:∀ e'∈es++[(a,cap,ps)],eok e':=fun e' he'=>by
   rcases List.mem_append.1 he' with h1|h1
   ·exact heo e' h1
   ·simp at h1;subst h1;exact hev
  have hel2:(es++[(a,cap,ps)]).length=b+1:=by simp [hel]
  have hat:_=some (Value.slice a ps.length cap):=esl_at (es:=es++[(a,cap,ps)]) (i:=b) (e:=(a,cap,ps)) (by rw [← hel];simp)
  have hS11:SlA _ (some ⟨b11,0,none⟩) _:=(hH.b 5 rfl).sl0
  generalize es++[(a,cap,ps)]=es2 at *
  by_cases hp0:ps.length=0
  ·repeat (first|refine WS_seq ?_|refine WS_region ?_|refine WL_nil ?_|refine WS_inBlock ?_|refine WS_skip ?_|refine WS_false rfl ?_|(refine WL_r (by first|refine k_ixa1 rfl rfl (Ty.arr rfl) (by omega)|refine k_loads rfl hS11 hat (Ty.shp rfl)|refine (k_len rfl (Ty.isl rfl)).is (congrArg (fun n:Nat=>Value.int .i64 n) hp0)|refine Run_pev rfl|refine k_add64 rfl rfl (by omega)) rfl ?_))
   refine IH (b+1,p,g,t2,es2) _ _ ?_ ?_ ?_ ?_
   ·simp only;omega
   ·exact ⟨rfl,rfl,rfl,trivial⟩
   ·repeat first|with_reducible apply Agr.refl|refine Agr.upd rfl ?_|refine Agr.updL rfl ?_|refine Agr.mrg rfl ?_
   ·exact ⟨by omega,hp,hg,by omega,hel2,heo2,hH⟩
  ·by_cases hb4:b<4
   ·obtain ⟨h8,hh8⟩:∃ h8,8 / 2 ^ b=h8:=⟨_,rfl⟩
    have h88:h8<2 ^ 4:=by rw [← hh8];exact Nat.lt_of_le_of_lt (Nat.div_le_self _ _) (by decide)
    repeat (first|refine WS_seq ?_|refine WS_region ?_|refine WL_nil ?_|refine WS_inBlock ?_|refine WS_yes rfl (by omega) ?_|(refine WL_r (by first|refine k_ixa1 rfl rfl (Ty.arr rfl) (by omega)|refine k_loads rfl hS11 hat (Ty.shp rfl)|refine (k_shr (m:=8) (n:=b) rfl rfl rfl).is (congrArg (fun n:Nat=>Value.int .i64 n) hh8)|refine k_or (m:=p) (n:=h8) rfl rfl (fiti (by omega)) (fiti (by omega))|refine Run_pev rfl|refine k_add64 rfl rfl (by omega)|refine k_len rfl (Ty.isl rfl)) rfl ?_))
    refine IH (b+1,p ||| h8,g,t2,es2) _ _ ?_ ?_ ?_ ?_
    ·simp only;omega
    ·exact ⟨rfl,rfl,rfl,trivial⟩
    ·repeat first|with_reducible apply Agr.refl|refine Agr.upd rfl ?_|refine Agr.updL rfl ?_|refine Agr.mrg rfl ?_
    ·exact ⟨by omega,Nat.or_lt_two_pow (n:=4) hp h88,hg,by omega,hel2,heo2,hH⟩
   ·obtain ⟨h8,hh8⟩:∃ h8,2 / 2 ^ (b-4)=h8:=⟨_,rfl⟩
    have h88:h8<2 ^ 2:=by rw [← hh8];exact Nat.lt_of_le_of_lt (Nat.div_le_self _ _) (by decide)
    have hb44:(b:Int)-4=((b-4:Nat):Int):=by omega
    repeat (first|refine WS_seq ?_|refine WS_region ?_|refine WL_nil ?_|refine WS_inBlock ?_|refine WS_yes rfl (by omega) ?_|refine WS_no rfl (by omega) ?_|(refine WL_r (by first|refine k_ixa1 rfl rfl (Ty.arr rfl) (by omega)|refine k_loads rfl hS11 hat (Ty.shp rfl)|refine (k_sub64 rfl rfl (by omega)).is (congrArg (Value.int .i64) hb44)|refine (k_shr (m:=2) (n:=b-4) rfl rfl rfl).is (congrArg (fun n:Nat=>Value.int .u64 n) hh8)|refine k_or (m:=g) (n:=h8) rfl rfl (fit64 (by omega)) (fit64 (by omega))|refine Run_pev rfl|refine k_add64 rfl rfl (by omega)|refine k_len rfl (Ty.isl rfl)) rfl ?_))
    refine IH (b+1,p,g ||| h8,t2,es2) _ _ ?_ ?_ ?_ ?_
    ·simp only;omega
    ·exact ⟨rfl,rfl,rfl,trivial⟩
    ·repeat first|with_reducible apply Agr.refl|refine Agr.upd rfl ?_|refine Agr.updL rfl ?_|refine Agr.mrg rfl ?_
    ·exact ⟨by omega,hp,Nat.or_lt_two_pow (n:=2) hg h88,by omega,hel2,heo2,hH⟩
 ·obtain rfl:b=6:=by omega
  clear IH
  have hB:=(hH.at 0 rfl).1
  have hC:Blk _ d.bc 146 #[pt k.p0,pt k.p1,pt k.p2]:=hbc▸(hH.at 3 rfl).1
  repeat (first|refine WS_seq ?_|refine WS_region ?_|refine WL_nil ?_|refine WS_exit rfl ?_|refine WS_false rfl ?_|(refine WL_r (by first|refine k_nilCheck rfl|refine k_fa rfl (Ty.fld rfl rfl)|refine k_loadb rfl hB rfl (Ty.shp rfl)|refine k_loadb rfl hC rfl (Ty.shp rfl)|refine Run_pev rfl) rfl ?_))
  have hi:p<k.D2.sz.length:=by rw [hk.s2];exact Nat.lt_of_lt_of_le hp (by decide)
  have hszd:=hk.o2.1.szd hi
  refine WL_s (S_call ((cputw_spec (i:=p) hk.o2 hi (by omega) (hH.at 3 rfl).2.2.2 (hH.at 1 rfl))) rfl rfl ?_)
  rintro _ _ ⟨rfl,a2,c2,hU⟩
  replace hH:=hH.up 1 rfl hU
  have hl:(t1.2.2++cw k.D2.sz k.D2.ws p).length≤t1.2.2.length+32:=by rw [List.length_append,cw_len];omega
  clear hU hB hC
  replace hH:=nn7 hH
  repeat (first|refine WS_seq ?_|refine WS_region ?_|refine WL_nil ?_|refine lp rfl rfl ?_)
  refine WL_s (S_call ((wput_spec (n:=g) (s:=2) (by omega) (by omega) (by omega) (hH.at 1 rfl))) rfl rfl ?_)
  rintro _ _ ⟨rfl,a3,c3,hU⟩
  replace hH:=hH.up 1 rfl hU
  have hl3:(t1.2.2++cw k.D2.sz k.D2.ws p++nb g 2).length≤t1.2.2.length+34:=by rw [List.length_append,nb_len];omega
  generalize t1.2.2++cw k.D2.sz k.D2.ws p++nb g 2=bs3 at *
  clear hU
  replace hH:=nn7 hH
  have hB11:=hH.b 5 rfl
  rw [hel,Nat.sub_self,List.replicate_zero,List.append_nil] at hB11
  repeat (first|refine WS_seq ?_|refine WS_region ?_|refine WL_nil ?_|refine WS_block ?_|(refine WL_r (by first|refine k_loadA rfl hB11 (by simp [hel]) (Ty.shp rfl)|refine Run_pev rfl) rfl ?_))
  clear hB11
  refine WS_loop (G:=(Nat) × (WT)) (fun|(i,s1)=>6-i) 348406608431175869278562676184201690088448 (fun|(i,s1)=>[(125,.int .i64 i)]) (fun|(i,s1),w'=>i≤6∧s1.2.2.length≤s.2.2.length+3200*i∧Hp (fps (PA d qp v t x s k)) w w' (P1 d qp v (a3,c3,bs3) x s1 k b9 b11 m es)) (0,s) ⟨rfl,trivial⟩ ⟨by omega,by omega,hH⟩ ?_
  rintro ⟨i,s1⟩ w' σ ⟨hi6,hs1,hH⟩ IH
  show WS _ _ _ _ _ (updL [(125,.int .i64 i)] _) _
  by_cases hil:i<6
  ·obtain ⟨⟨a,cap,ps⟩,hev⟩:∃ e',es[i]?=some e':=⟨_,List.getElem?_eq_getElem (by omega)⟩
   have hmem:=List.mem_of_getElem? hev
   have hok:=heo _ hmem
   have hx1:(es.map esl).toArray[i]?=some (Value.slice a ps.length cap):=by simp [hev]
   by_cases hp0:ps=[]
   ·subst hp0
    repeat (first|refine WS_seq ?_|refine WS_region ?_|refine WL_nil ?_|refine WS_block ?_|refine WS_inBlock ?_|refine WS_skip ?_|refine WS_false rfl ?_|refine WS_yes rfl (by omega) ?_|(refine WL_r (by first|refine k_index1 rfl rfl (Ty.arr rfl) (by omega) hx1|refine Run_pev rfl|refine k_add64 rfl rfl (by omega)|refine k_len rfl (Ty.isl rfl)) rfl ?_))
    refine IH (i+1,s1) _ _ ?_ ?_ ?_ ?_
    ·simp only;omega
    ·exact ⟨rfl,trivial⟩
    ·repeat first|with_reducible apply Agr.refl|refine Agr.upd rfl ?_|refine Agr.updL rfl ?_|refine Agr.mrg rfl ?_
    ·exact ⟨by omega,by omega,hH⟩
   ·have hg:GB ps:=⟨hp0,hok.1,hok.2⟩
    have hpl:0<ps.length:=List.length_pos_iff.2 hp0
    have hce:evC ps≠[]:=fun h=>by have h2:=evC_len ps;rw [h] at h2;simp at h2;omega
    have hSe:SlA w' a (evC ps):=(hH.at 6 rfl) _ hmem
    have hdj:=hH.dj 2 6 rfl rfl (by decide)
    repeat (first|refine WS_seq ?_|refine WS_region ?_|refine WL_nil ?_|refine WS_block ?_|refine WS_skip ?_|refine WS_yes rfl (by omega) ?_|(refine WL_r (by first|refine k_index1 rfl rfl (Ty.arr rfl) (by omega) hx1|refine Run_pev rfl|refine k_len rfl (Ty.isl rfl)) rfl ?_))
    refine WL_s (S_call ((bput_spec hg rfl (by omega) hSe (hH.at 2 rfl) (fun y hy hb=>hdj y hy (List.mem_flatMap.2 ⟨_,hmem,by simp [Rs,hce,hb]⟩)))) rfl rfl ?_)
    rintro _ _ ⟨rfl,a4,c4,hU⟩
    replace hH:=hH.up 2 rfl hU
    have hp64:ps.length≤64:=hok.1
    have hl4:(s1.2.2++bb ps).length≤s1.2.2.length+3200:=by rw [List.length_append];have:=bb_len_le hg;omega
    generalize s1.2.2++bb ps=bs4 at *
    clear hU hSe hdj
    replace hH:=nn7 hH
    repeat (first|refine WS_seq ?_|refine WS_region ?_|refine WL_nil ?_|refine WS_inBlock ?_|refine WS_skip ?_|refine WS_false rfl ?_|(refine WL_r (by first|refine Run_pev rfl|refine k_add64 rfl rfl (by omega)) rfl ?_))
    refine IH (i+1,(a4,c4,bs4)) _ _ ?_ ?_ ?_ ?_
    ·simp only;omega
    ·exact ⟨rfl,trivial⟩
    ·repeat first|with_reducible apply Agr.refl|refine Agr.upd rfl ?_|refine Agr.updL rfl ?_|refine Agr.mrg rfl ?_
    ·exact ⟨by omega,by simp only;omega,hH⟩
  ·obtain rfl:i=6:=by omega
   repeat (first|refine WS_seq ?_|refine WS_region ?_|refine WL_nil ?_|refine WS_exit rfl ?_|refine WS_false rfl ?_|refine lp rfl rfl ?_)
   exact WS_ret1 Tryz.func101 rfl ⟨rfl,(a3,c3,bs3),s1,by simp only;omega,by omega,hH.take 4⟩
end
end Go.Proofs.YtpbiicegmcpkpaaGreat
