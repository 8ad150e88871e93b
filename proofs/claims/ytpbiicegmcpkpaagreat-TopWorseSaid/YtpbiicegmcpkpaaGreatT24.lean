/- A part of the proof that TopWorse is true at every input; no condition. -/
import Derived.Test.YtpbiicegmcpkpaaGreatT21
import Derived.Test.YtpbiicegmcpkpaaGreatT23
namespace Go.Proofs.YtpbiicegmcpkpaaGreat
open Go Go.K Go.P Go.RowKit Go.Proofs
theorem ext_grow {w w':World} (h:Ext [] w w'):∃ q os,w'=Go.Sort.grow (w.drewN q) os:=by
 refine ⟨w'.drawn-w.drawn,w'.heap.extract w.heap.size w'.heap.size,?_⟩
 have hh:w.heap++w'.heap.extract w.heap.size w'.heap.size=w'.heap:=by
  apply Array.ext_getElem?
  intro k
  have hs:=h.size
  rw [Array.getElem?_append]
  split
  ·rename_i hk;exact (h.block k hk (by simp)).symm
  ·rename_i hk
   rw [Array.getElem?_extract]
   by_cases hk2:k<w'.heap.size
   ·rw [if_pos (by omega)];congr 1;omega
   ·rw [if_neg (by omega),Array.getElem?_eq_none (by omega)]
 have hd:=h.drawn
 have ho:=h.os
 have ht:=h.tape
 have hp:=h.output
 cases w;cases w'
 simp only [Go.Sort.grow,World.drewN] at *
 subst ho ht hp
 rw [hh,Nat.add_sub_cancel' hd]
theorem row_after {α:Type} [Inhabited α] {enc:α→Value} {w:World} {b:Nat} {e:TypeId} {cs:Array Value} (d':Array α) (n:Nat) (os:Array Obj) (hB:Blk w b e cs) :
  Ext [b] w (Go.Sort.grow (Go.Sort.putRow enc (Go.Sort.ahead w n) b 0 d') os)∧Blk (Go.Sort.grow (Go.Sort.putRow enc (Go.Sort.ahead w n) b 0 d') os) b e (Go.Sort.putCells enc 0 d' cs):=by
 have hb:=hB.lt
 refine ⟨⟨rfl,rfl,rfl,?_,?_,fun k hk hkb=>?_⟩,?_⟩
 ·simp [Go.Sort.grow,Go.Sort.putRow,Go.Sort.mapBlock,Go.Sort.ahead]
 ·show w.drawn≤w.drawn+n
  omega
 ·show ((w.heap.modify b _)++os)[k]?=_
  rw [Array.getElem?_append,if_pos (by simpa using hk),Array.getElem?_modify,if_neg (by simp at hkb;omega)]
 ·show ((w.heap.modify b _)++os)[b]?=_
  rw [Array.getElem?_append,if_pos (by simpa using hb),Array.getElem?_modify,if_pos rfl,show w.heap[b]?=_ from hB]
  rfl
theorem put_all {α:Type} [Inhabited α] {enc:α→Value} {d:Array α} {cs:Array Value} (h:d.size=cs.size):Go.Sort.putCells enc 0 d cs=(d.toList.map enc).toArray:=by
 apply Array.ext_getElem?
 intro k
 unfold Go.Sort.putCells
 rw [Array.getElem?_mapIdx]
 by_cases hk:k<cs.size
 ·rw [Array.getElem?_eq_getElem hk,Option.map_some,if_pos ⟨Nat.zero_le _,by omega⟩]
  have hk2:k<d.size:=by omega
  simp [hk2]
 ·rw [Array.getElem?_eq_none (by omega),Array.getElem?_eq_none (by simp;omega)]
  rfl
def kk (o a:Nat):List Int :=
 if o=1 then [((a / 8 / 2:Nat):Int),((a % 8:Nat):Int)+((a / 8 % 2:Nat):Int),((a / 8:Nat):Int)]
 else if o=2 then [((a % 8 / 2:Nat):Int),((a / 8:Nat):Int)+((a % 8 % 2:Nat):Int),((a % 8:Nat):Int)]
 else if (((a % 8:Nat):Int)+((a / 8:Nat):Int)) % 2=0 then [((a % 8:Nat):Int)+((a / 8:Nat):Int),((a % 8:Nat):Int),((a / 8:Nat):Int)]
 else [((a % 8:Nat):Int)+((a / 8:Nat):Int),((a / 8:Nat):Int),((a % 8:Nat):Int)]
theorem kk_len (o a:Nat):(kk o a).length=3:=by unfold kk;split<;>(try split)<;>(try split)<;>rfl
theorem kk_le {o a:Nat} (ha:a<64):∀ x∈kk o a,0≤x∧x≤100:=by
 unfold kk
 split<;>(try split)<;>(try split)<;>(intro x hx;simp at hx;omega)
def cmpL:List Int→List Int→Int
 | x::xs,y::ys=>if x=y then cmpL xs ys else x-y
 | _,_=>0
theorem cmpL_self:∀ l,cmpL l l=0
 | []=>rfl
 | x::l=>by unfold cmpL;rw [if_pos rfl];exact cmpL_self l
theorem cmpL_trans:∀ {x y z:List Int},x.length=y.length→y.length=z.length→cmpL x y<0→cmpL y z<0→cmpL x z<0
 | [],[],_,_,_,h,_=>by simp [cmpL] at h
 | a::x,b::y,[],_,h,_,_=>by simp at h
 | a::x,b::y,c::z,h1,h2,h3,h4=>by
  unfold cmpL at *
  by_cases e1:a=b
  ·by_cases e2:b=c
   ·rw [if_pos e1] at h3;rw [if_pos e2] at h4;rw [if_pos (e1.trans e2)]
    exact cmpL_trans (by simpa using h1) (by simpa using h2) h3 h4
   ·rw [if_neg e2] at h4;rw [if_neg (by omega)];omega
  ·rw [if_neg e1] at h3
   by_cases e2:b=c
   ·rw [if_neg (by omega)];omega
   ·rw [if_neg e2] at h4;rw [if_neg (by omega)];omega
theorem cmpL_ntrans:∀ {x y z:List Int},x.length=y.length→y.length=z.length→0≤cmpL x y→0≤cmpL y z→0≤cmpL x z
 | [],[],_,_,_,_,_=>by simp [cmpL]
 | a::x,b::y,[],_,h,_,_=>by simp at h
 | a::x,b::y,c::z,h1,h2,h3,h4=>by
  unfold cmpL at *
  by_cases e1:a=b
  ·by_cases e2:b=c
   ·rw [if_pos e1] at h3;rw [if_pos e2] at h4;rw [if_pos (e1.trans e2)]
    exact cmpL_ntrans (by simpa using h1) (by simpa using h2) h3 h4
   ·rw [if_neg e2] at h4;rw [if_neg (by omega)];omega
  ·rw [if_neg e1] at h3
   by_cases e2:b=c
   ·rw [if_neg (by omega)];omega
   ·rw [if_neg e2] at h4;rw [if_neg (by omega)];omega
set_option maxHeartbeats 4000000 in
theorem key_spec {o a:Nat} {w:World} (ho:o<3) (ha:a<64):Does Tryz.prog 189 #[.int .u8 o,.int .i64 a] w fun v w'=>v=.agg ((kk o a).map (Value.int .i64)).toArray∧Ext [] w w':=by
 refine Does_of (args:=[_,_]) Tryz.func189 rfl rfl Tryz.ntmps189 rfl ?_
 have hH:=Hp.start w
 have hl1:=kk_len o a
 repeat (first|refine WS_seq ?_|refine WS_region ?_)
 refine WL_s (H_alloc hH (Ty.zer rfl) rfl ?_)
 try clear hH
 intro _ b1 hH
 replace hH:=nn1 hH
 repeat (first|refine WS_seq ?_|refine WS_region ?_|refine WL_nil ?_|refine WS_block ?_|(refine WL_r (by first|refine k_remu (n:=8) rfl rfl (by decide)|refine k_quou (n:=8) rfl rfl (by decide) (fiti (by omega))|refine Run_pev rfl) rfl ?_))
 rcases (show o=1∨o=2∨o=0 by omega) with rfl|rfl|rfl
 ·have e:kk 1 a=_:=rfl
  repeat (first|refine WS_seq ?_|refine WS_region ?_|refine WS_true rfl ?_|(refine WL_r (by first|refine k_remu (n:=2) rfl rfl (by decide)|refine k_quou (n:=2) rfl rfl (by decide) (fiti (by omega))|refine k_buildA (cs:=(kk 1 a).map (Value.int .i64)) (Ty.zer rfl) (Ty.arr rfl) rfl|refine Run_pev rfl|refine k_add64 rfl rfl (by omega)) rfl ?_))
  clear e
  refine WL_s (H_storeA 0 (vs:=((kk 1 a).map (Value.int .i64)).toArray) (s:=3) hH rfl rfl rfl (by rfl) (by rfl) (by exact ints_one) (Ty.shp rfl) ?_)
  try clear hH
  intro _ hH
  replace hH:=nn1 hH
  repeat (refine WL_nil ?_)
  exact WS_retc1 Tryz.func189 rfl rfl (hH.b 0 rfl) (by simp [kk_len]) (Ty.shp rfl) ⟨rfl,hH.ext⟩
 ·repeat (first|refine WS_seq ?_|refine WS_region ?_|refine WL_nil ?_|refine WS_true rfl ?_|refine WS_false rfl ?_|(refine WL_r (by first|refine k_remu (n:=2) rfl rfl (by decide)|refine k_quou (n:=2) rfl rfl (by decide) (fiti (by omega))|refine k_buildA (cs:=(kk 2 a).map (Value.int .i64)) (Ty.zer rfl) (Ty.arr rfl) rfl|refine Run_pev rfl|refine k_add64 rfl rfl (by omega)) rfl ?_))
  refine WL_s (H_storeA 0 (vs:=((kk 2 a).map (Value.int .i64)).toArray) (s:=3) hH rfl rfl rfl (by rfl) (by rfl) (by exact ints_one) (Ty.shp rfl) ?_)
  try clear hH
  intro _ hH
  replace hH:=nn1 hH
  repeat (refine WL_nil ?_)
  exact WS_retc1 Tryz.func189 rfl rfl (hH.b 0 rfl) (by simp [kk_len]) (Ty.shp rfl) ⟨rfl,hH.ext⟩
 ·by_cases h0:(((a % 8:Nat):Int)+((a / 8:Nat):Int)) % 2=0
  ·have e:(kk 0 a).map (Value.int .i64)=[.int .i64 (((a % 8:Nat):Int)+((a / 8:Nat):Int)),.int .i64 ((a % 8:Nat):Int),.int .i64 ((a / 8:Nat):Int)]:=by unfold kk;rw [if_neg (by decide),if_neg (by decide),if_pos h0];rfl
   repeat (first|refine WS_seq ?_|refine WS_region ?_|refine WL_nil ?_|refine WS_inBlock ?_|refine WS_skip ?_|refine WS_true rfl ?_|refine WS_false rfl ?_|(refine WL_r (by first|refine k_buildA (cs:=[.int .i64 (((a % 8:Nat):Int)+((a / 8:Nat):Int)),.int .i64 ((a % 8:Nat):Int),.int .i64 ((a / 8:Nat):Int)]) (Ty.zer rfl) (Ty.arr rfl) rfl|refine (k_eql rfl rfl).is (bT h0)|refine Run_pev rfl|refine k_add64 rfl rfl (by omega)|refine k_rem rfl rfl (by omega)) rfl ?_))
   refine WL_s (H_storeA 0 (vs:=[.int .i64 (((a % 8:Nat):Int)+((a / 8:Nat):Int)),.int .i64 ((a % 8:Nat):Int),.int .i64 ((a / 8:Nat):Int)].toArray) (s:=3) hH rfl rfl rfl (by rfl) (by rfl) (by simp [Value.oneCell']) (Ty.shp rfl) ?_)
   try clear hH
   intro _ hH
   replace hH:=nn1 hH
   repeat (refine WL_nil ?_)
   exact WS_retc1 Tryz.func189 rfl rfl (hH.b 0 rfl) rfl (Ty.shp rfl) ⟨by rw [e],hH.ext⟩
  ·have e:(kk 0 a).map (Value.int .i64)=[.int .i64 (((a % 8:Nat):Int)+((a / 8:Nat):Int)),.int .i64 ((a / 8:Nat):Int),.int .i64 ((a % 8:Nat):Int)]:=by unfold kk;rw [if_neg (by decide),if_neg (by decide),if_neg h0];rfl
   repeat (first|refine WS_seq ?_|refine WS_region ?_|refine WL_nil ?_|refine WS_inBlock ?_|refine WS_skip ?_|refine WS_false rfl ?_|(refine WL_r (by first|refine k_buildA (cs:=[.int .i64 (((a % 8:Nat):Int)+((a / 8:Nat):Int)),.int .i64 ((a / 8:Nat):Int),.int .i64 ((a % 8:Nat):Int)]) (Ty.zer rfl) (Ty.arr rfl) rfl|refine (k_eql rfl rfl).is (bF h0)|refine Run_pev rfl|refine k_add64 rfl rfl (by omega)|refine k_rem rfl rfl (by omega)) rfl ?_))
   refine WL_s (H_storeA 0 (vs:=[.int .i64 (((a % 8:Nat):Int)+((a / 8:Nat):Int)),.int .i64 ((a / 8:Nat):Int),.int .i64 ((a % 8:Nat):Int)].toArray) (s:=3) hH rfl rfl rfl (by rfl) (by rfl) (by simp [Value.oneCell']) (Ty.shp rfl) ?_)
   try clear hH
   intro _ hH
   replace hH:=nn1 hH
   repeat (refine WL_nil ?_)
   exact WS_retc1 Tryz.func189 rfl rfl (hH.b 0 rfl) rfl (Ty.shp rfl) ⟨by rw [e],hH.ext⟩
set_option maxHeartbeats 4000000 in
theorem pcmp_spec {o a c b:Nat} {w:World} (ho:o<3) (ha:a<64) (hc:c<64) (hB:Blk w b 265 #[.int .u8 o]) :
  Does Tryz.prog 188 #[.int .i64 a,.int .i64 c,.pointer (some ⟨b,0,none⟩)] w fun v w'=>v=.int .i64 (cmpL (kk o a) (kk o c))∧Ext [] w w':=by
 refine Does_of (args:=[_,_,_]) Tryz.func188 rfl rfl Tryz.ntmps188 rfl ?_
 have hH:=Hp.start w
 repeat (first|refine WS_seq ?_|refine WS_region ?_|refine WL_nil ?_|(refine WL_r (by first|refine k_loadb rfl hB rfl (Ty.shp rfl)|refine Run_pev rfl) rfl ?_))
 refine WL_s (S_call ((key_spec ho ha)) rfl rfl ?_)
 rintro _ _ ⟨rfl,hE0⟩
 replace hH:=hH.ext0 hE0
 clear hE0
 replace hH:=nn0 hH
 repeat (first|refine WL_nil ?_|refine WS_block ?_|refine lp rfl rfl ?_)
 have hla:=kk_len o a
 have hlc:=kk_len o c
 have hka:=kk_le (o:=o) ha
 have hkc:=kk_le (o:=o) hc
 generalize kk o a=ka at *
 obtain ⟨kc,hkc'⟩:∃ kc,kk o c=kc:=⟨_,rfl⟩
 rw [hkc'] at hlc hkc ⊢
 refine WS_loop (G:=(Nat)) (fun i=>3-i) 268431840 (fun i=>[(12,.int .i64 i)]) (fun i w'=>i≤3∧cmpL (ka.drop i) (kc.drop i)=cmpL ka kc∧Hp [] w w' []) (0) ⟨rfl,trivial⟩ ⟨by omega,rfl,hH⟩ ?_
 rintro i w' σ ⟨hi,hd,hH⟩ IH
 show WS _ _ _ _ _ (updL [(12,.int .i64 i)] _) _
 by_cases hlt:i<3
 ·have h1:=ints_get (l:=ka) hla hlt
  have h2:=ints_get (l:=kc) hlc hlt
  have b1:=hka _ (by rw [List.getD_eq_getElem?_getD,List.getElem?_eq_getElem (by omega)];exact List.getElem_mem (by omega):ka.getD i 0∈ka)
  have b2:=hkc _ (by rw [List.getD_eq_getElem?_getD,List.getElem?_eq_getElem (by omega)];exact List.getElem_mem (by omega):kc.getD i 0∈kc)
  have e1:ka.drop i=ka.getD i 0::ka.drop (i+1):=by rw [List.drop_eq_getElem_cons (by omega),List.getD_eq_getElem?_getD,List.getElem?_eq_getElem (by omega)];rfl
  have e2:kc.drop i=kc.getD i 0::kc.drop (i+1):=by rw [List.drop_eq_getElem_cons (by omega),List.getD_eq_getElem?_getD,List.getElem?_eq_getElem (by omega)];rfl
  rw [e1,e2,cmpL] at hd
  clear e1 e2
  generalize ka.getD i 0=p at *
  generalize kc.getD i 0=q at *
  have hB2:=hB.ext0 hH.ext
  repeat (first|refine WS_seq ?_|refine WS_region ?_|refine WL_nil ?_|refine WS_block ?_|refine WS_skip ?_|refine WS_yes rfl (by omega) ?_|(refine WL_r (by first|refine k_index1 rfl rfl (Ty.arr rfl) (by omega) h1|refine k_loadb rfl hB2 rfl (Ty.shp rfl)|refine Run_pev rfl) rfl ?_))
  have hks:=key_spec (w:=w') ho hc
  rw [hkc'] at hks
  refine WL_s (S_call (hks) rfl rfl ?_)
  rintro _ _ ⟨rfl,hE0⟩
  replace hH:=hH.ext0 hE0
  clear hE0
  replace hH:=nn0 hH
  clear hB2
  by_cases hpq:p=q
  ·rw [if_pos hpq] at hd
   repeat (first|refine WS_seq ?_|refine WS_region ?_|refine WL_nil ?_|refine WS_inBlock ?_|refine WS_skip ?_|refine WS_false rfl ?_|(refine WL_r (by first|refine k_index1 rfl rfl (Ty.arr rfl) (by omega) h2|refine (k_neq rfl rfl).is (bF (fun h=>h hpq))|refine Run_pev rfl|refine k_add64 rfl rfl (by omega)) rfl ?_))
   refine IH (i+1) _ _ ?_ ?_ ?_ ?_
   ·omega
   ·exact ⟨rfl,trivial⟩
   ·repeat first|with_reducible apply Agr.refl|refine Agr.upd rfl ?_|refine Agr.updL rfl ?_|refine Agr.mrg rfl ?_
   ·exact ⟨by omega,hd,hH⟩
  ·rw [if_neg hpq] at hd
   repeat (first|refine WS_seq ?_|refine WS_region ?_|refine WL_nil ?_|refine WS_true rfl ?_|(refine WL_r (by first|refine k_index1 rfl rfl (Ty.arr rfl) (by omega) h2|refine (k_neq rfl rfl).is (bT hpq)|refine Run_pev rfl|refine k_sub64 rfl rfl (by omega)) rfl ?_))
   exact WS_ret1 Tryz.func188 rfl ⟨by rw [← hd];rfl,hH.ext⟩
 ·obtain rfl:i=3:=by omega
  rw [List.drop_of_length_le (by omega),List.drop_of_length_le (by omega)] at hd
  repeat (first|refine WS_seq ?_|refine WS_region ?_|refine WL_nil ?_|refine WS_exit rfl ?_|refine WS_false rfl ?_|refine lp rfl rfl ?_)
  exact WS_ret1 Tryz.func188 rfl ⟨by rw [← hd];rfl,hH.ext⟩
theorem swo {o:Nat}:Go.Sort.SWO (Go.Proofs.ltOf fun x y:Fin 64=>cmpL (kk o x) (kk o y)) where
 irrefl x:=by
  show decide (cmpL (kk o x) (kk o x)<0)=false
  rw [cmpL_self];rfl
 trans x y z h1 h2:=by
  unfold Go.Proofs.ltOf at *
  simp only [decide_eq_true_eq] at *
  exact cmpL_trans (by rw [kk_len,kk_len]) (by rw [kk_len,kk_len]) h1 h2
 ntrans x y z h1 h2:=by
  unfold Go.Proofs.ltOf at *
  simp only [decide_eq_false_iff_not,Int.not_lt] at *
  exact cmpL_ntrans (by rw [kk_len,kk_len]) (by rw [kk_len,kk_len]) h1 h2
theorem blk_ne' {w:World} {b b':Nat} {e e':TypeId} {cs cs':Array Value} (h:Blk w b e cs) (h':Blk w b' e' cs') (hne:e≠e'):b≠b':=fun hb=>by
 subst hb
 unfold Blk at *
 rw [h] at h'
 cases h'
 exact hne rfl
theorem sort_spec {o b b1:Nat} {w:World} (ho:o<3) (hB:Blk w b 94 (((List.range 64).map Int.ofNat).map (Value.int .i64)).toArray) (hB1:Blk w b1 265 #[.int .u8 o]) :
  Does Tryz.prog 187 #[.slice (some ⟨b,0,none⟩) 64 64,.func (.func 188) #[] #[.pointer (some ⟨b1,0,none⟩)]] w fun v w'=>v=.tuple #[] ∧
   ∃ l:List Int,l.length=64∧(∀ x∈l,0≤x∧x<64)∧Upd (Rb b 94 (((List.range 64).map Int.ofNat).map (Value.int .i64)).toArray) (Rb b 94 (l.map (Value.int .i64)).toArray) w w':=by
 obtain ⟨d,hd⟩:∃ d:Array (Fin 64),d=(List.finRange 64).toArray:=⟨_,rfl⟩
 have hds:d.size=64:=by simp [hd]
 have hdc:d.toList.map (fun i:Fin 64=>Value.int .i64 (i.val:Int))=((List.range 64).map Int.ofNat).map (Value.int .i64):=by
  rw [hd]
  apply List.ext_getElem (by simp)
  intro i h1 h2
  simp
 have hne:b1≠b:=blk_ne' hB1 hB (by decide)
 have hH:Go.Sort.Holds (fun i:Fin 64=>Value.int .i64 (i.val:Int)) w b 0 d:=by
  intro j hj
  rw [hds] at hj
  have hx:=hB.cell (o:=0+j) (v:=Value.int .i64 (d[j]!.val:Int)) (by
   rw [← hdc,Nat.zero_add]
   simp [hj,hds])
  exact ⟨hx,hB.free⟩
 have h:=Any.slices_SortFunc Tryz.sortF (fun i:Fin 64=>Value.int .i64 (i.val:Int)) (fun _=>rfl) _ (swo (o:=o)) 188 #[.pointer (some ⟨b1,0,none⟩)] b 0 64 d w
  (enters_of Tryz.func188 (by kernel_rfl) rfl) (fun m os dk hs x y=>by
   have hr:=row_after (enc:=fun i:Fin 64=>Value.int .i64 (i.val:Int)) dk m os hB
   have hc:=(pcmp_spec (o:=o) (a:=x.val) (c:=y.val) ho x.isLt y.isLt (hB1.ext hr.1 (by simpa using hne))).calls ⟨_,enters_of Tryz.func188 (by kernel_rfl) rfl _ _⟩
   exact hc.mono fun e w' ⟨v,he,hv,hE⟩=>⟨by rw [he,hv],ext_grow hE⟩) hH hB.lt (by rw [hds];decide)
 rw [hds] at h
 refine .inl ⟨enters_of Tryz.func187 (by kernel_rfl) rfl _,h.mono fun e w' ⟨he,d',n,os,hp,_,hw⟩=>⟨_,he,rfl,d'.toList.map (fun i:Fin 64=>(i.val:Int)),by simp [hp.1,hds],fun x hx=>?_,?_⟩⟩
 ·obtain ⟨i,_,rfl⟩:=List.mem_map.1 hx
  have:=i.isLt
  omega
 ·have hr:=row_after (enc:=fun i:Fin 64=>Value.int .i64 (i.val:Int)) d' n os hB
  rw [put_all (by rw [hp.1,hds];rfl)] at hr
  rw [hw]
  refine ⟨hr.1,?_,fun x hx=>.inl hx⟩
  have h2:=hr.2
  rw [show d'.toList.map (fun i:Fin 64=>Value.int .i64 (i.val:Int))=(d'.toList.map fun i:Fin 64=>(i.val:Int)).map (Value.int .i64) by rw [List.map_map];rfl] at h2
  exact h2
end Go.Proofs.YtpbiicegmcpkpaaGreat
namespace Go.Proofs.YtpbiicegmcpkpaaGreat
open Go Go.K Go.P Go.RowKit Go.Proofs
theorem put_take {α:Type} [Inhabited α] {enc:α→Value} {d:Array α} {cs:Array Value} {n:Nat} (h:d.size=n) (hn:n≤cs.size):(Go.Sort.putCells enc 0 d cs).toList.take n=d.toList.map enc:=by
 apply List.ext_getElem?
 intro k
 unfold Go.Sort.putCells
 rw [List.getElem?_take,Array.getElem?_toList,Array.getElem?_mapIdx]
 by_cases hk:k<n
 ·rw [if_pos hk,Array.getElem?_eq_getElem (by omega),Option.map_some,if_pos ⟨Nat.zero_le _,by omega⟩]
  have hk2:k<d.size:=by omega
  simp [hk2]
 ·rw [if_neg hk,List.getElem?_eq_none (by simp;omega)]
theorem sorti_spec {a:Option Addr} {n cap:Nat} {l:List Int} {w:World} (hO:Own w 3 1 a n cap (l.map (Value.int .i64))) (h1:l≠[]) (hl:l.length=n) (hn:n≤1000000) :
  Does Tryz.prog 80 #[.slice a n cap] w fun v w'=>v=.tuple #[]∧∃ l':List Int,l'.Perm l∧Upd (Ro 3 1 a n cap (l.map (Value.int .i64))) (Ro 3 1 a n cap (l'.map (Value.int .i64))) w w':=by
 subst hl
 obtain ⟨hlen,hnc,hcm,h|⟨b,cs,rfl,hB,hcs,htk⟩⟩:=hO
 ·exact absurd (List.length_eq_zero_iff.1 (by omega)) h1
 have hH:Go.Sort.Holds (Value.int .i64) w b 0 l.toArray:=by
  intro j hj
  simp only [List.size_toArray] at hj
  refine ⟨hB.cell (o:=0+j) ?_,hB.free⟩
  have h2:=congrArg (·[j]?) htk
  simp only [List.getElem?_take,Array.getElem?_toList] at h2
  rw [if_pos (by omega)] at h2
  rw [Nat.zero_add,h2]
  simp [hj]
 have h:=Any.slices_Sort_int Tryz.sortI b 0 cap l w hH hB.lt (by omega)
 refine .inl ⟨enters_of Tryz.func80 (by kernel_rfl) rfl _,h.mono fun e w' ⟨he,n,os,hw⟩=>⟨_,he,rfl,l.mergeSort (fun x y=>decide (x≤y)),List.mergeSort_perm _ _,?_⟩⟩
 have hr:=row_after (enc:=Value.int .i64) (l.mergeSort (fun x y=>decide (x≤y))).toArray n os hB
 rw [hw]
 refine ⟨hr.1,⟨?_,hnc,hcm,.inr ⟨b,_,rfl,hr.2,?_,?_⟩⟩,fun x hx=>.inl hx⟩
 ·simp
 ·simp [Go.Sort.putCells,hcs]
 ·rw [Nat.mul_one,put_take (n:=l.length) (by simp) (by omega)]
set_option maxHeartbeats 1000000 in
theorem parts4_spec {a0 b0 a1 b1 a2 b2 a3 b3:Nat} {w:World}:Does Tryz.prog 106 #[.agg #[.complex .f64 a0 b0,.complex .f64 a1 b1,.complex .f64 a2 b2,.complex .f64 a3 b3]] w fun v w'=>v=.tuple #[.int .i64 (whole a0+whole a1+whole a2+whole a3),.int .i64 (whole b0+whole b1+whole b2+whole b3)]∧Ext [] w w':=by
 refine Does_of (args:=[_]) Tryz.func106 rfl rfl Tryz.ntmps106 rfl ?_
 have hH:=Hp.start w
 repeat (first|refine WS_seq ?_|refine WS_region ?_)
 refine WL_s (H_box hH rfl rfl rfl ?_)
 clear hH
 intro _ bx hH
 replace hH:=nn1 hH
 have hB:Blk _ bx 92 #[.complex .f64 a0 b0,.complex .f64 a1 b1,.complex .f64 a2 b2,.complex .f64 a3 b3]:=hH.b 0 rfl
 repeat (first|refine WS_seq ?_|refine WS_region ?_|refine WL_nil ?_|refine WS_block ?_|(refine WL_r (by first|refine k_loadA rfl hB rfl (Ty.shp rfl)|refine Run_pev rfl) rfl ?_))
 have h1:=whole_le a0
 have h2:=whole_le a1
 have h3:=whole_le a2
 have h4:=whole_le a3
 have h5:=whole_le b0
 have h6:=whole_le b1
 have h7:=whole_le b2
 have h8:=whole_le b3
 obtain ⟨xs,hxs⟩:∃ xs:List Int,xs=[0,whole a0,whole a0+whole a1,whole a0+whole a1+whole a2,whole a0+whole a1+whole a2+whole a3]:=⟨_,rfl⟩
 obtain ⟨ys,hys⟩:∃ ys:List Int,ys=[0,whole b0,whole b0+whole b1,whole b0+whole b1+whole b2,whole b0+whole b1+whole b2+whole b3]:=⟨_,rfl⟩
 have hx0:xs.getD 0 0=0:=by rw [hxs];rfl
 have hy0:ys.getD 0 0=0:=by rw [hys];rfl
 have step:∀ k:Nat,k<4→∃ a b:Nat,(#[.complex .f64 a0 b0,.complex .f64 a1 b1,.complex .f64 a2 b2,.complex .f64 a3 b3]:Array Value)[((k:Int)).toNat]?=some (.complex .f64 a b)∧xs.getD (k+1) 0=xs.getD k 0+whole a∧ys.getD (k+1) 0=ys.getD k 0+whole b∧-256≤xs.getD k 0∧xs.getD k 0≤256∧-256≤ys.getD k 0∧ys.getD k 0≤256:=fun k hk=>by
  have:k=0∨k=1∨k=2∨k=3:=by omega
  rcases this with rfl|rfl|rfl|rfl
  ·exact ⟨a0,b0,rfl,by rw [hxs];simp,by rw [hys];simp,by rw [hxs];simp,by rw [hxs];simp,by rw [hys];simp,by rw [hys];simp⟩
  ·exact ⟨a1,b1,rfl,by rw [hxs];simp,by rw [hys];simp,by rw [hxs];simp;omega,by rw [hxs];simp;omega,by rw [hys];simp;omega,by rw [hys];simp;omega⟩
  ·exact ⟨a2,b2,rfl,by rw [hxs];simp,by rw [hys];simp,by rw [hxs];simp;omega,by rw [hxs];simp;omega,by rw [hys];simp;omega,by rw [hys];simp;omega⟩
  ·exact ⟨a3,b3,rfl,by rw [hxs];simp,by rw [hys];simp,by rw [hxs];simp;omega,by rw [hxs];simp;omega,by rw [hys];simp;omega,by rw [hys];simp;omega⟩
 have hx4:xs.getD 4 0=whole a0+whole a1+whole a2+whole a3:=by rw [hxs];rfl
 have hy4:ys.getD 4 0=whole b0+whole b1+whole b2+whole b3:=by rw [hys];rfl
 clear hxs hys
 refine WS_loop (G:=(Nat)) (fun k=>4-k) 16776940 (fun k=>[(9,.int .i64 k),(2,.int .i64 (xs.getD k 0)),(3,.int .i64 (ys.getD k 0))]) (fun k w'=>k≤4∧Ext [] w w') (0) ⟨rfl,congrArg (Value.int .i64) hx0.symm,congrArg (Value.int .i64) hy0.symm,trivial⟩ ⟨by omega,hH.ext⟩ ?_
 rintro k w' σ ⟨hk,hE⟩ IH
 show WS _ _ _ _ _ (updL [(9,.int .i64 k),(2,.int .i64 (xs.getD k 0)),(3,.int .i64 (ys.getD k 0))] _) _
 by_cases hlt:k<4
 ·obtain ⟨a,b,hv,e1,e2,g1,g2,g3,g4⟩:=step k hlt
  have ha:=whole_le a
  have hb:=whole_le b
  repeat (first|refine WS_seq ?_|refine WS_region ?_|refine WL_nil ?_|refine WS_block ?_|refine WS_skip ?_|refine WS_yes rfl (by omega) ?_|(refine WL_r (by first|refine k_index1 rfl rfl (Ty.arr rfl) (by omega) hv|refine Run_pev rfl) rfl ?_))
  refine WL_s (S_call (parts_spec) rfl rfl ?_)
  rintro v w1 ⟨rfl,rfl⟩
  repeat (first|refine WS_region ?_|refine WL_nil ?_|refine WS_inBlock ?_|(refine WL_r (by first|refine Run_pev rfl|refine k_add64 rfl rfl (by omega)|refine k_extract rfl rfl) rfl ?_))
  refine IH (k+1) _ _ ?_ ?_ ?_ ?_
  ·omega
  ·exact ⟨rfl,congrArg (Value.int .i64) e1.symm,congrArg (Value.int .i64) e2.symm,trivial⟩
  ·repeat first|with_reducible apply Agr.refl|refine Agr.upd rfl ?_|refine Agr.updL rfl ?_|refine Agr.mrg rfl ?_
  ·exact ⟨by omega,hE⟩
 ·obtain rfl:k=4:=by omega
  rw [hx4,hy4]
  repeat (first|refine WS_seq ?_|refine WS_region ?_|refine WL_nil ?_|refine WS_exit rfl ?_|refine WS_false rfl ?_|refine lp rfl rfl ?_)
  exact WS_ret2 Tryz.func106 rfl ⟨rfl,hE⟩
def nst (n:Int):Int:=if n<0 then -((4-n) / 8) else (n+4) / 8
theorem nst_le {n:Int} (h:-256≤n∧n≤256):-33≤nst n∧nst n≤33:=by unfold nst;split<;>omega
theorem nearest_spec {n:Int} {w:World} (h:-256≤n∧n≤256):Does Tryz.prog 107 #[.int .i64 n] w fun v w'=>v=.int .i64 (nst n)∧w'=w:=by
 refine Does_of (args:=[_]) Tryz.func107 rfl rfl Tryz.ntmps107 rfl ?_
 unfold nst
 by_cases h0:n<0
 ·rw [if_pos h0]
  repeat (first|refine WS_seq ?_|refine WS_region ?_|refine WL_nil ?_|refine WS_yes rfl (by omega) ?_|(refine WL_r (by first|refine k_neg64 rfl (by omega)|refine Run_pev rfl|refine k_sub64 rfl rfl (by omega)|refine k_quo64 rfl rfl (by omega)) rfl ?_))
  exact WS_ret1 Tryz.func107 rfl ⟨rfl,rfl⟩
 ·rw [if_neg h0]
  repeat (first|refine WS_seq ?_|refine WS_region ?_|refine WL_nil ?_|refine WS_skip ?_|refine WS_no rfl (by omega) ?_|(refine WL_r (by first|refine Run_pev rfl|refine k_add64 rfl rfl (by omega)|refine k_quo64 rfl rfl (by omega)) rfl ?_))
  exact WS_ret1 Tryz.func107 rfl ⟨rfl,rfl⟩
structure V4 where
 a0:Nat
 b0:Nat
 a1:Nat
 b1:Nat
 a2:Nat
 b2:Nat
 a3:Nat
 b3:Nat
abbrev V4.cells (u:V4):List Value:=[.complex .f64 u.a0 u.b0,.complex .f64 u.a1 u.b1,.complex .f64 u.a2 u.b2,.complex .f64 u.a3 u.b3]
def V4.cx (u:V4):Int:=nst (whole u.a0+whole u.a1+whole u.a2+whole u.a3)
def V4.cy (u:V4):Int:=nst (whole u.b0+whole u.b1+whole u.b2+whole u.b3)
theorem V4.le (u:V4):(-33≤u.cx∧u.cx≤33)∧(-33≤u.cy∧u.cy≤33):=by
 have h1:=whole_le u.a0
 have h2:=whole_le u.a1
 have h3:=whole_le u.a2
 have h4:=whole_le u.a3
 have h5:=whole_le u.b0
 have h6:=whole_le u.b1
 have h7:=whole_le u.b2
 have h8:=whole_le u.b3
 exact ⟨nst_le (by omega),nst_le (by omega)⟩
theorem colour_spec {u:V4} {w:World}:Does Tryz.prog 76 #[.agg u.cells.toArray] w fun v w'=>v=CV u.cx u.cy∧Ext [] w w':=by
 refine Does_of (args:=[_]) Tryz.func76 rfl rfl Tryz.ntmps76 rfl ?_
 have hH:=Hp.start w
 have h1:=whole_le u.a0
 have h2:=whole_le u.a1
 have h3:=whole_le u.a2
 have h4:=whole_le u.a3
 have h5:=whole_le u.b0
 have h6:=whole_le u.b1
 have h7:=whole_le u.b2
 have h8:=whole_le u.b3
 repeat (first|refine WS_seq ?_|refine WS_region ?_)
 refine WL_s (H_box (cs:=u.cells.toArray) hH rfl rfl rfl ?_)
 try clear hH
 intro _ b1 hH
 replace hH:=nn1 hH
 have hB:=hH.b 0 rfl
 repeat (first|refine WS_seq ?_|refine WS_region ?_|refine WL_nil ?_|(refine WL_r (by first|refine k_loadA rfl hB rfl (Ty.shp rfl)|refine Run_pev rfl) rfl ?_))
 clear hB
 refine WL_s (S_call (parts4_spec) rfl rfl ?_)
 rintro _ _ ⟨rfl,hE0⟩
 replace hH:=hH.ext0 hE0
 clear hE0
 replace hH:=nn1 hH
 repeat (first|refine WS_seq ?_|refine WS_region ?_|refine WL_nil ?_|(refine WL_r (by first|refine Run_pev rfl|refine k_extract rfl rfl) rfl ?_))
 refine WL_s (S_call ((nearest_spec (by omega))) rfl rfl ?_)
 rintro _ _ ⟨rfl,rfl⟩
 repeat (refine lp rfl rfl ?_)
 refine WL_s (S_call ((nearest_spec (by omega))) rfl rfl ?_)
 rintro _ _ ⟨rfl,rfl⟩
 skip
 refine WL_s (S_call (vof_spec) rfl rfl ?_)
 rintro _ _ ⟨rfl,rfl⟩
 repeat (first|refine WL_nil ?_|refine lp rfl rfl ?_)
 exact WS_ret1 Tryz.func76 rfl ⟨rfl,hH.ext⟩
theorem half_spec {n:Int} {w:World}:Does Tryz.prog 109 #[.int .i64 n] w fun v w'=>v=.tuple #[.int .i64 (n / 2),.int .i64 (n % 2)]∧w'=w:=by
 refine Does_of (args:=[_]) Tryz.func109 rfl rfl Tryz.ntmps109 rfl ?_
 repeat (first|refine WS_seq ?_|refine WS_region ?_|refine WL_nil ?_|(refine WL_r (by first|refine k_shrI (m:=1) rfl rfl (by decide)|refine k_andm (k:=1) rfl rfl (by decide)|refine Run_pev rfl) rfl ?_))
 exact WS_ret2 Tryz.func109 rfl ⟨rfl,rfl⟩
def sp1 (p d e:Int):Int:=min (max ((2*p+d) / 2) 0) (max (e-1) 0)
def sp2 (p d e:Int):Int:=min (max ((2*p+d) / 2+7+(2*p+d) % 2) 0) (max (e-1) 0)
theorem span_spec {p d e:Int} {w:World} (hp:0≤p∧p≤10000) (hd:-64≤d∧d≤64) (he:0≤e∧e≤10000):Does Tryz.prog 79 #[.int .i64 p,.int .i64 d,.int .i64 e] w fun v w'=>v=.tuple #[.int .i64 (sp1 p d e),.int .i64 (sp2 p d e)]∧w'=w:=by
 refine Does_of (args:=[_,_,_]) Tryz.func79 rfl rfl Tryz.ntmps79 rfl ?_
 repeat (first|refine WS_seq ?_|refine WS_region ?_|refine WL_nil ?_|(refine WL_r (by first|refine Run_pev rfl|refine k_add64 rfl rfl (by omega)|refine k_mul64 rfl rfl (by omega)) rfl ?_))
 refine WL_s (S_call (half_spec) rfl rfl ?_)
 rintro _ _ ⟨rfl,rfl⟩
 repeat (first|refine WS_seq ?_|refine WS_region ?_|refine WL_nil ?_|(refine WL_r (by first|refine Run_pev rfl|refine k_add64 rfl rfl (by omega)|refine k_sub64 rfl rfl (by omega)|refine k_min rfl rfl|refine k_max rfl rfl|refine k_extract rfl rfl) rfl ?_))
 exact WS_ret2 Tryz.func79 rfl ⟨rfl,rfl⟩
end Go.Proofs.YtpbiicegmcpkpaaGreat
