/- A part of the proof that TopWorse is true at every input; no condition. -/
import Derived.Test.YtpbiicegmcpkpaaGreatT08
namespace Go.Proofs.YtpbiicegmcpkpaaGreat
open Go Go.K Go.P Go.RowKit Go.Proofs
theorem ptrW:isPtr Tryz.prog 153=true:=by kernel_rfl
theorem ptrR:isPtr Tryz.prog 171=true:=by kernel_rfl
abbrev RBy (a:Option Addr) (c:Nat) (l:List Nat):Res:=Ro 5 1 a l.length c (l.map B)
def Rw (p:Nat) (a:Option Addr) (c:Nat) (bs:List Bool):Res:=sep (Rb p 155 #[.slice a (pk bs).length c,.int .i64 bs.length]) (RBy a c (pk bs))
abbrev pt (p:Nat):Value:=.pointer (some ⟨p,0,none⟩)
set_option maxHeartbeats 2000000 in
theorem wput_spec {p n s c:Nat} {a:Option Addr} {bs:List Bool} {sz:Int} {w:World} (hn:n<18446744073709551616) (hs:min (max sz 0) 64=(s:Int)) (hbl:bs.length≤1099511627776) (hR:(Rw p a c bs).holds w) :
  Does Tryz.prog 57 #[pt p,.int .u64 n,.int .i64 sz] w fun v w'=>v=.tuple #[]∧∃ a' c',Upd (Rw p a c bs) (Rw p a' c' (bs++nb n s)) w w':=by
 refine Does_of (args:=[_,_,_]) Tryz.func57 rfl rfl Tryz.ntmps57 rfl ?_
 have hH:=(Hp.start1 hR).split 0 rfl
 replace hH:=nn2 hH
 have hs64:s≤64:=by omega
 repeat (first|refine WS_seq ?_|refine WS_region ?_|refine WL_nil ?_|refine WS_block ?_|refine WS_skip ?_|refine WS_false rfl ?_|(refine WL_r (by first|refine k_pnil rfl rfl (.inr rfl) ptrW|refine Run_pev rfl|refine k_sub64 rfl rfl (by omega)|refine k_min rfl rfl|refine k_max rfl rfl) rfl ?_))
 refine WS_loop (G:=(Nat) × (Option Addr) × (Nat)) (fun|(i,a1,c1)=>s-i) 9223372036854767680 (fun|(i,a1,c1)=>[(6,.int .i64 ((s:Int)-i-1))]) (fun|(i,a1,c1),w'=>i≤s∧Hp (Rw p a c bs).fp w w' [Rb p 155 #[.slice a1 (pk (bs++(nb n s).take i)).length c1,.int .i64 (bs++(nb n s).take i).length],RBy a1 c1 (pk (bs++(nb n s).take i))]) (0,a,c) ⟨congrArg (Value.int .i64) (by omega),trivial⟩ ⟨by omega,by simpa using hH⟩ ?_
 rintro ⟨i,a1,c1⟩ w' σ ⟨hi,hH⟩ IH
 show WS _ _ _ _ _ (updL [(6,.int .i64 ((s:Int)-i-1))] _) _
 by_cases hlt:i<s
 ·have hbl2:(bs++(nb n s).take i).length≤1099511627776+64:=by simp [nb_len];omega
  have hnext:bs++(nb n s).take (i+1)=(bs++(nb n s).take i)++[n.testBit (s-1-i)]:=by
   rw [List.take_add_one,nb_get hlt];simp
  generalize bs++(nb n s).take i=bi at *
  have hpl:=pk_len bi
  have hp1:=pk1_len bi
  have hpb:=pk1_byt bi
  have hst:=pk_step bi (n.testBit (s-1-i))
  have hB:=hH.b 0 rfl
  repeat (first|refine WS_seq ?_|refine WS_region ?_|refine WL_nil ?_|refine WS_block ?_|refine WS_skip ?_|refine WS_yes rfl (by omega) ?_|(refine WL_r (by first|refine k_nilCheck rfl|refine k_fa rfl (Ty.fld rfl rfl)|refine k_loadb rfl hB rfl (Ty.shp rfl)|refine k_remu (n:=8) rfl rfl (by decide)|refine Run_pev rfl) rfl ?_))
  apply joinW (Z:=fun w'=>∃ a2 c2,Hp (Rw p a c bs).fp w w' [Rb p 155 #[.slice a2 (pk1 bi).length c2,.int .i64 bi.length],RBy a2 c2 (pk1 bi)])
  ·intro key
   by_cases h8:bi.length % 8=0
   ·have e1:pk1 bi=pk bi++[0]:=by unfold pk1;rw [if_pos h8]
    repeat (first|refine WS_region ?_|refine WS_yes rfl (by omega) ?_|(refine WL_r (by first|refine k_nilCheck rfl|refine k_fa rfl (Ty.fld rfl rfl)|refine k_loadb rfl hB rfl (Ty.shp rfl)|refine Run_pev rfl) rfl ?_))
    refine WL_s (H_lit (out:=[B 0]) hH (Ty.sle rfl) (Ty.zer rfl) rfl rfl rfl (by decide) rfl ?_)
    try clear hH
    intro _ b28 hH
    replace hH:=nn3 hH
    skip
    refine WL_s (H_append 1 hH rfl (Ty.sle rfl) (Ty.zer rfl) rfl (Ty.byt rfl) (by decide) rfl rfl ((hH.b 2 rfl).sl0) (by simp;try omega) (by simp) (by omega) (by simp only [maxLen];omega) rfl ?_)
    try clear hH
    intro _ a2 c2 hH
    replace hH:=nn3 hH
    repeat ((refine WL_r (by first|refine k_nilCheck rfl|refine k_fa rfl (Ty.fld rfl rfl)) rfl ?_))
    refine WL_s (H_store 0 (v:=.slice a2 ((pk bi).length+1) c2) hH rfl rfl rfl (by simp) rfl (Ty.shp rfl) ?_)
    try clear hH
    intro _ hH
    replace hH:=hH.take 2
    replace hH:=nn2 hH
    repeat (first|refine WS_seq ?_|refine WS_region ?_|refine WL_nil ?_|refine lp rfl rfl ?_)
    apply WL_keepM 9223372036854767680 [(6,.int .i64 ((s:Int)-i-1)),(32,.int .u64 n),(33,.int .i64 ((s:Int)-i-1))]
    ·exact ⟨rfl,rfl,rfl,trivial⟩
    ·repeat (first|((with_reducible apply Agr.upd);· exact rfl)|((with_reducible apply Agr.consL);· exact rfl)|(with_reducible apply Agr.nilL)|((with_reducible apply Agr.mrg);(· exact rfl);apply Agr.refl))
    intro σ
    refine key σ _ ⟨a2,c2,?_⟩
    rw [RBy,e1]
    simpa using hH
   ·have e1:pk1 bi=pk bi:=by unfold pk1;rw [if_neg h8]
    repeat (first|refine WS_seq ?_|refine WS_region ?_|refine WS_skip ?_|refine WS_no rfl (by omega) ?_|refine lp rfl rfl ?_)
    apply WL_keepM 9223372036854767680 [(6,.int .i64 ((s:Int)-i-1)),(32,.int .u64 n),(33,.int .i64 ((s:Int)-i-1))]
    ·exact ⟨rfl,rfl,rfl,trivial⟩
    ·repeat (first|((with_reducible apply Agr.upd);· exact rfl)|((with_reducible apply Agr.consL);· exact rfl)|(with_reducible apply Agr.nilL)|((with_reducible apply Agr.mrg);(· exact rfl);apply Agr.refl))
    intro σ
    refine key σ _ ⟨a1,c1,?_⟩
    rw [e1];exact hH
  rintro σ2 w2 ⟨a2,c2,hH⟩
  have hB:=hH.b 0 rfl
  have hO:=hH.o 1 rfl
  have hbit:(n / 2 ^ (s-1-i) &&& 1=1) ↔ n.testBit (s-1-i)=true:=by
   rw [Nat.and_one_is_mod,Nat.testBit_eq_decide_div_mod_eq];simp
  have hsh:(((s:Int)-i-1))=((s-1-i:Nat):Int):=by omega
  rw [hsh]
  have hq:n / 2 ^ (s-1-i)<18446744073709551616:=Nat.lt_of_le_of_lt (Nat.div_le_self _ _) hn
  repeat (first|refine WL_nil ?_|(refine WL_r (by first|refine k_shr rfl rfl (fit64 hn)|refine k_and (n:=1) rfl rfl (fit64 hq) rfl|refine Run_pev rfl) rfl ?_))
  apply joinW (Z:=fun w'=>∃ a2 c2,Hp (Rw p a c bs).fp w w' [Rb p 155 #[.slice a2 (pk (bi++[n.testBit (s-1-i)])).length c2,.int .i64 bi.length],RBy a2 c2 (pk (bi++[n.testBit (s-1-i)]))])
  ·intro key
   refine WS_ite rfl (fun h1=>?_) (fun h1=>?_)
   ·have hb1:n.testBit (s-1-i)=true:=hbit.1 (by omega)
    rw [hb1] at hst
    rw [if_pos rfl] at hst
    have hv:((pk1 bi).map B)[((bi.length:Int) / 8).toNat]?=some (B ((pk1 bi).getD (bi.length / 8) 0)):=by
     rw [show ((bi.length:Int) / 8).toNat=bi.length / 8 by omega,List.getElem?_map,List.getD_eq_getElem?_getD,List.getElem?_eq_getElem (by omega)];rfl
    have hob:(pk1 bi).getD (bi.length / 8) 0<256:=by
     rw [List.getD_eq_getElem?_getD,List.getElem?_eq_getElem (by omega)];exact hpb _ (List.getElem_mem _)
    have h128:128 / 2 ^ (bi.length % 8)<256:=Nat.lt_of_le_of_lt (Nat.div_le_self _ _) (by decide)
    have hln:((pk1 bi).map B).length=(pk1 bi).length:=by simp
    skip
    refine WS_tail Ty.mixed 18 rfl (by kernel_rfl) rfl (fun w1 hx1=>?_)
    refine wp 0 hx1 rfl rfl rfl rfl ?_
    refine wt 1 hx1 rfl rfl rfl (fun w' hw'=>by refine k_nilCheck rfl) ?_
    refine wt 2 hx1 rfl rfl rfl (fun w' hw'=>by refine k_fa rfl (Ty.fld rfl rfl)) ?_
    refine wt 3 hx1 rfl rfl rfl (fun w' hw'=>by refine k_loadb rfl (hB.ext0 hw') rfl (Ty.shp rfl)) ?_
    refine wp 4 hx1 rfl rfl rfl rfl ?_
    refine wt 5 hx1 rfl rfl rfl (fun w' hw'=>by refine k_nilCheck rfl) ?_
    refine wt 6 hx1 rfl rfl rfl (fun w' hw'=>by refine k_fa rfl (Ty.fld rfl rfl)) ?_
    refine wt 7 hx1 rfl rfl rfl (fun w' hw'=>by refine k_loadb rfl (hB.ext0 hw') rfl (Ty.shp rfl)) ?_
    refine wt 8 hx1 rfl rfl rfl (fun w' hw'=>by refine k_quo64 rfl rfl (by omega)) ?_
    refine wt 9 hx1 rfl rfl rfl (fun w' hw'=>by refine k_ix1 rfl rfl (hO.sl.ext0 hw') hln (Ty.sle rfl) (by omega)) ?_
    refine wt 10 hx1 rfl rfl rfl (fun w' hw'=>by refine k_loads rfl (hO.sl.ext0 hw') hv (Ty.shp rfl)) ?_
    refine wp 11 hx1 rfl rfl rfl rfl ?_
    refine wt 12 hx1 rfl rfl rfl (fun w' hw'=>by refine k_nilCheck rfl) ?_
    refine wt 13 hx1 rfl rfl rfl (fun w' hw'=>by refine k_fa rfl (Ty.fld rfl rfl)) ?_
    refine wt 14 hx1 rfl rfl rfl (fun w' hw'=>by refine k_loadb rfl (hB.ext0 hw') rfl (Ty.shp rfl)) ?_
    refine wt 15 hx1 rfl rfl rfl (fun w' hw'=>by refine k_remu (n:=8) rfl rfl (by decide)) ?_
    refine wt 16 hx1 rfl rfl rfl (fun w' hw'=>by refine k_shr (m:=128) rfl rfl rfl) ?_
    refine wt 17 hx1 rfl rfl rfl (fun w' hw'=>by refine k_or rfl rfl (fit8 hob) (fit8 h128)) ?_
    refine WA_done (by kernel_rfl) ?_
    replace hH:=hH.ext0 hx1
    have hO2:=(hH.o 1 rfl).sl
    repeat ((refine WL_r (by refine k_ix1 rfl rfl hO2 hln (Ty.sle rfl) (by omega)) rfl ?_))
    refine WL_s (H_storeO 1 (v:=B ((pk1 bi).getD (bi.length / 8) 0 ||| 128 / 2 ^ (bi.length % 8))) hH rfl rfl rfl (by omega) rfl (Ty.shp rfl) ?_)
    try clear hH
    intro _ hH
    replace hH:=nn2 hH
    rw [← List.map_set,show ((bi.length:Int) / 8).toNat=bi.length / 8 by omega,← hst] at hH
    repeat (first|refine WS_region ?_|refine WL_nil ?_|refine lp rfl rfl ?_)
    apply WL_keepM 9223372036854767680 [(6,.int .i64 ((s-1-i:Nat):Int)),(56,pt p),(57,pt p)]
    ·exact ⟨rfl,rfl,rfl,trivial⟩
    ·repeat (first|((with_reducible apply Agr.upd);· exact rfl)|((with_reducible apply Agr.consL);· exact rfl)|(with_reducible apply Agr.nilL)|((with_reducible apply Agr.mrg);(· exact rfl);apply Agr.refl)|(apply Agr.updo;· exact rfl))
    intro σ
    refine key σ _ ⟨a2,c2,?_⟩
    have hl2:(pk (bi++[true])).length=(pk1 bi).length:=by rw [hst,List.length_set]
    rw [hb1,RBy,hl2]
    exact hH
   ·have hb0:n.testBit (s-1-i)=false:=by
     cases hb:n.testBit (s-1-i) with
     | false=>rfl
     | true=>exact absurd (hbit.2 hb) (by omega)
    rw [hb0] at hst
    simp only [Bool.false_eq_true,if_false] at hst
    repeat (first|refine WS_region ?_|refine WS_skip ?_|refine lp rfl rfl ?_)
    apply WL_keepM 9223372036854767680 [(6,.int .i64 ((s-1-i:Nat):Int)),(56,pt p),(57,pt p)]
    ·exact ⟨rfl,rfl,rfl,trivial⟩
    ·repeat (first|((with_reducible apply Agr.upd);· exact rfl)|((with_reducible apply Agr.consL);· exact rfl)|(with_reducible apply Agr.nilL)|((with_reducible apply Agr.mrg);(· exact rfl);apply Agr.refl))
    intro σ
    refine key σ _ ⟨a2,c2,?_⟩
    rw [hb0,hst]
    exact hH
  rintro σ3 w3 ⟨a3,c3,hH⟩
  have hB:=hH.b 0 rfl
  repeat ((refine WL_r (by first|refine k_nilCheck rfl|refine k_fa rfl (Ty.fld rfl rfl)|refine k_loadb rfl hB rfl (Ty.shp rfl)|refine k_add64 rfl rfl (by omega)) rfl ?_))
  refine WL_s (H_store 0 (v:=.int .i64 ((bi.length:Int)+1)) hH rfl rfl rfl (by simp) rfl (Ty.shp rfl) ?_)
  intro _ hH
  replace hH:=nn2 hH
  repeat (first|refine WS_region ?_|refine WL_nil ?_|refine WS_inBlock ?_|(refine WL_r (by first|refine Run_pev rfl|refine k_sub64 rfl rfl (by omega)) rfl ?_))
  refine IH (i+1,a3,c3) _ _ ?_ ?_ ?_ ?_
  ·simp only;omega
  ·exact ⟨congrArg (Value.int .i64) (by omega),trivial⟩
  ·repeat first|with_reducible apply Agr.refl|refine Agr.upd rfl ?_|refine Agr.updL rfl ?_|refine Agr.mrg rfl ?_
  ·exact ⟨by omega,by rw [hnext,show ((bi++[n.testBit (s-1-i)]).length:Int)=(bi.length:Int)+1 by simp];exact hH⟩
 ·obtain rfl:i=s:=by omega
  rw [List.take_of_length_le (by rw [nb_len];omega)] at hH
  have hH2:=hH.merge 0 1 rfl rfl (by decide)
  repeat (first|refine WS_seq ?_|refine WS_region ?_|refine WL_nil ?_|refine WS_exit rfl ?_|refine WS_no rfl (by omega) ?_|refine lp rfl rfl ?_)
  exact WS_end0 Tryz.func57 rfl ⟨rfl,a1,c1,hH2.upd 0 rfl⟩
theorem wlen_spec {p c:Nat} {a:Option Addr} {bs:List Bool} {w:World} (hR:(Rw p a c bs).holds w):Does Tryz.prog 70 #[pt p] w fun v w'=>v=.int .i64 bs.length∧w'=w:=by
 refine Does_of (args:=[_]) Tryz.func70 rfl rfl Tryz.ntmps70 rfl ?_
 have hB:Blk w p 155 #[.slice a (pk bs).length c,.int .i64 bs.length]:=hR.1
 repeat (first|refine WS_seq ?_|refine WS_region ?_|refine WL_nil ?_|refine WS_skip ?_|refine WS_false rfl ?_|(refine WL_r (by first|refine k_nilCheck rfl|refine k_fa rfl (Ty.fld rfl rfl)|refine k_pnil rfl rfl (.inr rfl) ptrW|refine k_loadb rfl hB rfl (Ty.shp rfl)|refine Run_pev rfl) rfl ?_))
 exact WS_ret1 Tryz.func70 rfl ⟨rfl,rfl⟩
theorem wbytes_spec {p c:Nat} {a:Option Addr} {bs:List Bool} {w:World} (hR:(Rw p a c bs).holds w) (hbl:bs.length≤1099511627776):Does Tryz.prog 68 #[pt p] w fun v w'=>∃ a' c',v=.slice a' (pk bs).length c'∧New (RBy a' c' (pk bs)) w w':=by
 refine Does_of (args:=[_]) Tryz.func68 rfl rfl Tryz.ntmps68 rfl ?_
 have hB:Blk w p 155 #[.slice a (pk bs).length c,.int .i64 bs.length]:=hR.1
 have hO:SlA w a ((pk bs).map B):=(hR.2.1:Own _ _ _ _ _ _ _).sl
 have hH:=Hp.start w
 have hpl:=pk_len bs
 repeat (first|refine WS_seq ?_|refine WS_region ?_|refine WL_nil ?_|refine WS_skip ?_|refine WS_false rfl ?_|(refine WL_r (by first|refine k_pnil rfl rfl (.inr rfl) ptrW|refine Run_pev rfl) rfl ?_))
 refine WL_s (H_lit (out:=[]) hH (Ty.sle rfl) (Ty.zer rfl) rfl rfl rfl (by decide) rfl ?_)
 try clear hH
 intro _ b5 hH
 replace hH:=nn1 hH
 have hB2:=hB.ext0 hH.ext
 repeat ((refine WL_r (by first|refine k_nilCheck rfl|refine k_fa rfl (Ty.fld rfl rfl)|refine k_loadb rfl hB2 rfl (Ty.shp rfl)|refine Run_pev rfl) rfl ?_))
 replace hH:Hp [] w _ [Ro 5 1 (some ⟨b5,0,none⟩) 0 0 []]:=hH.as 0 rfl (fun _ h=>h) (fun h=>(h:Blk _ _ _ _).own (n:=0) (sz:=1) rfl (by decide))
 refine WL_s (H_append 0 hH rfl (Ty.sle rfl) (Ty.zer rfl) rfl (Ty.byt rfl) (by decide) rfl rfl (hH.old hO) (by simp;try omega) (by simp) (by omega) (by simp only [maxLen];omega) rfl ?_)
 try clear hH
 intro _ a2 c2 hH
 replace hH:=nn1 hH
 repeat (first|refine WL_nil ?_|refine lp rfl rfl ?_)
 refine WS_ret1 Tryz.func68 rfl ⟨a2,c2,congrArg (fun n=>Value.slice a2 n c2) (Nat.zero_add _),(hH.new1 0 rfl).as (fun _ h=>h) (fun h=>?_)⟩
 simpa [RBy,Ro] using h
theorem wflag_spec {p c:Nat} {a:Option Addr} {bs:List Bool} {b:Bool} {w:World} (hbl:bs.length≤1099511627776) (hR:(Rw p a c bs).holds w):Does Tryz.prog 58 #[pt p,.bool b] w fun v w'=>v=.tuple #[]∧∃ a' c',Upd (Rw p a c bs) (Rw p a' c' (bs++[b])) w w':=by
 refine Does_of (args:=[_,_]) Tryz.func58 rfl rfl Tryz.ntmps58 rfl ?_
 cases b with
 | true =>
  repeat (first|refine WS_seq ?_|refine WS_region ?_|refine WL_nil ?_|refine WS_true rfl ?_|refine lp rfl rfl ?_)
  refine WL_s (S_call (wput_spec (n:=1) (s:=1) (by decide) (by decide) hbl hR) rfl rfl ?_)
  rintro v w1 ⟨rfl,a',c',hU⟩
  repeat (refine WL_nil ?_)
  exact WS_end0 Tryz.func58 rfl ⟨rfl,a',c',hU⟩
 | false =>
  repeat (first|refine WS_seq ?_|refine WS_region ?_|refine WL_nil ?_|refine WS_skip ?_|refine WS_false rfl ?_|refine lp rfl rfl ?_)
  refine WL_s (S_call (wput_spec (n:=0) (s:=1) (by decide) (by decide) hbl hR) rfl rfl ?_)
  rintro v w1 ⟨rfl,a',c',hU⟩
  repeat (refine WL_nil ?_)
  exact WS_end0 Tryz.func58 rfl ⟨rfl,a',c',hU⟩
def Rr (p:Nat) (a:Option Addr) (c:Nat) (l:List Nat) (at' e:Nat) (en:Bool):Res:=sep (Rb p 214 #[.slice a l.length c,.int .i64 at',.int .i64 e,.bool en]) (RBy a c l)
def Rd (p:Nat) (a:Option Addr) (c:Nat) (s:RS):Res:=⟨[p]++blk a,fun w=>∃ l at' e,(Rr p a c l at' e s.ended).holds w∧at'≤e∧e≤8*l.length∧l.length≤1099511627776∧Byt l∧s.rest=bl l at' e,
 fun h hE hS=>by obtain ⟨l,at',e,hR,hr⟩:=h;exact ⟨l,at',e,(Rr p a c l at' e _).keep hR hE hS,hr⟩,fun h x hx=>by obtain ⟨l,at',e,hR,hr⟩:=h;exact (Rr p a c l at' e _).lt hR x hx⟩
def Rq (p:Nat) (a:Option Addr) (c:Nat) (l:List Nat) (e:Nat) (s:RS):Res:=⟨[p]++blk a,fun w=>∃ at',(Rr p a c l at' e s.ended).holds w∧at'≤e∧e≤8*l.length∧l.length≤1099511627776∧Byt l∧s.rest=bl l at' e,
 fun h hE hS=>by obtain ⟨at',hR,hr⟩:=h;exact ⟨at',(Rr p a c l at' e _).keep hR hE hS,hr⟩,fun h x hx=>by obtain ⟨at',hR,hr⟩:=h;exact (Rr p a c l at' e _).lt hR x hx⟩
theorem Rq.rd {p c e:Nat} {a:Option Addr} {l:List Nat} {s:RS} {w:World} (h:(Rq p a c l e s).holds w):(Rd p a c s).holds w:=by
 obtain ⟨at',h⟩:=h
 exact ⟨l,at',e,h⟩
theorem Rq.upd {p c e:Nat} {a:Option Addr} {l:List Nat} {s s':RS} {w w':World} (h:Upd (Rq p a c l e s) (Rq p a c l e s') w w'):Upd (Rd p a c s) (Rd p a c s') w w':=⟨h.ext,Rq.rd h.holds,h.fp⟩
theorem Rd.q {p c:Nat} {a:Option Addr} {s:RS} {w:World} (h:(Rd p a c s).holds w):∃ l e,(Rq p a c l e s).holds w:=by
 obtain ⟨l,at',e,h⟩:=h
 exact ⟨l,e,at',h⟩
theorem Rq.up {p c at' at2 e:Nat} {a:Option Addr} {l:List Nat} {en:Bool} {s s':RS} {w w':World} (h:Upd (Rr p a c l at' e en) (Rr p a c l at2 e s'.ended) w w') (h1:at2≤e∧e≤8*l.length∧l.length≤1099511627776∧Byt l∧s'.rest=bl l at2 e):Upd (Rq p a c l e s) (Rq p a c l e s') w w' :=
 ⟨h.ext,⟨at2,h.holds,h1⟩,h.fp⟩
theorem rended_spec {p c:Nat} {a:Option Addr} {s:RS} {w:World} (hR:(Rd p a c s).holds w):Does Tryz.prog 103 #[pt p] w fun v w'=>v=.bool s.ended∧w'=w:=by
 obtain ⟨l,at',e,hR,hr⟩:=hR
 refine Does_of (args:=[_]) Tryz.func103 rfl rfl Tryz.ntmps103 rfl ?_
 have hB:Blk w p 214 #[.slice a l.length c,.int .i64 at',.int .i64 e,.bool s.ended]:=hR.1
 repeat (first|refine WS_seq ?_|refine WS_region ?_|refine WL_nil ?_|refine WL_gyes rfl rfl rfl ?_|(refine WL_r (by first|refine k_nilCheck rfl|refine k_fa rfl (Ty.fld rfl rfl)|refine k_pnil rfl rfl (.inr rfl) ptrR|refine k_loadb rfl hB rfl (Ty.shp rfl)|refine Run_pev rfl) rfl ?_))
 exact WS_ret1 Tryz.func103 rfl ⟨rfl,rfl⟩
def rend (s:RS):Nat:=if s.ended then 3 else if s.rest=[] then 0 else 13
theorem rend_spec {p c:Nat} {a:Option Addr} {s:RS} {w:World} (hR:(Rd p a c s).holds w):Does Tryz.prog 144 #[pt p] w fun v w'=>v=.int .i64 (rend s)∧Ext [] w w':=by
 obtain ⟨l,at',e,hR,h1,h2,h3,h4,h5⟩:=hR
 refine Does_of (args:=[_]) Tryz.func144 rfl rfl Tryz.ntmps144 rfl ?_
 have hB:Blk w p 214 #[.slice a l.length c,.int .i64 at',.int .i64 e,.bool s.ended]:=hR.1
 have hsl:s.rest.length=e-at':=by rw [h5,bl_len]
 unfold rend
 cases hse:s.ended with
 | true =>
  rw [hse] at hB
  repeat (first|refine WS_seq ?_|refine WS_region ?_|refine WL_nil ?_|refine WS_block ?_|refine WS_true rfl ?_|refine WS_false rfl ?_|(refine WL_r (by first|refine k_nilCheck rfl|refine k_fa rfl (Ty.fld rfl rfl)|refine k_pnil rfl rfl (.inr rfl) ptrR|refine k_loadb rfl hB rfl (Ty.shp rfl)|refine Run_pev rfl) rfl ?_))
  exact WS_ret1 Tryz.func144 rfl ⟨rfl,.refl⟩
 | false =>
  rw [hse] at hB
  repeat (first|refine WS_seq ?_|refine WS_region ?_|refine WL_nil ?_|refine WS_block ?_|refine WS_false rfl ?_|(refine WL_r (by first|refine k_nilCheck rfl|refine k_fa rfl (Ty.fld rfl rfl)|refine k_pnil rfl rfl (.inr rfl) ptrR|refine k_loadb rfl hB rfl (Ty.shp rfl)|refine Run_pev rfl) rfl ?_))
  refine WS_drawE Ty.mixed 10 rfl (fun w1 hx1=>?_)
  refine wp 0 hx1 rfl rfl rfl rfl ?_
  refine wt 1 hx1 rfl rfl rfl (fun w' hw'=>by refine k_nilCheck rfl) ?_
  refine wt 2 hx1 rfl rfl rfl (fun w' hw'=>by refine k_fa rfl (Ty.fld rfl rfl)) ?_
  refine wt 3 hx1 rfl rfl rfl (fun w' hw'=>by refine k_loadb rfl (hB.ext0 hw') rfl (Ty.shp rfl)) ?_
  refine wp 4 hx1 rfl rfl rfl rfl ?_
  refine wt 5 hx1 rfl rfl rfl (fun w' hw'=>by refine k_nilCheck rfl) ?_
  refine wt 6 hx1 rfl rfl rfl (fun w' hw'=>by refine k_fa rfl (Ty.fld rfl rfl)) ?_
  refine wt 7 hx1 rfl rfl rfl (fun w' hw'=>by refine k_loadb rfl (hB.ext0 hw') rfl (Ty.shp rfl)) ?_
  refine wp 8 hx1 rfl rfl rfl rfl ?_
  refine wp 9 hx1 rfl rfl rfl rfl ?_
  refine WA_done (by kernel_rfl) ?_
  by_cases he:at'<e
  ·have hne:s.rest≠[]:=fun h=>by rw [h] at hsl;simp at hsl;omega
   repeat (first|refine WS_seq ?_|refine WS_region ?_|refine WL_nil ?_|refine WS_yes rfl (by omega) ?_|refine lp rfl rfl ?_)
   exact WS_ret1 Tryz.func144 rfl ⟨congrArg (Value.int .i64) (by simp [hne]),hx1⟩
  ·have hne:s.rest=[]:=List.eq_nil_of_length_eq_zero (by omega)
   repeat (first|refine WS_seq ?_|refine WS_region ?_|refine WL_nil ?_|refine WS_inBlock ?_|refine WS_skip ?_|refine WS_no rfl (by omega) ?_|refine lp rfl rfl ?_)
   exact WS_ret1 Tryz.func144 rfl ⟨congrArg (Value.int .i64) (by simp [hne]),hx1⟩
theorem rfailQ {p c e:Nat} {a:Option Addr} {l:List Nat} {s:RS} {w:World} (hR:(Rq p a c l e s).holds w):Does Tryz.prog 175 #[pt p] w fun v w'=>v=.tuple #[]∧Upd (Rq p a c l e s) (Rq p a c l e ⟨s.rest,true⟩) w w':=by
 obtain ⟨at',hR,hr⟩:=hR
 refine Does_of (args:=[_]) Tryz.func175 rfl rfl Tryz.ntmps175 rfl ?_
 have hH:=(Hp.start1 hR).split 0 rfl
 replace hH:=nn2 hH
 repeat (first|refine WS_seq ?_|refine WS_region ?_|refine WL_nil ?_|refine WS_true rfl ?_|(refine WL_r (by first|refine k_nilCheck rfl|refine k_fa rfl (Ty.fld rfl rfl)|refine k_pnnil rfl rfl (.inr rfl) ptrR|refine Run_pev rfl) rfl ?_))
 refine WL_s (H_store 0 (v:=.bool true) hH rfl rfl rfl (by simp) rfl (Ty.shp rfl) ?_)
 try clear hH
 intro _ hH
 replace hH:=nn2 hH
 replace hH:=hH.merge 0 1 rfl rfl (by decide)
 repeat (refine WL_nil ?_)
 exact WS_end0 Tryz.func175 rfl ⟨rfl,Rq.up (at2:=at') (hH.upd 0 rfl) hr⟩
theorem rfail_spec {p c:Nat} {a:Option Addr} {s:RS} {w:World} (hR:(Rd p a c s).holds w):Does Tryz.prog 175 #[pt p] w fun v w'=>v=.tuple #[]∧Upd (Rd p a c s) (Rd p a c ⟨s.rest,true⟩) w w':=by
 obtain ⟨l,e,h⟩:=Rd.q hR
 exact (rfailQ h).mono (fun v w' h=>⟨h.1,Rq.upd h.2⟩)
theorem bit_val {l:List Nat} {at':Nat}:((l.getD (at' / 8) 0) / 2 ^ (7-at' % 8)) &&& 1=(bitAt l at').toNat:=by
 unfold bitAt
 rw [Nat.and_one_is_mod,Nat.testBit_eq_decide_div_mod_eq]
 generalize l.getD (at' / 8) 0 / 2 ^ (7-at' % 8)=x
 have:=Nat.mod_two_eq_zero_or_one x
 rcases this with h|h<;>simp [h]
set_option maxHeartbeats 1000000 in
theorem rbitQ {p c e:Nat} {a:Option Addr} {l:List Nat} {s:RS} {w:World} (hR:(Rq p a c l e s).holds w):Does Tryz.prog 102 #[pt p] w fun v w'=>v=.int .u64 (rbit s).1.toNat∧Upd (Rq p a c l e s) (Rq p a c l e (rbit s).2) w w':=by
 have hR0:=hR
 obtain ⟨at',hR,h1,h2,h3,h4,h5⟩:=hR
 refine Does_of (args:=[_]) Tryz.func102 rfl rfl Tryz.ntmps102 rfl ?_
 have hH:=(Hp.start1 hR).split 0 rfl
 replace hH:=nn2 hH
 have hB:Blk w p 214 #[.slice a l.length c,.int .i64 at',.int .i64 e,.bool s.ended]:=hR.1
 obtain ⟨rest,en⟩:=s
 simp only at h5 hB hR
 cases en with
 | true =>
  repeat (first|refine WS_seq ?_|refine WS_region ?_|refine WL_nil ?_|refine WS_true rfl ?_|refine WL_gyes rfl rfl rfl ?_|(refine WL_r (by first|refine k_nilCheck rfl|refine k_fa rfl (Ty.fld rfl rfl)|refine k_pnil rfl rfl (.inr rfl) ptrR|refine k_loadb rfl hB rfl (Ty.shp rfl)|refine Run_pev rfl) rfl ?_))
  exact WS_ret1 Tryz.func102 rfl ⟨rfl,Upd.same hR0 .refl⟩
 | false =>
  repeat (first|refine WS_seq ?_|refine WS_region ?_|refine WL_nil ?_|refine WS_skip ?_|refine WS_false rfl ?_|refine WL_gyes rfl rfl rfl ?_|(refine WL_r (by first|refine k_nilCheck rfl|refine k_fa rfl (Ty.fld rfl rfl)|refine k_pnil rfl rfl (.inr rfl) ptrR|refine k_loadb rfl hB rfl (Ty.shp rfl)|refine Run_pev rfl) rfl ?_))
  refine WS_drawE Ty.mixed 9 rfl (fun w1 hx1=>?_)
  refine wp 0 hx1 rfl rfl rfl rfl ?_
  refine wt 1 hx1 rfl rfl rfl (fun w' hw'=>by refine k_nilCheck rfl) ?_
  refine wt 2 hx1 rfl rfl rfl (fun w' hw'=>by refine k_fa rfl (Ty.fld rfl rfl)) ?_
  refine wt 3 hx1 rfl rfl rfl (fun w' hw'=>by refine k_loadb rfl (hB.ext0 hw') rfl (Ty.shp rfl)) ?_
  refine wp 4 hx1 rfl rfl rfl rfl ?_
  refine wt 5 hx1 rfl rfl rfl (fun w' hw'=>by refine k_nilCheck rfl) ?_
  refine wt 6 hx1 rfl rfl rfl (fun w' hw'=>by refine k_fa rfl (Ty.fld rfl rfl)) ?_
  refine wt 7 hx1 rfl rfl rfl (fun w' hw'=>by refine k_loadb rfl (hB.ext0 hw') rfl (Ty.shp rfl)) ?_
  refine wp 8 hx1 rfl rfl rfl rfl ?_
  refine WA_done (by kernel_rfl) ?_
  replace hH:=hH.ext0 hx1
  by_cases he:e≤at'
  ·have hr:rest=[]:=by rw [h5];exact bl_nil he
   subst hr
   repeat (first|refine WS_seq ?_|refine WS_region ?_|refine WS_yes rfl (by omega) ?_|(refine WL_r (by first|refine k_nilCheck rfl|refine k_fa rfl (Ty.fld rfl rfl)|refine Run_pev rfl) rfl ?_))
   refine WL_s (H_store 0 (v:=.bool true) hH rfl rfl rfl (by simp) rfl (Ty.shp rfl) ?_)
   try clear hH
   intro _ hH
   replace hH:=nn2 hH
   replace hH:=hH.merge 0 1 rfl rfl (by decide)
   repeat (first|refine WS_seq ?_|refine WS_region ?_|refine WL_nil ?_|refine lp rfl rfl ?_)
   exact WS_ret1 Tryz.func102 rfl ⟨rfl,Rq.up (at2:=at') (hH.upd 0 rfl) ⟨h1,h2,h3,h4,h5⟩⟩
  ·have hr:rest=bitAt l at'::bl l (at'+1) e:=by rw [h5];exact bl_cons (by omega)
   subst hr
   have hlb:l.getD (at' / 8) 0<256:=by
    rw [List.getD_eq_getElem?_getD,List.getElem?_eq_getElem (by omega)];exact h4 _ (List.getElem_mem _)
   have hv:(l.map B)[((at':Int) / 8).toNat]?=some (B (l.getD (at' / 8) 0)):=by
    rw [show ((at':Int) / 8).toNat=at' / 8 by omega,List.getElem?_map,List.getD_eq_getElem?_getD,List.getElem?_eq_getElem (by omega)];rfl
   have hq:l.getD (at' / 8) 0 / 2 ^ (7-at' % 8)<256:=Nat.lt_of_le_of_lt (Nat.div_le_self _ _) hlb
   have hO:=(hH.o 1 rfl).sl
   have hB1:=hH.b 0 rfl
   have hsub:7-(at':Int) % 8=((7-at' % 8:Nat):Int):=by omega
   have hbv:=bit_val (l:=l) (at':=at')
   repeat (first|refine WS_seq ?_|refine WS_skip ?_|refine WS_no rfl (by omega) ?_)
   refine WS_drawE Ty.mixed 21 rfl (fun w1 hx1=>?_)
   refine wp 0 hx1 rfl rfl rfl rfl ?_
   refine wt 1 hx1 rfl rfl rfl (fun w' hw'=>by refine k_nilCheck rfl) ?_
   refine wt 2 hx1 rfl rfl rfl (fun w' hw'=>by refine k_fa rfl (Ty.fld rfl rfl)) ?_
   refine wt 3 hx1 rfl rfl rfl (fun w' hw'=>by refine k_loadb rfl (hB1.ext0 hw') rfl (Ty.shp rfl)) ?_
   refine wp 4 hx1 rfl rfl rfl rfl ?_
   refine wt 5 hx1 rfl rfl rfl (fun w' hw'=>by refine k_nilCheck rfl) ?_
   refine wt 6 hx1 rfl rfl rfl (fun w' hw'=>by refine k_fa rfl (Ty.fld rfl rfl)) ?_
   refine wt 7 hx1 rfl rfl rfl (fun w' hw'=>by refine k_loadb rfl (hB1.ext0 hw') rfl (Ty.shp rfl)) ?_
   refine wt 8 hx1 rfl rfl rfl (fun w' hw'=>by refine k_quo64 rfl rfl (by omega)) ?_
   refine wt 9 hx1 rfl rfl rfl (fun w' hw'=>by refine k_ix1 rfl rfl (hO.ext0 hw') (by simp) (Ty.sle rfl) (by omega)) ?_
   refine wt 10 hx1 rfl rfl rfl (fun w' hw'=>by refine k_loads rfl (hO.ext0 hw') hv (Ty.shp rfl)) ?_
   refine wp 11 hx1 rfl rfl rfl rfl ?_
   refine wt 12 hx1 rfl rfl rfl (fun w' hw'=>by refine k_nilCheck rfl) ?_
   refine wt 13 hx1 rfl rfl rfl (fun w' hw'=>by refine k_fa rfl (Ty.fld rfl rfl)) ?_
   refine wt 14 hx1 rfl rfl rfl (fun w' hw'=>by refine k_loadb rfl (hB1.ext0 hw') rfl (Ty.shp rfl)) ?_
   refine wt 15 hx1 rfl rfl rfl (fun w' hw'=>by refine k_rem rfl rfl (by omega)) ?_
   refine wt 16 hx1 rfl rfl rfl (fun w' hw'=>by refine (k_sub64 (m:=7) (n:=(at':Int) % 8) rfl rfl (by omega)).is (congrArg (Value.int .i64) hsub)) ?_
   refine wt 17 hx1 rfl rfl rfl (fun w' hw'=>by refine k_shr rfl rfl (fit8 hlb)) ?_
   refine wt 18 hx1 rfl rfl rfl (fun w' hw'=>by refine k_conv64 rfl rfl rfl (by omega)) ?_
   refine wt 19 hx1 rfl rfl rfl (fun w' hw'=>by refine k_and (n:=1) rfl rfl (fit64 (by omega)) rfl) ?_
   refine wp 20 hx1 rfl rfl rfl rfl ?_
   refine WA_done (by kernel_rfl) ?_
   replace hH:=hH.ext0 hx1
   have hB2:=hH.b 0 rfl
   repeat (first|refine WS_seq ?_|refine WS_region ?_|(refine WL_r (by first|refine k_nilCheck rfl|refine k_fa rfl (Ty.fld rfl rfl)|refine k_loadb rfl hB2 rfl (Ty.shp rfl)|refine Run_pev rfl|refine k_add64 rfl rfl (by omega)) rfl ?_))
   refine WL_s (H_store 0 (v:=.int .i64 ((at':Int)+1)) hH rfl rfl rfl (by simp) rfl (Ty.shp rfl) ?_)
   try clear hH
   intro _ hH
   replace hH:=nn2 hH
   replace hH:=hH.merge 0 1 rfl rfl (by decide)
   repeat (first|refine WS_seq ?_|refine WS_region ?_|refine WL_nil ?_|refine lp rfl rfl ?_)
   exact WS_ret1 Tryz.func102 rfl ⟨congrArg (fun n:Nat=>Value.int .u64 (n:Int)) hbv,Rq.up (at2:=at'+1) (s':=⟨bl l (at'+1) e,false⟩) (hH.upd 0 rfl) ⟨by omega,h2,h3,h4,rfl⟩⟩
theorem rbit_spec {p c:Nat} {a:Option Addr} {s:RS} {w:World} (hR:(Rd p a c s).holds w):Does Tryz.prog 102 #[pt p] w fun v w'=>v=.int .u64 (rbit s).1.toNat∧Upd (Rd p a c s) (Rd p a c (rbit s).2) w w':=by
 obtain ⟨l,e,h⟩:=Rd.q hR
 exact (rbitQ h).mono (fun v w' h=>⟨h.1,Rq.upd h.2⟩)
theorem rflagQ {p c e:Nat} {a:Option Addr} {l:List Nat} {s:RS} {w:World} (hR:(Rq p a c l e s).holds w):Does Tryz.prog 174 #[pt p] w fun v w'=>v=.bool (rbit s).1∧Upd (Rq p a c l e s) (Rq p a c l e (rbit s).2) w w':=by
 refine Does_of (args:=[_]) Tryz.func174 rfl rfl Tryz.ntmps174 rfl ?_
 repeat (first|refine WS_seq ?_|refine WS_region ?_|refine WL_nil ?_|refine lp rfl rfl ?_)
 refine WL_s (S_call (rbitQ hR) rfl rfl ?_)
 rintro v w1 ⟨rfl,hU⟩
 repeat (first|refine WL_nil ?_|refine lp rfl rfl ?_)
 refine WS_ret1 Tryz.func174 rfl ⟨?_,hU⟩
 cases (rbit s).1<;>rfl
theorem rflag_spec {p c:Nat} {a:Option Addr} {s:RS} {w:World} (hR:(Rd p a c s).holds w):Does Tryz.prog 174 #[pt p] w fun v w'=>v=.bool (rbit s).1∧Upd (Rd p a c s) (Rd p a c (rbit s).2) w w':=by
 obtain ⟨l,e,h⟩:=Rd.q hR
 exact (rflagQ h).mono (fun v w' h=>⟨h.1,Rq.upd h.2⟩)
theorem rnum_lt:∀ (k n m:Nat) (s:RS),n<2 ^ m→(rnum k n s).1<2 ^ (m+k)
 | 0,n,m,_,h=>h
 | k+1,n,m,s,h=>by
  have hb:(rbit s).1.toNat≤1:=by cases (rbit s).1<;>decide
  have:=rnum_lt k (2*n+(rbit s).1.toNat) (m+1) (rbit s).2 (by rw [Nat.pow_succ];omega)
  rw [rnum,show m+(k+1)=m+1+k by omega]
  exact this
theorem or_bit (n:Nat) (b:Bool):n*2 ||| b.toNat=2*n+b.toNat:=by
 have h:=Nat.two_pow_add_eq_or_of_lt (i:=1) (b:=b.toNat) (by cases b<;>decide) n
 rw [Nat.pow_one] at h
 rw [h,Nat.mul_comm]
def rbits (size:Nat) (s:RS):Nat × RS:=(if (rnum size 0 s).2.ended then 0 else (rnum size 0 s).1,(rnum size 0 s).2)
set_option maxHeartbeats 1000000 in
theorem rbits_spec' {p c k:Nat} {a:Option Addr} {s:RS} {sz:Int} {w:World} (hk:min (max sz 0) 64=(k:Int)) (hR:(Rd p a c s).holds w):Does Tryz.prog 71 #[pt p,.int .i64 sz] w fun v w'=>v=.int .u64 (rbits k s).1∧Upd (Rd p a c s) (Rd p a c (rbits k s).2) w w':=by
 refine Does_of (args:=[_,_]) Tryz.func71 rfl rfl Tryz.ntmps71 rfl ?_
 repeat (first|refine WS_seq ?_|refine WS_region ?_|refine WL_nil ?_|refine WS_block ?_|(refine WL_r (by first|refine Run_pev rfl|refine k_min rfl rfl) rfl ?_))
 refine WS_loop (G:=(Nat)) (fun i=>k-i) 65312 (fun i=>[(8,.int .i64 i),(5,.int .u64 (rnum i 0 s).1)]) (fun i w'=>i≤k∧Upd (Rd p a c s) (Rd p a c (rnum i 0 s).2) w w') (0) ⟨rfl,rfl,trivial⟩ ⟨by omega,Upd.refl hR⟩ ?_
 rintro i w1 σ ⟨hi,hU⟩ IH
 show WS _ _ _ _ _ (updL [(8,.int .i64 i),(5,.int .u64 (rnum i 0 s).1)] _) _
 have hlt2:=rnum_lt i 0 0 s (by decide)
 by_cases hlt:i<k
 ·have hsn:=rnum_snoc i 0 s
  have hp:(2:Nat) ^ (0+i)≤2 ^ 63:=Nat.pow_le_pow_right (by decide) (by omega)
  generalize (rnum i 0 s)=q at *
  obtain ⟨n,s'⟩:=q
  simp only at hlt2 hU hsn
  have hm:n*2 ^ 1 % 18446744073709551616=n*2:=by omega
  repeat (first|refine WS_seq ?_|refine WS_region ?_|refine WL_nil ?_|refine WS_block ?_|refine WS_skip ?_|refine WS_yes rfl (by omega) ?_|(refine WL_r (by first|refine (k_shlu (n:=1) rfl rfl).is (congrArg (fun n:Nat=>Value.int .u64 (n:Int)) hm)|refine Run_pev rfl) rfl ?_))
  refine WL_s (S_call (rbit_spec hU.holds) rfl rfl ?_)
  rintro v w2 ⟨rfl,hU2⟩
  have hb:(rbit s').1.toNat≤1:=by cases (rbit s').1<;>decide
  have hor:=or_bit n (rbit s').1
  repeat (first|refine WS_region ?_|refine WL_nil ?_|refine WS_inBlock ?_|(refine WL_r (by first|refine (k_or rfl rfl (fit64 (by omega)) (fit64 (by omega))).is (congrArg (fun n:Nat=>Value.int .u64 (n:Int)) hor)|refine Run_pev rfl|refine k_add64 rfl rfl (by omega)) rfl ?_))
  refine IH (i+1) _ _ ?_ ?_ ?_ ?_
  ·omega
  ·exact ⟨rfl,by rw [hsn];rfl,trivial⟩
  ·repeat first|with_reducible apply Agr.refl|refine Agr.upd rfl ?_|refine Agr.updL rfl ?_|refine Agr.mrg rfl ?_
  ·exact ⟨by omega,by rw [hsn];exact hU.trans hU2⟩
 ·obtain rfl:i=k:=by omega
  repeat (first|refine WS_seq ?_|refine WS_region ?_|refine WL_nil ?_|refine WS_exit rfl ?_|refine WS_no rfl (by omega) ?_|refine lp rfl rfl ?_)
  refine WL_s (S_call (rended_spec hU.holds) rfl rfl ?_)
  rintro v w2 ⟨rfl,rfl⟩
  unfold rbits
  cases hen:(rnum i 0 s).2.ended with
  | true =>
   repeat (first|refine WS_seq ?_|refine WS_region ?_|refine WL_nil ?_|refine WS_true rfl ?_|refine lp rfl rfl ?_)
   exact WS_ret1 Tryz.func71 rfl ⟨rfl,hU⟩
  | false =>
   repeat (first|refine WS_seq ?_|refine WS_region ?_|refine WL_nil ?_|refine WS_skip ?_|refine WS_false rfl ?_|refine lp rfl rfl ?_)
   exact WS_ret1 Tryz.func71 rfl ⟨rfl,hU⟩
set_option maxHeartbeats 1000000 in
theorem read_spec {n cap e:Nat} {a:Option Addr} {l:List Nat} {sz:Int} {w:World} (hS:SlA w a (l.map B)) (hn:l.length=n) (hlen:n≤1099511627776) (he:min (max sz 0) (8*n:Nat)=(e:Int)) :
  Does Tryz.prog 69 #[.slice a n cap,.int .i64 sz] w fun v w'=>∃ p a' c',v=pt p∧New (Rr p a' c' l 0 e false) w w':=by
 subst hn
 refine Does_of (args:=[_,_]) Tryz.func69 rfl rfl Tryz.ntmps69 rfl ?_
 have hH:=Hp.start w
 repeat (first|refine WS_seq ?_|refine WS_region ?_|refine WL_nil ?_|(refine WL_r (by first|refine Run_pev rfl|refine k_len rfl (Ty.isl rfl)) rfl ?_))
 refine WL_s (H_make (n:=l.length) hH (Ty.sle rfl) (Ty.zer rfl) (Ty.byt rfl) rfl rfl rfl (by omega) (by omega) (by simp only [maxLen];omega) rfl ?_)
 try clear hH
 intro _ b hH
 replace hH:=hH.made 0 rfl (by omega)
 replace hH:=nn1 hH
 repeat ((refine WL_r (by first|refine Run_pev rfl|refine k_len rfl (Ty.isl rfl)|refine k_min rfl rfl|refine k_max rfl rfl|refine k_mul64 rfl rfl (by omega)) rfl ?_))
 rw [show (l.length:Int)*8=((8*l.length:Nat):Int) by omega,he]
 repeat ((refine WL_r (by refine k_buildS (cs:=[.slice (some ⟨b,0,none⟩) l.length l.length,.int .i64 0,.int .i64 e,.bool false]) (Ty.zer rfl) (Ty.plc rfl) rfl) rfl ?_))
 refine WL_s (H_box hH rfl rfl rfl ?_)
 try clear hH
 intro _ p hH
 replace hH:=nn2 hH
 have hB:Blk _ p 214 #[.slice (some ⟨b,0,none⟩) l.length l.length,.int .i64 0,.int .i64 e,.bool false]:=hH.b 1 rfl
 repeat (first|refine WS_seq ?_|refine WS_region ?_|refine WL_nil ?_|(refine WL_r (by first|refine k_nilCheck rfl|refine k_fa rfl (Ty.fld rfl rfl)|refine k_loadb rfl hB rfl (Ty.shp rfl)|refine Run_pev rfl) rfl ?_))
 refine WL_s (H_copyO 0 hH rfl (Ty.sle rfl) rfl rfl (hH.old hS) (by simp) (Nat.le_refl _) (by simp) rfl ?_)
 try clear hH
 intro _ hH
 replace hH:=nn2 hH
 rw [List.drop_of_length_le (by simp),List.append_nil] at hH
 replace hH:=(hH.swap (List.Perm.swap _ _ [])).merge 0 1 rfl rfl (by decide)
 repeat (first|refine WS_seq ?_|refine WS_region ?_|refine WL_nil ?_|refine lp rfl rfl ?_)
 exact WS_ret1 Tryz.func69 rfl ⟨p,_,_,rfl,hH.new1 0 rfl⟩
theorem Rr.rd {p c e:Nat} {a:Option Addr} {l:List Nat} {w w':World} (h:New (Rr p a c l 0 e false) w w') (he:e≤8*l.length) (hlen:l.length≤1099511627776) (hl:Byt l):New (Rd p a c ⟨bl l 0 e,false⟩) w w' :=
 ⟨h.ext,⟨l,0,e,h.holds,by omega,he,hlen,hl,rfl⟩,h.fp⟩
theorem nb1 (b:Bool):nb b.toNat 1=[b]:=by cases b<;>rfl
end Go.Proofs.YtpbiicegmcpkpaaGreat
namespace Go.Proofs.YtpbiicegmcpkpaaGreat
open Go Go.K Go.P Go.RowKit Go.Proofs
def IsNew (W0:Nat) (e:TypeId) (cs:Array Value) (g:Nat→Value):Value→World→Prop:=fun v w=>∃ b,v=g b∧Blk w b e cs∧W0≤b
theorem IsNew.st {W0:Nat} {e:TypeId} {cs:Array Value} {g:Nat→Value}:Stable (IsNew W0 e cs g):=fun _ _ _ ⟨b,h,hB,hb⟩ hE=>⟨b,h,hB.ext0 hE,hb⟩
def IsOwn (W0:Nat) (l:List Nat) (g:Option Addr→Nat→Value):Value→World→Prop:=fun v w=>∃ a c,v=g a c∧(RBy a c l).holds w∧∀ x∈(RBy a c l).fp,W0≤x
theorem IsOwn.st {W0:Nat} {l:List Nat} {g:Option Addr→Nat→Value}:Stable (IsOwn W0 l g):=fun _ _ _ ⟨a,c,h,hR,hf⟩ hE=>⟨a,c,h,(RBy a c l).keep hR hE (by simp),hf⟩
theorem dj_types {w:World} {b:Nat} {a:Option Addr} {c:Nat} {l:List Nat} {cs:Array Value} (h1:Blk w b 155 cs) (h2:(RBy a c l).holds w):Dj (Rb b 155 cs) (RBy a c l):=by
 intro x hx hx'
 have hxb:x=b:=by simpa [Rb] using hx
 subst hxb
 obtain ⟨_,_,_,⟨rfl,_⟩|⟨b',cur,rfl,hB,_⟩⟩:=(h2:Own _ _ _ _ _ _ _)
 ·simp [RBy,Ro,blk] at hx'
 ·have:x=b':=by simpa [RBy,Ro,blk] using hx'
  subst this
  have h3:=hB.symm.trans h1
  simp at h3
set_option maxHeartbeats 2000000 in
theorem wdone_spec {p c:Nat} {a:Option Addr} {bs:List Bool} {w:World} (hR:(Rw p a c bs).holds w) (hbl:bs.length≤1099511627776):Does Tryz.prog 59 #[pt p] w fun v w'=>∃ a' c',v=.slice a' (pk (bs++[true])).length c'∧New (RBy a' c' (pk (bs++[true]))) w w':=by
 refine Does_of (args:=[_]) Tryz.func59 rfl rfl Tryz.ntmps59 rfl ?_
 have hB:Blk w p 155 #[.slice a (pk bs).length c,.int .i64 bs.length]:=hR.1
 have hO:SlA w a ((pk bs).map B):=(hR.2.1:Own _ _ _ _ _ _ _).sl
 have hpl:=pk_len bs
 repeat (first|refine WS_seq ?_|refine WS_region ?_|refine WL_nil ?_|refine WS_skip ?_|refine WS_false rfl ?_|(refine WL_r (by first|refine k_pnil rfl rfl (.inr rfl) ptrW|refine Run_pev rfl) rfl ?_))
 refine WS_specT 12 rfl (by kernel_rfl) (by kernel_rfl) [IsNew w.heap.size 5 #[] (fun b=>.slice (some ⟨b,0,none⟩) 0 0),Is (pt p),Is (pt p),Is (.pointer (some ⟨p,0+0,none⟩)),Is (.slice a (pk bs).length c),IsOwn w.heap.size (pk bs) (fun a' c'=>.slice a' (pk bs).length c'),Is (pt p),Is (pt p),Is (.pointer (some ⟨p,0+1,none⟩)),Is (.int .i64 bs.length),IsOwn w.heap.size (pk bs) (fun a' c'=>.agg #[.slice a' (pk bs).length c',.int .i64 bs.length]),IsNew w.heap.size 155 #[.slice none 0 0,.int .i64 0] (fun b=>pt b)] Ty.mixed [(128904,[],true),(130632,[],true),(130248,[(1,7)],true),(129480,[(2,8)],true),(127944,[(3,9)],true),(63432,[(0,6),(4,10)],true),(118728,[],true),(106440,[(6,12)],true),(81864,[(7,13)],true),(32712,[(8,14)],true),(65480,[(5,11),(9,15)],true),(131008,[],true)] 131016 [(10,16),(11,3)] (by kernel_rfl) (by kernel_rfl) (by kernel_rfl) (by kernel_rfl) (by kernel_rfl) ⟨(by exact IsNew.st),Is.st,Is.st,Is.st,Is.st,(by exact IsOwn.st),Is.st,Is.st,Is.st,Is.st,(by exact IsOwn.st),(by exact IsNew.st),trivial⟩ ⟨⟨GOk.none,?_⟩,⟨GOk.none,?_⟩,⟨GOk.none,?_⟩,⟨GOk.none,?_⟩,⟨GOk.none,?_⟩,⟨GOk.none,?_⟩,⟨GOk.none,?_⟩,⟨GOk.none,?_⟩,⟨GOk.none,?_⟩,⟨GOk.none,?_⟩,⟨GOk.none,?_⟩,⟨GOk.none,?_⟩,trivial⟩ ?_
 ·intro w'' hE''
  intro σ''
  refine S_lit (out:=[]) (Ty.sle rfl) (Ty.zer rfl) rfl rfl rfl (by decide) rfl ?_
  intro w3'' b'' hb'' hE3'' hB'' hs''
  exact ⟨hE3'',_,rfl,b'',rfl,hB'',by have:=hE''.size;omega⟩
 ·intro w'' hE''
  intro σ''
  exact sp_is (by refine Run_pev rfl) rfl
 ·intro w'' hE''
  rintro _ rfl
  intro σ''
  exact sp_is (by refine Run_pev rfl) rfl
 ·intro w'' hE''
  rintro _ rfl
  intro σ''
  exact sp_is (by refine k_fa rfl (Ty.fld rfl rfl)) rfl
 ·intro w'' hE''
  rintro _ rfl
  intro σ''
  exact sp_is (by refine k_loadb rfl (hB.ext0 hE'') rfl (Ty.shp rfl)) rfl
 ·intro w'' hE''
  rintro _ h0
  rintro _ rfl
  intro σ''
  obtain ⟨b0,rfl,hB0,hb0⟩:=h0
  refine S_append0 (Ty.sle rfl) (Ty.zer rfl) rfl (Ty.byt rfl) (by decide) rfl hB0 rfl (hO.ext0 hE'') (by simp) (by omega) (by simp only [maxLen];omega) rfl ?_
  intro w3'' a'' c'' hE3'' hO3'' hf''
  exact ⟨hE3'',_,rfl,a'',c'',rfl,hO3'',fun x hx=>by have:=hE''.size;rcases hf'' x hx with h|h<;>omega⟩
 ·intro w'' hE''
  intro σ''
  exact sp_is (by refine Run_pev rfl) rfl
 ·intro w'' hE''
  rintro _ rfl
  intro σ''
  exact sp_is (by refine Run_pev rfl) rfl
 ·intro w'' hE''
  rintro _ rfl
  intro σ''
  exact sp_is (by refine k_fa rfl (Ty.fld rfl rfl)) rfl
 ·intro w'' hE''
  rintro _ rfl
  intro σ''
  exact sp_is (by refine k_loadb rfl (hB.ext0 hE'') rfl (Ty.shp rfl)) rfl
 ·intro w'' hE''
  rintro _ h5
  rintro _ rfl
  intro σ''
  obtain ⟨a5,c5,rfl,hO5,hf5⟩:=h5
  exact S_run (k_buildS (cs:=[.slice a5 (pk bs).length c5,.int .i64 bs.length]) (Ty.zer rfl) (Ty.plc rfl) rfl) rfl ⟨.refl,_,rfl,a5,c5,rfl,hO5,hf5⟩
 ·intro w'' hE''
  intro σ''
  refine S_alloc (Ty.zer rfl) rfl ?_
  intro w3'' b'' hb'' hE3'' hB'' hs''
  exact ⟨hE3'',_,rfl,b'',rfl,hB'',by have:=hE''.size;omega⟩
 intro w'' hE''
 rintro _ h10
 rintro _ h11
 intro σ''
 obtain ⟨a5,c5,rfl,hO5,hf5⟩:=h10
 obtain ⟨b11,rfl,hB11,hb11⟩:=h11
 have hH:Hp [] w w'' [Rb b11 155 #[.slice none 0 0,.int .i64 0],RBy a5 c5 (pk bs)] :=
  ⟨hE'',by intro r hr;simp at hr;rcases hr with rfl|rfl;exact hB11;exact hO5,by intro r hr x hx;simp at hr;rcases hr with rfl|rfl;(right;simp [Rb] at hx;omega);exact .inr (hf5 x hx),by simpa using dj_types hB11 hO5⟩
 refine WL_s (S_storeA (vs:=#[.slice a5 (pk bs).length c5,.int .i64 bs.length]) rfl rfl hB11 rfl rfl (by simp) (Ty.shp rfl) ?_)
 intro _ hE12 hB12 _
 replace hH:=hH.up 0 (r':=Rb b11 155 #[.slice a5 (pk bs).length c5,.int .i64 bs.length]) rfl ⟨hE12,hB12,fun _ hx=>.inl hx⟩
 replace hH:=hH.merge 0 1 rfl rfl (by decide)
 repeat (first|refine WS_seq ?_|refine WS_region ?_|refine WL_nil ?_)
 refine WL_s (S_call (wput_spec (p:=b11) (n:=1) (s:=1) (bs:=bs) (by decide) (by decide) hbl (hH.at 0 rfl)) rfl rfl ?_)
 rintro v w2 ⟨rfl,a6,c6,hU⟩
 replace hH:=hH.up 0 rfl hU
 have hB6:Blk _ b11 155 #[.slice a6 (pk (bs++nb 1 1)).length c6,.int .i64 (bs++nb 1 1).length]:=(hH.at 0 rfl).1
 replace hH:=hH.split 0 rfl
 repeat (first|refine WS_seq ?_|refine WS_region ?_|refine WL_nil ?_|(refine WL_r (by first|refine k_fa rfl (Ty.fld rfl rfl)|refine k_loadb rfl hB6 rfl (Ty.shp rfl)|refine Run_pev rfl) rfl ?_))
 exact WS_ret1 Tryz.func59 rfl ⟨a6,c6,rfl,hH.new1 1 rfl⟩
abbrev np:Value:=.pointer none
end Go.Proofs.YtpbiicegmcpkpaaGreat
