/- A part of the proof that TopWorse is true at every input; no condition. -/
import Derived.Test.YtpbiicegmcpkpaaGreatT13
namespace Go.Proofs.YtpbiicegmcpkpaaGreat
open Go Go.K Go.P Go.RowKit Go.Proofs
def tkc (h:PH) (f c:Int) (va vb:Value) (ln:Int) (ra rb:Bool):List Value:=pkc h f c va vb++[.int .i64 ln,.bool ra,.bool rb]
def tkz:List Value:=tkc PH.zero 0 0 (.slice none 0 0) (.slice none 0 0) 0 false false
theorem tkc_one (h:PH) (f c:Int) (a1 a2:Option Addr) (n1 c1 n2 c2:Nat) (ln:Int) (ra rb:Bool):∀ v∈(tkc h f c (.slice a1 n1 c1) (.slice a2 n2 c2) ln ra rb).toArray.toList,v.oneCell'=true:=by
 intro v hv
 simp [tkc,pkc,PH.cells] at hv
 rcases hv with rfl|rfl|rfl|rfl|rfl|rfl|rfl|rfl|rfl|rfl|rfl<;>rfl
theorem tkz_one:∀ v∈tkz.toArray.toList,v.oneCell'=true:=tkc_one PH.zero 0 0 none none 0 0 0 0 0 false false
abbrev tkB (b:Nat) (h:PH) (f c:Int) (va vb:Value) (ln:Int) (ra rb:Bool):Res :=
 Rb b 178 #[.int .i64 h.id,.bool h.inter,.bool h.down,.int .i64 h.qp,.int .i64 f,.int .i64 c,va,vb,.int .i64 ln,.bool ra,.bool rb]
def PkO (l:List Nat) (all:Int) (d:PD) (v:Value) (F:List Nat) (w w':World):Prop :=
 (21+d.n+d.m≤l.length∧perr d.h d.f d.c d.n d.m all=0∧∃ a1 c1 a2 c2,v=.tuple #[.agg (tkc d.h d.f d.c (.slice a1 d.n c1) (.slice a2 d.m c2) (21+d.n+d.m:Nat) (decide (crc ((l.drop 21).take d.n)=d.sa)) (decide (crc ((l.drop (21+d.n)).take d.m)=d.sb))).toArray,.int .i64 0] ∧
  Hp F w w' [Rs a1 (((l.drop 21).take d.n).map B),Rs a2 (((l.drop (21+d.n)).take d.m).map B)]) ∨
 (∃ e:Nat,e≠0∧v=.tuple #[.agg tkz.toArray,.int .i64 e]∧Ext F w w'∧(l.length<21+d.n+d.m→e=3)∧(21+d.n+d.m≤l.length→perr d.h d.f d.c d.n d.m all≠0))
set_option maxRecDepth 20000 in
set_option maxHeartbeats 8000000 in
theorem pkparts_spec {l:List Nat} {H:List Bool} {n cap p c:Nat} {a ar:Option Addr} {all:Int} {w:World} (hS:SlA w a (l.map B)) (hl:Byt l) (hn:l.length=n) (hcap:n≤cap) (hlen:n≤1099511627776) (h21:21≤n) (hall:-9223372036854775808≤all∧all≤9223372036854775807)
  (hH101:H.length=101) (hR:(Rd p ar c ⟨H,false⟩).holds w) (hap:∀ x∈(Rd p ar c ⟨H,false⟩).fp,x ∉ blk a) :
  Does Tryz.prog 105 #[.slice a n cap,.int .i64 all,pt p] w fun v w'=>(∃ d:PD,d.fits∧d.h.err=0∧H=d.bits∧PkO l all d v (Rd p ar c ⟨H,false⟩).fp w w') ∨
   ((∀ d:PD,d.h.err=0→H≠d.bits)∧∃ e:Nat,e≠0∧v=.tuple #[.agg tkz.toArray,.int .i64 e]∧Ext (Rd p ar c ⟨H,false⟩).fp w w'):=by
 subst hn
 refine Does_of (args:=[_,_,_]) Tryz.func105 rfl rfl Tryz.ntmps105 rfl ?_
 have hH:=Hp.start1 hR
 repeat (first|refine WS_seq ?_|refine WS_region ?_)
 refine WL_s (H_alloc hH (Ty.zer rfl) rfl ?_)
 try clear hH
 intro w1 b6 hH
 replace hH:=nn2 hH
 repeat (first|refine WS_seq ?_|refine WS_region ?_|refine WL_nil ?_|refine lp rfl rfl ?_)
 refine WL_s (S_call (ptake_spec (hH.at 0 rfl)) rfl rfl ?_)
 rintro v w2 hT
 rcases hT with ⟨hen,herr,rfl,hU⟩|⟨hbad,rfl,s',hs',hU⟩
 ·replace hH:=hH.up 0 rfl hU
  clear hU
  replace hH:=nn2 hH
  obtain ⟨r,hXr,hs2,_,_⟩:=PH.rd_ok hen
  rw [hs2] at hH
  generalize (PH.rd ⟨H,false⟩).1=hd at *
  obtain rfl:H=hd.bits++r:=congrArg RS.rest hXr
  have hrl:r.length=78:=by rw [List.length_append,PH.bits_len] at hH101;omega
  obtain ⟨d,hdh,hfit,hbits,rfl⟩:=PD.of_rest (h:=hd) hrl
  subst hdh
  have hfit0:=hfit
  obtain ⟨hf1,hf2,hf3,hf4,hf5,hf6⟩:=hfit
  repeat ((refine WL_r (by first|refine k_buildS (cs:=pkc d.h 0 0 (.slice none 0 0) (.slice none 0 0)) (Ty.zer rfl) (Ty.plc rfl) rfl|refine k_buildS (cs:=tkc d.h 0 0 (.slice none 0 0) (.slice none 0 0) 0 false false) (Ty.zer rfl) (Ty.plc rfl) rfl) rfl ?_))
  refine WL_s (H_alloc hH (Ty.zer rfl) rfl ?_)
  try clear hH
  intro w3 b8 hH
  replace hH:=nn3 hH
  skip
  refine WL_s (H_storeA 2 hH rfl rfl rfl rfl rfl (tkc_one d.h 0 0 none none 0 0 0 0 0 false false) (Ty.shp rfl) ?_)
  try clear hH
  intro w4 hH
  replace hH:=nn3 hH
  repeat (first|refine WS_seq ?_|refine WS_region ?_|refine WL_nil ?_|refine lp rfl rfl ?_)
  refine WL_s (S_call (rbits_spec' (k:=7) (by decide) (hH.at 0 rfl)) rfl rfl ?_)
  rintro v w' ⟨rfl,hU⟩
  replace hH:=hH.up 0 rfl hU
  clear hU
  replace hH:=nn3 hH
  rw [rbits_rbt,rbt_app hf1] at hH ⊢
  repeat ((refine WL_r (by first|refine Run_pev rfl|refine k_convI rfl rfl rfl (by omega)) rfl ?_))
  refine WL_s (S_call (rbits_spec' (k:=7) (by decide) (hH.at 0 rfl)) rfl rfl ?_)
  rintro v w' ⟨rfl,hU⟩
  replace hH:=hH.up 0 rfl hU
  clear hU
  replace hH:=nn3 hH
  rw [rbits_rbt,rbt_app hf2] at hH ⊢
  repeat ((refine WL_r (by refine k_convI rfl rfl rfl (by omega)) rfl ?_))
  repeat ((refine WL_r (by refine k_fa rfl (Ty.fld rfl rfl)) rfl ?_))
  refine WL_s (H_store 2 (v:=.int .i64 (d.f:Nat)) hH rfl rfl rfl (Nat.le_of_ble_eq_true rfl) rfl (Ty.shp rfl) ?_)
  try clear hH
  intro w'' hH
  replace hH:=nn3 hH
  repeat ((refine WL_r (by refine k_fa rfl (Ty.fld rfl rfl)) rfl ?_))
  refine WL_s (H_store 2 (v:=.int .i64 (d.c:Nat)) hH rfl rfl rfl (Nat.le_of_ble_eq_true rfl) rfl (Ty.shp rfl) ?_)
  try clear hH
  intro w'' hH
  replace hH:=nn3 hH
  repeat (first|refine WS_seq ?_|refine WS_region ?_|refine WL_nil ?_|refine lp rfl rfl ?_)
  refine WL_s (S_call (rbits_spec' (k:=16) (by decide) (hH.at 0 rfl)) rfl rfl ?_)
  rintro v w' ⟨rfl,hU⟩
  replace hH:=hH.up 0 rfl hU
  clear hU
  replace hH:=nn3 hH
  rw [rbits_rbt,rbt_app hf3] at hH ⊢
  repeat ((refine WL_r (by first|refine Run_pev rfl|refine k_convI rfl rfl rfl (by omega)) rfl ?_))
  refine WL_s (S_call (rbits_spec' (k:=16) (by decide) (hH.at 0 rfl)) rfl rfl ?_)
  rintro v w' ⟨rfl,hU⟩
  replace hH:=hH.up 0 rfl hU
  clear hU
  replace hH:=nn3 hH
  rw [rbits_rbt,rbt_app hf4] at hH ⊢
  repeat (first|refine WS_seq ?_|refine WS_region ?_|refine WL_nil ?_|(refine WL_r (by first|refine Run_pev rfl|refine k_convI rfl rfl rfl (by omega)) rfl ?_))
  refine WL_s (S_call (rbits_spec' (k:=16) (by decide) (hH.at 0 rfl)) rfl rfl ?_)
  rintro v w' ⟨rfl,hU⟩
  replace hH:=hH.up 0 rfl hU
  clear hU
  replace hH:=nn3 hH
  rw [rbits_rbt,rbt_app hf5] at hH ⊢
  repeat ((refine WL_r (by first|refine Run_pev rfl|refine k_conv16 rfl rfl rfl (by omega)) rfl ?_))
  refine WL_s (S_call (rbits_spec' (k:=16) (by decide) (hH.at 0 rfl)) rfl rfl ?_)
  rintro v w' ⟨rfl,hU⟩
  replace hH:=hH.up 0 rfl hU
  clear hU
  replace hH:=nn3 hH
  have hlast:rbt 16 (⟨nb d.sb 16,false⟩:RS)=(d.sb,⟨[],false⟩):=by have:=rbt_app (k:=16) (r:=[]) hf6;rwa [List.append_nil] at this
  rw [rbits_rbt,hlast] at hH ⊢
  have e5:d.sa % 65536=d.sa:=by omega
  have e6:d.sb % 65536=d.sb:=by omega
  repeat (first|refine WS_seq ?_|refine WS_region ?_|refine WL_nil ?_|refine WS_block ?_|(refine WL_r (by first|refine (k_conv_u16 rfl (Ty.und rfl) (Ty.knd rfl)).is (congrArg (fun n:Nat=>Value.int .u16 (n:Int)) e6)|refine Run_pev rfl) rfl ?_))
  refine WL_s (S_call (rend_spec (hH.at 0 rfl)) rfl rfl ?_)
  rintro v w5 ⟨rfl,hE⟩
  replace hH:=hH.ext0 hE
  rw [show rend (⟨[],false⟩:RS)=0 from rfl]
  by_cases hsh:l.length<21+d.n+d.m
  ·skip
   repeat (first|refine WS_seq ?_|refine WS_region ?_|refine WL_nil ?_|refine WS_false rfl ?_|refine WS_yes rfl (by omega) ?_|(refine WL_r (by first|refine k_buildS (cs:=tkz) (Ty.zer rfl) (Ty.plc rfl) rfl|refine Run_pev rfl|refine k_add64 rfl rfl (by omega)|refine k_len rfl (Ty.isl rfl)) rfl ?_))
   refine WL_s (H_storeA 1 hH rfl rfl rfl rfl rfl tkz_one (Ty.shp rfl) ?_)
   try clear hH
   intro wz hH
   replace hH:=nn3 hH
   repeat (first|refine WL_nil ?_|refine lp rfl rfl ?_)
   exact WS_retc2 Tryz.func105 rfl rfl (hH.b 1 rfl) rfl (Ty.shp rfl) (.inl ⟨d,hfit0,herr,hbits,.inr ⟨3,by decide,rfl,hH.ext,fun _=>rfl,fun h=>absurd h (by omega)⟩⟩)
  have hsum1:(21:Int)+(d.n:Int)=((21+d.n:Nat):Int):=by omega
  have hsum2:((21+d.n:Nat):Int)+(d.m:Int)=((21+d.n+d.m:Nat):Int):=by omega
  have hAl:((l.drop 21).take (21+d.n-21)).length=d.n:=by simp;omega
  have hBl:((l.drop (21+d.n)).take (21+d.n+d.m-(21+d.n))).length=d.m:=by simp;omega
  have e7:21+d.n-21=d.n:=by omega
  have e8:21+d.n+d.m-(21+d.n)=d.m:=by omega
  have hmA:∀ {w'':World},SlA w'' a (l.map B)→SlA w'' (if cap=21 then a else a.map (·.add (21*1))) (((l.drop 21).take d.n).map B):=fun hh=>by
   have:=mid_cells (l:=21) (h:=21+d.n) hh (by omega) (by omega) hcap
   rwa [e7,← List.map_drop,← List.map_take] at this
  have hmB:∀ {w'':World},SlA w'' a (l.map B)→SlA w'' (if cap=21+d.n then a else a.map (·.add ((21+d.n)*1))) (((l.drop (21+d.n)).take d.m).map B):=fun hh=>by
   have:=mid_cells (l:=21+d.n) (h:=21+d.n+d.m) hh (by omega) (by omega) hcap
   rwa [e8,← List.map_drop,← List.map_take] at this
  rw [e7] at hAl
  rw [e8] at hBl
  have hbA:Byt ((l.drop 21).take d.n):=fun x hx=>hl x (List.mem_of_mem_drop (List.mem_of_mem_take hx))
  have hbB:Byt ((l.drop (21+d.n)).take d.m):=fun x hx=>hl x (List.mem_of_mem_drop (List.mem_of_mem_take hx))
  generalize hA:(l.drop 21).take d.n=A at *
  generalize hBb:(l.drop (21 + d.n)).take d.m=Bb at *
  have hlA:(A.map B).length=d.n*1:=by simp [hAl]
  have hlB:(Bb.map B).length=d.m*1:=by simp [hBl]
  repeat (first|refine WS_seq ?_|refine WS_region ?_|refine WL_nil ?_|refine WS_inBlock ?_|refine WS_skip ?_|refine WS_false rfl ?_|refine WS_no rfl (by omega) ?_|(refine WL_r (by first|refine Run_pev rfl|refine k_add64 rfl rfl (by omega)|refine k_len rfl (Ty.isl rfl)) rfl ?_))
  refine WL_s (H_lit (out:=[]) hH (Ty.sle rfl) (Ty.zer rfl) rfl rfl rfl (by decide) rfl ?_)
  try clear hH
  intro _ b54 hH
  replace hH:=nn4 hH
  replace hH:=hH.as 3 rfl (r':=Ro 5 1 (some ⟨b54,0,none⟩) 0 0 []) (fun _ h=>h) (fun h=>(h:Blk _ _ _ _).own (n:=0) (sz:=1) rfl (by decide))
  replace hH:=nn4 hH
  repeat ((refine WL_r (by first|refine (k_add64 (m:=21) (n:=(d.n:Int)) rfl rfl (by omega)).is (congrArg (Value.int .i64) hsum1)|refine (k_slcN (l:=21) (h:=21+d.n) rfl rfl rfl (Ty.sle rfl) (by omega)).is (congrArg (fun k=>Value.slice _ k _) e7)|refine Run_pev rfl) rfl ?_))
  refine WL_s (H_append 3 hH rfl (Ty.sle rfl) (Ty.zer rfl) rfl (Ty.byt rfl) (by decide) rfl rfl (hmA (hH.oldS hS hap)) hlA (by simp) (by omega) (by simp only [maxLen];omega) rfl ?_)
  try clear hH
  intro w7 a1 c1 hH
  replace hH:=nn4 hH
  rw [Nat.zero_add d.n,List.nil_append] at hH
  rw [Nat.zero_add d.n]
  repeat ((refine WL_r (by refine k_fa rfl (Ty.fld rfl rfl)) rfl ?_))
  refine WL_s (H_store 2 (v:=.slice a1 d.n c1) hH rfl rfl rfl (Nat.le_of_ble_eq_true rfl) rfl (Ty.shp rfl) ?_)
  try clear hH
  intro w'' hH
  replace hH:=nn4 hH
  repeat (first|refine WS_seq ?_|refine WS_region ?_|refine WL_nil ?_)
  refine WL_s (H_lit (out:=[]) hH (Ty.sle rfl) (Ty.zer rfl) rfl rfl rfl (by decide) rfl ?_)
  try clear hH
  intro _ b62 hH
  replace hH:=nn5 hH
  replace hH:=hH.as 4 rfl (r':=Ro 5 1 (some ⟨b62,0,none⟩) 0 0 []) (fun _ h=>h) (fun h=>(h:Blk _ _ _ _).own (n:=0) (sz:=1) rfl (by decide))
  replace hH:=nn5 hH
  repeat ((refine WL_r (by first|refine (k_add64 (m:=21) (n:=(d.n:Int)) rfl rfl (by omega)).is (congrArg (Value.int .i64) hsum1)|refine (k_add64 (m:=((21+d.n:Nat):Int)) (n:=(d.m:Int)) rfl rfl (by omega)).is (congrArg (Value.int .i64) hsum2)|refine (k_slcN (l:=21+d.n) (h:=21+d.n+d.m) rfl rfl rfl (Ty.sle rfl) (by omega)).is (congrArg (fun k=>Value.slice _ k _) e8)|refine Run_pev rfl) rfl ?_))
  refine WL_s (H_append 4 hH rfl (Ty.sle rfl) (Ty.zer rfl) rfl (Ty.byt rfl) (by decide) rfl rfl (hmB (hH.oldS hS hap)) hlB (by simp) (by omega) (by simp only [maxLen];omega) rfl ?_)
  try clear hH
  intro w8 a2 c2 hH
  replace hH:=nn5 hH
  rw [Nat.zero_add d.m,List.nil_append] at hH
  rw [Nat.zero_add d.m]
  repeat ((refine WL_r (by refine k_fa rfl (Ty.fld rfl rfl)) rfl ?_))
  refine WL_s (H_store 2 (v:=.slice a2 d.m c2) hH rfl rfl rfl (Nat.le_of_ble_eq_true rfl) rfl (Ty.shp rfl) ?_)
  try clear hH
  intro w'' hH
  replace hH:=nn5 hH
  replace hH:=hH.as 2 rfl (r':=tkB b8 d.h (d.f:Nat) (d.c:Nat) (.slice a1 d.n c1) (.slice a2 d.m c2) 0 false false) (fun _ h=>h) (fun h=>h)
  replace hH:=nn5 hH
  have hS8:SlA _ (some ⟨b8,0,none⟩) (tkc d.h (d.f:Nat) (d.c:Nat) (.slice a1 d.n c1) (.slice a2 d.m c2) 0 false false):=(hH.b 2 rfl).sl0
  repeat (first|refine WS_seq ?_|refine WS_region ?_|refine WL_nil ?_|(refine WL_r (by first|refine k_fa rfl (Ty.fld rfl rfl)|refine k_loadC (cs:=pkc d.h (d.f:Nat) (d.c:Nat) (.slice a1 d.n c1) (.slice a2 d.m c2)) (j:=0) rfl hS8 rfl rfl (Ty.shp rfl)|refine Run_pev rfl) rfl ?_))
  refine WL_s (S_call (pkcheck_spec hall) rfl rfl ?_)
  rintro v w9 ⟨rfl,hE⟩
  replace hH:=hH.ext0 hE
  by_cases hpe:perr d.h d.f d.c d.n d.m all=0
  ·rw [hpe]
   have hB8:Blk w9 b8 178 #[.int .i64 d.h.id,.bool d.h.inter,.bool d.h.down,.int .i64 d.h.qp,.int .i64 (d.f:Nat),.int .i64 (d.c:Nat),.slice a1 d.n c1,.slice a2 d.m c2,.int .i64 0,.bool false,.bool false]:=hH.b 2 rfl
   have hSA:=(hH.o 3 rfl).sl
   have hSB:=(hH.o 4 rfl).sl
   have hq1:decide (((crc A:Nat):Int)=(d.sa:Int))=decide (crc A=d.sa):=by rw [decide_eq_decide];omega
   have hq2:decide (((crc Bb:Nat):Int)=(d.sb:Int))=decide (crc Bb=d.sb):=by rw [decide_eq_decide];omega
   have hSt:∀ {u u':World},(Ext [b8] w9 u∧u.cell? ⟨b8,6,none⟩=some (.slice a1 d.n c1)∧u.cell? ⟨b8,7,none⟩=some (.slice a2 d.m c2))→Ext [] u u'→(Ext [b8] w9 u'∧u'.cell? ⟨b8,6,none⟩=some (.slice a1 d.n c1)∧u'.cell? ⟨b8,7,none⟩=some (.slice a2 d.m c2)) :=
    fun h hE=>⟨h.1.then0 hE,hE.cell h.2.1 (by simp),hE.cell h.2.2 (by simp)⟩
   repeat (first|refine WS_seq ?_|refine WS_region ?_|refine WL_nil ?_|refine WS_skip ?_|refine WS_false rfl ?_|refine lp rfl rfl ?_)
   refine WS_draw Ty.mixed (fun u=>Ext [b8] w9 u∧u.cell? ⟨b8,6,none⟩=some (.slice a1 d.n c1)∧u.cell? ⟨b8,7,none⟩=some (.slice a2 d.m c2)) 24 rfl ?_
   have hx:=hSt ⟨.refl,hB8.cell rfl,hB8.cell rfl⟩ (Ext.drew0 (S:=[]))
   replace hH:=hH.ext0 (Ext.drew0 (S:=[]))
   clear hB8
   generalize w9.drew=u at *
   refine wp 0 hx rfl rfl rfl rfl ?_
   refine wt 1 hx rfl rfl rfl (fun w' hw'=>by refine (k_add64 (m:=21) (n:=(d.n:Int)) rfl rfl (by omega)).is (congrArg (Value.int .i64) hsum1)) ?_
   refine wp 2 hx rfl rfl rfl rfl ?_
   refine wt 3 hx rfl rfl rfl (fun w' hw'=>by refine (k_add64 (m:=((21+d.n:Nat):Int)) (n:=(d.m:Int)) rfl rfl (by omega)).is (congrArg (Value.int .i64) hsum2)) ?_
   refine wt 4 hx rfl rfl rfl (fun w' hw'=>by refine k_fa rfl (Ty.fld rfl rfl)) ?_
   refine wt 5 hx rfl rfl rfl (fun w' hw'=>by refine k_fa rfl (Ty.fld rfl rfl)) ?_
   refine wt 6 hx rfl rfl rfl (fun w' hw'=>by refine k_load rfl hw'.2.1 (Ty.shp rfl)) ?_
   refine wp 9 hx rfl rfl rfl rfl ?_
   refine wt 11 hx rfl rfl rfl (fun w' hw'=>by refine k_fa rfl (Ty.fld rfl rfl)) ?_
   refine wt 12 hx rfl rfl rfl (fun w' hw'=>by refine k_fa rfl (Ty.fld rfl rfl)) ?_
   refine wt 13 hx rfl rfl rfl (fun w' hw'=>by refine k_load rfl hw'.2.2 (Ty.shp rfl)) ?_
   refine wp 16 hx rfl rfl rfl rfl ?_
   refine wt 18 hx rfl rfl rfl (fun w' hw'=>by refine k_fa rfl (Ty.fld rfl rfl)) ?_
   refine WA_two 7 14 (by kernel_rfl) rfl rfl rfl rfl ?_ ?_
   ·skip
    refine S_lit (out:=[.slice a1 d.n c1]) (Ty.sle rfl) (Ty.zer rfl) rfl rfl rfl (by decide) rfl ?_
    intro u7 b7 _ hE7 hB7 _
    replace hx:=hSt hx hE7
    replace hH:=hH.ext0 hE7
    try replace hB14:=hB14.ext0 hE7
    refine ⟨hx,?_⟩
    refine WA_two 8 14 (by kernel_rfl) rfl rfl rfl rfl ?_ ?_
    ·skip
     refine S_call (sum_one hB7 (hH.o 3 rfl).sl hbA hAl (by omega)) rfl rfl ?_
     rintro v u8 ⟨rfl,rfl⟩
     refine ⟨hx,?_⟩
     refine wt 10 hx rfl rfl rfl (fun w' hw'=>by refine (k_eql rfl rfl).is (congrArg Value.bool hq1)) ?_
     refine WA_one 14 (by kernel_rfl) rfl rfl ?_
     refine S_lit (out:=[.slice a2 d.m c2]) (Ty.sle rfl) (Ty.zer rfl) rfl rfl rfl (by decide) rfl ?_
     intro u14 b14 _ hE14 hB14 _
     replace hx:=hSt hx hE14
     replace hH:=hH.ext0 hE14
     try replace hB7:=hB7.ext0 hE14
     refine ⟨hx,?_⟩
     refine WA_one 15 (by kernel_rfl) rfl rfl (S_call (sum_one hB14 (hH.o 4 rfl).sl hbB hBl (by omega)) rfl rfl ?_)
     rintro v u15 ⟨rfl,rfl⟩
     refine ⟨hx,?_⟩
     refine wt 17 hx rfl rfl rfl (fun w' hw'=>by refine (k_eql rfl rfl).is (congrArg Value.bool hq2)) ?_
     refine WA_one 19 (by kernel_rfl) rfl rfl (S_store (v:=.int .i64 (21+d.n+d.m:Nat)) rfl rfl (hH.b 2 rfl) (Nat.le_of_ble_eq_true rfl) rfl (Ty.shp rfl) ?_)
     intro u19 hE19 hB19 _
     have hx':=hx.1.then1' hE19
     replace hx:Ext [b8] w9 u19∧u19.cell? ⟨b8,6,none⟩=some (.slice a1 d.n c1)∧u19.cell? ⟨b8,7,none⟩=some (.slice a2 d.m c2):=⟨hx',hB19.cell rfl,hB19.cell rfl⟩
     clear hx'
     replace hH:=hH.up 2 rfl (r':=Rb b8 178 _) ⟨hE19,hB19,fun _ h=>.inl h⟩
     replace hH:=nn5 hH
     clear hE19 hB19
     refine ⟨hx,?_⟩
     refine wt 20 hx rfl rfl rfl (fun w' hw'=>by refine k_fa rfl (Ty.fld rfl rfl)) ?_
     refine WA_one 21 (by kernel_rfl) rfl rfl (S_store (v:=.bool (decide (crc A=d.sa))) rfl rfl (hH.b 2 rfl) (Nat.le_of_ble_eq_true rfl) rfl (Ty.shp rfl) ?_)
     intro u19 hE19 hB19 _
     have hx':=hx.1.then1' hE19
     replace hx:Ext [b8] w9 u19∧u19.cell? ⟨b8,6,none⟩=some (.slice a1 d.n c1)∧u19.cell? ⟨b8,7,none⟩=some (.slice a2 d.m c2):=⟨hx',hB19.cell rfl,hB19.cell rfl⟩
     clear hx'
     replace hH:=hH.up 2 rfl (r':=Rb b8 178 _) ⟨hE19,hB19,fun _ h=>.inl h⟩
     replace hH:=nn5 hH
     clear hE19 hB19
     refine ⟨hx,?_⟩
     refine wt 22 hx rfl rfl rfl (fun w' hw'=>by refine k_fa rfl (Ty.fld rfl rfl)) ?_
     refine WA_one 23 (by kernel_rfl) rfl rfl (S_store (v:=.bool (decide (crc Bb=d.sb))) rfl rfl (hH.b 2 rfl) (Nat.le_of_ble_eq_true rfl) rfl (Ty.shp rfl) ?_)
     intro u19 hE19 hB19 _
     have hx':=hx.1.then1' hE19
     replace hx:Ext [b8] w9 u19∧u19.cell? ⟨b8,6,none⟩=some (.slice a1 d.n c1)∧u19.cell? ⟨b8,7,none⟩=some (.slice a2 d.m c2):=⟨hx',hB19.cell rfl,hB19.cell rfl⟩
     clear hx'
     replace hH:=hH.up 2 rfl (r':=Rb b8 178 _) ⟨hE19,hB19,fun _ h=>.inl h⟩
     replace hH:=nn5 hH
     clear hE19 hB19
     refine ⟨hx,?_⟩
     refine WA_done (by kernel_rfl) ?_
     replace hH:=hH.as 2 rfl (r':=tkB b8 d.h (d.f:Nat) (d.c:Nat) (.slice a1 d.n c1) (.slice a2 d.m c2) (21+d.n+d.m:Nat) (decide (crc A=d.sa)) (decide (crc Bb=d.sb))) (fun _ h=>h) (fun h=>h)
     replace hH:=nn5 hH
     have hB9:Blk _ b8 178 (tkc d.h (d.f:Nat) (d.c:Nat) (.slice a1 d.n c1) (.slice a2 d.m c2) (21+d.n+d.m:Nat) (decide (crc A=d.sa)) (decide (crc Bb=d.sb))).toArray:=hH.b 2 rfl
     repeat (first|refine WS_seq ?_|refine WS_region ?_|(refine WL_r (by refine k_loadA rfl hB9 rfl (Ty.shp rfl)) rfl ?_))
     refine WL_s (H_storeA 1 hH rfl rfl rfl rfl rfl (tkc_one _ _ _ _ _ _ _ _ _ _ _ _) (Ty.shp rfl) ?_)
     try clear hH
     intro w10 hH
     replace hH:=nn5 hH
     have hB6:=hH.b 1 rfl
     replace hH:=Rs.of 3 (Rs.of 4 hH rfl) rfl
     replace hH:=((hH.del 2).del 1).del 0
     replace hH:=nn2 hH
     repeat (first|refine WL_nil ?_|refine lp rfl rfl ?_)
     refine WS_retc2 Tryz.func105 rfl rfl hB6 rfl (Ty.shp rfl) (.inl ⟨d,hfit0,herr,hbits,.inl ⟨by omega,hpe,a1,c1,a2,c2,?_,?_⟩⟩)
     ·rw [hA,hBb];rfl
     ·rw [hA,hBb];exact hH
    ·skip
     refine S_lit (out:=[.slice a2 d.m c2]) (Ty.sle rfl) (Ty.zer rfl) rfl rfl rfl (by decide) rfl ?_
     intro u14 b14 _ hE14 hB14 _
     replace hx:=hSt hx hE14
     replace hH:=hH.ext0 hE14
     try replace hB7:=hB7.ext0 hE14
     refine ⟨hx,?_⟩
     refine WA_one 8 (by kernel_rfl) rfl rfl ?_
     refine S_call (sum_one hB7 (hH.o 3 rfl).sl hbA hAl (by omega)) rfl rfl ?_
     rintro v u8 ⟨rfl,rfl⟩
     refine ⟨hx,?_⟩
     refine wt 10 hx rfl rfl rfl (fun w' hw'=>by refine (k_eql rfl rfl).is (congrArg Value.bool hq1)) ?_
     refine WA_one 15 (by kernel_rfl) rfl rfl (S_call (sum_one hB14 (hH.o 4 rfl).sl hbB hBl (by omega)) rfl rfl ?_)
     rintro v u15 ⟨rfl,rfl⟩
     refine ⟨hx,?_⟩
     refine wt 17 hx rfl rfl rfl (fun w' hw'=>by refine (k_eql rfl rfl).is (congrArg Value.bool hq2)) ?_
     refine WA_one 19 (by kernel_rfl) rfl rfl (S_store (v:=.int .i64 (21+d.n+d.m:Nat)) rfl rfl (hH.b 2 rfl) (Nat.le_of_ble_eq_true rfl) rfl (Ty.shp rfl) ?_)
     intro u19 hE19 hB19 _
     have hx':=hx.1.then1' hE19
     replace hx:Ext [b8] w9 u19∧u19.cell? ⟨b8,6,none⟩=some (.slice a1 d.n c1)∧u19.cell? ⟨b8,7,none⟩=some (.slice a2 d.m c2):=⟨hx',hB19.cell rfl,hB19.cell rfl⟩
     clear hx'
     replace hH:=hH.up 2 rfl (r':=Rb b8 178 _) ⟨hE19,hB19,fun _ h=>.inl h⟩
     replace hH:=nn5 hH
     clear hE19 hB19
     refine ⟨hx,?_⟩
     refine wt 20 hx rfl rfl rfl (fun w' hw'=>by refine k_fa rfl (Ty.fld rfl rfl)) ?_
     refine WA_one 21 (by kernel_rfl) rfl rfl (S_store (v:=.bool (decide (crc A=d.sa))) rfl rfl (hH.b 2 rfl) (Nat.le_of_ble_eq_true rfl) rfl (Ty.shp rfl) ?_)
     intro u19 hE19 hB19 _
     have hx':=hx.1.then1' hE19
     replace hx:Ext [b8] w9 u19∧u19.cell? ⟨b8,6,none⟩=some (.slice a1 d.n c1)∧u19.cell? ⟨b8,7,none⟩=some (.slice a2 d.m c2):=⟨hx',hB19.cell rfl,hB19.cell rfl⟩
     clear hx'
     replace hH:=hH.up 2 rfl (r':=Rb b8 178 _) ⟨hE19,hB19,fun _ h=>.inl h⟩
     replace hH:=nn5 hH
     clear hE19 hB19
     refine ⟨hx,?_⟩
     refine wt 22 hx rfl rfl rfl (fun w' hw'=>by refine k_fa rfl (Ty.fld rfl rfl)) ?_
     refine WA_one 23 (by kernel_rfl) rfl rfl (S_store (v:=.bool (decide (crc Bb=d.sb))) rfl rfl (hH.b 2 rfl) (Nat.le_of_ble_eq_true rfl) rfl (Ty.shp rfl) ?_)
     intro u19 hE19 hB19 _
     have hx':=hx.1.then1' hE19
     replace hx:Ext [b8] w9 u19∧u19.cell? ⟨b8,6,none⟩=some (.slice a1 d.n c1)∧u19.cell? ⟨b8,7,none⟩=some (.slice a2 d.m c2):=⟨hx',hB19.cell rfl,hB19.cell rfl⟩
     clear hx'
     replace hH:=hH.up 2 rfl (r':=Rb b8 178 _) ⟨hE19,hB19,fun _ h=>.inl h⟩
     replace hH:=nn5 hH
     clear hE19 hB19
     refine ⟨hx,?_⟩
     refine WA_done (by kernel_rfl) ?_
     replace hH:=hH.as 2 rfl (r':=tkB b8 d.h (d.f:Nat) (d.c:Nat) (.slice a1 d.n c1) (.slice a2 d.m c2) (21+d.n+d.m:Nat) (decide (crc A=d.sa)) (decide (crc Bb=d.sb))) (fun _ h=>h) (fun h=>h)
     replace hH:=nn5 hH
     have hB9:Blk _ b8 178 (tkc d.h (d.f:Nat) (d.c:Nat) (.slice a1 d.n c1) (.slice a2 d.m c2) (21+d.n+d.m:Nat) (decide (crc A=d.sa)) (decide (crc Bb=d.sb))).toArray:=hH.b 2 rfl
     repeat (first|refine WS_seq ?_|refine WS_region ?_|(refine WL_r (by refine k_loadA rfl hB9 rfl (Ty.shp rfl)) rfl ?_))
     refine WL_s (H_storeA 1 hH rfl rfl rfl rfl rfl (tkc_one _ _ _ _ _ _ _ _ _ _ _ _) (Ty.shp rfl) ?_)
     try clear hH
     intro w10 hH
     replace hH:=nn5 hH
     have hB6:=hH.b 1 rfl
     replace hH:=Rs.of 3 (Rs.of 4 hH rfl) rfl
     replace hH:=((hH.del 2).del 1).del 0
     replace hH:=nn2 hH
     repeat (first|refine WL_nil ?_|refine lp rfl rfl ?_)
     refine WS_retc2 Tryz.func105 rfl rfl hB6 rfl (Ty.shp rfl) (.inl ⟨d,hfit0,herr,hbits,.inl ⟨by omega,hpe,a1,c1,a2,c2,?_,?_⟩⟩)
     ·rw [hA,hBb];rfl
     ·rw [hA,hBb];exact hH
   ·skip
    refine S_lit (out:=[.slice a2 d.m c2]) (Ty.sle rfl) (Ty.zer rfl) rfl rfl rfl (by decide) rfl ?_
    intro u14 b14 _ hE14 hB14 _
    replace hx:=hSt hx hE14
    replace hH:=hH.ext0 hE14
    try replace hB7:=hB7.ext0 hE14
    refine ⟨hx,?_⟩
    refine WA_one 7 (by kernel_rfl) rfl rfl ?_
    refine S_lit (out:=[.slice a1 d.n c1]) (Ty.sle rfl) (Ty.zer rfl) rfl rfl rfl (by decide) rfl ?_
    intro u7 b7 _ hE7 hB7 _
    replace hx:=hSt hx hE7
    replace hH:=hH.ext0 hE7
    try replace hB14:=hB14.ext0 hE7
    refine ⟨hx,?_⟩
    refine WA_one 8 (by kernel_rfl) rfl rfl ?_
    refine S_call (sum_one hB7 (hH.o 3 rfl).sl hbA hAl (by omega)) rfl rfl ?_
    rintro v u8 ⟨rfl,rfl⟩
    refine ⟨hx,?_⟩
    refine wt 10 hx rfl rfl rfl (fun w' hw'=>by refine (k_eql rfl rfl).is (congrArg Value.bool hq1)) ?_
    refine WA_one 15 (by kernel_rfl) rfl rfl (S_call (sum_one hB14 (hH.o 4 rfl).sl hbB hBl (by omega)) rfl rfl ?_)
    rintro v u15 ⟨rfl,rfl⟩
    refine ⟨hx,?_⟩
    refine wt 17 hx rfl rfl rfl (fun w' hw'=>by refine (k_eql rfl rfl).is (congrArg Value.bool hq2)) ?_
    refine WA_one 19 (by kernel_rfl) rfl rfl (S_store (v:=.int .i64 (21+d.n+d.m:Nat)) rfl rfl (hH.b 2 rfl) (Nat.le_of_ble_eq_true rfl) rfl (Ty.shp rfl) ?_)
    intro u19 hE19 hB19 _
    have hx':=hx.1.then1' hE19
    replace hx:Ext [b8] w9 u19∧u19.cell? ⟨b8,6,none⟩=some (.slice a1 d.n c1)∧u19.cell? ⟨b8,7,none⟩=some (.slice a2 d.m c2):=⟨hx',hB19.cell rfl,hB19.cell rfl⟩
    clear hx'
    replace hH:=hH.up 2 rfl (r':=Rb b8 178 _) ⟨hE19,hB19,fun _ h=>.inl h⟩
    replace hH:=nn5 hH
    clear hE19 hB19
    refine ⟨hx,?_⟩
    refine wt 20 hx rfl rfl rfl (fun w' hw'=>by refine k_fa rfl (Ty.fld rfl rfl)) ?_
    refine WA_one 21 (by kernel_rfl) rfl rfl (S_store (v:=.bool (decide (crc A=d.sa))) rfl rfl (hH.b 2 rfl) (Nat.le_of_ble_eq_true rfl) rfl (Ty.shp rfl) ?_)
    intro u19 hE19 hB19 _
    have hx':=hx.1.then1' hE19
    replace hx:Ext [b8] w9 u19∧u19.cell? ⟨b8,6,none⟩=some (.slice a1 d.n c1)∧u19.cell? ⟨b8,7,none⟩=some (.slice a2 d.m c2):=⟨hx',hB19.cell rfl,hB19.cell rfl⟩
    clear hx'
    replace hH:=hH.up 2 rfl (r':=Rb b8 178 _) ⟨hE19,hB19,fun _ h=>.inl h⟩
    replace hH:=nn5 hH
    clear hE19 hB19
    refine ⟨hx,?_⟩
    refine wt 22 hx rfl rfl rfl (fun w' hw'=>by refine k_fa rfl (Ty.fld rfl rfl)) ?_
    refine WA_one 23 (by kernel_rfl) rfl rfl (S_store (v:=.bool (decide (crc Bb=d.sb))) rfl rfl (hH.b 2 rfl) (Nat.le_of_ble_eq_true rfl) rfl (Ty.shp rfl) ?_)
    intro u19 hE19 hB19 _
    have hx':=hx.1.then1' hE19
    replace hx:Ext [b8] w9 u19∧u19.cell? ⟨b8,6,none⟩=some (.slice a1 d.n c1)∧u19.cell? ⟨b8,7,none⟩=some (.slice a2 d.m c2):=⟨hx',hB19.cell rfl,hB19.cell rfl⟩
    clear hx'
    replace hH:=hH.up 2 rfl (r':=Rb b8 178 _) ⟨hE19,hB19,fun _ h=>.inl h⟩
    replace hH:=nn5 hH
    clear hE19 hB19
    refine ⟨hx,?_⟩
    refine WA_done (by kernel_rfl) ?_
    replace hH:=hH.as 2 rfl (r':=tkB b8 d.h (d.f:Nat) (d.c:Nat) (.slice a1 d.n c1) (.slice a2 d.m c2) (21+d.n+d.m:Nat) (decide (crc A=d.sa)) (decide (crc Bb=d.sb))) (fun _ h=>h) (fun h=>h)
    replace hH:=nn5 hH
    have hB9:Blk _ b8 178 (tkc d.h (d.f:Nat) (d.c:Nat) (.slice a1 d.n c1) (.slice a2 d.m c2) (21+d.n+d.m:Nat) (decide (crc A=d.sa)) (decide (crc Bb=d.sb))).toArray:=hH.b 2 rfl
    repeat (first|refine WS_seq ?_|refine WS_region ?_|(refine WL_r (by refine k_loadA rfl hB9 rfl (Ty.shp rfl)) rfl ?_))
    refine WL_s (H_storeA 1 hH rfl rfl rfl rfl rfl (tkc_one _ _ _ _ _ _ _ _ _ _ _ _) (Ty.shp rfl) ?_)
    try clear hH
    intro w10 hH
    replace hH:=nn5 hH
    have hB6:=hH.b 1 rfl
    replace hH:=Rs.of 3 (Rs.of 4 hH rfl) rfl
    replace hH:=((hH.del 2).del 1).del 0
    replace hH:=nn2 hH
    repeat (first|refine WL_nil ?_|refine lp rfl rfl ?_)
    refine WS_retc2 Tryz.func105 rfl rfl hB6 rfl (Ty.shp rfl) (.inl ⟨d,hfit0,herr,hbits,.inl ⟨by omega,hpe,a1,c1,a2,c2,?_,?_⟩⟩)
    ·rw [hA,hBb];rfl
    ·rw [hA,hBb];exact hH
  ·obtain ⟨er,her⟩:∃ er,er=perr d.h d.f d.c d.n d.m all:=⟨_,rfl⟩
   rw [← her] at hpe ⊢
   repeat (first|refine WS_seq ?_|refine WS_region ?_|refine WL_nil ?_|refine WS_true rfl ?_|(refine WL_r (by first|refine (k_neq rfl rfl).is (bT (by omega))|refine k_buildS (cs:=tkz) (Ty.zer rfl) (Ty.plc rfl) rfl|refine Run_pev rfl) rfl ?_))
   refine WL_s (H_storeA 1 hH rfl rfl rfl rfl rfl tkz_one (Ty.shp rfl) ?_)
   try clear hH
   intro w10 hH
   replace hH:=nn5 hH
   repeat (first|refine WL_nil ?_|refine lp rfl rfl ?_)
   refine WS_retc2 Tryz.func105 rfl rfl (hH.b 1 rfl) rfl (Ty.shp rfl) (.inl ⟨d,hfit0,herr,hbits,.inr ⟨er,hpe,rfl,hH.ext,fun h=>absurd h (by omega),fun _=>by rw [← her];exact hpe⟩⟩)
 ·replace hH:=hH.up 0 rfl hU
  clear hU
  replace hH:=nn2 hH
  have hno:∀ d:PD,d.h.err=0→H≠d.bits:=fun d he hd=>by
   have h1:=PH.rd_bits (r:=nb d.f 7++(nb d.c 7++(nb d.n 16++(nb d.m 16++(nb d.sa 16++nb d.sb 16))))) he
   have h2:d.h.bits++(nb d.f 7++(nb d.c 7++(nb d.n 16++(nb d.m 16++(nb d.sa 16++nb d.sb 16)))))=H:=hd.symm
   rw [h2] at h1
   rw [h1] at hbad
   rcases hbad with h|h
   ·cases h
   ·exact h he
  have hre:∀ k,rbt k s'=(0,s'):=fun k=>rbt_ended hs'
  have hrn:rend s'=3:=by unfold rend;rw [if_pos hs']
  repeat ((refine WL_r (by first|refine k_buildS (cs:=pkc PH.zero 0 0 (.slice none 0 0) (.slice none 0 0)) (Ty.zer rfl) (Ty.plc rfl) rfl|refine k_buildS (cs:=tkz) (Ty.zer rfl) (Ty.plc rfl) rfl) rfl ?_))
  refine WL_s (H_alloc hH (Ty.zer rfl) rfl ?_)
  try clear hH
  intro w3 b8 hH
  replace hH:=nn3 hH
  skip
  refine WL_s (H_storeA 2 hH rfl rfl rfl rfl rfl tkz_one (Ty.shp rfl) ?_)
  try clear hH
  intro w4 hH
  replace hH:=nn3 hH
  repeat (first|refine WS_seq ?_|refine WS_region ?_|refine WL_nil ?_|refine lp rfl rfl ?_)
  refine WL_s (S_call (rbits_spec' (k:=7) (by decide) (hH.at 0 rfl)) rfl rfl ?_)
  rintro v w' ⟨rfl,hU⟩
  replace hH:=hH.up 0 rfl hU
  clear hU
  replace hH:=nn3 hH
  rw [rbits_rbt,hre] at hH ⊢
  repeat ((refine WL_r (by first|refine Run_pev rfl|refine k_convI rfl rfl rfl (by omega)) rfl ?_))
  refine WL_s (S_call (rbits_spec' (k:=7) (by decide) (hH.at 0 rfl)) rfl rfl ?_)
  rintro v w' ⟨rfl,hU⟩
  replace hH:=hH.up 0 rfl hU
  clear hU
  replace hH:=nn3 hH
  rw [rbits_rbt,hre] at hH ⊢
  repeat ((refine WL_r (by refine k_convI rfl rfl rfl (by omega)) rfl ?_))
  repeat ((refine WL_r (by refine k_fa rfl (Ty.fld rfl rfl)) rfl ?_))
  refine WL_s (H_store 2 (v:=.int .i64 0) hH rfl rfl rfl (Nat.le_of_ble_eq_true rfl) rfl (Ty.shp rfl) ?_)
  try clear hH
  intro w'' hH
  replace hH:=nn3 hH
  repeat ((refine WL_r (by refine k_fa rfl (Ty.fld rfl rfl)) rfl ?_))
  refine WL_s (H_store 2 (v:=.int .i64 0) hH rfl rfl rfl (Nat.le_of_ble_eq_true rfl) rfl (Ty.shp rfl) ?_)
  try clear hH
  intro w'' hH
  replace hH:=nn3 hH
  repeat (first|refine WS_seq ?_|refine WS_region ?_|refine WL_nil ?_|refine lp rfl rfl ?_)
  refine WL_s (S_call (rbits_spec' (k:=16) (by decide) (hH.at 0 rfl)) rfl rfl ?_)
  rintro v w' ⟨rfl,hU⟩
  replace hH:=hH.up 0 rfl hU
  clear hU
  replace hH:=nn3 hH
  rw [rbits_rbt,hre] at hH ⊢
  repeat ((refine WL_r (by first|refine Run_pev rfl|refine k_convI rfl rfl rfl (by omega)) rfl ?_))
  refine WL_s (S_call (rbits_spec' (k:=16) (by decide) (hH.at 0 rfl)) rfl rfl ?_)
  rintro v w' ⟨rfl,hU⟩
  replace hH:=hH.up 0 rfl hU
  clear hU
  replace hH:=nn3 hH
  rw [rbits_rbt,hre] at hH ⊢
  repeat (first|refine WS_seq ?_|refine WS_region ?_|refine WL_nil ?_|(refine WL_r (by first|refine Run_pev rfl|refine k_convI rfl rfl rfl (by omega)) rfl ?_))
  refine WL_s (S_call (rbits_spec' (k:=16) (by decide) (hH.at 0 rfl)) rfl rfl ?_)
  rintro v w' ⟨rfl,hU⟩
  replace hH:=hH.up 0 rfl hU
  clear hU
  replace hH:=nn3 hH
  rw [rbits_rbt,hre] at hH ⊢
  repeat ((refine WL_r (by first|refine Run_pev rfl|refine k_conv16 rfl rfl rfl (by omega)) rfl ?_))
  refine WL_s (S_call (rbits_spec' (k:=16) (by decide) (hH.at 0 rfl)) rfl rfl ?_)
  rintro v w' ⟨rfl,hU⟩
  replace hH:=hH.up 0 rfl hU
  clear hU
  replace hH:=nn3 hH
  rw [rbits_rbt,hre] at hH ⊢
  repeat (first|refine WS_seq ?_|refine WS_region ?_|refine WL_nil ?_|refine WS_block ?_|(refine WL_r (by first|refine Run_pev rfl|refine k_conv16 rfl rfl rfl (by omega)) rfl ?_))
  refine WL_s (S_call (rend_spec (hH.at 0 rfl)) rfl rfl ?_)
  rintro v w5 ⟨rfl,hE⟩
  replace hH:=hH.ext0 hE
  rw [hrn]
  repeat (first|refine WS_seq ?_|refine WS_region ?_|refine WL_nil ?_|refine WS_true rfl ?_|(refine WL_r (by first|refine k_buildS (cs:=tkz) (Ty.zer rfl) (Ty.plc rfl) rfl|refine Run_pev rfl) rfl ?_))
  refine WL_s (H_storeA 1 hH rfl rfl rfl rfl rfl tkz_one (Ty.shp rfl) ?_)
  try clear hH
  intro wz hH
  replace hH:=nn3 hH
  repeat (first|refine WL_nil ?_|refine lp rfl rfl ?_)
  exact WS_retc2 Tryz.func105 rfl rfl (hH.b 1 rfl) rfl (Ty.shp rfl) (.inr ⟨hno,4,by decide,rfl,hH.ext⟩)
def PkT (l:List Nat) (all:Int) (v:Value) (w w':World):Prop :=
 (∃ d:PD,GH l d∧PkO l all d v [] w w')∨((∀ d:PD,¬ GH l d)∧∃ e:Nat,e≠0∧v=.tuple #[.agg tkz.toArray,.int .i64 e]∧Ext [] w w')
set_option maxRecDepth 20000 in
set_option maxHeartbeats 8000000 in
theorem pktake_spec {l:List Nat} {n cap:Nat} {a:Option Addr} {all:Int} {w:World} (hS:SlA w a (l.map B)) (hl:Byt l) (hn:l.length=n) (hcap:n≤cap) (hlen:n≤1099511627776) (hall:-9223372036854775808≤all∧all≤9223372036854775807) :
  Does Tryz.prog 74 #[.slice a n cap,.int .i64 all] w fun v w'=>PkT l all v w w':=by
 subst hn
 refine Does_of (args:=[_,_]) Tryz.func74 rfl rfl Tryz.ntmps74 rfl ?_
 have hH:=Hp.start w
 have hln:(l.map B).length=l.length:=by simp
 repeat (first|refine WS_seq ?_|refine WS_region ?_)
 refine WL_s (H_alloc hH (Ty.zer rfl) rfl ?_)
 try clear hH
 intro w1 b4 hH
 replace hH:=nn1 hH
 repeat (first|refine WS_seq ?_|refine WS_region ?_|refine WL_nil ?_|refine lp rfl rfl ?_)
 refine WL_s (S_call (find_spec (hH.old hS) hl rfl hlen (by decide)) rfl rfl ?_)
 rintro v w2 ⟨hF,rfl⟩
 by_cases hM:IsM l 0
 rotate_left
 ·have hno:∀ d:PD,¬ GH l d:=fun d h=>hM h.isM.1
  rcases hF with ⟨i,rfl,h1,h2,h3⟩|⟨rfl,h1⟩
  ·have hi:i≠0:=fun h=>hM (h▸h2)
   repeat (first|refine WS_seq ?_|refine WS_region ?_|refine WL_nil ?_|refine WS_true rfl ?_|refine WL_gyes rfl rfl rfl ?_|refine WL_gno rfl rfl rfl rfl rfl ?_|(refine WL_r (by first|refine k_buildS (cs:=tkz) (Ty.zer rfl) (Ty.plc rfl) rfl|refine (k_neq rfl rfl).is (bT (by omega))|refine Run_pev rfl|refine k_extract rfl rfl) rfl ?_))
   refine WL_s (H_storeA 0 hH rfl rfl rfl rfl rfl tkz_one (Ty.shp rfl) ?_)
   try clear hH
   intro wz hH
   replace hH:=nn1 hH
   repeat (first|refine WL_nil ?_|refine lp rfl rfl ?_)
   exact WS_retc2 Tryz.func74 rfl rfl (hH.b 0 rfl) rfl (Ty.shp rfl) (.inr ⟨hno,_,(by decide),rfl,hH.ext⟩)
  ·skip
   repeat (first|refine WS_seq ?_|refine WS_region ?_|refine WL_nil ?_|refine WS_true rfl ?_|refine WL_gno rfl rfl rfl rfl rfl ?_|(refine WL_r (by first|refine k_buildS (cs:=tkz) (Ty.zer rfl) (Ty.plc rfl) rfl|refine Run_pev rfl|refine k_extract rfl rfl) rfl ?_))
   refine WL_s (H_storeA 0 hH rfl rfl rfl rfl rfl tkz_one (Ty.shp rfl) ?_)
   try clear hH
   intro wz hH
   replace hH:=nn1 hH
   repeat (first|refine WL_nil ?_|refine lp rfl rfl ?_)
   exact WS_retc2 Tryz.func74 rfl rfl (hH.b 0 rfl) rfl (Ty.shp rfl) (.inr ⟨hno,_,(by decide),rfl,hH.ext⟩)
 obtain rfl:v=.tuple #[.int .i64 0,.bool true]:=by
  rcases hF with ⟨i,rfl,h1,h2,h3⟩|⟨rfl,h1⟩
  ·have:i=0:=by
    rcases Nat.eq_zero_or_pos i with h|h
    ·exact h
    ·exact absurd hM (h3 0 (by omega) h)
   subst this;rfl
  ·exact absurd hM (h1 0 (by omega))
 by_cases h4:l.length<4
 ·have hno:∀ d:PD,¬ GH l d:=fun d h=>by have:=h.len;omega
  repeat (first|refine WS_seq ?_|refine WS_region ?_|refine WL_nil ?_|refine WS_yes rfl (by omega) ?_|refine WL_gyes rfl rfl rfl ?_|(refine WL_r (by first|refine k_buildS (cs:=tkz) (Ty.zer rfl) (Ty.plc rfl) rfl|refine (k_neq rfl rfl).is (bF (by omega))|refine Run_pev rfl|refine k_len rfl (Ty.isl rfl)|refine k_extract rfl rfl) rfl ?_))
  refine WL_s (H_storeA 0 hH rfl rfl rfl rfl rfl tkz_one (Ty.shp rfl) ?_)
  try clear hH
  intro wz hH
  replace hH:=nn1 hH
  repeat (first|refine WL_nil ?_|refine lp rfl rfl ?_)
  exact WS_retc2 Tryz.func74 rfl rfl (hH.b 0 rfl) rfl (Ty.shp rfl) (.inr ⟨hno,_,(by decide),rfl,hH.ext⟩)
 obtain ⟨c3,hc3⟩:∃ c,l[3]?=some c:=⟨l[3]'(by omega),by rw [List.getElem?_eq_getElem]⟩
 have hv3:(l.map B)[3]?=some (B c3):=by rw [List.getElem?_map,hc3];rfl
 have hS2:=hH.old hS
 by_cases hk:c3=182
 rotate_left
 ·have hno:∀ d:PD,¬ GH l d:=fun d h=>hk (by have:=h.isM.2;rw [hc3] at this;exact Option.some.inj this)
  repeat (first|refine WS_seq ?_|refine WS_region ?_|refine WL_nil ?_|refine WS_block ?_|refine WS_skip ?_|refine WS_true rfl ?_|refine WS_no rfl (by omega) ?_|refine WL_gyes rfl rfl rfl ?_|(refine WL_r (by first|refine k_buildS (cs:=tkz) (Ty.zer rfl) (Ty.plc rfl) rfl|refine (k_neq (m:=0) (n:=0) rfl rfl).is (bF (by omega))|refine k_ix1 rfl rfl hS2 hln (Ty.sle rfl) (by omega)|refine k_loads rfl hS2 hv3 (Ty.shp rfl)|refine (k_neq rfl rfl).is (bT (by omega))|refine Run_pev rfl|refine k_len rfl (Ty.isl rfl)|refine k_extract rfl rfl) rfl ?_))
  refine WL_s (H_storeA 0 hH rfl rfl rfl rfl rfl tkz_one (Ty.shp rfl) ?_)
  try clear hH
  intro wz hH
  replace hH:=nn1 hH
  repeat (first|refine WL_nil ?_|refine lp rfl rfl ?_)
  exact WS_retc2 Tryz.func74 rfl rfl (hH.b 0 rfl) rfl (Ty.shp rfl) (.inr ⟨hno,_,(by decide),rfl,hH.ext⟩)
 subst hk
 by_cases h21:l.length<21
 ·have hno:∀ d:PD,¬ GH l d:=fun d h=>by have:=h.len;omega
  repeat (first|refine WS_seq ?_|refine WS_region ?_|refine WL_nil ?_|refine WS_block ?_|refine WS_skip ?_|refine WS_false rfl ?_|refine WS_yes rfl (by omega) ?_|refine WS_no rfl (by omega) ?_|refine WL_gyes rfl rfl rfl ?_|(refine WL_r (by first|refine k_buildS (cs:=tkz) (Ty.zer rfl) (Ty.plc rfl) rfl|refine (k_neq rfl rfl).is (bF (by omega))|refine k_ix1 rfl rfl hS2 hln (Ty.sle rfl) (by omega)|refine k_loads rfl hS2 hv3 (Ty.shp rfl)|refine Run_pev rfl|refine k_len rfl (Ty.isl rfl)|refine k_extract rfl rfl) rfl ?_))
  refine WL_s (H_storeA 0 hH rfl rfl rfl rfl rfl tkz_one (Ty.shp rfl) ?_)
  try clear hH
  intro wz hH
  replace hH:=nn1 hH
  repeat (first|refine WL_nil ?_|refine lp rfl rfl ?_)
  exact WS_retc2 Tryz.func74 rfl rfl (hH.b 0 rfl) rfl (Ty.shp rfl) (.inr ⟨hno,_,(by decide),rfl,hH.ext⟩)
 have hl4:=take4 hM hc3
 repeat (first|refine WS_seq ?_|refine WS_region ?_|refine WL_nil ?_|refine WS_block ?_|refine WS_inBlock ?_|refine WS_skip ?_|refine WS_false rfl ?_|refine WS_no rfl (by omega) ?_|refine WL_gyes rfl rfl rfl ?_|(refine WL_r (by first|refine (k_neq rfl rfl).is (bF (by omega))|refine k_ix1 rfl rfl hS2 hln (Ty.sle rfl) (by omega)|refine k_loads rfl hS2 hv3 (Ty.shp rfl)|refine k_buildS (cs:=[.slice none 0 0,.int .i64 0]) (Ty.zer rfl) (Ty.plc rfl) rfl|refine Run_pev rfl|refine k_len rfl (Ty.isl rfl)|refine k_extract rfl rfl) rfl ?_))
 refine WL_s (H_box hH rfl rfl rfl ?_)
 try clear hH
 intro w3 q hH
 replace hH:Hp [] w w3 [Rb b4 178 tkz.toArray,Rw q none 0 []]:=hH.as 1 rfl (fun x hx=>by simpa [Rw,sep,Rb,RBy,Ro,blk] using hx) (fun hB=>⟨hB,Own.nil,fun _ _ hb=>by simp [RBy,Ro,blk] at hb⟩)
 obtain ⟨seg,hseg⟩:∃ seg,seg=(l.drop 4).take 17:=⟨_,rfl⟩
 have hsl:seg.length=17:=by rw [hseg];simp;omega
 have hsb:Byt seg:=fun x hx=>hl x (by rw [hseg] at hx;exact List.mem_of_mem_drop (List.mem_of_mem_take hx))
 have hSS:∀ {w'':World},SlA w'' a (l.map B)→SlA w'' (if cap=4 then a else a.map (·.add (4*1))) (seg.map B):=fun hh=>by
  have:=mid_cells (l:=4) (h:=21) hh (by omega) (by omega) hcap
  rw [← List.map_drop,← List.map_take] at this
  rw [hseg];exact this
 repeat (first|refine WS_seq ?_|refine WS_region ?_|refine WL_nil ?_|refine WS_block ?_|(refine WL_r (by first|refine k_slcN (l:=4) (h:=21) rfl rfl rfl (Ty.sle rfl) (by omega)|refine Run_pev rfl|refine k_len rfl (Ty.isl rfl)) rfl ?_))
 generalize (if cap=4 then a else a.map (·.add (4 * 1)))=asg at *
 refine WS_loop (G:=(Nat) × (Option Addr) × (Nat)) (fun|(i,a1,c1)=>17-i) 576390383559246880 (fun|(i,a1,c1)=>[(46,.int .i64 i)]) (fun|(i,a1,c1),w'=>i≤17∧(∀ c∈seg.take i,¬ (c &&& 128=0))∧Hp [] w w' [Rb b4 178 tkz.toArray,Rw q a1 c1 (b7 (seg.take i))]) (0,none,0) ⟨rfl,trivial⟩ ⟨by omega,by simp,hH⟩ ?_
 rintro ⟨i,a1,c1⟩ w' σ ⟨hi,htop,hH⟩ IH
 show WS _ _ _ _ _ (updL [(46,.int .i64 i)] _) _
 by_cases hlt:i<17
 ·have hv:(seg.map B)[i]?=some (B seg[i]):=by simp [hsl,hlt]
  have hcb:seg[i]<256:=hsb _ (List.getElem_mem _)
  have hst:seg.take (i+1)=seg.take i++[seg[i]]:=List.take_succ_eq_append_getElem (by omega)
  have hmem:seg[i]∈seg:=List.getElem_mem _
  generalize seg[i]=ci at *
  have hSs:=hSS (hH.old hS)
  have hsl2:(seg.map B).length=21-4:=by rw [List.length_map,hsl]
  by_cases ht:ci &&& 128=0
  ·have hno:∀ d:PD,¬ GH l d:=fun d h=>by
    have h1:=h.seg
    rw [← hseg] at h1
    rw [h1] at hmem
    obtain ⟨j,_,hj⟩:=List.mem_map.1 hmem
    exact ch_top _ j (by rw [hj];exact ht)
   repeat (first|refine WS_seq ?_|refine WS_region ?_|refine WL_nil ?_|refine WS_block ?_|refine WS_skip ?_|refine WS_true rfl ?_|refine WS_yes rfl (by omega) ?_|(refine WL_r (by first|refine k_buildS (cs:=tkz) (Ty.zer rfl) (Ty.plc rfl) rfl|refine k_ix1 rfl rfl hSs hsl2 (Ty.sle rfl) (by omega)|refine k_loads rfl hSs hv (Ty.shp rfl)|refine k_and (n:=128) rfl rfl (fit8 hcb) rfl|refine (k_eql rfl rfl).is (bT (by omega))|refine Run_pev rfl) rfl ?_))
   refine WL_s (H_storeA 0 hH rfl rfl rfl rfl rfl tkz_one (Ty.shp rfl) ?_)
   try clear hH
   intro wz hH
   replace hH:=nn2 hH
   repeat (first|refine WL_nil ?_|refine lp rfl rfl ?_)
   exact WS_retc2 Tryz.func74 rfl rfl (hH.b 0 rfl) rfl (Ty.shp rfl) (.inr ⟨hno,_,(by decide),rfl,hH.ext⟩)
  ·repeat (first|refine WS_seq ?_|refine WS_region ?_|refine WL_nil ?_|refine WS_block ?_|refine WS_skip ?_|refine WS_false rfl ?_|refine WS_yes rfl (by omega) ?_|(refine WL_r (by first|refine k_ix1 rfl rfl hSs hsl2 (Ty.sle rfl) (by omega)|refine k_loads rfl hSs hv (Ty.shp rfl)|refine k_and (n:=128) rfl rfl (fit8 hcb) rfl|refine (k_eql rfl rfl).is (bF (by omega))|refine Run_pev rfl|refine k_conv64 rfl rfl rfl (by omega)) rfl ?_))
   refine WL_s (S_call (wput_spec (n:=ci) (s:=7) (by omega) (by decide) (by rw [b7_len,List.length_take];omega) (hH.at 1 rfl)) rfl rfl ?_)
   rintro v w4 ⟨rfl,a2,c2,hU⟩
   replace hH:=hH.up 1 rfl hU
   clear hU
   replace hH:=nn2 hH
   repeat (first|refine WS_region ?_|refine WL_nil ?_|refine WS_inBlock ?_|(refine WL_r (by first|refine Run_pev rfl|refine k_add64 rfl rfl (by omega)) rfl ?_))
   refine IH (i+1,a2,c2) _ _ ?_ ?_ ?_ ?_
   ·simp only;omega
   ·exact ⟨rfl,trivial⟩
   ·repeat first|with_reducible apply Agr.refl|refine Agr.upd rfl ?_|refine Agr.updL rfl ?_|refine Agr.mrg rfl ?_
   ·exact ⟨by omega,by rw [hst];intro c hc;rcases List.mem_append.1 hc with h|h;exact htop c h;simp at h;subst h;exact ht,by rw [hst,b7_snoc];exact hH⟩
 obtain rfl:i=17:=by omega
 clear IH
 rw [List.take_of_length_le (by omega)] at hH htop
 have hchs:chs (b7 seg)=seg:=chs_b7 hsl (fun c hc=>⟨hsb c hc,htop c hc⟩)
 have hXl:(b7 seg).length=119:=by rw [b7_len,hsl]
 have hX:∀ d:PD,GH l d→b7 seg=xb d.bits:=fun d h=>by
  rw [hseg,h.seg,b7_chs (xb_len d)]
 have hX2:∀ d:PD,d.fits→d.h.err=0→b7 seg=xb d.bits→GH l d:=fun d hf he hx=>GH.of hf he hl4 (by rw [← hseg,← hx,hchs])
 generalize b7 seg=X at *
 have hpl:=pk_len X
 have hpb:=pk_byt X
 have hbp:=bl_pk X
 repeat (first|refine WS_seq ?_|refine WS_region ?_|refine WL_nil ?_|refine WS_exit rfl ?_|refine WS_false rfl ?_|refine lp rfl rfl ?_)
 refine WL_s (S_call (wbytes_spec (hH.at 1 rfl) (by omega)) rfl rfl ?_)
 rintro v w4 ⟨a4,c4,rfl,hN⟩
 replace hH:=hH.nu hN
 clear hN
 replace hH:=nn3 hH
 repeat (refine lp rfl rfl ?_)
 refine WL_s (S_call (wlen_spec (hH.at 1 rfl)) rfl rfl ?_)
 rintro v w5 ⟨rfl,rfl⟩
 skip
 refine WL_s (S_call (read_spec (e:=X.length) (hH.o 2 rfl).sl rfl (by omega) (by omega)) rfl rfl ?_)
 rintro v w5 ⟨r,a5,c5,rfl,hN⟩
 replace hN:=Rr.rd hN (by omega) (by omega) hpb
 rw [hbp] at hN
 replace hH:=((hH.nu hN).del 2).del 1
 clear hN
 replace hH:=nn2 hH
 repeat (first|refine WS_seq ?_|refine WS_region ?_|refine WL_nil ?_|(refine WL_r (by first|refine k_buildS (cs:=[.slice none 0 0,.int .i64 0]) (Ty.zer rfl) (Ty.plc rfl) rfl|refine Run_pev rfl) rfl ?_))
 refine WL_s (H_box hH rfl rfl rfl ?_)
 try clear hH
 intro w6 q2 hH
 replace hH:Hp [] w w6 [Rb b4 178 tkz.toArray,Rd r a5 c5 ⟨X,false⟩,Rw q2 none 0 []]:=hH.as 2 rfl (fun x hx=>by simpa [Rw,sep,Rb,RBy,Ro,blk] using hx) (fun hB=>⟨hB,Own.nil,fun _ _ hb=>by simp [RBy,Ro,blk] at hb⟩)
 repeat (first|refine WS_seq ?_|refine WS_region ?_|refine WL_nil ?_|refine WS_block ?_|refine lp rfl rfl ?_)
 refine WS_loop (G:=(Nat) × (Option Addr) × (Nat)) (fun|(i,a1,c1)=>101-i) 9370945989444452220928 (fun|(i,a1,c1)=>[(66,.int .i64 i)]) (fun|(i,a1,c1),w'=>i≤101∧Hp [] w w' [Rb b4 178 tkz.toArray,Rd r a5 c5 ⟨X.drop i,false⟩,Rw q2 a1 c1 (X.take i)]) (0,none,0) ⟨rfl,trivial⟩ ⟨by omega,hH⟩ ?_
 rintro ⟨i,a1,c1⟩ w' σ ⟨hi,hH⟩ IH
 show WS _ _ _ _ _ (updL [(66,.int .i64 i)] _) _
 by_cases hlt:i<101
 ·have hd:X.drop i=X[i]::X.drop (i+1):=List.drop_eq_getElem_cons (by omega)
  have hst:X.take (i+1)=X.take i++[X[i]]:=List.take_succ_eq_append_getElem (by omega)
  rw [hd] at hH
  generalize X[i]=x at *
  repeat (first|refine WS_seq ?_|refine WS_region ?_|refine WL_nil ?_|refine WS_block ?_|refine WS_skip ?_|refine WS_yes rfl (by omega) ?_|refine lp rfl rfl ?_)
  refine WL_s (S_call (rbit_spec (hH.at 1 rfl)) rfl rfl ?_)
  rintro v w7 ⟨rfl,hU⟩
  replace hH:=hH.up 1 rfl hU
  clear hU
  replace hH:=nn3 hH
  rw [rbit_cons] at hH ⊢
  have hb1:x.toNat<18446744073709551616:=by cases x<;>decide
  skip
  refine WL_s (S_call (wput_spec (s:=1) hb1 (by decide) (by rw [List.length_take];omega) (hH.at 2 rfl)) rfl rfl ?_)
  rintro v w8 ⟨rfl,a2,c2,hU⟩
  replace hH:=hH.up 2 rfl hU
  clear hU
  replace hH:=nn3 hH
  rw [nb1] at hH
  repeat (first|refine WS_region ?_|refine WL_nil ?_|refine WS_inBlock ?_|(refine WL_r (by first|refine Run_pev rfl|refine k_add64 rfl rfl (by omega)) rfl ?_))
  refine IH (i+1,a2,c2) _ _ ?_ ?_ ?_ ?_
  ·simp only;omega
  ·exact ⟨rfl,trivial⟩
  ·repeat first|with_reducible apply Agr.refl|refine Agr.upd rfl ?_|refine Agr.updL rfl ?_|refine Agr.mrg rfl ?_
  ·exact ⟨by omega,by rw [hst];exact hH⟩
 obtain rfl:i=101:=by omega
 clear IH
 obtain ⟨H,R,rfl,hHl,hRl⟩:=split_at (n:=18) 101 (by omega:X.length=101+18)
 rw [List.drop_left' hHl,List.take_left' hHl] at hH
 obtain ⟨S1,S2,rfl,hS1l,hS2l⟩:=split_at (n:=2) 16 (by omega:R.length=16+2)
 obtain ⟨x1,hx1,rfl⟩:=nb_of hS1l
 obtain ⟨x2,hx2,rfl⟩:=nb_of hS2l
 have hHpl:=pk_len H
 have hHpb:=pk_byt H
 have hHbp:=bl_pk H
 have hcH:=crc_lt (pk H)
 repeat (first|refine WS_seq ?_|refine WS_region ?_|refine WL_nil ?_|refine WS_exit rfl ?_|refine WS_false rfl ?_|refine lp rfl rfl ?_)
 refine WL_s (S_call (wbytes_spec (hH.at 2 rfl) (by omega)) rfl rfl ?_)
 rintro v w7 ⟨a7,c7,rfl,hN⟩
 replace hH:=hH.nu hN
 clear hN
 replace hH:=nn4 hH
 skip
 refine WL_s (H_lit (out:=[.slice a7 (pk H).length c7]) hH (Ty.sle rfl) (Ty.zer rfl) rfl rfl rfl (by decide) rfl ?_)
 try clear hH
 intro _ bs hH
 replace hH:=nn5 hH
 have hbs:=hH.b 4 rfl
 skip
 refine WL_s (S_call (sum_one hbs (hH.o 3 rfl).sl hHpb rfl (by omega)) rfl rfl ?_)
 rintro v w8 ⟨rfl,rfl⟩
 rw [show crcAdd 65535 (pk H)=crc (pk H) from rfl]
 repeat ((refine WL_r (by first|refine Run_pev rfl|refine k_conv64 rfl rfl rfl (by omega)) rfl ?_))
 refine WL_s (S_call (rbits_spec' (k:=16) (by decide) (hH.at 1 rfl)) rfl rfl ?_)
 rintro v w9 ⟨rfl,hU⟩
 replace hH:=(hH.up 1 rfl hU).take 3
 clear hU
 replace hH:=nn3 hH
 rw [rbits_rbt,rbt_app (k:=16) hx1] at hH ⊢
 by_cases hc:crc (pk H)=x1
 rotate_left
 ·have hno:∀ d:PD,¬ GH l d:=fun d h=>by
   have h1:=hX d h
   unfold xb at h1
   obtain ⟨h2,h3⟩:=app_inj h1 (by rw [hHl,PD.bits_len])
   obtain ⟨h4,_⟩:=app_inj h3 (by simp [nb_len])
   rw [← h2] at h4
   exact hc (nb_inj hx1 hcH h4).symm
  repeat (first|refine WS_seq ?_|refine WS_region ?_|refine WL_nil ?_|refine WS_true rfl ?_|refine WL_gno rfl rfl rfl rfl rfl ?_|(refine WL_r (by first|refine k_buildS (cs:=tkz) (Ty.zer rfl) (Ty.plc rfl) rfl|refine (k_neq rfl rfl).is (bT (by omega))|refine Run_pev rfl) rfl ?_))
  refine WL_s (H_storeA 0 hH rfl rfl rfl rfl rfl tkz_one (Ty.shp rfl) ?_)
  try clear hH
  intro wz hH
  replace hH:=nn3 hH
  repeat (first|refine WL_nil ?_|refine lp rfl rfl ?_)
  exact WS_retc2 Tryz.func74 rfl rfl (hH.b 0 rfl) rfl (Ty.shp rfl) (.inr ⟨hno,_,(by decide),rfl,hH.ext⟩)
 repeat (first|refine WL_gyes rfl rfl rfl ?_|(refine WL_r (by first|refine (k_neq rfl rfl).is (bF (by omega))|refine Run_pev rfl) rfl ?_))
 refine WL_s (S_call (rbits_spec' (k:=2) (by decide) (hH.at 1 rfl)) rfl rfl ?_)
 rintro v w10 ⟨rfl,hU⟩
 replace hH:=hH.up 1 rfl hU
 clear hU
 replace hH:=nn3 hH
 have hlast:rbt 2 (⟨nb x2 2,false⟩:RS)=(x2,⟨[],false⟩):=by have:=rbt_app (k:=2) (r:=[]) hx2;rwa [List.append_nil] at this
 rw [rbits_rbt,hlast] at hH ⊢
 by_cases hz:x2=0
 rotate_left
 ·have hno:∀ d:PD,¬ GH l d:=fun d h=>by
   have h1:=hX d h
   unfold xb at h1
   obtain ⟨h2,h3⟩:=app_inj h1 (by rw [hHl,PD.bits_len])
   obtain ⟨_,h5⟩:=app_inj h3 (by simp [nb_len])
   exact hz (nb_inj hx2 (by decide) h5)
  repeat (first|refine WS_seq ?_|refine WS_region ?_|refine WL_nil ?_|refine WS_true rfl ?_|refine WL_gyes rfl rfl rfl ?_|(refine WL_r (by first|refine k_buildS (cs:=tkz) (Ty.zer rfl) (Ty.plc rfl) rfl|refine (k_neq rfl rfl).is (bT (by omega))|refine Run_pev rfl) rfl ?_))
  refine WL_s (H_storeA 0 hH rfl rfl rfl rfl rfl tkz_one (Ty.shp rfl) ?_)
  try clear hH
  intro wz hH
  replace hH:=nn3 hH
  repeat (first|refine WL_nil ?_|refine lp rfl rfl ?_)
  exact WS_retc2 Tryz.func74 rfl rfl (hH.b 0 rfl) rfl (Ty.shp rfl) (.inr ⟨hno,_,(by decide),rfl,hH.ext⟩)
 repeat (first|refine WS_seq ?_|refine WS_region ?_|refine WL_nil ?_|refine WS_skip ?_|refine WS_false rfl ?_|refine WL_gyes rfl rfl rfl ?_|(refine WL_r (by first|refine (k_neq rfl rfl).is (bF (by omega))|refine Run_pev rfl) rfl ?_))
 have hHle:H.length≤1099511627776:=by rw [hHl];decide
 refine WL_s (S_call (wbytes_spec (hH.at 2 rfl) hHle) rfl rfl ?_)
 rintro v w11 ⟨a11,c11,rfl,hN⟩
 replace hH:=hH.nu hN
 clear hN
 replace hH:=nn4 hH
 skip
 refine WL_s (S_call (read_spec (e:=101) (hH.o 3 rfl).sl rfl (by omega) (by omega)) rfl rfl ?_)
 rintro v w12 ⟨r2,a12,c12,rfl,hN⟩
 replace hN:=Rr.rd hN (by omega) (by omega) hHpb
 rw [← hHl,hHbp] at hN
 replace hH:=(((hH.nu hN).del 3).del 2).del 1
 clear hN
 replace hH:=nn2 hH
 have hdj:∀ x∈(Rd r2 a12 c12 ⟨H,false⟩).fp,x ∉ blk a:=fun x hx hb=>by
  rcases hH.new _ (by simp) x hx with h|h
  ·cases h
  ·have hne:l.map B≠[]:=fun h=>by rw [h] at hln;simp at hln;omega
   have:=hS.lt hne x hb
   omega
 skip
 refine WL_s (S_call (pkparts_spec (hH.old hS) hl rfl hcap hlen (by omega) hall hHl (hH.at 1 rfl) hdj) rfl rfl ?_)
 rintro v w13 hP
 rcases hP with ⟨d,hfit,herr,hHd,hO⟩|⟨hno0,e,he,rfl,hE⟩
 ·have hGH:GH l d:=hX2 d hfit herr (by rw [← hc,hz,hHd];rfl)
  rcases hO with ⟨h1,h2,a1,c1,a2,c2,rfl,hQ⟩|⟨e,he,rfl,hE,h1,h2⟩
  ·replace hH:=hH.call 1 rfl hQ
   replace hH:=nn3 hH
   repeat ((refine WL_r (by refine k_extract rfl rfl) rfl ?_))
   refine WL_s (H_storeA 0 hH rfl rfl rfl rfl rfl (tkc_one _ _ _ _ _ _ _ _ _ _ _ _) (Ty.shp rfl) ?_)
   try clear hH
   intro wz hH
   replace hH:=nn3 hH
   repeat (first|refine WL_nil ?_|refine lp rfl rfl ?_)
   exact WS_retc2 Tryz.func74 rfl rfl (hH.b 0 rfl) rfl (Ty.shp rfl) (.inl ⟨d,hGH,.inl ⟨h1,h2,a1,c1,a2,c2,rfl,hH.del 0⟩⟩)
  ·replace hH:=hH.call 1 rfl (Hp.bare hE)
   replace hH:=nn1 hH
   repeat ((refine WL_r (by refine k_extract rfl rfl) rfl ?_))
   refine WL_s (H_storeA 0 hH rfl rfl rfl rfl rfl tkz_one (Ty.shp rfl) ?_)
   try clear hH
   intro wz hH
   replace hH:=nn1 hH
   repeat (first|refine WL_nil ?_|refine lp rfl rfl ?_)
   exact WS_retc2 Tryz.func74 rfl rfl (hH.b 0 rfl) rfl (Ty.shp rfl) (.inl ⟨d,hGH,.inr ⟨e,he,rfl,hH.ext,h1,h2⟩⟩)
 ·have hno:∀ d:PD,¬ GH l d:=fun d h=>by
   have h1:=hX d h
   unfold xb at h1
   exact hno0 d h.2.1 (app_inj h1 (by rw [hHl,PD.bits_len])).1
  replace hH:=hH.call 1 rfl (Hp.bare hE)
  replace hH:=nn1 hH
  repeat ((refine WL_r (by refine k_extract rfl rfl) rfl ?_))
  refine WL_s (H_storeA 0 hH rfl rfl rfl rfl rfl tkz_one (Ty.shp rfl) ?_)
  try clear hH
  intro wz hH
  replace hH:=nn1 hH
  repeat (first|refine WL_nil ?_|refine lp rfl rfl ?_)
  exact WS_retc2 Tryz.func74 rfl rfl (hH.b 0 rfl) rfl (Ty.shp rfl) (.inr ⟨hno,e,he,rfl,hH.ext⟩)
end Go.Proofs.YtpbiicegmcpkpaaGreat
