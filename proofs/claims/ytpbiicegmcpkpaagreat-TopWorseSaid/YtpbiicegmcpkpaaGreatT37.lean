/- A part of the proof that TopWorse is true at every input; no condition. -/
import Derived.Test.YtpbiicegmcpkpaaGreatT28
namespace Go.Proofs.YtpbiicegmcpkpaaGreat
open Go Go.K Go.P Go.RowKit Go.Proofs
abbrev cfz:List Value:=SH.zero.cells++[.int .i64 0,.int .i64 0,.int .i64 0,.bool false,.bool false,.bool false,.int .i64 0,.int .i64 0]
abbrev cf1:List Value:=SH.one.cells++[.int .i64 1,.int .i64 0,.int .i64 0,.bool false,.bool false,.bool false,.int .i64 1,.int .i64 0]
theorem sfit0 {w:World}:Does Tryz.prog 17 #[.agg SH.zero.cells.toArray] w fun v w'=>v=.agg SH.one.cells.toArray∧Ext [] w w':=by
 have h:=sfit_spec SH.zero_ok (w:=w)
 rwa [show SH.zero.fit.cells=SH.one.cells by kernel_rfl] at h
set_option maxRecDepth 20000 in
set_option maxHeartbeats 8000000 in
theorem config_spec {w:World}:Does Tryz.prog 12 #[.agg cfz.toArray] w fun v w'=>v=.agg cf1.toArray∧Ext [] w w':=by
 refine Does_of (args:=[_]) Tryz.func12 rfl rfl Tryz.ntmps12 rfl ?_
 have hH:=Hp.start w
 repeat (first|refine WS_seq ?_|refine WS_region ?_)
 refine WL_s (H_box (cs:=cfz.toArray) hH rfl rfl rfl ?_)
 try clear hH
 intro _ b1 hH
 replace hH:=nn1 hH
 skip
 refine WL_s (H_alloc (zs:=cfz) hH (Ty.zer rfl) rfl ?_)
 try clear hH
 intro _ b2 hH
 replace hH:=nn2 hH
 have hS1:SlA _ (some ⟨b1,0,none⟩) cfz:=(hH.b 0 rfl).sl0
 repeat (first|refine WS_seq ?_|refine WS_region ?_|refine WL_nil ?_|(refine WL_r (by first|refine k_fa rfl (Ty.fld rfl rfl)|refine k_loadC (j:=0+0) (cs:=SH.zero.cells) rfl hS1 (by kernel_rfl) rfl (Ty.shp rfl)) rfl ?_))
 clear hS1
 refine WL_s (S_call (sfit0) rfl rfl ?_)
 rintro _ _ ⟨rfl,hE0⟩
 replace hH:=hH.ext0 hE0
 clear hE0
 replace hH:=nn2 hH
 skip
 refine WL_s (H_alloc (zs:=SH.zero.cells) hH (Ty.zer rfl) rfl ?_)
 try clear hH
 intro _ b3 hH
 replace hH:=nn3 hH
 skip
 refine WL_s (H_storeA 2 (vs:=SH.one.cells.toArray) (s:=131) hH rfl rfl rfl rfl rfl (cells_one SH.one) (Ty.shp rfl) ?_)
 clear hH
 intro _ hH
 replace hH:=nn3 hH
 have hB3:=hH.b 2 rfl
 repeat (first|refine WS_seq ?_|refine WS_region ?_|refine WL_nil ?_|(refine WL_r (by first|refine k_fa rfl (Ty.fld rfl rfl)|refine k_loadb (v:=.int .i64 1) rfl hB3 rfl (Ty.shp rfl)|refine (k_sub64 (m:=1) (n:=1) rfl rfl (by omega)).is (v':=.int .i64 0) rfl|refine (k_rem (m:=0) (n:=3) rfl rfl (by omega)).is (v':=.int .i64 0) rfl|refine (k_add64 (m:=1) (n:=0) rfl rfl (by omega)).is (v':=.int .i64 1) rfl) rfl ?_))
 clear hB3
 refine WL_s (H_storeL 2 (o:=0+0) (v:=.int .i64 1) hH rfl rfl rfl (by decide) rfl (Ty.shp rfl) ?_)
 clear hH
 intro _ hH
 replace hH:=nn3 hH
 repeat ((refine WL_r (by refine k_fa rfl (Ty.fld rfl rfl)) rfl ?_))
 refine WL_s (H_storeL 2 (o:=0+1) (v:=.int .i64 1) hH rfl rfl rfl (by decide) rfl (Ty.shp rfl) ?_)
 clear hH
 intro _ hH
 replace hH:=nn3 hH
 replace hH:Hp [] w _ [Rb b1 61 cfz.toArray,Rb b2 61 cfz.toArray,Rb b3 26 SH.one.cells.toArray]:=hH
 have hB1:=hH.b 0 rfl
 have hB3:=hH.b 2 rfl
 repeat (first|refine WS_seq ?_|refine WS_region ?_|refine WL_nil ?_|(refine WL_r (by first|refine k_fa rfl (Ty.fld rfl rfl)|refine k_loadA rfl hB3 rfl (Ty.shp rfl)|refine k_loadb (v:=.int .i64 0) rfl hB1 rfl (Ty.shp rfl)|refine k_loadb (v:=.bool false) rfl hB1 rfl (Ty.shp rfl)|refine (k_andm (i:=0) (k:=5) rfl rfl (by decide)).is (v':=.int .i64 0) rfl|refine (k_andm (i:=0) (k:=2) rfl rfl (by decide)).is (v':=.int .i64 0) rfl|refine (k_andm (i:=0) (k:=1) rfl rfl (by decide)).is (v':=.int .i64 0) rfl|refine (k_andm (i:=0) (k:=3) rfl rfl (by decide)).is (v':=.int .i64 0) rfl|refine (k_andm (i:=0) (k:=11) rfl rfl (by decide)).is (v':=.int .i64 0) rfl|refine (k_rem (m:=0) (n:=31) rfl rfl (by omega)).is (v':=.int .i64 0) rfl|refine (k_add64 (m:=1) (n:=0) rfl rfl (by omega)).is (v':=.int .i64 1) rfl|refine k_buildS (cs:=cf1) (Ty.zer rfl) (Ty.plc rfl) (by kernel_rfl)) rfl ?_))
 refine WL_s (H_storeA 1 (vs:=cf1.toArray) (s:=139) hH rfl rfl rfl rfl rfl (by decide +kernel) (Ty.shp rfl) ?_)
 clear hH
 intro _ hH
 replace hH:=nn3 hH
 repeat (refine WL_nil ?_)
 exact WS_retc1 Tryz.func12 rfl rfl (hH.b 1 rfl) rfl (Ty.shp rfl) ⟨rfl,hH.ext⟩
set_option maxRecDepth 20000 in
set_option maxHeartbeats 4000000 in
theorem ccheck_spec {w:World}:Does Tryz.prog 26 #[.agg cf1.toArray] w fun v w'=>v=.int .i64 0∧Ext [] w w':=by
 refine Does_of (args:=[_]) Tryz.func26 rfl rfl Tryz.ntmps26 rfl ?_
 have hH:=Hp.start w
 repeat (first|refine WS_seq ?_|refine WS_region ?_)
 refine WL_s (H_box (cs:=cf1.toArray) hH rfl rfl rfl ?_)
 try clear hH
 intro _ b1 hH
 replace hH:=nn1 hH
 have hS1:SlA _ (some ⟨b1,0,none⟩) cf1:=(hH.b 0 rfl).sl0
 repeat (first|refine WS_seq ?_|refine WS_region ?_|refine WL_nil ?_|(refine WL_r (by first|refine k_fa rfl (Ty.fld rfl rfl)|refine k_loadC (j:=0+0) (cs:=SH.one.cells) rfl hS1 (by kernel_rfl) rfl (Ty.shp rfl)|refine Run_pev rfl) rfl ?_))
 refine WL_s (S_call ((hcheck_spec SH.one_ok)) rfl rfl ?_)
 rw [SH.one_err]
 rintro _ _ ⟨rfl,hE0⟩
 replace hH:=hH.ext0 hE0
 have hB1:=hH.b 0 rfl
 repeat (first|refine WS_seq ?_|refine WS_region ?_|refine WL_nil ?_|refine WS_block ?_|refine WS_inBlock ?_|refine WS_skip ?_|refine WS_false rfl ?_|refine WL_gyes rfl rfl rfl ?_|(refine WL_r (by first|refine k_fa rfl (Ty.fld rfl rfl)|refine k_loadb (v:=.int .i64 0) rfl hB1 rfl (Ty.shp rfl)|refine k_loadb (v:=.int .i64 1) rfl hB1 rfl (Ty.shp rfl)|refine Run_pev rfl) rfl ?_))
 exact WS_ret1 Tryz.func26 rfl ⟨rfl,hH.ext⟩
theorem column_spec {p c:Int} {w:World} (hp:0≤p) (hc:1≤c):Does Tryz.prog 14 #[.int .i64 p,.int .i64 c] w fun v w'=>v=.int .i64 (p % c)∧w'=w:=by
 refine Does_of (args:=[_,_]) Tryz.func14 rfl rfl Tryz.ntmps14 rfl ?_
 have e1:max c 1=c:=by omega
 repeat (first|refine WS_seq ?_|refine WS_region ?_|refine WL_nil ?_|(refine WL_r (by first|refine (k_max rfl rfl).is (congrArg (Value.int .i64) e1)|refine k_rem rfl rfl (by omega)|refine Run_pev rfl) rfl ?_))
 exact WS_ret1 Tryz.func14 rfl ⟨rfl,rfl⟩
theorem rate_spec {b n:Nat} {cs:List Value} {w:World} (hB:Blk w b 113 cs.toArray) (h8:cs.toArray[0+0+138]?=some (.int .i64 0)):Does Tryz.prog 53 #[pt b,.int .i64 n] w fun v w'=>v=.tuple #[]∧Ext [] w w':=by
 refine Does_of (args:=[_,_]) Tryz.func53 rfl rfl Tryz.ntmps53 rfl ?_
 have hH:=Hp.start w
 repeat (first|refine WS_seq ?_|refine WS_region ?_|refine WL_nil ?_|refine WS_block ?_|refine WS_inBlock ?_|refine WS_skip ?_|refine WS_true rfl ?_|(refine WL_r (by first|refine k_nilCheck rfl|refine k_fa rfl (Ty.fld rfl rfl)|refine k_loadb rfl hB h8 (Ty.shp rfl)|refine Run_pev rfl) rfl ?_))
 exact WS_end0 Tryz.func53 rfl ⟨rfl,hH.ext⟩
end Go.Proofs.YtpbiicegmcpkpaaGreat
namespace Go.Proofs.YtpbiicegmcpkpaaGreat
open Go Go.K Go.P Go.RowKit Go.Proofs
def FL (k:Nat):List Int:=(List.range 384).map fun i=>if i % 64=0∧i<64*k then 25 else 0
def GL (n:Nat):List Int:=(List.range 384).map fun i=>if i<n then 50 else 0
abbrev b25:List Int:=(25:Int)::List.replicate 63 0
abbrev b50:List Int:=List.replicate 64 (50:Int)
theorem FL_len {k:Nat}:(FL k).length=384:=by simp [FL]
theorem GL_len {k:Nat}:(GL k).length=384:=by simp [GL]
theorem GL_at {n i:Nat} (h:i<384):(GL n)[i]?=some (if i<n then 50 else 0):=by
 rw [GL,List.getElem?_map,List.getElem?_range h];rfl
theorem GL_set {n:Nat} (h:n<384):(GL n).set n 50=GL (n+1):=by
 refine List.ext_getElem? (fun i=>?_)
 rw [List.getElem?_set]
 by_cases hi:i<384
 ·rw [GL_at hi,GL_at hi,GL_len]
  by_cases hn:n=i
  ·rw [if_pos hn,if_pos h,if_pos (by omega)]
  ·rw [if_neg hn]
   congr 1
   by_cases h2:i<n
   ·rw [if_pos h2,if_pos (by omega)]
   ·rw [if_neg h2,if_neg (by omega)]
 ·rw [if_neg (by omega),List.getElem?_eq_none (by rw [GL_len];omega),List.getElem?_eq_none (by rw [GL_len];omega)]
theorem FL_row {k:Nat} (h:k<6):row (FL 6) k=b25:=by
 rcases (show k=0∨k=1∨k=2∨k=3∨k=4∨k=5 by omega) with rfl|rfl|rfl|rfl|rfl|rfl<;>decide +kernel
theorem GL_row {k:Nat} (h:k<6):row (GL 384) k=b50:=by
 rcases (show k=0∨k=1∨k=2∨k=3∨k=4∨k=5 by omega) with rfl|rfl|rfl|rfl|rfl|rfl<;>decide +kernel
theorem mcl_sl {k:Nat} {q:Int} {u0 u1 u2 u3:Value} {e:Bool} {L:List Int} {w:World} {b:Nat} {t:TypeId} (hB:Blk w b t (mcl k q u0 u1 u2 u3 e L).toArray):SlA w (some ⟨b,0+7,none⟩) (L.map (Value.int .i64)):=hB.sl (fun j v hj=>by
 rw [← mcl_drop (k:=k) (q:=q) (u0:=u0) (u1:=u1) (u2:=u2) (u3:=u3) (e:=e),List.getElem?_drop] at hj
 rw [List.getElem?_toArray,Nat.zero_add]
 exact hj)
theorem hrow {k:Nat} (h:k<6):(((FL 6).map (Value.int .i64)).drop ((k:Int).toNat*64)).take 64=b25.map (Value.int .i64):=by
 rw [Int.toNat_natCast,← FL_row h,row,List.map_take,List.map_drop]
abbrev m25 (e:Bool):List Value:=mcl 3 1 zV zV zV zV e (FL 6)
theorem m25_len {e:Bool}:(m25 e).length=391:=mcl_len FL_len
theorem m25_ok {e:Bool}:MB.ok ⟨3,1,zV,zV,zV,zV,e,FL 6⟩:=⟨(by decide:3<5),(by decide:(1:Int)≤1∧(1:Int)≤31),cv0,cv0,cv0,cv0,fun _=>⟨rfl,rfl,rfl⟩,fun _ _=>rfl,fun _=>(by decide:3≤3),FL_len,fun i n h=>by
 have hi:i<384:=by have:=(List.getElem?_eq_some_iff.1 h).1;rwa [FL_len] at this
 rw [FL,List.getElem?_map,List.getElem?_range hi] at h
 have h2:(if i % 64=0∧i<64*6 then (25:Int) else 0)=n:=Option.some.inj h
 have h3:n=25∨n=0:=by split at h2<;>omega
 exact ⟨by omega,fun h=>absurd h (by decide:¬ 3=0),fun _ _=>by omega⟩⟩
set_option maxRecDepth 20000 in
set_option maxHeartbeats 8000000 in
theorem recmac_spec {e:Bool} {y u z:Nat} {w:World}:Does Tryz.prog 88 #[.agg tz.toArray,.bool false,.agg (frC 1 1 y u z).toArray,.int .i64 0,.agg (m25 e).toArray] w fun v w'=>v=.agg ((GL 384).map (Value.int .i64)).toArray∧Ext [] w w':=by
 refine Does_of (args:=[_,_,_,_,_]) Tryz.func88 rfl rfl Tryz.ntmps88 rfl ?_
 have hH:=Hp.start w
 repeat (first|refine WS_seq ?_|refine WS_region ?_)
 refine WL_s (H_box (cs:=tz.toArray) hH rfl rfl rfl ?_)
 try clear hH
 intro _ b1 hH
 replace hH:=nn1 hH
 skip
 refine WL_s (H_box (cs:=(frC 1 1 y u z).toArray) hH rfl rfl rfl ?_)
 try clear hH
 intro _ b2 hH
 replace hH:=nn2 hH
 skip
 refine WL_s (H_box (cs:=(m25 e).toArray) hH rfl rfl rfl ?_)
 try clear hH
 intro _ b3 hH
 replace hH:=nn3 hH
 skip
 refine WL_s (H_alloc (zs:=(GL 0).map (Value.int .i64)) hH (Ty.zer rfl) rfl ?_)
 try clear hH
 intro _ b4 hH
 replace hH:=nn4 hH
 repeat (first|refine WS_seq ?_|refine WS_region ?_|refine WL_nil ?_)
 refine WL_s (H_alloc (zs:=(GL 0).map (Value.int .i64)) hH (Ty.zer rfl) rfl ?_)
 try clear hH
 intro _ b5 hH
 replace hH:=nn5 hH
 have hB3:=hH.b 2 rfl
 have hml:(m25 e).toArray.size=391:=by simpa using m25_len
 repeat (first|refine WS_seq ?_|refine WS_region ?_|refine WL_nil ?_|(refine WL_r (by refine k_loadA rfl hB3 hml (Ty.shp rfl)) rfl ?_))
 refine WL_s (S_call (malone_spec) rfl rfl ?_)
 rintro _ _ ⟨rfl,hE0⟩
 replace hH:=hH.ext0 hE0
 clear hE0
 replace hH:=nn5 hH
 clear hB3
 have hB3:=hH.b 2 rfl
 repeat (first|refine WS_seq ?_|refine WS_region ?_|refine WL_nil ?_|refine WS_block ?_|refine WS_skip ?_|refine WS_false rfl ?_|(refine WL_r (by first|refine k_fa rfl (Ty.fld rfl rfl)|refine k_loadb (v:=.int .u8 3) rfl hB3 rfl (Ty.shp rfl)|refine Run_pev rfl) rfl ?_))
 clear hB3
 refine WS_loop (G:=(Nat)) (fun k=>6-k) 576460751766614016 (fun k=>[(29,.int .i64 k)]) (fun k w'=>k≤6∧Hp [] w w' [Rb b1 24 tz.toArray,Rb b2 66 (frC 1 1 y u z).toArray,Rb b3 97 (m25 e).toArray,Rb b4 95 ((GL 0).map (Value.int .i64)).toArray,Rb b5 95 ((GL (k*64)).map (Value.int .i64)).toArray]) (0) ⟨rfl,trivial⟩ ⟨by omega,by simpa using hH⟩ ?_
 rintro k w' σ ⟨hk,hH⟩ IH
 show WS _ _ _ _ _ (updL [(29,.int .i64 k)] _) _
 by_cases hlt:k<6
 ·have hB1:=hH.b 0 rfl
  have hB3:=hH.b 2 rfl
  have hS3:=mcl_sl hB3
  repeat (first|refine WS_seq ?_|refine WS_region ?_|refine WL_nil ?_|refine WS_block ?_|refine WS_skip ?_|refine WS_yes rfl (by omega) ?_|refine lp rfl rfl ?_)
  refine WS_specT 12 rfl (by kernel_rfl) (by kernel_rfl) [Is (.agg tz.toArray),Is (.int .i64 k),Is (.pointer (some ⟨b3,0+7,none⟩)),Is (.pointer (some (At (some ⟨b3,0+7,none⟩) ((k:Int).toNat*64)))),Is (.agg (b25.map (Value.int .i64)).toArray),Is (.pointer (some ⟨b3,0+1,none⟩)),Is (.int .i64 1),Is (.agg (m25 e).toArray),Is (.bool true),Is (.agg (((3200:Int)::List.replicate 63 0).map (Value.int .i64)).toArray),Is (.agg (b50.map (Value.int .i64)).toArray),IsNew w'.heap.size 94 ((List.replicate 64 (0:Int)).map (Value.int .i64)).toArray (fun b=>pt b)] Ty.mixed [(6588479840256,[],true),(8748848390144,[],true),(8740258455552,[],true),(8688718848000,[(2,34),(1,33)],true),(6524055330816,[(3,35)],true),(8379481202688,[],true),(6317896900608,[(5,37)],true),(7142530621440,[],true),(5493263179776,[(7,39)],true),(2194728296448,[(0,32),(4,36),(6,38),(8,40)],true),(4393751552000,[(9,41)],true),(8791798054912,[],true)] 8791798063104 [(10,42),(11,13)] (by kernel_rfl) (by kernel_rfl) (by kernel_rfl) (by kernel_rfl) (by kernel_rfl) ⟨Is.st,Is.st,Is.st,Is.st,Is.st,Is.st,Is.st,Is.st,Is.st,Is.st,Is.st,(by exact IsNew.st),trivial⟩ ⟨⟨GOk.none,?_⟩,⟨GOk.none,?_⟩,⟨GOk.none,?_⟩,⟨GOk.none,?_⟩,⟨GOk.none,?_⟩,⟨GOk.none,?_⟩,⟨GOk.none,?_⟩,⟨GOk.none,?_⟩,⟨GOk.none,?_⟩,⟨GOk.none,?_⟩,⟨GOk.none,?_⟩,⟨GOk.none,?_⟩,trivial⟩ ?_
  ·intro w'' hE''
   intro σ''
   exact sp_is (by refine k_loadA rfl (hB1.ext0 hE'') rfl (Ty.shp rfl)) rfl
  ·intro w'' hE''
   intro σ''
   exact sp_is (by refine Run_pev rfl) rfl
  ·intro w'' hE''
   intro σ''
   exact sp_is (by refine k_fa rfl (Ty.fld rfl rfl)) rfl
  ·intro w'' hE''
   rintro _ rfl
   rintro _ rfl
   intro σ''
   exact sp_is (by refine k_ixaN rfl rfl (Ty.arr rfl) (by omega)) rfl
  ·intro w'' hE''
   rintro _ rfl
   intro σ''
   exact sp_is (by refine k_loadC (j:=(k:Int).toNat*64) (cs:=b25.map (Value.int .i64)) rfl (hS3.ext0 hE'') (hrow hlt) (by simp) (Ty.shp rfl)) rfl
  ·intro w'' hE''
   intro σ''
   exact sp_is (by refine k_fa rfl (Ty.fld rfl rfl)) rfl
  ·intro w'' hE''
   rintro _ rfl
   intro σ''
   exact sp_is (by refine k_loadb (v:=.int .i64 1) rfl (hB3.ext0 hE'') rfl (Ty.shp rfl)) rfl
  ·intro w'' hE''
   intro σ''
   exact sp_is (by refine k_loadA rfl (hB3.ext0 hE'') hml (Ty.shp rfl)) rfl
  ·intro w'' hE''
   rintro _ rfl
   intro σ''
   refine S_call malone_spec rfl rfl ?_
   rintro v w3'' ⟨rfl,hE⟩
   exact ⟨hE,_,rfl,rfl⟩
  ·intro w'' hE''
   rintro _ rfl
   rintro _ rfl
   rintro _ rfl
   rintro _ rfl
   intro σ''
   refine S_call numbers50 rfl rfl ?_
   rintro v w3'' ⟨rfl,hE⟩
   exact ⟨hE,_,rfl,rfl⟩
  ·intro w'' hE''
   rintro _ rfl
   intro σ''
   refine S_call inverse50 rfl rfl ?_
   rintro v w3'' ⟨rfl,hE⟩
   exact ⟨hE,_,rfl,rfl⟩
  ·intro w'' hE''
   intro σ''
   refine S_alloc (zs:=(List.replicate 64 (0:Int)).map (Value.int .i64)) (Ty.zer rfl) rfl ?_
   intro w3'' b'' hb'' hE3'' hB'' hs''
   exact ⟨hE3'',_,rfl,b'',rfl,hB'',by have:=hE''.size;omega⟩
  intro w'' hE''
  rintro _ rfl
  rintro _ h11
  intro σ''
  obtain ⟨b6,rfl,hB6,hb6⟩:=h11
  replace hH:=hH.nu (r:=Rb b6 94 ((List.replicate 64 (0:Int)).map (Value.int .i64)).toArray) ⟨hE'',hB6,fun x hx=>by simp [Rb] at hx;omega⟩
  clear hE'' hB6 hb6 hB1 hB3 hS3
  replace hH:=nn6 hH
  refine WL_s (H_storeA 5 (vs:=(b50.map (Value.int .i64)).toArray) (s:=64) hH rfl rfl rfl (by rfl) (by rfl) (by exact ints_one) (Ty.shp rfl) ?_)
  try clear hH
  intro _ hH
  replace hH:=nn6 hH
  have hB6:=hH.b 5 rfl
  repeat (first|refine WS_seq ?_|refine WS_region ?_|refine WL_nil ?_|refine WS_block ?_|(refine WL_r (by first|refine k_loadA rfl hB6 (by simp) (Ty.shp rfl)|refine Run_pev rfl) rfl ?_))
  clear hB6
  refine WS_loop (G:=(Nat)) (fun i=>64-i) 288212783965716480 (fun i=>[(44,.int .i64 i)]) (fun i w'=>i≤64∧Hp [] w w' [Rb b1 24 tz.toArray,Rb b2 66 (frC 1 1 y u z).toArray,Rb b3 97 (m25 e).toArray,Rb b4 95 ((GL 0).map (Value.int .i64)).toArray,Rb b5 95 ((GL (k*64+i)).map (Value.int .i64)).toArray,Rb b6 94 (b50.map (Value.int .i64)).toArray]) (0) ⟨rfl,trivial⟩ ⟨by omega,hH⟩ ?_
  rintro i w' σ ⟨hi,hH⟩ IH2
  show WS _ _ _ _ _ (updL [(44,.int .i64 i)] _) _
  by_cases hil:i<64
  ·have hx1:((b50.map (Value.int .i64)).toArray)[(i:Int).toNat]?=some (.int .i64 50):=by
    rw [Int.toNat_natCast,List.getElem?_toArray,List.getElem?_map,List.getElem?_replicate,if_pos hil];rfl
   have hg:((GL (k*64+i)).map (Value.int .i64))[(k:Int).toNat*64+(i:Int).toNat]?=some (.int .i64 0):=by
    rw [Int.toNat_natCast,Int.toNat_natCast,List.getElem?_map,GL_at (by omega),if_neg (by omega)];rfl
   have hS5:SlA _ (some ⟨b5,0,none⟩) _:=(hH.b 4 rfl).sl0
   repeat (first|refine WS_seq ?_|refine WS_region ?_|refine WL_nil ?_|refine WS_block ?_|refine WS_skip ?_|refine WS_yes rfl (by omega) ?_|(refine WL_r (by first|refine k_index1 rfl rfl (Ty.arr rfl) (by omega) hx1|refine Run_pev rfl) rfl ?_))
   refine WS_tailE Ty.mixed 8 rfl (by kernel_rfl) rfl (fun w1 hx1=>?_)
   refine wp 0 hx1 rfl rfl rfl rfl ?_
   refine wp 1 hx1 rfl rfl rfl rfl ?_
   refine wt 2 hx1 rfl rfl rfl (fun w' hw'=>by refine k_ixaN rfl rfl (Ty.arr rfl) (by omega)) ?_
   refine wt 3 hx1 rfl rfl rfl (fun w' hw'=>by refine k_ixaA rfl rfl (Ty.arr rfl) (by omega)) ?_
   refine wt 4 hx1 rfl rfl rfl (fun w' hw'=>by refine k_loads rfl (hS5.ext0 hw') hg (Ty.shp rfl)) ?_
   refine wp 5 hx1 rfl rfl rfl rfl ?_
   refine wt 6 hx1 rfl rfl rfl (fun w' hw'=>by refine k_add64 rfl rfl (by omega)) ?_
   refine wt 7 hx1 rfl rfl rfl (fun w' hw'=>by refine k_ixaN rfl rfl (Ty.arr rfl) (by omega)) ?_
   refine WA_done (by kernel_rfl) ?_
   replace hH:=hH.ext0 hx1
   repeat ((refine WL_r (by refine k_ixaA rfl rfl (Ty.arr rfl) (by omega)) rfl ?_))
   refine WL_s (H_storeB 4 (o:=(k:Int).toNat*64+(i:Int).toNat) (v:=.int .i64 50) hH rfl rfl rfl (by rw [List.length_map,GL_len];omega) rfl (Ty.shp rfl) ?_)
   clear hH
   intro _ hH
   replace hH:=nn6 hH
   rw [Int.toNat_natCast,Int.toNat_natCast,← List.map_set,GL_set (by omega)] at hH
   repeat (first|refine WS_region ?_|refine WL_nil ?_|refine WS_inBlock ?_|(refine WL_r (by first|refine Run_pev rfl|refine k_add64 rfl rfl (by omega)) rfl ?_))
   refine IH2 (i+1) _ _ ?_ ?_ ?_ ?_
   ·omega
   ·exact ⟨rfl,trivial⟩
   ·repeat first|with_reducible apply Agr.refl|refine Agr.upd rfl ?_|refine Agr.updL rfl ?_|refine Agr.mrg rfl ?_
   ·exact ⟨by omega,hH⟩
  ·obtain rfl:i=64:=by omega
   clear IH2
   repeat (first|refine WS_seq ?_|refine WS_region ?_|refine WL_nil ?_|refine WS_inBlock ?_|refine WS_exit rfl ?_|refine WS_false rfl ?_|(refine WL_r (by first|refine Run_pev rfl|refine k_add64 rfl rfl (by omega)) rfl ?_))
   replace hH:=hH.del 5
   replace hH:=nn5 hH
   rw [← Nat.succ_mul] at hH
   refine IH (k+1) _ _ ?_ ?_ ?_ ?_
   ·omega
   ·exact ⟨rfl,trivial⟩
   ·repeat first|with_reducible apply Agr.refl|refine Agr.upd rfl ?_|refine Agr.updL rfl ?_|refine Agr.mrg rfl ?_
   ·exact ⟨by omega,hH⟩
 ·obtain rfl:k=6:=by omega
  clear IH
  have hB5:=hH.b 4 rfl
  repeat (first|refine WS_seq ?_|refine WS_region ?_|refine WL_nil ?_|refine WS_exit rfl ?_|refine WS_false rfl ?_|(refine WL_r (by first|refine k_loadA rfl hB5 (by simp [GL_len]) (Ty.shp rfl)|refine Run_pev rfl) rfl ?_))
  refine WL_s (H_storeA 3 (vs:=((GL 384).map (Value.int .i64)).toArray) (s:=384) hH rfl rfl rfl (by simp [GL_len]) (by simp [GL_len]) ints_one (Ty.shp rfl) ?_)
  clear hH
  intro _ hH
  replace hH:=nn5 hH
  repeat (refine WL_nil ?_)
  exact WS_retc1 Tryz.func88 rfl rfl (hH.b 3 rfl) (by simp [GL_len]) (Ty.shp rfl) ⟨rfl,hH.ext⟩
abbrev frY (y u z:Nat):List Res:=[RY y (16*16),RY u (8*8),RY z (8*8)]
set_option maxRecDepth 20000 in
set_option maxHeartbeats 8000000 in
theorem recput_spec {e:Bool} {y u z y2 u2 z2:Nat} {w:World} (hS:Sep (frY y2 u2 z2) w):Does Tryz.prog 52 #[.agg tz.toArray,.bool false,.agg (frC 1 1 y u z).toArray,.agg (frC 1 1 y2 u2 z2).toArray,.int .i64 0,.agg (m25 e).toArray] w fun v w'=>v=.int .i64 0∧Hp (fps (frY y2 u2 z2)) w w' (frY y2 u2 z2):=by
 refine Does_of (args:=[_,_,_,_,_,_]) Tryz.func52 rfl rfl Tryz.ntmps52 rfl ?_
 have hH:=Hp.startL hS
 have hml:(m25 e).toArray.size=391:=by simpa using m25_len
 repeat (first|refine WS_seq ?_|refine WS_region ?_)
 refine WL_s (H_box (cs:=tz.toArray) hH rfl rfl rfl ?_)
 try clear hH
 intro _ b1 hH
 replace hH:=nn4 hH
 skip
 refine WL_s (H_box (cs:=(frC 1 1 y u z).toArray) hH rfl rfl rfl ?_)
 try clear hH
 intro _ b2 hH
 replace hH:=nn5 hH
 skip
 refine WL_s (H_box (cs:=(frC 1 1 y2 u2 z2).toArray) hH rfl rfl rfl ?_)
 try clear hH
 intro _ b3 hH
 replace hH:=nn6 hH
 skip
 refine WL_s (H_box (cs:=(m25 e).toArray) hH rfl rfl rfl ?_)
 try clear hH
 intro _ b4 hH
 replace hH:=nn7 hH
 have hB3:=hH.b 5 rfl
 repeat (first|refine WS_seq ?_|refine WS_region ?_|refine WL_nil ?_|refine WS_block ?_|(refine WL_r (by first|refine k_loadA rfl hB3 rfl (Ty.shp rfl)|refine Run_pev rfl) rfl ?_))
 refine WL_s (S_call (fcheck_spec) rfl rfl ?_)
 rintro _ _ ⟨rfl,hE0⟩
 replace hH:=hH.ext0 hE0
 clear hE0
 replace hH:=nn7 hH
 clear hB3
 have hB3:=hH.b 5 rfl
 have hB4:=hH.b 6 rfl
 repeat (first|refine WS_seq ?_|refine WS_region ?_|refine WL_nil ?_|refine WS_false rfl ?_|refine WL_gyes rfl rfl rfl ?_|(refine WL_r (by first|refine k_fa rfl (Ty.fld rfl rfl)|refine k_loadb (v:=.int .i64 1) rfl hB3 rfl (Ty.shp rfl)|refine (k_mul64 (m:=1) (n:=1) rfl rfl (by omega)).is (v':=.int .i64 1) rfl|refine k_loadA rfl hB4 hml (Ty.shp rfl)|refine Run_pev rfl) rfl ?_))
 refine WL_s (S_call (malone_spec) rfl rfl ?_)
 rintro _ _ ⟨rfl,hE0⟩
 replace hH:=hH.ext0 hE0
 clear hE0
 replace hH:=nn7 hH
 clear hB3 hB4
 have hB1:=hH.b 3 rfl
 have hB2:=hH.b 4 rfl
 have hB4:=hH.b 6 rfl
 repeat (first|refine WS_seq ?_|refine WS_region ?_|refine WL_nil ?_|refine WS_inBlock ?_|refine WS_skip ?_|refine WS_false rfl ?_|refine WL_gno rfl rfl rfl rfl rfl ?_|refine WL_gund rfl rfl rfl ?_|(refine WL_r (by first|refine k_loadA rfl hB4 hml (Ty.shp rfl)|refine k_loadA rfl hB2 rfl (Ty.shp rfl)|refine k_loadA rfl hB1 rfl (Ty.shp rfl)|refine Run_pev rfl) rfl ?_))
 refine WL_s (S_call (recmac_spec) rfl rfl ?_)
 rintro _ _ ⟨rfl,hE0⟩
 replace hH:=hH.ext0 hE0
 clear hE0
 replace hH:=nn7 hH
 clear hB1 hB2 hB4
 repeat (first|refine WL_nil ?_|refine WS_block ?_|refine lp rfl rfl ?_)
 refine WS_loop (G:=(Nat)) (fun k=>6-k) 4835684831714442989527040 (fun k=>[(64,.int .i64 k)]) (fun k w'=>k≤6∧Hp (fps (frY y2 u2 z2)) w w' [RY y2 (16*16),RY u2 (8*8),RY z2 (8*8),Rb b1 24 tz.toArray,Rb b2 66 (frC 1 1 y u z).toArray,Rb b3 66 (frC 1 1 y2 u2 z2).toArray,Rb b4 97 (m25 e).toArray]) (0) ⟨rfl,trivial⟩ ⟨by omega,hH⟩ ?_
 rintro k w' σ ⟨hk,hH⟩ IH
 show WS _ _ _ _ _ (updL [(64,.int .i64 k)] _) _
 by_cases hlt:k<6
 ·have hex:((GL 384).map (Value.int .i64)).toArray.extract ((k:Int).toNat*64) ((k:Int).toNat*64+64)=(b50.map (Value.int .i64)).toArray:=by
   rw [Int.toNat_natCast,row_ex,GL_row hlt]
  repeat (first|refine WS_seq ?_|refine WS_region ?_|refine WL_nil ?_|refine WS_block ?_|refine WS_skip ?_|refine WS_yes rfl (by omega) ?_|(refine WL_r (by first|refine (k_indexN rfl rfl (Ty.arr rfl) (by omega)).is (congrArg Value.agg hex)|refine Run_pev rfl) rfl ?_))
  refine WL_s (H_alloc hH (Ty.zer rfl) rfl ?_)
  try clear hH
  intro _ b5 hH
  replace hH:=nn8 hH
  repeat (refine lp rfl rfl ?_)
  refine WL_s (H_storeA 7 (vs:=(b50.map (Value.int .i64)).toArray) (s:=64) hH rfl rfl rfl (by rfl) (by rfl) (by exact ints_one) (Ty.shp rfl) ?_)
  try clear hH
  intro _ hH
  replace hH:=nn8 hH
  have hB3:=hH.b 5 rfl
  repeat (first|refine WS_seq ?_|refine WS_region ?_|refine WL_nil ?_|(refine WL_r (by first|refine k_loadA rfl hB3 rfl (Ty.shp rfl)|refine Run_pev rfl) rfl ?_))
  clear hB3
  refine WL_s (S_call ((fblock_spec (c:=1) (mb:=0) (k:=k) (by decide) (by decide) hlt (by simp [Value.oneCell']))) rfl rfl ?_)
  rintro _ _ ⟨hv,hE0⟩
  replace hH:=hH.ext0 hE0
  clear hE0
  by_cases h4:k<4
  ·rw [if_pos h4] at hv
   subst hv
   repeat ((refine WL_r (by first|refine Run_pev rfl|refine k_extract rfl rfl) rfl ?_))
   refine WL_s (H_alloc hH (Ty.zer rfl) rfl ?_)
   try clear hH
   intro _ b6 hH
   replace hH:=nn9 hH
   skip
   refine WL_s (H_storeA 8 (vs:=(plC (16) (16) y2).toArray) (s:=3) hH rfl rfl rfl (by rfl) (by rfl) (by simp [Value.oneCell']) (Ty.shp rfl) ?_)
   try clear hH
   intro _ hH
   replace hH:=nn9 hH
   have hB6:=hH.b 8 rfl
   have hB5:=hH.b 7 rfl
   repeat (first|refine WS_region ?_|refine WL_nil ?_|(refine WL_r (by first|refine k_loadA rfl hB6 rfl (Ty.shp rfl)|refine k_loadA rfl hB5 (by simp) (Ty.shp rfl)|refine Run_pev rfl) rfl ?_))
   clear hB5 hB6
   have hbx:bX 1 0 k+7<16∧bY 1 0 k+7<16:=by
    unfold bX bY
    constructor<;>split<;>omega
   refine WL_s (S_call ((plput_spec (m:=16) (n:=16) (b:=y2) (i:=bX 1 0 k) (j:=bY 1 0 k) (by decide) (by decide) hbx.1 hbx.2 (hH.at 0 rfl))) rfl rfl ?_)
   rintro _ _ ⟨rfl,hU⟩
   replace hH:=((hH.up 0 rfl hU).del 8).del 7
   replace hH:=nn7 hH
   repeat (first|refine WS_region ?_|refine WL_nil ?_|refine WS_inBlock ?_|(refine WL_r (by first|refine Run_pev rfl|refine k_add64 rfl rfl (by omega)) rfl ?_))
   refine IH (k+1) _ _ ?_ ?_ ?_ ?_
   ·omega
   ·exact ⟨rfl,trivial⟩
   ·repeat first|with_reducible apply Agr.refl|refine Agr.upd rfl ?_|refine Agr.updL rfl ?_|refine Agr.mrg rfl ?_
   ·exact ⟨by omega,hH⟩
  ·rw [if_neg h4] at hv
   by_cases h5:k=4
   ·rw [if_pos h5] at hv
    subst hv
    repeat ((refine WL_r (by first|refine Run_pev rfl|refine k_extract rfl rfl) rfl ?_))
    refine WL_s (H_alloc hH (Ty.zer rfl) rfl ?_)
    try clear hH
    intro _ b6 hH
    replace hH:=nn9 hH
    skip
    refine WL_s (H_storeA 8 (vs:=(plC (8) (8) u2).toArray) (s:=3) hH rfl rfl rfl (by rfl) (by rfl) (by simp [Value.oneCell']) (Ty.shp rfl) ?_)
    try clear hH
    intro _ hH
    replace hH:=nn9 hH
    have hB6:=hH.b 8 rfl
    have hB5:=hH.b 7 rfl
    repeat (first|refine WS_region ?_|refine WL_nil ?_|(refine WL_r (by first|refine k_loadA rfl hB6 rfl (Ty.shp rfl)|refine k_loadA rfl hB5 (by simp) (Ty.shp rfl)|refine Run_pev rfl) rfl ?_))
    clear hB5 hB6
    have hbx:bX 1 0 k+7<8∧bY 1 0 k+7<8:=by
     unfold bX bY
     constructor<;>split<;>omega
    refine WL_s (S_call ((plput_spec (m:=8) (n:=8) (b:=u2) (i:=bX 1 0 k) (j:=bY 1 0 k) (by decide) (by decide) hbx.1 hbx.2 (hH.at 1 rfl))) rfl rfl ?_)
    rintro _ _ ⟨rfl,hU⟩
    replace hH:=((hH.up 1 rfl hU).del 8).del 7
    replace hH:=nn7 hH
    repeat (first|refine WS_region ?_|refine WL_nil ?_|refine WS_inBlock ?_|(refine WL_r (by first|refine Run_pev rfl|refine k_add64 rfl rfl (by omega)) rfl ?_))
    refine IH (k+1) _ _ ?_ ?_ ?_ ?_
    ·omega
    ·exact ⟨rfl,trivial⟩
    ·repeat first|with_reducible apply Agr.refl|refine Agr.upd rfl ?_|refine Agr.updL rfl ?_|refine Agr.mrg rfl ?_
    ·exact ⟨by omega,hH⟩
   ·rw [if_neg h5] at hv
    subst hv
    repeat ((refine WL_r (by first|refine Run_pev rfl|refine k_extract rfl rfl) rfl ?_))
    refine WL_s (H_alloc hH (Ty.zer rfl) rfl ?_)
    try clear hH
    intro _ b6 hH
    replace hH:=nn9 hH
    skip
    refine WL_s (H_storeA 8 (vs:=(plC (8) (8) z2).toArray) (s:=3) hH rfl rfl rfl (by rfl) (by rfl) (by simp [Value.oneCell']) (Ty.shp rfl) ?_)
    try clear hH
    intro _ hH
    replace hH:=nn9 hH
    have hB6:=hH.b 8 rfl
    have hB5:=hH.b 7 rfl
    repeat (first|refine WS_region ?_|refine WL_nil ?_|(refine WL_r (by first|refine k_loadA rfl hB6 rfl (Ty.shp rfl)|refine k_loadA rfl hB5 (by simp) (Ty.shp rfl)|refine Run_pev rfl) rfl ?_))
    clear hB5 hB6
    have hbx:bX 1 0 k+7<8∧bY 1 0 k+7<8:=by
     unfold bX bY
     constructor<;>split<;>omega
    refine WL_s (S_call ((plput_spec (m:=8) (n:=8) (b:=z2) (i:=bX 1 0 k) (j:=bY 1 0 k) (by decide) (by decide) hbx.1 hbx.2 (hH.at 2 rfl))) rfl rfl ?_)
    rintro _ _ ⟨rfl,hU⟩
    replace hH:=((hH.up 2 rfl hU).del 8).del 7
    replace hH:=nn7 hH
    repeat (first|refine WS_region ?_|refine WL_nil ?_|refine WS_inBlock ?_|(refine WL_r (by first|refine Run_pev rfl|refine k_add64 rfl rfl (by omega)) rfl ?_))
    refine IH (k+1) _ _ ?_ ?_ ?_ ?_
    ·omega
    ·exact ⟨rfl,trivial⟩
    ·repeat first|with_reducible apply Agr.refl|refine Agr.upd rfl ?_|refine Agr.updL rfl ?_|refine Agr.mrg rfl ?_
    ·exact ⟨by omega,hH⟩
 ·obtain rfl:k=6:=by omega
  clear IH
  repeat (first|refine WS_seq ?_|refine WS_region ?_|refine WL_nil ?_|refine WS_exit rfl ?_|refine WS_false rfl ?_|refine lp rfl rfl ?_)
  exact WS_ret1 Tryz.func52 rfl ⟨rfl,hH.take 3⟩
end Go.Proofs.YtpbiicegmcpkpaaGreat
