/- A part of the proof that TopWorse is true at every input; no condition. -/
import Derived.Test.YtpbiicegmcpkpaaGreatT19
namespace Go.Proofs.YtpbiicegmcpkpaaGreat
open Go Go.K Go.P Go.RowKit Go.Proofs
def q1 (q:Int):Int:=64*max 2 (min (max q 1) 31 / 2)
theorem q1_le (q:Int):128≤q1 q∧q1 q≤960:=by unfold q1;omega
def qfl (n q:Int):Int:=min ((max n 0+q1 q / 2) / q1 q) 127
theorem qfl_le (n q:Int):0≤qfl n q∧qfl n q≤127:=by
 have h:=q1_le q
 have h2:0≤(max n 0+q1 q / 2) / q1 q:=Int.ediv_nonneg (by omega) (by omega)
 unfold qfl;omega
def qfb (l q:Int):Int:=min (max l 0) 127*q1 q
theorem qfb_le (l q:Int):0≤qfb l q∧qfb l q≤121920:=by
 have h:=q1_le q
 have h1:(0:Int)≤min (max l 0) 127*q1 q:=Int.mul_nonneg (by omega) (by omega)
 have h2:min (max l 0) 127*q1 q≤127*960:=Int.mul_le_mul (by omega) h.2 (by omega) (by omega)
 unfold qfb;omega
theorem first_spec {q:Int} {w:World}:Does Tryz.prog 182 #[.int .i64 q] w fun v w'=>v=.int .i64 (q1 q)∧w'=w:=by
 refine Does_of (args:=[_]) Tryz.func182 rfl rfl Tryz.ntmps182 rfl ?_
 repeat (first|refine WS_seq ?_|refine WS_region ?_|refine WL_nil ?_|(refine WL_r (by first|refine Run_pev rfl|refine k_min rfl rfl|refine k_max rfl rfl|refine k_mul64 rfl rfl (by omega)|refine k_quo64 rfl rfl (by omega)) rfl ?_))
 exact WS_ret1 Tryz.func182 rfl ⟨rfl,rfl⟩
theorem firstlevel_spec {n q:Int} {w:World} (hn:n≤1000000000):Does Tryz.prog 158 #[.int .i64 n,.int .i64 q] w fun v w'=>v=.int .i64 (qfl n q)∧w'=w:=by
 refine Does_of (args:=[_,_]) Tryz.func158 rfl rfl Tryz.ntmps158 rfl ?_
 have h:=q1_le q
 repeat (first|refine WS_seq ?_|refine WS_region ?_|refine WL_nil ?_|refine lp rfl rfl ?_)
 refine WL_s (S_call (first_spec) rfl rfl ?_)
 rintro _ _ ⟨rfl,rfl⟩
 repeat (first|refine WS_seq ?_|refine WS_region ?_|refine WL_nil ?_|(refine WL_r (by first|refine Run_pev rfl|refine k_add64 rfl rfl (by omega)|refine k_min rfl rfl|refine k_max rfl rfl|refine k_quo64 rfl rfl (by omega)) rfl ?_))
 exact WS_ret1 Tryz.func158 rfl ⟨rfl,rfl⟩
theorem firstback_spec {l q:Int} {w:World}:Does Tryz.prog 168 #[.int .i64 l,.int .i64 q] w fun v w'=>v=.int .i64 (qfb l q)∧w'=w:=by
 refine Does_of (args:=[_,_]) Tryz.func168 rfl rfl Tryz.ntmps168 rfl ?_
 have h:=qfb_le l q
 unfold qfb at h
 repeat (first|refine WS_seq ?_|refine WS_region ?_|refine WL_nil ?_|(refine WL_r (by first|refine Run_pev rfl|refine k_min rfl rfl|refine k_max rfl rfl) rfl ?_))
 refine WL_s (S_call (first_spec) rfl rfl ?_)
 rintro _ _ ⟨rfl,rfl⟩
 repeat (first|refine WL_nil ?_|(refine WL_r (by first|refine Run_pev rfl|refine k_mul64 rfl rfl (by omega)) rfl ?_))
 exact WS_ret1 Tryz.func168 rfl ⟨rfl,rfl⟩
abbrev tz:List Value:=.bool false::List.replicate 128 (.int .u8 0)
set_option maxRecDepth 20000 in
set_option maxHeartbeats 4000000 in
theorem qstep_spec {i:Int} {b:Bool} {w:World}:Does Tryz.prog 157 #[.agg tz.toArray,.int .i64 1,.int .i64 i,.bool b] w fun v w'=>v=.int .i64 16∧Ext [] w w':=by
 refine Does_of (args:=[_,_,_,_]) Tryz.func157 rfl rfl Tryz.ntmps157 rfl ?_
 have hH:=Hp.start w
 repeat (first|refine WS_seq ?_|refine WS_region ?_)
 refine WL_s (H_box (cs:=tz.toArray) hH rfl rfl rfl ?_)
 try clear hH
 intro _ b1 hH
 replace hH:=nn1 hH
 have hB:=hH.b 0 rfl
 repeat (first|refine WS_seq ?_|refine WS_region ?_|refine WL_nil ?_|refine WS_skip ?_|refine WS_false rfl ?_|refine WL_gno rfl rfl rfl rfl rfl ?_|(refine WL_r (by first|refine k_fa rfl (Ty.fld rfl rfl)|refine k_loadb rfl hB rfl (Ty.shp rfl)|refine k_mul64 (m:=1) (n:=16) rfl rfl (by decide)|refine Run_pev rfl|refine k_min rfl rfl|refine k_max rfl rfl) rfl ?_))
 exact WS_ret1 Tryz.func157 rfl ⟨rfl,hH.ext⟩
theorem qlevel_spec {n:Int} {w:World} (hn:0≤n∧n≤1000000):Does Tryz.prog 156 #[.int .i64 n,.int .i64 16] w fun v w'=>v=.int .i64 (min (max (n / 16) (-2047)) 2047)∧w'=w:=by
 refine Does_of (args:=[_,_]) Tryz.func156 rfl rfl Tryz.ntmps156 rfl ?_
 repeat (first|refine WS_seq ?_|refine WS_region ?_|refine WL_nil ?_|(refine WL_r (by first|refine Run_pev rfl|refine k_min rfl rfl|refine k_max rfl rfl|refine k_quo64 rfl rfl (by omega)) rfl ?_))
 exact WS_ret1 Tryz.func156 rfl ⟨rfl,rfl⟩
theorem qback_spec {l:Int} {w:World} (hl:0≤l∧l≤127):Does Tryz.prog 167 #[.int .i64 l,.int .i64 16] w fun v w'=>v=.int .i64 (if l=0 then 0 else l*16+8)∧w'=w:=by
 refine Does_of (args:=[_,_]) Tryz.func167 rfl rfl Tryz.ntmps167 rfl ?_
 have e:min (max l (-2047)) 2047=l:=by omega
 by_cases h:l=0
 ·subst h
  repeat (first|refine WS_seq ?_|refine WS_region ?_|refine WL_nil ?_|refine WS_block ?_|refine WS_inBlock ?_|refine WS_skip ?_|refine WS_false rfl ?_|(refine WL_r (by first|refine Run_pev rfl|refine k_min rfl rfl|refine k_max rfl rfl) rfl ?_))
  exact WS_ret1 Tryz.func167 rfl ⟨rfl,rfl⟩
 ·rw [if_neg h]
  repeat (first|refine WS_seq ?_|refine WS_region ?_|refine WL_nil ?_|refine WS_block ?_|refine WS_yes rfl (by omega) ?_|(refine WL_r (by first|refine (k_min rfl rfl).is (congrArg (Value.int .i64) e)|refine k_mul64 (m:=l) (n:=16) rfl rfl (by omega)|refine k_quo64 (m:=16) (n:=2) rfl rfl (by decide)|refine Run_pev rfl|refine k_add64 rfl rfl (by omega)|refine k_min rfl rfl|refine k_max rfl rfl) rfl ?_))
  exact WS_ret1 Tryz.func167 rfl ⟨rfl,rfl⟩
def l0 (k:Nat) (n:Int):List Int:=if k=0 then List.replicate 64 0 else n::List.replicate 63 0
theorem l0_set {k:Nat} {n m:Int} (hk:k<64) (hm:m=if k=0 then n else 0):(l0 k n).set k m=l0 (k+1) n:=by
 subst hm
 cases k with
 | zero=>rfl
 | succ k =>
  unfold l0
  rw [if_neg (by omega),if_neg (by omega),if_neg (by omega)]
  show n::(List.replicate 63 (0:Int)).set k 0=_
  rw [List.set_replicate_self]
theorem l0_len (k:Nat) (n:Int):(l0 k n).length=64:=by unfold l0;split<;>simp
theorem c0_at {k:Nat} {n:Int} (hk:k<64):(((n::List.replicate 63 0).map (Value.int .i64)).toArray)[k]?=some (.int .i64 (if k=0 then n else 0)):=by
 cases k with
 | zero=>rfl
 | succ k =>
  rw [if_neg (by omega),List.getElem?_toArray]
  show ((List.replicate 63 (0:Int)).map (Value.int .i64))[k]?=_
  rw [List.map_replicate,List.getElem?_replicate,if_pos (by omega)]
set_option maxRecDepth 20000 in
set_option maxHeartbeats 4000000 in
theorem levels50 {w:World}:Does Tryz.prog 113 #[.agg tz.toArray,.agg (((3200:Int)::List.replicate 63 0).map (Value.int .i64)).toArray,.int .i64 1,.bool true] w fun v w'=>v=.agg (((25:Int)::List.replicate 63 0).map (Value.int .i64)).toArray∧Ext [] w w':=by
 refine Does_of (args:=[_,_,_,_]) Tryz.func113 rfl rfl Tryz.ntmps113 rfl ?_
 have hH:=Hp.start w
 repeat (first|refine WS_seq ?_|refine WS_region ?_)
 refine WL_s (H_box (cs:=tz.toArray) hH rfl rfl rfl ?_)
 try clear hH
 intro _ b1 hH
 replace hH:=nn1 hH
 refine WL_s (H_box (cs:=((3200::List.replicate 63 (0:Int)).map (Value.int .i64)).toArray) hH rfl rfl rfl ?_)
 try clear hH
 intro _ b2 hH
 replace hH:=nn2 hH
 refine WL_s (H_alloc hH (Ty.zer rfl) rfl ?_)
 try clear hH
 intro _ b3 hH
 replace hH:=nn3 hH
 repeat (first|refine WS_seq ?_|refine WS_region ?_|refine WL_nil ?_)
 refine WL_s (H_alloc hH (Ty.zer rfl) rfl ?_)
 try clear hH
 intro _ b4 hH
 replace hH:=nn4 hH
 have hB:=hH.b 1 rfl
 repeat (first|refine WS_seq ?_|refine WS_region ?_|refine WL_nil ?_|refine WS_block ?_|(refine WL_r (by first|refine k_loadA rfl hB (by simp) (Ty.shp rfl)|refine Run_pev rfl) rfl ?_))
 clear hB
 refine WS_loop (G:=(Nat)) (fun k=>64-k) 134212608 (fun k=>[(13,.int .i64 k)]) (fun k w'=>k≤64∧Hp [] w w' [Rb b1 24 tz.toArray,Rb b2 94 ((3200::List.replicate 63 (0:Int)).map (Value.int .i64)).toArray,Rb b3 94 ((List.replicate 64 (0:Int)).map (Value.int .i64)).toArray,Rb b4 94 ((l0 k 200).map (Value.int .i64)).toArray]) (0) ⟨rfl,trivial⟩ ⟨by omega,hH⟩ ?_
 rintro k w' σ ⟨hk,hH⟩ IH
 show WS _ _ _ _ _ (updL [(13,.int .i64 k)] _) _
 by_cases hlt:k<64
 ·have hx1:=c0_at (n:=3200) hlt
  have hB:=hH.b 0 rfl
  have hl:=l0_len k 200
  repeat (first|refine WS_seq ?_|refine WS_region ?_|refine WL_nil ?_|refine WS_block ?_|refine WS_skip ?_|refine WS_yes rfl (by omega) ?_|(refine WL_r (by first|refine k_index1 rfl rfl (Ty.arr rfl) (by omega) hx1|refine k_loadA rfl hB (by simp) (Ty.shp rfl)|refine Run_pev rfl) rfl ?_))
  refine WL_s (S_call ((qstep_spec (i:=k) (b:=true))) rfl rfl ?_)
  rintro _ _ ⟨rfl,hE0⟩
  replace hH:=hH.ext0 hE0
  clear hE0
  replace hH:=nn4 hH
  clear hB
  refine WL_s (S_call ((qlevel_spec (by split<;>omega))) rfl rfl ?_)
  rintro _ _ ⟨rfl,rfl⟩
  repeat ((refine WL_r (by refine k_ixa1 rfl rfl (Ty.arr rfl) (by omega)) rfl ?_))
  refine WL_s (H_storeB 3 (v:=.int .i64 _) hH rfl rfl rfl (by simp [hl];omega) rfl (Ty.shp rfl) ?_)
  try clear hH
  intro _ hH
  replace hH:=nn4 hH
  rw [← List.map_set,Int.toNat_natCast,l0_set hlt (by by_cases h0:k=0<;>simp [h0]<;>rfl)] at hH
  repeat (first|refine WS_region ?_|refine WL_nil ?_|refine WS_inBlock ?_|(refine WL_r (by first|refine Run_pev rfl|refine k_add64 rfl rfl (by omega)) rfl ?_))
  refine IH (k+1) _ _ ?_ ?_ ?_ ?_
  ·omega
  ·exact ⟨rfl,trivial⟩
  ·repeat first|with_reducible apply Agr.refl|refine Agr.upd rfl ?_|refine Agr.updL rfl ?_|refine Agr.mrg rfl ?_
  ·exact ⟨by omega,hH⟩
 ·obtain rfl:k=64:=by omega
  repeat (first|refine WS_seq ?_|refine WS_region ?_|refine WL_nil ?_|refine WS_exit rfl ?_|refine WS_true rfl ?_|refine WS_false rfl ?_|(refine WL_r (by first|refine k_ixa1 rfl rfl (Ty.arr rfl) (by omega)|refine Run_pev rfl) rfl ?_))
  have hB:=hH.b 1 rfl
  repeat ((refine WL_r (by first|refine k_loadb rfl hB rfl (Ty.shp rfl)|refine Run_pev rfl) rfl ?_))
  refine WL_s (S_call ((firstlevel_spec (n:=3200) (q:=1) (by omega))) rfl rfl ?_)
  rintro _ _ ⟨rfl,rfl⟩
  repeat ((refine WL_r (by refine k_ixa1 rfl rfl (Ty.arr rfl) (by omega)) rfl ?_))
  refine WL_s (H_storeB 3 (v:=.int .i64 _) hH rfl rfl rfl (by decide) rfl (Ty.shp rfl) ?_)
  try clear hH
  intro _ hH
  replace hH:=nn4 hH
  clear hB
  have hB:=hH.b 3 rfl
  repeat (first|refine WS_seq ?_|refine WS_region ?_|refine WL_nil ?_|(refine WL_r (by refine k_loadA rfl hB rfl (Ty.shp rfl)) rfl ?_))
  refine WL_s (H_storeA 2 (vs:=((25::List.replicate 63 (0:Int)).map (Value.int .i64)).toArray) (s:=64) hH rfl rfl rfl (by rfl) (by rfl) (by exact ints_one) (Ty.shp rfl) ?_)
  try clear hH
  intro _ hH
  replace hH:=nn4 hH
  repeat (refine WL_nil ?_)
  exact WS_retc1 Tryz.func113 rfl rfl (hH.b 2 rfl) rfl (Ty.shp rfl) ⟨rfl,hH.ext⟩
set_option maxRecDepth 20000 in
set_option maxHeartbeats 4000000 in
theorem numbers50 {w:World}:Does Tryz.prog 126 #[.agg tz.toArray,.agg (((25:Int)::List.replicate 63 0).map (Value.int .i64)).toArray,.int .i64 1,.bool true] w fun v w'=>v=.agg (((3200:Int)::List.replicate 63 0).map (Value.int .i64)).toArray∧Ext [] w w':=by
 refine Does_of (args:=[_,_,_,_]) Tryz.func126 rfl rfl Tryz.ntmps126 rfl ?_
 have hH:=Hp.start w
 repeat (first|refine WS_seq ?_|refine WS_region ?_)
 refine WL_s (H_box (cs:=tz.toArray) hH rfl rfl rfl ?_)
 try clear hH
 intro _ b1 hH
 replace hH:=nn1 hH
 refine WL_s (H_box (cs:=((25::List.replicate 63 (0:Int)).map (Value.int .i64)).toArray) hH rfl rfl rfl ?_)
 try clear hH
 intro _ b2 hH
 replace hH:=nn2 hH
 refine WL_s (H_alloc hH (Ty.zer rfl) rfl ?_)
 try clear hH
 intro _ b3 hH
 replace hH:=nn3 hH
 repeat (first|refine WS_seq ?_|refine WS_region ?_|refine WL_nil ?_)
 refine WL_s (H_alloc hH (Ty.zer rfl) rfl ?_)
 try clear hH
 intro _ b4 hH
 replace hH:=nn4 hH
 have hB:=hH.b 1 rfl
 repeat (first|refine WS_seq ?_|refine WS_region ?_|refine WL_nil ?_|refine WS_block ?_|(refine WL_r (by first|refine k_loadA rfl hB (by simp) (Ty.shp rfl)|refine Run_pev rfl) rfl ?_))
 clear hB
 refine WS_loop (G:=(Nat)) (fun k=>64-k) 134212608 (fun k=>[(13,.int .i64 k)]) (fun k w'=>k≤64∧Hp [] w w' [Rb b1 24 tz.toArray,Rb b2 94 ((25::List.replicate 63 (0:Int)).map (Value.int .i64)).toArray,Rb b3 94 ((List.replicate 64 (0:Int)).map (Value.int .i64)).toArray,Rb b4 94 ((l0 k 408).map (Value.int .i64)).toArray]) (0) ⟨rfl,trivial⟩ ⟨by omega,hH⟩ ?_
 rintro k w' σ ⟨hk,hH⟩ IH
 show WS _ _ _ _ _ (updL [(13,.int .i64 k)] _) _
 by_cases hlt:k<64
 ·have hx1:=c0_at (n:=25) hlt
  have hB:=hH.b 0 rfl
  have hl:=l0_len k 408
  repeat (first|refine WS_seq ?_|refine WS_region ?_|refine WL_nil ?_|refine WS_block ?_|refine WS_skip ?_|refine WS_yes rfl (by omega) ?_|(refine WL_r (by first|refine k_index1 rfl rfl (Ty.arr rfl) (by omega) hx1|refine k_loadA rfl hB (by simp) (Ty.shp rfl)|refine Run_pev rfl) rfl ?_))
  refine WL_s (S_call ((qstep_spec (i:=k) (b:=true))) rfl rfl ?_)
  rintro _ _ ⟨rfl,hE0⟩
  replace hH:=hH.ext0 hE0
  clear hE0
  replace hH:=nn4 hH
  clear hB
  refine WL_s (S_call ((qback_spec (by split<;>omega))) rfl rfl ?_)
  rintro _ _ ⟨rfl,rfl⟩
  repeat ((refine WL_r (by refine k_ixa1 rfl rfl (Ty.arr rfl) (by omega)) rfl ?_))
  refine WL_s (H_storeB 3 (v:=.int .i64 _) hH rfl rfl rfl (by simp [hl];omega) rfl (Ty.shp rfl) ?_)
  try clear hH
  intro _ hH
  replace hH:=nn4 hH
  rw [← List.map_set,Int.toNat_natCast,l0_set hlt (by by_cases h0:k=0<;>simp [h0]<;>rfl)] at hH
  repeat (first|refine WS_region ?_|refine WL_nil ?_|refine WS_inBlock ?_|(refine WL_r (by first|refine Run_pev rfl|refine k_add64 rfl rfl (by omega)) rfl ?_))
  refine IH (k+1) _ _ ?_ ?_ ?_ ?_
  ·omega
  ·exact ⟨rfl,trivial⟩
  ·repeat first|with_reducible apply Agr.refl|refine Agr.upd rfl ?_|refine Agr.updL rfl ?_|refine Agr.mrg rfl ?_
  ·exact ⟨by omega,hH⟩
 ·obtain rfl:k=64:=by omega
  repeat (first|refine WS_seq ?_|refine WS_region ?_|refine WL_nil ?_|refine WS_exit rfl ?_|refine WS_true rfl ?_|refine WS_false rfl ?_|(refine WL_r (by first|refine k_ixa1 rfl rfl (Ty.arr rfl) (by omega)|refine Run_pev rfl) rfl ?_))
  have hB:=hH.b 1 rfl
  repeat ((refine WL_r (by first|refine k_loadb rfl hB rfl (Ty.shp rfl)|refine Run_pev rfl) rfl ?_))
  refine WL_s (S_call ((firstback_spec (l:=25) (q:=1))) rfl rfl ?_)
  rintro _ _ ⟨rfl,rfl⟩
  repeat ((refine WL_r (by refine k_ixa1 rfl rfl (Ty.arr rfl) (by omega)) rfl ?_))
  refine WL_s (H_storeB 3 (v:=.int .i64 _) hH rfl rfl rfl (by decide) rfl (Ty.shp rfl) ?_)
  try clear hH
  intro _ hH
  replace hH:=nn4 hH
  clear hB
  have hB:=hH.b 3 rfl
  repeat (first|refine WS_seq ?_|refine WS_region ?_|refine WL_nil ?_|(refine WL_r (by refine k_loadA rfl hB rfl (Ty.shp rfl)) rfl ?_))
  refine WL_s (H_storeA 2 (vs:=((3200::List.replicate 63 (0:Int)).map (Value.int .i64)).toArray) (s:=64) hH rfl rfl rfl (by rfl) (by rfl) (by exact ints_one) (Ty.shp rfl) ?_)
  try clear hH
  intro _ hH
  replace hH:=nn4 hH
  repeat (refine WL_nil ?_)
  exact WS_retc1 Tryz.func126 rfl rfl (hH.b 2 rfl) rfl (Ty.shp rfl) ⟨rfl,hH.ext⟩
end Go.Proofs.YtpbiicegmcpkpaaGreat
namespace Go.Proofs.YtpbiicegmcpkpaaGreat
open Go Go.K Go.P Go.RowKit Go.Proofs
def RY (b n:Nat):Res where
 fp:=[b]
 holds:=fun w=>∃ cs:List Value,cs.length=n∧Blk w b 5 cs.toArray
 keep:=fun ⟨cs,hl,h⟩ hE hS=>⟨cs,hl,h.ext hE (fun hb=>hS b hb (by simp))⟩
 lt:=fun ⟨_,_,h⟩ _ hs=>by simp at hs;subst hs;exact h.lt
theorem RY.op (i:Nat) {S:List Nat} {W w:World} {H:List Res} {b n:Nat} (h:Hp S W w H) (hi:H[i]?=some (RY b n)):∃ cs:List Value,cs.length=n∧Hp S W w (H.set i (Rb b 5 cs.toArray)):=by
 obtain ⟨cs,hl,hB⟩:=h.at i hi
 exact ⟨cs,hl,h.as i hi (fun _ hx=>hx) (fun _=>hB)⟩
theorem RY.cl (i:Nat) {S:List Nat} {W w:World} {H:List Res} {b n:Nat} {cs:List Value} (h:Hp S W w H) (hi:H[i]?=some (Rb b 5 cs.toArray)) (hl:cs.length=n):Hp S W w (H.set i (RY b n)) :=
 h.as i hi (fun _ hx=>hx) (fun hB=>⟨cs,hl,hB⟩)
set_option maxHeartbeats 4000000 in
theorem plset_spec {m n b x i j:Nat} {w:World} (hm:m≤1024) (hn:n≤1024) (hi:i<m) (hj:j<n) (hR:(RY b (m*n)).holds w) :
  Does Tryz.prog 127 #[.agg (plC m n b).toArray,.int .i64 i,.int .i64 j,.int .u8 x] w fun v w'=>v=.tuple #[]∧Upd (RY b (m*n)) (RY b (m*n)) w w':=by
 refine Does_of (args:=[_,_,_,_]) Tryz.func127 rfl rfl Tryz.ntmps127 rfl ?_
 have hmn:m*n≤1048576:=Nat.mul_le_mul hm hn
 have hqm:(j:Int)*m=((j*m:Nat):Int):=by simp
 have hlt:j*m+i<m*n:=by
  have h1:(j+1)*m≤n*m:=Nat.mul_le_mul_right m (by omega)
  rw [Nat.add_mul,Nat.mul_comm n m] at h1
  omega
 have hqp:((j*m:Nat):Int)+i=((j*m+i:Nat):Int):=by omega
 have hH:=Hp.start1 hR
 repeat (first|refine WS_seq ?_|refine WS_region ?_)
 refine WL_s (H_box (cs:=(plC m n b).toArray) hH rfl rfl rfl ?_)
 try clear hH
 intro _ b1 hH
 replace hH:=nn2 hH
 have hB:=hH.b 1 rfl
 repeat (first|refine WS_seq ?_|refine WS_region ?_|refine WL_nil ?_|refine WS_yes rfl (by omega) ?_|refine WL_gyes rfl rfl rfl ?_|refine WL_gyes rfl rfl (dT (by omega)) ?_|(refine WL_r (by first|refine k_fa rfl (Ty.fld rfl rfl)|refine k_loadb rfl hB rfl (Ty.shp rfl)|refine (k_mul64 (m:=j) (n:=m) rfl rfl (by omega)).is (congrArg (Value.int .i64) hqm)|refine (k_add64 (m:=(j*m:Nat)) (n:=i) rfl rfl (by omega)).is (congrArg (Value.int .i64) hqp)|refine Run_pev rfl|refine k_len rfl (Ty.isl rfl)|refine k_pick_t (dT (by omega)) rfl) rfl ?_))
 clear hB
 obtain ⟨cs,hl,hH2⟩:=RY.op 0 hH rfl
 replace hH:=hH2
 clear hH2
 replace hH:=nn2 hH
 have hB:=hH.b 1 rfl
 have hS:SlA _ (some ⟨b,0,none⟩) cs:=(hH.b 0 rfl).sl0
 repeat ((refine WL_r (by refine k_ix1 rfl rfl hS hl (Ty.sle rfl) (by omega)) rfl ?_))
 refine WL_s (H_storeB 0 (v:=.int .u8 x) hH rfl rfl rfl (by omega) rfl (Ty.shp rfl) ?_)
 try clear hH
 intro _ hH
 replace hH:=nn2 hH
 replace hH:=RY.cl (n:=m*n) 0 hH rfl (by rw [List.length_set];exact hl)
 replace hH:=nn2 hH
 repeat (refine WL_nil ?_)
 exact WS_end0 Tryz.func127 rfl ⟨rfl,(hH.upd 0 rfl)⟩
set_option maxRecDepth 20000 in
set_option maxHeartbeats 4000000 in
theorem plput_spec {m n b i j:Nat} {w:World} (hm:m≤1024) (hn:n≤1024) (hi:i+7<m) (hj:j+7<n) (hR:(RY b (m*n)).holds w) :
  Does Tryz.prog 89 #[.agg (plC m n b).toArray,.int .i64 i,.int .i64 j,.agg ((List.replicate 64 (50:Int)).map (Value.int .i64)).toArray] w fun v w'=>v=.tuple #[]∧Upd (RY b (m*n)) (RY b (m*n)) w w':=by
 refine Does_of (args:=[_,_,_,_]) Tryz.func89 rfl rfl Tryz.ntmps89 rfl ?_
 have hH:=Hp.start1 hR
 repeat (first|refine WS_seq ?_|refine WS_region ?_)
 refine WL_s (H_box (cs:=(plC m n b).toArray) hH rfl rfl rfl ?_)
 try clear hH
 intro _ b1 hH
 replace hH:=nn2 hH
 refine WL_s (H_box (cs:=((List.replicate 64 (50:Int)).map (Value.int .i64)).toArray) hH rfl rfl rfl ?_)
 try clear hH
 intro _ b2 hH
 replace hH:=nn3 hH
 have hB:=hH.b 2 rfl
 repeat (first|refine WS_seq ?_|refine WS_region ?_|refine WL_nil ?_|refine WS_block ?_|(refine WL_r (by first|refine k_loadA rfl hB (by simp) (Ty.shp rfl)|refine Run_pev rfl) rfl ?_))
 clear hB
 refine WS_loop (G:=(Nat)) (fun k=>64-k) 1073740544 (fun k=>[(11,.int .i64 k)]) (fun k w'=>k≤64∧Hp [b] w w' [RY b (m*n),Rb b1 64 (plC m n b).toArray,Rb b2 94 ((List.replicate 64 (50:Int)).map (Value.int .i64)).toArray]) (0) ⟨rfl,trivial⟩ ⟨by omega,hH⟩ ?_
 rintro k w' σ ⟨hk,hH⟩ IH
 show WS _ _ _ _ _ (updL [(11,.int .i64 k)] _) _
 by_cases hlt:k<64
 ·have hB:=hH.b 1 rfl
  have hx1:((List.replicate 64 (50:Int)).map (Value.int .i64)).toArray[k]?=some (.int .i64 50):=rep_at hlt
  repeat (first|refine WS_seq ?_|refine WS_region ?_|refine WL_nil ?_|refine WS_block ?_|refine WS_skip ?_|refine WS_yes rfl (by omega) ?_|(refine WL_r (by first|refine k_loadA rfl hB (by simp) (Ty.shp rfl)|refine k_index1 rfl rfl (Ty.arr rfl) (by omega) hx1|refine k_remu (n:=8) rfl rfl (by decide)|refine k_quou (n:=8) rfl rfl (by decide) (fiti (by omega))|refine k_conv8 (m:=50) rfl rfl rfl (by decide)|refine Run_pev rfl|refine k_add64 rfl rfl (by omega)|refine k_min rfl rfl|refine k_max rfl rfl) rfl ?_))
  clear hB
  refine WL_s (S_call ((plset_spec (m:=m) (n:=n) (b:=b) (x:=50) (i:=i+k % 8) (j:=j+k / 8) hm hn (by omega) (by omega) (hH.at 0 rfl))) rfl rfl ?_)
  rintro _ w4 ⟨rfl,hU⟩
  replace hH:=hH.up 0 rfl hU
  clear hU
  replace hH:=nn3 hH
  repeat (first|refine WS_region ?_|refine WL_nil ?_|refine WS_inBlock ?_|(refine WL_r (by first|refine Run_pev rfl|refine k_add64 rfl rfl (by omega)) rfl ?_))
  refine IH (k+1) _ _ ?_ ?_ ?_ ?_
  ·omega
  ·exact ⟨rfl,trivial⟩
  ·repeat first|with_reducible apply Agr.refl|refine Agr.upd rfl ?_|refine Agr.updL rfl ?_|refine Agr.mrg rfl ?_
  ·exact ⟨by omega,hH⟩
 ·obtain rfl:k=64:=by omega
  repeat (first|refine WS_seq ?_|refine WS_region ?_|refine WL_nil ?_|refine WS_exit rfl ?_|refine WS_false rfl ?_|refine lp rfl rfl ?_)
  exact WS_end0 Tryz.func89 rfl ⟨rfl,hH.upd 0 rfl⟩
set_option maxRecDepth 20000 in
set_option maxHeartbeats 4000000 in
theorem fcheck_spec {y u z:Nat} {w:World}:Does Tryz.prog 27 #[.agg (frC 1 1 y u z).toArray] w fun v w'=>v=.int .i64 0∧Ext [] w w':=by
 refine Does_of (args:=[_]) Tryz.func27 rfl rfl Tryz.ntmps27 rfl ?_
 have hH:=Hp.start w
 repeat (first|refine WS_seq ?_|refine WS_region ?_)
 refine WL_s (H_box (cs:=(frC 1 1 y u z).toArray) hH rfl rfl rfl ?_)
 try clear hH
 intro _ b1 hH
 replace hH:=nn1 hH
 have hB:=hH.b 0 rfl
 repeat (first|refine WS_seq ?_|refine WS_region ?_|refine WL_nil ?_|refine WS_block ?_|refine WS_inBlock ?_|refine WS_skip ?_|refine WS_false rfl ?_|refine WL_gyes rfl rfl rfl ?_|(refine WL_r (by first|refine k_fa rfl (Ty.fld rfl rfl)|refine k_loadb rfl hB rfl (Ty.shp rfl)|refine Run_pev rfl|refine k_len rfl (Ty.isl rfl)|refine k_mul64 rfl rfl (by omega)) rfl ?_))
 exact WS_ret1 Tryz.func27 rfl ⟨rfl,hH.ext⟩
end Go.Proofs.YtpbiicegmcpkpaaGreat
namespace Go.Proofs.YtpbiicegmcpkpaaGreat
open Go Go.K Go.P Go.RowKit Go.Proofs
def kgL (B:Int) (l:List Int):Prop:=l.length=65∧∀ i n,1≤i→i<64→l[i]?=some n→-B≤n∧n≤B
def KG (B:Int) (v:Value):Prop:=∃ l:List Int,kgL B l∧v=.agg (l.map (Value.int .i64)).toArray
theorem kg0 {B:Int} (hB:0≤B):kgL B (List.replicate 65 0):=⟨rfl,fun i n _ h h2=>by
 rw [List.getElem?_replicate,if_pos (by omega)] at h2
 obtain rfl:=Option.some.inj h2
 omega⟩
def RT (B:Int) (b m1 m2 m3 c r:Nat):Res where
 fp:=[b,m1,m2,m3]
 holds:=fun w=>Blk w b 193 #[.int .i64 c,.int .i64 r,.map (some m1),.map (some m2),.map (some m3)]∧MapI w m1 .i64 (KG B)∧MapI w m2 .i64 (KG B)∧MapI w m3 .i64 (KG B)
 keep:=fun ⟨h1,h2,h3,h4⟩ hE hS=>⟨h1.ext hE (fun hb=>hS _ hb (by simp)),h2.ext hE (fun hb=>hS _ hb (by simp)),h3.ext hE (fun hb=>hS _ hb (by simp)),h4.ext hE (fun hb=>hS _ hb (by simp))⟩
 lt:=fun ⟨h1,h2,h3,h4⟩ s hs=>by
  simp at hs
  rcases hs with rfl|rfl|rfl|rfl
  ·exact h1.lt
  ·exact h2.lt
  ·exact h3.lt
  ·exact h4.lt
set_option maxHeartbeats 4000000 in
theorem prednew_spec (B:Int) {c r:Nat} {w:World} (hc:c≤8) (hr:r≤8) :
  Does Tryz.prog 50 #[.int .i64 c,.int .i64 r] w fun v w'=>∃ b m1 m2 m3,v=.pointer (some ⟨b,0,none⟩)∧New (RT B b m1 m2 m3 c r) w w':=by
 refine Does_of (args:=[_,_]) Tryz.func50 rfl rfl Tryz.ntmps50 rfl ?_
 have hH:=Hp.start w
 have e1:min (max (c:Int) 0) 8=c:=by omega
 have e2:min (max (r:Int) 0) 8=r:=by omega
 repeat (first|refine WS_seq ?_|refine WS_region ?_|refine WL_nil ?_|(refine WL_r (by first|refine (k_min rfl rfl).is (congrArg (Value.int .i64) e1)|refine (k_min rfl rfl).is (congrArg (Value.int .i64) e2)|refine Run_pev rfl|refine k_max rfl rfl) rfl ?_))
 refine WL_s (H_makeMap .i64 (KG B) hH rfl ?_)
 intro _ m1 hH
 replace hH:=nn1 hH
 refine WL_s (H_makeMap .i64 (KG B) hH rfl ?_)
 intro _ m2 hH
 replace hH:=nn2 hH
 refine WL_s (H_makeMap .i64 (KG B) hH rfl ?_)
 intro _ m3 hH
 replace hH:=nn3 hH
 repeat ((refine WL_r (by first|refine k_buildA (cs:=[.map (some m1),.map (some m2),.map (some m3)]) (Ty.zer rfl) (Ty.arr rfl) rfl|refine k_buildS (cs:=[.int .i64 c,.int .i64 r,.map (some m1),.map (some m2),.map (some m3)]) (Ty.zer rfl) (Ty.plc rfl) rfl) rfl ?_))
 refine WL_s (H_box (cs:=#[.int .i64 c,.int .i64 r,.map (some m1),.map (some m2),.map (some m3)]) hH rfl rfl rfl ?_)
 try clear hH
 intro _ b1 hH
 replace hH:=nn4 hH
 repeat (first|refine WL_nil ?_|refine lp rfl rfl ?_)
 refine WS_ret1 Tryz.func50 rfl ⟨b1,m1,m2,m3,rfl,hH.ext,⟨hH.b 3 rfl,hH.at 0 rfl,hH.at 1 rfl,hH.at 2 rfl⟩,?_⟩
 intro x hx
 simp [RT] at hx
 rcases hx with rfl|rfl|rfl|rfl
 ·rcases hH.new _ (List.mem_of_getElem? (i:=3) rfl) x (by simp [Rb]) with h|h;cases h;exact h
 ·rcases hH.new _ (List.mem_of_getElem? (i:=0) rfl) x (by simp [Rm]) with h|h;cases h;exact h
 ·rcases hH.new _ (List.mem_of_getElem? (i:=1) rfl) x (by simp [Rm]) with h|h;cases h;exact h
 ·rcases hH.new _ (List.mem_of_getElem? (i:=2) rfl) x (by simp [Rm]) with h|h;cases h;exact h
theorem ptrT:isPtr Tryz.prog 111=true:=by kernel_rfl
section
variable {B:Int} {b m1 m2 m3 c r mb k:Nat} {w:World}
theorem lt_rows {c r mb:Nat} (hc:c≤8) (hr:r≤8) (h:mb<c*r):mb<64∧1≤c:=by
 have h1:c*r≤8*8:=Nat.mul_le_mul hc hr
 refine ⟨by omega,?_⟩
 rcases c with _|c
 ·simp at h
 ·omega
set_option maxHeartbeats 4000000 in
theorem pplace_spec (hc:c≤8) (hr:r≤8) (hmb:mb<c*r) (hk:k<6) (hR:(RT B b m1 m2 m3 c r).holds w) :
  Does Tryz.prog 161 #[.pointer (some ⟨b,0,none⟩),.int .i64 mb,.int .i64 k] w fun v w'=>(∃ p W X Y:Nat,p<3∧W≤16∧X≤1000∧Y≤1000∧v=.tuple #[.int .i64 p,.int .i64 W,.int .i64 X,.int .i64 Y])∧Ext [] w w':=by
 refine Does_of (args:=[_,_,_]) Tryz.func161 rfl rfl Tryz.ntmps161 rfl ?_
 obtain ⟨hm,hc1⟩:=lt_rows hc hr hmb
 have hB:=hR.1
 have e1:max (c:Int) 1=c:=by omega
 obtain ⟨M,hM⟩:∃ M,mb % c=M:=⟨_,rfl⟩
 obtain ⟨D,hD⟩:∃ D,mb / c=D:=⟨_,rfl⟩
 have e4:M<c:=hM▸Nat.mod_lt _ (by omega)
 have e5:D≤mb:=hD▸Nat.div_le_self _ _
 repeat (first|refine WS_seq ?_|refine WS_region ?_|refine WL_nil ?_|(refine WL_r (by first|refine k_nilCheck rfl|refine k_fa rfl (Ty.fld rfl rfl)|refine k_loadb rfl hB rfl (Ty.shp rfl)|refine (k_max rfl rfl).is (congrArg (Value.int .i64) e1)|refine Run_pev rfl) rfl ?_))
 refine WS_drawE Ty.mixed 8 rfl (fun w1 hx1=>?_)
 refine wp 0 hx1 rfl rfl rfl rfl ?_
 refine wp 1 hx1 rfl rfl rfl rfl ?_
 refine wt 2 hx1 rfl rfl rfl (fun w' hw'=>by refine (k_remu (m:=mb) (n:=c) rfl rfl (by omega)).is (congrArg (fun n:Nat=>Value.int .i64 n) hM)) ?_
 refine wp 3 hx1 rfl rfl rfl rfl ?_
 refine wp 4 hx1 rfl rfl rfl rfl ?_
 refine wt 5 hx1 rfl rfl rfl (fun w' hw'=>by refine (k_quou (m:=mb) (n:=c) rfl rfl (by omega) (fiti (by omega))).is (congrArg (fun n:Nat=>Value.int .i64 n) hD)) ?_
 refine wp 6 hx1 rfl rfl rfl rfl ?_
 refine wp 7 hx1 rfl rfl rfl rfl ?_
 refine WA_done (by kernel_rfl) ?_
 by_cases h4:k<4
 ·repeat (first|refine WS_seq ?_|refine WS_region ?_|refine WL_nil ?_|refine WS_yes rfl (by omega) ?_|(refine WL_r (by first|refine k_remu (n:=2) rfl rfl (by decide)|refine k_quou (n:=2) rfl rfl (by decide) (fiti (by omega))|refine Run_pev rfl|refine k_add64 rfl rfl (by omega)|refine k_mul64 rfl rfl (by omega)) rfl ?_))
  refine WS_ret4 Tryz.func161 rfl ⟨⟨0,2*c,2*M+k % 2,2*D+k / 2,by omega,by omega,by omega,by omega,?_⟩,hx1⟩
  rfl
 ·repeat (first|refine WS_seq ?_|refine WS_region ?_|refine WL_nil ?_|refine WS_skip ?_|refine WS_no rfl (by omega) ?_|(refine WL_r (by first|refine Run_pev rfl|refine k_sub64 rfl rfl (by omega)) rfl ?_))
  refine WS_ret4 Tryz.func161 rfl ⟨⟨k-3,c,M,D,by omega,by omega,by omega,by omega,?_⟩,hx1⟩
  rw [show ((k-3:Nat):Int)=(k:Int)-3 by omega]
  rfl
set_option maxHeartbeats 4000000 in
theorem pinside_spec (hc:c≤8) (hr:r≤8) (hmb:mb<c*r) (hk:k<6) (hR:(RT B b m1 m2 m3 c r).holds w) :
  Does Tryz.prog 163 #[.pointer (some ⟨b,0,none⟩),.int .i64 mb,.int .i64 k] w fun v w'=>v=.bool true∧Ext [] w w':=by
 refine Does_of (args:=[_,_,_]) Tryz.func163 rfl rfl Tryz.ntmps163 rfl ?_
 obtain ⟨hm,hc1⟩:=lt_rows hc hr hmb
 have hB:=hR.1
 have hcr:c*r≤64:=Nat.mul_le_mul hc hr
 have hcm:(c:Int)*r=((c*r:Nat):Int):=by simp
 repeat (first|refine WS_seq ?_|refine WS_region ?_|refine WL_nil ?_|refine lp rfl rfl ?_)
 refine WS_drawE Ty.mixed 28 rfl (fun w1 hx1=>?_)
 refine wp 0 hx1 rfl rfl rfl rfl ?_
 refine wt 1 hx1 rfl rfl rfl (fun w' hw'=>by refine k_pnnil rfl rfl (.inr rfl) ptrT) ?_
 refine wp 2 hx1 rfl rfl rfl rfl ?_
 refine WA_takey 3 rfl (by kernel_rfl) hx1 rfl rfl rfl rfl rfl (fun w' hw'=>by refine Run_pev rfl) ?_
 refine WA_takey 4 rfl (by kernel_rfl) hx1 rfl rfl rfl rfl rfl (fun w' hw'=>by exact Run_pev (congrArg some (dT (by omega)))) ?_
 refine wp 5 hx1 rfl rfl rfl rfl ?_
 refine wp 6 hx1 rfl rfl rfl rfl ?_
 refine WA_takey 7 rfl (by kernel_rfl) hx1 rfl rfl rfl rfl rfl (fun w' hw'=>by refine Run_pev rfl) ?_
 refine WA_takey 8 rfl (by kernel_rfl) hx1 rfl rfl rfl rfl rfl (fun w' hw'=>by refine Run_pev rfl) ?_
 refine WA_takey 9 rfl (by kernel_rfl) hx1 rfl rfl rfl rfl rfl (fun w' hw'=>by refine k_nilCheck rfl) ?_
 refine WA_takey 10 rfl (by kernel_rfl) hx1 rfl rfl rfl rfl rfl (fun w' hw'=>by refine k_fa rfl (Ty.fld rfl rfl)) ?_
 refine WA_takey 11 rfl (by kernel_rfl) hx1 rfl rfl rfl rfl rfl (fun w' hw'=>by refine k_loadb rfl (hB.ext0 hw') rfl (Ty.shp rfl)) ?_
 refine WA_takey 12 rfl (by kernel_rfl) hx1 rfl rfl rfl rfl rfl (fun w' hw'=>by refine Run_pev rfl) ?_
 refine WA_takey 13 rfl (by kernel_rfl) hx1 rfl rfl rfl rfl rfl (fun w' hw'=>by refine k_nilCheck rfl) ?_
 refine WA_takey 14 rfl (by kernel_rfl) hx1 rfl rfl rfl rfl rfl (fun w' hw'=>by refine k_fa rfl (Ty.fld rfl rfl)) ?_
 refine WA_takey 15 rfl (by kernel_rfl) hx1 rfl rfl rfl rfl rfl (fun w' hw'=>by refine k_loadb rfl (hB.ext0 hw') rfl (Ty.shp rfl)) ?_
 refine WA_takey 16 rfl (by kernel_rfl) hx1 rfl rfl rfl rfl rfl (fun w' hw'=>by refine (k_mul64 (m:=c) (n:=r) rfl rfl (by omega)).is (congrArg (Value.int .i64) hcm)) ?_
 refine WA_takey 17 rfl (by kernel_rfl) hx1 rfl rfl rfl rfl rfl (fun w' hw'=>by exact Run_pev (congrArg some (dT (by omega)))) ?_
 refine wp 18 hx1 rfl rfl rfl rfl ?_
 refine wp 19 hx1 rfl rfl rfl rfl ?_
 refine WA_takey 20 rfl (by kernel_rfl) hx1 rfl rfl rfl rfl rfl (fun w' hw'=>by refine Run_pev rfl) ?_
 refine WA_takey 21 rfl (by kernel_rfl) hx1 rfl rfl rfl rfl rfl (fun w' hw'=>by exact Run_pev (congrArg some (dT (by omega)))) ?_
 refine wp 22 hx1 rfl rfl rfl rfl ?_
 refine wp 23 hx1 rfl rfl rfl rfl ?_
 refine WA_takey 24 rfl (by kernel_rfl) hx1 rfl rfl rfl rfl rfl (fun w' hw'=>by refine Run_pev rfl) ?_
 refine WA_takey 25 rfl (by kernel_rfl) hx1 rfl rfl rfl rfl rfl (fun w' hw'=>by exact Run_pev (congrArg some (dT (by omega)))) ?_
 refine wp 26 hx1 rfl rfl rfl rfl ?_
 refine wp 27 hx1 rfl rfl rfl rfl ?_
 refine WA_done (by kernel_rfl) ?_
 skip
 exact WS_ret1 Tryz.func163 rfl ⟨rfl,hx1⟩
theorem blk_map {w:World} {b m:Nat} {e:TypeId} {cs:Array Value} {q:IntKind} {Q:Value→Prop} (h:Blk w b e cs) (h2:MapI w m q Q):b≠m:=by
 rintro rfl
 obtain ⟨_,_,h3,_⟩:=h2
 unfold Blk at h
 rw [h] at h3
 cases h3
theorem mapSets {w w':World} {m m':Nat} {q:IntKind} {Q:Value→Prop} (h:MapI w m' q Q) (hE:Ext [m] w w') (hM:MapI w' m q Q):MapI w' m' q Q:=by
 by_cases e:m'=m
 ·rw [e];exact hM
 ·exact h.ext hE (by simpa using e)
theorem RT.set {w':World} {m:Nat} (h:(RT B b m1 m2 m3 c r).holds w) (hm:m∈[m1,m2,m3]) (hE:Ext [m] w w') (hM:MapI w' m .i64 (KG B)):Upd (RT B b m1 m2 m3 c r) (RT B b m1 m2 m3 c r) w w':=by
 obtain ⟨h1,h2,h3,h4⟩:=h
 have hb:b≠m:=by
  simp at hm
  rcases hm with rfl|rfl|rfl
  ·exact blk_map h1 h2
  ·exact blk_map h1 h3
  ·exact blk_map h1 h4
 exact ⟨hE.weaken (fun s hs=>by simp at hs;subst hs;exact List.mem_cons_of_mem _ hm),⟨h1.ext hE (by simpa using hb),mapSets h2 hE hM,mapSets h3 hE hM,mapSets h4 hE hM⟩,fun _ hx=>.inl hx⟩
theorem yW {y W:Int} (hW:0≤W∧W≤1000) (hy:0≤y∧y≤1000):0≤y*W∧y*W≤1000000 :=
 ⟨Int.mul_nonneg hy.1 hW.1,Int.le_trans (Int.mul_le_mul hy.2 hW.2 hW.1 (by omega)) (by omega)⟩
set_option maxRecDepth 20000 in
set_option maxHeartbeats 4000000 in
theorem pset_spec {l:List Int} (hc:c≤8) (hr:r≤8) (hmb:mb<c*r) (hk:k<6) (hl:kgL B l) (hR:(RT B b m1 m2 m3 c r).holds w) :
  Does Tryz.prog 118 #[.pointer (some ⟨b,0,none⟩),.int .i64 mb,.int .i64 k,.agg (l.map (Value.int .i64)).toArray] w fun v w'=>v=.tuple #[]∧Upd (RT B b m1 m2 m3 c r) (RT B b m1 m2 m3 c r) w w':=by
 refine Does_of (args:=[_,_,_,_]) Tryz.func118 rfl rfl Tryz.ntmps118 rfl ?_
 have hH:=Hp.start1 hR
 repeat (first|refine WS_seq ?_|refine WS_region ?_)
 refine WL_s (H_box (cs:=(l.map (Value.int .i64)).toArray) hH rfl rfl rfl ?_)
 try clear hH
 intro _ b1 hH
 replace hH:=nn2 hH
 repeat (first|refine WS_seq ?_|refine WS_region ?_|refine WL_nil ?_|refine lp rfl rfl ?_)
 refine WL_s (S_call ((pinside_spec hc hr hmb hk (hH.at 0 rfl))) rfl rfl ?_)
 rintro _ _ ⟨rfl,hE0⟩
 replace hH:=hH.ext0 hE0
 clear hE0
 replace hH:=nn2 hH
 repeat (first|refine WS_seq ?_|refine WS_region ?_|refine WL_nil ?_|refine WS_true rfl ?_|refine lp rfl rfl ?_)
 refine WL_s (S_call ((pplace_spec hc hr hmb hk (hH.at 0 rfl))) rfl rfl ?_)
 rintro _ _ ⟨⟨p,W,X,Y,hp,hW,hX,hY,rfl⟩,hE0⟩
 replace hH:=hH.ext0 hE0
 clear hE0
 replace hH:=nn2 hH
 repeat (first|refine WL_nil ?_|(refine WL_r (by first|refine Run_pev rfl|refine k_extract rfl rfl) rfl ?_))
 have hB:=(hH.at 0 rfl).1
 have hyW:=yW (W:=W) (y:=Y) (by omega) (by omega)
 have hl1:=hl.1
 rcases (show p=0∨p=1∨p=2 by omega) with rfl|rfl|rfl
 ·skip
  refine WS_tail Ty.mixed 12 rfl (by kernel_rfl) rfl (fun w1 hx1=>?_)
  refine wp 0 hx1 rfl rfl rfl rfl ?_
  refine wp 1 hx1 rfl rfl rfl rfl ?_
  refine wt 2 hx1 rfl rfl rfl (fun w' hw'=>by refine k_nilCheck rfl) ?_
  refine wt 3 hx1 rfl rfl rfl (fun w' hw'=>by refine k_fa rfl (Ty.fld rfl rfl)) ?_
  refine wt 4 hx1 rfl rfl rfl (fun w' hw'=>by refine k_ixa1 rfl rfl (Ty.arr rfl) (by decide)) ?_
  refine wt 5 hx1 rfl rfl rfl (fun w' hw'=>by refine k_loadb rfl (hB.ext0 hw') rfl (Ty.shp rfl)) ?_
  refine wp 6 hx1 rfl rfl rfl rfl ?_
  refine wp 7 hx1 rfl rfl rfl rfl ?_
  refine wt 8 hx1 rfl rfl rfl (fun w' hw'=>by refine k_mul64 (m:=Y) (n:=W) rfl rfl (by omega)) ?_
  refine wp 9 hx1 rfl rfl rfl rfl ?_
  refine wt 10 hx1 rfl rfl rfl (fun w' hw'=>by refine k_add64 rfl rfl (by omega)) ?_
  refine wt 11 hx1 rfl rfl rfl (fun w' hw'=>by refine k_loadA rfl ((hH.b 1 rfl).ext0 hw') (by simp [hl.1]) (Ty.shp rfl)) ?_
  refine WA_done (by kernel_rfl) ?_
  replace hH:=hH.ext0 hx1
  skip
  refine WL_s (S_mapSet (e:=238) (q:=.i64) (by kernel_rfl) rfl rfl rfl (hH.at 0 rfl).2.1 ⟨l,hl,rfl⟩ ?_)
  intro w7 hE hM _
  replace hH:=hH.up 0 rfl (RT.set (hH.at 0 rfl) (by simp) hE hM)
  replace hH:=nn2 hH
  repeat (refine WL_nil ?_)
  exact WS_end0 Tryz.func118 rfl ⟨rfl,hH.upd 0 rfl⟩
 ·skip
  refine WS_tail Ty.mixed 12 rfl (by kernel_rfl) rfl (fun w1 hx1=>?_)
  refine wp 0 hx1 rfl rfl rfl rfl ?_
  refine wp 1 hx1 rfl rfl rfl rfl ?_
  refine wt 2 hx1 rfl rfl rfl (fun w' hw'=>by refine k_nilCheck rfl) ?_
  refine wt 3 hx1 rfl rfl rfl (fun w' hw'=>by refine k_fa rfl (Ty.fld rfl rfl)) ?_
  refine wt 4 hx1 rfl rfl rfl (fun w' hw'=>by refine k_ixa1 rfl rfl (Ty.arr rfl) (by decide)) ?_
  refine wt 5 hx1 rfl rfl rfl (fun w' hw'=>by refine k_loadb rfl (hB.ext0 hw') rfl (Ty.shp rfl)) ?_
  refine wp 6 hx1 rfl rfl rfl rfl ?_
  refine wp 7 hx1 rfl rfl rfl rfl ?_
  refine wt 8 hx1 rfl rfl rfl (fun w' hw'=>by refine k_mul64 (m:=Y) (n:=W) rfl rfl (by omega)) ?_
  refine wp 9 hx1 rfl rfl rfl rfl ?_
  refine wt 10 hx1 rfl rfl rfl (fun w' hw'=>by refine k_add64 rfl rfl (by omega)) ?_
  refine wt 11 hx1 rfl rfl rfl (fun w' hw'=>by refine k_loadA rfl ((hH.b 1 rfl).ext0 hw') (by simp [hl.1]) (Ty.shp rfl)) ?_
  refine WA_done (by kernel_rfl) ?_
  replace hH:=hH.ext0 hx1
  skip
  refine WL_s (S_mapSet (e:=238) (q:=.i64) (by kernel_rfl) rfl rfl rfl (hH.at 0 rfl).2.2.1 ⟨l,hl,rfl⟩ ?_)
  intro w7 hE hM _
  replace hH:=hH.up 0 rfl (RT.set (hH.at 0 rfl) (by simp) hE hM)
  replace hH:=nn2 hH
  repeat (refine WL_nil ?_)
  exact WS_end0 Tryz.func118 rfl ⟨rfl,hH.upd 0 rfl⟩
 ·skip
  refine WS_tail Ty.mixed 12 rfl (by kernel_rfl) rfl (fun w1 hx1=>?_)
  refine wp 0 hx1 rfl rfl rfl rfl ?_
  refine wp 1 hx1 rfl rfl rfl rfl ?_
  refine wt 2 hx1 rfl rfl rfl (fun w' hw'=>by refine k_nilCheck rfl) ?_
  refine wt 3 hx1 rfl rfl rfl (fun w' hw'=>by refine k_fa rfl (Ty.fld rfl rfl)) ?_
  refine wt 4 hx1 rfl rfl rfl (fun w' hw'=>by refine k_ixa1 rfl rfl (Ty.arr rfl) (by decide)) ?_
  refine wt 5 hx1 rfl rfl rfl (fun w' hw'=>by refine k_loadb rfl (hB.ext0 hw') rfl (Ty.shp rfl)) ?_
  refine wp 6 hx1 rfl rfl rfl rfl ?_
  refine wp 7 hx1 rfl rfl rfl rfl ?_
  refine wt 8 hx1 rfl rfl rfl (fun w' hw'=>by refine k_mul64 (m:=Y) (n:=W) rfl rfl (by omega)) ?_
  refine wp 9 hx1 rfl rfl rfl rfl ?_
  refine wt 10 hx1 rfl rfl rfl (fun w' hw'=>by refine k_add64 rfl rfl (by omega)) ?_
  refine wt 11 hx1 rfl rfl rfl (fun w' hw'=>by refine k_loadA rfl ((hH.b 1 rfl).ext0 hw') (by simp [hl.1]) (Ty.shp rfl)) ?_
  refine WA_done (by kernel_rfl) ?_
  replace hH:=hH.ext0 hx1
  skip
  refine WL_s (S_mapSet (e:=238) (q:=.i64) (by kernel_rfl) rfl rfl rfl (hH.at 0 rfl).2.2.2 ⟨l,hl,rfl⟩ ?_)
  intro w7 hE hM _
  replace hH:=hH.up 0 rfl (RT.set (hH.at 0 rfl) (by simp) hE hM)
  replace hH:=nn2 hH
  repeat (refine WL_nil ?_)
  exact WS_end0 Tryz.func118 rfl ⟨rfl,hH.upd 0 rfl⟩
set_option maxRecDepth 20000 in
set_option maxHeartbeats 4000000 in
theorem pat_spec {p W:Nat} {x y:Int} (hB0:0≤B) (hp:p<3) (hW:W≤1000) (hx:-1≤x∧x≤1000) (hy:-1≤y∧y≤1000) (hR:(RT B b m1 m2 m3 c r).holds w) :
  Does Tryz.prog 162 #[.pointer (some ⟨b,0,none⟩),.int .i64 p,.int .i64 W,.int .i64 x,.int .i64 y] w fun v w'=>∃ l o,kgL B l∧v=.tuple #[.agg (l.map (Value.int .i64)).toArray,.bool o]∧Ext [] w w':=by
 refine Does_of (args:=[_,_,_,_,_]) Tryz.func162 rfl rfl Tryz.ntmps162 rfl ?_
 have hH:=Hp.start w
 repeat (first|refine WS_seq ?_|refine WS_region ?_)
 refine WL_s (H_alloc hH (Ty.zer rfl) rfl ?_)
 try clear hH
 intro _ b1 hH
 replace hH:=nn1 hH
 by_cases h1:x<0
 ·skip
  repeat (first|refine WS_seq ?_|refine WS_region ?_|refine WL_nil ?_|refine WS_true rfl ?_|refine WL_gno rfl rfl rfl rfl rfl ?_|refine WL_gno (b:=true) rfl rfl (dT (by omega)) rfl rfl ?_|(refine WL_r (by first|refine k_buildS (cs:=(List.replicate 65 (0:Int)).map (Value.int .i64)) (Ty.zer rfl) (Ty.plc rfl) rfl|refine Run_pev rfl|refine k_pick_t (dT (by omega)) rfl) rfl ?_))
  refine WL_s (H_storeA 0 (vs:=((List.replicate 65 (0:Int)).map (Value.int .i64)).toArray) (s:=65) hH rfl rfl rfl (by rfl) (by rfl) (by exact ints_one) (Ty.shp rfl) ?_)
  try clear hH
  intro _ hH
  replace hH:=nn1 hH
  repeat (first|refine WL_nil ?_|refine lp rfl rfl ?_)
  exact WS_retc2 Tryz.func162 rfl rfl (hH.b 0 rfl) rfl (Ty.shp rfl) ⟨_,false,kg0 hB0,rfl,hH.ext⟩
 by_cases h2:y<0
 ·skip
  repeat (first|refine WS_seq ?_|refine WS_region ?_|refine WL_nil ?_|refine WS_true rfl ?_|refine WL_gyes rfl rfl (dF (by omega)) ?_|refine WL_gno (b:=true) rfl rfl (dT (by omega)) rfl rfl ?_|(refine WL_r (by first|refine k_buildS (cs:=(List.replicate 65 (0:Int)).map (Value.int .i64)) (Ty.zer rfl) (Ty.plc rfl) rfl|refine Run_pev rfl|refine k_pick_f (dF (by omega)) rfl|refine k_pick_t (dT (by omega)) rfl) rfl ?_))
  refine WL_s (H_storeA 0 (vs:=((List.replicate 65 (0:Int)).map (Value.int .i64)).toArray) (s:=65) hH rfl rfl rfl (by rfl) (by rfl) (by exact ints_one) (Ty.shp rfl) ?_)
  try clear hH
  intro _ hH
  replace hH:=nn1 hH
  repeat (first|refine WL_nil ?_|refine lp rfl rfl ?_)
  exact WS_retc2 Tryz.func162 rfl rfl (hH.b 0 rfl) rfl (Ty.shp rfl) ⟨_,false,kg0 hB0,rfl,hH.ext⟩
 by_cases h3:(W:Int)≤x
 ·skip
  repeat (first|refine WS_seq ?_|refine WS_region ?_|refine WL_nil ?_|refine WS_yes rfl (by omega) ?_|refine WL_gyes rfl rfl (dF (by omega)) ?_|(refine WL_r (by first|refine k_buildS (cs:=(List.replicate 65 (0:Int)).map (Value.int .i64)) (Ty.zer rfl) (Ty.plc rfl) rfl|refine Run_pev rfl|refine k_pick_f (dF (by omega)) rfl) rfl ?_))
  refine WL_s (H_storeA 0 (vs:=((List.replicate 65 (0:Int)).map (Value.int .i64)).toArray) (s:=65) hH rfl rfl rfl (by rfl) (by rfl) (by exact ints_one) (Ty.shp rfl) ?_)
  try clear hH
  intro _ hH
  replace hH:=nn1 hH
  repeat (first|refine WL_nil ?_|refine lp rfl rfl ?_)
  exact WS_retc2 Tryz.func162 rfl rfl (hH.b 0 rfl) rfl (Ty.shp rfl) ⟨_,false,kg0 hB0,rfl,hH.ext⟩
 have hyW:=yW (W:=W) (y:=y) (by omega) (by omega)
 have hB:=hR.1.ext0 hH.ext
 rcases (show p=0∨p=1∨p=2 by omega) with rfl|rfl|rfl
 ·repeat (first|refine WS_seq ?_|refine WS_region ?_|refine WL_nil ?_|refine WS_skip ?_|refine WS_no rfl (by omega) ?_|refine WL_gyes rfl rfl (dF (by omega)) ?_|(refine WL_r (by first|refine k_nilCheck rfl|refine k_fa rfl (Ty.fld rfl rfl)|refine k_ixa1 rfl rfl (Ty.arr rfl) (by decide)|refine k_loadb rfl hB rfl (Ty.shp rfl)|refine k_mul64 (m:=y) (n:=W) rfl rfl (by omega)|refine Run_pev rfl|refine k_add64 rfl rfl (by omega)|refine k_pick_f (dF (by omega)) rfl) rfl ?_))
  refine WL_s (S_lookupT (e:=238) (q:=.i64) (u:=.agg ((List.replicate 65 (0:Int)).map (Value.int .i64)).toArray) (by kernel_rfl) (by kernel_rfl) rfl rfl ((RT B b m1 m2 m3 c r).keep hR hH.ext (by simp)).2.1 rfl ?_)
  intro v o hv
  obtain ⟨l,hl,rfl⟩:KG B v:=by
   rcases hv with h|rfl
   ·exact h
   ·exact ⟨_,kg0 hB0,rfl⟩
  have hl1:=hl.1
  repeat ((refine WL_r (by first|refine Run_pev rfl|refine k_extract rfl rfl) rfl ?_))
  refine WL_s (H_alloc hH (Ty.zer rfl) rfl ?_)
  try clear hH
  intro _ b2 hH
  replace hH:=nn2 hH
  refine WL_s (H_storeA 1 (vs:=(l.map (Value.int .i64)).toArray) (s:=65) hH rfl rfl rfl (by simp [hl1]) (by rfl) (by exact ints_one) (Ty.shp rfl) ?_)
  try clear hH
  intro _ hH
  replace hH:=nn2 hH
  clear hB
  have hB:=hH.b 1 rfl
  repeat (first|refine WS_seq ?_|refine WS_region ?_|refine WL_nil ?_|(refine WL_r (by first|refine k_loadA rfl hB (by simp [hl1]) (Ty.shp rfl)|refine Run_pev rfl) rfl ?_))
  refine WL_s (H_storeA 0 (vs:=(l.map (Value.int .i64)).toArray) (s:=65) hH rfl rfl rfl (by simp [hl1]) (by rfl) (by exact ints_one) (Ty.shp rfl) ?_)
  try clear hH
  intro _ hH
  replace hH:=nn2 hH
  repeat (first|refine WL_nil ?_|refine lp rfl rfl ?_)
  exact WS_retc2 Tryz.func162 rfl rfl (hH.b 0 rfl) (by simp [hl1]) (Ty.shp rfl) ⟨l,o,hl,rfl,hH.ext⟩
 ·repeat (first|refine WS_seq ?_|refine WS_region ?_|refine WL_nil ?_|refine WS_skip ?_|refine WS_no rfl (by omega) ?_|refine WL_gyes rfl rfl (dF (by omega)) ?_|(refine WL_r (by first|refine k_nilCheck rfl|refine k_fa rfl (Ty.fld rfl rfl)|refine k_ixa1 rfl rfl (Ty.arr rfl) (by decide)|refine k_loadb rfl hB rfl (Ty.shp rfl)|refine k_mul64 (m:=y) (n:=W) rfl rfl (by omega)|refine Run_pev rfl|refine k_add64 rfl rfl (by omega)|refine k_pick_f (dF (by omega)) rfl) rfl ?_))
  refine WL_s (S_lookupT (e:=238) (q:=.i64) (u:=.agg ((List.replicate 65 (0:Int)).map (Value.int .i64)).toArray) (by kernel_rfl) (by kernel_rfl) rfl rfl ((RT B b m1 m2 m3 c r).keep hR hH.ext (by simp)).2.2.1 rfl ?_)
  intro v o hv
  obtain ⟨l,hl,rfl⟩:KG B v:=by
   rcases hv with h|rfl
   ·exact h
   ·exact ⟨_,kg0 hB0,rfl⟩
  have hl1:=hl.1
  repeat ((refine WL_r (by first|refine Run_pev rfl|refine k_extract rfl rfl) rfl ?_))
  refine WL_s (H_alloc hH (Ty.zer rfl) rfl ?_)
  try clear hH
  intro _ b2 hH
  replace hH:=nn2 hH
  refine WL_s (H_storeA 1 (vs:=(l.map (Value.int .i64)).toArray) (s:=65) hH rfl rfl rfl (by simp [hl1]) (by rfl) (by exact ints_one) (Ty.shp rfl) ?_)
  try clear hH
  intro _ hH
  replace hH:=nn2 hH
  clear hB
  have hB:=hH.b 1 rfl
  repeat (first|refine WS_seq ?_|refine WS_region ?_|refine WL_nil ?_|(refine WL_r (by first|refine k_loadA rfl hB (by simp [hl1]) (Ty.shp rfl)|refine Run_pev rfl) rfl ?_))
  refine WL_s (H_storeA 0 (vs:=(l.map (Value.int .i64)).toArray) (s:=65) hH rfl rfl rfl (by simp [hl1]) (by rfl) (by exact ints_one) (Ty.shp rfl) ?_)
  try clear hH
  intro _ hH
  replace hH:=nn2 hH
  repeat (first|refine WL_nil ?_|refine lp rfl rfl ?_)
  exact WS_retc2 Tryz.func162 rfl rfl (hH.b 0 rfl) (by simp [hl1]) (Ty.shp rfl) ⟨l,o,hl,rfl,hH.ext⟩
 ·repeat (first|refine WS_seq ?_|refine WS_region ?_|refine WL_nil ?_|refine WS_skip ?_|refine WS_no rfl (by omega) ?_|refine WL_gyes rfl rfl (dF (by omega)) ?_|(refine WL_r (by first|refine k_nilCheck rfl|refine k_fa rfl (Ty.fld rfl rfl)|refine k_ixa1 rfl rfl (Ty.arr rfl) (by decide)|refine k_loadb rfl hB rfl (Ty.shp rfl)|refine k_mul64 (m:=y) (n:=W) rfl rfl (by omega)|refine Run_pev rfl|refine k_add64 rfl rfl (by omega)|refine k_pick_f (dF (by omega)) rfl) rfl ?_))
  refine WL_s (S_lookupT (e:=238) (q:=.i64) (u:=.agg ((List.replicate 65 (0:Int)).map (Value.int .i64)).toArray) (by kernel_rfl) (by kernel_rfl) rfl rfl ((RT B b m1 m2 m3 c r).keep hR hH.ext (by simp)).2.2.2 rfl ?_)
  intro v o hv
  obtain ⟨l,hl,rfl⟩:KG B v:=by
   rcases hv with h|rfl
   ·exact h
   ·exact ⟨_,kg0 hB0,rfl⟩
  have hl1:=hl.1
  repeat ((refine WL_r (by first|refine Run_pev rfl|refine k_extract rfl rfl) rfl ?_))
  refine WL_s (H_alloc hH (Ty.zer rfl) rfl ?_)
  try clear hH
  intro _ b2 hH
  replace hH:=nn2 hH
  refine WL_s (H_storeA 1 (vs:=(l.map (Value.int .i64)).toArray) (s:=65) hH rfl rfl rfl (by simp [hl1]) (by rfl) (by exact ints_one) (Ty.shp rfl) ?_)
  try clear hH
  intro _ hH
  replace hH:=nn2 hH
  clear hB
  have hB:=hH.b 1 rfl
  repeat (first|refine WS_seq ?_|refine WS_region ?_|refine WL_nil ?_|(refine WL_r (by first|refine k_loadA rfl hB (by simp [hl1]) (Ty.shp rfl)|refine Run_pev rfl) rfl ?_))
  refine WL_s (H_storeA 0 (vs:=(l.map (Value.int .i64)).toArray) (s:=65) hH rfl rfl rfl (by simp [hl1]) (by rfl) (by exact ints_one) (Ty.shp rfl) ?_)
  try clear hH
  intro _ hH
  replace hH:=nn2 hH
  repeat (first|refine WL_nil ?_|refine lp rfl rfl ?_)
  exact WS_retc2 Tryz.func162 rfl rfl (hH.b 0 rfl) (by simp [hl1]) (Ty.shp rfl) ⟨l,o,hl,rfl,hH.ext⟩
end
end Go.Proofs.YtpbiicegmcpkpaaGreat
