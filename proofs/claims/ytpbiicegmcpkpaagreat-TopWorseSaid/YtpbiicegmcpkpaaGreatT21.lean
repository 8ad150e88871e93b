/- A part of the proof that TopWorse is true at every input; no condition. -/
import Derived.Test.YtpbiicegmcpkpaaGreatT20
namespace Go.Proofs.YtpbiicegmcpkpaaGreat
open Go Go.K Go.P Go.RowKit Go.Proofs
def pF (l:List Int):Int:=qfb (l.getD 0 0) (l.getD 64 0)
theorem pF_le (l:List Int):0≤pF l∧pF l≤121920:=qfb_le _ _
theorem ints_get {l:List Int} {i n:Nat} (hl:l.length=n) (h:i<n):(l.map (Value.int .i64)).toArray[i]?=some (.int .i64 (l.getD i 0)):=by
 subst hl
 simp [List.getD_eq_getElem?_getD,List.getElem?_eq_getElem h]
theorem pfirst_spec {l:List Int} {w:World} (hl:l.length=65):Does Tryz.prog 170 #[.agg (l.map (Value.int .i64)).toArray] w fun v w'=>v=.int .i64 (pF l)∧Ext [] w w':=by
 refine Does_of (args:=[_]) Tryz.func170 rfl rfl Tryz.ntmps170 rfl ?_
 have hH:=Hp.start w
 have h0:=ints_get (i:=0) hl (by decide)
 have h64:=ints_get (i:=64) hl (by decide)
 repeat (first|refine WS_seq ?_|refine WS_region ?_)
 refine WL_s (H_box (cs:=(l.map (Value.int .i64)).toArray) hH rfl rfl rfl ?_)
 try clear hH
 intro _ b1 hH
 replace hH:=nn1 hH
 have hB:=hH.b 0 rfl
 repeat (first|refine WS_seq ?_|refine WS_region ?_|refine WL_nil ?_|(refine WL_r (by first|refine k_fa rfl (Ty.fld rfl rfl)|refine k_ixa1 rfl rfl (Ty.arr rfl) (by decide)|refine k_loadb rfl hB h0 (Ty.shp rfl)|refine k_loadb rfl hB h64 (Ty.shp rfl)|refine Run_pev rfl) rfl ?_))
 refine WL_s (S_call ((firstback_spec (l:=l.getD 0 0) (q:=l.getD 64 0))) rfl rfl ?_)
 rintro _ _ ⟨rfl,rfl⟩
 repeat (first|refine WL_nil ?_|refine lp rfl rfl ?_)
 exact WS_ret1 Tryz.func170 rfl ⟨rfl,hH.ext⟩
theorem paway_spec {a b:Int} {w:World} (ha:0≤a∧a≤1000000) (hb:0≤b∧b≤1000000):Does Tryz.prog 171 #[.int .i64 a,.int .i64 b] w fun v w'=>v=.int .i64 (max (a-b) (b-a))∧w'=w:=by
 refine Does_of (args:=[_,_]) Tryz.func171 rfl rfl Tryz.ntmps171 rfl ?_
 repeat (first|refine WS_seq ?_|refine WS_region ?_|refine WL_nil ?_|(refine WL_r (by first|refine Run_pev rfl|refine k_sub64 rfl rfl (by omega)|refine k_max rfl rfl) rfl ?_))
 exact WS_ret1 Tryz.func171 rfl ⟨rfl,rfl⟩
def mix {α:Type} (z l:List α) (k:Nat):List α:=z.take k++l.drop k
section
variable {α:Type} {z l:List α} {k n:Nat}
theorem mix_len (hz:z.length=n) (hl:l.length=n) (h:k≤n):(mix z l k).length=n:=by
 simp [mix,hz,hl];omega
theorem mix_0:mix z l 0=l:=by simp [mix]
theorem mix_n (hz:z.length=n) (hl:l.length=n):mix z l n=z:=by
 rw [mix,List.take_of_length_le (by omega),List.drop_of_length_le (by omega),List.append_nil]
theorem mix_at (hz:z.length=n) (h:k<n):(mix z l k)[k]?=l[k]?:=by
 rw [mix,List.getElem?_append_right (by simp;omega),List.getElem?_drop]
 simp [hz,Nat.min_eq_left (Nat.le_of_lt h)]
theorem mix_set {v:α} (hz:z.length=n) (hl:l.length=n) (h:k<n) (hv:z[k]?=some v):(mix z l k).set k v=mix z l (k+1):=by
 rw [mix,mix,List.set_append_right _ _ (by simp;omega),List.length_take,hz,Nat.min_eq_left (Nat.le_of_lt h),Nat.sub_self,List.drop_eq_getElem_cons (l:=l) (by omega),List.set_cons_zero,List.take_add_one,hv,List.append_assoc]
 rfl
end
section
variable {B:Int} {b m1 m2 m3 c r mb k:Nat} {w:World}
set_option maxRecDepth 20000 in
set_option maxHeartbeats 4000000 in
theorem pexp_spec {q:Int} (hB0:0≤B) (hc:c≤8) (hr:r≤8) (hmb:mb<c*r) (hk:k<6) (hR:(RT B b m1 m2 m3 c r).holds w) :
  Does Tryz.prog 136 #[.pointer (some ⟨b,0,none⟩),.int .i64 mb,.int .i64 k,.int .i64 q] w fun v w'=>∃ (f:Nat) (n:Int),f<3∧(0≤n∧n≤127)∧v=.tuple #[.int .u8 f,.int .i64 n]∧Ext [] w w':=by
 refine Does_of (args:=[_,_,_,_]) Tryz.func136 rfl rfl Tryz.ntmps136 rfl ?_
 have hH:=Hp.start w
 repeat (first|refine WS_seq ?_|refine WS_region ?_|refine WL_nil ?_|refine lp rfl rfl ?_)
 refine WL_s (S_call ((pinside_spec hc hr hmb hk hR)) rfl rfl ?_)
 rintro _ _ ⟨rfl,hE0⟩
 replace hH:=hH.ext0 hE0
 clear hE0
 replace hH:=nn0 hH
 repeat (first|refine WS_seq ?_|refine WS_region ?_|refine WL_nil ?_|refine WS_skip ?_|refine WS_false rfl ?_|refine lp rfl rfl ?_)
 refine WL_s (S_call ((pplace_spec hc hr hmb hk ((RT B b m1 m2 m3 c r).keep hR hH.ext (by simp)))) rfl rfl ?_)
 rintro _ _ ⟨⟨p,W,X,Y,hp,hW,hX,hY,rfl⟩,hE0⟩
 replace hH:=hH.ext0 hE0
 clear hE0
 replace hH:=nn0 hH
 repeat (first|refine WS_seq ?_|refine WS_region ?_|refine WL_nil ?_|(refine WL_r (by first|refine Run_pev rfl|refine k_sub64 rfl rfl (by omega)|refine k_extract rfl rfl) rfl ?_))
 refine WL_s (S_call ((pat_spec hB0 hp (W:=W) (x:=((X:Int)-1)) (y:=Y) (by omega) (by omega) (by omega) ((RT B b m1 m2 m3 c r).keep hR hH.ext (by simp)))) rfl rfl ?_)
 rintro _ _ ⟨l1,o1,hk1,rfl,hE0⟩
 replace hH:=hH.ext0 hE0
 clear hE0
 replace hH:=nn0 hH
 have hl1:=hk1.1
 repeat ((refine WL_r (by first|refine Run_pev rfl|refine k_extract rfl rfl) rfl ?_))
 refine WL_s (H_alloc hH (Ty.zer rfl) rfl ?_)
 try clear hH
 intro _ b1 hH
 replace hH:=nn1 hH
 refine WL_s (H_storeA 0 (vs:=(l1.map (Value.int .i64)).toArray) (s:=65) hH rfl rfl rfl (by simp [hl1]) (by rfl) (by exact ints_one) (Ty.shp rfl) ?_)
 try clear hH
 intro _ hH
 replace hH:=nn1 hH
 clear hl1
 repeat (first|refine WS_seq ?_|refine WS_region ?_|refine WL_nil ?_|(refine WL_r (by first|refine Run_pev rfl|refine k_sub64 rfl rfl (by omega)) rfl ?_))
 refine WL_s (S_call ((pat_spec hB0 hp (W:=W) (x:=X) (y:=((Y:Int)-1)) (by omega) (by omega) (by omega) ((RT B b m1 m2 m3 c r).keep hR hH.ext (by simp)))) rfl rfl ?_)
 rintro _ _ ⟨l2,o2,hk2,rfl,hE0⟩
 replace hH:=hH.ext0 hE0
 clear hE0
 replace hH:=nn1 hH
 have hl1:=hk2.1
 repeat ((refine WL_r (by first|refine Run_pev rfl|refine k_extract rfl rfl) rfl ?_))
 refine WL_s (H_alloc hH (Ty.zer rfl) rfl ?_)
 try clear hH
 intro _ b2 hH
 replace hH:=nn2 hH
 refine WL_s (H_storeA 1 (vs:=(l2.map (Value.int .i64)).toArray) (s:=65) hH rfl rfl rfl (by simp [hl1]) (by rfl) (by exact ints_one) (Ty.shp rfl) ?_)
 try clear hH
 intro _ hH
 replace hH:=nn2 hH
 clear hl1
 repeat (first|refine WS_seq ?_|refine WS_region ?_|refine WL_nil ?_|(refine WL_r (by first|refine Run_pev rfl|refine k_sub64 rfl rfl (by omega)) rfl ?_))
 refine WL_s (S_call ((pat_spec hB0 hp (W:=W) (x:=((X:Int)-1)) (y:=((Y:Int)-1)) (by omega) (by omega) (by omega) ((RT B b m1 m2 m3 c r).keep hR hH.ext (by simp)))) rfl rfl ?_)
 rintro _ _ ⟨l3,o3,hk3,rfl,hE0⟩
 replace hH:=hH.ext0 hE0
 clear hE0
 replace hH:=nn2 hH
 have hl1:=hk3.1
 repeat ((refine WL_r (by first|refine Run_pev rfl|refine k_extract rfl rfl) rfl ?_))
 refine WL_s (H_alloc hH (Ty.zer rfl) rfl ?_)
 try clear hH
 intro _ b3 hH
 replace hH:=nn3 hH
 refine WL_s (H_storeA 2 (vs:=(l3.map (Value.int .i64)).toArray) (s:=65) hH rfl rfl rfl (by simp [hl1]) (by rfl) (by exact ints_one) (Ty.shp rfl) ?_)
 try clear hH
 intro _ hH
 replace hH:=nn3 hH
 clear hl1
 cases o1
 ·cases o2
  ·repeat (first|refine WS_seq ?_|refine WS_region ?_|refine WL_nil ?_|refine WS_block ?_|refine WS_inBlock ?_|refine WS_skip ?_|refine WS_false rfl ?_|refine WL_gno rfl rfl rfl rfl rfl ?_|refine lp rfl rfl ?_)
   refine WL_s (S_call ((firstlevel_spec (n:=8192) (q:=q) (by decide))) rfl rfl ?_)
   rintro _ _ ⟨rfl,rfl⟩
   repeat (first|refine WL_nil ?_|refine lp rfl rfl ?_)
   exact WS_ret2 Tryz.func136 rfl ⟨0,_,by decide,qfl_le _ _,rfl,hH.ext⟩
  ·skip
   have hB:=hH.b 1 rfl
   have hl:=hk2.1
   repeat (first|refine WS_seq ?_|refine WS_region ?_|refine WL_nil ?_|refine WS_block ?_|refine WS_inBlock ?_|refine WS_true rfl ?_|refine WS_false rfl ?_|refine WL_gno rfl rfl rfl rfl rfl ?_|(refine WL_r (by first|refine k_loadA rfl hB (by simp [hl]) (Ty.shp rfl)|refine Run_pev rfl) rfl ?_))
   refine WL_s (S_call ((pfirst_spec hl)) rfl rfl ?_)
   rintro _ _ ⟨rfl,hE0⟩
   replace hH:=hH.ext0 hE0
   clear hE0
   replace hH:=nn3 hH
   repeat (refine lp rfl rfl ?_)
   refine WL_s (S_call ((firstlevel_spec (n:=pF l2) (q:=q) (by have:=pF_le l2;omega))) rfl rfl ?_)
   rintro _ _ ⟨rfl,rfl⟩
   repeat (first|refine WL_nil ?_|refine lp rfl rfl ?_)
   exact WS_ret2 Tryz.func136 rfl ⟨2,_,by decide,qfl_le _ _,rfl,hH.ext⟩
 ·cases o2
  ·skip
   have hB:=hH.b 0 rfl
   have hl:=hk1.1
   repeat (first|refine WS_seq ?_|refine WS_region ?_|refine WL_nil ?_|refine WS_block ?_|refine WS_inBlock ?_|refine WS_true rfl ?_|refine WS_false rfl ?_|refine WL_gyes rfl rfl rfl ?_|(refine WL_r (by first|refine k_loadA rfl hB (by simp [hl]) (Ty.shp rfl)|refine Run_pev rfl) rfl ?_))
   refine WL_s (S_call ((pfirst_spec hl)) rfl rfl ?_)
   rintro _ _ ⟨rfl,hE0⟩
   replace hH:=hH.ext0 hE0
   clear hE0
   replace hH:=nn3 hH
   repeat (refine lp rfl rfl ?_)
   refine WL_s (S_call ((firstlevel_spec (n:=pF l1) (q:=q) (by have:=pF_le l1;omega))) rfl rfl ?_)
   rintro _ _ ⟨rfl,rfl⟩
   repeat (first|refine WL_nil ?_|refine lp rfl rfl ?_)
   exact WS_ret2 Tryz.func136 rfl ⟨1,_,by decide,qfl_le _ _,rfl,hH.ext⟩
  ·cases o3
   ·skip
    have hB1:=hH.b 0 rfl
    have hB2:=hH.b 1 rfl
    repeat (first|refine WS_seq ?_|refine WS_region ?_|refine WL_nil ?_|refine WS_block ?_|refine WS_skip ?_|refine WS_true rfl ?_|refine WS_false rfl ?_|refine WL_gyes rfl rfl rfl ?_|refine lp rfl rfl ?_)
    refine WS_specK [Is (.agg (l1.map (Value.int .i64)).toArray),Is (.int .i64 (pF l1)),Is (.int .i64 (8192)),Is (.int .i64 (max (pF l1-(8192)) ((8192)-pF l1))),Is (.int .i64 (8192)),Is (.agg (l2.map (Value.int .i64)).toArray),Is (.int .i64 (pF l2)),Is (.int .i64 (max ((8192)-pF l2) (pF l2-(8192)))),Is (.bool (decide (max (pF l1-(8192)) ((8192)-pF l1)<max ((8192)-pF l2) (pF l2-(8192)))))] Ty.mixed [(76766789545528952593842176,[],true),(75708979453366152065974272,[(0,77)],true),(75406747998462494772297728,[],true),(27654178123684642371403776,[(1,78),(2,79)],true),(55459471974821113389645824,[],true),(62713026892508888437882880,[],true),(48205917057133338341408768,[(5,82)],true),(19191697386382238148460544,[(4,81),(6,83)],true),(38534510500216304943759360,[(3,80),(7,84)],true)] 77220136727884438534356992 [(8,85)] (by kernel_rfl) (by kernel_rfl) (by kernel_rfl) (by kernel_rfl) (by kernel_rfl) ⟨Is.st,Is.st,Is.st,Is.st,Is.st,Is.st,Is.st,Is.st,Is.st,trivial⟩ ⟨⟨GOk.none,?_⟩,⟨GOk.none,?_⟩,⟨GOk.none,?_⟩,⟨GOk.none,?_⟩,⟨GOk.none,?_⟩,⟨GOk.none,?_⟩,⟨GOk.none,?_⟩,⟨GOk.none,?_⟩,⟨GOk.none,?_⟩,trivial⟩ ?_
    ·intro w'' hE''
     intro σ''
     exact sp_is (by refine k_loadA rfl (hB1.ext0 hE'') (by simp [hk1.1]) (Ty.shp rfl)) rfl
    ·intro w'' hE''
     rintro _ rfl
     intro σ''
     refine S_call (pfirst_spec hk1.1) rfl rfl ?_
     rintro v w3'' ⟨rfl,hE3''⟩
     exact ⟨hE3'',_,rfl,rfl⟩
    ·intro w'' hE''
     intro σ''
     exact sp_is (by refine Run_pev rfl) rfl
    ·intro w'' hE''
     rintro _ rfl
     rintro _ rfl
     intro σ''
     refine S_call (paway_spec (a:=pF l1) (b:=8192) (by have:=pF_le l1;omega) (by decide)) rfl rfl ?_
     rintro v w3'' ⟨rfl,rfl⟩
     exact ⟨.refl,_,rfl,rfl⟩
    ·intro w'' hE''
     intro σ''
     exact sp_is (by refine Run_pev rfl) rfl
    ·intro w'' hE''
     intro σ''
     exact sp_is (by refine k_loadA rfl (hB2.ext0 hE'') (by simp [hk2.1]) (Ty.shp rfl)) rfl
    ·intro w'' hE''
     rintro _ rfl
     intro σ''
     refine S_call (pfirst_spec hk2.1) rfl rfl ?_
     rintro v w3'' ⟨rfl,hE3''⟩
     exact ⟨hE3'',_,rfl,rfl⟩
    ·intro w'' hE''
     rintro _ rfl
     rintro _ rfl
     intro σ''
     refine S_call (paway_spec (a:=8192) (b:=pF l2) (by decide) (by have:=pF_le l2;omega)) rfl rfl ?_
     rintro v w3'' ⟨rfl,rfl⟩
     exact ⟨.refl,_,rfl,rfl⟩
    ·intro w'' hE''
     rintro _ rfl
     rintro _ rfl
     intro σ''
     exact sp_is (by refine Run_pev rfl) rfl
    intro w'' hE''
    rintro _ rfl
    intro σ''
    replace hH:=hH.ext0 hE''
    clear hB1 hB2 hE''
    replace hH:=nn3 hH
    by_cases hlt:max (pF l1-(8192)) ((8192)-pF l1)<max ((8192)-pF l2) (pF l2-(8192))
    ·skip
     have hB:=hH.b 1 rfl
     have hl:=hk2.1
     repeat (first|refine WS_seq ?_|refine WS_region ?_|refine WL_nil ?_|refine WS_block ?_|refine WS_inBlock ?_|refine WS_true rfl ?_|refine WS_false rfl ?_|refine WS_yes rfl (by omega) ?_|(refine WL_r (by first|refine k_loadA rfl hB (by simp [hl]) (Ty.shp rfl)|refine Run_pev rfl) rfl ?_))
     refine WL_s (S_call ((pfirst_spec hl)) rfl rfl ?_)
     rintro _ _ ⟨rfl,hE0⟩
     replace hH:=hH.ext0 hE0
     clear hE0
     replace hH:=nn3 hH
     repeat (refine lp rfl rfl ?_)
     refine WL_s (S_call ((firstlevel_spec (n:=pF l2) (q:=q) (by have:=pF_le l2;omega))) rfl rfl ?_)
     rintro _ _ ⟨rfl,rfl⟩
     repeat (first|refine WL_nil ?_|refine lp rfl rfl ?_)
     exact WS_ret2 Tryz.func136 rfl ⟨2,_,by decide,qfl_le _ _,rfl,hH.ext⟩
    ·skip
     have hB:=hH.b 0 rfl
     have hl:=hk1.1
     repeat (first|refine WS_seq ?_|refine WS_region ?_|refine WL_nil ?_|refine WS_block ?_|refine WS_inBlock ?_|refine WS_skip ?_|refine WS_true rfl ?_|refine WS_no rfl (by omega) ?_|(refine WL_r (by first|refine k_loadA rfl hB (by simp [hl]) (Ty.shp rfl)|refine Run_pev rfl) rfl ?_))
     refine WL_s (S_call ((pfirst_spec hl)) rfl rfl ?_)
     rintro _ _ ⟨rfl,hE0⟩
     replace hH:=hH.ext0 hE0
     clear hE0
     replace hH:=nn3 hH
     repeat (refine lp rfl rfl ?_)
     refine WL_s (S_call ((firstlevel_spec (n:=pF l1) (q:=q) (by have:=pF_le l1;omega))) rfl rfl ?_)
     rintro _ _ ⟨rfl,rfl⟩
     repeat (first|refine WL_nil ?_|refine lp rfl rfl ?_)
     exact WS_ret2 Tryz.func136 rfl ⟨1,_,by decide,qfl_le _ _,rfl,hH.ext⟩
   ·have hB:=hH.b 2 rfl
    have hl:=hk3.1
    repeat (first|refine WS_seq ?_|refine WS_region ?_|refine WL_nil ?_|refine WS_block ?_|refine WS_true rfl ?_|refine WL_gyes rfl rfl rfl ?_|(refine WL_r (by first|refine k_loadA rfl hB (by simp [hl]) (Ty.shp rfl)|refine Run_pev rfl) rfl ?_))
    refine WL_s (S_call ((pfirst_spec hl)) rfl rfl ?_)
    rintro _ _ ⟨rfl,hE0⟩
    replace hH:=hH.ext0 hE0
    clear hE0
    replace hH:=nn3 hH
    clear hB hl
    have hB1:=hH.b 0 rfl
    have hB2:=hH.b 1 rfl
    repeat (first|refine WS_seq ?_|refine WS_region ?_|refine WL_nil ?_|refine lp rfl rfl ?_)
    refine WS_specK [Is (.agg (l1.map (Value.int .i64)).toArray),Is (.int .i64 (pF l1)),Is (.int .i64 (pF l3)),Is (.int .i64 (max (pF l1-(pF l3)) ((pF l3)-pF l1))),Is (.int .i64 (pF l3)),Is (.agg (l2.map (Value.int .i64)).toArray),Is (.int .i64 (pF l2)),Is (.int .i64 (max ((pF l3)-pF l2) (pF l2-(pF l3)))),Is (.bool (decide (max (pF l1-(pF l3)) ((pF l3)-pF l1)<max ((pF l3)-pF l2) (pF l2-(pF l3)))))] Ty.mixed [(76766789545528952593842176,[],true),(75708979453366152065974272,[(0,77)],true),(75406747998462494772297728,[],true),(27654178123684642371403776,[(1,78),(2,79)],true),(55459471974821113389645824,[],true),(62713026892508888437882880,[],true),(48205917057133338341408768,[(5,82)],true),(19191697386382238148460544,[(4,81),(6,83)],true),(38534510500216304943759360,[(3,80),(7,84)],true)] 77220136727884438534356992 [(8,85)] (by kernel_rfl) (by kernel_rfl) (by kernel_rfl) (by kernel_rfl) (by kernel_rfl) ⟨Is.st,Is.st,Is.st,Is.st,Is.st,Is.st,Is.st,Is.st,Is.st,trivial⟩ ⟨⟨GOk.none,?_⟩,⟨GOk.none,?_⟩,⟨GOk.none,?_⟩,⟨GOk.none,?_⟩,⟨GOk.none,?_⟩,⟨GOk.none,?_⟩,⟨GOk.none,?_⟩,⟨GOk.none,?_⟩,⟨GOk.none,?_⟩,trivial⟩ ?_
    ·intro w'' hE''
     intro σ''
     exact sp_is (by refine k_loadA rfl (hB1.ext0 hE'') (by simp [hk1.1]) (Ty.shp rfl)) rfl
    ·intro w'' hE''
     rintro _ rfl
     intro σ''
     refine S_call (pfirst_spec hk1.1) rfl rfl ?_
     rintro v w3'' ⟨rfl,hE3''⟩
     exact ⟨hE3'',_,rfl,rfl⟩
    ·intro w'' hE''
     intro σ''
     exact sp_is (by refine Run_pev rfl) rfl
    ·intro w'' hE''
     rintro _ rfl
     rintro _ rfl
     intro σ''
     refine S_call (paway_spec (a:=pF l1) (b:=pF l3) (by have:=pF_le l1;omega) (by have:=pF_le l3;omega)) rfl rfl ?_
     rintro v w3'' ⟨rfl,rfl⟩
     exact ⟨.refl,_,rfl,rfl⟩
    ·intro w'' hE''
     intro σ''
     exact sp_is (by refine Run_pev rfl) rfl
    ·intro w'' hE''
     intro σ''
     exact sp_is (by refine k_loadA rfl (hB2.ext0 hE'') (by simp [hk2.1]) (Ty.shp rfl)) rfl
    ·intro w'' hE''
     rintro _ rfl
     intro σ''
     refine S_call (pfirst_spec hk2.1) rfl rfl ?_
     rintro v w3'' ⟨rfl,hE3''⟩
     exact ⟨hE3'',_,rfl,rfl⟩
    ·intro w'' hE''
     rintro _ rfl
     rintro _ rfl
     intro σ''
     refine S_call (paway_spec (a:=pF l3) (b:=pF l2) (by have:=pF_le l3;omega) (by have:=pF_le l2;omega)) rfl rfl ?_
     rintro v w3'' ⟨rfl,rfl⟩
     exact ⟨.refl,_,rfl,rfl⟩
    ·intro w'' hE''
     rintro _ rfl
     rintro _ rfl
     intro σ''
     exact sp_is (by refine Run_pev rfl) rfl
    intro w'' hE''
    rintro _ rfl
    intro σ''
    replace hH:=hH.ext0 hE''
    clear hB1 hB2 hE''
    replace hH:=nn3 hH
    by_cases hlt:max (pF l1-(pF l3)) ((pF l3)-pF l1)<max ((pF l3)-pF l2) (pF l2-(pF l3))
    ·skip
     have hB:=hH.b 1 rfl
     have hl:=hk2.1
     repeat (first|refine WS_seq ?_|refine WS_region ?_|refine WL_nil ?_|refine WS_block ?_|refine WS_inBlock ?_|refine WS_true rfl ?_|refine WS_false rfl ?_|refine WS_yes rfl (by omega) ?_|(refine WL_r (by first|refine k_loadA rfl hB (by simp [hl]) (Ty.shp rfl)|refine Run_pev rfl) rfl ?_))
     refine WL_s (S_call ((pfirst_spec hl)) rfl rfl ?_)
     rintro _ _ ⟨rfl,hE0⟩
     replace hH:=hH.ext0 hE0
     clear hE0
     replace hH:=nn3 hH
     repeat (refine lp rfl rfl ?_)
     refine WL_s (S_call ((firstlevel_spec (n:=pF l2) (q:=q) (by have:=pF_le l2;omega))) rfl rfl ?_)
     rintro _ _ ⟨rfl,rfl⟩
     repeat (first|refine WL_nil ?_|refine lp rfl rfl ?_)
     exact WS_ret2 Tryz.func136 rfl ⟨2,_,by decide,qfl_le _ _,rfl,hH.ext⟩
    ·skip
     have hB:=hH.b 0 rfl
     have hl:=hk1.1
     repeat (first|refine WS_seq ?_|refine WS_region ?_|refine WL_nil ?_|refine WS_block ?_|refine WS_inBlock ?_|refine WS_skip ?_|refine WS_true rfl ?_|refine WS_no rfl (by omega) ?_|(refine WL_r (by first|refine k_loadA rfl hB (by simp [hl]) (Ty.shp rfl)|refine Run_pev rfl) rfl ?_))
     refine WL_s (S_call ((pfirst_spec hl)) rfl rfl ?_)
     rintro _ _ ⟨rfl,hE0⟩
     replace hH:=hH.ext0 hE0
     clear hE0
     replace hH:=nn3 hH
     repeat (refine lp rfl rfl ?_)
     refine WL_s (S_call ((firstlevel_spec (n:=pF l1) (q:=q) (by have:=pF_le l1;omega))) rfl rfl ?_)
     rintro _ _ ⟨rfl,rfl⟩
     repeat (first|refine WL_nil ?_|refine lp rfl rfl ?_)
     exact WS_ret2 Tryz.func136 rfl ⟨1,_,by decide,qfl_le _ _,rfl,hH.ext⟩
set_option maxRecDepth 20000 in
set_option maxHeartbeats 4000000 in
theorem pedge_spec {q:Int} (hB0:0≤B) (hc:c≤8) (hr:r≤8) (hmb:mb<c*r) (hk:k<6) (hR:(RT B b m1 m2 m3 c r).holds w) :
  Does Tryz.prog 117 #[.pointer (some ⟨b,0,none⟩),.int .i64 mb,.int .i64 k,.int .i64 q] w fun v w'=>∃ u:List Int,u.length=64∧(∀ n∈u,-B≤n∧n≤B)∧v=.agg (u.map (Value.int .i64)).toArray∧Ext [] w w':=by
 refine Does_of (args:=[_,_,_,_]) Tryz.func117 rfl rfl Tryz.ntmps117 rfl ?_
 have hH:=Hp.start w
 repeat (first|refine WS_seq ?_|refine WS_region ?_)
 refine WL_s (H_alloc hH (Ty.zer rfl) rfl ?_)
 try clear hH
 intro _ b1 hH
 replace hH:=nn1 hH
 repeat (first|refine WS_seq ?_|refine WS_region ?_|refine WL_nil ?_)
 refine WL_s (H_alloc hH (Ty.zer rfl) rfl ?_)
 try clear hH
 intro _ b2 hH
 replace hH:=nn2 hH
 repeat (first|refine WS_seq ?_|refine WS_region ?_|refine WL_nil ?_|refine lp rfl rfl ?_)
 refine WL_s (S_call ((pexp_spec (q:=q) hB0 hc hr hmb hk ((RT B b m1 m2 m3 c r).keep hR hH.ext (by simp)))) rfl rfl ?_)
 rintro _ _ ⟨f,_,hf,_,rfl,hE0⟩
 replace hH:=hH.ext0 hE0
 clear hE0
 replace hH:=nn2 hH
 rcases (show f=0∨f=1∨f=2 by omega) with rfl|rfl|rfl
 ·have hB2:=hH.b 1 rfl
  repeat (first|refine WS_seq ?_|refine WS_region ?_|refine WL_nil ?_|refine WS_true rfl ?_|(refine WL_r (by first|refine k_loadA rfl hB2 (by simp) (Ty.shp rfl)|refine Run_pev rfl|refine k_extract rfl rfl) rfl ?_))
  refine WL_s (H_storeA 0 (vs:=((List.replicate 64 (0:Int)).map (Value.int .i64)).toArray) (s:=64) hH rfl rfl rfl (by rfl) (by rfl) (by exact ints_one) (Ty.shp rfl) ?_)
  try clear hH
  intro _ hH
  replace hH:=nn2 hH
  repeat (refine WL_nil ?_)
  exact WS_retc1 Tryz.func117 rfl rfl (hH.b 0 rfl) (by simp) (Ty.shp rfl) ⟨List.replicate 64 0,by simp,fun n hn=>by rw [List.eq_of_mem_replicate hn];omega,rfl,hH.ext⟩
 ·repeat (first|refine WS_seq ?_|refine WS_region ?_|refine WL_nil ?_|refine WS_skip ?_|refine WS_false rfl ?_|(refine WL_r (by first|refine Run_pev rfl|refine k_extract rfl rfl) rfl ?_))
  refine WL_s (S_call ((pplace_spec hc hr hmb hk ((RT B b m1 m2 m3 c r).keep hR hH.ext (by simp)))) rfl rfl ?_)
  rintro _ _ ⟨⟨p,W,X,Y,hp,hW,hX,hY,rfl⟩,hE0⟩
  replace hH:=hH.ext0 hE0
  clear hE0
  replace hH:=nn2 hH
  repeat (first|refine WS_seq ?_|refine WS_region ?_|refine WL_nil ?_|refine WS_false rfl ?_|(refine WL_r (by first|refine Run_pev rfl|refine k_sub64 rfl rfl (by omega)|refine k_extract rfl rfl) rfl ?_))
  refine WL_s (S_call ((pat_spec hB0 hp (W:=W) (x:=((X:Int)-1)) (y:=Y) (by omega) (by omega) (by omega) ((RT B b m1 m2 m3 c r).keep hR hH.ext (by simp)))) rfl rfl ?_)
  rintro _ _ ⟨l,o,hk1,rfl,hE0⟩
  replace hH:=hH.ext0 hE0
  clear hE0
  replace hH:=nn2 hH
  have hl1:=hk1.1
  repeat ((refine WL_r (by first|refine Run_pev rfl|refine k_extract rfl rfl) rfl ?_))
  refine WL_s (H_alloc hH (Ty.zer rfl) rfl ?_)
  try clear hH
  intro _ b3 hH
  replace hH:=nn3 hH
  refine WL_s (H_storeA 2 (vs:=(l.map (Value.int .i64)).toArray) (s:=65) hH rfl rfl rfl (by simp [hl1]) (by rfl) (by exact ints_one) (Ty.shp rfl) ?_)
  try clear hH
  intro _ hH
  replace hH:=nn3 hH
  have h64:=ints_get (l:=l) (i:=64) hl1 (by decide)
  have hB:=hH.b 2 rfl
  by_cases hq:l.getD 64 0=q
  ·repeat (first|refine WS_seq ?_|refine WS_region ?_|refine WL_nil ?_|refine WS_block ?_|refine WS_skip ?_|refine WS_false rfl ?_|(refine WL_r (by first|refine k_fa rfl (Ty.fld rfl rfl)|refine k_loadb rfl hB h64 (Ty.shp rfl)|refine (k_neq rfl rfl).is (bF (fun h=>h hq))|refine Run_pev rfl) rfl ?_))
   refine WS_loop (G:=(Nat) × (List Int)) (fun|(i,u)=>8-i) 18888313009973974532096 (fun|(i,u)=>[(19,.int .i64 i)]) (fun|(i,u),w'=>1≤i∧i≤8∧u.length=64∧(∀ n∈u,-B≤n∧n≤B)∧Hp [] w w' [Rb b1 94 ((List.replicate 64 (0:Int)).map (Value.int .i64)).toArray,Rb b2 94 (u.map (Value.int .i64)).toArray,Rb b3 238 (l.map (Value.int .i64)).toArray]) (1,List.replicate 64 0) ⟨rfl,trivial⟩ ⟨by omega,by omega,by simp,fun n hn=>by rw [List.eq_of_mem_replicate hn];omega,hH⟩ ?_
   rintro ⟨i,u⟩ w' σ ⟨hi1,hi,hul,hub,hH⟩ IH
   show WS _ _ _ _ _ (updL [(19,.int .i64 i)] _) _
   by_cases hlt:i<8
   ·have hx1:=ints_get (l:=l) (i:=i*8) hl1 (by omega)
    have hS:SlA w' (some ⟨b3,0,none⟩) (l.map (Value.int .i64)):=(hH.b 2 rfl).sl0
    have e8:(i:Int)*8=((i*8:Nat):Int):=by omega
    obtain ⟨n,hn'⟩:∃ n,l[i*8]?=some n:=⟨_,List.getElem?_eq_getElem (by omega)⟩
    have hn:(l.map (Value.int .i64))[i*8]?=some (.int .i64 n):=by rw [List.getElem?_map,hn'];rfl
    have hnb:=hk1.2 (i*8) n (by omega) (by omega) hn'
    repeat (first|refine WS_seq ?_|refine WS_region ?_|refine WL_nil ?_|refine WS_block ?_|refine WS_skip ?_|refine WS_yes rfl (by omega) ?_|(refine WL_r (by first|refine k_fa rfl (Ty.fld rfl rfl)|refine (k_mul64 (m:=i) (n:=8) rfl rfl (by omega)).is (congrArg (Value.int .i64) e8)|refine k_ixa1 rfl rfl (Ty.arr rfl) (by omega)|refine k_loads rfl hS hn (Ty.shp rfl)|refine Run_pev rfl) rfl ?_))
    refine WL_s (H_storeB 1 (v:=.int .i64 n) hH rfl rfl rfl (by simp;omega) rfl (Ty.shp rfl) ?_)
    try clear hH
    intro _ hH
    replace hH:=nn3 hH
    rw [← List.map_set] at hH
    repeat (first|refine WS_region ?_|refine WL_nil ?_|refine WS_inBlock ?_|(refine WL_r (by first|refine Run_pev rfl|refine k_add64 rfl rfl (by omega)) rfl ?_))
    refine IH (i+1,u.set (i*8) n) _ _ ?_ ?_ ?_ ?_
    ·simp only;omega
    ·exact ⟨rfl,trivial⟩
    ·repeat first|with_reducible apply Agr.refl|refine Agr.upd rfl ?_|refine Agr.updL rfl ?_|refine Agr.mrg rfl ?_
    ·exact ⟨by omega,by omega,by rw [List.length_set];exact hul,fun m hm=>(List.mem_or_eq_of_mem_set hm).elim (hub m) (fun e=>e▸hnb),hH⟩
   ·obtain rfl:i=8:=by omega
    have hB2:=hH.b 1 rfl
    repeat (first|refine WS_seq ?_|refine WS_region ?_|refine WL_nil ?_|refine WS_exit rfl ?_|refine WS_false rfl ?_|(refine WL_r (by first|refine k_loadA rfl hB2 (by simp [hul]) (Ty.shp rfl)|refine Run_pev rfl) rfl ?_))
    clear hl1
    have hl1:=hul
    refine WL_s (H_storeA 0 (vs:=(u.map (Value.int .i64)).toArray) (s:=64) hH rfl rfl rfl (by simp [hl1]) (by rfl) (by exact ints_one) (Ty.shp rfl) ?_)
    try clear hH
    intro _ hH
    replace hH:=nn3 hH
    repeat (refine WL_nil ?_)
    exact WS_retc1 Tryz.func117 rfl rfl (hH.b 0 rfl) (by simp [hul]) (Ty.shp rfl) ⟨u,hul,hub,rfl,hH.ext⟩
  ·have hB2:=hH.b 1 rfl
   repeat (first|refine WS_seq ?_|refine WS_region ?_|refine WL_nil ?_|refine WS_true rfl ?_|(refine WL_r (by first|refine k_fa rfl (Ty.fld rfl rfl)|refine k_loadb rfl hB h64 (Ty.shp rfl)|refine (k_neq rfl rfl).is (bT hq)|refine k_loadA rfl hB2 (by simp) (Ty.shp rfl)|refine Run_pev rfl) rfl ?_))
   refine WL_s (H_storeA 0 (vs:=((List.replicate 64 (0:Int)).map (Value.int .i64)).toArray) (s:=64) hH rfl rfl rfl (by rfl) (by rfl) (by exact ints_one) (Ty.shp rfl) ?_)
   try clear hH
   intro _ hH
   replace hH:=nn3 hH
   repeat (refine WL_nil ?_)
   exact WS_retc1 Tryz.func117 rfl rfl (hH.b 0 rfl) (by simp) (Ty.shp rfl) ⟨List.replicate 64 0,by simp,fun n hn=>by rw [List.eq_of_mem_replicate hn];omega,rfl,hH.ext⟩
 ·repeat (first|refine WS_seq ?_|refine WS_region ?_|refine WL_nil ?_|refine WS_skip ?_|refine WS_false rfl ?_|(refine WL_r (by first|refine Run_pev rfl|refine k_extract rfl rfl) rfl ?_))
  refine WL_s (S_call ((pplace_spec hc hr hmb hk ((RT B b m1 m2 m3 c r).keep hR hH.ext (by simp)))) rfl rfl ?_)
  rintro _ _ ⟨⟨p,W,X,Y,hp,hW,hX,hY,rfl⟩,hE0⟩
  replace hH:=hH.ext0 hE0
  clear hE0
  replace hH:=nn2 hH
  repeat (first|refine WS_seq ?_|refine WS_region ?_|refine WL_nil ?_|refine WS_true rfl ?_|(refine WL_r (by first|refine Run_pev rfl|refine k_sub64 rfl rfl (by omega)|refine k_extract rfl rfl) rfl ?_))
  refine WL_s (S_call ((pat_spec hB0 hp (W:=W) (x:=X) (y:=((Y:Int)-1)) (by omega) (by omega) (by omega) ((RT B b m1 m2 m3 c r).keep hR hH.ext (by simp)))) rfl rfl ?_)
  rintro _ _ ⟨l,o,hk1,rfl,hE0⟩
  replace hH:=hH.ext0 hE0
  clear hE0
  replace hH:=nn2 hH
  have hl1:=hk1.1
  repeat ((refine WL_r (by first|refine Run_pev rfl|refine k_extract rfl rfl) rfl ?_))
  refine WL_s (H_alloc hH (Ty.zer rfl) rfl ?_)
  try clear hH
  intro _ b3 hH
  replace hH:=nn3 hH
  refine WL_s (H_storeA 2 (vs:=(l.map (Value.int .i64)).toArray) (s:=65) hH rfl rfl rfl (by simp [hl1]) (by rfl) (by exact ints_one) (Ty.shp rfl) ?_)
  try clear hH
  intro _ hH
  replace hH:=nn3 hH
  have h64:=ints_get (l:=l) (i:=64) hl1 (by decide)
  have hB:=hH.b 2 rfl
  by_cases hq:l.getD 64 0=q
  ·repeat (first|refine WS_seq ?_|refine WS_region ?_|refine WL_nil ?_|refine WS_block ?_|refine WS_skip ?_|refine WS_false rfl ?_|(refine WL_r (by first|refine k_fa rfl (Ty.fld rfl rfl)|refine k_loadb rfl hB h64 (Ty.shp rfl)|refine (k_neq rfl rfl).is (bF (fun h=>h hq))|refine Run_pev rfl) rfl ?_))
   refine WS_loop (G:=(Nat) × (List Int)) (fun|(i,u)=>8-i) 18888313009973974532096 (fun|(i,u)=>[(19,.int .i64 i)]) (fun|(i,u),w'=>1≤i∧i≤8∧u.length=64∧(∀ n∈u,-B≤n∧n≤B)∧Hp [] w w' [Rb b1 94 ((List.replicate 64 (0:Int)).map (Value.int .i64)).toArray,Rb b2 94 (u.map (Value.int .i64)).toArray,Rb b3 238 (l.map (Value.int .i64)).toArray]) (1,List.replicate 64 0) ⟨rfl,trivial⟩ ⟨by omega,by omega,by simp,fun n hn=>by rw [List.eq_of_mem_replicate hn];omega,hH⟩ ?_
   rintro ⟨i,u⟩ w' σ ⟨hi1,hi,hul,hub,hH⟩ IH
   show WS _ _ _ _ _ (updL [(19,.int .i64 i)] _) _
   by_cases hlt:i<8
   ·have hx1:=ints_get (l:=l) (i:=i*1) hl1 (by omega)
    have hS:SlA w' (some ⟨b3,0,none⟩) (l.map (Value.int .i64)):=(hH.b 2 rfl).sl0
    have e8:(i:Int)*1=((i*1:Nat):Int):=by omega
    obtain ⟨n,hn'⟩:∃ n,l[i*1]?=some n:=⟨_,List.getElem?_eq_getElem (by omega)⟩
    have hn:(l.map (Value.int .i64))[i*1]?=some (.int .i64 n):=by rw [List.getElem?_map,hn'];rfl
    have hnb:=hk1.2 (i*1) n (by omega) (by omega) hn'
    repeat (first|refine WS_seq ?_|refine WS_region ?_|refine WL_nil ?_|refine WS_block ?_|refine WS_skip ?_|refine WS_yes rfl (by omega) ?_|(refine WL_r (by first|refine k_fa rfl (Ty.fld rfl rfl)|refine (k_mul64 (m:=i) (n:=1) rfl rfl (by omega)).is (congrArg (Value.int .i64) e8)|refine k_ixa1 rfl rfl (Ty.arr rfl) (by omega)|refine k_loads rfl hS hn (Ty.shp rfl)|refine Run_pev rfl) rfl ?_))
    refine WL_s (H_storeB 1 (v:=.int .i64 n) hH rfl rfl rfl (by simp;omega) rfl (Ty.shp rfl) ?_)
    try clear hH
    intro _ hH
    replace hH:=nn3 hH
    rw [← List.map_set] at hH
    repeat (first|refine WS_region ?_|refine WL_nil ?_|refine WS_inBlock ?_|(refine WL_r (by first|refine Run_pev rfl|refine k_add64 rfl rfl (by omega)) rfl ?_))
    refine IH (i+1,u.set (i*1) n) _ _ ?_ ?_ ?_ ?_
    ·simp only;omega
    ·exact ⟨rfl,trivial⟩
    ·repeat first|with_reducible apply Agr.refl|refine Agr.upd rfl ?_|refine Agr.updL rfl ?_|refine Agr.mrg rfl ?_
    ·exact ⟨by omega,by omega,by rw [List.length_set];exact hul,fun m hm=>(List.mem_or_eq_of_mem_set hm).elim (hub m) (fun e=>e▸hnb),hH⟩
   ·obtain rfl:i=8:=by omega
    have hB2:=hH.b 1 rfl
    repeat (first|refine WS_seq ?_|refine WS_region ?_|refine WL_nil ?_|refine WS_exit rfl ?_|refine WS_false rfl ?_|(refine WL_r (by first|refine k_loadA rfl hB2 (by simp [hul]) (Ty.shp rfl)|refine Run_pev rfl) rfl ?_))
    clear hl1
    have hl1:=hul
    refine WL_s (H_storeA 0 (vs:=(u.map (Value.int .i64)).toArray) (s:=64) hH rfl rfl rfl (by simp [hl1]) (by rfl) (by exact ints_one) (Ty.shp rfl) ?_)
    try clear hH
    intro _ hH
    replace hH:=nn3 hH
    repeat (refine WL_nil ?_)
    exact WS_retc1 Tryz.func117 rfl rfl (hH.b 0 rfl) (by simp [hul]) (Ty.shp rfl) ⟨u,hul,hub,rfl,hH.ext⟩
  ·have hB2:=hH.b 1 rfl
   repeat (first|refine WS_seq ?_|refine WS_region ?_|refine WL_nil ?_|refine WS_true rfl ?_|(refine WL_r (by first|refine k_fa rfl (Ty.fld rfl rfl)|refine k_loadb rfl hB h64 (Ty.shp rfl)|refine (k_neq rfl rfl).is (bT hq)|refine k_loadA rfl hB2 (by simp) (Ty.shp rfl)|refine Run_pev rfl) rfl ?_))
   refine WL_s (H_storeA 0 (vs:=((List.replicate 64 (0:Int)).map (Value.int .i64)).toArray) (s:=64) hH rfl rfl rfl (by rfl) (by rfl) (by exact ints_one) (Ty.shp rfl) ?_)
   try clear hH
   intro _ hH
   replace hH:=nn3 hH
   repeat (refine WL_nil ?_)
   exact WS_retc1 Tryz.func117 rfl rfl (hH.b 0 rfl) (by simp) (Ty.shp rfl) ⟨List.replicate 64 0,by simp,fun n hn=>by rw [List.eq_of_mem_replicate hn];omega,rfl,hH.ext⟩
set_option maxRecDepth 20000 in
set_option maxHeartbeats 4000000 in
theorem pless_spec {l e:List Int} {w:World} (hl:l.length=64) (he:e.length=64) (hb:∀ (i:Nat) (a d:Int),l[i]?=some a→e[i]?=some d→-2047≤a-d∧a-d≤2047) :
  Does Tryz.prog 116 #[.agg (l.map (Value.int .i64)).toArray,.agg (e.map (Value.int .i64)).toArray] w fun v w'=>v=.tuple #[.agg ((List.zipWith (· - ·) l e).map (Value.int .i64)).toArray,.bool true]∧Ext [] w w':=by
 refine Does_of (args:=[_,_]) Tryz.func116 rfl rfl Tryz.ntmps116 rfl ?_
 have hH:=Hp.start w
 repeat (first|refine WS_seq ?_|refine WS_region ?_)
 refine WL_s (H_box (cs:=(l.map (Value.int .i64)).toArray) hH rfl rfl rfl ?_)
 try clear hH
 intro _ b1 hH
 replace hH:=nn1 hH
 refine WL_s (H_box (cs:=(e.map (Value.int .i64)).toArray) hH rfl rfl rfl ?_)
 try clear hH
 intro _ b2 hH
 replace hH:=nn2 hH
 refine WL_s (H_alloc hH (Ty.zer rfl) rfl ?_)
 try clear hH
 intro _ b3 hH
 replace hH:=nn3 hH
 have hB:=hH.b 1 rfl
 repeat (first|refine WS_seq ?_|refine WS_region ?_|refine WL_nil ?_|refine WS_block ?_|(refine WL_r (by first|refine k_loadA rfl hB (by simp [he]) (Ty.shp rfl)|refine Run_pev rfl) rfl ?_))
 clear hB
 have hz:(List.zipWith (· - ·) l e).length=64:=by simp [hl,he]
 obtain ⟨z,hzz⟩:∃ z,List.zipWith (· - ·) l e=z:=⟨_,rfl⟩
 rw [hzz] at hz
 refine WS_loop (G:=(Nat)) (fun k=>64-k) 2147483360 (fun k=>[(9,.int .i64 k)]) (fun k w'=>k≤64∧Hp [] w w' [Rb b1 94 ((mix z l k).map (Value.int .i64)).toArray,Rb b2 94 (e.map (Value.int .i64)).toArray,Rb b3 94 ((List.replicate 64 (0:Int)).map (Value.int .i64)).toArray]) (0) ⟨rfl,trivial⟩ ⟨by omega,by rw [mix_0];exact hH⟩ ?_
 rintro k w' σ ⟨hk,hH⟩ IH
 show WS _ _ _ _ _ (updL [(9,.int .i64 k)] _) _
 have hml:=mix_len hz hl hk
 by_cases hlt:k<64
 ·obtain ⟨a,ha⟩:∃ a,l[k]?=some a:=⟨_,List.getElem?_eq_getElem (by omega)⟩
  obtain ⟨d,hd⟩:∃ d,e[k]?=some d:=⟨_,List.getElem?_eq_getElem (by omega)⟩
  have hzk:z[k]?=some (a-d):=by rw [← hzz,List.getElem?_zipWith,ha,hd]
  have hab:=hb k a d ha hd
  have hx1:(e.map (Value.int .i64)).toArray[k]?=some (.int .i64 d):=by simp [hd]
  have hx2:((mix z l k).map (Value.int .i64))[k]?=some (.int .i64 a):=by rw [List.getElem?_map,mix_at hz hlt,ha];rfl
  have hS:SlA w' (some ⟨b1,0,none⟩) ((mix z l k).map (Value.int .i64)):=(hH.b 0 rfl).sl0
  repeat (first|refine WS_seq ?_|refine WS_region ?_|refine WL_nil ?_|refine WS_block ?_|refine WS_skip ?_|refine WS_yes rfl (by omega) ?_|(refine WL_r (by first|refine k_index1 rfl rfl (Ty.arr rfl) (by omega) hx1|refine k_ixa1 rfl rfl (Ty.arr rfl) (by omega)|refine k_loads rfl hS hx2 (Ty.shp rfl)|refine Run_pev rfl|refine k_sub64 rfl rfl (by omega)) rfl ?_))
  clear hS
  refine WL_s (H_storeB 0 (v:=.int .i64 (a-d)) hH rfl rfl rfl (by simp [hml];omega) rfl (Ty.shp rfl) ?_)
  try clear hH
  intro _ hH
  replace hH:=nn3 hH
  rw [← List.map_set,Int.toNat_natCast,mix_set hz hl hlt hzk] at hH
  have hx3:((mix z l (k+1)).map (Value.int .i64))[k]?=some (.int .i64 (a-d)):=by rw [← mix_set hz hl hlt hzk,List.getElem?_map,List.getElem?_set_self (by omega)];rfl
  have hS:SlA _ (some ⟨b1,0,none⟩) ((mix z l (k+1)).map (Value.int .i64)):=(hH.b 0 rfl).sl0
  repeat (first|refine WS_seq ?_|refine WS_region ?_|refine WL_nil ?_|refine WS_inBlock ?_|refine WS_skip ?_|refine WS_no rfl (by omega) ?_|refine WL_gyes rfl rfl (dF (by omega)) ?_|(refine WL_r (by first|refine k_ixa1 rfl rfl (Ty.arr rfl) (by omega)|refine k_loads rfl hS hx3 (Ty.shp rfl)|refine Run_pev rfl|refine k_add64 rfl rfl (by omega)|refine k_pick_f (dF (by omega)) rfl) rfl ?_))
  refine IH (k+1) _ _ ?_ ?_ ?_ ?_
  ·omega
  ·exact ⟨rfl,trivial⟩
  ·repeat first|with_reducible apply Agr.refl|refine Agr.upd rfl ?_|refine Agr.updL rfl ?_|refine Agr.mrg rfl ?_
  ·exact ⟨by omega,hH⟩
 ·obtain rfl:k=64:=by omega
  rw [mix_n hz hl] at hH
  have hB:=hH.b 0 rfl
  repeat (first|refine WS_seq ?_|refine WS_region ?_|refine WL_nil ?_|refine WS_exit rfl ?_|refine WS_false rfl ?_|(refine WL_r (by first|refine k_loadA rfl hB (by simp [hz]) (Ty.shp rfl)|refine Run_pev rfl) rfl ?_))
  have hl1:=hz
  refine WL_s (H_storeA 2 (vs:=(z.map (Value.int .i64)).toArray) (s:=64) hH rfl rfl rfl (by simp [hl1]) (by rfl) (by exact ints_one) (Ty.shp rfl) ?_)
  try clear hH
  intro _ hH
  replace hH:=nn3 hH
  repeat (first|refine WL_nil ?_|refine lp rfl rfl ?_)
  exact WS_retc2 Tryz.func116 rfl rfl (hH.b 2 rfl) (by simp [hz]) (Ty.shp rfl) ⟨by rw [hzz];rfl,hH.ext⟩
end
end Go.Proofs.YtpbiicegmcpkpaaGreat
