/- A part of the proof that TopWorse is true at every input; no condition. -/
import Derived.Test.YtpbiicegmcpkpaaGreatT16
namespace Go.Proofs.YtpbiicegmcpkpaaGreat
open Go Go.K Go.P Go.RowKit Go.Proofs
theorem k_csub {P:Program} {ρ:Fr} {w:World} {dst:Option Nat} {ty t u:TypeId} {pos:String} {af:Array Edge} {gd:Option (Nat × Bool)} {x y:Operand} {a b c d r i:Nat} (hx:ev ρ x=.complex .f64 a b) (hy:ev ρ y=.complex .f64 c d) (h1:FloatKind.f64.format.sub a c=some r) (h2:FloatKind.f64.format.sub b d=some i):Run P ρ ⟨dst,.binOp .sub t x y u,ty,pos,af,gd⟩ w (.complex .f64 r i) w :=
 k_bin hx hy (eqGuard_other rfl) (by simp [binOp,Op.complexOp,Op.Complex.arith,Op.floatArith,h1,h2])
theorem k_csubP {P:Program} {ρ:Fr} {w:World} {dst:Option Nat} {ty t u:TypeId} {pos:String} {af:Array Edge} {gd:Option (Nat × Bool)} {x y:Operand} {a b r:PF} (hx:ev ρ x=.complex .f64 a.1 a.2) (hy:ev ρ y=.complex .f64 b.1 b.2) (h:psub a b=some r):Run P ρ ⟨dst,.binOp .sub t x y u,ty,pos,af,gd⟩ w (.complex .f64 r.1 r.2) w:=by
 unfold psub at h
 split at h
 ·rename_i h1 h2
  obtain rfl:=Option.some.inj h
  exact k_csub hx hy h1 h2
 ·cases h
theorem k_caddP {P:Program} {ρ:Fr} {w:World} {dst:Option Nat} {ty t u:TypeId} {pos:String} {af:Array Edge} {gd:Option (Nat × Bool)} {x y:Operand} {a b r:PF} (hx:ev ρ x=.complex .f64 a.1 a.2) (hy:ev ρ y=.complex .f64 b.1 b.2) (h:padd a b=some r):Run P ρ ⟨dst,.binOp .add t x y u,ty,pos,af,gd⟩ w (.complex .f64 r.1 r.2) w:=by
 unfold padd at h
 split at h
 ·rename_i h1 h2
  obtain rfl:=Option.some.inj h
  exact k_cadd hx hy h1 h2
 ·cases h
abbrev PV (p:PF):Value:=.complex .f64 p.1 p.2
abbrev pcs (v:List PF):List Value:=v.map PV
theorem pcs_at {v:List PF} {i:Nat} (h:i<v.length):(pcs v)[i]?=some (PV (v.getD i (0,0))):=by
 simp [List.getD_eq_getElem?_getD,List.getElem?_eq_getElem h]
theorem pcs_one {v:List PF}:∀ u∈(pcs v).toArray.toList,u.oneCell'=true:=by
 intro u hu
 simp at hu
 obtain ⟨a,b,_,rfl⟩:=hu
 rfl
abbrev hordV:List Value:=[.int .i64 0,.int .i64 4,.int .i64 6,.int .i64 2,.int .i64 3,.int .i64 7,.int .i64 5,.int .i64 1]
set_option maxRecDepth 20000 in
set_option maxHeartbeats 4000000 in
theorem horder_spec {w:World}:Does Tryz.prog 186 #[] w fun v w'=>v=.agg hordV.toArray∧Ext [] w w':=by
 refine Does_of (args:=[]) Tryz.func186 rfl rfl Tryz.ntmps186 rfl ?_
 have hH:=Hp.start w
 repeat (first|refine WS_seq ?_|refine WS_region ?_)
 refine WL_s (H_alloc hH (Ty.zer rfl) rfl ?_)
 try clear hH
 intro w1 b1 hH
 replace hH:=nn1 hH
 repeat (first|refine WS_seq ?_|refine WS_region ?_|refine WL_nil ?_|(refine WL_r (by refine k_buildA (cs:=hordV) (Ty.zer rfl) (Ty.arr rfl) rfl) rfl ?_))
 refine WL_s (H_storeA 0 (vs:=hordV.toArray) (s:=8) hH rfl rfl rfl rfl rfl (by decide) (Ty.shp rfl) ?_)
 clear hH
 intro w2 hH
 replace hH:=nn1 hH
 repeat (refine WL_nil ?_)
 exact WS_retc1 Tryz.func186 rfl rfl (hH.b 0 rfl) rfl (Ty.shp rfl) ⟨rfl,hH.ext⟩
theorem take_set_next {α β:Type} {t:List β} {l:List α} {f:α→β} {k:Nat} {o:α} (h:t.take k=(l.take k).map f) (ho:l[k]?=some o) (hk:k<t.length):(t.set k (f o)).take (k+1)=(l.take (k+1)).map f:=by
 have hl:=(List.getElem?_eq_some_iff.1 ho).1
 rw [List.take_add_one,List.take_add_one,List.map_append,List.take_set_of_le (Nat.le_refl k),h,List.getElem?_set_self hk,ho]
 rfl
theorem hord_at:∀ k,k<8→∃ o,horder[k]?=some o∧o<8∧hordV.toArray[k]?=some (.int .i64 (o:Nat))
 | 0,_=>⟨0,rfl,by omega,rfl⟩|1,_=>⟨4,rfl,by omega,rfl⟩|2,_=>⟨6,rfl,by omega,rfl⟩|3,_=>⟨2,rfl,by omega,rfl⟩
 | 4,_=>⟨3,rfl,by omega,rfl⟩|5,_=>⟨7,rfl,by omega,rfl⟩|6,_=>⟨5,rfl,by omega,rfl⟩|7,_=>⟨1,rfl,by omega,rfl⟩
 | k+8,h=>absurd h (by omega)
theorem and_lt:∀ n,n<3→∀ i,i<8→i &&& 2 ^ n=0→i+2 ^ n<8:=by decide
theorem p2_lt:∀ n,n<3→2 ^ n<8:=by decide
set_option maxRecDepth 20000 in
set_option maxHeartbeats 4000000 in
theorem eight_spec {v u:List PF} {w:World} (hl:v.length=8) (h:height v=some u) :
  Does Tryz.prog 183 #[.agg (pcs v).toArray] w fun r w'=>r=.agg (pcs u).toArray∧Ext [] w w':=by
 refine Does_of (args:=[_]) Tryz.func183 rfl rfl Tryz.ntmps183 rfl ?_
 obtain ⟨z,hz,hzu⟩:=Option.map_eq_some_iff.1 h
 have hzl:z.length=8:=(hall_len hz).trans hl
 have hH:=Hp.start w
 repeat (first|refine WS_seq ?_|refine WS_region ?_)
 refine WL_s (H_box (cs:=(pcs v).toArray) hH rfl rfl rfl ?_)
 try clear hH
 intro w1 b1 hH
 replace hH:=nn1 hH
 refine WL_s (H_alloc hH (Ty.zer rfl) rfl ?_)
 try clear hH
 intro w2 b2 hH
 replace hH:=nn2 hH
 repeat (first|refine WS_seq ?_|refine WS_region ?_|refine WL_nil ?_|refine WS_block ?_|refine lp rfl rfl ?_)
 refine WS_loop (G:=(Nat) × (List PF)) (fun|(n,x)=>3-n) 4398046510200 (fun|(n,x)=>[(3,.int .i64 ((2 ^ n:Nat):Int))]) (fun|(n,x),w'=>n≤3∧hall v n=some x∧Hp [] w w' [Rb b1 301 (pcs x).toArray,Rb b2 301 (pcs (List.replicate 8 (0,0))).toArray]) (0,v) ⟨rfl,trivial⟩ ⟨by omega,rfl,hH⟩ ?_
 rintro ⟨n,x⟩ w' σ ⟨hn,hx,hH⟩ IH
 show WS _ _ _ _ _ (updL [(3,.int .i64 ((2 ^ n:Nat):Int))] _) _
 have hxl:x.length=8:=(hall_len hx).trans hl
 by_cases hlt:n<3
 ·obtain ⟨y,hy,hyn⟩:=hall_next hz hlt hx
  have hp:=p2_lt n hlt
  have hal:=and_lt n hlt
  have hdb:((2 ^ n:Nat):Int)*2=((2 ^ (n+1):Nat):Int):=by rw [Nat.pow_succ];omega
  obtain ⟨hh,hhe⟩:∃ hh,2 ^ n=hh:=⟨_,rfl⟩
  rw [hhe] at hy hp hal hdb ⊢
  repeat (first|refine WS_seq ?_|refine WS_region ?_|refine WL_nil ?_|refine WS_block ?_|refine WS_skip ?_|refine WS_yes rfl (by omega) ?_|refine lp rfl rfl ?_)
  have IH0:=IH
  clear IH
  refine WS_loop (G:=(Nat) × (List PF)) (fun|(i,t)=>8-i) 4398046494832 (fun|(i,t)=>[(14,.int .i64 i)]) (fun|(i,t),w'=>i≤8∧hrow hh x i=some t∧Hp [] w w' [Rb b1 301 (pcs t).toArray,Rb b2 301 (pcs (List.replicate 8 (0,0))).toArray]) (0,x) ⟨rfl,trivial⟩ ⟨by omega,rfl,hH⟩ ?_
  rintro ⟨i,t⟩ w' σ ⟨hi,ht,hH⟩ IH
  show WS _ _ _ _ _ (updL [(14,.int .i64 i)] _) _
  have htl:t.length=8:=(hrow_len ht).trans hxl
  by_cases hlt8:i<8
  ·obtain ⟨s,hs,hsn⟩:=hrow_next hy hlt8 ht
   repeat (first|refine WS_seq ?_|refine WS_region ?_|refine WL_nil ?_|refine WS_block ?_|refine WS_skip ?_|refine WS_yes rfl (by omega) ?_|(refine WL_r (by first|refine k_and rfl rfl (fiti (by omega)) (fiti (by omega))|refine Run_pev rfl) rfl ?_))
   refine WS_ite rfl (fun h0=>?_) (fun h0=>?_)
   ·have h0':i &&& hh=0:=Int.ofNat.inj h0
    have hih:=hal i hlt8 h0'
    unfold hst at hs
    rw [if_pos h0'] at hs
    split at hs
    case h_2=>cases hs
    rename_i a b ha hb
    obtain rfl:=Option.some.inj hs
    have hB:SlA w' (some ⟨b1,0,none⟩) (pcs t):=(hH.b 0 rfl).sl0
    have hi1:=pcs_at (v:=t) (i:=i) (by omega)
    have hi2:=pcs_at (v:=t) (i:=i+hh) (by omega)
    repeat (refine WS_seq ?_)
    refine WS_drawE Ty.mixed 10 rfl (fun w1 hx1=>?_)
    refine wp 0 hx1 rfl rfl rfl rfl ?_
    refine wt 1 hx1 rfl rfl rfl (fun w' hw'=>by refine k_ixa1 rfl rfl (Ty.arr rfl) (by omega)) ?_
    refine wt 2 hx1 rfl rfl rfl (fun w' hw'=>by refine k_loads rfl (hB.ext0 hw') hi1 (Ty.shp rfl)) ?_
    refine wp 3 hx1 rfl rfl rfl rfl ?_
    refine wp 4 hx1 rfl rfl rfl rfl ?_
    refine wt 5 hx1 rfl rfl rfl (fun w' hw'=>by refine k_add64 rfl rfl (by omega)) ?_
    refine wt 6 hx1 rfl rfl rfl (fun w' hw'=>by refine k_ixa1 rfl rfl (Ty.arr rfl) (by omega)) ?_
    refine wt 7 hx1 rfl rfl rfl (fun w' hw'=>by refine k_loads rfl (hB.ext0 hw') hi2 (Ty.shp rfl)) ?_
    refine wp 8 hx1 rfl rfl rfl rfl ?_
    refine wp 9 hx1 rfl rfl rfl rfl ?_
    refine WA_done (by kernel_rfl) ?_
    replace hH:=hH.ext0 hx1
    repeat (first|refine WS_region ?_|(refine WL_r (by first|refine k_caddP rfl rfl ha|refine k_csubP rfl rfl hb|refine k_ixa1 rfl rfl (Ty.arr rfl) (by omega)|refine Run_pev rfl|refine k_add64 rfl rfl (by omega)) rfl ?_))
    refine WL_s (H_storeB 0 (v:=PV a) hH rfl rfl rfl (by simp;omega) rfl (Ty.shp rfl) ?_)
    clear hH
    intro w4 hH
    replace hH:=nn2 hH
    repeat ((refine WL_r (by refine k_ixa1 rfl rfl (Ty.arr rfl) (by omega)) rfl ?_))
    refine WL_s (H_storeB 0 (v:=PV b) hH rfl rfl rfl (by simp;omega) rfl (Ty.shp rfl) ?_)
    clear hH
    intro w5 hH
    replace hH:=nn2 hH
    rw [← List.map_set,← List.map_set] at hH
    repeat (first|refine WS_region ?_|refine WL_nil ?_|refine WS_inBlock ?_|(refine WL_r (by first|refine Run_pev rfl|refine k_add64 rfl rfl (by omega)) rfl ?_))
    refine IH (i+1,(t.set i a).set (i+hh) b) _ _ ?_ ?_ ?_ ?_
    ·simp only;omega
    ·exact ⟨rfl,trivial⟩
    ·repeat first|with_reducible apply Agr.refl|refine Agr.upd rfl ?_|refine Agr.updL rfl ?_|refine Agr.mrg rfl ?_
    ·exact ⟨by omega,hsn,hH⟩
   ·have h0':¬ (i &&& hh=0):=fun h=>h0 (by rw [h];rfl)
    unfold hst at hs
    rw [if_neg h0'] at hs
    obtain rfl:=Option.some.inj hs
    repeat (first|refine WS_region ?_|refine WL_nil ?_|refine WS_inBlock ?_|refine WS_skip ?_|(refine WL_r (by first|refine Run_pev rfl|refine k_add64 rfl rfl (by omega)) rfl ?_))
    refine IH (i+1,t) _ _ ?_ ?_ ?_ ?_
    ·simp only;omega
    ·exact ⟨rfl,trivial⟩
    ·repeat first|with_reducible apply Agr.refl|refine Agr.upd rfl ?_|refine Agr.updL rfl ?_|refine Agr.mrg rfl ?_
    ·exact ⟨by omega,hsn,hH⟩
  ·obtain rfl:i=8:=by omega
   obtain rfl:y=t:=by rw [ht] at hy;exact (Option.some.inj hy).symm
   repeat (first|refine WS_seq ?_|refine WS_region ?_|refine WL_nil ?_|refine WS_inBlock ?_|refine WS_exit rfl ?_|refine WS_false rfl ?_|(refine WL_r (by first|refine Run_pev rfl|refine k_mul64 rfl rfl (by omega)) rfl ?_))
   refine IH0 (n+1,y) _ _ ?_ ?_ ?_ ?_
   ·simp only;omega
   ·exact ⟨congrArg (Value.int .i64) hdb,trivial⟩
   ·repeat first|with_reducible apply Agr.refl|refine Agr.upd rfl ?_|refine Agr.updL rfl ?_|refine Agr.mrg rfl ?_
   ·exact ⟨by omega,hyn,hH⟩
 ·obtain rfl:n=3:=by omega
  obtain rfl:z=x:=by rw [hx] at hz;exact (Option.some.inj hz).symm
  repeat (first|refine WS_seq ?_|refine WS_region ?_|refine WL_nil ?_|refine WS_exit rfl ?_|refine WS_false rfl ?_|refine lp rfl rfl ?_)
  refine WL_s (H_alloc hH (Ty.zer rfl) rfl ?_)
  try clear hH
  intro w3 b7 hH
  replace hH:=nn3 hH
  repeat (first|refine WS_seq ?_|refine WS_region ?_|refine WL_nil ?_)
  refine WL_s (S_call (horder_spec) rfl rfl ?_)
  rintro _ w4 ⟨rfl,hE⟩
  replace hH:=hH.ext0 hE
  replace hH:=nn3 hH
  repeat (first|refine WL_nil ?_|refine WS_block ?_|refine lp rfl rfl ?_)
  refine WS_loop (G:=(Nat) × (List PF)) (fun|(k,t)=>8-k) 8998403161719552 (fun|(k,t)=>[(43,.int .i64 k)]) (fun|(k,t),w'=>k≤8∧t.length=8∧t.take k=(horder.take k).map (fun k=>z.getD k (0,0))∧Hp [] w w' [Rb b1 301 (pcs z).toArray,Rb b2 301 (pcs (List.replicate 8 (0,0))).toArray,Rb b7 301 (pcs t).toArray]) (0,List.replicate 8 (0,0)) ⟨rfl,trivial⟩ ⟨by omega,rfl,rfl,hH⟩ ?_
  rintro ⟨k,t⟩ w' σ ⟨hk,htl,ht,hH⟩ IH
  show WS _ _ _ _ _ (updL [(43,.int .i64 k)] _) _
  by_cases hlt8:k<8
  ·obtain ⟨o,ho,ho8,hx1⟩:=hord_at k hlt8
   have hi1:=pcs_at (v:=z) (i:=o) (by omega)
   have hB:SlA w' (some ⟨b1,0,none⟩) (pcs z):=(hH.b 0 rfl).sl0
   repeat (first|refine WS_seq ?_|refine WS_region ?_|refine WL_nil ?_|refine WS_block ?_|refine WS_skip ?_|refine WS_yes rfl (by omega) ?_|(refine WL_r (by first|refine k_index1 rfl rfl (Ty.arr rfl) (by omega) hx1|refine k_ixa1 rfl rfl (Ty.arr rfl) (by omega)|refine k_loads rfl hB hi1 (Ty.shp rfl)|refine Run_pev rfl) rfl ?_))
   refine WL_s (H_storeB 2 (v:=PV (z.getD o (0,0))) hH rfl rfl rfl (by simp;omega) rfl (Ty.shp rfl) ?_)
   clear hH
   intro w5 hH
   replace hH:=nn3 hH
   rw [← List.map_set] at hH
   repeat (first|refine WS_region ?_|refine WL_nil ?_|refine WS_inBlock ?_|(refine WL_r (by first|refine Run_pev rfl|refine k_add64 rfl rfl (by omega)) rfl ?_))
   refine IH (k+1,t.set k (z.getD o (0,0))) _ _ ?_ ?_ ?_ ?_
   ·simp only;omega
   ·exact ⟨rfl,trivial⟩
   ·repeat first|with_reducible apply Agr.refl|refine Agr.upd rfl ?_|refine Agr.updL rfl ?_|refine Agr.mrg rfl ?_
   ·exact ⟨by omega,by rw [List.length_set];exact htl,take_set_next ht ho (by omega),hH⟩
  ·obtain rfl:k=8:=by omega
   have e:t=u:=by
    rw [List.take_of_length_le (by omega),List.take_of_length_le (by decide)] at ht
    rw [ht,← hzu]
   subst e
   have hB:=hH.b 2 rfl
   repeat (first|refine WS_seq ?_|refine WS_region ?_|refine WL_nil ?_|refine WS_exit rfl ?_|refine WS_false rfl ?_|(refine WL_r (by first|refine k_loadA rfl hB (by simp;omega) (Ty.shp rfl)|refine Run_pev rfl) rfl ?_))
   refine WL_s (H_storeA 1 (vs:=(pcs t).toArray) (s:=8) hH rfl rfl rfl (by simp;omega) rfl pcs_one (Ty.shp rfl) ?_)
   clear hH
   intro w6 hH
   replace hH:=nn3 hH
   repeat (refine WL_nil ?_)
   exact WS_retc1 Tryz.func183 rfl rfl (hH.b 1 rfl) (by simp;omega) (Ty.shp rfl) ⟨rfl,hH.ext⟩
theorem hput_next {r n:Nat} {u:List PF} {o x y:List Int} (e:hput r u o 8=some x) (hn:n<8) (hy:hput r u o n=some y):∃ a b,fint (u.getD n (0,0)).1=some a∧fint (u.getD n (0,0)).2=some b∧hput r u o (n+1)=some ((y.set (8*n+r) a).set (8*n+r+1) b):=by
 have pre:∀ {m k:Nat} {x:List Int},hput r u o m=some x→k≤m→∃ z,hput r u o k=some z:=by
  intro m
  induction m with
  | zero=>intro k x e hk;obtain rfl:k=0:=(by omega);exact ⟨o,rfl⟩
  | succ m ih =>
   intro k x e hk
   by_cases h:k=m+1
   ·subst h;exact ⟨x,e⟩
   ·obtain ⟨z,h1,_⟩:=Option.bind_eq_some_iff.1 e
    exact ih h1 (by omega)
 obtain ⟨z,hz⟩:=pre e (show n+1≤8 by omega)
 have h2:=hz
 unfold hput at h2
 rw [hy] at h2
 simp only [Option.bind_some] at h2
 split at h2
 ·rename_i a b ha hb
  exact ⟨a,b,ha,hb,by rw [hz];exact h2.symm⟩
 ·cases h2
theorem hrows_next {b x o:List Int} {n:Nat} (e:hrows b 4=some x) (hn:n<4) (ho:hrows b n=some o):∃ u y,height (hvec b (2*n))=some u∧hput (2*n) u o 8=some y∧hrows b (n+1)=some y:=by
 have pre:∀ {m k:Nat} {x:List Int},hrows b m=some x→k≤m→∃ z,hrows b k=some z:=by
  intro m
  induction m with
  | zero=>intro k x e hk;obtain rfl:k=0:=(by omega);exact ⟨_,rfl⟩
  | succ m ih =>
   intro k x e hk
   by_cases h:k=m+1
   ·subst h;exact ⟨x,e⟩
   ·obtain ⟨z,h1,_⟩:=Option.bind_eq_some_iff.1 e
    exact ih h1 (by omega)
 obtain ⟨z,hz⟩:=pre e (show n+1≤4 by omega)
 have h2:=hz
 unfold hrows at h2
 rw [ho] at h2
 simp only [Option.bind_some] at h2
 obtain ⟨u,h3,h4⟩:=Option.bind_eq_some_iff.1 h2
 exact ⟨u,z,h3,h4,hz⟩
theorem ints_at {b:List Int} {i:Nat} (h:i<b.length):(b.map (Value.int .i64))[i]?=some (.int .i64 (b.getD i 0)):=by
 simp [List.getD_eq_getElem?_getD,List.getElem?_eq_getElem h]
theorem ints_one {v:List Int}:∀ u∈(v.map (Value.int .i64)).toArray.toList,u.oneCell'=true:=by
 intro u hu
 simp at hu
 obtain ⟨a,_,rfl⟩:=hu
 rfl
theorem hvec_next {b:List Int} {r k:Nat} (t:List PF) (ht:t.take k=(hvec b r).take k) (hk:k<8) (hl:t.length=8):(t.set k (FN (b.getD (8*r+k) 0),FN (b.getD (8*r+8+k) 0))).take (k+1)=(hvec b r).take (k+1):=by
 have e:(hvec b r)[k]?=some (FN (b.getD (8*r+k) 0),FN (b.getD (8*r+8+k) 0)):=by simp [hvec,hk]
 rw [List.take_add_one,List.take_add_one,List.take_set_of_le (Nat.le_refl k),ht,List.getElem?_set_self (by omega),e]
set_option maxRecDepth 20000 in
set_option maxHeartbeats 4000000 in
theorem rows_spec {b x:List Int} {w:World} (hb:b.length=64) (h:hrows b 4=some x) :
  Does Tryz.prog 159 #[.agg (b.map (Value.int .i64)).toArray] w fun r w'=>r=.agg (x.map (Value.int .i64)).toArray∧Ext [] w w':=by
 refine Does_of (args:=[_]) Tryz.func159 rfl rfl Tryz.ntmps159 rfl ?_
 have hH:=Hp.start w
 repeat (first|refine WS_seq ?_|refine WS_region ?_)
 refine WL_s (H_box (cs:=(b.map (Value.int .i64)).toArray) hH rfl rfl rfl ?_)
 try clear hH
 intro w1 b1 hH
 replace hH:=nn1 hH
 refine WL_s (H_alloc hH (Ty.zer rfl) rfl ?_)
 try clear hH
 intro w2 b2 hH
 replace hH:=nn2 hH
 repeat (first|refine WS_seq ?_|refine WS_region ?_|refine WL_nil ?_)
 refine WL_s (H_alloc hH (Ty.zer rfl) rfl ?_)
 try clear hH
 intro w3 b3 hH
 replace hH:=nn3 hH
 repeat (first|refine WS_seq ?_|refine WS_region ?_|refine WL_nil ?_|refine WS_block ?_|refine lp rfl rfl ?_)
 refine WS_loop (G:=(Nat) × (List Int)) (fun|(n,o)=>4-n) 576460752303423472 (fun|(n,o)=>[(4,.int .i64 ((2*n:Nat):Int))]) (fun|(n,o),w'=>n≤4∧hrows b n=some o∧Hp [] w w' [Rb b1 94 (b.map (Value.int .i64)).toArray,Rb b2 94 ((List.replicate 64 (0:Int)).map (Value.int .i64)).toArray,Rb b3 94 (o.map (Value.int .i64)).toArray]) (0,List.replicate 64 0) ⟨rfl,trivial⟩ ⟨by omega,rfl,hH⟩ ?_
 rintro ⟨n,o⟩ w' σ ⟨hn,ho,hH⟩ IH
 show WS _ _ _ _ _ (updL [(4,.int .i64 ((2*n:Nat):Int))] _) _
 have hol:=hrows_len ho
 by_cases hlt:n<4
 ·obtain ⟨u,y,hu,hy,hyn⟩:=hrows_next h hlt ho
  repeat (first|refine WS_seq ?_|refine WS_region ?_|refine WL_nil ?_|refine WS_block ?_|refine WS_skip ?_|refine WS_yes rfl (by omega) ?_|refine lp rfl rfl ?_)
  refine WL_s (H_alloc hH (Ty.zer rfl) rfl ?_)
  try clear hH
  intro w4 b5 hH
  replace hH:=nn4 hH
  repeat (first|refine WS_seq ?_|refine WS_region ?_|refine WL_nil ?_|refine WS_block ?_|refine lp rfl rfl ?_)
  have IH0:=IH
  clear IH
  refine WS_loop (G:=(Nat) × (List PF)) (fun|(i,t)=>8-i) 34359730240 (fun|(i,t)=>[(13,.int .i64 i)]) (fun|(i,t),w'=>i≤8∧t.length=8∧t.take i=(hvec b (2*n)).take i∧Hp [] w w' [Rb b1 94 (b.map (Value.int .i64)).toArray,Rb b2 94 ((List.replicate 64 (0:Int)).map (Value.int .i64)).toArray,Rb b3 94 (o.map (Value.int .i64)).toArray,Rb b5 301 (pcs t).toArray]) (0,List.replicate 8 (0,0)) ⟨rfl,trivial⟩ ⟨by omega,rfl,rfl,hH⟩ ?_
  rintro ⟨i,t⟩ w' σ ⟨hi,htl,ht,hH⟩ IH
  show WS _ _ _ _ _ (updL [(13,.int .i64 i)] _) _
  by_cases hlt8:i<8
  ·have hB:SlA w' (some ⟨b1,0,none⟩) (b.map (Value.int .i64)):=(hH.b 0 rfl).sl0
   have hi1:=ints_at (b:=b) (i:=8*(2*n)+i) (by omega)
   have hi2:=ints_at (b:=b) (i:=8*(2*n)+8+i) (by omega)
   repeat (first|refine WS_seq ?_|refine WS_region ?_|refine WL_nil ?_|refine WS_block ?_|refine WS_skip ?_|refine WS_yes rfl (by omega) ?_|refine lp rfl rfl ?_)
   refine WS_tailS Ty.mixed 18 rfl (by kernel_rfl) rfl (fun u=>Ext [] w' u) ?_
   have hx1:Ext [] w' w'.drew:=Ext.drew0
   refine wp 0 hx1 rfl rfl rfl rfl ?_
   refine wp 1 hx1 rfl rfl rfl rfl ?_
   refine wt 2 hx1 rfl rfl rfl (fun w' hw'=>by refine k_mul64 rfl rfl (by omega)) ?_
   refine wp 3 hx1 rfl rfl rfl rfl ?_
   refine wt 4 hx1 rfl rfl rfl (fun w' hw'=>by refine k_add64 rfl rfl (by omega)) ?_
   refine wt 5 hx1 rfl rfl rfl (fun w' hw'=>by refine k_ixa1 rfl rfl (Ty.arr rfl) (by omega)) ?_
   refine wt 6 hx1 rfl rfl rfl (fun w' hw'=>by refine k_loads rfl (hB.ext0 hw') hi1 (Ty.shp rfl)) ?_
   refine wt 7 hx1 rfl rfl rfl (fun w' hw'=>by refine k_conv_if rfl (Ty.und rfl) isf) ?_
   refine wp 8 hx1 rfl rfl rfl rfl ?_
   refine wt 9 hx1 rfl rfl rfl (fun w' hw'=>by refine k_mul64 rfl rfl (by omega)) ?_
   refine wt 10 hx1 rfl rfl rfl (fun w' hw'=>by refine k_add64 rfl rfl (by omega)) ?_
   refine wp 11 hx1 rfl rfl rfl rfl ?_
   refine wt 12 hx1 rfl rfl rfl (fun w' hw'=>by refine k_add64 rfl rfl (by omega)) ?_
   refine wt 13 hx1 rfl rfl rfl (fun w' hw'=>by refine k_ixa1 rfl rfl (Ty.arr rfl) (by omega)) ?_
   refine wt 14 hx1 rfl rfl rfl (fun w' hw'=>by refine k_loads rfl (hB.ext0 hw') hi2 (Ty.shp rfl)) ?_
   refine wt 15 hx1 rfl rfl rfl (fun w' hw'=>by refine k_conv_if rfl (Ty.und rfl) isf) ?_
   refine wt 16 hx1 rfl rfl rfl (fun w' hw'=>by refine k_complex rfl rfl) ?_
   refine wt 17 hx1 rfl rfl rfl (fun w' hw'=>by refine k_ixa1 rfl rfl (Ty.arr rfl) (by omega)) ?_
   refine WA_done (by kernel_rfl) ?_
   replace hH:=hH.ext0 hx1
   refine WL_s (H_storeB 3 (v:=PV (FN (b.getD (8*(2*n)+i) 0),FN (b.getD (8*(2*n)+8+i) 0))) hH rfl rfl rfl (by simp;omega) rfl (Ty.shp rfl) ?_)
   clear hH
   intro w5 hH
   replace hH:=nn4 hH
   rw [← List.map_set] at hH
   repeat (first|refine WS_region ?_|refine WL_nil ?_|refine WS_inBlock ?_|(refine WL_r (by first|refine Run_pev rfl|refine k_add64 rfl rfl (by omega)) rfl ?_))
   refine IH (i+1,t.set i (FN (b.getD (8*(2*n)+i) 0),FN (b.getD (8*(2*n)+8+i) 0))) _ _ ?_ ?_ ?_ ?_
   ·simp only;omega
   ·exact ⟨rfl,trivial⟩
   ·repeat first|with_reducible apply Agr.refl|refine Agr.upd rfl ?_|refine Agr.updL rfl ?_|refine Agr.mrg rfl ?_
   ·exact ⟨by omega,by rw [List.length_set];exact htl,hvec_next t ht hlt8 htl,hH⟩
  ·obtain rfl:i=8:=by omega
   have e:t=hvec b (2*n):=by
    rw [List.take_of_length_le (by omega),List.take_of_length_le (by simp [hvec])] at ht
    exact ht
   subst e
   have hB:=hH.b 3 rfl
   repeat (first|refine WS_seq ?_|refine WS_region ?_|refine WL_nil ?_|refine WS_exit rfl ?_|refine WS_false rfl ?_|(refine WL_r (by first|refine k_loadA rfl hB (by simp [hvec]) (Ty.shp rfl)|refine Run_pev rfl) rfl ?_))
   refine WL_s (S_call ((eight_spec htl hu)) rfl rfl ?_)
   rintro _ w4 ⟨rfl,hE⟩
   replace hH:=(hH.ext0 hE).del 3
   replace hH:=nn3 hH
   clear hB IH
   have hul:u.length=8:=by
    obtain ⟨z,_,hzu⟩:=Option.map_eq_some_iff.1 hu
    rw [← hzu];rfl
   repeat (first|refine WL_nil ?_|refine WS_block ?_|refine lp rfl rfl ?_)
   refine WS_loop (G:=(Nat) × (List Int)) (fun|(k,q)=>8-k) 576460614864470400 (fun|(k,q)=>[(37,.int .i64 k)]) (fun|(k,q),w'=>k≤8∧hput (2*n) u o k=some q∧Hp [] w w' [Rb b1 94 (b.map (Value.int .i64)).toArray,Rb b2 94 ((List.replicate 64 (0:Int)).map (Value.int .i64)).toArray,Rb b3 94 (q.map (Value.int .i64)).toArray]) (0,o) ⟨rfl,trivial⟩ ⟨by omega,rfl,hH⟩ ?_
   rintro ⟨k,q⟩ w' σ ⟨hk,hq,hH⟩ IH
   show WS _ _ _ _ _ (updL [(37,.int .i64 k)] _) _
   have hql:q.length=64:=(hput_len hq).trans hol
   by_cases hlt8:k<8
   ·obtain ⟨x1,x2,hx1,hx2,hqn⟩:=hput_next hy hlt8 hq
    obtain ⟨ht1,hr1⟩:=fint_spec hx1
    obtain ⟨ht2,hr2⟩:=fint_spec hx2
    have hi1:(pcs u).toArray[k]?=some (PV (u.getD k (0,0))):=by rw [List.getElem?_toArray];exact pcs_at (by omega)
    repeat (first|refine WS_seq ?_|refine WS_region ?_|refine WL_nil ?_|refine WS_block ?_|refine WS_skip ?_|refine WS_yes rfl (by omega) ?_|(refine WL_r (by first|refine k_index1 rfl rfl (Ty.arr rfl) (by omega) hi1|refine k_real rfl|refine k_imag rfl|refine k_conv_fi rfl (Ty.und rfl) (Ty.knd rfl) ht1 hr1|refine k_conv_fi rfl (Ty.und rfl) (Ty.knd rfl) ht2 hr2|refine k_ixa1 rfl rfl (Ty.arr rfl) (by omega)|refine Run_pev rfl|refine k_add64 rfl rfl (by omega)|refine k_mul64 rfl rfl (by omega)) rfl ?_))
    refine WL_s (H_storeB 2 (v:=.int .i64 x1) hH rfl rfl rfl (by simp;omega) rfl (Ty.shp rfl) ?_)
    clear hH
    intro w5 hH
    replace hH:=nn3 hH
    repeat ((refine WL_r (by refine k_ixa1 rfl rfl (Ty.arr rfl) (by omega)) rfl ?_))
    refine WL_s (H_storeB 2 (v:=.int .i64 x2) hH rfl rfl rfl (by simp;omega) rfl (Ty.shp rfl) ?_)
    clear hH
    intro w6 hH
    replace hH:=nn3 hH
    rw [← List.map_set,← List.map_set] at hH
    repeat (first|refine WS_region ?_|refine WL_nil ?_|refine WS_inBlock ?_|(refine WL_r (by first|refine Run_pev rfl|refine k_add64 rfl rfl (by omega)) rfl ?_))
    refine IH (k+1,(q.set (8*k+2*n) x1).set (8*k+2*n+1) x2) _ _ ?_ ?_ ?_ ?_
    ·simp only;omega
    ·exact ⟨rfl,trivial⟩
    ·repeat first|with_reducible apply Agr.refl|refine Agr.upd rfl ?_|refine Agr.updL rfl ?_|refine Agr.mrg rfl ?_
    ·exact ⟨by omega,hqn,hH⟩
   ·obtain rfl:k=8:=by omega
    obtain rfl:y=q:=by rw [hq] at hy;exact (Option.some.inj hy).symm
    repeat (first|refine WS_seq ?_|refine WS_region ?_|refine WL_nil ?_|refine WS_inBlock ?_|refine WS_exit rfl ?_|refine WS_false rfl ?_|(refine WL_r (by first|refine Run_pev rfl|refine k_add64 rfl rfl (by omega)) rfl ?_))
    refine IH0 (n+1,y) _ _ ?_ ?_ ?_ ?_
    ·simp only;omega
    ·exact ⟨congrArg (Value.int .i64) (show ((2*n:Nat):Int)+2=((2*(n+1):Nat):Int) by omega),trivial⟩
    ·repeat first|with_reducible apply Agr.refl|refine Agr.upd rfl ?_|refine Agr.updL rfl ?_|refine Agr.mrg rfl ?_
    ·exact ⟨by omega,hyn,hH⟩
 ·obtain rfl:n=4:=by omega
  obtain rfl:x=o:=by rw [ho] at h;exact (Option.some.inj h).symm
  have hB:=hH.b 2 rfl
  repeat (first|refine WS_seq ?_|refine WS_region ?_|refine WL_nil ?_|refine WS_exit rfl ?_|refine WS_false rfl ?_|(refine WL_r (by first|refine k_loadA rfl hB (by simp;omega) (Ty.shp rfl)|refine Run_pev rfl) rfl ?_))
  refine WL_s (H_storeA 1 (vs:=(x.map (Value.int .i64)).toArray) (s:=64) hH rfl rfl rfl (by simp;omega) (by simp) ints_one (Ty.shp rfl) ?_)
  clear hH
  intro w6 hH
  replace hH:=nn3 hH
  repeat (refine WL_nil ?_)
  exact WS_retc1 Tryz.func159 rfl rfl (hH.b 1 rfl) (by simp;omega) (Ty.shp rfl) ⟨rfl,hH.ext⟩
theorem forward50 {w:World}:Does Tryz.prog 114 #[.agg ((List.replicate 64 (50:Int)).map (Value.int .i64)).toArray] w fun r w'=>r=.agg (((3200:Int)::List.replicate 63 0).map (Value.int .i64)).toArray∧Ext [] w w':=by
 obtain ⟨x,hx,hy⟩:=Option.bind_eq_some_iff.1 had50
 have hxl:=hrows_len hx
 refine Does_of (args:=[_]) Tryz.func114 rfl rfl Tryz.ntmps114 rfl ?_
 have hH:=Hp.start w
 repeat (first|refine WS_seq ?_|refine WS_region ?_)
 refine WL_s (H_box (cs:=((List.replicate 64 (50:Int)).map (Value.int .i64)).toArray) hH rfl rfl rfl ?_)
 try clear hH
 intro w1 b1 hH
 replace hH:=nn1 hH
 refine WL_s (H_alloc hH (Ty.zer rfl) rfl ?_)
 try clear hH
 intro w2 b2 hH
 replace hH:=nn2 hH
 have hB:=hH.b 0 rfl
 repeat (first|refine WS_seq ?_|refine WS_region ?_|refine WL_nil ?_|(refine WL_r (by refine k_loadA rfl hB (by simp) (Ty.shp rfl)) rfl ?_))
 refine WL_s (S_call ((rows_spec (by simp) hx)) rfl rfl ?_)
 rintro _ w3 ⟨rfl,hE⟩
 replace hH:=hH.ext0 hE
 replace hH:=nn2 hH
 skip
 refine WL_s (S_call ((rows_spec hxl hy)) rfl rfl ?_)
 rintro _ w4 ⟨rfl,hE2⟩
 replace hH:=hH.ext0 hE2
 replace hH:=nn2 hH
 skip
 refine WL_s (H_storeA 1 (vs:=(((3200:Int)::List.replicate 63 0).map (Value.int .i64)).toArray) (s:=64) hH rfl rfl rfl (by simp) (by simp) ints_one (Ty.shp rfl) ?_)
 clear hH
 intro w6 hH
 replace hH:=nn2 hH
 repeat (refine WL_nil ?_)
 exact WS_retc1 Tryz.func114 rfl rfl (hH.b 1 rfl) (by simp) (Ty.shp rfl) ⟨rfl,hH.ext⟩
end Go.Proofs.YtpbiicegmcpkpaaGreat
