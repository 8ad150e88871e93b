/- A part of the proof that TopWorse is true at every input; no condition. -/
import Derived.Test.YtpbiicegmcpkpaaGreatT22
import Derived.Test.YtpbiicegmcpkpaaGreatT24
namespace Go.Proofs.YtpbiicegmcpkpaaGreat
open Go Go.K Go.P Go.RowKit Go.Proofs
def vw (u:V4):Nat→Nat × Nat
 | 0=>(u.a0,u.b0)
 | 1=>(u.a1,u.b1)
 | 2=>(u.a2,u.b2)
 | 3=>(u.a3,u.b3)
 | _=>(FN u.cx,FN u.cy)
def wz (k:Nat):Int:=if k<4 then 16 else 8
theorem wz_or (k:Nat):wz k=16∨wz k=8:=by unfold wz;split<;>simp
section
variable (C R mb:Nat) (u:V4) (k:Nat)
def tX1:Int:=sp1 (bX C mb k) (whole (vw u k).1) (wz k*C) / wz k
def tX2:Int:=sp2 (bX C mb k) (whole (vw u k).1) (wz k*C) / wz k
def tY1:Int:=sp1 (bY C mb k) (whole (vw u k).2) (wz k*R) / wz k
def tY2:Int:=sp2 (bY C mb k) (whole (vw u k).2) (wz k*R) / wz k
def TC (n:Int):Prop:=∃ j i:Int,(tY1 C R mb u k≤j∧j≤tY2 C R mb u k)∧(tX1 C mb u k≤i∧i≤tX2 C mb u k)∧n=j*C+i
end
def Tch (C R mb:Nat) (u:V4) (n:Int):Prop:=∃ k,k<5∧TC C R mb u k n
theorem sp_le {p d e:Int} (he:1≤e):0≤sp1 p d e∧sp1 p d e≤sp2 p d e∧sp2 p d e≤e-1:=by unfold sp1 sp2;omega
theorem vw_at (u:V4) {k:Nat} (h:k<4):u.cells.toArray[k]?=some (.complex .f64 (vw u k).1 (vw u k).2):=by
 rcases (show k=0∨k=1∨k=2∨k=3 by omega) with rfl|rfl|rfl|rfl<;>rfl
abbrev frz (C R:Nat):Array Value:=#[.int .i64 C,.int .i64 R,.int .i64 0,.int .i64 0,.slice none 0 0,.int .i64 0,.int .i64 0,.slice none 0 0,.int .i64 0,.int .i64 0,.slice none 0 0]
theorem set3 {T2 T3:Int→Prop} {x1 i c:Int} (h:∀ n,T3 n ↔ T2 n∨∃ i':Int,(x1≤i'∧i'<i)∧n=c+i') (hi:x1≤i) (n:Int):(T3 n∨n=c+i) ↔ T2 n∨∃ i':Int,(x1≤i'∧i'<i+1)∧n=c+i':=by
 constructor
 ·rintro (h1|h1)
  ·rcases (h n).1 h1 with h2|⟨i',h2,h3⟩
   ·exact .inl h2
   ·exact .inr ⟨i',by omega,h3⟩
  ·exact .inr ⟨i,by omega,h1⟩
 ·rintro (h1|⟨i',h1,h2⟩)
  ·exact .inl ((h n).2 (.inl h1))
  ·by_cases e:i'=i
   ·exact .inr (e▸h2)
   ·exact .inl ((h n).2 (.inr ⟨i',by omega,h2⟩))
theorem set2 {T T2 T3:Int→Prop} {x1 x2 y1 j C:Int} (h3:∀ n,T3 n ↔ T2 n∨∃ i':Int,(x1≤i'∧i'<x2+1)∧n=j*C+i') (h:∀ n,T2 n ↔ T n∨∃ j' i:Int,(y1≤j'∧j'<j)∧(x1≤i∧i≤x2)∧n=j'*C+i) (hj:y1≤j) (n:Int) :
  T3 n ↔ T n∨∃ j' i:Int,(y1≤j'∧j'<j+1)∧(x1≤i∧i≤x2)∧n=j'*C+i:=by
 rw [h3,h]
 constructor
 ·rintro ((h1|⟨j',i,h1,h2,h4⟩)|⟨i,h1,h2⟩)
  ·exact .inl h1
  ·exact .inr ⟨j',i,by omega,h2,h4⟩
  ·exact .inr ⟨j,i,by omega,by omega,h2⟩
 ·rintro (h1|⟨j',i,h1,h2,h4⟩)
  ·exact .inl (.inl h1)
  ·by_cases e:j'=j
   ·exact .inr ⟨i,by omega,e▸h4⟩
   ·exact .inl (.inr ⟨j',i,by omega,h2,h4⟩)
theorem set1 {T T2:Int→Prop} {U:Nat→Int→Prop} {k:Nat} {x1 x2 y1 y2 C:Int} (hU:∀ n,U k n ↔ ∃ j i:Int,(y1≤j∧j≤y2)∧(x1≤i∧i≤x2)∧n=j*C+i) (h2:∀ n,T2 n ↔ T n∨∃ j' i:Int,(y1≤j'∧j'<y2+1)∧(x1≤i∧i≤x2)∧n=j'*C+i) (h:∀ n,T n ↔ ∃ k',k'<k∧U k' n) (n:Int) :
  T2 n ↔ ∃ k',k'<k+1∧U k' n:=by
 rw [h2,h]
 constructor
 ·rintro (⟨k',h1,h3⟩|⟨j,i,h1,h3,h4⟩)
  ·exact ⟨k',by omega,h3⟩
  ·exact ⟨k,by omega,(hU n).2 ⟨j,i,by omega,h3,h4⟩⟩
 ·rintro ⟨k',h1,h3⟩
  by_cases e:k'=k
  ·subst e
   obtain ⟨j,i,h4,h5,h6⟩:=(hU n).1 h3
   exact .inr ⟨j,i,by omega,h5,h6⟩
  ·exact .inl ⟨k',by omega,h3⟩
theorem seen_push {es:Array MapEntry} {seen:Array Nat} {l:List Int} {e:MapEntry} {i:Int} (hn:(es.toList.map (·.born)).Nodup) (he:e∈es.toList) (hk:e.key=.int .i64 i) (h:∀ x∈es.toList,seen.contains x.born=true→∃ i,x.key=.int .i64 i∧i∈l) :
  ∀ x∈es.toList,(seen.push e.born).contains x.born=true→∃ j,x.key=.int .i64 j∧j∈l++[i]:=by
 intro x hx hc
 have hc2:x.born∈seen∨x.born=e.born:=by simpa using hc
 rcases hc2 with h1|h1
 ·obtain ⟨j,h2,h3⟩:=h x hx (by simpa using h1)
  exact ⟨j,h2,by simp [h3]⟩
 ·exact ⟨i,by rw [← hk,born_inj hn hx he h1],by simp⟩
set_option maxRecDepth 20000 in
set_option maxHeartbeats 16000000 in
theorem touches_spec {C R mb:Nat} {u:V4} {w:World} (hC:1≤C∧C≤8) (hR:1≤R∧R≤8) (hmb:mb≤64) :
  Does Tryz.prog 45 #[.int .i64 C,.int .i64 R,.int .i64 mb,.agg u.cells.toArray] w fun v w'=>∃ (a:Option Addr) (n c:Nat) (l:List Int),v=.slice a n c∧l.length=n∧n≤10000∧SlA w' a (l.map (Value.int .i64))∧(∀ i,i∈l ↔ Tch C R mb u i)∧Ext [] w w':=by
 refine Does_of (args:=[_,_,_,_]) Tryz.func45 rfl rfl Tryz.ntmps45 rfl ?_
 have hH:=Hp.start w
 have e1:max (C:Int) 1=C:=by omega
 have e2:max (R:Int) 1=R:=by omega
 repeat (first|refine WS_seq ?_|refine WS_region ?_)
 refine WL_s (H_box (cs:=u.cells.toArray) hH rfl rfl rfl ?_)
 try clear hH
 intro _ b7 hH
 replace hH:=nn1 hH
 repeat (first|refine WS_seq ?_|refine WS_region ?_|refine WL_nil ?_|(refine WL_r (by first|refine (k_max rfl rfl).is (congrArg (Value.int .i64) e1)|refine (k_max rfl rfl).is (congrArg (Value.int .i64) e2)|refine Run_pev rfl) rfl ?_))
 refine WL_s (H_makeMapS hH rfl ?_)
 clear hH
 intro _ b9 hH
 replace hH:=nn2 hH
 repeat (first|refine WS_seq ?_|refine WS_region ?_|refine WL_nil ?_|(refine WL_r (by first|refine k_buildS (cs:=(frz C R).toList) (Ty.zer rfl) (Ty.plc rfl) rfl|refine Run_pev rfl) rfl ?_))
 refine WL_s (H_alloc hH (Ty.zer rfl) rfl ?_)
 try clear hH
 intro _ b10 hH
 replace hH:=nn3 hH
 refine WL_s (H_storeA 2 (vs:=frz C R) (s:=11) hH rfl rfl rfl (by rfl) (by rfl) (by simp [Value.oneCell']) (Ty.shp rfl) ?_)
 try clear hH
 intro _ hH
 replace hH:=nn3 hH
 repeat (first|refine WS_seq ?_|refine WS_region ?_|refine WL_nil ?_|refine WS_block ?_|refine lp rfl rfl ?_)
 refine WS_loop (G:=(Nat) × (Int→Prop) × (Nat)) (fun|(k,T,m)=>5-k) 10141204801825835211939299457024 (fun|(k,T,m)=>[(35,.int .i64 k)]) (fun|(k,T,m),w'=>k≤5∧(∀ n,T n ↔ ∃ k',k'<k∧TC C R mb u k' n)∧m≤2000*k∧Hp [] w w' [Rb b7 93 u.cells.toArray,MS b9 T m,Rb b10 66 (frz C R)]) (0,fun _=>False,0) ⟨rfl,trivial⟩ ⟨by omega,fun n=>by simp,by omega,hH⟩ ?_
 rintro ⟨k,T,m⟩ w' σ ⟨hk,hT,hm,hH⟩ IH
 show WS _ _ _ _ _ (updL [(35,.int .i64 k)] _) _
 by_cases hlt:k<5
 ·obtain ⟨z,hz⟩:∃ z,wz k=z:=⟨_,rfl⟩
  have hz2:=wz_or k
  rw [hz] at hz2
  obtain ⟨X1,hX1⟩:∃ x,sp1 (bX C mb k) (whole (vw u k).1) (z*C)=x:=⟨_,rfl⟩
  obtain ⟨X2,hX2⟩:∃ x,sp2 (bX C mb k) (whole (vw u k).1) (z*C)=x:=⟨_,rfl⟩
  obtain ⟨Y1,hY1⟩:∃ x,sp1 (bY C mb k) (whole (vw u k).2) (z*R)=x:=⟨_,rfl⟩
  obtain ⟨Y2,hY2⟩:∃ x,sp2 (bY C mb k) (whole (vw u k).2) (z*R)=x:=⟨_,rfl⟩
  have hzC:8≤z*C∧z*C≤128:=by rcases hz2 with rfl|rfl<;>omega
  have hzR:8≤z*R∧z*R≤128:=by rcases hz2 with rfl|rfl<;>omega
  have hXs:=sp_le (p:=bX C mb k) (d:=whole (vw u k).1) (e:=z*C) (by omega)
  have hYs:=sp_le (p:=bY C mb k) (d:=whole (vw u k).2) (e:=z*R) (by omega)
  rw [hX1,hX2] at hXs
  rw [hY1,hY2] at hYs
  have hTC:∀ n,TC C R mb u k n ↔ ∃ j i:Int,(Y1 / z≤j∧j≤Y2 / z)∧(X1 / z≤i∧i≤X2 / z)∧n=j*C+i:=fun n=>by
   unfold TC tX1 tX2 tY1 tY2
   rw [hz,hX1,hX2,hY1,hY2]
  have hqx:0≤X1 / z∧X1 / z≤X2 / z∧X2 / z≤15:=by rcases hz2 with rfl|rfl<;>omega
  have hqy:0≤Y1 / z∧Y1 / z≤Y2 / z∧Y2 / z≤15:=by rcases hz2 with rfl|rfl<;>omega
  obtain ⟨x1,hx1⟩:∃ x,X1 / z=x:=⟨_,rfl⟩
  obtain ⟨x2,hx2⟩:∃ x,X2 / z=x:=⟨_,rfl⟩
  obtain ⟨y1,hy1⟩:∃ x,Y1 / z=x:=⟨_,rfl⟩
  obtain ⟨y2,hy2⟩:∃ x,Y2 / z=x:=⟨_,rfl⟩
  rw [hx1,hx2] at hqx
  rw [hy1,hy2] at hqy
  rw [hx1,hx2,hy1,hy2] at hTC
  have hb1:bX C mb k≤200:=by
   have:=Nat.mod_lt mb (show 0<C by omega)
   unfold bX;split<;>omega
  have hb2:bY C mb k≤2000:=by
   have:=Nat.div_le_self mb C
   unfold bY;split<;>omega
  have hw1:=whole_le (vw u k).1
  have hw2:=whole_le (vw u k).2
  have hB7:=hH.b 0 rfl
  repeat (first|refine WS_seq ?_|refine WS_region ?_|refine WL_nil ?_|refine WS_block ?_|refine WS_skip ?_|refine WS_yes rfl (by omega) ?_|(refine WL_r (by first|refine k_loadA rfl hB7 rfl (Ty.shp rfl)|refine Run_pev rfl) rfl ?_))
  clear hB7
  refine WL_s (S_call (colour_spec) rfl rfl ?_)
  rintro _ _ ⟨rfl,hE0⟩
  replace hH:=hH.ext0 hE0
  clear hE0
  replace hH:=nn3 hH
  apply join
  ·intro key
   by_cases h4:k<4
   ·have hz16:z=16:=by rw [← hz];unfold wz;rw [if_pos h4]
    have hv:=vw_at u h4
    have hS7:SlA _ (some ⟨b7,0,none⟩) u.cells:=(hH.b 0 rfl).sl0
    have hvl:u.cells[k]?=some (.complex .f64 (vw u k).1 (vw u k).2):=by simpa using hv
    repeat (first|refine WS_seq ?_|refine WS_region ?_|refine WL_nil ?_|refine WS_yes rfl (by omega) ?_|(refine WL_r (by first|refine k_ixa1 rfl rfl (Ty.arr rfl) (by omega)|refine k_loads rfl hS7 hvl (Ty.shp rfl)|refine Run_pev rfl) rfl ?_))
    clear hS7
    apply WL_keepM 10141204801825835211939299457024 [(11,.int .i64 k),(12,.complex .f64 (vw u k).1 (vw u k).2),(13,.int .i64 z),(35,.int .i64 k),(46,.complex .f64 (vw u k).1 (vw u k).2)]
    ·exact ⟨rfl,rfl,congrArg (Value.int .i64) hz16.symm,rfl,rfl,trivial⟩
    ·repeat (first|((with_reducible apply Agr.upd);· exact rfl)|((with_reducible apply Agr.consL);· exact rfl)|(with_reducible apply Agr.nilL)|((with_reducible apply Agr.mrg (W':=10141204801825835211939299457024));(· exact rfl);apply Agr.refl))
    intro σ
    exact key σ
   ·have hz8:z=8:=by rw [← hz];unfold wz;rw [if_neg h4]
    have hk4:k=4:=by omega
    have hv4:CV u.cx u.cy=.complex .f64 (vw u k).1 (vw u k).2:=by rw [hk4];rfl
    repeat (first|refine WS_seq ?_|refine WS_region ?_|refine WL_nil ?_|refine WS_skip ?_|refine WS_no rfl (by omega) ?_|refine lp rfl rfl ?_)
    apply WL_keepM 10141204801825835211939299457024 [(11,.int .i64 k),(12,.complex .f64 (vw u k).1 (vw u k).2),(13,.int .i64 z),(35,.int .i64 k),(46,.complex .f64 (vw u k).1 (vw u k).2)]
    ·exact ⟨rfl,hv4,congrArg (Value.int .i64) hz8.symm,rfl,hv4,trivial⟩
    ·repeat (first|((with_reducible apply Agr.upd);· exact rfl)|((with_reducible apply Agr.consL);· exact rfl)|(with_reducible apply Agr.nilL)|((with_reducible apply Agr.mrg (W':=10141204801825835211939299457024));(· exact rfl);apply Agr.refl))
    intro σ
    exact key σ
  intro σ
  skip
  refine WL_s (S_call ((parts_spec (a:=(vw u k).1) (b:=(vw u k).2))) rfl rfl ?_)
  rintro _ _ ⟨rfl,rfl⟩
  have hB10:=hH.b 2 rfl
  repeat (first|refine WS_seq ?_|refine WS_region ?_|refine WL_nil ?_|(refine WL_r (by first|refine k_loadA rfl hB10 rfl (Ty.shp rfl)|refine Run_pev rfl|refine k_extract rfl rfl) rfl ?_))
  clear hB10
  refine WL_s (S_call ((fblock_spec (by omega) (by omega) (by omega) (by decide))) rfl rfl ?_)
  rintro _ _ ⟨rfl,hE0⟩
  replace hH:=hH.ext0 hE0
  clear hE0
  replace hH:=nn3 hH
  have hif:(if k<4 then #[Value.int .i64 0,.int .i64 0,.slice none 0 0] else if k=4 then #[Value.int .i64 0,.int .i64 0,.slice none 0 0] else #[Value.int .i64 0,.int .i64 0,.slice none 0 0])=#[Value.int .i64 0,.int .i64 0,.slice none 0 0]:=by split<;>(try split)<;>rfl
  rw [hif]
  repeat ((refine WL_r (by first|refine Run_pev rfl|refine k_extract rfl rfl) rfl ?_))
  refine WL_s (H_alloc hH (Ty.zer rfl) rfl ?_)
  try clear hH
  intro _ b16 hH
  replace hH:=nn4 hH
  refine WL_s (H_storeA 3 (vs:=#[Value.int .i64 0,.int .i64 0,.slice none 0 0]) (s:=3) hH rfl rfl rfl (by rfl) (by rfl) (by decide) (Ty.shp rfl) ?_)
  try clear hH
  intro _ hH
  replace hH:=nn4 hH
  replace hH:=hH.del 3
  replace hH:=nn3 hH
  repeat (first|refine WS_seq ?_|refine WS_region ?_|refine WL_nil ?_|(refine WL_r (by first|refine k_mul64 (m:=z) (n:=C) rfl rfl (by omega)|refine Run_pev rfl) rfl ?_))
  refine WL_s (S_call ((span_spec (p:=bX C mb k) (d:=whole (vw u k).1) (e:=z*C) (by omega) (by omega) (by omega))) rfl rfl ?_)
  rintro _ _ ⟨rfl,rfl⟩
  rw [hX1,hX2]
  repeat (first|refine WS_seq ?_|refine WS_region ?_|refine WL_nil ?_|(refine WL_r (by first|refine k_mul64 (m:=z) (n:=R) rfl rfl (by omega)|refine Run_pev rfl|refine k_extract rfl rfl) rfl ?_))
  refine WL_s (S_call ((span_spec (p:=bY C mb k) (d:=whole (vw u k).2) (e:=z*R) (by omega) (by omega) (by omega))) rfl rfl ?_)
  rintro _ _ ⟨rfl,rfl⟩
  rw [hY1,hY2]
  repeat (first|refine WS_seq ?_|refine WS_region ?_|refine WL_nil ?_|refine WS_block ?_|(refine WL_r (by first|refine (k_quo64 (m:=Y1) (n:=z) rfl rfl (by omega)).is (congrArg (Value.int .i64) hy1)|refine Run_pev rfl|refine k_extract rfl rfl) rfl ?_))
  refine WS_loop (G:=(Int) × (Int→Prop) × (Nat)) (fun|(j,T2,m2)=>(y2+1-j).toNat) 5070601796450007798672250634240 (fun|(j,T2,m2)=>[(23,.int .i64 j)]) (fun|(j,T2,m2),w'=>(y1≤j∧j≤y2+1)∧(∀ n,T2 n ↔ T n∨∃ j' i:Int,(y1≤j'∧j'<j)∧(x1≤i∧i≤x2)∧n=j'*C+i)∧(m2:Int)≤m+100*(j-y1)∧Hp [] w w' [Rb b7 93 u.cells.toArray,MS b9 T2 m2,Rb b10 66 (frz C R)]) (y1,T,m) ⟨rfl,trivial⟩ ⟨by omega,fun n=>⟨.inl,fun h=>h.elim id (fun ⟨j',i,h1,_⟩=>by omega)⟩,by omega,hH⟩ ?_
  rintro ⟨j,T2,m2⟩ w' σ ⟨hj,hT2,hm2,hH⟩ IH2
  show WS _ _ _ _ _ (updL [(23,.int .i64 j)] _) _
  by_cases hjl:j≤y2
  ·have hyc:=yW (W:=C) (y:=j) (by omega) (by omega)
   repeat (first|refine WS_seq ?_|refine WS_region ?_|refine WL_nil ?_|refine WS_block ?_|refine WS_skip ?_|refine WS_yes rfl (by omega) ?_|(refine WL_r (by first|refine (k_quo64 (m:=Y2) (n:=z) rfl rfl (by omega)).is (congrArg (Value.int .i64) hy2)|refine (k_quo64 (m:=X1) (n:=z) rfl rfl (by omega)).is (congrArg (Value.int .i64) hx1)|refine Run_pev rfl) rfl ?_))
   refine WS_loop (G:=(Int) × (Int→Prop) × (Nat)) (fun|(i,T3,m3)=>(x2+1-i).toNat) 5069983430893274915849380036608 (fun|(i,T3,m3)=>[(24,.int .i64 i)]) (fun|(i,T3,m3),w'=>(x1≤i∧i≤x2+1)∧(∀ n,T3 n ↔ T2 n∨∃ i':Int,(x1≤i'∧i'<i)∧n=j*C+i')∧(m3:Int)≤m2+(i-x1)∧Hp [] w w' [Rb b7 93 u.cells.toArray,MS b9 T3 m3,Rb b10 66 (frz C R)]) (x1,T2,m2) ⟨rfl,trivial⟩ ⟨by omega,fun n=>⟨.inl,fun h=>h.elim id (fun ⟨i',h1,_⟩=>by omega)⟩,by omega,hH⟩ ?_
   rintro ⟨i,T3,m3⟩ w' σ ⟨hi,hT3,hm3,hH⟩ IH3
   show WS _ _ _ _ _ (updL [(24,.int .i64 i)] _) _
   by_cases hil:i≤x2
   ·repeat (first|refine WS_seq ?_|refine WS_region ?_|refine WL_nil ?_|refine WS_block ?_|refine WS_skip ?_|refine WS_yes rfl (by omega) ?_|(refine WL_r (by first|refine (k_quo64 (m:=X2) (n:=z) rfl rfl (by omega)).is (congrArg (Value.int .i64) hx2)|refine k_mul64 (m:=j) (n:=C) rfl rfl (by omega)|refine Run_pev rfl|refine k_add64 rfl rfl (by omega)) rfl ?_))
    refine WL_s (H_mapSetS (e:=4) 1 hH rfl (by kernel_rfl) rfl rfl rfl ?_)
    clear hH
    intro _ hH
    replace hH:=nn3 hH
    repeat (first|refine WS_region ?_|refine WL_nil ?_|refine WS_inBlock ?_|(refine WL_r (by first|refine Run_pev rfl|refine k_add64 rfl rfl (by omega)) rfl ?_))
    refine IH3 (i+1,fun n=>T3 n∨n=j*C+i,m3+1) _ _ ?_ ?_ ?_ ?_
    ·simp only;omega
    ·exact ⟨rfl,trivial⟩
    ·repeat first|with_reducible apply Agr.refl|refine Agr.upd rfl ?_|refine Agr.updL rfl ?_|refine Agr.mrg rfl ?_
    ·exact ⟨by omega,set3 hT3 hi.1,by omega,hH⟩
   ·obtain rfl:i=x2+1:=by omega
    clear IH3
    repeat (first|refine WS_seq ?_|refine WS_region ?_|refine WL_nil ?_|refine WS_inBlock ?_|refine WS_exit rfl ?_|refine WS_no rfl (by omega) ?_|(refine WL_r (by first|refine (k_quo64 (m:=X2) (n:=z) rfl rfl (by omega)).is (congrArg (Value.int .i64) hx2)|refine Run_pev rfl|refine k_add64 rfl rfl (by omega)) rfl ?_))
    refine IH2 (j+1,T3,m3) _ _ ?_ ?_ ?_ ?_
    ·simp only;omega
    ·exact ⟨rfl,trivial⟩
    ·repeat first|with_reducible apply Agr.refl|refine Agr.upd rfl ?_|refine Agr.updL rfl ?_|refine Agr.mrg rfl ?_
    ·exact ⟨by omega,set2 hT3 hT2 hj.1,by omega,hH⟩
  ·obtain rfl:j=y2+1:=by omega
   clear IH2
   repeat (first|refine WS_seq ?_|refine WS_region ?_|refine WL_nil ?_|refine WS_inBlock ?_|refine WS_exit rfl ?_|refine WS_no rfl (by omega) ?_|(refine WL_r (by first|refine (k_quo64 (m:=Y2) (n:=z) rfl rfl (by omega)).is (congrArg (Value.int .i64) hy2)|refine Run_pev rfl|refine k_add64 rfl rfl (by omega)) rfl ?_))
   refine IH (k+1,T2,m2) _ _ ?_ ?_ ?_ ?_
   ·simp only;omega
   ·exact ⟨rfl,trivial⟩
   ·repeat first|with_reducible apply Agr.refl|refine Agr.upd rfl ?_|refine Agr.updL rfl ?_|refine Agr.mrg rfl ?_
   ·exact ⟨by omega,set1 (U:=TC C R mb u) hTC hT2 hT,by omega,hH⟩
 ·obtain rfl:k=5:=by omega
  clear IH
  repeat (first|refine WS_seq ?_|refine WS_region ?_|refine WL_nil ?_|refine WS_exit rfl ?_|refine WS_false rfl ?_|refine lp rfl rfl ?_)
  refine WL_s (H_rangeS (e:=4) 1 hH rfl (by kernel_rfl) rfl rfl ?_)
  intro _ r es clock hs hH2
  replace hH:=hH2
  clear hH2
  replace hH:=nn3 hH
  replace hH:=hH.nu (New.nilO (e:=3) (sz:=1))
  replace hH:=nn4 hH
  have hl0:(leftOf es #[]).size≤10000:=by
   have h1:=hs.size
   have h2:(leftOf es #[]).size≤es.size:=Array.size_filter_le ..
   omega
  repeat (first|refine WL_nil ?_|refine WS_block ?_)
  refine WS_loop (G:=(Array Nat) × (Option Addr) × (Nat) × (Nat) × (List Int)) (fun|(seen,a,n,c,l)=>(leftOf es seen).size) 10344028897862351916213098256531456 (fun|(seen,a,n,c,l)=>[(25,.slice a n c)]) (fun|(seen,a,n,c,l),w'=>(∀ i∈l,T i)∧(∀ x∈es.toList,seen.contains x.born=true→∃ i,x.key=.int .i64 i∧i∈l)∧l.length=n∧n+(leftOf es seen).size≤10000∧Hp [] w w' [Rb b7 93 u.cells.toArray,IT b9 r es clock seen,Rb b10 66 (frz C R),Ro 3 1 a n c (l.map (Value.int .i64))]) (#[],none,0,0,[]) ⟨rfl,trivial⟩ ⟨by simp,by simp,rfl,by omega,hH⟩ ?_
  rintro ⟨seen,a,n,c,l⟩ w' σ ⟨hlT,hsl,hln,hsz,hH⟩ IH
  show WS _ _ _ _ _ (updL [(25,.slice a n c)] _) _
  repeat (first|refine WS_seq ?_|refine WS_region ?_)
  refine WL_s (H_nextS 1 hH rfl hs.old rfl rfl (fun h0=>?_) (fun e he w9 hH9=>?_))
  ·have hall:=all_seen es seen h0
   have hmem:∀ i,i∈l ↔ Tch C R mb u i:=fun i=>⟨fun h=>(hT i).1 (hlT i h),fun h=>by
    obtain ⟨x,hx,hxk⟩:=hs.all i ((hT i).2 h)
    obtain ⟨i',hi',hil⟩:=hsl x hx (hall x hx)
    rw [hxk] at hi'
    cases hi'
    exact hil⟩
   have hne:l≠[]:=by
    have hXs:=sp_le (p:=bX C mb 0) (d:=whole (vw u 0).1) (e:=wz 0*C) (by show (1:Int)≤16*C;omega)
    have hYs:=sp_le (p:=bY C mb 0) (d:=whole (vw u 0).2) (e:=wz 0*R) (by show (1:Int)≤16*R;omega)
    have hm:=(hmem _).2 ⟨0,by decide,tY1 C R mb u 0,tX1 C mb u 0,⟨Int.le_refl _,Int.ediv_le_ediv (by decide) hYs.2.1⟩,⟨Int.le_refl _,Int.ediv_le_ediv (by decide) hXs.2.1⟩,rfl⟩
    exact List.ne_nil_of_mem hm
   repeat (first|refine WS_seq ?_|refine WS_region ?_|refine WL_nil ?_|refine WS_exit rfl ?_|refine WS_false rfl ?_|(refine WL_r (by first|refine Run_pev rfl|refine k_extract rfl rfl) rfl ?_))
   refine WL_s (S_call ((sorti_spec (hH.o 3 rfl) hne hln (by omega))) rfl rfl ?_)
   rintro _ _ ⟨rfl,l',hperm,hU⟩
   replace hH:=hH.up 3 rfl hU
   replace hH:=nn4 hH
   repeat (first|refine WS_seq ?_|refine WS_region ?_|refine WL_nil ?_|refine lp rfl rfl ?_)
   exact WS_ret1 Tryz.func45 rfl ⟨a,n,c,l',rfl,by rw [hperm.length_eq];exact hln,by omega,(hH.o 3 rfl).sl,fun i=>by rw [hperm.mem_iff];exact hmem i,hH.ext⟩
  ·replace hH:=hH9
   clear hH9
   replace hH:=nn4 hH
   obtain ⟨hem,hes⟩:=mem_left he
   obtain ⟨i,hik,hiT⟩:=hs.key e hem
   have hsh:=left_shrinks es seen e he
   have hI:=hH.at 1 rfl
   repeat (first|refine WS_seq ?_|refine WS_region ?_|refine WL_nil ?_|refine WS_block ?_|refine WS_skip ?_|refine WS_true rfl ?_|(refine WL_r (by first|refine k_entryS hI hem hs.nodup rfl|refine (k_extract rfl rfl).is hik|refine Run_pev rfl|refine k_extract rfl rfl) rfl ?_))
   clear hI
   skip
   refine WL_s (H_lit (out:=[.int .i64 i]) hH (Ty.sle rfl) (Ty.zer rfl) rfl rfl rfl (by decide) rfl ?_)
   try clear hH
   intro _ blit hH
   replace hH:=nn5 hH
   refine WL_s (H_append 3 hH rfl (Ty.sle rfl) (Ty.zer rfl) rfl (Ty.byt rfl) (by decide) rfl rfl ((hH.b 4 rfl).sl0) (by simp;try omega) (by simp) (by omega) (by simp only [maxLen];omega) rfl ?_)
   try clear hH
   intro _ a2 c2 hH
   replace hH:=nn5 hH
   replace hH:=hH.del 4
   replace hH:=nn4 hH
   repeat (first|refine WL_nil ?_|refine WS_inBlock ?_|refine lp rfl rfl ?_)
   have hlm:l.map (Value.int .i64)++[.int .i64 i]=(l++[i]).map (Value.int .i64):=by simp
   rw [hlm] at hH
   refine IH (seen.push e.born,a2,n+1,c2,l++[i]) _ _ ?_ ?_ ?_ ?_
   ·exact hsh
   ·exact ⟨rfl,trivial⟩
   ·repeat first|with_reducible apply Agr.refl|refine Agr.upd rfl ?_|refine Agr.updL rfl ?_|refine Agr.mrg rfl ?_
   ·exact ⟨fun j hj=>(List.mem_append.1 hj).elim (hlT j) (fun h=>by simp at h;subst h;exact hiT),seen_push hs.nodup hem hik hsl,by simp [hln],by omega,hH⟩
end Go.Proofs.YtpbiicegmcpkpaaGreat
namespace Go.Proofs.YtpbiicegmcpkpaaGreat
open Go Go.K Go.P Go.RowKit Go.Proofs
set_option maxRecDepth 20000 in
set_option maxHeartbeats 4000000 in
theorem places_spec {o:Nat} {w:World} (ho:o<3):Does Tryz.prog 172 #[.int .u8 o] w fun v w'=>∃ l:List Int,l.length=64∧(∀ x∈l,0≤x∧x<64)∧v=.agg (l.map (Value.int .i64)).toArray∧Ext [] w w':=by
 refine Does_of (args:=[_]) Tryz.func172 rfl rfl Tryz.ntmps172 rfl ?_
 have hH:=Hp.start w
 repeat (first|refine WS_seq ?_|refine WS_region ?_)
 refine WL_s (H_box (cs:=#[.int .u8 o]) hH rfl rfl rfl ?_)
 try clear hH
 intro _ b1 hH
 replace hH:=nn1 hH
 refine WL_s (H_alloc hH (Ty.zer rfl) rfl ?_)
 try clear hH
 intro _ b2 hH
 replace hH:=nn2 hH
 repeat (first|refine WS_seq ?_|refine WS_region ?_|refine WL_nil ?_)
 refine WL_s (H_alloc hH (Ty.zer rfl) rfl ?_)
 try clear hH
 intro _ b3 hH
 replace hH:=nn3 hH
 repeat (first|refine WS_seq ?_|refine WS_region ?_|refine WL_nil ?_|refine WS_block ?_|refine lp rfl rfl ?_)
 obtain ⟨z,hz⟩:∃ z,(List.range 64).map Int.ofNat=z:=⟨_,rfl⟩
 have hzl:z.length=64:=by rw [← hz];rfl
 refine WS_loop (G:=(Nat)) (fun k=>64-k) 4080 (fun k=>[(5,.int .i64 k)]) (fun k w'=>k≤64∧Hp [] w w' [Rb b1 265 #[.int .u8 o],Rb b2 94 ((List.replicate 64 (0:Int)).map (Value.int .i64)).toArray,Rb b3 94 ((mix z (List.replicate 64 0) k).map (Value.int .i64)).toArray]) (0) ⟨rfl,trivial⟩ ⟨by omega,by rw [mix_0];exact hH⟩ ?_
 rintro k w' σ ⟨hk,hH⟩ IH
 show WS _ _ _ _ _ (updL [(5,.int .i64 k)] _) _
 have hml:=mix_len hzl (List.length_replicate (n:=64) (a:=(0:Int))) hk
 by_cases hlt:k<64
 ·have hzk:z[k]?=some (k:Int):=by rw [← hz];simp [hlt]
  repeat (first|refine WS_seq ?_|refine WS_region ?_|refine WL_nil ?_|refine WS_block ?_|refine WS_skip ?_|refine WS_yes rfl (by omega) ?_|(refine WL_r (by first|refine k_ixa1 rfl rfl (Ty.arr rfl) (by omega)|refine Run_pev rfl) rfl ?_))
  refine WL_s (H_storeB 2 (v:=.int .i64 k) hH rfl rfl rfl (by rw [List.length_map,hml];omega) rfl (Ty.shp rfl) ?_)
  try clear hH
  intro _ hH
  replace hH:=nn3 hH
  rw [← List.map_set,Int.toNat_natCast,mix_set hzl (by simp) hlt hzk] at hH
  repeat (first|refine WS_region ?_|refine WL_nil ?_|refine WS_inBlock ?_|(refine WL_r (by first|refine Run_pev rfl|refine k_add64 rfl rfl (by omega)) rfl ?_))
  refine IH (k+1) _ _ ?_ ?_ ?_ ?_
  ·omega
  ·exact ⟨rfl,trivial⟩
  ·repeat first|with_reducible apply Agr.refl|refine Agr.upd rfl ?_|refine Agr.updL rfl ?_|refine Agr.mrg rfl ?_
  ·exact ⟨by omega,hH⟩
 ·obtain rfl:k=64:=by omega
  rw [mix_n hzl (by simp),← hz] at hH
  repeat (first|refine WS_seq ?_|refine WS_region ?_|refine WL_nil ?_|refine WS_exit rfl ?_|refine WS_false rfl ?_|(refine WL_r (by first|refine k_sla rfl (Ty.arr rfl)|refine k_makeFunc1 rfl|refine Run_pev rfl) rfl ?_))
  refine WL_s (S_call ((sort_spec ho (hH.b 2 rfl) (hH.b 0 rfl))) rfl rfl ?_)
  rintro _ w4 ⟨rfl,l,hl1,hlb,hU⟩
  replace hH:=hH.up 2 rfl hU
  replace hH:=nn3 hH
  repeat (first|refine WS_seq ?_|refine WS_region ?_|refine WL_nil ?_)
  have hB:=hH.b 2 rfl
  repeat ((refine WL_r (by refine k_loadA rfl hB (by simp [hl1]) (Ty.shp rfl)) rfl ?_))
  refine WL_s (H_storeA 1 (vs:=(l.map (Value.int .i64)).toArray) (s:=64) hH rfl rfl rfl (by simp [hl1]) (by rfl) (by exact ints_one) (Ty.shp rfl) ?_)
  try clear hH
  intro _ hH
  replace hH:=nn3 hH
  repeat (refine WL_nil ?_)
  exact WS_retc1 Tryz.func172 rfl rfl (hH.b 1 rfl) (by simp [hl1]) (Ty.shp rfl) ⟨l,hl1,hlb,rfl,hH.ext⟩
set_option maxRecDepth 20000 in
set_option maxHeartbeats 4000000 in
theorem sput_spec {o:Nat} {bl:List Int} {w:World} (ho:o<3) (hbl:bl.length=64):Does Tryz.prog 140 #[.int .u8 o,.agg (bl.map (Value.int .i64)).toArray] w fun v w'=>∃ l:List Int,l.length=64∧(∀ x∈l,x=0∨x∈bl)∧v=.agg (l.map (Value.int .i64)).toArray∧Ext [] w w':=by
 refine Does_of (args:=[_,_]) Tryz.func140 rfl rfl Tryz.ntmps140 rfl ?_
 have hH:=Hp.start w
 repeat (first|refine WS_seq ?_|refine WS_region ?_)
 refine WL_s (H_box (cs:=(bl.map (Value.int .i64)).toArray) hH rfl rfl rfl ?_)
 try clear hH
 intro _ b1 hH
 replace hH:=nn1 hH
 refine WL_s (H_alloc hH (Ty.zer rfl) rfl ?_)
 try clear hH
 intro _ b2 hH
 replace hH:=nn2 hH
 repeat (first|refine WS_seq ?_|refine WS_region ?_|refine WL_nil ?_)
 refine WL_s (H_alloc hH (Ty.zer rfl) rfl ?_)
 try clear hH
 intro _ b3 hH
 replace hH:=nn3 hH
 repeat (first|refine WS_seq ?_|refine WS_region ?_|refine WL_nil ?_|refine lp rfl rfl ?_)
 refine WL_s (S_call ((places_spec ho)) rfl rfl ?_)
 rintro _ _ ⟨ps,hpl,hpb,rfl,hE0⟩
 replace hH:=hH.ext0 hE0
 clear hE0
 replace hH:=nn3 hH
 repeat (first|refine WL_nil ?_|refine WS_block ?_|refine lp rfl rfl ?_)
 refine WS_loop (G:=(Nat) × (List Int)) (fun|(k,q)=>64-k) 1047744 (fun|(k,q)=>[(10,.int .i64 k)]) (fun|(k,q),w'=>k≤64∧q.length=64∧(∀ x∈q,x=0∨x∈bl)∧Hp [] w w' [Rb b1 94 (bl.map (Value.int .i64)).toArray,Rb b2 94 ((List.replicate 64 (0:Int)).map (Value.int .i64)).toArray,Rb b3 94 (q.map (Value.int .i64)).toArray]) (0,List.replicate 64 0) ⟨rfl,trivial⟩ ⟨by omega,by simp,fun x hx=>.inl (List.eq_of_mem_replicate hx),hH⟩ ?_
 rintro ⟨k,q⟩ w' σ ⟨hk,hql,hqb,hH⟩ IH
 show WS _ _ _ _ _ (updL [(10,.int .i64 k)] _) _
 by_cases hlt:k<64
 ·obtain ⟨p,hp⟩:∃ p,ps[k]?=some p:=⟨_,List.getElem?_eq_getElem (by omega)⟩
  have hpp:=hpb p (List.mem_of_getElem? hp)
  obtain ⟨p,rfl⟩:∃ n:Nat,p=n:=⟨p.toNat,by omega⟩
  obtain ⟨x,hx⟩:∃ x,bl[p]?=some x:=⟨_,List.getElem?_eq_getElem (by omega)⟩
  have hx1:(ps.map (Value.int .i64)).toArray[k]?=some (.int .i64 p):=by simp [hp]
  have hx2:(bl.map (Value.int .i64))[p]?=some (.int .i64 x):=by simp [hx]
  have hS:SlA w' (some ⟨b1,0,none⟩) (bl.map (Value.int .i64)):=(hH.b 0 rfl).sl0
  repeat (first|refine WS_seq ?_|refine WS_region ?_|refine WL_nil ?_|refine WS_block ?_|refine WS_skip ?_|refine WS_yes rfl (by omega) ?_|(refine WL_r (by first|refine k_index1 rfl rfl (Ty.arr rfl) (by omega) hx1|refine k_ixa1 rfl rfl (Ty.arr rfl) (by omega)|refine k_loads rfl hS hx2 (Ty.shp rfl)|refine Run_pev rfl) rfl ?_))
  refine WL_s (H_storeB 2 (v:=.int .i64 x) hH rfl rfl rfl (by simp [hql];omega) rfl (Ty.shp rfl) ?_)
  try clear hH
  intro _ hH
  replace hH:=nn3 hH
  rw [← List.map_set,Int.toNat_natCast] at hH
  repeat (first|refine WS_region ?_|refine WL_nil ?_|refine WS_inBlock ?_|(refine WL_r (by first|refine Run_pev rfl|refine k_add64 rfl rfl (by omega)) rfl ?_))
  refine IH (k+1,q.set k x) _ _ ?_ ?_ ?_ ?_
  ·simp only;omega
  ·exact ⟨rfl,trivial⟩
  ·repeat first|with_reducible apply Agr.refl|refine Agr.upd rfl ?_|refine Agr.updL rfl ?_|refine Agr.mrg rfl ?_
  ·exact ⟨by omega,by rw [List.length_set];exact hql,fun y hy=>(List.mem_or_eq_of_mem_set hy).elim (hqb y) (fun e=>.inr (e▸List.mem_of_getElem? hx)),hH⟩
 ·obtain rfl:k=64:=by omega
  have hB:=hH.b 2 rfl
  have hl1:=hql
  repeat (first|refine WS_seq ?_|refine WS_region ?_|refine WL_nil ?_|refine WS_exit rfl ?_|refine WS_false rfl ?_|(refine WL_r (by first|refine k_loadA rfl hB (by simp [hql]) (Ty.shp rfl)|refine Run_pev rfl) rfl ?_))
  refine WL_s (H_storeA 1 (vs:=(q.map (Value.int .i64)).toArray) (s:=64) hH rfl rfl rfl (by simp [hl1]) (by rfl) (by exact ints_one) (Ty.shp rfl) ?_)
  try clear hH
  intro _ hH
  replace hH:=nn3 hH
  repeat (refine WL_nil ?_)
  exact WS_retc1 Tryz.func140 rfl rfl (hH.b 1 rfl) (by simp [hql]) (Ty.shp rfl) ⟨q,hql,hqb,rfl,hH.ext⟩
end Go.Proofs.YtpbiicegmcpkpaaGreat
namespace Go.Proofs.YtpbiicegmcpkpaaGreat
open Go Go.K Go.P Go.RowKit Go.Proofs
structure KD where
 bc:Nat
 p0:Nat
 p1:Nat
 p2:Nat
 D0:CD
 D1:CD
 D2:CD
structure KD.ok (d:KD):Prop where
 s0:d.D0.sz=szM.map Int.toNat
 s1:d.D1.sz=szS.map Int.toNat
 s2:d.D2.sz=szP.map Int.toNat
 o0:d.D0.ok
 o1:d.D1.ok
 o2:d.D2.ok
def RK (d:KD):Res:=Res.and (Rb d.bc 146 #[pt d.p0,pt d.p1,pt d.p2]) (Res.and (RC d.p0 d.D0) (Res.and (RC d.p1 d.D1) (RC d.p2 d.D2)))
structure SD where
 s:Nat
 bf:Nat
 mf:Nat
 bt:Nat
 m1:Nat
 m2:Nat
 m3:Nat
 c:Nat
 r:Nat
 bc:Nat
 id:Int
 hq:Int
 inter:Bool
 down:Bool
abbrev SD.cells (d:SD) (qp:Int):Array Value:=#[pt d.bc,.int .i64 d.id,.bool d.inter,.bool d.down,.int .i64 d.hq,.int .i64 qp,pt d.bf,pt d.bt]
abbrev SD.F (d:SD):Res:=RF d.bf d.mf d.c d.r
abbrev SD.T (d:SD):Res:=RT 1000 d.bt d.m1 d.m2 d.m3 d.c d.r
def RS (d:SD) (qp:Int):Res where
 fp:=d.s::(d.F.fp++d.T.fp)
 holds:=fun w=>Blk w d.s 167 (d.cells qp)∧d.F.holds w∧d.T.holds w∧d.mf ∉ [d.m1,d.m2,d.m3]
 keep:=fun ⟨h1,h2,h3,h4⟩ hE hS=>⟨h1.ext hE (fun hb=>hS _ hb (by simp)),d.F.keep h2 hE (fun s hs hb=>hS s hs (by simp [hb])),d.T.keep h3 hE (fun s hs hb=>hS s hs (by simp [hb])),h4⟩
 lt:=fun ⟨h1,h2,h3,_⟩ s hs=>by
  rcases List.mem_cons.1 hs with rfl|hs
  ·exact h1.lt
  ·rcases List.mem_append.1 hs with hs|hs
   ·exact d.F.lt h2 s hs
   ·exact d.T.lt h3 s hs
section
variable {d:SD} {qp:Int} {w w':World}
theorem RS.f (h:(RS d qp).holds w) (hU:Upd d.F d.F w w'):Upd (RS d qp) (RS d qp) w w':=by
 obtain ⟨h1,h2,h3,h4⟩:=h
 have hsf:d.s ∉ d.F.fp:=by
  simp only [SD.F,RF,List.mem_cons,List.not_mem_nil,or_false,not_or]
  exact ⟨blk_ne' h1 h2.1 (by decide),blk_map h1 h2.2⟩
 have hft:∀ x∈d.F.fp,x ∉ d.T.fp:=by
  intro x hx hx2
  simp only [SD.F,RF,List.mem_cons,List.not_mem_nil,or_false] at hx
  simp only [SD.T,RT,List.mem_cons,List.not_mem_nil,or_false] at hx2
  rcases hx with rfl|rfl
  ·rcases hx2 with e|e|e|e
   ·exact blk_ne' h2.1 h3.1 (by decide) e
   ·exact blk_map h2.1 h3.2.1 e
   ·exact blk_map h2.1 h3.2.2.1 e
   ·exact blk_map h2.1 h3.2.2.2 e
  ·rcases hx2 with e|e|e|e
   ·exact blk_map h3.1 h2.2 e.symm
   ·exact h4 (by simp [e])
   ·exact h4 (by simp [e])
   ·exact h4 (by simp [e])
 exact ⟨hU.ext.weaken (fun s hs=>by simp [RS,hs]),⟨h1.ext hU.ext hsf,hU.holds,d.T.keep h3 hU.ext hft,h4⟩,fun _ hx=>.inl hx⟩
theorem RS.t (h:(RS d qp).holds w) (hU:Upd d.T d.T w w'):Upd (RS d qp) (RS d qp) w w':=by
 obtain ⟨h1,h2,h3,h4⟩:=h
 have hst:d.s ∉ d.T.fp:=by
  simp only [SD.T,RT,List.mem_cons,List.not_mem_nil,or_false,not_or]
  exact ⟨blk_ne' h1 h3.1 (by decide),blk_map h1 h3.2.1,blk_map h1 h3.2.2.1,blk_map h1 h3.2.2.2⟩
 have hft:∀ x∈d.T.fp,x ∉ d.F.fp:=by
  intro x hx2 hx
  simp only [SD.F,RF,List.mem_cons,List.not_mem_nil,or_false] at hx
  simp only [SD.T,RT,List.mem_cons,List.not_mem_nil,or_false] at hx2
  rcases hx with rfl|rfl
  ·rcases hx2 with e|e|e|e
   ·exact blk_ne' h2.1 h3.1 (by decide) e
   ·exact blk_map h2.1 h3.2.1 e
   ·exact blk_map h2.1 h3.2.2.1 e
   ·exact blk_map h2.1 h3.2.2.2 e
  ·rcases hx2 with e|e|e|e
   ·exact blk_map h3.1 h2.2 e.symm
   ·exact h4 (by simp [e])
   ·exact h4 (by simp [e])
   ·exact h4 (by simp [e])
 exact ⟨hU.ext.weaken (fun s hs=>by simp [RS,hs]),⟨h1.ext hU.ext hst,d.F.keep h2 hU.ext hft,hU.holds,h4⟩,fun _ hx=>.inl hx⟩
end
theorem pnew_spec {w:World}:Does Tryz.prog 28 #[] w fun v w'=>∃ d:KD,d.ok∧v=pt d.bc∧New (RK d) w w':=by
 refine Does_of (args:=[]) Tryz.func28 rfl rfl Tryz.ntmps28 rfl ?_
 have hH:=Hp.start w
 repeat (first|refine WS_seq ?_|refine WS_region ?_|refine WL_nil ?_|refine lp rfl rfl ?_)
 refine WL_s (S_call (modes_spec) rfl rfl ?_)
 rintro _ _ ⟨p0,D0,hs0,ho0,rfl,hN⟩
 replace hH:=hH.nu hN
 replace hH:=nn1 hH
 skip
 refine WL_s (S_call (sizes_spec) rfl rfl ?_)
 rintro _ _ ⟨p1,D1,hs1,ho1,rfl,hN⟩
 replace hH:=hH.nu hN
 replace hH:=nn2 hH
 skip
 refine WL_s (S_call (patterns_spec) rfl rfl ?_)
 rintro _ _ ⟨p2,D2,hs2,ho2,rfl,hN⟩
 replace hH:=hH.nu hN
 replace hH:=nn3 hH
 repeat ((refine WL_r (by refine k_buildS (cs:=[pt p0,pt p1,pt p2]) (Ty.zer rfl) (Ty.plc rfl) rfl) rfl ?_))
 refine WL_s (H_box (cs:=#[pt p0,pt p1,pt p2]) hH rfl rfl rfl ?_)
 try clear hH
 intro _ b hH
 replace hH:=nn4 hH
 repeat (first|refine WL_nil ?_|refine lp rfl rfl ?_)
 refine WS_ret1 Tryz.func28 rfl ⟨⟨b,p0,p1,p2,D0,D1,D2⟩,⟨hs0,hs1,hs2,ho0,ho1,ho2⟩,rfl,hH.ext,⟨hH.b 3 rfl,hH.at 0 rfl,hH.at 1 rfl,hH.at 2 rfl⟩,?_⟩
 intro x hx
 have hn:∀ (i:Nat) (r:Res),[RC p0 D0,RC p1 D1,RC p2 D2,Rb b 146 #[pt p0,pt p1,pt p2]][i]?=some r→x∈r.fp→w.heap.size≤x:=fun i r hr hx=>by
  rcases hH.new r (List.mem_of_getElem? hr) x hx with h|h
  ·cases h
  ·exact h
 rcases List.mem_append.1 hx with h|h
 ·exact hn 3 _ rfl h
 ·rcases List.mem_append.1 h with h|h
  ·exact hn 0 _ rfl h
  ·rcases List.mem_append.1 h with h|h
   ·exact hn 1 _ rfl h
   ·exact hn 2 _ rfl h
theorem order_spec {f:Nat} {e:Bool} {w:World} (hf:f<3):Does Tryz.prog 139 #[.bool e,.int .u8 f] w fun v w'=>v=.int .u8 (if e then (if f=1 then 2 else if f=2 then 1 else 0) else 0:Nat)∧w'=w:=by
 refine Does_of (args:=[_,_]) Tryz.func139 rfl rfl Tryz.ntmps139 rfl ?_
 cases e
 ·repeat (first|refine WS_seq ?_|refine WS_region ?_|refine WL_nil ?_|refine WS_block ?_|refine WS_inBlock ?_|refine WS_skip ?_|refine WS_false rfl ?_|refine WL_gno rfl rfl rfl rfl rfl ?_|refine lp rfl rfl ?_)
  exact WS_ret1 Tryz.func139 rfl ⟨rfl,rfl⟩
 ·rcases (show f=0∨f=1∨f=2 by omega) with rfl|rfl|rfl
  ·repeat (first|refine WS_seq ?_|refine WS_region ?_|refine WL_nil ?_|refine WS_block ?_|refine WS_inBlock ?_|refine WS_skip ?_|refine WS_false rfl ?_|refine WL_gyes rfl rfl rfl ?_|refine lp rfl rfl ?_)
   exact WS_ret1 Tryz.func139 rfl ⟨rfl,rfl⟩
  ·repeat (first|refine WS_seq ?_|refine WS_region ?_|refine WL_nil ?_|refine WS_block ?_|refine WS_true rfl ?_|refine WL_gyes rfl rfl rfl ?_|refine lp rfl rfl ?_)
   exact WS_ret1 Tryz.func139 rfl ⟨rfl,rfl⟩
  ·repeat (first|refine WS_seq ?_|refine WS_region ?_|refine WL_nil ?_|refine WS_block ?_|refine WS_true rfl ?_|refine WS_false rfl ?_|refine WL_gyes rfl rfl rfl ?_|refine lp rfl rfl ?_)
   exact WS_ret1 Tryz.func139 rfl ⟨rfl,rfl⟩
set_option maxHeartbeats 1000000 in
theorem pstart_spec {k:Nat} {q:Int} {u0 u1 u2 u3:Value} {e:Bool} {L:List Int} {w:World} (hl:L.length=384):Does Tryz.prog 141 #[.agg (mcl k q u0 u1 u2 u3 e L).toArray] w fun v w'=>v=.int .i64 (if k=3∨k=4 then 1 else 0:Nat)∧Ext [] w w':=by
 refine Does_of (args:=[_]) Tryz.func141 rfl rfl Tryz.ntmps141 rfl ?_
 have hH:=Hp.start w
 have hml:=mcl_len (k:=k) (q:=q) (u0:=u0) (u1:=u1) (u2:=u2) (u3:=u3) (e:=e) hl
 repeat (first|refine WS_seq ?_|refine WS_region ?_)
 refine WL_s (H_box (cs:=(mcl k q u0 u1 u2 u3 e L).toArray) hH rfl rfl rfl ?_)
 try clear hH
 intro _ b1 hH
 replace hH:=nn1 hH
 have hB:=hH.b 0 rfl
 repeat (first|refine WS_seq ?_|refine WS_region ?_|refine WL_nil ?_|(refine WL_r (by first|refine k_loadA rfl hB (by simp [hml]) (Ty.shp rfl)|refine Run_pev rfl) rfl ?_))
 refine WL_s (S_call (malone_spec) rfl rfl ?_)
 rintro _ _ ⟨rfl,hE0⟩
 replace hH:=hH.ext0 hE0
 clear hE0
 replace hH:=nn1 hH
 by_cases h:k=3∨k=4
 ·rw [if_pos h]
  repeat (first|refine WS_seq ?_|refine WS_region ?_|refine WL_nil ?_|refine WS_yes rfl (by omega) ?_|refine lp rfl rfl ?_)
  exact WS_ret1 Tryz.func141 rfl ⟨rfl,hH.ext⟩
 ·rw [if_neg h]
  repeat (first|refine WS_seq ?_|refine WS_region ?_|refine WL_nil ?_|refine WS_skip ?_|refine WS_no rfl (by omega) ?_|refine lp rfl rfl ?_)
  exact WS_ret1 Tryz.func141 rfl ⟨rfl,hH.ext⟩
end Go.Proofs.YtpbiicegmcpkpaaGreat
