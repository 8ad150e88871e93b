/- A part of the proof that TopWorse is true at every input; no condition. -/
import Derived.Test.YtpbiicegmcpkpaaGreatT08
namespace Go.Proofs.YtpbiicegmcpkpaaGreat
open Go Go.K Go.P Go.RowKit Go.Proofs
abbrev RB (a:Option Addr) (c:Nat) (l:List Nat):Res:=Ro 5 1 a l.length c (l.map B)
set_option maxHeartbeats 1000000 in
theorem put_spec {a:Option Addr} {n cap:Nat} {l:List Nat} {w:World} (hS:SlA w a (l.map B)) (hl:Byt l) (hn:l.length=n) (hlen:n≤1099511627776) :
  Does Tryz.prog 62 #[.slice a n cap] w fun v w'=>∃ a' c',v=.slice a' (escF 0 l).length c'∧New (RB a' c' (escF 0 l)) w w':=by
 subst hn
 refine Does_of (args:=[_]) Tryz.func62 rfl rfl Tryz.ntmps62 rfl ?_
 have hH:=(Hp.start w).nu (New.nilO (e:=5) (sz:=1))
 repeat (first|refine WS_seq ?_|refine WS_region ?_|refine WL_nil ?_|refine WS_block ?_|(refine WL_r (by first|refine Run_pev rfl|refine k_len rfl (Ty.isl rfl)) rfl ?_))
 refine WS_loop (G:=(Nat) × (Option Addr) × (Nat)) (fun|(k,a1,c1)=>l.length-k) 2147483224 (fun|(k,a1,c1)=>[(9,.int .i64 k),(3,.slice a1 (escF 0 (l.take k)).length c1),(4,.int .i64 (escZ 0 (l.take k):Nat))]) (fun|(k,a1,c1),w'=>k≤l.length∧Hp [] w w' [RB a1 c1 (escF 0 (l.take k))]) (0,none,0) ⟨rfl,rfl,rfl,trivial⟩ ⟨by omega,hH⟩ ?_
 rintro ⟨k,a1,c1⟩ w' σ ⟨hk,hH⟩ IH
 show WS _ _ _ _ _ (updL [(9,.int .i64 k),(3,.slice a1 (escF 0 (l.take k)).length c1),(4,.int .i64 (escZ 0 (l.take k):Nat))] _) _
 by_cases hlt:k<l.length
 ·have hv:(l.map B)[k]?=some (B l[k]):=by simp [hlt]
  have e1:=escF_take hlt
  have e2:=escZ_take hlt
  have hc:l[k]<256:=hl _ (List.getElem_mem hlt)
  have ho:=escF_len (l.take k) 0
  have hz:=escZ_le (l.take k) 0 (by omega)
  have hol:(escF 0 (l.take k)).length≤2*l.length:=by simp at ho;omega
  clear ho
  generalize escF 0 (l.take k)=o at *
  generalize escZ 0 (l.take k)=z at *
  generalize hcd:l[k]=c at *
  have hSk:=hH.old hS
  repeat (first|refine WS_seq ?_|refine WS_region ?_|refine WL_nil ?_|refine WS_block ?_|refine WS_skip ?_|refine WS_yes rfl (by omega) ?_|(refine WL_r (by first|refine k_ix1 rfl rfl hSk (by simp) (Ty.sle rfl) (by omega)|refine k_loads rfl hSk hv (Ty.shp rfl)|refine Run_pev rfl) rfl ?_))
  by_cases h2:2≤z∧c≤3
  ·have h21:=h2.1;have h22:=h2.2
   simp only [escO,escS,if_pos h2] at e1 e2
   repeat (first|refine WS_seq ?_|refine WS_region ?_|refine WL_nil ?_|refine WS_yes rfl (by omega) ?_|refine WL_gyes rfl rfl (dT (by omega)) ?_|(refine WL_r (by first|refine Run_pev rfl|refine k_pick_t (dT (by omega)) rfl) rfl ?_))
   refine WL_s (H_lit (out:=[B 3]) hH (Ty.sle rfl) (Ty.zer rfl) rfl rfl rfl (by decide) rfl ?_)
   try clear hH
   intro _ blit hH
   replace hH:=nn2 hH
   refine WL_s (H_append 0 hH rfl (Ty.sle rfl) (Ty.zer rfl) rfl (Ty.byt rfl) (by decide) rfl rfl ((hH.b 1 rfl).sl0) (by simp;try omega) (by simp) (by omega) (by simp only [maxLen];omega) rfl ?_)
   try clear hH
   intro _ a2 c2 hH
   replace hH:=nn2 hH
   replace hH:=hH.del 1
   replace hH:=nn1 hH
   repeat (first|refine WS_seq ?_|refine WS_region ?_|refine WL_nil ?_|refine lp rfl rfl ?_)
   skip
   refine WL_s (H_lit (out:=[B c]) hH (Ty.sle rfl) (Ty.zer rfl) rfl rfl rfl (by decide) rfl ?_)
   try clear hH
   intro _ blit hH
   replace hH:=nn2 hH
   refine WL_s (H_append 0 hH rfl (Ty.sle rfl) (Ty.zer rfl) rfl (Ty.byt rfl) (by decide) rfl rfl ((hH.b 1 rfl).sl0) (by simp;try omega) (by simp) (by omega) (by simp only [maxLen];omega) rfl ?_)
   try clear hH
   intro _ a3 c3 hH
   replace hH:=nn2 hH
   replace hH:=hH.del 1
   replace hH:=nn1 hH
   repeat (first|refine WS_seq ?_|refine WS_region ?_|refine WL_nil ?_|refine lp rfl rfl ?_)
   by_cases h0:c=0
   ·simp only [if_pos h0] at e2
    repeat (first|refine WS_region ?_|refine WL_nil ?_|refine WS_inBlock ?_|refine WS_yes rfl (by omega) ?_|(refine WL_r (by first|refine Run_pev rfl|refine k_add64 rfl rfl (by omega)) rfl ?_))
    refine IH (k+1,a3,c3) _ _ ?_ ?_ ?_ ?_
    ·simp only;omega
    ·exact ⟨rfl,by simp only [e1];simp;rfl,by simp only [e2];rfl,trivial⟩
    ·repeat first|with_reducible apply Agr.refl|refine Agr.upd rfl ?_|refine Agr.updL rfl ?_|refine Agr.mrg rfl ?_
    ·exact ⟨by omega,by simp only [e1,RB];simpa using hH⟩
   ·simp only [if_neg h0] at e2
    repeat (first|refine WS_region ?_|refine WL_nil ?_|refine WS_inBlock ?_|refine WS_no rfl (by omega) ?_|(refine WL_r (by first|refine Run_pev rfl|refine k_add64 rfl rfl (by omega)) rfl ?_))
    refine IH (k+1,a3,c3) _ _ ?_ ?_ ?_ ?_
    ·simp only;omega
    ·exact ⟨rfl,by simp only [e1];simp;rfl,by simp only [e2];rfl,trivial⟩
    ·repeat first|with_reducible apply Agr.refl|refine Agr.upd rfl ?_|refine Agr.updL rfl ?_|refine Agr.mrg rfl ?_
    ·exact ⟨by omega,by simp only [e1,RB];simpa using hH⟩
  ·simp only [escO,escS,if_neg h2] at e1 e2
   by_cases h21:2≤z
   ·have h22:¬ c≤3:=fun h=>h2 ⟨h21,h⟩
    simp only [if_neg (show ¬ c=0 by omega)] at e2
    repeat (first|refine WS_seq ?_|refine WS_region ?_|refine WL_nil ?_|refine WS_skip ?_|refine WS_no rfl (by omega) ?_|refine WL_gyes rfl rfl (dT (by omega)) ?_|(refine WL_r (by first|refine Run_pev rfl|refine k_pick_t (dT (by omega)) rfl) rfl ?_))
    refine WL_s (H_lit (out:=[B c]) hH (Ty.sle rfl) (Ty.zer rfl) rfl rfl rfl (by decide) rfl ?_)
    try clear hH
    intro _ blit hH
    replace hH:=nn2 hH
    refine WL_s (H_append 0 hH rfl (Ty.sle rfl) (Ty.zer rfl) rfl (Ty.byt rfl) (by decide) rfl rfl ((hH.b 1 rfl).sl0) (by simp;try omega) (by simp) (by omega) (by simp only [maxLen];omega) rfl ?_)
    try clear hH
    intro _ a3 c3 hH
    replace hH:=nn2 hH
    replace hH:=hH.del 1
    replace hH:=nn1 hH
    repeat (first|refine WS_seq ?_|refine WS_region ?_|refine WL_nil ?_|refine WS_inBlock ?_|refine WS_no rfl (by omega) ?_|(refine WL_r (by first|refine Run_pev rfl|refine k_add64 rfl rfl (by omega)) rfl ?_))
    refine IH (k+1,a3,c3) _ _ ?_ ?_ ?_ ?_
    ·simp only;omega
    ·exact ⟨rfl,by simp only [e1];simp;rfl,by simp only [e2];rfl,trivial⟩
    ·repeat first|with_reducible apply Agr.refl|refine Agr.upd rfl ?_|refine Agr.updL rfl ?_|refine Agr.mrg rfl ?_
    ·exact ⟨by omega,by simp only [e1,RB];simpa using hH⟩
   ·skip
    repeat (first|refine WS_seq ?_|refine WS_region ?_|refine WL_nil ?_|refine WS_skip ?_|refine WS_false rfl ?_|refine WL_gno (b:=false) rfl rfl (dF (by omega)) rfl rfl ?_|(refine WL_r (by first|refine Run_pev rfl|refine k_pick_f (dF (by omega)) rfl) rfl ?_))
    refine WL_s (H_lit (out:=[B c]) hH (Ty.sle rfl) (Ty.zer rfl) rfl rfl rfl (by decide) rfl ?_)
    try clear hH
    intro _ blit hH
    replace hH:=nn2 hH
    refine WL_s (H_append 0 hH rfl (Ty.sle rfl) (Ty.zer rfl) rfl (Ty.byt rfl) (by decide) rfl rfl ((hH.b 1 rfl).sl0) (by simp;try omega) (by simp) (by omega) (by simp only [maxLen];omega) rfl ?_)
    try clear hH
    intro _ a3 c3 hH
    replace hH:=nn2 hH
    replace hH:=hH.del 1
    replace hH:=nn1 hH
    repeat (first|refine WS_seq ?_|refine WS_region ?_|refine WL_nil ?_|refine lp rfl rfl ?_)
    by_cases h0:c=0
    ·simp only [if_pos h0] at e2
     repeat (first|refine WS_region ?_|refine WL_nil ?_|refine WS_inBlock ?_|refine WS_yes rfl (by omega) ?_|(refine WL_r (by first|refine Run_pev rfl|refine k_add64 rfl rfl (by omega)) rfl ?_))
     refine IH (k+1,a3,c3) _ _ ?_ ?_ ?_ ?_
     ·simp only;omega
     ·exact ⟨rfl,by simp only [e1];simp;rfl,by simp only [e2];rfl,trivial⟩
     ·repeat first|with_reducible apply Agr.refl|refine Agr.upd rfl ?_|refine Agr.updL rfl ?_|refine Agr.mrg rfl ?_
     ·exact ⟨by omega,by simp only [e1,RB];simpa using hH⟩
    ·simp only [if_neg h0] at e2
     repeat (first|refine WS_region ?_|refine WL_nil ?_|refine WS_inBlock ?_|refine WS_no rfl (by omega) ?_|(refine WL_r (by first|refine Run_pev rfl|refine k_add64 rfl rfl (by omega)) rfl ?_))
     refine IH (k+1,a3,c3) _ _ ?_ ?_ ?_ ?_
     ·simp only;omega
     ·exact ⟨rfl,by simp only [e1];simp;rfl,by simp only [e2];rfl,trivial⟩
     ·repeat first|with_reducible apply Agr.refl|refine Agr.upd rfl ?_|refine Agr.updL rfl ?_|refine Agr.mrg rfl ?_
     ·exact ⟨by omega,by simp only [e1,RB];simpa using hH⟩
 ·obtain rfl:k=l.length:=by omega
  rw [List.take_length] at hH ⊢
  repeat (first|refine WS_seq ?_|refine WS_region ?_|refine WL_nil ?_|refine WS_exit rfl ?_|refine WS_no rfl (by omega) ?_|refine lp rfl rfl ?_)
  exact WS_ret1 Tryz.func62 rfl ⟨_,_,rfl,hH.new1 0 rfl⟩
theorem marker_spec {w:World}:Does Tryz.prog 61 #[] w fun v w'=>∃ b,v=.slice (some ⟨b,0,none⟩) 3 3∧New (Rb b 5 #[B 0,B 0,B 1]) w w':=by
 refine Does_of (args:=[]) Tryz.func61 rfl rfl Tryz.ntmps61 rfl ?_
 have hH:=Hp.start w
 repeat (first|refine WS_seq ?_|refine WS_region ?_|refine WL_nil ?_|refine lp rfl rfl ?_)
 refine WL_s (H_lit (out:=[B 0,B 0,B 1]) hH (Ty.sle rfl) (Ty.zer rfl) rfl rfl rfl (by decide) rfl ?_)
 try clear hH
 intro _ b hH
 replace hH:=nn1 hH
 repeat (first|refine WL_nil ?_|refine lp rfl rfl ?_)
 exact WS_ret1 Tryz.func61 rfl ⟨_,rfl,hH.new1 0 rfl⟩
def Found (l:List Nat) (from':Int) (v:Value):Prop :=
 (∃ i:Nat,v=.tuple #[.int .i64 i,.bool true]∧from'≤i∧IsM l i∧∀ j:Nat,from'≤j→j<i→¬ IsM l j)∨(v=.tuple #[.int .i64 0,.bool false]∧∀ j:Nat,from'≤j→¬ IsM l j)
theorem noM_step {l:List Nat} {f:Int} {k:Nat} (hno:∀ j:Nat,f≤j→j<k→¬ IsM l j) (h:¬ IsM l k):∀ j:Nat,f≤j→j<k+1→¬ IsM l j:=fun j h3 h4=>by
 rcases Nat.lt_or_ge j k with h5|h5
 ·exact hno j h3 h5
 ·obtain rfl:j=k:=by omega
  exact h
theorem nat_max (f:Int) (h:f≤9223372036854775807):∃ m:Nat,max f 0=(m:Int):=⟨(max f 0).toNat,by omega⟩
set_option maxHeartbeats 1000000 in
theorem find_spec {a:Option Addr} {n cap:Nat} {l:List Nat} {f:Int} {w:World} (hS:SlA w a (l.map B)) (hl:Byt l) (hn:l.length=n) (hlen:n≤1099511627776) (hf:f≤9223372036854775807) :
  Does Tryz.prog 104 #[.slice a n cap,.int .i64 f] w fun v w'=>Found l f v∧w'=w:=by
 subst hn
 refine Does_of (args:=[_,_]) Tryz.func104 rfl rfl Tryz.ntmps104 rfl ?_
 obtain ⟨m,hm⟩:=nat_max f hf
 repeat (first|refine WS_seq ?_|refine WS_region ?_|refine WL_nil ?_|refine WS_block ?_|(refine WL_r (by first|refine Run_pev rfl|refine k_max rfl rfl) rfl ?_))
 rw [hm]
 refine WS_loop (G:=(Nat)) (fun k=>l.length-k) 274877906544 (fun k=>[(6,.int .i64 k),(4,.int .i64 0),(5,.bool false)]) (fun k w'=>w'=w∧m≤k∧∀ j:Nat,f≤j→j<k→¬ IsM l j) (m) ⟨rfl,rfl,rfl,trivial⟩ ⟨rfl,Nat.le_refl _,fun j h1 h2=>by omega⟩ ?_
 rintro k w' σ ⟨hw,hmk,hno⟩ IH
 show WS _ _ _ _ _ (updL [(6,.int .i64 k),(4,.int .i64 0),(5,.bool false)] _) _
 subst hw
 by_cases hlt:k+2<l.length
 ·have hv0:(l.map B)[k]?=some (B l[k]):=by simp [show k<l.length by omega]
  have hv1:(l.map B)[k+1]?=some (B l[k+1]):=by simp [show k+1<l.length by omega]
  have hv2:(l.map B)[k+2]?=some (B l[k+2]):=by simp [hlt]
  have hM:IsM l k ↔ l[k]=0∧l[k+1]=0∧l[k+2]=1:=by simp [IsM,hlt,show k<l.length by omega,show k+1<l.length by omega]
  have b0:l[k]<256:=hl _ (List.getElem_mem _)
  generalize l[k]=c0 at *
  generalize l[k + 1]=c1 at *
  generalize l[k + 2]=c2 at *
  by_cases h0:c0=0
  ·by_cases h1:c1=0
   ·by_cases h2:c2=1
    ·repeat (first|refine WS_seq ?_|refine WS_region ?_|refine WL_nil ?_|refine WS_block ?_|refine WS_skip ?_|refine WS_yes rfl (by omega) ?_|refine WL_gyes rfl rfl (dT (by omega)) ?_|(refine WL_r (by first|refine k_ix1 rfl rfl hS (by simp) (Ty.sle rfl) (by omega)|refine k_loads rfl hS hv0 (Ty.shp rfl)|refine k_loads rfl hS hv1 (Ty.shp rfl)|refine k_loads rfl hS hv2 (Ty.shp rfl)|refine Run_pev rfl|refine k_add64 rfl rfl (by omega)|refine k_sub64 rfl rfl (by omega)|refine k_len rfl (Ty.isl rfl)|refine k_pick_t (dT (by omega)) rfl) rfl ?_))
     exact WS_ret2 Tryz.func104 rfl ⟨.inl ⟨k,rfl,by omega,hM.2 ⟨h0,h1,h2⟩,hno⟩,rfl⟩
    ·repeat (first|refine WS_seq ?_|refine WS_region ?_|refine WL_nil ?_|refine WS_block ?_|refine WS_inBlock ?_|refine WS_skip ?_|refine WS_yes rfl (by omega) ?_|refine WS_no rfl (by omega) ?_|refine WL_gyes rfl rfl (dT (by omega)) ?_|(refine WL_r (by first|refine k_ix1 rfl rfl hS (by simp) (Ty.sle rfl) (by omega)|refine k_loads rfl hS hv0 (Ty.shp rfl)|refine k_loads rfl hS hv1 (Ty.shp rfl)|refine k_loads rfl hS hv2 (Ty.shp rfl)|refine Run_pev rfl|refine k_add64 rfl rfl (by omega)|refine k_sub64 rfl rfl (by omega)|refine k_len rfl (Ty.isl rfl)|refine k_pick_t (dT (by omega)) rfl) rfl ?_))
     refine IH (k+1) _ _ ?_ ?_ ?_ ?_
     ·omega
     ·exact ⟨rfl,rfl,rfl,trivial⟩
     ·repeat first|with_reducible apply Agr.refl|refine Agr.upd rfl ?_|refine Agr.updL rfl ?_|refine Agr.mrg rfl ?_
     ·exact ⟨rfl,by omega,noM_step hno (by rw [hM];omega)⟩
   ·repeat (first|refine WS_seq ?_|refine WS_region ?_|refine WL_nil ?_|refine WS_block ?_|refine WS_inBlock ?_|refine WS_skip ?_|refine WS_false rfl ?_|refine WS_yes rfl (by omega) ?_|refine WL_gyes rfl rfl (dT (by omega)) ?_|refine WL_gno (b:=false) rfl rfl (dF (by omega)) rfl rfl ?_|(refine WL_r (by first|refine k_ix1 rfl rfl hS (by simp) (Ty.sle rfl) (by omega)|refine k_loads rfl hS hv0 (Ty.shp rfl)|refine k_loads rfl hS hv1 (Ty.shp rfl)|refine Run_pev rfl|refine k_add64 rfl rfl (by omega)|refine k_sub64 rfl rfl (by omega)|refine k_len rfl (Ty.isl rfl)|refine k_pick_f (dF (by omega)) rfl|refine k_pick_t (dT (by omega)) rfl) rfl ?_))
    refine IH (k+1) _ _ ?_ ?_ ?_ ?_
    ·omega
    ·exact ⟨rfl,rfl,rfl,trivial⟩
    ·repeat first|with_reducible apply Agr.refl|refine Agr.upd rfl ?_|refine Agr.updL rfl ?_|refine Agr.mrg rfl ?_
    ·exact ⟨rfl,by omega,noM_step hno (by rw [hM];omega)⟩
  ·repeat (first|refine WS_seq ?_|refine WS_region ?_|refine WL_nil ?_|refine WS_block ?_|refine WS_inBlock ?_|refine WS_skip ?_|refine WS_false rfl ?_|refine WS_yes rfl (by omega) ?_|refine WL_gno rfl rfl rfl rfl rfl ?_|refine WL_gno (b:=false) rfl rfl (dF (by omega)) rfl rfl ?_|(refine WL_r (by first|refine k_ix1 rfl rfl hS (by simp) (Ty.sle rfl) (by omega)|refine k_loads rfl hS hv0 (Ty.shp rfl)|refine Run_pev rfl|refine k_add64 rfl rfl (by omega)|refine k_sub64 rfl rfl (by omega)|refine k_len rfl (Ty.isl rfl)|refine k_pick_f (dF (by omega)) rfl) rfl ?_))
   refine IH (k+1) _ _ ?_ ?_ ?_ ?_
   ·omega
   ·exact ⟨rfl,rfl,rfl,trivial⟩
   ·repeat first|with_reducible apply Agr.refl|refine Agr.upd rfl ?_|refine Agr.updL rfl ?_|refine Agr.mrg rfl ?_
   ·exact ⟨rfl,by omega,noM_step hno (by rw [hM];omega)⟩
 ·repeat (first|refine WS_seq ?_|refine WS_region ?_|refine WL_nil ?_|refine WS_exit rfl ?_|refine WS_no rfl (by omega) ?_|(refine WL_r (by first|refine Run_pev rfl|refine k_sub64 rfl rfl (by omega)|refine k_len rfl (Ty.isl rfl)) rfl ?_))
  refine WS_ret2 Tryz.func104 rfl ⟨.inr ⟨rfl,fun j h3 h4=>?_⟩,rfl⟩
  rcases Nat.lt_or_ge j k with h5|h5
  ·exact hno j h3 h5 h4
  ·have:=(List.getElem?_eq_some_iff.1 h4.2.2).1
   omega
end Go.Proofs.YtpbiicegmcpkpaaGreat
namespace Go.Proofs.YtpbiicegmcpkpaaGreat
open Go Go.K Go.P Go.RowKit Go.Proofs
abbrev bq (X:List Bool):List Value:=(X.map Bool.toNat).map B
theorem bq_app (X Y:List Bool):bq (X++Y)=bq X++bq Y:=by simp
end Go.Proofs.YtpbiicegmcpkpaaGreat
namespace Go.Proofs.YtpbiicegmcpkpaaGreat
open Go Go.K Go.P Go.RowKit Go.Proofs
theorem set_rep {α:Type} (i:Nat) (z x:α) (tl:List α):(List.replicate (i+1) z++tl).set i x=List.replicate i z++x::tl:=by
 rw [List.replicate_succ',List.append_assoc,List.set_append_right (h:=by simp)]
 simp
set_option maxHeartbeats 1000000 in
theorem rbits_spec {n s:Nat} {sz:Int} {w:World} (hn:n<18446744073709551616) (hsz:-9223372036854775808≤sz∧sz≤9223372036854775807) (hs:min (max sz 0) 64=(s:Int)) :
  Does Tryz.prog 72 #[.int .u64 n,.int .i64 sz] w fun v w'=>∃ a c,v=.slice a s c∧New (Ro 5 1 a s c ((nbits n s).map B)) w w':=by
 refine Does_of (args:=[_,_]) Tryz.func72 rfl rfl Tryz.ntmps72 rfl ?_
 have hs64:s≤64:=by omega
 rcases (show 64<sz∨sz<0∨(0≤sz∧sz≤64) by omega) with h|h|h
 ·skip
  have hH:=Hp.start w
  repeat (first|refine WS_seq ?_|refine WS_region ?_|refine WL_nil ?_|refine WS_skip ?_|refine WS_false rfl ?_|refine WS_yes rfl (by omega) ?_|refine lp rfl rfl ?_)
  refine WL_keep [(0,.int .u64 n),(1,.int .i64 s),(11,.int .i64 s)] ⟨rfl,congrArg (Value.int .i64) (by omega),congrArg (Value.int .i64) (by omega),trivial⟩ (fun σ0=>?_)
  refine WL_s (H_make (n:=s) hH (Ty.sle rfl) (Ty.zer rfl) (Ty.byt rfl) rfl rfl rfl (by omega) (by omega) (by simp only [maxLen];omega) rfl ?_)
  clear hH
  intro _ b hH
  replace hH:=hH.made 0 rfl (by omega)
  simp only [List.nil_append,List.set_cons_zero] at hH
  repeat (first|refine WS_seq ?_|refine WS_region ?_|refine WL_nil ?_|refine WS_block ?_|(refine WL_r (by first|refine Run_pev rfl|refine k_sub64 rfl rfl (by omega)) rfl ?_))
  refine WS_loop (G:=(Nat) × (Nat) × (List Nat)) (fun|(j,m,tl)=>j) 134185025 (fun|(j,m,tl)=>[(0,.int .u64 m),(6,.int .i64 ((j:Int)-1))]) (fun|(j,m,tl),w'=>j≤s∧m<18446744073709551616∧nbits n s=nbits m j++tl∧tl.length+j=s∧Hp [] w w' [Ro 5 1 (some ⟨b,0,none⟩) s s ((List.replicate j 0++tl).map B)]) (s,n,[]) ⟨rfl,rfl,trivial⟩ ⟨by omega,hn,by simp,by simp,by rw [List.append_nil,List.map_replicate];exact hH⟩ ?_
  rintro ⟨j,m,tl⟩ w' σ ⟨hj,hm,hb,hl,hH⟩ IH
  show WS _ _ _ _ _ (updL [(0,.int .u64 m),(6,.int .i64 ((j:Int)-1))] _) _
  by_cases hlt:0<j
  ·obtain ⟨i,rfl⟩:∃ i,j=i+1:=⟨j-1,by omega⟩
   simp only [nbits,List.append_assoc,List.singleton_append] at hb
   repeat (first|refine WS_seq ?_|refine WS_region ?_|refine WL_nil ?_|refine WS_block ?_|refine WS_skip ?_|refine WS_yes rfl (by omega) ?_|(refine WL_r (by first|refine k_remu (n:=2) rfl rfl (by decide)|refine k_ix1S rfl rfl (Ty.sle rfl) (by omega)|refine Run_pev rfl|refine k_conv8 rfl rfl rfl (by omega)) rfl ?_))
   refine WL_s (H_storeO 0 (v:=B (m % 2)) hH rfl rfl rfl (by omega) rfl (Ty.shp rfl) ?_)
   clear hH
   intro _ hH
   have e:(((i+1:Nat):Int)-1).toNat=i:=by omega
   rw [e] at hH
   simp only [List.set_cons_zero] at hH
   rw [← List.map_set,set_rep] at hH
   repeat (first|refine WS_region ?_|refine WL_nil ?_|refine WS_inBlock ?_|(refine WL_r (by first|refine k_quou (n:=2) rfl rfl (by decide) (fit64 hm)|refine Run_pev rfl|refine k_sub64 rfl rfl (by omega)) rfl ?_))
   refine IH (i,m / 2,m % 2::tl) _ _ ?_ ?_ ?_ ?_
   ·simp only;omega
   ·exact ⟨rfl,congrArg (Value.int .i64) (by omega),trivial⟩
   ·repeat first|with_reducible apply Agr.refl|refine Agr.upd rfl ?_|refine Agr.updL rfl ?_|refine Agr.mrg rfl ?_
   ·exact ⟨by omega,by omega,hb,by simp;omega,hH⟩
  ·obtain rfl:j=0:=by omega
   have hb':nbits n s=tl:=by simpa [nbits] using hb
   simp only [List.replicate_zero,List.nil_append] at hH
   rw [← hb'] at hH
   repeat (first|refine WS_seq ?_|refine WS_region ?_|refine WL_nil ?_|refine WS_exit rfl ?_|refine WS_false rfl ?_|refine lp rfl rfl ?_)
   exact WS_ret1 Tryz.func72 rfl ⟨_,_,rfl,hH.new1 0 rfl⟩
 ·skip
  have hH:=Hp.start w
  repeat (first|refine WS_seq ?_|refine WS_region ?_|refine WL_nil ?_|refine WS_skip ?_|refine WS_yes rfl (by omega) ?_|refine WS_no rfl (by omega) ?_|refine lp rfl rfl ?_)
  refine WL_keep [(0,.int .u64 n),(1,.int .i64 s),(11,.int .i64 s)] ⟨rfl,congrArg (Value.int .i64) (by omega),congrArg (Value.int .i64) (by omega),trivial⟩ (fun σ0=>?_)
  refine WL_s (H_make (n:=s) hH (Ty.sle rfl) (Ty.zer rfl) (Ty.byt rfl) rfl rfl rfl (by omega) (by omega) (by simp only [maxLen];omega) rfl ?_)
  clear hH
  intro _ b hH
  replace hH:=hH.made 0 rfl (by omega)
  simp only [List.nil_append,List.set_cons_zero] at hH
  repeat (first|refine WS_seq ?_|refine WS_region ?_|refine WL_nil ?_|refine WS_block ?_|(refine WL_r (by first|refine Run_pev rfl|refine k_sub64 rfl rfl (by omega)) rfl ?_))
  refine WS_loop (G:=(Nat) × (Nat) × (List Nat)) (fun|(j,m,tl)=>j) 134185025 (fun|(j,m,tl)=>[(0,.int .u64 m),(6,.int .i64 ((j:Int)-1))]) (fun|(j,m,tl),w'=>j≤s∧m<18446744073709551616∧nbits n s=nbits m j++tl∧tl.length+j=s∧Hp [] w w' [Ro 5 1 (some ⟨b,0,none⟩) s s ((List.replicate j 0++tl).map B)]) (s,n,[]) ⟨rfl,rfl,trivial⟩ ⟨by omega,hn,by simp,by simp,by rw [List.append_nil,List.map_replicate];exact hH⟩ ?_
  rintro ⟨j,m,tl⟩ w' σ ⟨hj,hm,hb,hl,hH⟩ IH
  show WS _ _ _ _ _ (updL [(0,.int .u64 m),(6,.int .i64 ((j:Int)-1))] _) _
  by_cases hlt:0<j
  ·obtain ⟨i,rfl⟩:∃ i,j=i+1:=⟨j-1,by omega⟩
   simp only [nbits,List.append_assoc,List.singleton_append] at hb
   repeat (first|refine WS_seq ?_|refine WS_region ?_|refine WL_nil ?_|refine WS_block ?_|refine WS_skip ?_|refine WS_yes rfl (by omega) ?_|(refine WL_r (by first|refine k_remu (n:=2) rfl rfl (by decide)|refine k_ix1S rfl rfl (Ty.sle rfl) (by omega)|refine Run_pev rfl|refine k_conv8 rfl rfl rfl (by omega)) rfl ?_))
   refine WL_s (H_storeO 0 (v:=B (m % 2)) hH rfl rfl rfl (by omega) rfl (Ty.shp rfl) ?_)
   clear hH
   intro _ hH
   have e:(((i+1:Nat):Int)-1).toNat=i:=by omega
   rw [e] at hH
   simp only [List.set_cons_zero] at hH
   rw [← List.map_set,set_rep] at hH
   repeat (first|refine WS_region ?_|refine WL_nil ?_|refine WS_inBlock ?_|(refine WL_r (by first|refine k_quou (n:=2) rfl rfl (by decide) (fit64 hm)|refine Run_pev rfl|refine k_sub64 rfl rfl (by omega)) rfl ?_))
   refine IH (i,m / 2,m % 2::tl) _ _ ?_ ?_ ?_ ?_
   ·simp only;omega
   ·exact ⟨rfl,congrArg (Value.int .i64) (by omega),trivial⟩
   ·repeat first|with_reducible apply Agr.refl|refine Agr.upd rfl ?_|refine Agr.updL rfl ?_|refine Agr.mrg rfl ?_
   ·exact ⟨by omega,by omega,hb,by simp;omega,hH⟩
  ·obtain rfl:j=0:=by omega
   have hb':nbits n s=tl:=by simpa [nbits] using hb
   simp only [List.replicate_zero,List.nil_append] at hH
   rw [← hb'] at hH
   repeat (first|refine WS_seq ?_|refine WS_region ?_|refine WL_nil ?_|refine WS_exit rfl ?_|refine WS_false rfl ?_|refine lp rfl rfl ?_)
   exact WS_ret1 Tryz.func72 rfl ⟨_,_,rfl,hH.new1 0 rfl⟩
 ·skip
  have hH:=Hp.start w
  repeat (first|refine WS_seq ?_|refine WS_region ?_|refine WL_nil ?_|refine WS_skip ?_|refine WS_no rfl (by omega) ?_|refine lp rfl rfl ?_)
  refine WL_keep [(0,.int .u64 n),(1,.int .i64 s),(11,.int .i64 s)] ⟨rfl,congrArg (Value.int .i64) (by omega),congrArg (Value.int .i64) (by omega),trivial⟩ (fun σ0=>?_)
  refine WL_s (H_make (n:=s) hH (Ty.sle rfl) (Ty.zer rfl) (Ty.byt rfl) rfl rfl rfl (by omega) (by omega) (by simp only [maxLen];omega) rfl ?_)
  clear hH
  intro _ b hH
  replace hH:=hH.made 0 rfl (by omega)
  simp only [List.nil_append,List.set_cons_zero] at hH
  repeat (first|refine WS_seq ?_|refine WS_region ?_|refine WL_nil ?_|refine WS_block ?_|(refine WL_r (by first|refine Run_pev rfl|refine k_sub64 rfl rfl (by omega)) rfl ?_))
  refine WS_loop (G:=(Nat) × (Nat) × (List Nat)) (fun|(j,m,tl)=>j) 134185025 (fun|(j,m,tl)=>[(0,.int .u64 m),(6,.int .i64 ((j:Int)-1))]) (fun|(j,m,tl),w'=>j≤s∧m<18446744073709551616∧nbits n s=nbits m j++tl∧tl.length+j=s∧Hp [] w w' [Ro 5 1 (some ⟨b,0,none⟩) s s ((List.replicate j 0++tl).map B)]) (s,n,[]) ⟨rfl,rfl,trivial⟩ ⟨by omega,hn,by simp,by simp,by rw [List.append_nil,List.map_replicate];exact hH⟩ ?_
  rintro ⟨j,m,tl⟩ w' σ ⟨hj,hm,hb,hl,hH⟩ IH
  show WS _ _ _ _ _ (updL [(0,.int .u64 m),(6,.int .i64 ((j:Int)-1))] _) _
  by_cases hlt:0<j
  ·obtain ⟨i,rfl⟩:∃ i,j=i+1:=⟨j-1,by omega⟩
   simp only [nbits,List.append_assoc,List.singleton_append] at hb
   repeat (first|refine WS_seq ?_|refine WS_region ?_|refine WL_nil ?_|refine WS_block ?_|refine WS_skip ?_|refine WS_yes rfl (by omega) ?_|(refine WL_r (by first|refine k_remu (n:=2) rfl rfl (by decide)|refine k_ix1S rfl rfl (Ty.sle rfl) (by omega)|refine Run_pev rfl|refine k_conv8 rfl rfl rfl (by omega)) rfl ?_))
   refine WL_s (H_storeO 0 (v:=B (m % 2)) hH rfl rfl rfl (by omega) rfl (Ty.shp rfl) ?_)
   clear hH
   intro _ hH
   have e:(((i+1:Nat):Int)-1).toNat=i:=by omega
   rw [e] at hH
   simp only [List.set_cons_zero] at hH
   rw [← List.map_set,set_rep] at hH
   repeat (first|refine WS_region ?_|refine WL_nil ?_|refine WS_inBlock ?_|(refine WL_r (by first|refine k_quou (n:=2) rfl rfl (by decide) (fit64 hm)|refine Run_pev rfl|refine k_sub64 rfl rfl (by omega)) rfl ?_))
   refine IH (i,m / 2,m % 2::tl) _ _ ?_ ?_ ?_ ?_
   ·simp only;omega
   ·exact ⟨rfl,congrArg (Value.int .i64) (by omega),trivial⟩
   ·repeat first|with_reducible apply Agr.refl|refine Agr.upd rfl ?_|refine Agr.updL rfl ?_|refine Agr.mrg rfl ?_
   ·exact ⟨by omega,by omega,hb,by simp;omega,hH⟩
  ·obtain rfl:j=0:=by omega
   have hb':nbits n s=tl:=by simpa [nbits] using hb
   simp only [List.replicate_zero,List.nil_append] at hH
   rw [← hb'] at hH
   repeat (first|refine WS_seq ?_|refine WS_region ?_|refine WL_nil ?_|refine WS_exit rfl ?_|refine WS_false rfl ?_|refine lp rfl rfl ?_)
   exact WS_ret1 Tryz.func72 rfl ⟨_,_,rfl,hH.new1 0 rfl⟩
end Go.Proofs.YtpbiicegmcpkpaaGreat
