/- A part of the proof that TopWorse is true at every input; no condition. -/
import Derived.Test.YtpbiicegmcpkpaaGreatT11
namespace Go.Proofs.YtpbiicegmcpkpaaGreat
open Go Go.K Go.P Go.RowKit Go.Proofs
theorem k_idxs {P:Program} {ρ:Fr} {w:World} {dst:Option Nat} {ty t:TypeId} {pos:String} {af:Array Edge} {gd:Option (Nat × Bool)} {x y:Operand} {s:ByteArray} {i:Int} {q:IntKind} {b:UInt8} (hx:ev ρ x=.string s) (hy:ev ρ y=.int q i) (ht:isStr P t=true) (h0:0≤i) (hb:s[i.toNat]?=some b) :
  Run P ρ ⟨dst,.index t x y,ty,pos,af,gd⟩ w (.int .u8 b.toNat) w:=by
 have hu:P.underlying t=some .string:=by
  unfold isStr at ht
  split at ht
  ·assumption
  ·cases ht
 constructor;unfold execOp
 simp [hx,hy,Instr.index,run_underlying hu,asIntOf,h0,hb]
set_option maxRecDepth 100000 in
set_option maxHeartbeats 1000000 in
theorem len64_spec {x:Nat} {w:World} (hx:x<65536):Does Tryz.prog 155 #[.int .u64 x] w fun v w'=>v=.int .i64 (blen x)∧w'=w:=by
 refine Does_of (args:=[_]) Tryz.func155 rfl rfl Tryz.ntmps155 rfl ?_
 by_cases h:256≤x
 ·have hb:=blen_big h
  have hd:x / 2 ^ 8=x / 256:=rfl
  repeat (first|refine WS_seq ?_|refine WS_region ?_|refine WL_nil ?_|refine WS_skip ?_|refine WS_yes rfl (by omega) ?_|refine WS_no rfl (by omega) ?_|(refine WL_r (by first|refine (k_shr (m:=x) (n:=8) rfl rfl (fit64 (by omega))).is (congrArg (fun n:Nat=>Value.int .u64 (n:Int)) hd)|refine Run_pev rfl|refine k_add64 rfl rfl (by omega)|refine k_conv8 rfl rfl rfl (by omega)) rfl ?_))
  have htab:(strOf tabL)[((((x / 256:Nat)):Int)).toNat]?=some (UInt8.ofNat (blen (x / 256))):=tab_get (x / 256) (by omega)
  have hmod:x / 256 % 256=x / 256:=by omega
  have hbl:=blen_lt (x / 256) (by omega)
  have hu8:(UInt8.ofNat (blen (x / 256))).toNat=blen (x / 256):=by simp;omega
  repeat (first|refine WL_nil ?_|(refine WL_r (by first|refine (k_idxs (s:=strOf tabL) rfl rfl (Ty.iss rfl) (by omega) htab).is (congrArg (fun n:Nat=>Value.int .u8 (n:Int)) hu8)|refine Run_pev rfl|refine k_add64 rfl rfl (by omega)|refine k_convI rfl rfl rfl (by omega)) rfl ?_))
  refine WS_ret1 Tryz.func155 rfl ⟨congrArg (Value.int .i64) (by omega),rfl⟩
 ·repeat (first|refine WS_seq ?_|refine WS_region ?_|refine WL_nil ?_|refine WS_skip ?_|refine WS_no rfl (by omega) ?_|(refine WL_r (by first|refine Run_pev rfl|refine k_conv8 rfl rfl rfl (by omega)) rfl ?_))
  have htab:(strOf tabL)[((((x:Nat)):Int)).toNat]?=some (UInt8.ofNat (blen (x))):=tab_get (x) (by omega)
  have hmod:x % 256=x:=by omega
  have hbl:=blen_lt (x) (by omega)
  have hu8:(UInt8.ofNat (blen (x))).toNat=blen (x):=by simp;omega
  repeat (first|refine WL_nil ?_|(refine WL_r (by first|refine (k_idxs (s:=strOf tabL) rfl rfl (Ty.iss rfl) (by omega) htab).is (congrArg (fun n:Nat=>Value.int .u8 (n:Int)) hu8)|refine Run_pev rfl|refine k_add64 rfl rfl (by omega)|refine k_convI rfl rfl rfl (by omega)) rfl ?_))
  refine WS_ret1 Tryz.func155 rfl ⟨congrArg (Value.int .i64) (by omega),rfl⟩
theorem len_spec {x:Nat} {w:World} (hx:x<65536):Does Tryz.prog 111 #[.int .u64 x] w fun v w'=>v=.int .i64 (blen x)∧w'=w:=by
 refine Does_of (args:=[_]) Tryz.func111 rfl rfl Tryz.ntmps111 rfl ?_
 repeat (first|refine WS_seq ?_|refine WS_region ?_|refine WL_nil ?_|refine WS_skip ?_|refine WS_false rfl ?_|refine lp rfl rfl ?_)
 refine WL_s (S_call (len64_spec hx) rfl rfl ?_)
 rintro v w1 ⟨rfl,rfl⟩
 repeat (first|refine WL_nil ?_|refine lp rfl rfl ?_)
 exact WS_ret1 Tryz.func111 rfl ⟨rfl,rfl⟩
theorem flat2_len:∀ (l:List Bool),(l.flatMap fun d=>[d,true]).length=2*l.length
 | []=>rfl
 | d::l=>by rw [List.flatMap_cons,List.length_append,flat2_len l];simp;omega
theorem rv_step {n i D:Nat} (hi:i<D):rpart (nb (n+1) D) i++[(n+1).testBit (D-1-i)]++[true]=rpart (nb (n+1) D) (i+1):=by
 unfold rpart
 rw [List.take_succ_eq_append_getElem (by rw [nb_len];exact hi),List.flatMap_append]
 have h:=nb_get (n:=n+1) hi
 rw [List.getElem?_eq_getElem (by rw [nb_len];exact hi)] at h
 rw [Option.some.inj h]
 simp
theorem rv_last {n D:Nat} (hD:0<D):rpart (nb (n+1) D) (D-1)++[(n+1).testBit 0]++[false]=inter (nb (n+1) D):=by
 have hne:nb (n+1) D≠[]:=fun h=>by have:=nb_len (n+1) D;rw [h] at this;simp at this;omega
 rw [inter_eq _ hne,nb_len]
 have h:=nb_get (n:=n+1) (s:=D) (i:=D-1) (by omega)
 rw [show D-1-(D-1)=0 by omega] at h
 have hl:(nb (n+1) D).getLastD false=(n+1).testBit 0:=by
  rw [List.getLastD_eq_getLast?,List.getLast?_eq_getElem?,nb_len,h];rfl
 rw [hl];simp
theorem bitn (x k:Nat):(x / 2 ^ k &&& 1)=(x.testBit k).toNat:=by
 rw [Nat.and_one_is_mod,Nat.testBit_eq_decide_div_mod_eq]
 have:=Nat.mod_two_eq_zero_or_one (x / 2 ^ k)
 rcases this with h|h<;>simp [h]
set_option maxRecDepth 100000 in
set_option maxHeartbeats 2000000 in
theorem rput_spec {p n c:Nat} {a:Option Addr} {bs:List Bool} {w:World} (hn:n≤8190) (hbl:bs.length≤1000000000) (hR:(Rw p a c bs).holds w) :
  Does Tryz.prog 130 #[pt p,.int .i64 n] w fun v w'=>v=.bool true∧∃ a' c',Upd (Rw p a c bs) (Rw p a' c' (bs++rv n)) w w':=by
 refine Does_of (args:=[_,_]) Tryz.func130 rfl rfl Tryz.ntmps130 rfl ?_
 unfold rv
 by_cases h0:n=0
 ·subst h0
  repeat (first|refine WS_seq ?_|refine WS_region ?_|refine WL_nil ?_|refine WS_skip ?_|refine WS_true rfl ?_|refine WS_false rfl ?_|refine WL_gyes rfl rfl rfl ?_|(refine WL_r (by first|refine k_pnil rfl rfl (.inr rfl) ptrW|refine Run_pev rfl) rfl ?_))
  refine WL_s (S_call (wput_spec (n:=1) (s:=1) (by decide) (by decide) (by omega) hR) rfl rfl ?_)
  rintro v w1 ⟨rfl,a',c',hU⟩
  repeat (first|refine WS_seq ?_|refine WS_region ?_|refine WL_nil ?_|refine lp rfl rfl ?_)
  exact WS_ret1 Tryz.func130 rfl ⟨rfl,a',c',hU⟩
 rw [if_neg h0]
 have hp:=blen_pos (x:=n+1) (by omega)
 have hb:=blen_le (x:=n+1) (m:=13) (by omega)
 have hb2:1<blen (n+1):=by
  have:=blen_up (x:=n+1)
  rcases Nat.lt_or_ge 1 (blen (n+1)) with h|h
  ·exact h
  ·have:2 ^ blen (n+1)≤2 ^ 1:=Nat.pow_le_pow_right (by decide) h
   omega
 repeat (first|refine WS_seq ?_|refine WS_region ?_|refine WL_nil ?_|refine WS_skip ?_|refine WS_no rfl (by omega) ?_|refine WL_gyes rfl rfl rfl ?_|(refine WL_r (by first|refine k_pnil rfl rfl (.inr rfl) ptrW|refine Run_pev rfl) rfl ?_))
 refine WL_s (S_call (wput_spec (n:=0) (s:=1) (by decide) (by decide) (by omega) hR) rfl rfl ?_)
 rintro v w1 ⟨rfl,a1,c1,hU⟩
 have e:(n:Int)+1=((n+1:Nat):Int):=by omega
 repeat (first|refine WS_seq ?_|refine WS_region ?_|refine WL_nil ?_|(refine WL_r (by first|refine (k_add64 (m:=(n:Int)) (n:=1) rfl rfl (by omega)).is (congrArg (Value.int .i64) e)|refine Run_pev rfl|refine k_conv64 rfl rfl rfl (by omega)) rfl ?_))
 refine WL_s (S_call (len_spec (x:=n+1) (by omega)) rfl rfl ?_)
 rintro v w2 ⟨rfl,rfl⟩
 obtain ⟨D,hD⟩:∃ D,blen (n+1)=D+1:=⟨blen (n+1)-1,by omega⟩
 rw [hD]
 repeat (first|refine WS_seq ?_|refine WS_region ?_|refine WL_nil ?_|refine WS_block ?_|(refine WL_r (by first|refine Run_pev rfl|refine k_sub64 rfl rfl (by omega)) rfl ?_))
 refine WS_loop (G:=(Nat) × (Option Addr) × (Nat)) (fun|(i,a2,c2)=>D-i) 70367670435904 (fun|(i,a2,c2)=>[(6,.int .i64 ((D:Int)-1-i))]) (fun|(i,a2,c2),w'=>i≤D∧Upd (Rw p a c bs) (Rw p a2 c2 (bs++(false::if i=D then inter (nb (n+1) D) else rpart (nb (n+1) D) i))) w w') (0,a1,c1) ⟨congrArg (Value.int .i64) (by omega),trivial⟩ ⟨by omega,by rw [if_neg (by omega)];exact hU⟩ ?_
 rintro ⟨i,a2,c2⟩ w3 σ ⟨hi,hU3⟩ IH
 show WS _ _ _ _ _ (updL [(6,.int .i64 ((D:Int)-1-i))] _) _
 by_cases hlt:i<D
 ·rw [if_neg (by omega)] at hU3
  have hk:(D:Int)-1-i=((D-1-i:Nat):Int):=by omega
  rw [hk]
  have hbn:=bitn (n+1) (D-1-i)
  have hb1:((n+1).testBit (D-1-i)).toNat<18446744073709551616:=by cases (n+1).testBit (D-1-i)<;>decide
  have hq:(n+1) / 2 ^ (D-1-i)<18446744073709551616:=Nat.lt_of_le_of_lt (Nat.div_le_self _ _) (by omega)
  have hpl:(rpart (nb (n+1) D) i).length=2*i:=by
   rw [rpart,flat2_len,List.length_take,nb_len,Nat.min_eq_left (by omega)]
  repeat (first|refine WS_seq ?_|refine WS_region ?_|refine WL_nil ?_|refine WS_block ?_|refine WS_skip ?_|refine WS_true rfl ?_|(refine WL_r (by first|refine (k_add64 (m:=(n:Int)) (n:=1) rfl rfl (by omega)).is (congrArg (Value.int .i64) e)|refine k_shr (m:=n+1) rfl rfl (fit64 (by omega))|refine (k_and (n:=1) rfl rfl (fit64 hq) rfl).is (congrArg (fun n:Nat=>Value.int .u64 (n:Int)) hbn)|refine Run_pev rfl|refine k_conv64 rfl rfl rfl (by omega)) rfl ?_))
  refine WL_s (S_call (wput_spec (s:=1) hb1 (by decide) (by simp [hpl];omega) hU3.holds) rfl rfl ?_)
  rintro v w4 ⟨rfl,a4,c4,hU4⟩
  rw [nb1] at hU4
  repeat (first|refine WS_region ?_|refine WL_nil ?_|refine lp rfl rfl ?_)
  refine WL_s (S_call (wflag_spec (by simp [hpl];omega) hU4.holds) rfl rfl ?_)
  rintro v w5 ⟨rfl,a5,c5,hU5⟩
  have hU6:=(hU3.trans hU4).trans hU5
  have e3:∀ (x y:List Bool) (b d:Bool),((x++(false::y))++[b])++[d]=x++(false::(y++[b]++[d])):=fun x y b d=>by simp
  rw [e3] at hU6
  repeat (first|refine WS_region ?_|refine WL_nil ?_|refine WS_inBlock ?_|(refine WL_r (by first|refine Run_pev rfl|refine k_sub64 rfl rfl (by omega)) rfl ?_))
  by_cases hl:i+1=D
  ·have hd0:decide ((0:Int)<((D-1-i:Nat):Int))=false:=decide_eq_false (by omega)
   try dsimp only at hU6
   rw [hd0] at hU6
   have hi0:D-1-i=0:=by omega
   have hi1:i=D-1:=by omega
   have hv:=rv_last (n:=n) (D:=D) (by omega)
   rw [hi0,hi1] at hU6
   rw [hv] at hU6
   refine IH (i+1,a5,c5) _ _ ?_ ?_ ?_ ?_
   ·simp only;omega
   ·exact ⟨congrArg (Value.int .i64) (by omega),trivial⟩
   ·repeat first|with_reducible apply Agr.refl|refine Agr.upd rfl ?_|refine Agr.updL rfl ?_|refine Agr.mrg rfl ?_
   ·exact ⟨by omega,by rw [if_pos hl];exact hU6⟩
  ·have hd0:decide ((0:Int)<((D-1-i:Nat):Int))=true:=decide_eq_true (by omega)
   try dsimp only at hU6
   rw [hd0,rv_step hlt] at hU6
   refine IH (i+1,a5,c5) _ _ ?_ ?_ ?_ ?_
   ·simp only;omega
   ·exact ⟨congrArg (Value.int .i64) (by omega),trivial⟩
   ·repeat first|with_reducible apply Agr.refl|refine Agr.upd rfl ?_|refine Agr.updL rfl ?_|refine Agr.mrg rfl ?_
   ·exact ⟨by omega,by rw [if_neg hl];exact hU6⟩
 ·obtain rfl:i=D:=by omega
  rw [if_pos rfl] at hU3
  repeat (first|refine WS_seq ?_|refine WS_region ?_|refine WL_nil ?_|refine WS_exit rfl ?_|refine WS_no rfl (by omega) ?_|refine lp rfl rfl ?_)
  exact WS_ret1 Tryz.func130 rfl ⟨rfl,a2,c2,by simpa using hU3⟩
end Go.Proofs.YtpbiicegmcpkpaaGreat
namespace Go.Proofs.YtpbiicegmcpkpaaGreat
open Go Go.K Go.P Go.RowKit Go.Proofs
theorem signed_spec {n:Int} {w:World} (h:-2305843009213693952≤n∧n≤2305843009213693952):Does Tryz.prog 131 #[.int .i64 n] w fun v w'=>v=.int .i64 (sgn n)∧w'=w:=by
 refine Does_of (args:=[_]) Tryz.func131 rfl rfl Tryz.ntmps131 rfl ?_
 unfold sgn
 by_cases h0:0<n
 ·rw [if_pos h0]
  repeat (first|refine WS_seq ?_|refine WS_region ?_|refine WL_nil ?_|refine WS_yes rfl (by omega) ?_|(refine WL_r (by first|refine Run_pev rfl|refine k_sub64 rfl rfl (by omega)|refine k_mul64 rfl rfl (by omega)) rfl ?_))
  exact WS_ret1 Tryz.func131 rfl ⟨rfl,rfl⟩
 ·rw [if_neg h0]
  repeat (first|refine WS_seq ?_|refine WS_region ?_|refine WL_nil ?_|refine WS_skip ?_|refine WS_no rfl (by omega) ?_|(refine WL_r (by first|refine Run_pev rfl|refine k_mul64 rfl rfl (by omega)) rfl ?_))
  exact WS_ret1 Tryz.func131 rfl ⟨rfl,rfl⟩
end Go.Proofs.YtpbiicegmcpkpaaGreat
namespace Go.Proofs.YtpbiicegmcpkpaaGreat
open Go Go.K Go.P Go.RowKit Go.Proofs
abbrev evc (r x:Int) (b:Bool):List Value:=[I r,I x,.bool b]
theorem evc_one (r x:Int) (b:Bool):∀ u∈(evc r x b).toArray.toList,u.oneCell'=true:=by
 intro u hu
 simp [evc] at hu
 rcases hu with rfl|rfl|rfl<;>rfl
theorem bright_spec {r:Nat} {x:Int} {b:Bool} {w:World}:Does Tryz.prog 173 #[.agg (evc r x b).toArray] w fun v w'=>v=.bool (decide (okE (r,x)))∧Ext [] w w':=by
 refine Does_of (args:=[_]) Tryz.func173 rfl rfl Tryz.ntmps173 rfl ?_
 have hH:=Hp.start w
 repeat (first|refine WS_seq ?_|refine WS_region ?_)
 refine WL_s (H_box (cs:=(evc r x b).toArray) hH rfl rfl rfl ?_)
 try clear hH
 intro w1 b1 hH
 replace hH:=nn1 hH
 have hB:Blk w1 b1 293 (evc r x b).toArray:=hH.b 0 rfl
 by_cases h1:r≤63
 ·by_cases h2:x=0
  ·skip
   rw [decide_eq_false (show ¬ okE (r,x) from fun h=>by obtain ⟨g1,g2,g3,g4⟩:=h;simp only at g1 g2 g3 g4;omega)]
   repeat (first|refine WS_seq ?_|refine WS_region ?_|refine WL_nil ?_|refine WL_gyes rfl rfl rfl ?_|refine WL_gno rfl rfl rfl rfl rfl ?_|refine WL_gno (b:=false) rfl rfl (dF (by omega)) rfl rfl ?_|(refine WL_r (by first|refine k_fa rfl (Ty.fld rfl rfl)|refine k_loadb rfl hB rfl (Ty.shp rfl)|refine (k_leq rfl rfl).is (bT (by omega))|refine Run_pev rfl|refine k_pick_f (dF (by omega)) rfl) rfl ?_))
   exact WS_ret1 Tryz.func173 rfl ⟨rfl,hH.ext⟩
  by_cases h3:-2047≤x
  ·by_cases h4:x≤2047
   ·rw [decide_eq_true (show okE (r,x) from ⟨h1,h2,h3,h4⟩)]
    repeat (first|refine WS_seq ?_|refine WS_region ?_|refine WL_nil ?_|refine WL_gyes rfl rfl rfl ?_|refine WL_gyes rfl rfl (dT (by omega)) ?_|(refine WL_r (by first|refine k_fa rfl (Ty.fld rfl rfl)|refine k_loadb rfl hB rfl (Ty.shp rfl)|refine (k_leq rfl rfl).is (bT (by omega))|refine Run_pev rfl|refine k_pick_t (dT (by omega)) rfl) rfl ?_))
    exact WS_ret1 Tryz.func173 rfl ⟨rfl,hH.ext⟩
   ·skip
    rw [decide_eq_false (show ¬ okE (r,x) from fun h=>by obtain ⟨g1,g2,g3,g4⟩:=h;simp only at g1 g2 g3 g4;omega)]
    repeat (first|refine WS_seq ?_|refine WS_region ?_|refine WL_nil ?_|refine WL_gyes rfl rfl rfl ?_|refine WL_gyes rfl rfl (dT (by omega)) ?_|(refine WL_r (by first|refine k_fa rfl (Ty.fld rfl rfl)|refine k_loadb rfl hB rfl (Ty.shp rfl)|refine (k_leq rfl rfl).is (bT (by omega))|refine (k_leq rfl rfl).is (bF (by omega))|refine Run_pev rfl|refine k_pick_t (dT (by omega)) rfl) rfl ?_))
    exact WS_ret1 Tryz.func173 rfl ⟨rfl,hH.ext⟩
  ·skip
   rw [decide_eq_false (show ¬ okE (r,x) from fun h=>by obtain ⟨g1,g2,g3,g4⟩:=h;simp only at g1 g2 g3 g4;omega)]
   repeat (first|refine WS_seq ?_|refine WS_region ?_|refine WL_nil ?_|refine WL_gyes rfl rfl rfl ?_|refine WL_gyes rfl rfl (dT (by omega)) ?_|refine WL_gno (b:=false) rfl rfl (dF (by omega)) rfl rfl ?_|(refine WL_r (by first|refine k_fa rfl (Ty.fld rfl rfl)|refine k_loadb rfl hB rfl (Ty.shp rfl)|refine (k_leq rfl rfl).is (bT (by omega))|refine Run_pev rfl|refine k_pick_f (dF (by omega)) rfl|refine k_pick_t (dT (by omega)) rfl) rfl ?_))
   exact WS_ret1 Tryz.func173 rfl ⟨rfl,hH.ext⟩
 ·skip
  rw [decide_eq_false (show ¬ okE (r,x) from fun h=>by obtain ⟨g1,g2,g3,g4⟩:=h;simp only at g1 g2 g3 g4;omega)]
  repeat (first|refine WS_seq ?_|refine WS_region ?_|refine WL_nil ?_|refine WL_gyes rfl rfl rfl ?_|refine WL_gno rfl rfl rfl rfl rfl ?_|(refine WL_r (by first|refine k_fa rfl (Ty.fld rfl rfl)|refine k_loadb rfl hB rfl (Ty.shp rfl)|refine (k_leq rfl rfl).is (bF (by omega))|refine Run_pev rfl) rfl ?_))
  exact WS_ret1 Tryz.func173 rfl ⟨rfl,hH.ext⟩
end Go.Proofs.YtpbiicegmcpkpaaGreat
namespace Go.Proofs.YtpbiicegmcpkpaaGreat
open Go Go.K Go.P Go.RowKit Go.Proofs
theorem sgn_lvn {r:Nat} {x:Int} (h:okE (r,x)):sgn x-1=(lvn x:Nat)∧-2305843009213693952≤x∧x≤2305843009213693952:=by
 obtain ⟨_,h2,h3,h4⟩:=h
 simp only at h2 h3 h4
 unfold lvn
 have:0<sgn x:=by unfold sgn;split<;>omega
 omega
theorem ev_at {ps:List (Nat × Int)} (hg:GB ps) {i:Nat} (hi:i<ps.length):∃ (r:Nat) (x:Int) (b:Bool),((evC ps).drop (i*3)).take 3=evc r x b∧okE (r,x)∧b=decide (i+1=ps.length)∧evB ((mk ps).take (i+1))=evB ((mk ps).take i)++evb b (r,x):=by
 have hl:i<(mk ps).length:=by rw [mk_len];exact hi
 have hm:=mk_get ps i hi
 have hs:=evB_snoc (mk ps) hl
 rw [List.getElem?_eq_getElem hl] at hm
 have hm2:=Option.some.inj hm
 rw [hm2] at hs
 exact ⟨ps[i].1,ps[i].2,_,evC_ev ps i hi,hg.ok _ (List.getElem_mem hi),rfl,hs⟩
theorem evB_le {ps:List (Nat × Int)} (hg:GB ps) (i:Nat):(evB ((mk ps).take i)).length≤3200:=by
 have h1:=bb_len_le hg
 have h2:=hg.len
 have e:evB (mk ps)=evB ((mk ps).take i)++evB ((mk ps).drop i):=by rw [← evB_app,List.take_append_drop]
 rw [bb_mk,e,List.length_append] at h1
 omega
set_option maxRecDepth 20000 in
set_option maxHeartbeats 4000000 in
theorem bput_spec {p c n0 c0:Nat} {a ax:Option Addr} {bs:List Bool} {ps:List (Nat × Int)} {w:World} (hg:GB ps) (hn:ps.length=n0) (hbl:bs.length≤100000000) (hS:SlA w ax (evC ps)) (hR:(Rw p a c bs).holds w) (hd:∀ s∈(Rw p a c bs).fp,s ∉ blk ax) :
  Does Tryz.prog 142 #[pt p,.slice ax n0 c0] w fun v w'=>v=.int .i64 0∧∃ a' c',Upd (Rw p a c bs) (Rw p a' c' (bs++bb ps)) w w':=by
 subst hn
 refine Does_of (args:=[_,_]) Tryz.func142 rfl rfl Tryz.ntmps142 rfl ?_
 have hH:=Hp.start1 hR
 have hne:0<ps.length:=by cases ps;exact absurd rfl hg.ne;simp
 have h64:=hg.len
 have hle:=evC_len ps
 repeat (first|refine WS_seq ?_|refine WS_region ?_|refine WL_nil ?_|refine WS_block ?_|refine WS_skip ?_|refine WS_false rfl ?_|refine WS_no rfl (by omega) ?_|refine WL_gyes rfl rfl (dF (by omega)) ?_|(refine WL_r (by first|refine k_pnil rfl rfl (.inr rfl) ptrW|refine Run_pev rfl|refine k_len rfl (Ty.isl rfl)|refine k_pick_f (dF (by omega)) rfl) rfl ?_))
 refine WS_loop (G:=(Nat)) (fun i=>ps.length-i) 2199019061360 (fun i=>[(22,.int .i64 i)]) (fun i w'=>i≤ps.length∧Hp (Rw p a c bs).fp w w' [Rw p a c bs]) (0) ⟨rfl,trivial⟩ ⟨by omega,hH⟩ ?_
 rintro i w' σ ⟨hi,hH⟩ IH
 show WS _ _ _ _ _ (updL [(22,.int .i64 i)] _) _
 have hS1:=hH.oldS hS hd
 by_cases hlt:i<ps.length
 ·obtain ⟨r,x,b,hev,hok,hb,_⟩:=ev_at hg hlt
  have hbI:b=decide ((i:Int)=(ps.length:Int)-1):=by rw [hb];congr 1;exact propext ⟨fun h=>by omega,fun h=>by omega⟩
  repeat (first|refine WS_seq ?_|refine WS_region ?_|refine WL_nil ?_|refine WS_block ?_|refine WS_skip ?_|refine WS_yes rfl (by omega) ?_|(refine WL_r (by first|refine k_ix rfl rfl hS1 hle (by decide) (Ty.sle rfl) (by omega)|refine k_loadC rfl hS1 hev rfl (Ty.shp rfl)|refine Run_pev rfl) rfl ?_))
  refine WL_s (H_alloc hH (Ty.zer rfl) rfl ?_)
  try clear hH
  intro w1 b6 hH
  replace hH:=nn2 hH
  repeat (refine lp rfl rfl ?_)
  refine WL_s (H_storeA 1 hH rfl rfl rfl rfl rfl (evc_one _ _ _) (Ty.shp rfl) ?_)
  clear hH
  intro w2 hH
  replace hH:=nn2 hH
  have hB6:Blk w2 b6 293 (evc r x b).toArray:=hH.b 1 rfl
  repeat (first|refine WS_seq ?_|refine WS_region ?_|refine WL_nil ?_|refine WS_block ?_|(refine WL_r (by refine k_loadA rfl hB6 rfl (Ty.shp rfl)) rfl ?_))
  refine WL_s (S_call (bright_spec) rfl rfl ?_)
  rintro v w3 ⟨rfl,hE⟩
  replace hH:=hH.ext0 hE
  clear hE hB6
  rw [decide_eq_true hok]
  have hB6:Blk w3 b6 293 (evc r x b).toArray:=hH.b 1 rfl
  replace hH:=hH.take 1
  replace hH:=nn1 hH
  repeat (first|refine WS_seq ?_|refine WS_region ?_|refine WL_nil ?_|refine WS_inBlock ?_|refine WS_skip ?_|refine WS_false rfl ?_|(refine WL_r (by first|refine k_fa rfl (Ty.fld rfl rfl)|refine k_loadb rfl hB6 rfl (Ty.shp rfl)|refine k_neqbF rfl rfl (by kernel_rfl) hbI|refine Run_pev rfl|refine k_add64 rfl rfl (by omega)|refine k_sub64 rfl rfl (by omega)|refine k_len rfl (Ty.isl rfl)) rfl ?_))
  refine IH (i+1) _ _ ?_ ?_ ?_ ?_
  ·omega
  ·exact ⟨rfl,trivial⟩
  ·repeat first|with_reducible apply Agr.refl|refine Agr.upd rfl ?_|refine Agr.updL rfl ?_|refine Agr.mrg rfl ?_
  ·exact ⟨by omega,hH⟩
 ·clear IH
  repeat (first|refine WS_seq ?_|refine WS_region ?_|refine WL_nil ?_|refine WS_block ?_|refine WS_exit rfl ?_|refine WS_no rfl (by omega) ?_|(refine WL_r (by first|refine Run_pev rfl|refine k_len rfl (Ty.isl rfl)) rfl ?_))
  refine WS_loop (G:=(Nat) × (Option Addr) × (Nat)) (fun|(j,ao,co)=>ps.length-j) 18446735277616530176 (fun|(j,ao,co)=>[(43,.int .i64 j)]) (fun|(j,ao,co),w'=>j≤ps.length∧Hp (Rw p a c bs).fp w w' [Rw p ao co (bs++evB ((mk ps).take j))]) (0,a,c) ⟨rfl,trivial⟩ ⟨by omega,by simpa [evB] using hH⟩ ?_
  rintro ⟨j,ao,co⟩ w' σ ⟨hj,hH⟩ IH
  show WS _ _ _ _ _ (updL [(43,.int .i64 j)] _) _
  have hS2:=hH.oldS hS hd
  by_cases hlt:j<ps.length
  ·obtain ⟨r,x,b,hev,hok,_,hnx⟩:=ev_at hg hlt
   obtain ⟨hsg,hx1,hx2⟩:=sgn_lvn hok
   have hnum:=hok.num b
   simp only at hnum
   have hel:=evB_le hg j
   have hel2:=evB_le hg (j+1)
   rw [hnx,List.length_append,evb,List.length_append] at hel2
   repeat (first|refine WS_seq ?_|refine WS_region ?_|refine WL_nil ?_|refine WS_block ?_|refine WS_skip ?_|refine WS_yes rfl (by omega) ?_|(refine WL_r (by first|refine k_ix rfl rfl hS2 hle (by decide) (Ty.sle rfl) (by omega)|refine k_loadC rfl hS2 hev rfl (Ty.shp rfl)|refine Run_pev rfl) rfl ?_))
   refine WL_s (H_alloc hH (Ty.zer rfl) rfl ?_)
   try clear hH
   intro w1 b8 hH
   replace hH:=nn2 hH
   skip
   refine WL_s (H_storeA 1 hH rfl rfl rfl rfl rfl (evc_one _ _ _) (Ty.shp rfl) ?_)
   clear hH
   intro w2 hH
   replace hH:=nn2 hH
   have hB8:Blk w2 b8 293 (evc r x b).toArray:=hH.b 1 rfl
   have hr63:r≤63:=hok.1
   have hm1:(2:Int)*(r:Int)=((2*r:Nat):Int):=by simp
   have hm2:((2*r:Nat):Int)+1=((2*r+1:Nat):Int):=by simp
   cases b with
   | true =>
    repeat (first|refine WS_seq ?_|refine WS_region ?_|refine WL_nil ?_|refine WS_true rfl ?_|(refine WL_r (by first|refine k_fa rfl (Ty.fld rfl rfl)|refine k_loadb rfl hB8 rfl (Ty.shp rfl)|refine (k_mul64 rfl rfl (by omega)).is (congrArg (Value.int .i64) hm1)|refine (k_add64 rfl rfl (by omega)).is (congrArg (Value.int .i64) hm2)|refine Run_pev rfl) rfl ?_))
    refine WL_s (S_call (rput_spec (n:=2*r+true.toNat) (by omega) (by rw [List.length_append];omega) (hH.at 0 rfl)) rfl rfl ?_)
    rintro v w3 ⟨rfl,a3,c3,hU⟩
    replace hH:=hH.up 0 rfl hU
    clear hU
    replace hH:=nn2 hH
    have hB8:Blk w3 b8 293 (evc r x true).toArray:=hH.b 1 rfl
    repeat (first|refine WS_region ?_|refine WL_nil ?_|(refine WL_r (by first|refine k_fa rfl (Ty.fld rfl rfl)|refine k_loadb rfl hB8 rfl (Ty.shp rfl)|refine Run_pev rfl) rfl ?_))
    refine WL_s (S_call (signed_spec ⟨hx1,hx2⟩) rfl rfl ?_)
    rintro v w4 ⟨rfl,rfl⟩
    repeat ((refine WL_r (by refine (k_sub64 rfl rfl (by omega)).is (congrArg (Value.int .i64) hsg)) rfl ?_))
    refine WL_s (S_call (rput_spec (n:=lvn x) (by omega) (by simp at hel2 ⊢;omega) (hH.at 0 rfl)) rfl rfl ?_)
    rintro v w5 ⟨rfl,a5,c5,hU⟩
    replace hH:=(hH.up 0 rfl hU).take 1
    clear hU
    replace hH:=nn1 hH
    rw [List.append_assoc,List.append_assoc,show rv (2*r+true.toNat)++rv (lvn x)=evb true (r,x) from rfl,← hnx] at hH
    repeat (first|refine WS_region ?_|refine WL_nil ?_|refine WS_inBlock ?_|(refine WL_r (by first|refine Run_pev rfl|refine k_add64 rfl rfl (by omega)) rfl ?_))
    refine IH (j+1,a5,c5) _ _ ?_ ?_ ?_ ?_
    ·simp only;omega
    ·exact ⟨rfl,trivial⟩
    ·repeat first|with_reducible apply Agr.refl|refine Agr.upd rfl ?_|refine Agr.updL rfl ?_|refine Agr.mrg rfl ?_
    ·exact ⟨by omega,hH⟩
   | false =>
    repeat (first|refine WS_seq ?_|refine WS_region ?_|refine WL_nil ?_|refine WS_skip ?_|refine WS_false rfl ?_|(refine WL_r (by first|refine k_fa rfl (Ty.fld rfl rfl)|refine k_loadb rfl hB8 rfl (Ty.shp rfl)|refine (k_mul64 rfl rfl (by omega)).is (congrArg (Value.int .i64) hm1)|refine Run_pev rfl) rfl ?_))
    refine WL_s (S_call (rput_spec (n:=2*r+false.toNat) (by omega) (by rw [List.length_append];omega) (hH.at 0 rfl)) rfl rfl ?_)
    rintro v w3 ⟨rfl,a3,c3,hU⟩
    replace hH:=hH.up 0 rfl hU
    clear hU
    replace hH:=nn2 hH
    have hB8:Blk w3 b8 293 (evc r x false).toArray:=hH.b 1 rfl
    repeat (first|refine WS_region ?_|refine WL_nil ?_|(refine WL_r (by first|refine k_fa rfl (Ty.fld rfl rfl)|refine k_loadb rfl hB8 rfl (Ty.shp rfl)|refine Run_pev rfl) rfl ?_))
    refine WL_s (S_call (signed_spec ⟨hx1,hx2⟩) rfl rfl ?_)
    rintro v w4 ⟨rfl,rfl⟩
    repeat ((refine WL_r (by refine (k_sub64 rfl rfl (by omega)).is (congrArg (Value.int .i64) hsg)) rfl ?_))
    refine WL_s (S_call (rput_spec (n:=lvn x) (by omega) (by simp at hel2 ⊢;omega) (hH.at 0 rfl)) rfl rfl ?_)
    rintro v w5 ⟨rfl,a5,c5,hU⟩
    replace hH:=(hH.up 0 rfl hU).take 1
    clear hU
    replace hH:=nn1 hH
    rw [List.append_assoc,List.append_assoc,show rv (2*r+false.toNat)++rv (lvn x)=evb false (r,x) from rfl,← hnx] at hH
    repeat (first|refine WS_region ?_|refine WL_nil ?_|refine WS_inBlock ?_|(refine WL_r (by first|refine Run_pev rfl|refine k_add64 rfl rfl (by omega)) rfl ?_))
    refine IH (j+1,a5,c5) _ _ ?_ ?_ ?_ ?_
    ·simp only;omega
    ·exact ⟨rfl,trivial⟩
    ·repeat first|with_reducible apply Agr.refl|refine Agr.upd rfl ?_|refine Agr.updL rfl ?_|refine Agr.mrg rfl ?_
    ·exact ⟨by omega,hH⟩
  ·obtain rfl:j=ps.length:=by omega
   rw [List.take_of_length_le (by rw [mk_len];omega),← bb_mk] at hH
   repeat (first|refine WS_seq ?_|refine WS_region ?_|refine WL_nil ?_|refine WS_exit rfl ?_|refine WS_no rfl (by omega) ?_|refine lp rfl rfl ?_)
   exact WS_ret1 Tryz.func142 rfl ⟨rfl,ao,co,hH.upd 0 rfl⟩
end Go.Proofs.YtpbiicegmcpkpaaGreat
namespace Go.Proofs.YtpbiicegmcpkpaaGreat
open Go Go.K Go.P Go.RowKit Go.Proofs
theorem rbits_rbt (k:Nat) (s:RS):rbits k s=rbt k s:=rfl
theorem PH.one (h:PH):∀ v∈h.cells.toArray.toList,v.oneCell'=true:=by intro v hv;simp [PH.cells] at hv;rcases hv with rfl|rfl|rfl|rfl<;>rfl
theorem pcheck_spec (h:PH) (w:World):Does Tryz.prog 55 #[h.v] w fun v w'=>v=.int .i64 h.err∧Ext [] w w':=by
 refine Does_of (args:=[_]) Tryz.func55 rfl rfl Tryz.ntmps55 rfl ?_
 obtain ⟨id,inter,down,qp⟩:=h
 have hH:=Hp.start w
 repeat (first|refine WS_seq ?_|refine WS_region ?_)
 refine WL_s (H_box (cs:=#[.int .i64 id,.bool inter,.bool down,.int .i64 qp]) hH rfl rfl rfl ?_)
 try clear hH
 intro w1 b hH
 have hB:Blk w1 b 69 #[.int .i64 id,.bool inter,.bool down,.int .i64 qp]:=hH.b 0 rfl
 unfold PH.err
 simp only
 by_cases h1:id<0
 ·rw [if_pos (.inl h1)]
  repeat (first|refine WS_seq ?_|refine WS_region ?_|refine WL_nil ?_|refine WS_block ?_|refine WS_true rfl ?_|refine WL_gno (b:=true) rfl rfl (dT (by omega)) rfl rfl ?_|(refine WL_r (by first|refine k_fa rfl (Ty.fld rfl rfl)|refine k_loadb rfl hB rfl (Ty.shp rfl)|refine Run_pev rfl|refine k_pick_t (dT (by omega)) rfl) rfl ?_))
  exact WS_ret1 Tryz.func55 rfl ⟨rfl,hH.ext⟩
 by_cases h2:65535<id
 ·rw [if_pos (.inr h2)]
  repeat (first|refine WS_seq ?_|refine WS_region ?_|refine WL_nil ?_|refine WS_block ?_|refine WS_yes rfl (by omega) ?_|refine WL_gyes rfl rfl (dF (by omega)) ?_|(refine WL_r (by first|refine k_fa rfl (Ty.fld rfl rfl)|refine k_loadb rfl hB rfl (Ty.shp rfl)|refine Run_pev rfl|refine k_pick_f (dF (by omega)) rfl) rfl ?_))
  exact WS_ret1 Tryz.func55 rfl ⟨rfl,hH.ext⟩
 rw [if_neg (by omega)]
 by_cases h3:qp<1
 ·rw [if_pos (.inl h3)]
  repeat (first|refine WS_seq ?_|refine WS_region ?_|refine WL_nil ?_|refine WS_block ?_|refine WS_true rfl ?_|refine WS_no rfl (by omega) ?_|refine WL_gyes rfl rfl (dF (by omega)) ?_|refine WL_gno (b:=true) rfl rfl (dT (by omega)) rfl rfl ?_|(refine WL_r (by first|refine k_fa rfl (Ty.fld rfl rfl)|refine k_loadb rfl hB rfl (Ty.shp rfl)|refine Run_pev rfl|refine k_pick_f (dF (by omega)) rfl|refine k_pick_t (dT (by omega)) rfl) rfl ?_))
  exact WS_ret1 Tryz.func55 rfl ⟨rfl,hH.ext⟩
 by_cases h4:31<qp
 ·rw [if_pos (.inr h4)]
  repeat (first|refine WS_seq ?_|refine WS_region ?_|refine WL_nil ?_|refine WS_block ?_|refine WS_yes rfl (by omega) ?_|refine WS_no rfl (by omega) ?_|refine WL_gyes rfl rfl (dF (by omega)) ?_|(refine WL_r (by first|refine k_fa rfl (Ty.fld rfl rfl)|refine k_loadb rfl hB rfl (Ty.shp rfl)|refine Run_pev rfl|refine k_pick_f (dF (by omega)) rfl) rfl ?_))
  exact WS_ret1 Tryz.func55 rfl ⟨rfl,hH.ext⟩
 rw [if_neg (by omega)]
 cases down with
 | false =>
  repeat (first|refine WS_seq ?_|refine WS_region ?_|refine WL_nil ?_|refine WS_block ?_|refine WS_inBlock ?_|refine WS_skip ?_|refine WS_false rfl ?_|refine WS_no rfl (by omega) ?_|refine WL_gno rfl rfl rfl rfl rfl ?_|refine WL_gyes rfl rfl (dF (by omega)) ?_|(refine WL_r (by first|refine k_fa rfl (Ty.fld rfl rfl)|refine k_loadb rfl hB rfl (Ty.shp rfl)|refine Run_pev rfl|refine k_pick_f (dF (by omega)) rfl) rfl ?_))
  exact WS_ret1 Tryz.func55 rfl ⟨rfl,hH.ext⟩
 | true=>cases inter with
  | true =>
   repeat (first|refine WS_seq ?_|refine WS_region ?_|refine WL_nil ?_|refine WS_block ?_|refine WS_inBlock ?_|refine WS_skip ?_|refine WS_false rfl ?_|refine WS_no rfl (by omega) ?_|refine WL_gyes rfl rfl rfl ?_|refine WL_gyes rfl rfl (dF (by omega)) ?_|(refine WL_r (by first|refine k_fa rfl (Ty.fld rfl rfl)|refine k_loadb rfl hB rfl (Ty.shp rfl)|refine Run_pev rfl|refine k_pick_f (dF (by omega)) rfl) rfl ?_))
   exact WS_ret1 Tryz.func55 rfl ⟨rfl,hH.ext⟩
  | false =>
   repeat (first|refine WS_seq ?_|refine WS_region ?_|refine WL_nil ?_|refine WS_block ?_|refine WS_true rfl ?_|refine WS_no rfl (by omega) ?_|refine WL_gyes rfl rfl rfl ?_|refine WL_gyes rfl rfl (dF (by omega)) ?_|(refine WL_r (by first|refine k_fa rfl (Ty.fld rfl rfl)|refine k_loadb rfl hB rfl (Ty.shp rfl)|refine Run_pev rfl|refine k_pick_f (dF (by omega)) rfl) rfl ?_))
   exact WS_ret1 Tryz.func55 rfl ⟨rfl,hH.ext⟩
set_option maxHeartbeats 1000000 in
theorem pput_spec {h:PH} {p c:Nat} {a:Option Addr} {bs:List Bool} {w:World} (he:h.err=0) (hbl:bs.length≤1000000000) (hR:(Rw p a c bs).holds w) :
  Does Tryz.prog 67 #[h.v,pt p] w fun v w'=>v=.int .i64 0∧∃ a' c',Upd (Rw p a c bs) (Rw p a' c' (bs++h.bits)) w w':=by
 refine Does_of (args:=[_,_]) Tryz.func67 rfl rfl Tryz.ntmps67 rfl ?_
 have hk:=(PH.ok_iff h).1 he
 have hH:=Hp.start1 hR
 repeat (first|refine WS_seq ?_|refine WS_region ?_)
 refine WL_s (H_box (cs:=h.cells.toArray) hH rfl rfl rfl ?_)
 try clear hH
 intro w1 b hH
 replace hH:=nn2 hH
 have hB:Blk w1 b 69 h.cells.toArray:=hH.b 1 rfl
 repeat (first|refine WS_seq ?_|refine WS_region ?_|refine WL_nil ?_|(refine WL_r (by first|refine k_loadA rfl hB rfl (Ty.shp rfl)|refine Run_pev rfl) rfl ?_))
 refine WL_s (S_call (pcheck_spec h w1) rfl rfl ?_)
 rintro v w2 ⟨rfl,hE⟩
 replace hH:=hH.ext0 hE
 rw [he]
 obtain ⟨id,inter,down,qp⟩:=h
 simp only at hk
 obtain ⟨⟨hi1,hi2⟩,⟨hq1,hq2⟩,_⟩:=hk
 obtain ⟨n,rfl⟩:=Int.eq_ofNat_of_zero_le hi1
 obtain ⟨m,rfl⟩:=Int.eq_ofNat_of_zero_le (show 0≤qp by omega)
 have hB:Blk w2 b 69 #[.int .i64 (n:Nat),.bool inter,.bool down,.int .i64 (m:Nat)]:=hH.b 1 rfl
 repeat (first|refine WS_seq ?_|refine WS_region ?_|refine WL_nil ?_|refine WS_skip ?_|refine WS_false rfl ?_|(refine WL_r (by first|refine k_fa rfl (Ty.fld rfl rfl)|refine k_loadb rfl hB rfl (Ty.shp rfl)|refine Run_pev rfl|refine k_conv64 rfl rfl rfl (by omega)) rfl ?_))
 refine WL_s (S_call (wput_spec (n:=n) (s:=16) (by omega) (by decide) (by omega) (hH.at 0 rfl)) rfl rfl ?_)
 rintro v w3 ⟨rfl,a3,c3,hU⟩
 replace hH:=hH.up 0 rfl hU
 replace hH:=nn2 hH
 have hB:Blk w3 b 69 #[.int .i64 (n:Nat),.bool inter,.bool down,.int .i64 (m:Nat)]:=hH.b 1 rfl
 repeat (first|refine WS_seq ?_|refine WS_region ?_|refine WL_nil ?_|(refine WL_r (by first|refine k_fa rfl (Ty.fld rfl rfl)|refine k_loadb rfl hB rfl (Ty.shp rfl)|refine Run_pev rfl) rfl ?_))
 refine WL_s (S_call (wflag_spec (b:=inter) (by simp [nb_len];omega) (hH.at 0 rfl)) rfl rfl ?_)
 rintro v w4 ⟨rfl,a4,c4,hU⟩
 replace hH:=hH.up 0 rfl hU
 replace hH:=nn2 hH
 have hB:Blk w4 b 69 #[.int .i64 (n:Nat),.bool inter,.bool down,.int .i64 (m:Nat)]:=hH.b 1 rfl
 repeat (first|refine WS_seq ?_|refine WS_region ?_|refine WL_nil ?_|(refine WL_r (by first|refine k_fa rfl (Ty.fld rfl rfl)|refine k_loadb rfl hB rfl (Ty.shp rfl)|refine Run_pev rfl) rfl ?_))
 refine WL_s (S_call (wflag_spec (b:=down) (by simp [nb_len];omega) (hH.at 0 rfl)) rfl rfl ?_)
 rintro v w5 ⟨rfl,a5,c5,hU⟩
 replace hH:=hH.up 0 rfl hU
 replace hH:=nn2 hH
 have hB:Blk w5 b 69 #[.int .i64 (n:Nat),.bool inter,.bool down,.int .i64 (m:Nat)]:=hH.b 1 rfl
 repeat (first|refine WS_seq ?_|refine WS_region ?_|refine WL_nil ?_|(refine WL_r (by first|refine k_fa rfl (Ty.fld rfl rfl)|refine k_loadb rfl hB rfl (Ty.shp rfl)|refine Run_pev rfl|refine k_conv64 rfl rfl rfl (by omega)) rfl ?_))
 refine WL_s (S_call (wput_spec (n:=m) (s:=5) (by omega) (by decide) (by simp [nb_len];omega) (hH.at 0 rfl)) rfl rfl ?_)
 rintro v w6 ⟨rfl,a6,c6,hU⟩
 replace hH:=hH.up 0 rfl hU
 replace hH:=nn2 hH
 repeat (first|refine WS_seq ?_|refine WS_region ?_|refine WL_nil ?_|refine lp rfl rfl ?_)
 refine WS_ret1 Tryz.func67 rfl ⟨rfl,a6,c6,?_⟩
 have e:bs++(PH.mk (n:Nat) inter down (m:Nat)).bits=bs++nb n 16++[inter]++[down]++nb m 5:=by simp [PH.bits]
 rw [e]
 exact hH.upd 0 rfl
def PtR (p:Nat) (a:Option Addr) (c:Nat) (s:RS) (v:Value) (w w':World):Prop :=
 ((PH.rd s).2.ended=false∧(PH.rd s).1.err=0∧v=(PH.rd s).1.v∧Upd (Rd p a c s) (Rd p a c (PH.rd s).2) w w') ∨
 (((PH.rd s).2.ended=true∨(PH.rd s).1.err≠0)∧v=PH.zero.v∧∃ s',s'.ended=true∧Upd (Rd p a c s) (Rd p a c s') w w')
set_option maxHeartbeats 2000000 in
theorem ptake_spec {p c:Nat} {a:Option Addr} {s:RS} {w:World} (hR:(Rd p a c s).holds w):Does Tryz.prog 143 #[pt p] w fun v w'=>PtR p a c s v w w':=by
 refine Does_of (args:=[_]) Tryz.func143 rfl rfl Tryz.ntmps143 rfl ?_
 have hH:=Hp.start1 hR
 repeat (first|refine WS_seq ?_|refine WS_region ?_)
 refine WL_s (H_alloc hH (Ty.zer rfl) rfl ?_)
 try clear hH
 intro w1 b2 hH
 replace hH:=nn2 hH
 repeat (first|refine WS_seq ?_|refine WS_region ?_|refine WL_nil ?_|refine lp rfl rfl ?_)
 refine WL_s (S_call (rbits_spec' (k:=16) (by decide) (hH.at 0 rfl)) rfl rfl ?_)
 rintro v w2 ⟨rfl,hU⟩
 replace hH:=hH.up 0 rfl hU
 replace hH:=nn2 hH
 rw [rbits_rbt] at hH ⊢
 have hlt1:=rbt_lt 16 s
 repeat ((refine WL_r (by first|refine Run_pev rfl|refine k_convI rfl rfl rfl (by omega)) rfl ?_))
 refine WL_s (S_call (rflag_spec (hH.at 0 rfl)) rfl rfl ?_)
 rintro v w3 ⟨rfl,hU⟩
 replace hH:=hH.up 0 rfl hU
 replace hH:=nn2 hH
 repeat (refine lp rfl rfl ?_)
 refine WL_s (S_call (rflag_spec (hH.at 0 rfl)) rfl rfl ?_)
 rintro v w4 ⟨rfl,hU⟩
 replace hH:=hH.up 0 rfl hU
 replace hH:=nn2 hH
 repeat (refine lp rfl rfl ?_)
 refine WL_s (S_call (rbits_spec' (k:=5) (by decide) (hH.at 0 rfl)) rfl rfl ?_)
 rintro v w5 ⟨rfl,hU⟩
 replace hH:=hH.up 0 rfl hU
 replace hH:=nn2 hH
 rw [rbits_rbt] at hH ⊢
 have hlt2:=rbt_lt 5 (rbit (rbit (rbt 16 s).2).2).2
 obtain ⟨hd,hhd⟩:∃ hd,hd=(PH.rd s).1:=⟨_,rfl⟩
 obtain ⟨s5,hs5⟩:∃ s5,s5=(PH.rd s).2:=⟨_,rfl⟩
 rw [show (rbt 5 (rbit (rbit (rbt 16 s).2).2).2).2=s5 from hs5.symm] at hH
 repeat ((refine WL_r (by first|refine k_buildS (cs:=hd.cells) (Ty.zer rfl) (Ty.plc rfl) (by rw [hhd];rfl)|refine k_convI rfl rfl rfl (by omega)) rfl ?_))
 refine WL_s (H_alloc hH (Ty.zer rfl) rfl ?_)
 try clear hH
 intro w6 b3 hH
 replace hH:=nn3 hH
 skip
 refine WL_s (H_storeA 2 hH rfl rfl rfl rfl rfl (PH.one hd) (Ty.shp rfl) ?_)
 try clear hH
 intro w7 hH
 replace hH:=nn3 hH
 repeat (first|refine WS_seq ?_|refine WS_region ?_|refine WL_nil ?_|refine lp rfl rfl ?_)
 refine WL_s (S_call (rended_spec (hH.at 0 rfl)) rfl rfl ?_)
 rintro v w8 ⟨rfl,rfl⟩
 have hB:Blk w8 b3 69 hd.cells.toArray:=hH.b 2 rfl
 unfold PtR
 rw [← hhd,← hs5]
 cases hen:s5.ended with
 | true =>
  repeat (first|refine WS_seq ?_|refine WS_region ?_|refine WL_nil ?_|refine WS_true rfl ?_|refine WL_gno rfl rfl rfl rfl rfl ?_|refine lp rfl rfl ?_)
  refine WL_s (S_call (rfail_spec (hH.at 0 rfl)) rfl rfl ?_)
  rintro v w9 ⟨rfl,hU⟩
  replace hH:=hH.up 0 rfl hU
  replace hH:=nn3 hH
  repeat (first|refine WS_seq ?_|refine WS_region ?_|refine WL_nil ?_|(refine WL_r (by refine k_buildS (cs:=PH.zero.cells) (Ty.zer rfl) (Ty.plc rfl) rfl) rfl ?_))
  refine WL_s (H_storeA 1 hH rfl rfl rfl rfl rfl (PH.one PH.zero) (Ty.shp rfl) ?_)
  try clear hH
  intro w10 hH
  replace hH:=nn3 hH
  repeat (refine WL_nil ?_)
  exact WS_retc1 Tryz.func143 rfl rfl (hH.b 1 rfl) rfl (Ty.shp rfl) (.inr ⟨.inl rfl,rfl,_,rfl,hH.upd1⟩)
 | false =>
  repeat (first|refine WL_gyes rfl rfl rfl ?_|(refine WL_r (by first|refine k_loadA rfl hB rfl (Ty.shp rfl)|refine Run_pev rfl) rfl ?_))
  refine WL_s (S_call (pcheck_spec hd w8) rfl rfl ?_)
  rintro v w9 ⟨rfl,hE⟩
  replace hH:=hH.ext0 hE
  have hB:Blk w9 b3 69 hd.cells.toArray:=hH.b 2 rfl
  by_cases he:hd.err=0
  ·rw [he]
   repeat (first|refine WS_seq ?_|refine WS_region ?_|refine WL_nil ?_|refine WS_skip ?_|refine WS_false rfl ?_|refine WL_gyes rfl rfl rfl ?_|(refine WL_r (by first|refine k_loadA rfl hB rfl (Ty.shp rfl)|refine Run_pev rfl) rfl ?_))
   refine WL_s (H_storeA 1 hH rfl rfl rfl rfl rfl (PH.one hd) (Ty.shp rfl) ?_)
   try clear hH
   intro w10 hH
   replace hH:=nn3 hH
   repeat (refine WL_nil ?_)
   exact WS_retc1 Tryz.func143 rfl rfl (hH.b 1 rfl) rfl (Ty.shp rfl) (.inl ⟨rfl,rfl,rfl,hH.upd1⟩)
  ·repeat (first|refine WS_seq ?_|refine WS_region ?_|refine WL_nil ?_|refine WS_true rfl ?_|refine WL_gyes rfl rfl rfl ?_|(refine WL_r (by first|refine (k_neq rfl rfl).is (bT (by omega))|refine Run_pev rfl) rfl ?_))
   refine WL_s (S_call (rfail_spec (hH.at 0 rfl)) rfl rfl ?_)
   rintro v w10 ⟨rfl,hU⟩
   replace hH:=hH.up 0 rfl hU
   replace hH:=nn3 hH
   repeat (first|refine WS_seq ?_|refine WS_region ?_|refine WL_nil ?_|(refine WL_r (by refine k_buildS (cs:=PH.zero.cells) (Ty.zer rfl) (Ty.plc rfl) rfl) rfl ?_))
   refine WL_s (H_storeA 1 hH rfl rfl rfl rfl rfl (PH.one PH.zero) (Ty.shp rfl) ?_)
   try clear hH
   intro w11 hH
   replace hH:=nn3 hH
   repeat (refine WL_nil ?_)
   exact WS_retc1 Tryz.func143 rfl rfl (hH.b 1 rfl) rfl (Ty.shp rfl) (.inr ⟨.inr he,rfl,_,rfl,hH.upd1⟩)
end Go.Proofs.YtpbiicegmcpkpaaGreat
