/- A part of the proof that TopWorse is true at every input; no condition. -/
import Derived.Test.YtpbiicegmcpkpaaGreatT09
import Derived.Test.YtpbiicegmcpkpaaGreatT10
import Derived.Test.YtpbiicegmcpkpaaGreatT12
namespace Go.Proofs.YtpbiicegmcpkpaaGreat
open Go Go.K Go.P Go.RowKit Go.Proofs
def pkc (h:PH) (f c:Int) (va vb:Value):List Value:=h.cells++[.int .i64 f,.int .i64 c,va,vb]
abbrev pkB (w:World) (b:Nat) (h:PH) (f c:Int) (a1:Option Addr) (n1 c1:Nat) (a2:Option Addr) (n2 c2:Nat):Prop :=
 Blk w b 132 #[.int .i64 h.id,.bool h.inter,.bool h.down,.int .i64 h.qp,.int .i64 f,.int .i64 c,.slice a1 n1 c1,.slice a2 n2 c2]
theorem head_sl {w:World} {b:Nat} {h:PH} {f c:Int} {va vb:Value} (hB:Blk w b 132 (pkc h f c va vb).toArray):SlA w (some ⟨b,0,none⟩) (pkc h f c va vb):=hB.sl0
set_option maxHeartbeats 4000000 in
theorem pkcheck_spec {h:PH} {f c all:Int} {a1 a2:Option Addr} {n1 c1 n2 c2:Nat} {w:World} (hall:-9223372036854775808≤all∧all≤9223372036854775807) :
  Does Tryz.prog 66 #[.agg (pkc h f c (.slice a1 n1 c1) (.slice a2 n2 c2)).toArray,.int .i64 all] w fun v w'=>v=.int .i64 (perr h f c n1 n2 all:Nat)∧Ext [] w w':=by
 refine Does_of (args:=[_,_]) Tryz.func66 rfl rfl Tryz.ntmps66 rfl ?_
 have hH:=Hp.start w
 repeat (first|refine WS_seq ?_|refine WS_region ?_)
 refine WL_s (H_box (cs:=(pkc h f c (.slice a1 n1 c1) (.slice a2 n2 c2)).toArray) hH rfl rfl rfl ?_)
 try clear hH
 intro w1 b hH
 have hS:=head_sl (hH.b 0 rfl)
 repeat (first|refine WS_seq ?_|refine WS_region ?_|refine WL_nil ?_|(refine WL_r (by first|refine k_fa rfl (Ty.fld rfl rfl)|refine k_loadC (cs:=h.cells) (j:=0) rfl hS rfl rfl (Ty.shp rfl)|refine Run_pev rfl) rfl ?_))
 refine WL_s (S_call (pcheck_spec h w1) rfl rfl ?_)
 rintro v w2 ⟨rfl,hE⟩
 replace hH:=hH.ext0 hE
 have hB:pkB w2 b h f c a1 n1 c1 a2 n2 c2:=hH.b 0 rfl
 by_cases h0:h.err=0
 ·rw [h0]
  have e0:¬ (h.err≠0):=by omega
  by_cases k1:f<0
  ·skip
   repeat (first|refine WS_seq ?_|refine WS_region ?_|refine WL_nil ?_|refine WS_block ?_|refine WS_skip ?_|refine WS_true rfl ?_|refine WS_false rfl ?_|refine WL_gno rfl rfl rfl rfl rfl ?_|refine WL_gno (b:=true) rfl rfl (dT (by omega)) rfl rfl ?_|(refine WL_r (by first|refine k_fa rfl (Ty.fld rfl rfl)|refine k_loadb rfl hB rfl (Ty.shp rfl)|refine Run_pev rfl|refine k_pick_t (dT (by omega)) rfl) rfl ?_))
   exact WS_ret1 Tryz.func66 rfl ⟨congrArg (fun n:Nat=>Value.int .i64 (n:Int)) (show _=perr h f c n1 n2 all by unfold perr;rw [if_neg e0,if_pos (.inl k1)]),hH.ext⟩
  by_cases k2:c<1
  ·skip
   repeat (first|refine WS_seq ?_|refine WS_region ?_|refine WL_nil ?_|refine WS_block ?_|refine WS_skip ?_|refine WS_true rfl ?_|refine WS_false rfl ?_|refine WL_gno rfl rfl rfl rfl rfl ?_|refine WL_gyes rfl rfl (dF (by omega)) ?_|refine WL_gno (b:=true) rfl rfl (dT (by omega)) rfl rfl ?_|(refine WL_r (by first|refine k_fa rfl (Ty.fld rfl rfl)|refine k_loadb rfl hB rfl (Ty.shp rfl)|refine Run_pev rfl|refine k_pick_f (dF (by omega)) rfl|refine k_pick_t (dT (by omega)) rfl) rfl ?_))
   exact WS_ret1 Tryz.func66 rfl ⟨congrArg (fun n:Nat=>Value.int .i64 (n:Int)) (show _=perr h f c n1 n2 all by unfold perr;rw [if_neg e0,if_pos (.inr (.inl k2))]),hH.ext⟩
  by_cases k3:all<f
  ·skip
   repeat (first|refine WS_seq ?_|refine WS_region ?_|refine WL_nil ?_|refine WS_block ?_|refine WS_skip ?_|refine WS_true rfl ?_|refine WS_false rfl ?_|refine WL_gno rfl rfl rfl rfl rfl ?_|refine WL_gyes rfl rfl (dF (by omega)) ?_|refine WL_gno (b:=true) rfl rfl (dT (by omega)) rfl rfl ?_|(refine WL_r (by first|refine k_fa rfl (Ty.fld rfl rfl)|refine k_loadb rfl hB rfl (Ty.shp rfl)|refine Run_pev rfl|refine k_pick_f (dF (by omega)) rfl|refine k_pick_t (dT (by omega)) rfl) rfl ?_))
   exact WS_ret1 Tryz.func66 rfl ⟨congrArg (fun n:Nat=>Value.int .i64 (n:Int)) (show _=perr h f c n1 n2 all by unfold perr;rw [if_neg e0,if_pos (.inr (.inr (.inl k3)))]),hH.ext⟩
  by_cases k4:all-f<c
  ·skip
   repeat (first|refine WS_seq ?_|refine WS_region ?_|refine WL_nil ?_|refine WS_block ?_|refine WS_skip ?_|refine WS_true rfl ?_|refine WS_false rfl ?_|refine WL_gyes rfl rfl (dF (by omega)) ?_|refine WL_gno (b:=true) rfl rfl (dT (by omega)) rfl rfl ?_|(refine WL_r (by first|refine k_fa rfl (Ty.fld rfl rfl)|refine k_loadb rfl hB rfl (Ty.shp rfl)|refine Run_pev rfl|refine k_sub64 rfl rfl (by omega)|refine k_pick_f (dF (by omega)) rfl|refine k_pick_t (dT (by omega)) rfl) rfl ?_))
   exact WS_ret1 Tryz.func66 rfl ⟨congrArg (fun n:Nat=>Value.int .i64 (n:Int)) (show _=perr h f c n1 n2 all by unfold perr;rw [if_neg e0,if_pos (.inr (.inr (.inr (.inl k4))))]),hH.ext⟩
  by_cases k5:64<all
  ·skip
   repeat (first|refine WS_seq ?_|refine WS_region ?_|refine WL_nil ?_|refine WS_block ?_|refine WS_skip ?_|refine WS_false rfl ?_|refine WS_yes rfl (by omega) ?_|refine WL_gyes rfl rfl (dF (by omega)) ?_|(refine WL_r (by first|refine k_fa rfl (Ty.fld rfl rfl)|refine k_loadb rfl hB rfl (Ty.shp rfl)|refine Run_pev rfl|refine k_sub64 rfl rfl (by omega)|refine k_pick_f (dF (by omega)) rfl) rfl ?_))
   exact WS_ret1 Tryz.func66 rfl ⟨congrArg (fun n:Nat=>Value.int .i64 (n:Int)) (show _=perr h f c n1 n2 all by unfold perr;rw [if_neg e0,if_pos (.inr (.inr (.inr (.inr k5))))]),hH.ext⟩
  have e1:¬ (f<0∨c<1∨all<f∨all-f<c∨64<all):=by omega
  by_cases k6:n1<1
  ·skip
   repeat (first|refine WS_seq ?_|refine WS_region ?_|refine WL_nil ?_|refine WS_block ?_|refine WS_skip ?_|refine WS_true rfl ?_|refine WS_false rfl ?_|refine WS_no rfl (by omega) ?_|refine WL_gno rfl rfl rfl rfl rfl ?_|refine WL_gyes rfl rfl (dF (by omega)) ?_|refine WL_gno (b:=true) rfl rfl (dT (by omega)) rfl rfl ?_|(refine WL_r (by first|refine k_fa rfl (Ty.fld rfl rfl)|refine k_loadb rfl hB rfl (Ty.shp rfl)|refine Run_pev rfl|refine k_sub64 rfl rfl (by omega)|refine k_len rfl (Ty.isl rfl)|refine k_pick_f (dF (by omega)) rfl|refine k_pick_t (dT (by omega)) rfl) rfl ?_))
   exact WS_ret1 Tryz.func66 rfl ⟨congrArg (fun n:Nat=>Value.int .i64 (n:Int)) (show _=perr h f c n1 n2 all by unfold perr;rw [if_neg e0,if_neg e1,if_pos (.inl k6)]),hH.ext⟩
  by_cases k7:30000<n1
  ·skip
   repeat (first|refine WS_seq ?_|refine WS_region ?_|refine WL_nil ?_|refine WS_block ?_|refine WS_skip ?_|refine WS_true rfl ?_|refine WS_false rfl ?_|refine WS_no rfl (by omega) ?_|refine WL_gno rfl rfl rfl rfl rfl ?_|refine WL_gyes rfl rfl (dF (by omega)) ?_|refine WL_gno (b:=true) rfl rfl (dT (by omega)) rfl rfl ?_|(refine WL_r (by first|refine k_fa rfl (Ty.fld rfl rfl)|refine k_loadb rfl hB rfl (Ty.shp rfl)|refine Run_pev rfl|refine k_sub64 rfl rfl (by omega)|refine k_len rfl (Ty.isl rfl)|refine k_pick_f (dF (by omega)) rfl|refine k_pick_t (dT (by omega)) rfl) rfl ?_))
   exact WS_ret1 Tryz.func66 rfl ⟨congrArg (fun n:Nat=>Value.int .i64 (n:Int)) (show _=perr h f c n1 n2 all by unfold perr;rw [if_neg e0,if_neg e1,if_pos (.inr (.inl k7))]),hH.ext⟩
  by_cases k8:n2<1
  ·skip
   repeat (first|refine WS_seq ?_|refine WS_region ?_|refine WL_nil ?_|refine WS_block ?_|refine WS_skip ?_|refine WS_true rfl ?_|refine WS_false rfl ?_|refine WS_no rfl (by omega) ?_|refine WL_gyes rfl rfl (dF (by omega)) ?_|refine WL_gno (b:=true) rfl rfl (dT (by omega)) rfl rfl ?_|(refine WL_r (by first|refine k_fa rfl (Ty.fld rfl rfl)|refine k_loadb rfl hB rfl (Ty.shp rfl)|refine Run_pev rfl|refine k_sub64 rfl rfl (by omega)|refine k_len rfl (Ty.isl rfl)|refine k_pick_f (dF (by omega)) rfl|refine k_pick_t (dT (by omega)) rfl) rfl ?_))
   exact WS_ret1 Tryz.func66 rfl ⟨congrArg (fun n:Nat=>Value.int .i64 (n:Int)) (show _=perr h f c n1 n2 all by unfold perr;rw [if_neg e0,if_neg e1,if_pos (.inr (.inr (.inl k8)))]),hH.ext⟩
  by_cases k9:30000<n2
  ·skip
   repeat (first|refine WS_seq ?_|refine WS_region ?_|refine WL_nil ?_|refine WS_block ?_|refine WS_skip ?_|refine WS_false rfl ?_|refine WS_yes rfl (by omega) ?_|refine WS_no rfl (by omega) ?_|refine WL_gyes rfl rfl (dF (by omega)) ?_|(refine WL_r (by first|refine k_fa rfl (Ty.fld rfl rfl)|refine k_loadb rfl hB rfl (Ty.shp rfl)|refine Run_pev rfl|refine k_sub64 rfl rfl (by omega)|refine k_len rfl (Ty.isl rfl)|refine k_pick_f (dF (by omega)) rfl) rfl ?_))
   exact WS_ret1 Tryz.func66 rfl ⟨congrArg (fun n:Nat=>Value.int .i64 (n:Int)) (show _=perr h f c n1 n2 all by unfold perr;rw [if_neg e0,if_neg e1,if_pos (.inr (.inr (.inr k9)))]),hH.ext⟩
  repeat (first|refine WS_seq ?_|refine WS_region ?_|refine WL_nil ?_|refine WS_block ?_|refine WS_inBlock ?_|refine WS_skip ?_|refine WS_false rfl ?_|refine WS_no rfl (by omega) ?_|refine WL_gyes rfl rfl (dF (by omega)) ?_|(refine WL_r (by first|refine k_fa rfl (Ty.fld rfl rfl)|refine k_loadb rfl hB rfl (Ty.shp rfl)|refine Run_pev rfl|refine k_sub64 rfl rfl (by omega)|refine k_len rfl (Ty.isl rfl)|refine k_pick_f (dF (by omega)) rfl) rfl ?_))
  exact WS_ret1 Tryz.func66 rfl ⟨congrArg (fun n:Nat=>Value.int .i64 (n:Int)) (show _=perr h f c n1 n2 all by unfold perr;rw [if_neg e0,if_neg e1,if_neg (by omega)]),hH.ext⟩
 ·have e:perr h f c n1 n2 all=h.err:=by unfold perr;rw [if_pos h0]
  rw [e]
  generalize h.err=er at *
  repeat (first|refine WS_seq ?_|refine WS_region ?_|refine WL_nil ?_|refine WS_true rfl ?_|(refine WL_r (by first|refine (k_neq rfl rfl).is (bT (by omega))|refine Run_pev rfl) rfl ?_))
  exact WS_ret1 Tryz.func66 rfl ⟨rfl,hH.ext⟩
set_option maxRecDepth 20000 in
set_option maxHeartbeats 8000000 in
theorem pkput_spec {h:PH} {f c:Nat} {all:Int} {a1 a2:Option Addr} {c1 c2:Nat} {A Bb:List Nat} {w:World} (hall:-9223372036854775808≤all∧all≤9223372036854775807) (he:perr h f c A.length Bb.length all=0)
  (hSA:SlA w a1 (A.map B)) (hSB:SlA w a2 (Bb.map B)) (hA:Byt A) (hBb:Byt Bb) :
  Does Tryz.prog 39 #[.agg (pkc h f c (.slice a1 A.length c1) (.slice a2 Bb.length c2)).toArray,.int .i64 all] w fun v w' =>
   ∃ a' c',v=.tuple #[.slice a' (phd ⟨h,f,c,A.length,Bb.length,crc A,crc Bb⟩++A++Bb).length c',.int .i64 0]∧New (RBy a' c' (phd ⟨h,f,c,A.length,Bb.length,crc A,crc Bb⟩++A++Bb)) w w':=by
 refine Does_of (args:=[_,_]) Tryz.func39 rfl rfl Tryz.ntmps39 rfl ?_
 obtain ⟨ho,hk1,hk2⟩:=perr_ok he
 have hcA:=crc_lt A
 have hcB:=crc_lt Bb
 have hH:=Hp.start w
 repeat (first|refine WS_seq ?_|refine WS_region ?_)
 refine WL_s (H_box (cs:=(pkc h f c (.slice a1 A.length c1) (.slice a2 Bb.length c2)).toArray) hH rfl rfl rfl ?_)
 try clear hH
 intro w1 b hH
 have hB:Blk w1 b 132 (pkc h f c (.slice a1 A.length c1) (.slice a2 Bb.length c2)).toArray:=hH.b 0 rfl
 repeat (first|refine WS_seq ?_|refine WS_region ?_|refine WL_nil ?_|(refine WL_r (by first|refine k_loadA rfl hB rfl (Ty.shp rfl)|refine Run_pev rfl) rfl ?_))
 refine WL_s (S_call (pkcheck_spec hall) rfl rfl ?_)
 rintro v w2 ⟨rfl,hE⟩
 replace hH:=hH.ext0 hE
 rw [he]
 repeat (first|refine WS_seq ?_|refine WS_region ?_|refine WL_nil ?_|refine WS_skip ?_|refine WS_false rfl ?_|(refine WL_r (by first|refine k_buildS (cs:=[.slice none 0 0,.int .i64 0]) (Ty.zer rfl) (Ty.plc rfl) rfl|refine Run_pev rfl) rfl ?_))
 refine WL_s (H_box hH rfl rfl rfl ?_)
 try clear hH
 intro w3 q hH
 replace hH:Hp [] w w3 [Rb b 132 (pkc h f c (.slice a1 A.length c1) (.slice a2 Bb.length c2)).toArray,Rw q none 0 []]:=hH.as 1 rfl (fun x hx=>by simpa [Rw,sep,Rb,RBy,Ro,blk] using hx) (fun hB=>⟨hB,Own.nil,fun _ _ hb=>by simp [RBy,Ro,blk] at hb⟩)
 have hS:=head_sl (hH.b 0 rfl)
 repeat (first|refine WS_seq ?_|refine WS_region ?_|refine WL_nil ?_|(refine WL_r (by first|refine k_fa rfl (Ty.fld rfl rfl)|refine k_loadC (cs:=h.cells) (j:=0) rfl hS rfl rfl (Ty.shp rfl)|refine Run_pev rfl) rfl ?_))
 refine WL_s (S_call (pput_spec ho (by decide) (hH.at 1 rfl)) rfl rfl ?_)
 rintro v w4 ⟨rfl,a4,c4,hU⟩
 replace hH:=hH.up 1 rfl hU
 clear hU
 replace hH:=nn2 hH
 rw [List.nil_append] at hH
 have hB:pkB _ b h (f:Nat) (c:Nat) a1 A.length c1 a2 Bb.length c2:=hH.b 0 rfl
 repeat (first|refine WS_seq ?_|refine WS_region ?_|refine WL_nil ?_|(refine WL_r (by first|refine k_fa rfl (Ty.fld rfl rfl)|refine k_loadb rfl hB rfl (Ty.shp rfl)|refine Run_pev rfl|refine k_conv64 rfl rfl rfl (by omega)) rfl ?_))
 refine WL_s (S_call (wput_spec (n:=f) (s:=7) (by omega) (by decide) (by (simp only [PH.bits_len];omega)) (hH.at 1 rfl)) rfl rfl ?_)
 rintro v w' ⟨rfl,a3,c3,hU⟩
 replace hH:=hH.up 1 rfl hU
 clear hU
 replace hH:=nn2 hH
 have hB:pkB _ b h (f:Nat) (c:Nat) a1 A.length c1 a2 Bb.length c2:=hH.b 0 rfl
 repeat (first|refine WS_seq ?_|refine WS_region ?_|refine WL_nil ?_|(refine WL_r (by first|refine k_fa rfl (Ty.fld rfl rfl)|refine k_loadb rfl hB rfl (Ty.shp rfl)|refine Run_pev rfl|refine k_conv64 rfl rfl rfl (by omega)) rfl ?_))
 refine WL_s (S_call (wput_spec (n:=c) (s:=7) (by omega) (by decide) (by (simp only [List.length_append,PH.bits_len,nb_len];omega)) (hH.at 1 rfl)) rfl rfl ?_)
 rintro v w' ⟨rfl,a3,c3,hU⟩
 replace hH:=hH.up 1 rfl hU
 clear hU
 replace hH:=nn2 hH
 have hB:pkB _ b h (f:Nat) (c:Nat) a1 A.length c1 a2 Bb.length c2:=hH.b 0 rfl
 repeat (first|refine WS_seq ?_|refine WS_region ?_|refine WL_nil ?_|(refine WL_r (by first|refine k_fa rfl (Ty.fld rfl rfl)|refine k_loadb rfl hB rfl (Ty.shp rfl)|refine Run_pev rfl|refine k_len rfl (Ty.isl rfl)|refine k_conv64 rfl rfl rfl (by omega)) rfl ?_))
 refine WL_s (S_call (wput_spec (n:=A.length) (s:=16) (by omega) (by decide) (by (simp only [List.length_append,PH.bits_len,nb_len];omega)) (hH.at 1 rfl)) rfl rfl ?_)
 rintro v w' ⟨rfl,a3,c3,hU⟩
 replace hH:=hH.up 1 rfl hU
 clear hU
 replace hH:=nn2 hH
 have hB:pkB _ b h (f:Nat) (c:Nat) a1 A.length c1 a2 Bb.length c2:=hH.b 0 rfl
 repeat (first|refine WS_seq ?_|refine WS_region ?_|refine WL_nil ?_|(refine WL_r (by first|refine k_fa rfl (Ty.fld rfl rfl)|refine k_loadb rfl hB rfl (Ty.shp rfl)|refine Run_pev rfl|refine k_len rfl (Ty.isl rfl)|refine k_conv64 rfl rfl rfl (by omega)) rfl ?_))
 refine WL_s (S_call (wput_spec (n:=Bb.length) (s:=16) (by omega) (by decide) (by (simp only [List.length_append,PH.bits_len,nb_len];omega)) (hH.at 1 rfl)) rfl rfl ?_)
 rintro v w' ⟨rfl,a3,c3,hU⟩
 replace hH:=hH.up 1 rfl hU
 clear hU
 replace hH:=nn2 hH
 have hB:pkB _ b h (f:Nat) (c:Nat) a1 A.length c1 a2 Bb.length c2:=hH.b 0 rfl
 repeat (first|refine WS_seq ?_|refine WS_region ?_|refine WL_nil ?_|(refine WL_r (by first|refine k_fa rfl (Ty.fld rfl rfl)|refine k_loadb rfl hB rfl (Ty.shp rfl)|refine Run_pev rfl) rfl ?_))
 skip
 refine WL_s (H_lit (out:=[.slice a1 A.length c1]) hH (Ty.sle rfl) (Ty.zer rfl) rfl rfl rfl (by decide) rfl ?_)
 try clear hH
 intro _ bs hH
 replace hH:=nn3 hH
 have hbs:=hH.b 2 rfl
 replace hH:=hH.take 2
 replace hH:=nn2 hH
 skip
 refine WL_s (S_call (sum_one hbs (hH.old hSA) hA rfl (by omega)) rfl rfl ?_)
 rintro v w' ⟨rfl,rfl⟩
 rw [show crcAdd 65535 A=crc A from rfl]
 repeat ((refine WL_r (by refine k_conv64 rfl rfl rfl (by omega)) rfl ?_))
 refine WL_s (S_call (wput_spec (n:=crc A) (s:=16) (by omega) (by decide) (by (simp only [List.length_append,PH.bits_len,nb_len];omega)) (hH.at 1 rfl)) rfl rfl ?_)
 rintro v w' ⟨rfl,a3,c3,hU⟩
 replace hH:=hH.up 1 rfl hU
 clear hU
 replace hH:=nn2 hH
 have hB:pkB _ b h (f:Nat) (c:Nat) a1 A.length c1 a2 Bb.length c2:=hH.b 0 rfl
 repeat (first|refine WS_seq ?_|refine WS_region ?_|refine WL_nil ?_|(refine WL_r (by first|refine k_fa rfl (Ty.fld rfl rfl)|refine k_loadb rfl hB rfl (Ty.shp rfl)|refine Run_pev rfl) rfl ?_))
 skip
 refine WL_s (H_lit (out:=[.slice a2 Bb.length c2]) hH (Ty.sle rfl) (Ty.zer rfl) rfl rfl rfl (by decide) rfl ?_)
 try clear hH
 intro _ bs hH
 replace hH:=nn3 hH
 have hbs:=hH.b 2 rfl
 replace hH:=hH.take 2
 replace hH:=nn2 hH
 skip
 refine WL_s (S_call (sum_one hbs (hH.old hSB) hBb rfl (by omega)) rfl rfl ?_)
 rintro v w' ⟨rfl,rfl⟩
 rw [show crcAdd 65535 Bb=crc Bb from rfl]
 repeat ((refine WL_r (by refine k_conv64 rfl rfl rfl (by omega)) rfl ?_))
 refine WL_s (S_call (wput_spec (n:=crc Bb) (s:=16) (by omega) (by decide) (by (simp only [List.length_append,PH.bits_len,nb_len];omega)) (hH.at 1 rfl)) rfl rfl ?_)
 rintro v w' ⟨rfl,a3,c3,hU⟩
 replace hH:=hH.up 1 rfl hU
 clear hU
 replace hH:=nn2 hH
 obtain ⟨d,hd⟩:∃ d,d=PD.mk h f c A.length Bb.length (crc A) (crc Bb):=⟨_,rfl⟩
 have hdb:h.bits++nb f 7++nb c 7++nb A.length 16++nb Bb.length 16++nb (crc A) 16++nb (crc Bb) 16=d.bits:=by rw [hd];simp [PD.bits]
 rw [hdb] at hH
 have hdl:=PD.bits_len d
 have hpl:=pk_len d.bits
 have hpy:=pk_byt d.bits
 have hcH:=crc_lt (pk d.bits)
 repeat (first|refine WS_seq ?_|refine WS_region ?_|refine WL_nil ?_|refine lp rfl rfl ?_)
 refine WL_s (S_call (wbytes_spec (hH.at 1 rfl) (by omega)) rfl rfl ?_)
 rintro v w5 ⟨a5,c5,rfl,hN⟩
 replace hH:=hH.nu hN
 clear hN
 replace hH:=nn3 hH
 skip
 refine WL_s (H_lit (out:=[.slice a5 (pk d.bits).length c5]) hH (Ty.sle rfl) (Ty.zer rfl) rfl rfl rfl (by decide) rfl ?_)
 try clear hH
 intro _ bs hH
 replace hH:=nn4 hH
 have hbs:=hH.b 3 rfl
 have hS5:=(hH.o 2 rfl).sl
 replace hH:=hH.take 2
 replace hH:=nn2 hH
 skip
 refine WL_s (S_call (sum_one hbs hS5 hpy rfl (by omega)) rfl rfl ?_)
 rintro v w' ⟨rfl,rfl⟩
 rw [show crcAdd 65535 (pk d.bits)=crc (pk d.bits) from rfl]
 repeat ((refine WL_r (by refine k_conv64 rfl rfl rfl (by omega)) rfl ?_))
 refine WL_s (S_call (wput_spec (n:=crc (pk d.bits)) (s:=16) (by omega) (by decide) (by omega) (hH.at 1 rfl)) rfl rfl ?_)
 rintro v w' ⟨rfl,a3,c3,hU⟩
 replace hH:=hH.up 1 rfl hU
 clear hU
 replace hH:=nn2 hH
 repeat (first|refine WS_seq ?_|refine WS_region ?_|refine WL_nil ?_|refine lp rfl rfl ?_)
 refine WL_s (S_call (wput_spec (n:=0) (s:=2) (by omega) (by decide) (by (simp only [List.length_append,nb_len];omega)) (hH.at 1 rfl)) rfl rfl ?_)
 rintro v w' ⟨rfl,a3,c3,hU⟩
 replace hH:=hH.up 1 rfl hU
 clear hU
 replace hH:=nn2 hH
 rw [List.append_assoc,show d.bits++(nb (crc (pk d.bits)) 16++nb 0 2)=xb d.bits from rfl] at hH
 have hxl:=xb_len d
 have hXy:=chs_byt (xb d.bits)
 rw [show phd ⟨h,f,c,A.length,Bb.length,crc A,crc Bb⟩=[0,0,1,182]++chs (xb d.bits) by rw [hd];rfl]
 obtain ⟨X,hX⟩:∃ X,X=xb d.bits:=⟨_,rfl⟩
 rw [← hX] at hH hxl hXy ⊢
 clear hX hcH hpy hpl hdl hdb hd hbs hS5
 repeat (first|refine WS_seq ?_|refine WS_region ?_|refine WL_nil ?_)
 refine WL_s (S_call (marker_spec) rfl rfl ?_)
 rintro v w6 ⟨b6,rfl,hN⟩
 replace hH:=hH.nu hN
 clear hN
 replace hH:=nn3 hH
 replace hH:=hH.as 2 rfl (r':=Ro 5 1 (some ⟨b6,0,none⟩) 3 3 [B 0,B 0,B 1]) (fun _ h=>h) (fun h=>(h:Blk _ _ _ _).own (n:=3) (sz:=1) rfl (by decide))
 replace hH:=nn3 hH
 skip
 refine WL_s (H_lit (out:=[B 182]) hH (Ty.sle rfl) (Ty.zer rfl) rfl rfl rfl (by decide) rfl ?_)
 try clear hH
 intro _ blit hH
 replace hH:=nn4 hH
 refine WL_s (H_append 2 hH rfl (Ty.sle rfl) (Ty.zer rfl) rfl (Ty.byt rfl) (by decide) rfl rfl ((hH.b 3 rfl).sl0) (by simp;try omega) (by simp) (by omega) (by simp only [maxLen];omega) rfl ?_)
 try clear hH
 intro _ a7 c7 hH
 replace hH:=nn4 hH
 replace hH:=hH.del 3
 replace hH:=nn3 hH
 repeat (first|refine WS_seq ?_|refine WS_region ?_|refine WL_nil ?_|refine lp rfl rfl ?_)
 refine WL_s (S_call (wbytes_spec (hH.at 1 rfl) (by omega)) rfl rfl ?_)
 rintro v w8 ⟨a8,c8,rfl,hN⟩
 replace hH:=hH.nu hN
 clear hN
 replace hH:=nn4 hH
 repeat (refine lp rfl rfl ?_)
 refine WL_s (S_call (wlen_spec (hH.at 1 rfl)) rfl rfl ?_)
 rintro v w9 ⟨rfl,rfl⟩
 have hpl:=pk_len X
 have hpb:=pk_byt X
 have hbp:=bl_pk X
 skip
 refine WL_s (S_call (read_spec (e:=X.length) (hH.o 3 rfl).sl rfl (by omega) (by omega)) rfl rfl ?_)
 rintro v w9 ⟨r,a9,c9,rfl,hN⟩
 replace hN:=Rr.rd hN (by omega) (by omega) hpb
 rw [hbp] at hN
 replace hH:=((hH.nu hN).del 3).del 1
 clear hN
 replace hH:=nn3 hH
 repeat (first|refine WS_seq ?_|refine WS_region ?_|refine WL_nil ?_|refine WS_block ?_|refine lp rfl rfl ?_)
 refine WS_loop (G:=(Nat) × (Option Addr) × (Nat)) (fun|(i,ao,co)=>17-i) 38647847295805176428888320 (fun|(i,ao,co)=>[(75,.int .i64 i),(8,.slice ao (4+i) co)]) (fun|(i,ao,co),w'=>i≤17∧Hp [] w w' [Rb b 132 (pkc h f c (.slice a1 A.length c1) (.slice a2 Bb.length c2)).toArray,Ro 5 1 ao (4+i) co (([0,0,1,182]++(List.range i).map (ch X)).map B),Rd r a9 c9 ⟨X.drop (7*i),false⟩]) (0,a7,c7) ⟨rfl,rfl,trivial⟩ ⟨by omega,hH⟩ ?_
 rintro ⟨i,ao,co⟩ w' σ ⟨hi,hH⟩ IH
 show WS _ _ _ _ _ (updL [(75,.int .i64 i),(8,.slice ao (4+i) co)] _) _
 by_cases hlt:i<17
 ·have hrb:rbits 7 (⟨X.drop (7*i),false⟩:RS)=(numB 0 ((X.drop (7*i)).take 7),⟨X.drop (7*(i+1)),false⟩):=by
   rw [rbits_rbt,rbt_full (by simp;omega),List.drop_drop,show 7*i+7=7*(i+1) by omega]
  have hlt7:=numB_lt ((X.drop (7*i)).take 7) 0 0 (by decide)
  rw [show ((X.drop (7*i)).take 7).length=7 by simp;omega] at hlt7
  have hnx:(([0,0,1,182]++(List.range (i+1)).map (ch X)).map B)=([0,0,1,182]++(List.range i).map (ch X)).map B++[B (ch X i)]:=by rw [List.range_succ,List.map_append];simp
  have hor:128 ||| numB 0 ((X.drop (7*i)).take 7)=ch X i:=by
   have h:=Nat.two_pow_add_eq_or_of_lt (i:=7) (b:=numB 0 ((X.drop (7*i)).take 7)) (by omega) 1
   unfold ch
   exact h.symm
  have hcl:=ch_lt X i
  repeat (first|refine WS_seq ?_|refine WS_region ?_|refine WL_nil ?_|refine WS_block ?_|refine WS_skip ?_|refine WS_yes rfl (by omega) ?_|refine lp rfl rfl ?_)
  refine WL_s (S_call (rbits_spec' (k:=7) (by decide) (hH.at 2 rfl)) rfl rfl ?_)
  rintro v w10 ⟨rfl,hU⟩
  replace hH:=hH.up 2 rfl hU
  clear hU
  replace hH:=nn3 hH
  rw [hrb] at hH ⊢
  generalize numB 0 ((X.drop (7 * i)).take 7)=x at *
  generalize ch X i=y at *
  repeat ((refine WL_r (by first|refine k_conv_fit (qd:=.u8) rfl (Ty.und rfl) (Ty.knd rfl) (fit8 (by omega))|refine (k_or (m:=128) (n:=x) rfl rfl rfl (fit8 (by omega))).is (congrArg (fun n:Nat=>Value.int .u8 (n:Int)) hor)) rfl ?_))
  refine WL_s (H_lit (out:=[B y]) hH (Ty.sle rfl) (Ty.zer rfl) rfl rfl rfl (by decide) rfl ?_)
  try clear hH
  intro _ blit hH
  replace hH:=nn4 hH
  refine WL_s (H_append 1 hH rfl (Ty.sle rfl) (Ty.zer rfl) rfl (Ty.byt rfl) (by decide) rfl rfl ((hH.b 3 rfl).sl0) (by simp;try omega) (by simp) (by omega) (by simp only [maxLen];omega) rfl ?_)
  try clear hH
  intro _ a11 c11 hH
  replace hH:=nn4 hH
  replace hH:=hH.del 3
  replace hH:=nn3 hH
  repeat (first|refine WS_region ?_|refine WL_nil ?_|refine WS_inBlock ?_|(refine WL_r (by first|refine Run_pev rfl|refine k_add64 rfl rfl (by omega)) rfl ?_))
  refine IH (i+1,a11,c11) _ _ ?_ ?_ ?_ ?_
  ·simp only;omega
  ·exact ⟨rfl,rfl,trivial⟩
  ·repeat first|with_reducible apply Agr.refl|refine Agr.upd rfl ?_|refine Agr.updL rfl ?_|refine Agr.mrg rfl ?_
  ·exact ⟨by omega,by rw [hnx];exact hH⟩
 obtain rfl:i=17:=by omega
 clear IH
 rw [show (List.range 17).map (ch X)=chs X from rfl] at hH
 replace hH:=hH.take 2
 replace hH:=nn2 hH
 have hO:=hH.o 1 rfl
 have hB:pkB w' b h (f:Nat) (c:Nat) a1 A.length c1 a2 Bb.length c2:=hH.b 0 rfl
 have hdj:=hH.dj 1 0 rfl rfl (by decide)
 have hall1:∀ {l:List Nat},∀ u∈l.map B,u.oneCell'=true:=fun u hu=>by obtain ⟨x,_,rfl⟩:=List.mem_map.1 hu;rfl
 repeat (first|refine WS_seq ?_|refine WS_region ?_|refine WL_nil ?_|refine WS_exit rfl ?_|refine WS_false rfl ?_|refine lp rfl rfl ?_)
 refine WS_draw Ty.mixed (fun w''=>Ext (blk ao) w' w'') 9 rfl ?_
 replace hH:=hH.ext0 (Ext.drew0 (S:=[]))
 have hx0:Ext (blk ao) w' w'.drew:=Ext.drew0
 have hO0:=hO.ext0 (Ext.drew0 (S:=[]))
 generalize w'.drew=w12 at *
 refine wp 0 hx0 rfl rfl rfl rfl ?_
 refine wt 1 hx0 rfl rfl rfl (fun w' hw'=>by refine k_fa rfl (Ty.fld rfl rfl)) ?_
 refine wt 2 hx0 rfl rfl rfl (fun w' hw'=>by refine k_loadb rfl (hB.ext hw' (fun h=>hdj _ h (by simp [Rb]))) rfl (Ty.shp rfl)) ?_
 refine wt 4 hx0 rfl rfl rfl (fun w' hw'=>by refine k_fa rfl (Ty.fld rfl rfl)) ?_
 refine wt 5 hx0 rfl rfl rfl (fun w' hw'=>by refine k_loadb rfl (hB.ext hw' (fun h=>hdj _ h (by simp [Rb]))) rfl (Ty.shp rfl)) ?_
 refine WA_one 3 (by kernel_rfl) rfl rfl (S_append (Ty.sle rfl) (Ty.zer rfl) rfl (Ty.byt rfl) (by decide) rfl hO0 rfl (hH.old hSA) (by simp) hall1 (by omega) (by simp only [maxLen];omega) rfl ?_)
 intro w13 a13 c13 hE13 hO13 hf13 _
 have hx1:=hx0.then1' hE13
 replace hH:=hH.up (r':=Ro 5 1 a13 (4+17+A.length) c13 (List.map B ([0,0,1,182]++chs X)++List.map B A)) 1 rfl ⟨hE13,hO13,hf13⟩
 replace hH:=nn2 hH
 refine ⟨hx1,?_⟩
 refine WA_one 6 (by kernel_rfl) rfl rfl (S_append (Ty.sle rfl) (Ty.zer rfl) rfl (Ty.byt rfl) (by decide) rfl hO13 rfl (hH.old hSB) (by simp) hall1 (by omega) (by simp only [maxLen];omega) rfl ?_)
 intro w14 a14 c14 hE14 hO14 hf14 _
 have hx2:Ext (blk ao) w' w14:=hx1.trans hE14 (fun t ht=>by
  rcases hf13 t ht with h1|h1
  ·exact .inl h1
  ·exact .inr (Nat.le_trans hx0.size h1))
 replace hH:=hH.up (r':=Ro 5 1 a14 (4+17+A.length+Bb.length) c14 (List.map B ([0,0,1,182]++chs X)++List.map B A++List.map B Bb)) 1 rfl ⟨hE14,hO14,hf14⟩
 replace hH:=nn2 hH
 refine ⟨hx2,?_⟩
 refine wp 7 hx2 rfl rfl rfl rfl ?_
 refine wp 8 hx2 rfl rfl rfl rfl ?_
 refine WA_done (by kernel_rfl) ?_
 have hln:4+17+A.length+Bb.length=(([0,0,1,182]++chs X)++A++Bb).length:=by simp [chs_len];omega
 rw [hln] at hH ⊢
 skip
 refine WS_ret2 Tryz.func39 rfl ⟨a14,c14,rfl,(hH.new1 1 rfl).as (fun _ h=>h) (fun h=>?_)⟩
 simpa [RBy,Ro] using h
end Go.Proofs.YtpbiicegmcpkpaaGreat
