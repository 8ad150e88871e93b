/- A part of the proof that TopWorse is true at every input; no condition. -/
import Derived.Test.YtpbiicegmcpkpaaGreatT07
namespace Go.P
def crcBit (s:Nat):Nat:=if s &&& 32768≠0 then (s*2 % 65536) ^^^ 4129 else s*2 % 65536
def crcIt:Nat→Nat→Nat
 | 0,s=>s
 | n+1,s=>crcBit (crcIt n s)
def crcByte (s c:Nat):Nat:=crcIt 8 (s ^^^ (c*256 % 65536))
def crcAdd (s:Nat) (l:List Nat):Nat:=l.foldl crcByte s
theorem crcBit_lt (s:Nat):crcBit s<65536:=by
 unfold crcBit
 split
 ·exact Nat.xor_lt_two_pow (n:=16) (Nat.mod_lt _ (by decide)) (by decide)
 ·exact Nat.mod_lt _ (by decide)
theorem crcIt_lt {s:Nat} (h:s<65536):∀ n,crcIt n s<65536
 | 0=>h
 | _+1=>crcBit_lt _
theorem crcByte_lt (s c:Nat):crcByte s c<65536:=crcBit_lt _
theorem crcAdd_lt (s:Nat) (hs:s<65536) (l:List Nat):crcAdd s l<65536:=by
 induction l generalizing s with
 | nil=>exact hs
 | cons c l ih=>exact ih _ (crcByte_lt _ _)
theorem crcAdd_append (s:Nat) (l m:List Nat):crcAdd s (l++m)=crcAdd (crcAdd s l) m:=List.foldl_append
end Go.P
namespace Go.Proofs.YtpbiicegmcpkpaaGreat
open Go Go.K Go.P Go.RowKit Go.Proofs
set_option maxHeartbeats 1000000 in
theorem add_spec {s n:Nat} {l:List Nat} {a:Option Addr} {cap:Nat} {w:World} (hs:s<65536) (hl:Byt l) (hS:SlA w a (l.map B)) (hn:l.length=n) (hlen:n≤9223372036854775807) :
  Does Tryz.prog 91 #[.int .u16 s,.slice a n cap] w fun v w'=>v=.int .u16 (crcAdd s l:Nat)∧w'=w:=by
 subst hn
 refine Does_of (args:=[_,_]) Tryz.func91 rfl rfl Tryz.ntmps91 rfl ?_
 repeat (first|refine WS_seq ?_|refine WS_region ?_|refine WL_nil ?_|refine WS_block ?_|(refine WL_r (by first|refine Run_pev rfl|refine k_len rfl (Ty.isl rfl)) rfl ?_))
 refine WS_loop (G:=Nat) (fun k=>l.length-k) 1073741377 (fun k=>[(9,.int .i64 k),(0,.int .u16 (crcAdd s (l.take k):Nat))]) (fun k w'=>k≤l.length∧w'=w) 0 ⟨rfl,rfl,trivial⟩ ⟨Nat.zero_le _,rfl⟩ ?_
 rintro k w' σ ⟨hk,rfl⟩ IH
 have hc:=crcAdd_lt s hs (l.take k)
 by_cases hlt:k<l.length
 ·have hb:l[k]<256:=hl _ (List.getElem_mem hlt)
  have hv:(l.map B)[k]?=some (B l[k]):=by simp [hlt]
  repeat (first|refine WS_seq ?_|refine WS_region ?_|refine WL_nil ?_|refine WS_block ?_|refine WS_skip ?_|refine WS_yes rfl (by omega) ?_|(refine WL_r (by first|refine k_ix1 rfl rfl hS (by simp) (Ty.sle rfl) (by omega)|refine k_loads rfl hS hv (Ty.shp rfl)|refine k_shl16 rfl (n:=8) rfl|refine k_xor rfl rfl (fit16 (by omega)) (fit16 (Nat.mod_lt _ (by decide)))|refine Run_pev rfl|refine k_conv16 rfl rfl rfl (by omega)) rfl ?_))
  have h0:crcAdd s (l.take k) ^^^ (l[k]*256 % 65536)<65536:=Nat.xor_lt_two_pow (n:=16) hc (Nat.mod_lt _ (by decide))
  refine WS_loop (G:=Nat) (fun j=>8-j) 536608769 (fun j=>[(18,.int .i64 j),(0,.int .u16 (crcIt j (crcAdd s (l.take k) ^^^ (l[k]*256 % 65536)):Nat))]) (fun j w''=>j≤8∧w''=w') 0 ⟨rfl,rfl,trivial⟩ ⟨by omega,rfl⟩ ?_
  rintro j w'' σ' ⟨hj,rfl⟩ IH2
  have hi:=crcIt_lt h0 j
  by_cases hj8:j<8
  ·repeat (first|refine WS_seq ?_|refine WS_region ?_|refine WL_nil ?_|refine WS_block ?_|refine WS_skip ?_|refine WS_yes rfl (by omega) ?_|(refine WL_r (by first|refine k_and rfl (n:=32768) rfl (fit16 hi) rfl|refine Run_pev rfl) rfl ?_))
   refine WS_ite rfl (fun ht=>?_) (fun hf=>?_)
   ·repeat (first|refine WS_region ?_|refine WL_nil ?_|refine WS_inBlock ?_|(refine WL_r (by first|refine k_shl16 rfl (n:=1) rfl|refine k_xor rfl (n:=4129) rfl (fit16 (Nat.mod_lt _ (by decide))) rfl|refine Run_pev rfl|refine k_add64 rfl rfl (by omega)) rfl ?_))
    refine IH2 (j+1) _ _ ?_ ?_ ?_ ?_
    ·omega
    ·exact ⟨rfl,by simp only [crcIt,crcBit];rw [if_pos (by omega)];rfl,trivial⟩
    ·repeat first|with_reducible apply Agr.refl|refine Agr.upd rfl ?_|refine Agr.updL rfl ?_|refine Agr.mrg rfl ?_
    ·exact ⟨by omega,rfl⟩
   ·repeat (first|refine WS_region ?_|refine WL_nil ?_|refine WS_inBlock ?_|(refine WL_r (by first|refine k_shl16 rfl (n:=1) rfl|refine Run_pev rfl|refine k_add64 rfl rfl (by omega)) rfl ?_))
    refine IH2 (j+1) _ _ ?_ ?_ ?_ ?_
    ·omega
    ·exact ⟨rfl,by simp only [crcIt,crcBit];rw [if_neg (by omega)];rfl,trivial⟩
    ·repeat first|with_reducible apply Agr.refl|refine Agr.upd rfl ?_|refine Agr.updL rfl ?_|refine Agr.mrg rfl ?_
    ·exact ⟨by omega,rfl⟩
  ·obtain rfl:j=8:=by omega
   repeat (first|refine WS_seq ?_|refine WS_region ?_|refine WL_nil ?_|refine WS_inBlock ?_|refine WS_exit rfl ?_|refine WS_false rfl ?_|(refine WL_r (by first|refine Run_pev rfl|refine k_add64 rfl rfl (by omega)) rfl ?_))
   refine IH (k+1) _ _ ?_ ?_ ?_ ?_
   ·omega
   ·exact ⟨rfl,by rw [List.take_succ_eq_append_getElem hlt];simp only [crcAdd,List.foldl_append];rfl,trivial⟩
   ·repeat first|with_reducible apply Agr.refl|refine Agr.upd rfl ?_|refine Agr.updL rfl ?_|refine Agr.mrg rfl ?_
   ·exact ⟨by omega,rfl⟩
 ·obtain rfl:k=l.length:=by omega
  repeat (first|refine WS_seq ?_|refine WS_region ?_|refine WL_nil ?_|refine WS_exit rfl ?_|refine WS_no rfl (by omega) ?_|refine lp rfl rfl ?_)
  refine WS_ret1 Tryz.func91 rfl ⟨?_,rfl⟩
  rw [← List.take_length (l:=l)];simp
  rfl
abbrev PSl:=Option Addr × Nat × List Nat
def sv (p:PSl):Value:=.slice p.1 p.2.2.length p.2.1
set_option maxHeartbeats 1000000 in
theorem sum_spec {ap:Option Addr} {cp n:Nat} {ps:List PSl} {w:World} (hS:SlA w ap (ps.map sv)) (hp:∀ p∈ps,SlA w p.1 (p.2.2.map B)∧Byt p.2.2∧p.2.2.length≤9223372036854775807) (hpn:ps.length=n) (hn:n≤9223372036854775807) :
  Does Tryz.prog 60 #[.slice ap n cp] w fun v w'=>v=.int .u16 (crcAdd 65535 (ps.flatMap (·.2.2)):Nat)∧w'=w:=by
 subst hpn
 refine Does_of (args:=[_]) Tryz.func60 rfl rfl Tryz.ntmps60 rfl ?_
 repeat (first|refine WS_seq ?_|refine WS_region ?_|refine WL_nil ?_|refine WS_block ?_|(refine WL_r (by first|refine Run_pev rfl|refine k_len rfl (Ty.isl rfl)) rfl ?_))
 refine WS_loop (G:=Nat) (fun k=>ps.length-k) 65320 (fun k=>[(8,.int .i64 k),(3,.int .u16 (crcAdd 65535 ((ps.take k).flatMap (·.2.2)):Nat))]) (fun k w'=>k≤ps.length∧w'=w) 0 ⟨rfl,rfl,trivial⟩ ⟨Nat.zero_le _,rfl⟩ ?_
 rintro k w' σ ⟨hk,rfl⟩ IH
 have hc:=crcAdd_lt 65535 (by decide) ((ps.take k).flatMap (·.2.2))
 by_cases hlt:k<ps.length
 ·have hv:(ps.map sv)[k]?=some (sv ps[k]):=by simp [hlt]
  obtain ⟨h1,h2,h3⟩:=hp ps[k] (List.getElem_mem hlt)
  repeat (first|refine WS_seq ?_|refine WS_region ?_|refine WL_nil ?_|refine WS_block ?_|refine WS_skip ?_|refine WS_yes rfl (by omega) ?_|(refine WL_r (by first|refine k_ix1 rfl rfl hS (by simp) (Ty.sle rfl) (by omega)|refine k_loads rfl hS hv (Ty.shp rfl)|refine Run_pev rfl) rfl ?_))
  refine WL_s (S_call (add_spec hc h2 h1 rfl h3) rfl rfl ?_)
  rintro v w'' ⟨rfl,rfl⟩
  repeat (first|refine WS_region ?_|refine WL_nil ?_|refine WS_inBlock ?_|(refine WL_r (by first|refine Run_pev rfl|refine k_add64 rfl rfl (by omega)) rfl ?_))
  refine IH (k+1) _ _ ?_ ?_ ?_ ?_
  ·omega
  ·exact ⟨rfl,by rw [List.take_succ_eq_append_getElem hlt];simp only [List.flatMap_append,crcAdd_append];simp;rfl,trivial⟩
  ·repeat first|with_reducible apply Agr.refl|refine Agr.upd rfl ?_|refine Agr.updL rfl ?_|refine Agr.mrg rfl ?_
  ·exact ⟨by omega,rfl⟩
 ·obtain rfl:k=ps.length:=by omega
  repeat (first|refine WS_seq ?_|refine WS_region ?_|refine WL_nil ?_|refine WS_exit rfl ?_|refine WS_no rfl (by omega) ?_|refine lp rfl rfl ?_)
  refine WS_ret1 Tryz.func60 rfl ⟨?_,rfl⟩
  rw [← List.take_length (l:=ps)];simp
  rfl
theorem sum_one {b n:Nat} {a:Option Addr} {cap:Nat} {l:List Nat} {w:World} {e:TypeId} (hB:Blk w b e #[.slice a n cap]) (hS:SlA w a (l.map B)) (hl:Byt l) (hn:l.length=n) (hlen:n≤9223372036854775807) :
  Does Tryz.prog 60 #[.slice (some ⟨b,0,none⟩) 1 1] w fun v w'=>v=.int .u16 (crcAdd 65535 l:Nat)∧w'=w:=by
 subst hn
 have h:=sum_spec (cp:=1) (n:=1) (ps:=[(a,cap,l)]) hB.sl0 (by simpa using ⟨hS,hl,hlen⟩) rfl (by decide)
 simpa using h
end Go.Proofs.YtpbiicegmcpkpaaGreat
namespace Go.P
open Go Go.K
abbrev I (n:Int):Value:=.int .i64 n
def pairs:Nat→List Int→List (Nat × Int)
 | _,[]=>[]
 | r,x::l=>if x=0 then pairs (r+1) l else (r,x)::pairs 0 l
def evF (ps:List (Nat × Int)):List Value:=ps.flatMap fun p=>[I p.1,I p.2,.bool false]
def evC:List (Nat × Int)→List Value
 | []=>[]
 | [p]=>[I p.1,I p.2,.bool true]
 | p::q::l=>I p.1::I p.2::.bool false::evC (q::l)
theorem evF_len (ps:List (Nat × Int)):(evF ps).length=ps.length*3:=by
 induction ps with
 | nil=>rfl
 | cons p l ih=>simp [evF] at ih ⊢;omega
theorem evF_set:∀ (ps:List (Nat × Int)),ps≠[]→(evF ps).set ((ps.length-1)*3+2) (.bool true)=evC ps
 | [],h=>absurd rfl h
 | [p],_=>by simp [evF,evC]
 | p::q::l,_=>by
  have ih:=evF_set (q::l) (by simp)
  have e:((p::q::l).length-1)*3+2=((q::l).length-1)*3+2+1+1+1:=by simp;omega
  rw [e,evC,← ih]
  rfl
theorem evC_get:∀ (ps:List (Nat × Int)) (i:Nat) (h:i<ps.length),(evC ps)[i*3]?=some (I ps[i].1)∧(evC ps)[i*3+1]?=some (I ps[i].2)∧(evC ps)[i*3+2]?=some (.bool (decide (i+1=ps.length)))
 | [],i,h=>absurd h (by simp)
 | [p],i,h=>by
  obtain rfl:i=0:=by simpa using h
  simp [evC]
 | p::q::l,0,_=>by simp [evC]
 | p::q::l,i+1,h=>by
  have ih:=evC_get (q::l) i (by simpa using h)
  have e:(i+1)*3=i*3+1+1+1:=by omega
  have e1:(i+1)*3+1=i*3+1+1+1+1:=by omega
  have e2:(i+1)*3+2=i*3+2+1+1+1:=by omega
  refine ⟨?_,?_,?_⟩
  ·rw [e];simpa [evC] using ih.1
  ·rw [e1];simpa [evC] using ih.2.1
  ·rw [e2];simpa [evC] using ih.2.2
theorem evC_len:∀ (ps:List (Nat × Int)),(evC ps).length=ps.length*3
 | []=>rfl
 | [p]=>rfl
 | p::q::l=>by have:=evC_len (q::l);simp [evC] at this ⊢;omega
theorem pairs_len:∀ (r:Nat) (l:List Int),(pairs r l).length≤l.length
 | _,[]=>by simp [pairs]
 | r,x::l=>by
  have h1:=pairs_len (r+1) l
  have h2:=pairs_len 0 l
  unfold pairs
  split<;>simp<;>omega
theorem evC_ev (ps:List (Nat × Int)) (i:Nat) (h:i<ps.length):((evC ps).drop (i*3)).take 3=[I ps[i].1,I ps[i].2,.bool (decide (i+1=ps.length))]:=by
 obtain ⟨h1,h2,h3⟩:=evC_get ps i h
 have hl:=evC_len ps
 refine List.ext_getElem? (fun j=>?_)
 rw [List.getElem?_take]
 by_cases hj:j<3
 ·rw [if_pos hj,List.getElem?_drop]
  obtain rfl|rfl|rfl:j=0∨j=1∨j=2:=by omega
  ·rw [Nat.add_zero,h1];rfl
  ·rw [h2];rfl
  ·rw [h3];rfl
 ·rw [if_neg hj];simp;omega
theorem pairs_mem:∀ (r:Nat) (l:List Int),∀ p∈pairs r l,p.1≤r+l.length∧p.2∈l∧p.2≠0
 | _,[],p,h=>by simp [pairs] at h
 | r,x::l,p,h=>by
  unfold pairs at h
  split at h
  ·obtain ⟨h1,h2,h3⟩:=pairs_mem (r+1) l p h
   exact ⟨by simp;omega,by simp [h2],h3⟩
  ·rename_i h0
   rcases List.mem_cons.1 h with rfl|h
   ·simp [h0]
   ·obtain ⟨h1,h2,h3⟩:=pairs_mem 0 l p h
    exact ⟨by simp;omega,by simp [h2],h3⟩
end Go.P
namespace Go.Proofs.YtpbiicegmcpkpaaGreat
open Go Go.K Go.P Go.RowKit Go.Proofs
set_option maxHeartbeats 1000000 in
theorem of_spec {vs:List Int} {fr:Int} {f:Nat} {w:World} (hv:vs.length=64) (hf:min (max fr 0) 64=(f:Int)) :
  Does Tryz.prog 138 #[.agg (vs.map I).toArray,.int .i64 fr] w fun v w'=>∃ a cap,v=.slice a (pairs 0 (vs.drop f)).length cap∧Own w' 293 3 a (pairs 0 (vs.drop f)).length cap (evC (pairs 0 (vs.drop f)))∧Fresh w.heap.size a∧Ext [] w w':=by
 refine Does_of (args:=[_,_]) Tryz.func138 rfl rfl Tryz.ntmps138 rfl ?_
 repeat (first|refine WS_seq ?_|refine WS_region ?_)
 refine WL_s (S_box rfl rfl rfl ?_)
 intro w1 b1 hb1 hE1 hB1 hs1
 repeat (first|refine WS_seq ?_|refine WS_region ?_|refine WL_nil ?_|refine WS_block ?_|(refine WL_r (by first|refine Run_pev rfl|refine k_min rfl rfl|refine k_max rfl rfl) rfl ?_))
 have hS1:SlA w1 (some ⟨b1,0,none⟩) (vs.map I):=hB1.sl0
 rw [hf]
 refine WS_loop (G:=(Nat) × (Nat) × (List (Nat × Int)) × (Option Addr) × (Nat)) (fun|(k,r,done,a,c)=>64-k) 1073737952 (fun|(k,r,done,a,c)=>[(5,.slice a done.length c),(6,.int .i64 r),(7,.int .i64 k)]) (fun|(k,r,done,a,c),w'=>k≤64∧r≤k∧done.length≤k∧done++pairs r (vs.drop k)=pairs 0 (vs.drop f)∧Ext [] w1 w'∧Fresh w1.heap.size a∧Own w' 293 3 a done.length c (evF done)) (f,0,[],none,0) ⟨rfl,rfl,rfl,trivial⟩ ⟨by omega,Nat.zero_le _,Nat.zero_le _,rfl,.refl,.none,.nil⟩ ?_
 rintro ⟨k,r,done,a,c⟩ w2 σ ⟨hk,hr,hd,hp,hW2,hF2,hO2⟩ IH
 show WS _ _ _ _ _ (updL [(5,.slice a done.length c),(6,.int .i64 r),(7,.int .i64 k)] _) _
 by_cases hlt:k<64
 ·have hx:(vs.map I)[k]?=some (I vs[k]):=by simp [hv,hlt]
  have hS2:=hS1.ext0 hW2
  have hcut:vs.drop k=vs[k]::vs.drop (k+1):=List.drop_eq_getElem_cons (by omega)
  rw [hcut,pairs] at hp
  repeat (first|refine WS_seq ?_|refine WS_region ?_|refine WL_nil ?_|refine WS_block ?_|refine WS_skip ?_|refine WS_yes rfl (by omega) ?_|(refine WL_r (by first|refine k_ixa1 rfl rfl (Ty.arr rfl) (by omega)|refine k_loads rfl hS2 hx (Ty.shp rfl)|refine Run_pev rfl) rfl ?_))
  refine WS_ite rfl (fun h0=>?_) (fun h0=>?_)
  ·rw [if_pos h0] at hp
   repeat (first|refine WS_seq ?_|refine WS_region ?_|refine WL_nil ?_|refine WS_exit rfl ?_|(refine WL_r (by first|refine Run_pev rfl|refine k_add64 rfl rfl (by omega)) rfl ?_))
   refine IH (k+1,r+1,done,a,c) _ _ ?_ ?_ ?_ ?_
   ·simp only;omega
   ·exact ⟨rfl,rfl,rfl,trivial⟩
   ·repeat first|with_reducible apply Agr.refl|refine Agr.upd rfl ?_|refine Agr.updL rfl ?_|refine Agr.mrg rfl ?_
   ·exact ⟨by omega,by omega,by omega,hp,hW2,hF2,hO2⟩
  ·rw [if_neg h0] at hp
   repeat (first|refine WS_seq ?_|refine WS_region ?_|refine WS_skip ?_|(refine WL_r (by first|refine k_ixa1 rfl rfl (Ty.arr rfl) (by omega)|refine k_loads rfl hS2 hx (Ty.shp rfl)|refine k_buildS (cs:=[I r,I vs[k],.bool false]) (Ty.zer rfl) (Ty.plc rfl) rfl|refine Run_pev rfl) rfl ?_))
   refine WL_s (S_lit (out:=[I r,I vs[k],.bool false]) (Ty.sle rfl) (Ty.zer rfl) rfl rfl rfl (by decide) rfl ?_)
   intro w3 b3 hb3 hE3 hB3 hs3
   have hW3:=hW2.then0 hE3
   have hF3:Fresh _ (some ⟨b3,0,none⟩):=Fresh.at hW2 hb3
   refine WL_s (S_append (Ty.sle rfl) (Ty.zer rfl) rfl (Ty.byt rfl) (by decide) rfl (hO2.ext0 hE3) rfl (hB3.sl0) (by simp;try omega) (by simp) (by omega) (by simp only [maxLen];omega) rfl ?_)
   intro w4 a4 c4 hE4 hO4 hf4 hn4
   have hW4:=hW3.thenF hE4 hF2
   have hF4:=hF2.step hf4 hW3.size
   repeat (first|refine WS_region ?_|refine WL_nil ?_|refine WS_inBlock ?_|(refine WL_r (by first|refine Run_pev rfl|refine k_add64 rfl rfl (by omega)) rfl ?_))
   refine IH (k+1,0,done++[(r,vs[k])],a4,c4) _ _ ?_ ?_ ?_ ?_
   ·simp only;omega
   ·exact ⟨by simp;rfl,rfl,rfl,trivial⟩
   ·repeat first|with_reducible apply Agr.refl|refine Agr.upd rfl ?_|refine Agr.updL rfl ?_|refine Agr.mrg rfl ?_
   ·exact ⟨by omega,by omega,by simp;omega,by simpa using hp,hW4,hF4,by simpa [evF] using hO4⟩
 ·obtain rfl:k=64:=by omega
  have hdn:vs.drop 64=[]:=List.drop_of_length_le (by omega)
  rw [hdn,pairs,List.append_nil] at hp
  rw [← hp]
  repeat (first|refine WS_seq ?_|refine WS_region ?_|refine WL_nil ?_|refine WS_exit rfl ?_|refine WS_false rfl ?_|(refine WL_r (by first|refine Run_pev rfl|refine k_len rfl (Ty.isl rfl)) rfl ?_))
  refine WS_ite rfl (fun h0=>?_) (fun h0=>?_)
  ·have hne:done≠[]:=fun e=>by subst e;simp at h0
   have hpos:0<done.length:=by omega
   repeat (first|refine WS_region ?_|(refine WL_r (by first|refine k_ix rfl rfl hO2.sl (evF_len done) (by decide) (Ty.sle rfl) (by omega)|refine k_faA rfl (Ty.fld rfl rfl)|refine Run_pev rfl|refine k_sub64 rfl rfl (by omega)) rfl ?_))
   refine WL_s (S_storeO (v:=.bool true) rfl rfl hO2 (by omega) rfl (Ty.shp rfl) ?_)
   intro w3 hE3 hO3 hs3
   rw [show ((done.length:Int)-1).toNat*3+2=(done.length-1)*3+2 by omega,evF_set done hne] at hO3
   have hW3:=hW2.thenF hE3 hF2
   repeat (first|refine WS_seq ?_|refine WS_region ?_|refine WL_nil ?_|refine lp rfl rfl ?_)
   exact WS_ret1 Tryz.func138 rfl ⟨a,c,rfl,hO3,fun b hb=>by have:=hF2 b hb;omega,hE1.then0 hW3⟩
  ·have hne:done=[]:=List.eq_nil_of_length_eq_zero (by omega)
   repeat (first|refine WS_seq ?_|refine WS_region ?_|refine WL_nil ?_|refine WS_skip ?_|refine lp rfl rfl ?_)
   refine WS_ret1 Tryz.func138 rfl ⟨a,c,rfl,?_,fun b hb=>by have:=hF2 b hb;omega,hE1.then0 hW2⟩
   rw [show evC done=evF done by rw [hne];rfl]
   exact hO2
end Go.Proofs.YtpbiicegmcpkpaaGreat
namespace Go.P
open Go Go.K

def escS (z c:Nat):Nat:=if 2≤z∧c≤3 then (if c=0 then 1 else 0) else (if c=0 then z+1 else 0)
def escO (z c:Nat):List Nat:=if 2≤z∧c≤3 then [3,c] else [c]
def escF:Nat→List Nat→List Nat
 | _,[]=>[]
 | z,c::l=>escO z c++escF (escS z c) l
def escZ:Nat→List Nat→Nat
 | z,[]=>z
 | z,c::l=>escZ (escS z c) l
theorem escF_snoc:∀ (l:List Nat) (z c:Nat),escF z (l++[c])=escF z l++escO (escZ z l) c
 | [],z,c=>by simp [escF,escZ]
 | d::l,z,c=>by simp only [List.cons_append,escF,escZ,escF_snoc l,List.append_assoc]
theorem escZ_snoc:∀ (l:List Nat) (z c:Nat),escZ z (l++[c])=escS (escZ z l) c
 | [],z,c=>by simp [escZ]
 | d::l,z,c=>by simp only [List.cons_append,escZ,escZ_snoc l]
theorem escF_len:∀ (l:List Nat) (z:Nat),(escF z l).length≤2*l.length
 | [],z=>by simp [escF]
 | d::l,z=>by
  have:=escF_len l (escS z d)
  have h1:(escO z d).length≤2:=by unfold escO;split<;>simp
  simp only [escF,List.length_append,List.length_cons];omega
theorem escO_byt {z c:Nat} (h:c<256):Byt (escO z c):=by
 unfold escO;split<;>intro x hx<;>simp at hx<;>omega
theorem escF_byt:∀ (l:List Nat) (z:Nat),Byt l→Byt (escF z l)
 | [],z,_=>by simp [escF,Byt]
 | d::l,z,h=>by
  refine (escO_byt (h d (by simp))).append (escF_byt l _ (fun x hx=>h x (by simp [hx])))
theorem escS_le {z c:Nat} (h:z≤2):escS z c≤2:=by unfold escS;repeat (first|split|omega)
theorem escZ_le:∀ (l:List Nat) (z:Nat),z≤2→escZ z l≤2
 | [],_,h=>h
 | _::l,_,h=>escZ_le l _ (escS_le h)
theorem escF_take {l:List Nat} {k:Nat} (h:k<l.length):escF 0 (l.take (k+1))=escF 0 (l.take k)++escO (escZ 0 (l.take k)) l[k]:=by
 rw [List.take_succ_eq_append_getElem h,escF_snoc]
theorem escZ_take {l:List Nat} {k:Nat} (h:k<l.length):escZ 0 (l.take (k+1))=escS (escZ 0 (l.take k)) l[k]:=by
 rw [List.take_succ_eq_append_getElem h,escZ_snoc]

def hd3:List Nat→Bool
 | []=>true
 | d::_=>decide (3<d)
def tk:Nat→List Nat→Option (List Nat)
 | _,[]=>some []
 | z,c::l =>
  if z=2∧c<3 then none
  else if z=2∧c=3 then (if hd3 l=true then none else tk 0 l)
  else (tk (if c=0 then z+1 else 0) l).map (c::·)
def tz:List Nat→Nat
 | []=>0
 | c::l=>if c=0 then tz l+1 else 0
def IsM (l:List Nat) (i:Nat):Prop:=l[i]?=some 0∧l[i+1]?=some 0∧l[i+2]?=some 1
instance (l:List Nat) (i:Nat):Decidable (IsM l i):=by unfold IsM;infer_instance
end Go.P
namespace Go.P
open Go Go.K

def nbits:Nat→Nat→List Nat
 | _,0=>[]
 | n,s+1=>nbits (n / 2) s++[n % 2]
theorem nbits_len:∀ (s n:Nat),(nbits n s).length=s
 | 0,_=>rfl
 | s+1,n=>by simp [nbits,nbits_len s]
theorem nbits_get:∀ (s n i:Nat),i<s→(nbits n s)[i]?=some (n / 2 ^ (s-1-i) % 2)
 | 0,_,i,h=>by omega
 | s+1,n,i,h=>by
  simp only [nbits]
  by_cases hi:i<s
  ·rw [List.getElem?_append_left (by rw [nbits_len];exact hi),nbits_get s (n / 2) i hi,Nat.div_div_eq_div_mul]
   congr 3
   rw [← Nat.pow_succ'];congr 1;omega
  ·obtain rfl:i=s:=by omega
   rw [List.getElem?_append_right (by rw [nbits_len];omega),nbits_len]
   simp
def arr (N:Nat) (f:Nat→Bool):List Nat:=(List.range N).map fun j=>(f j).toNat
theorem arr_len (N:Nat) (f:Nat→Bool):(arr N f).length=N:=by simp [arr]
theorem arr_get {N:Nat} {f:Nat→Bool} {i:Nat} (h:i<N):(arr N f)[i]?=some (f i).toNat:=by simp [arr,h]
theorem arr_flip {N:Nat} {f:Nat→Bool} {i:Nat}:(arr N f).set i (1-(f i).toNat)=arr N (fun j=>f j != decide (j=i)):=by
 refine List.ext_getElem? (fun j=>?_)
 by_cases hj:j<N
 ·rw [arr_get hj]
  by_cases hij:i=j
  ·subst hij
   rw [List.getElem?_set_self (by rw [arr_len];exact hj)]
   cases f i<;>simp
  ·rw [List.getElem?_set_ne hij,arr_get hj]
   have:¬ j=i:=fun e=>hij e.symm
   simp [this]
 ·rw [List.getElem?_eq_none (by simp [arr_len];omega),List.getElem?_eq_none (by simp [arr_len];omega)]
theorem nbits_arr (s n:Nat):nbits n s=arr s (fun j=>n.testBit (s-1-j)):=by
 refine List.ext_getElem? (fun j=>?_)
 by_cases hj:j<s
 ·rw [nbits_get s n j hj,arr_get hj,Nat.testBit_eq_decide_div_mod_eq]
  have:n / 2 ^ (s-1-j) % 2=0∨n / 2 ^ (s-1-j) % 2=1:=by omega
  rcases this with h|h<;>simp [h]
 ·rw [List.getElem?_eq_none (by rw [nbits_len];omega),List.getElem?_eq_none (by rw [arr_len];omega)]
def bitAt (l:List Nat) (j:Nat):Bool:=(l.getD (j / 8) 0).testBit (7-j % 8)
end Go.P
namespace Go.P
open Go Go.K

def bv (f:Nat→Bool):Nat:=(f 0).toNat*128+(f 1).toNat*64+(f 2).toNat*32+(f 3).toNat*16+(f 4).toNat*8+(f 5).toNat*4+(f 6).toNat*2+(f 7).toNat
theorem bv8:∀ a b c d e f g h:Bool,∀ j,j<8→(a.toNat*128+b.toNat*64+c.toNat*32+d.toNat*16+e.toNat*8+f.toNat*4+g.toNat*2+h.toNat).testBit (7-j)=[a,b,c,d,e,f,g,h].getD j false:=by decide
theorem bv_bit (f:Nat→Bool) {j:Nat} (hj:j<8):(bv f).testBit (7-j)=f j:=by
 unfold bv
 rw [bv8 _ _ _ _ _ _ _ _ j hj]
 match j,hj with
 | 0,_|1,_|2,_|3,_|4,_|5,_|6,_|7,_=>rfl
theorem bv_lt (f:Nat→Bool):bv f<256:=by
 unfold bv
 have h:∀ b:Bool,b.toNat≤1:=by decide
 have:=h (f 0);have:=h (f 1);have:=h (f 2);have:=h (f 3);have:=h (f 4);have:=h (f 5);have:=h (f 6);have:=h (f 7)
 omega
theorem bv_congr {f g:Nat→Bool} (h:∀ j,j<8→f j=g j):bv f=bv g:=by
 unfold bv
 rw [h 0 (by omega),h 1 (by omega),h 2 (by omega),h 3 (by omega),h 4 (by omega),h 5 (by omega),h 6 (by omega),h 7 (by omega)]
theorem byte_ext {x y:Nat} (hx:x<256) (hy:y<256) (h:∀ j,j<8→x.testBit (7-j)=y.testBit (7-j)):x=y:=by
 apply Nat.eq_of_testBit_eq
 intro i
 by_cases hi:i<8
 ·have:=h (7-i) (by omega)
  rwa [show 7-(7-i)=i by omega] at this
 ·have h1:(2:Nat) ^ 8≤2 ^ i:=Nat.pow_le_pow_right (by decide) (by omega)
  rw [Nat.testBit_lt_two_pow (by omega),Nat.testBit_lt_two_pow (by omega)]
def pk (bs:List Bool):List Nat:=(List.range ((bs.length+7) / 8)).map fun i=>bv fun j=>bs.getD (8*i+j) false
theorem pk_len (bs:List Bool):(pk bs).length=(bs.length+7) / 8:=by simp [pk]
theorem pk_byt (bs:List Bool):Byt (pk bs):=fun x hx=>by
 obtain ⟨i,_,rfl⟩:=List.mem_map.1 hx
 exact bv_lt _
theorem pk_get {bs:List Bool} {i:Nat} (h:i<(bs.length+7) / 8):(pk bs)[i]?=some (bv fun j=>bs.getD (8*i+j) false):=by simp [pk,h]
theorem pk_bit (bs:List Bool) (j:Nat):bitAt (pk bs) j=bs.getD j false:=by
 unfold bitAt
 by_cases h:j / 8<(bs.length+7) / 8
 ·rw [List.getD_eq_getElem?_getD,pk_get h,Option.getD_some,bv_bit _ (Nat.mod_lt _ (by decide))]
  congr 1;omega
 ·rw [List.getD_eq_getElem?_getD,List.getElem?_eq_none (by rw [pk_len];omega),List.getD_eq_getElem?_getD,List.getElem?_eq_none (by omega)]
  simp
theorem bit128:∀ k,k<8→∀ j,j<8→(128 / 2 ^ k).testBit (7-j)=decide (j=k):=by decide
theorem pk_new {bs:List Bool} (h:bs.length % 8=0) (b:Bool):pk (bs++[b])=pk bs++[if b then 128 else 0]:=by
 have hl:((bs++[b]).length+7) / 8=(bs.length+7) / 8+1:=by simp;omega
 refine List.ext_getElem? (fun i=>?_)
 by_cases hi:i<(bs.length+7) / 8
 ·rw [pk_get (by omega),List.getElem?_append_left (by rw [pk_len];exact hi),pk_get hi]
  congr 1
  refine bv_congr (fun j hj=>?_)
  simp only [List.getD_eq_getElem?_getD]
  rw [List.getElem?_append_left (by omega)]
 ·by_cases hi2:i=(bs.length+7) / 8
  ·subst hi2
   rw [pk_get (by omega),List.getElem?_append_right (by rw [pk_len];omega),pk_len,Nat.sub_self]
   simp only [List.getElem?_cons_zero,Option.some.injEq]
   refine byte_ext (bv_lt _) (by split<;>omega) (fun j hj=>?_)
   rw [bv_bit _ hj]
   simp only [List.getD_eq_getElem?_getD]
   by_cases hj0:j=0
   ·subst hj0
    rw [List.getElem?_append_right (by omega),show 8*((bs.length+7) / 8)+0-bs.length=0 by omega]
    cases b<;>rfl
   ·rw [List.getElem?_eq_none (by simp;omega)]
    have h0:∀ j,j<8→j≠0→(128:Nat).testBit (7-j)=false:=by decide
    cases b
    ·simp
    ·simpa using (h0 j hj hj0).symm
  ·rw [List.getElem?_eq_none (by rw [pk_len];omega),List.getElem?_eq_none (by simp [pk_len];omega)]
theorem pk_old {bs:List Bool} (h:bs.length % 8≠0) (b:Bool):pk (bs++[b])=(pk bs).set (bs.length / 8) (if b then (pk bs).getD (bs.length / 8) 0 ||| 128 / 2 ^ (bs.length % 8) else (pk bs).getD (bs.length / 8) 0):=by
 have hl:((bs++[b]).length+7) / 8=(bs.length+7) / 8:=by simp;omega
 have hn:bs.length / 8<(bs.length+7) / 8:=by omega
 have hget:(pk bs).getD (bs.length / 8) 0=bv fun j=>bs.getD (8*(bs.length / 8)+j) false:=by rw [List.getD_eq_getElem?_getD,pk_get hn];rfl
 refine List.ext_getElem? (fun i=>?_)
 by_cases hi:i<(bs.length+7) / 8
 ·rw [pk_get (by omega)]
  by_cases hin:bs.length / 8=i
  ·subst hin
   rw [List.getElem?_set_self (by rw [pk_len];exact hi),hget]
   congr 1
   have hbl:=bv_lt fun j=>bs.getD (8*(bs.length / 8)+j) false
   refine byte_ext (bv_lt _) ?_ (fun j hj=>?_)
   ·split
    ·exact Nat.or_lt_two_pow (n:=8) hbl (Nat.lt_of_le_of_lt (Nat.div_le_self _ _) (by decide))
    ·exact hbl
   ·rw [bv_bit _ hj]
    have hx:(if b then (bv fun j=>bs.getD (8*(bs.length / 8)+j) false) ||| 128 / 2 ^ (bs.length % 8) else bv fun j=>bs.getD (8*(bs.length / 8)+j) false).testBit (7-j)=(bs.getD (8*(bs.length / 8)+j) false || (b && decide (j=bs.length % 8))):=by
     cases b
     ·simp [bv_bit _ hj]
     ·simp [Nat.testBit_or,bv_bit _ hj,bit128 _ (Nat.mod_lt bs.length (by decide)) j hj]
    rw [hx]
    simp only [List.getD_eq_getElem?_getD]
    by_cases hj1:8*(bs.length / 8)+j<bs.length
    ·rw [List.getElem?_append_left hj1]
     have:¬ j=bs.length % 8:=by omega
     simp [this]
    ·rw [List.getElem?_append_right (by omega),List.getElem?_eq_none (l:=bs) (by omega)]
     by_cases hj2:j=bs.length % 8
     ·rw [show 8*(bs.length / 8)+j-bs.length=0 by omega]
      cases b<;>simp [hj2]
     ·rw [List.getElem?_eq_none (by simp;omega)]
      simp [hj2]
  ·rw [List.getElem?_set_ne hin,pk_get hi]
   congr 1
   refine bv_congr (fun j hj=>?_)
   simp only [List.getD_eq_getElem?_getD]
   by_cases hj1:8*i+j<bs.length
   ·rw [List.getElem?_append_left hj1]
   ·exfalso;omega
 ·rw [List.getElem?_eq_none (by rw [pk_len];omega),List.getElem?_eq_none (by simp [pk_len];omega)]
def pk1 (bs:List Bool):List Nat:=if bs.length % 8=0 then pk bs++[0] else pk bs
theorem pk1_len (bs:List Bool):(pk1 bs).length=bs.length / 8+1:=by
 unfold pk1
 split
 ·simp [pk_len];omega
 ·rw [pk_len];omega
theorem pk1_byt (bs:List Bool):Byt (pk1 bs):=by
 unfold pk1
 split
 ·exact (pk_byt bs).append (bytB rfl)
 ·exact pk_byt bs
theorem pk_step (bs:List Bool) (b:Bool):pk (bs++[b])=if b then (pk1 bs).set (bs.length / 8) ((pk1 bs).getD (bs.length / 8) 0 ||| 128 / 2 ^ (bs.length % 8)) else pk1 bs:=by
 by_cases h:bs.length % 8=0
 ·have e:bs.length / 8=(pk bs).length:=by rw [pk_len];omega
  rw [pk_new h]
  unfold pk1
  rw [if_pos h,e,h]
  cases b
  ·simp
  ·simp [List.getD_eq_getElem?_getD]
 ·rw [pk_old h]
  unfold pk1
  rw [if_neg h]
  cases b
  ·simp only [Bool.false_eq_true,if_false]
   refine List.ext_getElem? (fun j=>?_)
   by_cases hj:bs.length / 8=j
   ·subst hj
    rw [List.getElem?_set_self (by rw [pk_len];omega),List.getD_eq_getElem?_getD,pk_get (by omega)]
    rfl
   ·rw [List.getElem?_set_ne hj]
  ·simp
def nb (n s:Nat):List Bool:=(List.range s).map fun i=>n.testBit (s-1-i)
theorem nb_len (n s:Nat):(nb n s).length=s:=by simp [nb]
theorem nbits_nb (n s:Nat):nbits n s=(nb n s).map Bool.toNat:=by
 rw [nbits_arr]
 simp [arr,nb,Function.comp_def]
theorem nb_get {n s i:Nat} (h:i<s):(nb n s)[i]?=some (n.testBit (s-1-i)):=by simp [nb,h]
def bl (l:List Nat) (fr to:Nat):List Bool:=(List.range (to-fr)).map fun i=>bitAt l (fr+i)
theorem bl_len (l:List Nat) (fr to:Nat):(bl l fr to).length=to-fr:=by simp [bl]
theorem bl_cons {l:List Nat} {fr to:Nat} (h:fr<to):bl l fr to=bitAt l fr::bl l (fr+1) to:=by
 unfold bl
 rw [show to-fr=(to-(fr+1))+1 by omega,List.range_succ_eq_map,List.map_cons,List.map_map]
 congr 1
 refine List.map_congr_left (fun i _=>?_)
 show bitAt l (fr+(i+1))=_
 congr 1;omega
theorem bl_nil {l:List Nat} {fr to:Nat} (h:to≤fr):bl l fr to=[]:=by simp [bl,show to-fr=0 by omega]
theorem bl_pk (bs:List Bool):bl (pk bs) 0 bs.length=bs:=by
 refine List.ext_getElem? (fun i=>?_)
 by_cases h:i<bs.length
 ·simp [bl,h,pk_bit,List.getD_eq_getElem?_getD]
 ·rw [List.getElem?_eq_none (by rw [bl_len];omega),List.getElem?_eq_none (by omega)]
structure RS where
 rest:List Bool
 ended:Bool
def rbit (s:RS):Bool × RS:=if s.ended then (false,s) else match s.rest with|[]=>(false,⟨[],true⟩)|b::l=>(b,⟨l,false⟩)
def rnum:Nat→Nat→RS→Nat × RS
 | 0,n,s=>(n,s)
 | k+1,n,s=>rnum k (2*n+(rbit s).1.toNat) (rbit s).2
theorem rbit_ended {s:RS} (h:s.ended=true):rbit s=(false,s):=by simp [rbit,h]
theorem rbit_cons {b:Bool} {l:List Bool}:rbit ⟨b::l,false⟩=(b,⟨l,false⟩):=rfl
theorem rbit_nil:rbit ⟨[],false⟩=(false,⟨[],true⟩):=rfl
theorem rnum_snoc:∀ (k n:Nat) (s:RS),rnum (k+1) n s=(2*(rnum k n s).1+(rbit (rnum k n s).2).1.toNat,(rbit (rnum k n s).2).2)
 | 0,_,_=>rfl
 | k+1,n,s=>by rw [rnum,rnum_snoc k];rfl
def numB (n:Nat) (l:List Bool):Nat:=l.foldl (fun n b=>2*n+b.toNat) n
theorem rnum_full:∀ (k n:Nat) (l:List Bool),k≤l.length→rnum k n ⟨l,false⟩=(numB n (l.take k),⟨l.drop k,false⟩)
 | 0,_,_,_=>by simp [rnum,numB]
 | k+1,n,[],h=>by simp at h
 | k+1,n,b::l,h=>by
  rw [rnum,rbit_cons,rnum_full k _ l (by simpa using h)]
  rfl
theorem rnum_ended:∀ (k n:Nat) (s:RS),s.ended=true→(rnum k n s).2=s
 | 0,_,_,_=>rfl
 | k+1,n,s,h=>by rw [rnum,rbit_ended h];exact rnum_ended k _ s h
theorem rnum_over:∀ (k n:Nat) (l:List Bool),l.length<k→(rnum k n ⟨l,false⟩).2=⟨[],true⟩
 | 0,_,_,h=>by omega
 | k+1,n,[],_=>by rw [rnum,rbit_nil];exact rnum_ended k _ _ rfl
 | k+1,n,b::l,h=>by rw [rnum,rbit_cons];exact rnum_over k _ l (by simpa using h)
theorem numB_take {l:List Bool} {j:Nat} (h:j<l.length):numB 0 (l.take (j+1))=2*numB 0 (l.take j)+l[j].toNat:=by
 unfold numB
 rw [List.take_succ_eq_append_getElem h,List.foldl_append]
 rfl
theorem numB_lt:∀ (l:List Bool) (n m:Nat),n<2 ^ m→numB n l<2 ^ (m+l.length)
 | [],n,m,h=>h
 | b::l,n,m,h=>by
  have hb:b.toNat≤1:=by cases b<;>decide
  have:=numB_lt l (2*n+b.toNat) (m+1) (by rw [Nat.pow_succ];omega)
  rw [List.length_cons,show m+(l.length+1)=m+1+l.length by omega]
  exact this
end Go.P
namespace Go.P
open Go Go.K

def blen (x:Nat):Nat:=if x=0 then 0 else x.log2+1
def tabL:List Nat:=[0,1]++List.replicate 2 2++List.replicate 4 3++List.replicate 8 4++List.replicate 16 5++List.replicate 32 6++List.replicate 64 7++List.replicate 128 8
theorem tab_get:∀ x,x<256→(strOf tabL)[x]?=some (UInt8.ofNat (blen x)):=by decide +kernel
theorem blen_lt:∀ x,x<256→blen x<256:=by decide +kernel
theorem blen_big {x:Nat} (h1:256≤x):blen x=blen (x / 256)+8:=by
 have h2:x / 256≠0:=by omega
 have h3:8≤x.log2:=(Nat.le_log2 (by omega)).2 (by omega)
 have hl:=Nat.log2_self_le (n:=x) (by omega)
 have hu:=Nat.lt_log2_self (n:=x)
 unfold blen
 rw [if_neg (by omega),if_neg h2]
 obtain ⟨k,hk⟩:∃ k,x.log2=k+8:=⟨x.log2-8,by omega⟩
 rw [hk] at hl hu ⊢
 rw [Nat.pow_add] at hl
 rw [show k+8+1=(k+1)+8 by omega,Nat.pow_add] at hu
 have e:(x / 256).log2=k:=(Nat.log2_eq_iff h2).2 ⟨by omega,by omega⟩
 omega
theorem blen_pos {x:Nat} (h:0<x):0<blen x:=by unfold blen;rw [if_neg (by omega)];omega
theorem blen_le {x m:Nat} (h:x<2 ^ m):blen x≤m:=by
 unfold blen
 split
 ·omega
 ·have:=(Nat.log2_lt (by omega)).2 h;omega
theorem blen_up {x:Nat}:x<2 ^ blen x:=by
 unfold blen
 split
 ·omega
 ·exact Nat.lt_log2_self
def inter:List Bool→List Bool
 | []=>[]
 | [d]=>[d,false]
 | d::e::ds=>d::true::inter (e::ds)
def rv (n:Nat):List Bool:=if n=0 then [true] else false::inter (nb (n+1) (blen (n+1)-1))
def rpart (ds:List Bool) (i:Nat):List Bool:=(ds.take i).flatMap fun d=>[d,true]
theorem inter_eq:∀ (ds:List Bool),ds≠[]→inter ds=rpart ds (ds.length-1)++[ds.getLastD false,false]
 | [],h=>absurd rfl h
 | [d],_=>rfl
 | d::e::ds,_=>by
  have ih:=inter_eq (e::ds) (by simp)
  simp only [inter,ih,rpart,List.length_cons,Nat.add_sub_cancel,List.take_succ_cons,List.flatMap_cons]
  simp [List.getLastD]
theorem inter_len:∀ (ds:List Bool),(inter ds).length=2*ds.length
 | []=>rfl
 | [_]=>rfl
 | d::e::ds=>by simp only [inter,List.length_cons,inter_len (e::ds)];omega
theorem rv_len (n:Nat):(rv n).length=2*blen (n+1)-1:=by
 unfold rv
 split
 ·subst_vars;rfl
 ·have:=blen_pos (x:=n+1) (by omega)
  rw [List.length_cons,inter_len,nb_len];omega
theorem numB_snoc (n:Nat) (l:List Bool) (d:Bool):numB n (l++[d])=2*numB n l+d.toNat:=by simp [numB]
theorem nb_snoc (x s:Nat):nb x (s+1)=nb (x / 2) s++[x.testBit 0]:=by
 refine List.ext_getElem (by simp [nb_len]) (fun i h1 h2=>?_)
 rw [nb_len] at h1
 have e1:=nb_get (n:=x) (s:=s+1) (i:=i) h1
 rw [List.getElem?_eq_getElem (by rw [nb_len];exact h1)] at e1
 rw [Option.some.inj e1,List.getElem_append]
 split
 ·rename_i h
  rw [nb_len] at h
  have e2:=nb_get (n:=x / 2) (s:=s) (i:=i) h
  rw [List.getElem?_eq_getElem (by rw [nb_len];exact h)] at e2
  rw [Option.some.inj e2,show s+1-1-i=(s-1-i)+1 by omega,Nat.testBit_succ]
 ·rename_i h
  rw [nb_len] at h
  obtain rfl:i=s:=by omega
  simp
theorem nb_cons (x s:Nat):nb x (s+1)=x.testBit s::nb x s:=by
 refine List.ext_getElem (by simp [nb_len]) (fun i h1 h2=>?_)
 rw [nb_len] at h1
 have e1:=nb_get (n:=x) (s:=s+1) (i:=i) h1
 rw [List.getElem?_eq_getElem (by rw [nb_len];exact h1)] at e1
 rw [Option.some.inj e1]
 cases i with
 | zero=>simp
 | succ i =>
  have e2:=nb_get (n:=x) (s:=s) (i:=i) (by omega)
  rw [List.getElem?_eq_getElem (by rw [nb_len];omega)] at e2
  rw [List.getElem_cons_succ,Option.some.inj e2,show s+1-1-(i+1)=s-1-i by omega]
theorem nb_numB (n:Nat) (ds:List Bool):nb (numB n ds) ds.length=ds:=by
 obtain ⟨l,rfl⟩:∃ l:List Bool,ds=l.reverse:=⟨ds.reverse,by simp⟩
 induction l with
 | nil=>rfl
 | cons d l ih =>
  rw [List.reverse_cons,numB_snoc,List.length_append,List.length_singleton,nb_snoc]
  have hd:(2*numB n l.reverse+d.toNat) / 2=numB n l.reverse:=by cases d<;>simp<;>omega
  have hb:(2*numB n l.reverse+d.toNat).testBit 0=d:=by
   rw [Nat.testBit_zero]
   cases d
   ·simp
   ·simp
  rw [hd,hb,ih]
def vb:List Bool→Nat
 | []=>0
 | d::l=>d.toNat+2*vb l
def sgn (n:Int):Int:=if 0<n then 2*n-1 else -2*n
def uns (n:Nat):Int:=if n % 2=1 then ((n+1) / 2:Nat) else -((n / 2:Nat):Int)
theorem uns_sgn (n:Int):∃ s:Nat,sgn n=s∧uns s=n∧s≤2*n.natAbs:=by
 refine ⟨(sgn n).toNat,?_,?_,?_⟩
 ·unfold sgn;split<;>omega
 ·unfold sgn uns;split<;>split<;>omega
 ·unfold sgn;split<;>omega
end Go.P
namespace Go.P
open Go Go.K
def okE (p:Nat × Int):Prop:=p.1≤63∧p.2≠0∧-2047≤p.2∧p.2≤2047
instance (p:Nat × Int):Decidable (okE p):=by unfold okE;infer_instance
def lvn (x:Int):Nat:=(sgn x).toNat-1
def evb (b:Bool) (p:Nat × Int):List Bool:=rv (2*p.1+b.toNat)++rv (lvn p.2)
def bb:List (Nat × Int)→List Bool
 | []=>[]
 | [p]=>evb true p
 | p::q::l=>evb false p++bb (q::l)
def bF (l:List (Nat × Int)):List Bool:=l.flatMap (evb false)
structure GB (ps:List (Nat × Int)):Prop where
 ne:ps≠[]
 len:ps.length≤64
 ok:∀ p∈ps,okE p
theorem lvn_le {x:Int} (h:-2047≤x∧x≤2047):lvn x≤4093:=by
 unfold lvn sgn;split<;>omega
theorem okE.num {p:Nat × Int} (h:okE p) (b:Bool):2*p.1+b.toNat≤8190∧lvn p.2≤8190:=by
 have h1:=lvn_le h.2.2
 have h2:b.toNat≤1:=by cases b<;>decide
 have h3:=h.1
 omega
def mk:List (Nat × Int)→List ((Nat × Int) × Bool)
 | []=>[]
 | [p]=>[(p,true)]
 | p::q::l=>(p,false)::mk (q::l)
def evM (l:List ((Nat × Int) × Bool)):List Value:=l.flatMap fun e=>[I e.1.1,I e.1.2,.bool e.2]
def evB (l:List ((Nat × Int) × Bool)):List Bool:=l.flatMap fun e=>evb e.2 e.1
theorem evC_mk:∀ (ps:List (Nat × Int)),evC ps=evM (mk ps)
 | []=>rfl
 | [p]=>rfl
 | p::q::l=>by
  have ih:=evC_mk (q::l)
  simp only [evC,mk,evM,List.flatMap_cons] at ih ⊢
  rw [ih];rfl
theorem bb_mk:∀ (ps:List (Nat × Int)),bb ps=evB (mk ps)
 | []=>rfl
 | [p]=>by simp [bb,mk,evB]
 | p::q::l=>by
  have ih:=bb_mk (q::l)
  simp only [bb,mk,evB,List.flatMap_cons] at ih ⊢
  rw [ih]
theorem mk_len:∀ (ps:List (Nat × Int)),(mk ps).length=ps.length
 | []=>rfl
 | [p]=>rfl
 | p::q::l=>by have:=mk_len (q::l);simp [mk] at this ⊢;exact this
theorem mk_get:∀ (ps:List (Nat × Int)) (i:Nat) (h:i<ps.length),(mk ps)[i]?=some (ps[i],decide (i+1=ps.length))
 | [],i,h=>absurd h (by simp)
 | [p],i,h=>by
  obtain rfl:i=0:=by simpa using h
  rfl
 | p::q::l,0,_=>by simp [mk]
 | p::q::l,i+1,h=>by
  have ih:=mk_get (q::l) i (by simpa using h)
  simp only [mk,List.getElem?_cons_succ,ih]
  simp
theorem evB_app (l m:List ((Nat × Int) × Bool)):evB (l++m)=evB l++evB m:=by simp [evB]
theorem evB_snoc (l:List ((Nat × Int) × Bool)) {i:Nat} (h:i<l.length):evB (l.take (i+1))=evB (l.take i)++evb l[i].2 l[i].1:=by
 rw [List.take_succ_eq_append_getElem h,evB_app];simp [evB]
theorem bb_len_le {ps:List (Nat × Int)} (h:GB ps):(bb ps).length≤50*ps.length:=by
 rw [bb_mk]
 have key:∀ (l:List ((Nat × Int) × Bool)),(∀ e∈l,okE e.1)→(evB l).length≤50*l.length:=by
  intro l
  induction l with
  | nil=>intro _;simp [evB]
  | cons e l ih =>
   intro hl
   have h1:=ih (fun x hx=>hl x (by simp [hx]))
   have h2:=(hl e (by simp)).num e.2
   have h3:=rv_len (2*e.1.1+e.2.toNat)
   have h4:=rv_len (lvn e.1.2)
   have h5:=blen_le (x:=2*e.1.1+e.2.toNat+1) (m:=13) (by omega)
   have h6:=blen_le (x:=lvn e.1.2+1) (m:=13) (by omega)
   simp only [evB,List.flatMap_cons,List.length_append,List.length_cons,evb] at h1 ⊢
   omega
 have h1:=key (mk ps) (fun e he=>by
  obtain ⟨i,hi⟩:=List.mem_iff_getElem?.1 he
  have hil:i<ps.length:=by have:=(List.getElem?_eq_some_iff.1 hi).1;rwa [mk_len] at this
  rw [mk_get ps i hil] at hi
  cases hi
  exact h.ok _ (List.getElem_mem hil))
 rwa [mk_len] at h1
theorem pairs_lt:∀ (r:Nat) (l:List Int),∀ p∈pairs r l,p.1<r+l.length
 | _,[],p,h=>by simp [pairs] at h
 | r,x::l,p,h=>by
  unfold pairs at h
  split at h
  ·have:=pairs_lt (r+1) l p h
   simp;omega
  ·rcases List.mem_cons.1 h with rfl|h
   ·simp
   ·have:=pairs_lt 0 l p h
    simp;omega
end Go.P
namespace Go.P
open Go Go.K

theorem numB_nb (s:Nat):∀ x,numB (x / 2 ^ s) (nb x s)=x:=by
 induction s with
 | zero=>intro x;simp [nb,numB]
 | succ s ih =>
  intro x
  rw [nb_snoc,numB_snoc]
  have e:x / 2 ^ (s+1)=x / 2 / 2 ^ s:=by rw [Nat.div_div_eq_div_mul,Nat.pow_succ,Nat.mul_comm]
  rw [e,ih,Nat.testBit_zero]
  have:=Nat.mod_two_eq_zero_or_one x
  rcases this with h|h
  ·simp [h];omega
  ·simp [h];omega
theorem numB_nb0 {s x:Nat} (h:x<2 ^ s):numB 0 (nb x s)=x:=by
 have:=numB_nb s x
 rwa [Nat.div_eq_of_lt h] at this
def rbt (size:Nat) (s:RS):Nat × RS:=(if (rnum size 0 s).2.ended then 0 else (rnum size 0 s).1,(rnum size 0 s).2)
theorem rbt_full {k:Nat} {l:List Bool} (h:k≤l.length):rbt k ⟨l,false⟩=(numB 0 (l.take k),⟨l.drop k,false⟩):=by
 unfold rbt;rw [rnum_full k 0 l h];rfl
theorem rbt_app {k x:Nat} {r:List Bool} (h:x<2 ^ k):rbt k ⟨nb x k++r,false⟩=(x,⟨r,false⟩):=by
 rw [rbt_full (by simp [nb_len]),List.take_left' (nb_len x k),List.drop_left' (nb_len x k),numB_nb0 h]
theorem rbt_over {k:Nat} {l:List Bool} (h:l.length<k):rbt k ⟨l,false⟩=(0,⟨[],true⟩):=by
 unfold rbt;rw [rnum_over k 0 l h];rfl
theorem rbt_ended {k:Nat} {s:RS} (h:s.ended=true):rbt k s=(0,s):=by
 unfold rbt;rw [rnum_ended k 0 s h,h];rfl
theorem rbt_lt (k:Nat) (s:RS):(rbt k s).1<2 ^ k:=by
 unfold rbt
 split
 ·exact Nat.two_pow_pos k
 ·have h:∀ (k n m:Nat) (s:RS),n<2 ^ m→(rnum k n s).1<2 ^ (m+k):=by
   intro k
   induction k with
   | zero=>intro n m s h;exact h
   | succ k ih =>
    intro n m s h
    have hb:(rbit s).1.toNat≤1:=by cases (rbit s).1<;>decide
    have:=ih (2*n+(rbit s).1.toNat) (m+1) (rbit s).2 (by rw [Nat.pow_succ];omega)
    rw [rnum,show m+(k+1)=m+1+k by omega]
    exact this
  have:=h k 0 0 s (by decide)
  rwa [Nat.zero_add] at this
theorem rbt_ok {k:Nat} {s:RS} (h:(rbt k s).2.ended=false):∃ x r,x<2 ^ k∧s=⟨nb x k++r,false⟩∧rbt k s=(x,⟨r,false⟩):=by
 obtain ⟨l,en⟩:=s
 cases en with
 | true=>rw [rbt_ended rfl] at h;cases h
 | false =>
  rcases Nat.lt_or_ge l.length k with hl|hl
  ·rw [rbt_over hl] at h;cases h
  ·refine ⟨numB 0 (l.take k),l.drop k,?_,?_,rbt_full hl⟩
   ·have:=numB_lt (l.take k) 0 0 (by decide)
    rwa [Nat.zero_add,List.length_take,Nat.min_eq_left hl] at this
   ·have:=nb_numB 0 (l.take k)
    rw [List.length_take,Nat.min_eq_left hl] at this
    rw [this,List.take_append_drop]
theorem rbit_ok {s:RS} (h:(rbit s).2.ended=false):∃ b r,s=⟨b::r,false⟩∧rbit s=(b,⟨r,false⟩):=by
 obtain ⟨l,en⟩:=s
 cases en with
 | true=>cases h
 | false=>match l with
  | []=>cases h
  | b::r=>exact ⟨b,r,rfl,rfl⟩
structure PH where
 id:Int
 inter:Bool
 down:Bool
 qp:Int
 deriving DecidableEq
namespace PH
def cells (h:PH):List Value:=[.int .i64 h.id,.bool h.inter,.bool h.down,.int .i64 h.qp]
def v (h:PH):Value:=.agg h.cells.toArray
def zero:PH:=⟨0,false,false,0⟩
def err (h:PH):Nat:=if h.id<0∨65535<h.id then 2 else if h.qp<1∨31<h.qp then 6 else if h.down=true∧h.inter=false then 4 else 0
def wide (h:PH):Prop:=(-9223372036854775808≤h.id∧h.id≤9223372036854775807)∧-9223372036854775808≤h.qp∧h.qp≤9223372036854775807
def fit (h:PH):PH:=⟨h.id % 65536,h.inter,h.inter && h.down,1+h.qp % 32 % 31⟩
def bits (h:PH):List Bool:=nb h.id.toNat 16++([h.inter]++([h.down]++nb h.qp.toNat 5))
theorem bits_len (h:PH):h.bits.length=23:=by simp [bits,nb_len]
theorem ok_iff (h:PH):h.err=0 ↔ (0≤h.id∧h.id≤65535)∧(1≤h.qp∧h.qp≤31)∧(h.down=true→h.inter=true):=by
 unfold err
 split
 ·rename_i h1;simp;omega
 ·split
  ·rename_i h1 h2;simp;omega
  ·split
   ·rename_i h1 h2 h3;simp [h3.1,h3.2]
   ·rename_i h1 h2 h3
    simp only [true_iff]
    refine ⟨by omega,by omega,fun hd=>?_⟩
    cases hi:h.inter with
    | true=>rfl
    | false=>exact absurd ⟨hd,hi⟩ h3
def rd (s:RS):PH × RS :=
 let s1:=(rbt 16 s).2
 let s2:=(rbit s1).2
 let s3:=(rbit s2).2
 (⟨(rbt 16 s).1,(rbit s1).1,(rbit s2).1,(rbt 5 s3).1⟩,(rbt 5 s3).2)
theorem rd_bits {h:PH} {r:List Bool} (ho:h.err=0):rd ⟨h.bits++r,false⟩=(h,⟨r,false⟩):=by
 have hk:=(ok_iff _).1 ho
 unfold rd bits
 simp only [List.append_assoc]
 rw [rbt_app (k:=16) (by omega)]
 simp only [List.cons_append,List.nil_append,rbit_cons]
 rw [rbt_app (k:=5) (by omega)]
 obtain ⟨a,b,c,d⟩:=h
 simp only at hk ⊢
 congr
 ·omega
 ·omega
theorem rd_ok {s:RS} (he:(rd s).2.ended=false):∃ r,s=⟨(rd s).1.bits++r,false⟩∧(rd s).2=⟨r,false⟩∧(0≤(rd s).1.id∧(rd s).1.id≤65535)∧0≤(rd s).1.qp∧(rd s).1.qp≤31:=by
 obtain ⟨x,r4,hx,hs3,h4⟩:=rbt_ok (s:=(rbit (rbit (rbt 16 s).2).2).2) he
 obtain ⟨d,r3,hs2,h3⟩:=rbit_ok (s:=(rbit (rbt 16 s).2).2) (by rw [hs3])
 obtain ⟨i,r2,hs1,h2⟩:=rbit_ok (s:=(rbt 16 s).2) (by rw [hs2])
 obtain ⟨y,r1,hy,hs,h1⟩:=rbt_ok (s:=s) (by rw [hs1])
 subst hs
 have e1:(rbt 16 (⟨nb y 16++r1,false⟩:RS))=(y,⟨r1,false⟩):=h1
 rw [e1] at hs1 h2 hs2 h3 hs3 h4
 simp only at hs1 h2 hs2 h3 hs3 h4
 cases hs1
 simp only [rbit_cons] at hs2 h3 hs3 h4
 cases hs2
 simp only [rbit_cons] at hs3 h4
 cases hs3
 have e2:rd ⟨nb y 16++(i::d::(nb x 5++r4)),false⟩=(⟨y,i,d,x⟩,⟨r4,false⟩):=by
  unfold rd
  simp only [e1,rbit_cons,h4]
 refine ⟨r4,?_,?_,?_⟩
 ·rw [e2];simp [bits]
 ·rw [e2]
 ·rw [e2];simp only;omega
end PH
end Go.P
