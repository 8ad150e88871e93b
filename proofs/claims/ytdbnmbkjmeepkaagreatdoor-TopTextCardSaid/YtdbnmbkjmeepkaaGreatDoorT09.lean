/- A part of the proof of the card of TopText; no condition. -/
import Derived.Test.YtdbnmbkjmeepkaaGreatDoorT04
import Derived.Test.YtdbnmbkjmeepkaaGreatDoorT08
namespace Go.P
open Go Go.K Ieee
theorem EW {a:Int} (ha:-9007199254740992<a∧a<9007199254740992):Be (FN a)=some a:=by
 obtain ⟨m,p,h1,h2,h3⟩:=pV ha
 have hz:dz (lU (FN a))=some (a*2 ^ (-p).toNat,(-p).toNat):=by
  rw [h1]
  simp only [dz,show p.toNat=0 by omega,Nat.pow_zero,Nat.mul_one,h3]
 have hp:=two_pos (-p).toNat
 unfold Be
 rw [BI hz,Int.mul_tdiv_cancel _ (by omega)]
 simp only
 rw [if_pos (by omega)]
def PB (M:Int) (c:Nat) (p:PF):Prop:=∃ a d,p=(FN a,FN d)∧(-(c*M)≤a∧a≤c*M)∧(-(c*M)≤d∧d≤c*M)
def PC (M:Int) (c:List Nat) (v:List PF):Prop:=v.length=8∧∀ i,i<8→PB M (c.getD i 0) (v.getD i (0,0))
def P5 (h:Nat) (c:List Nat) (i:Nat):List Nat:=if i &&& h=0 then (c.set i (c.getD i 0+c.getD (i+h) 0)).set (i+h) (c.getD i 0+c.getD (i+h) 0) else c
def F4 (h:Nat) (c:List Nat):Nat→List Nat
 | 0=>c
 | n+1=>P5 h (F4 h c n) n
def qY:Nat→List Nat
 | 0=>List.replicate 8 1
 | n+1=>F4 (2 ^ n) (qY n) 8
theorem J8:∀ n,n<3→∀ i,i<8→(F4 (2 ^ n) (qY n) i).length=8∧(i &&& 2 ^ n=0→i+2 ^ n<8∧i≠i+2 ^ n∧(F4 (2 ^ n) (qY n) i).getD i 0+(F4 (2 ^ n) (qY n) i).getD (i+2 ^ n) 0≤8):=by decide
theorem H9:qY 3=List.replicate 8 8:=by decide
section
variable {M:Int} (hM0:0≤M) (hM:8*M<9007199254740992)
include hM0 hM
theorem PB.add {c d:Nat} {p q:PF} (hp:PB M c p) (hq:PB M d q) (h:c+d≤8):∃ r s,Gw p q=some r∧II p q=some s∧PB M (c+d) r∧PB M (c+d) s:=by
 obtain ⟨a,b,rfl,ha,hb⟩:=hp
 obtain ⟨e,f,rfl,he,hf⟩:=hq
 have hcd:((c+d:Nat):Int)*M≤8*M:=Int.mul_le_mul_of_nonneg_right (by omega) hM0
 have e1:((c+d:Nat):Int)*M=c*M+d*M:=by rw [Int.natCast_add,Int.add_mul]
 rw [e1] at hcd
 have hc0:0≤(c:Int)*M:=Int.mul_nonneg (by omega) hM0
 have hd0:0≤(d:Int)*M:=Int.mul_nonneg (by omega) hM0
 refine ⟨(FN (a+e),FN (b+f)),(FN (a-e),FN (b-f)),?_,?_,⟨_,_,rfl,by rw [e1];omega,by rw [e1];omega⟩,⟨_,_,rfl,by rw [e1];omega,by rw [e1];omega⟩⟩
 ·unfold Gw Mz
  rw [Gn (by omega) (by omega) (by omega),Gn (by omega) (by omega) (by omega)]
 ·unfold II NO
  rw [HV (by omega) (by omega) (by omega),HV (by omega) (by omega) (by omega)]
theorem MX {h i:Nat} {c:List Nat} {v:List PF} (hv:PC M c v) (hc:c.length=8) (hi:i<8) (h8:i &&& h=0→i+h<8∧i≠i+h∧c.getD i 0+c.getD (i+h) 0≤8):∃ u,dW h v i=some u∧PC M (P5 h c i) u:=by
 unfold dW P5
 by_cases h0:i &&& h=0
 ·obtain ⟨g1,g2,g3⟩:=h8 h0
  obtain ⟨r,s,e1,e2,b1,b2⟩:=(hv.2 i hi).add hM0 hM (hv.2 (i+h) g1) g3
  rw [if_pos h0,if_pos h0,e1,e2]
  refine ⟨_,rfl,by simp [hv.1],fun j hj=>?_⟩
  have hvl:=hv.1
  have:=hv.2 j hj
  simp only [List.getD_eq_getElem?_getD] at *
  by_cases hj2:j=i+h
  ·subst hj2
   rw [List.getElem?_set_self (by simp;omega),List.getElem?_set_self (by simp;omega)]
   exact b2
  ·rw [List.getElem?_set_ne (Ne.symm hj2),List.getElem?_set_ne (Ne.symm hj2)]
   by_cases hj1:j=i
   ·subst hj1
    rw [List.getElem?_set_self (by omega),List.getElem?_set_self (by omega)]
    exact b1
   ·rw [List.getElem?_set_ne (Ne.symm hj1),List.getElem?_set_ne (Ne.symm hj1)]
    exact this
 ·rw [if_neg h0,if_neg h0]
  exact ⟨v,rfl,hv⟩
theorem Ag {v:List PF} (hv:PC M (qY 0) v):∀ n,n≤3→∃ u,cW v n=some u∧PC M (qY n) u
 | 0,_=>⟨v,rfl,hv⟩
 | n+1,hn=>by
  obtain ⟨u,h1,h2⟩:=Ag hv n (by omega)
  have key:∀ k,k≤8→∃ x,oE (2 ^ n) u k=some x∧PC M (F4 (2 ^ n) (qY n) k) x:=by
   intro k
   induction k with
   | zero=>intro _;exact ⟨u,rfl,h2⟩
   | succ k ih =>
    intro hk
    obtain ⟨x,g1,g2⟩:=ih (by omega)
    obtain ⟨b1,b2⟩:=J8 n (by omega) k (by omega)
    obtain ⟨y,g3,g4⟩:=MX hM0 hM g2 b1 (by omega) b2
    exact ⟨y,by unfold oE;rw [g1];exact g3,g4⟩
  obtain ⟨x,g1,g2⟩:=key 8 (by omega)
  exact ⟨x,by unfold cW;rw [h1];exact g1,g2⟩
def tH (M:Int) (l:List Int):Prop:=l.length=64∧∀ i,-M≤l.getD i 0∧l.getD i 0≤M
omit hM0 hM in
theorem lF {l:List Int}:tH M l ↔ l.length=64∧0≤M∧∀ n∈l,-M≤n∧n≤M:=by
 constructor
 ·intro h
  refine ⟨h.1,?_,fun n hn=>?_⟩
  ·have:=h.2 0;omega
  ·obtain ⟨i,hi⟩:=List.mem_iff_getElem?.1 hn
   have:=h.2 i
   simpa [List.getD_eq_getElem?_getD,hi] using this
 ·intro h
  refine ⟨h.1,fun i=>?_⟩
  rw [List.getD_eq_getElem?_getD]
  cases hi:l[i]? with
  | none=>simp;omega
  | some n=>exact h.2.2 n (List.mem_of_getElem? hi)
theorem AK {u:List PF} {r:Nat} {o:List Int} (hu:PC M (qY 3) u) (ho:tH (8*M) o):∀ n,n≤8→∃ x,iQ r u o n=some x∧tH (8*M) x
 | 0,_=>⟨o,rfl,ho⟩
 | n+1,hn=>by
  obtain ⟨x,h1,h2⟩:=AK hu ho n (by omega)
  obtain ⟨a,d,e,ha,hd⟩:=hu.2 n (by omega)
  rw [H9,List.getD_eq_getElem?_getD,List.getElem?_replicate,if_pos (by omega)] at ha hd
  simp only [Option.getD_some] at ha hd
  refine ⟨(x.set (8*n+r) a).set (8*n+r+1) d,?_,?_⟩
  ·unfold iQ
   rw [h1]
   simp only [Option.bind_some]
   rw [e,EW (by omega),EW (by omega)]
  ·rw [lF] at h2 ⊢
   refine ⟨by simp [h2.1],h2.2.1,fun y hy=>?_⟩
   rcases List.mem_or_eq_of_mem_set hy with hy|rfl
   ·rcases List.mem_or_eq_of_mem_set hy with hy|rfl
    ·exact h2.2.2 y hy
    ·exact ha
   ·exact hd
theorem Ku:tH (8*M) (List.replicate 64 0):=by
 rw [lF]
 exact ⟨rfl,by omega,fun n hn=>by rw [List.eq_of_mem_replicate hn];omega⟩
omit hM0 hM in
theorem Qn {v:List PF} (h8:v.length=8) (h:∀ i,i<8→PB M 1 (v.getD i (0,0))):PC M (qY 0) v:=⟨h8,fun i hi=>by
 have:(qY 0).getD i 0=1:=by show (List.replicate 8 1).getD i 0=1;rw [List.getD_eq_getElem?_getD,List.getElem?_replicate,if_pos hi];rfl
 rw [this];exact h i hi⟩
theorem Br {b:List Int} (hb:tH M b):∃ x,iM b 4=some x∧tH (8*M) x:=by
 have key:∀ n,n≤4→∃ x,iM b n=some x∧tH (8*M) x:=by
  intro n
  induction n with
  | zero=>intro _;exact ⟨_,rfl,Ku hM0 hM⟩
  | succ n ih =>
   intro hn
   obtain ⟨o,h1,h2⟩:=ih (by omega)
   have hv:PC M (qY 0) (qS b (2*n)):=Qn (by simp [qS]) (fun i hi=>by
    have e:(qS b (2*n)).getD i (0,0)=(FN (b.getD (8*(2*n)+i) 0),FN (b.getD (8*(2*n)+8+i) 0)):=by simp [qS,List.getD_eq_getElem?_getD,hi]
    rw [e]
    exact ⟨_,_,rfl,by simpa using hb.2 _,by simpa using hb.2 _⟩)
   obtain ⟨u,g1,g2⟩:=Ag hM0 hM hv 3 (by omega)
   have hu:PC M (qY 3) (gV.map fun k=>u.getD k (0,0)):=⟨by simp [gV],fun i hi=>by
    rw [H9]
    have hk:∃ k,k<8∧gV[i]?=some k:=by
     have:∀ i,i<8→∃ k,k<8∧gV[i]?=some k:=by decide
     exact this i hi
    obtain ⟨k,hk,hik⟩:=hk
    have:=g2.2 k hk
    rw [H9,List.getD_eq_getElem?_getD,List.getElem?_replicate,if_pos hk] at this
    rw [List.getD_eq_getElem?_getD,List.getD_eq_getElem?_getD,List.getElem?_replicate,if_pos hi,List.getElem?_map,hik]
    exact this⟩
   obtain ⟨x,g3,g4⟩:=AK hM0 hM (r:=2*n) hu h2 8 (by omega)
   refine ⟨x,?_,g4⟩
   unfold iM
   rw [h1]
   simp only [Option.bind_some,AI,g1,Option.map_some]
   exact g3
 exact key 4 (by omega)
theorem zA {b:List Int} (hb:tH M b):∃ x,fH b 4=some x∧tH (8*M) x:=by
 have key:∀ n,n≤4→∃ x,fH b n=some x∧tH (8*M) x:=by
  intro n
  induction n with
  | zero=>intro _;exact ⟨_,rfl,Ku hM0 hM⟩
  | succ n ih =>
   intro hn
   obtain ⟨o,h1,h2⟩:=ih (by omega)
   have hvk:∀ k,k≤8→∀ i,i<8→(∃ j,j<k∧gV.getD j 0=i)→PB M 1 ((Dd b (2*n) k).getD i (0,0)):=by
    intro k
    induction k with
    | zero=>intro _ i _ ⟨j,hj,_⟩;omega
    | succ k ihk =>
     intro hk i hi ⟨j,hj,hji⟩
     have hl:=uC b (2*n) k
     rw [List.getD_eq_getElem?_getD]
     show PB M 1 (((Dd b (2*n) k).set (gV.getD k 0) _)[i]?.getD (0,0))
     by_cases hjk:gV.getD k 0=i
     ·subst hjk
      rw [List.getElem?_set_self (by omega)]
      exact ⟨_,_,rfl,by simpa using hb.2 _,by simpa using hb.2 _⟩
     ·rw [List.getElem?_set_ne hjk,← List.getD_eq_getElem?_getD]
      refine ihk (by omega) i hi ⟨j,?_,hji⟩
      rcases Nat.lt_or_ge j k with h|h
      ·exact h
      ·obtain rfl:j=k:=by omega
       exact absurd hji hjk
   have hv:PC M (qY 0) (Dd b (2*n) 8):=Qn (uC _ _ _) (fun i hi=>hvk 8 (by omega) i hi (by
    have:∀ i,i<8→∃ j,j<8∧gV.getD j 0=i:=by decide
    exact this i hi))
   obtain ⟨u,g1,g2⟩:=Ag hM0 hM hv 3 (by omega)
   obtain ⟨x,g3,g4⟩:=AK hM0 hM (r:=2*n) g2 h2 8 (by omega)
   refine ⟨x,?_,g4⟩
   unfold fH
   rw [h1]
   simp only [Option.bind_some,g1]
   exact g3
 exact key 4 (by omega)
end
end Go.P
namespace Go.Proofs.YtdbnmbkjmeepkaaGreatDoor
open Go Go.K Go.RowKit Go.Proofs
theorem dF {p:Prop} [Decidable p] (h:¬p):Value.bool (decide p)=.bool false:=congrArg Value.bool (decide_eq_false h)
theorem dT {p:Prop} [Decidable p] (h:p):Value.bool (decide p)=.bool true:=congrArg Value.bool (decide_eq_true h)
section
variable {ρ:Fr} {w:World} {dst:Option Nat} {ty t u:TypeId} {pos:String} {af:Array Edge} {gd:Option (Nat × Bool)} {x:Operand} {q:IntKind} {m:Nat} {p:Bool × Nat}
theorem eT {i:Int} (hx:ev ρ x=.int q i) (h1:lk t Ty.An=some p) (h2:lk u Ty.BR=some .i64) (hf:-9223372036854775808≤i∧i≤9223372036854775807):cU Tryz.prog ρ ⟨dst,.convert t u x,ty,pos,af,gd⟩ w (.int .i64 i) w:=DV hx (Ty.AP h1) (Ty.Co h2) hf
theorem vZ (hx:ev ρ x=.int q m) (h1:lk t Ty.An=some p) (h2:lk u Ty.BR=some .u16) (hf:m<65536):cU Tryz.prog ρ ⟨dst,.convert t u x,ty,pos,af,gd⟩ w (.int .u16 m) w:=kA hx (Ty.AP h1) (Ty.Co h2) (vK hf)
theorem iK (hx:ev ρ x=.int q m) (h1:lk t Ty.An=some p) (h2:lk u Ty.BR=some .u64) (hf:m<18446744073709551616):cU Tryz.prog ρ ⟨dst,.convert t u x,ty,pos,af,gd⟩ w (.int .u64 m) w:=kA hx (Ty.AP h1) (Ty.Co h2) (kI hf)
theorem uH (hx:ev ρ x=.int q m) (h1:lk t Ty.An=some p) (h2:lk u Ty.BR=some .u8) (hf:m<256):cU Tryz.prog ρ ⟨dst,.convert t u x,ty,pos,af,gd⟩ w (.int .u8 m) w:=kA hx (Ty.AP h1) (Ty.Co h2) (CO hf)
theorem A2 (hx:ev ρ x=.int q m) (h1:lk t Ty.An=some p) (h2:lk u Ty.BR=some .u8):cU Tryz.prog ρ ⟨dst,.convert t u x,ty,pos,af,gd⟩ w (.int .u8 ((m % 256:Nat):Int)) w:=Fy hx (Ty.AP h1) (Ty.Co h2)
end
end Go.Proofs.YtdbnmbkjmeepkaaGreatDoor
namespace Go.P
def wT (s:Nat):Nat:=if s &&& 32768≠0 then (s*2 % 65536) ^^^ 4129 else s*2 % 65536
def yP:Nat→Nat→Nat
 | 0,s=>s
 | n+1,s=>wT (yP n s)
def E9 (s c:Nat):Nat:=yP 8 (s ^^^ (c*256 % 65536))
def eX (s:Nat) (l:List Nat):Nat:=l.foldl E9 s
theorem yZ (s:Nat):wT s<65536:=by
 unfold wT
 split
 ·exact Nat.xor_lt_two_pow (n:=16) (Nat.mod_lt _ (by decide)) (by decide)
 ·exact Nat.mod_lt _ (by decide)
theorem HS {s:Nat} (h:s<65536):∀ n,yP n s<65536
 | 0=>h
 | _+1=>yZ _
theorem DW (s c:Nat):E9 s c<65536:=yZ _
theorem sJ (s:Nat) (hs:s<65536) (l:List Nat):eX s l<65536:=by
 induction l generalizing s with
 | nil=>exact hs
 | cons c l ih=>exact ih _ (DW _ _)
theorem xW (s:Nat) (l m:List Nat):eX s (l++m)=eX (eX s l) m:=List.foldl_append
end Go.P
namespace Go.Proofs.YtdbnmbkjmeepkaaGreatDoor
open Go Go.K Go.P Go.RowKit Go.Proofs
set_option maxHeartbeats 1000000 in
theorem I0 {s n:Nat} {l:List Nat} {a:Option Addr} {cap:Nat} {w:World} (hs:s<65536) (hl:gR l) (hS:cI w a (l.map B)) (hn:l.length=n) (hlen:n≤9223372036854775807) :
  aX Tryz.prog 122 #[.int .u16 s,.slice a n cap] w fun v w'=>v=.int .u16 (eX s l:Nat)∧w'=w:=by
 subst hn
 refine aL (args:=[_,_]) Tryz.func122 rfl rfl Tryz.ntmps122 rfl ?_
 refine aK ?_
 refine aV (G:=Nat) (fun k=>l.length-k) 1073741377 (fun k=>[(9,.int .i64 k),(0,.int .u16 (eX s (l.take k):Nat))]) (fun k w'=>k≤l.length∧w'=w) 0 ⟨rfl,rfl,trivial⟩ ⟨Nat.zero_le _,rfl⟩ ?_
 rintro k w' σ ⟨hk,rfl⟩ IH
 have hc:=sJ s hs (l.take k)
 by_cases hlt:k<l.length
 ·have hb:l[k]<256:=hl _ (List.getElem_mem hlt)
  have hv:(l.map B)[k]?=some (B l[k]):=by simp [hlt]
  repeat (first|refine aR ?_|(refine aD (by first|refine cG rfl rfl hS (by simp) (Ty.sle rfl) (by omega)|refine aU rfl hS hv (Ty.aF rfl)|refine AE rfl (n:=8) rfl|refine K0 rfl rfl (vK (by omega)) (vK (Nat.mod_lt _ (by decide)))) rfl ?_)|refine aT ?_)
  have h0:eX s (l.take k) ^^^ (l[k]*256 % 65536)<65536:=Nat.xor_lt_two_pow (n:=16) hc (Nat.mod_lt _ (by decide))
  refine aV (G:=Nat) (fun j=>8-j) 536608769 (fun j=>[(18,.int .i64 j),(0,.int .u16 (yP j (eX s (l.take k) ^^^ (l[k]*256 % 65536)):Nat))]) (fun j w''=>j≤8∧w''=w') 0 ⟨rfl,rfl,trivial⟩ ⟨by omega,rfl⟩ ?_
  rintro j w'' σ' ⟨hj,rfl⟩ IH2
  have hi:=HS h0 j
  by_cases hj8:j<8
  ·repeat (first|refine aR ?_|(refine aD (by refine tT rfl (n:=32768) rfl (vK hi) rfl) rfl ?_)|refine aT ?_)
   refine sL rfl (fun ht=>?_) (fun hf=>?_)
   ·repeat (first|refine aR ?_|(refine aD (by first|refine AE rfl (n:=1) rfl|refine K0 rfl (n:=4129) rfl (vK (Nat.mod_lt _ (by decide))) rfl) rfl ?_)|refine aT ?_)
    refine IH2 (j+1) _ _ ?_ ?_ ?_ ?_
    ·omega
    ·exact ⟨rfl,by simp only [yP,wT];rw [if_pos (by omega)];rfl,trivial⟩
    ·exact cP
    ·exact ⟨by omega,rfl⟩
   ·repeat (first|refine aR ?_|(refine aD (by refine AE rfl (n:=1) rfl) rfl ?_)|refine aT ?_)
    refine IH2 (j+1) _ _ ?_ ?_ ?_ ?_
    ·omega
    ·exact ⟨rfl,by simp only [yP,wT];rw [if_neg (by omega)];rfl,trivial⟩
    ·exact cP
    ·exact ⟨by omega,rfl⟩
  ·obtain rfl:j=8:=by omega
   refine aK ?_
   refine IH (k+1) _ _ ?_ ?_ ?_ ?_
   ·omega
   ·exact ⟨rfl,by rw [List.take_succ_eq_append_getElem hlt];simp only [eX,List.foldl_append];rfl,trivial⟩
   ·exact cP
   ·exact ⟨by omega,rfl⟩
 ·obtain rfl:k=l.length:=by omega
  refine aK ?_
  refine aM Tryz.func122 rfl ⟨?_,rfl⟩
  rw [← List.take_length (l:=l)];simp
  rfl
abbrev Qi:=Option Addr × Nat × List Nat
def sv (p:Qi):Value:=.slice p.1 p.2.2.length p.2.1
set_option maxHeartbeats 1000000 in
theorem Gz {ap:Option Addr} {cp n:Nat} {ps:List Qi} {w:World} (hS:cI w ap (ps.map sv)) (hp:∀ p∈ps,cI w p.1 (p.2.2.map B)∧gR p.2.2∧p.2.2.length≤9223372036854775807) (hpn:ps.length=n) (hn:n≤9223372036854775807) :
  aX Tryz.prog 84 #[.slice ap n cp] w fun v w'=>v=.int .u16 (eX 65535 (ps.flatMap (·.2.2)):Nat)∧w'=w:=by
 subst hpn
 refine aL (args:=[_]) Tryz.func84 rfl rfl Tryz.ntmps84 rfl ?_
 refine aK ?_
 refine aV (G:=Nat) (fun k=>ps.length-k) 65320 (fun k=>[(8,.int .i64 k),(3,.int .u16 (eX 65535 ((ps.take k).flatMap (·.2.2)):Nat))]) (fun k w'=>k≤ps.length∧w'=w) 0 ⟨rfl,rfl,trivial⟩ ⟨Nat.zero_le _,rfl⟩ ?_
 rintro k w' σ ⟨hk,rfl⟩ IH
 have hc:=sJ 65535 (by decide) ((ps.take k).flatMap (·.2.2))
 by_cases hlt:k<ps.length
 ·have hv:(ps.map sv)[k]?=some (sv ps[k]):=by simp [hlt]
  obtain ⟨h1,h2,h3⟩:=hp ps[k] (List.getElem_mem hlt)
  repeat (first|refine aR ?_|(refine aD (by first|refine cG rfl rfl hS (by simp) (Ty.sle rfl) (by omega)|refine aU rfl hS hv (Ty.aF rfl)) rfl ?_)|refine aT ?_)
  refine aO ?_
  refine aA (aC (I0 hc h2 h1 rfl h3) rfl rfl ?_)
  rintro v w'' ⟨rfl,rfl⟩
  refine aK ?_
  refine IH (k+1) _ _ ?_ ?_ ?_ ?_
  ·omega
  ·exact ⟨rfl,by rw [List.take_succ_eq_append_getElem hlt];simp only [List.flatMap_append,xW];simp;rfl,trivial⟩
  ·exact cP
  ·exact ⟨by omega,rfl⟩
 ·obtain rfl:k=ps.length:=by omega
  refine aK ?_
  refine aM Tryz.func84 rfl ⟨?_,rfl⟩
  rw [← List.take_length (l:=ps)];simp
  rfl
theorem qB {b n:Nat} {a:Option Addr} {cap:Nat} {l:List Nat} {w:World} {e:TypeId} (hB:cL w b e #[.slice a n cap]) (hS:cI w a (l.map B)) (hl:gR l) (hn:l.length=n) (hlen:n≤9223372036854775807) :
  aX Tryz.prog 84 #[.slice (some ⟨b,0,none⟩) 1 1] w fun v w'=>v=.int .u16 (eX 65535 l:Nat)∧w'=w:=by
 subst hn
 have h:=Gz (cp:=1) (n:=1) (ps:=[(a,cap,l)]) hB.cX (by simpa using ⟨hS,hl,hlen⟩) rfl (by decide)
 simpa using h
end Go.Proofs.YtdbnmbkjmeepkaaGreatDoor
namespace Go.P
open Go Go.K
abbrev I (n:Int):Value:=.int .i64 n
def fF:Nat→List Int→List (Nat × Int)
 | _,[]=>[]
 | r,x::l=>if x=0 then fF (r+1) l else (r,x)::fF 0 l
def Nb (ps:List (Nat × Int)):List Value:=ps.flatMap fun p=>[I p.1,I p.2,.bool false]
def pA:List (Nat × Int)→List Value
 | []=>[]
 | [p]=>[I p.1,I p.2,.bool true]
 | p::q::l=>I p.1::I p.2::.bool false::pA (q::l)
theorem Kf (ps:List (Nat × Int)):(Nb ps).length=ps.length*3:=by
 induction ps with
 | nil=>rfl
 | cons p l ih=>simp [Nb] at ih ⊢;omega
theorem Ej:∀ (ps:List (Nat × Int)),ps≠[]→(Nb ps).set ((ps.length-1)*3+2) (.bool true)=pA ps
 | [],h=>absurd rfl h
 | [p],_=>by simp [Nb,pA]
 | p::q::l,_=>by
  have ih:=Ej (q::l) (by simp)
  have e:((p::q::l).length-1)*3+2=((q::l).length-1)*3+2+1+1+1:=by simp;omega
  rw [e,pA,← ih]
  rfl
theorem Es:∀ (ps:List (Nat × Int)) (i:Nat) (h:i<ps.length),(pA ps)[i*3]?=some (I ps[i].1)∧(pA ps)[i*3+1]?=some (I ps[i].2)∧(pA ps)[i*3+2]?=some (.bool (decide (i+1=ps.length)))
 | [],i,h=>absurd h (by simp)
 | [p],i,h=>by
  obtain rfl:i=0:=by simpa using h
  simp [pA]
 | p::q::l,0,_=>by simp [pA]
 | p::q::l,i+1,h=>by
  have ih:=Es (q::l) i (by simpa using h)
  have e:(i+1)*3=i*3+1+1+1:=by omega
  have e1:(i+1)*3+1=i*3+1+1+1+1:=by omega
  have e2:(i+1)*3+2=i*3+2+1+1+1:=by omega
  refine ⟨?_,?_,?_⟩
  ·rw [e];simpa [pA] using ih.1
  ·rw [e1];simpa [pA] using ih.2.1
  ·rw [e2];simpa [pA] using ih.2.2
theorem uI:∀ (ps:List (Nat × Int)),(pA ps).length=ps.length*3
 | []=>rfl
 | [p]=>rfl
 | p::q::l=>by have:=uI (q::l);simp [pA] at this ⊢;omega
theorem sH:∀ (r:Nat) (l:List Int),(fF r l).length≤l.length
 | _,[]=>by simp [fF]
 | r,x::l=>by
  have h1:=sH (r+1) l
  have h2:=sH 0 l
  unfold fF
  split<;>simp<;>omega
theorem Mt (ps:List (Nat × Int)) (i:Nat) (h:i<ps.length):((pA ps).drop (i*3)).take 3=[I ps[i].1,I ps[i].2,.bool (decide (i+1=ps.length))]:=by
 obtain ⟨h1,h2,h3⟩:=Es ps i h
 have hl:=uI ps
 refine List.ext_getElem? (fun j=>?_)
 rw [List.getElem?_take]
 by_cases hj:j<3
 ·rw [if_pos hj,List.getElem?_drop]
  obtain rfl|rfl|rfl:j=0∨j=1∨j=2:=by omega
  ·rw [Nat.add_zero,h1];rfl
  ·rw [h2];rfl
  ·rw [h3];rfl
 ·rw [if_neg hj];simp;omega
theorem sN:∀ (r:Nat) (l:List Int),∀ p∈fF r l,p.1≤r+l.length∧p.2∈l∧p.2≠0
 | _,[],p,h=>by simp [fF] at h
 | r,x::l,p,h=>by
  unfold fF at h
  split at h
  ·obtain ⟨h1,h2,h3⟩:=sN (r+1) l p h
   exact ⟨by simp;omega,by simp [h2],h3⟩
  ·rename_i h0
   rcases List.mem_cons.1 h with rfl|h
   ·simp [h0]
   ·obtain ⟨h1,h2,h3⟩:=sN 0 l p h
    exact ⟨by simp;omega,by simp [h2],h3⟩
end Go.P
namespace Go.Proofs.YtdbnmbkjmeepkaaGreatDoor
open Go Go.K Go.P Go.RowKit Go.Proofs
set_option maxHeartbeats 1000000 in
theorem KR {vs:List Int} {fr:Int} {f:Nat} {w:World} (hv:vs.length=64) (hf:min (max fr 0) 64=(f:Int)) :
  aX Tryz.prog 173 #[.agg (vs.map I).toArray,.int .i64 fr] w fun v w'=>∃ a cap,v=.slice a (fF 0 (vs.drop f)).length cap∧Own w' 312 3 a (fF 0 (vs.drop f)).length cap (pA (fF 0 (vs.drop f)))∧jL w.heap.size a∧Ext [] w w':=by
 refine aL (args:=[_,_]) Tryz.func173 rfl rfl Tryz.ntmps173 rfl ?_
 refine aK ?_
 refine aA (Ca rfl rfl rfl ?_)
 intro w1 b1 hb1 hE1 hB1 hs1
 refine aK ?_
 have hS1:cI w1 (some ⟨b1,0,none⟩) (vs.map I):=hB1.cX
 rw [hf]
 refine aV (G:=(Nat) × (Nat) × (List (Nat × Int)) × (Option Addr) × (Nat)) (fun|(k,r,done,a,c)=>64-k) 1073737952 (fun|(k,r,done,a,c)=>[(5,.slice a done.length c),(6,.int .i64 r),(7,.int .i64 k)]) (fun|(k,r,done,a,c),w'=>k≤64∧r≤k∧done.length≤k∧done++fF r (vs.drop k)=fF 0 (vs.drop f)∧Ext [] w1 w'∧jL w1.heap.size a∧Own w' 312 3 a done.length c (Nb done)) (f,0,[],none,0) ⟨rfl,rfl,rfl,trivial⟩ ⟨by omega,Nat.zero_le _,Nat.zero_le _,rfl,.refl,.none,.nil⟩ ?_
 rintro ⟨k,r,done,a,c⟩ w2 σ ⟨hk,hr,hd,hp,hW2,hF2,hO2⟩ IH
 show WS _ _ _ _ _ (bQ [(5,.slice a done.length c),(6,.int .i64 r),(7,.int .i64 k)] _) _
 by_cases hlt:k<64
 ·have hx:(vs.map I)[k]?=some (I vs[k]):=by simp [hv,hlt]
  have hS2:=hS1.aH hW2
  have hcut:vs.drop k=vs[k]::vs.drop (k+1):=List.drop_eq_getElem_cons (by omega)
  rw [hcut,fF] at hp
  repeat (first|refine aR ?_|(refine aD (by first|refine bD rfl rfl (Ty.arr rfl) (by omega)|refine aU rfl hS2 hx (Ty.aF rfl)) rfl ?_)|refine aT ?_)
  refine sL rfl (fun h0=>?_) (fun h0=>?_)
  ·rw [if_pos h0] at hp
   refine aK ?_
   refine IH (k+1,r+1,done,a,c) _ _ ?_ ?_ ?_ ?_
   ·simp only;omega
   ·exact ⟨rfl,rfl,rfl,trivial⟩
   ·exact cP
   ·exact ⟨by omega,by omega,by omega,hp,hW2,hF2,hO2⟩
  ·rw [if_neg h0] at hp
   repeat (first|refine aR ?_|(refine aD (by first|refine bD rfl rfl (Ty.arr rfl) (by omega)|refine aU rfl hS2 hx (Ty.aF rfl)|refine bR (cs:=[I r,I vs[k],.bool false]) (Ty.bH rfl) (Ty.iJ rfl) rfl) rfl ?_)|refine aT ?_)
   refine aO ?_
   refine aA (oK (out:=[I r,I vs[k],.bool false]) (Ty.sle rfl) (Ty.bH rfl) rfl rfl rfl (by decide) rfl ?_)
   intro w3 b3 hb3 hE3 hB3 hs3
   have hW3:=hW2.bO hE3
   have hF3:jL _ (some ⟨b3,0,none⟩):=jL.at hW2 hb3
   refine aO ?_
   refine aA (kY (Ty.sle rfl) (Ty.bH rfl) rfl (Ty.gS rfl) (by decide) rfl (hO2.aH hE3) rfl (hB3.cX) (by simp;try omega) (by simp) (by omega) (by simp only [maxLen];omega) rfl ?_)
   intro w4 a4 c4 hE4 hO4 hf4 hn4
   have hW4:=hW3.LW hE4 hF2
   have hF4:=hF2.step hf4 hW3.size
   refine aK ?_
   refine IH (k+1,0,done++[(r,vs[k])],a4,c4) _ _ ?_ ?_ ?_ ?_
   ·simp only;omega
   ·exact ⟨by simp;rfl,rfl,rfl,trivial⟩
   ·exact cP
   ·exact ⟨by omega,by omega,by simp;omega,by simpa using hp,hW4,hF4,by simpa [Nb] using hO4⟩
 ·obtain rfl:k=64:=by omega
  have hdn:vs.drop 64=[]:=List.drop_of_length_le (by omega)
  rw [hdn,fF,List.append_nil] at hp
  rw [← hp]
  refine aK ?_
  refine sL rfl (fun h0=>?_) (fun h0=>?_)
  ·have hne:done≠[]:=fun e=>by subst e;simp at h0
   have hpos:0<done.length:=by omega
   repeat (first|refine aR ?_|(refine aD (by first|refine gE rfl rfl hO2.sl (Kf done) (by decide) (Ty.sle rfl) (by omega)|refine N2 rfl (Ty.bA rfl rfl)) rfl ?_)|refine aT ?_)
   refine aA (vX (v:=.bool true) rfl rfl hO2 (by omega) rfl (Ty.aF rfl) ?_)
   intro w3 hE3 hO3 hs3
   rw [show ((done.length:Int)-1).toNat*3+2=(done.length-1)*3+2 by omega,Ej done hne] at hO3
   have hW3:=hW2.LW hE3 hF2
   refine aK ?_
   exact aM Tryz.func173 rfl ⟨a,c,rfl,hO3,fun b hb=>by have:=hF2 b hb;omega,hE1.bO hW3⟩
  ·have hne:done=[]:=List.eq_nil_of_length_eq_zero (by omega)
   refine aK ?_
   refine aM Tryz.func173 rfl ⟨a,c,rfl,?_,fun b hb=>by have:=hF2 b hb;omega,hE1.bO hW2⟩
   rw [show pA done=Nb done by rw [hne];rfl]
   exact hO2
end Go.Proofs.YtdbnmbkjmeepkaaGreatDoor
namespace Go.P
open Go Go.K
def mG (z c:Nat):Nat:=if 2≤z∧c≤3 then (if c=0 then 1 else 0) else (if c=0 then z+1 else 0)
def mE (z c:Nat):List Nat:=if 2≤z∧c≤3 then [3,c] else [c]
def fB:Nat→List Nat→List Nat
 | _,[]=>[]
 | z,c::l=>mE z c++fB (mG z c) l
def pI:Nat→List Nat→Nat
 | z,[]=>z
 | z,c::l=>pI (mG z c) l
theorem zD:∀ (l:List Nat) (z c:Nat),fB z (l++[c])=fB z l++mE (pI z l) c
 | [],z,c=>by simp [fB,pI]
 | d::l,z,c=>by simp only [List.cons_append,fB,pI,zD l,List.append_assoc]
theorem zH:∀ (l:List Nat) (z c:Nat),pI z (l++[c])=mG (pI z l) c
 | [],z,c=>by simp [pI]
 | d::l,z,c=>by simp only [List.cons_append,pI,zH l]
theorem qL:∀ (l:List Nat) (z:Nat),(fB z l).length≤2*l.length
 | [],z=>by simp [fB]
 | d::l,z=>by
  have:=qL l (mG z d)
  have h1:(mE z d).length≤2:=by unfold mE;split<;>simp
  simp only [fB,List.length_append,List.length_cons];omega
theorem IS {z c:Nat} (h:c<256):gR (mE z c):=by
 unfold mE;split<;>intro x hx<;>simp at hx<;>omega
theorem uX:∀ (l:List Nat) (z:Nat),gR l→gR (fB z l)
 | [],z,_=>by simp [fB,gR]
 | d::l,z,h=>by
  refine (IS (h d (by simp))).append (uX l _ (fun x hx=>h x (by simp [hx])))
theorem EC {z c:Nat} (h:z≤2):mG z c≤2:=by unfold mG;repeat (first|split|omega)
theorem Eo:∀ (l:List Nat) (z:Nat),z≤2→pI z l≤2
 | [],_,h=>h
 | _::l,_,h=>Eo l _ (EC h)
theorem GF {l:List Nat} {k:Nat} (h:k<l.length):fB 0 (l.take (k+1))=fB 0 (l.take k)++mE (pI 0 (l.take k)) l[k]:=by
 rw [List.take_succ_eq_append_getElem h,zD]
theorem F8 {l:List Nat} {k:Nat} (h:k<l.length):pI 0 (l.take (k+1))=mG (pI 0 (l.take k)) l[k]:=by
 rw [List.take_succ_eq_append_getElem h,zH]
def JW:List Nat→Bool
 | []=>true
 | d::_=>decide (3<d)
def tk:Nat→List Nat→Option (List Nat)
 | _,[]=>some []
 | z,c::l =>
  if z=2∧c<3 then none
  else if z=2∧c=3 then (if JW l=true then none else tk 0 l)
  else (tk (if c=0 then z+1 else 0) l).map (c::·)
def Qj (l:List Nat) (i:Nat):Prop:=l[i]?=some 0∧l[i+1]?=some 0∧l[i+2]?=some 1
instance (l:List Nat) (i:Nat):Decidable (Qj l i):=by unfold Qj;infer_instance
theorem rL:∀ (l:List Nat) (z:Nat),z≤2→(fB z l).length≤l.length+(l.length+z) / 2
 | [],z,_=>by simp [fB]
 | c::l,z,hz=>by
  have ih:=rL l (mG z c) (EC hz)
  simp only [fB,List.length_append,List.length_cons]
  by_cases h:2≤z∧c≤3
  ·have h1:(mE z c).length=2:=by simp only [mE,if_pos h];rfl
   have h2:mG z c≤1:=by simp only [mG,if_pos h];split<;>omega
   omega
  ·have h1:(mE z c).length=1:=by simp only [mE,if_neg h];rfl
   have h2:mG z c≤z+1:=by simp only [mG,if_neg h];split<;>omega
   omega
def cat:List (List Nat)→List Nat
 | []=>[]
 | y::ys=>[0,0,1]++y++cat ys
def pos:Nat→List (List Nat)→List Nat
 | _,[]=>[]
 | o,y::ys=>o::pos (o+3+y.length) ys
def arr (N:Nat) (f:Nat→Bool):List Nat:=(List.range N).map fun j=>(f j).toNat
def tF (l:List Nat) (j:Nat):Bool:=(l.getD (j / 8) 0).testBit (7-j % 8)
def bv (f:Nat→Bool):Nat:=(f 0).toNat*128+(f 1).toNat*64+(f 2).toNat*32+(f 3).toNat*16+(f 4).toNat*8+(f 5).toNat*4+(f 6).toNat*2+(f 7).toNat
theorem Qv:∀ a b c d e f g h:Bool,∀ j,j<8→(a.toNat*128+b.toNat*64+c.toNat*32+d.toNat*16+e.toNat*8+f.toNat*4+g.toNat*2+h.toNat).testBit (7-j)=[a,b,c,d,e,f,g,h].getD j false:=by decide
theorem wS (f:Nat→Bool) {j:Nat} (hj:j<8):(bv f).testBit (7-j)=f j:=by
 unfold bv
 rw [Qv _ _ _ _ _ _ _ _ j hj]
 match j,hj with
 | 0,_|1,_|2,_|3,_|4,_|5,_|6,_|7,_=>rfl
theorem EP (f:Nat→Bool):bv f<256:=by
 unfold bv
 have h:∀ b:Bool,b.toNat≤1:=by decide
 have:=h (f 0);have:=h (f 1);have:=h (f 2);have:=h (f 3);have:=h (f 4);have:=h (f 5);have:=h (f 6);have:=h (f 7)
 omega
theorem wE {f g:Nat→Bool} (h:∀ j,j<8→f j=g j):bv f=bv g:=by
 unfold bv
 rw [h 0 (by omega),h 1 (by omega),h 2 (by omega),h 3 (by omega),h 4 (by omega),h 5 (by omega),h 6 (by omega),h 7 (by omega)]
theorem BC {x y:Nat} (hx:x<256) (hy:y<256) (h:∀ j,j<8→x.testBit (7-j)=y.testBit (7-j)):x=y:=by
 apply Nat.eq_of_testBit_eq
 intro i
 by_cases hi:i<8
 ·have:=h (7-i) (by omega)
  rwa [show 7-(7-i)=i by omega] at this
 ·have h1:(2:Nat) ^ 8≤2 ^ i:=Nat.pow_le_pow_right (by decide) (by omega)
  rw [Nat.testBit_lt_two_pow (by omega),Nat.testBit_lt_two_pow (by omega)]
def pk (bs:List Bool):List Nat:=(List.range ((bs.length+7) / 8)).map fun i=>bv fun j=>bs.getD (8*i+j) false
theorem eN (bs:List Bool):(pk bs).length=(bs.length+7) / 8:=by simp [pk]
theorem oX (bs:List Bool):gR (pk bs):=fun x hx=>by
 obtain ⟨i,_,rfl⟩:=List.mem_map.1 hx
 exact EP _
theorem mY {bs:List Bool} {i:Nat} (h:i<(bs.length+7) / 8):(pk bs)[i]?=some (bv fun j=>bs.getD (8*i+j) false):=by simp [pk,h]
theorem Nf (bs:List Bool) (j:Nat):tF (pk bs) j=bs.getD j false:=by
 unfold tF
 by_cases h:j / 8<(bs.length+7) / 8
 ·rw [List.getD_eq_getElem?_getD,mY h,Option.getD_some,wS _ (Nat.mod_lt _ (by decide))]
  congr 1;omega
 ·rw [List.getD_eq_getElem?_getD,List.getElem?_eq_none (by rw [eN];omega),List.getD_eq_getElem?_getD,List.getElem?_eq_none (by omega)]
  simp
theorem Nd:∀ k,k<8→∀ j,j<8→(128 / 2 ^ k).testBit (7-j)=decide (j=k):=by decide
theorem MN {bs:List Bool} (h:bs.length % 8=0) (b:Bool):pk (bs++[b])=pk bs++[if b then 128 else 0]:=by
 have hl:((bs++[b]).length+7) / 8=(bs.length+7) / 8+1:=by simp;omega
 refine List.ext_getElem? (fun i=>?_)
 by_cases hi:i<(bs.length+7) / 8
 ·rw [mY (by omega),List.getElem?_append_left (by rw [eN];exact hi),mY hi]
  congr 1
  refine wE (fun j hj=>?_)
  simp only [List.getD_eq_getElem?_getD]
  rw [List.getElem?_append_left (by omega)]
 ·by_cases hi2:i=(bs.length+7) / 8
  ·subst hi2
   rw [mY (by omega),List.getElem?_append_right (by rw [eN];omega),eN,Nat.sub_self]
   simp only [List.getElem?_cons_zero,Option.some.injEq]
   refine BC (EP _) (by split<;>omega) (fun j hj=>?_)
   rw [wS _ hj]
   simp only [List.getD_eq_getElem?_getD]
   by_cases hj0:j=0
   ·subst hj0
    rw [List.getElem?_append_right (by omega),show 8*((bs.length+7) / 8)+0-bs.length=0 by omega]
    cases b<;>rfl
   ·rw [List.getElem?_eq_none (by simp;omega)]
    have h0:∀ j,j<8→j≠0→(128:Nat).testBit (7-j)=false:=by decide
    cases b
    ·simp
    ·simpa using (h0 j hj hj0).symm
  ·rw [List.getElem?_eq_none (by rw [eN];omega),List.getElem?_eq_none (by simp [eN];omega)]
theorem NK {bs:List Bool} (h:bs.length % 8≠0) (b:Bool):pk (bs++[b])=(pk bs).set (bs.length / 8) (if b then (pk bs).getD (bs.length / 8) 0 ||| 128 / 2 ^ (bs.length % 8) else (pk bs).getD (bs.length / 8) 0):=by
 have hl:((bs++[b]).length+7) / 8=(bs.length+7) / 8:=by simp;omega
 have hn:bs.length / 8<(bs.length+7) / 8:=by omega
 have hget:(pk bs).getD (bs.length / 8) 0=bv fun j=>bs.getD (8*(bs.length / 8)+j) false:=by rw [List.getD_eq_getElem?_getD,mY hn];rfl
 refine List.ext_getElem? (fun i=>?_)
 by_cases hi:i<(bs.length+7) / 8
 ·rw [mY (by omega)]
  by_cases hin:bs.length / 8=i
  ·subst hin
   rw [List.getElem?_set_self (by rw [eN];exact hi),hget]
   congr 1
   have hbl:=EP fun j=>bs.getD (8*(bs.length / 8)+j) false
   refine BC (EP _) ?_ (fun j hj=>?_)
   ·split
    ·exact Nat.or_lt_two_pow (n:=8) hbl (Nat.lt_of_le_of_lt (Nat.div_le_self _ _) (by decide))
    ·exact hbl
   ·rw [wS _ hj]
    have hx:(if b then (bv fun j=>bs.getD (8*(bs.length / 8)+j) false) ||| 128 / 2 ^ (bs.length % 8) else bv fun j=>bs.getD (8*(bs.length / 8)+j) false).testBit (7-j)=(bs.getD (8*(bs.length / 8)+j) false || (b && decide (j=bs.length % 8))):=by
     cases b
     ·simp [wS _ hj]
     ·simp [Nat.testBit_or,wS _ hj,Nd _ (Nat.mod_lt bs.length (by decide)) j hj]
    rw [hx]
    simp only [List.getD_eq_getElem?_getD]
    by_cases hj1:8*(bs.length / 8)+j<bs.length
    ·rw [List.getElem?_append_left hj1]
     have:¬ j=bs.length % 8:=by omega
     simp [this]
    ·rw [List.getElem?_append_right (by omega),List.getElem?_eq_none (l:=bs) (by omega)]
     by_cases hj2:j=bs.length % 8
     ·rw [show 8*(bs.length / 8)+j-bs.length=0 by omega]
      cases b<;>simp [hj2]
     ·rw [List.getElem?_eq_none (by simp;omega)]
      simp [hj2]
  ·rw [List.getElem?_set_ne hin,mY hi]
   congr 1
   refine wE (fun j hj=>?_)
   simp only [List.getD_eq_getElem?_getD]
   by_cases hj1:8*i+j<bs.length
   ·rw [List.getElem?_append_left hj1]
   ·exfalso;omega
 ·rw [List.getElem?_eq_none (by rw [eN];omega),List.getElem?_eq_none (by simp [eN];omega)]
def wY (bs:List Bool):List Nat:=if bs.length % 8=0 then pk bs++[0] else pk bs
theorem Jt (bs:List Bool):(wY bs).length=bs.length / 8+1:=by
 unfold wY
 split
 ·simp [eN];omega
 ·rw [eN];omega
theorem KQ (bs:List Bool):gR (wY bs):=by
 unfold wY
 split
 ·exact (oX bs).append (QR rfl)
 ·exact oX bs
theorem Ko (bs:List Bool) (b:Bool):pk (bs++[b])=if b then (wY bs).set (bs.length / 8) ((wY bs).getD (bs.length / 8) 0 ||| 128 / 2 ^ (bs.length % 8)) else wY bs:=by
 by_cases h:bs.length % 8=0
 ·have e:bs.length / 8=(pk bs).length:=by rw [eN];omega
  rw [MN h]
  unfold wY
  rw [if_pos h,e,h]
  cases b
  ·simp
  ·simp [List.getD_eq_getElem?_getD]
 ·rw [NK h]
  unfold wY
  rw [if_neg h]
  cases b
  ·simp only [Bool.false_eq_true,if_false]
   refine List.ext_getElem? (fun j=>?_)
   by_cases hj:bs.length / 8=j
   ·subst hj
    rw [List.getElem?_set_self (by rw [eN];omega),List.getD_eq_getElem?_getD,mY (by omega)]
    rfl
   ·rw [List.getElem?_set_ne hj]
  ·simp
def nb (n s:Nat):List Bool:=(List.range s).map fun i=>n.testBit (s-1-i)
theorem cA (n s:Nat):(nb n s).length=s:=by simp [nb]
theorem jW {n s i:Nat} (h:i<s):(nb n s)[i]?=some (n.testBit (s-1-i)):=by simp [nb,h]
def bl (l:List Nat) (fr to:Nat):List Bool:=(List.range (to-fr)).map fun i=>tF l (fr+i)
theorem MG (l:List Nat) (fr to:Nat):(bl l fr to).length=to-fr:=by simp [bl]
theorem Kl {l:List Nat} {fr to:Nat} (h:fr<to):bl l fr to=tF l fr::bl l (fr+1) to:=by
 unfold bl
 rw [show to-fr=(to-(fr+1))+1 by omega,List.range_succ_eq_map,List.map_cons,List.map_map]
 congr 1
 refine List.map_congr_left (fun i _=>?_)
 show tF l (fr+(i+1))=_
 congr 1;omega
theorem Ms {l:List Nat} {fr to:Nat} (h:to≤fr):bl l fr to=[]:=by simp [bl,show to-fr=0 by omega]
theorem Oe (bs:List Bool):bl (pk bs) 0 bs.length=bs:=by
 refine List.ext_getElem? (fun i=>?_)
 by_cases h:i<bs.length
 ·simp [bl,h,Nf,List.getD_eq_getElem?_getD]
 ·rw [List.getElem?_eq_none (by rw [MG];omega),List.getElem?_eq_none (by omega)]
structure RS where
 rest:List Bool
 ended:Bool
def kT (s:RS):Bool × RS:=if s.ended then (false,s) else match s.rest with|[]=>(false,⟨[],true⟩)|b::l=>(b,⟨l,false⟩)
def kD:Nat→Nat→RS→Nat × RS
 | 0,n,s=>(n,s)
 | k+1,n,s=>kD k (2*n+(kT s).1.toNat) (kT s).2
theorem GQ {b:Bool} {l:List Bool}:kT ⟨b::l,false⟩=(b,⟨l,false⟩):=rfl
theorem yS:∀ (k n:Nat) (s:RS),kD (k+1) n s=(2*(kD k n s).1+(kT (kD k n s).2).1.toNat,(kT (kD k n s).2).2)
 | 0,_,_=>rfl
 | k+1,n,s=>by rw [kD,yS k];rfl
def lE (n:Nat) (l:List Bool):Nat:=l.foldl (fun n b=>2*n+b.toNat) n
theorem yG:∀ (k n:Nat) (l:List Bool),k≤l.length→kD k n ⟨l,false⟩=(lE n (l.take k),⟨l.drop k,false⟩)
 | 0,_,_,_=>by simp [kD,lE]
 | k+1,n,[],h=>by simp at h
 | k+1,n,b::l,h=>by
  rw [kD,GQ,yG k _ l (by simpa using h)]
  rfl
theorem Ai:∀ (l:List Bool) (n m:Nat),n<2 ^ m→lE n l<2 ^ (m+l.length)
 | [],n,m,h=>h
 | b::l,n,m,h=>by
  have hb:b.toNat≤1:=by cases b<;>decide
  have:=Ai l (2*n+b.toNat) (m+1) (by rw [Nat.pow_succ];omega)
  rw [List.length_cons,show m+(l.length+1)=m+1+l.length by omega]
  exact this
def fR (x:Nat):Nat:=if x=0 then 0 else x.log2+1
def Ip:List Nat:=[0,1]++List.replicate 2 2++List.replicate 4 3++List.replicate 8 4++List.replicate 16 5++List.replicate 32 6++List.replicate 64 7++List.replicate 128 8
theorem FH:∀ x,x<256→(strOf Ip)[x]?=some (UInt8.ofNat (fR x)):=by decide +kernel
theorem En:∀ x,x<256→fR x<256:=by decide +kernel
theorem Gs {x:Nat} (h1:256≤x):fR x=fR (x / 256)+8:=by
 have h2:x / 256≠0:=by omega
 have h3:8≤x.log2:=(Nat.le_log2 (by omega)).2 (by omega)
 have hl:=Nat.log2_self_le (n:=x) (by omega)
 have hu:=Nat.lt_log2_self (n:=x)
 unfold fR
 rw [if_neg (by omega),if_neg h2]
 obtain ⟨k,hk⟩:∃ k,x.log2=k+8:=⟨x.log2-8,by omega⟩
 rw [hk] at hl hu ⊢
 rw [Nat.pow_add] at hl
 rw [show k+8+1=(k+1)+8 by omega,Nat.pow_add] at hu
 have e:(x / 256).log2=k:=(Nat.log2_eq_iff h2).2 ⟨by omega,by omega⟩
 omega
theorem Bi {x:Nat} (h:0<x):0<fR x:=by unfold fR;rw [if_neg (by omega)];omega
theorem nV {x m:Nat} (h:x<2 ^ m):fR x≤m:=by
 unfold fR
 split
 ·omega
 ·have:=(Nat.log2_lt (by omega)).2 h;omega
theorem EK {x:Nat}:x<2 ^ fR x:=by
 unfold fR
 split
 ·omega
 ·exact Nat.lt_log2_self
def inter:List Bool→List Bool
 | []=>[]
 | [d]=>[d,false]
 | d::e::ds=>d::true::inter (e::ds)
def rv (n:Nat):List Bool:=if n=0 then [true] else false::inter (nb (n+1) (fR (n+1)-1))
def qH (ds:List Bool) (i:Nat):List Bool:=(ds.take i).flatMap fun d=>[d,true]
theorem inter_eq:∀ (ds:List Bool),ds≠[]→inter ds=qH ds (ds.length-1)++[ds.getLastD false,false]
 | [],h=>absurd rfl h
 | [d],_=>rfl
 | d::e::ds,_=>by
  have ih:=inter_eq (e::ds) (by simp)
  simp only [inter,ih,qH,List.length_cons,Nat.add_sub_cancel,List.take_succ_cons,List.flatMap_cons]
  simp [List.getLastD]
theorem yR:∀ (ds:List Bool),(inter ds).length=2*ds.length
 | []=>rfl
 | [_]=>rfl
 | d::e::ds=>by simp only [inter,List.length_cons,yR (e::ds)];omega
theorem DA (n:Nat):(rv n).length=2*fR (n+1)-1:=by
 unfold rv
 split
 ·subst_vars;rfl
 ·have:=Bi (x:=n+1) (by omega)
  rw [List.length_cons,yR,cA];omega
theorem Fo (n:Nat) (l:List Bool) (d:Bool):lE n (l++[d])=2*lE n l+d.toNat:=by simp [lE]
theorem EM (x s:Nat):nb x (s+1)=nb (x / 2) s++[x.testBit 0]:=by
 refine List.ext_getElem (by simp [cA]) (fun i h1 h2=>?_)
 rw [cA] at h1
 have e1:=jW (n:=x) (s:=s+1) (i:=i) h1
 rw [List.getElem?_eq_getElem (by rw [cA];exact h1)] at e1
 rw [Option.some.inj e1,List.getElem_append]
 split
 ·rename_i h
  rw [cA] at h
  have e2:=jW (n:=x / 2) (s:=s) (i:=i) h
  rw [List.getElem?_eq_getElem (by rw [cA];exact h)] at e2
  rw [Option.some.inj e2,show s+1-1-i=(s-1-i)+1 by omega,Nat.testBit_succ]
 ·rename_i h
  rw [cA] at h
  obtain rfl:i=s:=by omega
  simp
theorem JP (x s:Nat):nb x (s+1)=x.testBit s::nb x s:=by
 refine List.ext_getElem (by simp [cA]) (fun i h1 h2=>?_)
 rw [cA] at h1
 have e1:=jW (n:=x) (s:=s+1) (i:=i) h1
 rw [List.getElem?_eq_getElem (by rw [cA];exact h1)] at e1
 rw [Option.some.inj e1]
 cases i with
 | zero=>simp
 | succ i =>
  have e2:=jW (n:=x) (s:=s) (i:=i) (by omega)
  rw [List.getElem?_eq_getElem (by rw [cA];omega)] at e2
  rw [List.getElem_cons_succ,Option.some.inj e2,show s+1-1-(i+1)=s-1-i by omega]
def vb:List Bool→Nat
 | []=>0
 | d::l=>d.toNat+2*vb l
def Cr (n:Int):Int:=if 0<n then 2*n-1 else -2*n
def QY (n:Nat):Int:=if n % 2=1 then ((n+1) / 2:Nat) else -((n / 2:Nat):Int)
theorem Km (n:Int):∃ s:Nat,Cr n=s∧QY s=n∧s≤2*n.natAbs:=by
 refine ⟨(Cr n).toNat,?_,?_,?_⟩
 ·unfold Cr;split<;>omega
 ·unfold Cr QY;split<;>split<;>omega
 ·unfold Cr;split<;>omega
def Cl (p:Nat × Int):Prop:=p.1≤63∧p.2≠0∧-2047≤p.2∧p.2≤2047
instance (p:Nat × Int):Decidable (Cl p):=by unfold Cl;infer_instance
def GZ (x:Int):Nat:=(Cr x).toNat-1
def I3 (b:Bool) (p:Nat × Int):List Bool:=rv (2*p.1+b.toNat)++rv (GZ p.2)
def bb:List (Nat × Int)→List Bool
 | []=>[]
 | [p]=>I3 true p
 | p::q::l=>I3 false p++bb (q::l)
def bF (l:List (Nat × Int)):List Bool:=l.flatMap (I3 false)
structure GB (ps:List (Nat × Int)):Prop where
 ne:ps≠[]
 len:ps.length≤64
 ok:∀ p∈ps,Cl p
theorem M4 {x:Int} (h:-2047≤x∧x≤2047):GZ x≤4093:=by
 unfold GZ Cr;split<;>omega
theorem Cl.num {p:Nat × Int} (h:Cl p) (b:Bool):2*p.1+b.toNat≤8190∧GZ p.2≤8190:=by
 have h1:=M4 h.2.2
 have h2:b.toNat≤1:=by cases b<;>decide
 have h3:=h.1
 omega
def mk:List (Nat × Int)→List ((Nat × Int) × Bool)
 | []=>[]
 | [p]=>[(p,true)]
 | p::q::l=>(p,false)::mk (q::l)
def Qt (l:List ((Nat × Int) × Bool)):List Value:=l.flatMap fun e=>[I e.1.1,I e.1.2,.bool e.2]
def oP (l:List ((Nat × Int) × Bool)):List Bool:=l.flatMap fun e=>I3 e.2 e.1
theorem NQ:∀ (ps:List (Nat × Int)),pA ps=Qt (mk ps)
 | []=>rfl
 | [p]=>rfl
 | p::q::l=>by
  have ih:=NQ (q::l)
  simp only [pA,mk,Qt,List.flatMap_cons] at ih ⊢
  rw [ih];rfl
theorem FE:∀ (ps:List (Nat × Int)),bb ps=oP (mk ps)
 | []=>rfl
 | [p]=>by simp [bb,mk,oP]
 | p::q::l=>by
  have ih:=FE (q::l)
  simp only [bb,mk,oP,List.flatMap_cons] at ih ⊢
  rw [ih]
theorem vF:∀ (ps:List (Nat × Int)),(mk ps).length=ps.length
 | []=>rfl
 | [p]=>rfl
 | p::q::l=>by have:=vF (q::l);simp [mk] at this ⊢;exact this
theorem Dt:∀ (ps:List (Nat × Int)) (i:Nat) (h:i<ps.length),(mk ps)[i]?=some (ps[i],decide (i+1=ps.length))
 | [],i,h=>absurd h (by simp)
 | [p],i,h=>by
  obtain rfl:i=0:=by simpa using h
  rfl
 | p::q::l,0,_=>by simp [mk]
 | p::q::l,i+1,h=>by
  have ih:=Dt (q::l) i (by simpa using h)
  simp only [mk,List.getElem?_cons_succ,ih]
  simp
theorem ED (l m:List ((Nat × Int) × Bool)):oP (l++m)=oP l++oP m:=by simp [oP]
theorem HX (l:List ((Nat × Int) × Bool)) {i:Nat} (h:i<l.length):oP (l.take (i+1))=oP (l.take i)++I3 l[i].2 l[i].1:=by
 rw [List.take_succ_eq_append_getElem h,ED];simp [oP]
theorem yL {ps:List (Nat × Int)} (h:GB ps):(bb ps).length≤50*ps.length:=by
 rw [FE]
 have key:∀ (l:List ((Nat × Int) × Bool)),(∀ e∈l,Cl e.1)→(oP l).length≤50*l.length:=by
  intro l
  induction l with
  | nil=>intro _;simp [oP]
  | cons e l ih =>
   intro hl
   have h1:=ih (fun x hx=>hl x (by simp [hx]))
   have h2:=(hl e (by simp)).num e.2
   have h3:=DA (2*e.1.1+e.2.toNat)
   have h4:=DA (GZ e.1.2)
   have h5:=nV (x:=2*e.1.1+e.2.toNat+1) (m:=13) (by omega)
   have h6:=nV (x:=GZ e.1.2+1) (m:=13) (by omega)
   simp only [oP,List.flatMap_cons,List.length_append,List.length_cons,I3] at h1 ⊢
   omega
 have h1:=key (mk ps) (fun e he=>by
  obtain ⟨i,hi⟩:=List.mem_iff_getElem?.1 he
  have hil:i<ps.length:=by have:=(List.getElem?_eq_some_iff.1 hi).1;rwa [vF] at this
  rw [Dt ps i hil] at hi
  cases hi
  exact h.ok _ (List.getElem_mem hil))
 rwa [vF] at h1
theorem vA:∀ (r:Nat) (l:List Int),∀ p∈fF r l,p.1<r+l.length
 | _,[],p,h=>by simp [fF] at h
 | r,x::l,p,h=>by
  unfold fF at h
  split at h
  ·have:=vA (r+1) l p h
   simp;omega
  ·rcases List.mem_cons.1 h with rfl|h
   ·simp
   ·have:=vA 0 l p h
    simp;omega
theorem EJ (s:Nat):∀ x,lE (x / 2 ^ s) (nb x s)=x:=by
 induction s with
 | zero=>intro x;simp [nb,lE]
 | succ s ih =>
  intro x
  rw [EM,Fo]
  have e:x / 2 ^ (s+1)=x / 2 / 2 ^ s:=by rw [Nat.div_div_eq_div_mul,Nat.pow_succ,Nat.mul_comm]
  rw [e,ih,Nat.testBit_zero]
  have:=Nat.mod_two_eq_zero_or_one x
  rcases this with h|h
  ·simp [h];omega
  ·simp [h];omega
theorem HR {s x:Nat} (h:x<2 ^ s):lE 0 (nb x s)=x:=by
 have:=EJ s x
 rwa [Nat.div_eq_of_lt h] at this
def Nc (size:Nat) (s:RS):Nat × RS:=(if (kD size 0 s).2.ended then 0 else (kD size 0 s).1,(kD size 0 s).2)
theorem Hh {k:Nat} {l:List Bool} (h:k≤l.length):Nc k ⟨l,false⟩=(lE 0 (l.take k),⟨l.drop k,false⟩):=by
 unfold Nc;rw [yG k 0 l h];rfl
structure PH where
 id:Int
 inter:Bool
 down:Bool
 qp:Int
 deriving DecidableEq
namespace PH
def cells (h:PH):List Value:=[.int .i64 h.id,.bool h.inter,.bool h.down,.int .i64 h.qp]
def v (h:PH):Value:=.agg h.cells.toArray
def zero:PH:=⟨0,false,false,0⟩
def err (h:PH):Nat:=if h.id<0∨65535<h.id then 2 else if h.qp<1∨31<h.qp then 6 else if h.down=true∧h.inter=false then 4 else 0
def fit (h:PH):PH:=⟨h.id % 65536,h.inter,h.inter && h.down,1+h.qp % 32 % 31⟩
def bits (h:PH):List Bool:=nb h.id.toNat 16++([h.inter]++([h.down]++nb h.qp.toNat 5))
theorem gB (h:PH):h.bits.length=23:=by simp [bits,cA]
theorem AN (h:PH):h.err=0 ↔ (0≤h.id∧h.id≤65535)∧(1≤h.qp∧h.qp≤31)∧(h.down=true→h.inter=true):=by
 unfold err
 split
 ·rename_i h1;simp;omega
 ·split
  ·rename_i h1 h2;simp;omega
  ·split
   ·rename_i h1 h2 h3;simp [h3.1,h3.2]
   ·rename_i h1 h2 h3
    simp only [true_iff]
    refine ⟨by omega,by omega,fun hd=>?_⟩
    cases hi:h.inter with
    | true=>rfl
    | false=>exact absurd ⟨hd,hi⟩ h3
def rd (s:RS):PH × RS :=
 let s1:=(Nc 16 s).2
 let s2:=(kT s1).2
 let s3:=(kT s2).2
 (⟨(Nc 16 s).1,(kT s1).1,(kT s2).1,(Nc 5 s3).1⟩,(Nc 5 s3).2)
end PH
end Go.P
