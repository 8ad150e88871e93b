/- A part of the proof that TopWorse is true at every input; no condition. -/
import Derived.Test.YtpbiicegmcpkpaaGreatT08
namespace Go.P
open Go Go.K

def crc (l:List Nat):Nat:=crcAdd 65535 l
theorem crc_lt (l:List Nat):crc l<65536:=crcAdd_lt 65535 (by decide) l
def perr (h:PH) (f c:Int) (la lb:Nat) (all:Int):Nat :=
 if h.err≠0 then h.err else if f<0∨c<1∨all<f∨all-f<c∨64<all then 7 else if la<1∨30000<la∨lb<1∨30000<lb then 6 else 0
theorem perr_ok {h:PH} {f c all:Int} {la lb:Nat} (he:perr h f c la lb all=0):h.err=0∧(0≤f∧1≤c∧f≤all∧c≤all-f∧all≤64)∧(1≤la∧la≤30000∧1≤lb∧lb≤30000):=by
 unfold perr at he
 split at he
 ·rename_i h1;exact absurd he h1
 ·rename_i h1
  split at he
  ·cases he
  ·split at he
   ·cases he
   ·exact ⟨by simpa using h1,by omega,by omega⟩
structure PD where
 h:PH
 f:Nat
 c:Nat
 n:Nat
 m:Nat
 sa:Nat
 sb:Nat
def PD.bits (d:PD):List Bool:=d.h.bits++(nb d.f 7++(nb d.c 7++(nb d.n 16++(nb d.m 16++(nb d.sa 16++nb d.sb 16)))))
def PD.fits (d:PD):Prop:=d.f<128∧d.c<128∧d.n<65536∧d.m<65536∧d.sa<65536∧d.sb<65536
theorem PD.bits_len (d:PD):d.bits.length=101:=by simp [PD.bits,PH.bits_len,nb_len]
def xb (H:List Bool):List Bool:=H++(nb (crc (pk H)) 16++nb 0 2)
theorem xb_len (d:PD):(xb d.bits).length=119:=by simp [xb,PD.bits_len,nb_len]
def ch (X:List Bool) (i:Nat):Nat:=128+numB 0 ((X.drop (7*i)).take 7)
def chs (X:List Bool):List Nat:=(List.range 17).map (ch X)
theorem chs_len (X:List Bool):(chs X).length=17:=by simp [chs]
theorem ch_lt (X:List Bool) (i:Nat):ch X i<256:=by
 have h:=numB_lt ((X.drop (7*i)).take 7) 0 0 (by decide)
 have h2:2 ^ (0+((X.drop (7*i)).take 7).length)≤2 ^ 7:=Nat.pow_le_pow_right (by decide) (by simp [List.length_take];omega)
 unfold ch;omega
theorem chs_byt (X:List Bool):Byt (chs X):=fun x hx=>by
 obtain ⟨i,_,rfl⟩:=List.mem_map.1 hx
 exact ch_lt X i
def phd (d:PD):List Nat:=[0,0,1,182]++chs (xb d.bits)
theorem phd_len (d:PD):(phd d).length=21:=by simp [phd,chs_len]
theorem phd_byt (d:PD):Byt (phd d):=Byt.append (bytB rfl) (chs_byt _)
theorem nb_add128 {x:Nat} (h:x<128):nb (128+x) 7=nb x 7:=by
 have key:∀ x,x<128→nb (128+x) 7=nb x 7:=by decide +kernel
 exact key x h
theorem nb_ch {X:List Bool} {i:Nat} (h:7*i+7≤X.length):nb (ch X i) 7=(X.drop (7*i)).take 7:=by
 have hl:((X.drop (7*i)).take 7).length=7:=by simp;omega
 have h1:=numB_lt ((X.drop (7*i)).take 7) 0 0 (by decide)
 rw [hl] at h1
 unfold ch
 rw [nb_add128 (by simpa using h1)]
 have:=nb_numB 0 ((X.drop (7*i)).take 7)
 rwa [hl] at this
def b7 (l:List Nat):List Bool:=l.flatMap fun c=>nb c 7
theorem b7_snoc (l:List Nat) (c:Nat):b7 (l++[c])=b7 l++nb c 7:=by simp [b7]
theorem b7_len (l:List Nat):(b7 l).length=7*l.length:=by
 induction l with
 | nil=>rfl
 | cons c l ih =>
  have e:b7 (c::l)=nb c 7++b7 l:=by simp [b7]
  rw [e,List.length_append,nb_len,ih,List.length_cons];omega
theorem b7_chs {X:List Bool} (h:X.length=119):b7 (chs X)=X:=by
 have key:∀ k,k≤17→b7 ((List.range k).map (ch X))=X.take (7*k):=by
  intro k
  induction k with
  | zero=>intro _;simp [b7]
  | succ k ih =>
   intro hk
   rw [List.range_succ,List.map_append,List.map_cons,List.map_nil,b7_snoc,ih (by omega),nb_ch (by omega),show 7*(k+1)=7*k+7 by omega,List.take_add]
 have:=key 17 (Nat.le_refl _)
 rw [List.take_of_length_le (by omega)] at this
 exact this
theorem byte7 {c:Nat} (h:c<256) (h1:¬ (c &&& 128=0)):c=128+numB 0 (nb c 7):=by
 have key:∀ c,c<256→¬ (c &&& 128=0)→c=128+numB 0 (nb c 7):=by decide +kernel
 exact key c h h1
theorem chs_b7 {l:List Nat} (hl:l.length=17) (hb:∀ c∈l,c<256∧¬ (c &&& 128=0)):chs (b7 l)=l:=by
 have hseg:∀ (l:List Nat) (i:Nat) (h:i<l.length),((b7 l).drop (7*i)).take 7=nb l[i] 7:=by
  intro l
  induction l with
  | nil=>intro i h;simp at h
  | cons c l ih =>
   intro i h
   have e:b7 (c::l)=nb c 7++b7 l:=by simp [b7]
   cases i with
   | zero=>rw [e];simp [List.take_left' (nb_len c 7)]
   | succ i =>
    rw [e,show 7*(i+1)=7+7*i by omega,← List.drop_drop,List.drop_left' (nb_len c 7),ih i (by simpa using h)]
    rfl
 refine List.ext_getElem (by rw [chs_len,hl]) (fun i h1 h2=>?_)
 simp only [chs,List.getElem_map,List.getElem_range,ch]
 rw [hseg l i h2]
 have:=hb _ (List.getElem_mem h2)
 exact (byte7 this.1 this.2).symm
theorem ch_top (X:List Bool) (i:Nat):¬ (ch X i &&& 128=0):=by
 have h:ch X i-128<128:=by have:=ch_lt X i;omega
 have key:∀ x,x<128→¬ ((128+x) &&& 128=0):=by decide +kernel
 have:=key _ h
 rwa [show 128+(ch X i-128)=ch X i by unfold ch;omega] at this
theorem nb_inj {x y s:Nat} (hx:x<2 ^ s) (hy:y<2 ^ s) (h:nb x s=nb y s):x=y:=by
 rw [← numB_nb0 hx,← numB_nb0 hy,h]
theorem app_inj {α:Type} {a b c d:List α} (h:a++b=c++d) (hl:a.length=c.length):a=c∧b=d:=List.append_inj h hl
def GH (l:List Nat) (d:PD):Prop:=d.fits∧d.h.err=0∧l.take 21=phd d
theorem GH.len {l:List Nat} {d:PD} (h:GH l d):21≤l.length:=by
 have:=congrArg List.length h.2.2
 rw [phd_len,List.length_take] at this;omega
theorem GH.seg {l:List Nat} {d:PD} (h:GH l d):(l.drop 4).take 17=chs (xb d.bits):=by
 have e:(l.drop 4).take 17=(l.take 21).drop 4:=by rw [List.drop_take]
 rw [e,h.2.2];rfl
theorem GH.lead {l:List Nat} {d:PD} (h:GH l d):l.take 4=[0,0,1,182]:=by
 have e:l.take 4=(l.take 21).take 4:=by rw [List.take_take];rfl
 rw [e,h.2.2];rfl
theorem GH.of {l:List Nat} {d:PD} (hf:d.fits) (he:d.h.err=0) (h4:l.take 4=[0,0,1,182]) (hs:(l.drop 4).take 17=chs (xb d.bits)):GH l d:=by
 refine ⟨hf,he,?_⟩
 rw [show 21=4+17 by rfl,List.take_add,h4,hs];rfl
theorem take4 {l:List Nat} (hM:IsM l 0) (h3:l[3]?=some 182):l.take 4=[0,0,1,182]:=by
 obtain ⟨h0,h1,h2⟩:=hM
 match l with
 | []=>simp at h0
 | [_]=>simp at h1
 | [_,_]=>simp at h2
 | [_,_,_]=>simp at h3
 | a::b::c::d::l =>
  simp at h0 h1 h2 h3
  subst h0;subst h1;subst h2;subst h3
  rfl
theorem GH.isM {l:List Nat} {d:PD} (h:GH l d):IsM l 0∧l[3]?=some 182:=by
 have h4:=h.lead
 have hl:=h.len
 match l with
 | []=>simp at hl
 | [_]=>simp at hl
 | [_,_]=>simp at hl
 | [_,_,_]=>simp at hl
 | a::b::c::e::l =>
  simp at h4
  obtain ⟨rfl,rfl,rfl,rfl⟩:=h4
  exact ⟨⟨rfl,rfl,rfl⟩,rfl⟩
theorem nb_of {l:List Bool} {s:Nat} (h:l.length=s):∃ x,x<2 ^ s∧l=nb x s:=by
 refine ⟨numB 0 l,?_,?_⟩
 ·have:=numB_lt l 0 0 (by decide)
  rwa [Nat.zero_add,h] at this
 ·have:=nb_numB 0 l
  rw [h] at this;exact this.symm
theorem split_at {l:List Bool} {n:Nat} (k:Nat) (h:l.length=k+n):∃ a b,l=a++b∧a.length=k∧b.length=n:=⟨l.take k,l.drop k,(List.take_append_drop k l).symm,by simp;omega,by simp;omega⟩
theorem PD.of_rest {h:PH} {r:List Bool} (hl:r.length=78):∃ d:PD,d.h=h∧d.fits∧h.bits++r=d.bits∧r=nb d.f 7++(nb d.c 7++(nb d.n 16++(nb d.m 16++(nb d.sa 16++nb d.sb 16)))):=by
 obtain ⟨r1,r,rfl,h1,hl⟩:=split_at (n:=71) 7 (by omega)
 obtain ⟨r2,r,rfl,h2,hl⟩:=split_at (n:=64) 7 (by omega)
 obtain ⟨r3,r,rfl,h3,hl⟩:=split_at (n:=48) 16 (by omega)
 obtain ⟨r4,r,rfl,h4,hl⟩:=split_at (n:=32) 16 (by omega)
 obtain ⟨r5,r6,rfl,h5,h6⟩:=split_at (n:=16) 16 (by omega)
 obtain ⟨x1,l1,rfl⟩:=nb_of h1
 obtain ⟨x2,l2,rfl⟩:=nb_of h2
 obtain ⟨x3,l3,rfl⟩:=nb_of h3
 obtain ⟨x4,l4,rfl⟩:=nb_of h4
 obtain ⟨x5,l5,rfl⟩:=nb_of h5
 obtain ⟨x6,l6,rfl⟩:=nb_of h6
 exact ⟨⟨h,x1,x2,x3,x4,x5,x6⟩,rfl,⟨l1,l2,l3,l4,l5,l6⟩,rfl,rfl⟩
end Go.P
namespace Go.P
open Go Go.K

structure SH where
 c:Int
 r:Int
 wt:Bool
 A:List Nat
 Bb:List Nat
def terr (wt:Bool) (t:List Nat):Nat:=if wt=true then (if ∃ x∈t,x<8 then 2 else 0) else (if ∃ x∈t,x≠0 then 4 else 0)
def SH.err (h:SH):Nat:=if h.c<1∨8<h.c∨h.r<1∨8<h.r then 6 else terr h.wt (h.A++h.Bb)
structure SH.ok (h:SH):Prop where
 la:h.A.length=64
 lb:h.Bb.length=64
 ba:Byt h.A
 bb:Byt h.Bb
def SH.wide (h:SH):Prop:=(-9223372036854775808≤h.c∧h.c≤9223372036854775807)∧-9223372036854775808≤h.r∧h.r≤9223372036854775807
def SH.tc (h:SH):List Value:=.bool h.wt::(h.A.map B++h.Bb.map B)
def SH.cells (h:SH):List Value:=.int .i64 h.c::.int .i64 h.r::h.tc
theorem SH.tc_len {h:SH} (ho:h.ok):h.tc.length=129:=by simp [SH.tc,ho.la,ho.lb]
theorem SH.cells_len {h:SH} (ho:h.ok):h.cells.length=131:=by simp [SH.cells,SH.tc_len ho]
theorem SH.tab_byt {h:SH} (ho:h.ok):Byt (h.A++h.Bb):=Byt.append ho.ba ho.bb
def SH.zero:SH:=⟨0,0,false,List.replicate 64 0,List.replicate 64 0⟩
theorem SH.zero_ok:SH.zero.ok:=⟨rfl,rfl,fun x hx=>by simp [SH.zero] at hx;omega,fun x hx=>by simp [SH.zero] at hx;omega⟩
theorem terr_ok {wt:Bool} {t:List Nat} (h:terr wt t=0):(wt=true→∀ x∈t,8≤x)∧(wt=false→∀ x∈t,x=0):=by
 unfold terr at h
 cases wt with
 | true =>
  simp only [if_true] at h
  split at h
  ·cases h
  ·rename_i hn
   exact ⟨fun _ x hx=>Nat.not_lt.1 (fun hl=>hn ⟨x,hx,hl⟩),fun h=>by cases h⟩
 | false =>
  simp only [Bool.false_eq_true,if_false] at h
  split at h
  ·cases h
  ·rename_i hn
   exact ⟨fun h=>(by cases h),fun _ x hx=>Decidable.byContradiction fun hl=>hn ⟨x,hx,hl⟩⟩
theorem SH.good {h:SH} (he:h.err=0):(1≤h.c∧h.c≤8)∧(1≤h.r∧h.r≤8)∧(h.wt=true→∀ x∈h.A++h.Bb,8≤x)∧(h.wt=false→∀ x∈h.A++h.Bb,x=0):=by
 unfold SH.err at he
 split at he
 ·cases he
 ·have:=terr_ok he
  exact ⟨by omega,by omega,this⟩
def tb (t:List Nat):List Bool:=t.flatMap fun x=>nb x 8
theorem tb_len (t:List Nat):(tb t).length=8*t.length:=by
 induction t with
 | nil=>rfl
 | cons x t ih =>
  have e:tb (x::t)=nb x 8++tb t:=by simp [tb]
  rw [e,List.length_append,nb_len,ih,List.length_cons];omega
theorem tb_snoc (t:List Nat) (x:Nat):tb (t++[x])=tb t++nb x 8:=by simp [tb]
theorem tb_cons (t:List Nat) (x:Nat):tb (x::t)=nb x 8++tb t:=by simp [tb]
def SH.bits (h:SH):List Bool:=nb h.c.toNat 8++(nb h.r.toNat 8++(h.wt::if h.wt=true then tb (h.A++h.Bb) else []))
def SH.body (h:SH):List Nat:=pk (h.bits++[true])
def endd (l:List Nat):List Nat:=l++[crc l / 256,crc l % 256,128]
def SH.out (h:SH):List Nat:=[0,0,1,176]++escF 0 (endd h.body)
theorem endd_byt {l:List Nat} (h:Byt l):Byt (endd l):=by
 refine Byt.append h ?_
 have:=crc_lt l
 intro x hx
 simp at hx
 omega
theorem SH.body_byt (h:SH):Byt h.body:=pk_byt _
theorem pk_cons8 {u:List Bool} (hu:u.length=8) (X:List Bool):pk (u++X)=numB 0 u::pk X:=by
 have e:((u++X).length+7) / 8=(X.length+7) / 8+1:=by rw [List.length_append,hu];omega
 unfold pk
 rw [e,List.range_succ_eq_map,List.map_cons,List.map_map]
 congr 1
 ·match u,hu with
  | [a,b,c,d,e,f,g,h],_ =>
   have key:∀ a b c d e f g h:Bool,a.toNat*128+b.toNat*64+c.toNat*32+d.toNat*16+e.toNat*8+f.toNat*4+g.toNat*2+h.toNat=numB 0 [a,b,c,d,e,f,g,h]:=by decide
   rw [← key]
   rfl
 ·refine List.map_congr_left (fun i _=>?_)
  simp only [Function.comp]
  refine bv_congr (fun j _=>?_)
  rw [List.getD_eq_getElem?_getD,List.getD_eq_getElem?_getD,List.getElem?_append_right (by omega)]
  congr 2
  omega
theorem pk_nb8 {x:Nat} (hx:x<256) (X:List Bool):pk (nb x 8++X)=x::pk X:=by
 rw [pk_cons8 (nb_len x 8),numB_nb0 (s:=8) (by simpa using hx)]
def wb:Bool→List Nat→List Nat
 | b,[]=>[128*b.toNat+64]
 | b,w::t=>(128*b.toNat+w / 2)::wb (w.testBit 0) t
theorem wb_len:∀ (t:List Nat) (b:Bool),(wb b t).length=t.length+1
 | [],_=>rfl
 | w::t,b=>by simp [wb,wb_len t]
theorem wb_pos:∀ (t:List Nat) (b:Bool),(∀ x∈t,8≤x)→∀ y∈wb b t,4≤y
 | [],b,_,y,hy=>by simp [wb] at hy;omega
 | w::t,b,h,y,hy=>by
  simp only [wb,List.mem_cons] at hy
  rcases hy with rfl|hy
  ·have:=h w (by simp);omega
  ·exact wb_pos t _ (fun x hx=>h x (by simp [hx])) y hy
theorem num7 {b:Bool} {w:Nat} (hw:w<256):numB 0 (b::nb (w / 2) 7)=128*b.toNat+w / 2:=by
 have h2:w / 2<128:=by omega
 show numB (2*0+b.toNat) (nb (w / 2) 7)=_
 have e:nb (w / 2) 7=nb (128*b.toNat+w / 2) 7:=by
  cases b with
  | false=>simp
  | true=>simpa using (nb_add128 h2).symm
 have e2:2*0+b.toNat=(128*b.toNat+w / 2) / 2 ^ 7:=by cases b<;>simp<;>omega
 rw [e,e2]
 exact numB_nb 7 _
theorem pk_wb:∀ (t:List Nat) (b:Bool),Byt t→pk (b::(tb t++[true]))=wb b t
 | [],b,_=>by cases b<;>decide
 | w::t,b,h=>by
  have hw:w<256:=h w (by simp)
  have e:b::(tb (w::t)++[true])=(b::nb (w / 2) 7)++(w.testBit 0::(tb t++[true])):=by rw [tb_cons,nb_snoc w 7];simp
  rw [e,pk_cons8 (by simp [nb_len]),num7 hw,pk_wb t _ (fun x hx=>h x (by simp [hx]))]
  rfl
theorem escF_pos:∀ (l t:List Nat),(∀ x∈l,x≠0)→escF 0 (l++t)=l++escF 0 t
 | [],_,_=>rfl
 | x::l,t,h=>by
  have hx:x≠0:=h x (by simp)
  have e1:escO 0 x=[x]:=by simp [escO]
  have e2:escS 0 x=0:=by simp [escS,hx]
  rw [List.cons_append,escF,e1,e2,escF_pos l t (fun y hy=>h y (by simp [hy]))]
  rfl
theorem esc3 (a b:Nat):escF 0 [a,b,128]=[a,b,128]:=by
 simp only [escF,escO,escS]
 by_cases ha:a=0<;>by_cases hb:b=0<;>simp [ha,hb]
theorem SH.body_eq {h:SH} (ho:h.ok) (he:h.err=0):h.body=h.c.toNat::h.r.toNat::(if h.wt=true then wb true (h.A++h.Bb) else [64]):=by
 obtain ⟨h1,h2,_⟩:=SH.good he
 unfold SH.body SH.bits
 rw [List.append_assoc,pk_nb8 (by omega),List.append_assoc,pk_nb8 (by omega)]
 congr 2
 cases hw:h.wt with
 | true =>
  simp only [if_true]
  exact pk_wb _ true (SH.tab_byt ho)
 | false =>
  simp only [Bool.false_eq_true,if_false]
  decide
theorem SH.body_pos {h:SH} (ho:h.ok) (he:h.err=0):∀ x∈h.body,x≠0:=by
 obtain ⟨h1,h2,h3,_⟩:=SH.good he
 rw [SH.body_eq ho he]
 intro x hx
 simp only [List.mem_cons] at hx
 rcases hx with rfl|rfl|hx
 ·omega
 ·omega
 ·cases hw:h.wt with
  | true =>
   rw [hw] at hx
   have:=wb_pos _ true (h3 hw) x (by simpa using hx)
   omega
  | false =>
   rw [hw] at hx
   simp at hx;omega
theorem SH.out_eq {h:SH} (ho:h.ok) (he:h.err=0):h.out=[0,0,1,176]++endd h.body:=by
 unfold SH.out endd
 rw [escF_pos _ _ (SH.body_pos ho he),esc3]
theorem SH.body_len {h:SH} (ho:h.ok) (he:h.err=0):h.body.length=if h.wt=true then 131 else 3:=by
 rw [SH.body_eq ho he]
 split
 ·simp [wb_len,ho.la,ho.lb]
 ·rfl
theorem SH.out_len {h:SH} (ho:h.ok) (he:h.err=0):h.out.length=if h.wt=true then 138 else 10:=by
 rw [SH.out_eq ho he]
 simp only [endd,List.length_append,SH.body_len ho he]
 split<;>rfl
def SH.fit (h:SH):SH:=⟨1+h.c % 8,1+h.r % 8,h.wt,if h.wt=true then h.A.map (max · 8) else List.replicate 64 0,if h.wt=true then h.Bb.map (max · 8) else List.replicate 64 0⟩
theorem byt_max {l:List Nat} (h:Byt l):Byt (l.map (max · 8)):=fun x hx=>by
 obtain ⟨y,hy,rfl⟩:=List.mem_map.1 hx
 have:=h y hy;omega
theorem SH.fit_ok {h:SH} (ho:h.ok):h.fit.ok:=by
 unfold SH.fit
 cases h.wt with
 | true=>exact ⟨by simp [ho.la],by simp [ho.lb],by simpa using byt_max ho.ba,by simpa using byt_max ho.bb⟩
 | false=>exact ⟨by simp,by simp,fun x hx=>by simp at hx;omega,fun x hx=>by simp at hx;omega⟩
theorem SH.fit_err (h:SH):h.fit.err=0:=by
 unfold SH.err
 rw [if_neg (by simp only [SH.fit];omega)]
 unfold terr SH.fit
 cases h.wt with
 | true =>
  simp only [if_true]
  rw [if_neg]
  rintro ⟨x,hx,hl⟩
  simp only [List.mem_append,List.mem_map] at hx
  rcases hx with ⟨y,_,rfl⟩|⟨y,_,rfl⟩<;>omega
 | false =>
  simp only [Bool.false_eq_true,if_false]
  rw [if_neg]
  rintro ⟨x,hx,hl⟩
  simp at hx;omega
end Go.P
namespace Go.P
open Go Go.K
theorem nb_take {x s n:Nat} (h:n≤s):(nb x s).take n=nb (x / 2 ^ (s-n)) n:=by
 refine List.ext_getElem? (fun i=>?_)
 by_cases hi:i<n
 ·rw [List.getElem?_take,if_pos hi,nb_get (by omega),nb_get hi,Nat.testBit_div_two_pow]
  congr 2;omega
 ·rw [List.getElem?_eq_none (by rw [List.length_take,nb_len];omega),List.getElem?_eq_none (by rw [nb_len];omega)]
theorem nbz_inj {x y n:Nat} (hx:x<2 ^ n) (hy:y<2 ^ n) (h:nb x n=nb y n):x=y:=by
 refine Nat.eq_of_testBit_eq (fun j=>?_)
 by_cases hj:j<n
 ·have h1:=congrArg (·[n-1-j]?) h
  simp only [nb_get (n:=x) (show n-1-j<n by omega),nb_get (n:=y) (show n-1-j<n by omega),show n-1-(n-1-j)=j by omega] at h1
  exact Option.some.inj h1
 ·rw [Nat.testBit_lt_two_pow (Nat.lt_of_lt_of_le hx (Nat.pow_le_pow_right (by decide) (by omega))),Nat.testBit_lt_two_pow (Nat.lt_of_lt_of_le hy (Nat.pow_le_pow_right (by decide) (by omega)))]
theorem bitc (x k:Nat):(x / 2 ^ k &&& 1)=(x.testBit k).toNat:=by
 rw [Nat.and_one_is_mod,Nat.testBit_eq_decide_div_mod_eq]
 rcases Nat.mod_two_eq_zero_or_one (x / 2 ^ k) with h|h<;>simp [h]
abbrev CE:=Nat × Nat × Nat
def cin (s:Nat):List (Nat × Nat)→Nat→List CE→Option (Nat × List CE)
 | [],wd,A=>some (wd,A)
 | (i,n)::l,wd,A=>if n=s then (if 2 ^ s≤wd then none else cin s l (wd+1) (A++[(i,wd,s)])) else cin s l wd A
def cout (ps:List (Nat × Nat)):Nat→Nat→Nat→List CE→Option (List CE)
 | 0,_,_,A=>some A
 | k+1,s,wd,A=>(cin s ps (2*wd) A).bind fun x=>cout ps k (s+1) x.1 x.2
def czs (sz:List Nat):List (Nat × Nat):=(List.range sz.length).map fun i=>(i,sz.getD i 0)
theorem czs_drop {sz:List Nat} {i:Nat} (h:i<sz.length):(czs sz).drop i=(i,sz[i])::(czs sz).drop (i+1):=by
 rw [List.drop_eq_getElem_cons (by simp [czs,h])]
 congr 1
 simp [czs,h]
theorem czs_end (sz:List Nat):(czs sz).drop sz.length=[]:=List.drop_of_length_le (by simp [czs])
def codeOf (sz:List Nat):Option (List CE):=cout (czs sz) 32 1 0 []
def crest (sz:List Nat) (s i wd:Nat) (A:List CE):Option (List CE):=(cin s ((czs sz).drop i) wd A).bind fun x=>cout (czs sz) (32-s) (s+1) x.1 x.2
section
variable {sz:List Nat} {s i wd:Nat} {A:List CE}
theorem crest_ne (h:i<sz.length) (hn:sz[i]≠s):crest sz s i wd A=crest sz s (i+1) wd A:=by
 unfold crest
 rw [czs_drop h]
 show (if sz[i]=s then _ else _:Option (Nat × List CE)).bind _=_
 rw [if_neg hn]
theorem crest_none (h:i<sz.length) (hn:sz[i]=s) (hw:2 ^ s≤wd):crest sz s i wd A=none:=by
 unfold crest
 rw [czs_drop h]
 show (if sz[i]=s then (if 2 ^ s≤wd then none else _) else _:Option (Nat × List CE)).bind _=_
 rw [if_pos hn,if_pos hw];rfl
theorem crest_eq (h:i<sz.length) (hn:sz[i]=s) (hw:wd<2 ^ s):crest sz s i wd A=crest sz s (i+1) (wd+1) (A++[(i,wd,s)]):=by
 unfold crest
 rw [czs_drop h]
 show (if sz[i]=s then (if 2 ^ s≤wd then none else _) else _:Option (Nat × List CE)).bind _=_
 rw [if_pos hn,if_neg (by omega)]
theorem crest_end:crest sz s sz.length wd A=cout (czs sz) (32-s) (s+1) wd A:=by
 unfold crest
 rw [czs_end];rfl
theorem cout_start (hs:s≤32):cout (czs sz) (33-s) s wd A=crest sz s 0 (2*wd) A:=by
 rw [show 33-s=(32-s)+1 by omega]
 show (cin s (czs sz) (2*wd) A).bind _=_
 rfl
structure CI (sz:List Nat) (s i wd:Nat) (A:List CE):Prop where
 ent:∀ a∈A,sz[a.1]?=some a.2.2∧1≤a.2.2∧a.2.2≤s∧a.2.1<2 ^ a.2.2∧(a.2.2=s→a.1<i)∧(a.2.1+1)*2 ^ (s-a.2.2)≤wd
 ord:A.Pairwise fun a b=>(a.2.1+1)*2 ^ (b.2.2-a.2.2)≤b.2.1∧a.2.2≤b.2.2∧(a.2.2=b.2.2→a.1<b.1)
 all:∀ j n,sz[j]?=some n→1≤n→n<s∨(n=s∧j<i)→∃ w,(j,w,n)∈A
 top:wd≤2 ^ s
 num:A.length≤64*(s-1)+i
theorem CI.zero:CI sz 1 0 0 []:=⟨by simp,.nil,fun j n _ h1 h2=>by omega,by simp,by simp⟩
theorem CI.skip (h:CI sz s i wd A) (hi:i<sz.length) (hn:sz[i]≠s):CI sz s (i+1) wd A:=by
 refine ⟨fun a ha=>?_,h.ord,fun j n hj h1 h2=>?_,h.top,by have:=h.num;omega⟩
 ·obtain ⟨h1,h2,h3,h4,h5,h6⟩:=h.ent a ha
  exact ⟨h1,h2,h3,h4,fun e=>by have:=h5 e;omega,h6⟩
 ·rcases h2 with h2|⟨rfl,h2⟩
  ·exact h.all j n hj h1 (.inl h2)
  ·by_cases hji:j=i
   ·subst hji
    rw [List.getElem?_eq_getElem hi] at hj
    exact absurd (Option.some.inj hj) hn
   ·exact h.all j n hj h1 (.inr ⟨rfl,by omega⟩)
theorem CI.put (h:CI sz s i wd A) (hi:i<sz.length) (hn:sz[i]=s) (hs:1≤s) (hw:wd<2 ^ s):CI sz s (i+1) (wd+1) (A++[(i,wd,s)]):=by
 refine ⟨fun a ha=>?_,?_,fun j n hj h1 h2=>?_,hw,by have:=h.num;simp;omega⟩
 ·rcases List.mem_append.1 ha with ha|ha
  ·obtain ⟨h1,h2,h3,h4,h5,h6⟩:=h.ent a ha
   exact ⟨h1,h2,h3,h4,fun e=>by have:=h5 e;omega,by omega⟩
  ·simp at ha;subst ha
   refine ⟨by rw [List.getElem?_eq_getElem hi,hn],hs,Nat.le_refl _,hw,fun _=>Nat.lt_succ_self _,?_⟩
   simp
 ·refine List.pairwise_append.2 ⟨h.ord,by simp,fun a ha b hb=>?_⟩
  simp at hb;subst hb
  obtain ⟨h1,h2,h3,h4,h5,h6⟩:=h.ent a ha
  exact ⟨h6,h3,h5⟩
 ·rcases h2 with h2|⟨h2,h3⟩
  ·obtain ⟨w,hw⟩:=h.all j n hj h1 (.inl h2)
   exact ⟨w,by simp [hw]⟩
  ·by_cases hji:j=i
   ·subst hji;subst h2;exact ⟨wd,by simp⟩
   ·obtain ⟨w,hw⟩:=h.all j n hj h1 (.inr ⟨h2,by omega⟩)
    exact ⟨w,by simp [hw]⟩
theorem CI.next (h:CI sz s sz.length wd A) (hl:sz.length≤64) (hs:1≤s):CI sz (s+1) 0 (2*wd) A:=by
 refine ⟨fun a ha=>?_,h.ord,fun j n hj h1 h2=>?_,by have:=h.top;rw [Nat.pow_succ];omega,by have:=h.num;omega⟩
 ·obtain ⟨h1,h2,h3,h4,h5,h6⟩:=h.ent a ha
  refine ⟨h1,h2,by omega,h4,fun e=>by omega,?_⟩
  rw [show s+1-a.2.2=(s-a.2.2)+1 by omega,Nat.pow_succ,← Nat.mul_assoc]
  omega
 ·have hjl:=(List.getElem?_eq_some_iff.1 hj).1
  rcases h2 with h2|⟨_,h2⟩
  ·by_cases hns:n<s
   ·exact h.all j n hj h1 (.inl hns)
   ·exact h.all j n hj h1 (.inr ⟨by omega,hjl⟩)
  ·omega
theorem free_of {w n v m:Nat} (hw:w<2 ^ n) (hv:v<2 ^ m) (hn:n≤m) (h:(w+1)*2 ^ (m-n)≤v):¬ nb w n <+: nb v m∧¬ nb v m <+: nb w n:=by
 have key:¬ nb w n <+: nb v m:=fun hp=>by
  have h1:=List.prefix_iff_eq_take.1 hp
  rw [nb_len,nb_take hn] at h1
  have hlt:v / 2 ^ (m-n)<2 ^ n:=by
   rw [Nat.div_lt_iff_lt_mul (Nat.two_pow_pos _),← Nat.pow_add,show n+(m-n)=m by omega];exact hv
  have h2:=nbz_inj hw hlt h1
  have h3:w+1≤v / 2 ^ (m-n):=(Nat.le_div_iff_mul_le (Nat.two_pow_pos _)).2 h
  omega
 refine ⟨key,fun hp=>?_⟩
 have hl:=hp.length_le
 rw [nb_len,nb_len] at hl
 have:nb v m=nb w n:=hp.eq_of_length (by rw [nb_len,nb_len];omega)
 exact key (this▸List.prefix_refl _)
theorem CI.free (h:CI sz s i wd A) (hw:wd<2 ^ s):∀ a∈A,¬ nb a.2.1 a.2.2 <+: nb wd s∧¬ nb wd s <+: nb a.2.1 a.2.2:=fun a ha=>by
 obtain ⟨h1,h2,h3,h4,h5,h6⟩:=h.ent a ha
 exact free_of h4 hw h3 h6
theorem CI.new (h:CI sz s i wd A) (hi:i<sz.length) (hn:sz[i]=s):∀ a∈A,a.1≠i:=fun a ha e=>by
 obtain ⟨h1,h2,h3,h4,h5,h6⟩:=h.ent a ha
 rw [e,List.getElem?_eq_getElem hi,hn] at h1
 have:=h5 (Option.some.inj h1).symm
 omega
end
def slot (T:List Int) (k:Nat) (b:Bool):Int:=T.getD (2*k+b.toNat) 0
def reach (T:List Int):Nat→List Bool→Nat→Prop
 | k,[],m=>k=m
 | k,b::p,m=>0<slot T k b∧reach T (slot T k b).toNat p m
theorem reach_snoc {T:List Int} {b:Bool} {m:Nat}:∀ {p:List Bool} {k:Nat},reach T k p m→0<slot T m b→reach T k (p++[b]) (slot T m b).toNat
 | [],k,h,hs=>by obtain rfl:k=m:=h;exact ⟨hs,rfl⟩
 | c::p,k,h,hs=>⟨h.1,reach_snoc h.2 hs⟩
def dec (T:List Int):Nat→List Bool→Option (Nat × List Bool)
 | _,[]=>none
 | k,b::l=>if slot T k b<0 then some ((-1-slot T k b).toNat,l) else if slot T k b=0 then none else dec T (slot T k b).toNat l
theorem reach_dec {T:List Int} {l:List Bool} {m:Nat}:∀ {p:List Bool} {k:Nat},reach T k p m→dec T k (p++l)=dec T m l
 | [],k,h=>by obtain rfl:k=m:=h;rfl
 | c::p,k,h=>by
  show (if slot T k c<0 then _ else if slot T k c=0 then _ else dec T (slot T k c).toNat (p++l))=_
  have:=h.1
  rw [if_neg (by omega),if_neg (by omega)]
  exact reach_dec h.2
def Mono (T T':List Int):Prop:=∀ k b,slot T k b≠0→slot T' k b=slot T k b
theorem reach.mono {T T':List Int} (h:Mono T T') {m:Nat}:∀ {p:List Bool} {k:Nat},reach T k p m→reach T' k p m
 | [],_,hr=>hr
 | b::p,k,hr=>by
  have e:=h k b (by have:=hr.1;omega)
  refine ⟨by rw [e];exact hr.1,?_⟩
  rw [e];exact reach.mono h hr.2
theorem slot_idx {k k':Nat} {b b':Bool} (h:2*k+b.toNat=2*k'+b'.toNat):k=k'∧b=b':=by
 cases b<;>cases b'<;>simp at h ⊢<;>omega
theorem slot_set {T:List Int} {k:Nat} {b:Bool} {v:Int} (hk:2*k+b.toNat<T.length) (k':Nat) (b':Bool):slot (T.set (2*k+b.toNat) v) k' b'=if k'=k∧b'=b then v else slot T k' b':=by
 unfold slot
 simp only [List.getD_eq_getElem?_getD]
 by_cases h:k'=k∧b'=b
 ·obtain ⟨rfl,rfl⟩:=h
  rw [if_pos ⟨rfl,rfl⟩,List.getElem?_set_self hk];rfl
 ·rw [if_neg h,List.getElem?_set_ne (fun e=>h (by obtain ⟨rfl,rfl⟩:=slot_idx e;exact ⟨rfl,rfl⟩))]
theorem slot_grow (T:List Int) (k:Nat) (b:Bool):slot (T++[0,0]) k b=slot T k b:=by
 unfold slot
 simp only [List.getD_eq_getElem?_getD]
 by_cases h:2*k+b.toNat<T.length
 ·rw [List.getElem?_append_left h]
 ·rw [List.getElem?_append_right (by omega),List.getElem?_eq_none (l:=T) (by omega)]
  rcases hj:2*k+b.toNat-T.length with _|_|j<;>simp
theorem slot_out {T:List Int} {k:Nat} {b:Bool} (h:T.length≤2*k+b.toNat):slot T k b=0:=by
 unfold slot
 rw [List.getD_eq_getElem?_getD,List.getElem?_eq_none h];rfl
structure TI (T:List Int) (P:List (List Bool)) (W:List (List Bool × Nat)) (x:List Bool):Prop where
 len:T.length=2*P.length
 root:P[0]?=some []
 up:∀ k p b,P[k]?=some p→0<slot T k b→∃ m:Nat,slot T k b=m∧P[m]?=some (p++[b])
 leaf:∀ k p b,P[k]?=some p→slot T k b<0→∃ i:Nat,slot T k b=-1-(i:Int)∧(p++[b],i)∈W
 ext:∀ p∈P,p=[]∨(∃ w∈W,∃ r,r≠[]∧w.1=p++r)∨(∃ r,r≠[]∧x=p++r)
 all:∀ w∈W,∃ p b k,w.1=p++[b]∧reach T 0 p k∧slot T k b=-1-(w.2:Int)
theorem TI.zero:TI [0,0] [[]] [] []:=by
 have h0:∀ k b,slot [0,0] k b=0:=fun k b=>by
  unfold slot
  rcases h:2*k+b.toNat with _|_|j<;>simp
 refine ⟨rfl,rfl,fun k p b _ h=>?_,fun k p b _ h=>?_,fun p hp=>.inl (by simpa using hp),by simp⟩<;>(rw [h0] at h;omega)
theorem TI.want {T:List Int} {P:List (List Bool)} {W:List (List Bool × Nat)} (h:TI T P W []) (x:List Bool):TI T P W x :=
 ⟨h.len,h.root,h.up,h.leaf,fun p hp=>by
  rcases h.ext p hp with h1|h1|⟨r,hr,h1⟩
  ·exact .inl h1
  ·exact .inr (.inl h1)
  ·have:=congrArg List.length h1
   simp at this
   exact .inl (List.eq_nil_of_length_eq_zero (by omega)),h.all⟩
section
variable {T:List Int} {P:List (List Bool)} {W:List (List Bool × Nat)} {x p q:List Bool} {b:Bool} {k i:Nat}
theorem TI.lt (h:TI T P W x) (hk:P[k]?=some p) (b:Bool):2*k+b.toNat<T.length:=by
 have h1:=(List.getElem?_eq_some_iff.1 hk).1
 have h2:=h.len
 cases b<;>simp<;>omega
theorem TI.down (h:TI T P W x) (hx:x=p++b::q) (hk:P[k]?=some p) (hr:reach T 0 p k) (hf:∀ w∈W,¬ w.1 <+: x) :
  slot T k b=0∨∃ m:Nat,slot T k b=(m:Int)∧0<m∧P[m]?=some (p++[b])∧reach T 0 (p++[b]) m:=by
 rcases Int.lt_trichotomy (slot T k b) 0 with h1|h1|h1
 ·obtain ⟨i,_,hm⟩:=h.leaf k p b hk h1
  exact absurd ⟨q,by rw [hx];simp⟩ (hf _ hm)
 ·exact .inl h1
 ·obtain ⟨m,hm,hp⟩:=h.up k p b hk h1
  have:=reach_snoc hr h1
  rw [hm] at this
  exact .inr ⟨m,hm,by omega,hp,this⟩
theorem TI.grow (h:TI T P W x) (hx:x=p++b::q) (hq:q≠[]) (hk:P[k]?=some p) (hr:reach T 0 p k) (h0:slot T k b=0) :
  TI ((T++[0,0]).set (2*k+b.toNat) (P.length:Nat)) (P++[p++[b]]) W x∧slot ((T++[0,0]).set (2*k+b.toNat) (P.length:Nat)) k b=(P.length:Nat)∧reach ((T++[0,0]).set (2*k+b.toNat) (P.length:Nat)) 0 (p++[b]) P.length:=by
 have hkl:=(List.getElem?_eq_some_iff.1 hk).1
 have hlt:=h.lt hk b
 have hs:∀ k' b',slot ((T++[0,0]).set (2*k+b.toNat) (P.length:Nat)) k' b'=if k'=k∧b'=b then ((P.length:Nat):Int) else slot T k' b':=fun k' b'=>by
  rw [slot_set (by rw [List.length_append];omega),slot_grow]
 have hl:((T++[0,0]).set (2*k+b.toNat) ((P.length:Nat):Int)).length=2*(P++[p++[b]]).length:=by
  have:=h.len
  simp;omega
 generalize (T++[0,0]).set (2 * k + b.toNat) ((P.length:Nat):Int)=T' at *
 have hself:slot T' k b=(P.length:Nat):=by rw [hs,if_pos ⟨rfl,rfl⟩]
 have hmono:Mono T T':=fun k' b' hn=>by
  rw [hs,if_neg (fun e=>hn (by rw [e.1,e.2];exact h0))]
 have hold:∀ {k':Nat} {p':List Bool},P[k']?=some p'→(P++[p++[b]])[k']?=some p':=fun {k' p'} h'=>by
  rw [List.getElem?_append_left (List.getElem?_eq_some_iff.1 h').1];exact h'
 have hnew:(P++[p++[b]])[P.length]?=some (p++[b]):=by simp
 have hwas:∀ {k':Nat} {p':List Bool} {b':Bool},(P++[p++[b]])[k']?=some p'→¬ (k'=k∧b'=b)→slot T' k' b'≠0→P[k']?=some p'∧slot T' k' b'=slot T k' b':=fun {k' p' b'} h1 h2 h3=>by
  have e:=hs k' b'
  rw [if_neg h2] at e
  refine ⟨?_,e⟩
  by_cases hk':k'<P.length
  ·rwa [List.getElem?_append_left hk'] at h1
  ·exfalso;apply h3;rw [e]
   exact slot_out (by have:=h.len;omega)
 refine ⟨⟨hl,hold h.root,fun k' p' b' h1 h2=>?_,fun k' p' b' h1 h2=>?_,fun p' hp'=>?_,fun w hw=>?_⟩,hself,?_⟩
 ·by_cases hkb:k'=k∧b'=b
  ·obtain ⟨rfl,rfl⟩:=hkb
   rw [hold hk] at h1
   obtain rfl:=Option.some.inj h1
   exact ⟨_,hself,hnew⟩
  ·obtain ⟨h3,h4⟩:=hwas h1 hkb (by omega)
   rw [h4] at h2 ⊢
   obtain ⟨m,hm,hp⟩:=h.up k' p' b' h3 h2
   exact ⟨m,hm,hold hp⟩
 ·by_cases hkb:k'=k∧b'=b
  ·obtain ⟨rfl,rfl⟩:=hkb
   rw [hself] at h2;omega
  ·obtain ⟨h3,h4⟩:=hwas h1 hkb (by omega)
   rw [h4] at h2 ⊢
   exact h.leaf k' p' b' h3 h2
 ·rcases List.mem_append.1 hp' with h1|h1
  ·exact h.ext p' h1
  ·simp at h1;subst h1
   exact .inr (.inr ⟨q,hq,by rw [hx];simp⟩)
 ·obtain ⟨p',b',k',h1,h2,h3⟩:=h.all w hw
  exact ⟨p',b',k',h1,h2.mono hmono,by rw [hmono k' b' (by omega)];exact h3⟩
 ·have h1:=reach_snoc (b:=b) (hr.mono hmono) (by rw [hself];omega)
  rwa [hself] at h1
theorem TI.done (h:TI T P W x) (hx:x=p++[b]) (hk:P[k]?=some p) (hr:reach T 0 p k) (hf:∀ w∈W,¬ w.1 <+: x∧¬ x <+: w.1) (i:Nat) :
  slot T k b=0∧TI (T.set (2*k+b.toNat) (-1-(i:Int))) P (W++[(x,i)]) []:=by
 have h0:slot T k b=0:=by
  rcases h.down hx hk hr (fun w hw=>(hf w hw).1) with h1|⟨m,_,_,h1,_⟩
  ·exact h1
  ·exfalso
   rw [← hx] at h1
   rcases h.ext x (List.mem_of_getElem? h1) with h2|⟨w,hw,r,_,h2⟩|⟨r,hr',h2⟩
   ·rw [h2] at hx;simp at hx
   ·exact (hf w hw).2 ⟨r,h2.symm⟩
   ·have:=congrArg List.length h2
    rw [List.length_append] at this
    exact hr' (List.eq_nil_of_length_eq_zero (by omega))
 refine ⟨h0,?_⟩
 have hlt:=h.lt hk b
 have hs:=fun k' b'=>slot_set (T:=T) (k:=k) (b:=b) (v:=-1-(i:Int)) hlt k' b'
 have hl:(T.set (2*k+b.toNat) (-1-(i:Int))).length=2*P.length:=by rw [List.length_set];exact h.len
 generalize T.set (2 * k + b.toNat) (-1-(i:Int))=T' at *
 have hself:slot T' k b=-1-(i:Int):=by rw [hs,if_pos ⟨rfl,rfl⟩]
 have hmono:Mono T T':=fun k' b' hn=>by
  rw [hs,if_neg (fun e=>hn (by rw [e.1,e.2];exact h0))]
 refine ⟨hl,h.root,fun k' p' b' h1 h2=>?_,fun k' p' b' h1 h2=>?_,fun p' hp'=>?_,fun w hw=>?_⟩
 ·by_cases hkb:k'=k∧b'=b
  ·obtain ⟨rfl,rfl⟩:=hkb
   rw [hself] at h2;omega
  ·have e:=hs k' b'
   rw [if_neg hkb] at e
   rw [e] at h2 ⊢
   exact h.up k' p' b' h1 h2
 ·by_cases hkb:k'=k∧b'=b
  ·obtain ⟨rfl,rfl⟩:=hkb
   rw [hk] at h1
   obtain rfl:=Option.some.inj h1
   exact ⟨i,hself,by rw [hx];simp⟩
  ·have e:=hs k' b'
   rw [if_neg hkb] at e
   rw [e] at h2 ⊢
   obtain ⟨i',h3,h4⟩:=h.leaf k' p' b' h1 h2
   exact ⟨i',h3,by simp [h4]⟩
 ·rcases h.ext p' hp' with h1|⟨w,hw,h1⟩|⟨r,hr',h1⟩
  ·exact .inl h1
  ·exact .inr (.inl ⟨w,by simp [hw],h1⟩)
  ·exact .inr (.inl ⟨(x,i),by simp,r,hr',h1⟩)
 ·rcases List.mem_append.1 hw with h1|h1
  ·obtain ⟨p',b',k',h2,h3,h4⟩:=h.all w h1
   exact ⟨p',b',k',h2,h3.mono hmono,by rw [hmono k' b' (by omega)];exact h4⟩
  ·simp at h1;subst h1
   exact ⟨p,b,k,hx,hr.mono hmono,hself⟩
end
structure GC (sz ws:List Nat) (T:List Int):Prop where
 le:1≤sz.length∧sz.length≤64
 ok:∀ n∈sz,1≤n∧n≤32
 wl:ws.length=sz.length
 it:∃ A wd P,codeOf sz=some A∧CI sz 33 0 wd A∧(∀ a∈A,ws[a.1]?=some a.2.1)∧TI T P (A.map fun a=>(nb a.2.1 a.2.2,a.1)) []
def cw (sz ws:List Nat) (i:Nat):List Bool:=nb (ws.getD i 0) (sz.getD i 0)
section
variable {sz ws:List Nat} {T:List Int}
theorem ent_in {A:List CE} {wd:Nat} (h:CI sz 33 0 wd A) (hk:∀ n∈sz,1≤n∧n≤32) (hw:∀ a∈A,ws[a.1]?=some a.2.1) {i:Nat} (hi:i<sz.length):(i,ws.getD i 0,sz.getD i 0)∈A:=by
 have h1:=hk _ (List.getElem_mem hi)
 obtain ⟨w,hm⟩:=h.all i sz[i] (List.getElem?_eq_getElem hi) h1.1 (.inl (by omega))
 have h2:=hw _ hm
 rw [List.getD_eq_getElem?_getD,List.getD_eq_getElem?_getD,h2,List.getElem?_eq_getElem hi]
 exact hm
theorem GC.ent (h:GC sz ws T) {i:Nat} (hi:i<sz.length):∃ A wd,codeOf sz=some A∧CI sz 33 0 wd A∧(i,ws.getD i 0,sz.getD i 0)∈A:=by
 obtain ⟨A,wd,P,hc,hci,hw,hT⟩:=h.it
 exact ⟨A,wd,hc,hci,ent_in hci h.ok hw hi⟩
theorem GC.szd (h:GC sz ws T) {i:Nat} (hi:i<sz.length):1≤sz.getD i 0∧sz.getD i 0≤32:=by
 rw [List.getD_eq_getElem?_getD,List.getElem?_eq_getElem hi];exact h.ok _ (List.getElem_mem hi)
theorem GC.wlt (h:GC sz ws T) {i:Nat} (hi:i<sz.length):ws.getD i 0<2 ^ sz.getD i 0:=by
 obtain ⟨A,wd,_,hci,hm⟩:=h.ent hi
 exact (hci.ent _ hm).2.2.2.1
theorem GC.w64 (h:GC sz ws T) {i:Nat} (hi:i<sz.length):ws.getD i 0<18446744073709551616:=by
 have h1:=h.wlt hi
 have h2:=(h.szd hi).2
 have h3:2 ^ sz.getD i 0≤2 ^ 32:=Nat.pow_le_pow_right (by decide) h2
 omega
theorem cw_len {i:Nat}:(cw sz ws i).length=sz.getD i 0:=nb_len _ _
end
end Go.P
