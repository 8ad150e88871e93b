/- A part of the proof of the card of TopText; no condition. -/
import Derived.Test.YtdbnmbkjmeepkaaGreatDoorT09
namespace Go.P
open Go Go.K
def oC (l:List Nat):Nat:=eX 65535 l
theorem rV (l:List Nat):oC l<65536:=sJ 65535 (by decide) l
def hJ (h:PH) (f c:Int) (la lb:Nat) (all:Int):Nat :=
 if h.err≠0 then h.err else if f<0∨c<1∨all<f∨all-f<c∨64<all then 7 else if la<1∨30000<la∨lb<1∨30000<lb then 6 else 0
theorem J6 {h:PH} {f c all:Int} {la lb:Nat} (he:hJ h f c la lb all=0):h.err=0∧(0≤f∧1≤c∧f≤all∧c≤all-f∧all≤64)∧(1≤la∧la≤30000∧1≤lb∧lb≤30000):=by
 unfold hJ at he
 split at he
 ·rename_i h1;exact absurd he h1
 ·rename_i h1
  split at he
  ·cases he
  ·split at he
   ·cases he
   ·exact ⟨by simpa using h1,by omega,by omega⟩
structure PD where
 h:PH
 f:Nat
 c:Nat
 n:Nat
 m:Nat
 sa:Nat
 sb:Nat
def PD.bits (d:PD):List Bool:=d.h.bits++(nb d.f 7++(nb d.c 7++(nb d.n 16++(nb d.m 16++(nb d.sa 16++nb d.sb 16)))))
def PD.fits (d:PD):Prop:=d.f<128∧d.c<128∧d.n<65536∧d.m<65536∧d.sa<65536∧d.sb<65536
theorem PD.gB (d:PD):d.bits.length=101:=by simp [PD.bits,PH.gB,cA]
def xb (H:List Bool):List Bool:=H++(nb (oC (pk H)) 16++nb 0 2)
theorem NG (d:PD):(xb d.bits).length=119:=by simp [xb,PD.gB,cA]
def ch (X:List Bool) (i:Nat):Nat:=128+lE 0 ((X.drop (7*i)).take 7)
def KZ (X:List Bool):List Nat:=(List.range 17).map (ch X)
theorem FD (X:List Bool):(KZ X).length=17:=by simp [KZ]
theorem LJ (X:List Bool) (i:Nat):ch X i<256:=by
 have h:=Ai ((X.drop (7*i)).take 7) 0 0 (by decide)
 have h2:2 ^ (0+((X.drop (7*i)).take 7).length)≤2 ^ 7:=Nat.pow_le_pow_right (by decide) (by simp [List.length_take];omega)
 unfold ch;omega
theorem JK (X:List Bool):gR (KZ X):=fun x hx=>by
 obtain ⟨i,_,rfl⟩:=List.mem_map.1 hx
 exact LJ X i
def MI (d:PD):List Nat:=[0,0,1,182]++KZ (xb d.bits)
theorem Jc (d:PD):(MI d).length=21:=by simp [MI,FD]
theorem Fq {x:Nat} (h:x<128):nb (128+x) 7=nb x 7:=by
 have key:∀ x,x<128→nb (128+x) 7=nb x 7:=by decide +kernel
 exact key x h
def b7 (l:List Nat):List Bool:=l.flatMap fun c=>nb c 7
structure SH where
 c:Int
 r:Int
 wt:Bool
 A:List Nat
 Bb:List Nat
def xS (wt:Bool) (t:List Nat):Nat:=if wt=true then (if ∃ x∈t,x<8 then 2 else 0) else (if ∃ x∈t,x≠0 then 4 else 0)
def SH.err (h:SH):Nat:=if h.c<1∨8<h.c∨h.r<1∨8<h.r then 6 else xS h.wt (h.A++h.Bb)
structure SH.ok (h:SH):Prop where
 la:h.A.length=64
 lb:h.Bb.length=64
 ba:gR h.A
 bb:gR h.Bb
def SH.tc (h:SH):List Value:=.bool h.wt::(h.A.map B++h.Bb.map B)
def SH.cells (h:SH):List Value:=.int .i64 h.c::.int .i64 h.r::h.tc
theorem SH.eS {h:SH} (ho:h.ok):h.tc.length=129:=by simp [SH.tc,ho.la,ho.lb]
theorem SH.bK {h:SH} (ho:h.ok):h.cells.length=131:=by simp [SH.cells,SH.eS ho]
theorem SH.KP {h:SH} (ho:h.ok):gR (h.A++h.Bb):=gR.append ho.ba ho.bb
def SH.zero:SH:=⟨0,0,false,List.replicate 64 0,List.replicate 64 0⟩
theorem SH.nP:SH.zero.ok:=⟨rfl,rfl,fun x hx=>by simp [SH.zero] at hx;omega,fun x hx=>by simp [SH.zero] at hx;omega⟩
theorem JN {wt:Bool} {t:List Nat} (h:xS wt t=0):(wt=true→∀ x∈t,8≤x)∧(wt=false→∀ x∈t,x=0):=by
 unfold xS at h
 cases wt with
 | true =>
  simp only [if_true] at h
  split at h
  ·cases h
  ·rename_i hn
   exact ⟨fun _ x hx=>Nat.not_lt.1 (fun hl=>hn ⟨x,hx,hl⟩),fun h=>by cases h⟩
 | false =>
  simp only [Bool.false_eq_true,if_false] at h
  split at h
  ·cases h
  ·rename_i hn
   exact ⟨fun h=>(by cases h),fun _ x hx=>Decidable.byContradiction fun hl=>hn ⟨x,hx,hl⟩⟩
theorem SH.D5 {h:SH} (he:h.err=0):(1≤h.c∧h.c≤8)∧(1≤h.r∧h.r≤8)∧(h.wt=true→∀ x∈h.A++h.Bb,8≤x)∧(h.wt=false→∀ x∈h.A++h.Bb,x=0):=by
 unfold SH.err at he
 split at he
 ·cases he
 ·have:=JN he
  exact ⟨by omega,by omega,this⟩
def tb (t:List Nat):List Bool:=t.flatMap fun x=>nb x 8
theorem Hj (t:List Nat):(tb t).length=8*t.length:=by
 induction t with
 | nil=>rfl
 | cons x t ih =>
  have e:tb (x::t)=nb x 8++tb t:=by simp [tb]
  rw [e,List.length_append,cA,ih,List.length_cons];omega
theorem Jo (t:List Nat) (x:Nat):tb (t++[x])=tb t++nb x 8:=by simp [tb]
theorem J2 (t:List Nat) (x:Nat):tb (x::t)=nb x 8++tb t:=by simp [tb]
def SH.bits (h:SH):List Bool:=nb h.c.toNat 8++(nb h.r.toNat 8++(h.wt::if h.wt=true then tb (h.A++h.Bb) else []))
def SH.body (h:SH):List Nat:=pk (h.bits++[true])
def jT (l:List Nat):List Nat:=l++[oC l / 256,oC l % 256,128]
def SH.out (h:SH):List Nat:=[0,0,1,176]++fB 0 (jT h.body)
theorem BL {l:List Nat} (h:gR l):gR (jT l):=by
 refine gR.append h ?_
 have:=rV l
 intro x hx
 simp at hx
 omega
theorem SH.B3 (h:SH):gR h.body:=oX _
theorem Bx {u:List Bool} (hu:u.length=8) (X:List Bool):pk (u++X)=lE 0 u::pk X:=by
 have e:((u++X).length+7) / 8=(X.length+7) / 8+1:=by rw [List.length_append,hu];omega
 unfold pk
 rw [e,List.range_succ_eq_map,List.map_cons,List.map_map]
 congr 1
 ·match u,hu with
  | [a,b,c,d,e,f,g,h],_ =>
   have key:∀ a b c d e f g h:Bool,a.toNat*128+b.toNat*64+c.toNat*32+d.toNat*16+e.toNat*8+f.toNat*4+g.toNat*2+h.toNat=lE 0 [a,b,c,d,e,f,g,h]:=by decide
   rw [← key]
   rfl
 ·refine List.map_congr_left (fun i _=>?_)
  simp only [Function.comp]
  refine wE (fun j _=>?_)
  rw [List.getD_eq_getElem?_getD,List.getD_eq_getElem?_getD,List.getElem?_append_right (by omega)]
  congr 2
  omega
theorem IV {x:Nat} (hx:x<256) (X:List Bool):pk (nb x 8++X)=x::pk X:=by
 rw [Bx (cA x 8),HR (s:=8) (by simpa using hx)]
def wb:Bool→List Nat→List Nat
 | b,[]=>[128*b.toNat+64]
 | b,w::t=>(128*b.toNat+w / 2)::wb (w.testBit 0) t
theorem HO:∀ (t:List Nat) (b:Bool),(wb b t).length=t.length+1
 | [],_=>rfl
 | w::t,b=>by simp [wb,HO t]
theorem Iq:∀ (t:List Nat) (b:Bool),(∀ x∈t,8≤x)→∀ y∈wb b t,4≤y
 | [],b,_,y,hy=>by simp [wb] at hy;omega
 | w::t,b,h,y,hy=>by
  simp only [wb,List.mem_cons] at hy
  rcases hy with rfl|hy
  ·have:=h w (by simp);omega
  ·exact Iq t _ (fun x hx=>h x (by simp [hx])) y hy
theorem Ph {b:Bool} {w:Nat} (hw:w<256):lE 0 (b::nb (w / 2) 7)=128*b.toNat+w / 2:=by
 have h2:w / 2<128:=by omega
 show lE (2*0+b.toNat) (nb (w / 2) 7)=_
 have e:nb (w / 2) 7=nb (128*b.toNat+w / 2) 7:=by
  cases b with
  | false=>simp
  | true=>simpa using (Fq h2).symm
 have e2:2*0+b.toNat=(128*b.toNat+w / 2) / 2 ^ 7:=by cases b<;>simp<;>omega
 rw [e,e2]
 exact EJ 7 _
theorem Lf:∀ (t:List Nat) (b:Bool),gR t→pk (b::(tb t++[true]))=wb b t
 | [],b,_=>by cases b<;>decide
 | w::t,b,h=>by
  have hw:w<256:=h w (by simp)
  have e:b::(tb (w::t)++[true])=(b::nb (w / 2) 7)++(w.testBit 0::(tb t++[true])):=by rw [J2,EM w 7];simp
  rw [e,Bx (by simp [cA]),Ph hw,Lf t _ (fun x hx=>h x (by simp [hx]))]
  rfl
theorem Bk:∀ (l t:List Nat),(∀ x∈l,x≠0)→fB 0 (l++t)=l++fB 0 t
 | [],_,_=>rfl
 | x::l,t,h=>by
  have hx:x≠0:=h x (by simp)
  have e1:mE 0 x=[x]:=by simp [mE]
  have e2:mG 0 x=0:=by simp [mG,hx]
  rw [List.cons_append,fB,e1,e2,Bk l t (fun y hy=>h y (by simp [hy]))]
  rfl
theorem Pj (a b:Nat):fB 0 [a,b,128]=[a,b,128]:=by
 simp only [fB,mE,mG]
 by_cases ha:a=0<;>by_cases hb:b=0<;>simp [ha,hb]
theorem SH.FI {h:SH} (ho:h.ok) (he:h.err=0):h.body=h.c.toNat::h.r.toNat::(if h.wt=true then wb true (h.A++h.Bb) else [64]):=by
 obtain ⟨h1,h2,_⟩:=SH.D5 he
 unfold SH.body SH.bits
 rw [List.append_assoc,IV (by omega),List.append_assoc,IV (by omega)]
 congr 2
 cases hw:h.wt with
 | true =>
  simp only [if_true]
  exact Lf _ true (SH.KP ho)
 | false =>
  simp only [Bool.false_eq_true,if_false]
  decide
theorem SH.IX {h:SH} (ho:h.ok) (he:h.err=0):∀ x∈h.body,x≠0:=by
 obtain ⟨h1,h2,h3,_⟩:=SH.D5 he
 rw [SH.FI ho he]
 intro x hx
 simp only [List.mem_cons] at hx
 rcases hx with rfl|rfl|hx
 ·omega
 ·omega
 ·cases hw:h.wt with
  | true =>
   rw [hw] at hx
   have:=Iq _ true (h3 hw) x (by simpa using hx)
   omega
  | false =>
   rw [hw] at hx
   simp at hx;omega
theorem SH.Mc {h:SH} (ho:h.ok) (he:h.err=0):h.out=[0,0,1,176]++jT h.body:=by
 unfold SH.out jT
 rw [Bk _ _ (SH.IX ho he),Pj]
theorem SH.wC {h:SH} (ho:h.ok) (he:h.err=0):h.body.length=if h.wt=true then 131 else 3:=by
 rw [SH.FI ho he]
 split
 ·simp [HO,ho.la,ho.lb]
 ·rfl
theorem SH.JB {h:SH} (ho:h.ok) (he:h.err=0):h.out.length=if h.wt=true then 138 else 10:=by
 rw [SH.Mc ho he]
 simp only [jT,List.length_append,SH.wC ho he]
 split<;>rfl
def SH.fit (h:SH):SH:=⟨1+h.c % 8,1+h.r % 8,h.wt,if h.wt=true then h.A.map (max · 8) else List.replicate 64 0,if h.wt=true then h.Bb.map (max · 8) else List.replicate 64 0⟩
theorem EL {l:List Nat} (h:gR l):gR (l.map (max · 8)):=fun x hx=>by
 obtain ⟨y,hy,rfl⟩:=List.mem_map.1 hx
 have:=h y hy;omega
theorem SH.AG {h:SH} (ho:h.ok):h.fit.ok:=by
 unfold SH.fit
 cases h.wt with
 | true=>exact ⟨by simp [ho.la],by simp [ho.lb],by simpa using EL ho.ba,by simpa using EL ho.bb⟩
 | false=>exact ⟨by simp,by simp,fun x hx=>by simp at hx;omega,fun x hx=>by simp at hx;omega⟩
theorem SH.D6 (h:SH):h.fit.err=0:=by
 unfold SH.err
 rw [if_neg (by simp only [SH.fit];omega)]
 unfold xS SH.fit
 cases h.wt with
 | true =>
  simp only [if_true]
  rw [if_neg]
  rintro ⟨x,hx,hl⟩
  simp only [List.mem_append,List.mem_map] at hx
  rcases hx with ⟨y,_,rfl⟩|⟨y,_,rfl⟩<;>omega
 | false =>
  simp only [Bool.false_eq_true,if_false]
  rw [if_neg]
  rintro ⟨x,hx,hl⟩
  simp at hx;omega
theorem I9 {x s n:Nat} (h:n≤s):(nb x s).take n=nb (x / 2 ^ (s-n)) n:=by
 refine List.ext_getElem? (fun i=>?_)
 by_cases hi:i<n
 ·rw [List.getElem?_take,if_pos hi,jW (by omega),jW hi,Nat.testBit_div_two_pow]
  congr 2;omega
 ·rw [List.getElem?_eq_none (by rw [List.length_take,cA];omega),List.getElem?_eq_none (by rw [cA];omega)]
theorem KH {x y n:Nat} (hx:x<2 ^ n) (hy:y<2 ^ n) (h:nb x n=nb y n):x=y:=by
 refine Nat.eq_of_testBit_eq (fun j=>?_)
 by_cases hj:j<n
 ·have h1:=congrArg (·[n-1-j]?) h
  simp only [jW (n:=x) (show n-1-j<n by omega),jW (n:=y) (show n-1-j<n by omega),show n-1-(n-1-j)=j by omega] at h1
  exact Option.some.inj h1
 ·rw [Nat.testBit_lt_two_pow (Nat.lt_of_lt_of_le hx (Nat.pow_le_pow_right (by decide) (by omega))),Nat.testBit_lt_two_pow (Nat.lt_of_lt_of_le hy (Nat.pow_le_pow_right (by decide) (by omega)))]
theorem Pr (x k:Nat):(x / 2 ^ k &&& 1)=(x.testBit k).toNat:=by
 rw [Nat.and_one_is_mod,Nat.testBit_eq_decide_div_mod_eq]
 rcases Nat.mod_two_eq_zero_or_one (x / 2 ^ k) with h|h<;>simp [h]
abbrev CE:=Nat × Nat × Nat
def cin (s:Nat):List (Nat × Nat)→Nat→List CE→Option (Nat × List CE)
 | [],wd,A=>some (wd,A)
 | (i,n)::l,wd,A=>if n=s then (if 2 ^ s≤wd then none else cin s l (wd+1) (A++[(i,wd,s)])) else cin s l wd A
def cout (ps:List (Nat × Nat)):Nat→Nat→Nat→List CE→Option (List CE)
 | 0,_,_,A=>some A
 | k+1,s,wd,A=>(cin s ps (2*wd) A).bind fun x=>cout ps k (s+1) x.1 x.2
def Fx (sz:List Nat):List (Nat × Nat):=(List.range sz.length).map fun i=>(i,sz.getD i 0)
theorem vB {sz:List Nat} {i:Nat} (h:i<sz.length):(Fx sz).drop i=(i,sz[i])::(Fx sz).drop (i+1):=by
 rw [List.drop_eq_getElem_cons (by simp [Fx,h])]
 congr 1
 simp [Fx,h]
theorem KL (sz:List Nat):(Fx sz).drop sz.length=[]:=List.drop_of_length_le (by simp [Fx])
def codeOf (sz:List Nat):Option (List CE):=cout (Fx sz) 32 1 0 []
def lY (sz:List Nat) (s i wd:Nat) (A:List CE):Option (List CE):=(cin s ((Fx sz).drop i) wd A).bind fun x=>cout (Fx sz) (32-s) (s+1) x.1 x.2
section
variable {sz:List Nat} {s i wd:Nat} {A:List CE}
theorem Hw (h:i<sz.length) (hn:sz[i]≠s):lY sz s i wd A=lY sz s (i+1) wd A:=by
 unfold lY
 rw [vB h]
 show (if sz[i]=s then _ else _:Option (Nat × List CE)).bind _=_
 rw [if_neg hn]
theorem DU (h:i<sz.length) (hn:sz[i]=s) (hw:2 ^ s≤wd):lY sz s i wd A=none:=by
 unfold lY
 rw [vB h]
 show (if sz[i]=s then (if 2 ^ s≤wd then none else _) else _:Option (Nat × List CE)).bind _=_
 rw [if_pos hn,if_pos hw];rfl
theorem Ir (h:i<sz.length) (hn:sz[i]=s) (hw:wd<2 ^ s):lY sz s i wd A=lY sz s (i+1) (wd+1) (A++[(i,wd,s)]):=by
 unfold lY
 rw [vB h]
 show (if sz[i]=s then (if 2 ^ s≤wd then none else _) else _:Option (Nat × List CE)).bind _=_
 rw [if_pos hn,if_neg (by omega)]
theorem Fj:lY sz s sz.length wd A=cout (Fx sz) (32-s) (s+1) wd A:=by
 unfold lY
 rw [KL];rfl
theorem Dc (hs:s≤32):cout (Fx sz) (33-s) s wd A=lY sz s 0 (2*wd) A:=by
 rw [show 33-s=(32-s)+1 by omega]
 show (cin s (Fx sz) (2*wd) A).bind _=_
 rfl
structure CI (sz:List Nat) (s i wd:Nat) (A:List CE):Prop where
 JS:∀ a∈A,sz[a.1]?=some a.2.2∧1≤a.2.2∧a.2.2≤s∧a.2.1<2 ^ a.2.2∧(a.2.2=s→a.1<i)∧(a.2.1+1)*2 ^ (s-a.2.2)≤wd
 ord:A.Pairwise fun a b=>(a.2.1+1)*2 ^ (b.2.2-a.2.2)≤b.2.1∧a.2.2≤b.2.2∧(a.2.2=b.2.2→a.1<b.1)
 all:∀ j n,sz[j]?=some n→1≤n→n<s∨(n=s∧j<i)→∃ w,(j,w,n)∈A
 top:wd≤2 ^ s
 num:A.length≤64*(s-1)+i
theorem CI.zero:CI sz 1 0 0 []:=⟨by simp,.nil,fun j n _ h1 h2=>by omega,by simp,by simp⟩
theorem CI.skip (h:CI sz s i wd A) (hi:i<sz.length) (hn:sz[i]≠s):CI sz s (i+1) wd A:=by
 refine ⟨fun a ha=>?_,h.ord,fun j n hj h1 h2=>?_,h.top,by have:=h.num;omega⟩
 ·obtain ⟨h1,h2,h3,h4,h5,h6⟩:=h.JS a ha
  exact ⟨h1,h2,h3,h4,fun e=>by have:=h5 e;omega,h6⟩
 ·rcases h2 with h2|⟨rfl,h2⟩
  ·exact h.all j n hj h1 (.inl h2)
  ·by_cases hji:j=i
   ·subst hji
    rw [List.getElem?_eq_getElem hi] at hj
    exact absurd (Option.some.inj hj) hn
   ·exact h.all j n hj h1 (.inr ⟨rfl,by omega⟩)
theorem CI.put (h:CI sz s i wd A) (hi:i<sz.length) (hn:sz[i]=s) (hs:1≤s) (hw:wd<2 ^ s):CI sz s (i+1) (wd+1) (A++[(i,wd,s)]):=by
 refine ⟨fun a ha=>?_,?_,fun j n hj h1 h2=>?_,hw,by have:=h.num;simp;omega⟩
 ·rcases List.mem_append.1 ha with ha|ha
  ·obtain ⟨h1,h2,h3,h4,h5,h6⟩:=h.JS a ha
   exact ⟨h1,h2,h3,h4,fun e=>by have:=h5 e;omega,by omega⟩
  ·simp at ha;subst ha
   refine ⟨by rw [List.getElem?_eq_getElem hi,hn],hs,Nat.le_refl _,hw,fun _=>Nat.lt_succ_self _,?_⟩
   simp
 ·refine List.pairwise_append.2 ⟨h.ord,by simp,fun a ha b hb=>?_⟩
  simp at hb;subst hb
  obtain ⟨h1,h2,h3,h4,h5,h6⟩:=h.JS a ha
  exact ⟨h6,h3,h5⟩
 ·rcases h2 with h2|⟨h2,h3⟩
  ·obtain ⟨w,hw⟩:=h.all j n hj h1 (.inl h2)
   exact ⟨w,by simp [hw]⟩
  ·by_cases hji:j=i
   ·subst hji;subst h2;exact ⟨wd,by simp⟩
   ·obtain ⟨w,hw⟩:=h.all j n hj h1 (.inr ⟨h2,by omega⟩)
    exact ⟨w,by simp [hw]⟩
theorem CI.next (h:CI sz s sz.length wd A) (hl:sz.length≤64) (hs:1≤s):CI sz (s+1) 0 (2*wd) A:=by
 refine ⟨fun a ha=>?_,h.ord,fun j n hj h1 h2=>?_,by have:=h.top;rw [Nat.pow_succ];omega,by have:=h.num;omega⟩
 ·obtain ⟨h1,h2,h3,h4,h5,h6⟩:=h.JS a ha
  refine ⟨h1,h2,by omega,h4,fun e=>by omega,?_⟩
  rw [show s+1-a.2.2=(s-a.2.2)+1 by omega,Nat.pow_succ,← Nat.mul_assoc]
  omega
 ·have hjl:=(List.getElem?_eq_some_iff.1 hj).1
  rcases h2 with h2|⟨_,h2⟩
  ·by_cases hns:n<s
   ·exact h.all j n hj h1 (.inl hns)
   ·exact h.all j n hj h1 (.inr ⟨by omega,hjl⟩)
  ·omega
theorem JH {w n v m:Nat} (hw:w<2 ^ n) (hv:v<2 ^ m) (hn:n≤m) (h:(w+1)*2 ^ (m-n)≤v):¬ nb w n <+: nb v m∧¬ nb v m <+: nb w n:=by
 have key:¬ nb w n <+: nb v m:=fun hp=>by
  have h1:=List.prefix_iff_eq_take.1 hp
  rw [cA,I9 hn] at h1
  have hlt:v / 2 ^ (m-n)<2 ^ n:=by
   rw [Nat.div_lt_iff_lt_mul (Nat.two_pow_pos _),← Nat.pow_add,show n+(m-n)=m by omega];exact hv
  have h2:=KH hw hlt h1
  have h3:w+1≤v / 2 ^ (m-n):=(Nat.le_div_iff_mul_le (Nat.two_pow_pos _)).2 h
  omega
 refine ⟨key,fun hp=>?_⟩
 have hl:=hp.length_le
 rw [cA,cA] at hl
 have:nb v m=nb w n:=hp.eq_of_length (by rw [cA,cA];omega)
 exact key (this▸List.prefix_refl _)
theorem CI.free (h:CI sz s i wd A) (hw:wd<2 ^ s):∀ a∈A,¬ nb a.2.1 a.2.2 <+: nb wd s∧¬ nb wd s <+: nb a.2.1 a.2.2:=fun a ha=>by
 obtain ⟨h1,h2,h3,h4,h5,h6⟩:=h.JS a ha
 exact JH h4 hw h3 h6
theorem CI.new (h:CI sz s i wd A) (hi:i<sz.length) (hn:sz[i]=s):∀ a∈A,a.1≠i:=fun a ha e=>by
 obtain ⟨h1,h2,h3,h4,h5,h6⟩:=h.JS a ha
 rw [e,List.getElem?_eq_getElem hi,hn] at h1
 have:=h5 (Option.some.inj h1).symm
 omega
end
def slot (T:List Int) (k:Nat) (b:Bool):Int:=T.getD (2*k+b.toNat) 0
def reach (T:List Int):Nat→List Bool→Nat→Prop
 | k,[],m=>k=m
 | k,b::p,m=>0<slot T k b∧reach T (slot T k b).toNat p m
theorem oR {T:List Int} {b:Bool} {m:Nat}:∀ {p:List Bool} {k:Nat},reach T k p m→0<slot T m b→reach T k (p++[b]) (slot T m b).toNat
 | [],k,h,hs=>by obtain rfl:k=m:=h;exact ⟨hs,rfl⟩
 | c::p,k,h,hs=>⟨h.1,oR h.2 hs⟩
def dec (T:List Int):Nat→List Bool→Option (Nat × List Bool)
 | _,[]=>none
 | k,b::l=>if slot T k b<0 then some ((-1-slot T k b).toNat,l) else if slot T k b=0 then none else dec T (slot T k b).toNat l
theorem FK {T:List Int} {l:List Bool} {m:Nat}:∀ {p:List Bool} {k:Nat},reach T k p m→dec T k (p++l)=dec T m l
 | [],k,h=>by obtain rfl:k=m:=h;rfl
 | c::p,k,h=>by
  show (if slot T k c<0 then _ else if slot T k c=0 then _ else dec T (slot T k c).toNat (p++l))=_
  have:=h.1
  rw [if_neg (by omega),if_neg (by omega)]
  exact FK h.2
def Lk (T T':List Int):Prop:=∀ k b,slot T k b≠0→slot T' k b=slot T k b
theorem reach.mono {T T':List Int} (h:Lk T T') {m:Nat}:∀ {p:List Bool} {k:Nat},reach T k p m→reach T' k p m
 | [],_,hr=>hr
 | b::p,k,hr=>by
  have e:=h k b (by have:=hr.1;omega)
  refine ⟨by rw [e];exact hr.1,?_⟩
  rw [e];exact reach.mono h hr.2
theorem Ie {k k':Nat} {b b':Bool} (h:2*k+b.toNat=2*k'+b'.toNat):k=k'∧b=b':=by
 cases b<;>cases b'<;>simp at h ⊢<;>omega
theorem BJ {T:List Int} {k:Nat} {b:Bool} {v:Int} (hk:2*k+b.toNat<T.length) (k':Nat) (b':Bool):slot (T.set (2*k+b.toNat) v) k' b'=if k'=k∧b'=b then v else slot T k' b':=by
 unfold slot
 simp only [List.getD_eq_getElem?_getD]
 by_cases h:k'=k∧b'=b
 ·obtain ⟨rfl,rfl⟩:=h
  rw [if_pos ⟨rfl,rfl⟩,List.getElem?_set_self hk];rfl
 ·rw [if_neg h,List.getElem?_set_ne (fun e=>h (by obtain ⟨rfl,rfl⟩:=Ie e;exact ⟨rfl,rfl⟩))]
theorem F9 (T:List Int) (k:Nat) (b:Bool):slot (T++[0,0]) k b=slot T k b:=by
 unfold slot
 simp only [List.getD_eq_getElem?_getD]
 by_cases h:2*k+b.toNat<T.length
 ·rw [List.getElem?_append_left h]
 ·rw [List.getElem?_append_right (by omega),List.getElem?_eq_none (l:=T) (by omega)]
  rcases hj:2*k+b.toNat-T.length with _|_|j<;>simp
theorem HH {T:List Int} {k:Nat} {b:Bool} (h:T.length≤2*k+b.toNat):slot T k b=0:=by
 unfold slot
 rw [List.getD_eq_getElem?_getD,List.getElem?_eq_none h];rfl
structure TI (T:List Int) (P:List (List Bool)) (W:List (List Bool × Nat)) (x:List Bool):Prop where
 len:T.length=2*P.length
 root:P[0]?=some []
 up:∀ k p b,P[k]?=some p→0<slot T k b→∃ m:Nat,slot T k b=m∧P[m]?=some (p++[b])
 leaf:∀ k p b,P[k]?=some p→slot T k b<0→∃ i:Nat,slot T k b=-1-(i:Int)∧(p++[b],i)∈W
 ext:∀ p∈P,p=[]∨(∃ w∈W,∃ r,r≠[]∧w.1=p++r)∨(∃ r,r≠[]∧x=p++r)
 all:∀ w∈W,∃ p b k,w.1=p++[b]∧reach T 0 p k∧slot T k b=-1-(w.2:Int)
theorem TI.zero:TI [0,0] [[]] [] []:=by
 have h0:∀ k b,slot [0,0] k b=0:=fun k b=>by
  unfold slot
  rcases h:2*k+b.toNat with _|_|j<;>simp
 refine ⟨rfl,rfl,fun k p b _ h=>?_,fun k p b _ h=>?_,fun p hp=>.inl (by simpa using hp),by simp⟩<;>(rw [h0] at h;omega)
theorem TI.want {T:List Int} {P:List (List Bool)} {W:List (List Bool × Nat)} (h:TI T P W []) (x:List Bool):TI T P W x :=
 ⟨h.len,h.root,h.up,h.leaf,fun p hp=>by
  rcases h.ext p hp with h1|h1|⟨r,hr,h1⟩
  ·exact .inl h1
  ·exact .inr (.inl h1)
  ·have:=congrArg List.length h1
   simp at this
   exact .inl (List.eq_nil_of_length_eq_zero (by omega)),h.all⟩
section
variable {T:List Int} {P:List (List Bool)} {W:List (List Bool × Nat)} {x p q:List Bool} {b:Bool} {k i:Nat}
theorem TI.lt (h:TI T P W x) (hk:P[k]?=some p) (b:Bool):2*k+b.toNat<T.length:=by
 have h1:=(List.getElem?_eq_some_iff.1 hk).1
 have h2:=h.len
 cases b<;>simp<;>omega
theorem TI.down (h:TI T P W x) (hx:x=p++b::q) (hk:P[k]?=some p) (hr:reach T 0 p k) (hf:∀ w∈W,¬ w.1 <+: x) :
  slot T k b=0∨∃ m:Nat,slot T k b=(m:Int)∧0<m∧P[m]?=some (p++[b])∧reach T 0 (p++[b]) m:=by
 rcases Int.lt_trichotomy (slot T k b) 0 with h1|h1|h1
 ·obtain ⟨i,_,hm⟩:=h.leaf k p b hk h1
  exact absurd ⟨q,by rw [hx];simp⟩ (hf _ hm)
 ·exact .inl h1
 ·obtain ⟨m,hm,hp⟩:=h.up k p b hk h1
  have:=oR hr h1
  rw [hm] at this
  exact .inr ⟨m,hm,by omega,hp,this⟩
theorem TI.grow (h:TI T P W x) (hx:x=p++b::q) (hq:q≠[]) (hk:P[k]?=some p) (hr:reach T 0 p k) (h0:slot T k b=0) :
  TI ((T++[0,0]).set (2*k+b.toNat) (P.length:Nat)) (P++[p++[b]]) W x∧slot ((T++[0,0]).set (2*k+b.toNat) (P.length:Nat)) k b=(P.length:Nat)∧reach ((T++[0,0]).set (2*k+b.toNat) (P.length:Nat)) 0 (p++[b]) P.length:=by
 have hkl:=(List.getElem?_eq_some_iff.1 hk).1
 have hlt:=h.lt hk b
 have hs:∀ k' b',slot ((T++[0,0]).set (2*k+b.toNat) (P.length:Nat)) k' b'=if k'=k∧b'=b then ((P.length:Nat):Int) else slot T k' b':=fun k' b'=>by
  rw [BJ (by rw [List.length_append];omega),F9]
 have hl:((T++[0,0]).set (2*k+b.toNat) ((P.length:Nat):Int)).length=2*(P++[p++[b]]).length:=by
  have:=h.len
  simp;omega
 generalize (T++[0,0]).set (2 * k + b.toNat) ((P.length:Nat):Int)=T' at *
 have hself:slot T' k b=(P.length:Nat):=by rw [hs,if_pos ⟨rfl,rfl⟩]
 have hmono:Lk T T':=fun k' b' hn=>by
  rw [hs,if_neg (fun e=>hn (by rw [e.1,e.2];exact h0))]
 have hold:∀ {k':Nat} {p':List Bool},P[k']?=some p'→(P++[p++[b]])[k']?=some p':=fun {k' p'} h'=>by
  rw [List.getElem?_append_left (List.getElem?_eq_some_iff.1 h').1];exact h'
 have hnew:(P++[p++[b]])[P.length]?=some (p++[b]):=by simp
 have hwas:∀ {k':Nat} {p':List Bool} {b':Bool},(P++[p++[b]])[k']?=some p'→¬ (k'=k∧b'=b)→slot T' k' b'≠0→P[k']?=some p'∧slot T' k' b'=slot T k' b':=fun {k' p' b'} h1 h2 h3=>by
  have e:=hs k' b'
  rw [if_neg h2] at e
  refine ⟨?_,e⟩
  by_cases hk':k'<P.length
  ·rwa [List.getElem?_append_left hk'] at h1
  ·exfalso;apply h3;rw [e]
   exact HH (by have:=h.len;omega)
 refine ⟨⟨hl,hold h.root,fun k' p' b' h1 h2=>?_,fun k' p' b' h1 h2=>?_,fun p' hp'=>?_,fun w hw=>?_⟩,hself,?_⟩
 ·by_cases hkb:k'=k∧b'=b
  ·obtain ⟨rfl,rfl⟩:=hkb
   rw [hold hk] at h1
   obtain rfl:=Option.some.inj h1
   exact ⟨_,hself,hnew⟩
  ·obtain ⟨h3,h4⟩:=hwas h1 hkb (by omega)
   rw [h4] at h2 ⊢
   obtain ⟨m,hm,hp⟩:=h.up k' p' b' h3 h2
   exact ⟨m,hm,hold hp⟩
 ·by_cases hkb:k'=k∧b'=b
  ·obtain ⟨rfl,rfl⟩:=hkb
   rw [hself] at h2;omega
  ·obtain ⟨h3,h4⟩:=hwas h1 hkb (by omega)
   rw [h4] at h2 ⊢
   exact h.leaf k' p' b' h3 h2
 ·rcases List.mem_append.1 hp' with h1|h1
  ·exact h.ext p' h1
  ·simp at h1;subst h1
   exact .inr (.inr ⟨q,hq,by rw [hx];simp⟩)
 ·obtain ⟨p',b',k',h1,h2,h3⟩:=h.all w hw
  exact ⟨p',b',k',h1,h2.mono hmono,by rw [hmono k' b' (by omega)];exact h3⟩
 ·have h1:=oR (b:=b) (hr.mono hmono) (by rw [hself];omega)
  rwa [hself] at h1
theorem TI.done (h:TI T P W x) (hx:x=p++[b]) (hk:P[k]?=some p) (hr:reach T 0 p k) (hf:∀ w∈W,¬ w.1 <+: x∧¬ x <+: w.1) (i:Nat) :
  slot T k b=0∧TI (T.set (2*k+b.toNat) (-1-(i:Int))) P (W++[(x,i)]) []:=by
 have h0:slot T k b=0:=by
  rcases h.down hx hk hr (fun w hw=>(hf w hw).1) with h1|⟨m,_,_,h1,_⟩
  ·exact h1
  ·exfalso
   rw [← hx] at h1
   rcases h.ext x (List.mem_of_getElem? h1) with h2|⟨w,hw,r,_,h2⟩|⟨r,hr',h2⟩
   ·rw [h2] at hx;simp at hx
   ·exact (hf w hw).2 ⟨r,h2.symm⟩
   ·have:=congrArg List.length h2
    rw [List.length_append] at this
    exact hr' (List.eq_nil_of_length_eq_zero (by omega))
 refine ⟨h0,?_⟩
 have hlt:=h.lt hk b
 have hs:=fun k' b'=>BJ (T:=T) (k:=k) (b:=b) (v:=-1-(i:Int)) hlt k' b'
 have hl:(T.set (2*k+b.toNat) (-1-(i:Int))).length=2*P.length:=by rw [List.length_set];exact h.len
 generalize T.set (2 * k + b.toNat) (-1-(i:Int))=T' at *
 have hself:slot T' k b=-1-(i:Int):=by rw [hs,if_pos ⟨rfl,rfl⟩]
 have hmono:Lk T T':=fun k' b' hn=>by
  rw [hs,if_neg (fun e=>hn (by rw [e.1,e.2];exact h0))]
 refine ⟨hl,h.root,fun k' p' b' h1 h2=>?_,fun k' p' b' h1 h2=>?_,fun p' hp'=>?_,fun w hw=>?_⟩
 ·by_cases hkb:k'=k∧b'=b
  ·obtain ⟨rfl,rfl⟩:=hkb
   rw [hself] at h2;omega
  ·have e:=hs k' b'
   rw [if_neg hkb] at e
   rw [e] at h2 ⊢
   exact h.up k' p' b' h1 h2
 ·by_cases hkb:k'=k∧b'=b
  ·obtain ⟨rfl,rfl⟩:=hkb
   rw [hk] at h1
   obtain rfl:=Option.some.inj h1
   exact ⟨i,hself,by rw [hx];simp⟩
  ·have e:=hs k' b'
   rw [if_neg hkb] at e
   rw [e] at h2 ⊢
   obtain ⟨i',h3,h4⟩:=h.leaf k' p' b' h1 h2
   exact ⟨i',h3,by simp [h4]⟩
 ·rcases h.ext p' hp' with h1|⟨w,hw,h1⟩|⟨r,hr',h1⟩
  ·exact .inl h1
  ·exact .inr (.inl ⟨w,by simp [hw],h1⟩)
  ·exact .inr (.inl ⟨(x,i),by simp,r,hr',h1⟩)
 ·rcases List.mem_append.1 hw with h1|h1
  ·obtain ⟨p',b',k',h2,h3,h4⟩:=h.all w h1
   exact ⟨p',b',k',h2,h3.mono hmono,by rw [hmono k' b' (by omega)];exact h4⟩
  ·simp at h1;subst h1
   exact ⟨p,b,k,hx,hr.mono hmono,hself⟩
end
structure GC (sz ws:List Nat) (T:List Int):Prop where
 le:1≤sz.length∧sz.length≤64
 ok:∀ n∈sz,1≤n∧n≤32
 wl:ws.length=sz.length
 it:∃ A wd P,codeOf sz=some A∧CI sz 33 0 wd A∧(∀ a∈A,ws[a.1]?=some a.2.1)∧TI T P (A.map fun a=>(nb a.2.1 a.2.2,a.1)) []
def cw (sz ws:List Nat) (i:Nat):List Bool:=nb (ws.getD i 0) (sz.getD i 0)
section
variable {sz ws:List Nat} {T:List Int}
theorem DR {A:List CE} {wd:Nat} (h:CI sz 33 0 wd A) (hk:∀ n∈sz,1≤n∧n≤32) (hw:∀ a∈A,ws[a.1]?=some a.2.1) {i:Nat} (hi:i<sz.length):(i,ws.getD i 0,sz.getD i 0)∈A:=by
 have h1:=hk _ (List.getElem_mem hi)
 obtain ⟨w,hm⟩:=h.all i sz[i] (List.getElem?_eq_getElem hi) h1.1 (.inl (by omega))
 have h2:=hw _ hm
 rw [List.getD_eq_getElem?_getD,List.getD_eq_getElem?_getD,h2,List.getElem?_eq_getElem hi]
 exact hm
theorem GC.JS (h:GC sz ws T) {i:Nat} (hi:i<sz.length):∃ A wd,codeOf sz=some A∧CI sz 33 0 wd A∧(i,ws.getD i 0,sz.getD i 0)∈A:=by
 obtain ⟨A,wd,P,hc,hci,hw,hT⟩:=h.it
 exact ⟨A,wd,hc,hci,DR hci h.ok hw hi⟩
theorem GC.Ot (h:GC sz ws T) {i:Nat} (hi:i<sz.length):1≤sz.getD i 0∧sz.getD i 0≤32:=by
 rw [List.getD_eq_getElem?_getD,List.getElem?_eq_getElem hi];exact h.ok _ (List.getElem_mem hi)
theorem GC.Qx (h:GC sz ws T) {i:Nat} (hi:i<sz.length):ws.getD i 0<2 ^ sz.getD i 0:=by
 obtain ⟨A,wd,_,hci,hm⟩:=h.JS hi
 exact (hci.JS _ hm).2.2.2.1
theorem GC.Qw (h:GC sz ws T) {i:Nat} (hi:i<sz.length):ws.getD i 0<18446744073709551616:=by
 have h1:=h.Qx hi
 have h2:=(h.Ot hi).2
 have h3:2 ^ sz.getD i 0≤2 ^ 32:=Nat.pow_le_pow_right (by decide) h2
 omega
theorem Af {i:Nat}:(cw sz ws i).length=sz.getD i 0:=cA _ _
end
end Go.P
namespace Go.Proofs.YtdbnmbkjmeepkaaGreatDoor
open Go Go.K Go.P Go.RowKit Go.Proofs
abbrev RB (a:Option Addr) (c:Nat) (l:List Nat):cK:=Ro 5 1 a l.length c (l.map B)
set_option maxHeartbeats 1000000 in
theorem qV {a:Option Addr} {n cap:Nat} {l:List Nat} {w:World} (hS:cI w a (l.map B)) (hl:gR l) (hn:l.length=n) (hlen:n≤1099511627776) :
  aX Tryz.prog 86 #[.slice a n cap] w fun v w'=>∃ a' c',v=.slice a' (fB 0 l).length c'∧iA (RB a' c' (fB 0 l)) w w':=by
 subst hn
 refine aL (args:=[_]) Tryz.func86 rfl rfl Tryz.ntmps86 rfl ?_
 have hH:=(Hp.start w).nu (iA.tY (e:=5) (sz:=1))
 refine aK ?_
 refine aV (G:=(Nat) × (Option Addr) × (Nat)) (fun|(k,a1,c1)=>l.length-k) 2147483224 (fun|(k,a1,c1)=>[(9,.int .i64 k),(3,.slice a1 (fB 0 (l.take k)).length c1),(4,.int .i64 (pI 0 (l.take k):Nat))]) (fun|(k,a1,c1),w'=>k≤l.length∧Hp [] w w' [RB a1 c1 (fB 0 (l.take k))]) (0,none,0) ⟨rfl,rfl,rfl,trivial⟩ ⟨by omega,hH⟩ ?_
 rintro ⟨k,a1,c1⟩ w' σ ⟨hk,hH⟩ IH
 show WS _ _ _ _ _ (bQ [(9,.int .i64 k),(3,.slice a1 (fB 0 (l.take k)).length c1),(4,.int .i64 (pI 0 (l.take k):Nat))] _) _
 by_cases hlt:k<l.length
 ·have hv:(l.map B)[k]?=some (B l[k]):=by simp [hlt]
  have e1:=GF hlt
  have e2:=F8 hlt
  have hc:l[k]<256:=hl _ (List.getElem_mem hlt)
  have ho:=qL (l.take k) 0
  have hz:=Eo (l.take k) 0 (by omega)
  have hol:(fB 0 (l.take k)).length≤2*l.length:=by simp at ho;omega
  clear ho
  generalize fB 0 (l.take k)=o at *
  generalize pI 0 (l.take k)=z at *
  generalize hcd:l[k]=c at *
  have hSk:=hH.old hS
  repeat (first|refine aR ?_|(refine aD (by first|refine cG rfl rfl hSk (by simp) (Ty.sle rfl) (by omega)|refine aU rfl hSk hv (Ty.aF rfl)) rfl ?_)|refine aT ?_)
  by_cases h2:2≤z∧c≤3
  ·have h21:=h2.1;have h22:=h2.2
   simp only [mE,mG,if_pos h2] at e1 e2
   refine aK ?_
   refine aO ?_
   refine aA (cN (out:=[B 3]) hH (Ty.sle rfl) (Ty.bH rfl) rfl rfl rfl (by decide) rfl ?_)
   try clear hH
   intro _ blit hH
   replace hH:=aI hH
   refine aO ?_
   refine aA (bZ 0 hH rfl (Ty.sle rfl) (Ty.bH rfl) rfl (Ty.gS rfl) (by decide) rfl rfl ((hH.b 1 rfl).cX) (by simp;try omega) (by simp) (by omega) (by simp only [maxLen];omega) rfl ?_)
   try clear hH
   intro _ a2 c2 hH
   replace hH:=aI hH
   replace hH:=hH.del 1
   replace hH:=aI hH
   refine aK ?_
   refine aK ?_
   refine aO ?_
   refine aA (cN (out:=[B c]) hH (Ty.sle rfl) (Ty.bH rfl) rfl rfl rfl (by decide) rfl ?_)
   try clear hH
   intro _ blit hH
   replace hH:=aI hH
   refine aO ?_
   refine aA (bZ 0 hH rfl (Ty.sle rfl) (Ty.bH rfl) rfl (Ty.gS rfl) (by decide) rfl rfl ((hH.b 1 rfl).cX) (by simp;try omega) (by simp) (by omega) (by simp only [maxLen];omega) rfl ?_)
   try clear hH
   intro _ a3 c3 hH
   replace hH:=aI hH
   replace hH:=hH.del 1
   replace hH:=aI hH
   refine aK ?_
   by_cases h0:c=0
   ·simp only [if_pos h0] at e2
    refine aK ?_
    refine IH (k+1,a3,c3) _ _ ?_ ?_ ?_ ?_
    ·simp only;omega
    ·exact Gq
    ·exact cP
    ·exact Gc
   ·simp only [if_neg h0] at e2
    refine aK ?_
    refine IH (k+1,a3,c3) _ _ ?_ ?_ ?_ ?_
    ·simp only;omega
    ·exact Gq
    ·exact cP
    ·exact Gc
  ·simp only [mE,mG,if_neg h2] at e1 e2
   by_cases h21:2≤z
   ·have h22:¬ c≤3:=fun h=>h2 ⟨h21,h⟩
    simp only [if_neg (show ¬ c=0 by omega)] at e2
    refine aK ?_
    refine aO ?_
    refine aA (cN (out:=[B c]) hH (Ty.sle rfl) (Ty.bH rfl) rfl rfl rfl (by decide) rfl ?_)
    try clear hH
    intro _ blit hH
    replace hH:=aI hH
    refine aO ?_
    refine aA (bZ 0 hH rfl (Ty.sle rfl) (Ty.bH rfl) rfl (Ty.gS rfl) (by decide) rfl rfl ((hH.b 1 rfl).cX) (by simp;try omega) (by simp) (by omega) (by simp only [maxLen];omega) rfl ?_)
    try clear hH
    intro _ a3 c3 hH
    replace hH:=aI hH
    replace hH:=hH.del 1
    replace hH:=aI hH
    refine aK ?_
    refine IH (k+1,a3,c3) _ _ ?_ ?_ ?_ ?_
    ·simp only;omega
    ·exact Gq
    ·exact cP
    ·exact Gc
   ·refine aK ?_
    refine aO ?_
    refine aA (cN (out:=[B c]) hH (Ty.sle rfl) (Ty.bH rfl) rfl rfl rfl (by decide) rfl ?_)
    try clear hH
    intro _ blit hH
    replace hH:=aI hH
    refine aO ?_
    refine aA (bZ 0 hH rfl (Ty.sle rfl) (Ty.bH rfl) rfl (Ty.gS rfl) (by decide) rfl rfl ((hH.b 1 rfl).cX) (by simp;try omega) (by simp) (by omega) (by simp only [maxLen];omega) rfl ?_)
    try clear hH
    intro _ a3 c3 hH
    replace hH:=aI hH
    replace hH:=hH.del 1
    replace hH:=aI hH
    refine aK ?_
    by_cases h0:c=0
    ·simp only [if_pos h0] at e2
     refine aK ?_
     refine IH (k+1,a3,c3) _ _ ?_ ?_ ?_ ?_
     ·simp only;omega
     ·exact Gq
     ·exact cP
     ·exact Gc
    ·simp only [if_neg h0] at e2
     refine aK ?_
     refine IH (k+1,a3,c3) _ _ ?_ ?_ ?_ ?_
     ·simp only;omega
     ·exact Gq
     ·exact cP
     ·exact Gc
 ·obtain rfl:k=l.length:=by omega
  rw [List.take_length] at hH ⊢
  refine aK ?_
  exact aM Tryz.func86 rfl ⟨_,_,rfl,hH.oA 0 rfl⟩
theorem mO {w:World}:aX Tryz.prog 85 #[] w fun v w'=>∃ b,v=.slice (some ⟨b,0,none⟩) 3 3∧iA (Rb b 5 #[B 0,B 0,B 1]) w w':=by
 refine aL (args:=[]) Tryz.func85 rfl rfl Tryz.ntmps85 rfl ?_
 have hH:=Hp.start w
 refine aK ?_
 refine aO ?_
 refine aA (cN (out:=[B 0,B 0,B 1]) hH (Ty.sle rfl) (Ty.bH rfl) rfl rfl rfl (by decide) rfl ?_)
 try clear hH
 intro _ b hH
 replace hH:=aI hH
 refine aK ?_
 exact aM Tryz.func85 rfl ⟨_,rfl,hH.oA 0 rfl⟩
end Go.Proofs.YtdbnmbkjmeepkaaGreatDoor
