/- A part of the proof of the card of TopText; no condition. -/
import Derived.Test.YtdbnmbkjmeepkaaGreatDoorT05
namespace Go.P
open Go Go.K Ieee
def sg (s:Bool) (m:Nat):Int:=if s then -(m:Int) else m
theorem rZ (s:Bool) (m u:Nat):signed s m u=sg s m*2 ^ u:=by
 unfold signed sg
 rw [Nat.shiftLeft_eq]
 cases s<;>simp [Int.neg_mul]
theorem sA (a b:Int) {t:Int} (ht:0<t):compare (a*t) (b*t)=compare a b:=by
 simp only [compare,compareOfLessAndEq]
 have h1:a*t<b*t ↔ a<b:=⟨fun h=>Int.lt_of_mul_lt_mul_right h (by omega),fun h=>Int.mul_lt_mul_of_pos_right h ht⟩
 have h2:a*t=b*t ↔ a=b:=⟨fun h=>Int.eq_of_mul_eq_mul_right (by omega) h,fun h=>by rw [h]⟩
 simp only [h1,h2]
theorem two_pos (n:Nat):(0:Int)<2 ^ n:=by
 have:=Nat.two_pow_pos n
 have e:((2:Int) ^ n)=((2 ^ n:Nat):Int):=by simp
 rw [e];omega
def dz:Datum→Option (Int × Nat)
 | .number s m p=>some (sg s (m*2 ^ p.toNat),(-p).toNat)
 | _=>none
theorem Lr (s:Bool) (m n:Nat):sg s (m*n)=sg s m*n:=by cases s<;>simp [sg,Int.neg_mul]
theorem wW {d d':Datum} {z z':Int} {k k':Nat} (h:dz d=some (z,k)) (h':dz d'=some (z',k')):d.order d'=some (compare (z*2 ^ k') (z'*2 ^ k)):=by
 cases d with
 | number s m p =>
  cases d' with
  | number t n q =>
   simp only [dz,Option.some.injEq,Prod.mk.injEq] at h h'
   obtain ⟨rfl,rfl⟩:=h
   obtain ⟨rfl,rfl⟩:=h'
   simp only [Datum.order,rZ,Lr]
   obtain ⟨c,h1,h2⟩:∃ c,p.toNat+(-q).toNat=(p-min p q).toNat+c∧q.toNat+(-p).toNat=(q-min p q).toNat+c:=⟨p.toNat+(-q).toNat-(p-min p q).toNat,by omega,by omega⟩
   have e1:sg s m*((2 ^ p.toNat:Nat):Int)*2 ^ (-q).toNat=sg s m*2 ^ (p-min p q).toNat*2 ^ c:=by
    rw [Int.mul_assoc,Int.mul_assoc]
    congr 1
    rw [show ((2 ^ p.toNat:Nat):Int)=(2:Int) ^ p.toNat by simp,← Int.pow_add,← Int.pow_add,h1]
   have e2:sg t n*((2 ^ q.toNat:Nat):Int)*2 ^ (-p).toNat=sg t n*2 ^ (q-min p q).toNat*2 ^ c:=by
    rw [Int.mul_assoc,Int.mul_assoc]
    congr 1
    rw [show ((2 ^ q.toNat:Nat):Int)=(2:Int) ^ q.toNat by simp,← Int.pow_add,← Int.pow_add,h2]
   rw [e1,e2,sA _ _ (two_pos c)]
  | infinity t=>simp [dz] at h'
  | nan t f=>simp [dz] at h'
 | infinity s=>simp [dz] at h
 | nan s f=>simp [dz] at h
theorem IL (s:Bool) (n k:Nat):Toward.zero.cut s n k=n / 2 ^ k:=by
 simp only [Toward.cut,Bool.toNat_false,Nat.add_zero,Nat.shiftLeft_eq,Nat.one_mul]
 by_cases h:k≤n.log2+2
 ·rw [Nat.min_eq_left h]
 ·rw [Nat.min_eq_right (by omega)]
  have h1:n<2 ^ (n.log2+1):=Nat.lt_log2_self
  have h2:(2:Nat) ^ (n.log2+1)≤2 ^ (n.log2+2):=Nat.pow_le_pow_right (by decide) (by omega)
  have h3:(2:Nat) ^ (n.log2+1)≤2 ^ k:=Nat.pow_le_pow_right (by decide) (by omega)
  rw [Nat.div_eq_of_lt (by omega),Nat.div_eq_of_lt (by omega)]
theorem BI {d:Datum} {z:Int} {k:Nat} (h:dz d=some (z,k)):d.toInt .zero=some (z.tdiv (2 ^ k)):=by
 cases d with
 | number s m p =>
  simp only [dz,Option.some.injEq,Prod.mk.injEq] at h
  obtain ⟨rfl,rfl⟩:=h
  simp only [Datum.toInt,Datum.integral,IL,rZ,Nat.shiftLeft_eq]
  congr 1
  have e:((2:Int) ^ (-p).toNat)=((2 ^ (-p).toNat:Nat):Int):=by simp
  rw [e]
  generalize m*2 ^ p.toNat=n
  generalize 2 ^ (-p).toNat=g
  cases s
  ·simp [sg,Int.tdiv_eq_ediv_of_nonneg]
  ·simp [sg,Int.neg_tdiv,Int.tdiv_eq_ediv_of_nonneg]
 | infinity s=>simp [dz] at h
 | nan s f=>simp [dz] at h
abbrev lU (b:Nat):Datum:=FloatKind.f64.format.read b
def sF:Datum→Int
 | .nan ..=>0
 | .infinity s=>if s then -64 else 64
 | .number s m p=>max (-64) (min 64 ((sg s (m*2 ^ p.toNat)).tdiv (2 ^ (-p).toNat)))
def whole (b:Nat):Int:=sF (lU b)
theorem bU (b:Nat):-64≤whole b∧whole b≤64:=by
 unfold whole sF
 split
 ·omega
 ·split<;>omega
 ·omega
abbrev Fm:Nat:=4634204016564240384
abbrev HF:Nat:=13857576053419016192
def FN (n:Int):Nat:=FloatKind.f64.nearest n
def uM (x y:Nat):Bool:=FloatKind.f64.format.order x y == some .eq
theorem QC:dz (lU Fm)=some (64*2 ^ 46,46):=by decide +kernel
theorem Pl:dz (lU HF)=some (-64*2 ^ 46,46):=by decide +kernel
inductive Fl (b:Nat):Prop
 | nan (h:FloatKind.f64.format.order b b=none) (hw:whole b=0)
 | up (h:FloatKind.f64.format.order b b=some .eq) (h1:FloatKind.f64.format.order b Fm=some .gt) (hw:whole b=64)
 | down (h:FloatKind.f64.format.order b b=some .eq) (o:Ordering) (h1:FloatKind.f64.format.order b Fm=some .lt) (h2:FloatKind.f64.format.order b HF=some .lt) (hw:whole b=-64)
 | mid (h:FloatKind.f64.format.order b b=some .eq) (o o':Ordering) (h1:FloatKind.f64.format.order b Fm=some o) (ho:o≠.gt) (h2:FloatKind.f64.format.order b HF=some o') (ho':o'≠.lt)
  (ht:(lU b).toInt .zero=some (whole b)) (he:o=.eq→whole b=64) (he':o'=.eq→whole b=-64)
theorem Hc (a:Int):compare a a=.eq:=by simp [compare,compareOfLessAndEq]
theorem fl (b:Nat):Fl b:=by
 have hord:∀ c,FloatKind.f64.format.order b c=(lU b).order (lU c):=fun _=>rfl
 have hP:lU Fm=.number false 4503599627370496 (-46):=by decide +kernel
 have hN:lU HF=.number true 4503599627370496 (-46):=by decide +kernel
 cases hd:lU b with
 | nan s f=>exact .nan (by rw [hord,hd];rfl) (by simp [whole,hd,sF])
 | infinity s =>
  cases s with
  | false=>exact .up (by rw [hord,hd];decide) (by rw [hord,hd,hP];rfl) (by simp [whole,hd,sF])
  | true=>exact .down (by rw [hord,hd];decide) .lt (by rw [hord,hd,hP];rfl) (by rw [hord,hd,hN];rfl) (by simp [whole,hd,sF])
 | number s m p =>
  have hz:dz (lU b)=some (sg s (m*2 ^ p.toNat),(-p).toNat):=by rw [hd];rfl
  have hw:whole b=max (-64) (min 64 ((sg s (m*2 ^ p.toNat)).tdiv (2 ^ (-p).toNat))):=by simp [whole,hd,sF]
  have ht:=BI hz
  generalize sg s (m * 2 ^ p.toNat)=z at *
  generalize (-p).toNat=k at *
  have h0:FloatKind.f64.format.order b b=some .eq:=by rw [hord,wW hz hz,Hc]
  have hp:FloatKind.f64.format.order b Fm=some (compare z (64*2 ^ k)):=by
   rw [hord,wW hz QC,show (64:Int)*2 ^ 46*2 ^ k=64*2 ^ k*2 ^ 46 by rw [Int.mul_assoc,Int.mul_comm (2 ^ 46),← Int.mul_assoc],sA _ _ (two_pos 46)]
  have hn:FloatKind.f64.format.order b HF=some (compare z (-64*2 ^ k)):=by
   rw [hord,wW hz Pl,show (-64:Int)*2 ^ 46*2 ^ k=-64*2 ^ k*2 ^ 46 by rw [Int.mul_assoc,Int.mul_comm (2 ^ 46),← Int.mul_assoc],sA _ _ (two_pos 46)]
  have hk:=two_pos k
  generalize (2:Int) ^ k=t at *
  have hc:∀ a b:Int,compare a b=if a<b then .lt else if a=b then .eq else .gt:=fun a b=>rfl
  by_cases hgt:64*t<z
  ·refine .up h0 ?_ ?_
   ·rw [hp,hc,if_neg (by omega),if_neg (by omega)]
   ·have:64≤z.tdiv t:=by
     rw [Int.tdiv_eq_ediv_of_nonneg (by omega)]
     exact (Int.le_ediv_iff_mul_le hk).2 (by omega)
    omega
  ·by_cases hlt:z < -64*t
   ·refine .down h0 .lt ?_ ?_ ?_
    ·rw [hp,hc,if_pos (by omega)]
    ·rw [hn,hc,if_pos (by omega)]
    ·have h1:64≤(-z).tdiv t:=by
      rw [Int.tdiv_eq_ediv_of_nonneg (by omega)]
      exact (Int.le_ediv_iff_mul_le hk).2 (by omega)
     rw [Int.neg_tdiv] at h1
     omega
   ·have hb1:z.tdiv t≤64:=by
     rcases Int.lt_or_le z 0 with hz0|hz0
     ·have h1:0≤(-z).tdiv t:=Int.tdiv_nonneg (by omega) (by omega)
      rw [Int.neg_tdiv] at h1
      omega
     ·rw [Int.tdiv_eq_ediv_of_nonneg hz0]
      have:=Int.ediv_le_ediv hk (show z≤64*t by omega)
      rwa [Int.mul_ediv_cancel _ (by omega)] at this
    have hb2:-64≤z.tdiv t:=by
     rcases Int.lt_or_le z 0 with hz0|hz0
     ·have h1:(-z).tdiv t≤64:=by
       rw [Int.tdiv_eq_ediv_of_nonneg (by omega)]
       have:=Int.ediv_le_ediv hk (show -z≤64*t by omega)
       rwa [Int.mul_ediv_cancel _ (by omega)] at this
      rw [Int.neg_tdiv] at h1
      omega
     ·have:0≤z.tdiv t:=Int.tdiv_nonneg hz0 (by omega)
      omega
    have hwt:whole b=z.tdiv t:=by omega
    refine .mid h0 _ _ hp ?_ hn ?_ (by rw [ht,hwt]) ?_ ?_
    ·rw [hc];split
     ·simp
     ·rw [if_pos (by omega)];simp
    ·rw [hc,if_neg (by omega)];split<;>simp
    ·intro he
     have hz:z=64*t:=by
      rw [hc] at he
      split at he
      ·cases he
      ·split at he
       ·assumption
       ·cases he
     rw [hwt,hz,Int.mul_tdiv_cancel _ (by omega)]
    ·intro he
     have hz:z=-64*t:=by
      rw [hc] at he
      split at he
      ·cases he
      ·split at he
       ·assumption
       ·cases he
     rw [hwt,hz,Int.mul_tdiv_cancel _ (by omega)]
theorem eW (n:Int) (h:-64≤n∧n≤64):whole (FN n)=n:=by
 have key:∀ i:Nat,i<129→whole (FN ((i:Int)-64))=(i:Int)-64:=by decide +kernel
 have:=key (n+64).toNat (by omega)
 rwa [show (((n+64).toNat:Nat):Int)-64=n by omega] at this
theorem AB (n:Int) (h:-64≤n∧n≤64):uM (FN n) (FN n)=true:=by
 have key:∀ i:Nat,i<129→uM (FN ((i:Int)-64)) (FN ((i:Int)-64))=true:=by decide +kernel
 have:=key (n+64).toNat (by omega)
 rwa [show (((n+64).toNat:Nat):Int)-64=n by omega] at this
def Kz (re im:Nat):Bool:=(uM (FN (whole re)) re && uM (FN (whole im)) im) && (decide (-31≤whole re∧whole re≤31) && decide (-31≤whole im∧whole im≤31))
theorem C6 {a b:Int} (ha:-31≤a∧a≤31) (hb:-31≤b∧b≤31):Kz (FN a) (FN b)=true:=by
 unfold Kz
 rw [eW a (by omega),eW b (by omega),AB a (by omega),AB b (by omega)]
 simp [ha,hb]
end Go.P
namespace Go.K
open Go Go.P
section
variable {P:Program} {ρ:Fr} {w:World} {dst:Option Nat} {ty t u:TypeId} {pos:String} {af:Array Edge} {gd:Option (Nat × Bool)} {x y:Operand} {a b c d:Nat} {ats:Array TypeId}
def Ev (P:Program) (t:TypeId):Bool:=match P.underlying t with|some (.float .f64)=>true|_=>false
theorem De (h:Ev P t=true):P.underlying t=some (.float .f64):=by
 unfold Ev at h
 split at h
 ·assumption
 ·cases h
abbrev ord (a b:Nat):Option Ordering:=FloatKind.f64.format.order a b
theorem L6 (hx:ev ρ x=.float .f64 a) (hy:ev ρ y=.float .f64 b):cU P ρ ⟨dst,.binOp .neq t x y u,ty,pos,af,gd⟩ w (.bool (ord a b != some .eq)) w :=
 dB hx hy (aZ rfl) (by simp [binOp,Op.floatCmp])
theorem Lm (hx:ev ρ x=.float .f64 a) (hy:ev ρ y=.float .f64 b):cU P ρ ⟨dst,.binOp .gtr t x y u,ty,pos,af,gd⟩ w (.bool (ord a b == some .gt)) w :=
 dB hx hy (aZ rfl) (by simp [binOp,Op.floatCmp])
theorem Mj (hx:ev ρ x=.float .f64 a) (hy:ev ρ y=.float .f64 b):cU P ρ ⟨dst,.binOp .lss t x y u,ty,pos,af,gd⟩ w (.bool (ord a b == some .lt)) w :=
 dB hx hy (aZ rfl) (by simp [binOp,Op.floatCmp])
theorem uJ {o:Option Ordering} (h:ord a b=o) (hx:ev ρ x=.float .f64 a) (hy:ev ρ y=.float .f64 b):cU P ρ ⟨dst,.binOp .neq t x y u,ty,pos,af,gd⟩ w (.bool (o != some .eq)) w:=h▸L6 hx hy
theorem Ap {o:Option Ordering} (h:ord a b=o) (hx:ev ρ x=.float .f64 a) (hy:ev ρ y=.float .f64 b):cU P ρ ⟨dst,.binOp .gtr t x y u,ty,pos,af,gd⟩ w (.bool (o == some .gt)) w:=h▸Lm hx hy
theorem EG {o:Option Ordering} (h:ord a b=o) (hx:ev ρ x=.float .f64 a) (hy:ev ρ y=.float .f64 b):cU P ρ ⟨dst,.binOp .lss t x y u,ty,pos,af,gd⟩ w (.bool (o == some .lt)) w:=h▸Mj hx hy
theorem Mp {o:Ordering} (h:o≠.gt):Value.bool (some o == some .gt)=.bool false:=by cases o<;>first|rfl|exact absurd rfl h
theorem not_lt {o:Ordering} (h:o≠.lt):Value.bool (some o == some .lt)=.bool false:=by cases o<;>first|rfl|exact absurd rfl h
theorem vL (hx:ev ρ x=.complex .f64 a b) (hy:ev ρ y=.complex .f64 c d):cU P ρ ⟨dst,.binOp .eql t x y u,ty,pos,af,gd⟩ w (.bool (uM a c && uM b d)) w :=
 dB hx hy (aZ rfl) (by simp [binOp,Op.complexOp,Op.Complex.cmp,Op.floatCmp,asBool,uM])
theorem Cu (hx:ev ρ x=.complex .f64 a b) (hy:ev ρ y=.complex .f64 c d):cU P ρ ⟨dst,.binOp .neq t x y u,ty,pos,af,gd⟩ w (.bool !(uM a c && uM b d)) w :=
 dB hx hy (aZ rfl) (by simp [binOp,Op.complexOp,Op.Complex.cmp,Op.floatCmp,asBool,uM])
theorem rT (hx:ev ρ x=.float .f64 a) (hy:ev ρ y=.float .f64 b):cU P ρ ⟨dst,.call ⟨.builtin .complex,#[x,y],ats⟩,ty,pos,af,gd⟩ w (.complex .f64 a b) w:=by
 have h:Builtin.complex_ ats ty #[Value.float .f64 a,Value.float .f64 b]=pure (.complex .f64 a b):=rfl
 constructor;unfold execOp;simp [hx,hy,resolve,invoke,builtin,h]
theorem DL (hx:ev ρ x=.complex .f64 a b):cU P ρ ⟨dst,.call ⟨.builtin .real,#[x],ats⟩,ty,pos,af,gd⟩ w (.float .f64 a) w:=by
 have h:Builtin.real_ ats ty #[Value.complex .f64 a b]=pure (.float .f64 a):=rfl
 constructor;unfold execOp;simp [hx,resolve,invoke,builtin,h]
theorem DX (hx:ev ρ x=.complex .f64 a b):cU P ρ ⟨dst,.call ⟨.builtin .imag,#[x],ats⟩,ty,pos,af,gd⟩ w (.float .f64 b) w:=by
 have h:Builtin.imag_ ats ty #[Value.complex .f64 a b]=pure (.float .f64 b):=rfl
 constructor;unfold execOp;simp [hx,resolve,invoke,builtin,h]
theorem kX {q:IntKind} {i:Int} (hx:ev ρ x=.int q i) (hs:(P.underlying t).isSome=true) (hd:Ev P u=true):cU P ρ ⟨dst,.convert t u x,ty,pos,af,gd⟩ w (.float .f64 (FN i)) w:=by
 obtain ⟨ds,hd'⟩:=Option.isSome_iff_exists.mp hs
 constructor;unfold execOp
 simp [hx,convert,run_underlying hd',run_underlying (De hd),Conv.intToFloat,FN]
theorem lA {i:Int} (hx:ev ρ x=.float .f64 a) (hs:(P.underlying t).isSome=true) (hd:kindOf P u=some .i64) (hi:(lU a).toInt .zero=some i) (hb:-9223372036854775808≤i∧i≤9223372036854775807):cU P ρ ⟨dst,.convert t u x,ty,pos,af,gd⟩ w (.int .i64 i) w:=by
 obtain ⟨ds,hd'⟩:=Option.isSome_iff_exists.mp hs
 have hi':(FloatKind.f64.decode a).toInt .zero=some i:=hi
 have hb':IntKind.i64.min≤i∧i≤IntKind.i64.max:=by
  simp only [IntKind.min,IntKind.max,IntKind.signed,IntKind.bits]
  simpa using hb
 have h2:Conv.floatToInt .f64 a .i64=pure (.int .i64 i):=by
  unfold Conv.floatToInt
  rw [hi']
  exact if_pos hb'
 constructor;unfold execOp
 simp [hx,convert,run_underlying hd',run_underlying (fD hd),h2]
end
end Go.K
namespace Go.K
open Go Go.RowKit
def sep (r s:cK):cK:=⟨r.fp++s.fp,fun w=>r.holds w∧s.holds w∧Dj r s,fun h hE hS=>⟨r.keep h.1 hE (fun x hx hb=>hS x hx (by simp [hb])),s.keep h.2.1 hE (fun x hx hb=>hS x hx (by simp [hb])),h.2.2⟩,
 fun h x hx=>by rcases List.mem_append.1 hx with h1|h1;exact r.lt h.1 x h1;exact s.lt h.2.1 x h1⟩
theorem fT {α:Type} (H:List α) (i:Nat) (r s:α) (hi:i<H.length):∀ j x,(H.set i r++[s])[j]?=some x→(j=i∧x=r)∨(j=H.length∧x=s)∨(j≠i∧j<H.length∧H[j]?=some x):=by
 intro j x hj
 by_cases h1:j<H.length
 ·rw [List.getElem?_append_left (by simpa using h1)] at hj
  by_cases h2:i=j
  ·subst h2;rw [List.getElem?_set_self hi] at hj;cases hj;exact .inl ⟨rfl,rfl⟩
  ·rw [List.getElem?_set_ne h2] at hj;exact .inr (.inr ⟨fun e=>h2 e.symm,h1,hj⟩)
 ·rw [List.getElem?_append_right (by simp;omega)] at hj
  simp only [List.length_set] at hj
  by_cases h2:j=H.length
  ·subst h2;simp at hj;exact .inr (.inl ⟨rfl,hj.symm⟩)
  ·rw [List.getElem?_eq_none (by simp;omega)] at hj;cases hj
section
variable {S:List Nat} {W w w':World} {H:List cK} {r s t:cK} {i j:Nat}
theorem Hp.split (i:Nat) (h:Hp S W w H) (hi:H[i]?=some (sep r s)):Hp S W w (H.set i r++[s]):=by
 have hlt:i<H.length:=(List.getElem?_eq_some_iff.1 hi).1
 have hh:r.holds w∧s.holds w∧Dj r s:=h.at i hi
 have hmem:∀ x∈H.set i r++[s],x=r∨x=s∨∃ j,j≠i∧H[j]?=some x:=fun x hx=>by
  obtain ⟨j,hj⟩:=List.mem_iff_getElem?.1 hx
  rcases fT H i r s hlt j x hj with ⟨_,e⟩|⟨_,e⟩|⟨h1,_,h2⟩
  ·exact .inl e
  ·exact .inr (.inl e)
  ·exact .inr (.inr ⟨j,h1,h2⟩)
 have dr:∀ j x,j≠i→H[j]?=some x→Dj r x:=fun j x hj hx y hy hyx=>h.dj i j hi hx (Ne.symm hj) y (List.mem_append.2 (.inl hy)) hyx
 have ds:∀ j x,j≠i→H[j]?=some x→Dj s x:=fun j x hj hx y hy hyx=>h.dj i j hi hx (Ne.symm hj) y (List.mem_append.2 (.inr hy)) hyx
 refine ⟨h.ext,fun x hx=>?_,fun x hx y hy=>?_,?_⟩
 ·rcases hmem x hx with rfl|rfl|⟨j,_,hj⟩
  ·exact hh.1
  ·exact hh.2.1
  ·exact h.at j hj
 ·rcases hmem x hx with rfl|rfl|⟨j,_,hj⟩
  ·exact h.new _ (List.mem_of_getElem? hi) y (List.mem_append.2 (.inl hy))
  ·exact h.new _ (List.mem_of_getElem? hi) y (List.mem_append.2 (.inr hy))
  ·exact h.new x (List.mem_of_getElem? hj) y hy
 ·rw [List.pairwise_iff_getElem]
  intro a b ha hb hab
  have h1:=fT H i r s hlt a _ (List.getElem?_eq_getElem ha)
  have h2:=fT H i r s hlt b _ (List.getElem?_eq_getElem hb)
  rcases h1 with ⟨e1,h1⟩|⟨e1,h1⟩|⟨e1,f1,h1⟩<;>rcases h2 with ⟨e2,h2⟩|⟨e2,h2⟩|⟨e2,f2,h2⟩
  ·omega
  ·rw [h1,h2];exact hh.2.2
  ·rw [h1];exact dr b _ e2 h2
  ·omega
  ·omega
  ·omega
  ·rw [h2];exact (dr a _ e1 h1).symm
  ·rw [h2];exact (ds a _ e1 h1).symm
  ·exact h.dj a b h1 h2 (by omega)
theorem Hp.merge (i j:Nat) (h:Hp S W w H) (hi:H[i]?=some r) (hj:H[j]?=some s) (hne:i≠j):Hp S W w ((H.set i (sep r s)).eraseIdx j):=by
 have hil:i<H.length:=(List.getElem?_eq_some_iff.1 hi).1
 have hmem:∀ m x,m≠j→(H.set i (sep r s))[m]?=some x→(m=i∧x=sep r s)∨(m≠i∧H[m]?=some x):=fun m x _ hm=>by
  by_cases h2:i=m
  ·subst h2;rw [List.getElem?_set_self hil] at hm;cases hm;exact .inl ⟨rfl,rfl⟩
  ·rw [List.getElem?_set_ne h2] at hm;exact .inr ⟨fun e=>h2 e.symm,hm⟩
 have here:∀ x∈(H.set i (sep r s)).eraseIdx j,∃ m,m≠j∧(H.set i (sep r s))[m]?=some x:=fun x hx=>by
  obtain ⟨m,hm,hx⟩:=List.mem_eraseIdx_iff_getElem?.1 hx
  exact ⟨m,hm,hx⟩
 have hsep:(sep r s).holds w:=⟨h.at i hi,h.at j hj,h.dj i j hi hj hne⟩
 have dsep:∀ m x,m≠i→m≠j→H[m]?=some x→Dj (sep r s) x:=fun m x h1 h2 hm y hy hyx=>by
  rcases List.mem_append.1 hy with h3|h3
  ·exact h.dj i m hi hm (Ne.symm h1) y h3 hyx
  ·exact h.dj j m hj hm (Ne.symm h2) y h3 hyx
 refine ⟨h.ext,fun x hx=>?_,fun x hx y hy=>?_,?_⟩
 ·obtain ⟨m,hmj,hm⟩:=here x hx
  rcases hmem m x hmj hm with ⟨_,rfl⟩|⟨_,h2⟩
  ·exact hsep
  ·exact h.at m h2
 ·obtain ⟨m,hmj,hm⟩:=here x hx
  rcases hmem m x hmj hm with ⟨_,rfl⟩|⟨_,h2⟩
  ·rcases List.mem_append.1 hy with h3|h3
   ·exact h.new r (List.mem_of_getElem? hi) y h3
   ·exact h.new s (List.mem_of_getElem? hj) y h3
  ·exact h.new x (List.mem_of_getElem? h2) y hy
 ·rw [List.pairwise_iff_getElem]
  intro a b ha hb hab
  have key:∀ m (hm:m<((H.set i (sep r s)).eraseIdx j).length),∃ m',m'≠j∧(H.set i (sep r s))[m']?=some ((H.set i (sep r s)).eraseIdx j)[m]∧m'=if m<j then m else m+1:=fun m hm=>by
   have:=List.getElem?_eq_getElem hm
   rw [List.getElem?_eraseIdx] at this
   by_cases hmj:m<j
   ·rw [if_pos hmj] at this;exact ⟨m,by omega,this,by rw [if_pos hmj]⟩
   ·rw [if_neg hmj] at this;exact ⟨m+1,by omega,this,by rw [if_neg hmj]⟩
  obtain ⟨a',ha1,ha2,ha3⟩:=key a ha
  obtain ⟨b',hb1,hb2,hb3⟩:=key b hb
  have hab':a'≠b':=by rw [ha3,hb3];split<;>split<;>omega
  rcases hmem a' _ ha1 ha2 with ⟨e1,h1⟩|⟨e1,h1⟩<;>rcases hmem b' _ hb1 hb2 with ⟨e2,h2⟩|⟨e2,h2⟩
  ·omega
  ·rw [h1];exact dsep b' _ e2 hb1 h2
  ·rw [h2];exact (dsep a' _ e1 ha1 h1).symm
  ·exact h.dj a' b' h1 h2 hab'
theorem Hp.dX {r':cK} (i:Nat) (h:Hp r.fp W w H) (hi:H[i]?=some r'):jA r r' W w:=⟨h.ext,h.at i hi,h.new r' (List.mem_of_getElem? hi)⟩
theorem jA.same (h:r.holds w) (hE:Ext [] w w'):jA r r w w':=⟨hE.weaken (by simp),r.keep h hE (by simp),fun _ hx=>.inl hx⟩
end
section
variable {P:Program} {N:Nat} {K:Fr→World→Prop} {ρ:Fr} {S:List Nat} {W w:World} {H:List cK}
variable {v:Value} {dst:Option Nat} {d:Nat} {ty:TypeId} {pos:String} {af:Array Edge} {gd:Option (Nat × Bool)} {x y z:Operand} {t u e:TypeId} {q:IntKind}
def nC (P:Program) (t:TypeId):Bool:=match P.underlying t with|some (.pointer _)=>true|_=>false
theorem tW (n:Nat) {a b:Option Addr} (ht:nC P t=true) (h:a=none∨b=none):(Op.equalIn (n+1) t (.pointer a) (.pointer b)).run P w=.ok (a.isNone && b.isNone) w:=by
 unfold nC at ht
 split at ht
 ·rename_i el hu
  unfold Op.equalIn
  rcases h with rfl|rfl
  ·simp only [Sem.run_bind,run_underlying hu,Result.andThen_ok];rfl
  ·cases a<;>(simp only [Sem.run_bind,run_underlying hu,Result.andThen_ok];rfl)
 ·cases ht
theorem oI {a b:Option Addr} (ht:nC P t=true) (h:a=none∨b=none):(Op.equal t (.pointer a) (.pointer b)).run P w=.ok (a.isNone && b.isNone) w:=tW 9999 ht h
theorem gF {a b:Option Addr} (hx:ev ρ x=.pointer a) (hy:ev ρ y=.pointer b) (h:a=none∨b=none) (ht:nC P t=true):cU P ρ ⟨dst,.binOp .eql t x y u,ty,pos,af,gd⟩ w (.bool (a.isNone && b.isNone)) w :=
 dB hx hy (aZ rfl) (by simp only [binOp,Sem.run_bind,oI (w:=w) ht h,Result.andThen_ok,Sem.run_pure])
theorem Jn {a b:Option Addr} (hx:ev ρ x=.pointer a) (hy:ev ρ y=.pointer b) (h:a=none∨b=none) (ht:nC P t=true):cU P ρ ⟨dst,.binOp .neq t x y u,ty,pos,af,gd⟩ w (.bool (!(a.isNone && b.isNone))) w :=
 dB hx hy (aZ rfl) (by simp only [binOp,Sem.run_bind,oI (w:=w) ht h,Result.andThen_ok,Sem.run_pure])
theorem Jp (i:Nat) {b n cap m c2:Nat} {a2:Option Addr} {vs us:List Value} {ta tb:TypeId} {g:Bool} {e':TypeId} (hH:Hp S W w H) (hi:H[i]?=some (Ro e 1 (some ⟨b,0,none⟩) n cap us)) (ht:sle P ta=some (e',(g,1))) (hx:ev ρ x=.slice (some ⟨b,0,none⟩) n cap) (hy:ev ρ y=.slice a2 m c2) (hS:cI w a2 vs) (hl:vs.length=m)
  (hm:m≤n) (h1:∀ u∈vs,u.oneCell'=true) (hd:gI N dst=true)
  (hk:∀ w',Hp S W w' (H.set i (Ro e 1 (some ⟨b,0,none⟩) n cap (vs++us.drop m)))→K (fK ρ dst (.int .i64 m)) w'):kC P N ρ ⟨dst,.call ⟨.builtin .copy,#[x,y],#[ta,tb]⟩,ty,pos,af,gd⟩ w K:=by
 obtain ⟨hl0,hnc,hcm,⟨h0,_⟩|⟨b',cur,hb',hB,hcs,htk⟩⟩:=hH.o i hi
 ·cases h0
 ·cases hb'
  refine Mn (o:=0) ht hx hB hy hS hl hm (by omega) h1 hd (fun w' hE hB' _=>hk w' (hH.up i hi ⟨hE,⟨?_,hnc,hcm,.inr ⟨b,_,rfl,hB',?_,?_⟩⟩,fun _ hx=>.inl hx⟩))
  ·rw [List.length_append,List.length_drop,hl0,hl];omega
  ·simp only [List.size_toArray,List.length_append,List.length_take,List.length_drop,Array.length_toList,hcs,hl];omega
  ·simp only [List.take_zero,List.nil_append,Nat.zero_add,Nat.mul_one] at htk ⊢
   rw [List.take_append,List.take_of_length_le (by omega),hl,← htk,List.drop_take]
end
section
variable {P:Program} {N:Nat} {f:FuncId} {R:Value→World→Prop} {k:List Item} {ρ:Fr} {w:World}
theorem Bh {l:List Oper} {C:Fr→World→Prop} (sp:List (Nat × List (Nat × Nat) × Bool)) (hok:kQ l 0 l sp=true) (hds:iT N l=true) (hdn:fO l=true) (S:Nat→Value→World→Prop)
  (dW:∀ i v w w',S i v w→Ext [] w w'→S i v w') (cW:iN P N S ρ w 0 l sp)
  (hfin:∀ ρ' w',Ext [] w w'→(∀ (i:Nat) (o:Oper) (d:Nat),l[i]?=some o→o.dst=some d→S i (ρ' d) w')→(∀ t,(∀ o∈l,o.dst≠some t)→ρ' t=ρ t)→C ρ' w') :
  ∀ a,sW N a ρ→wpAny P .any l.toArray (QN N C) l.length (Array.replicate l.length false) a w.drew:=by
 intro a ha
 have hU:∀ (i j:Nat) (o o':Oper),l[i]?=some o→l[j]?=some o'→i≠j→o.dst≠none→o.dst≠o'.dst:=fun i j o o' h1 h2 hij hn=>by
  simp only [iT,Bool.and_eq_true] at hds
  have h3:=List.all_eq_true.1 hds.2 (o,i) (List.mem_zipIdx_iff_getElem?.2 h1)
  have h4:=List.all_eq_true.1 h3 (o',j) (List.mem_zipIdx_iff_getElem?.2 h2)
  simp only [Bool.or_eq_true,beq_iff_eq,bne_iff_ne,ne_eq,Option.isNone_iff_eq_none] at h4
  rcases h4 with (h4|h4)|h4
  ·exact absurd h4 hij
  ·exact absurd h4 hn
  ·exact h4
 have hlt0:∀ (i:Nat) (o:Oper),l[i]?=some o→∀ e∈eH o,e<i:=fun i o hi e he=>by
  have h1:=List.all_eq_true.1 hdn (o,i) (List.mem_zipIdx_iff_getElem?.2 hi)
  have h2:=List.all_eq_true.1 h1 e he
  simpa [Nat.blt_eq] using h2
 have key:∀ (fuel:Nat) (D:Array Bool) (ρ':Fr) (w':World) (a':Act),D.size=l.length→sW N a' ρ'→Ext [] w w' →
   (∀ (i:Nat) (o:Oper) (d:Nat),l[i]?=some o→D.getD i false=true→o.dst=some d→S i (ρ' d) w') →
   (∀ (i:Nat) (o:Oper) (d:Nat),l[i]?=some o→D.getD i false=false→o.dst=some d→ρ' d=ρ d) →
   (∀ t,(∀ o∈l,o.dst≠some t)→ρ' t=ρ t) →
   (∀ (i:Nat) (o:Oper),l[i]?=some o→D.getD i false=true→∀ e∈eH o,D.getD e false=true) →
   (D.toList.count false≤fuel)→(∀ (i:Nat) (o:Oper),l[i]?=some o→∀ e∈eH o,e<i) →
   wpAny P .any l.toArray (QN N C) fuel D a' w':=by
  intro fuel
  induction fuel with
  | zero =>
   intro D ρ' w' a' hsz ha' hE h1 h2 h3 h4 hf _
   have hall':∀ i o,l[i]?=some o→D.getD i false=true:=fun i o hi=>by
    have hlt:i<D.size:=by rw [hsz];exact (List.getElem?_eq_some_iff.1 hi).1
    have h0:D.toList.count false=0:=by omega
    have:=List.count_eq_zero.1 h0
    cases hb:D.getD i false with
    | true=>rfl
    | false =>
     exfalso
     apply this
     rw [List.mem_iff_getElem?]
     exact ⟨i,by simp [Array.getD,hlt] at hb;simp [hlt,hb]⟩
   refine ⟨?_,rfl,ρ',ha',hfin ρ' w' hE (fun i o d hi hd=>h1 i o d hi (hall' i o hi) hd) h3⟩
   refine List.eq_nil_iff_forall_not_mem.2 (fun i hi=>?_)
   rw [mem_ready] at hi
   obtain ⟨hi0,o,ho,_⟩:=hi
   have ho':l[i]?=some o:=by simpa using ho
   have hlt:i<D.size:=by rw [hsz];exact (List.getElem?_eq_some_iff.1 ho').1
   have:=hall' i o ho'
   simp [Array.getD,hlt] at this hi0
   rw [this] at hi0;cases hi0
  | succ fuel ih =>
   intro D ρ' w' a' hsz ha' hE h1 h2 h3 h4 hf hlt
   refine ⟨fun hnil=>?_,fun j hj=>?_⟩
   ·
    have hall':∀ i o,l[i]?=some o→D.getD i false=true:=by
     intro i
     induction i using Nat.strongRecOn with
     | _ i ihi =>
      intro o hi
      cases hb:D.getD i false with
      | true=>rfl
      | false =>
       exfalso
       have hil:i<D.size:=by rw [hsz];exact (List.getElem?_eq_some_iff.1 hi).1
       have:i∈Region.ready .any l.toArray D:=by
        rw [mem_ready]
        refine ⟨by simp [Array.getD,hil] at hb ⊢;exact hb,o,by simpa using hi,fun e he hbi=>?_⟩
        have hed:e.on∈eH o:=List.mem_filterMap.2 ⟨e,by simpa using he,by simp [hbi]⟩
        have hlt':=hlt i o hi _ hed
        obtain ⟨oe,hoe⟩:∃ oe,l[e.on]?=some oe:=⟨l[e.on]'(by have:=(List.getElem?_eq_some_iff.1 hi).1;omega),by simp⟩
        exact ihi _ hlt' oe hoe
       rw [hnil] at this
       cases this
    exact ⟨rfl,ρ',ha',hfin ρ' w' hE (fun i o d hi hd=>h1 i o d hi (hall' i o hi) hd) h3⟩
   ·obtain ⟨hj0,o,ho,hedge⟩:=mem_ready.1 hj
    have ho':l[j]?=some o:=by simpa using ho
    have hjl:j<D.size:=by rw [hsz];exact (List.getElem?_eq_some_iff.1 ho').1
    have hjf:D.getD j false=false:=by simp [Array.getD,hjl] at hj0 ⊢;exact hj0
    have hedges:∀ e∈eH o,D.getD e false=true:=fun e he=>by
     obtain ⟨ed,hed,heq⟩:=List.mem_filterMap.1 he
     cases hb:Region.binds .any ed with
     | false=>rw [hb] at heq;cases heq
     | true=>rw [hb] at heq;cases heq;exact hedge ed (by simpa using hed) hb
    obtain ⟨m,ds,tk,hsp,hone⟩:=rW hok ho'
    rw [Nat.zero_add] at hone
    simp only [zO,Bool.and_eq_true] at hone
    obtain ⟨⟨⟨hg,_⟩,hds1⟩,hm2⟩:=hone
    have hdep:∀ p∈ds,S p.1 (ρ' p.2) w':=fun p hp=>by
     have:=List.all_eq_true.1 hds1 p hp
     simp only [Bool.and_eq_true,beq_iff_eq] at this
     obtain ⟨he,hdst⟩:=this
     cases hoi:l[p.1]? with
     | none=>rw [hoi] at hdst;cases hdst
     | some oi =>
      rw [hoi] at hdst
      exact h1 p.1 oi p.2 hoi (hedges _ (by simpa using he)) hdst
    obtain ⟨hgk,hstp0,hun⟩:=nD cW ho' hsp
    have hF:bQ (ds.map fun p=>(p.2,ρ' p.2)) (oW m ρ ρ')=ρ':=by
     have hmr:oW m ρ ρ'=ρ':=by
      funext t
      show cond (sM m t) (ρ' t) (ρ t)=ρ' t
      cases hi:sM m t with
      | true=>rfl
      | false =>
       show ρ t=ρ' t
       by_cases hw:∃ o'∈l,o'.dst=some t
       ·obtain ⟨o',ho'm,hd'⟩:=hw
        obtain ⟨i,hio⟩:=List.mem_iff_getElem?.1 ho'm
        have h5:=List.all_eq_true.1 hm2 (o',i) (List.mem_zipIdx_iff_getElem?.2 hio)
        simp only [hd',hi,Bool.or_eq_true,Bool.false_eq_true,false_or,beq_iff_eq,List.contains_eq_mem,decide_eq_true_eq] at h5
        have hif:D.getD i false=false:=by
         rcases h5 with h5|h5
         ·cases hb:D.getD i false with
          | false=>rfl
          | true=>rw [h4 i o' hio hb j h5] at hjf;cases hjf
         ·subst h5;exact hjf
        exact (h2 i o' t hio hif hd').symm
       ·exact (h3 t (fun o' ho'm e=>hw ⟨o',ho'm,e⟩)).symm
     rw [hmr]
     have:=jG ρ' (ds.map (·.2))
     rw [List.map_map] at this
     exact this
    have hset:∀ i,(D.setIfInBounds j true).getD i false=true ↔ (i=j∨D.getD i false=true):=fun i=>by
     by_cases hij:i=j
     ·subst hij;simp [Array.getD,hjl]
     ·rw [getD_set_ne false (Ne.symm hij)];simp [hij]
    have iQ:∀ (v:Value) (i:Nat) (oi:Oper) (d:Nat),l[i]?=some oi→oi.dst=some d→i≠j→fK ρ' o.dst v d=ρ' d:=fun v i oi d hi hd hij=>by
     cases hod:o.dst with
     | none=>rfl
     | some dj =>
      refine nI _ _ (fun e=>?_)
      subst e
      exact hU i j oi o hi ho' hij (by rw [hd];simp) (by rw [hd,hod])
    have next:∀ v a'' w'',sW N a'' (fK ρ' o.dst v)→Ext [] w' w''→S j v w''→wpAny P .any l.toArray (QN N C) fuel (D.setIfInBounds j true) a'' w'':=by
     intro v a'' w'' hr'' hE'' hS
     refine ih _ (fK ρ' o.dst v) w'' a'' (by simp [hsz]) hr'' (hE.bO hE'') ?_ ?_ ?_ ?_ ?_ hlt
     ·intro i oi d hi hdone hd
      by_cases hij:i=j
      ·subst hij
       rw [ho'] at hi;cases hi
       rw [hd]
       show S i (dX ρ' d v d) w''
       rw [nE];exact hS
      ·rw [iQ v i oi d hi hd hij]
       exact dW _ _ _ _ (h1 i oi d hi (((hset i).1 hdone).resolve_left hij) hd) hE''
     ·intro i oi d hi hnd hd
      have hij:i≠j:=fun e=>by subst e;rw [(hset i).2 (.inl rfl)] at hnd;cases hnd
      rw [iQ v i oi d hi hd hij]
      refine h2 i oi d hi ?_ hd
      cases hb:D.getD i false with
      | false=>rfl
      | true=>rw [(hset i).2 (.inr hb)] at hnd;cases hnd
     ·intro t ht
      have:fK ρ' o.dst v t=ρ' t:=by
       cases hod:o.dst with
       | none=>rfl
       | some dj=>exact nI _ _ (fun e=>ht o (List.mem_of_getElem? ho') (by rw [hod,e]))
      rw [this];exact h3 t ht
     ·intro i oi hi hdone e he
      refine (hset e).2 (.inr ?_)
      rcases (hset i).1 hdone with rfl|hb
      ·rw [ho'] at hi;cases hi;exact hedges e he
      ·exact h4 i oi hi hb e he
     ·have hc:(D.setIfInBounds j true).toList.count false+1=D.toList.count false:=by
       rw [Array.toList_setIfInBounds]
       have hj2:D.toList[j]?=some false:=by simp [Array.getD,hjl] at hjf;simp [hjl,hjf]
       exact fG D.toList j hj2
      omega
    unfold wpOp
    rw [show l.toArray[j]?=some o from ho]
    simp only
    have hdo:gI N o.dst=true:=by
     simp only [iT,Bool.and_eq_true] at hds
     exact List.all_eq_true.1 hds.1 o (List.mem_of_getElem? ho')
    have hgv:∀ g want,o.guard=some (g,want)→∃ d,oT l.toArray g=some d∧Nat.blt d N=true∧S g (ρ' d) w':=fun g want hgw=>by
     rw [hgw] at hg
     simp only [Bool.and_eq_true] at hg
     obtain ⟨he,hd⟩:=hg
     unfold oT at hd ⊢
     have he':g∈eH o:=by simpa using he
     cases hog:l[g]? with
     | none=>simp [hog] at hd
     | some og =>
      cases hdg:og.dst with
      | none=>simp [hog,hdg] at hd
      | some d =>
       refine ⟨d,by simp [hog,hdg],?_,h1 g og d hog (hedges g he') hdg⟩
       simp only [iT,Bool.and_eq_true] at hds
       have:=List.all_eq_true.1 hds.1 og (List.mem_of_getElem? hog)
       simpa [hdg,gI] using this
    cases htk:tk with
    | true =>
     subst htk
     have hstp:=iB (ρ:=ρ') (hstp0 rfl w' hE) hdep ρ'
     rw [hF,Nat.zero_add] at hstp
     have hw:Region.wanted o (yielded l.toArray a'.tmps)=true:=by
      cases hgw:o.guard with
      | none=>simp [Region.wanted,hgw]
      | some gw =>
       obtain ⟨g,want⟩:=gw
       obtain ⟨d,hd1,hd2,JW⟩:=hgv g want hgw
       have hv:ρ' d=.bool want:=hgk g want hgw _ _ JW
       have hy:=eE (ops:=l.toArray) ha' hd1 hd2 (b:=want) (by simpa [ev] using hv)
       simp [Region.wanted,hgw,hy]
     rw [if_pos hw]
     refine .inl (Oper.wp_mono ?_ (hstp.out a' ha' _))
     rintro a'' w'' ⟨ρ'',hr'',hE'',v,rfl,hS⟩
     exact next v a'' w'' hr'' hE'' hS
    | false =>
     subst htk
     have hw:¬ Region.wanted o (yielded l.toArray a'.tmps)=true:=by
      cases hgw:o.guard with
      | none=>rw [hgw] at hg;simp at hg
      | some gw =>
       obtain ⟨g,want⟩:=gw
       obtain ⟨d,hd1,hd2,JW⟩:=hgv g want hgw
       have hv:ρ' d=.bool (!want)∨ρ' d=undef:=hgk g want hgw _ _ JW
       rcases hv with hv|hv
       ·have hy:=eE (ops:=l.toArray) ha' hd1 hd2 (b:=!want) (by simpa [ev] using hv)
        simp [Region.wanted,hgw,hy]
       ·have hy:=mZ (ops:=l.toArray) ha' hd1 hv
        simp [Region.wanted,hgw,hy]
     rw [if_neg hw]
     have hun':=hun rfl w'
     rw [Nat.zero_add] at hun'
     exact next undef (a'.put o.dst undef) w' (ha'.put hdo undef) .refl hun'
 refine key l.length _ ρ _ a (by simp) ha (Ext.dV) ?_ ?_ ?_ ?_ ?_ ?_
 ·intro i o d hi hb hd
  have hil:i<l.length:=(List.getElem?_eq_some_iff.1 hi).1
  simp [Array.getD,hil] at hb
 ·intro i o d hi hb hd;rfl
 ·intro t ht;rfl
 ·intro i o hi hb
  have hil:i<l.length:=(List.getElem?_eq_some_iff.1 hi).1
  simp [Array.getD,hil] at hb
 ·exact Nat.le_trans List.count_le_length (by simp)
 ·exact hlt0
theorem nK {id:Nat} {l:List Oper} (n1:Nat) (hn:(l.take n1).length=n1) (htl:sR l n1=true) (hgd:(l.take n1).all (fun o=>match o.guard with|some (g,_)=>Nat.blt g n1|none=>true)=true)
  (Ls:List (Value→World→Prop)) (hm:P.follows .mixedOrders=true) (sp:List (Nat × List (Nat × Nat) × Bool)) (W:Nat) (kp:List (Nat × Nat)) (hok:kQ (l.take n1) 0 (l.take n1) sp=true) (hds:iT N (l.take n1)=true) (hdn:fO (l.take n1)=true)
  (hW:Aw W (l.take n1)=true) (hkp:Cs (l.take n1) kp=true) (dW:G7 Ls) (cW:iN P N (oB Ls) ρ w 0 (l.take n1) sp)
  (hfin:∀ w',Ext [] w w'→lW (oB Ls) w' kp (fun L=>∀ σ,WL P N (WS P N f R k) l.toArray (l.drop n1) (bQ L (oW W ρ σ)) w')) :
  WS P N f R (.code (.region id l.toArray true)::k) ρ w:=by
 have hn1:n1≤l.length:=by simp at hn;omega
 refine vN fun a ha=>wp_region_any hm ?_
 have h1:=Bh (C:=WL P N (WS P N f R k) l.toArray (l.drop n1)) sp hok hds hdn (oB Ls) (fun _ _ _ _ h hE=>G7.nth _ _ dW _ _ _ h hE) cW (fun ρ' w' hE hs hr=>by
  have hdep:∀ p∈kp,oB Ls p.1 (ρ' p.2) w':=fun p hp=>by
   have:=List.all_eq_true.1 hkp p hp
   simp only [beq_iff_eq] at this
   cases ho:(l.take n1)[p.1]? with
   | none=>simp [ho] at this
   | some o=>rw [ho] at this;exact hs p.1 o p.2 ho this
  have h:=iB (ρ:=ρ') (hfin w' hE) hdep ρ'
  have hmr:oW W ρ ρ'=ρ':=by
   funext t
   show cond (sM W t) (ρ' t) (ρ t)=ρ' t
   cases hi:sM W t with
   | true=>rfl
   | false =>
    refine (hr t (fun o ho e=>?_)).symm
    have:=List.all_eq_true.1 hW o ho
    rw [e] at this
    simp only [hi] at this
    cases this
  rw [hmr] at h
  have hself:=jG ρ' (kp.map (·.2))
  rw [List.map_map] at hself
  rw [show (kp.map fun p=>(p.2,ρ' p.2))=List.map ((fun d=>(d,ρ' d)) ∘ fun x=>x.2) kp from rfl,hself] at h
  exact h) a ha
 rw [hn] at h1
 have h2:=BW (Q:=QN N (WS P N f R k)) hn1 htl (fun e a w hne hq=>absurd hq.1 hne) hgd (fun a w hq=>by
  obtain ⟨_,ρ',hr,hw⟩:=hq
  have h3:=hw.out a hr
  have h4:=wpOps_eq_wpList (P:=P) (ops:=l.toArray) (Q:=QN N (WS P N f R k)) (l.drop n1) n1 (fun j=>by simp)
  rw [List.length_drop] at h4
  rw [h4];exact h3) n1 (Array.replicate n1 false) (Array.replicate l.length false) a _ (by simp) (by simp) (fun i hi=>by simp [Array.getD,hi,Nat.lt_of_lt_of_le hi hn1]) (fun i hi hil=>by simp [Array.getD,hil]) (by simp) h1
 rw [show n1+(l.length-n1)=l.toArray.size by simp;omega] at h2
 simpa using h2
end
section
variable {P:Program} {N:Nat} {K:Fr→World→Prop} {ρ:Fr} {w:World} {d:Nat} {ty t e:TypeId} {pos:String} {af:Array Edge} {gd:Option (Nat × Bool)} {x y:Operand}
theorem xY {b0 m c2 sz bytes:Nat} {a2:Option Addr} {g:Bool} {zs news:List Value} (ht:sle P t=some (e,(g,sz))) (hz:bH P e=some zs) (hzl:zs.length=sz) (hby:gS P e=some bytes) (hsz:0<sz)
  (hx:ev ρ x=.slice (some ⟨b0,0,none⟩) 0 0) (hB:cL w b0 e #[]) (hy:ev ρ y=.slice a2 m c2) (hS:cI w a2 news) (hl:news.length=m*sz)
  (hbig:m*bytes≤140737488355328) (h63:m≤maxLen) (hd:Nat.blt d N=true)
  (hk:∀ w' a' cap',Ext [] w w'→Own w' e sz a' m cap' news→(∀ b∈dI a',b=b0∨w.heap.size≤b)→K (dX ρ d (.slice a' m cap')) w'):kC P N ρ ⟨some d,.call ⟨.builtin .append,#[x,y],#[t,t]⟩,ty,pos,af,gd⟩ w K:=by
 obtain ⟨hu,hs⟩:=eD ht
 obtain ⟨i,z,hi,hzz,rfl,rfl,hzc⟩:=rB hs hz hby
 have hzcs:z.cells.size=i.size:=by rw [← Array.length_toList,hzc];exact hzl
 have h63':m≤9223372036854775807:=by simp only [maxLen] at h63;omega
 have hop:∀ {v' w'},(Builtin.append_ #[t,t] ty #[.slice (some ⟨b0,0,none⟩) 0 0,.slice a2 m c2]).run P w=.ok v' w'→cU P ρ ⟨some d,.call ⟨.builtin .append,#[x,y],#[t,t]⟩,ty,pos,af,gd⟩ w v' w':=by
  intro v' w' hr
  constructor;unfold execOp
  simp [hx,hy,resolve,invoke,builtin,hr]
 by_cases hm:m=0
 ·subst hm
  have hn0:news=[]:=List.eq_nil_of_length_eq_zero (by simpa using hl)
  subst hn0
  have hf:(Builtin.firstCells i.size 0 (.slice a2 0 c2)).run P w=.ok #[] w:=by
   cases a2 with
   | none=>simp [Builtin.firstCells]
   | some ad=>simp [Builtin.firstCells,loadCells,loadCellsFrom]
  have hr:(Builtin.append_ #[t,t] ty #[.slice (some ⟨b0,0,none⟩) 0 0,.slice a2 0 c2]).run P w=.ok (.slice (some ⟨b0,0,none⟩) 0 0) w:=by
   simp [Builtin.append_,run_underlying hu,sizeOf,typeInfo,hi,Builtin.lenOf,hf,storeCells]
  exact fA (hop hr) hd (hk w _ 0 .refl (hB.own (n:=0) (by simp) (by decide)) (fun b hb=>.inl (by simpa [dI] using hb)))
 ·have hne:news≠[]:=fun h0=>by
   subst h0
   have:0<m*i.size:=Nat.mul_pos (by omega) hsz
   simp at hl;omega
  obtain ⟨b2,o2,rfl⟩:=hS.head hne
  have hnews:∀ j v,news[j]?=some v→w.cell? ((⟨b2,o2,none⟩:Addr).add j)=some v:=fun j v hj=>by rw [A8 rfl];exact hS.cell j v hj
  have hr:=run_append_grow (P:=P) w t ty e i z hu hi hzz ⟨b0,0,none⟩ 0 0 [] (by simp) (by simp) ⟨b2,o2,none⟩ m c2 news hl hnews (by omega) (by omega) (growslice_fits (by omega) (by simpa using hbig))
  simp only [Nat.zero_add,Array.empty_append] at hr
  refine fA (hop hr) hd (hk _ _ _ (Ext.dV.bO (gQ _ _)) ⟨hl,grownCap_ge w m 0 e,grownCap_le_maxLen w m 0 e (by simpa using h63),.inr ⟨w.heap.size,_,rfl,heap_alloc_new w.drew _,?_,?_⟩⟩ (fun b hb=>.inr (by simp [dI] at hb;omega)))
  ·have hge:=grownCap_ge w m 0 e
   simp only [Array.size_append,List.size_toArray,size_zeroCells,hzcs,hl,← Nat.add_mul]
   congr 1
   omega
  ·simp only [Array.toList_append]
   rw [← hl]
   exact List.take_left
end
section
variable {P:Program} {ρ:Fr} {w:World} {dst:Option Nat} {ty t u:TypeId} {pos:String} {af:Array Edge} {gd:Option (Nat × Bool)} {x y:Operand} {m n:Nat}
theorem MW (hx:ev ρ x=.int .u64 m) (hy:ev ρ y=.int .u64 n) (h:m+n<18446744073709551616):cU P ρ ⟨dst,.binOp .add t x y u,ty,pos,af,gd⟩ w (.int .u64 ((m+n:Nat):Int)) w:=by
 have:=AA (P:=P) (w:=w) (dst:=dst) (ty:=ty) (pos:=pos) (af:=af) (gd:=gd) (t:=t) (u:=u) hx hy rfl
 rwa [show (m+n) % two .u64=m+n from Nat.mod_eq_of_lt h] at this
theorem Rs.of {w:World} {S:List Nat} {W:World} {H:List cK} {e:TypeId} {sz n cap:Nat} {a:Option Addr} {vs:List Value} (i:Nat) (h:Hp S W w H) (hi:H[i]?=some (Ro e sz a n cap vs)):Hp S W w (H.set i (Rs a vs)) :=
 h.as i hi (fun x hx=>by
  have hx':x∈(if vs=[] then [] else dI a):=hx
  split at hx'
  ·cases hx'
  ·exact hx') (fun h=>(h:Own _ _ _ _ _ _ _).sl)
end
section
variable {P:Program} {N:Nat} {f:FuncId} {R:Value→World→Prop} {k:List Item} {ρ:Fr} {w:World}
end
section
variable {P:Program} {ρ:Fr} {w:World} {dst:Option Nat} {ty t u e:TypeId} {pos:String} {af:Array Edge} {gd:Option (Nat × Bool)} {x y:Operand}
theorem Im {a:Option Addr} {n cap:Nat} {l:List Nat} (hx:ev ρ x=.slice a n cap) (hn:l.length=n) (hS:cI w a (l.map B)) (ht:sle P t=some (e,(false,1))) (he:kindOf P e=some .u8) (hu:isStr P u=true) :
  cU P ρ ⟨dst,.convert t u x,ty,pos,af,gd⟩ w (.string (strOf l)) w:=by
 subst hn
 exact PJ hx hS ht he hu
theorem kR {i:Int} {k:Nat} {z:TypeId} (hx:ev ρ x=.int .i64 i) (hy:ev ρ y=.int .i64 ((2 ^ k-1:Nat):Int)) (hk:k≤62):cU P ρ ⟨dst,.binOp .and t x y z,ty,pos,af,gd⟩ w (.int .i64 (i % ((2 ^ k:Nat):Int))) w :=
 dB hx hy (aZ rfl) (by
  have hp:2 ^ k≤2 ^ 62:=Nat.pow_le_pow_right (by decide) hk
  have hp1:0<2 ^ k:=Nat.two_pow_pos k
  have e1:(BitVec.ofInt 64 ((2 ^ k-1:Nat):Int)).toNat=2 ^ k-1:=iF (by omega)
  have e2:(BitVec.ofInt 64 i).toNat=(i % (2 ^ 64:Nat)).toNat:=by simp [BitVec.toNat_ofInt]
  have e3:((BitVec.ofInt 64 i) &&& (BitVec.ofInt 64 ((2 ^ k-1:Nat):Int))).toNat=(i % ((2 ^ k:Nat):Int)).toNat:=by
   rw [BitVec.toNat_and,e1,e2,Nat.and_two_pow_sub_one_eq_mod]
   have h1:i % ((2 ^ k:Nat):Int)=(i % ((2 ^ 64:Nat):Int)) % ((2 ^ k:Nat):Int):=(Int.emod_emod_of_dvd i (by
    rw [Int.natCast_dvd_natCast]
    exact Nat.pow_dvd_pow 2 (by omega))).symm
   rw [h1]
   have h2:0≤i % ((2 ^ 64:Nat):Int):=Int.emod_nonneg _ (by decide)
   obtain ⟨n,hn⟩:=Int.eq_ofNat_of_zero_le h2
   rw [hn]
   have:((n:Nat):Int) % ((2 ^ k:Nat):Int)=((n % 2 ^ k:Nat):Int):=(Int.natCast_emod n (2 ^ k)).symm
   rw [this];rfl
  have h4:0≤i % ((2 ^ k:Nat):Int):=Int.emod_nonneg _ (by omega)
  have h5:i % ((2 ^ k:Nat):Int)<((2 ^ k:Nat):Int):=Int.emod_lt_of_pos _ (by omega)
  have e6:IntKind.i64.wrap (((BitVec.ofInt 64 i) &&& (BitVec.ofInt 64 ((2 ^ k-1:Nat):Int))).toNat:Int)=i % ((2 ^ k:Nat):Int):=by
   rw [e3,Int.toNat_of_nonneg h4,fN (by omega) (by omega)]
  show (pure (Value.int .i64 (IntKind.i64.wrap (((BitVec.ofInt 64 i) &&& (BitVec.ofInt 64 ((2 ^ k-1:Nat):Int))).toNat:Int))):Sem Value).run P w=_
  rw [e6]
  exact Sem.run_pure ..)
end
section
variable {P:Program} {N:Nat} {K:Fr→World→Prop} {ρ:Fr} {S:List Nat} {W w:World} {H:List cK}
variable {ty t e:TypeId} {pos:String} {af:Array Edge} {gd:Option (Nat × Bool)} {x y:Operand}
theorem aJ (i:Nat) {b s:Nat} {cs vs:Array Value} (hH:Hp S W w H) (hi:H[i]?=some (Rb b e cs)) (hx:ev ρ x=.pointer (some ⟨b,0,none⟩)) (hy:ev ρ y=.agg vs) (hs:vs.size=s) (hs':cs.size=s) (h1:∀ v∈vs.toList,v.oneCell'=true) (ht:aF P t=some (true,s))
  (hk:∀ w',Hp S W w' (H.set i (Rb b e vs))→K ρ w'):kC P N ρ ⟨none,.store t x y,ty,pos,af,gd⟩ w K :=
 dH hx hy (hH.b i hi) hs hs' h1 ht (fun w' hE hB _=>hk w' (hH.up i hi ⟨hE,hB,fun _ hx=>.inl hx⟩))
end
theorem NU {P:Program} {W:World} {r:Reach} {b0:Nat} {t:TypeId} {v:Value} {n:Nat} (ht:aF P t=some (true,n)) (hv:Value.okWide P W r b0 t v):∃ cs:List Value,v=.agg cs.toArray:=by
 unfold aF at ht
 unfold Value.okWide at hv
 split at ht
 ·rename_i hu _
  rw [hu] at hv
  obtain ⟨cs,rfl,_⟩:=hv
  exact ⟨cs.toList,by simp⟩
 ·rename_i hu _
  rw [hu] at hv
  obtain ⟨cs,rfl,_⟩:=hv
  exact ⟨cs.toList,by simp⟩
 ·cases ht
 ·cases ht
theorem bG {P:Program} {ρ:Fr} {w:World} {dst:Option Nat} {ty t:TypeId} {pos:String} {af:Array Edge} {gd:Option (Nat × Bool)} {x:Operand} {a:Option Addr} {vs cs:List Value} {j s:Nat} (hx:ev ρ x=.pointer (some (At a j))) (hS:cI w a vs) (hv:(vs.drop j).take s=cs) (hl:cs.length=s) (ht:aF P t=some (true,s)) :
  cU P ρ ⟨dst,.load t x,ty,pos,af,gd⟩ w (.agg cs.toArray) w:=by
 have hl2:s=0∨j+s≤vs.length:=by
  have:=congrArg List.length hv
  simp only [List.length_take,List.length_drop] at this
  omega
 rcases hl2 with h0|h0
 ·subst h0
  have:cs=[]:=List.eq_nil_of_length_eq_zero hl
  subst this
  have h:=run_loadCells_list (P:=P) w (At a j) [] (fun i v hv=>by simp at hv)
  constructor;unfold execOp
  simp only [List.length_nil] at h
  simp [hx,Instr.loadAt,Instr.sureAddr,loadVar,jF ht,dA ht,h]
 ·have h:=Eb (dst:=dst) (ty:=ty) (pos:=pos) (af:=af) (gd:=gd) hx hS h0 ht
  rw [hv] at h
  exact h
end Go.K
