/- A part of the proof of the card of TopText; no condition. -/
import Derived.Test.YtdbnmbkjmeepkaaGreatDoorT17
namespace Go.Proofs.YtdbnmbkjmeepkaaGreatDoor
open Go Go.K Go.P Go.RowKit Go.Proofs
def pF (l:List Int):Int:=J5 (l.getD 0 0) (l.getD 64 0)
theorem mB (l:List Int):0≤pF l∧pF l≤121920:=DH _ _
theorem eC {l:List Int} {i n:Nat} (hl:l.length=n) (h:i<n):(l.map (Value.int .i64)).toArray[i]?=some (.int .i64 (l.getD i 0)):=by
 subst hl
 simp [List.getD_eq_getElem?_getD,List.getElem?_eq_getElem h]
theorem dG {l:List Int} {w:World} (hl:l.length=65):aX Tryz.prog 203 #[kv l] w fun v w'=>v=.int .i64 (pF l)∧Ext [] w w':=by
 refine aL (args:=[_]) Tryz.func203 rfl rfl Tryz.ntmps203 rfl ?_
 have hH:=Hp.start w
 have h0:=eC (i:=0) hl (by decide)
 have h64:=eC (i:=64) hl (by decide)
 refine aK ?_
 refine aO ?_
 refine aA (bI (cs:=(l.map (Value.int .i64)).toArray) hH rfl rfl rfl ?_)
 try clear hH
 intro _ b1 hH
 replace hH:=aI hH
 have hB:=hH.b 0 rfl
 repeat (first|refine aR ?_|(refine aD (by first|refine aN rfl (Ty.bA rfl rfl)|refine bD rfl rfl (Ty.arr rfl) (by decide)|refine aB rfl hB h0 (Ty.aF rfl)|refine aB rfl hB h64 (Ty.aF rfl)) rfl ?_)|refine aT ?_)
 refine aO ?_
 refine aA (aC ((nJ (l:=l.getD 0 0) (q:=l.getD 64 0))) rfl rfl ?_)
 rintro _ _ ⟨rfl,rfl⟩
 refine aK ?_
 exact aM Tryz.func203 rfl ⟨rfl,hH.ext⟩
theorem lQ {a b:Int} {w:World} (ha:0≤a∧a≤1000000) (hb:0≤b∧b≤1000000):aX Tryz.prog 204 #[.int .i64 a,.int .i64 b] w fun v w'=>v=.int .i64 (max (a-b) (b-a))∧w'=w:=by
 refine aL (args:=[_,_]) Tryz.func204 rfl rfl Tryz.ntmps204 rfl ?_
 refine aK ?_
 exact aM Tryz.func204 rfl ⟨rfl,rfl⟩
def mix {α:Type} (z l:List α) (k:Nat):List α:=z.take k++l.drop k
section
variable {α:Type} {z l:List α} {k n:Nat}
theorem eZ (hz:z.length=n) (hl:l.length=n) (h:k≤n):(mix z l k).length=n:=by
 simp [mix,hz,hl];omega
theorem kV:mix z l 0=l:=by simp [mix]
theorem lD (hz:z.length=n) (hl:l.length=n):mix z l n=z:=by
 rw [mix,List.take_of_length_le (by omega),List.drop_of_length_le (by omega),List.append_nil]
theorem Dv (hz:z.length=n) (h:k<n):(mix z l k)[k]?=l[k]?:=by
 rw [mix,List.getElem?_append_right (by simp;omega),List.getElem?_drop]
 simp [hz,Nat.min_eq_left (Nat.le_of_lt h)]
theorem gZ {v:α} (hz:z.length=n) (hl:l.length=n) (h:k<n) (hv:z[k]?=some v):(mix z l k).set k v=mix z l (k+1):=by
 rw [mix,mix,List.set_append_right _ _ (by simp;omega),List.length_take,hz,Nat.min_eq_left (Nat.le_of_lt h),Nat.sub_self,List.drop_eq_getElem_cons (l:=l) (by omega),List.set_cons_zero,List.take_add_one,hv,List.append_assoc]
 rfl
end
def MO:Option (List Int)→Option (List Int)→Option (List Int)→Nat × Int
 | none,none,_=>(0,8192)
 | some l,none,_=>(1,pF l)
 | none,some u,_=>(2,pF u)
 | some l,some u,c =>
  let m:=(c.map pF).getD 8192
  if max (pF l-m) (m-pF l)<max (m-pF u) (pF u-m) then (2,pF u) else (1,pF l)
theorem Gl (a b c:Option (List Int)):(MO a b c).1<3:=by
 unfold MO
 split
 ·exact Nat.zero_lt_succ _
 ·exact Nat.succ_lt_succ (Nat.zero_lt_succ _)
 ·exact Nat.succ_lt_succ (Nat.succ_lt_succ (Nat.zero_lt_succ _))
 ·simp only;split<;>simp
def TV.Gd (T:TV) (c mb k:Nat):Nat × Int:=MO (T.at (pP k) (pW c k) ((pX c mb k:Int)-1) (pY c mb k)) (T.at (pP k) (pW c k) (pX c mb k) ((pY c mb k:Int)-1)) (T.at (pP k) (pW c k) ((pX c mb k:Int)-1) ((pY c mb k:Int)-1))
def Jl (l:List Int) (st:Nat):Nat→List Int
 | 0=>rH
 | n+1=>(Jl l st n).set ((n+1)*st) (l.getD ((n+1)*st) 0)
theorem zP (l:List Int) (st n:Nat):(Jl l st n).length=64:=by
 induction n with
 | zero=>rfl
 | succ n ih=>rw [Jl,List.length_set,ih]
def Nn (l:List Int) (st:Nat) (q:Int):List Int:=if l.getD 64 0=q then Jl l st 7 else rH
def TV.rC (T:TV) (c mb k:Nat) (q:Int):List Int :=
 if (T.Gd c mb k).1=0 then rH
 else if (T.Gd c mb k).1=2 then Nn ((T.at (pP k) (pW c k) (pX c mb k) ((pY c mb k:Int)-1)).getD tV) 1 q
 else Nn ((T.at (pP k) (pW c k) ((pX c mb k:Int)-1) (pY c mb k)).getD tV) 8 q
theorem Gp {l:List Int} {st:Nat} (h:kg l):∀ n,n*st<64→∀ x∈Jl l st n,-2047≤x∧x≤2047
 | 0,_,x,hx=>by rw [List.eq_of_mem_replicate hx];decide
 | n+1,hn,x,hx=>by
  rcases List.mem_or_eq_of_mem_set hx with hx|rfl
  ·exact Gp h n (by rw [Nat.add_mul] at hn;omega) x hx
  ·exact h.2 _ hn
abbrev fC (B:Int) (u:List Int):Prop:=u.length=64∧∀ n∈u,-B≤n∧n≤B
theorem Dw {B:Int} (h:0≤B):fC B rH:=⟨rfl,fun n hn=>by rw [List.eq_of_mem_replicate hn];omega⟩
theorem Hk {l:List Int} {st:Nat} {q:Int} (h:kg l) (dW:7*st<64):fC 2047 (Nn l st q):=by
 unfold Nn
 split
 ·exact ⟨zP _ _ _,Gp h 7 dW⟩
 ·exact Dw (by decide)
theorem TV.Ax {T:TV} {c mb k:Nat} {q:Int} (h:T.ok):fC 2047 (T.rC c mb k q):=by
 unfold TV.rC
 split
 ·exact Dw (by decide)
 ·split
  ·exact Hk (TV.kO h) (by decide)
  ·exact Hk (TV.kO h) (by decide)
section
variable {b m1 m2 m3 c r mb k:Nat} {T:TV} {w:World}
set_option maxRecDepth 20000 in
set_option maxHeartbeats 4000000 in
theorem xZ {q:Int} (hc:c≤8) (hr:r≤8) (hmb:mb<c*r) (hk:k<6) (hR:(RT b m1 m2 m3 c r T).holds w) :
  aX Tryz.prog 171 #[.pointer (some ⟨b,0,none⟩),.int .i64 mb,.int .i64 k,.int .i64 q] w fun v w'=>v=.tuple #[.int .u8 (T.Gd c mb k).1,.int .i64 (Hz (T.Gd c mb k).2 q)]∧Ext [] w w':=by
 refine aL (args:=[_,_,_,_]) Tryz.func171 rfl rfl Tryz.ntmps171 rfl ?_
 have hH:=Hp.start w
 have hok:=hR.2.2.2.2.1
 refine aK ?_
 refine aO ?_
 refine aA (aC ((pO hc hr hmb hk hR)) rfl rfl ?_)
 rintro _ _ ⟨rfl,hE0⟩
 replace hH:=hH.aH hE0
 clear hE0
 replace hH:=aI hH
 refine aK ?_
 refine aO ?_
 refine aA (aC ((kM hc hr hmb hk ((RT b m1 m2 m3 c r T).keep hR hH.ext (by simp)))) rfl rfl ?_)
 rintro _ _ ⟨rfl,hE0⟩
 replace hH:=hH.aH hE0
 clear hE0
 replace hH:=aI hH
 obtain ⟨hp,hW,hX,hY⟩:=pB hc hr hmb hk
 unfold TV.Gd
 generalize pP k=p at *
 generalize pW c k=W at *
 generalize pX c mb k=X at *
 generalize pY c mb k=Y at *
 refine aK ?_
 refine aO ?_
 refine aA (aC ((mS (T:=T) hp (W:=W) (x:=((X:Int)-1)) (y:=Y) (by omega) (by omega) (by omega) ((RT b m1 m2 m3 c r T).keep hR hH.ext (by simp)))) rfl rfl ?_)
 rintro _ _ ⟨rfl,hE0⟩
 replace hH:=hH.aH hE0
 clear hE0
 replace hH:=aI hH
 have hk1:=TV.kO (p:=p) (W:=W) (x:=((X:Int)-1)) (y:=Y) hok
 generalize T.at p W ((X:Int)-1) Y=o1 at *
 obtain ⟨l1,hl1⟩:∃ l,o1.getD tV=l:=⟨_,rfl⟩
 obtain ⟨s1,hs1⟩:∃ s,o1.isSome=s:=⟨_,rfl⟩
 rw [hl1,hs1]
 rw [hl1] at hk1
 have hl1:=hk1.1
 refine aK ?_
 refine aO ?_
 refine aA (aQ hH (Ty.bH rfl) rfl ?_)
 try clear hH
 intro _ b1 hH
 replace hH:=aI hH
 refine aO ?_
 refine aA (aJ 0 (vs:=(l1.map (Value.int .i64)).toArray) (s:=65) hH rfl rfl rfl (by simp [hl1]) (by rfl) (by exact bB) (Ty.aF rfl) ?_)
 try clear hH
 intro _ hH
 replace hH:=aI hH
 clear hl1
 refine aK ?_
 refine aO ?_
 refine aA (aC ((mS (T:=T) hp (W:=W) (x:=X) (y:=((Y:Int)-1)) (by omega) (by omega) (by omega) ((RT b m1 m2 m3 c r T).keep hR hH.ext (by simp)))) rfl rfl ?_)
 rintro _ _ ⟨rfl,hE0⟩
 replace hH:=hH.aH hE0
 clear hE0
 replace hH:=aI hH
 have hk2:=TV.kO (p:=p) (W:=W) (x:=X) (y:=((Y:Int)-1)) hok
 generalize T.at p W X ((Y:Int)-1)=o2 at *
 obtain ⟨l2,hl2⟩:∃ l,o2.getD tV=l:=⟨_,rfl⟩
 obtain ⟨s2,hs2⟩:∃ s,o2.isSome=s:=⟨_,rfl⟩
 rw [hl2,hs2]
 rw [hl2] at hk2
 have hl1:=hk2.1
 refine aK ?_
 refine aO ?_
 refine aA (aQ hH (Ty.bH rfl) rfl ?_)
 try clear hH
 intro _ b2 hH
 replace hH:=aI hH
 refine aO ?_
 refine aA (aJ 1 (vs:=(l2.map (Value.int .i64)).toArray) (s:=65) hH rfl rfl rfl (by simp [hl1]) (by rfl) (by exact bB) (Ty.aF rfl) ?_)
 try clear hH
 intro _ hH
 replace hH:=aI hH
 clear hl1
 refine aK ?_
 refine aO ?_
 refine aA (aC ((mS (T:=T) hp (W:=W) (x:=((X:Int)-1)) (y:=((Y:Int)-1)) (by omega) (by omega) (by omega) ((RT b m1 m2 m3 c r T).keep hR hH.ext (by simp)))) rfl rfl ?_)
 rintro _ _ ⟨rfl,hE0⟩
 replace hH:=hH.aH hE0
 clear hE0
 replace hH:=aI hH
 have hk3:=TV.kO (p:=p) (W:=W) (x:=((X:Int)-1)) (y:=((Y:Int)-1)) hok
 generalize T.at p W ((X:Int)-1) ((Y:Int)-1)=o3 at *
 obtain ⟨l3,hl3⟩:∃ l,o3.getD tV=l:=⟨_,rfl⟩
 obtain ⟨s3,hs3⟩:∃ s,o3.isSome=s:=⟨_,rfl⟩
 rw [hl3,hs3]
 rw [hl3] at hk3
 have hl1:=hk3.1
 refine aK ?_
 refine aO ?_
 refine aA (aQ hH (Ty.bH rfl) rfl ?_)
 try clear hH
 intro _ b3 hH
 replace hH:=aI hH
 refine aO ?_
 refine aA (aJ 2 (vs:=(l3.map (Value.int .i64)).toArray) (s:=65) hH rfl rfl rfl (by simp [hl1]) (by rfl) (by exact bB) (Ty.aF rfl) ?_)
 try clear hH
 intro _ hH
 replace hH:=aI hH
 clear hl1
 cases o1 with
 | none =>
  subst hs1
  cases o2 with
  | none =>
   subst hs2
   refine aK ?_
   refine aO ?_
   refine aA (aC ((cZ (n:=8192) (q:=q) (by decide))) rfl rfl ?_)
   rintro _ _ ⟨rfl,rfl⟩
   refine aK ?_
   exact cR Tryz.func171 rfl ⟨by rfl,hH.ext⟩
  | some u2 =>
   subst hs2
   have hB:=hH.b 1 rfl
   have hl:=hk2.1
   repeat (first|refine aR ?_|(refine aD (by refine aE rfl hB (by simp [hl]) (Ty.aF rfl)) rfl ?_)|refine aT ?_)
   refine aO ?_
   refine aA (aC ((dG hl)) rfl rfl ?_)
   rintro _ _ ⟨rfl,hE0⟩
   replace hH:=hH.aH hE0
   clear hE0
   replace hH:=aI hH
   refine aK ?_
   refine aO ?_
   refine aA (aC ((cZ (n:=pF l2) (q:=q) (by have:=mB l2;omega))) rfl rfl ?_)
   rintro _ _ ⟨rfl,rfl⟩
   refine aK ?_
   exact cR Tryz.func171 rfl ⟨by (subst hl2;rfl),hH.ext⟩
 | some u1 =>
  subst hs1
  cases o2 with
  | none =>
   subst hs2
   have hB:=hH.b 0 rfl
   have hl:=hk1.1
   repeat (first|refine aR ?_|(refine aD (by refine aE rfl hB (by simp [hl]) (Ty.aF rfl)) rfl ?_)|refine aT ?_)
   refine aO ?_
   refine aA (aC ((dG hl)) rfl rfl ?_)
   rintro _ _ ⟨rfl,hE0⟩
   replace hH:=hH.aH hE0
   clear hE0
   replace hH:=aI hH
   refine aK ?_
   refine aO ?_
   refine aA (aC ((cZ (n:=pF l1) (q:=q) (by have:=mB l1;omega))) rfl rfl ?_)
   rintro _ _ ⟨rfl,rfl⟩
   refine aK ?_
   exact cR Tryz.func171 rfl ⟨by (subst hl1;rfl),hH.ext⟩
  | some u2 =>
   subst hs2
   cases o3 with
   | none =>
    subst hs3
    have hB1:=hH.b 0 rfl
    have hB2:=hH.b 1 rfl
    refine aK ?_
    refine gX [Is (kv l1),Is (.int .i64 (pF l1)),Is (.int .i64 (8192)),Is (.int .i64 (max (pF l1-(8192)) ((8192)-pF l1))),Is (.int .i64 (8192)),Is (kv l2),Is (.int .i64 (pF l2)),Is (.int .i64 (max ((8192)-pF l2) (pF l2-(8192)))),Is (.bool (decide (max (pF l1-(8192)) ((8192)-pF l1)<max ((8192)-pF l2) (pF l2-(8192)))))] Ty.mixed [(76766789545528952593842176,[],true),(75708979453366152065974272,[(0,77)],true),(75406747998462494772297728,[],true),(27654178123684642371403776,[(1,78),(2,79)],true),(55459471974821113389645824,[],true),(62713026892508888437882880,[],true),(48205917057133338341408768,[(5,82)],true),(19191697386382238148460544,[(4,81),(6,83)],true),(38534510500216304943759360,[(3,80),(7,84)],true)] 77220136727884438534356992 [(8,85)] (by kernel_rfl) (by kernel_rfl) (by kernel_rfl) (by kernel_rfl) (by kernel_rfl) ⟨Is.st,Is.st,Is.st,Is.st,Is.st,Is.st,Is.st,Is.st,Is.st,trivial⟩ ⟨⟨cC.none,?_⟩,⟨cC.none,?_⟩,⟨cC.none,?_⟩,⟨cC.none,?_⟩,⟨cC.none,?_⟩,⟨cC.none,?_⟩,⟨cC.none,?_⟩,⟨cC.none,?_⟩,⟨cC.none,?_⟩,trivial⟩ ?_
    ·intro w'' hE''
     intro σ''
     exact bJ (by refine aE rfl (hB1.aH hE'') (by simp [hk1.1]) (Ty.aF rfl)) rfl
    ·intro w'' hE''
     rintro _ rfl
     intro σ''
     refine aC (dG hk1.1) rfl rfl ?_
     rintro v w3'' ⟨rfl,hE3''⟩
     exact ⟨hE3'',_,rfl,rfl⟩
    ·intro w'' hE''
     intro σ''
     exact bJ (by refine aP rfl) rfl
    ·intro w'' hE''
     rintro _ rfl
     rintro _ rfl
     intro σ''
     refine aC (lQ (a:=pF l1) (b:=8192) (by have:=mB l1;omega) (by decide)) rfl rfl ?_
     rintro v w3'' ⟨rfl,rfl⟩
     exact ⟨.refl,_,rfl,rfl⟩
    ·intro w'' hE''
     intro σ''
     exact bJ (by refine aP rfl) rfl
    ·intro w'' hE''
     intro σ''
     exact bJ (by refine aE rfl (hB2.aH hE'') (by simp [hk2.1]) (Ty.aF rfl)) rfl
    ·intro w'' hE''
     rintro _ rfl
     intro σ''
     refine aC (dG hk2.1) rfl rfl ?_
     rintro v w3'' ⟨rfl,hE3''⟩
     exact ⟨hE3'',_,rfl,rfl⟩
    ·intro w'' hE''
     rintro _ rfl
     rintro _ rfl
     intro σ''
     refine aC (lQ (a:=8192) (b:=pF l2) (by decide) (by have:=mB l2;omega)) rfl rfl ?_
     rintro v w3'' ⟨rfl,rfl⟩
     exact ⟨.refl,_,rfl,rfl⟩
    ·intro w'' hE''
     rintro _ rfl
     rintro _ rfl
     intro σ''
     exact bJ (by refine aP rfl) rfl
    intro w'' hE''
    rintro _ rfl
    intro σ''
    replace hH:=hH.aH hE''
    clear hB1 hB2 hE''
    replace hH:=aI hH
    by_cases hlt:max (pF l1-(8192)) ((8192)-pF l1)<max ((8192)-pF l2) (pF l2-(8192))
    ·have e:MO (some u1) (some u2) none=(2,pF u2):=by subst hl1 hl2;exact if_pos hlt
     have hB:=hH.b 1 rfl
     have hl:=hk2.1
     repeat (first|refine aR ?_|(refine aD (by refine aE rfl hB (by simp [hl]) (Ty.aF rfl)) rfl ?_)|refine aT ?_)
     refine aO ?_
     refine aA (aC ((dG hl)) rfl rfl ?_)
     rintro _ _ ⟨rfl,hE0⟩
     replace hH:=hH.aH hE0
     clear hE0
     replace hH:=aI hH
     refine aK ?_
     refine aO ?_
     refine aA (aC ((cZ (n:=pF l2) (q:=q) (by have:=mB l2;omega))) rfl rfl ?_)
     rintro _ _ ⟨rfl,rfl⟩
     refine aK ?_
     exact cR Tryz.func171 rfl ⟨by (rw [e];subst hl2;rfl),hH.ext⟩
    ·have e:MO (some u1) (some u2) none=(1,pF u1):=by subst hl1 hl2;exact if_neg hlt
     have hB:=hH.b 0 rfl
     have hl:=hk1.1
     repeat (first|refine aR ?_|(refine aD (by refine aE rfl hB (by simp [hl]) (Ty.aF rfl)) rfl ?_)|refine aT ?_)
     refine aO ?_
     refine aA (aC ((dG hl)) rfl rfl ?_)
     rintro _ _ ⟨rfl,hE0⟩
     replace hH:=hH.aH hE0
     clear hE0
     replace hH:=aI hH
     refine aK ?_
     refine aO ?_
     refine aA (aC ((cZ (n:=pF l1) (q:=q) (by have:=mB l1;omega))) rfl rfl ?_)
     rintro _ _ ⟨rfl,rfl⟩
     refine aK ?_
     exact cR Tryz.func171 rfl ⟨by (rw [e];subst hl1;rfl),hH.ext⟩
   | some u3 =>
    subst hs3
    have hB:=hH.b 2 rfl
    have hl:=hk3.1
    repeat (first|refine aR ?_|(refine aD (by refine aE rfl hB (by simp [hl]) (Ty.aF rfl)) rfl ?_)|refine aT ?_)
    refine aO ?_
    refine aA (aC ((dG hl)) rfl rfl ?_)
    rintro _ _ ⟨rfl,hE0⟩
    replace hH:=hH.aH hE0
    clear hE0
    replace hH:=aI hH
    clear hB hl
    subst hl3
    have hB1:=hH.b 0 rfl
    have hB2:=hH.b 1 rfl
    refine aK ?_
    refine gX [Is (kv l1),Is (.int .i64 (pF l1)),Is (.int .i64 (pF u3)),Is (.int .i64 (max (pF l1-(pF u3)) ((pF u3)-pF l1))),Is (.int .i64 (pF u3)),Is (kv l2),Is (.int .i64 (pF l2)),Is (.int .i64 (max ((pF u3)-pF l2) (pF l2-(pF u3)))),Is (.bool (decide (max (pF l1-(pF u3)) ((pF u3)-pF l1)<max ((pF u3)-pF l2) (pF l2-(pF u3)))))] Ty.mixed [(76766789545528952593842176,[],true),(75708979453366152065974272,[(0,77)],true),(75406747998462494772297728,[],true),(27654178123684642371403776,[(1,78),(2,79)],true),(55459471974821113389645824,[],true),(62713026892508888437882880,[],true),(48205917057133338341408768,[(5,82)],true),(19191697386382238148460544,[(4,81),(6,83)],true),(38534510500216304943759360,[(3,80),(7,84)],true)] 77220136727884438534356992 [(8,85)] (by kernel_rfl) (by kernel_rfl) (by kernel_rfl) (by kernel_rfl) (by kernel_rfl) ⟨Is.st,Is.st,Is.st,Is.st,Is.st,Is.st,Is.st,Is.st,Is.st,trivial⟩ ⟨⟨cC.none,?_⟩,⟨cC.none,?_⟩,⟨cC.none,?_⟩,⟨cC.none,?_⟩,⟨cC.none,?_⟩,⟨cC.none,?_⟩,⟨cC.none,?_⟩,⟨cC.none,?_⟩,⟨cC.none,?_⟩,trivial⟩ ?_
    ·intro w'' hE''
     intro σ''
     exact bJ (by refine aE rfl (hB1.aH hE'') (by simp [hk1.1]) (Ty.aF rfl)) rfl
    ·intro w'' hE''
     rintro _ rfl
     intro σ''
     refine aC (dG hk1.1) rfl rfl ?_
     rintro v w3'' ⟨rfl,hE3''⟩
     exact ⟨hE3'',_,rfl,rfl⟩
    ·intro w'' hE''
     intro σ''
     exact bJ (by refine aP rfl) rfl
    ·intro w'' hE''
     rintro _ rfl
     rintro _ rfl
     intro σ''
     refine aC (lQ (a:=pF l1) (b:=pF u3) (by have:=mB l1;omega) (by have:=mB u3;omega)) rfl rfl ?_
     rintro v w3'' ⟨rfl,rfl⟩
     exact ⟨.refl,_,rfl,rfl⟩
    ·intro w'' hE''
     intro σ''
     exact bJ (by refine aP rfl) rfl
    ·intro w'' hE''
     intro σ''
     exact bJ (by refine aE rfl (hB2.aH hE'') (by simp [hk2.1]) (Ty.aF rfl)) rfl
    ·intro w'' hE''
     rintro _ rfl
     intro σ''
     refine aC (dG hk2.1) rfl rfl ?_
     rintro v w3'' ⟨rfl,hE3''⟩
     exact ⟨hE3'',_,rfl,rfl⟩
    ·intro w'' hE''
     rintro _ rfl
     rintro _ rfl
     intro σ''
     refine aC (lQ (a:=pF u3) (b:=pF l2) (by have:=mB u3;omega) (by have:=mB l2;omega)) rfl rfl ?_
     rintro v w3'' ⟨rfl,rfl⟩
     exact ⟨.refl,_,rfl,rfl⟩
    ·intro w'' hE''
     rintro _ rfl
     rintro _ rfl
     intro σ''
     exact bJ (by refine aP rfl) rfl
    intro w'' hE''
    rintro _ rfl
    intro σ''
    replace hH:=hH.aH hE''
    clear hB1 hB2 hE''
    replace hH:=aI hH
    by_cases hlt:max (pF l1-(pF u3)) ((pF u3)-pF l1)<max ((pF u3)-pF l2) (pF l2-(pF u3))
    ·have e:MO (some u1) (some u2) (some u3)=(2,pF u2):=by subst hl1 hl2;exact if_pos hlt
     have hB:=hH.b 1 rfl
     have hl:=hk2.1
     repeat (first|refine aR ?_|(refine aD (by refine aE rfl hB (by simp [hl]) (Ty.aF rfl)) rfl ?_)|refine aT ?_)
     refine aO ?_
     refine aA (aC ((dG hl)) rfl rfl ?_)
     rintro _ _ ⟨rfl,hE0⟩
     replace hH:=hH.aH hE0
     clear hE0
     replace hH:=aI hH
     refine aK ?_
     refine aO ?_
     refine aA (aC ((cZ (n:=pF l2) (q:=q) (by have:=mB l2;omega))) rfl rfl ?_)
     rintro _ _ ⟨rfl,rfl⟩
     refine aK ?_
     exact cR Tryz.func171 rfl ⟨by (rw [e];subst hl2;rfl),hH.ext⟩
    ·have e:MO (some u1) (some u2) (some u3)=(1,pF u1):=by subst hl1 hl2;exact if_neg hlt
     have hB:=hH.b 0 rfl
     have hl:=hk1.1
     repeat (first|refine aR ?_|(refine aD (by refine aE rfl hB (by simp [hl]) (Ty.aF rfl)) rfl ?_)|refine aT ?_)
     refine aO ?_
     refine aA (aC ((dG hl)) rfl rfl ?_)
     rintro _ _ ⟨rfl,hE0⟩
     replace hH:=hH.aH hE0
     clear hE0
     replace hH:=aI hH
     refine aK ?_
     refine aO ?_
     refine aA (aC ((cZ (n:=pF l1) (q:=q) (by have:=mB l1;omega))) rfl rfl ?_)
     rintro _ _ ⟨rfl,rfl⟩
     refine aK ?_
     exact cR Tryz.func171 rfl ⟨by (rw [e];subst hl1;rfl),hH.ext⟩
set_option maxRecDepth 20000 in
set_option maxHeartbeats 4000000 in
theorem pJ {q:Int} (hc:c≤8) (hr:r≤8) (hmb:mb<c*r) (hk:k<6) (hR:(RT b m1 m2 m3 c r T).holds w) :
  aX Tryz.prog 137 #[.pointer (some ⟨b,0,none⟩),.int .i64 mb,.int .i64 k,.int .i64 q] w fun v w'=>v=.agg ((T.rC c mb k q).map (Value.int .i64)).toArray∧Ext [] w w':=by
 refine aL (args:=[_,_,_,_]) Tryz.func137 rfl rfl Tryz.ntmps137 rfl ?_
 have hH:=Hp.start w
 have hok:=hR.2.2.2.2.1
 unfold TV.rC
 refine aK ?_
 refine aO ?_
 refine aA (aQ hH (Ty.bH rfl) rfl ?_)
 try clear hH
 intro _ b1 hH
 replace hH:=aI hH
 refine aK ?_
 refine aO ?_
 refine aA (aQ hH (Ty.bH rfl) rfl ?_)
 try clear hH
 intro _ b2 hH
 replace hH:=aI hH
 refine aK ?_
 refine aO ?_
 refine aA (aC ((xZ (q:=q) hc hr hmb hk ((RT b m1 m2 m3 c r T).keep hR hH.ext (by simp)))) rfl rfl ?_)
 rintro _ _ ⟨rfl,hE0⟩
 replace hH:=hH.aH hE0
 clear hE0
 replace hH:=aI hH
 have hf:=Gl (T.at (pP k) (pW c k) ((pX c mb k:Int)-1) (pY c mb k)) (T.at (pP k) (pW c k) (pX c mb k) ((pY c mb k:Int)-1)) (T.at (pP k) (pW c k) ((pX c mb k:Int)-1) ((pY c mb k:Int)-1))
 change (T.Gd c mb k).1<3 at hf
 generalize (T.Gd c mb k).1=f at *
 obtain ⟨hp,hW,hX,hY⟩:=pB hc hr hmb hk
 rcases (show f=0∨f=1∨f=2 by omega) with rfl|rfl|rfl
 ·have hB2:=hH.b 1 rfl
  rw [if_pos rfl]
  repeat (first|refine aR ?_|(refine aD (by refine aE rfl hB2 (by simp) (Ty.aF rfl)) rfl ?_)|refine aT ?_)
  refine aO ?_
  refine aA (aJ 0 (vs:=(rH.map (Value.int .i64)).toArray) (s:=64) hH rfl rfl rfl (by rfl) (by rfl) (by exact bB) (Ty.aF rfl) ?_)
  try clear hH
  intro _ hH
  replace hH:=aI hH
  refine aK ?_
  exact Lu
 ·rw [if_neg (by decide),if_neg (by decide)]
  refine aK ?_
  refine aO ?_
  refine aA (aC ((kM hc hr hmb hk ((RT b m1 m2 m3 c r T).keep hR hH.ext (by simp)))) rfl rfl ?_)
  rintro _ _ ⟨rfl,hE0⟩
  replace hH:=hH.aH hE0
  clear hE0
  replace hH:=aI hH
  generalize pP k=p at *
  generalize pW c k=W at *
  generalize pX c mb k=X at *
  generalize pY c mb k=Y at *
  refine aK ?_
  refine aO ?_
  refine aA (aC ((mS (T:=T) hp (W:=W) (x:=((X:Int)-1)) (y:=Y) (by omega) (by omega) (by omega) ((RT b m1 m2 m3 c r T).keep hR hH.ext (by simp)))) rfl rfl ?_)
  rintro _ _ ⟨rfl,hE0⟩
  replace hH:=hH.aH hE0
  clear hE0
  replace hH:=aI hH
  have hk1:=TV.kO (p:=p) (W:=W) (x:=((X:Int)-1)) (y:=Y) hok
  generalize (T.at p W ((X:Int)-1) Y).getD tV=l at *
  generalize (T.at p W ((X:Int)-1) Y).isSome=o at *
  have hl1:=hk1.1
  refine aK ?_
  refine aO ?_
  refine aA (aQ hH (Ty.bH rfl) rfl ?_)
  try clear hH
  intro _ b3 hH
  replace hH:=aI hH
  refine aO ?_
  refine aA (aJ 2 (vs:=(l.map (Value.int .i64)).toArray) (s:=65) hH rfl rfl rfl (by simp [hl1]) (by rfl) (by exact bB) (Ty.aF rfl) ?_)
  try clear hH
  intro _ hH
  replace hH:=aI hH
  have h64:=eC (l:=l) (i:=64) hl1 (by decide)
  have hB:=hH.b 2 rfl
  unfold Nn
  by_cases hq:l.getD 64 0=q
  ·rw [if_pos hq]
   repeat (first|refine aR ?_|(refine aD (by first|refine aN rfl (Ty.bA rfl rfl)|refine aB rfl hB h64 (Ty.aF rfl)|refine (eQ rfl rfl).is (bF (fun h=>h hq))) rfl ?_)|refine aT ?_)
   refine aV (G:=(Nat)) (fun i=>7-i) 18888313009973974532096 (fun i=>[(19,.int .i64 ((i+1:Nat):Int))]) (fun i w'=>i≤7∧Hp [] w w' [Rb b1 92 (rH.map (Value.int .i64)).toArray,Rb b2 92 ((Jl l 8 i).map (Value.int .i64)).toArray,Rb b3 236 (l.map (Value.int .i64)).toArray]) (0) ⟨rfl,trivial⟩ ⟨by omega,hH⟩ ?_
   rintro i w' σ ⟨hi,hH⟩ IH
   show WS _ _ _ _ _ (bQ [(19,.int .i64 ((i+1:Nat):Int))] _) _
   have hul:=zP l 8 i
   by_cases hlt:i<7
   ·have hx1:=eC (l:=l) (i:=(i+1)*8) hl1 (by omega)
    have hS:cI w' (some ⟨b3,0,none⟩) (l.map (Value.int .i64)):=(hH.b 2 rfl).cX
    have e8:((i+1:Nat):Int)*8=(((i+1)*8:Nat):Int):=by omega
    have hn:(l.map (Value.int .i64))[(i+1)*8]?=some (.int .i64 (l.getD ((i+1)*8) 0)):=by rw [← List.getElem?_toArray];exact hx1
    repeat (first|refine aR ?_|(refine aD (by first|refine aN rfl (Ty.bA rfl rfl)|refine (bN (m:=(i+1:Nat)) (n:=8) rfl rfl (by omega)).is (congrArg (Value.int .i64) e8)|refine bD rfl rfl (Ty.arr rfl) (by omega)|refine aU rfl hS hn (Ty.aF rfl)) rfl ?_)|refine aT ?_)
    refine aO ?_
    refine aA (cF 1 (v:=.int .i64 (l.getD ((i+1)*8) 0)) hH rfl rfl rfl (by simp [hul];omega) rfl (Ty.aF rfl) ?_)
    try clear hH
    intro _ hH
    replace hH:=aI hH
    rw [← List.map_set] at hH
    refine aK ?_
    refine IH (i+1) _ _ ?_ ?_ ?_ ?_
    ·omega
    ·exact ⟨rfl,trivial⟩
    ·exact cP
    ·exact ⟨by omega,hH⟩
   ·obtain rfl:i=7:=by omega
    have hB2:=hH.b 1 rfl
    repeat (first|refine aR ?_|(refine aD (by refine aE rfl hB2 (by simp [hul]) (Ty.aF rfl)) rfl ?_)|refine aT ?_)
    clear hl1
    have hl1:=hul
    refine aO ?_
    refine aA (aJ 0 (vs:=((Jl l 8 7).map (Value.int .i64)).toArray) (s:=64) hH rfl rfl rfl (by rfl) (by rfl) (by exact bB) (Ty.aF rfl) ?_)
    try clear hH
    intro _ hH
    replace hH:=aI hH
    refine aK ?_
    exact bP Tryz.func137 rfl rfl (hH.b 0 rfl) (by simp [hul]) (Ty.aF rfl) ⟨rfl,hH.ext⟩
  ·rw [if_neg hq]
   have hB2:=hH.b 1 rfl
   repeat (first|refine aR ?_|(refine aD (by first|refine aN rfl (Ty.bA rfl rfl)|refine aB rfl hB h64 (Ty.aF rfl)|refine (eQ rfl rfl).is (bT hq)|refine aE rfl hB2 (by simp) (Ty.aF rfl)) rfl ?_)|refine aT ?_)
   refine aO ?_
   refine aA (aJ 0 (vs:=(rH.map (Value.int .i64)).toArray) (s:=64) hH rfl rfl rfl (by rfl) (by rfl) (by exact bB) (Ty.aF rfl) ?_)
   try clear hH
   intro _ hH
   replace hH:=aI hH
   refine aK ?_
   exact Lu
 ·rw [if_neg (by decide),if_pos rfl]
  refine aK ?_
  refine aO ?_
  refine aA (aC ((kM hc hr hmb hk ((RT b m1 m2 m3 c r T).keep hR hH.ext (by simp)))) rfl rfl ?_)
  rintro _ _ ⟨rfl,hE0⟩
  replace hH:=hH.aH hE0
  clear hE0
  replace hH:=aI hH
  generalize pP k=p at *
  generalize pW c k=W at *
  generalize pX c mb k=X at *
  generalize pY c mb k=Y at *
  refine aK ?_
  refine aO ?_
  refine aA (aC ((mS (T:=T) hp (W:=W) (x:=X) (y:=((Y:Int)-1)) (by omega) (by omega) (by omega) ((RT b m1 m2 m3 c r T).keep hR hH.ext (by simp)))) rfl rfl ?_)
  rintro _ _ ⟨rfl,hE0⟩
  replace hH:=hH.aH hE0
  clear hE0
  replace hH:=aI hH
  have hk1:=TV.kO (p:=p) (W:=W) (x:=X) (y:=((Y:Int)-1)) hok
  generalize (T.at p W X ((Y:Int)-1)).getD tV=l at *
  generalize (T.at p W X ((Y:Int)-1)).isSome=o at *
  have hl1:=hk1.1
  refine aK ?_
  refine aO ?_
  refine aA (aQ hH (Ty.bH rfl) rfl ?_)
  try clear hH
  intro _ b3 hH
  replace hH:=aI hH
  refine aO ?_
  refine aA (aJ 2 (vs:=(l.map (Value.int .i64)).toArray) (s:=65) hH rfl rfl rfl (by simp [hl1]) (by rfl) (by exact bB) (Ty.aF rfl) ?_)
  try clear hH
  intro _ hH
  replace hH:=aI hH
  have h64:=eC (l:=l) (i:=64) hl1 (by decide)
  have hB:=hH.b 2 rfl
  unfold Nn
  by_cases hq:l.getD 64 0=q
  ·rw [if_pos hq]
   repeat (first|refine aR ?_|(refine aD (by first|refine aN rfl (Ty.bA rfl rfl)|refine aB rfl hB h64 (Ty.aF rfl)|refine (eQ rfl rfl).is (bF (fun h=>h hq))) rfl ?_)|refine aT ?_)
   refine aV (G:=(Nat)) (fun i=>7-i) 18888313009973974532096 (fun i=>[(19,.int .i64 ((i+1:Nat):Int))]) (fun i w'=>i≤7∧Hp [] w w' [Rb b1 92 (rH.map (Value.int .i64)).toArray,Rb b2 92 ((Jl l 1 i).map (Value.int .i64)).toArray,Rb b3 236 (l.map (Value.int .i64)).toArray]) (0) ⟨rfl,trivial⟩ ⟨by omega,hH⟩ ?_
   rintro i w' σ ⟨hi,hH⟩ IH
   show WS _ _ _ _ _ (bQ [(19,.int .i64 ((i+1:Nat):Int))] _) _
   have hul:=zP l 1 i
   by_cases hlt:i<7
   ·have hx1:=eC (l:=l) (i:=(i+1)*1) hl1 (by omega)
    have hS:cI w' (some ⟨b3,0,none⟩) (l.map (Value.int .i64)):=(hH.b 2 rfl).cX
    have e8:((i+1:Nat):Int)*1=(((i+1)*1:Nat):Int):=by omega
    have hn:(l.map (Value.int .i64))[(i+1)*1]?=some (.int .i64 (l.getD ((i+1)*1) 0)):=by rw [← List.getElem?_toArray];exact hx1
    repeat (first|refine aR ?_|(refine aD (by first|refine aN rfl (Ty.bA rfl rfl)|refine (bN (m:=(i+1:Nat)) (n:=1) rfl rfl (by omega)).is (congrArg (Value.int .i64) e8)|refine bD rfl rfl (Ty.arr rfl) (by omega)|refine aU rfl hS hn (Ty.aF rfl)) rfl ?_)|refine aT ?_)
    refine aO ?_
    refine aA (cF 1 (v:=.int .i64 (l.getD ((i+1)*1) 0)) hH rfl rfl rfl (by simp [hul];omega) rfl (Ty.aF rfl) ?_)
    try clear hH
    intro _ hH
    replace hH:=aI hH
    rw [← List.map_set] at hH
    refine aK ?_
    refine IH (i+1) _ _ ?_ ?_ ?_ ?_
    ·omega
    ·exact ⟨rfl,trivial⟩
    ·exact cP
    ·exact ⟨by omega,hH⟩
   ·obtain rfl:i=7:=by omega
    have hB2:=hH.b 1 rfl
    repeat (first|refine aR ?_|(refine aD (by refine aE rfl hB2 (by simp [hul]) (Ty.aF rfl)) rfl ?_)|refine aT ?_)
    clear hl1
    have hl1:=hul
    refine aO ?_
    refine aA (aJ 0 (vs:=((Jl l 1 7).map (Value.int .i64)).toArray) (s:=64) hH rfl rfl rfl (by rfl) (by rfl) (by exact bB) (Ty.aF rfl) ?_)
    try clear hH
    intro _ hH
    replace hH:=aI hH
    refine aK ?_
    exact bP Tryz.func137 rfl rfl (hH.b 0 rfl) (by simp [hul]) (Ty.aF rfl) ⟨rfl,hH.ext⟩
  ·rw [if_neg hq]
   have hB2:=hH.b 1 rfl
   repeat (first|refine aR ?_|(refine aD (by first|refine aN rfl (Ty.bA rfl rfl)|refine aB rfl hB h64 (Ty.aF rfl)|refine (eQ rfl rfl).is (bT hq)|refine aE rfl hB2 (by simp) (Ty.aF rfl)) rfl ?_)|refine aT ?_)
   refine aO ?_
   refine aA (aJ 0 (vs:=(rH.map (Value.int .i64)).toArray) (s:=64) hH rfl rfl rfl (by rfl) (by rfl) (by exact bB) (Ty.aF rfl) ?_)
   try clear hH
   intro _ hH
   replace hH:=aI hH
   refine aK ?_
   exact Lu
def gA (l e:List Int):Option (List Int):=if ∀ n∈List.zipWith (· - ·) l e,-2047≤n∧n≤2047 then some (List.zipWith (· - ·) l e) else none
abbrev K3:Option (List Int)→Value
 | some z=>.tuple #[.agg (z.map (Value.int .i64)).toArray,.bool true]
 | none=>.tuple #[.agg (rH.map (Value.int .i64)).toArray,.bool false]
set_option maxRecDepth 20000 in
set_option maxHeartbeats 4000000 in
theorem lG {l e:List Int} {w:World} (hl:fC 2047 l) (he:fC 2047 e) :
  aX Tryz.prog 136 #[.agg (l.map (Value.int .i64)).toArray,.agg (e.map (Value.int .i64)).toArray] w fun v w'=>v=K3 (gA l e)∧Ext [] w w':=by
 refine aL (args:=[_,_]) Tryz.func136 rfl rfl Tryz.ntmps136 rfl ?_
 have hH:=Hp.start w
 obtain ⟨hl,hlb⟩:=hl
 obtain ⟨he,heb⟩:=he
 refine aK ?_
 refine aO ?_
 refine aA (bI (cs:=(l.map (Value.int .i64)).toArray) hH rfl rfl rfl ?_)
 try clear hH
 intro _ b1 hH
 replace hH:=aI hH
 refine aO ?_
 refine aA (bI (cs:=(e.map (Value.int .i64)).toArray) hH rfl rfl rfl ?_)
 try clear hH
 intro _ b2 hH
 replace hH:=aI hH
 refine aO ?_
 refine aA (aQ hH (Ty.bH rfl) rfl ?_)
 try clear hH
 intro _ b3 hH
 replace hH:=aI hH
 have hB:=hH.b 1 rfl
 repeat (first|refine aR ?_|(refine aD (by refine aE rfl hB (by simp [he]) (Ty.aF rfl)) rfl ?_)|refine aT ?_)
 clear hB
 have hz:(List.zipWith (· - ·) l e).length=64:=by simp [hl,he]
 obtain ⟨z,hzz⟩:∃ z,List.zipWith (· - ·) l e=z:=⟨_,rfl⟩
 rw [hzz] at hz
 refine aV (G:=(Nat)) (fun k=>64-k) 2147483360 (fun k=>[(9,.int .i64 k)]) (fun k w'=>k≤64∧(∀ n∈z.take k,-2047≤n∧n≤2047)∧Hp [] w w' [Rb b1 92 ((mix z l k).map (Value.int .i64)).toArray,Rb b2 92 (e.map (Value.int .i64)).toArray,Rb b3 92 (rH.map (Value.int .i64)).toArray]) (0) ⟨rfl,trivial⟩ ⟨by omega,by simp,by rw [kV];exact hH⟩ ?_
 rintro k w' σ ⟨hk,hzb,hH⟩ IH
 show WS _ _ _ _ _ (bQ [(9,.int .i64 k)] _) _
 have hml:=eZ hz hl hk
 by_cases hlt:k<64
 ·obtain ⟨a,ha⟩:∃ a,l[k]?=some a:=⟨_,List.getElem?_eq_getElem (by omega)⟩
  obtain ⟨d,hd⟩:∃ d,e[k]?=some d:=⟨_,List.getElem?_eq_getElem (by omega)⟩
  have hzk:z[k]?=some (a-d):=by rw [← hzz,List.getElem?_zipWith,ha,hd]
  have ha2:=hlb a (List.mem_of_getElem? ha)
  have hd2:=heb d (List.mem_of_getElem? hd)
  have hx1:(e.map (Value.int .i64)).toArray[k]?=some (.int .i64 d):=by simp [hd]
  have hx2:((mix z l k).map (Value.int .i64))[k]?=some (.int .i64 a):=by rw [List.getElem?_map,Dv hz hlt,ha];rfl
  have hS:cI w' (some ⟨b1,0,none⟩) ((mix z l k).map (Value.int .i64)):=(hH.b 0 rfl).cX
  repeat (first|refine aR ?_|(refine aD (by first|refine cB rfl rfl (Ty.arr rfl) (by omega) hx1|refine bD rfl rfl (Ty.arr rfl) (by omega)|refine aU rfl hS hx2 (Ty.aF rfl)) rfl ?_)|refine aT ?_)
  clear hS
  refine aO ?_
  refine aA (cF 0 (v:=.int .i64 (a-d)) hH rfl rfl rfl (by simp [hml];omega) rfl (Ty.aF rfl) ?_)
  try clear hH
  intro _ hH
  replace hH:=aI hH
  rw [← List.map_set,Int.toNat_natCast,gZ hz hl hlt hzk] at hH
  have hx3:((mix z l (k+1)).map (Value.int .i64))[k]?=some (.int .i64 (a-d)):=by rw [← gZ hz hl hlt hzk,List.getElem?_map,List.getElem?_set_self (by omega)];rfl
  have hS:cI _ (some ⟨b1,0,none⟩) ((mix z l (k+1)).map (Value.int .i64)):=(hH.b 0 rfl).cX
  by_cases hb1:a-d < -2047
  ·have hno:gA l e=none:=by
    unfold gA
    rw [if_neg]
    intro h
    rw [hzz] at h
    have:=h (a-d) (List.mem_of_getElem? hzk)
    omega
   repeat (first|refine aR ?_|(refine aD (by first|refine bD rfl rfl (Ty.arr rfl) (by omega)|refine aU rfl hS hx3 (Ty.aF rfl)|refine dC (cs:=rH.map (Value.int .i64)) (Ty.bH rfl) (Ty.arr rfl) rfl) rfl ?_)|refine aT ?_)
   refine aO ?_
   refine aA (aJ 2 (vs:=(rH.map (Value.int .i64)).toArray) (s:=64) hH rfl rfl rfl (by rfl) (by rfl) (by exact bB) (Ty.aF rfl) ?_)
   try clear hH
   intro _ hH
   replace hH:=aI hH
   refine aK ?_
   exact mR Tryz.func136 rfl rfl (hH.b 2 rfl) (by simp) (Ty.aF rfl) ⟨by rw [hno];rfl,hH.ext⟩
  by_cases hb2:2047<a-d
  ·have hno:gA l e=none:=by
    unfold gA
    rw [if_neg]
    intro h
    rw [hzz] at h
    have:=h (a-d) (List.mem_of_getElem? hzk)
    omega
   repeat (first|refine aR ?_|(refine aD (by first|refine bD rfl rfl (Ty.arr rfl) (by omega)|refine aU rfl hS hx3 (Ty.aF rfl)|refine dC (cs:=rH.map (Value.int .i64)) (Ty.bH rfl) (Ty.arr rfl) rfl) rfl ?_)|refine aT ?_)
   refine aO ?_
   refine aA (aJ 2 (vs:=(rH.map (Value.int .i64)).toArray) (s:=64) hH rfl rfl rfl (by rfl) (by rfl) (by exact bB) (Ty.aF rfl) ?_)
   try clear hH
   intro _ hH
   replace hH:=aI hH
   refine aK ?_
   exact mR Tryz.func136 rfl rfl (hH.b 2 rfl) (by simp) (Ty.aF rfl) ⟨by rw [hno];rfl,hH.ext⟩
  repeat (first|refine aR ?_|(refine aD (by first|refine bD rfl rfl (Ty.arr rfl) (by omega)|refine aU rfl hS hx3 (Ty.aF rfl)) rfl ?_)|refine aT ?_)
  refine IH (k+1) _ _ ?_ ?_ ?_ ?_
  ·omega
  ·exact ⟨rfl,trivial⟩
  ·exact cP
  ·exact ⟨by omega,fun n hn=>by rw [List.take_add_one,hzk] at hn;rcases List.mem_append.1 hn with hn|hn;exact hzb n hn;simp at hn;omega,hH⟩
 ·obtain rfl:k=64:=by omega
  rw [lD hz hl] at hH
  have hB:=hH.b 0 rfl
  repeat (first|refine aR ?_|(refine aD (by refine aE rfl hB (by simp [hz]) (Ty.aF rfl)) rfl ?_)|refine aT ?_)
  have hl1:=hz
  refine aO ?_
  refine aA (aJ 2 (vs:=(z.map (Value.int .i64)).toArray) (s:=64) hH rfl rfl rfl (by simp [hl1]) (by rfl) (by exact bB) (Ty.aF rfl) ?_)
  try clear hH
  intro _ hH
  replace hH:=aI hH
  refine aK ?_
  have hyes:gA l e=some z:=by
   unfold gA
   rw [hzz,if_pos]
   rw [List.take_of_length_le (by omega)] at hzb
   exact hzb
  exact mR Tryz.func136 rfl rfl (hH.b 2 rfl) (by simp [hz]) (Ty.aF rfl) ⟨by rw [hyes];rfl,hH.ext⟩
end
end Go.Proofs.YtdbnmbkjmeepkaaGreatDoor
