/- A part of the proof of the card of TopText; no condition. -/
import Derived.KernelRfl
import Derived.Orders
import Derived.OrdersHeld
import Derived.Scope
import Derived.WalkKit
import Derived.WalkLawsBesides
import Derived.WalkSpells
namespace Go.K
abbrev Fr:=Nat→Value
def dX (ρ:Fr) (d:Nat) (v:Value):Fr:=fun n=>cond (Nat.beq n d) v (ρ n)
def fK (ρ:Fr):Option Nat→Value→Fr
 | none,_=>ρ
 | some d,v=>dX ρ d v
def ev (ρ:Fr):Operand→Value
 | .tmp t=>ρ t
 | .const v=>v
 | .global g=>.pointer (some ⟨g,0,none⟩)
 | .func f=>.func (.func f) #[] #[]
def gI (N:Nat):Option Nat→Bool
 | none=>true
 | some d=>Nat.blt d N
structure sW (N:Nat) (a:Act) (ρ:Fr):Prop where
 size:a.tmps.size=N
 defers:a.defers=[]
 val:∀ t,a.tmps.getD t undef=ρ t
theorem sW.eval {N:Nat} {a:Act} {ρ:Fr} (h:sW N a ρ):a.eval=ev ρ:=by
 funext x
 cases x with
 | tmp t=>exact h.val t
 | const v=>rfl
 | global g=>rfl
 | func f=>rfl
theorem nE (ρ:Fr) (d:Nat) (v:Value):dX ρ d v d=v:=by
 show cond (Nat.beq d d) v (ρ d)=v
 rw [Nat.beq_refl];rfl
theorem nI (ρ:Fr) {d t:Nat} (v:Value) (h:t≠d):dX ρ d v t=ρ t:=by
 have:Nat.beq t d=false:=by
  cases hb:Nat.beq t d with
  | false=>rfl
  | true=>exact absurd (Nat.eq_of_beq_eq_true hb) h
 show cond (Nat.beq t d) v (ρ t)=ρ t
 rw [this];rfl
theorem sW.put {N:Nat} {a:Act} {ρ:Fr} (h:sW N a ρ) {d:Option Nat} (hd:gI N d=true) (v:Value):sW N (a.put d v) (fK ρ d v):=by
 cases d with
 | none=>exact h
 | some d =>
  have hlt:d<N:=by simpa [gI,Nat.blt_eq] using hd
  refine ⟨by simp [Act.put,h.size],by simp [Act.put,h.defers],fun t=>?_⟩
  by_cases htd:t=d
  ·subst htd
   have:t<a.tmps.size:=by rw [h.size];exact hlt
   simp [Act.put,fK,nE,this]
  ·have:=h.val t
   simp only [fK,nI ρ v htd,← this]
   simp [Act.put,Array.getElem?_setIfInBounds_ne (Ne.symm htd)]
def base (f:FuncId):Frame:={ (default:Frame) with fn:=f,kind:=.normal }
structure WS (P:Program) (N:Nat) (f:FuncId) (R:Value→World→Prop) (k:List Item) (ρ:Fr) (w:World):Prop where
 out:∀ a,sW N a ρ→∀ cs,∃ v w' fr,R v w'∧Steps P (lone ((base f).at a k) cs w) (lone fr cs w')∧fr.fn=f∧fr.leaving P w' (.returned v)
section
variable {P:Program} {N:Nat} {f:FuncId} {R:Value→World→Prop} {k:List Item} {ρ:Fr} {w:World}
theorem jN {k':List Item} (hs:∀ a cs,step P (lone ((base f).at a k) cs w)=.next (lone ((base f).at a k') cs w))
  (h:WS P N f R k' ρ w):WS P N f R k ρ w:=⟨fun a ha cs =>
 let ⟨v,w',fr,hR,dW,hl⟩:=h.out a ha cs
 ⟨v,w',fr,hR,.head (hs a cs) dW,hl⟩⟩
theorem DM {x y:Code} (h:WS P N f R (.code x::.code y::k) ρ w):WS P N f R (.code (.seq x y)::k) ρ w:=jN (fun _ _=>step_seq) h
theorem Eh (h:WS P N f R k ρ w):WS P N f R (.code .skip::k) ρ w:=jN (fun _ _=>step_skip) h
theorem CC {id:Nat} {c:Code} (h:WS P N f R (.code c::.inBlock id::k) ρ w):WS P N f R (.code (.block id c)::k) ρ w:=jN (fun _ _=>step_block) h
theorem vI {id:Nat} (h:WS P N f R k ρ w):WS P N f R (.inBlock id::k) ρ w:=jN (fun _ _=>step_inBlock) h
theorem Bt {c:Code} (h:WS P N f R (.code c::.inLoop c::k) ρ w):WS P N f R (.code (.loop c)::k) ρ w:=jN (fun _ _=>step_loop) h
theorem gP {c:Code} (h:WS P N f R (.code c::.inLoop c::k) ρ w):WS P N f R (.inLoop c::k) ρ w:=jN (fun _ _=>step_inLoop) h
theorem EE {id:Nat} {k':List Item} (hk:exitTo id k=some k') (h:WS P N f R k' ρ w):WS P N f R (.code (.exit id)::k) ρ w:=jN (fun _ _=>step_exit hk) h
theorem uB {c:Operand} {x y:Code} {t:Bool} (hc:ev ρ c=.bool t) (h:WS P N f R (.code (if t then x else y)::k) ρ w):WS P N f R (.code (.cond c x y)::k) ρ w :=
 ⟨fun a ha cs =>
 let ⟨v,w',fr,hR,dW,hl⟩:=h.out a ha cs
 ⟨v,w',fr,hR,.head (step_cond (by rw [ha.eval];exact hc)) dW,hl⟩⟩
theorem zK {c:Operand} {x y:Code} (hc:ev ρ c=.bool true) (h:WS P N f R (.code x::k) ρ w):WS P N f R (.code (.cond c x y)::k) ρ w:=uB hc h
theorem wO {c:Operand} {x y:Code} (hc:ev ρ c=.bool false) (h:WS P N f R (.code y::k) ρ w):WS P N f R (.code (.cond c x y)::k) ρ w:=uB hc h
theorem DE {c:Operand} {x y:Code} {p:Prop} [Decidable p] (hc:ev ρ c=.bool (decide p)) (hp:p) (h:WS P N f R (.code x::k) ρ w):WS P N f R (.code (.cond c x y)::k) ρ w :=
 uB hc (by rw [decide_eq_true hp];exact h)
theorem Iu {c:Operand} {x y:Code} {p:Prop} [Decidable p] (hc:ev ρ c=.bool (decide p)) (hp:¬p) (h:WS P N f R (.code y::k) ρ w):WS P N f R (.code (.cond c x y)::k) ρ w :=
 uB hc (by rw [decide_eq_false hp];exact h)
theorem sL {c:Operand} {x y:Code} {p:Prop} [Decidable p] (hc:ev ρ c=.bool (decide p)) (ht:p→WS P N f R (.code x::k) ρ w) (hf:¬p→WS P N f R (.code y::k) ρ w) :
  WS P N f R (.code (.cond c x y)::k) ρ w:=by
 by_cases hp:p
 ·exact DE hc hp (ht hp)
 ·exact Iu hc hp (hf hp)
theorem fW {fn:Func} {v:Value} (hf:P.funcs[f]?=some fn) (hk:∀ a cs,∃ todo,step P (lone ((base f).at a k) cs w)=.next (lone { (base f).at a todo with mode:=.returning } cs w))
  (hr:∀ a,sW N a ρ→(results fn a.tmps).run P w=.ok v w) (hR:R v w):WS P N f R k ρ w:=⟨fun a ha cs=>by
 obtain ⟨todo,hs⟩:=hk a cs
 exact ⟨v,w,_,hR,.one hs,rfl,rfl,ha.defers,rfl,fn,hf,hr a ha⟩⟩
theorem A5 {fn:Func} {t:Tmp} (h:fn.results=#[.tmp t]) {a:Act} (ha:sW N a ρ):(results fn a.tmps).run P w=.ok (ρ t) w:=by
 simp [results,h,← ha.val]
theorem zZ {fn:Func} (h:fn.results=#[]) {a:Act}:(results fn a.tmps).run P w=.ok (.tuple #[]) w:=by
 simp [results,h]
theorem xL {fn:Func} {t u:Tmp} (h:fn.results=#[.tmp t,.tmp u]) {a:Act} (ha:sW N a ρ):(results fn a.tmps).run P w=.ok (.tuple #[ρ t,ρ u]) w:=by
 simp [results,h,← ha.val]
theorem xC {fn:Func} {t u s:Tmp} (h:fn.results=#[.tmp t,.tmp u,.tmp s]) {a:Act} (ha:sW N a ρ):(results fn a.tmps).run P w=.ok (.tuple #[ρ t,ρ u,ρ s]) w:=by
 simp [results,h,← ha.val]
theorem fM:∀ (a:Act) (cs:List Frame),∃ todo,step P (lone ((base f).at a (.code .ret::k)) cs w)=.next (lone { (base f).at a todo with mode:=.returning } cs w) :=
 fun _ _=>⟨_,step_ret⟩
theorem FO:∀ (a:Act) (cs:List Frame),∃ todo,step P (lone ((base f).at a []) cs w)=.next (lone { (base f).at a todo with mode:=.returning } cs w) :=
 fun _ _=>⟨_,step_end⟩
theorem aM {fn:Func} {t:Tmp} (hf:P.funcs[f]?=some fn) (hr:fn.results=#[.tmp t]) (h:R (ρ t) w):WS P N f R (.code .ret::k) ρ w:=fW hf fM (fun _ ha=>A5 hr ha) h
theorem cR {fn:Func} {t u:Tmp} (hf:P.funcs[f]?=some fn) (hr:fn.results=#[.tmp t,.tmp u]) (h:R (.tuple #[ρ t,ρ u]) w):WS P N f R (.code .ret::k) ρ w:=fW hf fM (fun _ ha=>xL hr ha) h
theorem zQ {fn:Func} {t u s:Tmp} (hf:P.funcs[f]?=some fn) (hr:fn.results=#[.tmp t,.tmp u,.tmp s]) (h:R (.tuple #[ρ t,ρ u,ρ s]) w):WS P N f R (.code .ret::k) ρ w:=fW hf fM (fun _ ha=>xC hr ha) h
theorem cE {fn:Func} (hf:P.funcs[f]?=some fn) (hr:fn.results=#[]) (h:R (.tuple #[]) w):WS P N f R [] ρ w:=fW hf FO (fun _ _=>zZ hr) h
def bQ:List (Nat × Value)→Fr→Fr
 | [],ρ=>ρ
 | (i,v)::l,ρ=>dX (bQ l ρ) i v
def sM (W n:Nat):Bool:=Nat.beq (Nat.land (Nat.shiftRight W n) 1) 1
def oW (W:Nat) (ρ σ:Fr):Fr:=fun n=>cond (sM W n) (σ n) (ρ n)
def Has (ρ:Fr):List (Nat × Value)→Prop
 | []=>True
 | (i,v)::l=>ρ i=v∧Has ρ l
def eG (W:Nat) (ρ ρ':Fr):Prop:=∀ n,sM W n=false→ρ' n=ρ n
theorem eG.refl {W:Nat} {ρ:Fr}:eG W ρ ρ:=fun _ _=>rfl
theorem eG.dX {W:Nat} {ρ ρ':Fr} {d:Nat} {v:Value} (hd:sM W d=true) (h:eG W ρ ρ'):eG W ρ (dX ρ' d v):=fun n hn=>by
 rw [nI ρ' v (fun e=>by subst e;rw [hn] at hd;cases hd)]
 exact h n hn
theorem eG.fK {W:Nat} {ρ ρ':Fr} {d:Nat} {v:Value} (hd:sM W d=true) (h:eG W ρ ρ'):eG W ρ (fK ρ' (some d) v):=h.dX hd
theorem eG.bQ {W:Nat} {ρ ρ':Fr}:∀ {l:List (Nat × Value)},l.all (fun p=>sM W p.1)=true→eG W ρ ρ'→eG W ρ (bQ l ρ')
 | [],_,h=>h
 | (i,v)::l,hl,h=>by
  have hl':(sM W i && l.all (fun p=>sM W p.1))=true:=by simpa using hl
  rw [Bool.and_eq_true] at hl'
  exact (eG.bQ hl'.2 h).dX hl'.1
theorem eG.oW {W W':Nat} {ρ ρ' σ:Fr} (hs:Nat.land W' W=W') (h:eG W ρ ρ'):eG W ρ (oW W' ρ' σ):=fun n hn=>by
 have hb:sM W' n=false:=by
  cases hb:sM W' n with
  | false=>rfl
  | true =>
   have h1:(W' >>> n) &&& 1=1:=Nat.eq_of_beq_eq_true hb
   have h2:(W >>> n) &&& 1=1:=by
    have:(W' &&& W) >>> n &&& 1=1:=by rw [show W' &&& W=W' from hs];exact h1
    rw [Nat.shiftRight_and_distrib,Nat.and_assoc] at this
    have h3:(W' >>> n) &&& ((W >>> n) &&& 1)≤(W >>> n) &&& 1:=Nat.and_le_right
    have h4:(W >>> n) &&& 1≤1:=Nat.and_le_right
    omega
   have:sM W n=true:=by
    show Nat.beq ((W >>> n) &&& 1) 1=true
    rw [h2]
    rfl
   rw [hn] at this
   cases this
 show cond (sM W' n) (σ n) (ρ' n)=ρ n
 rw [hb]
 exact h n hn
theorem gK {ρ:Fr}:∀ {l:List (Nat × Value)},Has ρ l→bQ l ρ=ρ
 | [],_=>rfl
 | (i,v)::l,h=>by
  show dX (bQ l ρ) i v=ρ
  rw [gK h.2]
  funext n
  by_cases hn:n=i
  ·subst hn;rw [nE];exact h.1.symm
  ·exact nI ρ v hn
theorem pD {W:Nat} {ρ ρ':Fr} (h:eG W ρ ρ'):oW W ρ ρ'=ρ':=by
 funext n
 show cond (sM W n) (ρ' n) (ρ n)=ρ' n
 cases hb:sM W n with
 | true=>rfl
 | false=>exact (h n hb).symm
theorem KN {G:Type} (μ:G→Nat) (W:Nat) (S:G→List (Nat × Value)) (I:G→World→Prop) (k0:List Item) (ρ0:Fr)
  (round:∀ g w σ,I g w→(∀ g' w' ρ',μ g'<μ g→Has ρ' (S g')→eG W ρ0 ρ'→I g' w'→WS P N f R k0 ρ' w')→WS P N f R k0 (bQ (S g) (oW W ρ0 σ)) w) :
  ∀ g w ρ',Has ρ' (S g)→eG W ρ0 ρ'→I g w→WS P N f R k0 ρ' w:=by
 have key:∀ n g,μ g=n→∀ w ρ',Has ρ' (S g)→eG W ρ0 ρ'→I g w→WS P N f R k0 ρ' w:=by
  intro n
  induction n using Nat.strongRecOn with
  | _ n ih =>
   intro g hn w ρ' hS hA hI
   have h:=round g w ρ' hI (fun g' w' ρ'' hlt hS' hA' hI'=>ih (μ g') (hn▸hlt) g' rfl w' ρ'' hS' hA' hI')
   rw [pD hA,gK hS] at h
   exact h
 exact fun g w ρ' hS hA hI=>key _ g rfl w ρ' hS hA hI
theorem aV {G:Type} {c:Code} (μ:G→Nat) (W:Nat) (S:G→List (Nat × Value)) (I:G→World→Prop) (g0:G) (hS:Has ρ (S g0)) (h0:I g0 w)
  (round:∀ g w σ,I g w→(∀ g' w' ρ',μ g'<μ g→Has ρ' (S g')→eG W ρ ρ'→I g' w'→WS P N f R (.inLoop c::k) ρ' w')→WS P N f R (.code c::.inLoop c::k) (bQ (S g) (oW W ρ σ)) w) :
  WS P N f R (.code (.loop c)::k) ρ w:=by
 have key:=KN (P:=P) (N:=N) (f:=f) (R:=R) μ W S I (.inLoop c::k) ρ (fun g w σ hI ih=>gP (round g w σ hI ih)) g0 w ρ hS .refl h0
 refine ⟨fun a ha cs=>?_⟩
 ·obtain ⟨v,w',fr,hR,dW,hl⟩:=key.out a ha cs
  obtain ⟨n,hn⟩:=dW
  cases n with
  | zero =>
   exfalso
   simp only [runN,Stepped.next.injEq] at hn
   have hm:=congrArg (fun m:Machine=>(m.gs[0]?).map fun g=>(g.frame.mode,g.frame.todo)) hn
   simp only [lone,Frame.at] at hm
   obtain ⟨_,hleave⟩:=hl
   have h1:=hleave.1
   simp at hm
   rw [h1] at hm
   exact absurd hm.1 (by simp)
  | succ n =>
   simp only [runN,step_inLoop] at hn
   exact ⟨v,w',fr,hR,⟨n+1,by simp only [runN,step_loop];exact hn⟩,hl⟩
end
end Go.K
namespace Go.K
open Go
def QN (N:Nat) (K:Fr→World→Prop):Exit→Act→World→Prop :=
 fun e a w=>e=.normal∧∃ ρ,sW N a ρ∧K ρ w
structure WL (P:Program) (N:Nat) (C:Fr→World→Prop) (ops:Array Oper) (l:List Oper) (ρ:Fr) (w:World):Prop where
 out:∀ a,sW N a ρ→wpList P ops (QN N C) l a w
section
variable {P:Program} {N:Nat} {f:FuncId} {R:Value→World→Prop} {k:List Item} {C:Fr→World→Prop} {ρ:Fr} {w w':World} {ops:Array Oper} {l:List Oper} {v:Value}
theorem vN {c:Code} (h:∀ a,sW N a ρ→c.wp P (QN N (WS P N f R k)) a w):WS P N f R (.code c::k) ρ w:=⟨fun a ha cs=>by
 obtain ⟨e,a',w1,⟨rfl,ρ',hρ',hws⟩,harr⟩:=h a ha (base f) k cs
 obtain ⟨v,w',fr,hR,dW,hl⟩:=hws.out a' hρ' cs
 exact ⟨v,w',fr,hR,Steps.trans harr dW,hl⟩⟩
theorem yQ {id:Nat} {l:List Oper} (h:WL P N (WS P N f R k) l.toArray l ρ w):WS P N f R (.code (.region id l.toArray false)::k) ρ w :=
 vN fun a ha=>wp_region_lit (h.out a ha)
theorem Ht (h:C ρ w):WL P N C ops [] ρ w:=⟨fun _ ha=>⟨rfl,ρ,ha,h⟩⟩
structure cU (P:Program) (ρ:Fr) (o:Oper) (w:World) (v:Value) (w':World):Prop where
 out:(execOp (ev ρ) o).run P w=.ok (.value v) w'
theorem M3 {o:Oper} (h:cU P ρ o w v w') (hg:o.guard=none) (hd:gI N o.dst=true) (hk:WL P N C ops l (fK ρ o.dst v) w'):WL P N C ops (o::l) ρ w:=by
 refine ⟨fun a ha=>?_⟩
 unfold wpList
 rw [if_pos (by simp [Region.wanted,hg])]
 refine .inl ?_
 unfold Oper.wp
 rw [ha.eval,h.out]
 exact hk.out _ (ha.put hd v)
structure kC (P:Program) (N:Nat) (ρ:Fr) (o:Oper) (w:World) (K:Fr→World→Prop):Prop where
 out:∀ a,sW N a ρ→∀ Q,o.wp P a w (fun a' w'=>∃ ρ',sW N a' ρ'∧K ρ' w') Q
section
variable {K:Fr→World→Prop}
theorem fA {o:Oper} (h:cU P ρ o w v w') (hd:gI N o.dst=true) (hk:K (fK ρ o.dst v) w'):kC P N ρ o w K:=by
 refine ⟨fun a ha Q=>?_⟩
 unfold Oper.wp
 rw [ha.eval,h.out]
 exact ⟨_,ha.put hd v,hk⟩
theorem Cw {o:Oper} (h:(execOp (ev ρ) o).run P w=.ok .skip w') (hd:o.dst=none) (hk:K ρ w'):kC P N ρ o w K:=by
 refine ⟨fun a ha Q=>?_⟩
 unfold Oper.wp
 rw [ha.eval,h]
 refine ⟨ρ,?_,hk⟩
 rw [hd]
 exact ha
theorem J1 {o:Oper} (h:kC P N ρ o w (fun ρ' w'=>WL P N C ops l ρ' w')) (hg:o.guard=none):WL P N C ops (o::l) ρ w:=by
 refine ⟨fun a ha=>?_⟩
 unfold wpList
 rw [if_pos (by simp [Region.wanted,hg])]
 exact .inl (Oper.wp_mono (fun a' w' ⟨ρ',hr,hw⟩=>hw.out a' hr) (h.out a ha _))
end
theorem aD {d:Nat} {op:Op} {ty:TypeId} {pos:String} {af:Array Edge} (h:cU P ρ ⟨some d,op,ty,pos,af,none⟩ w v w') (hd:Nat.blt d N=true) (hk:WL P N C ops l (dX ρ d v) w'):WL P N C ops (⟨some d,op,ty,pos,af,none⟩::l) ρ w :=
 M3 h rfl hd hk
theorem aA {d:Option Nat} {op:Op} {ty:TypeId} {pos:String} {af:Array Edge} (h:kC P N ρ ⟨d,op,ty,pos,af,none⟩ w (fun ρ' w'=>WL P N C ops l ρ' w')):WL P N C ops (⟨d,op,ty,pos,af,none⟩::l) ρ w:=J1 h rfl
def oT (ops:Array Oper) (j:Nat):Option Nat:=(ops[j]?).bind (·.dst)
theorem eE {a:Act} (ha:sW N a ρ) {j d:Nat} (hj:oT ops j=some d) (hd:Nat.blt d N=true) {b:Bool} (hv':ev ρ (.tmp d)=.bool b):yielded ops a.tmps j=some b:=by
 have hlt:d<a.tmps.size:=by rw [ha.size];simpa [Nat.blt_eq] using hd
 have hv:ρ d=.bool b:=hv'
 have h1:=ha.val d
 rw [hv] at h1
 unfold oT at hj
 unfold yielded
 rw [hj]
 have:a.tmps[d]?=some (.bool b):=by
  rw [Array.getElem?_eq_getElem hlt]
  simp [Array.getD,hlt] at h1
  rw [h1]
 simp [this]
theorem lT {dst:Option Nat} {op:Op} {ty:TypeId} {pos:String} {af:Array Edge} {j d:Nat} {want:Bool} (hj:oT ops j=some d) (hd:Nat.blt d N=true) (hv:ev ρ (.tmp d)=.bool want)
  (h:WL P N C ops (⟨dst,op,ty,pos,af,none⟩::l) ρ w):WL P N C ops (⟨dst,op,ty,pos,af,some (j,want)⟩::l) ρ w:=by
 refine ⟨fun a ha=>?_⟩
 have h':=h.out a ha
 unfold wpList at h' ⊢
 rw [if_pos (by simp [Region.wanted,eE ha hj hd hv])]
 rw [if_pos (by simp [Region.wanted])] at h'
 exact h'
theorem rU {dst:Option Nat} {op:Op} {ty:TypeId} {pos:String} {af:Array Edge} {j d:Nat} {want b:Bool} (hj:oT ops j=some d) (hd:Nat.blt d N=true) (hv:ev ρ (.tmp d)=.bool b) (hb:b=!want)
  (hd':gI N dst=true) (h:WL P N C ops l (fK ρ dst undef) w):WL P N C ops (⟨dst,op,ty,pos,af,some (j,want)⟩::l) ρ w:=by
 refine ⟨fun a ha=>?_⟩
 unfold wpList
 rw [if_neg (by simp [Region.wanted,eE ha hj hd hv,hb])]
 exact h.out _ (ha.put hd' undef)
theorem Iy {d:Nat} (h:ρ d=v):dX ρ d v=ρ:=by
 funext n
 by_cases hn:n=d
 ·subst hn;rw [nE];exact h.symm
 ·exact nI ρ v hn
section
variable {dst:Option Nat} {ty:TypeId} {pos:String} {af:Array Edge} {gd:Option (Nat × Bool)} {x y z:Operand} {t u:TypeId}
theorem wF (hx:ev ρ x=v):cU P ρ ⟨dst,.move x,ty,pos,af,gd⟩ w v w:=by subst hx;exact ⟨rfl⟩
theorem jM (hx:ev ρ x=v):cU P ρ ⟨dst,.assign x,ty,pos,af,gd⟩ w v w:=by subst hx;exact ⟨rfl⟩
theorem qJ {v:Value} (hc:ev ρ x=.bool true) (hy:ev ρ y=v):cU P ρ ⟨dst,.pick x y z,ty,pos,af,gd⟩ w v w:=by
 constructor;unfold execOp;simp [hc,hy,asBool]
theorem pQ {v:Value} (hc:ev ρ x=.bool false) (hz:ev ρ z=v):cU P ρ ⟨dst,.pick x y z,ty,pos,af,gd⟩ w v w:=by
 constructor;unfold execOp;simp [hc,hz,asBool]
theorem dB {op:BinOp} {a b:Value} (hx:ev ρ x=a) (hy:ev ρ y=b) (hq:(eqGuard op t x y a b).run P w=.ok () w) (h:(binOp op t a b).run P w=.ok v w) :
  cU P ρ ⟨dst,.binOp op t x y u,ty,pos,af,gd⟩ w v w:=by
 constructor;unfold execOp;simp [hx,hy,hq,h]
theorem aZ {op:BinOp} {a b:Value} (h:(match a,b with|.nilIface,.nilIface=>false|.agg _,.agg _=>false|_,_=>true)=true):(eqGuard op t x y a b).run P w=.ok () w:=by
 unfold eqGuard
 cases a<;>cases b<;>first|(simp at h;done)|(simp;done)|(split<;>rfl)|(split<;>(simp;done))
section
variable {q:IntKind} {m n:Int}
theorem Ky (hx:ev ρ x=.int q m) (hy:ev ρ y=.int q n):cU P ρ ⟨dst,.binOp .add t x y u,ty,pos,af,gd⟩ w (.int q (q.wrap (m+n))) w :=
 dB hx hy (aZ rfl) (by simp [binOp,Op.intArith])
theorem LY (hx:ev ρ x=.int q m) (hy:ev ρ y=.int q n):cU P ρ ⟨dst,.binOp .sub t x y u,ty,pos,af,gd⟩ w (.int q (q.wrap (m-n))) w :=
 dB hx hy (aZ rfl) (by simp [binOp,Op.intArith])
theorem K6 (hx:ev ρ x=.int q m) (hy:ev ρ y=.int q n):cU P ρ ⟨dst,.binOp .mul t x y u,ty,pos,af,gd⟩ w (.int q (q.wrap (m*n))) w :=
 dB hx hy (aZ rfl) (by simp [binOp,Op.intArith])
theorem fN {i:Int} (h1:-9223372036854775808≤i) (h2:i≤9223372036854775807):IntKind.i64.wrap i=i:=IntWalk.i64_in _ ⟨h1,h2⟩
theorem cT (hx:ev ρ x=.int .i64 m) (hy:ev ρ y=.int .i64 n) (h:-9223372036854775808≤m+n∧m+n≤9223372036854775807):cU P ρ ⟨dst,.binOp .add t x y u,ty,pos,af,gd⟩ w (.int .i64 (m+n)) w:=by
 have:=Ky (P:=P) (dst:=dst) (ty:=ty) (pos:=pos) (af:=af) (gd:=gd) (t:=t) (u:=u) (w:=w) hx hy
 rw [fN h.1 h.2] at this;exact this
theorem dM (hx:ev ρ x=.int .i64 m) (hy:ev ρ y=.int .i64 n) (h:-9223372036854775808≤m-n∧m-n≤9223372036854775807):cU P ρ ⟨dst,.binOp .sub t x y u,ty,pos,af,gd⟩ w (.int .i64 (m-n)) w:=by
 have:=LY (P:=P) (dst:=dst) (ty:=ty) (pos:=pos) (af:=af) (gd:=gd) (t:=t) (u:=u) (w:=w) hx hy
 rw [fN h.1 h.2] at this;exact this
theorem bN (hx:ev ρ x=.int .i64 m) (hy:ev ρ y=.int .i64 n) (h:-9223372036854775808≤m*n∧m*n≤9223372036854775807):cU P ρ ⟨dst,.binOp .mul t x y u,ty,pos,af,gd⟩ w (.int .i64 (m*n)) w:=by
 have:=K6 (P:=P) (dst:=dst) (ty:=ty) (pos:=pos) (af:=af) (gd:=gd) (t:=t) (u:=u) (w:=w) hx hy
 rw [fN h.1 h.2] at this;exact this
theorem jC (hx:ev ρ x=.int .i64 m) (hy:ev ρ y=.int .i64 n) (h:0≤m∧m≤9223372036854775807∧0<n):cU P ρ ⟨dst,.binOp .quo t x y u,ty,pos,af,gd⟩ w (.int .i64 (m / n)) w :=
 dB hx hy (aZ rfl) (by
  have h0:n≠0:=by omega
  have h1:m.tdiv n=m / n:=Int.tdiv_eq_ediv_of_nonneg h.1
  have h2:0≤m / n:=Int.ediv_nonneg h.1 (by omega)
  have h3:m / n≤m:=Int.ediv_le_self _ h.1
  simp [binOp,Op.intDiv,h0,h1,fN (i:=m / n) (by omega) (by omega)])
theorem iX (hx:ev ρ x=.int q m) (hy:ev ρ y=.int q n) (h:0≤m∧n≠0):cU P ρ ⟨dst,.binOp .rem t x y u,ty,pos,af,gd⟩ w (.int q (m % n)) w :=
 dB hx hy (aZ rfl) (by
  have h1:m.tmod n=m % n:=Int.tmod_eq_emod_of_nonneg h.1
  simp [binOp,Op.intDiv,h.2,h1])
theorem OH (hx:ev ρ x=.int q m) (hy:ev ρ y=.int q n):cU P ρ ⟨dst,.binOp .lss t x y u,ty,pos,af,gd⟩ w (.bool (decide (m<n))) w :=
 dB hx hy (aZ rfl) (by simp [binOp,Op.intCmp])
theorem vS (hx:ev ρ x=.int q m) (hy:ev ρ y=.int q n):cU P ρ ⟨dst,.binOp .leq t x y u,ty,pos,af,gd⟩ w (.bool (decide (m≤n))) w :=
 dB hx hy (aZ rfl) (by simp [binOp,Op.intCmp])
theorem Og (hx:ev ρ x=.int q m) (hy:ev ρ y=.int q n):cU P ρ ⟨dst,.binOp .gtr t x y u,ty,pos,af,gd⟩ w (.bool (decide (n<m))) w :=
 dB hx hy (aZ rfl) (by simp [binOp,Op.intCmp])
theorem H0 (hx:ev ρ x=.int q m) (hy:ev ρ y=.int q n):cU P ρ ⟨dst,.binOp .geq t x y u,ty,pos,af,gd⟩ w (.bool (decide (n≤m))) w :=
 dB hx hy (aZ rfl) (by simp [binOp,Op.intCmp])
theorem Jw (m n:Int):(m == n)=decide (m=n):=by
 by_cases h:m=n<;>simp [h]
theorem Kc (m n:Int):(m != n)=decide (m≠n):=by
 by_cases h:m=n<;>simp [h]
theorem dJ (hx:ev ρ x=.int q m) (hy:ev ρ y=.int q n):cU P ρ ⟨dst,.binOp .eql t x y u,ty,pos,af,gd⟩ w (.bool (decide (m=n))) w :=
 dB hx hy (aZ rfl) (by simp only [binOp,Op.intCmp,ne_eq,not_true_eq_false,ite_false,Jw];rfl)
theorem eQ (hx:ev ρ x=.int q m) (hy:ev ρ y=.int q n):cU P ρ ⟨dst,.binOp .neq t x y u,ty,pos,af,gd⟩ w (.bool (decide (m≠n))) w :=
 dB hx hy (aZ rfl) (by simp only [binOp,Op.intCmp,ne_eq,not_true_eq_false,ite_false,Kc];rfl)
end
end
end
def two (q:IntKind):Nat:=2 ^ q.bits
theorem lB {q:IntKind} (hq:q.signed=false) (n:Nat):q.wrap (n:Int)=((n % two q:Nat):Int):=by
 unfold IntKind.wrap two
 simp [hq]
theorem I2 {q:IntKind} (hq:q.signed=true) {n:Nat} (h:2*n<two q):q.wrap (n:Int)=(n:Int):=by
 have h2:n<two q:=by omega
 have h1:(n:Int) % (2 ^ q.bits:Int)=n:=by
  have:(2 ^ q.bits:Int)=((two q:Nat):Int):=by simp [two]
  rw [this,← Int.natCast_emod,Nat.mod_eq_of_lt h2]
 have h3:¬ ((2 ^ (q.bits-1):Int)≤n):=by
  have h4:2 ^ (q.bits-1)*2=two q:=by cases q<;>rfl
  have h5:(2 ^ (q.bits-1):Int)=((2 ^ (q.bits-1):Nat):Int):=by simp
  rw [h5];omega
 unfold IntKind.wrap
 simp only [h1]
 simp [hq,h3]
def fit (q:IntKind) (n:Nat):Bool:=cond q.signed (Nat.blt (2*n) (two q)) (Nat.blt n (two q))
theorem lO {q:IntKind} {n:Nat} (h:fit q n=true):n<two q:=by
 unfold fit at h
 cases hs:q.signed<;>simp [hs,Nat.blt_eq] at h<;>omega
theorem nA {q:IntKind} {n:Nat} (h:fit q n=true):q.wrap (n:Int)=(n:Int):=by
 cases hs:q.signed
 ·rw [lB hs,Nat.mod_eq_of_lt (lO h)]
 ·exact I2 hs (by simpa [fit,hs,Nat.blt_eq] using h)
theorem HZ (q:IntKind):2*2 ^ (q.bits-1)=two q:=by cases q<;>rfl
theorem eV {q:IntKind} {n:Nat}:fit q n=true ↔ n<2 ^ (if q.signed then q.bits-1 else q.bits):=by
 unfold fit
 cases hs:q.signed
 ·simp [Nat.blt_eq,two]
 ·simp only [cond_true,Nat.blt_eq,if_true]
  have:=HZ q
  omega
theorem iF {b n:Nat} (h:n<2 ^ b):(BitVec.ofInt b (n:Int)).toNat=n:=by
 have e:((2:Int) ^ b)=((2 ^ b:Nat):Int):=by simp
 simp only [BitVec.toNat_ofInt]
 rw [← Int.natCast_emod,Int.toNat_natCast,Nat.mod_eq_of_lt h]
theorem CO {n:Nat} (h:n<256):fit .u8 n=true:=eV.2 (by simpa [IntKind.bits,IntKind.signed] using h)
theorem vK {n:Nat} (h:n<65536):fit .u16 n=true:=eV.2 (by simpa [IntKind.bits,IntKind.signed] using h)
theorem PL {n:Nat} (h:n<4294967296):fit .u32 n=true:=eV.2 (by simpa [IntKind.bits,IntKind.signed] using h)
theorem kI {n:Nat} (h:n<18446744073709551616):fit .u64 n=true:=eV.2 (by simpa [IntKind.bits,IntKind.signed] using h)
theorem mU {n:Nat} (h:n<9223372036854775808):fit .i64 n=true:=eV.2 (by simpa [IntKind.bits,IntKind.signed] using h)
section
variable {P:Program} {ρ:Fr} {w w':World} {v:Value} {dst:Option Nat} {ty:TypeId} {pos:String} {af:Array Edge} {gd:Option (Nat × Bool)} {x y z:Operand} {t u:TypeId} {q:IntKind} {m n:Nat}
theorem tT (hx:ev ρ x=.int q m) (hy:ev ρ y=.int q n) (hm:fit q m=true) (hn:fit q n=true):cU P ρ ⟨dst,.binOp .and t x y u,ty,pos,af,gd⟩ w (.int q ((m &&& n:Nat):Int)) w :=
 dB hx hy (aZ rfl) (by
  have h:fit q (m &&& n)=true:=eV.2 (Nat.lt_of_le_of_lt Nat.and_le_left (eV.1 hm))
  have h1:=iF (b:=q.bits) (lO hm);have h2:=iF (b:=q.bits) (lO hn)
  simp only [binOp,Op.intBits,BitVec.toNat_and,h1,h2,nA h]
  simp)
theorem HL (hx:ev ρ x=.int q m) (hy:ev ρ y=.int q n) (hm:fit q m=true) (hn:fit q n=true):cU P ρ ⟨dst,.binOp .or t x y u,ty,pos,af,gd⟩ w (.int q ((m ||| n:Nat):Int)) w :=
 dB hx hy (aZ rfl) (by
  have h:fit q (m ||| n)=true:=eV.2 (Nat.or_lt_two_pow (eV.1 hm) (eV.1 hn))
  have h1:=iF (b:=q.bits) (lO hm);have h2:=iF (b:=q.bits) (lO hn)
  simp only [binOp,Op.intBits,BitVec.toNat_or,h1,h2,nA h]
  simp)
theorem K0 (hx:ev ρ x=.int q m) (hy:ev ρ y=.int q n) (hm:fit q m=true) (hn:fit q n=true):cU P ρ ⟨dst,.binOp .xor t x y u,ty,pos,af,gd⟩ w (.int q ((m ^^^ n:Nat):Int)) w :=
 dB hx hy (aZ rfl) (by
  have h:fit q (m ^^^ n)=true:=eV.2 (Nat.xor_lt_two_pow (eV.1 hm) (eV.1 hn))
  have h1:=iF (b:=q.bits) (lO hm);have h2:=iF (b:=q.bits) (lO hn)
  simp only [binOp,Op.intBits,BitVec.toNat_xor,h1,h2,nA h]
  simp)
theorem LG {yk:IntKind} (hx:ev ρ x=.int q m) (hy:ev ρ y=.int yk n) (hq:q.signed=false):cU P ρ ⟨dst,.binOp .shl t x y u,ty,pos,af,gd⟩ w (.int q ((m*2 ^ n % two q:Nat):Int)) w :=
 dB hx hy (aZ rfl) (by
  have h0:¬ ((n:Int)<0):=by omega
  have h:q.wrap ((m:Int)*2 ^ min n q.bits)=((m*2 ^ n % two q:Nat):Int):=by
   have e:((m:Int)*2 ^ min n q.bits)=((m*2 ^ min n q.bits:Nat):Int):=by simp
   rw [e,lB hq]
   congr 1
   by_cases hn:n≤q.bits
   ·rw [Nat.min_eq_left hn]
   ·rw [Nat.min_eq_right (by omega)]
    have e1:m*2 ^ q.bits % two q=0:=Nat.mul_mod_left _ _
    have e2:m*2 ^ n % two q=0:=by
     have:n=(n-q.bits)+q.bits:=by omega
     rw [this,Nat.pow_add,← Nat.mul_assoc]
     exact Nat.mul_mod_left _ _
    rw [e1,e2]
  simp [binOp,Op.shift,h0,h])
theorem AE {yk:IntKind} (hx:ev ρ x=.int .u16 m) (hy:ev ρ y=.int yk n):cU P ρ ⟨dst,.binOp .shl t x y u,ty,pos,af,gd⟩ w (.int .u16 ((m*2 ^ n % 65536:Nat):Int)) w:=LG hx hy rfl
theorem Al {yk:IntKind} (hx:ev ρ x=.int .u64 m) (hy:ev ρ y=.int yk n):cU P ρ ⟨dst,.binOp .shl t x y u,ty,pos,af,gd⟩ w (.int .u64 ((m*2 ^ n % 18446744073709551616:Nat):Int)) w:=LG hx hy rfl
theorem JJ {yk:IntKind} (hx:ev ρ x=.int .i64 m) (hy:ev ρ y=.int yk n) (hb:m*2 ^ n<9223372036854775808) (hn:n≤63):cU P ρ ⟨dst,.binOp .shl t x y u,ty,pos,af,gd⟩ w (.int .i64 ((m*2 ^ n:Nat):Int)) w :=
 dB hx hy (aZ rfl) (by
  have h0:¬ ((n:Int)<0):=by omega
  have e:((m:Int)*2 ^ n)=((m*2 ^ n:Nat):Int):=by simp
  have h:IntKind.i64.wrap ((m:Int)*2 ^ n)=((m*2 ^ n:Nat):Int):=by
   rw [e];exact fN (by omega) (by omega)
  have hm:min n IntKind.i64.bits=n:=Nat.min_eq_left (by simp only [IntKind.bits];omega)
  simp only [binOp,Op.shift,h0,if_false,Int.toNat_natCast,hm,h,Sem.run_pure])
theorem mV {yk:IntKind} (hx:ev ρ x=.int q m) (hy:ev ρ y=.int yk n) (hm:fit q m=true):cU P ρ ⟨dst,.binOp .shr t x y u,ty,pos,af,gd⟩ w (.int q ((m / 2 ^ n:Nat):Int)) w :=
 dB hx hy (aZ rfl) (by
  have h0:¬ ((n:Int)<0):=by omega
  have h:(m:Int).fdiv (2 ^ min n q.bits)=((m / 2 ^ n:Nat):Int):=by
   have e:((2:Int) ^ min n q.bits)=((2 ^ min n q.bits:Nat):Int):=by simp
   rw [e,Int.fdiv_eq_ediv_of_nonneg _ (Int.natCast_nonneg _),← Int.natCast_ediv]
   congr 1
   by_cases hn:n≤q.bits
   ·rw [Nat.min_eq_left hn]
   ·rw [Nat.min_eq_right (by omega)]
    have h1:m / 2 ^ q.bits=0:=Nat.div_eq_of_lt (lO hm)
    have h2:m / 2 ^ n=0:=Nat.div_eq_of_lt (Nat.lt_of_lt_of_le (lO hm) (Nat.pow_le_pow_right (by omega) (by omega)))
    rw [h1,h2]
  simp [binOp,Op.shift,h0,h])
theorem AA (hx:ev ρ x=.int q m) (hy:ev ρ y=.int q n) (hq:q.signed=false):cU P ρ ⟨dst,.binOp .add t x y u,ty,pos,af,gd⟩ w (.int q (((m+n) % two q:Nat):Int)) w:=by
 have h:=Ky (P:=P) (dst:=dst) (ty:=ty) (pos:=pos) (af:=af) (gd:=gd) (t:=t) (u:=u) (w:=w) hx hy
 rw [← Int.natCast_add,lB hq] at h;exact h
theorem Mi (hx:ev ρ x=.int q m) (hy:ev ρ y=.int q n) (hq:q.signed=false):cU P ρ ⟨dst,.binOp .mul t x y u,ty,pos,af,gd⟩ w (.int q ((m*n % two q:Nat):Int)) w:=by
 have h:=K6 (P:=P) (dst:=dst) (ty:=ty) (pos:=pos) (af:=af) (gd:=gd) (t:=t) (u:=u) (w:=w) hx hy
 rw [← Int.natCast_mul,lB hq] at h;exact h
theorem Iz (hx:ev ρ x=.int q m) (hy:ev ρ y=.int q n) (hq:q.signed=false) (hle:n≤m) (hm:m<two q):cU P ρ ⟨dst,.binOp .sub t x y u,ty,pos,af,gd⟩ w (.int q ((m-n:Nat):Int)) w:=by
 have h:=LY (P:=P) (dst:=dst) (ty:=ty) (pos:=pos) (af:=af) (gd:=gd) (t:=t) (u:=u) (w:=w) hx hy
 rw [← Int.ofNat_sub hle,lB hq,Nat.mod_eq_of_lt (by omega)] at h;exact h
theorem dL (hx:ev ρ x=.int q m) (hy:ev ρ y=.int q n) (hn:n≠0):cU P ρ ⟨dst,.binOp .rem t x y u,ty,pos,af,gd⟩ w (.int q ((m % n:Nat):Int)) w:=by
 have h:=iX (P:=P) (dst:=dst) (ty:=ty) (pos:=pos) (af:=af) (gd:=gd) (t:=t) (u:=u) (w:=w) hx hy ⟨by omega,by omega⟩
 rw [← Int.natCast_emod] at h;exact h
theorem iR (hx:ev ρ x=.int q m) (hy:ev ρ y=.int q n) (hn:n≠0) (hm:fit q m=true):cU P ρ ⟨dst,.binOp .quo t x y u,ty,pos,af,gd⟩ w (.int q ((m / n:Nat):Int)) w :=
 dB hx hy (aZ rfl) (by
  have h0:(n:Int)≠0:=by omega
  have h1:(m:Int).tdiv n=((m / n:Nat):Int):=by rw [Int.tdiv_eq_ediv_of_nonneg (by omega),← Int.natCast_ediv]
  have h2:fit q (m / n)=true:=eV.2 (Nat.lt_of_le_of_lt (Nat.div_le_self _ _) (eV.1 hm))
  simp only [binOp,Op.intDiv,h0,if_false,h1,nA h2]
  simp)
def kindOf (P:Program) (t:TypeId):Option IntKind:=match P.underlying t with|some (.int q)=>some q|_=>none
theorem fD (h:kindOf P t=some q):P.underlying t=some (.int q):=by
 unfold kindOf at h
 split at h
 ·rename_i hh;cases h;exact hh
 ·cases h
theorem wP {qd:IntKind} {i:Int} (hx:ev ρ x=.int q i) (hs:(P.underlying t).isSome=true) (hd:kindOf P u=some qd):cU P ρ ⟨dst,.convert t u x,ty,pos,af,gd⟩ w (.int qd (qd.wrap i)) w:=by
 obtain ⟨d,hd'⟩:=Option.isSome_iff_exists.mp hs
 constructor;unfold execOp
 simp [hx,convert,run_underlying hd',run_underlying (fD hd),Conv.intToInt]
theorem kA {qd:IntKind} (hx:ev ρ x=.int q m) (hs:(P.underlying t).isSome=true) (hd:kindOf P u=some qd) (hf:fit qd m=true):cU P ρ ⟨dst,.convert t u x,ty,pos,af,gd⟩ w (.int qd m) w:=by
 have:=wP (ρ:=ρ) (dst:=dst) (ty:=ty) (pos:=pos) (af:=af) (gd:=gd) (w:=w) hx hs hd
 rw [nA hf] at this;exact this
theorem Hq {qd:IntKind} (hx:ev ρ x=.int q m) (hs:(P.underlying t).isSome=true) (hd:kindOf P u=some qd) (hq:qd.signed=false):cU P ρ ⟨dst,.convert t u x,ty,pos,af,gd⟩ w (.int qd ((m % two qd:Nat):Int)) w:=by
 have:=wP (ρ:=ρ) (dst:=dst) (ty:=ty) (pos:=pos) (af:=af) (gd:=gd) (w:=w) hx hs hd
 rw [lB hq] at this;exact this
theorem Fy (hx:ev ρ x=.int q m) (hs:(P.underlying t).isSome=true) (hd:kindOf P u=some .u8):cU P ρ ⟨dst,.convert t u x,ty,pos,af,gd⟩ w (.int .u8 ((m % 256:Nat):Int)) w:=Hq hx hs hd rfl
theorem DV {i:Int} (hx:ev ρ x=.int q i) (hs:(P.underlying t).isSome=true) (hd:kindOf P u=some .i64) (hf:-9223372036854775808≤i∧i≤9223372036854775807):cU P ρ ⟨dst,.convert t u x,ty,pos,af,gd⟩ w (.int .i64 i) w:=by
 have:=wP (ρ:=ρ) (dst:=dst) (ty:=ty) (pos:=pos) (af:=af) (gd:=gd) (w:=w) hx hs hd
 rw [fN hf.1 hf.2] at this;exact this
theorem Ij {p:Prop} [Decidable p] (hx:ev ρ x=.bool (decide p)):cU P ρ ⟨dst,.unOp .not t x,ty,pos,af,gd⟩ w (.bool (decide (¬p))) w:=by
 constructor;unfold execOp;simp [hx,Op.unary]
theorem fJ {b:Bool} (hx:ev ρ x=.bool b):cU P ρ ⟨dst,.unOp .not t x,ty,pos,af,gd⟩ w (.bool (!b)) w:=by
 constructor;unfold execOp;simp [hx,Op.unary]
theorem kH {i:Int} (hx:ev ρ x=.int .i64 i) (h:-9223372036854775807≤i∧i≤9223372036854775807):cU P ρ ⟨dst,.unOp .neg t x,ty,pos,af,gd⟩ w (.int .i64 (-i)) w:=by
 constructor;unfold execOp;simp [hx,Op.unary,Op.intArith,fN (i:=-i) (by omega) (by omega)]
theorem NS {a b:Bool} (hx:ev ρ x=.bool a) (hy:ev ρ y=.bool b) (ht:P.underlying t=some .bool):cU P ρ ⟨dst,.binOp .neq t x y u,ty,pos,af,gd⟩ w (.bool (a != b)) w :=
 dB hx hy (aZ rfl) (by simp [binOp,Op.equal,Op.maxDepth,run_equalIn_bool w 9999 t a b ht,bne])
theorem KT {a b:Bool} (hx:ev ρ x=.bool a) (hy:ev ρ y=.bool b) (ht:P.underlying t=some .bool) (hab:a=b):cU P ρ ⟨dst,.binOp .neq t x y u,ty,pos,af,gd⟩ w (.bool false) w:=by
 have h:=NS (P:=P) (w:=w) (dst:=dst) (ty:=ty) (pos:=pos) (af:=af) (gd:=gd) (u:=u) hx hy ht
 subst hab
 simpa using h
section
variable {ats:Array TypeId} {pre:String}
def isSlice (P:Program) (t:TypeId):Bool:=match P.underlying t with|some (.slice _)=>true|_=>false
def isStr (P:Program) (t:TypeId):Bool:=match P.underlying t with|some .string=>true|_=>false
def Po (P:Program) (t:TypeId):Option Nat:=match P.underlying t with|some (.array n _)=>some n|_=>none
theorem yC {a:Option Addr} {c:Nat} (hx:ev ρ x=.slice a n c) (h:isSlice P t=true):cU P ρ ⟨dst,.call ⟨.builtin .len,#[x],#[t]⟩,ty,pos,af,gd⟩ w (.int .i64 n) w:=by
 unfold isSlice at h
 split at h
 ·rename_i e hh
  constructor;unfold execOp;simp [hx,resolve,invoke,builtin,Builtin.len_,run_underlying hh,goInt]
 ·cases h
theorem A7 {s:ByteArray} (hx:ev ρ x=.string s) (h:isStr P t=true):cU P ρ ⟨dst,.call ⟨.builtin .len,#[x],#[t]⟩,ty,pos,af,gd⟩ w (.int .i64 s.size) w:=by
 unfold isStr at h
 split at h
 ·rename_i hh
  constructor;unfold execOp;simp [hx,resolve,invoke,builtin,Builtin.len_,run_underlying hh,goInt]
 ·cases h
theorem eK {i j:Int} (hx:ev ρ x=.int q i) (hy:ev ρ y=.int q j):cU P ρ ⟨dst,.call ⟨.builtin .min,#[x,y],ats⟩,ty,pos,af,gd⟩ w (.int q (min i j)) w:=by
 have e:(if j<i then j else i)=min i j:=by split<;>omega
 constructor;unfold execOp;simp [hx,hy,resolve,invoke,builtin,Builtin.min_,Builtin.min2,List.foldlM,e]
theorem gJ {i j:Int} (hx:ev ρ x=.int q i) (hy:ev ρ y=.int q j):cU P ρ ⟨dst,.call ⟨.builtin .max,#[x,y],ats⟩,ty,pos,af,gd⟩ w (.int q (max i j)) w:=by
 have e:(if j > i then j else i)=max i j:=by split<;>omega
 constructor;unfold execOp;simp [hx,hy,resolve,invoke,builtin,Builtin.max_,Builtin.max2,List.foldlM,e]
end
def aF (P:Program) (t:TypeId):Option (Bool × Nat) :=
 match P.underlying t,P.info? t with
 | some (.struct _),some i=>some (true,i.size)
 | some (.array _ _),some i=>some (true,i.size)
 | some _,some i=>some (false,i.size)
 | _,_=>none
theorem jF {b:Bool} {s:Nat} (h:aF P t=some (b,s)):(isAgg t).run P w=.ok b w:=by
 unfold aF at h
 split at h
 ·rename_i hh _;cases h;simp [isAgg,run_underlying hh]
 ·rename_i hh _;cases h;simp [isAgg,run_underlying hh]
 ·rename_i d _ hn1 hn2 hh _;cases h
  simp only [isAgg,Sem.run_bind,run_underlying hh,Result.andThen_ok]
  cases d<;>first|rfl|exact (hn1 _ rfl).elim|exact (hn2 _ _ rfl).elim
 ·cases h
theorem dA {b:Bool} {s:Nat} (h:aF P t=some (b,s)):(sizeOf t).run P w=.ok s w:=by
 unfold aF at h
 split at h<;>first|(rename_i hi;cases h;simp [sizeOf,typeInfo,hi])|cases h
def bA (P:Program) (s:TypeId) (i:Nat):Option (Nat × (Bool × Nat)) :=
 match P.underlying s with
 | some (.struct fs)=>match fs[i]? with
  | some f=>(aF P f.type).map fun p=>(f.offset,p)
  | none=>none
 | _=>none
def arr (P:Program) (t:TypeId):Option (Nat × (Bool × Nat)) :=
 match P.underlying t with
 | some (.array n e)=>(aF P e).map fun p=>(n,p)
 | _=>none
theorem cB {i:Int} {len:Nat} {cs:Array Value} (hx:ev ρ x=.agg cs) (hy:ev ρ y=.int q i) (ha:arr P t=some (len,(false,1))) (hi:0≤i∧i<len) (hv:cs[i.toNat]?=some v):cU P ρ ⟨dst,.index t x y,ty,pos,af,gd⟩ w v w:=by
 unfold arr at ha
 split at ha
 ·rename_i n e hu
  cases hs:aF P e with
  | none=>simp [hs] at ha
  | some p =>
   simp [hs] at ha
   obtain ⟨rfl,rfl⟩:=ha
   constructor;unfold execOp
   simp [hx,hy,Instr.index,run_underlying hu,asIntOf,hi,part,jF hs,dA hs,hv]
 ·cases ha
theorem iE {vs:Array Value} {i:Nat} (hx:ev ρ x=.tuple vs) (hv:vs[i]?=some v):cU P ρ ⟨dst,.extract x i,ty,pos,af,gd⟩ w v w:=by
 constructor;unfold execOp;simp [hx,Instr.extract,hv]
theorem aG {a:Addr} (hx:ev ρ x=.pointer (some a)):cU P ρ ⟨dst,.nilCheck x,ty,pos,af,gd⟩ w (.pointer (some a)) w:=by
 constructor;unfold execOp;simp [hx]
end
end Go.K
