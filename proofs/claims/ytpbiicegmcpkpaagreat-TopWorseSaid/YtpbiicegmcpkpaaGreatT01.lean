/- A part of the proof that TopWorse is true at every input; no condition. -/
import Derived.KernelRfl
import Derived.Orders
import Derived.OrdersHeld
import Derived.Scope
import Derived.WalkKit
import Derived.WalkLawsBesides
import Derived.WalkSpells
namespace Go.K

abbrev Fr:=Nat→Value
def upd (ρ:Fr) (d:Nat) (v:Value):Fr:=fun n=>cond (Nat.beq n d) v (ρ n)
def updo (ρ:Fr):Option Nat→Value→Fr
 | none,_=>ρ
 | some d,v=>upd ρ d v
def ev (ρ:Fr):Operand→Value
 | .tmp t=>ρ t
 | .const v=>v
 | .global g=>.pointer (some ⟨g,0,none⟩)
 | .func f=>.func (.func f) #[] #[]
def dstOk (N:Nat):Option Nat→Bool
 | none=>true
 | some d=>Nat.blt d N
structure Rep (N:Nat) (a:Act) (ρ:Fr):Prop where
 size:a.tmps.size=N
 defers:a.defers=[]
 val:∀ t,a.tmps.getD t undef=ρ t
theorem Rep.eval {N:Nat} {a:Act} {ρ:Fr} (h:Rep N a ρ):a.eval=ev ρ:=by
 funext x
 cases x with
 | tmp t=>exact h.val t
 | const v=>rfl
 | global g=>rfl
 | func f=>rfl
theorem upd_same (ρ:Fr) (d:Nat) (v:Value):upd ρ d v d=v:=by
 show cond (Nat.beq d d) v (ρ d)=v
 rw [Nat.beq_refl];rfl
theorem upd_ne (ρ:Fr) {d t:Nat} (v:Value) (h:t≠d):upd ρ d v t=ρ t:=by
 have:Nat.beq t d=false:=by
  cases hb:Nat.beq t d with
  | false=>rfl
  | true=>exact absurd (Nat.eq_of_beq_eq_true hb) h
 show cond (Nat.beq t d) v (ρ t)=ρ t
 rw [this];rfl
theorem Rep.put {N:Nat} {a:Act} {ρ:Fr} (h:Rep N a ρ) {d:Option Nat} (hd:dstOk N d=true) (v:Value):Rep N (a.put d v) (updo ρ d v):=by
 cases d with
 | none=>exact h
 | some d =>
  have hlt:d<N:=by simpa [dstOk,Nat.blt_eq] using hd
  refine ⟨by simp [Act.put,h.size],by simp [Act.put,h.defers],fun t=>?_⟩
  by_cases htd:t=d
  ·subst htd
   have:t<a.tmps.size:=by rw [h.size];exact hlt
   simp [Act.put,updo,upd_same,this]
  ·have:=h.val t
   simp only [updo,upd_ne ρ v htd,← this]
   simp [Act.put,Array.getElem?_setIfInBounds_ne (Ne.symm htd)]

def base (f:FuncId):Frame:={ (default:Frame) with fn:=f,kind:=.normal }

structure WS (P:Program) (N:Nat) (f:FuncId) (R:Value→World→Prop) (k:List Item) (ρ:Fr) (w:World):Prop where
 out:∀ a,Rep N a ρ→∀ cs,∃ v w' fr,R v w'∧Steps P (lone ((base f).at a k) cs w) (lone fr cs w')∧fr.fn=f∧fr.leaving P w' (.returned v)

section
variable {P:Program} {N:Nat} {f:FuncId} {R:Value→World→Prop} {k:List Item} {ρ:Fr} {w:World}

theorem WS_step1 {k':List Item} (hs:∀ a cs,step P (lone ((base f).at a k) cs w)=.next (lone ((base f).at a k') cs w))
  (h:WS P N f R k' ρ w):WS P N f R k ρ w:=⟨fun a ha cs =>
 let ⟨v,w',fr,hR,hst,hl⟩:=h.out a ha cs
 ⟨v,w',fr,hR,.head (hs a cs) hst,hl⟩⟩
theorem WS_seq {x y:Code} (h:WS P N f R (.code x::.code y::k) ρ w):WS P N f R (.code (.seq x y)::k) ρ w:=WS_step1 (fun _ _=>step_seq) h
theorem WS_skip (h:WS P N f R k ρ w):WS P N f R (.code .skip::k) ρ w:=WS_step1 (fun _ _=>step_skip) h
theorem WS_block {id:Nat} {c:Code} (h:WS P N f R (.code c::.inBlock id::k) ρ w):WS P N f R (.code (.block id c)::k) ρ w:=WS_step1 (fun _ _=>step_block) h
theorem WS_inBlock {id:Nat} (h:WS P N f R k ρ w):WS P N f R (.inBlock id::k) ρ w:=WS_step1 (fun _ _=>step_inBlock) h
theorem WS_loop0 {c:Code} (h:WS P N f R (.code c::.inLoop c::k) ρ w):WS P N f R (.code (.loop c)::k) ρ w:=WS_step1 (fun _ _=>step_loop) h
theorem WS_inLoop {c:Code} (h:WS P N f R (.code c::.inLoop c::k) ρ w):WS P N f R (.inLoop c::k) ρ w:=WS_step1 (fun _ _=>step_inLoop) h
theorem WS_exit {id:Nat} {k':List Item} (hk:exitTo id k=some k') (h:WS P N f R k' ρ w):WS P N f R (.code (.exit id)::k) ρ w:=WS_step1 (fun _ _=>step_exit hk) h
theorem WS_cond {c:Operand} {x y:Code} {t:Bool} (hc:ev ρ c=.bool t) (h:WS P N f R (.code (if t then x else y)::k) ρ w):WS P N f R (.code (.cond c x y)::k) ρ w :=
 ⟨fun a ha cs =>
 let ⟨v,w',fr,hR,hst,hl⟩:=h.out a ha cs
 ⟨v,w',fr,hR,.head (step_cond (by rw [ha.eval];exact hc)) hst,hl⟩⟩
theorem WS_true {c:Operand} {x y:Code} (hc:ev ρ c=.bool true) (h:WS P N f R (.code x::k) ρ w):WS P N f R (.code (.cond c x y)::k) ρ w:=WS_cond hc h
theorem WS_false {c:Operand} {x y:Code} (hc:ev ρ c=.bool false) (h:WS P N f R (.code y::k) ρ w):WS P N f R (.code (.cond c x y)::k) ρ w:=WS_cond hc h
theorem WS_yes {c:Operand} {x y:Code} {p:Prop} [Decidable p] (hc:ev ρ c=.bool (decide p)) (hp:p) (h:WS P N f R (.code x::k) ρ w):WS P N f R (.code (.cond c x y)::k) ρ w :=
 WS_cond hc (by rw [decide_eq_true hp];exact h)
theorem WS_no {c:Operand} {x y:Code} {p:Prop} [Decidable p] (hc:ev ρ c=.bool (decide p)) (hp:¬p) (h:WS P N f R (.code y::k) ρ w):WS P N f R (.code (.cond c x y)::k) ρ w :=
 WS_cond hc (by rw [decide_eq_false hp];exact h)
theorem WS_ite {c:Operand} {x y:Code} {p:Prop} [Decidable p] (hc:ev ρ c=.bool (decide p)) (ht:p→WS P N f R (.code x::k) ρ w) (hf:¬p→WS P N f R (.code y::k) ρ w) :
  WS P N f R (.code (.cond c x y)::k) ρ w:=by
 by_cases hp:p
 ·exact WS_yes hc hp (ht hp)
 ·exact WS_no hc hp (hf hp)
theorem WS_leave {fn:Func} {v:Value} (hf:P.funcs[f]?=some fn) (hk:∀ a cs,∃ todo,step P (lone ((base f).at a k) cs w)=.next (lone { (base f).at a todo with mode:=.returning } cs w))
  (hr:∀ a,Rep N a ρ→(results fn a.tmps).run P w=.ok v w) (hR:R v w):WS P N f R k ρ w:=⟨fun a ha cs=>by
 obtain ⟨todo,hs⟩:=hk a cs
 exact ⟨v,w,_,hR,.one hs,rfl,rfl,ha.defers,rfl,fn,hf,hr a ha⟩⟩
theorem results_tmp1 {fn:Func} {t:Tmp} (h:fn.results=#[.tmp t]) {a:Act} (ha:Rep N a ρ):(results fn a.tmps).run P w=.ok (ρ t) w:=by
 simp [results,h,← ha.val]
theorem results_tmp0 {fn:Func} (h:fn.results=#[]) {a:Act}:(results fn a.tmps).run P w=.ok (.tuple #[]) w:=by
 simp [results,h]
theorem results_tmp2' {fn:Func} {t u:Tmp} (h:fn.results=#[.tmp t,.tmp u]) {a:Act} (ha:Rep N a ρ):(results fn a.tmps).run P w=.ok (.tuple #[ρ t,ρ u]) w:=by
 simp [results,h,← ha.val]
theorem results_tmp3' {fn:Func} {t u s:Tmp} (h:fn.results=#[.tmp t,.tmp u,.tmp s]) {a:Act} (ha:Rep N a ρ):(results fn a.tmps).run P w=.ok (.tuple #[ρ t,ρ u,ρ s]) w:=by
 simp [results,h,← ha.val]
theorem step_ret':∀ (a:Act) (cs:List Frame),∃ todo,step P (lone ((base f).at a (.code .ret::k)) cs w)=.next (lone { (base f).at a todo with mode:=.returning } cs w) :=
 fun _ _=>⟨_,step_ret⟩
theorem step_end':∀ (a:Act) (cs:List Frame),∃ todo,step P (lone ((base f).at a []) cs w)=.next (lone { (base f).at a todo with mode:=.returning } cs w) :=
 fun _ _=>⟨_,step_end⟩
theorem WS_ret1 {fn:Func} {t:Tmp} (hf:P.funcs[f]?=some fn) (hr:fn.results=#[.tmp t]) (h:R (ρ t) w):WS P N f R (.code .ret::k) ρ w:=WS_leave hf step_ret' (fun _ ha=>results_tmp1 hr ha) h
theorem WS_ret2 {fn:Func} {t u:Tmp} (hf:P.funcs[f]?=some fn) (hr:fn.results=#[.tmp t,.tmp u]) (h:R (.tuple #[ρ t,ρ u]) w):WS P N f R (.code .ret::k) ρ w:=WS_leave hf step_ret' (fun _ ha=>results_tmp2' hr ha) h
theorem WS_ret3 {fn:Func} {t u s:Tmp} (hf:P.funcs[f]?=some fn) (hr:fn.results=#[.tmp t,.tmp u,.tmp s]) (h:R (.tuple #[ρ t,ρ u,ρ s]) w):WS P N f R (.code .ret::k) ρ w:=WS_leave hf step_ret' (fun _ ha=>results_tmp3' hr ha) h
theorem WS_end0 {fn:Func} (hf:P.funcs[f]?=some fn) (hr:fn.results=#[]) (h:R (.tuple #[]) w):WS P N f R [] ρ w:=WS_leave hf step_end' (fun _ _=>results_tmp0 hr) h
def updL:List (Nat × Value)→Fr→Fr
 | [],ρ=>ρ
 | (i,v)::l,ρ=>upd (updL l ρ) i v
def inW (W n:Nat):Bool:=Nat.beq (Nat.land (Nat.shiftRight W n) 1) 1
def mrg (W:Nat) (ρ σ:Fr):Fr:=fun n=>cond (inW W n) (σ n) (ρ n)
def Has (ρ:Fr):List (Nat × Value)→Prop
 | []=>True
 | (i,v)::l=>ρ i=v∧Has ρ l
def Agr (W:Nat) (ρ ρ':Fr):Prop:=∀ n,inW W n=false→ρ' n=ρ n
theorem Agr.refl {W:Nat} {ρ:Fr}:Agr W ρ ρ:=fun _ _=>rfl
theorem Agr.upd {W:Nat} {ρ ρ':Fr} {d:Nat} {v:Value} (hd:inW W d=true) (h:Agr W ρ ρ'):Agr W ρ (upd ρ' d v):=fun n hn=>by
 rw [upd_ne ρ' v (fun e=>by subst e;rw [hn] at hd;cases hd)]
 exact h n hn
theorem Agr.updo {W:Nat} {ρ ρ':Fr} {d:Nat} {v:Value} (hd:inW W d=true) (h:Agr W ρ ρ'):Agr W ρ (updo ρ' (some d) v):=h.upd hd
theorem Agr.updL {W:Nat} {ρ ρ':Fr}:∀ {l:List (Nat × Value)},l.all (fun p=>inW W p.1)=true→Agr W ρ ρ'→Agr W ρ (updL l ρ')
 | [],_,h=>h
 | (i,v)::l,hl,h=>by
  have hl':(inW W i && l.all (fun p=>inW W p.1))=true:=by simpa using hl
  rw [Bool.and_eq_true] at hl'
  exact (Agr.updL hl'.2 h).upd hl'.1
theorem Agr.mrg {W W':Nat} {ρ ρ' σ:Fr} (hs:Nat.land W' W=W') (h:Agr W ρ ρ'):Agr W ρ (mrg W' ρ' σ):=fun n hn=>by
 have hb:inW W' n=false:=by
  cases hb:inW W' n with
  | false=>rfl
  | true =>
   have h1:(W' >>> n) &&& 1=1:=Nat.eq_of_beq_eq_true hb
   have h2:(W >>> n) &&& 1=1:=by
    have:(W' &&& W) >>> n &&& 1=1:=by rw [show W' &&& W=W' from hs];exact h1
    rw [Nat.shiftRight_and_distrib,Nat.and_assoc] at this
    have h3:(W' >>> n) &&& ((W >>> n) &&& 1)≤(W >>> n) &&& 1:=Nat.and_le_right
    have h4:(W >>> n) &&& 1≤1:=Nat.and_le_right
    omega
   have:inW W n=true:=by
    show Nat.beq ((W >>> n) &&& 1) 1=true
    rw [h2]
    rfl
   rw [hn] at this
   cases this
 show cond (inW W' n) (σ n) (ρ' n)=ρ n
 rw [hb]
 exact h n hn
theorem updL_of_has {ρ:Fr}:∀ {l:List (Nat × Value)},Has ρ l→updL l ρ=ρ
 | [],_=>rfl
 | (i,v)::l,h=>by
  show upd (updL l ρ) i v=ρ
  rw [updL_of_has h.2]
  funext n
  by_cases hn:n=i
  ·subst hn;rw [upd_same];exact h.1.symm
  ·exact upd_ne ρ v hn
theorem mrg_of_agr {W:Nat} {ρ ρ':Fr} (h:Agr W ρ ρ'):mrg W ρ ρ'=ρ':=by
 funext n
 show cond (inW W n) (ρ' n) (ρ n)=ρ' n
 cases hb:inW W n with
 | true=>rfl
 | false=>exact (h n hb).symm
theorem WS_goal {G:Type} (μ:G→Nat) (W:Nat) (S:G→List (Nat × Value)) (I:G→World→Prop) (k0:List Item) (ρ0:Fr)
  (round:∀ g w σ,I g w→(∀ g' w' ρ',μ g'<μ g→Has ρ' (S g')→Agr W ρ0 ρ'→I g' w'→WS P N f R k0 ρ' w')→WS P N f R k0 (updL (S g) (mrg W ρ0 σ)) w) :
  ∀ g w ρ',Has ρ' (S g)→Agr W ρ0 ρ'→I g w→WS P N f R k0 ρ' w:=by
 have key:∀ n g,μ g=n→∀ w ρ',Has ρ' (S g)→Agr W ρ0 ρ'→I g w→WS P N f R k0 ρ' w:=by
  intro n
  induction n using Nat.strongRecOn with
  | _ n ih =>
   intro g hn w ρ' hS hA hI
   have h:=round g w ρ' hI (fun g' w' ρ'' hlt hS' hA' hI'=>ih (μ g') (hn▸hlt) g' rfl w' ρ'' hS' hA' hI')
   rw [mrg_of_agr hA,updL_of_has hS] at h
   exact h
 exact fun g w ρ' hS hA hI=>key _ g rfl w ρ' hS hA hI
theorem WS_loop {G:Type} {c:Code} (μ:G→Nat) (W:Nat) (S:G→List (Nat × Value)) (I:G→World→Prop) (g0:G) (hS:Has ρ (S g0)) (h0:I g0 w)
  (round:∀ g w σ,I g w→(∀ g' w' ρ',μ g'<μ g→Has ρ' (S g')→Agr W ρ ρ'→I g' w'→WS P N f R (.inLoop c::k) ρ' w')→WS P N f R (.code c::.inLoop c::k) (updL (S g) (mrg W ρ σ)) w) :
  WS P N f R (.code (.loop c)::k) ρ w:=by
 have key:=WS_goal (P:=P) (N:=N) (f:=f) (R:=R) μ W S I (.inLoop c::k) ρ (fun g w σ hI ih=>WS_inLoop (round g w σ hI ih)) g0 w ρ hS .refl h0
 refine ⟨fun a ha cs=>?_⟩
 ·obtain ⟨v,w',fr,hR,hst,hl⟩:=key.out a ha cs
  obtain ⟨n,hn⟩:=hst

  cases n with
  | zero =>
   exfalso
   simp only [runN,Stepped.next.injEq] at hn
   have hm:=congrArg (fun m:Machine=>(m.gs[0]?).map fun g=>(g.frame.mode,g.frame.todo)) hn
   simp only [lone,Frame.at] at hm
   obtain ⟨_,hleave⟩:=hl
   have h1:=hleave.1
   simp at hm
   rw [h1] at hm
   exact absurd hm.1 (by simp)
  | succ n =>
   simp only [runN,step_inLoop] at hn
   exact ⟨v,w',fr,hR,⟨n+1,by simp only [runN,step_loop];exact hn⟩,hl⟩
end
end Go.K
namespace Go.K
open Go

def QN (N:Nat) (K:Fr→World→Prop):Exit→Act→World→Prop :=
 fun e a w=>e=.normal∧∃ ρ,Rep N a ρ∧K ρ w
structure WL (P:Program) (N:Nat) (C:Fr→World→Prop) (ops:Array Oper) (l:List Oper) (ρ:Fr) (w:World):Prop where
 out:∀ a,Rep N a ρ→wpList P ops (QN N C) l a w

section
variable {P:Program} {N:Nat} {f:FuncId} {R:Value→World→Prop} {k:List Item} {C:Fr→World→Prop} {ρ:Fr} {w w':World} {ops:Array Oper} {l:List Oper} {v:Value}

theorem WS_wp {c:Code} (h:∀ a,Rep N a ρ→c.wp P (QN N (WS P N f R k)) a w):WS P N f R (.code c::k) ρ w:=⟨fun a ha cs=>by
 obtain ⟨e,a',w1,⟨rfl,ρ',hρ',hws⟩,harr⟩:=h a ha (base f) k cs
 obtain ⟨v,w',fr,hR,hst,hl⟩:=hws.out a' hρ' cs
 exact ⟨v,w',fr,hR,Steps.trans harr hst,hl⟩⟩
theorem WS_region {id:Nat} {l:List Oper} (h:WL P N (WS P N f R k) l.toArray l ρ w):WS P N f R (.code (.region id l.toArray false)::k) ρ w :=
 WS_wp fun a ha=>wp_region_lit (h.out a ha)
theorem WL_nil (h:C ρ w):WL P N C ops [] ρ w:=⟨fun _ ha=>⟨rfl,ρ,ha,h⟩⟩
structure Run (P:Program) (ρ:Fr) (o:Oper) (w:World) (v:Value) (w':World):Prop where
 out:(execOp (ev ρ) o).run P w=.ok (.value v) w'
theorem WL_run {o:Oper} (h:Run P ρ o w v w') (hg:o.guard=none) (hd:dstOk N o.dst=true) (hk:WL P N C ops l (updo ρ o.dst v) w'):WL P N C ops (o::l) ρ w:=by
 refine ⟨fun a ha=>?_⟩
 unfold wpList
 rw [if_pos (by simp [Region.wanted,hg])]
 refine .inl ?_
 unfold Oper.wp
 rw [ha.eval,h.out]
 exact hk.out _ (ha.put hd v)
structure Stp (P:Program) (N:Nat) (ρ:Fr) (o:Oper) (w:World) (K:Fr→World→Prop):Prop where
 out:∀ a,Rep N a ρ→∀ Q,o.wp P a w (fun a' w'=>∃ ρ',Rep N a' ρ'∧K ρ' w') Q
section
variable {K:Fr→World→Prop}
theorem S_run {o:Oper} (h:Run P ρ o w v w') (hd:dstOk N o.dst=true) (hk:K (updo ρ o.dst v) w'):Stp P N ρ o w K:=by
 refine ⟨fun a ha Q=>?_⟩
 unfold Oper.wp
 rw [ha.eval,h.out]
 exact ⟨_,ha.put hd v,hk⟩
theorem S_skip {o:Oper} (h:(execOp (ev ρ) o).run P w=.ok .skip w') (hd:o.dst=none) (hk:K ρ w'):Stp P N ρ o w K:=by
 refine ⟨fun a ha Q=>?_⟩
 unfold Oper.wp
 rw [ha.eval,h]
 refine ⟨ρ,?_,hk⟩
 rw [hd]
 exact ha
theorem WL_step {o:Oper} (h:Stp P N ρ o w (fun ρ' w'=>WL P N C ops l ρ' w')) (hg:o.guard=none):WL P N C ops (o::l) ρ w:=by
 refine ⟨fun a ha=>?_⟩
 unfold wpList
 rw [if_pos (by simp [Region.wanted,hg])]
 exact .inl (Oper.wp_mono (fun a' w' ⟨ρ',hr,hw⟩=>hw.out a' hr) (h.out a ha _))
end
theorem WL_r {d:Nat} {op:Op} {ty:TypeId} {pos:String} {af:Array Edge} (h:Run P ρ ⟨some d,op,ty,pos,af,none⟩ w v w') (hd:Nat.blt d N=true) (hk:WL P N C ops l (upd ρ d v) w'):WL P N C ops (⟨some d,op,ty,pos,af,none⟩::l) ρ w :=
 WL_run h rfl hd hk
theorem WL_s {d:Option Nat} {op:Op} {ty:TypeId} {pos:String} {af:Array Edge} (h:Stp P N ρ ⟨d,op,ty,pos,af,none⟩ w (fun ρ' w'=>WL P N C ops l ρ' w')):WL P N C ops (⟨d,op,ty,pos,af,none⟩::l) ρ w:=WL_step h rfl
def gdst (ops:Array Oper) (j:Nat):Option Nat:=(ops[j]?).bind (·.dst)
theorem yielded_rep {a:Act} (ha:Rep N a ρ) {j d:Nat} (hj:gdst ops j=some d) (hd:Nat.blt d N=true) {b:Bool} (hv':ev ρ (.tmp d)=.bool b):yielded ops a.tmps j=some b:=by
 have hlt:d<a.tmps.size:=by rw [ha.size];simpa [Nat.blt_eq] using hd
 have hv:ρ d=.bool b:=hv'
 have h1:=ha.val d
 rw [hv] at h1
 unfold gdst at hj
 unfold yielded
 rw [hj]
 have:a.tmps[d]?=some (.bool b):=by
  rw [Array.getElem?_eq_getElem hlt]
  simp [Array.getD,hlt] at h1
  rw [h1]
 simp [this]
theorem WL_gyes {dst:Option Nat} {op:Op} {ty:TypeId} {pos:String} {af:Array Edge} {j d:Nat} {want:Bool} (hj:gdst ops j=some d) (hd:Nat.blt d N=true) (hv:ev ρ (.tmp d)=.bool want)
  (h:WL P N C ops (⟨dst,op,ty,pos,af,none⟩::l) ρ w):WL P N C ops (⟨dst,op,ty,pos,af,some (j,want)⟩::l) ρ w:=by
 refine ⟨fun a ha=>?_⟩
 have h':=h.out a ha
 unfold wpList at h' ⊢
 rw [if_pos (by simp [Region.wanted,yielded_rep ha hj hd hv])]
 rw [if_pos (by simp [Region.wanted])] at h'
 exact h'
theorem WL_gno {dst:Option Nat} {op:Op} {ty:TypeId} {pos:String} {af:Array Edge} {j d:Nat} {want b:Bool} (hj:gdst ops j=some d) (hd:Nat.blt d N=true) (hv:ev ρ (.tmp d)=.bool b) (hb:b=!want)
  (hd':dstOk N dst=true) (h:WL P N C ops l (updo ρ dst undef) w):WL P N C ops (⟨dst,op,ty,pos,af,some (j,want)⟩::l) ρ w:=by
 refine ⟨fun a ha=>?_⟩
 unfold wpList
 rw [if_neg (by simp [Region.wanted,yielded_rep ha hj hd hv,hb])]
 exact h.out _ (ha.put hd' undef)
theorem upd_self {d:Nat} (h:ρ d=v):upd ρ d v=ρ:=by
 funext n
 by_cases hn:n=d
 ·subst hn;rw [upd_same];exact h.symm
 ·exact upd_ne ρ v hn
section
variable {dst:Option Nat} {ty:TypeId} {pos:String} {af:Array Edge} {gd:Option (Nat × Bool)} {x y z:Operand} {t u:TypeId}
theorem k_move (hx:ev ρ x=v):Run P ρ ⟨dst,.move x,ty,pos,af,gd⟩ w v w:=by subst hx;exact ⟨rfl⟩
theorem k_assign (hx:ev ρ x=v):Run P ρ ⟨dst,.assign x,ty,pos,af,gd⟩ w v w:=by subst hx;exact ⟨rfl⟩
theorem k_pick_t {v:Value} (hc:ev ρ x=.bool true) (hy:ev ρ y=v):Run P ρ ⟨dst,.pick x y z,ty,pos,af,gd⟩ w v w:=by
 constructor;unfold execOp;simp [hc,hy,asBool]
theorem k_pick_f {v:Value} (hc:ev ρ x=.bool false) (hz:ev ρ z=v):Run P ρ ⟨dst,.pick x y z,ty,pos,af,gd⟩ w v w:=by
 constructor;unfold execOp;simp [hc,hz,asBool]
theorem k_bin {op:BinOp} {a b:Value} (hx:ev ρ x=a) (hy:ev ρ y=b) (hq:(eqGuard op t x y a b).run P w=.ok () w) (h:(binOp op t a b).run P w=.ok v w) :
  Run P ρ ⟨dst,.binOp op t x y u,ty,pos,af,gd⟩ w v w:=by
 constructor;unfold execOp;simp [hx,hy,hq,h]
theorem eqGuard_other {op:BinOp} {a b:Value} (h:(match a,b with|.nilIface,.nilIface=>false|.agg _,.agg _=>false|_,_=>true)=true):(eqGuard op t x y a b).run P w=.ok () w:=by
 unfold eqGuard
 cases a<;>cases b<;>first|(simp at h;done)|(simp;done)|(split<;>rfl)|(split<;>(simp;done))
section
variable {q:IntKind} {m n:Int}
theorem k_add (hx:ev ρ x=.int q m) (hy:ev ρ y=.int q n):Run P ρ ⟨dst,.binOp .add t x y u,ty,pos,af,gd⟩ w (.int q (q.wrap (m+n))) w :=
 k_bin hx hy (eqGuard_other rfl) (by simp [binOp,Op.intArith])
theorem k_sub (hx:ev ρ x=.int q m) (hy:ev ρ y=.int q n):Run P ρ ⟨dst,.binOp .sub t x y u,ty,pos,af,gd⟩ w (.int q (q.wrap (m-n))) w :=
 k_bin hx hy (eqGuard_other rfl) (by simp [binOp,Op.intArith])
theorem k_mul (hx:ev ρ x=.int q m) (hy:ev ρ y=.int q n):Run P ρ ⟨dst,.binOp .mul t x y u,ty,pos,af,gd⟩ w (.int q (q.wrap (m*n))) w :=
 k_bin hx hy (eqGuard_other rfl) (by simp [binOp,Op.intArith])
theorem wrap64_id {i:Int} (h1:-9223372036854775808≤i) (h2:i≤9223372036854775807):IntKind.i64.wrap i=i:=IntWalk.i64_in _ ⟨h1,h2⟩
theorem k_add64 (hx:ev ρ x=.int .i64 m) (hy:ev ρ y=.int .i64 n) (h:-9223372036854775808≤m+n∧m+n≤9223372036854775807):Run P ρ ⟨dst,.binOp .add t x y u,ty,pos,af,gd⟩ w (.int .i64 (m+n)) w:=by
 have:=k_add (P:=P) (dst:=dst) (ty:=ty) (pos:=pos) (af:=af) (gd:=gd) (t:=t) (u:=u) (w:=w) hx hy
 rw [wrap64_id h.1 h.2] at this;exact this
theorem k_sub64 (hx:ev ρ x=.int .i64 m) (hy:ev ρ y=.int .i64 n) (h:-9223372036854775808≤m-n∧m-n≤9223372036854775807):Run P ρ ⟨dst,.binOp .sub t x y u,ty,pos,af,gd⟩ w (.int .i64 (m-n)) w:=by
 have:=k_sub (P:=P) (dst:=dst) (ty:=ty) (pos:=pos) (af:=af) (gd:=gd) (t:=t) (u:=u) (w:=w) hx hy
 rw [wrap64_id h.1 h.2] at this;exact this
theorem k_mul64 (hx:ev ρ x=.int .i64 m) (hy:ev ρ y=.int .i64 n) (h:-9223372036854775808≤m*n∧m*n≤9223372036854775807):Run P ρ ⟨dst,.binOp .mul t x y u,ty,pos,af,gd⟩ w (.int .i64 (m*n)) w:=by
 have:=k_mul (P:=P) (dst:=dst) (ty:=ty) (pos:=pos) (af:=af) (gd:=gd) (t:=t) (u:=u) (w:=w) hx hy
 rw [wrap64_id h.1 h.2] at this;exact this
theorem k_quo64 (hx:ev ρ x=.int .i64 m) (hy:ev ρ y=.int .i64 n) (h:0≤m∧m≤9223372036854775807∧0<n):Run P ρ ⟨dst,.binOp .quo t x y u,ty,pos,af,gd⟩ w (.int .i64 (m / n)) w :=
 k_bin hx hy (eqGuard_other rfl) (by
  have h0:n≠0:=by omega
  have h1:m.tdiv n=m / n:=Int.tdiv_eq_ediv_of_nonneg h.1
  have h2:0≤m / n:=Int.ediv_nonneg h.1 (by omega)
  have h3:m / n≤m:=Int.ediv_le_self _ h.1
  simp [binOp,Op.intDiv,h0,h1,wrap64_id (i:=m / n) (by omega) (by omega)])
theorem k_rem (hx:ev ρ x=.int q m) (hy:ev ρ y=.int q n) (h:0≤m∧n≠0):Run P ρ ⟨dst,.binOp .rem t x y u,ty,pos,af,gd⟩ w (.int q (m % n)) w :=
 k_bin hx hy (eqGuard_other rfl) (by
  have h1:m.tmod n=m % n:=Int.tmod_eq_emod_of_nonneg h.1
  simp [binOp,Op.intDiv,h.2,h1])
theorem k_remt (hx:ev ρ x=.int q m) (hy:ev ρ y=.int q n) (h:n≠0):Run P ρ ⟨dst,.binOp .rem t x y u,ty,pos,af,gd⟩ w (.int q (m.tmod n)) w :=
 k_bin hx hy (eqGuard_other rfl) (by simp [binOp,Op.intDiv,h])
theorem k_lss (hx:ev ρ x=.int q m) (hy:ev ρ y=.int q n):Run P ρ ⟨dst,.binOp .lss t x y u,ty,pos,af,gd⟩ w (.bool (decide (m<n))) w :=
 k_bin hx hy (eqGuard_other rfl) (by simp [binOp,Op.intCmp])
theorem k_leq (hx:ev ρ x=.int q m) (hy:ev ρ y=.int q n):Run P ρ ⟨dst,.binOp .leq t x y u,ty,pos,af,gd⟩ w (.bool (decide (m≤n))) w :=
 k_bin hx hy (eqGuard_other rfl) (by simp [binOp,Op.intCmp])
theorem k_gtr (hx:ev ρ x=.int q m) (hy:ev ρ y=.int q n):Run P ρ ⟨dst,.binOp .gtr t x y u,ty,pos,af,gd⟩ w (.bool (decide (n<m))) w :=
 k_bin hx hy (eqGuard_other rfl) (by simp [binOp,Op.intCmp])
theorem k_geq (hx:ev ρ x=.int q m) (hy:ev ρ y=.int q n):Run P ρ ⟨dst,.binOp .geq t x y u,ty,pos,af,gd⟩ w (.bool (decide (n≤m))) w :=
 k_bin hx hy (eqGuard_other rfl) (by simp [binOp,Op.intCmp])
theorem beq_dec (m n:Int):(m == n)=decide (m=n):=by
 by_cases h:m=n<;>simp [h]
theorem bne_dec (m n:Int):(m != n)=decide (m≠n):=by
 by_cases h:m=n<;>simp [h]
theorem k_eql (hx:ev ρ x=.int q m) (hy:ev ρ y=.int q n):Run P ρ ⟨dst,.binOp .eql t x y u,ty,pos,af,gd⟩ w (.bool (decide (m=n))) w :=
 k_bin hx hy (eqGuard_other rfl) (by simp only [binOp,Op.intCmp,ne_eq,not_true_eq_false,ite_false,beq_dec];rfl)
theorem k_neq (hx:ev ρ x=.int q m) (hy:ev ρ y=.int q n):Run P ρ ⟨dst,.binOp .neq t x y u,ty,pos,af,gd⟩ w (.bool (decide (m≠n))) w :=
 k_bin hx hy (eqGuard_other rfl) (by simp only [binOp,Op.intCmp,ne_eq,not_true_eq_false,ite_false,bne_dec];rfl)
end
end
end
end Go.K
namespace Go.K
open Go

def two (q:IntKind):Nat:=2 ^ q.bits
theorem wrap_uns {q:IntKind} (hq:q.signed=false) (n:Nat):q.wrap (n:Int)=((n % two q:Nat):Int):=by
 unfold IntKind.wrap two
 simp [hq]
theorem wrap_sig {q:IntKind} (hq:q.signed=true) {n:Nat} (h:2*n<two q):q.wrap (n:Int)=(n:Int):=by
 have h2:n<two q:=by omega
 have h1:(n:Int) % (2 ^ q.bits:Int)=n:=by
  have:(2 ^ q.bits:Int)=((two q:Nat):Int):=by simp [two]
  rw [this,← Int.natCast_emod,Nat.mod_eq_of_lt h2]
 have h3:¬ ((2 ^ (q.bits-1):Int)≤n):=by
  have h4:2 ^ (q.bits-1)*2=two q:=by cases q<;>rfl
  have h5:(2 ^ (q.bits-1):Int)=((2 ^ (q.bits-1):Nat):Int):=by simp
  rw [h5];omega
 unfold IntKind.wrap
 simp only [h1]
 simp [hq,h3]
def fit (q:IntKind) (n:Nat):Bool:=cond q.signed (Nat.blt (2*n) (two q)) (Nat.blt n (two q))
theorem fit_lt {q:IntKind} {n:Nat} (h:fit q n=true):n<two q:=by
 unfold fit at h
 cases hs:q.signed<;>simp [hs,Nat.blt_eq] at h<;>omega
theorem wrap_fit {q:IntKind} {n:Nat} (h:fit q n=true):q.wrap (n:Int)=(n:Int):=by
 cases hs:q.signed
 ·rw [wrap_uns hs,Nat.mod_eq_of_lt (fit_lt h)]
 ·exact wrap_sig hs (by simpa [fit,hs,Nat.blt_eq] using h)
theorem half_two (q:IntKind):2*2 ^ (q.bits-1)=two q:=by cases q<;>rfl
theorem fit_iff {q:IntKind} {n:Nat}:fit q n=true ↔ n<2 ^ (if q.signed then q.bits-1 else q.bits):=by
 unfold fit
 cases hs:q.signed
 ·simp [Nat.blt_eq,two]
 ·simp only [cond_true,Nat.blt_eq,if_true]
  have:=half_two q
  omega
theorem ofInt_nat {b n:Nat} (h:n<2 ^ b):(BitVec.ofInt b (n:Int)).toNat=n:=by
 have e:((2:Int) ^ b)=((2 ^ b:Nat):Int):=by simp
 simp only [BitVec.toNat_ofInt]
 rw [← Int.natCast_emod,Int.toNat_natCast,Nat.mod_eq_of_lt h]
theorem fit8 {n:Nat} (h:n<256):fit .u8 n=true:=fit_iff.2 (by simpa [IntKind.bits,IntKind.signed] using h)
theorem fit16 {n:Nat} (h:n<65536):fit .u16 n=true:=fit_iff.2 (by simpa [IntKind.bits,IntKind.signed] using h)
theorem fit32 {n:Nat} (h:n<4294967296):fit .u32 n=true:=fit_iff.2 (by simpa [IntKind.bits,IntKind.signed] using h)
theorem fit64 {n:Nat} (h:n<18446744073709551616):fit .u64 n=true:=fit_iff.2 (by simpa [IntKind.bits,IntKind.signed] using h)
theorem fiti {n:Nat} (h:n<9223372036854775808):fit .i64 n=true:=fit_iff.2 (by simpa [IntKind.bits,IntKind.signed] using h)
section
variable {P:Program} {ρ:Fr} {w w':World} {v:Value} {dst:Option Nat} {ty:TypeId} {pos:String} {af:Array Edge} {gd:Option (Nat × Bool)} {x y z:Operand} {t u:TypeId} {q:IntKind} {m n:Nat}

theorem k_and (hx:ev ρ x=.int q m) (hy:ev ρ y=.int q n) (hm:fit q m=true) (hn:fit q n=true):Run P ρ ⟨dst,.binOp .and t x y u,ty,pos,af,gd⟩ w (.int q ((m &&& n:Nat):Int)) w :=
 k_bin hx hy (eqGuard_other rfl) (by
  have h:fit q (m &&& n)=true:=fit_iff.2 (Nat.lt_of_le_of_lt Nat.and_le_left (fit_iff.1 hm))
  have h1:=ofInt_nat (b:=q.bits) (fit_lt hm);have h2:=ofInt_nat (b:=q.bits) (fit_lt hn)
  simp only [binOp,Op.intBits,BitVec.toNat_and,h1,h2,wrap_fit h]
  simp)
theorem k_or (hx:ev ρ x=.int q m) (hy:ev ρ y=.int q n) (hm:fit q m=true) (hn:fit q n=true):Run P ρ ⟨dst,.binOp .or t x y u,ty,pos,af,gd⟩ w (.int q ((m ||| n:Nat):Int)) w :=
 k_bin hx hy (eqGuard_other rfl) (by
  have h:fit q (m ||| n)=true:=fit_iff.2 (Nat.or_lt_two_pow (fit_iff.1 hm) (fit_iff.1 hn))
  have h1:=ofInt_nat (b:=q.bits) (fit_lt hm);have h2:=ofInt_nat (b:=q.bits) (fit_lt hn)
  simp only [binOp,Op.intBits,BitVec.toNat_or,h1,h2,wrap_fit h]
  simp)
theorem k_xor (hx:ev ρ x=.int q m) (hy:ev ρ y=.int q n) (hm:fit q m=true) (hn:fit q n=true):Run P ρ ⟨dst,.binOp .xor t x y u,ty,pos,af,gd⟩ w (.int q ((m ^^^ n:Nat):Int)) w :=
 k_bin hx hy (eqGuard_other rfl) (by
  have h:fit q (m ^^^ n)=true:=fit_iff.2 (Nat.xor_lt_two_pow (fit_iff.1 hm) (fit_iff.1 hn))
  have h1:=ofInt_nat (b:=q.bits) (fit_lt hm);have h2:=ofInt_nat (b:=q.bits) (fit_lt hn)
  simp only [binOp,Op.intBits,BitVec.toNat_xor,h1,h2,wrap_fit h]
  simp)
theorem k_shl {yk:IntKind} (hx:ev ρ x=.int q m) (hy:ev ρ y=.int yk n) (hq:q.signed=false):Run P ρ ⟨dst,.binOp .shl t x y u,ty,pos,af,gd⟩ w (.int q ((m*2 ^ n % two q:Nat):Int)) w :=
 k_bin hx hy (eqGuard_other rfl) (by
  have h0:¬ ((n:Int)<0):=by omega
  have h:q.wrap ((m:Int)*2 ^ min n q.bits)=((m*2 ^ n % two q:Nat):Int):=by
   have e:((m:Int)*2 ^ min n q.bits)=((m*2 ^ min n q.bits:Nat):Int):=by simp
   rw [e,wrap_uns hq]
   congr 1
   by_cases hn:n≤q.bits
   ·rw [Nat.min_eq_left hn]
   ·rw [Nat.min_eq_right (by omega)]
    have e1:m*2 ^ q.bits % two q=0:=Nat.mul_mod_left _ _
    have e2:m*2 ^ n % two q=0:=by
     have:n=(n-q.bits)+q.bits:=by omega
     rw [this,Nat.pow_add,← Nat.mul_assoc]
     exact Nat.mul_mod_left _ _
    rw [e1,e2]
  simp [binOp,Op.shift,h0,h])
theorem k_shl16 {yk:IntKind} (hx:ev ρ x=.int .u16 m) (hy:ev ρ y=.int yk n):Run P ρ ⟨dst,.binOp .shl t x y u,ty,pos,af,gd⟩ w (.int .u16 ((m*2 ^ n % 65536:Nat):Int)) w:=k_shl hx hy rfl
theorem k_shlu {yk:IntKind} (hx:ev ρ x=.int .u64 m) (hy:ev ρ y=.int yk n):Run P ρ ⟨dst,.binOp .shl t x y u,ty,pos,af,gd⟩ w (.int .u64 ((m*2 ^ n % 18446744073709551616:Nat):Int)) w:=k_shl hx hy rfl
theorem k_shl64 {yk:IntKind} (hx:ev ρ x=.int .i64 m) (hy:ev ρ y=.int yk n) (hb:m*2 ^ n<9223372036854775808) (hn:n≤63):Run P ρ ⟨dst,.binOp .shl t x y u,ty,pos,af,gd⟩ w (.int .i64 ((m*2 ^ n:Nat):Int)) w :=
 k_bin hx hy (eqGuard_other rfl) (by
  have h0:¬ ((n:Int)<0):=by omega
  have e:((m:Int)*2 ^ n)=((m*2 ^ n:Nat):Int):=by simp
  have h:IntKind.i64.wrap ((m:Int)*2 ^ n)=((m*2 ^ n:Nat):Int):=by
   rw [e];exact wrap64_id (by omega) (by omega)
  have hm:min n IntKind.i64.bits=n:=Nat.min_eq_left (by simp only [IntKind.bits];omega)
  simp only [binOp,Op.shift,h0,if_false,Int.toNat_natCast,hm,h,Sem.run_pure])
theorem k_shr {yk:IntKind} (hx:ev ρ x=.int q m) (hy:ev ρ y=.int yk n) (hm:fit q m=true):Run P ρ ⟨dst,.binOp .shr t x y u,ty,pos,af,gd⟩ w (.int q ((m / 2 ^ n:Nat):Int)) w :=
 k_bin hx hy (eqGuard_other rfl) (by
  have h0:¬ ((n:Int)<0):=by omega
  have h:(m:Int).fdiv (2 ^ min n q.bits)=((m / 2 ^ n:Nat):Int):=by
   have e:((2:Int) ^ min n q.bits)=((2 ^ min n q.bits:Nat):Int):=by simp
   rw [e,Int.fdiv_eq_ediv_of_nonneg _ (Int.natCast_nonneg _),← Int.natCast_ediv]
   congr 1
   by_cases hn:n≤q.bits
   ·rw [Nat.min_eq_left hn]
   ·rw [Nat.min_eq_right (by omega)]
    have h1:m / 2 ^ q.bits=0:=Nat.div_eq_of_lt (fit_lt hm)
    have h2:m / 2 ^ n=0:=Nat.div_eq_of_lt (Nat.lt_of_lt_of_le (fit_lt hm) (Nat.pow_le_pow_right (by omega) (by omega)))
    rw [h1,h2]
  simp [binOp,Op.shift,h0,h])
theorem k_addu (hx:ev ρ x=.int q m) (hy:ev ρ y=.int q n) (hq:q.signed=false):Run P ρ ⟨dst,.binOp .add t x y u,ty,pos,af,gd⟩ w (.int q (((m+n) % two q:Nat):Int)) w:=by
 have h:=k_add (P:=P) (dst:=dst) (ty:=ty) (pos:=pos) (af:=af) (gd:=gd) (t:=t) (u:=u) (w:=w) hx hy
 rw [← Int.natCast_add,wrap_uns hq] at h;exact h
theorem k_mulu (hx:ev ρ x=.int q m) (hy:ev ρ y=.int q n) (hq:q.signed=false):Run P ρ ⟨dst,.binOp .mul t x y u,ty,pos,af,gd⟩ w (.int q ((m*n % two q:Nat):Int)) w:=by
 have h:=k_mul (P:=P) (dst:=dst) (ty:=ty) (pos:=pos) (af:=af) (gd:=gd) (t:=t) (u:=u) (w:=w) hx hy
 rw [← Int.natCast_mul,wrap_uns hq] at h;exact h
theorem k_remu (hx:ev ρ x=.int q m) (hy:ev ρ y=.int q n) (hn:n≠0):Run P ρ ⟨dst,.binOp .rem t x y u,ty,pos,af,gd⟩ w (.int q ((m % n:Nat):Int)) w:=by
 have h:=k_rem (P:=P) (dst:=dst) (ty:=ty) (pos:=pos) (af:=af) (gd:=gd) (t:=t) (u:=u) (w:=w) hx hy ⟨by omega,by omega⟩
 rw [← Int.natCast_emod] at h;exact h
theorem k_quou (hx:ev ρ x=.int q m) (hy:ev ρ y=.int q n) (hn:n≠0) (hm:fit q m=true):Run P ρ ⟨dst,.binOp .quo t x y u,ty,pos,af,gd⟩ w (.int q ((m / n:Nat):Int)) w :=
 k_bin hx hy (eqGuard_other rfl) (by
  have h0:(n:Int)≠0:=by omega
  have h1:(m:Int).tdiv n=((m / n:Nat):Int):=by rw [Int.tdiv_eq_ediv_of_nonneg (by omega),← Int.natCast_ediv]
  have h2:fit q (m / n)=true:=fit_iff.2 (Nat.lt_of_le_of_lt (Nat.div_le_self _ _) (fit_iff.1 hm))
  simp only [binOp,Op.intDiv,h0,if_false,h1,wrap_fit h2]
  simp)

def kindOf (P:Program) (t:TypeId):Option IntKind:=match P.underlying t with|some (.int q)=>some q|_=>none
theorem kindOf_spec (h:kindOf P t=some q):P.underlying t=some (.int q):=by
 unfold kindOf at h
 split at h
 ·rename_i hh;cases h;exact hh
 ·cases h
theorem k_conv {qd:IntKind} {i:Int} (hx:ev ρ x=.int q i) (hs:(P.underlying t).isSome=true) (hd:kindOf P u=some qd):Run P ρ ⟨dst,.convert t u x,ty,pos,af,gd⟩ w (.int qd (qd.wrap i)) w:=by
 obtain ⟨d,hd'⟩:=Option.isSome_iff_exists.mp hs
 constructor;unfold execOp
 simp [hx,convert,run_underlying hd',run_underlying (kindOf_spec hd),Conv.intToInt]
theorem k_conv_fit {qd:IntKind} (hx:ev ρ x=.int q m) (hs:(P.underlying t).isSome=true) (hd:kindOf P u=some qd) (hf:fit qd m=true):Run P ρ ⟨dst,.convert t u x,ty,pos,af,gd⟩ w (.int qd m) w:=by
 have:=k_conv (ρ:=ρ) (dst:=dst) (ty:=ty) (pos:=pos) (af:=af) (gd:=gd) (w:=w) hx hs hd
 rw [wrap_fit hf] at this;exact this
theorem k_conv_u {qd:IntKind} (hx:ev ρ x=.int q m) (hs:(P.underlying t).isSome=true) (hd:kindOf P u=some qd) (hq:qd.signed=false):Run P ρ ⟨dst,.convert t u x,ty,pos,af,gd⟩ w (.int qd ((m % two qd:Nat):Int)) w:=by
 have:=k_conv (ρ:=ρ) (dst:=dst) (ty:=ty) (pos:=pos) (af:=af) (gd:=gd) (w:=w) hx hs hd
 rw [wrap_uns hq] at this;exact this
theorem k_conv_u8 (hx:ev ρ x=.int q m) (hs:(P.underlying t).isSome=true) (hd:kindOf P u=some .u8):Run P ρ ⟨dst,.convert t u x,ty,pos,af,gd⟩ w (.int .u8 ((m % 256:Nat):Int)) w:=k_conv_u hx hs hd rfl
theorem k_conv_u16 (hx:ev ρ x=.int q m) (hs:(P.underlying t).isSome=true) (hd:kindOf P u=some .u16):Run P ρ ⟨dst,.convert t u x,ty,pos,af,gd⟩ w (.int .u16 ((m % 65536:Nat):Int)) w:=k_conv_u hx hs hd rfl
theorem k_conv_i64 {i:Int} (hx:ev ρ x=.int q i) (hs:(P.underlying t).isSome=true) (hd:kindOf P u=some .i64) (hf:-9223372036854775808≤i∧i≤9223372036854775807):Run P ρ ⟨dst,.convert t u x,ty,pos,af,gd⟩ w (.int .i64 i) w:=by
 have:=k_conv (ρ:=ρ) (dst:=dst) (ty:=ty) (pos:=pos) (af:=af) (gd:=gd) (w:=w) hx hs hd
 rw [wrap64_id hf.1 hf.2] at this;exact this

theorem k_not {p:Prop} [Decidable p] (hx:ev ρ x=.bool (decide p)):Run P ρ ⟨dst,.unOp .not t x,ty,pos,af,gd⟩ w (.bool (decide (¬p))) w:=by
 constructor;unfold execOp;simp [hx,Op.unary]
theorem k_notb {b:Bool} (hx:ev ρ x=.bool b):Run P ρ ⟨dst,.unOp .not t x,ty,pos,af,gd⟩ w (.bool (!b)) w:=by
 constructor;unfold execOp;simp [hx,Op.unary]
theorem k_neg64 {i:Int} (hx:ev ρ x=.int .i64 i) (h:-9223372036854775807≤i∧i≤9223372036854775807):Run P ρ ⟨dst,.unOp .neg t x,ty,pos,af,gd⟩ w (.int .i64 (-i)) w:=by
 constructor;unfold execOp;simp [hx,Op.unary,Op.intArith,wrap64_id (i:=-i) (by omega) (by omega)]
theorem k_neqb {a b:Bool} (hx:ev ρ x=.bool a) (hy:ev ρ y=.bool b) (ht:P.underlying t=some .bool):Run P ρ ⟨dst,.binOp .neq t x y u,ty,pos,af,gd⟩ w (.bool (a != b)) w :=
 k_bin hx hy (eqGuard_other rfl) (by simp [binOp,Op.equal,Op.maxDepth,run_equalIn_bool w 9999 t a b ht,bne])
theorem k_neqbF {a b:Bool} (hx:ev ρ x=.bool a) (hy:ev ρ y=.bool b) (ht:P.underlying t=some .bool) (hab:a=b):Run P ρ ⟨dst,.binOp .neq t x y u,ty,pos,af,gd⟩ w (.bool false) w:=by
 have h:=k_neqb (P:=P) (w:=w) (dst:=dst) (ty:=ty) (pos:=pos) (af:=af) (gd:=gd) (u:=u) hx hy ht
 subst hab
 simpa using h
section
variable {ats:Array TypeId} {pre:String}
def isSlice (P:Program) (t:TypeId):Bool:=match P.underlying t with|some (.slice _)=>true|_=>false
def isStr (P:Program) (t:TypeId):Bool:=match P.underlying t with|some .string=>true|_=>false
def arrLen (P:Program) (t:TypeId):Option Nat:=match P.underlying t with|some (.array n _)=>some n|_=>none
theorem k_len {a:Option Addr} {c:Nat} (hx:ev ρ x=.slice a n c) (h:isSlice P t=true):Run P ρ ⟨dst,.call ⟨.builtin .len,#[x],#[t]⟩,ty,pos,af,gd⟩ w (.int .i64 n) w:=by
 unfold isSlice at h
 split at h
 ·rename_i e hh
  constructor;unfold execOp;simp [hx,resolve,invoke,builtin,Builtin.len_,run_underlying hh,goInt]
 ·cases h
theorem k_min {i j:Int} (hx:ev ρ x=.int q i) (hy:ev ρ y=.int q j):Run P ρ ⟨dst,.call ⟨.builtin .min,#[x,y],ats⟩,ty,pos,af,gd⟩ w (.int q (min i j)) w:=by
 have e:(if j<i then j else i)=min i j:=by split<;>omega
 constructor;unfold execOp;simp [hx,hy,resolve,invoke,builtin,Builtin.min_,Builtin.min2,List.foldlM,e]
theorem k_max {i j:Int} (hx:ev ρ x=.int q i) (hy:ev ρ y=.int q j):Run P ρ ⟨dst,.call ⟨.builtin .max,#[x,y],ats⟩,ty,pos,af,gd⟩ w (.int q (max i j)) w:=by
 have e:(if j > i then j else i)=max i j:=by split<;>omega
 constructor;unfold execOp;simp [hx,hy,resolve,invoke,builtin,Builtin.max_,Builtin.max2,List.foldlM,e]
end

def shp (P:Program) (t:TypeId):Option (Bool × Nat) :=
 match P.underlying t,P.info? t with
 | some (.struct _),some i=>some (true,i.size)
 | some (.array _ _),some i=>some (true,i.size)
 | some _,some i=>some (false,i.size)
 | _,_=>none
theorem shp_isAgg {b:Bool} {s:Nat} (h:shp P t=some (b,s)):(isAgg t).run P w=.ok b w:=by
 unfold shp at h
 split at h
 ·rename_i hh _;cases h;simp [isAgg,run_underlying hh]
 ·rename_i hh _;cases h;simp [isAgg,run_underlying hh]
 ·rename_i d _ hn1 hn2 hh _;cases h
  simp only [isAgg,Sem.run_bind,run_underlying hh,Result.andThen_ok]
  cases d<;>first|rfl|exact (hn1 _ rfl).elim|exact (hn2 _ _ rfl).elim
 ·cases h
theorem shp_size {b:Bool} {s:Nat} (h:shp P t=some (b,s)):(sizeOf t).run P w=.ok s w:=by
 unfold shp at h
 split at h<;>first|(rename_i hi;cases h;simp [sizeOf,typeInfo,hi])|cases h
def fld (P:Program) (s:TypeId) (i:Nat):Option (Nat × (Bool × Nat)) :=
 match P.underlying s with
 | some (.struct fs)=>match fs[i]? with
  | some f=>(shp P f.type).map fun p=>(f.offset,p)
  | none=>none
 | _=>none
def arr (P:Program) (t:TypeId):Option (Nat × (Bool × Nat)) :=
 match P.underlying t with
 | some (.array n e)=>(shp P e).map fun p=>(n,p)
 | _=>none
theorem k_index1 {i:Int} {len:Nat} {cs:Array Value} (hx:ev ρ x=.agg cs) (hy:ev ρ y=.int q i) (ha:arr P t=some (len,(false,1))) (hi:0≤i∧i<len) (hv:cs[i.toNat]?=some v):Run P ρ ⟨dst,.index t x y,ty,pos,af,gd⟩ w v w:=by
 unfold arr at ha
 split at ha
 ·rename_i n e hu
  cases hs:shp P e with
  | none=>simp [hs] at ha
  | some p =>
   simp [hs] at ha
   obtain ⟨rfl,rfl⟩:=ha
   constructor;unfold execOp
   simp [hx,hy,Instr.index,run_underlying hu,asIntOf,hi,part,shp_isAgg hs,shp_size hs,hv]
 ·cases ha
theorem k_extract {vs:Array Value} {i:Nat} (hx:ev ρ x=.tuple vs) (hv:vs[i]?=some v):Run P ρ ⟨dst,.extract x i,ty,pos,af,gd⟩ w v w:=by
 constructor;unfold execOp;simp [hx,Instr.extract,hv]
theorem k_nilCheck {a:Addr} (hx:ev ρ x=.pointer (some a)):Run P ρ ⟨dst,.nilCheck x,ty,pos,af,gd⟩ w (.pointer (some a)) w:=by
 constructor;unfold execOp;simp [hx]
end
end Go.K
