/- A part of the proof of the card of TopText; no condition. -/
import Derived.Test.YtdbnmbkjmeepkaaGreatDoorT01
namespace Go.K
open Go Go.RowKit
@[simp] theorem Pb (q:IntKind) (n:Int):(Value.int q n).oneCell'=true:=rfl
@[simp] theorem Oz (b:Bool):(Value.bool b).oneCell'=true:=rfl
@[simp] theorem Nk (a:Option Addr) (n c:Nat):(Value.slice a n c).oneCell'=true:=rfl
@[simp] theorem Pa (a:Option Addr):(Value.pointer a).oneCell'=true:=rfl
@[simp] theorem Pd (s:ByteArray):(Value.string s).oneCell'=true:=rfl
@[simp] theorem Nv (k:FloatKind) (n:Nat):(Value.float k n).oneCell'=true:=rfl
@[simp] theorem Kx (k:FloatKind) (n m:Nat):(Value.complex k n m).oneCell'=true:=rfl
@[simp] theorem PZ (r:Option Nat):(Value.map r).oneCell'=true:=rfl
structure Ext (S:List Nat) (w w':World):Prop where
 os:w'.os=w.os
 tape:w'.tape=w.tape
 output:w'.output=w.output
 size:w.heap.size≤w'.heap.size
 drawn:w.drawn≤w'.drawn
 block:∀ b,b<w.heap.size→b ∉ S→w'.heap[b]?=w.heap[b]?
section
variable {S T:List Nat} {w w' w'':World}
theorem Ext.refl:Ext S w w:=⟨rfl,rfl,rfl,Nat.le_refl _,Nat.le_refl _,fun _ _ _=>rfl⟩
theorem Ext.drew (h:Ext S w w'):Ext S w w'.drew:=⟨h.os,h.tape,h.output,h.size,Nat.le_succ_of_le h.drawn,h.block⟩
theorem Ext.dV:Ext S w w.drew:=Ext.refl.drew
theorem Ext.trans (h:Ext S w w') (h':Ext T w' w'') (hT:∀ t∈T,t∈S∨w.heap.size≤t):Ext S w w'' :=
 ⟨h'.os.trans h.os,h'.tape.trans h.tape,h'.output.trans h.output,Nat.le_trans h.size h'.size,Nat.le_trans h.drawn h'.drawn,
  fun b hb hS=>(h'.block b (Nat.lt_of_lt_of_le hb h.size) (fun ht=>by rcases hT b ht with h1|h1;exact hS h1;omega)).trans (h.block b hb hS)⟩
theorem Ext.bO (h:Ext S w w') (h':Ext [] w' w''):Ext S w w'':=h.trans h' (by simp)
theorem Ext.O1 {t:Nat} (h:Ext S w w') (h':Ext [t] w' w'') (ht:t∈S∨w.heap.size≤t):Ext S w w'':=h.trans h' (by simpa using ht)
theorem Ext.iS (h:Ext S w w') (h':Ext S w' w''):Ext S w w'':=h.trans h' (fun _ ht=>.inl ht)
theorem Ext.weaken (h:Ext S w w') (hS:∀ s∈S,s∈T):Ext T w w':=⟨h.os,h.tape,h.output,h.size,h.drawn,fun b hb hT=>h.block b hb (fun h=>hT (hS b h))⟩
theorem Ext.cell {a:Addr} {v:Value} (h:Ext S w w') (hc:w.cell? a=some v) (hb:a.block ∉ S):w'.cell? a=some v :=
 (World.cell?_of_block (h.block a.block (World.block_lt_of_cell? w a hc) hb)).trans hc
end
def At (a:Option Addr) (i:Nat):Addr:=⟨(a.getD ⟨0,0,none⟩).block,(a.getD ⟨0,0,none⟩).off+i,none⟩
def dI (a:Option Addr):List Nat:=match a with|some a=>[a.block]|none=>[]
structure cI (w:World) (a:Option Addr) (vs:List Value):Prop where
 cell:∀ j v,vs[j]?=some v→w.cell? (At a j)=some v
 head:vs≠[]→∃ b o,a=some ⟨b,o,none⟩
def cL (w:World) (b:Nat) (e:TypeId) (cs:Array Value):Prop:=w.heap[b]?=some (.cells cs e (0,0))
def Own (w:World) (e:TypeId) (sz:Nat) (a:Option Addr) (n cap:Nat) (vs:List Value):Prop :=
 vs.length=n*sz∧n≤cap∧cap≤maxLen∧((a=none∧cap=0)∨∃ b cur,a=some ⟨b,0,none⟩∧cL w b e cur∧cur.size=cap*sz∧cur.toList.take (n*sz)=vs)
section
variable {S:List Nat} {w w':World} {a:Option Addr} {vs:List Value} {b:Nat} {e:TypeId} {cs:Array Value} {sz n cap:Nat}
theorem cI.nil:cI w a []:=⟨fun j v h=>by simp at h,fun h=>absurd rfl h⟩
theorem cI.ext (h:cI w a vs) (hE:Ext S w w') (hb:∀ s∈S,s ∉ dI a):cI w' a vs :=
 ⟨fun j v hv=>hE.cell (h.cell j v hv) (fun hs=>by
  obtain ⟨b,o,rfl⟩:=h.head (fun e=>by subst e;simp at hv)
  exact hb _ hs (by simp [dI,At])),h.head⟩
theorem cI.aH (h:cI w a vs) (hE:Ext [] w w'):cI w' a vs:=h.ext hE (by simp)
theorem cI.lt (h:cI w a vs) (hn:vs≠[]):∀ s∈dI a,s<w.heap.size:=by
 obtain ⟨b,o,rfl⟩:=h.head hn
 intro s hs
 obtain ⟨v,hv⟩:∃ v,vs[0]?=some v:=by cases vs with|nil=>exact absurd rfl hn|cons v _=>exact ⟨v,rfl⟩
 have:=World.block_lt_of_cell? w _ (h.cell 0 v hv)
 simp [dI] at hs
 subst hs
 exact this
theorem cI.take (h:cI w a vs) (k:Nat):cI w a (vs.take k) :=
 ⟨fun j v hv=>h.cell j v (by rw [List.getElem?_take] at hv;split at hv;exact hv;cases hv),fun hn=>h.head (fun e=>hn (by simp [e]))⟩
theorem cL.lt (h:cL w b e cs):b<w.heap.size:=(Array.getElem?_eq_some_iff.1 h).1
theorem cL.ext (h:cL w b e cs) (hE:Ext S w w') (hb:b ∉ S):cL w' b e cs:=(hE.block b h.lt hb).trans h
theorem cL.aH (h:cL w b e cs) (hE:Ext [] w w'):cL w' b e cs:=h.ext hE (by simp)
theorem cL.cell (h:cL w b e cs) {o:Nat} {v:Value} (hv:cs[o]?=some v):w.cell? ⟨b,o,none⟩=some v:=by
 rw [cell_of_row w b o cs e (0,0) h];exact hv
theorem cL.free (h:cL w b e cs) {o:Nat}:w.frozen? ⟨b,o,none⟩=false:=by
 have h':w.heap[b]?=some (.cells cs e (0,0)):=h
 simp [World.frozen?,h']
theorem cL.sl (h:cL w b e cs) {o:Nat} (hv:∀ j v,vs[j]?=some v→cs[o+j]?=some v):cI w (some ⟨b,o,none⟩) vs :=
 ⟨fun j v hj=>h.cell (hv j v hj),fun _=>⟨b,o,rfl⟩⟩
theorem cL.cX (h:cL w b e cs):cI w (some ⟨b,0,none⟩) cs.toList:=h.sl (fun j v hj=>by simpa using hj)
theorem cL.own (h:cL w b e cs) (hs:cs.size=n*sz) (hn:n≤9223372036854775807):Own w e sz (some ⟨b,0,none⟩) n n cs.toList :=
 ⟨by simpa using hs,Nat.le_refl _,by simpa [maxLen] using hn,.inr ⟨b,cs,rfl,h,hs,by rw [← hs,← Array.length_toList];exact List.take_length⟩⟩
theorem Own.nil:Own w e sz none 0 0 []:=⟨by simp,Nat.le_refl _,Nat.zero_le _,.inl ⟨rfl,rfl⟩⟩
theorem Own.sl (h:Own w e sz a n cap vs):cI w a vs:=by
 obtain ⟨hl,hn,_,⟨rfl,rfl⟩|⟨b,cur,rfl,hB,hs,ht⟩⟩:=h
 ·have:vs=[]:=by apply List.eq_nil_of_length_eq_zero;rw [hl];have:n=0:=(by omega);subst this;simp
  subst this;exact .nil
 ·refine hB.sl (fun j v hv=>?_)
  rw [← ht,List.getElem?_take] at hv
  split at hv
  ·simpa using hv
  ·cases hv
theorem Own.ext (h:Own w e sz a n cap vs) (hE:Ext S w w') (hb:∀ s∈S,s ∉ dI a):Own w' e sz a n cap vs:=by
 obtain ⟨hl,hn,hc,hh|⟨b,cur,rfl,hB,hs,ht⟩⟩:=h
 ·exact ⟨hl,hn,hc,.inl hh⟩
 ·exact ⟨hl,hn,hc,.inr ⟨b,cur,rfl,hB.ext hE (fun h=>hb b h (by simp [dI])),hs,ht⟩⟩
theorem Own.aH (h:Own w e sz a n cap vs) (hE:Ext [] w w'):Own w' e sz a n cap vs:=h.ext hE (by simp)
theorem Own.lt (h:Own w e sz a n cap vs):∀ s∈dI a,s<w.heap.size:=by
 obtain ⟨_,_,_,⟨rfl,_⟩|⟨b,cur,rfl,hB,_⟩⟩:=h
 ·simp [dI]
 ·simpa [dI] using hB.lt
def jL (lo:Nat) (a:Option Addr):Prop:=∀ b∈dI a,lo≤b
theorem jL.some {lo b o:Nat} (h:lo≤b):jL lo (some ⟨b,o,none⟩):=fun x hx=>by simp [dI] at hx;omega
theorem jL.at {W w:World} {b o:Nat} (hW:Ext [] W w) (h:b=w.heap.size):jL W.heap.size (Option.some ⟨b,o,none⟩):=jL.some (by have:=hW.size;omega)
theorem jL.none {lo:Nat}:jL lo none:=fun x hx=>by simp [dI] at hx
theorem jL.step {lo sz:Nat} {a a':Option Addr} (h:jL lo a) (hf:∀ b∈dI a',b∈dI a∨sz≤b) (hs:lo≤sz):jL lo a':=fun b hb=>by
 rcases hf b hb with h1|h1
 ·exact h b h1
 ·omega
theorem Ext.LW {W w w':World} {a:Option Addr} (h:Ext [] W w) (h':Ext (dI a) w w') (hF:jL W.heap.size a):Ext [] W w':=h.trans h' (fun t ht=>.inr (hF t ht))
theorem Ext.kS {W w w':World} {b:Nat} (h:Ext [] W w) (h':Ext [b] w w') (hb:W.heap.size≤b):Ext [] W w':=h.O1 h' (.inr hb)
theorem gQ (w:World) (o:Obj):Ext [] w (w.alloc o) :=
 ⟨rfl,rfl,rfl,by simp,Nat.le_refl _,fun b hb _=>Below.heap_alloc w o b hb⟩
theorem jY (w:World) (g:Nat) (cs:Array Value):Ext [g] w (w.setRow g cs) :=
 ⟨rfl,rfl,rfl,by simp [World.setRow],Nat.le_refl _,fun b _ hb=>setRow_other w g b cs (fun e=>hb (by simp [e]))⟩
theorem eM (b o i:Nat):(⟨b,o,none⟩:Addr).add i=⟨b,o+i,none⟩:=by unfold Addr.add;split<;>simp_all
end
section
variable {P:Program} {N:Nat} {K:Fr→World→Prop} {ρ:Fr} {w:World}
variable {v:Value} {dst:Option Nat} {d:Nat} {ty:TypeId} {pos:String} {af:Array Edge} {gd:Option (Nat × Bool)} {x y z:Operand} {t u e:TypeId} {q:IntKind}
def sle (P:Program) (t:TypeId):Option (TypeId × (Bool × Nat)) :=
 match P.underlying t with
 | some (.slice e)=>(aF P e).map fun p=>(e,p)
 | _=>none
theorem eD {p:Bool × Nat} (h:sle P t=some (e,p)):P.underlying t=some (.slice e)∧aF P e=some p:=by
 unfold sle at h
 split at h
 ·rename_i e' hu
  cases hs:aF P e' with
  | none=>simp [hs] at h
  | some p'=>simp [hs] at h;obtain ⟨rfl,rfl⟩:=h;exact ⟨hu,hs⟩
 ·cases h
theorem uS {n:Nat} {p:Bool × Nat} (h:arr P t=some (n,p)):∃ e,P.underlying t=some (.array n e)∧aF P e=some p:=by
 unfold arr at h
 split at h
 ·rename_i n' e' hu
  cases hs:aF P e' with
  | none=>simp [hs] at h
  | some p'=>simp [hs] at h;obtain ⟨rfl,rfl⟩:=h;exact ⟨e',hu,hs⟩
 ·cases h
theorem gE {i:Int} {sz len cap:Nat} {g:Bool} {a:Option Addr} {vs:List Value} (hx:ev ρ x=.slice a len cap) (hy:ev ρ y=.int q i) (hS:cI w a vs) (hl:vs.length=len*sz) (hsz:0<sz) (ht:sle P t=some (e,(g,sz)))
  (hi:0≤i∧i<len):cU P ρ ⟨dst,.indexAddr t x y,ty,pos,af,gd⟩ w (.pointer (some (At a (i.toNat*sz)))) w:=by
 obtain ⟨hu,hs⟩:=eD ht
 obtain ⟨b,o,rfl⟩:=hS.head (fun e=>by
  subst e
  have:0<len*sz:=Nat.mul_pos (by omega) hsz
  simp at hl;omega)
 constructor;unfold execOp
 simp [hx,hy,Instr.indexAt,run_underlying hu,asIntOf,hi,dA hs,eM,At]
theorem cG {i:Int} {len cap:Nat} {g:Bool} {a:Option Addr} {vs:List Value} (hx:ev ρ x=.slice a len cap) (hy:ev ρ y=.int q i) (hS:cI w a vs) (hl:vs.length=len) (ht:sle P t=some (e,(g,1)))
  (hi:0≤i∧i<len):cU P ρ ⟨dst,.indexAddr t x y,ty,pos,af,gd⟩ w (.pointer (some (At a i.toNat))) w:=by
 have:=gE (dst:=dst) (ty:=ty) (pos:=pos) (af:=af) (gd:=gd) (sz:=1) hx hy hS (by omega) (by omega) ht hi
 rw [Nat.mul_one] at this;exact this
theorem qZ {i:Int} {b o len sz:Nat} {g:Bool} (hx:ev ρ x=.pointer (some ⟨b,o,none⟩)) (hy:ev ρ y=.int q i) (ht:arr P t=some (len,(g,sz))) (hi:0≤i∧i<len) :
  cU P ρ ⟨dst,.indexAddr t x y,ty,pos,af,gd⟩ w (.pointer (some ⟨b,o+i.toNat*sz,none⟩)) w:=by
 obtain ⟨e,hu,hs⟩:=uS ht
 constructor;unfold execOp
 simp [hx,hy,Instr.indexAt,run_underlying hu,asIntOf,hi,dA hs,eM,Instr.sureAddr]
theorem aN {i b o off s:Nat} {g:Bool} (hx:ev ρ x=.pointer (some ⟨b,o,none⟩)) (hf:bA P t i=some (off,(g,s+1))) :
  cU P ρ ⟨dst,.fieldAddr t x i,ty,pos,af,gd⟩ w (.pointer (some ⟨b,o+off,none⟩)) w:=by
 unfold bA at hf
 split at hf
 ·rename_i fs hu
  split at hf
  ·rename_i fd hfd
   cases hs:aF P fd.type with
   | none=>simp [hs] at hf
   | some p =>
    simp [hs] at hf
    obtain ⟨rfl,rfl⟩:=hf
    constructor;unfold execOp
    simp [hx,Instr.fieldAt,run_underlying hu,hfd,Instr.sureAddr,fieldPlace,dA hs,eM]
  ·cases hf
 ·cases hf
theorem I1 {a:Addr} {s:Nat} (hx:ev ρ x=.pointer (some a)) (hc:w.cell? a=some v) (ht:aF P t=some (false,s)):cU P ρ ⟨dst,.load t x,ty,pos,af,gd⟩ w v w:=by
 constructor;unfold execOp
 simp [hx,Instr.loadAt,Instr.sureAddr,loadVar,jF ht,hc]
theorem aU {a:Option Addr} {vs:List Value} {j s:Nat} (hx:ev ρ x=.pointer (some (At a j))) (hS:cI w a vs) (hv:vs[j]?=some v) (ht:aF P t=some (false,s)):cU P ρ ⟨dst,.load t x,ty,pos,af,gd⟩ w v w :=
 I1 hx (hS.cell j v hv) ht
theorem aB {b o s:Nat} {cs:Array Value} (hx:ev ρ x=.pointer (some ⟨b,o,none⟩)) (hB:cL w b e cs) (hv:cs[o]?=some v) (ht:aF P t=some (false,s)):cU P ρ ⟨dst,.load t x,ty,pos,af,gd⟩ w v w :=
 I1 hx (hB.cell hv) ht
theorem Eb {a:Option Addr} {vs:List Value} {j s:Nat} (hx:ev ρ x=.pointer (some (At a j))) (hS:cI w a vs) (hl:j+s≤vs.length) (ht:aF P t=some (true,s)) :
  cU P ρ ⟨dst,.load t x,ty,pos,af,gd⟩ w (.agg ((vs.drop j).take s).toArray) w:=by
 have h1:(loadCells (At a j) ((vs.drop j).take s).length).run P w=.ok ((vs.drop j).take s).toArray w :=
  run_loadCells_list (P:=P) w (At a j) _ (fun i v hv=>by
   rw [List.getElem?_take] at hv
   split at hv
   ·rw [List.getElem?_drop] at hv
    have:=hS.cell (j+i) v hv
    rw [show (At a j).add i=At a (j+i) from by unfold At;rw [eM,Nat.add_assoc]]
    exact this
   ·cases hv)
 have h2:((vs.drop j).take s).length=s:=by simp;omega
 rw [h2] at h1
 constructor;unfold execOp
 simp [hx,Instr.loadAt,Instr.sureAddr,loadVar,jF ht,dA ht,h1]
theorem aE {b s:Nat} {cs:Array Value} (hx:ev ρ x=.pointer (some ⟨b,0,none⟩)) (hB:cL w b e cs) (hl:cs.size=s) (ht:aF P t=some (true,s)) :
  cU P ρ ⟨dst,.load t x,ty,pos,af,gd⟩ w (.agg cs) w:=by
 have:=Eb (dst:=dst) (ty:=ty) (pos:=pos) (af:=af) (gd:=gd) (ρ:=ρ) (x:=x) (j:=0) (a:=some ⟨b,0,none⟩) hx hB.cX (by simp [hl]) ht
 have e:((cs.toList.drop 0).take s).toArray=cs:=by simp [← hl,List.take_of_length_le]
 rw [e] at this
 exact this
theorem gC {b o:Nat} {cs:Array Value} (hx:ev ρ x=.pointer (some ⟨b,o,none⟩)) (hy:ev ρ y=v) (hB:cL w b e cs) (ho:o<cs.size) (h1:v.oneCell'=true) (ht:aF P t=some (false,1))
  (hk:∀ w',Ext [b] w w'→cL w' b e (cs.setIfInBounds o v)→w'.heap.size=w.heap.size→K ρ w'):kC P N ρ ⟨none,.store t x y,ty,pos,af,gd⟩ w K:=by
 have hc:w.cell? ⟨b,o,none⟩=some cs[o]:=hB.cell (by simp [ho])
 have hcs:v.cells=#[v]:=by cases v<;>first|rfl|(simp [Value.oneCell'] at h1)
 refine Cw (w':=w.setRow b (cs.setIfInBounds o v)) ?_ rfl (hk _ (jY _ _ _) (setRow_heap w b cs _ e _ hB) (by simp [World.setRow]))
 unfold execOp
 simp only [hx,hy,Instr.storeAt,Instr.sureAddr,storeVar,Sem.run_bind,Sem.run_pure,Result.andThen_ok,dA ht,hcs]
 simp [storeCells,eM,run_store P w _ v _ h1,hc,hB.free,setCell_eq_setRow w b o cs e (0,0) v hB]
theorem vV {b o s:Nat} {cs vs:Array Value} (hx:ev ρ x=.pointer (some ⟨b,o,none⟩)) (hy:ev ρ y=.agg vs) (hB:cL w b e cs) (ho:o+vs.size≤cs.size) (h1:∀ v∈vs.toList,v.oneCell'=true) (ht:aF P t=some (true,s)) (hs:vs.size=s)
  (hk:∀ w',Ext [b] w w'→cL w' b e (cs.toList.take o++vs.toList++cs.toList.drop (o+vs.size)).toArray→w'.heap.size=w.heap.size→K ρ w'):kC P N ρ ⟨none,.store t x y,ty,pos,af,gd⟩ w K:=by
 have dW:=run_storeCells_at P b o e vs.toList 0 cs w hB (by simpa using ho) h1
 simp only [Nat.add_zero,Array.length_toList] at dW
 refine Cw ?_ rfl (hk _ (jY _ _ _) (setRow_heap w b cs _ e _ hB) (by simp [World.setRow]))
 unfold execOp
 simp [hx,hy,Instr.storeAt,Instr.sureAddr,storeVar,dA ht,hs,Value.cells,dW]
theorem dH {b s:Nat} {cs vs:Array Value} (hx:ev ρ x=.pointer (some ⟨b,0,none⟩)) (hy:ev ρ y=.agg vs) (hB:cL w b e cs) (hs:vs.size=s) (hs':cs.size=s) (h1:∀ v∈vs.toList,v.oneCell'=true) (ht:aF P t=some (true,s))
  (hk:∀ w',Ext [b] w w'→cL w' b e vs→w'.heap.size=w.heap.size→K ρ w'):kC P N ρ ⟨none,.store t x y,ty,pos,af,gd⟩ w K :=
 vV hx hy hB (by omega) h1 ht hs (fun w' hE hB'=>hk w' hE (by
  have:(cs.toList.take 0++vs.toList++cs.toList.drop (0+vs.size)).toArray=vs:=by
   simp [List.drop_of_length_le (show cs.toList.length≤vs.size by simp;omega)]
  rw [this] at hB';exact hB'))
def bH (P:Program) (t:TypeId):Option (List Value):=(P.info? t).bind fun i=>i.zero.map fun z=>z.cells.toList
theorem dS {zs:List Value} (hz:bH P t=some zs) (hd:Nat.blt d N=true)
  (hk:∀ w' b,b=w.heap.size→Ext [] w w'→cL w' b t zs.toArray→w'.heap.size=b+1→K (dX ρ d (.pointer (some ⟨b,0,none⟩))) w'):kC P N ρ ⟨some d,.alloc t,ty,pos,af,gd⟩ w K:=by
 unfold bH at hz
 cases hi:P.info? t with
 | none=>simp [hi] at hz
 | some i =>
  cases hzz:i.zero with
  | none=>simp [hi,hzz] at hz
  | some zv =>
   simp [hi,hzz] at hz
   subst hz
   refine fA (w':=w.alloc (.cells zv.cells t)) (v:=.pointer (some ⟨w.heap.size,0,none⟩)) ?_ hd (hk _ _ rfl (gQ _ _) ?_ (by simp))
   ·constructor;unfold execOp
    simp [Instr.alloc,zeroValue,typeInfo,hi,hzz,newVar,newRow]
   ·have h:=heap_alloc_new w (.cells zv.cells t)
    simpa [cL] using h
theorem Ca {cs:Array Value} (hx:ev ρ x=v) (hc:v.cells=cs) (hd:Nat.blt d N=true)
  (hk:∀ w' b,b=w.heap.size→Ext [] w w'→cL w' b t cs→w'.heap.size=b+1→K (dX ρ d (.pointer (some ⟨b,0,none⟩))) w'):kC P N ρ ⟨some d,.box t x,ty,pos,af,gd⟩ w K:=by
 subst hc
 refine fA (w':=w.alloc (.cells v.cells t)) (v:=.pointer (some ⟨w.heap.size,0,none⟩)) ?_ hd (hk _ _ rfl (gQ _ _) (heap_alloc_new w _) (by simp))
 constructor;unfold execOp
 simp [Instr.box,hx,newVar,newRow]
def fL (ρ:Fr) (sz:Nat):Nat→List (Nat × Operand)→Option (List Value)
 | _,[]=>some []
 | i,(j,x)::ps=>if i=j∧(ev ρ x).cells.size=sz then (fL ρ sz (i+1) ps).map fun r=>(ev ρ x).cells.toList++r else none
theorem BN (sz:Nat):∀ (ps:List (Nat × Operand)) (i:Nat) (out:List Value) (done:List Value) (rest:List Value),fL ρ sz i ps=some out→done.length=i*sz→rest.length=ps.length*sz →
  Instr.fill (fun i=>some (i*sz,sz)) (done++rest).toArray (ps.map fun p=>(p.1,ev ρ p.2))=some (done++out).toArray
 | [],i,out,done,rest,h,hd,hr=>by
  simp [fL] at h
  subst h
  have:rest=[]:=List.eq_nil_of_length_eq_zero (by simpa using hr)
  subst this
  simp [Instr.fill]
 | (j,x)::ps,i,out,done,rest,h,hd,hr=>by
  unfold fL at h
  split at h
  ·rename_i hc
   obtain ⟨rfl,hsz⟩:=hc
   cases hrec:fL ρ sz (i+1) ps with
   | none=>simp [hrec] at h
   | some r =>
    simp [hrec] at h
    subst h
    have hrl:rest.length=sz+ps.length*sz:=by rw [hr];simp [Nat.add_mul,Nat.add_comm]
    have hset:∀ (cs:List Value) (o:Nat) (acc:List Value),acc.length=o+cs.length+(acc.length-(o+cs.length)) →
      (cs.zipIdx).foldl (fun (cs:Array Value) (c:Value × Nat)=>cs.setIfInBounds (o+c.2) c.1) acc.toArray=(acc.take o++cs++acc.drop (o+cs.length)).toArray:=by
     intro cs
     suffices H:∀ (cs:List Value) (m o:Nat) (acc:List Value),o+m+cs.length≤acc.length →
       (cs.zipIdx m).foldl (fun (cs:Array Value) (c:Value × Nat)=>cs.setIfInBounds (o+c.2) c.1) acc.toArray=(acc.take (o+m)++cs++acc.drop (o+m+cs.length)).toArray by
      intro o acc hacc
      exact H cs 0 o acc (by omega)
     intro cs
     induction cs with
     | nil=>intro m o acc hacc;simp
     | cons c cs ih =>
      intro m o acc hacc
      simp at hacc
      simp only [List.zipIdx_cons,List.foldl_cons,List.setIfInBounds_toArray]
      rw [ih (m+1) o (acc.set (o+m) c) (by rw [List.length_set];omega)]
      congr 1
      have e:=list_seg_step acc (o+m) c cs (by omega)
      simpa [Nat.add_assoc,Nat.add_comm,Nat.add_left_comm] using e
    have hcs:=hset (ev ρ x).cells.toList (i*sz) (done++rest) (by simp;omega)
    have hz:((ev ρ x).cells.zipIdx.foldl (fun (cs:Array Value) (c:Value × Nat)=>cs.setIfInBounds (i*sz+c.2) c.1) (done++rest).toArray) =
      (done++(ev ρ x).cells.toList++rest.drop sz).toArray:=by
     rw [← Array.foldl_toList,Array.toList_zipIdx,hcs]
     congr 1
     rw [List.drop_append,List.drop_of_length_le (by simp [hsz];omega),← hd,List.take_left]
     simp [hsz]
    have ih:=BN sz ps (i+1) r (done++(ev ρ x).cells.toList) (rest.drop sz) hrec (by simp [hd,hsz,Nat.add_mul]) (by simp only [List.length_drop];omega)
    simp only [List.map_cons,Instr.fill]
    have hrl2:=hrl
    rw [if_neg (by simp only [hsz,List.size_toArray,List.length_append,hrl2,hd];simp)]
    rw [hz,ih]
    simp
  ·cases h
theorem oK {n:Nat} {ps:List (Nat × Operand)} {out:List Value} {sz:Nat} {g:Bool} {zs:List Value} (ht:sle P t=some (e,(g,sz))) (hz:bH P e=some zs) (hzl:zs.length=sz) (hc:fL ρ sz 0 ps=some out) (hn:ps.length=n)
  (hb:n*sz≤16777216) (hd:Nat.blt d N=true)
  (hk:∀ w' b,b=w.heap.size→Ext [] w w'→cL w' b e out.toArray→w'.heap.size=b+1→K (dX ρ d (.slice (some ⟨b,0,none⟩) n n)) w'):kC P N ρ ⟨some d,.buildSlice t n ps.toArray,ty,pos,af,gd⟩ w K:=by
 obtain ⟨hu,hs⟩:=eD ht
 refine fA (w':=w.alloc (.cells out.toArray e)) (v:=.slice (some ⟨w.heap.size,0,none⟩) n n) ?_ hd (hk _ _ rfl (gQ _ _) (heap_alloc_new w _) (by simp))
 have hzero:∃ zv,(zeroValue e).run P w=.ok zv w∧zv.cells.size=sz:=by
  unfold bH at hz
  cases hi:P.info? e with
  | none=>simp [hi] at hz
  | some i =>
   cases hzz:i.zero with
   | none=>simp [hi,hzz] at hz
   | some zv =>
    simp [hi,hzz] at hz
    exact ⟨zv,by simp [zeroValue,typeInfo,hi,hzz],by rw [← Array.length_toList,hz];exact hzl⟩
 obtain ⟨zv,hzr,hzs⟩:=hzero
 have hb':¬ (16777216<n*sz):=by omega
 have hf:∀ (zc:Array Value),zc.size=n*sz→Instr.fill (fun i=>some (i*sz,sz)) zc (ps.map fun p=>(p.1,ev ρ p.2))=some out.toArray:=by
  intro zc hzc
  have:=BN (ρ:=ρ) sz ps 0 out [] zc.toList hc (by simp) (by simp [hzc,hn])
  simpa using this
 constructor;unfold execOp
 by_cases h0:n*sz=0
 ·have hf0:=hf ((Array.range 0).map fun _=>default) (by simp [h0])
  simp [Instr.buildSlice,run_underlying hu,dA hs,h0,hf0,newRow]
 ·have hf1:=hf ((Array.range (n*sz)).map (zv.cells[· % zv.cells.size]!)) (by simp)
  simp [Instr.buildSlice,run_underlying hu,dA hs,h0,hb',hzr,hf1,newRow]
def gS (P:Program) (e:TypeId):Option Nat:=(P.info? e).map (·.bytes)
theorem rB {sz bytes:Nat} {g:Bool} {zs:List Value} (hs:aF P e=some (g,sz)) (hz:bH P e=some zs) (hb:gS P e=some bytes):∃ i z,P.info? e=some i∧i.zero=some z∧i.size=sz∧i.bytes=bytes∧z.cells.toList=zs:=by
 unfold aF at hs;unfold bH at hz;unfold gS at hb
 cases hi:P.info? e with
 | none=>simp [hi] at hb
 | some i =>
  cases hzz:i.zero with
  | none=>simp [hi,hzz] at hz
  | some zv =>
   simp [hi,hzz] at hz hb
   rw [hi] at hs
   refine ⟨i,zv,rfl,hzz,?_,hb,hz⟩
   split at hs<;>first|(cases hs;rename_i h;cases h;rfl)|cases hs
theorem A8 {a:Addr} (h:a.spot=none) (j:Nat):a.add j=At (some a) j:=by
 obtain ⟨b,o,s⟩:=a
 simp only at h;subst h
 rw [eM];rfl
theorem kY {a a2:Option Addr} {n cap m c2 sz bytes:Nat} {g:Bool} {zs vs news:List Value} (ht:sle P t=some (e,(g,sz))) (hz:bH P e=some zs) (hzl:zs.length=sz) (hby:gS P e=some bytes) (hsz:0<sz)
  (hx:ev ρ x=.slice a n cap) (hO:Own w e sz a n cap vs) (hy:ev ρ y=.slice a2 m c2) (hS:cI w a2 news) (hl:news.length=m*sz) (h1:∀ u∈news,u.oneCell'=true)
  (hbig:(n+m)*bytes≤140737488355328) (h63:n+m≤maxLen) (hd:Nat.blt d N=true)
  (hk:∀ w' a' cap',Ext (dI a) w w'→Own w' e sz a' (n+m) cap' (vs++news)→(∀ b∈dI a',b∈dI a∨w.heap.size≤b)→(a'=none→n+m=0)→K (dX ρ d (.slice a' (n+m) cap')) w'):kC P N ρ ⟨some d,.call ⟨.builtin .append,#[x,y],#[t,t]⟩,ty,pos,af,gd⟩ w K:=by
 obtain ⟨hu,hs⟩:=eD ht
 obtain ⟨i,z,hi,hzz,rfl,rfl,hzc⟩:=rB hs hz hby
 have hzcs:z.cells.size=i.size:=by rw [← Array.length_toList,hzc];exact hzl
 have hop:∀ {v' w'},(Builtin.append_ #[t,t] ty #[.slice a n cap,.slice a2 m c2]).run P w=.ok v' w'→cU P ρ ⟨some d,.call ⟨.builtin .append,#[x,y],#[t,t]⟩,ty,pos,af,gd⟩ w v' w':=by
  intro v' w' hr
  constructor;unfold execOp
  simp [hx,hy,resolve,invoke,builtin,hr]
 have h63':n+m≤9223372036854775807:=by simp only [maxLen] at h63;omega
 obtain ⟨hvl,hnc,hcm,hown⟩:=hO
 have hlen:(vs++news).length=(n+m)*i.size:=by rw [List.length_append,hvl,hl,Nat.add_mul]
 by_cases hm:m=0
 ·
  subst hm
  have hn0:news=[]:=List.eq_nil_of_length_eq_zero (by simpa using hl)
  subst hn0
  have hf:(Builtin.firstCells i.size 0 (.slice a2 0 c2)).run P w=.ok #[] w:=by
   cases a2 with
   | none=>simp [Builtin.firstCells]
   | some ad=>simp [Builtin.firstCells,loadCells,loadCellsFrom]
  have hcap:n+0≤cap:=by omega
  have hr:(Builtin.append_ #[t,t] ty #[.slice a n cap,.slice a2 0 c2]).run P w=.ok (.slice a (n+0) cap) w:=by
   cases a with
   | none=>simp [Builtin.append_,run_underlying hu,sizeOf,typeInfo,hi,Builtin.lenOf,hnc,hf]
   | some ad=>simp [Builtin.append_,run_underlying hu,sizeOf,typeInfo,hi,Builtin.lenOf,hnc,hf,storeCells]
  exact fA (hop hr) hd (hk w a cap .refl ⟨hlen,hcap,hcm,by simpa using hown⟩ (fun b hb=>.inl hb) (fun ha=>by rcases hown with ⟨_,h0⟩|⟨_,_,h,_⟩;omega;rw [h] at ha;cases ha))
 ·have hne:news≠[]:=fun e=>by
   subst e
   have:0<m*i.size:=Nat.mul_pos (by omega) hsz
   simp at hl;omega
  obtain ⟨b2,o2,rfl⟩:=hS.head hne
  have hnews:∀ j v,news[j]?=some v→w.cell? ((⟨b2,o2,none⟩:Addr).add j)=some v:=fun j v hj=>by rw [A8 rfl];exact hS.cell j v hj
  have grown:∀ old,old<n+m →
    Own (w.drew.alloc (.cells (vs.toArray++news.toArray++Builtin.zeroCells z.cells (grownCap w (n+m) old e-(n+m))) e)) e i.size (some ⟨w.heap.size,0,none⟩) (n+m) (grownCap w (n+m) old e) (vs++news):=by
   intro old ho
   have hge:=grownCap_ge w (n+m) old e
   have hcm2:grownCap w (n+m) old e≤maxLen:=grownCap_le_maxLen w (n+m) old e h63
   refine ⟨hlen,hge,hcm2,.inr ⟨w.heap.size,_,rfl,heap_alloc_new w.drew _,?_,?_⟩⟩
   ·simp only [Array.size_append,List.size_toArray,size_zeroCells,hzcs,hvl,hl,← Nat.add_mul]
    congr 1
    omega
   ·simp only [Array.toList_append,List.append_assoc]
    rw [← List.append_assoc,← hlen]
    exact List.take_left
  have hgE:∀ o,Ext (dI a) w (w.drew.alloc o):=fun o=>Ext.dV.bO (gQ _ _)
  rcases hown with ⟨rfl,rfl⟩|⟨b,cur,rfl,hB,hcs,htake⟩
  ·have hn0:n=0:=by omega
   subst hn0
   have hv0:vs=[]:=List.eq_nil_of_length_eq_zero (by simpa using hvl)
   subst hv0
   have hr:=run_append_nil (P:=P) w t ty e i z hu hi hzz ⟨b2,o2,none⟩ m c2 news hl hnews (by omega) (by omega) (by simp only [Nat.zero_add] at hbig;omega)
   have hg:=grown 0 (by omega)
   simp only [Nat.zero_add,List.nil_append,Array.empty_append] at hg hk
   exact fA (hop hr) hd (hk _ _ _ (hgE _) hg (fun b hb=>.inr (by simp [dI] at hb;omega)) (fun h=>by cases h))
  ·by_cases hroom:n+m≤cap
   ·have hfit:n*i.size+news.length≤cur.size:=by rw [hl,hcs,← Nat.add_mul];exact Nat.mul_le_mul_right _ hroom
    have hr:=run_append_room (P:=P) w t ty e i hu hi b n cap cur hB ⟨b2,o2,none⟩ m c2 news hl hnews h1 hroom hfit
    refine fA (hop hr) hd (hk _ _ _ (jY _ _ _) ⟨hlen,hroom,hcm,.inr ⟨b,_,rfl,setRow_heap w b cur _ e _ hB,?_,?_⟩⟩ (fun b hb=>.inl hb) (fun h=>by cases h))
    ·simp only [List.size_toArray,List.length_append,List.length_take,List.length_drop,Array.length_toList]
     omega
    ·rw [htake,← hlen]
     exact List.take_left
   ·have holds:∀ j u,vs[j]?=some u→w.cell? ((⟨b,0,none⟩:Addr).add j)=some u:=fun j u hj=>by
     rw [eM,Nat.zero_add]
     refine cL.cell hB ?_
     rw [← htake,List.getElem?_take] at hj
     split at hj
     ·simpa using hj
     ·cases hj
    have hr:=run_append_grow (P:=P) w t ty e i z hu hi hzz ⟨b,0,none⟩ n cap vs hvl holds ⟨b2,o2,none⟩ m c2 news hl hnews (by omega) (by omega) (growslice_fits (by omega) hbig)
    exact fA (hop hr) hd (hk _ _ _ (hgE _) (grown cap (by omega)) (fun b hb=>.inr (by simp [dI] at hb;omega)) (fun h=>by cases h))
theorem Dl {kl kc:IntKind} {n sz bytes:Nat} {g:Bool} {zs:List Value} {i:Int} (ht:sle P t=some (e,(g,sz))) (hz:bH P e=some zs) (hby:gS P e=some bytes) (hzl:zs.length=sz)
  (hx:ev ρ x=.int kl i) (hy:ev ρ y=.int kc i) (hi:i=n) (hbig:bytes*n≤281474976710656) (h63:n≤maxLen) (hd:Nat.blt d N=true)
  (hk:∀ w' b,b=w.heap.size→Ext [] w w'→cL w' b e (madeCells zs.toArray (n*sz))→w'.heap.size=b+1→K (dX ρ d (.slice (some ⟨b,0,none⟩) n n)) w'):kC P N ρ ⟨some d,.makeSlice t x y,ty,pos,af,gd⟩ w K:=by
 obtain ⟨hu,hs⟩:=eD ht
 obtain ⟨inf,z,hinf,hzz,rfl,rfl,hzc⟩:=rB hs hz hby
 subst hi
 have h63':n≤9223372036854775807:=by simp only [maxLen] at h63;omega
 have hr:=run_make (P:=P) w t e inf z hu hinf hzz kl kc n n (by omega) (by omega) (by rw [← Int.natCast_mul];omega) (by omega)
 simp only [Int.toNat_natCast] at hr
 have hzz2:z.cells=zs.toArray:=by rw [← hzc]
 rw [hzz2] at hr
 refine fA ?_ hd (hk _ _ rfl (gQ _ _) (heap_alloc_new w _) (by simp))
 constructor;unfold execOp
 simp [hx,hy,hr]
end
def lk {α:Type} (t:Nat):List (Nat × α)→Option α
 | []=>none
 | (i,v)::l=>cond (Nat.beq t i) (some v) (lk t l)
theorem jX {α:Type} {F:Nat→Option α} {t:Nat} {q:α}:∀ {l:List (Nat × α)},l.map (fun p=>F p.1)=l.map (fun p=>some p.2)→lk t l=some q→F t=some q
 | [],_,h=>by cases h
 | (i,v)::l,hm,h=>by
  simp only [List.map_cons,List.cons.injEq] at hm
  unfold lk at h
  cases hb:Nat.beq t i with
  | true =>
   rw [hb] at h
   have:=Nat.eq_of_beq_eq_true hb
   subst this
   cases h
   exact hm.1
  | false=>rw [hb] at h;exact jX hm.2 h
theorem C3 {P:Program} {t e:TypeId} {p:Bool × Nat} (h:sle P t=some (e,p)):isSlice P t=true:=by
 obtain ⟨hu,_⟩:=eD h
 simp [isSlice,hu]
theorem L4 {P:Program} {t:TypeId} {p:Bool × Nat} (h:aF P t=some p):(P.underlying t).isSome=true:=by
 unfold aF at h
 split at h<;>first|(rename_i hu _;rw [hu];rfl)|(rename_i hu _;simp [hu])|cases h
def aX (P:Program) (f:FuncId) (args:Array Value) (w:World) (R:Value→World→Prop):Prop :=
 ((∀ w',(callFunc f args).run P w'=.ok (.enter f args) w')∧Calls P f args w (fun e w'=>∃ v,e=.returned v∧R v w')) ∨
 ∃ v w',(callFunc f args).run P w=.ok (.value v) w'∧R v w'
def nth:List Value→Nat→Value
 | [],_=>undef
 | x::_,0=>x
 | _::l,n+1=>nth l n
def Oq (l:List Value):Fr:=fun t=>nth l t
theorem Hm:∀ (l:List Value) (t:Nat),nth l t=(l[t]?).getD undef
 | [],t=>by simp [nth]
 | x::l,0=>by simp [nth]
 | x::l,n+1=>by simp [nth,Hm l n]
section
variable {P:Program} {N:Nat} {f:FuncId} {R R':Value→World→Prop} {k:List Item} {ρ:Fr} {w:World} {K:Fr→World→Prop} {v:Value}
theorem aX.calls {args:Array Value} {w:World} (h:aX P f args w R) (hx:∃ w',(callFunc f args).run P w=.ok (.enter f args) w'):Calls P f args w (fun e w'=>∃ v,e=.returned v∧R v w'):=by
 rcases h with h|⟨v,w1,h,_⟩
 ·exact h.2
 ·obtain ⟨w2,h2⟩:=hx
  rw [h] at h2
  cases h2
theorem aX.mono {args:Array Value} (h:aX P f args w R) (hr:∀ v w',R v w'→R' v w'):aX P f args w R':=by
 rcases h with ⟨h1,h2⟩|⟨v,w',h1,h2⟩
 ·exact .inl ⟨h1,h2.mono fun e w' ⟨v,he,hv⟩=>⟨v,he,hr v w' hv⟩⟩
 ·exact .inr ⟨v,w',h1,hr v w' h2⟩
theorem GG {args:List Value} (h:args.length≤N):sW N { tmps:=args.toArray++Array.replicate (N-args.length) undef,defers:=[] } (Oq args):=by
 refine ⟨by simp;omega,rfl,fun t=>?_⟩
 show _=nth args t
 rw [Hm]
 by_cases ht:t<args.length
 ·simp [Array.getElem?_append,ht]
 ·have:args[t]?=none:=List.getElem?_eq_none (by omega)
  rw [this]
  simp only [Array.getD_eq_getD_getElem?,Array.getElem?_append,List.size_toArray,ht,if_false,Option.getD_none]
  rw [Array.getElem?_replicate]
  split<;>rfl
theorem aL {fn:Func} {c:Code} {args:List Value} (hf:P.funcs[f]?=some fn) (hn:(fn.name == "runtime.NumGoroutine")=false) (hb:fn.body=some c) (hN:fn.ntmps=N) (hl:Nat.ble args.length N=true)
  (h:WS P N f R [.code c] (Oq args) w):aX P f args.toArray w R:=by
 refine .inl ⟨fun w'=>by unfold callFunc;simp only [Sem.run_bind,run_program,Result.andThen_ok,hf,hn,hb];rfl,fun cs=>?_⟩
 have hl':args.length≤N:=Nat.le_of_ble_eq_true hl
 obtain ⟨v,w',fr,hR,dW,hfn,hlv⟩:=h.out _ (GG hl') cs
 refine ⟨.returned v,w',fr,⟨v,rfl,hR⟩,?_,hfn,hlv⟩
 have henter:Frame.enter P f args.toArray .normal=(base f).at { tmps:=args.toArray++Array.replicate (N-args.length) undef,defers:=[] } [.code c]:=by
  simp [Frame.enter,Frame.at,hf,hb,hN,base]
 rw [henter]
 exact dW
def Nh (ρ:Fr):List Operand→List Value
 | []=>[]
 | x::l=>ev ρ x::Nh ρ l
theorem tZ (ρ:Fr):∀ l,Nh ρ l=l.map (ev ρ)
 | []=>rfl
 | x::l=>by simp [Nh,tZ ρ l]
section
variable {d:Nat} {ty:TypeId} {pos:String} {af:Array Edge} {gd:Option (Nat × Bool)} {ats:Array TypeId}
theorem FA {o:Oper} {g:FuncId} {args:Array Value} (ho:∀ a,sW N a ρ→execOp a.eval o=callFunc g args) (hd:gI N o.dst=true) (hF:aX P g args w R) (hk:∀ v w',R v w'→K (fK ρ o.dst v) w'):kC P N ρ o w K:=by
 refine ⟨fun a ha Q=>?_⟩
 unfold Oper.wp
 rw [ho a ha]
 rcases hF with ⟨h1,h2⟩|⟨v,w',h1,h2⟩
 ·rw [h1 w]
  refine h2.mono ?_
  rintro e w' ⟨v,rfl,hv⟩
  exact ⟨_,ha.put hd v,hk v w' hv⟩
 ·rw [h1]
  exact ⟨_,ha.put hd v,hk v w' h2⟩
theorem aC {g:FuncId} {xs:List Operand} {vs:List Value} (hF:aX P g vs.toArray w R) (hargs:Nh ρ xs=vs) (hd:Nat.blt d N=true) (hk:∀ v w',R v w'→K (dX ρ d v) w') :
  kC P N ρ ⟨some d,.call ⟨.value (.func g),xs.toArray,ats⟩,ty,pos,af,gd⟩ w K :=
 FA (fun a ha=>by
  rw [ha.eval]
  subst hargs
  simp [execOp,resolve,invoke,Deferred.ofValue,ev,tZ]) hd hF hk
theorem jB {g:FuncId} {x:Operand} {xs:List Operand} {vs caps:List Value} (hx:ev ρ x=.func (.func g) #[] caps.toArray) (hF:aX P g (vs++caps).toArray w R) (hargs:Nh ρ xs=vs) (hd:Nat.blt d N=true) (hk:∀ v w',R v w'→K (dX ρ d v) w') :
  kC P N ρ ⟨some d,.call ⟨.value x,xs.toArray,ats⟩,ty,pos,af,gd⟩ w K :=
 FA (g:=g) (args:=(vs++caps).toArray) (fun a ha=>by
  rw [ha.eval]
  subst hargs
  simp [execOp,resolve,invoke,Deferred.ofValue,hx,tZ]) hd hF hk
end
def DG (n:Nat) (done:List Nat):Array Bool:=done.foldr (fun i a=>a.setIfInBounds i true) (Array.replicate n false)
structure WA (P:Program) (N:Nat) (C:Fr→World→Prop) (ops:Array Oper) (S:World→Prop) (n fuel:Nat) (done:List Nat) (ρ:Fr) (w:World):Prop where
 out:∀ a,sW N a ρ→wpAnyH P .any ops (QN N C) S fuel (DG n done) a w
variable {C:Fr→World→Prop} {ops:Array Oper} {S:World→Prop} {n fuel:Nat} {done:List Nat}
theorem lJ {id:Nat} {l:List Oper} (hm:P.follows .mixedOrders=true) (S:World→Prop) (n:Nat) (hn:l.length=n) (h:WA P N (WS P N f R k) l.toArray S n n [] ρ w.drew):WS P N f R (.code (.region id l.toArray true)::k) ρ w :=
 vN fun a ha=>wp_region_held (S:=S) hm (by
  have:=h.out a ha
  subst hn
  exact this)
theorem cD {id:Nat} {l:List Oper} (hm:P.follows .mixedOrders=true) (n:Nat) (hn:l.length=n) (h:∀ w1,Ext [] w w1→WA P N (WS P N f R k) l.toArray (fun w'=>Ext [] w w') n n [] ρ w1):WS P N f R (.code (.region id l.toArray true)::k) ρ w :=
 lJ hm (fun w'=>Ext [] w w') n hn (h _ Ext.dV)
def nB (ops:Array Oper) (n:Nat) (done:List Nat) (i:Nat):Bool:=Region.noSelect ops && Region.free .any ops (DG n done) i && (Region.ready .any ops (DG n done)).contains i
theorem Ea (i:Nat) {o:Oper} (hi:ops[i]?=some o) (hc:nB ops n done i=true) (hS:S w) (hg:o.guard=none) (hd:gI N o.dst=true) (hrun:∀ w',S w'→cU P ρ o w' v w')
  (hk:WA P N C ops S n fuel (i::done) (fK ρ o.dst v) w):WA P N C ops S n (fuel+1) done ρ w:=by
 refine ⟨fun a ha=>?_⟩
 simp only [nB,Bool.and_eq_true] at hc
 refine wpAnyH_take hi hc.1.1 hc.1.2 hc.2 (fun c a w h=>by cases h.1) (.inl ⟨by simp [Region.wanted,hg],fun w' hw'=>?_⟩) hS (hk.out _ (ha.put hd v))
 rw [ha.eval]
 exact (hrun w' hw').out
theorem bM (i:Nat) {o:Oper} {j d:Nat} {want:Bool} (hi:ops[i]?=some o) (hc:nB ops n done i=true) (hS:S w) (hg:o.guard=some (j,want)) (hj:oT ops j=some d) (hjd:Nat.blt d N=true) (hv:ev ρ (.tmp d)=.bool want) (hd:gI N o.dst=true)
  (hrun:∀ w',S w'→cU P ρ o w' v w') (hk:WA P N C ops S n fuel (i::done) (fK ρ o.dst v) w):WA P N C ops S n (fuel+1) done ρ w:=by
 refine ⟨fun a ha=>?_⟩
 simp only [nB,Bool.and_eq_true] at hc
 refine wpAnyH_take hi hc.1.1 hc.1.2 hc.2 (fun c a w h=>by cases h.1) (.inl ⟨by simp [Region.wanted,hg,eE ha hj hjd hv],fun w' hw'=>?_⟩) hS (hk.out _ (ha.put hd v))
 rw [ha.eval]
 exact (hrun w' hw').out
theorem jK (i:Nat) {o:Oper} {j d:Nat} {want b:Bool} (hi:ops[i]?=some o) (hc:nB ops n done i=true) (hS:S w) (hg:o.guard=some (j,want)) (hj:oT ops j=some d) (hjd:Nat.blt d N=true) (hv:ev ρ (.tmp d)=.bool b) (hb:b=!want) (hd:gI N o.dst=true)
  (hk:WA P N C ops S n fuel (i::done) (fK ρ o.dst undef) w):WA P N C ops S n (fuel+1) done ρ w:=by
 refine ⟨fun a ha=>?_⟩
 simp only [nB,Bool.and_eq_true] at hc
 exact wpAnyH_take hi hc.1.1 hc.1.2 hc.2 (fun c a w h=>by cases h.1) (.inr ⟨by simp [Region.wanted,hg,eE ha hj hjd hv,hb],rfl⟩) hS (hk.out _ (ha.put hd undef))
theorem bC (i:Nat) {o:Oper} (hr:Region.ready .any ops (DG n done)=[i]) (hi:ops[i]?=some o) (hg:o.guard=none)
  (h:kC P N ρ o w (fun ρ' w'=>S w'∧WA P N C ops S n fuel (i::done) ρ' w')):WA P N C ops S n (fuel+1) done ρ w:=by
 refine ⟨fun a ha=>?_⟩
 refine wpAnyH_all hr (by simp) (fun j hj=>?_)
 simp only [List.mem_singleton] at hj
 subst hj
 unfold wpOp
 rw [hi]
 simp only
 rw [if_pos (by simp [Region.wanted,hg])]
 exact .inl (Oper.wp_mono (fun a' w' ⟨ρ',hr',hs,hw⟩=>⟨hs,hw.out a' hr'⟩) (h.out a ha _))
theorem KW (i:Nat) {o:Oper} {j d:Nat} {want:Bool} (hr:Region.ready .any ops (DG n done)=[i]) (hi:ops[i]?=some o) (hg:o.guard=some (j,want)) (hj:oT ops j=some d) (hjd:Nat.blt d N=true) (hv:ev ρ (.tmp d)=.bool want)
  (h:kC P N ρ o w (fun ρ' w'=>S w'∧WA P N C ops S n fuel (i::done) ρ' w')):WA P N C ops S n (fuel+1) done ρ w:=by
 refine ⟨fun a ha=>?_⟩
 refine wpAnyH_all hr (by simp) (fun m hm=>?_)
 simp only [List.mem_singleton] at hm
 subst hm
 unfold wpOp
 rw [hi]
 simp only
 rw [if_pos (by simp [Region.wanted,hg,eE ha hj hjd hv])]
 exact .inl (Oper.wp_mono (fun a' w' ⟨ρ',hr',hs,hw⟩=>⟨hs,hw.out a' hr'⟩) (h.out a ha _))
theorem mX (i j:Nat) {oi oj:Oper} (hr:Region.ready .any ops (DG n done)=[i,j]) (hi:ops[i]?=some oi) (hgi:oi.guard=none) (hj:ops[j]?=some oj) (hgj:oj.guard=none)
  (h1:kC P N ρ oi w (fun ρ' w'=>S w'∧WA P N C ops S n fuel (i::done) ρ' w')) (h2:kC P N ρ oj w (fun ρ' w'=>S w'∧WA P N C ops S n fuel (j::done) ρ' w')):WA P N C ops S n (fuel+1) done ρ w:=by
 refine ⟨fun a ha=>?_⟩
 refine wpAnyH_all hr (by simp) (fun m hm=>?_)
 simp only [List.mem_cons,List.not_mem_nil,or_false] at hm
 unfold wpOp
 rcases hm with rfl|rfl
 ·rw [hi]
  simp only
  rw [if_pos (by simp [Region.wanted,hgi])]
  exact .inl (Oper.wp_mono (fun a' w' ⟨ρ',hr',hs,hw⟩=>⟨hs,hw.out a' hr'⟩) (h1.out a ha _))
 ·rw [hj]
  simp only
  rw [if_pos (by simp [Region.wanted,hgj])]
  exact .inl (Oper.wp_mono (fun a' w' ⟨ρ',hr',hs,hw⟩=>⟨hs,hw.out a' hr'⟩) (h2.out a ha _))
theorem aW (hr:Region.ready .any ops (DG n done)=[]) (h:C ρ w):WA P N C ops S n fuel done ρ w:=⟨fun _ ha=>wpAnyH_done hr ⟨rfl,ρ,ha,h⟩ fuel⟩
end
abbrev B (n:Nat):Value:=.int .u8 (n:Int)
def strOf (l:List Nat):ByteArray:=⟨(l.map UInt8.ofNat).toArray⟩
def gR (l:List Nat):Prop:=∀ x∈l,x<256
theorem QR {l:List Nat} (h:l.all (fun x=>Nat.blt x 256)=true):gR l:=fun x hx=>by
 have:=List.all_eq_true.1 h x hx
 simpa [Nat.blt_eq] using this
theorem gR.append {l m:List Nat} (h:gR l) (h':gR m):gR (l++m):=fun x hx=>(List.mem_append.1 hx).elim (h x) (h' x)
section
variable {P:Program} {N:Nat} {K:Fr→World→Prop} {ρ:Fr} {w:World} {v:Value} {dst:Option Nat} {d:Nat} {ty:TypeId} {pos:String} {af:Array Edge} {gd:Option (Nat × Bool)} {x y z:Operand} {t u e:TypeId} {q:IntKind}
theorem GO {a:Option Addr} {vs:List Value} {l h cap n sz:Nat} (hS:cI w a vs) (hlh:l≤h) (hh:h≤n) (hn:n≤cap) :
  cI w (if cap=l then a else a.map (·.add (l*sz))) ((vs.drop (l*sz)).take ((h-l)*sz)):=by
 by_cases hne:(vs.drop (l*sz)).take ((h-l)*sz)=[]
 ·rw [hne];exact .nil
 ·have hc:cap≠l:=fun e=>hne (by have:h-l=0:=(by omega);simp [this])
  have hvs:vs≠[]:=fun e=>hne (by simp [e])
  obtain ⟨b,o,rfl⟩:=hS.head hvs
  rw [if_neg hc]
  refine ⟨fun j v hv=>?_,fun _=>⟨b,o+l*sz,by simp [eM]⟩⟩
  rw [List.getElem?_take] at hv
  split at hv
  ·rw [List.getElem?_drop] at hv
   have:=hS.cell _ v hv
   simpa [At,eM,Nat.add_assoc] using this
  ·cases hv
theorem Mx {a:Option Addr} {n cap sz:Nat} {g:Bool} {kl:IntKind} {l:Int} (hx:ev ρ x=.slice a n cap) (hy:ev ρ y=.int kl l) (ht:sle P t=some (e,(g,sz))) (h0:0≤l∧l≤n) :
  cU P ρ ⟨dst,.slice t x (some y) none none,ty,pos,af,gd⟩ w (.slice (if cap=l.toNat then a else a.map (·.add (l.toNat*sz))) (n-l.toNat) (cap-l.toNat)) w:=by
 obtain ⟨hu,hs⟩:=eD ht
 constructor;unfold execOp
 simp [hx,hy,Instr.sliceAt,Instr.slice,run_underlying hu,Instr.sliceBounds,Instr.sliceBound,asIntOf,h0,dA hs]
theorem bD {i:Int} {b o len:Nat} {g:Bool} (hx:ev ρ x=.pointer (some ⟨b,o,none⟩)) (hy:ev ρ y=.int q i) (ht:arr P t=some (len,(g,1))) (hi:0≤i∧i<len) :
  cU P ρ ⟨dst,.indexAddr t x y,ty,pos,af,gd⟩ w (.pointer (some (At (some ⟨b,o,none⟩) i.toNat))) w:=by
 have h:=qZ (P:=P) (w:=w) (dst:=dst) (ty:=ty) (pos:=pos) (af:=af) (gd:=gd) hx hy ht hi
 rw [Nat.mul_one] at h
 exact h
theorem jS {i:Int} {b o len sz:Nat} {g:Bool} (hx:ev ρ x=.pointer (some ⟨b,o,none⟩)) (hy:ev ρ y=.int q i) (ht:arr P t=some (len,(g,sz))) (hi:0≤i∧i<len) :
  cU P ρ ⟨dst,.indexAddr t x y,ty,pos,af,gd⟩ w (.pointer (some (At (some ⟨b,o,none⟩) (i.toNat*sz)))) w:=qZ hx hy ht hi
theorem N2 {i j off s:Nat} {a:Option Addr} {g:Bool} (hx:ev ρ x=.pointer (some (At a j))) (hf:bA P t i=some (off,(g,s+1))) :
  cU P ρ ⟨dst,.fieldAddr t x i,ty,pos,af,gd⟩ w (.pointer (some (At a (j+off)))) w:=by
 have h:=aN (P:=P) (w:=w) (dst:=dst) (ty:=ty) (pos:=pos) (af:=af) (gd:=gd) (ρ:=ρ) (x:=x) (b:=(At a j).block) (o:=(At a j).off) hx hf
 have e:(⟨(At a j).block,(At a j).off+off,none⟩:Addr)=At a (j+off):=by simp [At,Nat.add_assoc]
 rw [e] at h
 exact h
theorem vX {a:Option Addr} {n cap sz o:Nat} {vs:List Value} (hx:ev ρ x=.pointer (some (At a o))) (hy:ev ρ y=v) (hO:Own w e sz a n cap vs) (ho:o<n*sz) (h1:v.oneCell'=true) (ht:aF P t=some (false,1))
  (hk:∀ w',Ext (dI a) w w'→Own w' e sz a n cap (vs.set o v)→w'.heap.size=w.heap.size→K ρ w'):kC P N ρ ⟨none,.store t x y,ty,pos,af,gd⟩ w K:=by
 obtain ⟨hl,hn,hc,⟨rfl,rfl⟩|⟨b,cur,rfl,hB,hs,htk⟩⟩:=hO
 ·have:n=0:=by omega
  subst this;simp at ho
 ·have hle:n*sz≤cap*sz:=Nat.mul_le_mul_right _ hn
  have hx':ev ρ x=.pointer (some ⟨b,o,none⟩):=by rw [hx];simp [At]
  refine gC hx' hy hB (by omega) h1 ht (fun w' hE hB' hsz=>hk w' hE ⟨by simpa using hl,hn,hc,.inr ⟨b,_,rfl,hB',by simpa using hs,?_⟩⟩ hsz)
  rw [Array.toList_setIfInBounds,List.take_set,htk]
theorem Gr {b o:Nat} {cs:List Value} (hx:ev ρ x=.pointer (some (At (some ⟨b,0,none⟩) o))) (hy:ev ρ y=v) (hB:cL w b e cs.toArray) (ho:o<cs.length) (h1:v.oneCell'=true) (ht:aF P t=some (false,1))
  (hk:∀ w',Ext [b] w w'→cL w' b e (cs.set o v).toArray→w'.heap.size=w.heap.size→K ρ w'):kC P N ρ ⟨none,.store t x y,ty,pos,af,gd⟩ w K:=by
 have hx':ev ρ x=.pointer (some ⟨b,o,none⟩):=by rw [hx];simp [At]
 refine gC hx' hy hB (by simpa using ho) h1 ht (fun w' hE hB' hsz=>hk w' hE (by simpa using hB') hsz)
theorem PJ {a:Option Addr} {cap:Nat} {l:List Nat} (hx:ev ρ x=.slice a l.length cap) (hS:cI w a (l.map B)) (ht:sle P t=some (e,(false,1))) (he:kindOf P e=some .u8) (hu:isStr P u=true) :
  cU P ρ ⟨dst,.convert t u x,ty,pos,af,gd⟩ w (.string (strOf l)) w:=by
 obtain ⟨hsl,_⟩:=eD ht
 have hsu:P.underlying u=some .string:=by
  unfold isStr at hu;split at hu
  ·assumption
  ·cases hu
 have hr:(convert t u (.slice a l.length cap)).run P w=.ok (.string (strOf l)) w:=by
  by_cases hl:l=[]
  ·subst hl
   cases a with
   | none=>rw [run_convert_bytes_nil w t e hsl (fD he) _ _ u hsu];rfl
   | some ad =>
    rw [run_convert_bytes_string w t u e _ _ _ hsl (fD he) hsu]
    simp [Conv.bytesToString,loadCells,loadCellsFrom]
    rfl
  ·obtain ⟨b,o,rfl⟩:=hS.head (by simpa using hl)
   rw [run_convert_bytes_arg w t e hsl (fD he) b o l.length cap (l.map Nat.cast) (by simp) (fun i hi=>by
    have:=hS.cell i (B l[i]) (by simp [hi])
    simpa [At,B,hi] using this) u hsu]
   simp [strOfNums,strOf,Function.comp_def]
 constructor;unfold execOp
 simp [hx,hr]
theorem Aj (l:List Nat):(strOf l).toList=l.map UInt8.ofNat:=by
 rw [ByteArray.toList_eq];simp [strOf]
theorem Mn {b o n cap m c2:Nat} {a2:Option Addr} {cs:Array Value} {vs:List Value} {ta tb:TypeId} {g:Bool} {e':TypeId} (ht:sle P ta=some (e',(g,1))) (hx:ev ρ x=.slice (some ⟨b,o,none⟩) n cap) (hB:cL w b e cs) (hy:ev ρ y=.slice a2 m c2) (hS:cI w a2 vs) (hl:vs.length=m)
  (hm:m≤n) (hfit:o+m≤cs.size) (h1:∀ u∈vs,u.oneCell'=true) (hd:gI N dst=true)
  (hk:∀ w',Ext [b] w w'→cL w' b e (cs.toList.take o++vs++cs.toList.drop (o+m)).toArray→w'.heap.size=w.heap.size→K (fK ρ dst (.int .i64 m)) w'):kC P N ρ ⟨dst,.call ⟨.builtin .copy,#[x,y],#[ta,tb]⟩,ty,pos,af,gd⟩ w K:=by
 obtain ⟨hu,hs⟩:=eD ht
 have hf:(Builtin.firstCells 1 m (.slice a2 m c2)).run P w=.ok vs.toArray w:=by
  by_cases hv:vs=[]
  ·subst hv
   have:m=0:=by simpa using hl.symm
   subst this
   cases a2<;>simp [Builtin.firstCells,loadCells,loadCellsFrom]
  ·obtain ⟨b2,o2,rfl⟩:=hS.head hv
   exact run_firstCells_some (P:=P) w 1 m ⟨b2,o2,none⟩ m c2 vs (by omega) (fun j v hj=>by rw [A8 rfl];exact hS.cell j v hj)
 have dW:=run_storeCells_at P b o e vs 0 cs w hB (by simpa [hl] using hfit) h1
 simp only [Nat.add_zero,hl] at dW
 have hmin:Nat.min m n=m:=Nat.min_eq_left hm
 refine fA (w':=w.setRow b (cs.toList.take o++vs++cs.toList.drop (o+m)).toArray) (v:=.int .i64 m) ?_ hd (hk _ (jY _ _ _) (setRow_heap w b cs _ e _ hB) (by simp [World.setRow]))
 constructor;unfold execOp
 simp only [resolve,invoke,builtin,Sem.run_bind,Sem.run_pure,Result.andThen_ok,List.map_toArray,List.map_cons,List.map_nil,hx,hy]
 simp [Builtin.copy_,run_underlying hu,Builtin.lenOf,dA hs,hmin,hf,dW,goInt]
end
end Go.K
