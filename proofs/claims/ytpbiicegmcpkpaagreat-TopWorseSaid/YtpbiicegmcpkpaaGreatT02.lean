/- A part of the proof that TopWorse is true at every input; no condition. -/
import Derived.Test.YtpbiicegmcpkpaaGreatT01
namespace Go.K
open Go Go.RowKit

@[simp] theorem one_int (q:IntKind) (n:Int):(Value.int q n).oneCell'=true:=rfl
@[simp] theorem one_bool (b:Bool):(Value.bool b).oneCell'=true:=rfl
@[simp] theorem one_slice (a:Option Addr) (n c:Nat):(Value.slice a n c).oneCell'=true:=rfl
@[simp] theorem one_ptr (a:Option Addr):(Value.pointer a).oneCell'=true:=rfl
@[simp] theorem one_str (s:ByteArray):(Value.string s).oneCell'=true:=rfl
@[simp] theorem one_float (k:FloatKind) (n:Nat):(Value.float k n).oneCell'=true:=rfl
@[simp] theorem one_complex (k:FloatKind) (n m:Nat):(Value.complex k n m).oneCell'=true:=rfl
@[simp] theorem one_map (r:Option Nat):(Value.map r).oneCell'=true:=rfl
structure Ext (S:List Nat) (w w':World):Prop where
 os:w'.os=w.os
 tape:w'.tape=w.tape
 output:w'.output=w.output
 size:w.heap.size≤w'.heap.size
 drawn:w.drawn≤w'.drawn
 block:∀ b,b<w.heap.size→b ∉ S→w'.heap[b]?=w.heap[b]?
section
variable {S T:List Nat} {w w' w'':World}
theorem Ext.refl:Ext S w w:=⟨rfl,rfl,rfl,Nat.le_refl _,Nat.le_refl _,fun _ _ _=>rfl⟩
theorem Ext.drew (h:Ext S w w'):Ext S w w'.drew:=⟨h.os,h.tape,h.output,h.size,Nat.le_succ_of_le h.drawn,h.block⟩
theorem Ext.drew0:Ext S w w.drew:=Ext.refl.drew
theorem Ext.trans (h:Ext S w w') (h':Ext T w' w'') (hT:∀ t∈T,t∈S∨w.heap.size≤t):Ext S w w'' :=
 ⟨h'.os.trans h.os,h'.tape.trans h.tape,h'.output.trans h.output,Nat.le_trans h.size h'.size,Nat.le_trans h.drawn h'.drawn,
  fun b hb hS=>(h'.block b (Nat.lt_of_lt_of_le hb h.size) (fun ht=>by rcases hT b ht with h1|h1;exact hS h1;omega)).trans (h.block b hb hS)⟩
theorem Ext.then0 (h:Ext S w w') (h':Ext [] w' w''):Ext S w w'':=h.trans h' (by simp)
theorem Ext.then1 {t:Nat} (h:Ext S w w') (h':Ext [t] w' w'') (ht:t∈S∨w.heap.size≤t):Ext S w w'':=h.trans h' (by simpa using ht)
theorem Ext.then1' (h:Ext S w w') (h':Ext S w' w''):Ext S w w'':=h.trans h' (fun _ ht=>.inl ht)
theorem Ext.weaken (h:Ext S w w') (hS:∀ s∈S,s∈T):Ext T w w':=⟨h.os,h.tape,h.output,h.size,h.drawn,fun b hb hT=>h.block b hb (fun h=>hT (hS b h))⟩
theorem Ext.below (h:Ext [] w w'):Below w.heap.size w w':=⟨h.os,h.tape,h.output,h.size,fun b hb=>h.block b hb (by simp)⟩
theorem Ext.cell {a:Addr} {v:Value} (h:Ext S w w') (hc:w.cell? a=some v) (hb:a.block ∉ S):w'.cell? a=some v :=
 (World.cell?_of_block (h.block a.block (World.block_lt_of_cell? w a hc) hb)).trans hc
end

def At (a:Option Addr) (i:Nat):Addr:=⟨(a.getD ⟨0,0,none⟩).block,(a.getD ⟨0,0,none⟩).off+i,none⟩
def blk (a:Option Addr):List Nat:=match a with|some a=>[a.block]|none=>[]
structure SlA (w:World) (a:Option Addr) (vs:List Value):Prop where
 cell:∀ j v,vs[j]?=some v→w.cell? (At a j)=some v
 head:vs≠[]→∃ b o,a=some ⟨b,o,none⟩
def Blk (w:World) (b:Nat) (e:TypeId) (cs:Array Value):Prop:=w.heap[b]?=some (.cells cs e (0,0))
def Own (w:World) (e:TypeId) (sz:Nat) (a:Option Addr) (n cap:Nat) (vs:List Value):Prop :=
 vs.length=n*sz∧n≤cap∧cap≤maxLen∧((a=none∧cap=0)∨∃ b cur,a=some ⟨b,0,none⟩∧Blk w b e cur∧cur.size=cap*sz∧cur.toList.take (n*sz)=vs)
section
variable {S:List Nat} {w w':World} {a:Option Addr} {vs:List Value} {b:Nat} {e:TypeId} {cs:Array Value} {sz n cap:Nat}
theorem SlA.nil:SlA w a []:=⟨fun j v h=>by simp at h,fun h=>absurd rfl h⟩
theorem SlA.ext (h:SlA w a vs) (hE:Ext S w w') (hb:∀ s∈S,s ∉ blk a):SlA w' a vs :=
 ⟨fun j v hv=>hE.cell (h.cell j v hv) (fun hs=>by
  obtain ⟨b,o,rfl⟩:=h.head (fun e=>by subst e;simp at hv)
  exact hb _ hs (by simp [blk,At])),h.head⟩
theorem SlA.ext0 (h:SlA w a vs) (hE:Ext [] w w'):SlA w' a vs:=h.ext hE (by simp)
theorem SlA.lt (h:SlA w a vs) (hn:vs≠[]):∀ s∈blk a,s<w.heap.size:=by
 obtain ⟨b,o,rfl⟩:=h.head hn
 intro s hs
 obtain ⟨v,hv⟩:∃ v,vs[0]?=some v:=by cases vs with|nil=>exact absurd rfl hn|cons v _=>exact ⟨v,rfl⟩
 have:=World.block_lt_of_cell? w _ (h.cell 0 v hv)
 simp [blk] at hs
 subst hs
 exact this
theorem SlA.take (h:SlA w a vs) (k:Nat):SlA w a (vs.take k) :=
 ⟨fun j v hv=>h.cell j v (by rw [List.getElem?_take] at hv;split at hv;exact hv;cases hv),fun hn=>h.head (fun e=>hn (by simp [e]))⟩
theorem Blk.lt (h:Blk w b e cs):b<w.heap.size:=(Array.getElem?_eq_some_iff.1 h).1
theorem Blk.ext (h:Blk w b e cs) (hE:Ext S w w') (hb:b ∉ S):Blk w' b e cs:=(hE.block b h.lt hb).trans h
theorem Blk.ext0 (h:Blk w b e cs) (hE:Ext [] w w'):Blk w' b e cs:=h.ext hE (by simp)
theorem Blk.cell (h:Blk w b e cs) {o:Nat} {v:Value} (hv:cs[o]?=some v):w.cell? ⟨b,o,none⟩=some v:=by
 rw [cell_of_row w b o cs e (0,0) h];exact hv
theorem Blk.free (h:Blk w b e cs) {o:Nat}:w.frozen? ⟨b,o,none⟩=false:=by
 have h':w.heap[b]?=some (.cells cs e (0,0)):=h
 simp [World.frozen?,h']
theorem Blk.sl (h:Blk w b e cs) {o:Nat} (hv:∀ j v,vs[j]?=some v→cs[o+j]?=some v):SlA w (some ⟨b,o,none⟩) vs :=
 ⟨fun j v hj=>h.cell (hv j v hj),fun _=>⟨b,o,rfl⟩⟩
theorem Blk.sl0 (h:Blk w b e cs):SlA w (some ⟨b,0,none⟩) cs.toList:=h.sl (fun j v hj=>by simpa using hj)
theorem Blk.own (h:Blk w b e cs) (hs:cs.size=n*sz) (hn:n≤9223372036854775807):Own w e sz (some ⟨b,0,none⟩) n n cs.toList :=
 ⟨by simpa using hs,Nat.le_refl _,by simpa [maxLen] using hn,.inr ⟨b,cs,rfl,h,hs,by rw [← hs,← Array.length_toList];exact List.take_length⟩⟩
theorem Own.nil:Own w e sz none 0 0 []:=⟨by simp,Nat.le_refl _,Nat.zero_le _,.inl ⟨rfl,rfl⟩⟩
theorem Own.sl (h:Own w e sz a n cap vs):SlA w a vs:=by
 obtain ⟨hl,hn,_,⟨rfl,rfl⟩|⟨b,cur,rfl,hB,hs,ht⟩⟩:=h
 ·have:vs=[]:=by apply List.eq_nil_of_length_eq_zero;rw [hl];have:n=0:=(by omega);subst this;simp
  subst this;exact .nil
 ·refine hB.sl (fun j v hv=>?_)
  rw [← ht,List.getElem?_take] at hv
  split at hv
  ·simpa using hv
  ·cases hv
theorem Own.ext (h:Own w e sz a n cap vs) (hE:Ext S w w') (hb:∀ s∈S,s ∉ blk a):Own w' e sz a n cap vs:=by
 obtain ⟨hl,hn,hc,hh|⟨b,cur,rfl,hB,hs,ht⟩⟩:=h
 ·exact ⟨hl,hn,hc,.inl hh⟩
 ·exact ⟨hl,hn,hc,.inr ⟨b,cur,rfl,hB.ext hE (fun h=>hb b h (by simp [blk])),hs,ht⟩⟩
theorem Own.ext0 (h:Own w e sz a n cap vs) (hE:Ext [] w w'):Own w' e sz a n cap vs:=h.ext hE (by simp)
theorem Own.lt (h:Own w e sz a n cap vs):∀ s∈blk a,s<w.heap.size:=by
 obtain ⟨_,_,_,⟨rfl,_⟩|⟨b,cur,rfl,hB,_⟩⟩:=h
 ·simp [blk]
 ·simpa [blk] using hB.lt
def Fresh (lo:Nat) (a:Option Addr):Prop:=∀ b∈blk a,lo≤b
theorem Fresh.some {lo b o:Nat} (h:lo≤b):Fresh lo (some ⟨b,o,none⟩):=fun x hx=>by simp [blk] at hx;omega
theorem Fresh.at {W w:World} {b o:Nat} (hW:Ext [] W w) (h:b=w.heap.size):Fresh W.heap.size (Option.some ⟨b,o,none⟩):=Fresh.some (by have:=hW.size;omega)
theorem Fresh.none {lo:Nat}:Fresh lo none:=fun x hx=>by simp [blk] at hx
theorem Fresh.step {lo sz:Nat} {a a':Option Addr} (h:Fresh lo a) (hf:∀ b∈blk a',b∈blk a∨sz≤b) (hs:lo≤sz):Fresh lo a':=fun b hb=>by
 rcases hf b hb with h1|h1
 ·exact h b h1
 ·omega
theorem Ext.thenF {W w w':World} {a:Option Addr} (h:Ext [] W w) (h':Ext (blk a) w w') (hF:Fresh W.heap.size a):Ext [] W w':=h.trans h' (fun t ht=>.inr (hF t ht))
theorem Ext.thenB {W w w':World} {b:Nat} (h:Ext [] W w) (h':Ext [b] w w') (hb:W.heap.size≤b):Ext [] W w':=h.then1 h' (.inr hb)
theorem ext_alloc (w:World) (o:Obj):Ext [] w (w.alloc o) :=
 ⟨rfl,rfl,rfl,by simp,Nat.le_refl _,fun b hb _=>Below.heap_alloc w o b hb⟩
theorem ext_setRow (w:World) (g:Nat) (cs:Array Value):Ext [g] w (w.setRow g cs) :=
 ⟨rfl,rfl,rfl,by simp [World.setRow],Nat.le_refl _,fun b _ hb=>setRow_other w g b cs (fun e=>hb (by simp [e]))⟩
theorem addr_add (b o i:Nat):(⟨b,o,none⟩:Addr).add i=⟨b,o+i,none⟩:=by unfold Addr.add;split<;>simp_all
end

section
variable {P:Program} {N:Nat} {K:Fr→World→Prop} {ρ:Fr} {w:World}
variable {v:Value} {dst:Option Nat} {d:Nat} {ty:TypeId} {pos:String} {af:Array Edge} {gd:Option (Nat × Bool)} {x y z:Operand} {t u e:TypeId} {q:IntKind}

def sle (P:Program) (t:TypeId):Option (TypeId × (Bool × Nat)) :=
 match P.underlying t with
 | some (.slice e)=>(shp P e).map fun p=>(e,p)
 | _=>none
theorem sle_spec {p:Bool × Nat} (h:sle P t=some (e,p)):P.underlying t=some (.slice e)∧shp P e=some p:=by
 unfold sle at h
 split at h
 ·rename_i e' hu
  cases hs:shp P e' with
  | none=>simp [hs] at h
  | some p'=>simp [hs] at h;obtain ⟨rfl,rfl⟩:=h;exact ⟨hu,hs⟩
 ·cases h
theorem arr_spec {n:Nat} {p:Bool × Nat} (h:arr P t=some (n,p)):∃ e,P.underlying t=some (.array n e)∧shp P e=some p:=by
 unfold arr at h
 split at h
 ·rename_i n' e' hu
  cases hs:shp P e' with
  | none=>simp [hs] at h
  | some p'=>simp [hs] at h;obtain ⟨rfl,rfl⟩:=h;exact ⟨e',hu,hs⟩
 ·cases h
theorem k_ix {i:Int} {sz len cap:Nat} {g:Bool} {a:Option Addr} {vs:List Value} (hx:ev ρ x=.slice a len cap) (hy:ev ρ y=.int q i) (hS:SlA w a vs) (hl:vs.length=len*sz) (hsz:0<sz) (ht:sle P t=some (e,(g,sz)))
  (hi:0≤i∧i<len):Run P ρ ⟨dst,.indexAddr t x y,ty,pos,af,gd⟩ w (.pointer (some (At a (i.toNat*sz)))) w:=by
 obtain ⟨hu,hs⟩:=sle_spec ht
 obtain ⟨b,o,rfl⟩:=hS.head (fun e=>by
  subst e
  have:0<len*sz:=Nat.mul_pos (by omega) hsz
  simp at hl;omega)
 constructor;unfold execOp
 simp [hx,hy,Instr.indexAt,run_underlying hu,asIntOf,hi,shp_size hs,addr_add,At]
theorem k_ix1 {i:Int} {len cap:Nat} {g:Bool} {a:Option Addr} {vs:List Value} (hx:ev ρ x=.slice a len cap) (hy:ev ρ y=.int q i) (hS:SlA w a vs) (hl:vs.length=len) (ht:sle P t=some (e,(g,1)))
  (hi:0≤i∧i<len):Run P ρ ⟨dst,.indexAddr t x y,ty,pos,af,gd⟩ w (.pointer (some (At a i.toNat))) w:=by
 have:=k_ix (dst:=dst) (ty:=ty) (pos:=pos) (af:=af) (gd:=gd) (sz:=1) hx hy hS (by omega) (by omega) ht hi
 rw [Nat.mul_one] at this;exact this
theorem k_ixa {i:Int} {b o len sz:Nat} {g:Bool} (hx:ev ρ x=.pointer (some ⟨b,o,none⟩)) (hy:ev ρ y=.int q i) (ht:arr P t=some (len,(g,sz))) (hi:0≤i∧i<len) :
  Run P ρ ⟨dst,.indexAddr t x y,ty,pos,af,gd⟩ w (.pointer (some ⟨b,o+i.toNat*sz,none⟩)) w:=by
 obtain ⟨e,hu,hs⟩:=arr_spec ht
 constructor;unfold execOp
 simp [hx,hy,Instr.indexAt,run_underlying hu,asIntOf,hi,shp_size hs,addr_add,Instr.sureAddr]
theorem k_fa {i b o off s:Nat} {g:Bool} (hx:ev ρ x=.pointer (some ⟨b,o,none⟩)) (hf:fld P t i=some (off,(g,s+1))) :
  Run P ρ ⟨dst,.fieldAddr t x i,ty,pos,af,gd⟩ w (.pointer (some ⟨b,o+off,none⟩)) w:=by
 unfold fld at hf
 split at hf
 ·rename_i fs hu
  split at hf
  ·rename_i fd hfd
   cases hs:shp P fd.type with
   | none=>simp [hs] at hf
   | some p =>
    simp [hs] at hf
    obtain ⟨rfl,rfl⟩:=hf
    constructor;unfold execOp
    simp [hx,Instr.fieldAt,run_underlying hu,hfd,Instr.sureAddr,fieldPlace,shp_size hs,addr_add]
  ·cases hf
 ·cases hf

theorem k_load {a:Addr} {s:Nat} (hx:ev ρ x=.pointer (some a)) (hc:w.cell? a=some v) (ht:shp P t=some (false,s)):Run P ρ ⟨dst,.load t x,ty,pos,af,gd⟩ w v w:=by
 constructor;unfold execOp
 simp [hx,Instr.loadAt,Instr.sureAddr,loadVar,shp_isAgg ht,hc]
theorem k_loads {a:Option Addr} {vs:List Value} {j s:Nat} (hx:ev ρ x=.pointer (some (At a j))) (hS:SlA w a vs) (hv:vs[j]?=some v) (ht:shp P t=some (false,s)):Run P ρ ⟨dst,.load t x,ty,pos,af,gd⟩ w v w :=
 k_load hx (hS.cell j v hv) ht
theorem k_loadb {b o s:Nat} {cs:Array Value} (hx:ev ρ x=.pointer (some ⟨b,o,none⟩)) (hB:Blk w b e cs) (hv:cs[o]?=some v) (ht:shp P t=some (false,s)):Run P ρ ⟨dst,.load t x,ty,pos,af,gd⟩ w v w :=
 k_load hx (hB.cell hv) ht
theorem k_loadN {a:Option Addr} {vs:List Value} {j s:Nat} (hx:ev ρ x=.pointer (some (At a j))) (hS:SlA w a vs) (hl:j+s≤vs.length) (ht:shp P t=some (true,s)) :
  Run P ρ ⟨dst,.load t x,ty,pos,af,gd⟩ w (.agg ((vs.drop j).take s).toArray) w:=by
 have h1:(loadCells (At a j) ((vs.drop j).take s).length).run P w=.ok ((vs.drop j).take s).toArray w :=
  run_loadCells_list (P:=P) w (At a j) _ (fun i v hv=>by
   rw [List.getElem?_take] at hv
   split at hv
   ·rw [List.getElem?_drop] at hv
    have:=hS.cell (j+i) v hv
    rw [show (At a j).add i=At a (j+i) from by unfold At;rw [addr_add,Nat.add_assoc]]
    exact this
   ·cases hv)
 have h2:((vs.drop j).take s).length=s:=by simp;omega
 rw [h2] at h1
 constructor;unfold execOp
 simp [hx,Instr.loadAt,Instr.sureAddr,loadVar,shp_isAgg ht,shp_size ht,h1]
theorem k_loadA {b s:Nat} {cs:Array Value} (hx:ev ρ x=.pointer (some ⟨b,0,none⟩)) (hB:Blk w b e cs) (hl:cs.size=s) (ht:shp P t=some (true,s)) :
  Run P ρ ⟨dst,.load t x,ty,pos,af,gd⟩ w (.agg cs) w:=by
 have:=k_loadN (dst:=dst) (ty:=ty) (pos:=pos) (af:=af) (gd:=gd) (ρ:=ρ) (x:=x) (j:=0) (a:=some ⟨b,0,none⟩) hx hB.sl0 (by simp [hl]) ht
 have e:((cs.toList.drop 0).take s).toArray=cs:=by simp [← hl,List.take_of_length_le]
 rw [e] at this
 exact this

theorem S_store {b o:Nat} {cs:Array Value} (hx:ev ρ x=.pointer (some ⟨b,o,none⟩)) (hy:ev ρ y=v) (hB:Blk w b e cs) (ho:o<cs.size) (h1:v.oneCell'=true) (ht:shp P t=some (false,1))
  (hk:∀ w',Ext [b] w w'→Blk w' b e (cs.setIfInBounds o v)→w'.heap.size=w.heap.size→K ρ w'):Stp P N ρ ⟨none,.store t x y,ty,pos,af,gd⟩ w K:=by
 have hc:w.cell? ⟨b,o,none⟩=some cs[o]:=hB.cell (by simp [ho])
 have hcs:v.cells=#[v]:=by cases v<;>first|rfl|(simp [Value.oneCell'] at h1)
 refine S_skip (w':=w.setRow b (cs.setIfInBounds o v)) ?_ rfl (hk _ (ext_setRow _ _ _) (setRow_heap w b cs _ e _ hB) (by simp [World.setRow]))
 unfold execOp
 simp only [hx,hy,Instr.storeAt,Instr.sureAddr,storeVar,Sem.run_bind,Sem.run_pure,Result.andThen_ok,shp_size ht,hcs]
 simp [storeCells,addr_add,run_store P w _ v _ h1,hc,hB.free,setCell_eq_setRow w b o cs e (0,0) v hB]
theorem S_storeN {b o s:Nat} {cs vs:Array Value} (hx:ev ρ x=.pointer (some ⟨b,o,none⟩)) (hy:ev ρ y=.agg vs) (hB:Blk w b e cs) (ho:o+vs.size≤cs.size) (h1:∀ v∈vs.toList,v.oneCell'=true) (ht:shp P t=some (true,s)) (hs:vs.size=s)
  (hk:∀ w',Ext [b] w w'→Blk w' b e (cs.toList.take o++vs.toList++cs.toList.drop (o+vs.size)).toArray→w'.heap.size=w.heap.size→K ρ w'):Stp P N ρ ⟨none,.store t x y,ty,pos,af,gd⟩ w K:=by
 have hst:=run_storeCells_at P b o e vs.toList 0 cs w hB (by simpa using ho) h1
 simp only [Nat.add_zero,Array.length_toList] at hst
 refine S_skip ?_ rfl (hk _ (ext_setRow _ _ _) (setRow_heap w b cs _ e _ hB) (by simp [World.setRow]))
 unfold execOp
 simp [hx,hy,Instr.storeAt,Instr.sureAddr,storeVar,shp_size ht,hs,Value.cells,hst]
theorem S_storeA {b s:Nat} {cs vs:Array Value} (hx:ev ρ x=.pointer (some ⟨b,0,none⟩)) (hy:ev ρ y=.agg vs) (hB:Blk w b e cs) (hs:vs.size=s) (hs':cs.size=s) (h1:∀ v∈vs.toList,v.oneCell'=true) (ht:shp P t=some (true,s))
  (hk:∀ w',Ext [b] w w'→Blk w' b e vs→w'.heap.size=w.heap.size→K ρ w'):Stp P N ρ ⟨none,.store t x y,ty,pos,af,gd⟩ w K :=
 S_storeN hx hy hB (by omega) h1 ht hs (fun w' hE hB'=>hk w' hE (by
  have:(cs.toList.take 0++vs.toList++cs.toList.drop (0+vs.size)).toArray=vs:=by
   simp [List.drop_of_length_le (show cs.toList.length≤vs.size by simp;omega)]
  rw [this] at hB';exact hB'))
def zer (P:Program) (t:TypeId):Option (List Value):=(P.info? t).bind fun i=>i.zero.map fun z=>z.cells.toList
theorem S_alloc {zs:List Value} (hz:zer P t=some zs) (hd:Nat.blt d N=true)
  (hk:∀ w' b,b=w.heap.size→Ext [] w w'→Blk w' b t zs.toArray→w'.heap.size=b+1→K (upd ρ d (.pointer (some ⟨b,0,none⟩))) w'):Stp P N ρ ⟨some d,.alloc t,ty,pos,af,gd⟩ w K:=by
 unfold zer at hz
 cases hi:P.info? t with
 | none=>simp [hi] at hz
 | some i =>
  cases hzz:i.zero with
  | none=>simp [hi,hzz] at hz
  | some zv =>
   simp [hi,hzz] at hz
   subst hz
   refine S_run (w':=w.alloc (.cells zv.cells t)) (v:=.pointer (some ⟨w.heap.size,0,none⟩)) ?_ hd (hk _ _ rfl (ext_alloc _ _) ?_ (by simp))
   ·constructor;unfold execOp
    simp [Instr.alloc,zeroValue,typeInfo,hi,hzz,newVar,newRow]
   ·have h:=heap_alloc_new w (.cells zv.cells t)
    simpa [Blk] using h
theorem S_box {cs:Array Value} (hx:ev ρ x=v) (hc:v.cells=cs) (hd:Nat.blt d N=true)
  (hk:∀ w' b,b=w.heap.size→Ext [] w w'→Blk w' b t cs→w'.heap.size=b+1→K (upd ρ d (.pointer (some ⟨b,0,none⟩))) w'):Stp P N ρ ⟨some d,.box t x,ty,pos,af,gd⟩ w K:=by
 subst hc
 refine S_run (w':=w.alloc (.cells v.cells t)) (v:=.pointer (some ⟨w.heap.size,0,none⟩)) ?_ hd (hk _ _ rfl (ext_alloc _ _) (heap_alloc_new w _) (by simp))
 constructor;unfold execOp
 simp [Instr.box,hx,newVar,newRow]

def litCells (ρ:Fr) (sz:Nat):Nat→List (Nat × Operand)→Option (List Value)
 | _,[]=>some []
 | i,(j,x)::ps=>if i=j∧(ev ρ x).cells.size=sz then (litCells ρ sz (i+1) ps).map fun r=>(ev ρ x).cells.toList++r else none
theorem fill_row (sz:Nat):∀ (ps:List (Nat × Operand)) (i:Nat) (out:List Value) (done:List Value) (rest:List Value),litCells ρ sz i ps=some out→done.length=i*sz→rest.length=ps.length*sz →
  Instr.fill (fun i=>some (i*sz,sz)) (done++rest).toArray (ps.map fun p=>(p.1,ev ρ p.2))=some (done++out).toArray
 | [],i,out,done,rest,h,hd,hr=>by
  simp [litCells] at h
  subst h
  have:rest=[]:=List.eq_nil_of_length_eq_zero (by simpa using hr)
  subst this
  simp [Instr.fill]
 | (j,x)::ps,i,out,done,rest,h,hd,hr=>by
  unfold litCells at h
  split at h
  ·rename_i hc
   obtain ⟨rfl,hsz⟩:=hc
   cases hrec:litCells ρ sz (i+1) ps with
   | none=>simp [hrec] at h
   | some r =>
    simp [hrec] at h
    subst h
    have hrl:rest.length=sz+ps.length*sz:=by rw [hr];simp [Nat.add_mul,Nat.add_comm]
    have hset:∀ (cs:List Value) (o:Nat) (acc:List Value),acc.length=o+cs.length+(acc.length-(o+cs.length)) →
      (cs.zipIdx).foldl (fun (cs:Array Value) (c:Value × Nat)=>cs.setIfInBounds (o+c.2) c.1) acc.toArray=(acc.take o++cs++acc.drop (o+cs.length)).toArray:=by
     intro cs
     suffices H:∀ (cs:List Value) (m o:Nat) (acc:List Value),o+m+cs.length≤acc.length →
       (cs.zipIdx m).foldl (fun (cs:Array Value) (c:Value × Nat)=>cs.setIfInBounds (o+c.2) c.1) acc.toArray=(acc.take (o+m)++cs++acc.drop (o+m+cs.length)).toArray by
      intro o acc hacc
      exact H cs 0 o acc (by omega)
     intro cs
     induction cs with
     | nil=>intro m o acc hacc;simp
     | cons c cs ih =>
      intro m o acc hacc
      simp at hacc
      simp only [List.zipIdx_cons,List.foldl_cons,List.setIfInBounds_toArray]
      rw [ih (m+1) o (acc.set (o+m) c) (by rw [List.length_set];omega)]
      congr 1
      have e:=list_seg_step acc (o+m) c cs (by omega)
      simpa [Nat.add_assoc,Nat.add_comm,Nat.add_left_comm] using e
    have hcs:=hset (ev ρ x).cells.toList (i*sz) (done++rest) (by simp;omega)
    have hz:((ev ρ x).cells.zipIdx.foldl (fun (cs:Array Value) (c:Value × Nat)=>cs.setIfInBounds (i*sz+c.2) c.1) (done++rest).toArray) =
      (done++(ev ρ x).cells.toList++rest.drop sz).toArray:=by
     rw [← Array.foldl_toList,Array.toList_zipIdx,hcs]
     congr 1
     rw [List.drop_append,List.drop_of_length_le (by simp [hsz];omega),← hd,List.take_left]
     simp [hsz]
    have ih:=fill_row sz ps (i+1) r (done++(ev ρ x).cells.toList) (rest.drop sz) hrec (by simp [hd,hsz,Nat.add_mul]) (by simp only [List.length_drop];omega)
    simp only [List.map_cons,Instr.fill]
    have hrl2:=hrl
    rw [if_neg (by simp only [hsz,List.size_toArray,List.length_append,hrl2,hd];simp)]
    rw [hz,ih]
    simp
  ·cases h

theorem S_lit {n:Nat} {ps:List (Nat × Operand)} {out:List Value} {sz:Nat} {g:Bool} {zs:List Value} (ht:sle P t=some (e,(g,sz))) (hz:zer P e=some zs) (hzl:zs.length=sz) (hc:litCells ρ sz 0 ps=some out) (hn:ps.length=n)
  (hb:n*sz≤16777216) (hd:Nat.blt d N=true)
  (hk:∀ w' b,b=w.heap.size→Ext [] w w'→Blk w' b e out.toArray→w'.heap.size=b+1→K (upd ρ d (.slice (some ⟨b,0,none⟩) n n)) w'):Stp P N ρ ⟨some d,.buildSlice t n ps.toArray,ty,pos,af,gd⟩ w K:=by
 obtain ⟨hu,hs⟩:=sle_spec ht
 refine S_run (w':=w.alloc (.cells out.toArray e)) (v:=.slice (some ⟨w.heap.size,0,none⟩) n n) ?_ hd (hk _ _ rfl (ext_alloc _ _) (heap_alloc_new w _) (by simp))
 have hzero:∃ zv,(zeroValue e).run P w=.ok zv w∧zv.cells.size=sz:=by
  unfold zer at hz
  cases hi:P.info? e with
  | none=>simp [hi] at hz
  | some i =>
   cases hzz:i.zero with
   | none=>simp [hi,hzz] at hz
   | some zv =>
    simp [hi,hzz] at hz
    exact ⟨zv,by simp [zeroValue,typeInfo,hi,hzz],by rw [← Array.length_toList,hz];exact hzl⟩
 obtain ⟨zv,hzr,hzs⟩:=hzero
 have hb':¬ (16777216<n*sz):=by omega
 have hf:∀ (zc:Array Value),zc.size=n*sz→Instr.fill (fun i=>some (i*sz,sz)) zc (ps.map fun p=>(p.1,ev ρ p.2))=some out.toArray:=by
  intro zc hzc
  have:=fill_row (ρ:=ρ) sz ps 0 out [] zc.toList hc (by simp) (by simp [hzc,hn])
  simpa using this
 constructor;unfold execOp
 by_cases h0:n*sz=0
 ·have hf0:=hf ((Array.range 0).map fun _=>default) (by simp [h0])
  simp [Instr.buildSlice,run_underlying hu,shp_size hs,h0,hf0,newRow]
 ·have hf1:=hf ((Array.range (n*sz)).map (zv.cells[· % zv.cells.size]!)) (by simp)
  simp [Instr.buildSlice,run_underlying hu,shp_size hs,h0,hb',hzr,hf1,newRow]

def byt (P:Program) (e:TypeId):Option Nat:=(P.info? e).map (·.bytes)
theorem info_of {sz bytes:Nat} {g:Bool} {zs:List Value} (hs:shp P e=some (g,sz)) (hz:zer P e=some zs) (hb:byt P e=some bytes):∃ i z,P.info? e=some i∧i.zero=some z∧i.size=sz∧i.bytes=bytes∧z.cells.toList=zs:=by
 unfold shp at hs;unfold zer at hz;unfold byt at hb
 cases hi:P.info? e with
 | none=>simp [hi] at hb
 | some i =>
  cases hzz:i.zero with
  | none=>simp [hi,hzz] at hz
  | some zv =>
   simp [hi,hzz] at hz hb
   rw [hi] at hs
   refine ⟨i,zv,rfl,hzz,?_,hb,hz⟩
   split at hs<;>first|(cases hs;rename_i h;cases h;rfl)|cases hs
theorem at_add {a:Addr} (h:a.spot=none) (j:Nat):a.add j=At (some a) j:=by
 obtain ⟨b,o,s⟩:=a
 simp only at h;subst h
 rw [addr_add];rfl
theorem S_append {a a2:Option Addr} {n cap m c2 sz bytes:Nat} {g:Bool} {zs vs news:List Value} (ht:sle P t=some (e,(g,sz))) (hz:zer P e=some zs) (hzl:zs.length=sz) (hby:byt P e=some bytes) (hsz:0<sz)
  (hx:ev ρ x=.slice a n cap) (hO:Own w e sz a n cap vs) (hy:ev ρ y=.slice a2 m c2) (hS:SlA w a2 news) (hl:news.length=m*sz) (h1:∀ u∈news,u.oneCell'=true)
  (hbig:(n+m)*bytes≤140737488355328) (h63:n+m≤maxLen) (hd:Nat.blt d N=true)
  (hk:∀ w' a' cap',Ext (blk a) w w'→Own w' e sz a' (n+m) cap' (vs++news)→(∀ b∈blk a',b∈blk a∨w.heap.size≤b)→(a'=none→n+m=0)→K (upd ρ d (.slice a' (n+m) cap')) w'):Stp P N ρ ⟨some d,.call ⟨.builtin .append,#[x,y],#[t,t]⟩,ty,pos,af,gd⟩ w K:=by
 obtain ⟨hu,hs⟩:=sle_spec ht
 obtain ⟨i,z,hi,hzz,rfl,rfl,hzc⟩:=info_of hs hz hby
 have hzcs:z.cells.size=i.size:=by rw [← Array.length_toList,hzc];exact hzl
 have hop:∀ {v' w'},(Builtin.append_ #[t,t] ty #[.slice a n cap,.slice a2 m c2]).run P w=.ok v' w'→Run P ρ ⟨some d,.call ⟨.builtin .append,#[x,y],#[t,t]⟩,ty,pos,af,gd⟩ w v' w':=by
  intro v' w' hr
  constructor;unfold execOp
  simp [hx,hy,resolve,invoke,builtin,hr]
 have h63':n+m≤9223372036854775807:=by simp only [maxLen] at h63;omega
 obtain ⟨hvl,hnc,hcm,hown⟩:=hO
 have hlen:(vs++news).length=(n+m)*i.size:=by rw [List.length_append,hvl,hl,Nat.add_mul]

 by_cases hm:m=0
 ·
  subst hm
  have hn0:news=[]:=List.eq_nil_of_length_eq_zero (by simpa using hl)
  subst hn0
  have hf:(Builtin.firstCells i.size 0 (.slice a2 0 c2)).run P w=.ok #[] w:=by
   cases a2 with
   | none=>simp [Builtin.firstCells]
   | some ad=>simp [Builtin.firstCells,loadCells,loadCellsFrom]
  have hcap:n+0≤cap:=by omega
  have hr:(Builtin.append_ #[t,t] ty #[.slice a n cap,.slice a2 0 c2]).run P w=.ok (.slice a (n+0) cap) w:=by
   cases a with
   | none=>simp [Builtin.append_,run_underlying hu,sizeOf,typeInfo,hi,Builtin.lenOf,hnc,hf]
   | some ad=>simp [Builtin.append_,run_underlying hu,sizeOf,typeInfo,hi,Builtin.lenOf,hnc,hf,storeCells]
  exact S_run (hop hr) hd (hk w a cap .refl ⟨hlen,hcap,hcm,by simpa using hown⟩ (fun b hb=>.inl hb) (fun ha=>by rcases hown with ⟨_,h0⟩|⟨_,_,h,_⟩;omega;rw [h] at ha;cases ha))
 ·have hne:news≠[]:=fun e=>by
   subst e
   have:0<m*i.size:=Nat.mul_pos (by omega) hsz
   simp at hl;omega
  obtain ⟨b2,o2,rfl⟩:=hS.head hne
  have hnews:∀ j v,news[j]?=some v→w.cell? ((⟨b2,o2,none⟩:Addr).add j)=some v:=fun j v hj=>by rw [at_add rfl];exact hS.cell j v hj
  have grown:∀ old,old<n+m →
    Own (w.drew.alloc (.cells (vs.toArray++news.toArray++Builtin.zeroCells z.cells (grownCap w (n+m) old e-(n+m))) e)) e i.size (some ⟨w.heap.size,0,none⟩) (n+m) (grownCap w (n+m) old e) (vs++news):=by
   intro old ho
   have hge:=grownCap_ge w (n+m) old e
   have hcm2:grownCap w (n+m) old e≤maxLen:=grownCap_le_maxLen w (n+m) old e h63
   refine ⟨hlen,hge,hcm2,.inr ⟨w.heap.size,_,rfl,heap_alloc_new w.drew _,?_,?_⟩⟩
   ·simp only [Array.size_append,List.size_toArray,size_zeroCells,hzcs,hvl,hl,← Nat.add_mul]
    congr 1
    omega
   ·simp only [Array.toList_append,List.append_assoc]
    rw [← List.append_assoc,← hlen]
    exact List.take_left
  have hgE:∀ o,Ext (blk a) w (w.drew.alloc o):=fun o=>Ext.drew0.then0 (ext_alloc _ _)
  rcases hown with ⟨rfl,rfl⟩|⟨b,cur,rfl,hB,hcs,htake⟩
  ·have hn0:n=0:=by omega
   subst hn0
   have hv0:vs=[]:=List.eq_nil_of_length_eq_zero (by simpa using hvl)
   subst hv0
   have hr:=run_append_nil (P:=P) w t ty e i z hu hi hzz ⟨b2,o2,none⟩ m c2 news hl hnews (by omega) (by omega) (by simp only [Nat.zero_add] at hbig;omega)
   have hg:=grown 0 (by omega)
   simp only [Nat.zero_add,List.nil_append,Array.empty_append] at hg hk
   exact S_run (hop hr) hd (hk _ _ _ (hgE _) hg (fun b hb=>.inr (by simp [blk] at hb;omega)) (fun h=>by cases h))
  ·by_cases hroom:n+m≤cap
   ·have hfit:n*i.size+news.length≤cur.size:=by rw [hl,hcs,← Nat.add_mul];exact Nat.mul_le_mul_right _ hroom
    have hr:=run_append_room (P:=P) w t ty e i hu hi b n cap cur hB ⟨b2,o2,none⟩ m c2 news hl hnews h1 hroom hfit
    refine S_run (hop hr) hd (hk _ _ _ (ext_setRow _ _ _) ⟨hlen,hroom,hcm,.inr ⟨b,_,rfl,setRow_heap w b cur _ e _ hB,?_,?_⟩⟩ (fun b hb=>.inl hb) (fun h=>by cases h))
    ·simp only [List.size_toArray,List.length_append,List.length_take,List.length_drop,Array.length_toList]
     omega
    ·rw [htake,← hlen]
     exact List.take_left
   ·have holds:∀ j u,vs[j]?=some u→w.cell? ((⟨b,0,none⟩:Addr).add j)=some u:=fun j u hj=>by
     rw [addr_add,Nat.zero_add]
     refine Blk.cell hB ?_
     rw [← htake,List.getElem?_take] at hj
     split at hj
     ·simpa using hj
     ·cases hj
    have hr:=run_append_grow (P:=P) w t ty e i z hu hi hzz ⟨b,0,none⟩ n cap vs hvl holds ⟨b2,o2,none⟩ m c2 news hl hnews (by omega) (by omega) (growslice_fits (by omega) hbig)
    exact S_run (hop hr) hd (hk _ _ _ (hgE _) (grown cap (by omega)) (fun b hb=>.inr (by simp [blk] at hb;omega)) (fun h=>by cases h))
theorem S_make {kl kc:IntKind} {n sz bytes:Nat} {g:Bool} {zs:List Value} {i:Int} (ht:sle P t=some (e,(g,sz))) (hz:zer P e=some zs) (hby:byt P e=some bytes) (hzl:zs.length=sz)
  (hx:ev ρ x=.int kl i) (hy:ev ρ y=.int kc i) (hi:i=n) (hbig:bytes*n≤281474976710656) (h63:n≤maxLen) (hd:Nat.blt d N=true)
  (hk:∀ w' b,b=w.heap.size→Ext [] w w'→Blk w' b e (madeCells zs.toArray (n*sz))→w'.heap.size=b+1→K (upd ρ d (.slice (some ⟨b,0,none⟩) n n)) w'):Stp P N ρ ⟨some d,.makeSlice t x y,ty,pos,af,gd⟩ w K:=by
 obtain ⟨hu,hs⟩:=sle_spec ht
 obtain ⟨inf,z,hinf,hzz,rfl,rfl,hzc⟩:=info_of hs hz hby
 subst hi
 have h63':n≤9223372036854775807:=by simp only [maxLen] at h63;omega
 have hr:=run_make (P:=P) w t e inf z hu hinf hzz kl kc n n (by omega) (by omega) (by rw [← Int.natCast_mul];omega) (by omega)
 simp only [Int.toNat_natCast] at hr
 have hzz2:z.cells=zs.toArray:=by rw [← hzc]
 rw [hzz2] at hr
 refine S_run ?_ hd (hk _ _ rfl (ext_alloc _ _) (heap_alloc_new w _) (by simp))
 constructor;unfold execOp
 simp [hx,hy,hr]
end
end Go.K
namespace Go.K
open Go Go.RowKit

def lk {α:Type} (t:Nat):List (Nat × α)→Option α
 | []=>none
 | (i,v)::l=>cond (Nat.beq t i) (some v) (lk t l)
theorem lk_map {α:Type} {F:Nat→Option α} {t:Nat} {q:α}:∀ {l:List (Nat × α)},l.map (fun p=>F p.1)=l.map (fun p=>some p.2)→lk t l=some q→F t=some q
 | [],_,h=>by cases h
 | (i,v)::l,hm,h=>by
  simp only [List.map_cons,List.cons.injEq] at hm
  unfold lk at h
  cases hb:Nat.beq t i with
  | true =>
   rw [hb] at h
   have:=Nat.eq_of_beq_eq_true hb
   subst this
   cases h
   exact hm.1
  | false=>rw [hb] at h;exact lk_map hm.2 h
theorem isSlice_of {P:Program} {t e:TypeId} {p:Bool × Nat} (h:sle P t=some (e,p)):isSlice P t=true:=by
 obtain ⟨hu,_⟩:=sle_spec h
 simp [isSlice,hu]
theorem und_of {P:Program} {t:TypeId} {p:Bool × Nat} (h:shp P t=some p):(P.underlying t).isSome=true:=by
 unfold shp at h
 split at h<;>first|(rename_i hu _;rw [hu];rfl)|(rename_i hu _;simp [hu])|cases h

def Does (P:Program) (f:FuncId) (args:Array Value) (w:World) (R:Value→World→Prop):Prop :=
 ((∀ w',(callFunc f args).run P w'=.ok (.enter f args) w')∧Calls P f args w (fun e w'=>∃ v,e=.returned v∧R v w')) ∨
 ∃ v w',(callFunc f args).run P w=.ok (.value v) w'∧R v w'
def nth:List Value→Nat→Value
 | [],_=>undef
 | x::_,0=>x
 | _::l,n+1=>nth l n
def entF (l:List Value):Fr:=fun t=>nth l t
theorem nth_eq:∀ (l:List Value) (t:Nat),nth l t=(l[t]?).getD undef
 | [],t=>by simp [nth]
 | x::l,0=>by simp [nth]
 | x::l,n+1=>by simp [nth,nth_eq l n]
section
variable {P:Program} {N:Nat} {f:FuncId} {R R':Value→World→Prop} {k:List Item} {ρ:Fr} {w:World} {K:Fr→World→Prop} {v:Value}
theorem Does.calls {args:Array Value} {w:World} (h:Does P f args w R) (hx:∃ w',(callFunc f args).run P w=.ok (.enter f args) w'):Calls P f args w (fun e w'=>∃ v,e=.returned v∧R v w'):=by
 rcases h with h|⟨v,w1,h,_⟩
 ·exact h.2
 ·obtain ⟨w2,h2⟩:=hx
  rw [h] at h2
  cases h2
theorem Does.mono {args:Array Value} (h:Does P f args w R) (hr:∀ v w',R v w'→R' v w'):Does P f args w R':=by
 rcases h with ⟨h1,h2⟩|⟨v,w',h1,h2⟩
 ·exact .inl ⟨h1,h2.mono fun e w' ⟨v,he,hv⟩=>⟨v,he,hr v w' hv⟩⟩
 ·exact .inr ⟨v,w',h1,hr v w' h2⟩
theorem rep_enter {args:List Value} (h:args.length≤N):Rep N { tmps:=args.toArray++Array.replicate (N-args.length) undef,defers:=[] } (entF args):=by
 refine ⟨by simp;omega,rfl,fun t=>?_⟩
 show _=nth args t
 rw [nth_eq]
 by_cases ht:t<args.length
 ·simp [Array.getElem?_append,ht]
 ·have:args[t]?=none:=List.getElem?_eq_none (by omega)
  rw [this]
  simp only [Array.getD_eq_getD_getElem?,Array.getElem?_append,List.size_toArray,ht,if_false,Option.getD_none]
  rw [Array.getElem?_replicate]
  split<;>rfl
theorem Does_of {fn:Func} {c:Code} {args:List Value} (hf:P.funcs[f]?=some fn) (hn:(fn.name == "runtime.NumGoroutine")=false) (hb:fn.body=some c) (hN:fn.ntmps=N) (hl:Nat.ble args.length N=true)
  (h:WS P N f R [.code c] (entF args) w):Does P f args.toArray w R:=by
 refine .inl ⟨fun w'=>by unfold callFunc;simp only [Sem.run_bind,run_program,Result.andThen_ok,hf,hn,hb];rfl,fun cs=>?_⟩
 have hl':args.length≤N:=Nat.le_of_ble_eq_true hl
 obtain ⟨v,w',fr,hR,hst,hfn,hlv⟩:=h.out _ (rep_enter hl') cs
 refine ⟨.returned v,w',fr,⟨v,rfl,hR⟩,?_,hfn,hlv⟩
 have henter:Frame.enter P f args.toArray .normal=(base f).at { tmps:=args.toArray++Array.replicate (N-args.length) undef,defers:=[] } [.code c]:=by
  simp [Frame.enter,Frame.at,hf,hb,hN,base]
 rw [henter]
 exact hst
def evL (ρ:Fr):List Operand→List Value
 | []=>[]
 | x::l=>ev ρ x::evL ρ l
theorem evL_map (ρ:Fr):∀ l,evL ρ l=l.map (ev ρ)
 | []=>rfl
 | x::l=>by simp [evL,evL_map ρ l]
section
variable {d:Nat} {ty:TypeId} {pos:String} {af:Array Edge} {gd:Option (Nat × Bool)} {ats:Array TypeId}
theorem S_of_fn {o:Oper} {g:FuncId} {args:Array Value} (ho:∀ a,Rep N a ρ→execOp a.eval o=callFunc g args) (hd:dstOk N o.dst=true) (hF:Does P g args w R) (hk:∀ v w',R v w'→K (updo ρ o.dst v) w'):Stp P N ρ o w K:=by
 refine ⟨fun a ha Q=>?_⟩
 unfold Oper.wp
 rw [ho a ha]
 rcases hF with ⟨h1,h2⟩|⟨v,w',h1,h2⟩
 ·rw [h1 w]
  refine h2.mono ?_
  rintro e w' ⟨v,rfl,hv⟩
  exact ⟨_,ha.put hd v,hk v w' hv⟩
 ·rw [h1]
  exact ⟨_,ha.put hd v,hk v w' h2⟩
theorem S_call {g:FuncId} {xs:List Operand} {vs:List Value} (hF:Does P g vs.toArray w R) (hargs:evL ρ xs=vs) (hd:Nat.blt d N=true) (hk:∀ v w',R v w'→K (upd ρ d v) w') :
  Stp P N ρ ⟨some d,.call ⟨.value (.func g),xs.toArray,ats⟩,ty,pos,af,gd⟩ w K :=
 S_of_fn (fun a ha=>by
  rw [ha.eval]
  subst hargs
  simp [execOp,resolve,invoke,Deferred.ofValue,ev,evL_map]) hd hF hk
theorem S_callv {g:FuncId} {x:Operand} {xs:List Operand} {vs caps:List Value} (hx:ev ρ x=.func (.func g) #[] caps.toArray) (hF:Does P g (vs++caps).toArray w R) (hargs:evL ρ xs=vs) (hd:Nat.blt d N=true) (hk:∀ v w',R v w'→K (upd ρ d v) w') :
  Stp P N ρ ⟨some d,.call ⟨.value x,xs.toArray,ats⟩,ty,pos,af,gd⟩ w K :=
 S_of_fn (g:=g) (args:=(vs++caps).toArray) (fun a ha=>by
  rw [ha.eval]
  subst hargs
  simp [execOp,resolve,invoke,Deferred.ofValue,hx,evL_map]) hd hF hk
end

def lst (n:Nat) (done:List Nat):Array Bool:=done.foldr (fun i a=>a.setIfInBounds i true) (Array.replicate n false)
structure WA (P:Program) (N:Nat) (C:Fr→World→Prop) (ops:Array Oper) (S:World→Prop) (n fuel:Nat) (done:List Nat) (ρ:Fr) (w:World):Prop where
 out:∀ a,Rep N a ρ→wpAnyH P .any ops (QN N C) S fuel (lst n done) a w
variable {C:Fr→World→Prop} {ops:Array Oper} {S:World→Prop} {n fuel:Nat} {done:List Nat}
theorem WS_draw {id:Nat} {l:List Oper} (hm:P.follows .mixedOrders=true) (S:World→Prop) (n:Nat) (hn:l.length=n) (h:WA P N (WS P N f R k) l.toArray S n n [] ρ w.drew):WS P N f R (.code (.region id l.toArray true)::k) ρ w :=
 WS_wp fun a ha=>wp_region_held (S:=S) hm (by
  have:=h.out a ha
  subst hn
  exact this)
theorem WS_drawE {id:Nat} {l:List Oper} (hm:P.follows .mixedOrders=true) (n:Nat) (hn:l.length=n) (h:∀ w1,Ext [] w w1→WA P N (WS P N f R k) l.toArray (fun w'=>Ext [] w w') n n [] ρ w1):WS P N f R (.code (.region id l.toArray true)::k) ρ w :=
 WS_draw hm (fun w'=>Ext [] w w') n hn (h _ Ext.drew0)
def takeOk (ops:Array Oper) (n:Nat) (done:List Nat) (i:Nat):Bool:=Region.noSelect ops && Region.free .any ops (lst n done) i && (Region.ready .any ops (lst n done)).contains i
theorem WA_take (i:Nat) {o:Oper} (hi:ops[i]?=some o) (hc:takeOk ops n done i=true) (hS:S w) (hg:o.guard=none) (hd:dstOk N o.dst=true) (hrun:∀ w',S w'→Run P ρ o w' v w')
  (hk:WA P N C ops S n fuel (i::done) (updo ρ o.dst v) w):WA P N C ops S n (fuel+1) done ρ w:=by
 refine ⟨fun a ha=>?_⟩
 simp only [takeOk,Bool.and_eq_true] at hc
 refine wpAnyH_take hi hc.1.1 hc.1.2 hc.2 (fun c a w h=>by cases h.1) (.inl ⟨by simp [Region.wanted,hg],fun w' hw'=>?_⟩) hS (hk.out _ (ha.put hd v))
 rw [ha.eval]
 exact (hrun w' hw').out
theorem WA_takey (i:Nat) {o:Oper} {j d:Nat} {want:Bool} (hi:ops[i]?=some o) (hc:takeOk ops n done i=true) (hS:S w) (hg:o.guard=some (j,want)) (hj:gdst ops j=some d) (hjd:Nat.blt d N=true) (hv:ev ρ (.tmp d)=.bool want) (hd:dstOk N o.dst=true)
  (hrun:∀ w',S w'→Run P ρ o w' v w') (hk:WA P N C ops S n fuel (i::done) (updo ρ o.dst v) w):WA P N C ops S n (fuel+1) done ρ w:=by
 refine ⟨fun a ha=>?_⟩
 simp only [takeOk,Bool.and_eq_true] at hc
 refine wpAnyH_take hi hc.1.1 hc.1.2 hc.2 (fun c a w h=>by cases h.1) (.inl ⟨by simp [Region.wanted,hg,yielded_rep ha hj hjd hv],fun w' hw'=>?_⟩) hS (hk.out _ (ha.put hd v))
 rw [ha.eval]
 exact (hrun w' hw').out
theorem WA_taken (i:Nat) {o:Oper} {j d:Nat} {want b:Bool} (hi:ops[i]?=some o) (hc:takeOk ops n done i=true) (hS:S w) (hg:o.guard=some (j,want)) (hj:gdst ops j=some d) (hjd:Nat.blt d N=true) (hv:ev ρ (.tmp d)=.bool b) (hb:b=!want) (hd:dstOk N o.dst=true)
  (hk:WA P N C ops S n fuel (i::done) (updo ρ o.dst undef) w):WA P N C ops S n (fuel+1) done ρ w:=by
 refine ⟨fun a ha=>?_⟩
 simp only [takeOk,Bool.and_eq_true] at hc
 exact wpAnyH_take hi hc.1.1 hc.1.2 hc.2 (fun c a w h=>by cases h.1) (.inr ⟨by simp [Region.wanted,hg,yielded_rep ha hj hjd hv,hb],rfl⟩) hS (hk.out _ (ha.put hd undef))
theorem WA_one (i:Nat) {o:Oper} (hr:Region.ready .any ops (lst n done)=[i]) (hi:ops[i]?=some o) (hg:o.guard=none)
  (h:Stp P N ρ o w (fun ρ' w'=>S w'∧WA P N C ops S n fuel (i::done) ρ' w')):WA P N C ops S n (fuel+1) done ρ w:=by
 refine ⟨fun a ha=>?_⟩
 refine wpAnyH_all hr (by simp) (fun j hj=>?_)
 simp only [List.mem_singleton] at hj
 subst hj
 unfold wpOp
 rw [hi]
 simp only
 rw [if_pos (by simp [Region.wanted,hg])]
 exact .inl (Oper.wp_mono (fun a' w' ⟨ρ',hr',hs,hw⟩=>⟨hs,hw.out a' hr'⟩) (h.out a ha _))
theorem WA_two (i j:Nat) {oi oj:Oper} (hr:Region.ready .any ops (lst n done)=[i,j]) (hi:ops[i]?=some oi) (hgi:oi.guard=none) (hj:ops[j]?=some oj) (hgj:oj.guard=none)
  (h1:Stp P N ρ oi w (fun ρ' w'=>S w'∧WA P N C ops S n fuel (i::done) ρ' w')) (h2:Stp P N ρ oj w (fun ρ' w'=>S w'∧WA P N C ops S n fuel (j::done) ρ' w')):WA P N C ops S n (fuel+1) done ρ w:=by
 refine ⟨fun a ha=>?_⟩
 refine wpAnyH_all hr (by simp) (fun m hm=>?_)
 simp only [List.mem_cons,List.not_mem_nil,or_false] at hm
 unfold wpOp
 rcases hm with rfl|rfl
 ·rw [hi]
  simp only
  rw [if_pos (by simp [Region.wanted,hgi])]
  exact .inl (Oper.wp_mono (fun a' w' ⟨ρ',hr',hs,hw⟩=>⟨hs,hw.out a' hr'⟩) (h1.out a ha _))
 ·rw [hj]
  simp only
  rw [if_pos (by simp [Region.wanted,hgj])]
  exact .inl (Oper.wp_mono (fun a' w' ⟨ρ',hr',hs,hw⟩=>⟨hs,hw.out a' hr'⟩) (h2.out a ha _))
theorem WA_done (hr:Region.ready .any ops (lst n done)=[]) (h:C ρ w):WA P N C ops S n fuel done ρ w:=⟨fun _ ha=>wpAnyH_done hr ⟨rfl,ρ,ha,h⟩ fuel⟩
end

abbrev B (n:Nat):Value:=.int .u8 (n:Int)
def strOf (l:List Nat):ByteArray:=⟨(l.map UInt8.ofNat).toArray⟩
def Byt (l:List Nat):Prop:=∀ x∈l,x<256
theorem bytB {l:List Nat} (h:l.all (fun x=>Nat.blt x 256)=true):Byt l:=fun x hx=>by
 have:=List.all_eq_true.1 h x hx
 simpa [Nat.blt_eq] using this
theorem Byt.append {l m:List Nat} (h:Byt l) (h':Byt m):Byt (l++m):=fun x hx=>(List.mem_append.1 hx).elim (h x) (h' x)
section
variable {P:Program} {N:Nat} {K:Fr→World→Prop} {ρ:Fr} {w:World} {v:Value} {dst:Option Nat} {d:Nat} {ty:TypeId} {pos:String} {af:Array Edge} {gd:Option (Nat × Bool)} {x y z:Operand} {t u e:TypeId} {q:IntKind}
theorem sl_sliced {a:Option Addr} {vs:List Value} {l h cap n sz:Nat} (hS:SlA w a vs) (hlh:l≤h) (hh:h≤n) (hn:n≤cap) :
  SlA w (if cap=l then a else a.map (·.add (l*sz))) ((vs.drop (l*sz)).take ((h-l)*sz)):=by
 by_cases hne:(vs.drop (l*sz)).take ((h-l)*sz)=[]
 ·rw [hne];exact .nil
 ·have hc:cap≠l:=fun e=>hne (by have:h-l=0:=(by omega);simp [this])
  have hvs:vs≠[]:=fun e=>hne (by simp [e])
  obtain ⟨b,o,rfl⟩:=hS.head hvs
  rw [if_neg hc]
  refine ⟨fun j v hv=>?_,fun _=>⟨b,o+l*sz,by simp [addr_add]⟩⟩
  rw [List.getElem?_take] at hv
  split at hv
  ·rw [List.getElem?_drop] at hv
   have:=hS.cell _ v hv
   simpa [At,addr_add,Nat.add_assoc] using this
  ·cases hv
theorem k_slc {a:Option Addr} {n cap sz:Nat} {g:Bool} {kl kh:IntKind} {l h:Int} (hx:ev ρ x=.slice a n cap) (hy:ev ρ y=.int kl l) (hz:ev ρ z=.int kh h) (ht:sle P t=some (e,(g,sz))) (h0:0≤l∧l≤h∧h≤cap) :
  Run P ρ ⟨dst,.slice t x (some y) (some z) none,ty,pos,af,gd⟩ w (.slice (if cap=l.toNat then a else a.map (·.add (l.toNat*sz))) (h.toNat-l.toNat) (cap-l.toNat)) w:=by
 obtain ⟨hu,hs⟩:=sle_spec ht
 obtain ⟨h',rfl⟩:=Int.eq_ofNat_of_zero_le (show 0≤h by omega)
 have h1:(0≤l∧l≤(h':Int)):=by omega
 have h2:h'≤cap:=by omega
 constructor;unfold execOp
 simp [hx,hy,hz,Instr.sliceAt,Instr.slice,run_underlying hu,Instr.sliceBounds,Instr.sliceBound,asIntOf,h1,h2,shp_size hs]
theorem k_slch {a:Option Addr} {n cap sz:Nat} {g:Bool} {kh:IntKind} {h:Int} (hx:ev ρ x=.slice a n cap) (hz:ev ρ z=.int kh h) (ht:sle P t=some (e,(g,sz))) (h0:0≤h∧h≤cap) :
  Run P ρ ⟨dst,.slice t x none (some z) none,ty,pos,af,gd⟩ w (.slice (if cap=0 then a else a.map (·.add 0)) h.toNat cap) w:=by
 obtain ⟨hu,hs⟩:=sle_spec ht
 constructor;unfold execOp
 simp [hx,hz,Instr.sliceAt,Instr.slice,run_underlying hu,Instr.sliceBounds,Instr.sliceBound,asIntOf,h0,shp_size hs]
theorem k_ixa1 {i:Int} {b o len:Nat} {g:Bool} (hx:ev ρ x=.pointer (some ⟨b,o,none⟩)) (hy:ev ρ y=.int q i) (ht:arr P t=some (len,(g,1))) (hi:0≤i∧i<len) :
  Run P ρ ⟨dst,.indexAddr t x y,ty,pos,af,gd⟩ w (.pointer (some (At (some ⟨b,o,none⟩) i.toNat))) w:=by
 have h:=k_ixa (P:=P) (w:=w) (dst:=dst) (ty:=ty) (pos:=pos) (af:=af) (gd:=gd) hx hy ht hi
 rw [Nat.mul_one] at h
 exact h
theorem k_ixaN {i:Int} {b o len sz:Nat} {g:Bool} (hx:ev ρ x=.pointer (some ⟨b,o,none⟩)) (hy:ev ρ y=.int q i) (ht:arr P t=some (len,(g,sz))) (hi:0≤i∧i<len) :
  Run P ρ ⟨dst,.indexAddr t x y,ty,pos,af,gd⟩ w (.pointer (some (At (some ⟨b,o,none⟩) (i.toNat*sz)))) w:=k_ixa hx hy ht hi
theorem k_faA {i j off s:Nat} {a:Option Addr} {g:Bool} (hx:ev ρ x=.pointer (some (At a j))) (hf:fld P t i=some (off,(g,s+1))) :
  Run P ρ ⟨dst,.fieldAddr t x i,ty,pos,af,gd⟩ w (.pointer (some (At a (j+off)))) w:=by
 have h:=k_fa (P:=P) (w:=w) (dst:=dst) (ty:=ty) (pos:=pos) (af:=af) (gd:=gd) (ρ:=ρ) (x:=x) (b:=(At a j).block) (o:=(At a j).off) hx hf
 have e:(⟨(At a j).block,(At a j).off+off,none⟩:Addr)=At a (j+off):=by simp [At,Nat.add_assoc]
 rw [e] at h
 exact h
theorem S_storeO {a:Option Addr} {n cap sz o:Nat} {vs:List Value} (hx:ev ρ x=.pointer (some (At a o))) (hy:ev ρ y=v) (hO:Own w e sz a n cap vs) (ho:o<n*sz) (h1:v.oneCell'=true) (ht:shp P t=some (false,1))
  (hk:∀ w',Ext (blk a) w w'→Own w' e sz a n cap (vs.set o v)→w'.heap.size=w.heap.size→K ρ w'):Stp P N ρ ⟨none,.store t x y,ty,pos,af,gd⟩ w K:=by
 obtain ⟨hl,hn,hc,⟨rfl,rfl⟩|⟨b,cur,rfl,hB,hs,htk⟩⟩:=hO
 ·have:n=0:=by omega
  subst this;simp at ho
 ·have hle:n*sz≤cap*sz:=Nat.mul_le_mul_right _ hn
  have hx':ev ρ x=.pointer (some ⟨b,o,none⟩):=by rw [hx];simp [At]
  refine S_store hx' hy hB (by omega) h1 ht (fun w' hE hB' hsz=>hk w' hE ⟨by simpa using hl,hn,hc,.inr ⟨b,_,rfl,hB',by simpa using hs,?_⟩⟩ hsz)
  rw [Array.toList_setIfInBounds,List.take_set,htk]
theorem S_storeB {b o:Nat} {cs:List Value} (hx:ev ρ x=.pointer (some (At (some ⟨b,0,none⟩) o))) (hy:ev ρ y=v) (hB:Blk w b e cs.toArray) (ho:o<cs.length) (h1:v.oneCell'=true) (ht:shp P t=some (false,1))
  (hk:∀ w',Ext [b] w w'→Blk w' b e (cs.set o v).toArray→w'.heap.size=w.heap.size→K ρ w'):Stp P N ρ ⟨none,.store t x y,ty,pos,af,gd⟩ w K:=by
 have hx':ev ρ x=.pointer (some ⟨b,o,none⟩):=by rw [hx];simp [At]
 refine S_store hx' hy hB (by simpa using ho) h1 ht (fun w' hE hB' hsz=>hk w' hE (by simpa using hB') hsz)
theorem S_copy {b o n cap m c2:Nat} {a2:Option Addr} {cs:Array Value} {vs:List Value} {ta tb:TypeId} {g:Bool} {e':TypeId} (ht:sle P ta=some (e',(g,1))) (hx:ev ρ x=.slice (some ⟨b,o,none⟩) n cap) (hB:Blk w b e cs) (hy:ev ρ y=.slice a2 m c2) (hS:SlA w a2 vs) (hl:vs.length=m)
  (hm:m≤n) (hfit:o+m≤cs.size) (h1:∀ u∈vs,u.oneCell'=true) (hd:dstOk N dst=true)
  (hk:∀ w',Ext [b] w w'→Blk w' b e (cs.toList.take o++vs++cs.toList.drop (o+m)).toArray→w'.heap.size=w.heap.size→K (updo ρ dst (.int .i64 m)) w'):Stp P N ρ ⟨dst,.call ⟨.builtin .copy,#[x,y],#[ta,tb]⟩,ty,pos,af,gd⟩ w K:=by
 obtain ⟨hu,hs⟩:=sle_spec ht
 have hf:(Builtin.firstCells 1 m (.slice a2 m c2)).run P w=.ok vs.toArray w:=by
  by_cases hv:vs=[]
  ·subst hv
   have:m=0:=by simpa using hl.symm
   subst this
   cases a2<;>simp [Builtin.firstCells,loadCells,loadCellsFrom]
  ·obtain ⟨b2,o2,rfl⟩:=hS.head hv
   exact run_firstCells_some (P:=P) w 1 m ⟨b2,o2,none⟩ m c2 vs (by omega) (fun j v hj=>by rw [at_add rfl];exact hS.cell j v hj)
 have hst:=run_storeCells_at P b o e vs 0 cs w hB (by simpa [hl] using hfit) h1
 simp only [Nat.add_zero,hl] at hst
 have hmin:Nat.min m n=m:=Nat.min_eq_left hm
 refine S_run (w':=w.setRow b (cs.toList.take o++vs++cs.toList.drop (o+m)).toArray) (v:=.int .i64 m) ?_ hd (hk _ (ext_setRow _ _ _) (setRow_heap w b cs _ e _ hB) (by simp [World.setRow]))
 constructor;unfold execOp
 simp only [resolve,invoke,builtin,Sem.run_bind,Sem.run_pure,Result.andThen_ok,List.map_toArray,List.map_cons,List.map_nil,hx,hy]
 simp [Builtin.copy_,run_underlying hu,Builtin.lenOf,shp_size hs,hmin,hf,hst,goInt]
end
end Go.K
