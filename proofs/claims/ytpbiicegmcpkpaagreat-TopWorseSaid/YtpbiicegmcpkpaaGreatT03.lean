/- A part of the proof that TopWorse is true at every input; no condition. -/
import Derived.Test.YtpbiicegmcpkpaaGreatT02
import Derived.Deep.Slices
import Derived.DeepKeys
import Derived.Laws.OwnMore
import Derived.MapKept
import Derived.ProofKit
namespace Go.K
open Go Go.RowKit

def edges (o:Oper):List Nat:=o.after.toList.filterMap fun e=>cond (Region.binds .any e) (some e.on) none
def okOne (ops:List Oper) (j:Nat) (o:Oper) (m:Nat) (ds:List (Nat × Nat)):Bool :=
 o.guard.isNone && (match o.op with|.select ..=>false|_=>true) &&
 ds.all (fun p=>(edges o).contains p.1 && ((ops[p.1]?).bind (·.dst) == some p.2)) &&
 ops.zipIdx.all (fun (oi,i)=>match oi.dst with|none=>true|some d=>inW m d || (edges oi).contains j || (i == j))
def dstsOk (N:Nat) (ops:List Oper):Bool :=
 ops.all (fun o=>dstOk N o.dst) && ops.zipIdx.all fun (o,i)=>ops.zipIdx.all fun (o',j)=>i == j || o.dst.isNone || o.dst != o'.dst
def ForDeps (R:Nat→Value→World→Prop) (w:World):List (Nat × Nat)→(List (Nat × Value)→Prop)→Prop
 | [],k=>k []
 | (i,d)::l,k=>∀ v,R i v w→ForDeps R w l (fun acc=>k ((d,v)::acc))
section
variable {P:Program} {N:Nat} {f:FuncId} {R:Value→World→Prop} {k:List Item} {ρ:Fr} {w:World}
theorem forDeps_at {S:Nat→Value→World→Prop} {ρ:Fr}:∀ {ds:List (Nat × Nat)} {k:List (Nat × Value)→Prop},ForDeps S w ds k→(∀ p∈ds,S p.1 (ρ p.2) w)→k (ds.map fun p=>(p.2,ρ p.2))
 | [],_,h,_=>h
 | (i,d)::l,k,h,hs=>by
  exact forDeps_at (k:=fun acc=>k ((d,ρ d)::acc)) (h (ρ d) (hs (i,d) (by simp))) (fun p hp=>hs p (by simp [hp]))
theorem updL_self (ρ:Fr):∀ (l:List Nat),updL (l.map fun d=>(d,ρ d)) ρ=ρ
 | []=>rfl
 | d::l=>by
  show upd (updL (l.map fun d=>(d,ρ d)) ρ) d (ρ d)=ρ
  rw [updL_self ρ l]
  exact upd_self rfl
theorem count_set_true:∀ (l:List Bool) (j:Nat),l[j]?=some false→(l.set j true).count false+1=l.count false
 | [],j,h=>by simp at h
 | b::l,0,h=>by simp at h;subst h;simp
 | b::l,j+1,h=>by
  have ih:=count_set_true l j (by simpa using h)
  cases b<;>simp<;>omega
def edgesDown (ops:List Oper):Bool:=ops.zipIdx.all fun (o,i)=>(edges o).all fun e=>Nat.blt e i
def tailOk (l:List Oper) (n1:Nat):Bool:=edgesDown l && l.zipIdx.all fun (o,i)=>Nat.blt i n1 || (List.range i).all fun j=>(edges o).contains j
theorem edges_mem {o:Oper} {i:Nat} (h:i∈edges o):∃ e∈o.after,Region.binds .any e=true∧e.on=i:=by
 obtain ⟨e,he,heq⟩:=List.mem_filterMap.1 h
 cases hb:Region.binds .any e with
 | false=>rw [hb] at heq;cases heq
 | true=>rw [hb] at heq;cases heq;exact ⟨e,by simpa using he,hb,rfl⟩
theorem mem_edges {o:Oper} {e:Edge} (he:e∈o.after) (hb:Region.binds .any e=true):e.on∈edges o :=
 List.mem_filterMap.2 ⟨e,by simpa using he,by simp [hb]⟩
theorem edgesDown_spec {l:List Oper} (h:edgesDown l=true) {i:Nat} {o:Oper} (hi:l[i]?=some o) {e:Nat} (he:e∈edges o):e<i:=by
 have h1:=List.all_eq_true.1 h (o,i) (List.mem_zipIdx_iff_getElem?.2 hi)
 have h2:=List.all_eq_true.1 h1 e he
 simpa [Nat.blt_eq] using h2
theorem tail_seq {Q:Exit→Act→World→Prop} {l:List Oper} {n1:Nat} (hok:tailOk l n1=true):∀ (m j:Nat) (D:Array Bool) (a:Act) (w:World),j+m=l.length→n1≤j→D.size=l.length→(∀ i,i<l.length→D.getD i false=decide (i<j)) →
  wpOps P l.toArray Q (List.range' j m) a w→wpAny P .any l.toArray Q m D a w:=by
 simp only [tailOk,Bool.and_eq_true] at hok
 intro m
 induction m with
 | zero =>
  intro j D a w hjm hj hsz hD h
  refine ⟨List.eq_nil_iff_forall_not_mem.2 (fun i hi=>?_),h⟩
  obtain ⟨h0,o,ho,_⟩:=mem_ready.1 hi
  have hil:i<l.length:=(List.getElem?_eq_some_iff.1 (show l[i]?=some o by simpa using ho)).1
  have:=hD i hil
  rw [decide_eq_true (by omega)] at this
  have hid:i<D.size:=by omega
  simp [Array.getD,hid] at this h0
  rw [this] at h0;cases h0
 | succ m ih =>
  intro j D a w hjm hj hsz hD h
  have hready:∀ i,i∈Region.ready .any l.toArray D ↔ i=j:=fun i=>by
   rw [mem_ready]
   constructor
   ·rintro ⟨h0,o,ho,hall⟩
    have hlo:l[i]?=some o:=by simpa using ho
    have hil:i<l.length:=(List.getElem?_eq_some_iff.1 hlo).1
    have hid:i<D.size:=by omega
    have h1:=hD i hil
    have h2:¬ i<j:=fun hlt=>by
     rw [decide_eq_true hlt] at h1
     simp [Array.getD,hid] at h1 h0
     rw [h1] at h0;cases h0
    by_cases hij:i=j
    ·exact hij
    ·exfalso
     have h3:=List.all_eq_true.1 hok.2 (o,i) (List.mem_zipIdx_iff_getElem?.2 hlo)
     simp only [Bool.or_eq_true,Nat.blt_eq] at h3
     rcases h3 with h3|h3
     ·omega
     ·have h4:=List.all_eq_true.1 h3 j (List.mem_range.2 (by omega))
      obtain ⟨e,he,hb,hej⟩:=edges_mem (by simpa using h4)
      have h5:=hall e (by simpa using he) hb
      rw [hej,hD j (by omega)] at h5
      simp at h5
   ·rintro rfl
    have hil:i<l.length:=by omega
    refine ⟨?_,l[i],by simp [hil],fun e he hb=>?_⟩
    ·have h1:=hD i hil
     have hid:i<D.size:=by omega
     simp [Array.getD,hid] at h1 ⊢
     exact h1
    ·have hlt:=edgesDown_spec hok.1 (show l[i]?=some l[i] by simp) (mem_edges he hb)
     rw [hD e.on (by omega)]
     exact decide_eq_true hlt
  refine ⟨fun hnil=>?_,fun i hi=>?_⟩
  ·have:=(hready j).2 rfl
   rw [hnil] at this;cases this
  ·obtain rfl:=(hready i).1 hi
   rw [List.range'_succ,wpOps_cons] at h
   refine wpOp_mono (fun a' w' h'=>ih (i+1) _ a' w' (by omega) (by omega) (by simp [hsz]) (fun x hx=>?_) h') h
   by_cases hxi:x=i
   ·subst hxi
    have:x<D.size:=by omega
    simp [Array.getD,this]
   ·rw [getD_set_ne false (Ne.symm hxi),hD x hx]
    congr 1
    exact propext ⟨fun h=>by omega,fun h=>by omega⟩
theorem wpOp_take {Q Q1:Exit→Act→World→Prop} {l:List Oper} {n1 i:Nat} (hi:i<n1) (hQ:∀ e a w,e≠.normal→Q1 e a w→Q e a w) {X:Act→World→Prop} {a:Act} {w:World} (hgd:(l.take n1).all (fun o=>match o.guard with|some (g,_)=>Nat.blt g n1|none=>true)=true)
  (h:wpOp P (l.take n1).toArray Q1 i X a w):wpOp P l.toArray Q i X a w:=by
 unfold wpOp at *
 have e1:(l.take n1).toArray[i]?=l.toArray[i]?:=by simp [hi]
 rw [e1] at h
 cases ho:l.toArray[i]? with
 | none=>rw [ho] at h;exact h
 | some o =>
  rw [ho] at h
  simp only at h ⊢
  have hy:Region.wanted o (yielded (l.take n1).toArray a.tmps)=Region.wanted o (yielded l.toArray a.tmps):=by
   unfold Region.wanted
   cases hg:o.guard with
   | none=>rfl
   | some gw =>
    obtain ⟨g,want⟩:=gw
    have hm:o∈l.take n1:=List.mem_iff_getElem?.2 ⟨i,by rw [List.getElem?_take,if_pos hi];simpa using ho⟩
    have hgl:=List.all_eq_true.1 hgd o hm
    simp only [hg,Nat.blt_eq] at hgl
    have:yielded (l.take n1).toArray a.tmps g=yielded l.toArray a.tmps g:=by
     unfold yielded
     have e2:(l.take n1).toArray[g]?=l.toArray[g]?:=by simp [hgl]
     rw [e2]
    simp only [this]
  rw [hy] at h
  split
  ·rename_i hw
   rw [if_pos hw] at h
   rcases h with h|⟨h1,⟨a0,w0,h2⟩⟩
   ·refine .inl ?_
    unfold Oper.wp at *
    generalize (execOp a.eval o).run P w=r at *
    cases r with
    | ok n w' =>
     cases n<;>simp only [Oper.upon] at h ⊢<;>first|exact h|skip
     ·refine h.mono (fun e w'' he=>?_)
      cases e with
      | returned v=>exact he
      | panicked c=>exact hQ _ _ _ (by simp) he
      | outgrown=>obtain ⟨a0,w0,h2⟩:=he;exact ⟨a0,w0,hQ _ _ _ (by simp) h2⟩
    | halt x w'=>cases x<;>simp only [Oper.upon] at h ⊢<;>exact hQ _ _ _ (by simp) h
   ·exact .inr ⟨h1,⟨a0,w0,hQ _ _ _ (by simp) h2⟩⟩
  ·rename_i hw
   rw [if_neg hw] at h
   exact h
theorem head_any {Q Q1:Exit→Act→World→Prop} {l:List Oper} {n1:Nat} (hn1:n1≤l.length) (hok:tailOk l n1=true) (hQ:∀ e a w,e≠.normal→Q1 e a w→Q e a w) (hgd:(l.take n1).all (fun o=>match o.guard with|some (g,_)=>Nat.blt g n1|none=>true)=true)
  (htail:∀ a w,Q1 .normal a w→wpOps P l.toArray Q (List.range' n1 (l.length-n1)) a w) :
  ∀ (fuel:Nat) (D D':Array Bool) (a:Act) (w:World),D.size=n1→D'.size=l.length→(∀ i,i<n1→D'.getD i false=D.getD i false)→(∀ i,n1≤i→i<l.length→D'.getD i false=false)→D.toList.count false=fuel →
   wpAny P .any (l.take n1).toArray Q1 fuel D a w→wpAny P .any l.toArray Q (fuel+(l.length-n1)) D' a w:=by
 have hok':=hok
 simp only [tailOk,Bool.and_eq_true] at hok'
 have hget:∀ i,i<n1→(l.take n1)[i]?=l[i]?:=fun i hi=>by rw [List.getElem?_take,if_pos hi]
 intro fuel
 induction fuel with
 | zero =>
  intro D D' a w hD hD' h1 h2 hc h
  rw [Nat.zero_add]
  have hall:∀ i,i<n1→D.getD i false=true:=fun i hi=>by
   have hid:i<D.size:=by omega
   cases hb:D.getD i false with
   | true=>rfl
   | false =>
    exfalso
    have:=List.count_eq_zero.1 hc
    apply this
    rw [List.mem_iff_getElem?]
    exact ⟨i,by simp [Array.getD,hid] at hb;simp [hid,hb]⟩
  refine tail_seq hok _ n1 D' a w (by omega) (Nat.le_refl _) hD' (fun i hi=>?_) (htail a w h.2)
  by_cases hin:i<n1
  ·rw [h1 i hin,hall i hin,decide_eq_true hin]
  ·rw [h2 i (by omega) hi,decide_eq_false hin]
 | succ fuel ih =>
  intro D D' a w hD hD' h1 h2 hc h
  have hne:∃ i,i<n1∧D.getD i false=false:=by
   have:0<D.toList.count false:=by omega
   have hm:=List.count_pos_iff.1 this
   obtain ⟨i,hi⟩:=List.mem_iff_getElem?.1 hm
   have hid:i<D.size:=by simpa using (List.getElem?_eq_some_iff.1 hi).1
   exact ⟨i,by omega,by simp [Array.getD,hid];simpa [hid] using hi⟩
  have hready:∀ i,i∈Region.ready .any l.toArray D' ↔ i∈Region.ready .any (l.take n1).toArray D:=fun i=>by
   rw [mem_ready,mem_ready]
   constructor
   ·rintro ⟨h0,o,ho,hall⟩
    have hlo:l[i]?=some o:=by simpa using ho
    have hil:i<l.length:=(List.getElem?_eq_some_iff.1 hlo).1
    have hin:i<n1:=by
     rcases Nat.lt_or_ge i n1 with h|h
     ·exact h
     ·exfalso
      obtain ⟨x,hx,hxf⟩:=hne
      have h3:=List.all_eq_true.1 hok'.2 (o,i) (List.mem_zipIdx_iff_getElem?.2 hlo)
      simp only [Bool.or_eq_true,Nat.blt_eq] at h3
      rcases h3 with h3|h3
      ·omega
      ·have h4:=List.all_eq_true.1 h3 x (List.mem_range.2 (by omega))
       obtain ⟨e,he,hb,hex⟩:=edges_mem (by simpa using h4)
       have h5:=hall e he hb
       rw [hex,h1 x hx,hxf] at h5;cases h5
    have hid:i<D.size:=by omega
    have hid':i<D'.size:=by omega
    refine ⟨?_,o,by simpa [hget i hin] using hlo,fun e he hb=>?_⟩
    ·have:=h1 i hin
     simp [Array.getD,hid,hid'] at this h0 ⊢
     rw [← this];exact h0
    ·have hlt:=edgesDown_spec hok'.1 hlo (mem_edges he hb)
     rw [← h1 e.on (by omega)]
     exact hall e he hb
   ·rintro ⟨h0,o,ho,hall⟩
    have hlo':(l.take n1)[i]?=some o:=by simpa using ho
    have hin:i<n1:=by have:=(List.getElem?_eq_some_iff.1 hlo').1;simp at this;omega
    have hlo:l[i]?=some o:=by rw [← hget i hin];exact hlo'
    have hid:i<D.size:=by omega
    have hid':i<D'.size:=by omega
    refine ⟨?_,o,by simpa using hlo,fun e he hb=>?_⟩
    ·have:=h1 i hin
     simp [Array.getD,hid,hid'] at this h0 ⊢
     rw [this];exact h0
    ·have hlt:=edgesDown_spec hok'.1 hlo (mem_edges he hb)
     rw [h1 e.on (by omega)]
     exact hall e he hb
  have hsome:Region.ready .any (l.take n1).toArray D≠[]:=fun hnil=>by

   obtain ⟨x,hx,hxf⟩:=hne
   have:∀ x,x<n1→D.getD x false=true:=by
    intro x
    induction x using Nat.strongRecOn with
    | _ x ihx =>
     intro hx
     cases hb:D.getD x false with
     | true=>rfl
     | false =>
      exfalso
      have hxd:x<D.size:=by omega
      have hxl:x<l.length:=by omega
      have hm:x∈Region.ready .any (l.take n1).toArray D:=by
       rw [mem_ready]
       refine ⟨by simp [Array.getD,hxd] at hb ⊢;exact hb,l[x],by simp [hx,hxl],fun e he hbi=>?_⟩
       have hlt:=edgesDown_spec hok'.1 (show l[x]?=some l[x] by simp) (mem_edges he hbi)
       exact ihx _ hlt (by omega)
      rw [hnil] at hm;cases hm
   rw [this x hx] at hxf;cases hxf
  rw [Nat.add_right_comm]
  refine ⟨fun hnil=>?_,fun i hi=>?_⟩
  ·exfalso
   apply hsome
   refine List.eq_nil_iff_forall_not_mem.2 (fun i hi=>?_)
   have:=(hready i).2 hi
   rw [hnil] at this;cases this
  ·have hi1:=(hready i).1 hi
   have h3:=h.2 i hi1
   obtain ⟨h0,o,ho,_⟩:=mem_ready.1 hi1
   have hin:i<n1:=by have:=(List.getElem?_eq_some_iff.1 (show (l.take n1)[i]?=some o by simpa using ho)).1;simp at this;omega
   refine wpOp_mono (fun a' w' h'=>ih (D.setIfInBounds i true) (D'.setIfInBounds i true) a' w' (by simp [hD]) (by simp [hD']) ?_ ?_ ?_ h') (wpOp_take hin hQ hgd h3)
   ·intro x hx
    by_cases hxi:x=i
    ·subst hxi
     have h6:x<D.size:=by omega
     have h7:x<D'.size:=by omega
     simp [Array.getD,h6,h7]
    ·rw [getD_set_ne false (Ne.symm hxi),getD_set_ne false (Ne.symm hxi)];exact h1 x hx
   ·intro x hx hxl
    rw [getD_set_ne false (by omega)];exact h2 x hx hxl
   ·have hid:i<D.size:=by omega
    have:(D.setIfInBounds i true).toList.count false+1=D.toList.count false:=by
     rw [Array.toList_setIfInBounds]
     exact count_set_true D.toList i (by simp [Array.getD,hid] at h0;simp [hid,h0])
    omega
theorem WS_tail {id:Nat} {l:List Oper} (hm:P.follows .mixedOrders=true) (n1:Nat) (hn:((l.take n1).length=n1)) (hok:tailOk l n1=true) (hgd:(l.take n1).all (fun o=>match o.guard with|some (g,_)=>Nat.blt g n1|none=>true)=true)
  (h:∀ w1,Ext [] w w1→WA P N (WL P N (WS P N f R k) l.toArray (l.drop n1)) (l.take n1).toArray (fun w'=>Ext [] w w') n1 n1 [] ρ w1) :
  WS P N f R (.code (.region id l.toArray true)::k) ρ w:=by
 have hn1:n1≤l.length:=by simp at hn;omega
 refine WS_wp fun a ha=>wp_region_any hm ?_
 have h1:=wpAny_of_held _ _ _ _ ((h _ Ext.drew0).out a ha)
 have h2:=head_any (Q:=QN N (WS P N f R k)) hn1 hok (fun e a w hne hq=>absurd hq.1 hne) hgd (fun a w hq=>by
  obtain ⟨_,ρ',hr,hw⟩:=hq
  have h3:=hw.out a hr
  have h4:=wpOps_eq_wpList (P:=P) (ops:=l.toArray) (Q:=QN N (WS P N f R k)) (l.drop n1) n1 (fun j=>by simp)
  rw [List.length_drop] at h4
  rw [h4];exact h3) n1 (lst n1 []) (Array.replicate l.length false) a _ (by simp [lst]) (by simp) (fun i hi=>by simp [lst,Array.getD,hi,Nat.lt_of_lt_of_le hi hn1]) (fun i hi hil=>by simp [Array.getD,hil]) (by simp [lst]) h1
 rw [show n1+(l.length-n1)=l.toArray.size by simp;omega] at h2
 simpa using h2
end
end Go.K
namespace Go.K
open Go Go.RowKit

def splice (l:List Value) (o:Nat) (vs:List Value):List Value:=l.take o++vs++l.drop (o+vs.length)
def fillL (place:Nat→Option (Nat × Nat)) (cells:List Value):List (Nat × Value)→Option (List Value)
 | []=>some cells
 | (i,v)::rest=>match place i with
  | none=>none
  | some (off,size)=>cond (Nat.beq v.cells.size size && Nat.ble (off+size) cells.length) (fillL place (splice cells off v.cells.toList) rest) none
theorem foldl_splice:∀ (cs:List Value) (m o:Nat) (acc:List Value),o+m+cs.length≤acc.length →
  (cs.zipIdx m).foldl (fun (cs:Array Value) (c:Value × Nat)=>cs.setIfInBounds (o+c.2) c.1) acc.toArray=(acc.take (o+m)++cs++acc.drop (o+m+cs.length)).toArray
 | [],m,o,acc,_=>by simp
 | c::cs,m,o,acc,hacc=>by
  simp only [List.length_cons] at hacc
  simp only [List.zipIdx_cons,List.foldl_cons,List.setIfInBounds_toArray]
  rw [foldl_splice cs (m+1) o (acc.set (o+m) c) (by rw [List.length_set];omega)]
  congr 1
  have e:=list_seg_step acc (o+m) c cs (by omega)
  simpa [Nat.add_assoc,Nat.add_comm,Nat.add_left_comm] using e
theorem fill_list (place:Nat→Option (Nat × Nat)):∀ (ps:List (Nat × Value)) (cells out:List Value),fillL place cells ps=some out→Instr.fill place cells.toArray ps=some out.toArray
 | [],cells,out,h=>by simp [fillL] at h;subst h;rfl
 | (i,v)::rest,cells,out,h=>by
  unfold fillL at h
  cases hp:place i with
  | none=>rw [hp] at h;cases h
  | some os =>
   obtain ⟨off,size⟩:=os
   rw [hp] at h
   simp only at h
   cases hc:(Nat.beq v.cells.size size && Nat.ble (off+size) cells.length) with
   | false=>rw [hc] at h;cases h
   | true =>
    rw [hc] at h
    rw [Bool.and_eq_true] at hc
    have h1:=Nat.eq_of_beq_eq_true hc.1
    have h2:=Nat.le_of_ble_eq_true hc.2
    have hs:=foldl_splice v.cells.toList 0 off cells (by simp [h1];omega)
    simp only [Instr.fill,hp]
    rw [if_neg (by simp [h1];omega)]
    rw [← Array.foldl_toList,Array.toList_zipIdx,hs]
    exact fill_list place rest _ out h
def plcs (P:Program) (t:TypeId):Option (List (Nat × Nat)) :=
 match P.underlying t with
 | some (.struct fs)=>fs.toList.mapM fun f=>(P.info? f.type).map fun i=>(f.offset,i.size)
 | _=>none
def evP (ρ:Fr):List (Nat × Operand)→List (Nat × Value)
 | []=>[]
 | (i,x)::l=>(i,ev ρ x)::evP ρ l
theorem evP_map (ρ:Fr):∀ l,evP ρ l=l.map fun p=>(p.1,ev ρ p.2)
 | []=>rfl
 | (i,x)::l=>by simp [evP,evP_map ρ l]
section
variable {P:Program} {N:Nat} {K:Fr→World→Prop} {ρ:Fr} {w:World} {v:Value} {dst:Option Nat} {d:Nat} {ty:TypeId} {pos:String} {af:Array Edge} {gd:Option (Nat × Bool)} {x y z:Operand} {t u e:TypeId} {q:IntKind}
theorem zer_run {zs:List Value} (hz:zer P t=some zs):∃ zv,(zeroValue t).run P w=.ok zv w∧zv.cells.toList=zs:=by
 unfold zer at hz
 cases hi:P.info? t with
 | none=>simp [hi] at hz
 | some i =>
  cases hzz:i.zero with
  | none=>simp [hi,hzz] at hz
  | some zv =>
   simp [hi,hzz] at hz
   exact ⟨zv,by simp [zeroValue,typeInfo,hi,hzz],hz⟩
theorem mapM_places {P:Program} {w:World}:∀ (fs:List Field) (pl:List (Nat × Nat)),(fs.mapM fun f=>(P.info? f.type).map fun i=>(f.offset,i.size))=some pl →
  (fs.mapM (m:=Sem) fun f=>do pure (f.offset,← sizeOf f.type)).run P w=.ok pl w
 | [],pl,h=>by simp at h;subst h;rfl
 | f::fs,pl,h=>by
  rw [List.mapM_cons] at h
  cases hi:P.info? f.type with
  | none=>simp [hi] at h
  | some i =>
   cases hr:(fs.mapM fun f=>(P.info? f.type).map fun i=>(f.offset,i.size)) with
   | none=>simp [hi,hr] at h
   | some pl' =>
    simp [hi,hr] at h
    subst h
    have ih:=mapM_places (w:=w) fs pl' hr
    rw [List.mapM_cons]
    have hsz:(sizeOf f.type).run P w=.ok i.size w:=by simp [sizeOf,typeInfo,hi]
    simp only [Sem.run_bind,hsz,Result.andThen_ok,Sem.run_pure,ih]
theorem k_buildS {ps:List (Nat × Operand)} {zs cs:List Value} {pl:List (Nat × Nat)} (hz:zer P t=some zs) (hp:plcs P t=some pl) (hf:fillL (fun i=>pl[i]?) zs (evP ρ ps)=some cs) :
  Run P ρ ⟨dst,.build t ps.toArray,ty,pos,af,gd⟩ w (.agg cs.toArray) w:=by
 obtain ⟨zv,hzr,hzc⟩:=zer_run (P:=P) (w:=w) hz
 unfold plcs at hp
 split at hp
 ·rename_i fs hu
  have hm:=mapM_places (w:=w) fs.toList pl hp
  have hm':(fs.mapM (m:=Sem) fun f=>do pure (f.offset,← sizeOf f.type)).run P w=.ok pl.toArray w:=by
   rw [Array.mapM_eq_mapM_toList]
   simp only [Sem.run_map,hm,Result.andThen_ok]
  have hfl:=fill_list _ _ _ _ hf
  have hzs:zv.cells=zs.toArray:=by rw [← hzc]
  constructor
  unfold execOp
  simp only [Instr.build,Sem.run_bind,hzr,Result.andThen_ok,run_underlying hu,hm',hzs]
  rw [evP_map] at hfl
  simp [hfl]
 ·cases hp
theorem k_buildA {ps:List (Nat × Operand)} {zs cs:List Value} {n sz:Nat} {g:Bool} (hz:zer P t=some zs) (ha:arr P t=some (n,(g,sz))) (hf:fillL (fun i=>some (i*sz,sz)) zs (evP ρ ps)=some cs) :
  Run P ρ ⟨dst,.build t ps.toArray,ty,pos,af,gd⟩ w (.agg cs.toArray) w:=by
 obtain ⟨zv,hzr,hzc⟩:=zer_run (P:=P) (w:=w) hz
 obtain ⟨e,hu,hs⟩:=arr_spec ha
 have hfl:=fill_list _ _ _ _ hf
 have hzs:zv.cells=zs.toArray:=by rw [← hzc]
 constructor
 unfold execOp
 simp only [Instr.build,Sem.run_bind,hzr,Result.andThen_ok,run_underlying hu,shp_size hs,hzs]
 rw [evP_map] at hfl
 simp [hfl]
end
end Go.K
namespace Go.K
open Go Go.RowKit Go.ChangeShapes Go.WideShapes

section
variable {H:Type} {enc:TypeId × Value→H} {P:Program} {W:World} {v:Value} {d:DataW H} {ps:List MemPlace} {t e:TypeId} {q:IntKind} {sp:Nat→Bool} {hd:Bool}
theorem trodAll_stays (hl:laidOutB P=true) {W':World} {sp':Nat→Bool}:∀ {ts:List TypeId} {vs:List Value} {ds:List (DataW H)} {ps:List MemPlace},ts.all (fun t=>P.readableRec t && decide (t<P.types.size))=true →
  DataW.TrodAll enc P W 0 (fun _=>true) true ts vs ds ps→(∀ p∈ps,W.sameAt W' p)→(∀ p∈ps,sp' p.block=true)→DataW.TrodAll enc P W' 0 sp' true ts vs ds ps
 | [],vs,ds,ps,_,h,_,_=>by
  obtain ⟨rfl,rfl,rfl⟩:=trodAll_nil h
  rfl
 | t::ts,vs,ds,ps,ht,h,hs,hsp=>by
  obtain ⟨v,vs',d,ds',p,q,rfl,rfl,rfl,h1,h2⟩:=trodAll_cons h
  simp only [List.all_cons,Bool.and_eq_true,decide_eq_true_eq] at ht
  exact ⟨p,q,WideElems.Trod_stays hl ht.1.1 ht.1.2 h1 (fun x hx=>hs x (by simp [hx])) (fun x hx=>hsp x (by simp [hx])),
   trodAll_stays hl ht.2 h2 (fun x hx=>hs x (by simp [hx])) (fun x hx=>hsp x (by simp [hx])),rfl⟩
theorem law_post {f:Func} {s:ChangeSpec} {W':World} {args:Array Value} {ds gs:List (DataW H)} {before:List MemPlace} {tb:TypeId} (hl:laidOutB P=true) (hts:f.params.toList.all (fun t=>P.readableRec t && decide (t<P.types.size))=true)
  (hW:DataW.Whole enc P f.params.toList s.vars false W args.toList ds gs before) (hv:s.vars=[]) (hrt:f.resultTypes=#[tb]) (htb:P.underlying tb=some .bool) (hfn:(s.fn H ds).results=[.lit (.bool true)]∧(s.fn H ds).args=ds∧(s.fn H ds).vars=[])
  (hb:Ext [] W W'):s.post enc P f false true false false W args (.bool true) W':=by
 have hold:∀ p∈before,p.block<W.heap.size:=fun p hp=>by simpa using hW.lt p hp
 have hW':=hW
 obtain ⟨p,q,hA,hV,rfl,hfz,hnd⟩:=hW
 have hb':=hb.below
 rw [hv] at hV
 obtain ⟨rfl,rfl⟩:=trodVars_none hV
 rw [← List.append_nil ds] at hfn
 refine ⟨ds,[],p++[],[],p,[],hW',?_,?_,?_,?_,fun h=>by cases h⟩
 ·rw [hfn.1,hrt]
  exact ⟨[],[],⟨1,by simp [Value.cells,DataW.trod,htb]⟩,rfl,rfl⟩
 ·rw [hfn.2.1,List.append_nil]
  exact trodAll_stays hl hts hA (fun x hx=>hb'.same (hold x (by simp [hx]))) (fun x hx=>by simpa using hold x (by simp [hx]))
 ·rw [hfn.2.2,hv];rfl
 ·exact hb'.frame _
theorem Does.enter {f:FuncId} {fn:Func} {c:Code} {R:Value→World→Prop} {args:Array Value} (h:Does P f args W R) (hf:P.funcs[f]?=some fn) (hn:(fn.name == "runtime.NumGoroutine")=false) (hb:fn.body=some c) :
  Calls P f args W (fun e w'=>∃ v,e=.returned v∧R v w') :=
 h.calls ⟨W,by unfold callFunc;simp only [Sem.run_bind,run_program,Result.andThen_ok,hf,hn,hb];rfl⟩

def Fits (q:IntKind) (n:Int):Prop:=q.min≤n∧n≤q.max
theorem fits_wf {n:Int} (h:(Lit.int q n).wf=true):Fits q n:=by
 simp only [Lit.wf,Bool.and_eq_true,decide_eq_true_eq] at h
 exact h
theorem fits_u8 {n:Int} (h:Fits .u8 n):∃ m:Nat,n=m∧m<256:=by
 obtain ⟨h1,h2⟩:=h
 simp only [IntKind.min,IntKind.max,IntKind.signed,IntKind.bits] at h1 h2
 simp at h1 h2
 exact ⟨n.toNat,by omega,by omega⟩
theorem fits_u16 {n:Int} (h:Fits .u16 n):∃ m:Nat,n=m∧m<65536:=by
 obtain ⟨h1,h2⟩:=h
 simp only [IntKind.min,IntKind.max,IntKind.signed,IntKind.bits] at h1 h2
 simp at h1 h2
 exact ⟨n.toNat,by omega,by omega⟩
theorem fits_u32 {n:Int} (h:Fits .u32 n):∃ m:Nat,n=m∧m<4294967296:=by
 obtain ⟨h1,h2⟩:=h
 simp only [IntKind.min,IntKind.max,IntKind.signed,IntKind.bits] at h1 h2
 simp at h1 h2
 exact ⟨n.toNat,by omega,by omega⟩
theorem fits_u64 {n:Int} (h:Fits .u64 n):∃ m:Nat,n=m∧m<18446744073709551616:=by
 obtain ⟨h1,h2⟩:=h
 simp only [IntKind.min,IntKind.max,IntKind.signed,IntKind.bits] at h1 h2
 simp at h1 h2
 exact ⟨n.toNat,by omega,by omega⟩
theorem fits_i8 {n:Int} (h:Fits .i8 n):-128≤n∧n≤127:=by
 obtain ⟨h1,h2⟩:=h
 simp only [IntKind.min,IntKind.max,IntKind.signed,IntKind.bits] at h1 h2
 simp at h1 h2
 exact ⟨by omega,by omega⟩
variable {r:Reach} {b0:Nat}
end
end Go.K
namespace Go.K
open Go Go.RowKit

section
variable {P:Program}
variable {N:Nat} {K:Fr→World→Prop} {ρ:Fr} {w:World} {v:Value} {dst:Option Nat} {d:Nat} {ty:TypeId} {pos:String} {af:Array Edge} {gd:Option (Nat × Bool)} {x y z:Operand} {t u e:TypeId}
section
open Go.ChangeShapes Go.WideShapes
variable {H:Type} {enc:TypeId × Value→H} {W:World} {vv:Value} {dd:DataW H} {ps:List MemPlace} {sp:Nat→Bool} {hd:Bool} {base fuel:Nat}
end
variable {f:FuncId} {R:Value→World→Prop} {k:List Item}
theorem run_loadA {b s:Nat} {cs:Array Value} (hB:Blk w b e cs) (hl:cs.size=s) (ht:shp P t=some (true,s)):(loadVar t ⟨b,0,none⟩).run P w=.ok (.agg cs) w:=by
 have h1:(loadCells (At (some ⟨b,0,none⟩) 0) cs.toList.length).run P w=.ok cs w:=by
  have:=run_loadCells_list (P:=P) w (At (some ⟨b,0,none⟩) 0) cs.toList (fun i v hv=>by
   have:=hB.sl0.cell i v hv
   rw [show (At (some ⟨b,0,none⟩) 0).add i=At (some ⟨b,0,none⟩) i from by unfold At;rw [addr_add];simp]
   exact this)
  simpa using this
 simp only [Array.length_toList,hl] at h1
 have e:At (some ⟨b,0,none⟩) 0=⟨b,0,none⟩:=rfl
 rw [e] at h1
 simp [loadVar,shp_isAgg ht,shp_size ht,h1]
theorem WS_retc1 {fn:Func} {c b s:Nat} {cs:Array Value} (hf:P.funcs[f]?=some fn) (hr:fn.results=#[.cell c t]) (hc:ρ c=.pointer (some ⟨b,0,none⟩)) (hB:Blk w b e cs) (hl:cs.size=s) (ht:shp P t=some (true,s)) (h:R (.agg cs) w):WS P N f R (.code .ret::k) ρ w :=
 WS_leave hf step_ret' (fun a ha=>by
  have:=ha.val c
  rw [hc,Array.getD_eq_getD_getElem?] at this
  simp [results,hr,this,asAddr,run_loadA hB hl ht]) h
theorem WS_retc2 {fn:Func} {c b s r:Nat} {cs:Array Value} (hf:P.funcs[f]?=some fn) (hr:fn.results=#[.cell c t,.tmp r]) (hc:ρ c=.pointer (some ⟨b,0,none⟩)) (hB:Blk w b e cs) (hl:cs.size=s) (ht:shp P t=some (true,s)) (h:R (.tuple #[.agg cs,ρ r]) w):WS P N f R (.code .ret::k) ρ w :=
 WS_leave hf step_ret' (fun a ha=>by
  have h1:=ha.val c
  rw [hc,Array.getD_eq_getD_getElem?] at h1
  have h2:=ha.val r
  rw [Array.getD_eq_getD_getElem?] at h2
  simp [results,hr,h1,← h2,asAddr,run_loadA hB hl ht]) h
end
end Go.K
namespace Go.K
open Go Go.RowKit

section
variable {P:Program} {N:Nat} {f:FuncId} {R:Value→World→Prop} {k:List Item} {ρ:Fr} {w:World}
theorem WS_keep (L:List (Nat × Value)) (h:Has ρ L) (hk:∀ σ,WS P N f R k (updL L σ) w):WS P N f R k ρ w:=by
 rw [← updL_of_has h];exact hk _
theorem WL_keep {C:Fr→World→Prop} {ops:Array Oper} {l:List Oper} (L:List (Nat × Value)) (h:Has ρ L) (hk:∀ σ,WL P N C ops l (updL L σ) w):WL P N C ops l ρ w:=by
 rw [← updL_of_has h];exact hk _
def Stable (s:Value→World→Prop):Prop:=∀ v w w',s v w→Ext [] w w'→s v w'
def StL:List (Value→World→Prop)→Prop
 | []=>True
 | s::l=>Stable s∧StL l
def nthS (l:List (Value→World→Prop)) (i:Nat):Value→World→Prop :=
 match l,i with
 | [],_=>fun _ _=>True
 | s::_,0=>s
 | _::l,i+1=>nthS l i
theorem StL.nth:∀ (l:List (Value→World→Prop)) (i:Nat),StL l→Stable (nthS l i)
 | [],_,_=>fun _ _ _ _ _=>trivial
 | _::_,0,h=>h.1
 | _::l,i+1,h=>StL.nth l i h.2
def Is (x:Value):Value→World→Prop:=fun v _=>v=x
theorem Is.st {x:Value}:Stable (Is x):=fun _ _ _ h _=>h
theorem sp_is {o:Oper} {v:Value} (h:Run P ρ o w v w) (hd:dstOk N o.dst=true):Stp P N ρ o w (fun ρ' w'=>Ext [] w w'∧∃ u,ρ'=updo ρ o.dst u∧Is v u w'):=S_run h hd ⟨.refl,v,rfl,rfl⟩
end
section
variable {P:Program} {ρ:Fr} {w:World} {dst:Option Nat} {ty:TypeId} {pos:String} {af:Array Edge} {gd:Option (Nat × Bool)} {x y z u:Operand} {q:IntKind} {ats:Array TypeId}
theorem k_slchN {t e:TypeId} {a:Option Addr} {n cap sz h:Nat} {g:Bool} {kh:IntKind} (hx:ev ρ x=.slice a n cap) (hz:ev ρ z=.int kh (h:Int)) (ht:sle P t=some (e,(g,sz))) (h0:h≤cap) :
  Run P ρ ⟨dst,.slice t x none (some z) none,ty,pos,af,gd⟩ w (.slice (if cap=0 then a else a.map (·.add 0)) h cap) w :=
 k_slch (h:=(h:Int)) hx hz ht (by omega)
theorem k_ix1S {t e:TypeId} {i:Int} {len cap b o:Nat} {g:Bool} {q':IntKind} (hx:ev ρ x=.slice (some ⟨b,o,none⟩) len cap) (hy:ev ρ y=.int q' i) (ht:sle P t=some (e,(g,1))) (hi:0≤i∧i<len) :
  Run P ρ ⟨dst,.indexAddr t x y,ty,pos,af,gd⟩ w (.pointer (some (At (some ⟨b,o,none⟩) i.toNat))) w:=by
 obtain ⟨hu,hs⟩:=sle_spec ht
 constructor;unfold execOp
 simp [hx,hy,Instr.indexAt,run_underlying hu,asIntOf,hi,shp_size hs,addr_add,At]
theorem made_one (z:Value) (n:Nat):madeCells [z].toArray (n*1)=(List.replicate n z).toArray:=by
 rw [Nat.mul_one]
 apply Array.toList_inj.1
 simpa using toList_madeCells_one z n
end
section
open Go.ChangeShapes Go.WideShapes
variable {H:Type} {enc:TypeId × Value→H} {P:Program} {W:World} {d:DataW H} {ps:List MemPlace} {t e:TypeId} {sp:Nat→Bool} {hd:Bool}
end
end Go.K
namespace Go.K
open Go Go.RowKit

def MapI (w:World) (b:Nat) (q:IntKind) (Q:Value→Prop):Prop:=∃ es clock,w.heap[b]?=some (.map es clock)∧∀ x∈es.toList,MapKept.IsKey (.int q) x.key∧Q x.val
theorem MapI.lt {w:World} {b:Nat} {q:IntKind} {Q:Value→Prop} (h:MapI w b q Q):b<w.heap.size:=by
 obtain ⟨es,c,hb,_⟩:=h
 exact (Array.getElem?_eq_some_iff.1 hb).1
theorem MapI.ext {S:List Nat} {w w':World} {b:Nat} {q:IntKind} {Q:Value→Prop} (h:MapI w b q Q) (hE:Ext S w w') (hb:b ∉ S):MapI w' b q Q:=by
 have hlt:=h.lt
 obtain ⟨es,c,hm,hq⟩:=h
 exact ⟨es,c,(hE.block b hlt hb).trans hm,hq⟩
theorem MapI.ext0 {w w':World} {b:Nat} {q:IntKind} {Q:Value→Prop} (h:MapI w b q Q) (hE:Ext [] w w'):MapI w' b q Q:=h.ext hE (by simp)
def zerV (P:Program) (t:TypeId):Option Value:=(P.info? t).bind (·.zero)
def mpk (P:Program) (t:TypeId):Option (IntKind × TypeId) :=
 match P.underlying t with
 | some (.map k e)=>(kindOf P k).map fun q=>(q,e)
 | _=>none
theorem mpk_spec {P:Program} {t e:TypeId} {q:IntKind} (h:mpk P t=some (q,e)):∃ k,P.underlying t=some (.map k e)∧P.underlying k=some (.int q):=by
 unfold mpk at h
 split at h
 ·rename_i k e' hu
  simp only [Option.map_eq_some_iff,Prod.mk.injEq] at h
  obtain ⟨q',hq,rfl,rfl⟩:=h
  exact ⟨k,hu,kindOf_spec hq⟩
 ·cases h
section
variable {P:Program} {N:Nat} {K:Fr→World→Prop} {ρ:Fr} {w:World} {dst:Option Nat} {d:Nat} {ty:TypeId} {pos:String} {af:Array Edge} {gd:Option (Nat × Bool)} {x y z:Operand} {t e:TypeId} {q:IntKind} {Q:Value→Prop} {b:Nat} {v:Value}
theorem k_makeFunc1 {fn:Fn} (hx:ev ρ x=v):Run P ρ ⟨dst,.makeFunc fn #[] #[x],ty,pos,af,gd⟩ w (.func fn #[] #[v]) w:=by
 constructor;unfold execOp;simp [Instr.makeFunc,hx]
theorem S_makeMap (hd:Nat.blt d N=true) (hk:∀ w' b,b=w.heap.size→Ext [] w w'→MapI w' b q Q→w'.heap.size=b+1→K (upd ρ d (.map (some b))) w'):Stp P N ρ ⟨some d,.makeMap t none,ty,pos,af,gd⟩ w K:=by
 refine S_run (w':=w.alloc (.map #[] 0)) (v:=.map (some w.heap.size)) ?_ hd (hk _ _ rfl (ext_alloc _ _) ⟨#[],0,heap_alloc_new w _,by simp⟩ (by simp))
 constructor;unfold execOp
 simp [Instr.makeMap]
theorem S_mapSet {i:Int} (ht:mpk P t=some (q,e)) (hx:ev ρ x=.map (some b)) (hy:ev ρ y=.int q i) (hz:ev ρ z=v) (hM:MapI w b q Q) (hv:Q v)
  (hk:∀ w',Ext [b] w w'→MapI w' b q Q→w'.heap.size=w.heap.size→K ρ w'):Stp P N ρ ⟨none,.mapUpdate t x y z,ty,pos,af,gd⟩ w K:=by
 obtain ⟨kt,hu,hkk⟩:=mpk_spec ht
 obtain ⟨es,c,hb,hes⟩:=hM
 have hkey:MapKept.IsKey (.int q) (.int q i):=by simp [MapKept.IsKey]
 have fin:∀ (es':Array MapEntry) (c':Nat),(∀ x∈es'.toList,MapKept.IsKey (.int q) x.key∧Q x.val)→(Instr.mapUpdate t (.map (some b)) (.int q i) v).run P w=.ok () { w with heap:=w.heap.setIfInBounds b (.map es' c') }→Stp P N ρ ⟨none,.mapUpdate t x y z,ty,pos,af,gd⟩ w K:=by
  intro es' c' hes' hr
  have hh:=MapKept.heap_set (o':=.map es' c') hb
  refine S_skip (w':={ w with heap:=w.heap.setIfInBounds b (.map es' c') }) ?_ rfl (hk _ ⟨rfl,rfl,rfl,by simp,Nat.le_refl _,fun r _ hr=>hh.2 r (fun e=>hr (by simp [e]))⟩ ⟨es',c',hh.1,hes'⟩ (by simp))
  unfold execOp
  simp [hx,hy,hz,hr]
 rcases MapKept.findNow_spec hkey es.toList 0 (fun x hx=>(hes x hx).1) with ⟨h1,h2⟩|⟨j,e',h1,h2,h3⟩
 ·refine fin (es.push { key:=.int q i,val:=v,born:=c }) (c+1) ?_ ?_
  ·intro x hx
   simp only [Array.toList_push,List.mem_append,List.mem_singleton] at hx
   rcases hx with hx|rfl
   ·exact hes x hx
   ·exact ⟨hkey,hv⟩
  ·simp [Instr.mapUpdate,run_underlying hu,MapKept.run_getObj_map hb,MapKept.run_checkKey hkk hkey,MapKept.run_findKey hkk h1,MapKept.run_setObj_map _ hb,Result.andThen]
 ·have hj:(es[j]?).map (·.key)=some (.int q i):=by
   have:es[j]?=some e':=by simpa using h2
   rw [this];simp [h3]
  refine fin (es.modify j fun e=>{ e with key:=.int q i,val:=v }) c ?_ ?_
  ·intro x hx
   obtain ⟨m,hm⟩:=List.mem_iff_getElem?.1 hx
   simp only [Array.getElem?_toList,Array.getElem?_modify] at hm
   split at hm
   ·simp only [Option.map_eq_some_iff] at hm
    obtain ⟨y,_,rfl⟩:=hm
    exact ⟨hkey,hv⟩
   ·exact hes x (by rw [List.mem_iff_getElem?];exact ⟨m,by simpa using hm⟩)
  ·simp [Instr.mapUpdate,run_underlying hu,MapKept.run_getObj_map hb,MapKept.run_checkKey hkk hkey,MapKept.run_findKey hkk h1,MapKept.run_setObj_map _ hb,hj,MapKept.run_keyThatStays hkey,Result.andThen]
theorem S_lookupQ {i:Int} {u:Value} (ht:mpk P t=some (q,e)) (hze:zerV P e=some u) (hx:ev ρ x=.map (some b)) (hy:ev ρ y=.int q i) (hM:MapI w b q Q) (hd:Nat.blt d N=true)
  (hk:∀ v,Q v∨v=u→K (upd ρ d v) w):Stp P N ρ ⟨some d,.lookup t x y false,ty,pos,af,gd⟩ w K:=by
 obtain ⟨kt,hu,hkk⟩:=mpk_spec ht
 obtain ⟨es,c,hb,hes⟩:=hM
 have hkey:MapKept.IsKey (.int q) (.int q i):=by simp [MapKept.IsKey]
 have hzr:(zeroValue e).run P w=.ok u w:=by
  unfold zerV at hze
  cases hi:P.info? e with
  | none=>simp [hi] at hze
  | some i =>
   simp [hi] at hze
   simp [zeroValue,typeInfo,hi,hze]
 rcases MapKept.findNow_spec hkey es.toList 0 (fun x hx=>(hes x hx).1) with ⟨h1,h2⟩|⟨j,e',h1,h2,h3⟩
 ·refine S_run (w':=w) (v:=u) ?_ hd (hk _ (.inr rfl))
  constructor;unfold execOp
  simp [hx,hy,Instr.lookup,run_underlying hu,MapKept.run_getObj_map hb,MapKept.run_checkKey hkk hkey,MapKept.run_findKey hkk h1,hzr]
 ·refine S_run (w':=w) (v:=e'.val) ?_ hd (hk _ (.inl (hes e' (List.mem_of_getElem? h2)).2))
  constructor;unfold execOp
  simp [hx,hy,Instr.lookup,run_underlying hu,MapKept.run_getObj_map hb,MapKept.run_checkKey hkk hkey,MapKept.run_findKey hkk h1]
end
end Go.K
namespace Go.K
open Go
def force:Value→Option Value
 | .int q i=>some (.int q i)
 | .slice a n c=>some (.slice a n c)
 | .pointer a=>some (.pointer a)
 | .bool b=>some (.bool b)
 | .agg c=>some (.agg c)
 | .complex k a b=>some (.complex k a b)
 | v=>some v
theorem force_eq {v u:Value} (h:force v=some u):v=u:=by
 unfold force at h
 split at h<;>exact Option.some.inj h
def cmpI (f:Int→Int→Bool):Value→Value→Option Value
 | .int q m,.int q' n=>if q=q' then some (.bool (f m n)) else none
 | _,_=>none
def pickV (a b:Value):Value→Option Value
 | .bool true=>force a
 | .bool false=>force b
 | _=>none
def notV:Value→Option Value
 | .bool true=>some (.bool false)
 | .bool false=>some (.bool true)
 | _=>none
def ptrV:Value→Option Value
 | .pointer (some a)=>some (.pointer (some a))
 | _=>none
def pev (ρ:Fr):Op→Option Value
 | .move x=>force (ev ρ x)
 | .assign x=>force (ev ρ x)
 | .pick c a b=>pickV (ev ρ a) (ev ρ b) (ev ρ c)
 | .nilCheck x=>ptrV (ev ρ x)
 | .unOp .not _ x=>notV (ev ρ x)
 | .binOp .lss _ x y _=>cmpI (fun m n=>decide (m<n)) (ev ρ x) (ev ρ y)
 | .binOp .leq _ x y _=>cmpI (fun m n=>decide (m≤n)) (ev ρ x) (ev ρ y)
 | .binOp .gtr _ x y _=>cmpI (fun m n=>decide (n<m)) (ev ρ x) (ev ρ y)
 | .binOp .geq _ x y _=>cmpI (fun m n=>decide (n≤m)) (ev ρ x) (ev ρ y)
 | .binOp .eql _ x y _=>cmpI (fun m n=>decide (m=n)) (ev ρ x) (ev ρ y)
 | .binOp .neq _ x y _=>cmpI (fun m n=>decide (m≠n)) (ev ρ x) (ev ρ y)
 | _=>none
theorem cmpI_eq {f:Int→Int→Bool} {a b v:Value} (h:cmpI f a b=some v):∃ q m n,a=.int q m∧b=.int q n∧v=.bool (f m n):=by
 unfold cmpI at h
 split at h
 ·split at h
  ·rename_i hq;subst hq;cases h;exact ⟨_,_,_,rfl,rfl,rfl⟩
  ·cases h
 ·cases h
theorem Run_pev {P:Program} {ρ:Fr} {w:World} {v:Value} {dst:Option Nat} {op:Op} {ty:TypeId} {pos:String} {af:Array Edge} {gd:Option (Nat × Bool)} (h:pev ρ op=some v):Run P ρ ⟨dst,op,ty,pos,af,gd⟩ w v w:=by
 unfold pev at h
 split at h
 ·exact k_move (force_eq h)
 ·exact k_assign (force_eq h)
 ·rename_i c a b
  unfold pickV at h
  split at h
  ·rename_i hc;exact k_pick_t hc (force_eq h)
  ·rename_i hc;exact k_pick_f hc (force_eq h)
  ·cases h
 ·rename_i x
  unfold ptrV at h
  split at h
  ·rename_i a ha;cases h;exact k_nilCheck ha
  ·cases h
 ·rename_i t x
  unfold notV at h
  split at h
  ·rename_i ha;cases h;exact k_notb ha
  ·rename_i ha;cases h;exact k_notb ha
  ·cases h
 ·obtain ⟨q,m,n,h1,h2,rfl⟩:=cmpI_eq h;exact k_lss h1 h2
 ·obtain ⟨q,m,n,h1,h2,rfl⟩:=cmpI_eq h;exact k_leq h1 h2
 ·obtain ⟨q,m,n,h1,h2,rfl⟩:=cmpI_eq h;exact k_gtr h1 h2
 ·obtain ⟨q,m,n,h1,h2,rfl⟩:=cmpI_eq h;exact k_geq h1 h2
 ·obtain ⟨q,m,n,h1,h2,rfl⟩:=cmpI_eq h;exact k_eql h1 h2
 ·obtain ⟨q,m,n,h1,h2,rfl⟩:=cmpI_eq h;exact k_neq h1 h2
 ·cases h
theorem wt {P:Program} {N:Nat} {C:Fr→World→Prop} {ops:Array Oper} {S:World→Prop} {n fuel:Nat} {done:List Nat} {ρ:Fr} {w:World} {v:Value} (i:Nat) {o:Oper} (hS:S w) (hi:ops[i]?=some o) (hg:o.guard=none) (hd:dstOk N o.dst=true) (hr:∀ w',S w'→Run P ρ o w' v w') (hk:WA P N C ops S n fuel (i::done) (updo ρ o.dst v) w) (hc:takeOk ops n done i=true:=by kernel_rfl):WA P N C ops S n (fuel+1) done ρ w:=WA_take i hi hc hS hg hd hr hk
theorem wp {P:Program} {N:Nat} {C:Fr→World→Prop} {ops:Array Oper} {S:World→Prop} {n fuel:Nat} {done:List Nat} {ρ:Fr} {w:World} {v:Value} (i:Nat) {o:Oper} (hS:S w) (hi:ops[i]?=some o) (hg:o.guard=none) (hd:dstOk N o.dst=true) (hp:pev ρ o.op=some v) (hk:WA P N C ops S n fuel (i::done) (updo ρ o.dst v) w) (hc:takeOk ops n done i=true:=by kernel_rfl):WA P N C ops S n (fuel+1) done ρ w:=WA_take i hi hc hS hg hd (fun _ _=>Run_pev hp) hk
theorem lp {P:Program} {N:Nat} {C:Fr→World→Prop} {ops:Array Oper} {l:List Oper} {ρ:Fr} {w:World} {v:Value} {d:Nat} {op:Op} {ty:TypeId} {pos:String} {af:Array Edge} (hp:pev ρ op=some v) (hd:Nat.blt d N=true) (hk:WL P N C ops l (upd ρ d v) w):WL P N C ops (⟨some d,op,ty,pos,af,none⟩::l) ρ w:=WL_r (Run_pev hp) hd hk
end Go.K
