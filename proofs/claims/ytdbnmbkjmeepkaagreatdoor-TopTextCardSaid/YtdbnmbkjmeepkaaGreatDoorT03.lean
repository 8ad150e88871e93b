/- A part of the proof of the card of TopText; no condition. -/
import Derived.Test.YtdbnmbkjmeepkaaGreatDoorT02
import Derived.Deep.Slices
import Derived.DeepKeys
import Derived.Laws.OwnMore
import Derived.MapKept
import Derived.ProofKit
namespace Go.K
open Go Go.RowKit
def eH (o:Oper):List Nat:=o.after.toList.filterMap fun e=>cond (Region.binds .any e) (some e.on) none
def Qb (ops:List Oper) (j:Nat) (o:Oper) (m:Nat) (ds:List (Nat × Nat)):Bool :=
 o.guard.isNone && (match o.op with|.select ..=>false|_=>true) &&
 ds.all (fun p=>(eH o).contains p.1 && ((ops[p.1]?).bind (·.dst) == some p.2)) &&
 ops.zipIdx.all (fun (oi,i)=>match oi.dst with|none=>true|some d=>sM m d || (eH oi).contains j || (i == j))
def iT (N:Nat) (ops:List Oper):Bool :=
 ops.all (fun o=>gI N o.dst) && ops.zipIdx.all fun (o,i)=>ops.zipIdx.all fun (o',j)=>i == j || o.dst.isNone || o.dst != o'.dst
def lW (R:Nat→Value→World→Prop) (w:World):List (Nat × Nat)→(List (Nat × Value)→Prop)→Prop
 | [],k=>k []
 | (i,d)::l,k=>∀ v,R i v w→lW R w l (fun acc=>k ((d,v)::acc))
section
variable {P:Program} {N:Nat} {f:FuncId} {R:Value→World→Prop} {k:List Item} {ρ:Fr} {w:World}
theorem iB {S:Nat→Value→World→Prop} {ρ:Fr}:∀ {ds:List (Nat × Nat)} {k:List (Nat × Value)→Prop},lW S w ds k→(∀ p∈ds,S p.1 (ρ p.2) w)→k (ds.map fun p=>(p.2,ρ p.2))
 | [],_,h,_=>h
 | (i,d)::l,k,h,hs=>by
  exact iB (k:=fun acc=>k ((d,ρ d)::acc)) (h (ρ d) (hs (i,d) (by simp))) (fun p hp=>hs p (by simp [hp]))
theorem jG (ρ:Fr):∀ (l:List Nat),bQ (l.map fun d=>(d,ρ d)) ρ=ρ
 | []=>rfl
 | d::l=>by
  show dX (bQ (l.map fun d=>(d,ρ d)) ρ) d (ρ d)=ρ
  rw [jG ρ l]
  exact Iy rfl
theorem fG:∀ (l:List Bool) (j:Nat),l[j]?=some false→(l.set j true).count false+1=l.count false
 | [],j,h=>by simp at h
 | b::l,0,h=>by simp at h;subst h;simp
 | b::l,j+1,h=>by
  have ih:=fG l j (by simpa using h)
  cases b<;>simp<;>omega
def fO (ops:List Oper):Bool:=ops.zipIdx.all fun (o,i)=>(eH o).all fun e=>Nat.blt e i
def sR (l:List Oper) (n1:Nat):Bool:=fO l && l.zipIdx.all fun (o,i)=>Nat.blt i n1 || (List.range i).all fun j=>(eH o).contains j
theorem kW {o:Oper} {i:Nat} (h:i∈eH o):∃ e∈o.after,Region.binds .any e=true∧e.on=i:=by
 obtain ⟨e,he,heq⟩:=List.mem_filterMap.1 h
 cases hb:Region.binds .any e with
 | false=>rw [hb] at heq;cases heq
 | true=>rw [hb] at heq;cases heq;exact ⟨e,by simpa using he,hb,rfl⟩
theorem gO {o:Oper} {e:Edge} (he:e∈o.after) (hb:Region.binds .any e=true):e.on∈eH o :=
 List.mem_filterMap.2 ⟨e,by simpa using he,by simp [hb]⟩
theorem cY {l:List Oper} (h:fO l=true) {i:Nat} {o:Oper} (hi:l[i]?=some o) {e:Nat} (he:e∈eH o):e<i:=by
 have h1:=List.all_eq_true.1 h (o,i) (List.mem_zipIdx_iff_getElem?.2 hi)
 have h2:=List.all_eq_true.1 h1 e he
 simpa [Nat.blt_eq] using h2
theorem HN {Q:Exit→Act→World→Prop} {l:List Oper} {n1:Nat} (hok:sR l n1=true):∀ (m j:Nat) (D:Array Bool) (a:Act) (w:World),j+m=l.length→n1≤j→D.size=l.length→(∀ i,i<l.length→D.getD i false=decide (i<j)) →
  wpOps P l.toArray Q (List.range' j m) a w→wpAny P .any l.toArray Q m D a w:=by
 simp only [sR,Bool.and_eq_true] at hok
 intro m
 induction m with
 | zero =>
  intro j D a w hjm hj hsz hD h
  refine ⟨List.eq_nil_iff_forall_not_mem.2 (fun i hi=>?_),h⟩
  obtain ⟨h0,o,ho,_⟩:=mem_ready.1 hi
  have hil:i<l.length:=(List.getElem?_eq_some_iff.1 (show l[i]?=some o by simpa using ho)).1
  have:=hD i hil
  rw [decide_eq_true (by omega)] at this
  have hid:i<D.size:=by omega
  simp [Array.getD,hid] at this h0
  rw [this] at h0;cases h0
 | succ m ih =>
  intro j D a w hjm hj hsz hD h
  have hready:∀ i,i∈Region.ready .any l.toArray D ↔ i=j:=fun i=>by
   rw [mem_ready]
   constructor
   ·rintro ⟨h0,o,ho,cW⟩
    have hlo:l[i]?=some o:=by simpa using ho
    have hil:i<l.length:=(List.getElem?_eq_some_iff.1 hlo).1
    have hid:i<D.size:=by omega
    have h1:=hD i hil
    have h2:¬ i<j:=fun hlt=>by
     rw [decide_eq_true hlt] at h1
     simp [Array.getD,hid] at h1 h0
     rw [h1] at h0;cases h0
    by_cases hij:i=j
    ·exact hij
    ·exfalso
     have h3:=List.all_eq_true.1 hok.2 (o,i) (List.mem_zipIdx_iff_getElem?.2 hlo)
     simp only [Bool.or_eq_true,Nat.blt_eq] at h3
     rcases h3 with h3|h3
     ·omega
     ·have h4:=List.all_eq_true.1 h3 j (List.mem_range.2 (by omega))
      obtain ⟨e,he,hb,hej⟩:=kW (by simpa using h4)
      have h5:=cW e (by simpa using he) hb
      rw [hej,hD j (by omega)] at h5
      simp at h5
   ·rintro rfl
    have hil:i<l.length:=by omega
    refine ⟨?_,l[i],by simp [hil],fun e he hb=>?_⟩
    ·have h1:=hD i hil
     have hid:i<D.size:=by omega
     simp [Array.getD,hid] at h1 ⊢
     exact h1
    ·have hlt:=cY hok.1 (show l[i]?=some l[i] by simp) (gO he hb)
     rw [hD e.on (by omega)]
     exact decide_eq_true hlt
  refine ⟨fun hnil=>?_,fun i hi=>?_⟩
  ·have:=(hready j).2 rfl
   rw [hnil] at this;cases this
  ·obtain rfl:=(hready i).1 hi
   rw [List.range'_succ,wpOps_cons] at h
   refine wpOp_mono (fun a' w' h'=>ih (i+1) _ a' w' (by omega) (by omega) (by simp [hsz]) (fun x hx=>?_) h') h
   by_cases hxi:x=i
   ·subst hxi
    have:x<D.size:=by omega
    simp [Array.getD,this]
   ·rw [getD_set_ne false (Ne.symm hxi),hD x hx]
    congr 1
    exact propext ⟨fun h=>by omega,fun h=>by omega⟩
theorem zB {Q Q1:Exit→Act→World→Prop} {l:List Oper} {n1 i:Nat} (hi:i<n1) (hQ:∀ e a w,e≠.normal→Q1 e a w→Q e a w) {X:Act→World→Prop} {a:Act} {w:World} (hgd:(l.take n1).all (fun o=>match o.guard with|some (g,_)=>Nat.blt g n1|none=>true)=true)
  (h:wpOp P (l.take n1).toArray Q1 i X a w):wpOp P l.toArray Q i X a w:=by
 unfold wpOp at *
 have e1:(l.take n1).toArray[i]?=l.toArray[i]?:=by simp [hi]
 rw [e1] at h
 cases ho:l.toArray[i]? with
 | none=>rw [ho] at h;exact h
 | some o =>
  rw [ho] at h
  simp only at h ⊢
  have hy:Region.wanted o (yielded (l.take n1).toArray a.tmps)=Region.wanted o (yielded l.toArray a.tmps):=by
   unfold Region.wanted
   cases hg:o.guard with
   | none=>rfl
   | some gw =>
    obtain ⟨g,want⟩:=gw
    have hm:o∈l.take n1:=List.mem_iff_getElem?.2 ⟨i,by rw [List.getElem?_take,if_pos hi];simpa using ho⟩
    have hgl:=List.all_eq_true.1 hgd o hm
    simp only [hg,Nat.blt_eq] at hgl
    have:yielded (l.take n1).toArray a.tmps g=yielded l.toArray a.tmps g:=by
     unfold yielded
     have e2:(l.take n1).toArray[g]?=l.toArray[g]?:=by simp [hgl]
     rw [e2]
    simp only [this]
  rw [hy] at h
  split
  ·rename_i hw
   rw [if_pos hw] at h
   rcases h with h|⟨h1,⟨a0,w0,h2⟩⟩
   ·refine .inl ?_
    unfold Oper.wp at *
    generalize (execOp a.eval o).run P w=r at *
    cases r with
    | ok n w' =>
     cases n<;>simp only [Oper.upon] at h ⊢<;>first|exact h|skip
     ·refine h.mono (fun e w'' he=>?_)
      cases e with
      | returned v=>exact he
      | panicked c=>exact hQ _ _ _ (by simp) he
      | outgrown=>obtain ⟨a0,w0,h2⟩:=he;exact ⟨a0,w0,hQ _ _ _ (by simp) h2⟩
    | halt x w'=>cases x<;>simp only [Oper.upon] at h ⊢<;>exact hQ _ _ _ (by simp) h
   ·exact .inr ⟨h1,⟨a0,w0,hQ _ _ _ (by simp) h2⟩⟩
  ·rename_i hw
   rw [if_neg hw] at h
   exact h
theorem BW {Q Q1:Exit→Act→World→Prop} {l:List Oper} {n1:Nat} (hn1:n1≤l.length) (hok:sR l n1=true) (hQ:∀ e a w,e≠.normal→Q1 e a w→Q e a w) (hgd:(l.take n1).all (fun o=>match o.guard with|some (g,_)=>Nat.blt g n1|none=>true)=true)
  (htail:∀ a w,Q1 .normal a w→wpOps P l.toArray Q (List.range' n1 (l.length-n1)) a w) :
  ∀ (fuel:Nat) (D D':Array Bool) (a:Act) (w:World),D.size=n1→D'.size=l.length→(∀ i,i<n1→D'.getD i false=D.getD i false)→(∀ i,n1≤i→i<l.length→D'.getD i false=false)→D.toList.count false=fuel →
   wpAny P .any (l.take n1).toArray Q1 fuel D a w→wpAny P .any l.toArray Q (fuel+(l.length-n1)) D' a w:=by
 have hok':=hok
 simp only [sR,Bool.and_eq_true] at hok'
 have hget:∀ i,i<n1→(l.take n1)[i]?=l[i]?:=fun i hi=>by rw [List.getElem?_take,if_pos hi]
 intro fuel
 induction fuel with
 | zero =>
  intro D D' a w hD hD' h1 h2 hc h
  rw [Nat.zero_add]
  have cW:∀ i,i<n1→D.getD i false=true:=fun i hi=>by
   have hid:i<D.size:=by omega
   cases hb:D.getD i false with
   | true=>rfl
   | false =>
    exfalso
    have:=List.count_eq_zero.1 hc
    apply this
    rw [List.mem_iff_getElem?]
    exact ⟨i,by simp [Array.getD,hid] at hb;simp [hid,hb]⟩
  refine HN hok _ n1 D' a w (by omega) (Nat.le_refl _) hD' (fun i hi=>?_) (htail a w h.2)
  by_cases hin:i<n1
  ·rw [h1 i hin,cW i hin,decide_eq_true hin]
  ·rw [h2 i (by omega) hi,decide_eq_false hin]
 | succ fuel ih =>
  intro D D' a w hD hD' h1 h2 hc h
  have hne:∃ i,i<n1∧D.getD i false=false:=by
   have:0<D.toList.count false:=by omega
   have hm:=List.count_pos_iff.1 this
   obtain ⟨i,hi⟩:=List.mem_iff_getElem?.1 hm
   have hid:i<D.size:=by simpa using (List.getElem?_eq_some_iff.1 hi).1
   exact ⟨i,by omega,by simp [Array.getD,hid];simpa [hid] using hi⟩
  have hready:∀ i,i∈Region.ready .any l.toArray D' ↔ i∈Region.ready .any (l.take n1).toArray D:=fun i=>by
   rw [mem_ready,mem_ready]
   constructor
   ·rintro ⟨h0,o,ho,cW⟩
    have hlo:l[i]?=some o:=by simpa using ho
    have hil:i<l.length:=(List.getElem?_eq_some_iff.1 hlo).1
    have hin:i<n1:=by
     rcases Nat.lt_or_ge i n1 with h|h
     ·exact h
     ·exfalso
      obtain ⟨x,hx,hxf⟩:=hne
      have h3:=List.all_eq_true.1 hok'.2 (o,i) (List.mem_zipIdx_iff_getElem?.2 hlo)
      simp only [Bool.or_eq_true,Nat.blt_eq] at h3
      rcases h3 with h3|h3
      ·omega
      ·have h4:=List.all_eq_true.1 h3 x (List.mem_range.2 (by omega))
       obtain ⟨e,he,hb,hex⟩:=kW (by simpa using h4)
       have h5:=cW e he hb
       rw [hex,h1 x hx,hxf] at h5;cases h5
    have hid:i<D.size:=by omega
    have hid':i<D'.size:=by omega
    refine ⟨?_,o,by simpa [hget i hin] using hlo,fun e he hb=>?_⟩
    ·have:=h1 i hin
     simp [Array.getD,hid,hid'] at this h0 ⊢
     rw [← this];exact h0
    ·have hlt:=cY hok'.1 hlo (gO he hb)
     rw [← h1 e.on (by omega)]
     exact cW e he hb
   ·rintro ⟨h0,o,ho,cW⟩
    have hlo':(l.take n1)[i]?=some o:=by simpa using ho
    have hin:i<n1:=by have:=(List.getElem?_eq_some_iff.1 hlo').1;simp at this;omega
    have hlo:l[i]?=some o:=by rw [← hget i hin];exact hlo'
    have hid:i<D.size:=by omega
    have hid':i<D'.size:=by omega
    refine ⟨?_,o,by simpa using hlo,fun e he hb=>?_⟩
    ·have:=h1 i hin
     simp [Array.getD,hid,hid'] at this h0 ⊢
     rw [this];exact h0
    ·have hlt:=cY hok'.1 hlo (gO he hb)
     rw [h1 e.on (by omega)]
     exact cW e he hb
  have hsome:Region.ready .any (l.take n1).toArray D≠[]:=fun hnil=>by
   obtain ⟨x,hx,hxf⟩:=hne
   have:∀ x,x<n1→D.getD x false=true:=by
    intro x
    induction x using Nat.strongRecOn with
    | _ x ihx =>
     intro hx
     cases hb:D.getD x false with
     | true=>rfl
     | false =>
      exfalso
      have hxd:x<D.size:=by omega
      have hxl:x<l.length:=by omega
      have hm:x∈Region.ready .any (l.take n1).toArray D:=by
       rw [mem_ready]
       refine ⟨by simp [Array.getD,hxd] at hb ⊢;exact hb,l[x],by simp [hx,hxl],fun e he hbi=>?_⟩
       have hlt:=cY hok'.1 (show l[x]?=some l[x] by simp) (gO he hbi)
       exact ihx _ hlt (by omega)
      rw [hnil] at hm;cases hm
   rw [this x hx] at hxf;cases hxf
  rw [Nat.add_right_comm]
  refine ⟨fun hnil=>?_,fun i hi=>?_⟩
  ·exfalso
   apply hsome
   refine List.eq_nil_iff_forall_not_mem.2 (fun i hi=>?_)
   have:=(hready i).2 hi
   rw [hnil] at this;cases this
  ·have hi1:=(hready i).1 hi
   have h3:=h.2 i hi1
   obtain ⟨h0,o,ho,_⟩:=mem_ready.1 hi1
   have hin:i<n1:=by have:=(List.getElem?_eq_some_iff.1 (show (l.take n1)[i]?=some o by simpa using ho)).1;simp at this;omega
   refine wpOp_mono (fun a' w' h'=>ih (D.setIfInBounds i true) (D'.setIfInBounds i true) a' w' (by simp [hD]) (by simp [hD']) ?_ ?_ ?_ h') (zB hin hQ hgd h3)
   ·intro x hx
    by_cases hxi:x=i
    ·subst hxi
     have h6:x<D.size:=by omega
     have h7:x<D'.size:=by omega
     simp [Array.getD,h6,h7]
    ·rw [getD_set_ne false (Ne.symm hxi),getD_set_ne false (Ne.symm hxi)];exact h1 x hx
   ·intro x hx hxl
    rw [getD_set_ne false (by omega)];exact h2 x hx hxl
   ·have hid:i<D.size:=by omega
    have:(D.setIfInBounds i true).toList.count false+1=D.toList.count false:=by
     rw [Array.toList_setIfInBounds]
     exact fG D.toList i (by simp [Array.getD,hid] at h0;simp [hid,h0])
    omega
theorem qD {id:Nat} {l:List Oper} (hm:P.follows .mixedOrders=true) (n1:Nat) (hn:((l.take n1).length=n1)) (hok:sR l n1=true) (hgd:(l.take n1).all (fun o=>match o.guard with|some (g,_)=>Nat.blt g n1|none=>true)=true)
  (h:∀ w1,Ext [] w w1→WA P N (WL P N (WS P N f R k) l.toArray (l.drop n1)) (l.take n1).toArray (fun w'=>Ext [] w w') n1 n1 [] ρ w1) :
  WS P N f R (.code (.region id l.toArray true)::k) ρ w:=by
 have hn1:n1≤l.length:=by simp at hn;omega
 refine vN fun a ha=>wp_region_any hm ?_
 have h1:=wpAny_of_held _ _ _ _ ((h _ Ext.dV).out a ha)
 have h2:=BW (Q:=QN N (WS P N f R k)) hn1 hok (fun e a w hne hq=>absurd hq.1 hne) hgd (fun a w hq=>by
  obtain ⟨_,ρ',hr,hw⟩:=hq
  have h3:=hw.out a hr
  have h4:=wpOps_eq_wpList (P:=P) (ops:=l.toArray) (Q:=QN N (WS P N f R k)) (l.drop n1) n1 (fun j=>by simp)
  rw [List.length_drop] at h4
  rw [h4];exact h3) n1 (DG n1 []) (Array.replicate l.length false) a _ (by simp [DG]) (by simp) (fun i hi=>by simp [DG,Array.getD,hi,Nat.lt_of_lt_of_le hi hn1]) (fun i hi hil=>by simp [Array.getD,hil]) (by simp [DG]) h1
 rw [show n1+(l.length-n1)=l.toArray.size by simp;omega] at h2
 simpa using h2
end
def gG (l:List Value) (o:Nat) (vs:List Value):List Value:=l.take o++vs++l.drop (o+vs.length)
def dU (place:Nat→Option (Nat × Nat)) (cells:List Value):List (Nat × Value)→Option (List Value)
 | []=>some cells
 | (i,v)::rest=>match place i with
  | none=>none
  | some (off,size)=>cond (Nat.beq v.cells.size size && Nat.ble (off+size) cells.length) (dU place (gG cells off v.cells.toList) rest) none
theorem rF:∀ (cs:List Value) (m o:Nat) (acc:List Value),o+m+cs.length≤acc.length →
  (cs.zipIdx m).foldl (fun (cs:Array Value) (c:Value × Nat)=>cs.setIfInBounds (o+c.2) c.1) acc.toArray=(acc.take (o+m)++cs++acc.drop (o+m+cs.length)).toArray
 | [],m,o,acc,_=>by simp
 | c::cs,m,o,acc,hacc=>by
  simp only [List.length_cons] at hacc
  simp only [List.zipIdx_cons,List.foldl_cons,List.setIfInBounds_toArray]
  rw [rF cs (m+1) o (acc.set (o+m) c) (by rw [List.length_set];omega)]
  congr 1
  have e:=list_seg_step acc (o+m) c cs (by omega)
  simpa [Nat.add_assoc,Nat.add_comm,Nat.add_left_comm] using e
theorem sG (place:Nat→Option (Nat × Nat)):∀ (ps:List (Nat × Value)) (cells out:List Value),dU place cells ps=some out→Instr.fill place cells.toArray ps=some out.toArray
 | [],cells,out,h=>by simp [dU] at h;subst h;rfl
 | (i,v)::rest,cells,out,h=>by
  unfold dU at h
  cases hp:place i with
  | none=>rw [hp] at h;cases h
  | some os =>
   obtain ⟨off,size⟩:=os
   rw [hp] at h
   simp only at h
   cases hc:(Nat.beq v.cells.size size && Nat.ble (off+size) cells.length) with
   | false=>rw [hc] at h;cases h
   | true =>
    rw [hc] at h
    rw [Bool.and_eq_true] at hc
    have h1:=Nat.eq_of_beq_eq_true hc.1
    have h2:=Nat.le_of_ble_eq_true hc.2
    have hs:=rF v.cells.toList 0 off cells (by simp [h1];omega)
    simp only [Instr.fill,hp]
    rw [if_neg (by simp [h1];omega)]
    rw [← Array.foldl_toList,Array.toList_zipIdx,hs]
    exact sG place rest _ out h
def HJ (P:Program) (t:TypeId):Option (List (Nat × Nat)) :=
 match P.underlying t with
 | some (.struct fs)=>fs.toList.mapM fun f=>(P.info? f.type).map fun i=>(f.offset,i.size)
 | _=>none
def O0 (ρ:Fr):List (Nat × Operand)→List (Nat × Value)
 | []=>[]
 | (i,x)::l=>(i,ev ρ x)::O0 ρ l
theorem zJ (ρ:Fr):∀ l,O0 ρ l=l.map fun p=>(p.1,ev ρ p.2)
 | []=>rfl
 | (i,x)::l=>by simp [O0,zJ ρ l]
section
variable {P:Program} {N:Nat} {K:Fr→World→Prop} {ρ:Fr} {w:World} {v:Value} {dst:Option Nat} {d:Nat} {ty:TypeId} {pos:String} {af:Array Edge} {gd:Option (Nat × Bool)} {x y z:Operand} {t u e:TypeId} {q:IntKind}
theorem Ek {zs:List Value} (hz:bH P t=some zs):∃ zv,(zeroValue t).run P w=.ok zv w∧zv.cells.toList=zs:=by
 unfold bH at hz
 cases hi:P.info? t with
 | none=>simp [hi] at hz
 | some i =>
  cases hzz:i.zero with
  | none=>simp [hi,hzz] at hz
  | some zv =>
   simp [hi,hzz] at hz
   exact ⟨zv,by simp [zeroValue,typeInfo,hi,hzz],hz⟩
theorem tI {P:Program} {w:World}:∀ (fs:List Field) (pl:List (Nat × Nat)),(fs.mapM fun f=>(P.info? f.type).map fun i=>(f.offset,i.size))=some pl →
  (fs.mapM (m:=Sem) fun f=>do pure (f.offset,← sizeOf f.type)).run P w=.ok pl w
 | [],pl,h=>by simp at h;subst h;rfl
 | f::fs,pl,h=>by
  rw [List.mapM_cons] at h
  cases hi:P.info? f.type with
  | none=>simp [hi] at h
  | some i =>
   cases hr:(fs.mapM fun f=>(P.info? f.type).map fun i=>(f.offset,i.size)) with
   | none=>simp [hi,hr] at h
   | some pl' =>
    simp [hi,hr] at h
    subst h
    have ih:=tI (w:=w) fs pl' hr
    rw [List.mapM_cons]
    have hsz:(sizeOf f.type).run P w=.ok i.size w:=by simp [sizeOf,typeInfo,hi]
    simp only [Sem.run_bind,hsz,Result.andThen_ok,Sem.run_pure,ih]
theorem bR {ps:List (Nat × Operand)} {zs cs:List Value} {pl:List (Nat × Nat)} (hz:bH P t=some zs) (hp:HJ P t=some pl) (hf:dU (fun i=>pl[i]?) zs (O0 ρ ps)=some cs) :
  cU P ρ ⟨dst,.build t ps.toArray,ty,pos,af,gd⟩ w (.agg cs.toArray) w:=by
 obtain ⟨zv,hzr,hzc⟩:=Ek (P:=P) (w:=w) hz
 unfold HJ at hp
 split at hp
 ·rename_i fs hu
  have hm:=tI (w:=w) fs.toList pl hp
  have hm':(fs.mapM (m:=Sem) fun f=>do pure (f.offset,← sizeOf f.type)).run P w=.ok pl.toArray w:=by
   rw [Array.mapM_eq_mapM_toList]
   simp only [Sem.run_map,hm,Result.andThen_ok]
  have hfl:=sG _ _ _ _ hf
  have hzs:zv.cells=zs.toArray:=by rw [← hzc]
  constructor
  unfold execOp
  simp only [Instr.build,Sem.run_bind,hzr,Result.andThen_ok,run_underlying hu,hm',hzs]
  rw [zJ] at hfl
  simp [hfl]
 ·cases hp
theorem dC {ps:List (Nat × Operand)} {zs cs:List Value} {n sz:Nat} {g:Bool} (hz:bH P t=some zs) (ha:arr P t=some (n,(g,sz))) (hf:dU (fun i=>some (i*sz,sz)) zs (O0 ρ ps)=some cs) :
  cU P ρ ⟨dst,.build t ps.toArray,ty,pos,af,gd⟩ w (.agg cs.toArray) w:=by
 obtain ⟨zv,hzr,hzc⟩:=Ek (P:=P) (w:=w) hz
 obtain ⟨e,hu,hs⟩:=uS ha
 have hfl:=sG _ _ _ _ hf
 have hzs:zv.cells=zs.toArray:=by rw [← hzc]
 constructor
 unfold execOp
 simp only [Instr.build,Sem.run_bind,hzr,Result.andThen_ok,run_underlying hu,dA hs,hzs]
 rw [zJ] at hfl
 simp [hfl]
end
end Go.K
namespace Go.K
open Go Go.RowKit Go.ChangeShapes Go.WideShapes
section
variable {H:Type} {enc:TypeId × Value→H} {P:Program} {W:World} {v:Value} {d:DataW H} {ps:List MemPlace} {t e:TypeId} {q:IntKind} {sp:Nat→Bool} {hd:Bool}
theorem oH (hl:laidOutB P=true) {W':World} {sp':Nat→Bool}:∀ {ts:List TypeId} {vs:List Value} {ds:List (DataW H)} {ps:List MemPlace},ts.all (fun t=>P.readableRec t && decide (t<P.types.size))=true →
  DataW.TrodAll enc P W 0 (fun _=>true) true ts vs ds ps→(∀ p∈ps,W.sameAt W' p)→(∀ p∈ps,sp' p.block=true)→DataW.TrodAll enc P W' 0 sp' true ts vs ds ps
 | [],vs,ds,ps,_,h,_,_=>by
  obtain ⟨rfl,rfl,rfl⟩:=trodAll_nil h
  rfl
 | t::ts,vs,ds,ps,ht,h,hs,hsp=>by
  obtain ⟨v,vs',d,ds',p,q,rfl,rfl,rfl,h1,h2⟩:=trodAll_cons h
  simp only [List.all_cons,Bool.and_eq_true,decide_eq_true_eq] at ht
  exact ⟨p,q,WideElems.Trod_stays hl ht.1.1 ht.1.2 h1 (fun x hx=>hs x (by simp [hx])) (fun x hx=>hsp x (by simp [hx])),
   oH hl ht.2 h2 (fun x hx=>hs x (by simp [hx])) (fun x hx=>hsp x (by simp [hx])),rfl⟩
theorem aX.enter {f:FuncId} {fn:Func} {c:Code} {R:Value→World→Prop} {args:Array Value} (h:aX P f args W R) (hf:P.funcs[f]?=some fn) (hn:(fn.name == "runtime.NumGoroutine")=false) (hb:fn.body=some c) :
  Calls P f args W (fun e w'=>∃ v,e=.returned v∧R v w') :=
 h.calls ⟨W,by unfold callFunc;simp only [Sem.run_bind,run_program,Result.andThen_ok,hf,hn,hb];rfl⟩
def Fits (q:IntKind) (n:Int):Prop:=q.min≤n∧n≤q.max
theorem KM {n:Int} (h:(Lit.int q n).wf=true):Fits q n:=by
 simp only [Lit.wf,Bool.and_eq_true,decide_eq_true_eq] at h
 exact h
theorem kK {n:Int} (h:Fits .u8 n):∃ m:Nat,n=m∧m<256:=by
 obtain ⟨h1,h2⟩:=h
 simp only [IntKind.min,IntKind.max,IntKind.signed,IntKind.bits] at h1 h2
 simp at h1 h2
 exact ⟨n.toNat,by omega,by omega⟩
theorem HY {n:Int} (h:Fits .u32 n):∃ m:Nat,n=m∧m<4294967296:=by
 obtain ⟨h1,h2⟩:=h
 simp only [IntKind.min,IntKind.max,IntKind.signed,IntKind.bits] at h1 h2
 simp at h1 h2
 exact ⟨n.toNat,by omega,by omega⟩
variable {r:Reach} {b0:Nat}
end
end Go.K
namespace Go.K
open Go Go.RowKit
def kB (P:Program) (e:TypeId):Option (Option IntKind) :=
 match P.underlying e with
 | some .bool=>some none
 | some (.int q)=>some (some q)
 | _=>none
def Cz (P:Program) (t:TypeId):Option (List (Option IntKind)) :=
 cond (P.keyTypeAt 2 t && !P.eqGuardType P.depth t)
  (match P.underlying t with
  | some (.array n e)=>cond (Nat.beq (P.cellsOf t) n && Nat.beq (P.cellsOf e) 1) ((kB P e).map (List.replicate n)) none
  | some (.struct fs)=>cond (Nat.beq (P.cellsOf t) fs.size && fs.all (·.name != "_") && fs.toList.zipIdx.all fun p=>Nat.beq p.1.offset p.2 && Nat.beq (P.cellsOf p.1.type) 1) (fs.toList.mapM fun f=>kB P f.type) none
  | _=>none) none
def CW:Option IntKind→Value→Prop
 | some q,.int q' n=>q'=q∧q.min≤n∧n≤q.max
 | none,.bool _=>True
 | _,_=>False
def iY:List (Option IntKind)→List Value→Prop
 | [],[]=>True
 | k::ks,v::vs=>CW k v∧iY ks vs
 | _,_=>False
def lC:Value→Lit
 | .int q n=>.int q n
 | .bool b=>.bool b
 | _=>.bool false
theorem GN {k:Option IntKind} {u v:Value} (hu:CW k u) (hv:CW k v):lC u=lC v ↔ u=v:=by
 cases k<;>cases u<;>simp [CW] at hu<;>cases v<;>simp [CW] at hv<;>simp [lC]
theorem uY:∀ {ks:List (Option IntKind)} {us vs:List Value},iY ks us→iY ks vs→(us.map lC=vs.map lC ↔ us=vs)
 | [],[],[],_,_=>by simp
 | k::ks,u::us,v::vs,hu,hv=>by simp [GN hu.1 hv.1,uY hu.2 hv.2]
 | [],[],_::_,_,h=>h.elim
 | [],_::_,_,h,_=>h.elim
 | _::_,[],_,h,_=>h.elim
 | _::_,_::_,[],_,h=>h.elim
theorem iY.len:∀ {ks:List (Option IntKind)} {us:List Value},iY ks us→us.length=ks.length
 | [],[],_=>rfl
 | k::ks,u::us,h=>by simp [iY.len h.2]
 | [],_::_,h=>h.elim
 | _::_,[],h=>h.elim
theorem oS {q:IntKind}:∀ {l:List Int},(∀ x∈l,q.min≤x∧x≤q.max)→iY (List.replicate l.length (some q)) (l.map (Value.int q))
 | [],_=>trivial
 | x::l,h=>⟨⟨rfl,h x (by simp)⟩,oS fun y hy=>h y (by simp [hy])⟩
section
variable {P:Program}
theorem pM {e:TypeId} {k:Option IntKind} {v:Value} (d:Nat) (hk:kB P e=some k) (hv:CW k v):P.keyLits (d+1) e [v]=some [lC v]:=by
 unfold kB at hk
 unfold Program.keyLits
 split at hk
 ·rename_i hu
  cases hk
  cases v<;>simp [CW] at hv
  simp [hu,lC]
 ·rename_i q hu
  cases hk
  cases v<;>simp [CW] at hv
  obtain ⟨rfl,h1,h2⟩:=hv
  simp [hu,lC,Lit.wf,h1,h2]
 ·cases hk
theorem drop_cons {α:Type} {cs:List α} {i:Nat} {v:α} {l:List α} (h:cs.drop i=v::l):(cs.drop i).take 1=[v]∧cs.drop (i+1)=l:=by
 refine ⟨by rw [h];rfl,?_⟩
 rw [← List.drop_drop,h];rfl
theorem oL {e:TypeId} {k:Option IntKind} (d:Nat) (hk:kB P e=some k) (cs:List Value):∀ (n i:Nat),iY (List.replicate n k) (cs.drop i) →
  (List.range' i n).mapM (fun j=>P.keyLits (d+1) e ((cs.drop j).take 1))=some ((cs.drop i).map fun v=>[lC v])
 | 0,i,h=>by
  cases hd:cs.drop i with
  | nil=>simp
  | cons v l=>rw [hd] at h;exact h.elim
 | n+1,i,h=>by
  cases hd:cs.drop i with
  | nil=>rw [hd] at h;exact h.elim
  | cons v l =>
   obtain ⟨h1,h2⟩:=drop_cons hd
   rw [hd] at h
   have ih:=oL d hk cs n (i+1) (by rw [h2];exact h.2)
   rw [List.range'_succ,List.mapM_cons,h1,pM d hk h.1,ih,h2]
   rfl
theorem mP (d:Nat) (cs:List Value):∀ (fs:List Field) (ks:List (Option IntKind)) (i:Nat),(fs.zipIdx i).all (fun p=>Nat.beq p.1.offset p.2 && Nat.beq (P.cellsOf p.1.type) 1)=true→fs.mapM (fun f=>kB P f.type)=some ks→iY ks (cs.drop i) →
  fs.mapM (fun f=>P.keyLits (d+1) f.type ((cs.drop f.offset).take (P.cellsOf f.type)))=some ((cs.drop i).map fun v=>[lC v])
 | [],ks,i,_,hk,h=>by
  simp at hk;subst hk
  cases hd:cs.drop i with
  | nil=>simp
  | cons v l=>rw [hd] at h;exact h.elim
 | f::fs,ks,i,ha,hk,h=>by
  rw [List.mapM_cons] at hk
  cases hc:kB P f.type with
  | none=>simp [hc] at hk
  | some k =>
   cases hr:fs.mapM (fun f=>kB P f.type) with
   | none=>simp [hc,hr] at hk
   | some ks' =>
    simp [hc,hr] at hk
    subst hk
    cases hd:cs.drop i with
    | nil=>rw [hd] at h;exact h.elim
    | cons v l =>
     obtain ⟨h1,h2⟩:=drop_cons hd
     rw [hd] at h
     simp only [List.zipIdx_cons,List.all_cons,Bool.and_eq_true] at ha
     obtain ⟨⟨ho,hs⟩,ha⟩:=ha
     have ho':f.offset=i:=Nat.eq_of_beq_eq_true ho
     have hs':P.cellsOf f.type=1:=Nat.eq_of_beq_eq_true hs
     have ih:=mP d cs fs ks' (i+1) ha hr (by rw [h2];exact h.2)
     rw [List.mapM_cons,ho',hs',h1,pM d hc h.1,ih,h2]
     rfl
theorem LN (l:List Value):(l.map fun v=>[lC v]).flatten=l.map lC:=by
 induction l with
 | nil=>rfl
 | cons x l ih=>simp [ih]
theorem pG {t:TypeId} {ks:List (Option IntKind)} {vs:List Value} (hk:Cz P t=some ks) (hv:iY ks vs):P.keyTypeAt 2 t=true∧P.eqGuardType P.depth t=false∧(Value.agg vs.toArray).formed P t=true∧P.keyLits 2 t vs=some (vs.map lC):=by
 unfold Cz at hk
 cases hc:(P.keyTypeAt 2 t && !P.eqGuardType P.depth t) with
 | false=>rw [hc] at hk;cases hk
 | true =>
  rw [hc] at hk
  rw [Bool.and_eq_true] at hc
  refine ⟨hc.1,by simpa using hc.2,?_⟩
  replace hk:(match P.underlying t with
   | some (.array n e)=>cond (Nat.beq (P.cellsOf t) n && Nat.beq (P.cellsOf e) 1) ((kB P e).map (List.replicate n)) none
   | some (.struct fs)=>cond (Nat.beq (P.cellsOf t) fs.size && fs.all (·.name != "_") && fs.toList.zipIdx.all fun p=>Nat.beq p.1.offset p.2 && Nat.beq (P.cellsOf p.1.type) 1) (fs.toList.mapM fun f=>kB P f.type) none
   | _=>none)=some ks:=hk
  split at hk
  ·rename_i n e hu
   cases hd:(Nat.beq (P.cellsOf t) n && Nat.beq (P.cellsOf e) 1) with
   | false=>rw [hd] at hk;cases hk
   | true =>
    rw [hd] at hk
    rw [Bool.and_eq_true] at hd
    have e1:=Nat.eq_of_beq_eq_true hd.1
    have e2:=Nat.eq_of_beq_eq_true hd.2
    replace hk:(kB P e).map (List.replicate n)=some ks:=hk
    simp only [Option.map_eq_some_iff] at hk
    obtain ⟨k,hk,rfl⟩:=hk
    have hl:=hv.len
    simp at hl
    have hm:=oL 0 hk vs n 0 (by simpa using hv)
    simp only [List.drop_zero] at hm
    refine ⟨by simp [Value.formed,hu,e1,hl],?_⟩
    unfold Program.keyLits
    simp only [hu,e1,e2,hl,if_true,Nat.mul_one,List.range_eq_range']
    rw [hm]
    simp [LN]
  ·rename_i fs hu
   cases hd:(Nat.beq (P.cellsOf t) fs.size && fs.all (·.name != "_") && fs.toList.zipIdx.all fun p=>Nat.beq p.1.offset p.2 && Nat.beq (P.cellsOf p.1.type) 1) with
   | false=>rw [hd] at hk;cases hk
   | true =>
    rw [hd] at hk
    rw [Bool.and_eq_true,Bool.and_eq_true] at hd
    have e1:=Nat.eq_of_beq_eq_true hd.1.1
    replace hk:fs.toList.mapM (fun f=>kB P f.type)=some ks:=hk
    have hl:=hv.len
    have hl2:ks.length=fs.size:=by
     have:∀ (l:List Field) (ks:List (Option IntKind)),l.mapM (fun f=>kB P f.type)=some ks→ks.length=l.length:=by
      intro l
      induction l with
      | nil=>intro ks h;simp at h;subst h;rfl
      | cons f l ih =>
       intro ks h
       rw [List.mapM_cons] at h
       cases hc:kB P f.type with
       | none=>simp [hc] at h
       | some k =>
        cases hr:l.mapM (fun f=>kB P f.type) with
        | none=>simp [hc,hr] at h
        | some ks' =>
         simp [hc,hr] at h
         subst h
         simp [ih ks' hr]
     simpa using this _ _ hk
    have hm:=mP 0 vs fs.toList ks 0 hd.2 hk (by simpa using hv)
    simp only [List.drop_zero] at hm
    refine ⟨by simp [Value.formed,hu,e1,hl,hl2],?_⟩
    unfold Program.keyLits
    simp only [hu]
    rw [if_pos ⟨by rw [e1,hl,hl2],hd.1.2⟩,hm]
    simp [LN]
  ·cases hk
variable {N:Nat} {K:Fr→World→Prop} {ρ:Fr} {w:World} {v:Value} {dst:Option Nat} {d:Nat} {ty:TypeId} {pos:String} {af:Array Edge} {gd:Option (Nat × Bool)} {x y z:Operand} {t u e:TypeId}
theorem DP {ks:List (Option IntKind)} {xs ys:List Value} {p:Prop} [Decidable p] (hk:Cz P t=some ks) (hxs:iY ks xs) (hys:iY ks ys) (hp:xs=ys ↔ p):(Op.equal t (.agg xs.toArray) (.agg ys.toArray)).run P w=.ok (decide p) w:=by
 obtain ⟨h1,_,h3,h4⟩:=pG hk hxs
 obtain ⟨_,_,h5,h6⟩:=pG hk hys
 obtain ⟨r,hr,hiff⟩:=run_equalIn_deep 9998 2 t h1 w 2 2 _ _ _ _ h3 h5 h4 h6
 rw [uY hxs hys,hp] at hiff
 have:r=decide p:=by
  cases r
  ·exact (decide_eq_false (fun h=>by simpa using hiff.2 h)).symm
  ·exact (decide_eq_true (hiff.1 rfl)).symm
 rw [← this]
 exact hr
theorem CM {op:BinOp} {xs ys:Array Value} (h:P.eqGuardType P.depth t=false):(eqGuard op t x y (.agg xs) (.agg ys)).run P w=.ok () w:=by
 unfold eqGuard
 split<;>simp [h]
theorem Ik {ks:List (Option IntKind)} {xs ys:List Value} {p:Prop} [Decidable p] (hx:ev ρ x=.agg xs.toArray) (hy:ev ρ y=.agg ys.toArray) (hk:Cz P t=some ks) (hxs:iY ks xs) (hys:iY ks ys) (hp:xs=ys ↔ p) :
  cU P ρ ⟨dst,.binOp .eql t x y u,ty,pos,af,gd⟩ w (.bool (decide p)) w :=
 dB hx hy (CM (pG hk hxs).2.1) (by simp [binOp,DP hk hxs hys hp])
section
open Go.ChangeShapes Go.WideShapes
variable {H:Type} {enc:TypeId × Value→H} {W:World} {vv:Value} {dd:DataW H} {ps:List MemPlace} {sp:Nat→Bool} {hd:Bool} {base fuel:Nat}
end
variable {f:FuncId} {R:Value→World→Prop} {k:List Item}
theorem iG {b s:Nat} {cs:Array Value} (hB:cL w b e cs) (hl:cs.size=s) (ht:aF P t=some (true,s)):(loadVar t ⟨b,0,none⟩).run P w=.ok (.agg cs) w:=by
 have h1:(loadCells (At (some ⟨b,0,none⟩) 0) cs.toList.length).run P w=.ok cs w:=by
  have:=run_loadCells_list (P:=P) w (At (some ⟨b,0,none⟩) 0) cs.toList (fun i v hv=>by
   have:=hB.cX.cell i v hv
   rw [show (At (some ⟨b,0,none⟩) 0).add i=At (some ⟨b,0,none⟩) i from by unfold At;rw [eM];simp]
   exact this)
  simpa using this
 simp only [Array.length_toList,hl] at h1
 have e:At (some ⟨b,0,none⟩) 0=⟨b,0,none⟩:=rfl
 rw [e] at h1
 simp [loadVar,jF ht,dA ht,h1]
theorem bP {fn:Func} {c b s:Nat} {cs:Array Value} (hf:P.funcs[f]?=some fn) (hr:fn.results=#[.cell c t]) (hc:ρ c=.pointer (some ⟨b,0,none⟩)) (hB:cL w b e cs) (hl:cs.size=s) (ht:aF P t=some (true,s)) (h:R (.agg cs) w):WS P N f R (.code .ret::k) ρ w :=
 fW hf fM (fun a ha=>by
  have:=ha.val c
  rw [hc,Array.getD_eq_getD_getElem?] at this
  simp [results,hr,this,asAddr,iG hB hl ht]) h
theorem mR {fn:Func} {c b s r:Nat} {cs:Array Value} (hf:P.funcs[f]?=some fn) (hr:fn.results=#[.cell c t,.tmp r]) (hc:ρ c=.pointer (some ⟨b,0,none⟩)) (hB:cL w b e cs) (hl:cs.size=s) (ht:aF P t=some (true,s)) (h:R (.tuple #[.agg cs,ρ r]) w):WS P N f R (.code .ret::k) ρ w :=
 fW hf fM (fun a ha=>by
  have h1:=ha.val c
  rw [hc,Array.getD_eq_getD_getElem?] at h1
  have h2:=ha.val r
  rw [Array.getD_eq_getD_getElem?] at h2
  simp [results,hr,h1,← h2,asAddr,iG hB hl ht]) h
end
section
variable {P:Program} {N:Nat} {f:FuncId} {R:Value→World→Prop} {k:List Item} {ρ:Fr} {w:World}
theorem nO (L:List (Nat × Value)) (h:Has ρ L) (hk:∀ σ,WS P N f R k (bQ L σ) w):WS P N f R k ρ w:=by
 rw [← gK h];exact hk _
theorem cJ {C:Fr→World→Prop} {ops:Array Oper} {l:List Oper} (L:List (Nat × Value)) (h:Has ρ L) (hk:∀ σ,WL P N C ops l (bQ L σ) w):WL P N C ops l ρ w:=by
 rw [← gK h];exact hk _
def mQ (s:Value→World→Prop):Prop:=∀ v w w',s v w→Ext [] w w'→s v w'
def G7:List (Value→World→Prop)→Prop
 | []=>True
 | s::l=>mQ s∧G7 l
def oB (l:List (Value→World→Prop)) (i:Nat):Value→World→Prop :=
 match l,i with
 | [],_=>fun _ _=>True
 | s::_,0=>s
 | _::l,i+1=>oB l i
theorem G7.nth:∀ (l:List (Value→World→Prop)) (i:Nat),G7 l→mQ (oB l i)
 | [],_,_=>fun _ _ _ _ _=>trivial
 | _::_,0,h=>h.1
 | _::l,i+1,h=>G7.nth l i h.2
def Is (x:Value):Value→World→Prop:=fun v _=>v=x
theorem Is.st {x:Value}:mQ (Is x):=fun _ _ _ h _=>h
theorem bJ {o:Oper} {v:Value} (h:cU P ρ o w v w) (hd:gI N o.dst=true):kC P N ρ o w (fun ρ' w'=>Ext [] w w'∧∃ u,ρ'=fK ρ o.dst u∧Is v u w'):=fA h hd ⟨.refl,v,rfl,rfl⟩
end
section
variable {P:Program} {ρ:Fr} {w:World} {dst:Option Nat} {ty:TypeId} {pos:String} {af:Array Edge} {gd:Option (Nat × Bool)} {x y z u:Operand} {q:IntKind} {ats:Array TypeId}
theorem NF {t e:TypeId} {i:Int} {len cap b o:Nat} {g:Bool} {q':IntKind} (hx:ev ρ x=.slice (some ⟨b,o,none⟩) len cap) (hy:ev ρ y=.int q' i) (ht:sle P t=some (e,(g,1))) (hi:0≤i∧i<len) :
  cU P ρ ⟨dst,.indexAddr t x y,ty,pos,af,gd⟩ w (.pointer (some (At (some ⟨b,o,none⟩) i.toNat))) w:=by
 obtain ⟨hu,hs⟩:=eD ht
 constructor;unfold execOp
 simp [hx,hy,Instr.indexAt,run_underlying hu,asIntOf,hi,dA hs,eM,At]
theorem BU (z:Value) (n:Nat):madeCells [z].toArray (n*1)=(List.replicate n z).toArray:=by
 rw [Nat.mul_one]
 apply Array.toList_inj.1
 simpa using toList_madeCells_one z n
end
section
open Go.ChangeShapes Go.WideShapes
variable {H:Type} {enc:TypeId × Value→H} {P:Program} {W:World} {d:DataW H} {ps:List MemPlace} {t e:TypeId} {sp:Nat→Bool} {hd:Bool}
end
def N9 (P:Program) (t:TypeId):Option Value:=(P.info? t).bind (·.zero)
def Pf (P:Program) (t:TypeId):Option (IntKind × TypeId) :=
 match P.underlying t with
 | some (.map k e)=>(kindOf P k).map fun q=>(q,e)
 | _=>none
theorem Ba {P:Program} {t e:TypeId} {q:IntKind} (h:Pf P t=some (q,e)):∃ k,P.underlying t=some (.map k e)∧P.underlying k=some (.int q):=by
 unfold Pf at h
 split at h
 ·rename_i k e' hu
  simp only [Option.map_eq_some_iff,Prod.mk.injEq] at h
  obtain ⟨q',hq,rfl,rfl⟩:=h
  exact ⟨k,hu,fD hq⟩
 ·cases h
section
variable {P:Program} {N:Nat} {K:Fr→World→Prop} {ρ:Fr} {w:World} {dst:Option Nat} {d:Nat} {ty:TypeId} {pos:String} {af:Array Edge} {gd:Option (Nat × Bool)} {x y z:Operand} {t e:TypeId} {q:IntKind} {Q:Value→Prop} {b:Nat} {v:Value}
theorem tG {fn:Fn} (hx:ev ρ x=v):cU P ρ ⟨dst,.makeFunc fn #[] #[x],ty,pos,af,gd⟩ w (.func fn #[] #[v]) w:=by
 constructor;unfold execOp;simp [Instr.makeFunc,hx]
end
end Go.K
namespace Go.K
open Go
def force:Value→Option Value
 | .int q i=>some (.int q i)
 | .slice a n c=>some (.slice a n c)
 | .pointer a=>some (.pointer a)
 | .bool b=>some (.bool b)
 | .agg c=>some (.agg c)
 | .complex k a b=>some (.complex k a b)
 | v=>some v
theorem force_eq {v u:Value} (h:force v=some u):v=u:=by
 unfold force at h
 split at h<;>exact Option.some.inj h
def Bv (f:Int→Int→Bool):Value→Value→Option Value
 | .int q m,.int q' n=>if q=q' then some (.bool (f m n)) else none
 | _,_=>none
def K7 (a b:Value):Value→Option Value
 | .bool true=>force a
 | .bool false=>force b
 | _=>none
def PG:Value→Option Value
 | .bool true=>some (.bool false)
 | .bool false=>some (.bool true)
 | _=>none
def OT:Value→Option Value
 | .pointer (some a)=>some (.pointer (some a))
 | _=>none
def Qp (ρ:Fr):Op→Option Value
 | .move x=>force (ev ρ x)
 | .assign x=>force (ev ρ x)
 | .pick c a b=>K7 (ev ρ a) (ev ρ b) (ev ρ c)
 | .nilCheck x=>OT (ev ρ x)
 | .unOp .not _ x=>PG (ev ρ x)
 | .binOp .lss _ x y _=>Bv (fun m n=>decide (m<n)) (ev ρ x) (ev ρ y)
 | .binOp .leq _ x y _=>Bv (fun m n=>decide (m≤n)) (ev ρ x) (ev ρ y)
 | .binOp .gtr _ x y _=>Bv (fun m n=>decide (n<m)) (ev ρ x) (ev ρ y)
 | .binOp .geq _ x y _=>Bv (fun m n=>decide (n≤m)) (ev ρ x) (ev ρ y)
 | .binOp .eql _ x y _=>Bv (fun m n=>decide (m=n)) (ev ρ x) (ev ρ y)
 | .binOp .neq _ x y _=>Bv (fun m n=>decide (m≠n)) (ev ρ x) (ev ρ y)
 | _=>none
theorem nY {f:Int→Int→Bool} {a b v:Value} (h:Bv f a b=some v):∃ q m n,a=.int q m∧b=.int q n∧v=.bool (f m n):=by
 unfold Bv at h
 split at h
 ·split at h
  ·rename_i hq;subst hq;cases h;exact ⟨_,_,_,rfl,rfl,rfl⟩
  ·cases h
 ·cases h
theorem aP {P:Program} {ρ:Fr} {w:World} {v:Value} {dst:Option Nat} {op:Op} {ty:TypeId} {pos:String} {af:Array Edge} {gd:Option (Nat × Bool)} (h:Qp ρ op=some v):cU P ρ ⟨dst,op,ty,pos,af,gd⟩ w v w:=by
 unfold Qp at h
 split at h
 ·exact wF (force_eq h)
 ·exact jM (force_eq h)
 ·rename_i c a b
  unfold K7 at h
  split at h
  ·rename_i hc;exact qJ hc (force_eq h)
  ·rename_i hc;exact pQ hc (force_eq h)
  ·cases h
 ·rename_i x
  unfold OT at h
  split at h
  ·rename_i a ha;cases h;exact aG ha
  ·cases h
 ·rename_i t x
  unfold PG at h
  split at h
  ·rename_i ha;cases h;exact fJ ha
  ·rename_i ha;cases h;exact fJ ha
  ·cases h
 ·obtain ⟨q,m,n,h1,h2,rfl⟩:=nY h;exact OH h1 h2
 ·obtain ⟨q,m,n,h1,h2,rfl⟩:=nY h;exact vS h1 h2
 ·obtain ⟨q,m,n,h1,h2,rfl⟩:=nY h;exact Og h1 h2
 ·obtain ⟨q,m,n,h1,h2,rfl⟩:=nY h;exact H0 h1 h2
 ·obtain ⟨q,m,n,h1,h2,rfl⟩:=nY h;exact dJ h1 h2
 ·obtain ⟨q,m,n,h1,h2,rfl⟩:=nY h;exact eQ h1 h2
 ·cases h
end Go.K
