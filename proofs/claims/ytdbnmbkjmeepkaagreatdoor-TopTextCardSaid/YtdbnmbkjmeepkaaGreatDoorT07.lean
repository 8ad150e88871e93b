/- A part of the proof of the card of TopText; no condition. -/
import Derived.Test.YtdbnmbkjmeepkaaGreatDoorT06
import Derived.Maps.Range
namespace Go.K
open Go Go.RowKit
theorem Hp.call {S:List Nat} {W w w':World} {H Q:List cK} {r:cK} (i:Nat) (h:Hp S W w H) (hi:H[i]?=some r) (hQ:Hp r.fp w w' Q):Hp S W w' (H.eraseIdx i++Q):=by
 have hlt:i<H.length:=(List.getElem?_eq_some_iff.1 hi).1
 have hmem:∀ x∈H.eraseIdx i,∃ j,j≠i∧H[j]?=some x:=by
  intro x hx
  obtain ⟨j,hj⟩:=List.mem_iff_getElem?.1 hx
  rw [List.getElem?_eraseIdx] at hj
  split at hj
  ·rename_i hji;exact ⟨j,by omega,hj⟩
  ·rename_i hji;exact ⟨j+1,by omega,hj⟩
 have hd:=h.del i
 refine ⟨h.ext.trans hQ.ext (fun t ht=>h.new r (List.mem_of_getElem? hi) t ht),fun x hx=>?_,fun x hx y hy=>?_,?_⟩
 ·rcases List.mem_append.1 hx with h1|h1
  ·obtain ⟨j,hj,hxj⟩:=hmem x h1
   exact x.keep (h.at j hxj) hQ.ext (fun s hs hsx=>h.dj i j hi hxj (Ne.symm hj) s hs hsx)
  ·exact hQ.all x h1
 ·rcases List.mem_append.1 hx with h1|h1
  ·exact hd.new x h1 y hy
  ·rcases hQ.new x h1 y hy with h2|h2
   ·exact h.new r (List.mem_of_getElem? hi) y h2
   ·exact .inr (Nat.le_trans h.size h2)
 ·refine List.pairwise_append.2 ⟨hd.apart,hQ.apart,fun x hx q hq y hyx hyq=>?_⟩
  obtain ⟨j,hj,hxj⟩:=hmem x hx
  rcases hQ.new q hq y hyq with h2|h2
  ·exact h.dj i j hi hxj (Ne.symm hj) y h2 hyx
  ·have:=x.lt (h.at j hxj) y hyx;omega
def R2 (a1:Option Addr) (l1:List Nat) (a2:Option Addr) (l2:List Nat):cK:=(Rs a1 (l1.map B)).and (Rs a2 (l2.map B))
section
variable {P:Program} {ρ:Fr} {w:World} {dst:Option Nat} {ty t u:TypeId} {pos:String} {af:Array Edge} {gd:Option (Nat × Bool)} {x y:Operand} {q:IntKind}
theorem gY {i:Int} {len sz:Nat} {cs:Array Value} (hx:ev ρ x=.agg cs) (hy:ev ρ y=.int q i) (ha:arr P t=some (len,(true,sz))) (hi:0≤i∧i<len) :
  cU P ρ ⟨dst,.index t x y,ty,pos,af,gd⟩ w (.agg (cs.extract (i.toNat*sz) (i.toNat*sz+sz))) w:=by
 unfold arr at ha
 split at ha
 ·rename_i n e hu
  cases hs:aF P e with
  | none=>simp [hs] at ha
  | some p =>
   simp [hs] at ha
   obtain ⟨rfl,rfl⟩:=ha
   constructor;unfold execOp
   simp [hx,hy,Instr.index,run_underlying hu,asIntOf,hi,part,jF hs,dA hs]
 ·cases ha
end
def O9 (l:List Oper):Nat→Nat→Nat→Bool
 | 0,_,_=>false
 | n+1,i,j=>match l[i]? with
  | none=>false
  | some o=>(eH o).contains j || (eH o).any fun e=>O9 l n e j
def lS (l:List Oper) (n1:Nat):Bool:=fO l && l.zipIdx.all fun (_,i)=>Nat.blt i n1 || (List.range i).all fun j=>O9 l 8 i j
theorem wQ {l:List Oper} {D:Array Bool} (hcl:∀ i o,l[i]?=some o→D.getD i false=true→∀ e∈eH o,D.getD e false=true):∀ (n i j:Nat),O9 l n i j=true→∀ o,l[i]?=some o→(∀ e∈eH o,D.getD e false=true)→D.getD j false=true
 | 0,_,_,h,_,_,_=>by cases h
 | n+1,i,j,h,o,ho,hd=>by
  unfold O9 at h
  rw [ho] at h
  simp only [Bool.or_eq_true,List.contains_eq_mem,decide_eq_true_eq,List.any_eq_true] at h
  rcases h with h|⟨e,he,h⟩
  ·exact hd j h
  ·cases hl:l[e]? with
   | none=>cases n<;>simp [O9,hl] at h
   | some o'=>exact wQ hcl n e j h o' hl (hcl e o' hl (hd e he))
section
variable {P:Program}
theorem Ff {Q:Exit→Act→World→Prop} {l:List Oper} {n1:Nat} (hok:lS l n1=true):∀ (m j:Nat) (D:Array Bool) (a:Act) (w:World),j+m=l.length→n1≤j→D.size=l.length→(∀ i,i<l.length→D.getD i false=decide (i<j)) →
  wpOps P l.toArray Q (List.range' j m) a w→wpAny P .any l.toArray Q m D a w:=by
 simp only [lS,Bool.and_eq_true] at hok
 intro m
 induction m with
 | zero =>
  intro j D a w hjm hj hsz hD h
  refine ⟨List.eq_nil_iff_forall_not_mem.2 (fun i hi=>?_),h⟩
  obtain ⟨h0,o,ho,_⟩:=mem_ready.1 hi
  have hil:i<l.length:=(List.getElem?_eq_some_iff.1 (show l[i]?=some o by simpa using ho)).1
  have:=hD i hil
  rw [decide_eq_true (by omega)] at this
  have hid:i<D.size:=by omega
  simp [Array.getD,hid] at this h0
  rw [this] at h0;cases h0
 | succ m ih =>
  intro j D a w hjm hj hsz hD h
  have hcl:∀ i o,l[i]?=some o→D.getD i false=true→∀ e∈eH o,D.getD e false=true:=fun i o hi hd e he=>by
   have hil:i<l.length:=(List.getElem?_eq_some_iff.1 hi).1
   rw [hD i hil] at hd
   have hlt:=cY hok.1 hi he
   rw [hD e (by omega)]
   have:=of_decide_eq_true hd
   exact decide_eq_true (by omega)
  have hready:∀ i,i∈Region.ready .any l.toArray D ↔ i=j:=fun i=>by
   rw [mem_ready]
   constructor
   ·rintro ⟨h0,o,ho,cW⟩
    have hlo:l[i]?=some o:=by simpa using ho
    have hil:i<l.length:=(List.getElem?_eq_some_iff.1 hlo).1
    have hid:i<D.size:=by omega
    have h1:=hD i hil
    have h2:¬ i<j:=fun hlt=>by
     rw [decide_eq_true hlt] at h1
     simp [Array.getD,hid] at h1 h0
     rw [h1] at h0;cases h0
    by_cases hij:i=j
    ·exact hij
    ·exfalso
     have h3:=List.all_eq_true.1 hok.2 (o,i) (List.mem_zipIdx_iff_getElem?.2 hlo)
     simp only [Bool.or_eq_true,Nat.blt_eq] at h3
     rcases h3 with h3|h3
     ·omega
     ·have h4:=List.all_eq_true.1 h3 j (List.mem_range.2 (by omega))
      have h5:=wQ hcl 8 i j h4 o hlo (fun e he=>by
       obtain ⟨e',he',hb,rfl⟩:=kW he
       exact cW e' (by simpa using he') hb)
      rw [hD j (by omega)] at h5
      simp at h5
   ·rintro rfl
    have hil:i<l.length:=by omega
    refine ⟨?_,l[i],by simp [hil],fun e he hb=>?_⟩
    ·have h1:=hD i hil
     have hid:i<D.size:=by omega
     simp [Array.getD,hid] at h1 ⊢
     exact h1
    ·have hlt:=cY hok.1 (show l[i]?=some l[i] by simp) (gO he hb)
     rw [hD e.on (by omega)]
     exact decide_eq_true hlt
  refine ⟨fun hnil=>?_,fun i hi=>?_⟩
  ·have:=(hready j).2 rfl
   rw [hnil] at this;cases this
  ·obtain rfl:=(hready i).1 hi
   rw [List.range'_succ,wpOps_cons] at h
   refine wpOp_mono (fun a' w' h'=>ih (i+1) _ a' w' (by omega) (by omega) (by simp [hsz]) (fun x hx=>?_) h') h
   by_cases hxi:x=i
   ·subst hxi
    have:x<D.size:=by omega
    simp [Array.getD,this]
   ·rw [getD_set_ne false (Ne.symm hxi),hD x hx]
    congr 1
    exact propext ⟨fun h=>by omega,fun h=>by omega⟩
theorem yV {Q Q1:Exit→Act→World→Prop} {l:List Oper} {n1:Nat} (hn1:n1≤l.length) (hok:lS l n1=true) (hQ:∀ e a w,e≠.normal→Q1 e a w→Q e a w) (hgd:(l.take n1).all (fun o=>match o.guard with|some (g,_)=>Nat.blt g n1|none=>true)=true)
  (htail:∀ a w,Q1 .normal a w→wpOps P l.toArray Q (List.range' n1 (l.length-n1)) a w) :
  ∀ (fuel:Nat) (D D':Array Bool) (a:Act) (w:World),D.size=n1→D'.size=l.length→(∀ i,i<n1→D'.getD i false=D.getD i false)→(∀ i,n1≤i→i<l.length→D'.getD i false=false)→(∀ i o,l[i]?=some o→D'.getD i false=true→∀ e∈eH o,D'.getD e false=true)→D.toList.count false=fuel →
   wpAny P .any (l.take n1).toArray Q1 fuel D a w→wpAny P .any l.toArray Q (fuel+(l.length-n1)) D' a w:=by
 have hok':=hok
 simp only [lS,Bool.and_eq_true] at hok'
 have hget:∀ i,i<n1→(l.take n1)[i]?=l[i]?:=fun i hi=>by rw [List.getElem?_take,if_pos hi]
 intro fuel
 induction fuel with
 | zero =>
  intro D D' a w hD hD' h1 h2 hcl hc h
  rw [Nat.zero_add]
  have cW:∀ i,i<n1→D.getD i false=true:=fun i hi=>by
   have hid:i<D.size:=by omega
   cases hb:D.getD i false with
   | true=>rfl
   | false =>
    exfalso
    have:=List.count_eq_zero.1 hc
    apply this
    rw [List.mem_iff_getElem?]
    exact ⟨i,by simp [Array.getD,hid] at hb;simp [hid,hb]⟩
  refine Ff hok _ n1 D' a w (by omega) (Nat.le_refl _) hD' (fun i hi=>?_) (htail a w h.2)
  by_cases hin:i<n1
  ·rw [h1 i hin,cW i hin,decide_eq_true hin]
  ·rw [h2 i (by omega) hi,decide_eq_false hin]
 | succ fuel ih =>
  intro D D' a w hD hD' h1 h2 hcl hc h
  have hne:∃ i,i<n1∧D.getD i false=false:=by
   have:0<D.toList.count false:=by omega
   have hm:=List.count_pos_iff.1 this
   obtain ⟨i,hi⟩:=List.mem_iff_getElem?.1 hm
   have hid:i<D.size:=by simpa using (List.getElem?_eq_some_iff.1 hi).1
   exact ⟨i,by omega,by simp [Array.getD,hid];simpa [hid] using hi⟩
  have hready:∀ i,i∈Region.ready .any l.toArray D' ↔ i∈Region.ready .any (l.take n1).toArray D:=fun i=>by
   rw [mem_ready,mem_ready]
   constructor
   ·rintro ⟨h0,o,ho,cW⟩
    have hlo:l[i]?=some o:=by simpa using ho
    have hil:i<l.length:=(List.getElem?_eq_some_iff.1 hlo).1
    have hin:i<n1:=by
     rcases Nat.lt_or_ge i n1 with h|h
     ·exact h
     ·exfalso
      obtain ⟨x,hx,hxf⟩:=hne
      have h3:=List.all_eq_true.1 hok'.2 (o,i) (List.mem_zipIdx_iff_getElem?.2 hlo)
      simp only [Bool.or_eq_true,Nat.blt_eq] at h3
      rcases h3 with h3|h3
      ·omega
      ·have h4:=List.all_eq_true.1 h3 x (List.mem_range.2 (by omega))
       have h5:=wQ hcl 8 i x h4 o hlo (fun e he=>by
        obtain ⟨e',he',hb,rfl⟩:=kW he
        exact cW e' he' hb)
       rw [h1 x hx,hxf] at h5;cases h5
    have hid:i<D.size:=by omega
    have hid':i<D'.size:=by omega
    refine ⟨?_,o,by simpa [hget i hin] using hlo,fun e he hb=>?_⟩
    ·have:=h1 i hin
     simp [Array.getD,hid,hid'] at this h0 ⊢
     rw [← this];exact h0
    ·have hlt:=cY hok'.1 hlo (gO he hb)
     rw [← h1 e.on (by omega)]
     exact cW e he hb
   ·rintro ⟨h0,o,ho,cW⟩
    have hlo':(l.take n1)[i]?=some o:=by simpa using ho
    have hin:i<n1:=by have:=(List.getElem?_eq_some_iff.1 hlo').1;simp at this;omega
    have hlo:l[i]?=some o:=by rw [← hget i hin];exact hlo'
    have hid:i<D.size:=by omega
    have hid':i<D'.size:=by omega
    refine ⟨?_,o,by simpa using hlo,fun e he hb=>?_⟩
    ·have:=h1 i hin
     simp [Array.getD,hid,hid'] at this h0 ⊢
     rw [this];exact h0
    ·have hlt:=cY hok'.1 hlo (gO he hb)
     rw [h1 e.on (by omega)]
     exact cW e he hb
  have hsome:Region.ready .any (l.take n1).toArray D≠[]:=fun hnil=>by
   obtain ⟨x,hx,hxf⟩:=hne
   have:∀ x,x<n1→D.getD x false=true:=by
    intro x
    induction x using Nat.strongRecOn with
    | _ x ihx =>
     intro hx
     cases hb:D.getD x false with
     | true=>rfl
     | false =>
      exfalso
      have hxd:x<D.size:=by omega
      have hxl:x<l.length:=by omega
      have hm:x∈Region.ready .any (l.take n1).toArray D:=by
       rw [mem_ready]
       refine ⟨by simp [Array.getD,hxd] at hb ⊢;exact hb,l[x],by simp [hx,hxl],fun e he hbi=>?_⟩
       have hlt:=cY hok'.1 (show l[x]?=some l[x] by simp) (gO he hbi)
       exact ihx _ hlt (by omega)
      rw [hnil] at hm;cases hm
   rw [this x hx] at hxf;cases hxf
  rw [Nat.add_right_comm]
  refine ⟨fun hnil=>?_,fun i hi=>?_⟩
  ·exfalso
   apply hsome
   refine List.eq_nil_iff_forall_not_mem.2 (fun i hi=>?_)
   have:=(hready i).2 hi
   rw [hnil] at this;cases this
  ·have hi1:=(hready i).1 hi
   have h3:=h.2 i hi1
   obtain ⟨h0,o,ho,_⟩:=mem_ready.1 hi1
   have hin:i<n1:=by have:=(List.getElem?_eq_some_iff.1 (show (l.take n1)[i]?=some o by simpa using ho)).1;simp at this;omega
   refine wpOp_mono (fun a' w' h'=>ih (D.setIfInBounds i true) (D'.setIfInBounds i true) a' w' (by simp [hD]) (by simp [hD']) ?_ ?_ ?_ ?_ h') (zB hin hQ hgd h3)
   ·intro x hx
    by_cases hxi:x=i
    ·subst hxi
     have h6:x<D.size:=by omega
     have h7:x<D'.size:=by omega
     simp [Array.getD,h6,h7]
    ·rw [getD_set_ne false (Ne.symm hxi),getD_set_ne false (Ne.symm hxi)];exact h1 x hx
   ·intro x hx hxl
    rw [getD_set_ne false (by omega)];exact h2 x hx hxl
   ·intro x ox hx hdx e he
    have hset:∀ y,D'.getD y false=true→(D'.setIfInBounds i true).getD y false=true:=fun y hy=>by
     by_cases hyi:y=i
     ·subst hyi
      have h7:y<D'.size:=by omega
      simp [Array.getD,h7]
     ·rw [getD_set_ne false (Ne.symm hyi)];exact hy
    apply hset
    by_cases hxi:x=i
    ·subst hxi
     obtain ⟨_,o',ho',hall'⟩:=mem_ready.1 hi
     have:o'=ox:=by
      have h8:l[x]?=some o':=by simpa using ho'
      rw [h8] at hx;cases hx;rfl
     subst this
     obtain ⟨e',he',hb,rfl⟩:=kW he
     exact hall' e' he' hb
    ·rw [getD_set_ne false (Ne.symm hxi)] at hdx
     exact hcl x ox hx hdx e he
   ·have hid:i<D.size:=by omega
    have:(D.setIfInBounds i true).toList.count false+1=D.toList.count false:=by
     rw [Array.toList_setIfInBounds]
     exact fG D.toList i (by simp [Array.getD,hid] at h0;simp [hid,h0])
    omega
end
theorem iL {P:Program} {N:Nat} {f:FuncId} {R:Value→World→Prop} {k:List Item} {ρ:Fr} {w:World} {id:Nat} {l:List Oper} (hm:P.follows .mixedOrders=true) (n1:Nat) (hn:((l.take n1).length=n1)) (hok:lS l n1=true) (hgd:(l.take n1).all (fun o=>match o.guard with|some (g,_)=>Nat.blt g n1|none=>true)=true)
  (S:World→Prop) (h:WA P N (WL P N (WS P N f R k) l.toArray (l.drop n1)) (l.take n1).toArray S n1 n1 [] ρ w.drew) :
  WS P N f R (.code (.region id l.toArray true)::k) ρ w:=by
 have hn1:n1≤l.length:=by simp at hn;omega
 refine vN fun a ha=>wp_region_any hm ?_
 have h1:=wpAny_of_held _ _ _ _ (h.out a ha)
 have h2:=yV (Q:=QN N (WS P N f R k)) hn1 hok (fun e a w hne hq=>absurd hq.1 hne) hgd (fun a w hq=>by
  obtain ⟨_,ρ',hr,hw⟩:=hq
  have h3:=hw.out a hr
  have h4:=wpOps_eq_wpList (P:=P) (ops:=l.toArray) (Q:=QN N (WS P N f R k)) (l.drop n1) n1 (fun j=>by simp)
  rw [List.length_drop] at h4
  rw [h4];exact h3) n1 (DG n1 []) (Array.replicate l.length false) a _ (by simp [DG]) (by simp) (fun i hi=>by simp [DG,Array.getD,hi,Nat.lt_of_lt_of_le hi hn1]) (fun i hi hil=>by simp [Array.getD,hil]) (fun i o hi hd=>by
  have hil:i<l.length:=(List.getElem?_eq_some_iff.1 hi).1
  simp [Array.getD,hil] at hd) (by simp [DG]) h1
 rw [show n1+(l.length-n1)=l.toArray.size by simp;omega] at h2
 simpa using h2
section
open Go.RowKit
variable {P:Program} {ρ:Fr} {w:World} {t:TypeId}
variable {N:Nat} {f:FuncId} {R:Value→World→Prop} {k:List Item}
theorem jR {fn:Func} {e:TypeId} {c b s r q:Nat} {cs:Array Value} (hf:P.funcs[f]?=some fn) (hr:fn.results=#[.cell c t,.tmp r,.tmp q]) (hc:ρ c=.pointer (some ⟨b,0,none⟩)) (hB:cL w b e cs) (hl:cs.size=s) (ht:aF P t=some (true,s)) (h:R (.tuple #[.agg cs,ρ r,ρ q]) w):WS P N f R (.code .ret::k) ρ w :=
 fW hf fM (fun a ha=>by
  have h1:=ha.val c
  rw [hc,Array.getD_eq_getD_getElem?] at h1
  have h2:=ha.val r
  rw [Array.getD_eq_getD_getElem?] at h2
  have h3:=ha.val q
  rw [Array.getD_eq_getD_getElem?] at h3
  simp [results,hr,h1,← h2,← h3,asAddr,iG hB hl ht]) h
end
section
variable {P:Program} {ρ:Fr} {w:World} {dst:Option Nat} {ty t:TypeId} {pos:String} {af:Array Edge} {gd:Option (Nat × Bool)} {x:Operand}
theorem It {b o n sz:Nat} {g:Bool} (hx:ev ρ x=.pointer (some ⟨b,o,none⟩)) (ht:arr P t=some (n,(g,sz))):cU P ρ ⟨dst,.slice t x none none none,ty,pos,af,gd⟩ w (.slice (some ⟨b,o,none⟩) n n) w:=by
 obtain ⟨e,hu,hs⟩:=uS ht
 have h0:(if n=0 then (⟨b,o,none⟩:Addr) else (⟨b,o,none⟩:Addr).add 0)=⟨b,o,none⟩:=by split<;>rfl
 constructor;unfold execOp
 simp [hx,Instr.sliceAt,Instr.sureAddr,run_underlying hu,Instr.sliceBounds,dA hs,h0]
end
section
variable {P:Program} {ρ:Fr} {w:World} {dst:Option Nat} {ty t u e:TypeId} {pos:String} {af:Array Edge} {gd:Option (Nat × Bool)} {x y:Operand} {q:IntKind}
theorem lN {i:Int} {j len:Nat} {a:Option Addr} {g:Bool} (hx:ev ρ x=.pointer (some (At a j))) (hy:ev ρ y=.int q i) (ht:arr P t=some (len,(g,1))) (hi:0≤i∧i<len) :
  cU P ρ ⟨dst,.indexAddr t x y,ty,pos,af,gd⟩ w (.pointer (some (At a (j+i.toNat)))) w:=by
 have h:=qZ (P:=P) (w:=w) (dst:=dst) (ty:=ty) (pos:=pos) (af:=af) (gd:=gd) (ρ:=ρ) (x:=x) (b:=(At a j).block) (o:=(At a j).off) hx hy ht hi
 have e:(⟨(At a j).block,(At a j).off+i.toNat*1,none⟩:Addr)=At a (j+i.toNat):=by simp [At,Nat.add_assoc]
 rw [e] at h
 exact h
end
section
variable {P:Program} {N:Nat} {C:Fr→World→Prop} {ops:Array Oper} {S:World→Prop} {n fuel:Nat} {done:List Nat} {ρ:Fr} {w:World}
end
section
variable {P:Program} {ρ:Fr} {w:World} {dst:Option Nat} {ty t u:TypeId} {pos:String} {af:Array Edge} {gd:Option (Nat × Bool)} {x y:Operand} {a b c d r i:Nat}
theorem NC (hx:ev ρ x=.complex .f64 a b) (hy:ev ρ y=.complex .f64 c d) (h1:FloatKind.f64.format.add a c=some r) (h2:FloatKind.f64.format.add b d=some i):cU P ρ ⟨dst,.binOp .add t x y u,ty,pos,af,gd⟩ w (.complex .f64 r i) w :=
 dB hx hy (aZ rfl) (by simp [binOp,Op.complexOp,Op.Complex.arith,Op.floatArith,h1,h2])
end
section
variable {P:Program} {N:Nat} {K:Fr→World→Prop} {ρ:Fr} {w:World} {d:Nat} {ty t e:TypeId} {pos:String} {af:Array Edge} {gd:Option (Nat × Bool)} {x y:Operand} {q:IntKind} {b:Nat} {Q:Value→Prop}
theorem xT {fn:Func} {t u s r:Tmp} (h:fn.results=#[.tmp t,.tmp u,.tmp s,.tmp r]) {a:Act} (ha:sW N a ρ):(results fn a.tmps).run P w=.ok (.tuple #[ρ t,ρ u,ρ s,ρ r]) w:=by
 simp [results,h,← ha.val]
theorem EA {f:FuncId} {R:Value→World→Prop} {k:List Item} {fn:Func} {t u s r:Tmp} (hf:P.funcs[f]?=some fn) (hr:fn.results=#[.tmp t,.tmp u,.tmp s,.tmp r]) (h:R (.tuple #[ρ t,ρ u,ρ s,ρ r]) w):WS P N f R (.code .ret::k) ρ w:=fW hf fM (fun _ ha=>xT hr ha) h
end
structure Sep (A:List cK) (w:World):Prop where
 all:∀ r∈A,r.holds w
 apart:A.Pairwise Dj
def eY (A:List cK):List Nat:=A.flatMap (·.fp)
section
variable {S:List Nat} {W w w':World} {A H Q:List cK}
theorem qU {r:cK} (h:r∈A) {x:Nat} (hx:x∈r.fp):x∈eY A:=List.mem_flatMap.2 ⟨r,h,hx⟩
theorem Hp.fQ (h:Sep A w):Hp (eY A) w w A:=⟨.refl,h.all,fun _ hr _ hx=>.inl (qU hr hx),h.apart⟩
theorem Hp.jO (n:Nat) (h:Hp S W w H):Sep (H.take n) w:=⟨(h.take n).all,(h.take n).apart⟩
theorem Hp.calls (n:Nat) (h:Hp S W w H) (hQ:Hp (eY (H.take n)) w w' Q):Hp S W w' (Q++H.drop n):=by
 have hsp:(H.take n++H.drop n).Pairwise Dj:=by rw [List.take_append_drop];exact h.apart
 obtain ⟨h1,h2,h3⟩:=List.pairwise_append.1 hsp
 have hF:∀ y∈eY (H.take n),∃ r∈H.take n,y∈r.fp:=fun y hy=>List.mem_flatMap.1 hy
 have hin:∀ y∈eY (H.take n),y∈S∨W.heap.size≤y:=fun y hy=>by
  obtain ⟨r,hr,hyr⟩:=hF y hy
  exact h.new r (List.mem_of_mem_take hr) y hyr
 refine ⟨h.ext.trans hQ.ext hin,fun x hx=>?_,fun x hx y hy=>?_,?_⟩
 ·rcases List.mem_append.1 hx with hx|hx
  ·exact hQ.all x hx
  ·refine x.keep (h.all x (List.mem_of_mem_drop hx)) hQ.ext (fun s hs hsx=>?_)
   obtain ⟨r,hr,hsr⟩:=hF s hs
   exact h3 r hr x hx s hsr hsx
 ·rcases List.mem_append.1 hx with hx|hx
  ·rcases hQ.new x hx y hy with h4|h4
   ·exact hin y h4
   ·exact .inr (Nat.le_trans h.size h4)
  ·exact h.new x (List.mem_of_mem_drop hx) y hy
 ·refine List.pairwise_append.2 ⟨hQ.apart,h2,fun q hq x hx y hyq hyx=>?_⟩
  rcases hQ.new q hq y hyq with h4|h4
  ·obtain ⟨r,hr,hyr⟩:=hF y h4
   exact h3 r hr x hx y hyr hyx
  ·have:=x.lt (h.all x (List.mem_of_mem_drop hx)) y hyx;omega
end
theorem cM {P:Program} {N:Nat} {f:FuncId} {R:Value→World→Prop} {k:List Item} {ρ:Fr} {w:World} {id:Nat} {l:List Oper} (hm:P.follows .mixedOrders=true) (n1:Nat) (hn:((l.take n1).length=n1)) (hok:lS l n1=true) (hgd:(l.take n1).all (fun o=>match o.guard with|some (g,_)=>Nat.blt g n1|none=>true)=true)
  (h:∀ w1,Ext [] w w1→WA P N (WL P N (WS P N f R k) l.toArray (l.drop n1)) (l.take n1).toArray (fun w'=>Ext [] w w') n1 n1 [] ρ w1) :
  WS P N f R (.code (.region id l.toArray true)::k) ρ w:=iL hm n1 hn hok hgd (fun w'=>Ext [] w w') (h _ Ext.dV)
theorem oG {P:Program} {N:Nat} {f:FuncId} {R:Value→World→Prop} {k:List Item} {ρ:Fr} {w:World} (h:∀ u,u=w→WS P N f R k ρ u):WS P N f R k ρ w:=h w rfl
end Go.K
namespace Go.K
open Go Go.K
structure rI (G:Prop):Prop where
 g:G
theorem aK {G G':Prop} (h:G') (k:rI G'→G:=by intro zh;(repeat (first|refine DM ?_|refine yQ ?_|refine Ht ?_|refine CC ?_|refine vI ?_|refine Eh ?_|refine EE rfl ?_|refine zK rfl ?_|refine wO rfl ?_|refine DE rfl (by omega) ?_|refine Iu rfl (by omega) ?_|refine lT rfl rfl rfl ?_|refine rU rfl rfl rfl rfl rfl ?_|refine Ed rfl rfl rfl ?_|refine lT rfl rfl (dF (by omega)) ?_|refine lT rfl rfl (dT (by omega)) ?_|refine rU (b:=false) rfl rfl (dF (by omega)) rfl rfl ?_|refine rU (b:=true) rfl rfl (dT (by omega)) rfl rfl ?_|(refine aD (by first|refine aP rfl|refine cT rfl rfl (by omega)|refine dM rfl rfl (by omega)|refine yC rfl (Ty.LP rfl)|refine A7 rfl (Ty.K8 rfl)|refine Ij rfl|refine fJ rfl|refine eK rfl rfl|refine gJ rfl rfl|refine bN rfl rfl (by omega)|refine jC rfl rfl (by omega)|refine iX rfl rfl (by omega)|refine iE rfl rfl|refine eT rfl rfl rfl (by omega)|refine vZ rfl rfl rfl (by omega)|refine iK rfl rfl rfl (by omega)|refine uH rfl rfl rfl (by omega)|refine A2 rfl rfl rfl|refine wF rfl|refine jM rfl|refine pQ (dF (by omega)) rfl|refine qJ (dT (by omega)) rfl) rfl ?_)));exact zh.g):G:=k ⟨h⟩
theorem aR {G G':Prop} (h:G') (k:rI G'→G:=by intro zh;(first|refine DM ?_|refine yQ ?_|refine Ht ?_|refine CC ?_|refine vI ?_|refine Eh ?_|refine EE rfl ?_|refine zK rfl ?_|refine wO rfl ?_|refine DE rfl (by omega) ?_|refine Iu rfl (by omega) ?_|refine lT rfl rfl rfl ?_|refine rU rfl rfl rfl rfl rfl ?_|refine Ed rfl rfl rfl ?_|refine lT rfl rfl (dF (by omega)) ?_|refine lT rfl rfl (dT (by omega)) ?_|refine rU (b:=false) rfl rfl (dF (by omega)) rfl rfl ?_|refine rU (b:=true) rfl rfl (dT (by omega)) rfl rfl ?_);exact zh.g):G:=k ⟨h⟩
theorem aT {G G':Prop} (h:G') (k:rI G'→G:=by intro zh;refine aD (by first|refine aP rfl|refine cT rfl rfl (by omega)|refine dM rfl rfl (by omega)|refine yC rfl (Ty.LP rfl)|refine A7 rfl (Ty.K8 rfl)|refine Ij rfl|refine fJ rfl|refine eK rfl rfl|refine gJ rfl rfl|refine bN rfl rfl (by omega)|refine jC rfl rfl (by omega)|refine iX rfl rfl (by omega)|refine iE rfl rfl|refine eT rfl rfl rfl (by omega)|refine vZ rfl rfl rfl (by omega)|refine iK rfl rfl rfl (by omega)|refine uH rfl rfl rfl (by omega)|refine A2 rfl rfl rfl|refine wF rfl|refine jM rfl|refine pQ (dF (by omega)) rfl|refine qJ (dT (by omega)) rfl) rfl ?_;exact zh.g):G:=k ⟨h⟩
theorem aO {G G':Prop} (h:G') (k:rI G'→G:=by intro zh;(try refine lT rfl rfl rfl ?_);exact zh.g):G:=k ⟨h⟩
theorem bE {P:Program} {N:Nat} {C:Fr→World→Prop} {ops:Array Oper} {S:World→Prop} {n fuel:Nat} {done:List Nat} {ρ:Fr} {w:World} {v:Value} (i:Nat) {o:Oper} (hS:S w) (hk:WA P N C ops S n fuel (i::done) (fK ρ o.dst v) w) (hi:ops[i]?=some o:=by exact rfl) (hg:o.guard=none:=by exact rfl) (hd:gI N o.dst=true:=by exact rfl) (hr:∀ w',S w'→cU P ρ o w' v w':=by intro _ _;first|refine aP rfl|refine cT rfl rfl (by omega)|refine dM rfl rfl (by omega)|refine yC rfl (Ty.LP rfl)|refine A7 rfl (Ty.K8 rfl)|refine Ij rfl|refine fJ rfl|refine eK rfl rfl|refine gJ rfl rfl|refine bN rfl rfl (by omega)|refine jC rfl rfl (by omega)|refine iX rfl rfl (by omega)|refine iE rfl rfl|refine eT rfl rfl rfl (by omega)|refine vZ rfl rfl rfl (by omega)|refine iK rfl rfl rfl (by omega)|refine uH rfl rfl rfl (by omega)|refine A2 rfl rfl rfl|refine wF rfl|refine jM rfl|refine pQ (dF (by omega)) rfl|refine qJ (dT (by omega)) rfl) (hc:nB ops n done i=true:=by kernel_rfl):WA P N C ops S n (fuel+1) done ρ w:=Ea i hi hc hS hg hd hr hk
theorem aY {P:Program} {N:Nat} {C:Fr→World→Prop} {ops:Array Oper} {S:World→Prop} {n fuel:Nat} {done:List Nat} {ρ:Fr} {w:World} {v:Value} (i:Nat) {o:Oper} (hS:S w) (hi:ops[i]?=some o) (hr:∀ w',S w'→cU P ρ o w' v w') (hk:WA P N C ops S n fuel (i::done) (fK ρ o.dst v) w) (hg:o.guard=none:=by exact rfl) (hd:gI N o.dst=true:=by exact rfl) (hc:nB ops n done i=true:=by kernel_rfl):WA P N C ops S n (fuel+1) done ρ w:=Ea i hi hc hS hg hd hr hk
theorem cP {G:Prop} (h:G:=by repeat (first|with_reducible apply eG.refl|refine eG.dX rfl ?_|refine eG.fK rfl ?_|refine eG.bQ rfl ?_|refine eG.oW rfl ?_|exact eG.refl|refine eG.updn ?_)):G:=h
section
variable {S:List Nat} {W w:World} {H H':List cK}
theorem P3 (h:H=[]):H=[]:=h
theorem QS {r0:cK} (h:H=[r0]):H=[r0]:=h
theorem Pw {r0 r1:cK} (h:H=[r0,r1]):H=[r0,r1]:=h
theorem Pt {r0 r1 r2:cK} (h:H=[r0,r1,r2]):H=[r0,r1,r2]:=h
theorem Pm {r0 r1 r2 r3:cK} (h:H=[r0,r1,r2,r3]):H=[r0,r1,r2,r3]:=h
theorem Py {r0 r1 r2 r3 r4:cK} (h:H=[r0,r1,r2,r3,r4]):H=[r0,r1,r2,r3,r4]:=h
theorem Pn {r0 r1 r2 r3 r4 r5:cK} (h:H=[r0,r1,r2,r3,r4,r5]):H=[r0,r1,r2,r3,r4,r5]:=h
theorem Pu {r0 r1 r2 r3 r4 r5 r6:cK} (h:H=[r0,r1,r2,r3,r4,r5,r6]):H=[r0,r1,r2,r3,r4,r5,r6]:=h
theorem QP {r0 r1 r2 r3 r4 r5 r6 r7:cK} (h:H=[r0,r1,r2,r3,r4,r5,r6,r7]):H=[r0,r1,r2,r3,r4,r5,r6,r7]:=h
theorem QQ {r0 r1 r2 r3 r4 r5 r6 r7 r8:cK} (h:H=[r0,r1,r2,r3,r4,r5,r6,r7,r8]):H=[r0,r1,r2,r3,r4,r5,r6,r7,r8]:=h
theorem Ou {r0 r1 r2 r3 r4 r5 r6 r7 r8 r9:cK} (h:H=[r0,r1,r2,r3,r4,r5,r6,r7,r8,r9]):H=[r0,r1,r2,r3,r4,r5,r6,r7,r8,r9]:=h
theorem O4 {r0 r1 r2 r3 r4 r5 r6 r7 r8 r9 r10:cK} (h:H=[r0,r1,r2,r3,r4,r5,r6,r7,r8,r9,r10]):H=[r0,r1,r2,r3,r4,r5,r6,r7,r8,r9,r10]:=h
theorem Ox {r0 r1 r2 r3 r4 r5 r6 r7 r8 r9 r10 r11:cK} (h:H=[r0,r1,r2,r3,r4,r5,r6,r7,r8,r9,r10,r11]):H=[r0,r1,r2,r3,r4,r5,r6,r7,r8,r9,r10,r11]:=h
theorem Oi {r0 r1 r2 r3 r4 r5 r6 r7 r8 r9 r10 r11 r12:cK} (h:H=[r0,r1,r2,r3,r4,r5,r6,r7,r8,r9,r10,r11,r12]):H=[r0,r1,r2,r3,r4,r5,r6,r7,r8,r9,r10,r11,r12]:=h
theorem OV {r0 r1 r2 r3 r4 r5 r6 r7 r8 r9 r10 r11 r12 r13:cK} (h:H=[r0,r1,r2,r3,r4,r5,r6,r7,r8,r9,r10,r11,r12,r13]):H=[r0,r1,r2,r3,r4,r5,r6,r7,r8,r9,r10,r11,r12,r13]:=h
theorem Oy {r0 r1 r2 r3 r4 r5 r6 r7 r8 r9 r10 r11 r12 r13 r14:cK} (h:H=[r0,r1,r2,r3,r4,r5,r6,r7,r8,r9,r10,r11,r12,r13,r14]):H=[r0,r1,r2,r3,r4,r5,r6,r7,r8,r9,r10,r11,r12,r13,r14]:=h
theorem PT {r0 r1 r2 r3 r4 r5 r6 r7 r8 r9 r10 r11 r12 r13 r14 r15:cK} (h:H=[r0,r1,r2,r3,r4,r5,r6,r7,r8,r9,r10,r11,r12,r13,r14,r15]):H=[r0,r1,r2,r3,r4,r5,r6,r7,r8,r9,r10,r11,r12,r13,r14,r15]:=h
theorem OC {r0 r1 r2 r3 r4 r5 r6 r7 r8 r9 r10 r11 r12 r13 r14 r15 r16:cK} (h:H=[r0,r1,r2,r3,r4,r5,r6,r7,r8,r9,r10,r11,r12,r13,r14,r15,r16]):H=[r0,r1,r2,r3,r4,r5,r6,r7,r8,r9,r10,r11,r12,r13,r14,r15,r16]:=h
theorem O3 {r0 r1 r2 r3 r4 r5 r6 r7 r8 r9 r10 r11 r12 r13 r14 r15 r16 r17:cK} (h:H=[r0,r1,r2,r3,r4,r5,r6,r7,r8,r9,r10,r11,r12,r13,r14,r15,r16,r17]):H=[r0,r1,r2,r3,r4,r5,r6,r7,r8,r9,r10,r11,r12,r13,r14,r15,r16,r17]:=h
theorem Oh {r0 r1 r2 r3 r4 r5 r6 r7 r8 r9 r10 r11 r12 r13 r14 r15 r16 r17 r18:cK} (h:H=[r0,r1,r2,r3,r4,r5,r6,r7,r8,r9,r10,r11,r12,r13,r14,r15,r16,r17,r18]):H=[r0,r1,r2,r3,r4,r5,r6,r7,r8,r9,r10,r11,r12,r13,r14,r15,r16,r17,r18]:=h
theorem OJ {r0 r1 r2 r3 r4 r5 r6 r7 r8 r9 r10 r11 r12 r13 r14 r15 r16 r17 r18 r19:cK} (h:H=[r0,r1,r2,r3,r4,r5,r6,r7,r8,r9,r10,r11,r12,r13,r14,r15,r16,r17,r18,r19]):H=[r0,r1,r2,r3,r4,r5,r6,r7,r8,r9,r10,r11,r12,r13,r14,r15,r16,r17,r18,r19]:=h
theorem OM {r0 r1 r2 r3 r4 r5 r6 r7 r8 r9 r10 r11 r12 r13 r14 r15 r16 r17 r18 r19 r20:cK} (h:H=[r0,r1,r2,r3,r4,r5,r6,r7,r8,r9,r10,r11,r12,r13,r14,r15,r16,r17,r18,r19,r20]):H=[r0,r1,r2,r3,r4,r5,r6,r7,r8,r9,r10,r11,r12,r13,r14,r15,r16,r17,r18,r19,r20]:=h
theorem OQ {r0 r1 r2 r3 r4 r5 r6 r7 r8 r9 r10 r11 r12 r13 r14 r15 r16 r17 r18 r19 r20 r21:cK} (h:H=[r0,r1,r2,r3,r4,r5,r6,r7,r8,r9,r10,r11,r12,r13,r14,r15,r16,r17,r18,r19,r20,r21]):H=[r0,r1,r2,r3,r4,r5,r6,r7,r8,r9,r10,r11,r12,r13,r14,r15,r16,r17,r18,r19,r20,r21]:=h
theorem aI (h:Hp S W w H) (e:H=H':=by first|exact P3 rfl|exact QS rfl|exact Pw rfl|exact Pt rfl|exact Pm rfl|exact Py rfl|exact Pn rfl|exact Pu rfl|exact QP rfl|exact QQ rfl|exact Ou rfl|exact O4 rfl|exact Ox rfl|exact Oi rfl|exact OV rfl|exact Oy rfl|exact PT rfl|exact OC rfl|exact O3 rfl|exact Oh rfl|exact OJ rfl|exact OM rfl|exact OQ rfl):Hp S W w H':=e▸h
end
theorem uN {G G':Prop} (h:G') (k:rI G'→G:=by intro zh;(refine aY 2 hx1 rfl (fun w' hw'=>by refine aN rfl (Ty.bA rfl rfl)) ?_);exact zh.g):G:=k ⟨h⟩
theorem Nl {G:Prop} (h:G:=by repeat (first|((with_reducible apply eG.dX);· exact rfl)|((with_reducible apply eG.qI);· exact rfl)|(with_reducible apply eG.Ae)|((with_reducible apply eG.oW (W':=2596148429267413814265248099595264));(· exact rfl);apply eG.refl)|(apply eG.fK;· exact rfl))):G:=h
theorem LO {G:Prop} (h:G:=by repeat (first|((with_reducible apply eG.dX);· exact rfl)|((with_reducible apply eG.qI);· exact rfl)|(with_reducible apply eG.Ae)|((with_reducible apply eG.oW);(· exact rfl);apply eG.refl))):G:=h
theorem AO {G G':Prop} (h:G') (k:rI G'→G:=by intro zh;(refine aY 1 hx1 rfl (fun w' hw'=>by refine aG rfl) ?_);exact zh.g):G:=k ⟨h⟩
theorem D8 {G G':Prop} (h:G') (k:rI G'→G:=by intro zh;(refine aY 3 hx1 rfl (fun w' hw'=>by refine aN rfl (Ty.bA rfl rfl)) ?_);exact zh.g):G:=k ⟨h⟩
theorem Au {G:Prop} (h:G:=by exact bJ (by refine aN rfl (Ty.bA rfl rfl)) rfl):G:=h
theorem I5 {G G':Prop} (h:G') (k:rI G'→G:=by intro zh;(refine aY 3 hx1 rfl (fun w' hw'=>by refine aB rfl (hB.aH hw') rfl (Ty.aF rfl)) ?_);exact zh.g):G:=k ⟨h⟩
theorem GX {G G':Prop} (h:G') (k:rI G'→G:=by intro zh;(refine aY 4 hx1 rfl (fun w' hw'=>by refine aN rfl (Ty.bA rfl rfl)) ?_);exact zh.g):G:=k ⟨h⟩
theorem QD {G:Prop} (h:G:=by repeat (first|((with_reducible apply eG.dX);· exact rfl)|((with_reducible apply eG.qI);· exact rfl)|(with_reducible apply eG.Ae)|((with_reducible apply eG.oW (W':=44601490397061246283071436543044923202465792));(· exact rfl);apply eG.refl)|(apply eG.fK;· exact rfl))):G:=h
theorem Gf {G G':Prop} (h:G') (k:rI G'→G:=by intro zh;(refine aY 5 hx1 rfl (fun w' hw'=>by refine aN rfl (Ty.bA rfl rfl)) ?_);exact zh.g):G:=k ⟨h⟩
theorem xD {G G':Prop} (h:G') (k:rI G'→G:=by intro zh;(refine aY 6 hx1 rfl (fun w' hw'=>by refine aN rfl (Ty.bA rfl rfl)) ?_);exact zh.g):G:=k ⟨h⟩
theorem xV {G G':Prop} (h:G') (k:rI G'→G:=by intro zh;(refine aY 7 hx1 rfl (fun w' hw'=>by refine aN rfl (Ty.bA rfl rfl)) ?_);exact zh.g):G:=k ⟨h⟩
theorem xN {G G':Prop} (h:G') (k:rI G'→G:=by intro zh;(refine aY 1 hx1 rfl (fun w' hw'=>by refine aN rfl (Ty.bA rfl rfl)) ?_);exact zh.g):G:=k ⟨h⟩
theorem xM {G:Prop} (h:G:=by exact bJ (by refine aB rfl (hB.aH hE'') rfl (Ty.aF rfl)) rfl):G:=h
theorem AJ {G G':Prop} (h:G') (k:rI G'→G:=by intro zh;(refine aY 9 hx1 rfl (fun w' hw'=>by refine aN rfl (Ty.bA rfl rfl)) ?_);exact zh.g):G:=k ⟨h⟩
theorem xF {G G':Prop} (h:G') (k:rI G'→G:=by intro zh;(refine aY 2 hx1 rfl (fun w' hw'=>by refine aG rfl) ?_);exact zh.g):G:=k ⟨h⟩
theorem JO {G:Prop} (h:G:=by exact bP Tryz.func60 rfl rfl (hH.b 2 rfl) (by simpa using bL hm.len) (Ty.aF rfl) ⟨m,rfl,hm,fun _=>by omega,OP hkm,hem,hH.take 1⟩):G:=h
theorem xO {G:Prop} (h:G:=by exact ⟨hE3'',_,rfl,b'',rfl,hB'',by have:=hE''.size;omega⟩):G:=h
theorem ML {G:Prop} (h:G:=by exact jR Tryz.func6 rfl rfl (hH.b 3 rfl) (by rw [List.size_toArray,dW]) (Ty.aF rfl) ⟨s,c,r,a2,fs.length,c2,rfl,hso,⟨⟨hc.1,hc3⟩,⟨hr.1,hr3⟩,by omega⟩,⟨hH.s 0 rfl,hH.at 1 rfl⟩,hH.ext⟩):G:=h
theorem xR {G:Prop} (h:G:=by exact bJ (by refine cT rfl rfl (by omega)) rfl):G:=h
theorem DJ {G G':Prop} (h:G') (k:rI G'→G:=by intro zh;(refine aY 8 hx1 rfl (fun w' hw'=>by refine aN rfl (Ty.bA rfl rfl)) ?_);exact zh.g):G:=k ⟨h⟩
theorem Lj {G G':Prop} (h:G') (k:rI G'→G:=by intro zh;(refine bM 16 rfl (by kernel_rfl) hx1 rfl rfl rfl rfl rfl (fun w' hw'=>by refine (bN (m:=c) (n:=r) rfl rfl (by omega)).is (congrArg (Value.int .i64) hcm)) ?_);exact zh.g):G:=k ⟨h⟩
theorem N6 {G:Prop} (h:G:=by repeat (first|((with_reducible apply eG.dX);· exact rfl)|((with_reducible apply eG.qI);· exact rfl)|(with_reducible apply eG.Ae)|((with_reducible apply eG.oW (W':=1152921504606600960));(· exact rfl);apply eG.refl))):G:=h
theorem Fu {G G':Prop} (h:G') (k:rI G'→G:=by intro zh;(refine aY 10 hx1 rfl (fun w' hw'=>by refine aN rfl (Ty.bA rfl rfl)) ?_);exact zh.g):G:=k ⟨h⟩
theorem F6 {G G':Prop} (h:G') (k:rI G'→G:=by intro zh;(refine aY 0 hx1 rfl (fun w' hw'=>by refine aN rfl (Ty.bA rfl rfl)) ?_);exact zh.g):G:=k ⟨h⟩
theorem G9 {G:Prop} (h:G:=by exact bP Tryz.func35 rfl rfl (hH.b 4 rfl) rfl (Ty.aF rfl) ⟨_,_,_,rfl,hH.take 3⟩):G:=h
theorem Lh {G G':Prop} (h:G') (k:rI G'→G:=by intro zh;(refine aY 2 hx1 rfl (fun w' hw'=>by refine (dL (m:=mb) (n:=c) rfl rfl (by omega)).is (congrArg (fun n:Nat=>Value.int .i64 n) hM)) ?_);exact zh.g):G:=k ⟨h⟩
theorem Lo {G G':Prop} (h:G') (k:rI G'→G:=by intro zh;(refine bM 11 rfl (by kernel_rfl) hx1 rfl rfl rfl rfl rfl (fun w' hw'=>by refine aB rfl (hB.aH hw') rfl (Ty.aF rfl)) ?_);exact zh.g):G:=k ⟨h⟩
theorem L8 {G G':Prop} (h:G') (k:rI G'→G:=by intro zh;(refine bM 15 rfl (by kernel_rfl) hx1 rfl rfl rfl rfl rfl (fun w' hw'=>by refine aB rfl (hB.aH hw') rfl (Ty.aF rfl)) ?_);exact zh.g):G:=k ⟨h⟩
theorem FL {G G':Prop} (h:G') (k:rI G'→G:=by intro zh;(refine aY 0 hx1 rfl (fun w' hw'=>by refine aP rfl) ?_);exact zh.g):G:=k ⟨h⟩
theorem OL {G:Prop} (h:G:=by exact cJ [(4,pt b1),(9,.int .i64 x),(10,.int .i64 fx),(11,.int .i64 y),(12,.int .i64 fy),(13,.int .i64 d)] ⟨rfl,rfl,rfl,rfl,rfl,congrArg (Value.int .i64) hd,trivial⟩ key):G:=h
theorem L1 {G G':Prop} (h:G') (k:rI G'→G:=by intro zh;(refine bM 10 rfl (by kernel_rfl) hx1 rfl rfl rfl rfl rfl (fun w' hw'=>by refine aN rfl (Ty.bA rfl rfl)) ?_);exact zh.g):G:=k ⟨h⟩
theorem M0 {G G':Prop} (h:G') (k:rI G'→G:=by intro zh;(refine bM 14 rfl (by kernel_rfl) hx1 rfl rfl rfl rfl rfl (fun w' hw'=>by refine aN rfl (Ty.bA rfl rfl)) ?_);exact zh.g):G:=k ⟨h⟩
theorem Js {G:Prop} (h:G:=by exact bJ (by refine cG rfl rfl (hSw.aH hE'') hwl (Ty.sle rfl) (by decide)) rfl):G:=h
theorem MJ {G G':Prop} (h:G') (k:rI G'→G:=by intro zh;(refine aY 11 hx1 rfl (fun w' hw'=>by refine aE rfl ((hH.b 1 rfl).aH hw') (by simp [hl.1]) (Ty.aF rfl)) ?_);exact zh.g):G:=k ⟨h⟩
theorem Ii {G G':Prop} (h:G') (k:rI G'→G:=by intro zh;(refine aL (args:=[_,_]) Tryz.func17 rfl rfl Tryz.ntmps17 rfl ?_);exact zh.g):G:=k ⟨h⟩
theorem Gq {G:Prop} (h:G:=by exact ⟨rfl,by simp only [e1];simp;rfl,by simp only [e2];rfl,trivial⟩):G:=h
theorem CJ {G:Prop} (h:G:=by exact aM Tryz.func76 rfl ⟨rfl,hH.ext⟩):G:=h
theorem MT {G:Prop} (h:G:=by exact mR Tryz.func183 rfl rfl (hH.b 0 rfl) rfl (Ty.aF rfl) ⟨by rw [TV.at,if_pos (by omega)];rfl,hH.ext⟩):G:=h
theorem ID {G G':Prop} (h:G') (k:rI G'→G:=by intro zh;(refine aY 5 hx1 rfl (fun w' hw'=>by refine aG rfl) ?_);exact zh.g):G:=k ⟨h⟩
theorem JZ {G:Prop} (h:G:=by exact cR Tryz.func169 rfl ⟨by rw [FV.at,if_pos (by omega)];rfl,.refl⟩):G:=h
theorem C0 {G:Prop} (h:G:=by exact aM Tryz.func46 rfl ⟨rfl,hH.ext⟩):G:=h
theorem Jm {G:Prop} (h:G:=by exact bJ (by refine aU rfl (hSw.aH hE'') rfl (Ty.aF rfl)) rfl):G:=h
theorem MK {G:Prop} (h:G:=by exact mR Tryz.func183 rfl rfl (hH.b 0 rfl) (by simp [hl1]) (Ty.aF rfl) ⟨rfl,hH.ext⟩):G:=h
theorem Gc {G:Prop} (h:G:=by exact ⟨by omega,by simp only [e1,RB];simpa using hH⟩):G:=h
theorem Ll {G:Prop} (h:G:=by exact bJ (by refine cG rfl rfl (hS.aH hE'') rfl (Ty.sle rfl) (by decide)) rfl):G:=h
theorem Lu {G:Prop} (h:G:=by exact bP Tryz.func137 rfl rfl (hH.b 0 rfl) (by simp) (Ty.aF rfl) ⟨rfl,hH.ext⟩):G:=h
theorem HA {G:Prop} (h:G:=by exact aM Tryz.func206 rfl ⟨rfl,hH.ext⟩):G:=h
theorem MM {G:Prop} (h:G:=by exact bJ (by refine aE rfl (hB.aH hE'') rfl (Ty.aF rfl)) rfl):G:=h
theorem Ly {G:Prop} (h:G:=by exact bJ (by refine aU rfl (hS.aH hE'') rfl (Ty.aF rfl)) rfl):G:=h
end Go.K
namespace Go.K
open Go Go.RowKit
section
variable {P:Program} {N:Nat} {K:Fr→World→Prop} {ρ:Fr} {w:World} {d:Nat} {ty t e:TypeId} {pos:String} {af:Array Edge} {gd:Option (Nat × Bool)} {x y z:Operand} {q:IntKind} {b r:Nat} {T:Int→Prop} {n:Nat} {v:Value} {S:List Nat} {W:World} {H:List cK}
theorem DS {dst:Option Nat} {u:TypeId} {yk:IntKind} {i:Int} {m:Nat} (hx:ev ρ x=.int .i64 i) (hy:ev ρ y=.int yk m) (hm:m≤62):cU P ρ ⟨dst,.binOp .shr t x y u,ty,pos,af,gd⟩ w (.int .i64 (i / 2 ^ m)) w :=
 dB hx hy (aZ rfl) (by
  have h0:¬ ((m:Int)<0):=by omega
  have h:i.fdiv (2 ^ min m IntKind.i64.bits)=i / 2 ^ m:=by
   rw [Nat.min_eq_left (by simp only [IntKind.bits];omega),Int.fdiv_eq_ediv_of_nonneg _ (Int.pow_nonneg (by decide))]
  simp [binOp,Op.shift,h0,h])
end
end Go.K
