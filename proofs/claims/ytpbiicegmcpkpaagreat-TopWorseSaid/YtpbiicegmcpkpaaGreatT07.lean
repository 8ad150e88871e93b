/- A part of the proof that TopWorse is true at every input; no condition. -/
import Derived.Test.YtpbiicegmcpkpaaGreatT04
import Derived.Test.YtpbiicegmcpkpaaGreatT06
import Derived.Maps.Range
namespace Go.K
open Go Go.RowKit
section
variable {P:Program} {N:Nat} {f:FuncId} {R:Value→World→Prop} {k:List Item} {ρ:Fr} {w:World}
end
section
variable {P:Program} {ρ:Fr} {w:World} {dst:Option Nat} {ty t u e:TypeId} {pos:String} {af:Array Edge} {gd:Option (Nat × Bool)} {x y:Operand}
theorem k_andm {i:Int} {k:Nat} {z:TypeId} (hx:ev ρ x=.int .i64 i) (hy:ev ρ y=.int .i64 ((2 ^ k-1:Nat):Int)) (hk:k≤62):Run P ρ ⟨dst,.binOp .and t x y z,ty,pos,af,gd⟩ w (.int .i64 (i % ((2 ^ k:Nat):Int))) w :=
 k_bin hx hy (eqGuard_other rfl) (by
  have hp:2 ^ k≤2 ^ 62:=Nat.pow_le_pow_right (by decide) hk
  have hp1:0<2 ^ k:=Nat.two_pow_pos k
  have e1:(BitVec.ofInt 64 ((2 ^ k-1:Nat):Int)).toNat=2 ^ k-1:=ofInt_nat (by omega)
  have e2:(BitVec.ofInt 64 i).toNat=(i % (2 ^ 64:Nat)).toNat:=by simp [BitVec.toNat_ofInt]
  have e3:((BitVec.ofInt 64 i) &&& (BitVec.ofInt 64 ((2 ^ k-1:Nat):Int))).toNat=(i % ((2 ^ k:Nat):Int)).toNat:=by
   rw [BitVec.toNat_and,e1,e2,Nat.and_two_pow_sub_one_eq_mod]
   have h1:i % ((2 ^ k:Nat):Int)=(i % ((2 ^ 64:Nat):Int)) % ((2 ^ k:Nat):Int):=(Int.emod_emod_of_dvd i (by
    rw [Int.natCast_dvd_natCast]
    exact Nat.pow_dvd_pow 2 (by omega))).symm
   rw [h1]
   have h2:0≤i % ((2 ^ 64:Nat):Int):=Int.emod_nonneg _ (by decide)
   obtain ⟨n,hn⟩:=Int.eq_ofNat_of_zero_le h2
   rw [hn]
   have:((n:Nat):Int) % ((2 ^ k:Nat):Int)=((n % 2 ^ k:Nat):Int):=(Int.natCast_emod n (2 ^ k)).symm
   rw [this];rfl
  have h4:0≤i % ((2 ^ k:Nat):Int):=Int.emod_nonneg _ (by omega)
  have h5:i % ((2 ^ k:Nat):Int)<((2 ^ k:Nat):Int):=Int.emod_lt_of_pos _ (by omega)
  have e6:IntKind.i64.wrap (((BitVec.ofInt 64 i) &&& (BitVec.ofInt 64 ((2 ^ k-1:Nat):Int))).toNat:Int)=i % ((2 ^ k:Nat):Int):=by
   rw [e3,Int.toNat_of_nonneg h4,wrap64_id (by omega) (by omega)]
  show (pure (Value.int .i64 (IntKind.i64.wrap (((BitVec.ofInt 64 i) &&& (BitVec.ofInt 64 ((2 ^ k-1:Nat):Int))).toNat:Int))):Sem Value).run P w=_
  rw [e6]
  exact Sem.run_pure ..)
end
section
variable {P:Program} {N:Nat} {K:Fr→World→Prop} {ρ:Fr} {S:List Nat} {W w:World} {H:List Res}
variable {ty t e:TypeId} {pos:String} {af:Array Edge} {gd:Option (Nat × Bool)} {x y:Operand}
theorem H_storeA (i:Nat) {b s:Nat} {cs vs:Array Value} (hH:Hp S W w H) (hi:H[i]?=some (Rb b e cs)) (hx:ev ρ x=.pointer (some ⟨b,0,none⟩)) (hy:ev ρ y=.agg vs) (hs:vs.size=s) (hs':cs.size=s) (h1:∀ v∈vs.toList,v.oneCell'=true) (ht:shp P t=some (true,s))
  (hk:∀ w',Hp S W w' (H.set i (Rb b e vs))→K ρ w'):Stp P N ρ ⟨none,.store t x y,ty,pos,af,gd⟩ w K :=
 S_storeA hx hy (hH.b i hi) hs hs' h1 ht (fun w' hE hB _=>hk w' (hH.up i hi ⟨hE,hB,fun _ hx=>.inl hx⟩))
end
theorem rd_agg {P:Program} {W:World} {r:Reach} {b0:Nat} {t:TypeId} {v:Value} {n:Nat} (ht:shp P t=some (true,n)) (hv:Value.okWide P W r b0 t v):∃ cs:List Value,v=.agg cs.toArray:=by
 unfold shp at ht
 unfold Value.okWide at hv
 split at ht
 ·rename_i hu _
  rw [hu] at hv
  obtain ⟨cs,rfl,_⟩:=hv
  exact ⟨cs.toList,by simp⟩
 ·rename_i hu _
  rw [hu] at hv
  obtain ⟨cs,rfl,_⟩:=hv
  exact ⟨cs.toList,by simp⟩
 ·cases ht
 ·cases ht
theorem k_loadC {P:Program} {ρ:Fr} {w:World} {dst:Option Nat} {ty t:TypeId} {pos:String} {af:Array Edge} {gd:Option (Nat × Bool)} {x:Operand} {a:Option Addr} {vs cs:List Value} {j s:Nat} (hx:ev ρ x=.pointer (some (At a j))) (hS:SlA w a vs) (hv:(vs.drop j).take s=cs) (hl:cs.length=s) (ht:shp P t=some (true,s)) :
  Run P ρ ⟨dst,.load t x,ty,pos,af,gd⟩ w (.agg cs.toArray) w:=by
 have hl2:s=0∨j+s≤vs.length:=by
  have:=congrArg List.length hv
  simp only [List.length_take,List.length_drop] at this
  omega
 rcases hl2 with h0|h0
 ·subst h0
  have:cs=[]:=List.eq_nil_of_length_eq_zero hl
  subst this
  have h:=run_loadCells_list (P:=P) w (At a j) [] (fun i v hv=>by simp at hv)
  constructor;unfold execOp
  simp only [List.length_nil] at h
  simp [hx,Instr.loadAt,Instr.sureAddr,loadVar,shp_isAgg ht,shp_size ht,h]
 ·have h:=k_loadN (dst:=dst) (ty:=ty) (pos:=pos) (af:=af) (gd:=gd) hx hS h0 ht
  rw [hv] at h
  exact h
theorem k_slcN {P:Program} {ρ:Fr} {w:World} {dst:Option Nat} {ty t e:TypeId} {pos:String} {af:Array Edge} {gd:Option (Nat × Bool)} {x y z:Operand} {a:Option Addr} {n cap sz l h:Nat} {g:Bool} {kl kh:IntKind} (hx:ev ρ x=.slice a n cap) (hy:ev ρ y=.int kl (l:Int)) (hz:ev ρ z=.int kh (h:Int)) (ht:sle P t=some (e,(g,sz))) (h0:l≤h∧h≤cap) :
  Run P ρ ⟨dst,.slice t x (some y) (some z) none,ty,pos,af,gd⟩ w (.slice (if cap=l then a else a.map (·.add (l*sz))) (h-l) (cap-l)) w :=
 k_slc (l:=(l:Int)) (h:=(h:Int)) hx hy hz ht (by omega)
theorem mid_cells {w:World} {a:Option Addr} {cap n l h:Nat} {vs:List Value} (hS:SlA w a vs) (hlh:l≤h) (hn:h≤n) (hc:n≤cap):SlA w (if cap=l then a else a.map (·.add (l*1))) ((vs.drop l).take (h-l)):=by
 have:=sl_sliced (l:=l) (h:=h) (n:=n) (cap:=cap) (sz:=1) hS hlh hn hc
 simpa using this
end Go.K
namespace Go.K
open Go Go.RowKit
theorem Hp.call {S:List Nat} {W w w':World} {H Q:List Res} {r:Res} (i:Nat) (h:Hp S W w H) (hi:H[i]?=some r) (hQ:Hp r.fp w w' Q):Hp S W w' (H.eraseIdx i++Q):=by
 have hlt:i<H.length:=(List.getElem?_eq_some_iff.1 hi).1
 have hmem:∀ x∈H.eraseIdx i,∃ j,j≠i∧H[j]?=some x:=by
  intro x hx
  obtain ⟨j,hj⟩:=List.mem_iff_getElem?.1 hx
  rw [List.getElem?_eraseIdx] at hj
  split at hj
  ·rename_i hji;exact ⟨j,by omega,hj⟩
  ·rename_i hji;exact ⟨j+1,by omega,hj⟩
 have hd:=h.del i
 refine ⟨h.ext.trans hQ.ext (fun t ht=>h.new r (List.mem_of_getElem? hi) t ht),fun x hx=>?_,fun x hx y hy=>?_,?_⟩
 ·rcases List.mem_append.1 hx with h1|h1
  ·obtain ⟨j,hj,hxj⟩:=hmem x h1
   exact x.keep (h.at j hxj) hQ.ext (fun s hs hsx=>h.dj i j hi hxj (Ne.symm hj) s hs hsx)
  ·exact hQ.all x h1
 ·rcases List.mem_append.1 hx with h1|h1
  ·exact hd.new x h1 y hy
  ·rcases hQ.new x h1 y hy with h2|h2
   ·exact h.new r (List.mem_of_getElem? hi) y h2
   ·exact .inr (Nat.le_trans h.size h2)
 ·refine List.pairwise_append.2 ⟨hd.apart,hQ.apart,fun x hx q hq y hyx hyq=>?_⟩
  obtain ⟨j,hj,hxj⟩:=hmem x hx
  rcases hQ.new q hq y hyq with h2|h2
  ·exact h.dj i j hi hxj (Ne.symm hj) y h2 hyx
  ·have:=x.lt (h.at j hxj) y hyx;omega
theorem Hp.bare {S:List Nat} {W w:World} (hE:Ext S W w):Hp S W w []:=⟨hE,by simp,by simp,.nil⟩
end Go.K
namespace Go.K
open Go Go.RowKit
section
variable {P:Program} {ρ:Fr} {w:World} {dst:Option Nat} {ty t u:TypeId} {pos:String} {af:Array Edge} {gd:Option (Nat × Bool)} {x y:Operand} {q:IntKind}
theorem k_indexN {i:Int} {len sz:Nat} {cs:Array Value} (hx:ev ρ x=.agg cs) (hy:ev ρ y=.int q i) (ha:arr P t=some (len,(true,sz))) (hi:0≤i∧i<len) :
  Run P ρ ⟨dst,.index t x y,ty,pos,af,gd⟩ w (.agg (cs.extract (i.toNat*sz) (i.toNat*sz+sz))) w:=by
 unfold arr at ha
 split at ha
 ·rename_i n e hu
  cases hs:shp P e with
  | none=>simp [hs] at ha
  | some p =>
   simp [hs] at ha
   obtain ⟨rfl,rfl⟩:=ha
   constructor;unfold execOp
   simp [hx,hy,Instr.index,run_underlying hu,asIntOf,hi,part,shp_isAgg hs,shp_size hs]
 ·cases ha
end
end Go.K
namespace Go.K
open Go Go.RowKit
def wts (l:List Oper):Nat→Nat→Nat→Bool
 | 0,_,_=>false
 | n+1,i,j=>match l[i]? with
  | none=>false
  | some o=>(edges o).contains j || (edges o).any fun e=>wts l n e j
def tailOk2 (l:List Oper) (n1:Nat):Bool:=edgesDown l && l.zipIdx.all fun (_,i)=>Nat.blt i n1 || (List.range i).all fun j=>wts l 8 i j
theorem wts_done {l:List Oper} {D:Array Bool} (hcl:∀ i o,l[i]?=some o→D.getD i false=true→∀ e∈edges o,D.getD e false=true):∀ (n i j:Nat),wts l n i j=true→∀ o,l[i]?=some o→(∀ e∈edges o,D.getD e false=true)→D.getD j false=true
 | 0,_,_,h,_,_,_=>by cases h
 | n+1,i,j,h,o,ho,hd=>by
  unfold wts at h
  rw [ho] at h
  simp only [Bool.or_eq_true,List.contains_eq_mem,decide_eq_true_eq,List.any_eq_true] at h
  rcases h with h|⟨e,he,h⟩
  ·exact hd j h
  ·cases hl:l[e]? with
   | none=>cases n<;>simp [wts,hl] at h
   | some o'=>exact wts_done hcl n e j h o' hl (hcl e o' hl (hd e he))
section
variable {P:Program}
theorem tail_seq2 {Q:Exit→Act→World→Prop} {l:List Oper} {n1:Nat} (hok:tailOk2 l n1=true):∀ (m j:Nat) (D:Array Bool) (a:Act) (w:World),j+m=l.length→n1≤j→D.size=l.length→(∀ i,i<l.length→D.getD i false=decide (i<j)) →
  wpOps P l.toArray Q (List.range' j m) a w→wpAny P .any l.toArray Q m D a w:=by
 simp only [tailOk2,Bool.and_eq_true] at hok
 intro m
 induction m with
 | zero =>
  intro j D a w hjm hj hsz hD h
  refine ⟨List.eq_nil_iff_forall_not_mem.2 (fun i hi=>?_),h⟩
  obtain ⟨h0,o,ho,_⟩:=mem_ready.1 hi
  have hil:i<l.length:=(List.getElem?_eq_some_iff.1 (show l[i]?=some o by simpa using ho)).1
  have:=hD i hil
  rw [decide_eq_true (by omega)] at this
  have hid:i<D.size:=by omega
  simp [Array.getD,hid] at this h0
  rw [this] at h0;cases h0
 | succ m ih =>
  intro j D a w hjm hj hsz hD h
  have hcl:∀ i o,l[i]?=some o→D.getD i false=true→∀ e∈edges o,D.getD e false=true:=fun i o hi hd e he=>by
   have hil:i<l.length:=(List.getElem?_eq_some_iff.1 hi).1
   rw [hD i hil] at hd
   have hlt:=edgesDown_spec hok.1 hi he
   rw [hD e (by omega)]
   have:=of_decide_eq_true hd
   exact decide_eq_true (by omega)
  have hready:∀ i,i∈Region.ready .any l.toArray D ↔ i=j:=fun i=>by
   rw [mem_ready]
   constructor
   ·rintro ⟨h0,o,ho,hall⟩
    have hlo:l[i]?=some o:=by simpa using ho
    have hil:i<l.length:=(List.getElem?_eq_some_iff.1 hlo).1
    have hid:i<D.size:=by omega
    have h1:=hD i hil
    have h2:¬ i<j:=fun hlt=>by
     rw [decide_eq_true hlt] at h1
     simp [Array.getD,hid] at h1 h0
     rw [h1] at h0;cases h0
    by_cases hij:i=j
    ·exact hij
    ·exfalso
     have h3:=List.all_eq_true.1 hok.2 (o,i) (List.mem_zipIdx_iff_getElem?.2 hlo)
     simp only [Bool.or_eq_true,Nat.blt_eq] at h3
     rcases h3 with h3|h3
     ·omega
     ·have h4:=List.all_eq_true.1 h3 j (List.mem_range.2 (by omega))
      have h5:=wts_done hcl 8 i j h4 o hlo (fun e he=>by
       obtain ⟨e',he',hb,rfl⟩:=edges_mem he
       exact hall e' (by simpa using he') hb)
      rw [hD j (by omega)] at h5
      simp at h5
   ·rintro rfl
    have hil:i<l.length:=by omega
    refine ⟨?_,l[i],by simp [hil],fun e he hb=>?_⟩
    ·have h1:=hD i hil
     have hid:i<D.size:=by omega
     simp [Array.getD,hid] at h1 ⊢
     exact h1
    ·have hlt:=edgesDown_spec hok.1 (show l[i]?=some l[i] by simp) (mem_edges he hb)
     rw [hD e.on (by omega)]
     exact decide_eq_true hlt
  refine ⟨fun hnil=>?_,fun i hi=>?_⟩
  ·have:=(hready j).2 rfl
   rw [hnil] at this;cases this
  ·obtain rfl:=(hready i).1 hi
   rw [List.range'_succ,wpOps_cons] at h
   refine wpOp_mono (fun a' w' h'=>ih (i+1) _ a' w' (by omega) (by omega) (by simp [hsz]) (fun x hx=>?_) h') h
   by_cases hxi:x=i
   ·subst hxi
    have:x<D.size:=by omega
    simp [Array.getD,this]
   ·rw [getD_set_ne false (Ne.symm hxi),hD x hx]
    congr 1
    exact propext ⟨fun h=>by omega,fun h=>by omega⟩
theorem head_any2 {Q Q1:Exit→Act→World→Prop} {l:List Oper} {n1:Nat} (hn1:n1≤l.length) (hok:tailOk2 l n1=true) (hQ:∀ e a w,e≠.normal→Q1 e a w→Q e a w) (hgd:(l.take n1).all (fun o=>match o.guard with|some (g,_)=>Nat.blt g n1|none=>true)=true)
  (htail:∀ a w,Q1 .normal a w→wpOps P l.toArray Q (List.range' n1 (l.length-n1)) a w) :
  ∀ (fuel:Nat) (D D':Array Bool) (a:Act) (w:World),D.size=n1→D'.size=l.length→(∀ i,i<n1→D'.getD i false=D.getD i false)→(∀ i,n1≤i→i<l.length→D'.getD i false=false)→(∀ i o,l[i]?=some o→D'.getD i false=true→∀ e∈edges o,D'.getD e false=true)→D.toList.count false=fuel →
   wpAny P .any (l.take n1).toArray Q1 fuel D a w→wpAny P .any l.toArray Q (fuel+(l.length-n1)) D' a w:=by
 have hok':=hok
 simp only [tailOk2,Bool.and_eq_true] at hok'
 have hget:∀ i,i<n1→(l.take n1)[i]?=l[i]?:=fun i hi=>by rw [List.getElem?_take,if_pos hi]
 intro fuel
 induction fuel with
 | zero =>
  intro D D' a w hD hD' h1 h2 hcl hc h
  rw [Nat.zero_add]
  have hall:∀ i,i<n1→D.getD i false=true:=fun i hi=>by
   have hid:i<D.size:=by omega
   cases hb:D.getD i false with
   | true=>rfl
   | false =>
    exfalso
    have:=List.count_eq_zero.1 hc
    apply this
    rw [List.mem_iff_getElem?]
    exact ⟨i,by simp [Array.getD,hid] at hb;simp [hid,hb]⟩
  refine tail_seq2 hok _ n1 D' a w (by omega) (Nat.le_refl _) hD' (fun i hi=>?_) (htail a w h.2)
  by_cases hin:i<n1
  ·rw [h1 i hin,hall i hin,decide_eq_true hin]
  ·rw [h2 i (by omega) hi,decide_eq_false hin]
 | succ fuel ih =>
  intro D D' a w hD hD' h1 h2 hcl hc h
  have hne:∃ i,i<n1∧D.getD i false=false:=by
   have:0<D.toList.count false:=by omega
   have hm:=List.count_pos_iff.1 this
   obtain ⟨i,hi⟩:=List.mem_iff_getElem?.1 hm
   have hid:i<D.size:=by simpa using (List.getElem?_eq_some_iff.1 hi).1
   exact ⟨i,by omega,by simp [Array.getD,hid];simpa [hid] using hi⟩
  have hready:∀ i,i∈Region.ready .any l.toArray D' ↔ i∈Region.ready .any (l.take n1).toArray D:=fun i=>by
   rw [mem_ready,mem_ready]
   constructor
   ·rintro ⟨h0,o,ho,hall⟩
    have hlo:l[i]?=some o:=by simpa using ho
    have hil:i<l.length:=(List.getElem?_eq_some_iff.1 hlo).1
    have hin:i<n1:=by
     rcases Nat.lt_or_ge i n1 with h|h
     ·exact h
     ·exfalso
      obtain ⟨x,hx,hxf⟩:=hne
      have h3:=List.all_eq_true.1 hok'.2 (o,i) (List.mem_zipIdx_iff_getElem?.2 hlo)
      simp only [Bool.or_eq_true,Nat.blt_eq] at h3
      rcases h3 with h3|h3
      ·omega
      ·have h4:=List.all_eq_true.1 h3 x (List.mem_range.2 (by omega))
       have h5:=wts_done hcl 8 i x h4 o hlo (fun e he=>by
        obtain ⟨e',he',hb,rfl⟩:=edges_mem he
        exact hall e' he' hb)
       rw [h1 x hx,hxf] at h5;cases h5
    have hid:i<D.size:=by omega
    have hid':i<D'.size:=by omega
    refine ⟨?_,o,by simpa [hget i hin] using hlo,fun e he hb=>?_⟩
    ·have:=h1 i hin
     simp [Array.getD,hid,hid'] at this h0 ⊢
     rw [← this];exact h0
    ·have hlt:=edgesDown_spec hok'.1 hlo (mem_edges he hb)
     rw [← h1 e.on (by omega)]
     exact hall e he hb
   ·rintro ⟨h0,o,ho,hall⟩
    have hlo':(l.take n1)[i]?=some o:=by simpa using ho
    have hin:i<n1:=by have:=(List.getElem?_eq_some_iff.1 hlo').1;simp at this;omega
    have hlo:l[i]?=some o:=by rw [← hget i hin];exact hlo'
    have hid:i<D.size:=by omega
    have hid':i<D'.size:=by omega
    refine ⟨?_,o,by simpa using hlo,fun e he hb=>?_⟩
    ·have:=h1 i hin
     simp [Array.getD,hid,hid'] at this h0 ⊢
     rw [this];exact h0
    ·have hlt:=edgesDown_spec hok'.1 hlo (mem_edges he hb)
     rw [h1 e.on (by omega)]
     exact hall e he hb
  have hsome:Region.ready .any (l.take n1).toArray D≠[]:=fun hnil=>by

   obtain ⟨x,hx,hxf⟩:=hne
   have:∀ x,x<n1→D.getD x false=true:=by
    intro x
    induction x using Nat.strongRecOn with
    | _ x ihx =>
     intro hx
     cases hb:D.getD x false with
     | true=>rfl
     | false =>
      exfalso
      have hxd:x<D.size:=by omega
      have hxl:x<l.length:=by omega
      have hm:x∈Region.ready .any (l.take n1).toArray D:=by
       rw [mem_ready]
       refine ⟨by simp [Array.getD,hxd] at hb ⊢;exact hb,l[x],by simp [hx,hxl],fun e he hbi=>?_⟩
       have hlt:=edgesDown_spec hok'.1 (show l[x]?=some l[x] by simp) (mem_edges he hbi)
       exact ihx _ hlt (by omega)
      rw [hnil] at hm;cases hm
   rw [this x hx] at hxf;cases hxf
  rw [Nat.add_right_comm]
  refine ⟨fun hnil=>?_,fun i hi=>?_⟩
  ·exfalso
   apply hsome
   refine List.eq_nil_iff_forall_not_mem.2 (fun i hi=>?_)
   have:=(hready i).2 hi
   rw [hnil] at this;cases this
  ·have hi1:=(hready i).1 hi
   have h3:=h.2 i hi1
   obtain ⟨h0,o,ho,_⟩:=mem_ready.1 hi1
   have hin:i<n1:=by have:=(List.getElem?_eq_some_iff.1 (show (l.take n1)[i]?=some o by simpa using ho)).1;simp at this;omega
   refine wpOp_mono (fun a' w' h'=>ih (D.setIfInBounds i true) (D'.setIfInBounds i true) a' w' (by simp [hD]) (by simp [hD']) ?_ ?_ ?_ ?_ h') (wpOp_take hin hQ hgd h3)
   ·intro x hx
    by_cases hxi:x=i
    ·subst hxi
     have h6:x<D.size:=by omega
     have h7:x<D'.size:=by omega
     simp [Array.getD,h6,h7]
    ·rw [getD_set_ne false (Ne.symm hxi),getD_set_ne false (Ne.symm hxi)];exact h1 x hx
   ·intro x hx hxl
    rw [getD_set_ne false (by omega)];exact h2 x hx hxl
   ·intro x ox hx hdx e he
    have hset:∀ y,D'.getD y false=true→(D'.setIfInBounds i true).getD y false=true:=fun y hy=>by
     by_cases hyi:y=i
     ·subst hyi
      have h7:y<D'.size:=by omega
      simp [Array.getD,h7]
     ·rw [getD_set_ne false (Ne.symm hyi)];exact hy
    apply hset
    by_cases hxi:x=i
    ·subst hxi
     obtain ⟨_,o',ho',hall'⟩:=mem_ready.1 hi
     have:o'=ox:=by
      have h8:l[x]?=some o':=by simpa using ho'
      rw [h8] at hx;cases hx;rfl
     subst this
     obtain ⟨e',he',hb,rfl⟩:=edges_mem he
     exact hall' e' he' hb
    ·rw [getD_set_ne false (Ne.symm hxi)] at hdx
     exact hcl x ox hx hdx e he
   ·have hid:i<D.size:=by omega
    have:(D.setIfInBounds i true).toList.count false+1=D.toList.count false:=by
     rw [Array.toList_setIfInBounds]
     exact count_set_true D.toList i (by simp [Array.getD,hid] at h0;simp [hid,h0])
    omega
end
theorem WS_tailS {P:Program} {N:Nat} {f:FuncId} {R:Value→World→Prop} {k:List Item} {ρ:Fr} {w:World} {id:Nat} {l:List Oper} (hm:P.follows .mixedOrders=true) (n1:Nat) (hn:((l.take n1).length=n1)) (hok:tailOk2 l n1=true) (hgd:(l.take n1).all (fun o=>match o.guard with|some (g,_)=>Nat.blt g n1|none=>true)=true)
  (S:World→Prop) (h:WA P N (WL P N (WS P N f R k) l.toArray (l.drop n1)) (l.take n1).toArray S n1 n1 [] ρ w.drew) :
  WS P N f R (.code (.region id l.toArray true)::k) ρ w:=by
 have hn1:n1≤l.length:=by simp at hn;omega
 refine WS_wp fun a ha=>wp_region_any hm ?_
 have h1:=wpAny_of_held _ _ _ _ (h.out a ha)
 have h2:=head_any2 (Q:=QN N (WS P N f R k)) hn1 hok (fun e a w hne hq=>absurd hq.1 hne) hgd (fun a w hq=>by
  obtain ⟨_,ρ',hr,hw⟩:=hq
  have h3:=hw.out a hr
  have h4:=wpOps_eq_wpList (P:=P) (ops:=l.toArray) (Q:=QN N (WS P N f R k)) (l.drop n1) n1 (fun j=>by simp)
  rw [List.length_drop] at h4
  rw [h4];exact h3) n1 (lst n1 []) (Array.replicate l.length false) a _ (by simp [lst]) (by simp) (fun i hi=>by simp [lst,Array.getD,hi,Nat.lt_of_lt_of_le hi hn1]) (fun i hi hil=>by simp [Array.getD,hil]) (fun i o hi hd=>by
  have hil:i<l.length:=(List.getElem?_eq_some_iff.1 hi).1
  simp [Array.getD,hil] at hd) (by simp [lst]) h1
 rw [show n1+(l.length-n1)=l.toArray.size by simp;omega] at h2
 simpa using h2
section
open Go.RowKit
variable {P:Program} {ρ:Fr} {w:World} {t:TypeId}
variable {N:Nat} {f:FuncId} {R:Value→World→Prop} {k:List Item}
theorem WS_retc3 {fn:Func} {e:TypeId} {c b s r q:Nat} {cs:Array Value} (hf:P.funcs[f]?=some fn) (hr:fn.results=#[.cell c t,.tmp r,.tmp q]) (hc:ρ c=.pointer (some ⟨b,0,none⟩)) (hB:Blk w b e cs) (hl:cs.size=s) (ht:shp P t=some (true,s)) (h:R (.tuple #[.agg cs,ρ r,ρ q]) w):WS P N f R (.code .ret::k) ρ w :=
 WS_leave hf step_ret' (fun a ha=>by
  have h1:=ha.val c
  rw [hc,Array.getD_eq_getD_getElem?] at h1
  have h2:=ha.val r
  rw [Array.getD_eq_getD_getElem?] at h2
  have h3:=ha.val q
  rw [Array.getD_eq_getD_getElem?] at h3
  simp [results,hr,h1,← h2,← h3,asAddr,run_loadA hB hl ht]) h
end
end Go.K
namespace Go.K
open Go Go.RowKit
section
variable {P:Program} {ρ:Fr} {w:World} {dst:Option Nat} {ty t:TypeId} {pos:String} {af:Array Edge} {gd:Option (Nat × Bool)} {x:Operand}
theorem k_sla {b o n sz:Nat} {g:Bool} (hx:ev ρ x=.pointer (some ⟨b,o,none⟩)) (ht:arr P t=some (n,(g,sz))):Run P ρ ⟨dst,.slice t x none none none,ty,pos,af,gd⟩ w (.slice (some ⟨b,o,none⟩) n n) w:=by
 obtain ⟨e,hu,hs⟩:=arr_spec ht
 have h0:(if n=0 then (⟨b,o,none⟩:Addr) else (⟨b,o,none⟩:Addr).add 0)=⟨b,o,none⟩:=by split<;>rfl
 constructor;unfold execOp
 simp [hx,Instr.sliceAt,Instr.sureAddr,run_underlying hu,Instr.sliceBounds,shp_size hs,h0]
end
end Go.K
namespace Go.K
open Go Go.RowKit
section
variable {P:Program} {ρ:Fr} {w:World} {dst:Option Nat} {ty t u e:TypeId} {pos:String} {af:Array Edge} {gd:Option (Nat × Bool)} {x y:Operand} {q:IntKind}
theorem k_ixaA {i:Int} {j len:Nat} {a:Option Addr} {g:Bool} (hx:ev ρ x=.pointer (some (At a j))) (hy:ev ρ y=.int q i) (ht:arr P t=some (len,(g,1))) (hi:0≤i∧i<len) :
  Run P ρ ⟨dst,.indexAddr t x y,ty,pos,af,gd⟩ w (.pointer (some (At a (j+i.toNat)))) w:=by
 have h:=k_ixa (P:=P) (w:=w) (dst:=dst) (ty:=ty) (pos:=pos) (af:=af) (gd:=gd) (ρ:=ρ) (x:=x) (b:=(At a j).block) (o:=(At a j).off) hx hy ht hi
 have e:(⟨(At a j).block,(At a j).off+i.toNat*1,none⟩:Addr)=At a (j+i.toNat):=by simp [At,Nat.add_assoc]
 rw [e] at h
 exact h
end
end Go.K
namespace Go.K
open Go Go.RowKit
section
variable {P:Program} {N:Nat} {C:Fr→World→Prop} {ops:Array Oper} {S:World→Prop} {n fuel:Nat} {done:List Nat} {ρ:Fr} {w:World}
end
section
variable {P:Program} {ρ:Fr} {w:World} {dst:Option Nat} {ty t u:TypeId} {pos:String} {af:Array Edge} {gd:Option (Nat × Bool)} {x y:Operand} {a b c d r i:Nat}
theorem k_cadd (hx:ev ρ x=.complex .f64 a b) (hy:ev ρ y=.complex .f64 c d) (h1:FloatKind.f64.format.add a c=some r) (h2:FloatKind.f64.format.add b d=some i):Run P ρ ⟨dst,.binOp .add t x y u,ty,pos,af,gd⟩ w (.complex .f64 r i) w :=
 k_bin hx hy (eqGuard_other rfl) (by simp [binOp,Op.complexOp,Op.Complex.arith,Op.floatArith,h1,h2])
end
end Go.K
namespace Go.K
open Go Go.RowKit
section
variable {P:Program} {N:Nat} {K:Fr→World→Prop} {ρ:Fr} {w:World} {d:Nat} {ty t e:TypeId} {pos:String} {af:Array Edge} {gd:Option (Nat × Bool)} {x y:Operand} {q:IntKind} {b:Nat} {Q:Value→Prop}
theorem S_lookupT {i:Int} {u:Value} (ht:mpk P t=some (q,e)) (hze:zerV P e=some u) (hx:ev ρ x=.map (some b)) (hy:ev ρ y=.int q i) (hM:MapI w b q Q) (hd:Nat.blt d N=true)
  (hk:∀ v o,Q v∨v=u→K (upd ρ d (.tuple #[v,.bool o])) w):Stp P N ρ ⟨some d,.lookup t x y true,ty,pos,af,gd⟩ w K:=by
 obtain ⟨kt,hu,hkk⟩:=mpk_spec ht
 obtain ⟨es,c,hb,hes⟩:=hM
 have hkey:MapKept.IsKey (.int q) (.int q i):=by simp [MapKept.IsKey]
 have hzr:(zeroValue e).run P w=.ok u w:=by
  unfold zerV at hze
  cases hi:P.info? e with
  | none=>simp [hi] at hze
  | some i =>
   simp [hi] at hze
   simp [zeroValue,typeInfo,hi,hze]
 rcases MapKept.findNow_spec hkey es.toList 0 (fun x hx=>(hes x hx).1) with ⟨h1,h2⟩|⟨j,e',h1,h2,h3⟩
 ·refine S_run (w':=w) (v:=.tuple #[u,.bool false]) ?_ hd (hk _ _ (.inr rfl))
  constructor;unfold execOp
  simp [hx,hy,Instr.lookup,run_underlying hu,MapKept.run_getObj_map hb,MapKept.run_checkKey hkk hkey,MapKept.run_findKey hkk h1,hzr]
 ·refine S_run (w':=w) (v:=.tuple #[e'.val,.bool true]) ?_ hd (hk _ _ (.inl (hes e' (List.mem_of_getElem? h2)).2))
  constructor;unfold execOp
  simp [hx,hy,Instr.lookup,run_underlying hu,MapKept.run_getObj_map hb,MapKept.run_checkKey hkk hkey,MapKept.run_findKey hkk h1]
def Rm (b:Nat) (q:IntKind) (Q:Value→Prop):Res:=⟨[b],fun w=>MapI w b q Q,fun h hE hS=>h.ext hE (fun hb=>hS b hb (by simp)),fun h s hs=>by simp at hs;subst hs;exact h.lt⟩
theorem H_makeMap (q:IntKind) (Q:Value→Prop) {S:List Nat} {W:World} {H:List Res} (hH:Hp S W w H) (hd:Nat.blt d N=true)
  (hk:∀ w' b,Hp S W w' (H++[Rm b q Q])→K (upd ρ d (.map (some b))) w'):Stp P N ρ ⟨some d,.makeMap t none,ty,pos,af,gd⟩ w K :=
 S_makeMap (q:=q) (Q:=Q) hd (fun w' b hb hE hM _=>hk w' b (hH.nu ⟨hE,hM,fun x hx=>by simp [Rm] at hx;omega⟩))
theorem results_tmp4' {fn:Func} {t u s r:Tmp} (h:fn.results=#[.tmp t,.tmp u,.tmp s,.tmp r]) {a:Act} (ha:Rep N a ρ):(results fn a.tmps).run P w=.ok (.tuple #[ρ t,ρ u,ρ s,ρ r]) w:=by
 simp [results,h,← ha.val]
theorem WS_ret4 {f:FuncId} {R:Value→World→Prop} {k:List Item} {fn:Func} {t u s r:Tmp} (hf:P.funcs[f]?=some fn) (hr:fn.results=#[.tmp t,.tmp u,.tmp s,.tmp r]) (h:R (.tuple #[ρ t,ρ u,ρ s,ρ r]) w):WS P N f R (.code .ret::k) ρ w:=WS_leave hf step_ret' (fun _ ha=>results_tmp4' hr ha) h
end
end Go.K
namespace Go.K
open Go Go.RowKit
structure Sep (A:List Res) (w:World):Prop where
 all:∀ r∈A,r.holds w
 apart:A.Pairwise Dj
def fps (A:List Res):List Nat:=A.flatMap (·.fp)
section
variable {S:List Nat} {W w w':World} {A H Q:List Res}
theorem fps_mem {r:Res} (h:r∈A) {x:Nat} (hx:x∈r.fp):x∈fps A:=List.mem_flatMap.2 ⟨r,h,hx⟩
theorem Hp.startL (h:Sep A w):Hp (fps A) w w A:=⟨.refl,h.all,fun _ hr _ hx=>.inl (fps_mem hr hx),h.apart⟩
theorem Hp.sepN (n:Nat) (h:Hp S W w H):Sep (H.take n) w:=⟨(h.take n).all,(h.take n).apart⟩
theorem Hp.calls (n:Nat) (h:Hp S W w H) (hQ:Hp (fps (H.take n)) w w' Q):Hp S W w' (Q++H.drop n):=by
 have hsp:(H.take n++H.drop n).Pairwise Dj:=by rw [List.take_append_drop];exact h.apart
 obtain ⟨h1,h2,h3⟩:=List.pairwise_append.1 hsp
 have hF:∀ y∈fps (H.take n),∃ r∈H.take n,y∈r.fp:=fun y hy=>List.mem_flatMap.1 hy
 have hin:∀ y∈fps (H.take n),y∈S∨W.heap.size≤y:=fun y hy=>by
  obtain ⟨r,hr,hyr⟩:=hF y hy
  exact h.new r (List.mem_of_mem_take hr) y hyr
 refine ⟨h.ext.trans hQ.ext hin,fun x hx=>?_,fun x hx y hy=>?_,?_⟩
 ·rcases List.mem_append.1 hx with hx|hx
  ·exact hQ.all x hx
  ·refine x.keep (h.all x (List.mem_of_mem_drop hx)) hQ.ext (fun s hs hsx=>?_)
   obtain ⟨r,hr,hsr⟩:=hF s hs
   exact h3 r hr x hx s hsr hsx
 ·rcases List.mem_append.1 hx with hx|hx
  ·rcases hQ.new x hx y hy with h4|h4
   ·exact hin y h4
   ·exact .inr (Nat.le_trans h.size h4)
  ·exact h.new x (List.mem_of_mem_drop hx) y hy
 ·refine List.pairwise_append.2 ⟨hQ.apart,h2,fun q hq x hx y hyq hyx=>?_⟩
  rcases hQ.new q hq y hyq with h4|h4
  ·obtain ⟨r,hr,hyr⟩:=hF y h4
   exact h3 r hr x hx y hyr hyx
  ·have:=x.lt (h.all x (List.mem_of_mem_drop hx)) y hyx;omega
end
theorem WS_tailE {P:Program} {N:Nat} {f:FuncId} {R:Value→World→Prop} {k:List Item} {ρ:Fr} {w:World} {id:Nat} {l:List Oper} (hm:P.follows .mixedOrders=true) (n1:Nat) (hn:((l.take n1).length=n1)) (hok:tailOk2 l n1=true) (hgd:(l.take n1).all (fun o=>match o.guard with|some (g,_)=>Nat.blt g n1|none=>true)=true)
  (h:∀ w1,Ext [] w w1→WA P N (WL P N (WS P N f R k) l.toArray (l.drop n1)) (l.take n1).toArray (fun w'=>Ext [] w w') n1 n1 [] ρ w1) :
  WS P N f R (.code (.region id l.toArray true)::k) ρ w:=WS_tailS hm n1 hn hok hgd (fun w'=>Ext [] w w') (h _ Ext.drew0)
theorem WS_w {P:Program} {N:Nat} {f:FuncId} {R:Value→World→Prop} {k:List Item} {ρ:Fr} {w:World} (h:∀ u,u=w→WS P N f R k ρ u):WS P N f R k ρ w:=h w rfl
end Go.K
namespace Go.K
open Go Go.RowKit
section
variable {P:Program} {N:Nat} {K:Fr→World→Prop} {ρ:Fr} {w:World} {d:Nat} {ty t e:TypeId} {pos:String} {af:Array Edge} {gd:Option (Nat × Bool)} {x y z:Operand} {q:IntKind} {b r:Nat} {T:Int→Prop} {n:Nat} {v:Value} {S:List Nat} {W:World} {H:List Res}
structure SetOf (T:Int→Prop) (n:Nat) (es:Array MapEntry) (clock:Nat):Prop where
 old:∀ x∈es.toList,x.born<clock
 nodup:(es.toList.map (·.born)).Nodup
 key:∀ x∈es.toList,∃ i,x.key=.int .i64 i∧T i
 all:∀ i,T i→∃ x∈es.toList,x.key=.int .i64 i
 size:es.size≤n
def MS (b:Nat) (T:Int→Prop) (n:Nat):Res where
 fp:=[b]
 holds:=fun w=>∃ es clock,w.heap[b]?=some (.map es clock)∧SetOf T n es clock
 keep:=fun ⟨es,c,h,hs⟩ hE hS=>⟨es,c,(hE.block b (Array.getElem?_eq_some_iff.1 h).1 (fun hb=>hS b hb (by simp))).trans h,hs⟩
 lt:=fun ⟨_,_,h,_⟩ s hs=>by simp at hs;subst hs;exact (Array.getElem?_eq_some_iff.1 h).1
theorem H_makeMapS (hH:Hp S W w H) (hd:Nat.blt d N=true) (hk:∀ w' b,Hp S W w' (H++[MS b (fun _=>False) 0])→K (upd ρ d (.map (some b))) w'):Stp P N ρ ⟨some d,.makeMap t none,ty,pos,af,gd⟩ w K:=by
 refine S_run (w':=w.alloc (.map #[] 0)) (v:=.map (some w.heap.size)) ?_ hd (hk _ _ (hH.nu ⟨ext_alloc _ _,⟨#[],0,heap_alloc_new w _,by simp,by simp,by simp,by simp,by simp⟩,fun x hx=>by simp [MS] at hx;omega⟩))
 constructor;unfold execOp
 simp [Instr.makeMap]
theorem H_mapSetS (j:Nat) {i:Int} (hH:Hp S W w H) (hj:H[j]?=some (MS b T n)) (ht:mpk P t=some (.i64,e)) (hx:ev ρ x=.map (some b)) (hy:ev ρ y=.int .i64 i) (hz:ev ρ z=v)
  (hk:∀ w',Hp S W w' (H.set j (MS b (fun k=>T k∨k=i) (n+1)))→K ρ w'):Stp P N ρ ⟨none,.mapUpdate t x y z,ty,pos,af,gd⟩ w K:=by
 obtain ⟨kt,hu,hkk⟩:=mpk_spec ht
 obtain ⟨es,c,hb,hs⟩:=hH.at j hj
 have hkey:MapKept.IsKey (.int .i64) (.int .i64 i):=by simp [MapKept.IsKey]
 have hks:∀ x∈es.toList,MapKept.IsKey (.int .i64) x.key:=fun x hx=>by
  obtain ⟨k,hk,_⟩:=hs.key x hx
  simp [MapKept.IsKey,hk]
 have fin:∀ (es':Array MapEntry) (c':Nat),SetOf (fun k=>T k∨k=i) (n+1) es' c'→(Instr.mapUpdate t (.map (some b)) (.int .i64 i) v).run P w=.ok () { w with heap:=w.heap.setIfInBounds b (.map es' c') }→Stp P N ρ ⟨none,.mapUpdate t x y z,ty,pos,af,gd⟩ w K:=by
  intro es' c' hs' hr
  have hh:=MapKept.heap_set (o':=.map es' c') hb
  refine S_skip (w':={ w with heap:=w.heap.setIfInBounds b (.map es' c') }) ?_ rfl (hk _ (hH.up j hj ⟨⟨rfl,rfl,rfl,by simp,Nat.le_refl _,fun r _ hr=>hh.2 r (fun e=>hr (by simp [MS,e]))⟩,⟨es',c',hh.1,hs'⟩,fun _ hx=>.inl hx⟩))
  unfold execOp
  simp [hx,hy,hz,hr]
 rcases MapKept.findNow_spec hkey es.toList 0 hks with ⟨h1,h2⟩|⟨j,e',h1,h2,h3⟩
 ·refine fin (es.push { key:=.int .i64 i,val:=v,born:=c }) (c+1) ⟨?_,?_,?_,?_,?_⟩ ?_
  ·intro x hx
   simp only [Array.toList_push,List.mem_append,List.mem_singleton] at hx
   rcases hx with hx|rfl
   ·have:=hs.old x hx;omega
   ·exact Nat.lt_succ_self _
  ·rw [Array.toList_push,List.map_append,List.nodup_append]
   refine ⟨hs.nodup,by simp,fun a ha c' hc'=>?_⟩
   obtain ⟨x,hx,rfl⟩:=List.mem_map.1 ha
   have:=hs.old x hx
   simp at hc'
   omega
  ·intro x hx
   simp only [Array.toList_push,List.mem_append,List.mem_singleton] at hx
   rcases hx with hx|rfl
   ·obtain ⟨k,hk,hT⟩:=hs.key x hx
    exact ⟨k,hk,.inl hT⟩
   ·exact ⟨i,rfl,.inr rfl⟩
  ·rintro k (hk|rfl)
   ·obtain ⟨x,hx,hxk⟩:=hs.all k hk
    exact ⟨x,by simp at hx ⊢;exact .inl hx,hxk⟩
   ·exact ⟨_,by simp;exact .inr rfl,rfl⟩
  ·have:=hs.size;simp;omega
  ·simp [Instr.mapUpdate,run_underlying hu,MapKept.run_getObj_map hb,MapKept.run_checkKey hkk hkey,MapKept.run_findKey hkk h1,MapKept.run_setObj_map _ hb,Result.andThen]
 ·have hj:(es[j]?).map (·.key)=some (.int .i64 i):=by
   have:es[j]?=some e':=by simpa using h2
   rw [this];simp [h3]
  have hej:es.toList[j]?=some e':=h2
  have hmod:∀ (m:Nat) (x:MapEntry),(es.modify j fun e=>{ e with key:=.int .i64 i,val:=v }).toList[m]?=some x→∃ y:MapEntry,es.toList[m]?=some y∧x.key=y.key∧x.born=y.born:=by
   intro m x hm
   simp only [Array.getElem?_toList,Array.getElem?_modify] at hm
   split at hm
   ·rename_i e;subst e
    simp only [Option.map_eq_some_iff] at hm
    obtain ⟨y,hy,rfl⟩:=hm
    have:es.toList[j]?=some y:=by simpa using hy
    rw [hej] at this;cases this
    exact ⟨e',hej,h3.symm,rfl⟩
   ·exact ⟨x,by simpa using hm,rfl,rfl⟩
  have hmod2:∀ (m:Nat) (y:MapEntry),es.toList[m]?=some y→∃ x:MapEntry,(es.modify j fun e=>{ e with key:=.int .i64 i,val:=v }).toList[m]?=some x∧x.key=y.key∧x.born=y.born:=by
   intro m y hm
   simp only [Array.getElem?_toList,Array.getElem?_modify]
   by_cases e:j=m
   ·subst e
    rw [hej] at hm;cases hm
    have:es[j]?=some e':=by simpa using hej
    exact ⟨{ e' with key:=.int .i64 i,val:=v },by rw [if_pos rfl,this];rfl,h3.symm,rfl⟩
   ·exact ⟨y,by rw [if_neg e];simpa using hm,rfl,rfl⟩
  have hbn:(es.modify j fun e=>{ e with key:=.int .i64 i,val:=v }).toList.map (·.born)=es.toList.map (·.born):=by
   apply List.ext_getElem?
   intro m
   rw [List.getElem?_map,List.getElem?_map]
   cases hm:es.toList[m]? with
   | some y=>obtain ⟨x,hx,_,hb⟩:=hmod2 m y hm;rw [hx];simp [hb]
   | none =>
    cases hm2:(es.modify j fun e=>{ e with key:=.int .i64 i,val:=v }).toList[m]? with
    | none=>rfl
    | some x=>obtain ⟨y,hy,_⟩:=hmod m x hm2;rw [hm] at hy;cases hy
  refine fin (es.modify j fun e=>{ e with key:=.int .i64 i,val:=v }) c ⟨?_,?_,?_,?_,?_⟩ ?_
  ·intro x hx
   obtain ⟨m,hm⟩:=List.mem_iff_getElem?.1 hx
   obtain ⟨y,hy,_,hb⟩:=hmod m x hm
   rw [hb];exact hs.old y (List.mem_of_getElem? hy)
  ·rw [hbn];exact hs.nodup
  ·intro x hx
   obtain ⟨m,hm⟩:=List.mem_iff_getElem?.1 hx
   obtain ⟨y,hy,hk,_⟩:=hmod m x hm
   obtain ⟨k,hk2,hT⟩:=hs.key y (List.mem_of_getElem? hy)
   exact ⟨k,hk.trans hk2,.inl hT⟩
  ·rintro k (hk|rfl)
   ·obtain ⟨y,hy,hyk⟩:=hs.all k hk
    obtain ⟨m,hm⟩:=List.mem_iff_getElem?.1 hy
    obtain ⟨x,hx,hxk,_⟩:=hmod2 m y hm
    exact ⟨x,List.mem_of_getElem? hx,hxk.trans hyk⟩
   ·obtain ⟨x,hx,hxk,_⟩:=hmod2 j e' hej
    exact ⟨x,List.mem_of_getElem? hx,hxk.trans h3⟩
  ·have:=hs.size;simp;omega
  ·simp [Instr.mapUpdate,run_underlying hu,MapKept.run_getObj_map hb,MapKept.run_checkKey hkk hkey,MapKept.run_findKey hkk h1,MapKept.run_setObj_map _ hb,hj,MapKept.run_keyThatStays hkey,Result.andThen]
def IT (b r:Nat) (es:Array MapEntry) (clock:Nat) (seen:Array Nat):Res where
 fp:=[b,r]
 holds:=fun w=>w.heap[b]?=some (.map es clock)∧w.heap[r]?=some (.mapIter (some b) clock seen clock)
 keep:=fun ⟨h,h2⟩ hE hS=>⟨(hE.block b (Array.getElem?_eq_some_iff.1 h).1 (fun hb=>hS b hb (by simp))).trans h,(hE.block r (Array.getElem?_eq_some_iff.1 h2).1 (fun hb=>hS r hb (by simp))).trans h2⟩
 lt:=fun ⟨h,h2⟩ s hs=>by
  simp at hs
  rcases hs with rfl|rfl
  ·exact (Array.getElem?_eq_some_iff.1 h).1
  ·exact (Array.getElem?_eq_some_iff.1 h2).1
theorem H_rangeS (j:Nat) (hH:Hp S W w H) (hj:H[j]?=some (MS b T n)) (ht:mpk P t=some (.i64,e)) (hx:ev ρ x=.map (some b)) (hd:Nat.blt d N=true)
  (hk:∀ w' r es clock,SetOf T n es clock→Hp S W w' (H.set j (IT b r es clock #[]))→K (upd ρ d (.pointer (some ⟨r,0,none⟩))) w'):Stp P N ρ ⟨some d,.range t x,ty,pos,af,gd⟩ w K:=by
 obtain ⟨kt,hu,hkk⟩:=mpk_spec ht
 obtain ⟨es,c,hb,hs⟩:=hH.at j hj
 have hE:=ext_alloc w (.mapIter (some b) c #[] c)
 refine S_run (w':=w.alloc (.mapIter (some b) c #[] c)) (v:=.pointer (some ⟨w.heap.size,0,none⟩)) ?_ hd (hk _ w.heap.size es c hs (hH.up j hj ⟨hE.weaken (by simp),⟨(hE.block b (Array.getElem?_eq_some_iff.1 hb).1 (by simp)).trans hb,heap_alloc_new w _⟩,fun y hy=>?_⟩))
 ·constructor;unfold execOp
  simp [hx,run_range_map w t kt e b es c hu hb]
 ·simp [IT] at hy
  rcases hy with rfl|rfl
  ·exact .inl (by simp [MS])
  ·exact .inr (Nat.le_refl _)
theorem H_nextS (j:Nat) {es:Array MapEntry} {clock:Nat} {seen:Array Nat} (hH:Hp S W w H) (hj:H[j]?=some (IT b r es clock seen)) (hold:∀ x∈es.toList,x.born<clock) (hx:ev ρ x=.pointer (some ⟨r,0,none⟩)) (hd:Nat.blt d N=true)
  (h0:(leftOf es seen).size=0→K (upd ρ d (.tuple #[.bool false])) w)
  (h1:∀ e∈(leftOf es seen).toList,∀ w',Hp S W w' (H.set j (IT b r es clock (seen.push e.born)))→K (upd ρ d (.tuple #[.bool true,e.key,e.val])) w'):Stp P N ρ ⟨some d,.next x false,ty,pos,af,gd⟩ w K:=by
 obtain ⟨hb,hr⟩:=hH.at j hj
 have hne:r≠b:=fun h=>by subst h;rw [hb] at hr;cases hr
 rcases run_next_at (P:=P) w ty r b clock clock seen es clock hr hb hold (Nat.le_refl _) with ⟨hz,hrun⟩|⟨e,he,w1,hw1,hrun⟩
 ·refine S_run (w':=w) (v:=.tuple #[.bool false]) ?_ hd (h0 hz)
  constructor;unfold execOp
  simp [hx,hrun]
 ·have hE1:Ext [] w w1:=by rcases hw1 with rfl|rfl;exact .refl;exact Ext.drew0
  have hr1:w1.heap[r]?=some (.mapIter (some b) clock seen clock):=by rcases hw1 with rfl|rfl<;>exact hr
  have hb1:w1.heap[b]?=some (.map es clock):=by rcases hw1 with rfl|rfl<;>exact hb
  have hset:=MapKept.heap_set (o':=.mapIter (some b) clock (seen.push e.born) clock) hr1
  have hE2:Ext [r] w1 (ChangeMaps.setBlock w1 r (.mapIter (some b) clock (seen.push e.born) clock)):=⟨rfl,rfl,rfl,by simp [ChangeMaps.setBlock],Nat.le_refl _,fun k _ hk=>hset.2 k (fun e=>hk (by simp [e]))⟩
  refine S_run (w':=ChangeMaps.setBlock w1 r (.mapIter (some b) clock (seen.push e.born) clock)) (v:=.tuple #[.bool true,e.key,e.val]) ?_ hd (h1 e he _ (hH.up j hj ⟨(hE1.weaken (by simp)).trans (hE2.weaken (fun s hs=>by simp at hs;simp [IT,hs])) (fun t ht=>.inl ht),⟨(hset.2 b (fun e=>hne e.symm)).trans hb1,hset.1⟩,fun _ hx=>.inl hx⟩))
  constructor;unfold execOp
  simp [hx,hrun]
theorem k_entryS {dst:Option Nat} {es:Array MapEntry} {clock:Nat} {seen:Array Nat} {e:MapEntry} (hI:(IT b r es clock (seen.push e.born)).holds w) (he:e∈es.toList) (hn:(es.toList.map (·.born)).Nodup) (hx:ev ρ x=.pointer (some ⟨r,0,none⟩)):Run P ρ ⟨dst,.entry x,ty,pos,af,gd⟩ w (.tuple #[e.key,e.val]) w:=by
 constructor;unfold execOp
 simp [hx,run_entry_at (P:=P) w r b clock seen es clock e hI.2 hI.1 he hn]
theorem k_shrI {dst:Option Nat} {u:TypeId} {yk:IntKind} {i:Int} {m:Nat} (hx:ev ρ x=.int .i64 i) (hy:ev ρ y=.int yk m) (hm:m≤62):Run P ρ ⟨dst,.binOp .shr t x y u,ty,pos,af,gd⟩ w (.int .i64 (i / 2 ^ m)) w :=
 k_bin hx hy (eqGuard_other rfl) (by
  have h0:¬ ((m:Int)<0):=by omega
  have h:i.fdiv (2 ^ min m IntKind.i64.bits)=i / 2 ^ m:=by
   rw [Nat.min_eq_left (by simp only [IntKind.bits];omega),Int.fdiv_eq_ediv_of_nonneg _ (Int.pow_nonneg (by decide))]
  simp [binOp,Op.shift,h0,h])
end
end Go.K
namespace Go.P
open Go Go.K Ieee
abbrev PF:=Nat × Nat
abbrev fadd (a b:Nat):Option Nat:=FloatKind.f64.format.add a b
abbrev fsub (a b:Nat):Option Nat:=FloatKind.f64.format.sub a b
def padd (a b:PF):Option PF:=match fadd a.1 b.1,fadd a.2 b.2 with|some r,some i=>some (r,i)|_,_=>none
def psub (a b:PF):Option PF:=match fsub a.1 b.1,fsub a.2 b.2 with|some r,some i=>some (r,i)|_,_=>none
def hst (h:Nat) (v:List PF) (i:Nat):Option (List PF) :=
 if i &&& h=0 then
  match padd (v.getD i (0,0)) (v.getD (i+h) (0,0)),psub (v.getD i (0,0)) (v.getD (i+h) (0,0)) with
  | some x,some y=>some ((v.set i x).set (i+h) y)
  | _,_=>none
 else some v
def hrow (h:Nat) (v:List PF):Nat→Option (List PF)
 | 0=>some v
 | n+1=>(hrow h v n).bind fun u=>hst h u n
def hall (v:List PF):Nat→Option (List PF)
 | 0=>some v
 | n+1=>(hall v n).bind fun u=>hrow (2 ^ n) u 8
theorem hst_len {h i:Nat} {v u:List PF} (e:hst h v i=some u):u.length=v.length:=by
 unfold hst at e
 split at e
 ·split at e
  ·obtain rfl:=Option.some.inj e;simp
  ·cases e
 ·obtain rfl:=Option.some.inj e;rfl
theorem hrow_len {h:Nat} {v:List PF}:∀ {n:Nat} {u:List PF},hrow h v n=some u→u.length=v.length
 | 0,u,e=>by obtain rfl:=Option.some.inj e;rfl
 | n+1,u,e=>by
  obtain ⟨x,h1,h2⟩:=Option.bind_eq_some_iff.1 e
  rw [hst_len h2,hrow_len h1]
theorem hrow_pre {h:Nat} {v:List PF}:∀ {n m:Nat} {u:List PF},hrow h v n=some u→m≤n→∃ x,hrow h v m=some x
 | 0,m,u,e,hm=>by obtain rfl:m=0:=(by omega);exact ⟨v,rfl⟩
 | n+1,m,u,e,hm=>by
  obtain ⟨x,h1,h2⟩:=Option.bind_eq_some_iff.1 e
  by_cases hmn:m=n+1
  ·subst hmn;exact ⟨u,e⟩
  ·exact hrow_pre h1 (by omega)
theorem hrow_next {h n:Nat} {v u:List PF} (e:hrow h v 8=some u) (hn:n<8) {x:List PF} (hx:hrow h v n=some x):∃ y,hst h x n=some y∧hrow h v (n+1)=some y:=by
 obtain ⟨y,hy⟩:=hrow_pre e (show n+1≤8 by omega)
 have h2:=hy
 unfold hrow at h2
 rw [hx] at h2
 exact ⟨y,h2,hy⟩
theorem hall_pre {v:List PF}:∀ {n m:Nat} {u:List PF},hall v n=some u→m≤n→∃ x,hall v m=some x
 | 0,m,u,e,hm=>by obtain rfl:m=0:=(by omega);exact ⟨v,rfl⟩
 | n+1,m,u,e,hm=>by
  obtain ⟨x,h1,h2⟩:=Option.bind_eq_some_iff.1 e
  by_cases hmn:m=n+1
  ·subst hmn;exact ⟨u,e⟩
  ·exact hall_pre h1 (by omega)
theorem hall_next {n:Nat} {v u:List PF} (e:hall v 3=some u) (hn:n<3) {x:List PF} (hx:hall v n=some x):∃ y,hrow (2 ^ n) x 8=some y∧hall v (n+1)=some y:=by
 obtain ⟨y,hy⟩:=hall_pre e (show n+1≤3 by omega)
 have h2:=hy
 unfold hall at h2
 rw [hx] at h2
 exact ⟨y,h2,hy⟩
theorem hall_len {v:List PF}:∀ {n:Nat} {u:List PF},hall v n=some u→u.length=v.length
 | 0,u,e=>by obtain rfl:=Option.some.inj e;rfl
 | n+1,u,e=>by
  obtain ⟨x,h1,h2⟩:=Option.bind_eq_some_iff.1 e
  rw [hrow_len h2,hall_len h1]
def horder:List Nat:=[0,4,6,2,3,7,5,1]
def height (v:List PF):Option (List PF):=(hall v 3).map fun u=>horder.map fun k=>u.getD k (0,0)
def fint (a:Nat):Option Int:=match (rd64 a).toInt .zero with|some i=>if -9223372036854775808≤i∧i≤9223372036854775807 then some i else none|none=>none
theorem fint_spec {a:Nat} {i:Int} (h:fint a=some i):(rd64 a).toInt .zero=some i∧(-9223372036854775808≤i∧i≤9223372036854775807):=by
 unfold fint at h
 split at h
 ·rename_i j hj
  split at h
  ·rename_i hb
   obtain rfl:=Option.some.inj h
   exact ⟨hj,hb⟩
  ·cases h
 ·cases h
def hvec (b:List Int) (r:Nat):List PF:=(List.range 8).map fun i=>(FN (b.getD (8*r+i) 0),FN (b.getD (8*r+8+i) 0))
def hput (r:Nat) (u:List PF) (o:List Int):Nat→Option (List Int)
 | 0=>some o
 | k+1=>(hput r u o k).bind fun o=>match fint (u.getD k (0,0)).1,fint (u.getD k (0,0)).2 with
  | some x,some y=>some ((o.set (8*k+r) x).set (8*k+r+1) y)
  | _,_=>none
def hrows (b:List Int):Nat→Option (List Int)
 | 0=>some (List.replicate 64 0)
 | n+1=>(hrows b n).bind fun o=>(height (hvec b (2*n))).bind fun u=>hput (2*n) u o 8
theorem hput_len {r:Nat} {u:List PF} {o:List Int}:∀ {n:Nat} {x:List Int},hput r u o n=some x→x.length=o.length
 | 0,x,e=>by obtain rfl:=Option.some.inj e;rfl
 | n+1,x,e=>by
  obtain ⟨y,h1,h2⟩:=Option.bind_eq_some_iff.1 e
  split at h2
  ·obtain rfl:=Option.some.inj h2
   simp [hput_len h1]
  ·cases h2
theorem hrows_len {b:List Int}:∀ {n:Nat} {x:List Int},hrows b n=some x→x.length=64
 | 0,x,e=>by obtain rfl:=Option.some.inj e;rfl
 | n+1,x,e=>by
  obtain ⟨y,h1,h2⟩:=Option.bind_eq_some_iff.1 e
  obtain ⟨u,h3,h4⟩:=Option.bind_eq_some_iff.1 h2
  rw [hput_len h4,hrows_len h1]
def hvb (c:List Int) (r:Nat):Nat→List PF
 | 0=>List.replicate 8 (0,0)
 | k+1=>(hvb c r k).set (horder.getD k 0) (FN (c.getD (8*r+k) 0),FN (c.getD (8*r+8+k) 0))
theorem hvb_len (c:List Int) (r:Nat):∀ n,(hvb c r n).length=8
 | 0=>rfl
 | n+1=>by simp [hvb,hvb_len c r n]
def hbacks (b:List Int):Nat→Option (List Int)
 | 0=>some (List.replicate 64 0)
 | n+1=>(hbacks b n).bind fun o=>(hall (hvb b (2*n) 8) 3).bind fun u=>hput (2*n) u o 8
theorem hbacks_len {b:List Int}:∀ {n:Nat} {x:List Int},hbacks b n=some x→x.length=64
 | 0,x,e=>by obtain rfl:=Option.some.inj e;rfl
 | n+1,x,e=>by
  obtain ⟨y,h1,h2⟩:=Option.bind_eq_some_iff.1 e
  obtain ⟨u,h3,h4⟩:=Option.bind_eq_some_iff.1 h2
  rw [hput_len h4,hbacks_len h1]
theorem back50:((hbacks (3200::List.replicate 63 0) 4).bind fun b=>hbacks b 4)=some (List.replicate 64 3200):=by decide +kernel
theorem had50:((hrows (List.replicate 64 50) 4).bind fun b=>hrows b 4)=some (3200::List.replicate 63 0):=by decide +kernel
end Go.P
namespace Go.Proofs.YtpbiicegmcpkpaaGreat
open Go Go.K Go.RowKit Go.Proofs
theorem dF {p:Prop} [Decidable p] (h:¬p):Value.bool (decide p)=.bool false:=congrArg Value.bool (decide_eq_false h)
theorem dT {p:Prop} [Decidable p] (h:p):Value.bool (decide p)=.bool true:=congrArg Value.bool (decide_eq_true h)
section
variable {ρ:Fr} {w:World} {dst:Option Nat} {ty t u:TypeId} {pos:String} {af:Array Edge} {gd:Option (Nat × Bool)} {x:Operand} {q:IntKind} {m:Nat} {p:Bool × Nat}
theorem k_convI {i:Int} (hx:ev ρ x=.int q i) (h1:lk t Ty.shpL=some p) (h2:lk u Ty.kndL=some .i64) (hf:-9223372036854775808≤i∧i≤9223372036854775807):Run Tryz.prog ρ ⟨dst,.convert t u x,ty,pos,af,gd⟩ w (.int .i64 i) w:=k_conv_i64 hx (Ty.und h1) (Ty.knd h2) hf
theorem k_conv16 (hx:ev ρ x=.int q m) (h1:lk t Ty.shpL=some p) (h2:lk u Ty.kndL=some .u16) (hf:m<65536):Run Tryz.prog ρ ⟨dst,.convert t u x,ty,pos,af,gd⟩ w (.int .u16 m) w:=k_conv_fit hx (Ty.und h1) (Ty.knd h2) (fit16 hf)
theorem k_conv64 (hx:ev ρ x=.int q m) (h1:lk t Ty.shpL=some p) (h2:lk u Ty.kndL=some .u64) (hf:m<18446744073709551616):Run Tryz.prog ρ ⟨dst,.convert t u x,ty,pos,af,gd⟩ w (.int .u64 m) w:=k_conv_fit hx (Ty.und h1) (Ty.knd h2) (fit64 hf)
theorem k_conv8 (hx:ev ρ x=.int q m) (h1:lk t Ty.shpL=some p) (h2:lk u Ty.kndL=some .u8) (hf:m<256):Run Tryz.prog ρ ⟨dst,.convert t u x,ty,pos,af,gd⟩ w (.int .u8 m) w:=k_conv_fit hx (Ty.und h1) (Ty.knd h2) (fit8 hf)
theorem k_convB (hx:ev ρ x=.int q m) (h1:lk t Ty.shpL=some p) (h2:lk u Ty.kndL=some .u8):Run Tryz.prog ρ ⟨dst,.convert t u x,ty,pos,af,gd⟩ w (.int .u8 ((m % 256:Nat):Int)) w:=k_conv_u8 hx (Ty.und h1) (Ty.knd h2)
end
end Go.Proofs.YtpbiicegmcpkpaaGreat
