/- A part of the proof of the card of TopText; no condition. -/
import Derived.Test.YtdbnmbkjmeepkaaGreatDoorT07
import Derived.Lib.Atoi
import Derived.Lib.IndexBytes
import Derived.Lib.ItoaLen
import Derived.Lib.Join
import Derived.Lib.SplitLaws
namespace Go.K
open Go Go.RowKit
def jE (w:World) (b:Nat) (q:IntKind) (F:Int→Option Value):Prop :=
 ∃ es clock,w.heap[b]?=some (.map es clock)∧(∀ x∈es.toList,∃ i,x.key=.int q i∧F i=some x.val)∧(∀ i v,F i=some v→∃ x∈es.toList,x.key=.int q i)∧(es.toList.map (·.key)).Nodup
section
variable {w w':World} {b:Nat} {q:IntKind} {F:Int→Option Value}
theorem jE.lt (h:jE w b q F):b<w.heap.size:=by
 obtain ⟨es,c,hb,_⟩:=h
 exact (Array.getElem?_eq_some_iff.1 hb).1
theorem jE.ext {S:List Nat} (h:jE w b q F) (hE:Ext S w w') (hb:b ∉ S):jE w' b q F:=by
 have hlt:=h.lt
 obtain ⟨es,c,hm,hq⟩:=h
 exact ⟨es,c,(hE.block b hlt hb).trans hm,hq⟩
theorem jE.aH (h:jE w b q F) (hE:Ext [] w w'):jE w' b q F:=h.ext hE (by simp)
def rO (F:Int→Option Value) (i:Int) (v:Value):Int→Option Value:=fun k=>if k=i then some v else F k
end
section
variable {P:Program} {N:Nat} {K:Fr→World→Prop} {ρ:Fr} {w:World} {dst:Option Nat} {d:Nat} {ty:TypeId} {pos:String} {af:Array Edge} {gd:Option (Nat × Bool)} {x y z:Operand} {t e:TypeId} {q:IntKind} {F:Int→Option Value} {b:Nat} {v:Value}
theorem Ct (q:IntKind) (hd:Nat.blt d N=true) (hk:∀ w' b,b=w.heap.size→Ext [] w w'→jE w' b q (fun _=>none)→K (dX ρ d (.map (some b))) w'):kC P N ρ ⟨some d,.makeMap t none,ty,pos,af,gd⟩ w K:=by
 refine fA (w':=w.alloc (.map #[] 0)) (v:=.map (some w.heap.size)) ?_ hd (hk _ _ rfl (gQ _ _) ⟨#[],0,heap_alloc_new w _,by simp,by simp,by simp⟩)
 constructor;unfold execOp
 simp [Instr.makeMap]
theorem nR {i:Int} (ht:Pf P t=some (q,e)) (hx:ev ρ x=.map (some b)) (hy:ev ρ y=.int q i) (hz:ev ρ z=v) (hM:jE w b q F)
  (hk:∀ w',Ext [b] w w'→jE w' b q (rO F i v)→K ρ w'):kC P N ρ ⟨none,.mapUpdate t x y z,ty,pos,af,gd⟩ w K:=by
 obtain ⟨kt,hu,hkk⟩:=Ba ht
 obtain ⟨es,c,hb,hes,cW,hnd⟩:=hM
 have hkey:MapKept.IsKey (.int q) (.int q i):=by simp [MapKept.IsKey]
 have hks:∀ x∈es.toList,MapKept.IsKey (.int q) x.key:=fun x hx=>by
  obtain ⟨k,hk,_⟩:=hes x hx
  simp [MapKept.IsKey,hk]
 have fin:∀ (es':Array MapEntry) (c':Nat),((∀ x∈es'.toList,∃ k,x.key=.int q k∧rO F i v k=some x.val)∧(∀ k u,rO F i v k=some u→∃ x∈es'.toList,x.key=.int q k)∧(es'.toList.map (·.key)).Nodup)→(Instr.mapUpdate t (.map (some b)) (.int q i) v).run P w=.ok () { w with heap:=w.heap.setIfInBounds b (.map es' c') }→kC P N ρ ⟨none,.mapUpdate t x y z,ty,pos,af,gd⟩ w K:=by
  intro es' c' hes' hr
  have hh:=MapKept.heap_set (o':=.map es' c') hb
  refine Cw (w':={ w with heap:=w.heap.setIfInBounds b (.map es' c') }) ?_ rfl (hk _ ⟨rfl,rfl,rfl,by simp,Nat.le_refl _,fun r _ hr=>hh.2 r (fun e=>hr (by simp [e]))⟩ ⟨es',c',hh.1,hes'⟩)
  unfold execOp
  simp [hx,hy,hz,hr]
 rcases MapKept.findNow_spec hkey es.toList 0 hks with ⟨h1,h2⟩|⟨j,e',h1,h2,h3⟩
 ·refine fin (es.push { key:=.int q i,val:=v,born:=c }) (c+1) ⟨?_,?_,?_⟩ ?_
  ·intro x hx
   simp only [Array.toList_push,List.mem_append,List.mem_singleton] at hx
   rcases hx with hx|rfl
   ·obtain ⟨k,hxk,hF⟩:=hes x hx
    have hne:k≠i:=fun h=>h2 x hx (h▸hxk)
    exact ⟨k,hxk,by rw [rO,if_neg hne];exact hF⟩
   ·exact ⟨i,rfl,by rw [rO,if_pos rfl]⟩
  ·intro k u hu
   by_cases hki:k=i
   ·subst hki;exact ⟨_,by simp;exact .inr rfl,rfl⟩
   ·rw [rO,if_neg hki] at hu
    obtain ⟨x,hx,hxk⟩:=cW k u hu
    exact ⟨x,by simp at hx ⊢;exact .inl hx,hxk⟩
  ·rw [Array.toList_push,List.map_append,List.nodup_append]
   refine ⟨hnd,by simp,fun a ha c' hc'=>?_⟩
   obtain ⟨x,hx,rfl⟩:=List.mem_map.1 ha
   simp at hc'
   subst hc'
   exact h2 x hx
  ·simp [Instr.mapUpdate,run_underlying hu,MapKept.run_getObj_map hb,MapKept.run_checkKey hkk hkey,MapKept.run_findKey hkk h1,MapKept.run_setObj_map _ hb,Result.andThen]
 ·have hj:(es[j]?).map (·.key)=some (.int q i):=by
   have:es[j]?=some e':=by simpa using h2
   rw [this];simp [h3]
  have hej:es.toList[j]?=some e':=h2
  have hmod:∀ (m:Nat),(es.modify j fun e=>{ e with key:=.int q i,val:=v }).toList[m]?=if m=j then some { e' with key:=.int q i,val:=v } else es.toList[m]?:=by
   intro m
   simp only [Array.getElem?_toList,Array.getElem?_modify]
   by_cases e:j=m
   ·subst e
    have:es[j]?=some e':=by simpa using hej
    simp [this]
   ·rw [if_neg e,if_neg (fun h=>e h.symm)]
  have hkm:(es.modify j fun e=>{ e with key:=.int q i,val:=v }).toList.map (·.key)=es.toList.map (·.key):=by
   apply List.ext_getElem?
   intro m
   rw [List.getElem?_map,List.getElem?_map,hmod]
   split
   ·rename_i h;subst h;rw [hej];simp [h3]
   ·rfl
  refine fin (es.modify j fun e=>{ e with key:=.int q i,val:=v }) c ⟨?_,?_,?_⟩ ?_
  ·intro x hx
   obtain ⟨m,hm⟩:=List.mem_iff_getElem?.1 hx
   rw [hmod] at hm
   split at hm
   ·obtain rfl:=Option.some.inj hm
    exact ⟨i,rfl,by rw [rO,if_pos rfl]⟩
   ·rename_i hmj
    obtain ⟨k,hxk,hF⟩:=hes x (List.mem_of_getElem? hm)
    have hne:k≠i:=fun h=>by
     subst h
     apply hmj
     have hl1:=(List.getElem?_eq_some_iff.1 hm)
     have hl2:=(List.getElem?_eq_some_iff.1 hej)
     refine (List.getElem_inj (h₀:=by simpa using hl1.1) (h₁:=by simpa using hl2.1) hnd).1 ?_
     rw [List.getElem_map,List.getElem_map,hl1.2,hl2.2,hxk,h3]
    exact ⟨k,hxk,by rw [rO,if_neg hne];exact hF⟩
  ·intro k u hu
   have hin:∀ y∈es.toList,∃ x∈(es.modify j fun e=>{ e with key:=.int q i,val:=v }).toList,x.key=y.key:=fun y hy=>by
    have:y.key∈(es.modify j fun e=>{ e with key:=.int q i,val:=v }).toList.map (·.key):=by rw [hkm];exact List.mem_map.2 ⟨y,hy,rfl⟩
    obtain ⟨x,hx,hxy⟩:=List.mem_map.1 this
    exact ⟨x,hx,hxy⟩
   by_cases hki:k=i
   ·subst hki
    obtain ⟨x,hx,hxk⟩:=hin e' (List.mem_of_getElem? hej)
    exact ⟨x,hx,hxk.trans h3⟩
   ·rw [rO,if_neg hki] at hu
    obtain ⟨y,hy,hyk⟩:=cW k u hu
    obtain ⟨x,hx,hxk⟩:=hin y hy
    exact ⟨x,hx,hxk.trans hyk⟩
  ·rw [hkm];exact hnd
  ·simp [Instr.mapUpdate,run_underlying hu,MapKept.run_getObj_map hb,MapKept.run_checkKey hkk hkey,MapKept.run_findKey hkk h1,MapKept.run_setObj_map _ hb,hj,MapKept.run_keyThatStays hkey,Result.andThen]
theorem nS {i:Int} {u:Value} (ht:Pf P t=some (q,e)) (hze:N9 P e=some u) (hx:ev ρ x=.map (some b)) (hy:ev ρ y=.int q i) (hM:jE w b q F) (hd:Nat.blt d N=true)
  (hk:K (dX ρ d (.tuple #[(F i).getD u,.bool (F i).isSome])) w):kC P N ρ ⟨some d,.lookup t x y true,ty,pos,af,gd⟩ w K:=by
 obtain ⟨kt,hu,hkk⟩:=Ba ht
 obtain ⟨es,c,hb,hes,cW,_⟩:=hM
 have hkey:MapKept.IsKey (.int q) (.int q i):=by simp [MapKept.IsKey]
 have hks:∀ x∈es.toList,MapKept.IsKey (.int q) x.key:=fun x hx=>by
  obtain ⟨k,hk,_⟩:=hes x hx
  simp [MapKept.IsKey,hk]
 have hzr:(zeroValue e).run P w=.ok u w:=by
  unfold N9 at hze
  cases hi:P.info? e with
  | none=>simp [hi] at hze
  | some i =>
   simp [hi] at hze
   simp [zeroValue,typeInfo,hi,hze]
 rcases MapKept.findNow_spec hkey es.toList 0 hks with ⟨h1,h2⟩|⟨j,e',h1,h2,h3⟩
 ·have hF:F i=none:=by
   cases hf:F i with
   | none=>rfl
   | some v =>
    obtain ⟨x,hx,hxk⟩:=cW i v hf
    exact absurd hxk (h2 x hx)
  rw [hF] at hk
  refine fA (w':=w) (v:=.tuple #[u,.bool false]) ?_ hd hk
  constructor;unfold execOp
  simp [hx,hy,Instr.lookup,run_underlying hu,MapKept.run_getObj_map hb,MapKept.run_checkKey hkk hkey,MapKept.run_findKey hkk h1,hzr]
 ·have hF:F i=some e'.val:=by
   obtain ⟨k,hk,hF⟩:=hes e' (List.mem_of_getElem? h2)
   rw [h3] at hk
   cases hk
   exact hF
  rw [hF] at hk
  refine fA (w':=w) (v:=.tuple #[e'.val,.bool true]) ?_ hd hk
  constructor;unfold execOp
  simp [hx,hy,Instr.lookup,run_underlying hu,MapKept.run_getObj_map hb,MapKept.run_checkKey hkk hkey,MapKept.run_findKey hkk h1]
def GU (b:Nat) (q:IntKind) (F:Int→Option Value):cK:=⟨[b],fun w=>jE w b q F,fun h hE hS=>h.ext hE (fun hb=>hS b hb (by simp)),fun h s hs=>by simp at hs;subst hs;exact h.lt⟩
theorem lM (q:IntKind) {S:List Nat} {W:World} {H:List cK} (hH:Hp S W w H) (hd:Nat.blt d N=true)
  (hk:∀ w' b,Hp S W w' (H++[GU b q (fun _=>none)])→K (dX ρ d (.map (some b))) w'):kC P N ρ ⟨some d,.makeMap t none,ty,pos,af,gd⟩ w K :=
 Ct q hd (fun w' b hb hE hM=>hk w' b (hH.nu ⟨hE,hM,fun x hx=>by simp [GU] at hx;omega⟩))
end
section
variable {P:Program} {N:Nat} {f:FuncId} {R:Value→World→Prop} {k:List Item} {ρ:Fr} {w:World}
theorem IC {id:Nat} {l:List Oper} (n1:Nat) (hn:(l.take n1).length=n1) (htl:lS l n1=true) (hgd:(l.take n1).all (fun o=>match o.guard with|some (g,_)=>Nat.blt g n1|none=>true)=true)
  (Ls:List (Value→World→Prop)) (hm:P.follows .mixedOrders=true) (sp:List (Nat × List (Nat × Nat) × Bool)) (W:Nat) (kp:List (Nat × Nat)) (hok:kQ (l.take n1) 0 (l.take n1) sp=true) (hds:iT N (l.take n1)=true) (hdn:fO (l.take n1)=true)
  (hW:Aw W (l.take n1)=true) (hkp:Cs (l.take n1) kp=true) (dW:G7 Ls) (cW:iN P N (oB Ls) ρ w 0 (l.take n1) sp)
  (hfin:∀ w',Ext [] w w'→lW (oB Ls) w' kp (fun L=>∀ σ,WL P N (WS P N f R k) l.toArray (l.drop n1) (bQ L (oW W ρ σ)) w')) :
  WS P N f R (.code (.region id l.toArray true)::k) ρ w:=by
 have hn1:n1≤l.length:=by simp at hn;omega
 refine vN fun a ha=>wp_region_any hm ?_
 have h1:=Bh (C:=WL P N (WS P N f R k) l.toArray (l.drop n1)) sp hok hds hdn (oB Ls) (fun _ _ _ _ h hE=>G7.nth _ _ dW _ _ _ h hE) cW (fun ρ' w' hE hs hr=>by
  have hdep:∀ p∈kp,oB Ls p.1 (ρ' p.2) w':=fun p hp=>by
   have:=List.all_eq_true.1 hkp p hp
   simp only [beq_iff_eq] at this
   cases ho:(l.take n1)[p.1]? with
   | none=>simp [ho] at this
   | some o=>rw [ho] at this;exact hs p.1 o p.2 ho this
  have h:=iB (ρ:=ρ') (hfin w' hE) hdep ρ'
  have hmr:oW W ρ ρ'=ρ':=by
   funext t
   show cond (sM W t) (ρ' t) (ρ t)=ρ' t
   cases hi:sM W t with
   | true=>rfl
   | false =>
    refine (hr t (fun o ho e=>?_)).symm
    have:=List.all_eq_true.1 hW o ho
    rw [e] at this
    simp only [hi] at this
    cases this
  rw [hmr] at h
  have hself:=jG ρ' (kp.map (·.2))
  rw [List.map_map] at hself
  rw [show (kp.map fun p=>(p.2,ρ' p.2))=List.map ((fun d=>(d,ρ' d)) ∘ fun x=>x.2) kp from rfl,hself] at h
  exact h) a ha
 rw [hn] at h1
 have h2:=yV (Q:=QN N (WS P N f R k)) hn1 htl (fun e a w hne hq=>absurd hq.1 hne) hgd (fun a w hq=>by
  obtain ⟨_,ρ',hr,hw⟩:=hq
  have h3:=hw.out a hr
  have h4:=wpOps_eq_wpList (P:=P) (ops:=l.toArray) (Q:=QN N (WS P N f R k)) (l.drop n1) n1 (fun j=>by simp)
  rw [List.length_drop] at h4
  rw [h4];exact h3) n1 (Array.replicate n1 false) (Array.replicate l.length false) a _ (by simp) (by simp) (fun i hi=>by simp [Array.getD,hi,Nat.lt_of_lt_of_le hi hn1]) (fun i hi hil=>by simp [Array.getD,hil]) (fun i o hi hd=>by simp [Array.getD] at hd) (by simp) h1
 rw [show n1+(l.length-n1)=l.toArray.size by simp;omega] at h2
 simpa using h2
end
section
variable {P:Program} {N:Nat} {K:Fr→World→Prop} {ρ:Fr} {w:World} {d:Nat} {ty t e:TypeId} {pos:String} {af:Array Edge} {gd:Option (Nat × Bool)} {x y:Operand}
theorem Fw {b:Nat} {a2:Option Addr} {n cap m c2 sz bytes:Nat} {g:Bool} {zs vs news:List Value} (ht:sle P t=some (e,(g,sz))) (hz:bH P e=some zs) (hzl:zs.length=sz) (hby:gS P e=some bytes) (hsz:0<sz)
  (hx:ev ρ x=.slice (some ⟨b,0,none⟩) n cap) (hO:Own w e sz (some ⟨b,0,none⟩) n cap vs) (hy:ev ρ y=.slice a2 m c2) (hS:cI w a2 news) (hl:news.length=m*sz) (h1:∀ u∈news,u.oneCell'=true) (hm:m≠0) (hroom:n+m≤cap) (hd:Nat.blt d N=true)
  (hk:∀ w',Ext [b] w w'→Own w' e sz (some ⟨b,0,none⟩) (n+m) cap (vs++news)→K (dX ρ d (.slice (some ⟨b,0,none⟩) (n+m) cap)) w'):kC P N ρ ⟨some d,.call ⟨.builtin .append,#[x,y],#[t,t]⟩,ty,pos,af,gd⟩ w K:=by
 obtain ⟨hu,hs⟩:=eD ht
 obtain ⟨i,z,hi,hzz,rfl,rfl,hzc⟩:=rB hs hz hby
 have hop:∀ {v' w'},(Builtin.append_ #[t,t] ty #[.slice (some ⟨b,0,none⟩) n cap,.slice a2 m c2]).run P w=.ok v' w'→cU P ρ ⟨some d,.call ⟨.builtin .append,#[x,y],#[t,t]⟩,ty,pos,af,gd⟩ w v' w':=by
  intro v' w' hr
  constructor;unfold execOp
  simp [hx,hy,resolve,invoke,builtin,hr]
 obtain ⟨hvl,hnc,hcm,hown⟩:=hO
 have hlen:(vs++news).length=(n+m)*i.size:=by rw [List.length_append,hvl,hl,Nat.add_mul]
 have hne:news≠[]:=fun e=>by
  subst e
  have:0<m*i.size:=Nat.mul_pos (by omega) hsz
  simp at hl;omega
 obtain ⟨b2,o2,rfl⟩:=hS.head hne
 have hnews:∀ j v,news[j]?=some v→w.cell? ((⟨b2,o2,none⟩:Addr).add j)=some v:=fun j v hj=>by rw [A8 rfl];exact hS.cell j v hj
 rcases hown with ⟨h0,_⟩|⟨b',cur,hb,hB,hcs,htake⟩
 ·cases h0
 ·obtain rfl:b=b':=by injection hb with h;injection h
  have hfit:n*i.size+news.length≤cur.size:=by rw [hl,hcs,← Nat.add_mul];exact Nat.mul_le_mul_right _ hroom
  have hr:=run_append_room (P:=P) w t ty e i hu hi b n cap cur hB ⟨b2,o2,none⟩ m c2 news hl hnews h1 hroom hfit
  refine fA (hop hr) hd (hk _ (jY _ _ _) ⟨hlen,hroom,hcm,.inr ⟨b,_,rfl,setRow_heap w b cur _ e _ hB,?_,?_⟩⟩)
  ·simp only [List.size_toArray,List.length_append,List.length_take,List.length_drop,Array.length_toList]
   omega
  ·rw [htake,← hlen]
   exact List.take_left
theorem Jr {kl kc:IntKind} {n sz bytes:Nat} {g:Bool} {zs:List Value} (ht:sle P t=some (e,(g,sz))) (hz:bH P e=some zs) (hby:gS P e=some bytes) (hzl:zs.length=sz)
  (hx:ev ρ x=.int kl 0) (hy:ev ρ y=.int kc n) (hbig:bytes*n≤281474976710656) (h63:n≤maxLen) (hd:Nat.blt d N=true)
  (hk:∀ w' b,b=w.heap.size→Ext [] w w'→Own w' e sz (some ⟨b,0,none⟩) 0 n []→K (dX ρ d (.slice (some ⟨b,0,none⟩) 0 n)) w'):kC P N ρ ⟨some d,.makeSlice t x y,ty,pos,af,gd⟩ w K:=by
 obtain ⟨hu,hs⟩:=eD ht
 obtain ⟨inf,z,hinf,hzz,rfl,rfl,hzc⟩:=rB hs hz hby
 have h63':n≤9223372036854775807:=by simp only [maxLen] at h63;omega
 have hr:=run_make (P:=P) w t e inf z hu hinf hzz kl kc 0 n (by omega) (by omega) (by rw [← Int.natCast_mul];omega) (by omega)
 simp only [Int.toNat_natCast,Int.toNat_zero] at hr
 have hzz2:z.cells=zs.toArray:=by rw [← hzc]
 have hzs:z.cells.size=inf.size:=by rw [hzz2];exact hzl
 have hO:Own (w.alloc (.cells (madeCells z.cells (n*inf.size)) e)) e inf.size (some ⟨w.heap.size,0,none⟩) 0 n [] :=
  ⟨by simp,Nat.zero_le _,h63,.inr ⟨w.heap.size,madeCells z.cells (n*inf.size),rfl,heap_alloc_new w _,by simp [madeCells],by simp⟩⟩
 refine fA ?_ hd (hk _ _ rfl (gQ _ _) hO)
 constructor;unfold execOp
 simp [hx,hy,hr]
end
end Go.K
namespace Go.P
open Go
abbrev cV:=List UInt8
theorem EI {c:UInt8}:∀ {l:cV},c ∉ l→Lib.indexByte l c=-1
 | [],_=>rfl
 | b::l,h=>by
  have h1:(b == c)=false:=by
   rw [beq_eq_false_iff_ne];intro e;exact h (by rw [e];simp)
  have h2:=EI (c:=c) (l:=l) (fun hc=>h (by simp [hc]))
  unfold Lib.indexByte
  rw [h1,h2]
  rfl
theorem Ec {c:UInt8} {b:cV}:∀ {a:cV},c ∉ a→Lib.indexByte (a++c::b) c=a.length
 | [],_=>by
  show Lib.indexByte (c::b) c=_
  unfold Lib.indexByte
  rw [beq_self_eq_true]
  rfl
 | x::a,h=>by
  have h1:(x == c)=false:=by
   rw [beq_eq_false_iff_ne];intro e;exact h (by rw [e];simp)
  have h2:=Ec (c:=c) (b:=b) (a:=a) (fun hc=>h (by simp [hc]))
  show Lib.indexByte (x::(a++c::b)) c=_
  unfold Lib.indexByte
  rw [h1,h2]
  have h3:(((a.length:Nat):Int) == -1)=false:=by
   rw [beq_eq_false_iff_ne];omega
  rw [h3]
  simp
theorem Kd {c:UInt8} {l:cV} (h:c ∉ l):Lib.index l [c]=-1:=by rw [Lib.index_one,EI h]
theorem AQ {c:UInt8} {a b:cV} (h:c ∉ a):Lib.index (a++c::b) [c]=a.length:=by rw [Lib.index_one,Ec h]
theorem kZ (x y:cV) (r:List cV) (c:UInt8):Lib.join (x::y::r) [c]=x++c::Lib.join (y::r) [c]:=by
 rw [Lib.join_cons,Lib.join_cons]
 simp [Lib.joinTail]
theorem uT {c:UInt8}:∀ {x:cV} {r:List cV},(∀ y∈x::r,c ∉ y)→Lib.count (Lib.join (x::r) [c]) [c]=r.length
 | x,[],h=>by rw [Lib.join_one,Lib.count_miss (Kd (h x (by simp)))];rfl
 | x,y::r,h=>by
  rw [kZ,Lib.count_hit (by simp) (AQ (h x (by simp)))]
  have h1:(x++c::Lib.join (y::r) [c]).drop (x.length+[c].length)=Lib.join (y::r) [c]:=by
   rw [← List.drop_drop,List.drop_left];rfl
  rw [h1,uT (fun z hz=>h z (by simp at hz ⊢;rcases hz with h|h<;>simp [h])),List.length_cons,Nat.add_comm]
theorem tD {c:UInt8}:∀ {x:cV} {r:List cV},(∀ y∈x::r,c ∉ y)→Lib.splitK [c] 0 r.length (Lib.join (x::r) [c])=x::r
 | x,[],h=>by rw [Lib.join_one];rfl
 | x,y::r,h=>by
  have hi:=AQ (c:=c) (a:=x) (b:=Lib.join (y::r) [c]) (h x (by simp))
  rw [kZ,List.length_cons]
  unfold Lib.splitK
  have h3:¬ ((Lib.index (x++c::Lib.join (y::r) [c]) [c] == -1)=true):=by
   rw [hi,beq_iff_eq];omega
  rw [if_neg h3,hi]
  have h1:(x++c::Lib.join (y::r) [c]).drop (((x.length:Nat):Int).toNat+[c].length)=Lib.join (y::r) [c]:=by
   rw [Int.toNat_natCast,← List.drop_drop,List.drop_left];rfl
  rw [h1,tD (fun z hz=>h z (by simp at hz ⊢;rcases hz with h|h<;>simp [h])),Int.toNat_natCast,Nat.add_zero,List.take_left]
theorem Fc (x:ByteArray):x=⟨x.data.toList.toArray⟩:=by
 cases x;simp
theorem Dn {c:UInt8} {x:cV} {r:List cV} (h:∀ y∈x::r,c ∉ y):Lib.countB ⟨(Lib.join (x::r) [c]).toArray⟩ ⟨#[c]⟩=r.length∧Lib.splitB ⟨#[c]⟩ 0 (Lib.countB ⟨(Lib.join (x::r) [c]).toArray⟩ ⟨#[c]⟩) ⟨(Lib.join (x::r) [c]).toArray⟩=(x::r).map fun y=>(⟨y.toArray⟩:ByteArray):=by
 have hc:Lib.countB ⟨(Lib.join (x::r) [c]).toArray⟩ ⟨#[c]⟩=r.length:=uT h
 refine ⟨hc,?_⟩
 rw [hc]
 have h1:=Lib.splitB_data ⟨#[c]⟩ 0 r.length ⟨(Lib.join (x::r) [c]).toArray⟩
 have h2:Lib.splitK [c] 0 r.length (Lib.join (x::r) [c])=x::r:=tD h
 have h3:(Lib.splitB ⟨#[c]⟩ 0 r.length ⟨(Lib.join (x::r) [c]).toArray⟩).map (·.data.toList)=x::r:=h1.trans h2
 have h4:=congrArg (List.map fun y:cV=>(⟨y.toArray⟩:ByteArray)) h3
 rw [List.map_map] at h4
 rw [← h4]
 conv=>lhs;rw [← List.map_id (Lib.splitB ⟨#[c]⟩ 0 r.length ⟨(Lib.join (x::r) [c]).toArray⟩)]
 exact List.map_congr_left (fun y _=>Fc y)
theorem Hl {c:UInt8} {a b:cV} (h:c ∉ a):Lib.cut (a++c::b) [c]=(a,b,true):=by
 unfold Lib.cut
 rw [AQ h,if_pos (by omega)]
 have h1:(a++c::b).drop (((a.length:Nat):Int).toNat+[c].length)=b:=by
  rw [Int.toNat_natCast,← List.drop_drop,List.drop_left];rfl
 rw [h1,Int.toNat_natCast,List.take_left]
theorem Ex {d:Nat} (h:d<10):Lib.digitVal (UInt8.ofNat (48+d))=some d:=by
 have h1:(UInt8.ofNat (48+d)).toNat=48+d:=by
  rw [UInt8.toNat_ofNat'];omega
 unfold Lib.digitVal
 rw [h1,if_pos (by omega)]
 simp
theorem sU:∀ {l m:cV} {acc n:Nat},Lib.decFrom acc l=some n→Lib.decFrom acc (l++m)=Lib.decFrom n m
 | [],m,acc,n,h=>by cases h;rfl
 | b::l,m,acc,n,h=>by
  have e:∀ l':cV,Lib.decFrom acc (b::l')=match Lib.digitVal b with|some d=>Lib.decFrom (acc*10+d) l'|none=>none:=fun _=>rfl
  rw [List.cons_append,e]
  rw [e] at h
  cases hb:Lib.digitVal b with
  | none=>rw [hb] at h;cases h
  | some d =>
   rw [hb] at h
   exact sU h
theorem Hx (u:Nat):Lib.decFrom 0 (Lib.decDigits u)=some u:=by
 induction u using Nat.strongRecOn with
 | _ u ih =>
  rw [Lib.decDigits]
  by_cases h:u<10
  ·rw [dif_pos h]
   unfold Lib.decFrom
   rw [Ex h]
   simp [Lib.decFrom]
  ·rw [dif_neg h,sU (ih (u / 10) (by omega))]
   unfold Lib.decFrom
   rw [Ex (Nat.mod_lt _ (by decide))]
   simp only [Lib.decFrom]
   congr 1
   omega
theorem Ad (u:Nat):∀ b∈Lib.decDigits u,48≤b.toNat∧b.toNat≤57:=by
 induction u using Nat.strongRecOn with
 | _ u ih =>
  intro b hb
  have key:∀ d,d<10→b=UInt8.ofNat (48+d)→48≤b.toNat∧b.toNat≤57:=fun d hd e=>by
   rw [e,UInt8.toNat_ofNat'];omega
  rw [Lib.decDigits] at hb
  by_cases h:u<10
  ·rw [dif_pos h] at hb
   exact key u h (by simpa using hb)
  ·rw [dif_neg h] at hb
   rcases List.mem_append.1 hb with hb|hb
   ·exact ih (u / 10) (by omega) b hb
   ·exact key (u % 10) (Nat.mod_lt _ (by decide)) (by simpa using hb)
theorem Hg (u:Nat):Lib.decDigits u≠[]:=by
 rw [Lib.decDigits]
 by_cases h:u<10
 ·rw [dif_pos h];simp
 ·rw [dif_neg h];simp
theorem GD (n:Int):Lib.atoi (Lib.itoa n)=some n:=by
 unfold Lib.itoa
 have hd:∀ u,Lib.decNat (Lib.decDigits u)=some u:=fun u=>by
  unfold Lib.decNat
  have h:=Hg u
  cases hl:Lib.decDigits u with
  | nil=>exact absurd hl h
  | cons a l=>rw [← hl,Hx];simp [hl]
 by_cases h:n<0
 ·rw [if_pos h]
  have e:Lib.atoi (45::Lib.decDigits n.natAbs)=(Lib.decNat (Lib.decDigits n.natAbs)).map fun (m:Nat)=>-(m:Int):=rfl
  rw [e,hd]
  simp only [Option.map_some]
  congr 1
  omega
 ·rw [if_neg h]
  cases hl:Lib.decDigits n.toNat with
  | nil=>exact absurd hl (Hg _)
  | cons a l =>
   have ha:=Ad n.toNat a (by rw [hl];simp)
   have h1:(a == 45)=false:=by
    rw [beq_eq_false_iff_ne];intro e;rw [e] at ha;exact absurd ha.1 (by decide)
   have h2:(a == 43)=false:=by
    rw [beq_eq_false_iff_ne];intro e;rw [e] at ha;exact absurd ha.1 (by decide)
   show (if (a == 45)=true then _ else if (a == 43)=true then _ else (Lib.decNat (a::l)).map fun (m:Nat)=>(m:Int))=_
   rw [h1,h2,← hl,hd,if_neg (by decide),if_neg (by decide)]
   simp only [Option.map_some]
   congr 1
   omega
theorem Bu (n:Int):∀ b∈Lib.itoa n,b.toNat=45∨48≤b.toNat∧b.toNat≤57:=by
 intro b hb
 unfold Lib.itoa at hb
 split at hb
 ·rcases List.mem_cons.1 hb with rfl|hb
  ·exact .inl rfl
  ·exact .inr (Ad _ b hb)
 ·exact .inr (Ad _ b hb)
theorem EU {u k:Nat} (h:u<10 ^ k) (hk:1≤k):(Lib.decDigits u).length≤k:=by
 induction k generalizing u with
 | zero=>omega
 | succ k ih =>
  rw [Lib.decDigits]
  by_cases h1:u<10
  ·rw [dif_pos h1];simp
  ·rw [dif_neg h1,List.length_append,List.length_singleton]
   have hk1:1≤k:=by
    by_cases hk0:k=0
    ·subst hk0;simp at h;omega
    ·omega
   have:=ih (u:=u / 10) (by rw [Nat.pow_succ] at h;omega) hk1
   omega
theorem wL {n:Int} {k:Nat} (h:n.natAbs<10 ^ k) (hk:1≤k):(Lib.itoa n).length≤k+1:=by
 unfold Lib.itoa
 split
 ·rw [List.length_cons]
  have:=EU h hk
  omega
 ·have:=EU (u:=n.toNat) (by omega) hk
  omega
end Go.P
namespace Go.P
open Go Go.K Ieee
abbrev PF:=Nat × Nat
abbrev Mz (a b:Nat):Option Nat:=FloatKind.f64.format.add a b
abbrev NO (a b:Nat):Option Nat:=FloatKind.f64.format.sub a b
def Gw (a b:PF):Option PF:=match Mz a.1 b.1,Mz a.2 b.2 with|some r,some i=>some (r,i)|_,_=>none
def II (a b:PF):Option PF:=match NO a.1 b.1,NO a.2 b.2 with|some r,some i=>some (r,i)|_,_=>none
def dW (h:Nat) (v:List PF) (i:Nat):Option (List PF) :=
 if i &&& h=0 then
  match Gw (v.getD i (0,0)) (v.getD (i+h) (0,0)),II (v.getD i (0,0)) (v.getD (i+h) (0,0)) with
  | some x,some y=>some ((v.set i x).set (i+h) y)
  | _,_=>none
 else some v
def oE (h:Nat) (v:List PF):Nat→Option (List PF)
 | 0=>some v
 | n+1=>(oE h v n).bind fun u=>dW h u n
def cW (v:List PF):Nat→Option (List PF)
 | 0=>some v
 | n+1=>(cW v n).bind fun u=>oE (2 ^ n) u 8
theorem Kj {h i:Nat} {v u:List PF} (e:dW h v i=some u):u.length=v.length:=by
 unfold dW at e
 split at e
 ·split at e
  ·obtain rfl:=Option.some.inj e;simp
  ·cases e
 ·obtain rfl:=Option.some.inj e;rfl
theorem qW {h:Nat} {v:List PF}:∀ {n:Nat} {u:List PF},oE h v n=some u→u.length=v.length
 | 0,u,e=>by obtain rfl:=Option.some.inj e;rfl
 | n+1,u,e=>by
  obtain ⟨x,h1,h2⟩:=Option.bind_eq_some_iff.1 e
  rw [Kj h2,qW h1]
theorem CX {h:Nat} {v:List PF}:∀ {n m:Nat} {u:List PF},oE h v n=some u→m≤n→∃ x,oE h v m=some x
 | 0,m,u,e,hm=>by obtain rfl:m=0:=(by omega);exact ⟨v,rfl⟩
 | n+1,m,u,e,hm=>by
  obtain ⟨x,h1,h2⟩:=Option.bind_eq_some_iff.1 e
  by_cases hmn:m=n+1
  ·subst hmn;exact ⟨u,e⟩
  ·exact CX h1 (by omega)
theorem yY {h n:Nat} {v u:List PF} (e:oE h v 8=some u) (hn:n<8) {x:List PF} (hx:oE h v n=some x):∃ y,dW h x n=some y∧oE h v (n+1)=some y:=by
 obtain ⟨y,hy⟩:=CX e (show n+1≤8 by omega)
 have h2:=hy
 unfold oE at h2
 rw [hx] at h2
 exact ⟨y,h2,hy⟩
theorem BY {v:List PF}:∀ {n m:Nat} {u:List PF},cW v n=some u→m≤n→∃ x,cW v m=some x
 | 0,m,u,e,hm=>by obtain rfl:m=0:=(by omega);exact ⟨v,rfl⟩
 | n+1,m,u,e,hm=>by
  obtain ⟨x,h1,h2⟩:=Option.bind_eq_some_iff.1 e
  by_cases hmn:m=n+1
  ·subst hmn;exact ⟨u,e⟩
  ·exact BY h1 (by omega)
theorem yK {n:Nat} {v u:List PF} (e:cW v 3=some u) (hn:n<3) {x:List PF} (hx:cW v n=some x):∃ y,oE (2 ^ n) x 8=some y∧cW v (n+1)=some y:=by
 obtain ⟨y,hy⟩:=BY e (show n+1≤3 by omega)
 have h2:=hy
 unfold cW at h2
 rw [hx] at h2
 exact ⟨y,h2,hy⟩
theorem qC {v:List PF}:∀ {n:Nat} {u:List PF},cW v n=some u→u.length=v.length
 | 0,u,e=>by obtain rfl:=Option.some.inj e;rfl
 | n+1,u,e=>by
  obtain ⟨x,h1,h2⟩:=Option.bind_eq_some_iff.1 e
  rw [qW h2,qC h1]
def gV:List Nat:=[0,4,6,2,3,7,5,1]
def AI (v:List PF):Option (List PF):=(cW v 3).map fun u=>gV.map fun k=>u.getD k (0,0)
def Be (a:Nat):Option Int:=match (lU a).toInt .zero with|some i=>if -9223372036854775808≤i∧i≤9223372036854775807 then some i else none|none=>none
theorem nM {a:Nat} {i:Int} (h:Be a=some i):(lU a).toInt .zero=some i∧(-9223372036854775808≤i∧i≤9223372036854775807):=by
 unfold Be at h
 split at h
 ·rename_i j hj
  split at h
  ·rename_i hb
   obtain rfl:=Option.some.inj h
   exact ⟨hj,hb⟩
  ·cases h
 ·cases h
def qS (b:List Int) (r:Nat):List PF:=(List.range 8).map fun i=>(FN (b.getD (8*r+i) 0),FN (b.getD (8*r+8+i) 0))
def iQ (r:Nat) (u:List PF) (o:List Int):Nat→Option (List Int)
 | 0=>some o
 | k+1=>(iQ r u o k).bind fun o=>match Be (u.getD k (0,0)).1,Be (u.getD k (0,0)).2 with
  | some x,some y=>some ((o.set (8*k+r) x).set (8*k+r+1) y)
  | _,_=>none
def iM (b:List Int):Nat→Option (List Int)
 | 0=>some (List.replicate 64 0)
 | n+1=>(iM b n).bind fun o=>(AI (qS b (2*n))).bind fun u=>iQ (2*n) u o 8
theorem nH {r:Nat} {u:List PF} {o:List Int}:∀ {n:Nat} {x:List Int},iQ r u o n=some x→x.length=o.length
 | 0,x,e=>by obtain rfl:=Option.some.inj e;rfl
 | n+1,x,e=>by
  obtain ⟨y,h1,h2⟩:=Option.bind_eq_some_iff.1 e
  split at h2
  ·obtain rfl:=Option.some.inj h2
   simp [nH h1]
  ·cases h2
theorem yF {b:List Int}:∀ {n:Nat} {x:List Int},iM b n=some x→x.length=64
 | 0,x,e=>by obtain rfl:=Option.some.inj e;rfl
 | n+1,x,e=>by
  obtain ⟨y,h1,h2⟩:=Option.bind_eq_some_iff.1 e
  obtain ⟨u,h3,h4⟩:=Option.bind_eq_some_iff.1 h2
  rw [nH h4,yF h1]
def Dd (c:List Int) (r:Nat):Nat→List PF
 | 0=>List.replicate 8 (0,0)
 | k+1=>(Dd c r k).set (gV.getD k 0) (FN (c.getD (8*r+k) 0),FN (c.getD (8*r+8+k) 0))
theorem uC (c:List Int) (r:Nat):∀ n,(Dd c r n).length=8
 | 0=>rfl
 | n+1=>by simp [Dd,uC c r n]
def fH (b:List Int):Nat→Option (List Int)
 | 0=>some (List.replicate 64 0)
 | n+1=>(fH b n).bind fun o=>(cW (Dd b (2*n) 8) 3).bind fun u=>iQ (2*n) u o 8
theorem wN {b:List Int}:∀ {n:Nat} {x:List Int},fH b n=some x→x.length=64
 | 0,x,e=>by obtain rfl:=Option.some.inj e;rfl
 | n+1,x,e=>by
  obtain ⟨y,h1,h2⟩:=Option.bind_eq_some_iff.1 e
  obtain ⟨u,h3,h4⟩:=Option.bind_eq_some_iff.1 h2
  rw [nH h4,wN h1]
theorem vE {n k:Nat} (h:n≠0):(n*2 ^ k).log2=n.log2+k:=by
 have h0:n*2 ^ k≠0:=Nat.ne_of_gt (Nat.mul_pos (by omega) (Nat.two_pow_pos _))
 rw [Nat.log2_eq_iff h0]
 have h1:=Nat.mul_le_mul_right (2 ^ k) (Nat.log2_self_le h)
 have h2:=Nat.mul_lt_mul_of_pos_right (Nat.lt_log2_self (n:=n)) (Nat.two_pow_pos k)
 rw [← Nat.pow_add] at h1 h2
 exact ⟨h1,by rw [show n.log2+k+1=n.log2+1+k by omega];exact h2⟩
theorem C7 {s:Bool} {N:Nat} {p:Int} (h0:0<N) (hN:N<2 ^ 53) (hp:p≤0):double.nearest s (N*2 ^ (-p).toNat) p=double.word s ((N.log2+1022)*2 ^ 52+N*2 ^ (52-N.log2)):=by
 have hl:N.log2≤52:=by have:=(Nat.log2_lt (by omega)).2 hN;omega
 have hlm:(N*2 ^ (-p).toNat).log2=N.log2+(-p).toNat:=by rw [vE (by omega)]
 have hm0:N*2 ^ (-p).toNat≠0:=Nat.ne_of_gt (Nat.mul_pos h0 (Nat.two_pow_pos _))
 have hlast:max (p+((N*2 ^ (-p).toNat).log2:Int)-double.fractionBits) double.leastPlace=(N.log2:Int)-52:=by
  rw [hlm]
  simp only [double,Format.leastPlace]
  omega
 have hkept:Toward.even.cut s ((N*2 ^ (-p).toNat) <<< (p-((N.log2:Int)-52)).toNat) (((N.log2:Int)-52)-p).toNat=N*2 ^ (52-N.log2):=by
  rw [Nat.shiftLeft_eq,Nat.mul_assoc,← Nat.pow_add]
  by_cases hc:(N.log2:Int)-52≤p
  ·rw [show (((N.log2:Int)-52)-p).toNat=0 by omega,show (-p).toNat+(p-((N.log2:Int)-52)).toNat=52-N.log2 by omega]
   simp [Toward.cut,Nat.mod_one]
  ·obtain ⟨d,hd⟩:∃ d,(((N.log2:Int)-52)-p).toNat=d:=⟨_,rfl⟩
   rw [show (-p).toNat+(p-((N.log2:Int)-52)).toNat=52-N.log2+d by omega,hd,Nat.pow_add,← Nat.mul_assoc]
   unfold Toward.cut
   have hdl:d≤(N*2 ^ (52-N.log2)*2 ^ d).log2+2:=by
    rw [vE (Nat.ne_of_gt (Nat.mul_pos h0 (Nat.two_pow_pos _)))];omega
   simp only [Nat.min_eq_left hdl,Nat.shiftLeft_eq,Nat.one_mul,Nat.mul_mod_left,Nat.mul_div_cancel _ (Nat.two_pow_pos d)]
   simp
 unfold Format.nearest
 rw [if_neg hm0,hlast]
 simp only [hkept]
 have e1:((N.log2:Int)-52-double.leastPlace).toNat=N.log2+1022:=by simp only [double,Format.leastPlace];omega
 have hk:N*2 ^ (52-N.log2)<2 ^ 53:=by
  have h1:N<2 ^ (N.log2+1):=Nat.lt_log2_self
  have h2:=Nat.mul_lt_mul_of_pos_right h1 (Nat.two_pow_pos (52-N.log2))
  rw [← Nat.pow_add,show N.log2+1+(52-N.log2)=53 by omega] at h2
  exact h2
 rw [e1,show double.binade=2 ^ 52 from rfl,show double.infRung=2047*2 ^ 52 from rfl,Nat.min_eq_left (by omega)]
def Q8 (d:Datum) (a:Int):Prop:=∃ s m p,d=.number s m p∧p≤0∧sg s m=a*2 ^ (-p).toNat
theorem G2 (a:Int):sg (decide (a<0)) a.natAbs=a:=by
 unfold sg
 by_cases h:a<0<;>simp [h]<;>omega
theorem Jf (s:Bool) (m n:Nat):sg s (m*n)=sg s m*n:=by cases s<;>simp [sg,Int.neg_mul]
theorem pV {a:Int} (ha:-9007199254740992<a∧a<9007199254740992):∃ m p,lU (FN a)=.number (decide (a<0)) m p∧p≤0∧sg (decide (a<0)) m=a*2 ^ (-p).toNat:=by
 by_cases h0:a=0
 ·subst h0
  exact ⟨0,-1074,by decide +kernel,by decide,by rw [Int.zero_mul];rfl⟩
 ·obtain ⟨N,hN⟩:∃ N,a.natAbs=N:=⟨_,rfl⟩
  have hpos:0<N:=by omega
  have hlt:N<2 ^ 53:=by omega
  have hl:N.log2≤52:=by have:=(Nat.log2_lt (by omega)).2 hlt;omega
  have hw:=C7 (s:=decide (a<0)) (p:=0) hpos hlt (by decide)
  have hFN:FN a=double.word (decide (a<0)) ((N.log2+1022)*2 ^ 52+N*2 ^ (52-N.log2)):=by
   rw [← hw]
   show double.nearest (decide (a<0)) a.natAbs 0=_
   rw [hN];simp
  have hk1:N*2 ^ (52-N.log2)<2 ^ 53:=by
   have h1:N<2 ^ (N.log2+1):=Nat.lt_log2_self
   have h2:=Nat.mul_lt_mul_of_pos_right h1 (Nat.two_pow_pos (52-N.log2))
   rw [← Nat.pow_add,show N.log2+1+(52-N.log2)=53 by omega] at h2
   exact h2
  have hk2:2 ^ 52≤N*2 ^ (52-N.log2):=by
   have h1:2 ^ N.log2≤N:=Nat.log2_self_le (by omega)
   have h2:=Nat.mul_le_mul_right (2 ^ (52-N.log2)) h1
   rw [← Nat.pow_add,show N.log2+(52-N.log2)=52 by omega] at h2
   exact h2
  obtain ⟨fr,hfr⟩:∃ fr,N*2 ^ (52-N.log2)=2 ^ 52+fr:=⟨N*2 ^ (52-N.log2)-2 ^ 52,by omega⟩
  refine ⟨N*2 ^ (52-N.log2),(N.log2:Int)-52,?_,by omega,?_⟩
  ·show double.read (FN a)=_
   rw [hFN,hfr]
   have hsw:double.signWeight=2 ^ 63:=rfl
   have hr:∀ s:Bool,((double.word s ((N.log2+1022)*2 ^ 52+(2 ^ 52+fr))) / 2 ^ 63 % 2 == 1)=s:=by
    intro s
    cases s
    ·show (((N.log2+1022)*2 ^ 52+(2 ^ 52+fr)) / 2 ^ 63 % 2 == 1)=false
     rw [Nat.div_eq_of_lt (by omega)];rfl
    ·show ((2 ^ 63+((N.log2+1022)*2 ^ 52+(2 ^ 52+fr))) / 2 ^ 63 % 2 == 1)=true
     rw [show (2 ^ 63+((N.log2+1022)*2 ^ 52+(2 ^ 52+fr))) / 2 ^ 63=1 by omega];rfl
   have hm:∀ s:Bool,(double.word s ((N.log2+1022)*2 ^ 52+(2 ^ 52+fr))) % 2 ^ 63=(N.log2+1023)*2 ^ 52+fr:=by
    intro s
    cases s
    ·show ((N.log2+1022)*2 ^ 52+(2 ^ 52+fr)) % 2 ^ 63=_
     omega
    ·show (2 ^ 63+((N.log2+1022)*2 ^ 52+(2 ^ 52+fr))) % 2 ^ 63=_
     omega
   unfold Format.read
   simp only [hsw,hm,show double.binade=2 ^ 52 from rfl,show double.infRung=2047*2 ^ 52 from rfl]
   rw [if_neg (by omega),if_pos (by omega),show ((N.log2+1023)*2 ^ 52+fr) % 2 ^ 52=fr by omega,show ((N.log2+1023)*2 ^ 52+fr) / 2 ^ 52-1=N.log2+1022 by omega]
   rw [hr,show double.leastPlace+((N.log2+1022:Nat):Int)=(N.log2:Int)-52 by simp only [double,Format.leastPlace];omega]
  ·rw [Jf,← hN,G2,hN,show (-((N.log2:Int)-52)).toNat=52-N.log2 by omega]
   simp
theorem Kp {s:Bool} {m:Nat} {p a:Int} (hp:p≤0) (h:sg s m=a*2 ^ (-p).toNat) (ha:-9007199254740992<a∧a<9007199254740992) (h0:m=0→s=false):double.write (.number s m p)=FN a:=by
 show double.nearest s m p=double.nearest (decide (a<0)) a.natAbs 0
 have hpp:(0:Int)<2 ^ (-p).toNat:=by
  have:=Nat.two_pow_pos (-p).toNat
  rw [show ((2:Int) ^ (-p).toNat)=((2 ^ (-p).toNat:Nat):Int) by simp];omega
 by_cases hm:m=0
 ·have:a=0:=by
   subst hm
   rw [h0 rfl] at h
   simp only [sg] at h
   rcases Int.mul_eq_zero.1 h.symm with h|h
   ·exact h
   ·omega
  subst this hm
  rw [h0 rfl];simp [Format.nearest]
 ·have hsm:sg s m≠0:=by cases s<;>simp [sg,hm]
  have ha0:a≠0:=fun e=>by rw [e,Int.zero_mul] at h;exact hsm h
  have hs:s=decide (a<0):=by
   have hsgn:(sg s m<0) ↔ a<0:=by
    rw [h]
    constructor
    ·intro h1
     rcases Int.lt_or_le a 0 with h2|h2
     ·exact h2
     ·have:=Int.mul_nonneg h2 (Int.le_of_lt hpp);omega
    ·intro h1;exact Int.mul_neg_of_neg_of_pos h1 hpp
   cases s
   ·simp [sg] at hsgn
    simp;omega
   ·simp only [sg,if_true] at hsgn
    have:a<0:=hsgn.1 (by omega)
    simp [this]
  have hmm:m=a.natAbs*2 ^ (-p).toNat:=by
   have h1:=congrArg Int.natAbs h
   rw [Int.natAbs_mul] at h1
   have h2:(sg s m).natAbs=m:=by cases s<;>simp [sg]
   rw [h2] at h1
   rw [h1]
   congr 1
  rw [hmm,hs,C7 (by omega) (by omega) hp]
  have:=C7 (s:=decide (a<0)) (N:=a.natAbs) (p:=0) (by omega) (by omega) (by decide)
  simp only [Int.neg_zero,Int.toNat_zero,Nat.pow_zero,Nat.mul_one] at this
  exact this.symm
theorem LF {p a b:Int} {x:Nat} {d:Datum} (hp:p≤0) (h:sg (decide (a<0)) x=a*2 ^ (-p).toNat) (hd:Q8 d b) (hab:-9007199254740992<a+b∧a+b<9007199254740992) :
  ((Datum.number (decide (a<0)) x p).sum d).map double.write=some (FN (a+b)):=by
 obtain ⟨t,n,q,rfl,hq,hb⟩:=hd
 simp only [Datum.sum,Option.map_some,Option.some.injEq,rZ]
 have e1:sg (decide (a<0)) x*2 ^ (p-min p q).toNat=a*2 ^ (-min p q).toNat:=by
  rw [h,Int.mul_assoc,← Int.pow_add];congr 2;omega
 have e2:sg t n*2 ^ (q-min p q).toNat=b*2 ^ (-min p q).toNat:=by
  rw [hb,Int.mul_assoc,← Int.pow_add];congr 2;omega
 rw [e1,e2,← Int.add_mul]
 have hpp:(0:Int)<2 ^ (-min p q).toNat:=by
  have:=Nat.two_pow_pos (-min p q).toNat
  rw [show ((2:Int) ^ (-min p q).toNat)=((2 ^ (-min p q).toNat:Nat):Int) by simp];omega
 refine Kp (by omega) ?_ hab ?_
 ·split
  ·rename_i h0
   rw [h0]
   cases hs:(decide (a<0) && t)<;>rfl
  ·rename_i h0
   exact G2 _
 ·intro h0
  have h1:(a+b)*2 ^ (-min p q).toNat=0:=by omega
  rw [if_pos h1]
  rcases Int.mul_eq_zero.1 h1 with h2|h2
  ·by_cases hlt:a<0
   ·have hb0:0<b:=by omega
    cases t
    ·simp
    ·exfalso
     have hqq:(0:Int)<2 ^ (-q).toNat:=by
      have:=Nat.two_pow_pos (-q).toNat
      rw [show ((2:Int) ^ (-q).toNat)=((2 ^ (-q).toNat:Nat):Int) by simp];omega
     have:=Int.mul_pos hb0 hqq
     rw [← hb] at this
     have h9:sg true n=-(n:Int):=rfl
     omega
   ·simp [hlt]
  ·omega
theorem Gn {a b:Int} (ha:-9007199254740992<a∧a<9007199254740992) (hb:-9007199254740992<b∧b<9007199254740992) (h:-9007199254740992<a+b∧a+b<9007199254740992):FloatKind.f64.format.add (FN a) (FN b)=some (FN (a+b)):=by
 obtain ⟨m,p,h1,h2,h3⟩:=pV ha
 obtain ⟨n,q,g1,g2,g3⟩:=pV hb
 show ((lU (FN a)).sum (lU (FN b))).map double.write=_
 rw [h1]
 exact LF h2 h3 ⟨_,_,_,g1,g2,g3⟩ h
theorem HV {a b:Int} (ha:-9007199254740992<a∧a<9007199254740992) (hb:-9007199254740992<b∧b<9007199254740992) (h:-9007199254740992<a-b∧a-b<9007199254740992):FloatKind.f64.format.sub (FN a) (FN b)=some (FN (a-b)):=by
 obtain ⟨m,p,h1,h2,h3⟩:=pV ha
 obtain ⟨n,q,g1,g2,g3⟩:=pV hb
 show ((lU (FN a)).sum (lU (FN b)).opposite).map double.write=_
 rw [h1,g1]
 refine LF (b:=-b) h2 h3 ⟨_,_,_,rfl,g2,?_⟩ h
 rw [Int.neg_mul,← g3]
 cases (decide (b<0))<;>simp [sg]
end Go.P
