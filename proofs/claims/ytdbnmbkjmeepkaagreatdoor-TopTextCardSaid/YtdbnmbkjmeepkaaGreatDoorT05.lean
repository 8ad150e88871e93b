/- A part of the proof of the card of TopText; no condition. -/
import Derived.Test.YtdbnmbkjmeepkaaGreatDoorT03
import Derived.Maps.AppendAt
import Derived.OpenShut
import Derived.Room.AppendUpon
namespace Go.K
open Go Go.RowKit
inductive CK where
 | i (q:IntKind)
 | b
 | c
def Oj (P:Program) (f:TypeId→Option (List CK)):Nat→List Field→Option (List CK)
 | _,[]=>some []
 | off,fd::fs=>cond (fd.name != "_" && Nat.beq fd.offset off) ((f fd.type).bind fun l=>cond (Nat.beq l.length (P.cellsOf fd.type)) ((Oj P f (off+l.length) fs).map (l++·)) none) none
def QO (P:Program):Nat→TypeId→Option (List CK)
 | 0,_=>none
 | d+1,t=>match P.underlying t with
  | some .bool=>some [.b]
  | some (.int q)=>some [.i q]
  | some (.complex .f64)=>some [.c]
  | some (.array n e)=>(QO P d e).bind fun l=>cond (Nat.beq l.length (P.cellsOf e)) (some (List.replicate n l).flatten) none
  | some (.struct fs)=>cond (P.stoodInHeld t) none (Oj P (QO P d) 0 fs.toList)
  | _=>none
def eqv (P:Program) (t:TypeId):Option (List CK):=cond (P.eqGuardType P.depth t) none (match P.underlying t with
 | some (.array _ _)|some (.struct _)=>QO P 5 t
 | _=>none)
section
variable {P:Program}
variable {ρ:Fr} {w:World} {dst:Option Nat} {ty:TypeId} {pos:String} {af:Array Edge} {gd:Option (Nat × Bool)} {x y:Operand} {t u:TypeId}
end
structure cK where
 fp:List Nat
 holds:World→Prop
 keep:∀ {S w w'},holds w→Ext S w w'→(∀ s∈S,s ∉ fp)→holds w'
 lt:∀ {w},holds w→∀ s∈fp,s<w.heap.size
def Rb (b:Nat) (e:TypeId) (cs:Array Value):cK:=⟨[b],fun w=>cL w b e cs,fun h hE hS=>h.ext hE (fun hb=>hS b hb (by simp)),fun h s hs=>by simp at hs;subst hs;exact h.lt⟩
def Ro (e:TypeId) (sz:Nat) (a:Option Addr) (n cap:Nat) (vs:List Value):cK:=⟨dI a,fun w=>Own w e sz a n cap vs,fun h hE hS=>h.ext hE hS,fun h s hs=>h.lt s hs⟩
def Rs (a:Option Addr) (vs:List Value):cK:=⟨if vs=[] then [] else dI a,fun w=>cI w a vs,fun {S w w'} h hE hS=>by
  by_cases hv:vs=[]
  ·subst hv;exact .nil
  ·exact h.ext hE (fun s hs hb=>hS s hs (by rw [if_neg hv];exact hb)),fun {w} h s hs=>by
  by_cases hv:vs=[]
  ·rw [if_pos hv] at hs;cases hs
  ·rw [if_neg hv] at hs;exact h.lt hv s hs⟩
def cK.and (r s:cK):cK:=⟨r.fp++s.fp,fun w=>r.holds w∧s.holds w,fun h hE hS=>⟨r.keep h.1 hE (fun x hx hb=>hS x hx (by simp [hb])),s.keep h.2 hE (fun x hx hb=>hS x hx (by simp [hb]))⟩,
 fun h x hx=>by rcases List.mem_append.1 hx with h1|h1;exact r.lt h.1 x h1;exact s.lt h.2 x h1⟩
def Dj (r s:cK):Prop:=∀ x∈r.fp,x ∉ s.fp
theorem Dj.symm {r s:cK} (h:Dj r s):Dj s r:=fun x hx hr=>h x hr hx
structure Hp (S:List Nat) (W w:World) (H:List cK):Prop where
 ext:Ext S W w
 all:∀ r∈H,r.holds w
 new:∀ r∈H,∀ x∈r.fp,x∈S∨W.heap.size≤x
 apart:H.Pairwise Dj
structure jA (r r':cK) (w w':World):Prop where
 ext:Ext r.fp w w'
 holds:r'.holds w'
 fp:∀ x∈r'.fp,x∈r.fp∨w.heap.size≤x
structure iA (r:cK) (w w':World):Prop where
 ext:Ext [] w w'
 holds:r.holds w'
 fp:∀ x∈r.fp,w.heap.size≤x
section
variable {S:List Nat} {W w w':World} {H:List cK} {r r':cK} {i:Nat}
theorem Hp.start (W:World):Hp [] W W []:=⟨.refl,by simp,by simp,.nil⟩
theorem Hp.fI {r:cK} {W:World} (h:r.holds W):Hp r.fp W W [r]:=⟨.refl,by simpa using h,by intro x hx y hy;simp at hx;subst hx;exact .inl hy,by simp⟩
theorem Hp.at (i:Nat) (h:Hp S W w H) (hi:H[i]?=some r):r.holds w:=h.all r (List.mem_of_getElem? hi)
theorem Hp.b (i:Nat) (h:Hp S W w H) {b:Nat} {e:TypeId} {cs:Array Value} (hi:H[i]?=some (Rb b e cs)):cL w b e cs:=h.at i hi
theorem Hp.o (i:Nat) (h:Hp S W w H) {e:TypeId} {sz:Nat} {a:Option Addr} {n cap:Nat} {vs:List Value} (hi:H[i]?=some (Ro e sz a n cap vs)):Own w e sz a n cap vs:=h.at i hi
theorem Hp.s (i:Nat) (h:Hp S W w H) {a:Option Addr} {vs:List Value} (hi:H[i]?=some (Rs a vs)):cI w a vs:=h.at i hi
theorem Hp.size (h:Hp S W w H):W.heap.size≤w.heap.size:=h.ext.size
theorem Hp.aH (h:Hp S W w H) (hE:Ext [] w w'):Hp S W w' H:=⟨h.ext.bO hE,fun r hr=>r.keep (h.all r hr) hE (by simp),h.new,h.apart⟩
theorem Hp.nu (h:Hp S W w H) (hN:iA r w w'):Hp S W w' (H++[r]):=by
 have h0:=h.aH hN.ext
 refine ⟨h0.ext,fun x hx=>?_,fun x hx y hy=>?_,?_⟩
 ·rcases List.mem_append.1 hx with h1|h1
  ·exact h0.all x h1
  ·simp at h1;subst h1;exact hN.holds
 ·rcases List.mem_append.1 hx with h1|h1
  ·exact h.new x h1 y hy
  ·simp at h1;subst h1;exact .inr (Nat.le_trans h.size (hN.fp y hy))
 ·refine List.pairwise_append.2 ⟨h.apart,by simp,fun a ha b hb x hx hx'=>?_⟩
  simp at hb;subst hb
  have h1:=a.lt (h.all a ha) x hx
  have h2:=hN.fp x hx'
  omega
theorem KC {H:List cK} (h:H.Pairwise Dj) {i j:Nat} {r s:cK} (hi:H[i]?=some r) (hj:H[j]?=some s) (hne:i≠j):Dj r s:=by
 obtain ⟨hi1,hi2⟩:=List.getElem?_eq_some_iff.1 hi
 obtain ⟨hj1,hj2⟩:=List.getElem?_eq_some_iff.1 hj
 rw [List.pairwise_iff_getElem] at h
 rcases Nat.lt_or_gt_of_ne hne with hlt|hlt
 ·have:=h i j hi1 hj1 hlt;rw [hi2,hj2] at this;exact this
 ·have:=h j i hj1 hi1 hlt;rw [hi2,hj2] at this;exact this.symm
theorem Hp.dj (h:Hp S W w H) (i j:Nat) {r s:cK} (hi:H[i]?=some r) (hj:H[j]?=some s) (hne:i≠j):Dj r s:=KC h.apart hi hj hne
theorem Hp.up (i:Nat) (h:Hp S W w H) (hi:H[i]?=some r) (hU:jA r r' w w'):Hp S W w' (H.set i r'):=by
 have hlt:i<H.length:=(List.getElem?_eq_some_iff.1 hi).1
 have hget:H[i]=r:=(List.getElem?_eq_some_iff.1 hi).2
 have hmem:∀ x∈H.set i r',x=r'∨∃ j,j≠i∧H[j]?=some x:=by
  intro x hx
  obtain ⟨j,hj⟩:=List.mem_iff_getElem?.1 hx
  by_cases hij:i=j
  ·subst hij;rw [List.getElem?_set_self hlt] at hj;cases hj;exact .inl rfl
  ·rw [List.getElem?_set_ne hij] at hj;exact .inr ⟨j,fun e=>hij e.symm,hj⟩
 refine ⟨h.ext.trans hU.ext (fun t ht=>h.new r (List.mem_of_getElem? hi) t ht),fun x hx=>?_,fun x hx y hy=>?_,?_⟩
 ·rcases hmem x hx with rfl|⟨j,hj,hxj⟩
  ·exact hU.holds
  ·exact x.keep (h.at j hxj) hU.ext (fun s hs hsx=>h.dj i j hi hxj (Ne.symm hj) s hs hsx)
 ·rcases hmem x hx with rfl|⟨j,hj,hxj⟩
  ·rcases hU.fp y hy with h1|h1
   ·exact h.new r (List.mem_of_getElem? hi) y h1
   ·exact .inr (Nat.le_trans h.size h1)
  ·exact h.new x (List.mem_of_getElem? hxj) y hy
 ·have dj:∀ (j:Nat) (s:cK),j≠i→H[j]?=some s→Dj r' s:=fun j s hj hs x hx hxs=>by
   rcases hU.fp x hx with h1|h1
   ·exact h.dj i j hi hs (Ne.symm hj) x h1 hxs
   ·have:=s.lt (h.at j hs) x hxs;omega
  rw [List.pairwise_iff_getElem]
  intro a b ha hb hab
  simp only [List.length_set] at ha hb
  by_cases hai:i=a
  ·subst hai
   rw [List.getElem_set_self,List.getElem_set_ne (by omega)]
   exact dj b _ (by omega) (List.getElem?_eq_getElem hb)
  ·rw [List.getElem_set_ne hai]
   by_cases hbi:i=b
   ·subst hbi
    rw [List.getElem_set_self]
    exact (dj a _ (by omega) (List.getElem?_eq_getElem ha)).symm
   ·rw [List.getElem_set_ne hbi]
    exact h.dj a b (List.getElem?_eq_getElem ha) (List.getElem?_eq_getElem hb) (by omega)
theorem Hp.sub {H':List cK} (h:Hp S W w H) (hs:H'.Sublist H):Hp S W w H':=⟨h.ext,fun r hr=>h.all r (hs.mem hr),fun r hr=>h.new r (hs.mem hr),h.apart.sublist hs⟩
theorem Hp.take (k:Nat) (h:Hp S W w H):Hp S W w (H.take k):=h.sub (List.take_sublist k H)
theorem Hp.del (i:Nat) (h:Hp S W w H):Hp S W w (H.eraseIdx i):=h.sub (List.eraseIdx_sublist H i)
theorem Hp.swap {H':List cK} (h:Hp S W w H) (hs:H'.Perm H):Hp S W w H':=⟨h.ext,fun r hr=>h.all r (hs.mem_iff.1 hr),fun r hr=>h.new r (hs.mem_iff.1 hr),(hs.pairwise_iff (fun h=>Dj.symm h)).2 h.apart⟩
theorem Hp.as (i:Nat) (h:Hp S W w H) (hi:H[i]?=some r) (hf:∀ x∈r'.fp,x∈r.fp) (hh:r.holds w→r'.holds w):Hp S W w (H.set i r') :=
 h.up i hi ⟨.refl,hh (h.at i hi),fun x hx=>.inl (hf x hx)⟩
theorem Hp.oA (h:Hp [] W w H) (i:Nat) (hi:H[i]?=some r):iA r W w:=⟨h.ext,h.at i hi,fun x hx=>by rcases h.new r (List.mem_of_getElem? hi) x hx with h1|h1;cases h1;exact h1⟩
theorem iA.tY {e:TypeId} {sz:Nat}:iA (Ro e sz none 0 0 []) w w:=⟨.refl,Own.nil,fun _ hx=>by simp [Ro,dI] at hx⟩
theorem iA.Lp {a:Option Addr}:iA (Rs a []) w w:=⟨.refl,cI.nil,fun _ hx=>by simp [Rs] at hx⟩
theorem jA.refl (h:r.holds w):jA r r w w:=⟨.refl,h,fun _ hx=>.inl hx⟩
theorem jA.trans {r'':cK} {w'':World} (h:jA r r' w w') (h':jA r' r'' w' w''):jA r r'' w w'' :=
 ⟨h.ext.trans h'.ext (fun t ht=>h.fp t ht),h'.holds,fun x hx=>by
  rcases h'.fp x hx with h1|h1
  ·exact h.fp x h1
  ·exact .inr (Nat.le_trans h.ext.size h1)⟩
theorem iA.as (h:iA r w w') (hf:∀ x∈r'.fp,x∈r.fp) (hh:r.holds w'→r'.holds w'):iA r' w w':=⟨h.ext,hh h.holds,fun x hx=>h.fp x (hf x hx)⟩
theorem Hp.old (h:Hp [] W w H) {a:Option Addr} {vs:List Value} (hS:cI W a vs):cI w a vs:=hS.aH h.ext
theorem Hp.Of (h:Hp S W w H) {a:Option Addr} {vs:List Value} (hS:cI W a vs) (hd:∀ s∈S,s ∉ dI a):cI w a vs:=hS.ext h.ext hd
end
section
variable {P:Program} {N:Nat} {K:Fr→World→Prop} {ρ:Fr} {S:List Nat} {W w:World} {H:List cK}
variable {v:Value} {dst:Option Nat} {d:Nat} {ty:TypeId} {pos:String} {af:Array Edge} {gd:Option (Nat × Bool)} {x y z:Operand} {t u e:TypeId} {q:IntKind}
theorem aQ {zs:List Value} (hH:Hp S W w H) (hz:bH P t=some zs) (hd:Nat.blt d N=true)
  (hk:∀ w' b,Hp S W w' (H++[Rb b t zs.toArray])→K (dX ρ d (.pointer (some ⟨b,0,none⟩))) w'):kC P N ρ ⟨some d,.alloc t,ty,pos,af,gd⟩ w K :=
 dS hz hd (fun w' b hb hE hB _=>hk w' b (hH.nu ⟨hE,hB,fun x hx=>by simp [Rb] at hx;omega⟩))
theorem bI {cs:Array Value} (hH:Hp S W w H) (hx:ev ρ x=v) (hc:v.cells=cs) (hd:Nat.blt d N=true)
  (hk:∀ w' b,Hp S W w' (H++[Rb b t cs])→K (dX ρ d (.pointer (some ⟨b,0,none⟩))) w'):kC P N ρ ⟨some d,.box t x,ty,pos,af,gd⟩ w K :=
 Ca hx hc hd (fun w' b hb hE hB _=>hk w' b (hH.nu ⟨hE,hB,fun x hx=>by simp [Rb] at hx;omega⟩))
theorem cN {n:Nat} {ps:List (Nat × Operand)} {out:List Value} {sz:Nat} {g:Bool} {zs:List Value} (hH:Hp S W w H) (ht:sle P t=some (e,(g,sz))) (hz:bH P e=some zs) (hzl:zs.length=sz) (hc:fL ρ sz 0 ps=some out) (hn:ps.length=n)
  (hb:n*sz≤16777216) (hd:Nat.blt d N=true)
  (hk:∀ w' b,Hp S W w' (H++[Rb b e out.toArray])→K (dX ρ d (.slice (some ⟨b,0,none⟩) n n)) w'):kC P N ρ ⟨some d,.buildSlice t n ps.toArray,ty,pos,af,gd⟩ w K :=
 oK ht hz hzl hc hn hb hd (fun w' b hb hE hB _=>hk w' b (hH.nu ⟨hE,hB,fun x hx=>by simp [Rb] at hx;omega⟩))
theorem IY {kl kc:IntKind} {n sz bytes:Nat} {g:Bool} {zs:List Value} {i:Int} (hH:Hp S W w H) (ht:sle P t=some (e,(g,sz))) (hz:bH P e=some zs) (hby:gS P e=some bytes) (hzl:zs.length=sz)
  (hx:ev ρ x=.int kl i) (hy:ev ρ y=.int kc i) (hi:i=n) (hbig:bytes*n≤281474976710656) (h63:n≤maxLen) (hd:Nat.blt d N=true)
  (hk:∀ w' b,Hp S W w' (H++[Rb b e (madeCells zs.toArray (n*sz))])→K (dX ρ d (.slice (some ⟨b,0,none⟩) n n)) w'):kC P N ρ ⟨some d,.makeSlice t x y,ty,pos,af,gd⟩ w K :=
 Dl ht hz hby hzl hx hy hi hbig h63 hd (fun w' b hb hE hB _=>hk w' b (hH.nu ⟨hE,hB,fun x hx=>by simp [Rb] at hx;omega⟩))
theorem bZ (i:Nat) {a a2:Option Addr} {n cap m c2 sz bytes:Nat} {g:Bool} {zs vs news:List Value} (hH:Hp S W w H) (hi:H[i]?=some (Ro e sz a n cap vs)) (ht:sle P t=some (e,(g,sz))) (hz:bH P e=some zs) (hzl:zs.length=sz) (hby:gS P e=some bytes) (hsz:0<sz)
  (hx:ev ρ x=.slice a n cap) (hy:ev ρ y=.slice a2 m c2) (hS:cI w a2 news) (hl:news.length=m*sz) (h1:∀ u∈news,u.oneCell'=true)
  (hbig:(n+m)*bytes≤140737488355328) (h63:n+m≤maxLen) (hd:Nat.blt d N=true)
  (hk:∀ w' a' cap',Hp S W w' (H.set i (Ro e sz a' (n+m) cap' (vs++news)))→K (dX ρ d (.slice a' (n+m) cap')) w'):kC P N ρ ⟨some d,.call ⟨.builtin .append,#[x,y],#[t,t]⟩,ty,pos,af,gd⟩ w K :=
 kY ht hz hzl hby hsz hx (hH.o i hi) hy hS hl h1 hbig h63 hd (fun w' a' cap' hE hO hf _=>hk w' a' cap' (hH.up i hi ⟨hE,hO,hf⟩))
theorem jU (i:Nat) {a:Option Addr} {n cap sz o:Nat} {vs:List Value} (hH:Hp S W w H) (hi:H[i]?=some (Ro e sz a n cap vs)) (hx:ev ρ x=.pointer (some (At a o))) (hy:ev ρ y=v) (ho:o<n*sz) (h1:v.oneCell'=true) (ht:aF P t=some (false,1))
  (hk:∀ w',Hp S W w' (H.set i (Ro e sz a n cap (vs.set o v)))→K ρ w'):kC P N ρ ⟨none,.store t x y,ty,pos,af,gd⟩ w K :=
 vX hx hy (hH.o i hi) ho h1 ht (fun w' hE hO _=>hk w' (hH.up i hi ⟨hE,hO,fun _ hx=>.inl hx⟩))
theorem dR (i:Nat) {b o:Nat} {cs:Array Value} (hH:Hp S W w H) (hi:H[i]?=some (Rb b e cs)) (hx:ev ρ x=.pointer (some ⟨b,o,none⟩)) (hy:ev ρ y=v) (ho:o<cs.size) (h1:v.oneCell'=true) (ht:aF P t=some (false,1))
  (hk:∀ w',Hp S W w' (H.set i (Rb b e (cs.setIfInBounds o v)))→K ρ w'):kC P N ρ ⟨none,.store t x y,ty,pos,af,gd⟩ w K :=
 gC hx hy (hH.b i hi) ho h1 ht (fun w' hE hB _=>hk w' (hH.up i hi ⟨hE,hB,fun _ hx=>.inl hx⟩))
theorem cF (i:Nat) {b o:Nat} {cs:List Value} (hH:Hp S W w H) (hi:H[i]?=some (Rb b e cs.toArray)) (hx:ev ρ x=.pointer (some (At (some ⟨b,0,none⟩) o))) (hy:ev ρ y=v) (ho:o<cs.length) (h1:v.oneCell'=true) (ht:aF P t=some (false,1))
  (hk:∀ w',Hp S W w' (H.set i (Rb b e (cs.set o v).toArray))→K ρ w'):kC P N ρ ⟨none,.store t x y,ty,pos,af,gd⟩ w K :=
 Gr hx hy (hH.b i hi) ho h1 ht (fun w' hE hB _=>hk w' (hH.up i hi ⟨hE,hB,fun _ hx=>.inl hx⟩))
end
def zO (ops:List Oper) (j:Nat) (o:Oper) (m:Nat) (ds:List (Nat × Nat)) (tk:Bool):Bool :=
 (match o.guard with|none=>tk|some (g,_)=>(eH o).contains g && (oT ops.toArray g).isSome) && (match o.op with|.select ..=>false|_=>true) &&
 ds.all (fun p=>(eH o).contains p.1 && ((ops[p.1]?).bind (·.dst) == some p.2)) &&
 ops.zipIdx.all (fun (oi,i)=>match oi.dst with|none=>true|some d=>sM m d || (eH oi).contains j || (i == j))
def kQ (ops:List Oper):Nat→List Oper→List (Nat × List (Nat × Nat) × Bool)→Bool
 | _,[],[]=>true
 | j,o::l,(m,ds,tk)::r=>zO ops j o m ds tk && kQ ops (j+1) l r
 | _,_,_=>false
def cC (R:Nat→Value→World→Prop) (o:Oper) (tk:Bool):Prop:=∀ g want,o.guard=some (g,want)→∀ v w,R g v w→cond tk (v=.bool want) (v=.bool (!want)∨v=undef)
def Jb (P:Program) (N:Nat) (R:Nat→Value→World→Prop) (ρ0:Fr) (w0:World) (j:Nat) (o:Oper) (m:Nat) (ds:List (Nat × Nat)):Bool→Prop
 | true=>∀ w,Ext [] w0 w→lW R w ds (fun L=>∀ σ,kC P N (bQ L (oW m ρ0 σ)) o w (fun ρ' w'=>Ext [] w w'∧∃ v,ρ'=fK (bQ L (oW m ρ0 σ)) o.dst v∧R j v w'))
 | false=>∀ w,R j undef w
def iN (P:Program) (N:Nat) (R:Nat→Value→World→Prop) (ρ0:Fr) (w0:World):Nat→List Oper→List (Nat × List (Nat × Nat) × Bool)→Prop
 | j,o::l,(m,ds,tk)::r=>(cC R o tk∧Jb P N R ρ0 w0 j o m ds tk)∧iN P N R ρ0 w0 (j+1) l r
 | _,_,_=>True
theorem cC.none {R:Nat→Value→World→Prop} {dst:Option Nat} {op:Op} {ty:TypeId} {pos:String} {af:Array Edge} {tk:Bool}:cC R ⟨dst,op,ty,pos,af,none⟩ tk:=fun g want h=>by cases h
section
variable {P:Program} {N:Nat} {f:FuncId} {R:Value→World→Prop} {k:List Item} {ρ:Fr} {w:World}
theorem mZ {ops:Array Oper} {a:Act} (ha:sW N a ρ) {j d:Nat} (hj:oT ops j=some d) (hv:ρ d=undef):yielded ops a.tmps j=none:=by
 have h1:=ha.val d
 rw [hv] at h1
 unfold oT at hj
 unfold yielded
 rw [hj]
 simp only [Option.bind_some]
 cases ht:a.tmps[d]? with
 | none=>rfl
 | some v =>
  simp only [Array.getD_eq_getD_getElem?,ht,Option.getD_some] at h1
  subst h1
  rfl
theorem Ed {C:Fr→World→Prop} {ops:Array Oper} {l:List Oper} {dst:Option Nat} {op:Op} {ty:TypeId} {pos:String} {af:Array Edge} {j d:Nat} {want:Bool} (hj:oT ops j=some d) (hv:ev ρ (.tmp d)=undef)
  (hd':gI N dst=true) (h:WL P N C ops l (fK ρ dst undef) w):WL P N C ops (⟨dst,op,ty,pos,af,some (j,want)⟩::l) ρ w:=by
 refine ⟨fun a ha=>?_⟩
 unfold wpList
 rw [if_neg (by simp [Region.wanted,mZ ha hj hv])]
 exact h.out _ (ha.put hd' undef)
theorem rW {ops:List Oper}:∀ {l:List Oper} {r:List (Nat × List (Nat × Nat) × Bool)} {j i:Nat} {o:Oper},kQ ops j l r=true→l[i]?=some o→∃ m ds tk,r[i]?=some (m,ds,tk)∧zO ops (j+i) o m ds tk=true
 | [],_,_,_,_,_,h=>by simp at h
 | o'::l,[],j,i,o,h,_=>by simp [kQ] at h
 | o'::l,(m,ds,tk)::r,j,i,o,h,hi=>by
  simp only [kQ,Bool.and_eq_true] at h
  cases i with
  | zero=>simp at hi;subst hi;exact ⟨m,ds,tk,rfl,h.1⟩
  | succ i =>
   obtain ⟨m',ds',tk',h1,h2⟩:=rW h.2 (show l[i]?=some o by simpa using hi)
   exact ⟨m',ds',tk',by simpa using h1,by rw [show j+(i+1)=j+1+i by omega];exact h2⟩
theorem nD {S:Nat→Value→World→Prop} {ρ0:Fr} {w0:World}:∀ {l:List Oper} {r:List (Nat × List (Nat × Nat) × Bool)} {j i:Nat} {o:Oper} {m:Nat} {ds:List (Nat × Nat)} {tk:Bool},iN P N S ρ0 w0 j l r→l[i]?=some o→r[i]?=some (m,ds,tk) →
  cC S o tk∧(tk=true→∀ w,Ext [] w0 w→lW S w ds (fun L=>∀ σ,kC P N (bQ L (oW m ρ0 σ)) o w (fun ρ' w'=>Ext [] w w'∧∃ v,ρ'=fK (bQ L (oW m ρ0 σ)) o.dst v∧S (j+i) v w')))∧(tk=false→∀ w,S (j+i) undef w)
 | [],_,_,_,_,_,_,_,_,h,_=>by simp at h
 | _::_,[],_,_,_,_,_,_,_,_,h=>by simp at h
 | o'::l,(m',ds',tk')::r,j,i,o,m,ds,tk,h,hi,hr=>by
  cases i with
  | zero =>
   simp at hi hr;subst hi;obtain ⟨rfl,rfl,rfl⟩:=hr
   refine ⟨h.1.1,fun e=>?_,fun e=>?_⟩
   ·subst e;exact h.1.2
   ·subst e;exact h.1.2
  | succ i =>
   have:=nD h.2 (show l[i]?=some o by simpa using hi) (show r[i]?=some (m,ds,tk) by simpa using hr)
   rw [show j+1+i=j+(i+1) by omega] at this
   exact this
theorem GJ {id:Nat} {l:List Oper} (hm:P.follows .mixedOrders=true) (sp:List (Nat × List (Nat × Nat) × Bool)) (hok:kQ l 0 l sp=true) (hds:iT N l=true) (hdn:fO l=true) (S:Nat→Value→World→Prop)
  (dW:∀ i v w w',S i v w→Ext [] w w'→S i v w') (cW:iN P N S ρ w 0 l sp)
  (hfin:∀ ρ' w',Ext [] w w'→(∀ (i:Nat) (o:Oper) (d:Nat),l[i]?=some o→o.dst=some d→S i (ρ' d) w')→(∀ t,(∀ o∈l,o.dst≠some t)→ρ' t=ρ t)→WS P N f R k ρ' w') :
  WS P N f R (.code (.region id l.toArray true)::k) ρ w:=by
 refine vN fun a ha=>wp_region_any hm ?_
 have hU:∀ (i j:Nat) (o o':Oper),l[i]?=some o→l[j]?=some o'→i≠j→o.dst≠none→o.dst≠o'.dst:=fun i j o o' h1 h2 hij hn=>by
  simp only [iT,Bool.and_eq_true] at hds
  have h3:=List.all_eq_true.1 hds.2 (o,i) (List.mem_zipIdx_iff_getElem?.2 h1)
  have h4:=List.all_eq_true.1 h3 (o',j) (List.mem_zipIdx_iff_getElem?.2 h2)
  simp only [Bool.or_eq_true,beq_iff_eq,bne_iff_ne,ne_eq,Option.isNone_iff_eq_none] at h4
  rcases h4 with (h4|h4)|h4
  ·exact absurd h4 hij
  ·exact absurd h4 hn
  ·exact h4
 have hlt0:∀ (i:Nat) (o:Oper),l[i]?=some o→∀ e∈eH o,e<i:=fun i o hi e he=>by
  have h1:=List.all_eq_true.1 hdn (o,i) (List.mem_zipIdx_iff_getElem?.2 hi)
  have h2:=List.all_eq_true.1 h1 e he
  simpa [Nat.blt_eq] using h2
 have key:∀ (fuel:Nat) (D:Array Bool) (ρ':Fr) (w':World) (a':Act),D.size=l.length→sW N a' ρ'→Ext [] w w' →
   (∀ (i:Nat) (o:Oper) (d:Nat),l[i]?=some o→D.getD i false=true→o.dst=some d→S i (ρ' d) w') →
   (∀ (i:Nat) (o:Oper) (d:Nat),l[i]?=some o→D.getD i false=false→o.dst=some d→ρ' d=ρ d) →
   (∀ t,(∀ o∈l,o.dst≠some t)→ρ' t=ρ t) →
   (∀ (i:Nat) (o:Oper),l[i]?=some o→D.getD i false=true→∀ e∈eH o,D.getD e false=true) →
   (D.toList.count false≤fuel)→(∀ (i:Nat) (o:Oper),l[i]?=some o→∀ e∈eH o,e<i) →
   wpAny P .any l.toArray (QN N (WS P N f R k)) fuel D a' w':=by
  intro fuel
  induction fuel with
  | zero =>
   intro D ρ' w' a' hsz ha' hE h1 h2 h3 h4 hf _
   have hall':∀ i o,l[i]?=some o→D.getD i false=true:=fun i o hi=>by
    have hlt:i<D.size:=by rw [hsz];exact (List.getElem?_eq_some_iff.1 hi).1
    have h0:D.toList.count false=0:=by omega
    have:=List.count_eq_zero.1 h0
    cases hb:D.getD i false with
    | true=>rfl
    | false =>
     exfalso
     apply this
     rw [List.mem_iff_getElem?]
     exact ⟨i,by simp [Array.getD,hlt] at hb;simp [hlt,hb]⟩
   refine ⟨?_,rfl,ρ',ha',hfin ρ' w' hE (fun i o d hi hd=>h1 i o d hi (hall' i o hi) hd) h3⟩
   refine List.eq_nil_iff_forall_not_mem.2 (fun i hi=>?_)
   rw [mem_ready] at hi
   obtain ⟨hi0,o,ho,_⟩:=hi
   have ho':l[i]?=some o:=by simpa using ho
   have hlt:i<D.size:=by rw [hsz];exact (List.getElem?_eq_some_iff.1 ho').1
   have:=hall' i o ho'
   simp [Array.getD,hlt] at this hi0
   rw [this] at hi0;cases hi0
  | succ fuel ih =>
   intro D ρ' w' a' hsz ha' hE h1 h2 h3 h4 hf hlt
   refine ⟨fun hnil=>?_,fun j hj=>?_⟩
   ·
    have hall':∀ i o,l[i]?=some o→D.getD i false=true:=by
     intro i
     induction i using Nat.strongRecOn with
     | _ i ihi =>
      intro o hi
      cases hb:D.getD i false with
      | true=>rfl
      | false =>
       exfalso
       have hil:i<D.size:=by rw [hsz];exact (List.getElem?_eq_some_iff.1 hi).1
       have:i∈Region.ready .any l.toArray D:=by
        rw [mem_ready]
        refine ⟨by simp [Array.getD,hil] at hb ⊢;exact hb,o,by simpa using hi,fun e he hbi=>?_⟩
        have hed:e.on∈eH o:=List.mem_filterMap.2 ⟨e,by simpa using he,by simp [hbi]⟩
        have hlt':=hlt i o hi _ hed
        obtain ⟨oe,hoe⟩:∃ oe,l[e.on]?=some oe:=⟨l[e.on]'(by have:=(List.getElem?_eq_some_iff.1 hi).1;omega),by simp⟩
        exact ihi _ hlt' oe hoe
       rw [hnil] at this
       cases this
    exact ⟨rfl,ρ',ha',hfin ρ' w' hE (fun i o d hi hd=>h1 i o d hi (hall' i o hi) hd) h3⟩
   ·obtain ⟨hj0,o,ho,hedge⟩:=mem_ready.1 hj
    have ho':l[j]?=some o:=by simpa using ho
    have hjl:j<D.size:=by rw [hsz];exact (List.getElem?_eq_some_iff.1 ho').1
    have hjf:D.getD j false=false:=by simp [Array.getD,hjl] at hj0 ⊢;exact hj0
    have hedges:∀ e∈eH o,D.getD e false=true:=fun e he=>by
     obtain ⟨ed,hed,heq⟩:=List.mem_filterMap.1 he
     cases hb:Region.binds .any ed with
     | false=>rw [hb] at heq;cases heq
     | true=>rw [hb] at heq;cases heq;exact hedge ed (by simpa using hed) hb
    obtain ⟨m,ds,tk,hsp,hone⟩:=rW hok ho'
    rw [Nat.zero_add] at hone
    simp only [zO,Bool.and_eq_true] at hone
    obtain ⟨⟨⟨hg,_⟩,hds1⟩,hm2⟩:=hone
    have hdep:∀ p∈ds,S p.1 (ρ' p.2) w':=fun p hp=>by
     have:=List.all_eq_true.1 hds1 p hp
     simp only [Bool.and_eq_true,beq_iff_eq] at this
     obtain ⟨he,hdst⟩:=this
     cases hoi:l[p.1]? with
     | none=>rw [hoi] at hdst;cases hdst
     | some oi =>
      rw [hoi] at hdst
      exact h1 p.1 oi p.2 hoi (hedges _ (by simpa using he)) hdst
    obtain ⟨hgk,hstp0,hun⟩:=nD cW ho' hsp
    have hF:bQ (ds.map fun p=>(p.2,ρ' p.2)) (oW m ρ ρ')=ρ':=by
     have hmr:oW m ρ ρ'=ρ':=by
      funext t
      show cond (sM m t) (ρ' t) (ρ t)=ρ' t
      cases hi:sM m t with
      | true=>rfl
      | false =>
       show ρ t=ρ' t
       by_cases hw:∃ o'∈l,o'.dst=some t
       ·obtain ⟨o',ho'm,hd'⟩:=hw
        obtain ⟨i,hio⟩:=List.mem_iff_getElem?.1 ho'm
        have h5:=List.all_eq_true.1 hm2 (o',i) (List.mem_zipIdx_iff_getElem?.2 hio)
        simp only [hd',hi,Bool.or_eq_true,Bool.false_eq_true,false_or,beq_iff_eq,List.contains_eq_mem,decide_eq_true_eq] at h5
        have hif:D.getD i false=false:=by
         rcases h5 with h5|h5
         ·cases hb:D.getD i false with
          | false=>rfl
          | true=>rw [h4 i o' hio hb j h5] at hjf;cases hjf
         ·subst h5;exact hjf
        exact (h2 i o' t hio hif hd').symm
       ·exact (h3 t (fun o' ho'm e=>hw ⟨o',ho'm,e⟩)).symm
     rw [hmr]
     have:=jG ρ' (ds.map (·.2))
     rw [List.map_map] at this
     exact this
    have hset:∀ i,(D.setIfInBounds j true).getD i false=true ↔ (i=j∨D.getD i false=true):=fun i=>by
     by_cases hij:i=j
     ·subst hij;simp [Array.getD,hjl]
     ·rw [getD_set_ne false (Ne.symm hij)];simp [hij]
    have iQ:∀ (v:Value) (i:Nat) (oi:Oper) (d:Nat),l[i]?=some oi→oi.dst=some d→i≠j→fK ρ' o.dst v d=ρ' d:=fun v i oi d hi hd hij=>by
     cases hod:o.dst with
     | none=>rfl
     | some dj =>
      refine nI _ _ (fun e=>?_)
      subst e
      exact hU i j oi o hi ho' hij (by rw [hd];simp) (by rw [hd,hod])
    have next:∀ v a'' w'',sW N a'' (fK ρ' o.dst v)→Ext [] w' w''→S j v w''→wpAny P .any l.toArray (QN N (WS P N f R k)) fuel (D.setIfInBounds j true) a'' w'':=by
     intro v a'' w'' hr'' hE'' hS
     refine ih _ (fK ρ' o.dst v) w'' a'' (by simp [hsz]) hr'' (hE.bO hE'') ?_ ?_ ?_ ?_ ?_ hlt
     ·intro i oi d hi hdone hd
      by_cases hij:i=j
      ·subst hij
       rw [ho'] at hi;cases hi
       rw [hd]
       show S i (dX ρ' d v d) w''
       rw [nE];exact hS
      ·rw [iQ v i oi d hi hd hij]
       exact dW _ _ _ _ (h1 i oi d hi (((hset i).1 hdone).resolve_left hij) hd) hE''
     ·intro i oi d hi hnd hd
      have hij:i≠j:=fun e=>by subst e;rw [(hset i).2 (.inl rfl)] at hnd;cases hnd
      rw [iQ v i oi d hi hd hij]
      refine h2 i oi d hi ?_ hd
      cases hb:D.getD i false with
      | false=>rfl
      | true=>rw [(hset i).2 (.inr hb)] at hnd;cases hnd
     ·intro t ht
      have:fK ρ' o.dst v t=ρ' t:=by
       cases hod:o.dst with
       | none=>rfl
       | some dj=>exact nI _ _ (fun e=>ht o (List.mem_of_getElem? ho') (by rw [hod,e]))
      rw [this];exact h3 t ht
     ·intro i oi hi hdone e he
      refine (hset e).2 (.inr ?_)
      rcases (hset i).1 hdone with rfl|hb
      ·rw [ho'] at hi;cases hi;exact hedges e he
      ·exact h4 i oi hi hb e he
     ·have hc:(D.setIfInBounds j true).toList.count false+1=D.toList.count false:=by
       rw [Array.toList_setIfInBounds]
       have hj2:D.toList[j]?=some false:=by simp [Array.getD,hjl] at hjf;simp [hjl,hjf]
       exact fG D.toList j hj2
      omega
    unfold wpOp
    rw [show l.toArray[j]?=some o from ho]
    simp only
    have hdo:gI N o.dst=true:=by
     simp only [iT,Bool.and_eq_true] at hds
     exact List.all_eq_true.1 hds.1 o (List.mem_of_getElem? ho')
    have hgv:∀ g want,o.guard=some (g,want)→∃ d,oT l.toArray g=some d∧Nat.blt d N=true∧S g (ρ' d) w':=fun g want hgw=>by
     rw [hgw] at hg
     simp only [Bool.and_eq_true] at hg
     obtain ⟨he,hd⟩:=hg
     unfold oT at hd ⊢
     have he':g∈eH o:=by simpa using he
     cases hog:l[g]? with
     | none=>simp [hog] at hd
     | some og =>
      cases hdg:og.dst with
      | none=>simp [hog,hdg] at hd
      | some d =>
       refine ⟨d,by simp [hog,hdg],?_,h1 g og d hog (hedges g he') hdg⟩
       simp only [iT,Bool.and_eq_true] at hds
       have:=List.all_eq_true.1 hds.1 og (List.mem_of_getElem? hog)
       simpa [hdg,gI] using this
    cases htk:tk with
    | true =>
     subst htk
     have hstp:=iB (ρ:=ρ') (hstp0 rfl w' hE) hdep ρ'
     rw [hF,Nat.zero_add] at hstp
     have hw:Region.wanted o (yielded l.toArray a'.tmps)=true:=by
      cases hgw:o.guard with
      | none=>simp [Region.wanted,hgw]
      | some gw =>
       obtain ⟨g,want⟩:=gw
       obtain ⟨d,hd1,hd2,JW⟩:=hgv g want hgw
       have hv:ρ' d=.bool want:=hgk g want hgw _ _ JW
       have hy:=eE (ops:=l.toArray) ha' hd1 hd2 (b:=want) (by simpa [ev] using hv)
       simp [Region.wanted,hgw,hy]
     rw [if_pos hw]
     refine .inl (Oper.wp_mono ?_ (hstp.out a' ha' _))
     rintro a'' w'' ⟨ρ'',hr'',hE'',v,rfl,hS⟩
     exact next v a'' w'' hr'' hE'' hS
    | false =>
     subst htk
     have hw:¬ Region.wanted o (yielded l.toArray a'.tmps)=true:=by
      cases hgw:o.guard with
      | none=>rw [hgw] at hg;simp at hg
      | some gw =>
       obtain ⟨g,want⟩:=gw
       obtain ⟨d,hd1,hd2,JW⟩:=hgv g want hgw
       have hv:ρ' d=.bool (!want)∨ρ' d=undef:=hgk g want hgw _ _ JW
       rcases hv with hv|hv
       ·have hy:=eE (ops:=l.toArray) ha' hd1 hd2 (b:=!want) (by simpa [ev] using hv)
        simp [Region.wanted,hgw,hy]
       ·have hy:=mZ (ops:=l.toArray) ha' hd1 hv
        simp [Region.wanted,hgw,hy]
     rw [if_neg hw]
     have hun':=hun rfl w'
     rw [Nat.zero_add] at hun'
     exact next undef (a'.put o.dst undef) w' (ha'.put hdo undef) .refl hun'
 refine key l.length _ ρ _ a (by simp) ha (Ext.dV) ?_ ?_ ?_ ?_ ?_ ?_
 ·intro i o d hi hb hd
  have hil:i<l.length:=(List.getElem?_eq_some_iff.1 hi).1
  simp [Array.getD,hil] at hb
 ·intro i o d hi hb hd;rfl
 ·intro t ht;rfl
 ·intro i o hi hb
  have hil:i<l.length:=(List.getElem?_eq_some_iff.1 hi).1
  simp [Array.getD,hil] at hb
 ·exact Nat.le_trans List.count_le_length (by simp)
 ·exact hlt0
theorem GH {id:Nat} {l:List Oper} (Ls:List (Value→World→Prop)) (hm:P.follows .mixedOrders=true) (sp:List (Nat × List (Nat × Nat) × Bool)) (hok:kQ l 0 l sp=true) (hds:iT N l=true) (hdn:fO l=true)
  (dW:G7 Ls) (cW:iN P N (oB Ls) ρ w 0 l sp)
  (hfin:∀ ρ' w',Ext [] w w'→(∀ (i:Nat) (o:Oper) (d:Nat),l[i]?=some o→o.dst=some d→oB Ls i (ρ' d) w')→(∀ t,(∀ o∈l,o.dst≠some t)→ρ' t=ρ t)→WS P N f R k ρ' w') :
  WS P N f R (.code (.region id l.toArray true)::k) ρ w :=
 GJ hm sp hok hds hdn (oB Ls) (fun _ _ _ _ h hE=>G7.nth _ _ dW _ _ _ h hE) cW hfin
def Aw (W:Nat) (l:List Oper):Bool:=l.all fun o=>match o.dst with|none=>true|some d=>sM W d
def Cs (l:List Oper) (kp:List (Nat × Nat)):Bool:=kp.all fun p=>((l[p.1]?).bind (·.dst)) == some p.2
theorem gX {id:Nat} {l:List Oper} (Ls:List (Value→World→Prop)) (hm:P.follows .mixedOrders=true) (sp:List (Nat × List (Nat × Nat) × Bool)) (W:Nat) (kp:List (Nat × Nat)) (hok:kQ l 0 l sp=true) (hds:iT N l=true) (hdn:fO l=true)
  (hW:Aw W l=true) (hkp:Cs l kp=true) (dW:G7 Ls) (cW:iN P N (oB Ls) ρ w 0 l sp)
  (hfin:∀ w',Ext [] w w'→lW (oB Ls) w' kp (fun L=>∀ σ,WS P N f R k (bQ L (oW W ρ σ)) w')) :
  WS P N f R (.code (.region id l.toArray true)::k) ρ w:=by
 refine GH Ls hm sp hok hds hdn dW cW (fun ρ' w' hE hs hr=>?_)
 have hdep:∀ p∈kp,oB Ls p.1 (ρ' p.2) w':=fun p hp=>by
  have:=List.all_eq_true.1 hkp p hp
  simp only [beq_iff_eq] at this
  cases ho:l[p.1]? with
  | none=>simp [ho] at this
  | some o=>rw [ho] at this;exact hs p.1 o p.2 ho this
 have h:=iB (ρ:=ρ') (hfin w' hE) hdep ρ'
 have hmr:oW W ρ ρ'=ρ':=by
  funext t
  show cond (sM W t) (ρ' t) (ρ t)=ρ' t
  cases hi:sM W t with
  | true=>rfl
  | false =>
   refine (hr t (fun o ho e=>?_)).symm
   have:=List.all_eq_true.1 hW o ho
   rw [e] at this
   simp only [hi] at this
   cases this
 rw [hmr] at h
 have hself:=jG ρ' (kp.map (·.2))
 rw [List.map_map] at hself
 rw [show (kp.map fun p=>(p.2,ρ' p.2))=List.map ((fun d=>(d,ρ' d)) ∘ fun x=>x.2) kp from rfl,hself] at h
 exact h
theorem cU.is {o:Oper} {v v':Value} {w w':World} (h:cU P ρ o w v w') (e:v=v'):cU P ρ o w v' w':=e▸h
theorem bF {p:Prop} [Decidable p] (h:¬p):Value.bool (decide p)=.bool false:=congrArg Value.bool (decide_eq_false h)
theorem bT {p:Prop} [Decidable p] (h:p):Value.bool (decide p)=.bool true:=congrArg Value.bool (decide_eq_true h)
end
end Go.K
namespace Go.K
open Go Go.RowKit Go.ChangeShapes Go.WideShapes
inductive fU where
 | int (q:IntKind)
 | bool
 | flt (q:FloatKind)
 | sl (d:fU)
 | arr (n:Nat) (d:fU)
 | str (ds:fU)
 | nil
 | cons (d ds:fU)
def fU.size:fU→Nat
 | .int _=>1
 | .bool=>1
 | .flt _=>1
 | .sl _=>1
 | .arr n d=>n*d.size
 | .str ds=>ds.size
 | .nil=>0
 | .cons d ds=>d.size+ds.size
def fU.ok (P:Program):fU→(TypeId ⊕ (List Field × Nat))→Bool
 | .int q,.inl t=>kindOf P t == some q
 | .bool,.inl t=>match P.underlying t with|some .bool=>true|_=>false
 | .flt q,.inl t=>match P.underlying t with|some (.float q')=>q' == q|_=>false
 | .sl d,.inl t=>match P.underlying t with|some (.slice e)=>d.ok P (.inl e) && Nat.beq (P.cellsOf e) d.size|_=>false
 | .arr n d,.inl t=>match P.underlying t with|some (.array m e)=>Nat.beq m n && d.ok P (.inl e) && Nat.beq (P.cellsOf e) d.size && Nat.beq (P.cellsOf t) (n*d.size)|_=>false
 | .str ds,.inl t=>match P.underlying t with|some (.struct fs)=>ds.ok P (.inr (fs.toList,0)) && Nat.beq (P.cellsOf t) ds.size|_=>false
 | .nil,.inr (fs,_)=>fs.isEmpty
 | .cons d ds,.inr (f::fs,o)=>Nat.beq f.offset o && Nat.beq (P.cellsOf f.type) d.size && d.ok P (.inl f.type) && ds.ok P (.inr (fs,o+d.size))
 | _,_=>false
def Rd (w:World):fU→List Value→Prop
 | .int q,cs=>∃ n,cs=[.int q n]∧Fits q n
 | .bool,cs=>∃ b,cs=[.bool b]
 | .flt q,cs=>∃ b,cs=[.float q b]∧(Lit.float q b).wf=true
 | .sl d,cs=>∃ a len cap,∃ ess:List (List Value),cs=[.slice a len cap]∧ess.length=len∧cI w a ess.flatten∧(∀ e∈ess,Rd w d e)∧len≤cap∧cap≤maxLen
 | .arr n d,cs=>∃ ess:List (List Value),ess.length=n∧cs=ess.flatten∧∀ e∈ess,Rd w d e
 | .str ds,cs=>Rd w ds cs
 | .nil,cs=>cs=[]
 | .cons d ds,cs=>∃ c1 c2,cs=c1++c2∧Rd w d c1∧Rd w ds c2
theorem sY {α:Type} {sz:Nat}:∀ {ess:List (List α)},(∀ e∈ess,e.length=sz)→ess.flatten.length=ess.length*sz
 | [],_=>by simp
 | e::ess,h=>by
  have:=sY (ess:=ess) (fun x hx=>h x (by simp [hx]))
  simp [this,h e (by simp),Nat.add_mul,Nat.add_comm]
theorem tC {α:Type} {sz:Nat} (hsz:0<sz):∀ {ess:List (List α)} {j:Nat},(∀ e∈ess,e.length=sz)→ess.flatten[j]?=(ess[j / sz]?).bind (·[j % sz]?)
 | [],j,_=>by simp
 | e::ess,j,h=>by
  have he:=h e (by simp)
  rw [List.flatten_cons]
  by_cases hj:j<sz
  ·rw [List.getElem?_append_left (by omega),Nat.div_eq_of_lt hj,Nat.mod_eq_of_lt hj];rfl
  ·rw [List.getElem?_append_right (by omega),tC hsz (fun x hx=>h x (by simp [hx]))]
   have e1:j / sz=(j-sz) / sz+1:=by rw [← Nat.add_div_right _ hsz];congr 1;omega
   have e2:j % sz=(j-sz) % sz:=by rw [← Nat.add_mod_right (j-sz) sz];congr 1;omega
   rw [he,e1,e2];rfl
theorem chunks_flatten {α:Type} (cs:List α) (sz:Nat):∀ n,cs.length=n*sz→((List.range n).map fun i=>(cs.drop (i*sz)).take sz).flatten=cs
 | 0,h=>by have:cs=[]:=List.eq_nil_of_length_eq_zero (by simpa using h);subst this;rfl
 | n+1,h=>by
  have ih:=chunks_flatten (cs.take (n*sz)) sz n (by rw [List.length_take,h,Nat.add_mul];omega)
  rw [List.range_succ,List.map_append,List.flatten_append]
  have e:((List.range n).map fun i=>(cs.drop (i*sz)).take sz)=(List.range n).map fun i=>((cs.take (n*sz)).drop (i*sz)).take sz:=by
   refine List.map_congr_left (fun i hi=>?_)
   have hin:i<n:=by simpa using hi
   rw [List.drop_take,List.take_take]
   congr 1
   have:(i+1)*sz≤n*sz:=Nat.mul_le_mul_right _ hin
   rw [Nat.add_mul] at this
   omega
  rw [e,ih]
  simp only [List.map_cons,List.map_nil,List.flatten_cons,List.flatten_nil,List.append_nil]
  rw [List.take_of_length_le (l:=cs.drop (n*sz)) (by rw [List.length_drop,h,Nat.add_mul];omega)]
  exact List.take_append_drop _ _
theorem Fi {w:World} {a:Addr} {v:Value} (h:w.cell? a=some v):a.spot=none:=by
 cases hs:a.spot with
 | none=>rfl
 | some x =>
  unfold World.cell? at h
  split at h
  ·simp [hs] at h
  ·cases h
section
variable {H:Type} {enc:TypeId × Value→H} {P:Program} {W:World} {sp:Nat→Bool} {hd:Bool}
theorem JL {a:Addr} {sz:Nat} {ess:List (List Value)} (h:∀ i e,ess[i]?=some e→W.cells? 0 (a.add (i*sz)) sz=some e):cI W (some a) ess.flatten:=by
 by_cases h0:ess.flatten=[]
 ·rw [h0];exact .nil
 have hlen:∀ e∈ess,e.length=sz:=fun e he=>by
  obtain ⟨i,hi⟩:=List.mem_iff_getElem?.1 he
  exact (World.cells?_some (h i e hi)).2.1
 have hsz:0<sz:=by
  rcases Nat.eq_zero_or_pos sz with hz|hz
  ·subst hz
   exfalso;apply h0
   have:=sY hlen
   exact List.eq_nil_of_length_eq_zero (by simpa using this)
  ·exact hz
 have hne:0<ess.length:=by
  rcases Nat.eq_zero_or_pos ess.length with hz|hz
  ·have:ess=[]:=List.eq_nil_of_length_eq_zero hz
   subst this;exact absurd rfl h0
  ·exact hz
 have hspot:a.spot=none:=by
  have h1:=(World.cells?_some (h 0 _ (List.getElem?_eq_getElem hne))).2.2 0 hsz
  have h2:=hlen _ (List.getElem_mem hne)
  rw [List.getElem?_eq_getElem (by omega)] at h1
  have h3:=Fi h1
  obtain ⟨b,o,s⟩:=a
  cases s with
  | none=>rfl
  | some x=>simp [Addr.add] at h3
 obtain ⟨b,o,s⟩:=a
 simp only at hspot
 subst hspot
 refine ⟨fun j v hj=>?_,fun _=>⟨b,o,rfl⟩⟩
 rw [tC hsz hlen,Option.bind_eq_some_iff] at hj
 obtain ⟨e,he,hv⟩:=hj
 have h1:=(World.cells?_some (h _ e he)).2.2 (j % sz) (Nat.mod_lt _ hsz)
 rw [eM,eM,hv] at h1
 have e1:o+j / sz*sz+j % sz=o+j:=by
  have:=Nat.div_add_mod j sz
  rw [Nat.mul_comm] at this;omega
 rw [e1] at h1
 simpa [At] using h1
theorem Hu {q:FloatKind} {fuel:Nat} {t:TypeId} {cs:List Value} {x:DataW H × List MemPlace} (ht:P.underlying t=some (.float q)) (h:DataW.trod enc P W 0 sp hd fuel t cs=some x):∃ b,cs=[.float q b]∧(Lit.float q b).wf=true:=by
 cases fuel with
 | zero=>simp [DataW.trod] at h
 | succ n =>
  unfold DataW.trod at h
  rw [ht] at h
  split at h<;>simp_all
theorem Ka (d:fU):(∀ (fuel:Nat) (t:TypeId) (cs:List Value) (x:DataW H × List MemPlace),DataW.trod enc P W 0 sp hd fuel t cs=some x→d.ok P (.inl t)=true→Rd W d cs) ∧
  (∀ (fuel:Nat) (fs:List Field) (o:Nat) (cs:List Value),(∀ f∈fs,∃ x:DataW H × List MemPlace,DataW.trod enc P W 0 sp hd fuel f.type ((cs.drop f.offset).take (P.cellsOf f.type))=some x)→d.ok P (.inr (fs,o))=true→cs.length=o+d.size→Rd W d (cs.drop o)):=by
 induction d with
 | int q =>
  refine ⟨fun fuel t cs x h hk=>?_,fun fuel fs o cs h hk=>by simp [fU.ok] at hk⟩
  have hq:kindOf P t=some q:=by simpa [fU.ok] using hk
  obtain ⟨n,rfl,_,hw⟩:=DataW.trod_int (fD hq) h
  exact ⟨n,rfl,KM hw⟩
 | bool =>
  refine ⟨fun fuel t cs x h hk=>?_,fun fuel fs o cs h hk=>by simp [fU.ok] at hk⟩
  simp only [fU.ok] at hk
  split at hk
  ·rename_i hu
   obtain ⟨b,rfl,_⟩:=DataW.trod_bool hu h
   exact ⟨b,rfl⟩
  ·cases hk
 | flt q =>
  refine ⟨fun fuel t cs x h hk=>?_,fun fuel fs o cs h hk=>by simp [fU.ok] at hk⟩
  simp only [fU.ok] at hk
  split at hk
  ·rename_i q' hu
   have:q'=q:=by simpa using hk
   subst this
   exact Hu hu h
  ·cases hk
 | sl d ih =>
  refine ⟨fun fuel t cs x h hk=>?_,fun fuel fs o cs h hk=>by simp [fU.ok] at hk⟩
  simp only [fU.ok] at hk
  split at hk
  ·rename_i e hu
   simp only [Bool.and_eq_true] at hk
   have hsz:=Nat.eq_of_beq_eq_true hk.2
   rcases DataW.trod_slice hu h with ⟨rfl,_⟩|⟨a,len,cap,elems,rest,n,_,rfl,_,_,hl,hm,hlen,hel,_,_⟩
   ·exact ⟨none,0,0,[],rfl,rfl,.nil,by simp,by omega,by omega⟩
   ·have each:∀ i,i<len→∃ c,W.cells? 0 (a.add (i*d.size)) d.size=some c∧Rd W d c:=fun i hi=>by
     have h1:=hel i hi
     rw [List.getElem?_eq_getElem (by omega),Option.bind_eq_some_iff,hsz] at h1
     obtain ⟨c,hc,hy⟩:=h1
     exact ⟨c,hc,ih.1 _ _ _ _ hy hk.1⟩
    have hget:∀ i e',((List.range len).map fun i=>(W.cells? 0 (a.add (i*d.size)) d.size).getD [])[i]?=some e'→i<len∧W.cells? 0 (a.add (i*d.size)) d.size=some e':=fun i e' he=>by
     rw [List.getElem?_map] at he
     by_cases hi:i<len
     ·obtain ⟨c,hc,_⟩:=each i hi
      simp [hi,hc] at he
      exact ⟨hi,by rw [hc,he]⟩
     ·simp [List.getElem?_eq_none (show (List.range len).length≤i by simp;omega)] at he
    refine ⟨some a,len,cap,(List.range len).map fun i=>(W.cells? 0 (a.add (i*d.size)) d.size).getD [],rfl,by simp,JL (fun i e' he=>(hget i e' he).2),fun e' he=>?_,hl,hm⟩
    obtain ⟨i,hi⟩:=List.mem_iff_getElem?.1 he
    obtain ⟨hil,hc⟩:=hget i e' hi
    obtain ⟨c,hc',hr⟩:=each i hil
    rw [hc] at hc';cases hc'
    exact hr
  ·cases hk
 | arr n d ih =>
  refine ⟨fun fuel t cs x h hk=>?_,fun fuel fs o cs h hk=>by simp [fU.ok] at hk⟩
  simp only [fU.ok] at hk
  split at hk
  ·rename_i m e hu
   simp only [Bool.and_eq_true] at hk
   have hm:=Nat.eq_of_beq_eq_true hk.1.1.1
   have hsz:=Nat.eq_of_beq_eq_true hk.1.2
   have htot:=Nat.eq_of_beq_eq_true hk.2
   subst hm
   obtain ⟨xs,fm,_,_,hcl,hxl,hxs⟩:=DataW.trod_array hu h
   refine ⟨(List.range m).map fun i=>(cs.drop (i*d.size)).take d.size,by simp,(chunks_flatten cs d.size m (by rw [hcl,htot])).symm,fun e' he=>?_⟩
   obtain ⟨i,hi,rfl⟩:=List.mem_map.1 he
   have hi':i<m:=by simpa using hi
   have h1:=hxs i hi'
   rw [List.getElem?_eq_getElem (by omega),hsz] at h1
   exact ih.1 _ _ _ _ h1 hk.1.1.2
  ·cases hk
 | str ds ih =>
  refine ⟨fun fuel t cs x h hk=>?_,fun fuel fs o cs h hk=>by simp [fU.ok] at hk⟩
  simp only [fU.ok] at hk
  split at hk
  ·rename_i fs hu
   simp only [Bool.and_eq_true] at hk
   have htot:=Nat.eq_of_beq_eq_true hk.2
   obtain ⟨xs,fm,_,_,hcl,hxl,hxs⟩:=DataW.trod_struct hu h
   have:=ih.2 fm fs.toList 0 cs (fun f hf=>by
    obtain ⟨i,hi⟩:=List.mem_iff_getElem?.1 hf
    have hil:=(List.getElem?_eq_some_iff.1 hi).1
    have h1:=hxs i f (by simpa using hi)
    rw [List.getElem?_eq_getElem (by simp at hil;omega)] at h1
    exact ⟨_,h1⟩) hk.1 (by rw [hcl,htot];omega)
   simpa [Rd] using this
  ·cases hk
 | nil =>
  refine ⟨fun fuel t cs x h hk=>by simp [fU.ok] at hk,fun fuel fs o cs h hk hl=>?_⟩
  show cs.drop o=[]
  exact List.drop_of_length_le (by simp [fU.size] at hl;omega)
 | cons d ds ih1 ih2 =>
  refine ⟨fun fuel t cs x h hk=>by simp [fU.ok] at hk,fun fuel fs o cs h hk hl=>?_⟩
  cases fs with
  | nil=>simp [fU.ok] at hk
  | cons f fs =>
   simp only [fU.ok,Bool.and_eq_true] at hk
   obtain ⟨⟨⟨h1,h2⟩,h3⟩,h4⟩:=hk
   have ho:=Nat.eq_of_beq_eq_true h1
   have hs:=Nat.eq_of_beq_eq_true h2
   obtain ⟨x,hx⟩:=h f (by simp)
   rw [ho,hs] at hx
   simp only [fU.size] at hl
   refine ⟨(cs.drop o).take d.size,cs.drop (o+d.size),?_,ih1.1 _ _ _ _ hx h3,ih2.2 fuel fs (o+d.size) cs (fun g hg=>h g (by simp [hg])) h4 (by omega)⟩
   rw [← List.drop_drop]
   exact (List.take_append_drop _ _).symm
theorem IE {t:TypeId} {v:Value} {x:DataW H} {ps:List MemPlace} (d:fU) (hd':d.ok P (.inl t)=true) (h:DataW.Trod enc P W 0 sp hd t v x ps):Rd W d v.cells.toList:=by
 obtain ⟨fuel,h⟩:=h
 exact (Ka d).1 _ _ _ _ h hd'
end
end Go.K
namespace Go.K
open Go Go.RowKit
section
variable {P:Program} {w:World} {t tn ty e:TypeId}
variable {N:Nat} {K:Fr→World→Prop} {ρ:Fr} {v:Value} {d:Nat} {pos:String} {af:Array Edge} {gd:Option (Nat × Bool)} {x y:Operand}
end
theorem DT {w:World} {a:Option Addr} {cap n k:Nat} {vs:List Value} (hS:cI w a vs) (hl:vs.length=n) (hk:k≤n) (hn:n≤cap):cI w (if cap=k then a else a.map (·.add (k*1))) (vs.drop k):=by
 have:=GO (l:=k) (h:=n) (n:=n) (cap:=cap) (sz:=1) hS hk (Nat.le_refl _) hn
 rw [List.take_of_length_le (by simp [hl])] at this
 rw [Nat.mul_one] at this ⊢
 exact this
section
variable {P:Program} {ρ:Fr} {w:World} {dst:Option Nat} {ty t u:TypeId} {pos:String} {af:Array Edge} {gd:Option (Nat × Bool)} {x y:Operand} {m n:Nat}
theorem nQ {e:TypeId} {a:Option Addr} {len cap sz l:Nat} {g:Bool} {kl:IntKind} (hx:ev ρ x=.slice a len cap) (hy:ev ρ y=.int kl (l:Int)) (ht:sle P t=some (e,(g,sz))) (h0:l≤len) :
  cU P ρ ⟨dst,.slice t x (some y) none none,ty,pos,af,gd⟩ w (.slice (if cap=l then a else a.map (·.add (l*sz))) (len-l) (cap-l)) w :=
 Mx (l:=(l:Int)) hx hy ht ⟨by omega,by omega⟩
end
theorem join {A:Prop} {Y:Fr→Prop} (h1:(∀ σ,Y σ)→A) (h2:∀ σ,Y σ):A:=h1 h2
theorem eL {P:Program} {N:Nat} {C:Fr→World→Prop} {ops:Array Oper} {l:List Oper} {ρ ρ0:Fr} {w:World} (W:Nat) (L:List (Nat × Value)) (h:Has ρ L) (hA:eG W ρ0 ρ) (hk:∀ σ,WL P N C ops l (bQ L (oW W ρ0 σ)) w):WL P N C ops l ρ w:=by
 have:=hk ρ
 rwa [pD hA,gK h] at this
theorem fE {P:Program} {N:Nat} {f:FuncId} {R:Value→World→Prop} {k:List Item} {ρ ρ0:Fr} {w:World} (W:Nat) (L:List (Nat × Value)) (h:Has ρ L) (hA:eG W ρ0 ρ) (hk:∀ σ,WS P N f R k (bQ L (oW W ρ0 σ)) w):WS P N f R k ρ w:=by
 have:=hk ρ
 rwa [pD hA,gK h] at this
theorem eG.Ae {W:Nat} {ρ ρ':Fr} (h:eG W ρ ρ'):eG W ρ (K.bQ [] ρ'):=h
theorem eG.qI {W i:Nat} {ρ ρ':Fr} {v:Value} {l:List (Nat × Value)} (hi:sM W i=true) (h:eG W ρ (K.bQ l ρ')):eG W ρ (K.bQ ((i,v)::l) ρ'):=eG.dX hi h
theorem E8 {A:Prop} {Y:Fr→World→Prop} (Z:World→Prop) (h1:(∀ σ w,Z w→Y σ w)→A) (h2:∀ σ w,Z w→Y σ w):A:=h1 h2
theorem Hp.made (i:Nat) {S:List Nat} {W w:World} {H:List cK} {e:TypeId} {b n:Nat} {z:Value} (h:Hp S W w H) (hi:H[i]?=some (Rb b e (madeCells [z].toArray (n*1)))) (hn:n≤9223372036854775807):Hp S W w (H.set i (Ro e 1 (some ⟨b,0,none⟩) n n (List.replicate n z))) :=
 h.as i hi (fun _ hx=>hx) (fun hB=>by
  have hB':cL w b e (madeCells [z].toArray (n*1)):=hB
  rw [BU] at hB'
  have:=hB'.own (n:=n) (sz:=1) (by simp) hn
  have h2:Own w e 1 (some ⟨b,0,none⟩) n n (List.replicate n z):=by simpa using this
  exact h2)
end Go.K
