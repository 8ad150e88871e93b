/- A part of the proof of the card of TopText; no condition. -/
import Derived.Test.YtdbnmbkjmeepkaaGreatDoorT32
namespace Go.Proofs.YtdbnmbkjmeepkaaGreatDoor
open Go Go.K Go.P Go.RowKit Go.Proofs
abbrev Ac (h:SH) (q ev fa:Int) (fo wa tu:Bool) (ma ta:Int):List Value:=h.cells++[.int .i64 q,.int .i64 ev,.int .i64 fa,.bool fo,.bool wa,.bool tu,.int .i64 ma,.int .i64 ta]
theorem qP {h:SH} (ho:h.ok) {q ev fa:Int} {fo wa tu:Bool} {ma ta:Int}:(Ac h q ev fa fo wa tu ma ta).length=139:=by rw [Ac,List.length_append,SH.bK ho];rfl
theorem vY {l T vs:List Value} {o:Nat} (h:l.length≤o):gG (l++T) o vs=l++gG T (o-l.length) vs:=by
 unfold gG
 rw [List.take_append,List.take_of_length_le h,List.drop_append,List.drop_of_length_le (by omega),List.nil_append,List.append_assoc,List.append_assoc,List.append_assoc]
 rw [show o+vs.length-l.length=o-l.length+vs.length by omega]
set_option maxRecDepth 20000 in
theorem O8 {h:SH} (ho:h.ok) {q ev fa:Int} {fo wa tu:Bool} {ma ta:Int}:dU (fun i=>([(0,131),(131,1),(132,1),(133,1),(134,1),(135,1),(136,1),(137,1),(138,1)]:List (Nat × Nat))[i]?) (Ac SH.zero 0 0 0 false false false 0 0) [(0,.agg h.cells.toArray),(1,.int .i64 q),(2,.int .i64 ev),(3,.int .i64 fa),(4,.bool fo),(5,.bool wa),(6,.bool tu),(7,.int .i64 ma),(8,.int .i64 ta)]=some (Ac h q ev fa fo wa tu ma ta):=by
 have hl:=SH.bK ho
 have h0:SH.zero.cells.length=131:=SH.bK SH.nP
 have hs0:∀ T:List Value,gG (SH.zero.cells++T) 0 h.cells=h.cells++T:=fun T=>by
  unfold gG
  rw [List.take_zero,List.nil_append,hl,Nat.zero_add,List.drop_left' h0]
 have hb:∀ (T:List Value) (n:Nat),n≤131+T.length→Nat.ble n (h.cells++T).length=true:=fun T n hn=>by
  rw [List.length_append,hl];exact Nat.ble_eq_true_of_le hn
 have dW:∀ (T:List Value) (o:Nat) (v:Value) (rest:List (Nat × Value)) (i:Nat) (pl:Nat→Option (Nat × Nat)),pl i=some (131+o,1)→v.cells=#[v]→o+1≤T.length→dU pl (h.cells++T) ((i,v)::rest)=dU pl (h.cells++gG T o [v]) rest:=fun T o v rest i pl hp hv ho=>by
  rw [dU,hp]
  simp only [hv]
  rw [hb T _ (by omega),vY (by omega),hl,Nat.add_sub_cancel_left]
  rfl
 rw [dU]
 show cond (Nat.beq h.cells.toArray.size 131 && Nat.ble (0+131) (SH.zero.cells++_).length) (dU _ (gG (SH.zero.cells++_) 0 h.cells) _) none=_
 rw [hs0,List.size_toArray,hl,List.length_append,h0]
 show dU _ _ _=_
 rw [dW _ 0 _ _ _ _ rfl rfl (Nat.le_of_ble_eq_true rfl),dW _ 1 _ _ _ _ rfl rfl (Nat.le_of_ble_eq_true rfl),dW _ 2 _ _ _ _ rfl rfl (Nat.le_of_ble_eq_true rfl),dW _ 3 _ _ _ _ rfl rfl (Nat.le_of_ble_eq_true rfl),dW _ 4 _ _ _ _ rfl rfl (Nat.le_of_ble_eq_true rfl),dW _ 5 _ _ _ _ rfl rfl (Nat.le_of_ble_eq_true rfl),dW _ 6 _ _ _ _ rfl rfl (Nat.le_of_ble_eq_true rfl),dW _ 7 _ _ _ _ rfl rfl (Nat.le_of_ble_eq_true rfl)]
 rfl
theorem Kb {h:SH} {q ev fa:Int} {fo wa tu:Bool} {ma ta:Int}:∀ v∈(Ac h q ev fa fo wa tu ma ta).toArray.toList,v.oneCell'=true:=by
 intro v hv
 rcases List.mem_append.1 (show v∈h.cells++_ from hv) with h1|h1
 ·exact cells_one h v (by simpa using h1)
 ·simp at h1
  rcases h1 with rfl|rfl|rfl|rfl|rfl|rfl|rfl|rfl<;>rfl
set_option maxRecDepth 20000 in
set_option maxHeartbeats 8000000 in
theorem qT {h:SH} {q ev fa:Int} {fo wa tu:Bool} {ma ta:Int} {w:World} (ho:h.ok):aX Tryz.prog 11 #[.agg (Ac h q ev fa fo wa tu ma ta).toArray] w fun v w'=>∃ C:CF,v=.agg C.cells.toArray∧C.ok∧(C.h.c=1+(h.fit.c-1) % 3∧1≤C.h.c∧C.h.c≤3)∧(C.h.r=1+(h.fit.r-1) % 3∧1≤C.h.r∧C.h.r≤3)∧C.far≤1∧Ext [] w w':=by
 refine aL (args:=[_]) Tryz.func11 rfl rfl Tryz.ntmps11 rfl ?_
 have hH:=Hp.start w
 have hl:=SH.bK ho
 have hfo:=SH.AG ho
 have hfl:=SH.bK hfo
 have hfe:=SH.D5 (SH.D6 h)
 refine aK ?_
 refine aO ?_
 refine aA (bI (cs:=(Ac h q ev fa fo wa tu ma ta).toArray) hH rfl rfl rfl ?_)
 try clear hH
 intro _ b1 hH
 replace hH:=aI hH
 refine aK ?_
 refine aA (aQ (zs:=Ac SH.zero 0 0 0 false false false 0 0) hH (Ty.bH rfl) rfl ?_)
 try clear hH
 intro _ b2 hH
 replace hH:=aI hH
 have hS1:cI _ (some ⟨b1,0,none⟩) (Ac h q ev fa fo wa tu ma ta):=(hH.b 0 rfl).cX
 repeat (first|refine aR ?_|(refine aD (by first|refine aN rfl (Ty.bA rfl rfl)|refine bG (j:=0+0) (cs:=h.cells) rfl hS1 (uD ho) hl (Ty.aF rfl)) rfl ?_))
 clear hS1
 refine aO ?_
 refine aA (aC ((Fh ho)) rfl rfl ?_)
 rintro _ _ ⟨rfl,hE0⟩
 replace hH:=hH.aH hE0
 clear hE0
 replace hH:=aI hH
 refine aK ?_
 refine aA (aQ (zs:=SH.zero.cells) hH (Ty.bH rfl) rfl ?_)
 try clear hH
 intro _ b3 hH
 replace hH:=aI hH
 refine aK ?_
 refine aA (aJ 2 (vs:=h.fit.cells.toArray) (s:=131) hH rfl rfl rfl (by simpa using hfl) rfl (cells_one h.fit) (Ty.aF rfl) ?_)
 clear hH
 intro _ hH
 replace hH:=aI hH
 have hB3:=hH.b 2 rfl
 obtain ⟨C,hC,hC3⟩:∃ C:Nat,1+(h.fit.c-1) % 3=C∧(1≤C∧C≤3):=⟨(1+(h.fit.c-1) % 3).toNat,by omega⟩
 obtain ⟨R,hR,hR3⟩:∃ R:Nat,1+(h.fit.r-1) % 3=R∧(1≤R∧R≤3):=⟨(1+(h.fit.r-1) % 3).toNat,by omega⟩
 obtain ⟨h2,hh2⟩:∃ h2:SH,h2=⟨C,R,h.fit.wt,h.fit.A,h.fit.Bb⟩:=⟨_,rfl⟩
 have h2o:h2.ok:=by subst hh2;exact ⟨hfo.la,hfo.lb,hfo.ba,hfo.bb⟩
 have h2c:h2.c=C:=by subst hh2;rfl
 have h2r:h2.r=R:=by subst hh2;rfl
 have h2e:h2.err=0:=by
  have h:=SH.D6 h
  unfold SH.err at h ⊢
  rw [if_neg (by omega)] at h
  rw [if_neg (by omega)]
  subst hh2;exact h
 have h2l:=SH.bK h2o
 repeat (first|refine aR ?_|(refine aD (by first|refine aN rfl (Ty.bA rfl rfl)|refine aB rfl hB3 rfl (Ty.aF rfl)|refine dM rfl rfl (by omega)|refine iX rfl rfl (by omega)|refine (cT rfl rfl (by omega)).is (congrArg (Value.int .i64) hC)|refine (cT rfl rfl (by omega)).is (congrArg (Value.int .i64) hR)) rfl ?_))
 clear hB3
 refine aA (bV 2 (o:=0+0) (v:=.int .i64 C) hH rfl rfl rfl (by rw [hfl];decide) rfl (Ty.aF rfl) ?_)
 clear hH
 intro _ hH
 replace hH:=aI hH
 repeat ((refine aD (by refine aN rfl (Ty.bA rfl rfl)) rfl ?_))
 refine aA (bV 2 (o:=0+1) (v:=.int .i64 R) hH rfl rfl rfl (by rw [List.length_set,hfl];decide) rfl (Ty.aF rfl) ?_)
 clear hH
 intro _ hH
 replace hH:=aI hH
 have hcs:(h.fit.cells.set (0+0) (.int .i64 C)).set (0+1) (.int .i64 R)=h2.cells:=by rw [hh2];rfl
 rw [hcs] at hH
 have hB1:=hH.b 0 rfl
 have hB3:=hH.b 2 rfl
 obtain ⟨q',hq',hq3⟩:∃ n:Nat,1+(q % 32) % 31=n∧(1≤n∧n≤31):=⟨(1+(q % 32) % 31).toNat,by omega⟩
 obtain ⟨e',he',he3⟩:∃ n:Nat,ev % 4=n∧n≤3:=⟨(ev % 4).toNat,by omega⟩
 obtain ⟨f',hf',hf3⟩:∃ n:Nat,fa % 2=n∧n≤1:=⟨(fa % 2).toNat,by omega⟩
 obtain ⟨m',hm',hm3⟩:∃ n:Nat,1+ma % 8=n∧(1≤n∧n≤8):=⟨(1+ma % 8).toNat,by omega⟩
 obtain ⟨t',ht',ht3⟩:∃ n:Nat,ta % 2048=n∧n≤2047:=⟨(ta % 2048).toNat,by omega⟩
 repeat (first|refine aR ?_|(refine aD (by first|refine aN rfl (Ty.bA rfl rfl)|refine aE rfl hB3 (by simpa using h2l) (Ty.aF rfl)|refine aB rfl hB1 ((cQ ho (Nat.le_of_ble_eq_true rfl)).trans rfl) (Ty.aF rfl)|refine kR (i:=q) (k:=5) rfl rfl (by decide)|refine (kR (i:=ev) (k:=2) rfl rfl (by decide)).is (congrArg (Value.int .i64) he')|refine (kR (i:=fa) (k:=1) rfl rfl (by decide)).is (congrArg (Value.int .i64) hf')|refine kR (i:=ma) (k:=3) rfl rfl (by decide)|refine (kR (i:=ta) (k:=11) rfl rfl (by decide)).is (congrArg (Value.int .i64) ht')|refine iX (m:=q % 32) (n:=31) rfl rfl (by omega)|refine (cT (m:=1) (n:=q % 32 % 31) rfl rfl (by omega)).is (congrArg (Value.int .i64) hq')|refine (cT (m:=1) (n:=ma % 8) rfl rfl (by omega)).is (congrArg (Value.int .i64) hm')|refine bR (cs:=Ac h2 q' e' f' fo wa tu m' t') (Ty.bH rfl) (Ty.iJ rfl) (O8 h2o)) rfl ?_))
 refine aA (aJ 1 (vs:=(Ac h2 q' e' f' fo wa tu m' t').toArray) (s:=139) hH rfl rfl rfl (by rw [List.size_toArray];exact qP h2o) (by rw [List.size_toArray];exact qP SH.nP) Kb (Ty.aF rfl) ?_)
 clear hH
 intro _ hH
 replace hH:=aI hH
 refine aK ?_
 exact bP Tryz.func11 rfl rfl (hH.b 1 rfl) (by rw [List.size_toArray];exact qP h2o) (Ty.aF rfl) ⟨⟨h2,q',e',f',fo,wa,tu,m',t'⟩,rfl,⟨h2o,h2e,hq3,by simp only;omega,hm3,by simp only;omega,by simp only;omega⟩,⟨by simp only;omega,by simp only;omega,by simp only;omega⟩,⟨by simp only;omega,by simp only;omega,by simp only;omega⟩,hf3,hH.ext⟩
abbrev sz:List Value:=SH.zero.cells++[.slice none 0 0]
theorem PK {h:SH} (ho:h.ok):dU (fun i=>([(0,131),(131,1)]:List (Nat × Nat))[i]?) sz [(0,.agg h.cells.toArray)]=some (ST.cells ⟨h,none,0,[]⟩):=by
 have hl:=SH.bK ho
 have h0:SH.zero.cells.length=131:=SH.bK SH.nP
 simp [dU,gG,Value.cells,hl,h0]
 rfl
theorem Me {h:SH} (ho:h.ok) {a a':Option Addr} {c c':Nat} {l l':List PR}:(ST.cells ⟨h,a,c,l⟩).set (0+131) (.slice a' l'.length c')=ST.cells ⟨h,a',c',l'⟩:=by
 have hl:=SH.bK ho
 show (h.cells++[_]).set (0+131) _=h.cells++[_]
 rw [List.set_append_right _ _ (by omega),hl]
 rfl
theorem iP (s:ST):∀ v∈s.cells.toArray.toList,v.oneCell'=true:=fun v hv=>by
 have hv2:v∈s.h.cells++[.slice s.a s.ps.length s.cap]:=hv
 rcases List.mem_append.1 hv2 with h|h
 ·exact cells_one s.h v (by simpa using h)
 ·simp at h;subst h;rfl
theorem sQ {pl:Nat→Option (Nat × Nat)} {l T:List Value} {i o sz:Nat} {v:Value} {rest:List (Nat × Value)} (hp:pl i=some (l.length+o,sz)) (hv:v.cells.size=sz) (ho:o+sz≤T.length):dU pl (l++T) ((i,v)::rest)=dU pl (l++gG T o v.cells.toList) rest:=by
 rw [dU,hp]
 simp only
 rw [hv,Nat.beq_refl,Nat.ble_eq_true_of_le (show l.length+o+sz≤(l++T).length by rw [List.length_append];omega),vY (by omega),Nat.add_sub_cancel_left]
 rfl
theorem Fk {pl:Nat→Option (Nat × Nat)} {l T vs:List Value} {rest:List (Nat × Value)} (hp:pl 0=some (0,l.length)) (h:vs.length=l.length):dU pl (l++T) ((0,.agg vs.toArray)::rest)=dU pl (vs++T) rest:=by
 rw [dU,hp]
 show cond (Nat.beq vs.toArray.size l.length && Nat.ble (0+l.length) (l++T).length) (dU pl (gG (l++T) 0 vs) rest) none=_
 rw [List.size_toArray,h,Nat.beq_refl,Nat.ble_eq_true_of_le (show 0+l.length≤(l++T).length by rw [List.length_append];omega)]
 unfold gG
 rw [List.take_zero,List.nil_append,h,Nat.zero_add,List.drop_left]
 rfl
abbrev Qk:List Value:=.pointer none::(fz++[.int .i64 0,.int .i64 0,.pointer none,.bool false,.bool false])
abbrev E0 (C:CF) (bc:Nat) (g:FM):ES:=⟨C,bc,g,C.q0,0,.pointer none,false,false⟩
theorem N5 {C:CF} (ho:C.h.ok) {bc:Nat} {g:FM}:dU (fun i=>([(0,139),(139,1),(140,11),(151,1),(152,1),(153,1),(154,1),(155,1)]:List (Nat × Nat))[i]?) (No++Qk) [(0,.agg C.cells.toArray),(1,pt bc),(2,.agg g.cells.toArray),(3,.int .i64 C.q0)]=some (E0 C bc g).cells:=by
 have hcl:C.cells.length=139:=by rw [CF.cells,List.length_append,SH.bK ho];rfl
 have h0:No.length=139:=by rw [No,List.length_append,SH.bK SH.nP];rfl
 rw [Fk (by rw [h0];rfl) (by rw [hcl,h0]),sQ (o:=0) (sz:=1) (by rw [hcl];rfl) rfl (Nat.le_of_ble_eq_true rfl),sQ (o:=1) (sz:=11) (by rw [hcl];rfl) rfl (Nat.le_of_ble_eq_true rfl),sQ (o:=12) (sz:=1) (by rw [hcl];rfl) rfl (Nat.le_of_ble_eq_true rfl)]
 show some (C.cells++_)=some (C.h.cells++(C.tail++_))
 rw [CF.cells,List.append_assoc]
 rfl
theorem gW {s:ST} (ho:s.h.ok):s.cells.length=132:=by
 show (s.h.cells++[_]).length=132
 rw [List.length_append,SH.bK ho]
 rfl
theorem Ah {s:ST} (ho:s.h.ok):s.cells.toArray[0+131]?=some (.slice s.a s.ps.length s.cap):=by
 show (s.h.cells++[_]).toArray[0+131]?=_
 rw [List.getElem?_toArray,List.getElem?_append_right (by rw [SH.bK ho];decide),SH.bK ho]
 rfl
theorem Kq {e:ES} {F:FM} (ho:e.C.h.ok):e.cells.take (0+140)++F.cells++e.cells.drop (0+140+F.cells.length)=({ e with g:=F }:ES).cells:=by
 have hl:(e.C.h.cells++(e.C.tail++[pt e.bc])).length=0+140:=by rw [List.length_append,SH.bK ho];rfl
 have h:∀ g:FM,({ e with g:=g }:ES).cells=(e.C.h.cells++(e.C.tail++[pt e.bc]))++(g.cells++[.int .i64 e.qp,.int .i64 e.pic,e.ed,.bool e.down,.bool e.inter]):=fun g=>by simp
 have h1:=h e.g
 rw [h F,show e.cells=_ from h1,List.take_left' hl,← List.drop_drop,List.drop_left' hl,List.append_assoc]
 congr 1
theorem Ke:bH Tryz.prog 105=some (No++Qk):=Ty.bH (by kernel_rfl)
theorem J7:HJ Tryz.prog 105=some [(0,139),(139,1),(140,11),(151,1),(152,1),(153,1),(154,1),(155,1)]:=Ty.iJ (by kernel_rfl)
theorem Hp.pick {S:List Nat} {W w:World} {H:List cK} (h:Hp S W w H) (is:List Nat) (hn:is.Nodup):Hp S W w (is.filterMap fun i=>H[i]?):=by
 refine ⟨h.ext,fun r hr=>?_,fun r hr=>?_,?_⟩
 ·obtain ⟨i,_,hi⟩:=List.mem_filterMap.1 hr
  exact h.at i hi
 ·obtain ⟨i,_,hi⟩:=List.mem_filterMap.1 hr
  exact h.new r (List.mem_of_getElem? hi)
 ·rw [List.pairwise_filterMap]
  exact hn.imp (fun hij a ha b hb=>h.dj _ _ ha hb hij)
theorem Ja {W w u:World} {H:List cK} (h:Hp [] W w H) (n:Nat) (hE:Ext (eY (H.take n)) w u):Ext [] W u :=
 h.ext.trans hE (fun t ht=>by
  obtain ⟨r,hr,htr⟩:=List.mem_flatMap.1 ht
  exact h.new r (List.mem_of_mem_take hr) t htr)
theorem Gu {S:List Nat} {W w:World} {H:List cK} {b:Nat} {e:TypeId} {cs:List Value} (i:Nat) (h:Hp S W w H) (hi:H[i]?=some (Rb b e cs.toArray)):Hp S W w (H.set i (Rs (some ⟨b,0,none⟩) cs)) :=
 h.as i hi (fun x hx=>by
  unfold Rs at hx
  simp only at hx
  split at hx
  ·cases hx
  ·exact hx) (fun h=>h.cX)
theorem Mw {S:List Nat} {W w:World} {H:List cK} {c r y u z:Nat} (h:Hp S W w (QI c r y u z 128++H)):Hp S W w (rS (GV c r y u z)::H):=by
 have e:∀ n,(List.replicate n 128).map B=List.replicate n (Value.int .u8 (128:Nat)):=fun n=>by rw [List.map_replicate]
 have h1:=((Gu 2 (Gu 1 (Gu 0 h rfl) rfl) rfl).merge 1 2 rfl rfl (by decide)).merge 0 1 rfl rfl (by decide)
 have e2:rS (GV c r y u z)=(Rs (some ⟨y,0,none⟩) (List.replicate (16*c*(16*r)) (Value.int .u8 (128:Nat)))).and ((Rs (some ⟨u,0,none⟩) (List.replicate (8*c*(8*r)) (Value.int .u8 (128:Nat)))).and (Rs (some ⟨z,0,none⟩) (List.replicate (8*c*(8*r)) (Value.int .u8 (128:Nat))))):=by
  show (Rs _ ((List.replicate _ 128).map B)).and ((Rs _ ((List.replicate _ 128).map B)).and (Rs _ ((List.replicate _ 128).map B)))=_
  rw [e,e]
 have h2:=h1.as (r':=rS (GV c r y u z)) 0 rfl (fun x hx=>by rw [e2] at hx;exact hx) (fun hh=>by rw [e2];exact ⟨hh.1,hh.2.1.1,hh.2.1.2.1⟩)
 exact h2
set_option maxRecDepth 20000 in
set_option maxHeartbeats 16000000 in
theorem iZ {C:CF} {fs:List FM} {af:Option Addr} {cap c r:Nat} {w:World} (hC:C.ok) (hcc:C.h.c=c) (hrr:C.h.r=r) (hc:1≤c∧c≤8) (hr:1≤r∧r≤8) (hfl:1≤fs.length∧fs.length≤16) (hfs:∀ f∈fs,f.ok c r) (hA:cI w af (fs.flatMap FM.cells)) (hR:∀ f∈fs,f.rd w) :
  aX Tryz.prog 10 #[.agg C.cells.toArray,.slice af fs.length cap] w fun v w'=>∃ (s:ST) (a2:Option Addr) (c2:Nat),v=.tuple #[.agg s.cells.toArray,.slice a2 fs.length c2,.int .i64 0]∧s.ok c r∧s.ps.length=fs.length∧Hp [] w w' [Rs s.a (s.ps.flatMap PR.cells),RZ rP s.ps]:=by
 refine aL (args:=[_,_]) Tryz.func10 rfl rfl Tryz.ntmps10 rfl ?_
 have hH:=((Hp.start w).nu (iA.Lp (a:=none))).nu (iA.Lp (a:=none))
 replace hH:=aI hH
 have ho:=hC.ho
 have hcl:C.cells.length=139:=by rw [CF.cells,List.length_append,SH.bK ho];rfl
 have hlc:C.cells.toArray[0+0+0]?=some (.int .i64 c):=by rw [← hcc];rfl
 have hlr:C.cells.toArray[0+0+1]?=some (.int .i64 r):=by rw [← hrr];rfl
 have hfm:=dQ (f:=FM.cells) (sz:=11) (l:=fs) (fun _ _=>rfl)
 refine aK ?_
 refine aO ?_
 refine aA (bI (cs:=C.cells.toArray) hH rfl rfl rfl ?_)
 try clear hH
 intro _ b2 hH
 replace hH:=aI hH
 refine aK ?_
 refine aA (aQ (zs:=sz) hH (Ty.bH rfl) rfl ?_)
 try clear hH
 intro _ b4 hH
 replace hH:=aI hH
 have hB2:=hH.b 2 rfl
 repeat (first|refine aR ?_|(refine aD (by refine aE rfl hB2 (by rw [List.size_toArray,hcl]) (Ty.aF rfl)) rfl ?_)|refine aT ?_)
 clear hB2
 refine aO ?_
 refine aA (aC ((Aa hC)) rfl rfl ?_)
 rintro _ _ ⟨rfl,hE0⟩
 replace hH:=hH.aH hE0
 clear hE0
 replace hH:=aI hH
 refine aK ?_
 refine aV (G:=(Nat)) (fun j=>fs.length-j) 1152921470247109216 (fun j=>[(35,.int .i64 j)]) (fun j w'=>j≤fs.length∧Hp [] w w' [Rs none [],Rs none [],Rb b2 28 C.cells.toArray,Rb b4 34 sz.toArray]) (0) ⟨rfl,trivial⟩ ⟨by omega,hH⟩ ?_
 rintro j w' σ ⟨hj,hH⟩ IH
 show WS _ _ _ _ _ (bQ [(35,.int .i64 j)] _) _
 by_cases hjl:j<fs.length
 ·obtain ⟨f,hf⟩:∃ f,fs[j]?=some f:=⟨_,List.getElem?_eq_getElem hjl⟩
  have hfo:=hfs f (List.mem_of_getElem? hf)
  have hat:=jV (f:=FM.cells) (sz:=11) (fun _ _=>rfl) hf
  have hSf:=hA.aH hH.ext
  repeat (first|refine aR ?_|(refine aD (by first|refine gE (sz:=11) rfl rfl hSf hfm (by decide) (Ty.sle rfl) (by omega)|refine bG (j:=j*11) (cs:=f.cells) rfl hSf hat rfl (Ty.aF rfl)) rfl ?_)|refine aT ?_)
  clear hSf
  refine aO ?_
  refine aA (aQ hH (Ty.bH rfl) rfl ?_)
  try clear hH
  intro _ b9 hH
  replace hH:=aI hH
  refine aK ?_
  refine aO ?_
  refine aA (aJ 4 (vs:=f.cells.toArray) (s:=11) hH rfl rfl rfl (by rfl) (by rfl) (by simp [Value.oneCell']) (Ty.aF rfl) ?_)
  try clear hH
  intro _ hH
  replace hH:=aI hH
  have hB9:=hH.b 4 rfl
  repeat (first|refine aR ?_|(refine aD (by refine aE rfl hB9 rfl (Ty.aF rfl)) rfl ?_))
  clear hB9
  refine aO ?_
  refine aA (aC ((lI hc hr hfo)) rfl rfl ?_)
  rintro _ _ ⟨rfl,hE0⟩
  replace hH:=hH.aH hE0
  clear hE0
  replace hH:=aI hH
  have hB9:=hH.b 4 rfl
  have hB2:=hH.b 2 rfl
  have hf0:f.cells.toArray[0+0]?=some (.int .i64 c):=by rw [← hfo.hc];rfl
  have hf1:f.cells.toArray[0+1]?=some (.int .i64 r):=by rw [← hfo.hr];rfl
  repeat (first|refine aR ?_|(refine aD (by first|refine aN rfl (Ty.bA rfl rfl)|refine aB rfl hB9 hf0 (Ty.aF rfl)|refine aB rfl hB9 hf1 (Ty.aF rfl)|refine aB rfl hB2 hlc (Ty.aF rfl)|refine aB rfl hB2 hlr (Ty.aF rfl)) rfl ?_)|refine aT ?_)
  clear hB9 hB2
  replace hH:=hH.del 4
  replace hH:=aI hH
  refine IH (j+1) _ _ ?_ ?_ ?_ ?_
  ·omega
  ·exact ⟨rfl,trivial⟩
  ·exact cP
  ·exact ⟨by omega,hH⟩
 ·obtain rfl:j=fs.length:=by omega
  clear IH
  refine aK ?_
  refine oG fun w9 hw9=>?_
  rw [← hw9] at hH
  clear hw9
  have hB2:=hH.b 2 rfl
  have hlq:C.cells.toArray[0+131]?=some (.int .i64 C.q0):=(cQ ho (Nat.le_of_ble_eq_true rfl)).trans rfl
  refine cD Ty.mixed 14 rfl (fun w1 hx1=>?_)
  refine aY 0 hx1 rfl (fun w' hw'=>by refine aE rfl (hB2.aH hw') (by rw [List.size_toArray,hcl]) (Ty.aF rfl)) ?_
  refine uN ?_
  refine D8 ?_
  refine aY 4 hx1 rfl (fun w' hw'=>by refine aB rfl (hB2.aH hw') hlc (Ty.aF rfl)) ?_
  refine Gf ?_
  refine xD ?_
  refine aY 7 hx1 rfl (fun w' hw'=>by refine aB rfl (hB2.aH hw') hlr (Ty.aF rfl)) ?_
  refine AJ ?_
  refine aY 10 hx1 rfl (fun w' hw'=>by refine aB rfl (hB2.aH hw') hlq (Ty.aF rfl)) ?_
  refine bC 1 (by kernel_rfl) rfl rfl (aC yU rfl rfl ?_)
  rintro _ w2 ⟨k,hk,rfl,hNk⟩
  have hx2:=hx1.bO hNk.ext
  refine ⟨hx2,?_⟩
  replace hH:=(hH.aH hx1).nu hNk
  refine bC 8 (by kernel_rfl) rfl rfl (aC (fZ (c:=c) (r:=r) (x:=128) hc.2 hr.2) rfl rfl ?_)
  rintro _ w3 ⟨y2,u2,z2,rfl,hQ⟩
  have hx3:=hx2.bO hQ.ext
  refine ⟨hx3,?_⟩
  replace hH:=Mw (hH.calls 0 hQ)
  replace hH:=aI hH
  refine aY 11 hx3 rfl (fun w' hw'=>by refine bR (cs:=(E0 C k.bc (GV c r y2 u2 z2)).cells) Ke J7 (N5 (bc:=k.bc) (g:=GV c r y2 u2 z2) ho)) ?_
  refine bC 12 (by kernel_rfl) rfl rfl (Ca (cs:=(E0 C k.bc (GV c r y2 u2 z2)).cells.toArray) rfl rfl rfl ?_)
  intro w4 bx hbx hE4 hB4 _
  have hx4:=hx3.bO hE4
  refine ⟨hx4,?_⟩
  replace hH:=hH.nu (r:=Rb bx 105 (E0 C k.bc (GV c r y2 u2 z2)).cells.toArray) ⟨hE4,hB4,fun x hx=>by simp [Rb] at hx;omega⟩
  replace hH:=aI hH
  refine bE 13 hx4 ?_
  refine aW (by kernel_rfl) ?_
  clear hx1 hx2 hx3 hx4 hE4 hB4 hbx hNk hQ hB2 hlq
  replace hH:=Hp.pick hH [6,5,0,2,1,3,4] (by decide)
  replace hH:=aI hH
  have hcl0:∀ C':CF,C'.h.ok→(C'.cells.drop (0+0)).take 131=C'.h.cells:=fun C' h=>uD h
  have hS2:cI _ (some ⟨b2,0,none⟩) C.cells:=(hH.b 5 rfl).cX
  repeat (first|refine aR ?_|(refine aD (by first|refine aN rfl (Ty.bA rfl rfl)|refine bG (j:=0+0) (cs:=C.h.cells) rfl hS2 (hcl0 C ho) (SH.bK ho) (Ty.aF rfl)|refine bR (cs:=ST.cells ⟨C.h,none,0,[]⟩) (Ty.bH rfl) (Ty.iJ rfl) (PK (h:=C.h) ho)) rfl ?_))
  clear hS2
  refine aA (aQ (zs:=sz) hH (Ty.bH rfl) rfl ?_)
  try clear hH
  intro _ b11 hH
  replace hH:=aI hH
  refine aK ?_
  refine aA (aJ 7 (vs:=(ST.cells ⟨C.h,none,0,[]⟩).toArray) (s:=132) hH rfl rfl rfl (by rw [List.size_toArray];exact gW (s:=⟨C.h,none,0,[]⟩) ho) (by kernel_rfl) (iP _) (Ty.aF rfl) ?_)
  clear hH
  intro _ hH
  replace hH:=((hH.nu (iA.HU (r:=rP))).nu (iA.tY (e:=60) (sz:=5))).nu (iA.tY (e:=54) (sz:=11))
  replace hH:=aI hH
  refine aK ?_
  obtain ⟨e0,he0⟩:∃ e0:ES,e0=E0 C k.bc (GV c r y2 u2 z2):=⟨_,rfl⟩
  obtain ⟨g0,hg0⟩:∃ g0:FM,g0=GV c r y2 u2 z2:=⟨_,rfl⟩
  rw [← he0,← hg0] at hH
  have he1:e0.C=C∧e0.bc=k.bc∧e0.g=g0∧(1≤e0.qp∧e0.qp≤31):=by rw [he0,hg0];exact ⟨rfl,rfl,rfl,hC.q⟩
  have hgo:g0.ok c r:=by rw [hg0];exact G6
  clear he0 hg0
  refine aV (G:=(Nat) × (List PR) × (Option Addr) × (Nat) × (Option Addr) × (Nat) × (List Value) × (ES) × (FM)) (fun|(i,ps,a1,c1,a2,c2,ss,e,g)=>fs.length-i) 1298074214331475452228966788886624 (fun|(i,ps,a1,c1,a2,c2,ss,e,g)=>[(12,.slice a2 i c2),(78,.int .i64 i)]) (fun|(i,ps,a1,c1,a2,c2,ss,e,g),w'=>i≤fs.length∧ps.length=i∧(∀ (j:Nat) (q:PR),ps[j]?=some q→q.ok c r j)∧(e.C=C∧e.bc=k.bc∧e.g=g∧(1≤e.qp∧e.qp≤31))∧g.ok c r∧Hp [] w w' [Rb bx 105 e.cells.toArray,RK k,rS g,Rs none [],Rs none [],Rb b2 28 C.cells.toArray,Rb b4 34 sz.toArray,Rb b11 34 (ST.cells ⟨C.h,a1,c1,ps⟩).toArray,RZ rP ps,Ro 60 5 a1 ps.length c1 (ps.flatMap PR.cells),Ro 54 11 a2 i c2 ss]) (0,[],none,0,none,0,[],e0,g0) ⟨rfl,rfl,trivial⟩ ⟨by omega,rfl,by simp,he1,hgo,hH⟩ ?_
  rintro ⟨i,ps,a1,c1,a2,c2,ss,e,g⟩ w' σ ⟨hi,hpl,hps,⟨he1,he2,he3,he4⟩,hgo,hH⟩ IH
  show WS _ _ _ _ _ (bQ [(12,.slice a2 i c2),(78,.int .i64 i)] _) _
  by_cases hil:i<fs.length
  ·obtain ⟨f,hf⟩:∃ f,fs[i]?=some f:=⟨_,List.getElem?_eq_getElem hil⟩
   have hfm2:=List.mem_of_getElem? hf
   have hfo:=hfs f hfm2
   have hat:=jV (f:=FM.cells) (sz:=11) (fun _ _=>rfl) hf
   have hSf:=hA.aH hH.ext
   repeat (first|refine aR ?_|(refine aD (by first|refine gE (sz:=11) rfl rfl hSf hfm (by decide) (Ty.sle rfl) (by omega)|refine bG (j:=i*11) (cs:=f.cells) rfl hSf hat rfl (Ty.aF rfl)) rfl ?_)|refine aT ?_)
   clear hSf
   refine aO ?_
   refine aA (aQ hH (Ty.bH rfl) rfl ?_)
   try clear hH
   intro _ b14 hH
   replace hH:=aI hH
   refine aK ?_
   refine aO ?_
   refine aA (aJ 11 (vs:=f.cells.toArray) (s:=11) hH rfl rfl rfl (by rfl) (by rfl) (by simp [Value.oneCell']) (Ty.aF rfl) ?_)
   try clear hH
   intro _ hH
   replace hH:=aI hH
   have hB14:=hH.b 11 rfl
   repeat (first|refine aR ?_|(refine aD (by refine aE rfl hB14 rfl (Ty.aF rfl)) rfl ?_)|refine aT ?_)
   clear hB14
   subst he3
   refine aO ?_
   refine aA (aC ((xQ (i:=i) (c:=c) (r:=r) (k:=k) (e:=e) (f:=f) hk (by rw [he1];exact hC) (by rw [he1];exact hcc) (by rw [he1];exact hrr) hc hr (by omega) he2 he4 hgo hfo (hH.jO 3) (fun u hE=>(hR f hfm2).ext (Ja hH 3 hE)))) rfl rfl ?_)
   rintro _ _ ⟨p,F,e',rfl,hpo,hFo,⟨hq1,hq2,hq3,hq4⟩,hQ⟩
   replace hH:=hH.calls 3 hQ
   clear hQ
   replace hH:=aI hH
   refine aK ?_
   refine aO ?_
   refine aA (aQ hH (Ty.bH rfl) rfl ?_)
   try clear hH
   intro _ b15 hH
   replace hH:=aI hH
   refine aK ?_
   refine aO ?_
   refine aA (aQ hH (Ty.bH rfl) rfl ?_)
   try clear hH
   intro _ b16 hH
   replace hH:=aI hH
   refine aK ?_
   refine aO ?_
   refine aA (aJ 15 (vs:=p.cells.toArray) (s:=5) hH rfl rfl rfl (by rfl) (by rfl) (by simp [Value.oneCell']) (Ty.aF rfl) ?_)
   try clear hH
   intro _ hH
   replace hH:=aI hH
   refine aK ?_
   refine aO ?_
   refine aA (aJ 16 (vs:=F.cells.toArray) (s:=11) hH rfl rfl rfl (by rfl) (by rfl) (by simp [Value.oneCell']) (Ty.aF rfl) ?_)
   try clear hH
   intro _ hH
   replace hH:=aI hH
   replace hH:=Hp.pick hH [1,2,0,6,7,8,9,10,11,12,13,15,16,5] (by decide)
   replace hH:=aI hH
   have hB11:=hH.b 7 rfl
   have hB15:=hH.b 11 rfl
   repeat (first|refine aR ?_|(refine aD (by first|refine aN rfl (Ty.bA rfl rfl)|refine aB rfl hB11 (Ah (s:=⟨C.h,a1,c1,ps⟩) ho) (Ty.aF rfl)|refine aE rfl hB15 rfl (Ty.aF rfl)) rfl ?_)|refine aT ?_)
   refine aO ?_
   refine aA (cN (out:=[.int .i64 p.h.id,.bool p.h.inter,.bool p.h.down,.int .i64 p.h.qp,.slice p.a p.gs.length p.cap]) hH (Ty.sle rfl) (Ty.bH rfl) rfl rfl rfl (by decide) rfl ?_)
   try clear hH
   intro _ blit hH
   replace hH:=aI hH
   refine aO ?_
   refine aA (bZ 9 hH rfl (Ty.sle rfl) (Ty.bH rfl) rfl (Ty.gS rfl) (by decide) rfl rfl ((hH.b 14 rfl).cX) (by simp;try omega) (by simp) (by omega) (by simp only [maxLen];omega) rfl ?_)
   try clear hH
   intro _ a9 c9 hH
   replace hH:=aI hH
   replace hH:=hH.del 14
   replace hH:=aI hH
   repeat ((refine aD (by refine aN rfl (Ty.bA rfl rfl)) rfl ?_))
   clear hB11 hB15
   refine aA (bV 7 (o:=0+131) (v:=.slice a9 (ps.length+1) c9) hH rfl rfl rfl (by rw [gW (s:=⟨C.h,a1,c1,ps⟩) ho];decide) rfl (Ty.aF rfl) ?_)
   clear hH
   intro _ hH
   have hpl1:ps.length+1=(ps++[p]).length:=by simp
   have hpc:ps.flatMap PR.cells++[.int .i64 p.h.id,.bool p.h.inter,.bool p.h.down,.int .i64 p.h.qp,.slice p.a p.gs.length p.cap]=(ps++[p]).flatMap PR.cells:=by simp
   replace hH:=aI hH
   rw [hpl1,hpc,Me (h:=C.h) ho] at hH
   replace hH:=RZ.add (r:=rP) (e:=p) 8 13 hH rfl rfl (by decide)
   replace hH:=aI hH
   have hpl2:(ps++[p]).length=i+1:=by simp [hpl]
   have hps2:∀ (j:Nat) (q:PR),(ps++[p])[j]?=some q→q.ok c r j:=fun j q9 hj=>by
    by_cases hji:j<i
    ·exact hps j q9 (by rw [List.getElem?_append_left (by omega)] at hj;exact hj)
    ·have hj1:j<(ps++[p]).length:=(List.getElem?_eq_some_iff.1 hj).1
     obtain rfl:j=i:=by omega
     rw [List.getElem?_append_right (by omega),hpl,Nat.sub_self] at hj
     obtain rfl:p=q9:=Option.some.inj hj
     exact hpo
   generalize ps++[p]=ps2 at *
   have hB16:=hH.b 12 rfl
   repeat (first|refine aR ?_|(refine aD (by refine aE rfl hB16 rfl (Ty.aF rfl)) rfl ?_)|refine aT ?_)
   clear hB16
   refine aA (cN (out:=F.cells) hH (Ty.sle rfl) (Ty.bH rfl) rfl rfl rfl (by decide) rfl ?_)
   clear hH
   intro _ b19 hH
   replace hH:=aI hH
   refine aA (bZ 10 hH rfl (Ty.sle rfl) (Ty.bH rfl) rfl (Ty.gS rfl) (by decide) rfl rfl (hH.b 13 rfl).cX rfl (by simp [Value.oneCell']) (by omega) (by simp only [maxLen];omega) rfl ?_)
   clear hH
   intro _ a8 c8 hH
   replace hH:=hH.del 13
   replace hH:=aI hH
   obtain ⟨s2,hs2⟩:∃ s2,ss++F.cells=s2:=⟨_,rfl⟩
   rw [hs2] at hH
   have hB16:=hH.b 12 rfl
   repeat (first|refine aR ?_|(refine aD (by first|refine aG rfl|refine aN rfl (Ty.bA rfl rfl)|refine aE rfl hB16 rfl (Ty.aF rfl)) rfl ?_)|refine aT ?_)
   clear hB16
   have ho':e'.C.h.ok:=by rw [hq1,he1];exact ho
   refine aA (mL 0 (o:=0+140) (vs:=F.cells) (s:=11) hH rfl rfl rfl (by rw [kN ho'];exact (by decide:0+140+11≤156)) (by simp [Value.oneCell']) (Ty.aF rfl) rfl ?_)
   clear hH
   intro _ hH
   rw [Kq ho'] at hH
   replace hH:=hH.take 11
   replace hH:=aI hH
   refine aK ?_
   refine IH (i+1,ps2,a9,c9,a8,c8,s2,({ e' with g:=F }:ES),F) _ _ ?_ ?_ ?_ ?_
   ·simp only;omega
   ·exact ⟨rfl,rfl,trivial⟩
   ·exact cP
   ·exact ⟨by omega,hpl2,hps2,⟨by rw [hq1,he1],hq2,rfl,hq4⟩,hFo,hH⟩
  ·obtain rfl:i=fs.length:=by omega
   clear IH
   have hB11:=hH.b 7 rfl
   have hsl:=gW (s:=⟨C.h,a1,c1,ps⟩) ho
   repeat (first|refine aR ?_|(refine aD (by refine aE rfl hB11 (by rw [List.size_toArray,hsl]) (Ty.aF rfl)) rfl ?_)|refine aT ?_)
   clear hB11
   refine aA (aJ 6 (vs:=(ST.cells ⟨C.h,a1,c1,ps⟩).toArray) (s:=132) hH rfl rfl rfl (by rw [List.size_toArray,hsl]) (by kernel_rfl) (iP _) (Ty.aF rfl) ?_)
   clear hH
   intro _ hH
   replace hH:=aI hH
   refine aK ?_
   have hB4:=hH.b 6 rfl
   replace hH:=Rs.of 9 hH rfl
   replace hH:=Hp.pick hH [9,8] (by decide)
   replace hH:=aI hH
   exact jR Tryz.func10 rfl rfl hB4 (by rw [List.size_toArray,hsl]) (Ty.aF rfl) ⟨⟨C.h,a1,c1,ps⟩,a2,c2,rfl,⟨ho,hC.he,hcc,hrr,by simp only;omega,hps⟩,hpl,hH⟩
def RV (p:Option Addr × Nat) (n:Nat):cK where
 fp:=dI p.1
 holds:=fun w=>∃ S:List Nat,S.length=n∧gR S∧(gH p.1 p.2 S).holds w
 keep:=fun ⟨S,h1,h2,h3⟩ hE hS=>⟨S,h1,h2,(gH p.1 p.2 S).keep h3 hE hS⟩
 lt:=fun ⟨S,_,_,h3⟩=>(gH p.1 p.2 S).lt h3
theorem RV.dX {p:Option Addr × Nat} {n x i:Nat} {S:List Nat} {w w':World} (hl:S.length=n) (hb:gR S) (hx:x<256) (hU:jA (gH p.1 p.2 S) (gH p.1 p.2 (S.set i x)) w w'):jA (RV p n) (RV p n) w w' :=
 ⟨hU.ext,⟨S.set i x,by rw [List.length_set,hl],fun c hc=>by
  rcases List.mem_or_eq_of_mem_set hc with h|rfl
  ·exact hb c h
  ·exact hx,hU.holds⟩,hU.fp⟩
theorem K9 (i:Int):∃ x:Nat,IntKind.wrap .u8 i=(x:Int)∧x<256:=⟨(i % 256).toNat,by
 show i % 256=_
 omega,by omega⟩
abbrev P2:=Option Addr × Nat
abbrev jH (c r:Nat) (y u v:P2):FM:=⟨c,r,⟨y.1,y.2,[]⟩,⟨u.1,u.2,[]⟩,⟨v.1,v.2,[]⟩⟩
theorem LR {i:Nat} {a:Int} (hi:i≤128) (ha:-100≤a∧a≤100):-12800≤(i:Int)*a∧(i:Int)*a≤12800:=by
 obtain ⟨n,rfl|rfl⟩:=Int.eq_nat_or_neg a
 ·have h:=Nat.mul_le_mul hi (show n≤100 by omega)
  have e:(i:Int)*(n:Int)=((i*n:Nat):Int):=by simp
  omega
 ·have h:=Nat.mul_le_mul hi (show n≤100 by omega)
  have e:(i:Int) * -(n:Int)=-((i*n:Nat):Int):=by rw [Int.mul_neg];simp
  omega
set_option maxHeartbeats 4000000 in
theorem tN {c r fr:Nat} {ri dn:Int} {y u v:P2} {w:World} (hc:c≤8) (hr:r≤8) (hfr:fr<256) (hri:-100≤ri∧ri≤100) (hdn:-100≤dn∧dn≤100) (hR:(RV y (16*c*(16*r))).holds w) :
  aX Tryz.prog 64 #[.agg (jH c r y u v).cells.toArray,.int .i64 fr,.int .i64 ri,.int .i64 dn] w fun x w'=>x=.tuple #[]∧jA (RV y (16*c*(16*r))) (RV y (16*c*(16*r))) w w':=by
 refine aL (args:=[_,_,_,_]) Tryz.func64 rfl rfl Tryz.ntmps64 rfl ?_
 have hH:=Hp.fI hR
 refine aK ?_
 refine aO ?_
 refine aA (bI (cs:=(jH c r y u v).cells.toArray) hH rfl rfl rfl ?_)
 try clear hH
 intro _ b4 hH
 replace hH:=aI hH
 have hB4:=hH.b 1 rfl
 repeat (first|refine aR ?_|(refine aD (by first|refine aN rfl (Ty.bA rfl rfl)|refine aB (v:=.int .i64 (16*r:Nat)) rfl hB4 rfl (Ty.aF rfl)) rfl ?_)|refine aT ?_)
 clear hB4
 refine aV (G:=(Nat)) (fun j=>16*r-j) 1099511620352 (fun j=>[(13,.int .i64 j)]) (fun j w'=>j≤16*r∧Hp (RV y (16*c*(16*r))).fp w w' [RV y (16*c*(16*r)),Rb b4 54 (jH c r y u v).cells.toArray]) (0) ⟨rfl,trivial⟩ ⟨by omega,hH⟩ ?_
 rintro j w' σ ⟨hj,hH⟩ IH
 show WS _ _ _ _ _ (bQ [(13,.int .i64 j)] _) _
 by_cases hjl:j<16*r
 ·have hB4:=hH.b 1 rfl
  repeat (first|refine aR ?_|(refine aD (by first|refine aN rfl (Ty.bA rfl rfl)|refine aB (v:=.int .i64 (16*c:Nat)) rfl hB4 rfl (Ty.aF rfl)) rfl ?_)|refine aT ?_)
  clear hB4
  refine aV (G:=(Nat)) (fun i=>16*c-i) 549755290112 (fun i=>[(19,.int .i64 i)]) (fun i w'=>i≤16*c∧Hp (RV y (16*c*(16*r))).fp w w' [RV y (16*c*(16*r)),Rb b4 54 (jH c r y u v).cells.toArray]) (0) ⟨rfl,trivial⟩ ⟨by omega,hH⟩ ?_
  rintro i w' σ ⟨hi,hH⟩ IH2
  show WS _ _ _ _ _ (bQ [(19,.int .i64 i)] _) _
  by_cases hil:i<16*c
  ·have hB4:=hH.b 1 rfl
   have hS4:cI _ (some ⟨b4,0,none⟩) (jH c r y u v).cells:=hB4.cX
   have h1:=LR (i:=i) (a:=ri) (by omega) hri
   have h2:=LR (i:=j) (a:=dn) (by omega) hdn
   obtain ⟨s,hs⟩:∃ s:Int,(i:Int)*ri+(j:Int)*dn=s:=⟨_,rfl⟩
   obtain ⟨q,hq⟩:∃ q:Int,s.tdiv 16=q:=⟨_,rfl⟩
   have hqb:-25600≤q∧q≤25600:=by
    have h3:q.natAbs=s.natAbs / 16:=by rw [← hq];exact Int.natAbs_tdiv s 16
    omega
   obtain ⟨x,hx,hx8⟩:=K9 ((fr:Int)+q)
   repeat (first|refine aR ?_|(refine aD (by first|refine aN rfl (Ty.bA rfl rfl)|refine bG (j:=0+2) (cs:=mI.cells (16*c) (16*r) ⟨y.1,y.2,[]⟩) rfl hS4 rfl rfl (Ty.aF rfl)|refine bN rfl rfl (by omega)|refine (cT (m:=(i:Int)*ri) (n:=(j:Int)*dn) rfl rfl (by omega)).is (congrArg (Value.int .i64) hs)|refine (Hv (m:=s) (n:=16) rfl rfl (by omega)).is (congrArg (Value.int .i64) hq)|refine cT (m:=fr) (n:=q) rfl rfl (by omega)|refine (wP (qd:=.u8) (i:=(fr:Int)+q) rfl (Ty.AP rfl) (Ty.Co rfl)).is (congrArg (Value.int .u8) hx)) rfl ?_)|refine aT ?_)
   clear hB4 hS4
   obtain ⟨S,hSl,hSb,hSR⟩:=hH.at 0 rfl
   refine aO ?_
   refine aA (aC ((jP (p:=⟨y.1,y.2,S⟩) (m:=16*c) (n:=16*r) (i:=i) (j:=j) (x:=x) (by omega) (by omega) hil hjl hSl hSR)) rfl rfl ?_)
   rintro _ _ ⟨rfl,hU⟩
   replace hH:=hH.up 0 rfl (RV.dX hSl hSb hx8 hU)
   clear hU
   replace hH:=aI hH
   refine aK ?_
   refine IH2 (i+1) _ _ ?_ ?_ ?_ ?_
   ·omega
   ·exact ⟨rfl,trivial⟩
   ·exact cP
   ·exact ⟨by omega,hH⟩
  ·obtain rfl:i=16*c:=by omega
   clear IH2
   refine aK ?_
   refine IH (j+1) _ _ ?_ ?_ ?_ ?_
   ·omega
   ·exact ⟨rfl,trivial⟩
   ·exact cP
   ·exact ⟨by omega,hH⟩
 ·obtain rfl:j=16*r:=by omega
  refine aK ?_
  exact cE Tryz.func64 rfl ⟨rfl,hH.dX 0 rfl⟩
abbrev N3 (c r:Nat) (y u v:P2):List Value:=mI.cells (16*c) (16*r) ⟨y.1,y.2,[]⟩++(mI.cells (8*c) (8*r) ⟨u.1,u.2,[]⟩++mI.cells (8*c) (8*r) ⟨v.1,v.2,[]⟩)
abbrev Pg:List Value:=[.int .i64 0,.int .i64 0,.slice none 0 0,.int .i64 0,.int .i64 0,.slice none 0 0,.int .i64 0,.int .i64 0,.slice none 0 0]
set_option maxHeartbeats 4000000 in
theorem lP {c r:Nat} {y u v:P2} {w:World}:aX Tryz.prog 67 #[.agg (jH c r y u v).cells.toArray] w fun x w'=>x=.agg (N3 c r y u v).toArray∧Ext [] w w':=by
 refine aL (args:=[_]) Tryz.func67 rfl rfl Tryz.ntmps67 rfl ?_
 have hH:=Hp.start w
 refine aK ?_
 refine aO ?_
 refine aA (bI (cs:=(jH c r y u v).cells.toArray) hH rfl rfl rfl ?_)
 try clear hH
 intro _ b1 hH
 replace hH:=aI hH
 refine aK ?_
 refine aA (aQ (zs:=Pg) hH (Ty.bH rfl) rfl ?_)
 clear hH
 intro _ b2 hH
 replace hH:=aI hH
 have hS:cI _ (some ⟨b1,0,none⟩) (jH c r y u v).cells:=(hH.b 0 rfl).cX
 repeat (first|refine aR ?_|(refine aD (by first|refine aN rfl (Ty.bA rfl rfl)|refine bG (j:=0+2) (cs:=mI.cells (16*c) (16*r) ⟨y.1,y.2,[]⟩) rfl hS rfl rfl (Ty.aF rfl)|refine bG (j:=0+5) (cs:=mI.cells (8*c) (8*r) ⟨u.1,u.2,[]⟩) rfl hS rfl rfl (Ty.aF rfl)|refine bG (j:=0+8) (cs:=mI.cells (8*c) (8*r) ⟨v.1,v.2,[]⟩) rfl hS rfl rfl (Ty.aF rfl)|refine dC (cs:=N3 c r y u v) (Ty.bH rfl) (Ty.arr rfl) rfl) rfl ?_))
 clear hS
 refine aO ?_
 refine aA (aJ 1 (vs:=(N3 c r y u v).toArray) (s:=9) hH rfl rfl rfl (by rfl) (by rfl) (by simp [Value.oneCell']) (Ty.aF rfl) ?_)
 try clear hH
 intro _ hH
 replace hH:=aI hH
 refine aK ?_
 exact bP Tryz.func67 rfl rfl (hH.b 1 rfl) rfl (Ty.aF rfl) ⟨rfl,hH.ext⟩
def PS (y u v:P2):Nat→P2
 | 0=>y
 | 1=>u
 | _=>v
def Cm:Nat→Nat
 | 0=>16
 | _=>8
theorem EH {c k:Nat} (hc:c≤8):Cm k*c≤128:=by
 unfold Cm
 split<;>omega
theorem Ks {c k:Nat} (hc:1≤c):1≤Cm k*c:=by
 unfold Cm
 split<;>omega
abbrev uG (c r:Nat) (y u v:P2):List cK:=[RV y (16*c*(16*r)),RV u (8*c*(8*r)),RV v (8*c*(8*r))]
theorem DQ {c r:Nat} {y u v:P2} {H:List cK}:∀ k,k<3→(uG c r y u v++H)[k]?=some (RV (PS y u v k) (Cm k*c*(Cm k*r)))
 | 0,_=>rfl
 | 1,_=>rfl
 | 2,_=>rfl
theorem Gi {c r:Nat} {y u v:P2}:∀ k,k<3→(N3 c r y u v).toArray.extract (k*3) (k*3+3)=(mI.cells (Cm k*c) (Cm k*r) ⟨(PS y u v k).1,(PS y u v k).2,[]⟩).toArray
 | 0,_=>rfl
 | 1,_=>rfl
 | 2,_=>rfl
theorem Hp.same {S:List Nat} {W w w':World} {H:List cK} {r:cK} (i:Nat) (h:Hp S W w H) (hi:H[i]?=some r) (hU:jA r r w w'):Hp S W w' H:=by
 have h1:=h.up i hi hU
 obtain ⟨hl,h2⟩:=List.getElem?_eq_some_iff.1 hi
 have h3:H.set i r=H:=by rw [← h2];exact List.set_getElem_self hl
 rwa [h3] at h1
end Go.Proofs.YtdbnmbkjmeepkaaGreatDoor
