/- The card of the law TopText: any encoded stream told as a text, and parsed, is the same bytes, at every input. Condition: the listed tables of the library lie as the program's text lays them (the card ties them). -/
import Derived.Test.YtdbnmbkjmeepkaaGreatDoorT41
import Derived.Lay
import Derived.Lib.LaidTab
import Derived.SevenTiedAt
import Derived.Shelf.Vars
import Derived.Test.YtdbnmbkjmeepkaaGreatDoorCards
import Derived.Test.YtdbnmbkjmeepkaaGreatDoorRows
import Derived.Test.YtdbnmbkjmeepkaaGreatDoorTie
namespace Go.Proofs.YtdbnmbkjmeepkaaGreatDoor
open Go Go.K Go.P Go.RowKit Go.Proofs Go.ChangeShapes Go.WideShapes Go.ChangeAt
abbrev Q6:fU:=.str (.cons .bool (.cons (.arr 64 (.int .u8)) (.cons (.arr 64 (.int .u8)) .nil)))
abbrev Qs:fU:=.str (.cons (.int .i64) (.cons (.int .i64) (.cons Q6 .nil)))
abbrev Qc:fU:=.str (.cons Qs (.cons (.int .i64) (.cons (.int .i64) (.cons (.int .i64) (.cons .bool (.cons .bool (.cons .bool (.cons (.int .i64) (.cons (.int .i64) .nil)))))))))
abbrev Qf:fU:=.str (.cons (.int .u8) (.cons (.int .u8) (.cons (.int .u8) (.cons (.int .u8) (.cons (.int .u8) (.cons (.int .u8) (.cons (.int .u32) (.cons (.sl (.int .u8)) .nil))))))))
theorem uE {α:Type} {f:α→List Value} {Q:α→Prop}:∀ {ess:List (List Value)},(∀ e∈ess,∃ x,e=f x∧Q x)→∃ l:List α,l.length=ess.length∧ess.flatten=l.flatMap f∧∀ x∈l,Q x
 | [],_=>⟨[],rfl,rfl,by simp⟩
 | e::ess,h=>by
  obtain ⟨x,hx,hq⟩:=h e (by simp)
  obtain ⟨l,h1,h2,h3⟩:=uE (ess:=ess) (fun e he=>h e (by simp [he]))
  exact ⟨x::l,by simp [h1],by simp [hx,h2],fun y hy=>by
   rcases List.mem_cons.1 hy with rfl|hy
   ·exact hq
   ·exact h3 y hy⟩
theorem Ha {cs:List Value} {w:World} (h:K.Rd w (.arr 64 (.int .u8)) cs):∃ l:List Nat,l.length=64∧gR l∧cs=l.map B:=by
 obtain ⟨ess,hl,rfl,he⟩:=h
 obtain ⟨l,h1,h2,h3⟩:=uE (f:=fun n:Nat=>[B n]) (Q:=fun n=>n<256) (fun e hx=>by
  obtain ⟨n,rfl,hf⟩:=he e hx
  obtain ⟨m,rfl,hm⟩:=kK hf
  exact ⟨m,rfl,hm⟩)
 exact ⟨l,by omega,h3,by rw [h2,List.map_eq_flatMap]⟩
theorem OD {cs:List Value} {w:World} (h:K.Rd w Qs cs):∃ h:SH,cs=h.cells∧h.ok:=by
 obtain ⟨d1,d2,rfl,⟨c,rfl,hc⟩,d3,d4,rfl,⟨r,rfl,hr⟩,d5,d6,rfl,⟨d7,d8,rfl,⟨b,rfl⟩,d9,d10,rfl,hA,d11,d12,rfl,hB,rfl⟩,rfl⟩:=h
 obtain ⟨A,la,ba,rfl⟩:=Ha hA
 obtain ⟨Bb,lb,bb,rfl⟩:=Ha hB
 exact ⟨⟨c,r,b,A,Bb⟩,by simp [SH.cells,SH.tc],⟨la,lb,ba,bb⟩⟩
theorem Nz {cs:List Value} {w:World} (h:K.Rd w Qc cs):∃ (h:SH) (q ev fa:Int) (fo wa tu:Bool) (ma ta:Int),cs=Ac h q ev fa fo wa tu ma ta∧h.ok:=by
 obtain ⟨_,_,rfl,hh,_,_,rfl,⟨q,rfl,_⟩,_,_,rfl,⟨ev,rfl,_⟩,_,_,rfl,⟨fa,rfl,_⟩,_,_,rfl,⟨fo,rfl⟩,_,_,rfl,⟨wa,rfl⟩,_,_,rfl,⟨tu,rfl⟩,_,_,rfl,⟨ma,rfl,_⟩,_,_,rfl,⟨ta,rfl,_⟩,rfl⟩:=h
 obtain ⟨h,rfl,ho⟩:=OD hh
 exact ⟨h,q,ev,fa,fo,wa,tu,ma,ta,rfl,ho⟩
theorem OA {cs:List Value} {w:World} (h:K.Rd w Qf cs):∃ s:SM,cs=s.cells∧(s.S.length≤2000→s.ok)∧s.rd w:=by
 obtain ⟨_,_,rfl,⟨c,rfl,hc⟩,_,_,rfl,⟨r,rfl,hr⟩,_,_,rfl,⟨k,rfl,hk⟩,_,_,rfl,⟨a,rfl,ha⟩,_,_,rfl,⟨b,rfl,hb⟩,_,_,rfl,⟨d,rfl,hd⟩,_,_,rfl,⟨e,rfl,he⟩,_,_,rfl,⟨sa,n,cap,E,rfl,hn,hS,hE,_,_⟩,rfl⟩:=h
 obtain ⟨c,rfl,hc2⟩:=kK hc
 obtain ⟨r,rfl,hr2⟩:=kK hr
 obtain ⟨k,rfl,hk2⟩:=kK hk
 obtain ⟨a,rfl,ha2⟩:=kK ha
 obtain ⟨b,rfl,hb2⟩:=kK hb
 obtain ⟨d,rfl,hd2⟩:=kK hd
 obtain ⟨e,rfl,he2⟩:=HY he
 obtain ⟨bs,b1,b2,b3⟩:=uE (f:=fun n:Nat=>[B n]) (Q:=fun n=>n<256) (fun e he=>by
  obtain ⟨n,rfl,hf⟩:=hE e he
  obtain ⟨m,rfl,hm⟩:=kK hf
  exact ⟨m,rfl,hm⟩)
 rw [b2,← List.map_eq_flatMap] at hS
 obtain rfl:bs.length=n:=by omega
 exact ⟨⟨c,r,k,a,b,d,e,sa,cap,bs⟩,rfl,fun hl=>⟨hk2,ha2,hb2,hd2,he2,b3,hl⟩,hS⟩
theorem F3 {H:Type} {enc:TypeId × Value→H} {P:Program} {W W':World} {f:Func} {s:ChangeSpec} {args:Array Value} {ds gs:List (DataW H)} {before:List MemPlace} {tb:TypeId} (hl:laidOutB P=true) (hts:f.params.toList.all (fun t=>P.readableRec t && decide (t<P.types.size))=true)
  (hW:DataW.Whole enc P f.params.toList s.vars false W args.toList ds gs before) (hv:s.vars=[]) (hrt:f.resultTypes=#[tb]) (htb:P.underlying tb=some .bool) (hfn:(s.fn H ds).results=[.lit (.bool true)]∧(s.fn H ds).args=ds∧(s.fn H ds).vars=[])
  (hb':Below W.heap.size W W'):s.post enc P f false true false false W args (.bool true) W':=by
 have hold:∀ p∈before,p.block<W.heap.size:=fun p hp=>by simpa using hW.lt p hp
 have hW':=hW
 obtain ⟨p,q,hA,hV,rfl,hfz,hnd⟩:=hW
 rw [hv] at hV
 obtain ⟨rfl,rfl⟩:=trodVars_none hV
 rw [← List.append_nil ds] at hfn
 refine ⟨ds,[],p++[],[],p,[],hW',?_,?_,?_,?_,fun h=>by cases h⟩
 ·rw [hfn.1,hrt]
  exact ⟨[],[],⟨1,by simp [Value.cells,DataW.trod,htb]⟩,rfl,rfl⟩
 ·rw [hfn.2.1,List.append_nil]
  exact oH hl hts hA (fun x hx=>hb'.same (hold x (by simp [hx]))) (fun x hx=>by simpa using hold x (by simp [hx]))
 ·rw [hfn.2.2,hv];rfl
 ·exact hb'.frame _
theorem HP {H:Type} {enc:TypeId × Value→H} {a:Assume} {C:Checked} {os:Os} {f:FuncId} {fn:Func} {s:ChangeSpec} {X:World→Array Value→Prop}
  (hX:∀ (w w':World) (args:Array Value),w.heap=w'.heap→X w args→X w' args) (own:ownKnob C.prog.godebug=none) (started:os.Started) (noInit:C.prog.inits.idxOf? f=none) (hfn:C.prog.funcs[f]?=some fn)
  (witness:∃ (w:World) (tape:Tape) (i:Input),w.os=os∧(w.forCall tape i).Shaped C.prog∧i.vars=[]∧Input.okWide C.prog (w.forCall tape i) .any w.heap.size f i∧((s.pre enc C.prog fn [] false (w.forCall tape i).memory i.args∧X (w.forCall tape i).memory i.args)∧sizedMet enc C.prog fn (OpenSpec.ofChange s) false (w.forCall tape i).memory i.args)∧a.holds C.prog (lone (Frame.enter C.prog f i.args .normal) [] (w.forCall tape i)))
  (contract:∀ (W:World) (base:Nat) (args:Array Value) (ds gs:List (DataW H)) (before:List MemPlace),(∀ (j:Nat) t v,fn.params[j]?=some t→args[j]?=some v→Value.okWide C.prog W .any base t v)→DataW.Whole enc C.prog fn.params.toList s.vars false W args.toList ds gs before→X W args→W.ShapedOpen C.prog →
   Calls C.prog f args W fun e W'=>∃ v,e=.returned v∧s.post enc C.prog fn false true false false W args v W') :
  ReturnsInHanded a C os f .any (fun w args=>(s.pre enc C.prog fn [] false w args∧X w args)∧sizedMet enc C.prog fn (OpenSpec.ofChange s) false w args) (s.post enc C.prog fn false true false false):=by
 refine returnsInHanded_of_calls own started noInit witness ?_
 intro w tape i _ hsh _ hok hpre _
 obtain ⟨_,_,_,fn',hfn',_,_,_,_,hval⟩:=hok
 obtain rfl:fn'=fn:=Option.some.inj (hfn'.symm.trans hfn)
 obtain ⟨⟨⟨ds,gs,before,hw,_⟩,hx⟩,_⟩:=hpre
 refine (contract (w.forCall tape i) w.heap.size i.args ds gs before hval (DataW.Whole.of_heap (w':=w.forCall tape i) (by rfl) hw) (hX _ _ _ (by rfl) hx) hsh).mono fun e W' ⟨v,he,hp⟩=>?_
 subst he
 exact ChangeSpec.post_blind hp
theorem BA:ownKnob Tryz.prog.godebug=none:=by kernel_rfl
theorem Ay:laidOutB Tryz.prog=true:=by kernel_rfl
theorem Na:(Rows.laid_internal_strconv_uint64pow10:DataW Unit)=Lib.tabData .u64 Lib.pow10Tab:=by kernel_rfl
theorem KU {W:World} (hL:laidMetH Tryz.prog Rows.topTextRow.laid W) (hsh:W.ShapedOpen Tryz.prog):GL W:=by
 rw [MakeChecks.laidMetH_plain _ _ _ (by kernel_rfl)] at hL
 obtain ⟨ps,⟨g1,t1,cs1,f1,p1,q1,_,_,_,_,⟨g2,t2,cs2,f2,p2,q2,_,_,_,_,⟨g3,t3,cs3,f3,p3,q3,hg,ht,hv,hd,_,_⟩,_⟩,_⟩,_⟩:=hL
 obtain rfl:=Option.some.inj ((show Tryz.prog.globalNamed "internal/strconv.uint64pow10" = some 5 by kernel_rfl).symm.trans hg)
 obtain rfl:=Option.some.inj ((show (Tryz.prog.globals[5]?).map (·.type)=some 305 by kernel_rfl).symm.trans ht)
 rw [Na] at hd
 refine ⟨?_,cell_of_shapedOpen_int (P:=Tryz.prog) (g:=0) (t:=3) (zero:=#[.int .i64 0]) hsh (of_decide_eq_true (by kernel_rfl)) (by kernel_rfl) rfl (by kernel_rfl) (by kernel_rfl) Tryz.underlying3⟩
 unfold Lib.TabIs
 rw [hv,← Lib.cells_of_tab Tryz.underlying305 Tryz.underlying158 (by kernel_rfl) (by kernel_rfl) hd]
def QH:Value:=.agg (Ac SH.zero 0 0 0 false false false 0 0).toArray
set_option maxRecDepth 100000 in
theorem wV (os:Os) (started:os.Started) (H:Type) (enc:TypeId × Value→H) :
  ReturnsInHanded {} Tryz.checked os 3 .any (fun w args=>(Rows.topTextSpec.pre enc Tryz.prog Tryz.f3 [] false w args∧laidMetH Tryz.prog Rows.topTextRow.laid w)∧sizedMet enc Tryz.prog Tryz.f3 (OpenSpec.ofChange Rows.topTextSpec) false w args) (Rows.topTextSpec.post enc Tryz.prog Tryz.f3 false true false false):=by
 refine HP (C:=Tryz.checked) (X:=fun w _=>laidMetH Tryz.prog Rows.topTextRow.laid w) (fun _ _ _ hh h=>h.of_heap hh) BA started (by kernel_rfl) Tryz.func3
  (ChangeSpec.witness_shaped (enc:=enc) (C:=Tryz.checked) (os:=os) (X:=fun w _=>laidMetH Tryz.prog Rows.topTextRow.laid w) false (World.laidAll Tryz.prog os Rows.topTextRow.laid) #[QH,.slice none 0 0] 8 (World.laidAll_os _ _ _)
   (World.shaped_of_ZipB (by kernel_rfl) (by kernel_rfl)) (by kernel_rfl) (by kernel_rfl) (by kernel_rfl)
   (by rw [MakeChecks.laidMetH_plain _ _ _ (by kernel_rfl)];exact laidMet_laidAll _ (by kernel_rfl) (by kernel_rfl))) ?_
 intro W base args ds gs before hval0 hW hL hsh
 have hgl:=KU hL hsh
 have hval:∀ (j:Nat) t v,Tryz.f3.params[j]?=some t→args[j]?=some v→Value.okWide Tryz.prog W .any base t v:=hval0
 have hW':=hW
 obtain ⟨p,q,hA0,hV,rfl,hfz,hnd⟩:=hW
 have hA:DataW.TrodAll enc Tryz.prog W 0 (fun _=>true) true Tryz.f3.params.toList args.toList ds p:=hA0
 rw [Tryz.params3] at hA hval
 obtain ⟨v0,r0,d0,e0,p0,q0,ha0,rfl,rfl,h0,hA⟩:=trodAll_cons hA
 obtain ⟨v1,r1,d1,e1,p1,q1,ha1,rfl,rfl,h1,hA⟩:=trodAll_cons hA
 obtain ⟨hnil,rfl,rfl⟩:=trodAll_nil hA
 obtain rfl:args=#[v0,v1]:=by cases args;simp_all
 have hv0:=hval 0 _ v0 rfl rfl
 have hv1:=hval 1 _ v1 rfl rfl
 clear hA0 hval0 ha0 ha1 hnil
 obtain ⟨cs,rfl⟩:=NU (Ty.aF rfl) hv0
 obtain ⟨h,q,ev,fa,fo,wa,tu,ma,ta,hcs,ho⟩:=Nz (IE Qc (by kernel_rfl) h0)
 obtain rfl:cs=Ac h q ev fa fo wa tu ma ta:=by simpa [Value.cells] using hcs
 obtain ⟨al,nl,cl,E,hc1,hn1,hS1,hE1,_,hm1⟩:=IE (.sl Qf) (by kernel_rfl) h1
 obtain ⟨l,l1,l2,l3⟩:=uE (f:=SM.cells) (Q:=fun s=>(s.S.length≤2000→s.ok)∧s.rd W) (fun e he=>by
  obtain ⟨s,k1,k2⟩:=OA (hE1 e he)
  exact ⟨s,k1,k2⟩)
 rw [l2] at hS1
 obtain ⟨a',n',cap',rfl⟩:=okWide_slice (eD (Ty.sle rfl)).1 hv1
 obtain ⟨rfl,rfl,rfl⟩:a'=al∧n'=nl∧cap'=cl:=by simpa [Value.cells] using hc1
 have hm1':n'≤9223372036854775807:=by simp only [maxLen] at hm1;omega
 obtain rfl:l.length=n':=by omega
 refine ((AX hgl ho (fun s hs=>(l3 s hs).1) hS1 (fun s hs=>(l3 s hs).2) hm1').enter Tryz.func3 rfl rfl).mono ?_
 rintro e W' ⟨v,rfl,rfl,hE⟩
 exact ⟨_,rfl,F3 Ay (by kernel_rfl) hW' rfl rfl (by kernel_rfl) ⟨rfl,rfl,rfl⟩ hE⟩
theorem CB:Rows.TopTextSaid :=
 OpenClaim.holds_of_wide 3 Tryz.f3 rfl rfl rfl rfl rfl rfl rfl ⟨rfl,rfl,rfl,rfl,rfl⟩ rfl rfl rfl rfl rfl (by kernel_rfl) Tryz.func3 (by kernel_rfl)
  (of_decide_eq_true (by kernel_rfl)) (by unfold Func.isWrapper;first|(rw [if_pos (by decide +kernel)];kernel_rfl)|(rw [if_neg (by decide +kernel)];exact ⟨rfl,rfl⟩))
  (fun os started H enc _=>wV os started H enc)
theorem topText_holds:Rows.TopTextCardSaid :=
 Claim7.holds_tied_plain_at .later [] [.data,.data,.data,.data,.sentinel,.sentinel,.pinned] true (true,"05bec23129b636e63ce479075f36c6707316503859f427c7c1c69672d0fcdd43") true
  CB (fun _ h=>by cases h) (by kernel_rfl) (fun _ h=>by cases h) topText_row_tie rfl ⟨rfl,rfl⟩ (by kernel_rfl) rfl
  (fun f fn hf hfn=>by
   obtain rfl:f=3:=Option.some.inj ((show Tryz.prog.funcNamed "kinescope/kinescopetop.TopText" = some 3 by kernel_rfl).symm.trans hf) |>.symm
   obtain rfl:fn=Tryz.f3:=(Option.some.inj (Tryz.func3.symm.trans hfn)).symm
   exact ⟨by kernel_rfl,fun j t ht=>by
    rw [Tryz.params3] at ht
    have hm:t∈[28,29]:=by simpa using Array.mem_of_getElem? ht
    have cW:([28,29].all fun u=>!Tryz.prog.wantsStandIn u)=true:=by kernel_rfl
    exact (show Tryz.prog.wantsStandIn t=false by simpa using List.all_eq_true.1 cW t hm)⟩)
  (by kernel_rfl)
#print axioms topText_holds
end Go.Proofs.YtdbnmbkjmeepkaaGreatDoor
