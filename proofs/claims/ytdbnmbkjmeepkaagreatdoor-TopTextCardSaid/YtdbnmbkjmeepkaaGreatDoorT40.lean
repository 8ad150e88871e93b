/- A part of the proof of the card of TopText; no condition. -/
import Derived.Test.YtdbnmbkjmeepkaaGreatDoorT39
namespace Go.Proofs.YtdbnmbkjmeepkaaGreatDoor
open Go Go.K Go.P Go.RowKit Go.Proofs
set_option maxRecDepth 20000 in
set_option maxHeartbeats 4000000 in
theorem L3 {br cw:Nat} {aw:Option Addr} {c r:Int} {wt:Bool} {d:RD} {w:World} (ho:d.h.ok) (hl:d.line=1) (hc:1≤c∧c≤8) (hr:1≤r∧r≤8) (hS:cI w aw (fV [Fs,Lib.itoa c,Lib.itoa r,if wt then sC else rQ])) (hB:(Rb br 68 d.cells.toArray).holds w) (hdj:br ∉ dI aw) (hgb:∀ u,Ext [br] w u→GL u) :
  aX Tryz.prog 17 #[pt br,.slice aw 4 cw] w fun v w'=>v=.tuple #[]∧jA (Rb br 68 d.cells.toArray) (Rb br 68 ({ d with h:=⟨c,r,wt,d.h.A,d.h.Bb⟩ }:RD).cells.toArray) w w':=by
 refine Ii ?_
 have hl1:d.cells.toArray[0+132]?=some (.int .i64 1):=(cQ ho (Nat.le_of_ble_eq_true rfl)).trans (by show some (Value.int .i64 (d.line:Nat))=_;rw [hl];rfl)
 repeat (first|refine aR ?_|(refine aD (by first|refine aG rfl|refine aN rfl (Ty.bA rfl rfl)|refine aB rfl hB hl1 (Ty.aF rfl)|refine aB rfl hB ((cQ ho (Nat.le_of_ble_eq_true rfl)).trans rfl) (Ty.aF rfl)) rfl ?_)|refine aT ?_)
 refine aO ?_
 refine aA (aC ((Dr ho hc hr hS hB hdj hgb)) rfl rfl ?_)
 rintro _ _ ⟨rfl,hU⟩
 refine aK ?_
 exact cE Tryz.func17 rfl ⟨rfl,hU⟩
theorem OR:∀ k,k<5→(kw k == eJ)=false∧(kw k == Bw)=false∧(kw k == AH)=false:=by decide
set_option maxRecDepth 20000 in
set_option maxHeartbeats 4000000 in
theorem ND {br cw cg:Nat} {aw ag:Option Addr} {f n:Nat} {d:RD} {P:List PR} {hp:PH} {G:List GR} {w:World} (ho:d.h.ok) (hl:d.line≠1) (hps:d.ps=P++[⟨hp,ag,cg,G⟩]) (hpl:d.ps.length≤16) (hGl:G.length≤64) (hf:f≤64) (hn:1≤n∧n≤64) (hfull:∀ G0 g,G=G0++[g]→g.ms.length=g.cap)
  (hSw:cI w aw (fV [AH,Lib.itoa (f:Nat),Lib.itoa (n:Nat)])) (hS:Sep [Rb br 68 d.cells.toArray,Ro 60 5 d.a d.ps.length d.cap (d.ps.flatMap PR.cells),Ro 87 2 ag G.length cg (G.flatMap GR.cells)] w) (hdj:∀ s∈eY [Rb br 68 d.cells.toArray,Ro 60 5 d.a d.ps.length d.cap (d.ps.flatMap PR.cells),Ro 87 2 ag G.length cg (G.flatMap GR.cells)],s ∉ dI aw) (hg:∀ u,Ext (eY [Rb br 68 d.cells.toArray,Ro 60 5 d.a d.ps.length d.cap (d.ps.flatMap PR.cells),Ro 87 2 ag G.length cg (G.flatMap GR.cells)]) w u→GL u) :
  aX Tryz.prog 17 #[pt br,.slice aw 3 cw] w fun v w'=>v=.tuple #[]∧∃ (ag2:Option Addr) (cg2 bm:Nat),Hp (eY [Rb br 68 d.cells.toArray,Ro 60 5 d.a d.ps.length d.cap (d.ps.flatMap PR.cells),Ro 87 2 ag G.length cg (G.flatMap GR.cells)]) w w' [Rb br 68 ({ d with ps:=P++[⟨hp,ag2,cg2,G++[gN f bm n]⟩],qp:=hp.qp }:RD).cells.toArray,Ro 60 5 d.a d.ps.length d.cap ((P++[(⟨hp,ag2,cg2,G++[gN f bm n]⟩:PR)]).flatMap PR.cells),Ro 87 2 ag2 (G.length+1) cg2 ((G++[gN f bm n]).flatMap GR.cells),Ro 95 391 (some ⟨bm,0,none⟩) 0 n []]:=by
 refine Ii ?_
 have hB:cL w br 68 d.cells.toArray:=hS.all _ (List.mem_cons_self ..)
 have hwl:(fV [AH,Lib.itoa (f:Nat),Lib.itoa (n:Nat)]).length=3:=rfl
 have hp0:(d.ps.length:Int) > 0:=by rw [hps];simp
 repeat (first|refine aR ?_|(refine aD (by first|refine aG rfl|refine aN rfl (Ty.bA rfl rfl)|refine aB rfl hB ((cQ ho (Nat.le_of_ble_eq_true rfl)).trans rfl) (Ty.aF rfl)|refine cG rfl rfl hSw hwl (Ty.sle rfl) (by decide)|refine aU (v:=sV AH) rfl hSw rfl (Ty.aF rfl)|refine (iV (l:=AH) (m:=eJ) rfl rfl).is (congrArg Value.bool (show (AH == eJ)=false by decide))|refine (iV (l:=AH) (m:=Bw) rfl rfl).is (congrArg Value.bool (show (AH == Bw)=false by decide))|refine (iV (l:=AH) (m:=AH) rfl rfl).is (congrArg Value.bool (show (AH == AH)=true by decide))) rfl ?_)|refine aT ?_)
 refine aO ?_
 refine aA (aC ((zT ho hps hpl hGl hf hn hfull hSw hS hdj hg)) rfl rfl ?_)
 rintro _ _ ⟨rfl,hQ⟩
 refine aK ?_
 exact cE Tryz.func17 rfl ⟨rfl,hQ⟩
set_option maxRecDepth 20000 in
set_option maxHeartbeats 4000000 in
theorem Lw {br nw cw cg f am cm:Nat} {aw ag:Option Addr} {d:RD} {P:List PR} {hp:PH} {G:List GR} {ms:List MB} {m:MB} {w:World} (ho:d.h.ok) (hl:d.line≠1) (hps:d.ps=P++[⟨hp,ag,cg,G++[gM f am cm ms]⟩]) (hpl:d.ps.length≤16) (hGl:G.length≤64) (hroom:ms.length<cm) (hm:m.ok) (hqp:m.k≠4→m.q=d.qp)
  (hW:WD w (eY [Rb br 68 d.cells.toArray,Ro 60 5 d.a d.ps.length d.cap (d.ps.flatMap PR.cells),Ro 87 2 ag (G.length+1) cg ((G++[gM f am cm ms]).flatMap GR.cells),Ro 95 391 (some ⟨am,0,none⟩) ms.length cm (iO ms)]) aw nw cw (mC m)) (hS:Sep [Rb br 68 d.cells.toArray,Ro 60 5 d.a d.ps.length d.cap (d.ps.flatMap PR.cells),Ro 87 2 ag (G.length+1) cg ((G++[gM f am cm ms]).flatMap GR.cells),Ro 95 391 (some ⟨am,0,none⟩) ms.length cm (iO ms)] w) (hg:∀ u,Ext (eY [Rb br 68 d.cells.toArray,Ro 60 5 d.a d.ps.length d.cap (d.ps.flatMap PR.cells),Ro 87 2 ag (G.length+1) cg ((G++[gM f am cm ms]).flatMap GR.cells),Ro 95 391 (some ⟨am,0,none⟩) ms.length cm (iO ms)]) w u→GL u) :
  aX Tryz.prog 17 #[pt br,.slice aw nw cw] w fun v w'=>v=.tuple #[]∧Hp (eY [Rb br 68 d.cells.toArray,Ro 60 5 d.a d.ps.length d.cap (d.ps.flatMap PR.cells),Ro 87 2 ag (G.length+1) cg ((G++[gM f am cm ms]).flatMap GR.cells),Ro 95 391 (some ⟨am,0,none⟩) ms.length cm (iO ms)]) w w' [Rb br 68 ({ d with ps:=P++[⟨hp,ag,cg,G++[gM f am cm (ms++[m])]⟩],qp:=m.q }:RD).cells.toArray,Ro 60 5 d.a d.ps.length d.cap ((P++[(⟨hp,ag,cg,G++[gM f am cm (ms++[m])]⟩:PR)]).flatMap PR.cells),Ro 87 2 ag (G.length+1) cg ((G++[gM f am cm (ms++[m])]).flatMap GR.cells),Ro 95 391 (some ⟨am,0,none⟩) (ms++[m]).length cm (iO (ms++[m]))]:=by
 refine Ii ?_
 have hB:cL w br 68 d.cells.toArray:=hS.all _ (List.mem_cons_self ..)
 have hSp:cI w d.a (d.ps.flatMap PR.cells):=(Hp.fQ hS).o 1 rfl |>.sl
 have hwl:(fV (mC m)).length=nw:=by rw [List.length_map];exact hW.len
 have hnw:0<nw:=by rw [← hW.len];simp [mC]
 have hSw:=hW.sl
 have hw1:(fV (mC m))[0]?=some (sV (kw m.k)):=rfl
 obtain ⟨hk1,hk2,hk3⟩:=OR m.k hm.k5
 have hdl:d.ps.length=P.length+1:=by rw [hps];simp
 have hfm:=dQ (f:=PR.cells) (sz:=5) (l:=d.ps) (fun _ _=>rfl)
 have hp0:(d.ps.length:Int) > 0:=by omega
 have him:(d.ps.length:Int)-1=(P.length:Nat):=by omega
 have hp4:(d.ps.flatMap PR.cells)[P.length*5+4]?=some (.slice ag (G.length+1) cg):=by
  have hl:=dQ (f:=PR.cells) (sz:=5) (l:=P) (fun _ _=>rfl)
  rw [hps,pE,List.getElem?_append_right (by omega),hl,Nat.add_sub_cancel_left,show G.length+1=(G++[gM f am cm ms]).length by simp]
  rfl
 repeat (first|refine aR ?_|(refine aD (by first|refine aG rfl|refine aN rfl (Ty.bA rfl rfl)|refine aB rfl hB ((cQ ho (Nat.le_of_ble_eq_true rfl)).trans rfl) (Ty.aF rfl)|refine cG rfl rfl hSw hwl (Ty.sle rfl) (by omega)|refine aU (v:=sV (kw m.k)) rfl hSw hw1 (Ty.aF rfl)|refine (iV (l:=kw m.k) (m:=eJ) rfl rfl).is (congrArg Value.bool hk1)|refine (iV (l:=kw m.k) (m:=Bw) rfl rfl).is (congrArg Value.bool hk2)|refine (iV (l:=kw m.k) (m:=AH) rfl rfl).is (congrArg Value.bool hk3)|refine (dM (m:=d.ps.length) (n:=1) rfl rfl (by omega)).is (congrArg (Value.int .i64) him)|refine gE (sz:=5) rfl rfl hSp hfm (by decide) (Ty.sle rfl) (by omega)|refine aU rfl hSp hp4 (Ty.aF rfl)) rfl ?_)|refine aT ?_)
 refine aO ?_
 refine aA (aC ((Dp ho hps hpl hGl hroom hm hqp hW hS hg)) rfl rfl ?_)
 rintro _ _ ⟨rfl,hQ⟩
 refine aK ?_
 exact cE Tryz.func17 rfl ⟨rfl,hQ⟩
set_option maxRecDepth 20000 in
set_option maxHeartbeats 4000000 in
theorem MR {br cw:Nat} {aw:Option Addr} {hp:PH} {d:RD} {w:World} (ho:d.h.ok) (hl:d.line≠1) (hpl:d.ps.length<16) (hid:0≤hp.id∧hp.id≤65535) (hq:1≤hp.qp∧hp.qp≤31)
  (hfl:∀ P p,d.ps=P++[p]→cI w p.a (p.gs.flatMap GR.cells)∧p.gs.length≤1000∧∀ G g,p.gs=G++[g]→g.ms.length=g.cap)
  (hSw:cI w aw (fV [Bw,Lib.itoa hp.id,if hp.inter then Ar else AU,if hp.down then Ju else KO,Lib.itoa hp.qp])) (hS:Sep [Rb br 68 d.cells.toArray,Ro 60 5 d.a d.ps.length d.cap (d.ps.flatMap PR.cells)] w) (hdj:∀ s∈eY [Rb br 68 d.cells.toArray,Ro 60 5 d.a d.ps.length d.cap (d.ps.flatMap PR.cells)],s ∉ dI aw) (hg:∀ u,Ext (eY [Rb br 68 d.cells.toArray,Ro 60 5 d.a d.ps.length d.cap (d.ps.flatMap PR.cells)]) w u→GL u) :
  aX Tryz.prog 17 #[pt br,.slice aw 5 cw] w fun v w'=>v=.tuple #[]∧∃ (a2:Option Addr) (c2:Nat),Hp (eY [Rb br 68 d.cells.toArray,Ro 60 5 d.a d.ps.length d.cap (d.ps.flatMap PR.cells)]) w w' [Rb br 68 ({ d with a:=a2,cap:=c2,ps:=d.ps++[⟨hp,none,0,[]⟩] }:RD).cells.toArray,Ro 60 5 a2 (d.ps.length+1) c2 ((d.ps++[(⟨hp,none,0,[]⟩:PR)]).flatMap PR.cells)]:=by
 refine Ii ?_
 have hH:=Hp.fQ hS
 have hB:=hH.b 0 rfl
 have hSp:=(hH.o 1 rfl).sl
 have hwl:(fV [Bw,Lib.itoa hp.id,if hp.inter then Ar else AU,if hp.down then Ju else KO,Lib.itoa hp.qp]).length=5:=rfl
 have hp16:(d.ps.length:Int)<16:=by omega
 repeat (first|refine aR ?_|(refine aD (by first|refine aG rfl|refine aN rfl (Ty.bA rfl rfl)|refine aB rfl hB ((cQ ho (Nat.le_of_ble_eq_true rfl)).trans rfl) (Ty.aF rfl)|refine cG rfl rfl hSw hwl (Ty.sle rfl) (by decide)|refine aU (v:=sV Bw) rfl hSw rfl (Ty.aF rfl)|refine (iV (l:=Bw) (m:=eJ) rfl rfl).is (congrArg Value.bool (show (Bw == eJ)=false by decide))|refine (iV (l:=Bw) (m:=Bw) rfl rfl).is (congrArg Value.bool (show (Bw == Bw)=true by decide))) rfl ?_)|refine aT ?_)
 refine aO ?_
 refine aA (aC ((oQ ho hB hSp (by omega) hfl)) rfl rfl ?_)
 rintro _ _ ⟨rfl,hE0⟩
 replace hH:=hH.aH hE0
 clear hE0
 replace hH:=aI hH
 clear hB hSp
 refine aK ?_
 refine oG fun u5 hu5=>?_
 rw [← hu5] at hH
 clear hu5
 have hSw:=hSw.ext hH.ext hdj
 have hg:=hg _ hH.ext
 refine nK 22 rfl (by kernel_rfl) (by kernel_rfl) [Is (pt br),Is (.slice aw 5 cw),Is (.pointer (some (At aw (Int.toNat 1)))),Is (sV (Lib.itoa hp.id)),Is (.int .i64 hp.id),Is (pt br),Is (.slice aw 5 cw),Is (.pointer (some (At aw (Int.toNat 2)))),Is (sV (if hp.inter then Ar else AU)),Is (.bool hp.inter),Is (pt br),Is (.slice aw 5 cw),Is (.pointer (some (At aw (Int.toNat 3)))),Is (sV (if hp.down then Ju else KO)),Is (.bool hp.down),Is (pt br),Is (.slice aw 5 cw),Is (.pointer (some (At aw (Int.toNat 4)))),Is (sV (Lib.itoa hp.qp)),Is (.int .i64 hp.qp),Is (.agg #[.int .i64 hp.id,.bool hp.inter,.bool hp.down,.int .i64 hp.qp]),fP u5.heap.size 57 #[.int .i64 0,.bool false,.bool false,.int .i64 0] (fun b=>pt b)] Ty.mixed [(21777884560253154407861347777765313609984,[],true),(21777998790784042174069175448684556452096,[],true),(21777936483221739756137633082728605810944,[(1,114)],true),(21777811868097134920274548350816704528640,[(2,115)],true),(10883542291393700983197002172700267905280,[(0,113),(3,116)],true),(21772411879364258699540876634634315628800,[],true),(21776067256352667218191362104050086576384,[],true),(21774073414358989844382006393459666059520,[(6,119)],true),(21770085730371635096763294972278825025792,[(7,120)],true),(10713567261432704865949427844866918842624,[(5,118),(8,121)],true),(21597286090919596033285800054442380230912,[],true),(21714258154548668630101335075747050553600,[],true),(21650455210750992668201952336853594013952,[(11,124)],true),(21522849323155640744403186859066680934656,[(12,125)],true),(5274366302680829114027049354199748837632,[(10,123),(13,126)],true),(15993260860690390713123349488300447498496,[],true),(19736366896820713811220470170049897824512,[],true),(17694672695295083030440222525459288555776,[(16,129)],true),(13611284292243821468879727236278070018304,[(17,130)],true),(5444507486141298345758736657915632943360,[(15,128),(18,131)],true),(10889025356876313761172730376823924326656,[(4,117),(9,122),(14,127),(19,132)],true),(21778061098346344592000717814640507092992,[],true)] 21778061098346344592000717814640507093248 [(20,133),(21,8)] (by kernel_rfl) (by kernel_rfl) (by kernel_rfl) (by kernel_rfl) (by kernel_rfl) ⟨Is.st,Is.st,Is.st,Is.st,Is.st,Is.st,Is.st,Is.st,Is.st,Is.st,Is.st,Is.st,Is.st,Is.st,Is.st,Is.st,Is.st,Is.st,Is.st,Is.st,Is.st,(by exact fP.st),trivial⟩ ⟨⟨cC.none,?_⟩,⟨cC.none,?_⟩,⟨cC.none,?_⟩,⟨cC.none,?_⟩,⟨cC.none,?_⟩,⟨cC.none,?_⟩,⟨cC.none,?_⟩,⟨cC.none,?_⟩,⟨cC.none,?_⟩,⟨cC.none,?_⟩,⟨cC.none,?_⟩,⟨cC.none,?_⟩,⟨cC.none,?_⟩,⟨cC.none,?_⟩,⟨cC.none,?_⟩,⟨cC.none,?_⟩,⟨cC.none,?_⟩,⟨cC.none,?_⟩,⟨cC.none,?_⟩,⟨cC.none,?_⟩,⟨cC.none,?_⟩,⟨cC.none,?_⟩,trivial⟩ ?_
 ·intro w'' hE''
  intro σ''
  exact bJ (by refine aP rfl) rfl
 ·intro w'' hE''
  intro σ''
  exact bJ (by refine aP rfl) rfl
 ·intro w'' hE''
  rintro _ rfl
  intro σ''
  exact Js
 ·intro w'' hE''
  rintro _ rfl
  intro σ''
  exact Jm
 ·intro w'' hE''
  rintro _ rfl
  rintro _ rfl
  intro σ''
  refine aC (dE (n:=hp.id) (hg.ext hE'') hid (by omega)) rfl rfl ?_
  rintro v w3'' ⟨rfl,hE⟩
  exact ⟨hE,_,rfl,rfl⟩
 ·intro w'' hE''
  intro σ''
  exact bJ (by refine aP rfl) rfl
 ·intro w'' hE''
  intro σ''
  exact bJ (by refine aP rfl) rfl
 ·intro w'' hE''
  rintro _ rfl
  intro σ''
  exact Js
 ·intro w'' hE''
  rintro _ rfl
  intro σ''
  exact Jm
 ·intro w'' hE''
  rintro _ rfl
  rintro _ rfl
  intro σ''
  refine aC (lH (b:=hp.inter) (y:=Ar) (n:=AU) (by decide)) rfl rfl ?_
  rintro v w3'' ⟨rfl,hE⟩
  exact ⟨hE,_,rfl,rfl⟩
 ·intro w'' hE''
  intro σ''
  exact bJ (by refine aP rfl) rfl
 ·intro w'' hE''
  intro σ''
  exact bJ (by refine aP rfl) rfl
 ·intro w'' hE''
  rintro _ rfl
  intro σ''
  exact Js
 ·intro w'' hE''
  rintro _ rfl
  intro σ''
  exact Jm
 ·intro w'' hE''
  rintro _ rfl
  rintro _ rfl
  intro σ''
  refine aC (lH (b:=hp.down) (y:=Ju) (n:=KO) (by decide)) rfl rfl ?_
  rintro v w3'' ⟨rfl,hE⟩
  exact ⟨hE,_,rfl,rfl⟩
 ·intro w'' hE''
  intro σ''
  exact bJ (by refine aP rfl) rfl
 ·intro w'' hE''
  intro σ''
  exact bJ (by refine aP rfl) rfl
 ·intro w'' hE''
  rintro _ rfl
  intro σ''
  exact Js
 ·intro w'' hE''
  rintro _ rfl
  intro σ''
  exact Jm
 ·intro w'' hE''
  rintro _ rfl
  rintro _ rfl
  intro σ''
  refine aC (dE (n:=hp.qp) (hg.ext hE'') hq (by omega)) rfl rfl ?_
  rintro v w3'' ⟨rfl,hE⟩
  exact ⟨hE,_,rfl,rfl⟩
 ·intro w'' hE''
  rintro _ rfl
  rintro _ rfl
  rintro _ rfl
  rintro _ rfl
  intro σ''
  exact bJ (by refine bR (cs:=[.int .i64 hp.id,.bool hp.inter,.bool hp.down,.int .i64 hp.qp]) (Ty.bH rfl) (Ty.iJ rfl) rfl) rfl
 ·intro w'' hE''
  intro σ''
  refine dS (Ty.bH rfl) rfl ?_
  intro w3'' b'' hb'' hE3'' hB'' hs''
  exact xO
 intro w'' hE''
 rintro _ rfl
 rintro _ h21
 intro σ''
 obtain ⟨b8,rfl,hB8,hb8⟩:=h21
 replace hH:=hH.nu (r:=Rb b8 57 #[.int .i64 0,.bool false,.bool false,.int .i64 0]) ⟨hE'',hB8,fun x hx=>by simp [Rb] at hx;omega⟩
 clear hE'' hB8 hb8 hSw
 replace hH:=aI hH
 refine aO ?_
 refine aA (aJ 2 (vs:=#[.int .i64 hp.id,.bool hp.inter,.bool hp.down,.int .i64 hp.qp]) (s:=4) hH rfl rfl rfl (by rfl) (by rfl) (by simp [Value.oneCell']) (Ty.aF rfl) ?_)
 try clear hH
 intro _ hH
 replace hH:=aI hH
 refine aK ?_
 refine oG fun w0 hw0=>?_
 rw [← hw0] at hH
 clear hw0
 have hrl:=oY (d:=d) ho
 have hB:=hH.b 0 rfl
 have hB8:=hH.b 2 rfl
 have hdb:∀ s∈dI d.a,s ∉ [br]:=fun s hs h=>hH.dj 1 0 rfl rfl (by decide) s hs h
 have hd8:∀ s∈dI d.a,s ∉ [b8]:=fun s hs h=>hH.dj 1 2 rfl rfl (by decide) s hs h
 refine iL Ty.mixed 10 rfl (by kernel_rfl) rfl (fun v=>Ext (dI d.a) w0 v) ?_
 have hx1:Ext (dI d.a) w0 w0.drew:=Ext.dV
 refine bE 0 hx1 ?_
 refine bE 1 hx1 ?_
 refine xF ?_
 refine D8 ?_
 refine GX ?_
 refine aY 5 hx1 rfl (fun w' hw'=>by refine aB rfl (hB.ext hw' (fun h=>hdb br h (by simp))) ((cQ ho (Nat.le_of_ble_eq_true rfl)).trans rfl) (Ty.aF rfl)) ?_
 refine aY 6 hx1 rfl (fun w' hw'=>by refine aE rfl (hB8.ext hw' (fun h=>hd8 b8 h (by simp))) rfl (Ty.aF rfl)) ?_
 refine aY 7 hx1 rfl (fun w' hw'=>by refine bR (cs:=PR.cells ⟨hp,none,0,[]⟩) (Ty.bH rfl) (Ty.iJ rfl) rfl) ?_
 replace hH:=hH.aH (Ext.dV (S:=[]))
 refine bC 8 (by kernel_rfl) rfl rfl ?_
 refine oK (out:=PR.cells ⟨hp,none,0,[]⟩) (Ty.sle rfl) (Ty.bH rfl) rfl rfl rfl (by decide) rfl ?_
 intro w7 bl hbl hE7 hB7 _
 have hx7:Ext (dI d.a) w0 w7:=hx1.trans hE7 (by simp)
 refine ⟨hx7,?_⟩
 replace hH:=hH.aH hE7
 refine bC 9 (by kernel_rfl) rfl rfl ?_
 refine kY (a:=d.a) (n:=d.ps.length) (cap:=d.cap) (m:=1) (bytes:=48) (news:=PR.cells ⟨hp,none,0,[]⟩) (Ty.sle rfl) (Ty.bH rfl) rfl (Ty.gS rfl) (by decide) rfl (hH.o 1 rfl) rfl hB7.cX rfl (by simp [Value.oneCell']) (by omega) (by simp only [maxLen];omega) rfl ?_
 intro w10 a2 c2 hE10 hO10 hf10 _
 refine ⟨hx7.iS hE10,?_⟩
 replace hH:=hH.up 1 rfl (r':=Ro 60 5 a2 (d.ps.length+1) c2 (d.ps.flatMap PR.cells++PR.cells ⟨hp,none,0,[]⟩)) ⟨hE10,hO10,hf10⟩
 replace hH:=aI hH
 refine aW (by kernel_rfl) ?_
 clear hx1 hx7 hE7 hE10 hO10 hf10 hB7 hB8 hB
 repeat ((refine aD (by first|refine aG rfl|refine aN rfl (Ty.bA rfl rfl)) rfl ?_))
 refine aA (bV 0 (o:=0+131) (v:=.slice a2 (d.ps.length+1) c2) hH rfl rfl rfl (by rw [hrl];decide) rfl (Ty.aF rfl) ?_)
 clear hH
 intro _ hH
 rw [fS ho (by decide)] at hH
 have hpn:(d.ps++[(⟨hp,none,0,[]⟩:PR)]).length=d.ps.length+1:=by simp
 have hpc:d.ps.flatMap PR.cells++PR.cells ⟨hp,none,0,[]⟩=(d.ps++[(⟨hp,none,0,[]⟩:PR)]).flatMap PR.cells:=by rw [pE]
 rw [hpc] at hH
 replace hH:=hH.take 2
 replace hH:=aI hH
 replace hH:=Hp.eqv (r':=Rb br 68 ({ d with a:=a2,cap:=c2,ps:=d.ps++[⟨hp,none,0,[]⟩] }:RD).cells.toArray) 0 hH rfl (by
  show Rb br _ (d.h.cells++[Value.slice a2 (d.ps.length+1) c2,.int .i64 d.line,.int .i64 0,.int .i64 d.rows,.int .i64 d.qp]).toArray=Rb br _ (d.h.cells++[Value.slice a2 (d.ps++[(⟨hp,none,0,[]⟩:PR)]).length c2,.int .i64 d.line,.int .i64 0,.int .i64 d.rows,.int .i64 d.qp]).toArray
  rw [hpn])
 replace hH:=aI hH
 refine aK ?_
 exact cE Tryz.func17 rfl ⟨rfl,a2,c2,hH⟩
def wr (T X:List Nat) (o k:Nat):List Nat:=X.take o++(T.take k++X.drop (o+k))
theorem NI {T X:List Nat} {o k:Nat} (hk:k≤T.length) (ho:o+k≤X.length):(wr T X o k).length=X.length:=by
 simp only [wr,List.length_append,List.length_take,List.length_drop]
 omega
theorem OI {T X:List Nat} {o:Nat}:wr T X o 0=X:=by simp [wr]
theorem Mg {T X:List Nat} {o k t:Nat} (ht:T[k]?=some t) (ho:o+k<X.length):(wr T X o k).set (o+k) t=wr T X o (k+1):=by
 obtain ⟨hk,rfl⟩:=List.getElem?_eq_some_iff.1 ht
 have h1:(X.take o).length=o:=by rw [List.length_take];omega
 have h2:(T.take k).length=k:=by rw [List.length_take];omega
 rw [wr,wr,List.set_append_right _ _ (by omega),h1,Nat.add_sub_cancel_left,List.set_append_right _ _ (by omega),h2,Nat.sub_self,List.drop_eq_getElem_cons ho,List.set_cons_zero,List.take_add_one,ht,Option.toList_some,List.append_assoc,List.singleton_append,Nat.add_assoc]
abbrev hX (h:SH) (X:List Nat):SH:=⟨h.c,h.r,h.wt,X.take 64,X.drop 64⟩
theorem vQ {h:SH} {X:List Nat}:(hX h X).cells=.int .i64 h.c::.int .i64 h.r::.bool h.wt::X.map B:=by
 show _::_::_::((X.take 64).map B++(X.drop 64).map B)=_
 rw [← List.map_append,List.take_append_drop]
theorem Mo {h:SH} {X:List Nat} {T:List Value} {i t:Nat} (hi:i<X.length):((hX h X).cells++T).set (3+i) (B t)=(hX h (X.set i t)).cells++T:=by
 rw [vQ,vQ,List.set_append_left _ _ (by simp;omega),Nat.add_comm 3 i]
 simp only [List.set_cons_succ,List.map_set]
theorem Et {h:SH} (ho:h.ok):hX h (h.A++h.Bb)=h:=by
 have h1:(h.A++h.Bb).take 64=h.A:=List.take_left' ho.la
 have h2:(h.A++h.Bb).drop 64=h.Bb:=List.drop_left' ho.la
 rw [hX,h1,h2]
def Am (h:SH) (rows:Nat) (T:List Nat):SH:=if rows=0 then ⟨h.c,h.r,h.wt,T,h.Bb⟩ else ⟨h.c,h.r,h.wt,h.A,T⟩
theorem MA {h:SH} {T:List Nat} {rows:Nat} (ho:h.ok) (hT:T.length=64) (hr:rows<2):hX h (wr T (h.A++h.Bb) (64*rows) 64)=Am h rows T:=by
 have h0:T.take 64=T:=List.take_of_length_le (by omega)
 have h2:(h.A++h.Bb).drop 64=h.Bb:=List.drop_left' ho.la
 have h1:(h.A++h.Bb).take 64=h.A:=List.take_left' ho.la
 by_cases hr0:rows=0
 ·subst hr0
  rw [Am,if_pos rfl,wr,hX,h0,Nat.mul_zero,List.take_zero,List.nil_append,Nat.zero_add,h2,List.take_left' hT,List.drop_left' hT]
 ·obtain rfl:rows=1:=by omega
  have h3:(h.A++h.Bb).drop (64*1+64)=[]:=List.drop_eq_nil_of_le (by rw [List.length_append,ho.la,ho.lb];decide)
  rw [Am,if_neg (by decide),wr,hX,h0,h3,List.append_nil,Nat.mul_one,h1,List.take_left' ho.la,List.drop_left' ho.la]
theorem L5 {A:Prop} {Y:Fr→Nat→World→Prop} (Z:Nat→World→Prop) (h1:(∀ σ o u,Z o u→Y σ o u)→A) (h2:∀ σ o u,Z o u→Y σ o u):A:=h1 h2
set_option maxRecDepth 20000 in
set_option maxHeartbeats 4000000 in
theorem Gv {br cw:Nat} {aw:Option Addr} {T:List Nat} {d:RD} {w:World} (ho:d.h.ok) (hl:d.line≠1) (hps:d.ps=[]) (hwt:d.h.wt=true) (hr:d.rows<2) (hT:T.length=64) (hb:gR T)
  (hW:WD w [br] aw 65 cw (eJ::gT T)) (hBb:(Rb br 68 d.cells.toArray).holds w) (hgb:∀ u,Ext [br] w u→GL u) :
  aX Tryz.prog 17 #[pt br,.slice aw 65 cw] w fun v w'=>v=.tuple #[]∧jA (Rb br 68 d.cells.toArray) (Rb br 68 ({ d with h:=Am d.h d.rows T,rows:=d.rows+1 }:RD).cells.toArray) w w':=by
 refine Ii ?_
 have hH:=Hp.fI hBb
 have hB:=hH.b 0 rfl
 have hwl:(fV (eJ::gT T)).length=65:=by rw [List.length_map];exact hW.len
 have hSw:=hW.sl
 have hwc:d.cells.toArray[0+0+0+2+0]?=some (.bool true):=by
  show some (Value.bool d.h.wt)=_
  rw [hwt]
 have hpl:(d.ps.length:Int)=0:=by rw [hps];rfl
 repeat (first|refine aR ?_|(refine aD (by first|refine aG rfl|refine aN rfl (Ty.bA rfl rfl)|refine aB rfl hB hwc (Ty.aF rfl)|refine aB rfl hB ((cQ ho (Nat.le_of_ble_eq_true rfl)).trans rfl) (Ty.aF rfl)|refine cG rfl rfl hSw hwl (Ty.sle rfl) (by decide)|refine aU (v:=sV eJ) rfl hSw rfl (Ty.aF rfl)|refine (iV (l:=eJ) (m:=eJ) rfl rfl).is (congrArg Value.bool (show (eJ == eJ)=true by decide))) rfl ?_)|refine aT ?_)
 apply L5 (Z:=fun o u=>o=64*d.rows∧Hp [br] w u [Rb br 68 d.cells.toArray])
 ·intro key
  by_cases hr0:d.rows=1
  ·repeat (first|refine aR ?_|(refine aD (by first|refine aG rfl|refine aN rfl (Ty.bA rfl rfl)) rfl ?_)|refine aT ?_)
   obtain ⟨o9,ho9⟩:∃ z:Nat,64*d.rows=z:=⟨_,rfl⟩
   exact eU fun u' hu=>cJ [(0,pt br),(1,.slice aw 65 cw),(5,.pointer (some ⟨br,3+o9,none⟩)),(73,.slice aw 65 cw)] ⟨rfl,rfl,by rw [← ho9,hr0];rfl,rfl,trivial⟩ (fun σ=>key σ o9 u' ⟨ho9.symm,hu▸hH⟩)
  ·replace hr0:d.rows=0:=by omega
   repeat (first|refine aR ?_|refine aT ?_)
   obtain ⟨o9,ho9⟩:∃ z:Nat,64*d.rows=z:=⟨_,rfl⟩
   exact eU fun u' hu=>cJ [(0,pt br),(1,.slice aw 65 cw),(5,.pointer (some ⟨br,3+o9,none⟩)),(73,.slice aw 65 cw)] ⟨rfl,rfl,by rw [← ho9,hr0];rfl,rfl,trivial⟩ (fun σ=>key σ o9 u' ⟨ho9.symm,hu▸hH⟩)
 clear hH hB hSw hwl
 rintro σ o u ⟨ho6,hH⟩
 obtain ⟨a1,c1,hv1,hW1⟩:∃ a1 c1,Value.slice (if cw=1 then aw else aw.map (·.add (1*1))) (65-1) (cw-1)=.slice a1 64 c1∧WD w [br] a1 64 c1 (gT T):=⟨_,_,rfl,hW.drop (k:=1) (by decide)⟩
 obtain ⟨X,hXe⟩:∃ X,X=d.h.A++d.h.Bb:=⟨_,rfl⟩
 have hXl:X.length=128:=by rw [hXe,List.length_append,ho.la,ho.lb]
 have h0:d=({ d with h:=hX d.h (wr T X o 0) }:RD):=by rw [OI,hXe,Et ho]
 repeat (first|refine aR ?_|(refine aD (by refine (nQ (len:=65) (l:=1) rfl rfl (Ty.sle rfl) (by decide)).is hv1) rfl ?_)|refine aT ?_)
 refine aV (G:=(Nat)) (fun k=>64-k) 1237864481421654360575705280 (fun k=>[(76,.int .i64 k)]) (fun k w'=>k≤64∧Hp [br] w w' [Rb br 68 ((hX d.h (wr T X o k)).cells++d.tail).toArray]) (0) ⟨rfl,trivial⟩ ⟨by omega,by rw [OI,hXe,Et ho];exact hH⟩ ?_
 rintro k w' σ ⟨hk,hH⟩ IH
 show WS _ _ _ _ _ (bQ [(76,.int .i64 k)] _) _
 by_cases hk6:k<64
 ·obtain ⟨t,ht⟩:∃ t,T[k]?=some t:=⟨_,List.getElem?_eq_getElem (by omega)⟩
  have htb:=hb t (List.mem_of_getElem? ht)
  have hSw:=hW1.sl.ext hH.ext hW1.dj
  have hwl:(fV (gT T)).length=64:=by rw [List.length_map];exact hW1.len
  have hwk:(fV (gT T))[k]?=some (sV (Lib.itoa (t:Nat))):=by
   rw [List.getElem?_map,List.getElem?_map,ht];rfl
  repeat (first|refine aR ?_|(refine aD (by first|refine cG rfl rfl hSw hwl (Ty.sle rfl) (by omega)|refine aU (v:=sV (Lib.itoa (t:Nat))) rfl hSw hwk (Ty.aF rfl)) rfl ?_)|refine aT ?_)
  clear hSw
  refine cM Ty.mixed 8 rfl (by kernel_rfl) rfl (fun w1 hx1=>?_)
  refine bE 0 hx1 ?_
  refine bE 1 hx1 ?_
  refine bE 2 hx1 ?_
  refine bE 3 hx1 ?_
  refine aY 6 hx1 rfl (fun w' hw'=>by refine aG rfl) ?_
  refine bC 4 (by kernel_rfl) rfl rfl (aC (dE (n:=(t:Nat)) (hgb _ (hH.ext.bO hx1)) (by omega) (by omega)) rfl rfl ?_)
  rintro _ w3 ⟨rfl,hE⟩
  have hx3:=hx1.bO hE
  refine ⟨hx3,?_⟩
  refine aY 5 hx3 rfl (fun w' hw'=>by refine kA (qd:=.u8) rfl (Ty.AP rfl) (Ty.Co rfl) (CO (by omega))) ?_
  refine aY 7 hx3 rfl (fun w' hw'=>by refine qZ rfl rfl (Ty.arr rfl) (by omega)) ?_
  refine aW (by kernel_rfl) ?_
  replace hH:=hH.aH hx3
  clear hx1 hx3 hE
  have hwrl:=NI (T:=T) (X:=X) (o:=o) (k:=k) (by omega) (by omega)
  have hxl:((hX d.h (wr T X o k)).cells++d.tail).length=136:=by
   rw [vQ,List.length_append,List.length_cons,List.length_cons,List.length_cons,List.length_map,hwrl,hXl]
   rfl
  have hoe:3+o+(k:Int).toNat*1=3+(o+k):=by omega
  refine aA (bV 0 (o:=3+o+(k:Int).toNat*1) (v:=B t) hH rfl rfl rfl (by rw [hxl];omega) rfl (Ty.aF rfl) ?_)
  clear hH
  intro _ hH
  rw [hoe,Mo (by omega),Mg ht (by omega)] at hH
  replace hH:=aI hH
  refine aK ?_
  refine IH (k+1) _ _ ?_ ?_ ?_ ?_
  ·omega
  ·exact ⟨rfl,trivial⟩
  ·exact cP
  ·exact ⟨by omega,hH⟩
 ·obtain rfl:k=64:=by omega
  clear IH
  rw [ho6,hXe,MA ho hT hr] at hH
  have hok:(Am d.h d.rows T).ok:=by
   unfold Am
   split
   ·exact ⟨hT,ho.lb,hb,ho.bb⟩
   ·exact ⟨ho.la,hT,ho.ba,hb⟩
  have hB:=hH.b 0 rfl
  repeat (first|refine aR ?_|(refine aD (by first|refine aG rfl|refine aN rfl (Ty.bA rfl rfl)|refine aB rfl hB ((cQ hok (Nat.le_of_ble_eq_true rfl)).trans rfl) (Ty.aF rfl)) rfl ?_)|refine aT ?_)
  clear hB
  have hxl:((Am d.h d.rows T).cells++d.tail).length=136:=by rw [List.length_append,SH.bK hok];rfl
  refine aA (bV 0 (o:=0+134) (v:=.int .i64 (d.rows+1:Nat)) hH rfl rfl rfl (by rw [hxl];decide) rfl (Ty.aF rfl) ?_)
  clear hH
  intro _ hH
  rw [fS hok (by decide)] at hH
  replace hH:=aI hH
  refine aK ?_
  exact cE Tryz.func17 rfl ⟨rfl,hH.dX 0 rfl⟩
end Go.Proofs.YtdbnmbkjmeepkaaGreatDoor
