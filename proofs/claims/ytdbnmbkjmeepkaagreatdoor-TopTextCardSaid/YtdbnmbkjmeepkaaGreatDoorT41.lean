/- A part of the proof of the card of TopText; no condition. -/
import Derived.Test.YtdbnmbkjmeepkaaGreatDoorT40
namespace Go.Proofs.YtdbnmbkjmeepkaaGreatDoor
open Go Go.K Go.P Go.RowKit Go.Proofs
def SL (A:List cK):cK where
 fp:=eY A
 holds:=fun w=>Sep A w
 keep:=fun h hE hS=>⟨fun r hr=>r.keep (h.all r hr) hE (fun s hs hb=>hS s hs (qU hr hb)),h.apart⟩
 lt:=fun h s hs=>by
  obtain ⟨r,hr,hsr⟩:=List.mem_flatMap.1 hs
  exact r.lt (h.all r hr) s hsr
theorem Hp.KK {S:List Nat} {W w:World} {r:cK} {A H:List cK} (h:Hp S W w (r::SL A::H)):Hp S W w ((r::A)++H):=by
 obtain ⟨h1,h2⟩:=List.pairwise_cons.1 h.apart
 obtain ⟨h3,h4⟩:=List.pairwise_cons.1 h2
 have hs:Sep A w:=h.all (SL A) (by simp)
 refine ⟨h.ext,fun x hx=>?_,fun x hx y hy=>?_,?_⟩
 ·simp only [List.cons_append,List.mem_cons,List.mem_append] at hx
  rcases hx with rfl|hx|hx
  ·exact h.all x (by simp)
  ·exact hs.all x hx
  ·exact h.all x (by simp [hx])
 ·simp only [List.cons_append,List.mem_cons,List.mem_append] at hx
  rcases hx with rfl|hx|hx
  ·exact h.new x (by simp) y hy
  ·exact h.new (SL A) (by simp) y (qU hx hy)
  ·exact h.new x (by simp [hx]) y hy
 ·rw [List.cons_append,List.pairwise_cons,List.pairwise_append]
  refine ⟨fun x hx=>?_,hs.apart,h4,fun x hx y hy z hzx hzy=>h3 y hy z (qU hx hzx) hzy⟩
  rcases List.mem_append.1 hx with hx|hx
  ·exact fun z hz hzx=>h1 (SL A) (by simp) z hz (qU hx hzx)
  ·exact h1 x (by simp [hx])
theorem Hp.O2 {S:List Nat} {W w:World} {r:cK} {A H:List cK} (h:Hp S W w ((r::A)++H)):Hp S W w (r::SL A::H):=by
 rw [List.cons_append] at h
 obtain ⟨h1,h2⟩:=List.pairwise_cons.1 h.apart
 obtain ⟨h3,h4,h5⟩:=List.pairwise_append.1 h2
 have hf:∀ z,z∈(SL A).fp→∃ x∈A,z∈x.fp:=fun z hz=>List.mem_flatMap.1 hz
 refine ⟨h.ext,fun x hx=>?_,fun x hx y hy=>?_,?_⟩
 ·simp only [List.mem_cons] at hx
  rcases hx with rfl|rfl|hx
  ·exact h.all x (by simp)
  ·exact ⟨fun y hy=>h.all y (by simp [hy]),h3⟩
  ·exact h.all x (by simp [hx])
 ·simp only [List.mem_cons] at hx
  rcases hx with rfl|rfl|hx
  ·exact h.new x (by simp) y hy
  ·obtain ⟨x,hx,hyx⟩:=hf y hy
   exact h.new x (by simp [hx]) y hyx
  ·exact h.new x (by simp [hx]) y hy
 ·rw [List.pairwise_cons,List.pairwise_cons]
  refine ⟨fun x hx=>?_,fun x hx z hz=>?_,h4⟩
  ·simp only [List.mem_cons] at hx
   rcases hx with rfl|hx
   ·intro z hz hzx
    obtain ⟨x,hx,hzx⟩:=hf z hzx
    exact h1 x (by simp [hx]) z hz hzx
   ·exact h1 x (by simp [hx])
  ·obtain ⟨y,hy,hzy⟩:=hf z hz
   exact h5 y hy x hx z hzy
theorem Hp.H3 {S:List Nat} {W w w':World} {r r':cK} {A A' H:List cK} (h:Hp S W w (r::SL A::H)) (hQ:Hp (eY (r::A)) w w' (r'::A')):Hp S W w' (r'::SL A'::H):=by
 have h1:=Hp.KK h
 have ht:((r::A)++H).take (r::A).length=r::A:=List.take_left
 have hd:((r::A)++H).drop (r::A).length=H:=List.drop_left
 have h2:=h1.calls (r::A).length (w':=w') (Q:=r'::A') (by rw [ht];exact hQ)
 rw [hd] at h2
 exact Hp.O2 h2
theorem Hp.Kw {S:List Nat} {W w:World} {r:cK} {A H:List cK} (h:Hp S W w (r::SL A::H)):Sep (r::A) w:=by
 have h1:=Hp.KK h
 have h2:=h1.jO (r::A).length
 rwa [show ((r::A)++H).take (r::A).length=r::A from List.take_left] at h2
theorem Hp.FG {F:List Nat} {w w':World} {H:List cK} (h:Hp F w w' H) (hw:w=w'):∀ r∈H,∀ x∈r.fp,x∈F:=fun r hr x hx=>by
 subst hw
 rcases h.new r hr x hx with h1|h1
 ·exact h1
 ·exact absurd (r.lt (h.all r hr) x hx) (by omega)
theorem A4 {F:List Nat} {A:List cK} (h:∀ r∈A,∀ x∈r.fp,x∈F):∀ x∈eY A,x∈F:=fun x hx=>by
 obtain ⟨r,hr,hxr⟩:=List.mem_flatMap.1 hx
 exact h r hr x hxr
theorem uK {F F':List Nat} {w u:World} (h:Ext F' w u) (hs:∀ x∈F',x∈F):Ext F w u:=Ext.refl.trans h (fun x hx=>.inl (hs x hx))
theorem WD.sub {w:World} {F F':List Nat} {a:Option Addr} {n c:Nat} {ws:List cV} (h:WD w F a n c ws) (hs:∀ x∈F',x∈F):WD w F' a n c ws:=⟨h.sl,h.len,h.cap,fun s hF=>h.dj s (hs s hF),h.lt⟩
abbrev gc (g:GR):Nat × List MB:=(g.f,g.ms)
structure QU (p:CP):Prop where
 id:0≤p.h.id∧p.h.id≤65535
 qp:1≤p.h.qp∧p.h.qp≤31
 len:p.gs.length≤64
 gs:∀ g∈p.gs,g.1≤64∧(1≤g.2.length∧g.2.length≤64)∧BM p.h.inter p.h.qp g.2
structure AZ (s:CS):Prop where
 ho:s.h.ok
 c:1≤s.h.c∧s.h.c≤8
 r:1≤s.h.r∧s.h.r≤8
 nil:s.h.wt=false→s.h.A=List.replicate 64 0∧s.h.Bb=List.replicate 64 0
 len:s.ps.length≤16
 ps:∀ p∈s.ps,QU p
abbrev wA (d:RD):cK:=Ro 60 5 d.a d.ps.length d.cap (d.ps.flatMap PR.cells)
abbrev oF (G:List GR):Prop:=∀ g∈G,g.ms.length=g.cap
inductive PI (s:CS):List (List cV)→Nat→RD→List cK→Prop
 | hd {d:RD} (h1:d.h=SH.zero) (h2:d.ps=[]) (h3:d.rows=0):PI s (uU s) 0 d [wA d,RZ rP []]
 | w0 {d:RD} {k:Nat} (hw:s.h.wt=true) (h1:d.h=⟨s.h.c,s.h.r,s.h.wt,List.replicate 64 0,List.replicate 64 0⟩) (h2:d.ps=[]) (h3:d.rows=0):PI s ((eJ::gT s.h.A)::(eJ::gT s.h.Bb)::s.ps.flatMap sI) (k+1) d [wA d,RZ rP []]
 | w1 {d:RD} {k:Nat} (hw:s.h.wt=true) (h1:d.h=⟨s.h.c,s.h.r,s.h.wt,s.h.A,List.replicate 64 0⟩) (h2:d.ps=[]) (h3:d.rows=1):PI s ((eJ::gT s.h.Bb)::s.ps.flatMap sI) (k+1) d [wA d,RZ rP []]
 | pc {d:RD} {k:Nat} {P:List PR} {rest:List CP} (h1:s.ps=P.map PR.eP++rest) (h2:d.h=s.h) (h3:d.ps=P) (hc:∀ q∈P,oF q.gs):PI s (rest.flatMap sI) (k+1) d [wA d,RZ rP P]
 | gr {d:RD} {k cg:Nat} {ag:Option Addr} {hp:PH} {P:List PR} {G:List GR} {gr:List (Nat × List MB)} {rest:List CP} (h1:s.ps=P.map PR.eP++⟨hp,G.map gc++gr⟩::rest) (h2:d.h=s.h) (h3:d.ps=P++[⟨hp,ag,cg,G⟩]) (hc:∀ q∈P,oF q.gs) (hG:oF G) :
   PI s (gr.flatMap BB++rest.flatMap sI) (k+1) d [wA d,Ro 87 2 ag G.length cg (G.flatMap GR.cells),RZ rP P,RZ rG G]
 | mb {d:RD} {k cg f am cm:Nat} {ag:Option Addr} {hp:PH} {P:List PR} {G:List GR} {ms mr:List MB} {gr:List (Nat × List MB)} {rest:List CP} (h1:s.ps=P.map PR.eP++⟨hp,G.map gc++(f,ms++mr)::gr⟩::rest) (h2:d.h=s.h) (h3:d.ps=P++[⟨hp,ag,cg,G++[gM f am cm ms]⟩]) (hc:∀ q∈P,oF q.gs) (hG:oF G) (hm:cm=(ms++mr).length) (hq:d.qp=lq hp.qp ms) :
   PI s (mr.map mC++(gr.flatMap BB++rest.flatMap sI)) (k+1) d [wA d,Ro 87 2 ag (G.length+1) cg ((G++[gM f am cm ms]).flatMap GR.cells),Ro 95 391 (some ⟨am,0,none⟩) ms.length cm (iO ms),RZ rP P,RZ rG G]
theorem PI.line {s:CS} {R:List (List cV)} {k:Nat} {d:RD} {H:List cK} {l:Nat} (h:PI s R k d H):PI s R k { d with line:=l } H:=by
 cases h with
 | hd h1 h2 h3=>exact .hd (d:={ d with line:=l }) h1 h2 h3
 | w0 hw h1 h2 h3=>exact .w0 (d:={ d with line:=l }) hw h1 h2 h3
 | w1 hw h1 h2 h3=>exact .w1 (d:={ d with line:=l }) hw h1 h2 h3
 | pc h1 h2 h3 hc=>exact .pc (d:={ d with line:=l }) h1 h2 h3 hc
 | gr h1 h2 h3 hc hG=>exact .gr (d:={ d with line:=l }) h1 h2 h3 hc hG
 | mb h1 h2 h3 hc hG hm hq=>exact .mb (d:={ d with line:=l }) h1 h2 h3 hc hG hm hq
theorem vD:gR (List.replicate 64 0):=fun x hx=>by rw [List.eq_of_mem_replicate hx];decide
theorem PI.ho {s:CS} {R:List (List cV)} {k:Nat} {d:RD} {H:List cK} (h:PI s R k d H) (hs:AZ s):d.h.ok:=by
 cases h with
 | hd h1 h2 h3=>rw [h1];exact SH.nP
 | w0 hw h1 h2 h3=>rw [h1];exact ⟨rfl,rfl,vD,vD⟩
 | w1 hw h1 h2 h3=>rw [h1];exact ⟨hs.ho.la,rfl,hs.ho.ba,vD⟩
 | pc h1 h2 h3 hc=>rw [h2];exact hs.ho
 | gr h1 h2 h3 hc hG=>rw [h2];exact hs.ho
 | mb h1 h2 h3 hc hG hm hq=>rw [h2];exact hs.ho
theorem SH.aH {h:SH} (h1:h.A=List.replicate 64 0) (h2:h.Bb=List.replicate 64 0):(⟨h.c,h.r,h.wt,List.replicate 64 0,List.replicate 64 0⟩:SH)=h:=by
 obtain ⟨c,r,wt,A,Bb⟩:=h
 subst h1
 subst h2
 rfl
theorem Io {inter:Bool}:∀ {p:Int} {ms mr:List MB},BM inter p (ms++mr)→BM inter (lq p ms) mr
 | _,[],_,h=>h
 | _,m::l,mr,h=>by
  show BM inter (lq m.q l) mr
  exact Io (ms:=l) h.2.2.2
abbrev Ni (ag:Option Addr) (cg:Nat) (G:List GR):cK:=Ro 87 2 ag G.length cg (G.flatMap GR.cells)
def Hy (s:CS) (br:Nat) (R:List (List cV)) (k l:Nat) (F:List Nat) (w:World):Value→World→Prop:=fun v w'=>v=.tuple #[]∧∃ d H,PI s R k d H∧d.line=l∧Hp F w w' (Rb br 68 d.cells.toArray::H)
theorem NX {P:List PR} {l:List CP} {s:CS} (hs:AZ s) (h:s.ps=P.map PR.eP++l) {q:PR} (hq:q∈P):q.gs.length≤64:=by
 have h1:=(hs.ps (PR.eP q) (by rw [h];exact List.mem_append_left _ (List.mem_map.2 ⟨q,hq,rfl⟩))).len
 simpa [PR.eP] using h1
theorem C4 {P:List PR} {x:CP} {l:List CP} {s:CS} (hs:AZ s) (h:s.ps=P.map PR.eP++x::l):P.length+1≤16:=by
 have h1:=hs.len
 rw [h] at h1
 simp only [List.length_append,List.length_map,List.length_cons] at h1
 omega
theorem Qd {s:CS} (hs:AZ s) {br k nw cw:Nat} {aw:Option Addr} {d:RD} {P:List PR} {p:CP} {rest:List CP} {F:List Nat} {w:World} {x:List cV} {R:List (List cV)} (h1:s.ps=P.map PR.eP++p::rest) (h2:d.h=s.h) (h3:d.ps=P) (hc:∀ q∈P,oF q.gs) (hl:d.line≠1) (hR:sI p++rest.flatMap sI=x::R)
  (hH:Hp F w w [Rb br 68 d.cells.toArray,wA d,RZ rP P]) (hW:WD w F aw nw cw x) (hg:∀ u,Ext F w u→GL u):aX Tryz.prog 17 #[pt br,.slice aw nw cw] w (Hy s br R (k+1) d.line F w):=by
 obtain ⟨hx,hR2⟩:=List.cons.inj hR
 clear hR
 subst hx
 subst hR2
 obtain rfl:nw=5:=hW.len.symm
 have hp:=hs.ps p (by rw [h1];simp)
 have hsub:=A4 (A:=[Rb br 68 d.cells.toArray,wA d]) (fun r hr=>Hp.FG hH rfl r (by simp only [List.mem_cons,List.not_mem_nil,or_false] at hr ⊢;rcases hr with h|h<;>simp [h]))
 have hpl:=C4 hs h1
 have hZ:(RZ rP P).holds w:=hH.at 2 rfl
 refine (MR (hp:=p.h) (by rw [h2];exact hs.ho) hl (by rw [h3];omega) hp.id hp.qp ?_ hW.sl (hH.jO 2) (fun y hy=>hW.dj y (hsub y hy)) (fun u hE=>hg u (uK hE hsub))).mono ?_
 ·intro P0 q hq
  have hqm:q∈P:=by rw [← h3,hq];simp
  refine ⟨(hZ q hqm).1,by have:=NX hs h1 hqm;omega,fun G g hG=>hc q hqm g (by rw [hG];simp)⟩
 ·rintro v w' ⟨rfl,a2,c2,hQ⟩
  have h4:=hH.calls 2 hQ
  replace h4:=(h4.nu (iA.tY (e:=87) (sz:=2))).nu (iA.HU (r:=rG))
  have h5:=Hp.pick h4 [0,1,3,2,4] (by decide)
  have hlen:d.ps.length+1=(d.ps++[(⟨p.h,none,0,[]⟩:PR)]).length:=by simp
  rw [hlen] at h5
  exact ⟨rfl,_,_,.gr (d:={ d with a:=a2,cap:=c2,ps:=d.ps++[⟨p.h,none,0,[]⟩] }) (gr:=p.gs) (G:=[]) (ag:=none) (cg:=0) h1 h2 (by rw [← h3]) hc (fun g hg=>by cases hg),rfl,h5⟩
theorem Q3 {s:CS} (hs:AZ s) {br k nw cw cg:Nat} {aw ag:Option Addr} {d:RD} {hp:PH} {P:List PR} {G:List GR} {g:Nat × List MB} {gr:List (Nat × List MB)} {rest:List CP} {F:List Nat} {w:World} {x:List cV} {R:List (List cV)} (h1:s.ps=P.map PR.eP++⟨hp,G.map gc++g::gr⟩::rest) (h2:d.h=s.h) (h3:d.ps=P++[⟨hp,ag,cg,G⟩]) (hc:∀ q∈P,oF q.gs) (hG:oF G) (hl:d.line≠1) (hR:(g::gr).flatMap BB++rest.flatMap sI=x::R)
  (hH:Hp F w w [Rb br 68 d.cells.toArray,wA d,Ni ag cg G,RZ rP P,RZ rG G]) (hW:WD w F aw nw cw x) (hg:∀ u,Ext F w u→GL u):aX Tryz.prog 17 #[pt br,.slice aw nw cw] w (Hy s br R (k+1) d.line F w):=by
 obtain ⟨hx,hR2⟩:=List.cons.inj hR
 clear hR
 subst hx
 obtain rfl:R=g.2.map mC++(gr.flatMap BB++rest.flatMap sI):=hR2.symm.trans (List.append_assoc (g.2.map mC) (gr.flatMap BB) (rest.flatMap sI))
 clear hR2
 obtain rfl:nw=3:=hW.len.symm
 have hp1:=hs.ps ⟨hp,G.map gc++g::gr⟩ (by rw [h1];simp)
 have hg1:=hp1.gs g (by simp)
 have hGl:=hp1.len
 simp only [List.length_append,List.length_map,List.length_cons] at hGl
 have hsub:=A4 (A:=[Rb br 68 d.cells.toArray,wA d,Ni ag cg G]) (fun r hr=>Hp.FG hH rfl r (by simp only [List.mem_cons,List.not_mem_nil,or_false] at hr ⊢;rcases hr with h|h|h<;>simp [h]))
 have hpl:=C4 hs h1
 have hdl:d.ps.length=P.length+1:=by rw [h3];simp
 refine (ND (f:=g.1) (n:=g.2.length) (by rw [h2];exact hs.ho) hl h3 (by omega) (by omega) hg1.1 hg1.2.1 (fun G0 y hy=>hG y (by rw [hy];simp)) hW.sl (hH.jO 3) (fun y hy=>hW.dj y (hsub y hy)) (fun u hE=>hg u (uK hE hsub))).mono ?_
 rintro v w' ⟨rfl,ag2,cg2,bm,hQ⟩
 have h4:=hH.calls 3 hQ
 have hlen:d.ps.length=(P++[(⟨hp,ag2,cg2,G++[gN g.1 bm g.2.length]⟩:PR)]).length:=by rw [hdl];simp
 rw [hlen] at h4
 exact ⟨rfl,_,_,.mb (d:={ d with ps:=P++[⟨hp,ag2,cg2,G++[gN g.1 bm g.2.length]⟩],qp:=hp.qp }) (ms:=[]) (mr:=g.2) h1 h2 rfl hc hG rfl rfl,rfl,h4⟩
theorem Qz {s:CS} (hs:AZ s) {br k nw cw cg f am cm:Nat} {aw ag:Option Addr} {d:RD} {hp:PH} {P:List PR} {G:List GR} {ms mr:List MB} {m:MB} {gr:List (Nat × List MB)} {rest:List CP} {F:List Nat} {w:World} {x:List cV} {R:List (List cV)} (h1:s.ps=P.map PR.eP++⟨hp,G.map gc++(f,ms++m::mr)::gr⟩::rest) (h2:d.h=s.h) (h3:d.ps=P++[⟨hp,ag,cg,G++[gM f am cm ms]⟩]) (hc:∀ q∈P,oF q.gs) (hG:oF G) (hm:cm=(ms++m::mr).length) (hq:d.qp=lq hp.qp ms) (hl:d.line≠1) (hR:(m::mr).map mC++(gr.flatMap BB++rest.flatMap sI)=x::R)
  (hH:Hp F w w [Rb br 68 d.cells.toArray,wA d,Ro 87 2 ag (G.length+1) cg ((G++[gM f am cm ms]).flatMap GR.cells),Ro 95 391 (some ⟨am,0,none⟩) ms.length cm (iO ms),RZ rP P,RZ rG G]) (hW:WD w F aw nw cw x) (hg:∀ u,Ext F w u→GL u):aX Tryz.prog 17 #[pt br,.slice aw nw cw] w (Hy s br R (k+1) d.line F w):=by
 obtain ⟨hx,hR2⟩:=List.cons.inj hR
 clear hR
 subst hx
 subst hR2
 have hp1:=hs.ps ⟨hp,G.map gc++(f,ms++m::mr)::gr⟩ (by rw [h1];simp)
 have hg1:=hp1.gs (f,ms++m::mr) (by simp)
 have hch:=Io hg1.2.2
 have hGl:=hp1.len
 simp only [List.length_append,List.length_map,List.length_cons] at hGl
 have hsub:=A4 (A:=[Rb br 68 d.cells.toArray,wA d,Ro 87 2 ag (G.length+1) cg ((G++[gM f am cm ms]).flatMap GR.cells),Ro 95 391 (some ⟨am,0,none⟩) ms.length cm (iO ms)]) (fun r hr=>Hp.FG hH rfl r (by simp only [List.mem_cons,List.not_mem_nil,or_false] at hr ⊢;rcases hr with h|h|h|h<;>simp [h]))
 have hpl:=C4 hs h1
 have hdl:d.ps.length=P.length+1:=by rw [h3];simp
 refine (Lw (m:=m) (by rw [h2];exact hs.ho) hl h3 (by omega) (by omega) (by rw [hm];simp) hch.1 (fun h4=>by rw [hq];have h5:=hch.2.2.1;rwa [if_neg h4] at h5) (hW.sub hsub) (hH.jO 4) (fun u hE=>hg u (uK hE hsub))).mono ?_
 rintro v w' ⟨rfl,hQ⟩
 have h4:=hH.calls 4 hQ
 have hlen:d.ps.length=(P++[(⟨hp,ag,cg,G++[gM f am cm (ms++[m])]⟩:PR)]).length:=by rw [hdl];simp
 rw [hlen] at h4
 have e:ms++m::mr=(ms++[m])++mr:=by simp
 exact ⟨rfl,_,_,.mb (d:={ d with ps:=P++[⟨hp,ag,cg,G++[gM f am cm (ms++[m])]⟩],qp:=m.q }) (ms:=ms++[m]) (mr:=mr) (by rw [h1,e]) h2 rfl hc hG (by rw [hm,e]) Il.symm,rfl,h4⟩
theorem LM {br cg f am cm:Nat} {ag:Option Addr} {d:RD} {P:List PR} {G:List GR} {ms:List MB} {F:List Nat} {w w0:World}
  (hH:Hp F w0 w [Rb br 68 d.cells.toArray,wA d,Ro 87 2 ag (G.length+1) cg ((G++[gM f am cm ms]).flatMap GR.cells),Ro 95 391 (some ⟨am,0,none⟩) ms.length cm (iO ms),RZ rP P,RZ rG G]):Hp F w0 w [Rb br 68 d.cells.toArray,wA d,Ni ag cg (G++[gM f am cm ms]),RZ rP P,RZ rG (G++[gM f am cm ms])]:=by
 have h1:=Hp.pick (Rs.of 3 hH rfl) [0,1,2,4,5,3] (by decide)
 have h2:=RZ.add (r:=rG) (e:=gM f am cm ms) 4 5 h1 rfl rfl (by decide)
 have e:G.length+1=(G++[gM f am cm ms]).length:=by simp
 rw [e] at h2
 exact h2
theorem LI {br cg:Nat} {ag:Option Addr} {d:RD} {hp:PH} {P:List PR} {G:List GR} {F:List Nat} {w w0:World}
  (hH:Hp F w0 w [Rb br 68 d.cells.toArray,wA d,Ni ag cg G,RZ rP P,RZ rG G]):Hp F w0 w [Rb br 68 d.cells.toArray,wA d,RZ rP (P++[⟨hp,ag,cg,G⟩])]:=by
 have h1:=Hp.pick (Rs.of 2 hH rfl) [0,1,3,2,4] (by decide)
 have h2:=h1.merge 3 4 rfl rfl (by decide)
 have h3:=h2.as (r':=rP ⟨hp,ag,cg,G⟩) 3 rfl (fun _ h=>h) (fun h=>⟨h.1,h.2.1⟩)
 exact RZ.add (r:=rP) (e:=⟨hp,ag,cg,G⟩) 2 3 h3 rfl rfl (by decide)
theorem Ql {s:CS} (hs:AZ s) {br k nw cw cg:Nat} {aw ag:Option Addr} {d:RD} {hp:PH} {P:List PR} {G:List GR} {gr:List (Nat × List MB)} {rest:List CP} {F:List Nat} {w:World} {x:List cV} {R:List (List cV)} (h1:s.ps=P.map PR.eP++⟨hp,G.map gc++gr⟩::rest) (h2:d.h=s.h) (h3:d.ps=P++[⟨hp,ag,cg,G⟩]) (hc:∀ q∈P,oF q.gs) (hG:oF G) (hl:d.line≠1) (hR:gr.flatMap BB++rest.flatMap sI=x::R)
  (hH:Hp F w w [Rb br 68 d.cells.toArray,wA d,Ni ag cg G,RZ rP P,RZ rG G]) (hW:WD w F aw nw cw x) (hg:∀ u,Ext F w u→GL u):aX Tryz.prog 17 #[pt br,.slice aw nw cw] w (Hy s br R (k+1) d.line F w):=by
 cases gr with
 | cons g gr=>exact Q3 hs h1 h2 h3 hc hG hl hR hH hW hg
 | nil =>
  cases rest with
  | nil=>simp at hR
  | cons p rest =>
   refine Qd hs (P:=P++[⟨hp,ag,cg,G⟩]) (p:=p) (rest:=rest) ?_ h2 h3 (fun q hq=>?_) hl ?_ (LI hH) hW hg
   ·rw [h1,List.append_nil,List.map_append,List.append_assoc]
    rfl
   ·rcases List.mem_append.1 hq with hq|hq
    ·exact hc q hq
    ·obtain rfl:=List.mem_singleton.1 hq
     exact hG
   ·simpa using hR
theorem QA {s:CS} (hs:AZ s) {br k nw cw:Nat} {aw:Option Addr} {d:RD} {H:List cK} {F:List Nat} {w:World} {x:List cV} {R0 R:List (List cV)} (hP:PI s R0 k d H) (hR0:R0=x::R) (hl:d.line=k+1)
  (hH:Hp F w w (Rb br 68 d.cells.toArray::H)) (hW:WD w F aw nw cw x) (hg:∀ u,Ext F w u→GL u):aX Tryz.prog 17 #[pt br,.slice aw nw cw] w (Hy s br R (k+1) d.line F w):=by
 have hB:(Rb br 68 d.cells.toArray).holds w:=hH.at 0 rfl
 have hbF:∀ y∈[br],y∈F:=fun y hy=>Hp.FG hH rfl (Rb br 68 d.cells.toArray) (by simp) y (by simpa [Rb] using hy)
 have hgb:∀ u,Ext [br] w u→GL u:=fun u hE=>hg u (uK hE hbF)
 have hbw:br ∉ dI aw:=hW.dj br (hbF br (by simp))
 have ho:=hP.ho hs
 cases hP with
 | hd h1 h2 h3 =>
  obtain ⟨hx,hR⟩:=List.cons.inj hR0
  subst hx
  obtain rfl:nw=4:=hW.len.symm
  refine (L3 (wt:=s.h.wt) ho hl hs.c hs.r hW.sl hB hbw hgb).mono ?_
  rintro v w' ⟨rfl,hU⟩
  have h4:=hH.up 0 rfl hU
  obtain ⟨b,hb⟩:∃ b,s.h.wt=b:=⟨_,rfl⟩
  cases b with
  | true =>
   obtain rfl:R=(eJ::gT s.h.A)::(eJ::gT s.h.Bb)::s.ps.flatMap sI:=by rw [← hR];simp [hb]
   exact ⟨rfl,_,_,.w0 (d:={ d with h:=⟨s.h.c,s.h.r,s.h.wt,d.h.A,d.h.Bb⟩ }) hb (by rw [h1];rfl) h2 h3,rfl,h4⟩
  | false =>
   obtain rfl:R=s.ps.flatMap sI:=by rw [← hR];simp [hb]
   have hn:=hs.nil hb
   refine ⟨rfl,_,_,.pc (d:={ d with h:=⟨s.h.c,s.h.r,s.h.wt,d.h.A,d.h.Bb⟩ }) (P:=[]) (rest:=s.ps) rfl ?_ h2 (fun q hq=>by cases hq),rfl,h4⟩
   show (⟨s.h.c,s.h.r,s.h.wt,d.h.A,d.h.Bb⟩:SH)=s.h
   rw [h1]
   exact SH.aH hn.1 hn.2
 | w0 hw h1 h2 h3 =>
  obtain ⟨hx,hR⟩:=List.cons.inj hR0
  subst hx
  subst hR
  obtain rfl:nw=65:=by rw [← hW.len,List.length_cons,List.length_map,hs.ho.la]
  refine (Gv ho (by omega) h2 (by rw [h1];exact hw) (by omega) hs.ho.la hs.ho.ba (hW.sub hbF) hB hgb).mono ?_
  rintro v w' ⟨rfl,hU⟩
  have h4:=hH.up 0 rfl hU
  exact ⟨rfl,_,_,.w1 (d:={ d with h:=Am d.h d.rows s.h.A,rows:=d.rows+1 }) hw (by simp only;rw [h1,h3];rfl) h2 (by simp only;rw [h3]),rfl,h4⟩
 | w1 hw h1 h2 h3 =>
  obtain ⟨hx,hR⟩:=List.cons.inj hR0
  subst hx
  subst hR
  obtain rfl:nw=65:=by rw [← hW.len,List.length_cons,List.length_map,hs.ho.lb]
  refine (Gv ho (by omega) h2 (by rw [h1];exact hw) (by omega) hs.ho.lb hs.ho.bb (hW.sub hbF) hB hgb).mono ?_
  rintro v w' ⟨rfl,hU⟩
  have h4:=hH.up 0 rfl hU
  exact ⟨rfl,_,_,.pc (d:={ d with h:=Am d.h d.rows s.h.Bb,rows:=d.rows+1 }) (P:=[]) (rest:=s.ps) rfl (by simp only;rw [h1,h3];rfl) h2 (fun q hq=>by cases hq),rfl,h4⟩
 | @pc _ k P rest h1 h2 h3 hc =>
  cases rest with
  | nil=>cases hR0
  | cons p rest=>exact Qd hs h1 h2 h3 hc (by omega) hR0 hH hW hg
 | gr h1 h2 h3 hc hG=>exact Ql hs h1 h2 h3 hc hG (by omega) hR0 hH hW hg
 | @mb _ k cg f am cm ag hp P G ms mr gr rest h1 h2 h3 hc hG hm hq =>
  cases mr with
  | cons m mr=>exact Qz hs h1 h2 h3 hc hG hm hq (by omega) hR0 hH hW hg
  | nil =>
   refine Ql hs (G:=G++[gM f am cm ms]) (gr:=gr) (rest:=rest) ?_ h2 h3 hc ?_ (by omega) hR0 (LM hH) hW hg
   ·rw [h1];simp
   ·intro g hg
    rcases List.mem_append.1 hg with hg|hg
    ·exact hG g hg
    ·obtain rfl:=List.mem_singleton.1 hg
     rw [hm];simp
theorem PI.fin {s:CS} {br k:Nat} {d:RD} {H:List cK} {F:List Nat} {w0 w:World} {R0:List (List cV)} (hP:PI s R0 k d H) (hR0:R0=[]) (hH:Hp F w0 w (Rb br 68 d.cells.toArray::H)):d.h=s.h∧s.ps=d.ps.map PR.eP∧(∀ q∈d.ps,oF q.gs)∧Hp F w0 w [Rb br 68 d.cells.toArray,wA d,RZ rP d.ps]:=by
 have key:∀ {cg:Nat} {ag:Option Addr} {hp:PH} {P:List PR} {G:List GR} {gr:List (Nat × List MB)} {rest:List CP},s.ps=P.map PR.eP++⟨hp,G.map gc++gr⟩::rest→d.h=s.h→d.ps=P++[⟨hp,ag,cg,G⟩]→(∀ q∈P,oF q.gs)→oF G→gr.flatMap BB++rest.flatMap sI=[]→Hp F w0 w [Rb br 68 d.cells.toArray,wA d,Ni ag cg G,RZ rP P,RZ rG G]→d.h=s.h∧s.ps=d.ps.map PR.eP∧(∀ q∈d.ps,oF q.gs)∧Hp F w0 w [Rb br 68 d.cells.toArray,wA d,RZ rP d.ps]:=by
  intro cg ag hp P G gr rest h1 h2 h3 hc hG hR hH
  obtain ⟨hR1,hR2⟩:=List.append_eq_nil_iff.1 hR
  obtain rfl:gr=[]:=by
   cases gr with
   | nil=>rfl
   | cons g gr=>exact absurd hR1 (by simp [BB])
  obtain rfl:rest=[]:=by
   cases rest with
   | nil=>rfl
   | cons g gr=>exact absurd hR2 (by simp [sI])
  have h4:=LI (hp:=hp) hH
  rw [← h3] at h4
  refine ⟨h2,?_,?_,h4⟩
  ·rw [h1,h3,List.append_nil,List.map_append]
   rfl
  ·intro q hq
   rw [h3] at hq
   rcases List.mem_append.1 hq with hq|hq
   ·exact hc q hq
   ·obtain rfl:=List.mem_singleton.1 hq
    exact hG
 cases hP with
 | hd h1 h2 h3=>exact absurd hR0 (by simp [uU,JM])
 | w0 hw h1 h2 h3=>cases hR0
 | w1 hw h1 h2 h3=>cases hR0
 | @pc _ k P rest h1 h2 h3 hc =>
  obtain rfl:rest=[]:=by
   cases rest with
   | nil=>rfl
   | cons g gr=>exact absurd hR0 (by simp [sI])
  subst h3
  exact ⟨h2,by rw [h1,List.append_nil],hc,hH⟩
 | gr h1 h2 h3 hc hG=>exact key h1 h2 h3 hc hG hR0 hH
 | @mb _ k cg f am cm ag hp P G ms mr gr rest h1 h2 h3 hc hG hm hq =>
  obtain ⟨hR1,hR2⟩:=List.append_eq_nil_iff.1 hR0
  obtain rfl:mr=[]:=List.map_eq_nil_iff.1 hR1
  refine key (G:=G++[gM f am cm ms]) (gr:=gr) (rest:=rest) ?_ h2 h3 hc ?_ hR2 (LM hH)
  ·rw [h1];simp
  ·intro g hg
   rcases List.mem_append.1 hg with hg|hg
   ·exact hG g hg
   ·obtain rfl:=List.mem_singleton.1 hg
    rw [hm];simp
theorem NH {P:Program} {ρ:Fr} {w:World} {dst:Option Nat} {ty t e:TypeId} {pos:String} {af:Array Edge} {gd:Option (Nat × Bool)} {x y z:Operand} {a:Option Addr} {n cap sz h:Nat} {g:Bool} {kh km:IntKind} (hx:ev ρ x=.slice a n cap) (hy:ev ρ y=.int kh (h:Int)) (hz:ev ρ z=.int km (h:Int)) (ht:sle P t=some (e,(g,sz))) (h0:0<h∧h≤cap) :
  cU P ρ ⟨dst,.slice t x none (some y) (some z),ty,pos,af,gd⟩ w (.slice (a.map (·.add 0)) h h) w:=by
 obtain ⟨hu,hs⟩:=eD ht
 have h1:¬ h=0:=by omega
 constructor;unfold execOp
 simp [hx,hy,hz,Instr.sliceAt,Instr.slice,run_underlying hu,Instr.sliceBounds,Instr.sliceBound,asIntOf,h0.2,h1,dA hs]
theorem H6 {P:Program} {N:Nat} {f:FuncId} {R:Value→World→Prop} {k:List Item} {ρ:Fr} {w:World} {t t2:TypeId} {fn:Func} {e e2:TypeId} {c b s c2 b2 s2:Nat} {cs cs2:Array Value} (hf:P.funcs[f]?=some fn) (hr:fn.results=#[.cell c t,.cell c2 t2]) (hc:ρ c=.pointer (some ⟨b,0,none⟩)) (hB:cL w b e cs) (hl:cs.size=s) (ht:aF P t=some (true,s))
  (hc2:ρ c2=.pointer (some ⟨b2,0,none⟩)) (hB2:cL w b2 e2 cs2) (hl2:cs2.size=s2) (ht2:aF P t2=some (true,s2)) (h:R (.tuple #[.agg cs,.agg cs2]) w):WS P N f R (.code .ret::k) ρ w :=
 fW hf fM (fun a ha=>by
  have h1:=ha.val c
  rw [hc,Array.getD_eq_getD_getElem?] at h1
  have h2:=ha.val c2
  rw [hc2,Array.getD_eq_getD_getElem?] at h2
  simp [results,hr,h1,h2,asAddr,iG hB hl ht,iG hB2 hl2 ht2]) h
theorem Hp.OZ {S:List Nat} {W w:World} {r:cK} {A H:List cK} (h:Hp S W w (r::SL A::H)):∀ t∈eY (r::A),t∈S∨W.heap.size≤t:=fun t ht=>by
 obtain ⟨x,hx,hxt⟩:=List.mem_flatMap.1 ht
 exact (Hp.KK h).new x (by rw [List.cons_append];rcases List.mem_cons.1 hx with rfl|hx<;>simp [*]) t hxt
theorem Oc {C R:Nat} {s:ST} (hs:s.ok C R):AZ s.eP:=by
 obtain ⟨h1,h2,h3⟩:=hs.cs
 obtain ⟨_,_,hCR⟩:=qK hs.err hs.c hs.r
 refine ⟨hs.ho,h1,h2,h3,by have:=hs.len;simpa using this.2,fun p hp=>?_⟩
 obtain ⟨p0,hp0,rfl⟩:=List.mem_map.1 hp
 obtain ⟨i,hi⟩:=List.mem_iff_getElem?.1 hp0
 have hpo:=hs.ps i p0 hi
 have hil:=(List.getElem?_eq_some_iff.1 hi).1
 have hl:=hs.len
 have hid:=hpo.id
 have hq:=rN hpo.err
 have hg:=kP hpo.gs
 refine ⟨?_,hq,?_,fun g hgm=>?_⟩
 ·show 0≤p0.h.id∧p0.h.id≤65535
  omega
 ·show (p0.gs.map _).length≤64
  rw [List.length_map];omega
 ·obtain ⟨g0,hg0,rfl⟩:=List.mem_map.1 hgm
  obtain ⟨j,hj⟩:=List.mem_iff_getElem?.1 hg0
  obtain ⟨k1,k2,k3⟩:=Cy hpo.gs hj
  exact ⟨by simp only;omega,by simp only;omega,k3⟩
theorem Hp.QJ {S:List Nat} {W w:World} {r q:cK} {A H:List cK} (k:Nat) (h:Hp S W w (r::SL A::H)) (hq:H[k]?=some q):∀ s∈eY (r::A),s ∉ q.fp:=fun s hs=>by
 rcases List.mem_append.1 (show s∈r.fp++eY A from hs) with hs|hs
 ·exact h.dj 0 (k+2) rfl hq (by omega) s hs
 ·exact h.dj (r:=SL A) 1 (k+2) rfl hq (by omega) s hs
theorem Le:∀ {ls:List (List cV)},ls.length≤(tx ls).length
 | []=>Nat.zero_le _
 | x::ls=>by
  have:=Le (ls:=ls)
  simp only [tx,List.flatMap_cons,List.length_append,List.length_cons,List.length_nil] at *
  omega
abbrev d0:RD:=⟨SH.zero,none,0,[],0,0,0⟩
set_option maxRecDepth 20000 in
set_option maxHeartbeats 8000000 in
theorem Cc {s:ST} {C R:Nat} {w:World} (hg:GL w) (hs:s.ok C R) (hT:(tx (uU s.eP)).length≤1000000) :
  aX Tryz.prog 7 #[sV (tx (uU s.eP))] w fun v w'=>∃ s':ST,v=.tuple #[.agg s'.cells.toArray,.agg #[.int .i64 0,.int .i64 0]]∧s.eP=s'.eP∧s'.rd w'∧Ext [] w w':=by
 refine aL (args:=[_]) Tryz.func7 rfl rfl Tryz.ntmps7 rfl ?_
 have hH:=Hp.start w
 have hcs:=Oc hs
 have hol:=LV hs
 obtain ⟨T,hTe⟩:∃ T,T=uU s.eP:=⟨_,rfl⟩
 have hsz:(⟨(tx (uU s.eP)).toArray⟩:ByteArray).size≤1000000:=hT
 rw [← hTe] at hol hT hsz ⊢
 have hTl:T.length≤1000000:=Nat.le_trans Le hT
 obtain ⟨L,hL⟩:∃ L:List cV,L=T.map fun x=>Lib.join x [32]:=⟨_,rfl⟩
 have hLl:L.length=T.length:=by rw [hL,List.length_map]
 have hjn:tx T=Lib.join (L++[[]]) [10]:=by rw [E5,hL]
 have hno:∀ y∈L++[[]],(10:UInt8) ∉ y:=fun y hy=>by
  rcases List.mem_append.1 hy with hy|hy
  ·rw [hL] at hy
   obtain ⟨x,hx,rfl⟩:=List.mem_map.1 hy
   exact J9 (hol x hx)
  ·obtain rfl:=List.mem_singleton.1 hy
   simp
 have hT1:∀ x∈T,x.length≤100000:=fun x hx=>by
  rw [hTe] at hx
  exact OG hs x hx
 have hTn:0<T.length:=by rw [hTe];simp [uU,JM]
 obtain ⟨x0,L0,hx0⟩:∃ x0 L0,L++[[]]=x0::L0:=by
  cases L with
  | nil=>simp at hLl;omega
  | cons a l=>exact ⟨a,l++[[]],rfl⟩
 have hL0:L0.length=T.length:=by
  have:=congrArg List.length hx0
  simp only [List.length_append,List.length_cons,List.length_nil] at this
  omega
 refine aK ?_
 refine aO ?_
 refine aA (aQ hH (Ty.bH rfl) rfl ?_)
 try clear hH
 intro _ b2 hH
 replace hH:=aI hH
 refine aO ?_
 refine aA (aQ hH (Ty.bH rfl) rfl ?_)
 try clear hH
 intro _ b3 hH
 replace hH:=aI hH
 repeat (first|refine aR ?_|(refine aD (by refine A7 rfl (Ty.K8 rfl)) rfl ?_)|refine aT ?_)
 repeat ((refine aD (by refine bR (cs:=d0.cells) (Ty.bH rfl) (Ty.iJ rfl) rfl) rfl ?_))
 refine aO ?_
 refine aA (bI (cs:=d0.cells.toArray) hH rfl rfl rfl ?_)
 try clear hH
 intro _ b4 hH
 replace hH:=aI hH
 refine aK ?_
 rw [hjn,hx0] at hT ⊢
 refine aO ?_
 refine aA (aC ((sZ (c:=10) (x:=x0) (r:=L0) (hg.ext hH.ext) (by rw [← hx0];exact hno) (by omega))) rfl rfl ?_)
 rintro _ _ ⟨bl,rfl,hN⟩
 replace hH:=hH.nu hN
 clear hN
 rw [← hx0] at hH
 rw [hL0]
 replace hH:=aI hH
 have hSl:=(hH.b 3 rfl).cX
 have hwl:(fV (L++[[]])).length=T.length+1:=by rw [List.length_map,List.length_append,hLl];rfl
 have hlast:(fV (L++[[]]))[T.length]?=some (sV []):=by
  rw [← hLl,List.getElem?_map,List.getElem?_append_right (Nat.le_refl _),Nat.sub_self];rfl
 have him:(((T.length+1:Nat):Int)-1)=(T.length:Nat):=by omega
 repeat (first|refine aR ?_|(refine aD (by first|refine (dM (m:=(T.length+1:Nat)) (n:=1) rfl rfl (by omega)).is (congrArg (Value.int .i64) him)|refine cG rfl rfl hSl hwl (Ty.sle rfl) (by omega)|refine aU rfl hSl hlast (Ty.aF rfl)|refine (iV (l:=[]) (m:=[]) rfl rfl).is (congrArg Value.bool (beq_self_eq_true _))|refine (NH (h:=T.length) rfl rfl rfl (Ty.sle rfl) (by omega)).is (show Value.slice _ _ _=.slice (some ⟨bl,0,none⟩) T.length T.length from rfl)) rfl ?_)|refine aT ?_)
 clear hSl hlast him
 have h9:=(hH.nu (iA.tY (e:=60) (sz:=5))).nu (iA.HU (r:=rP))
 have h8:=Hp.pick h9 [2,4,5,0,1,3] (by decide)
 replace hH:=Hp.O2 (r:=Rb b4 68 d0.cells.toArray) (A:=[wA d0,RZ rP []]) (H:=[Rb b2 34 sz.toArray,Rb b3 40 #[.int .i64 0,.int .i64 0],Rb bl 9 (fV (L++[[]])).toArray]) h8
 clear h9 h8
 have hP0:PI s.eP T 0 d0 [wA d0,RZ rP []]:=by rw [hTe];exact .hd rfl rfl rfl
 refine aV (G:=(Nat) × (RD) × (List cK)) (fun|(i,d,H)=>T.length-i) 590295809808949838016 (fun|(i,d,H)=>[(39,.int .i64 i)]) (fun|(i,d,H),w'=>i≤T.length∧d.line=i∧PI s.eP (T.drop i) i d H∧Hp [] w w' [Rb b4 68 d.cells.toArray,SL H,Rb b2 34 sz.toArray,Rb b3 40 #[.int .i64 0,.int .i64 0],Rb bl 9 (fV (L++[[]])).toArray]) (0,d0,[wA d0,RZ rP []]) ⟨rfl,trivial⟩ ⟨by omega,rfl,by rw [List.drop_zero];exact hP0,hH⟩ ?_
 rintro ⟨i,d,H⟩ w' σ ⟨hi,hdl,hP,hH⟩ IH
 show WS _ _ _ _ _ (bQ [(39,.int .i64 i)] _) _
 have ho:=hP.ho hcs
 have hrl:=oY (d:=d) ho
 by_cases hit:i<T.length
 ·obtain ⟨x,hx⟩:∃ x,T[i]?=some x:=⟨_,List.getElem?_eq_getElem hit⟩
  have hxl:LH x:=hol x (List.mem_of_getElem? hx)
  have hdr:T.drop i=x::T.drop (i+1):=AS hx
  have hSk:=(hH.b 4 rfl).cX.take T.length
  have hwk:((fV (L++[[]])).take T.length).length=T.length:=by rw [List.length_take,hwl];omega
  have hli:((fV (L++[[]])).take T.length)[i]?=some (sV (Lib.join x [32])):=by
   rw [List.getElem?_take,if_pos hit,List.getElem?_map,List.getElem?_append_left (by omega),hL,List.getElem?_map,hx]
   rfl
  obtain ⟨y,ys,rfl⟩:∃ y ys,x=y::ys:=by
   cases x with
   | nil=>exact absurd rfl hxl.1
   | cons y ys=>exact ⟨y,ys,rfl⟩
  have hjl:(Lib.join (y::ys) [32]).length<4294967281:=by
   have h1:=wB (x:=y) (r:=ys) (fun z hz=>(hxl.2 z hz).1)
   have h2:=hT1 (y::ys) (List.mem_of_getElem? hx)
   rw [List.length_cons] at h2
   omega
  repeat (first|refine aR ?_|(refine aD (by first|refine aG rfl|refine aN rfl (Ty.bA rfl rfl)|refine cG rfl rfl hSk hwk (Ty.sle rfl) (by omega)|refine aU rfl hSk hli (Ty.aF rfl)) rfl ?_)|refine aT ?_)
  clear hSk
  refine aA (bV 0 (o:=0+132) (v:=.int .i64 ((i+1:Nat):Int)) hH rfl rfl rfl (by rw [hrl];decide) rfl (Ty.aF rfl) ?_)
  clear hH
  intro _ hH
  rw [fS ho (by decide)] at hH
  replace hH:=hH.as (r':=Rb b4 68 ({ d with line:=i+1 }:RD).cells.toArray) 0 rfl (fun _ h=>h) (fun h=>h)
  replace hH:=aI hH
  have hP1:=hP.line (l:=i+1)
  refine aK ?_
  refine aO ?_
  refine aA (aC ((sZ (c:=32) (x:=y) (r:=ys) (hg.ext hH.ext) (Ki hxl) hjl)) rfl rfl ?_)
  rintro _ u2 ⟨bw,rfl,hN⟩
  replace hH:=hH.nu hN
  clear hN
  replace hH:=aI hH
  have hWD:WD u2 (eY (Rb b4 68 ({ d with line:=i+1 }:RD).cells.toArray::H)) (some ⟨bw,0,none⟩) (ys.length+1) (ys.length+1) (y::ys) :=
   ⟨(hH.b 5 rfl).cX,rfl,Nat.le_refl _,fun t ht=>Hp.QJ 3 hH rfl t ht,fun t ht=>by
    obtain rfl:t=bw:=by simpa [dI] using ht
    exact (hH.b 5 rfl).lt⟩
  refine aK ?_
  refine aO ?_
  refine aA (aC ((QA hcs hP1 hdr rfl (Hp.fQ (Hp.Kw hH)) hWD (fun u hE=>hg.ext (hH.ext.trans hE (fun t ht=>Hp.OZ hH t ht))))) rfl rfl ?_)
  rintro _ u3 ⟨rfl,d2,H2,hP2,hl2,hQ⟩
  replace hH:=Hp.H3 hH hQ
  clear hQ hWD
  replace hH:=aI hH
  have ho2:=hP2.ho hcs
  have hB:=hH.b 0 rfl
  repeat (first|refine aR ?_|(refine aD (by first|refine aG rfl|refine aN rfl (Ty.bA rfl rfl)|refine aB rfl hB ((cQ ho2 (Nat.le_of_ble_eq_true rfl)).trans rfl) (Ty.aF rfl)) rfl ?_)|refine aT ?_)
  clear hB
  replace hH:=hH.take 5
  replace hH:=aI hH
  refine IH (i+1,d2,H2) _ _ ?_ ?_ ?_ ?_
  ·simp only;omega
  ·exact ⟨rfl,trivial⟩
  ·exact cP
  ·exact ⟨by omega,hl2,hP2,hH⟩
 ·obtain rfl:i=T.length:=by omega
  clear IH
  obtain ⟨h1,h2,h3,hQ⟩:=PI.fin hP List.drop_length (Hp.fQ (Hp.Kw hH))
  replace hH:=Hp.KK (Hp.H3 hH hQ)
  clear hQ
  replace hH:=aI hH
  have hZ:(RZ rP d.ps).holds _:=hH.at 2 rfl
  have hpl:d.ps.length≤16:=by
   have:=hcs.len
   rw [h2,List.length_map] at this
   exact this
  have hgl:∀ p∈d.ps,p.gs.length≤64:=fun p hp=>by
   have:=(hcs.ps (PR.eP p) (by rw [h2];exact List.mem_map.2 ⟨p,hp,rfl⟩)).len
   simpa [PR.eP] using this
  refine aK ?_
  refine aO ?_
  refine aA (aC ((oQ ho (hH.b 0 rfl) (hH.o 1 rfl).sl (by omega) (fun P p hp=>⟨(hZ p (by rw [hp];simp)).1,by have:=hgl p (by rw [hp];simp);omega,fun G g hg=>h3 p (by rw [hp];simp) g (by rw [hg];simp)⟩))) rfl rfl ?_)
  rintro _ u7 ⟨rfl,hE0⟩
  replace hH:=hH.aH hE0
  clear hE0
  replace hH:=aI hH
  obtain ⟨s',hse⟩:∃ s':ST,s'=⟨d.h,d.a,d.cap,d.ps⟩:=⟨_,rfl⟩
  have hcon:s.eP=s'.eP:=by
   rw [hse]
   show (⟨s.h,s.ps.map PR.eP⟩:CS)=⟨d.h,d.ps.map PR.eP⟩
   rw [h1,← h2]
  have hso:=hs.eP hcon
  have hZ:(RZ rP d.ps).holds _:=hH.at 2 rfl
  have hrd:s'.rd u7:=by
   rw [hse]
   exact ⟨(hH.o 1 rfl).sl,fun p hp=>⟨(hZ p hp).1,fun g hg=>(hZ p hp).2 g hg⟩⟩
  have hsc:(d.cells.drop (0+0)).take 132=s'.cells:=by
   rw [hse]
   show (d.h.cells++([_]++[_,_,_,_])).take 132=d.h.cells++[_]
   rw [← List.append_assoc,List.take_left' (by rw [List.length_append,SH.bK ho];rfl)]
  have hsl:=gW (s:=s') hso.ho
  have hB:=hH.b 0 rfl
  have hS4:=hB.cX
  repeat (first|refine aR ?_|(refine aD (by first|refine aG rfl|refine aN rfl (Ty.bA rfl rfl)|refine aB rfl hB ((cQ ho (Nat.le_of_ble_eq_true rfl)).trans rfl) (Ty.aF rfl)|refine bG (j:=0+0) (cs:=s'.cells) rfl hS4 hsc hsl (Ty.aF rfl)) rfl ?_)|refine aT ?_)
  clear hB hS4
  refine aO ?_
  refine aA (aC ((tJ hso hrd)) rfl rfl ?_)
  rintro _ _ ⟨rfl,hE0⟩
  replace hH:=hH.aH hE0
  clear hE0
  replace hH:=aI hH
  repeat ((refine aD (by first|refine aG rfl|refine aN rfl (Ty.bA rfl rfl)) rfl ?_))
  refine aA (bV 0 (o:=0+133) (v:=.int .i64 0) hH rfl rfl rfl (by rw [hrl];decide) rfl (Ty.aF rfl) ?_)
  clear hH
  intro _ hH
  rw [fS ho (by decide)] at hH
  replace hH:=hH.as (r':=Rb b4 68 d.cells.toArray) 0 rfl (fun _ h=>h) (fun h=>h)
  replace hH:=aI hH
  have hB:=hH.b 0 rfl
  have hS4:=hB.cX
  repeat (first|refine aR ?_|(refine aD (by first|refine aG rfl|refine aN rfl (Ty.bA rfl rfl)|refine aB rfl hB ((cQ ho (Nat.le_of_ble_eq_true rfl)).trans rfl) (Ty.aF rfl)|refine bG (j:=0+0) (cs:=s'.cells) rfl hS4 hsc hsl (Ty.aF rfl)|refine bR (cs:=[.int .i64 0,.int .i64 0]) (Ty.bH rfl) (Ty.iJ rfl) rfl) rfl ?_)|refine aT ?_)
  clear hB hS4
  refine aA (aJ 3 (vs:=s'.cells.toArray) (s:=132) hH rfl rfl rfl (by rw [List.size_toArray,hsl]) (by kernel_rfl) (iP s') (Ty.aF rfl) ?_)
  clear hH
  intro _ hH
  replace hH:=aI hH
  refine aK ?_
  refine aO ?_
  refine aA (aJ 4 (vs:=#[.int .i64 0,.int .i64 0]) (s:=2) hH rfl rfl rfl (by rfl) (by rfl) (by decide) (Ty.aF rfl) ?_)
  try clear hH
  intro _ hH
  replace hH:=aI hH
  refine aK ?_
  have hZ:(RZ rP d.ps).holds _:=hH.at 2 rfl
  exact H6 Tryz.func7 rfl rfl (hH.b 3 rfl) (by rw [List.size_toArray,hsl]) (Ty.aF rfl) rfl (hH.b 4 rfl) rfl (Ty.aF rfl) ⟨s',rfl,hcon,by rw [hse];exact ⟨(hH.o 1 rfl).sl,fun p hp=>⟨(hZ p hp).1,fun g hg=>(hZ p hp).2 g hg⟩⟩,hH.ext⟩
theorem Ma {P:Program} {ρ:Fr} {w:World} {dst:Option Nat} {ty t u:TypeId} {pos:String} {af:Array Edge} {gd:Option (Nat × Bool)} {x y:Operand} {s:ByteArray} (hx:ev ρ x=.string s) (hy:ev ρ y=.string s):cU P ρ ⟨dst,.binOp .eql t x y u,ty,pos,af,gd⟩ w (.bool true) w :=
 dB hx hy (aZ rfl) (by
  show (Op.stringOp .eql s s).run P w=_
  simp [Op.stringOp])
theorem Lg {P:Program} {ρ:Fr} {w:World} {dst:Option Nat} {ty t u:TypeId} {pos:String} {af:Array Edge} {gd:Option (Nat × Bool)} {x y:Operand} {ks:List (Option IntKind)} {xs:List Value} (hx:ev ρ x=.agg xs.toArray) (hy:ev ρ y=.agg xs.toArray) (hk:Cz P t=some ks) (hf:iY ks xs):cU P ρ ⟨dst,.binOp .eql t x y u,ty,pos,af,gd⟩ w (.bool true) w :=
 Ik (p:=True) hx hy hk hf hf ⟨fun _=>trivial,fun _=>rfl⟩
theorem Hp.zx {W u u':World} {L:List (Nat × TypeId × Array Value)} (h:Hp [] W u (OB L)) (hW:W.drawn=0) (hE:Ext [] (zw u) u'):Hp [] W u' (OB L):=by
 refine ⟨⟨hE.os.trans h.ext.os,hE.tape.trans h.ext.tape,hE.output.trans h.ext.output,Nat.le_trans h.ext.size hE.size,by rw [hW];exact Nat.zero_le _,fun k hk hs=>(hE.block k (Nat.lt_of_lt_of_le hk h.ext.size) hs).trans (h.ext.block k hk hs)⟩,fun r hr=>?_,h.new,h.apart⟩
 obtain ⟨x,hx,rfl⟩:=List.mem_map.1 hr
 exact (Rb x.1 x.2.1 x.2.2).keep (w:=zw u) (h.all _ hr) hE (by simp)
theorem ER {w w':World} {s:ST} (h:s.rd w) (hE:Ext [] (zw w) w'):s.rd w':=⟨lR h.1 hE,fun p hp=>⟨lR (h.2 p hp).1 hE,fun g hg=>lR ((h.2 p hp).2 g hg) hE⟩⟩
theorem Ml {w w':World} (h:Ext [] (zw w) w'):Below w.heap.size w w':=⟨h.os,h.tape,h.output,h.size,fun b hb=>h.block b hb (by simp)⟩
theorem Kh {w u1 u5 u9:World} (h1:Ext [] (zw w) u1) (h2:Ext [] (zw u1) u5) (h3:Ext [] (zw u5) u9):Below w.heap.size w u9 :=
 ⟨h3.os.trans (h2.os.trans h1.os),h3.tape.trans (h2.tape.trans h1.tape),h3.output.trans (h2.output.trans h1.output),Nat.le_trans h1.size (Nat.le_trans h2.size h3.size),fun k hk=>by
  have k1:k<u1.heap.size:=Nat.lt_of_lt_of_le hk h1.size
  have k2:k<u5.heap.size:=Nat.lt_of_lt_of_le k1 h2.size
  exact (h3.block k k2 (by simp)).trans ((h2.block k k1 (by simp)).trans (h1.block k hk (by simp)))⟩
set_option maxRecDepth 20000 in
set_option maxHeartbeats 8000000 in
theorem AX {h:SH} {q ev fa:Int} {fo wa tu:Bool} {ma ta:Int} {l:List SM} {al:Option Addr} {cap:Nat} {w:World} (hg:GL w) (ho:h.ok) (hlo:∀ s∈l,s.S.length≤2000→s.ok) (hL:cI w al (l.flatMap SM.cells)) (hR:∀ s∈l,s.rd w) (hn:l.length≤9223372036854775807) :
  aX Tryz.prog 3 #[.agg (Ac h q ev fa fo wa tu ma ta).toArray,.slice al l.length cap] w fun v w'=>v=.bool true∧Below w.heap.size w w':=by
 refine aL (args:=[_,_]) Tryz.func3 rfl rfl Tryz.ntmps3 rfl ?_
 have hH:=Hp.AT w
 have hcl:=qP ho (q:=q) (ev:=ev) (fa:=fa) (fo:=fo) (wa:=wa) (tu:=tu) (ma:=ma) (ta:=ta)
 refine aK ?_
 refine aO ?_
 refine aA (bI (cs:=(Ac h q ev fa fo wa tu ma ta).toArray) hH rfl rfl rfl ?_)
 try clear hH
 intro _ b2 hH
 replace hH:=aI hH
 refine aK ?_
 refine aO ?_
 refine aA (aC ((CG _)) rfl rfl ?_)
 rintro _ _ ⟨rfl,hE0⟩
 replace hH:=hH.aH hE0
 clear hE0
 replace hH:=aI hH
 refine aK ?_
 have hLz:=lR hL hH.ext
 refine aO ?_
 refine aA (aC ((Bc hLz (by omega))) rfl rfl ?_)
 rintro _ _ ⟨hv,hE⟩
 replace hH:=hH.aH hE
 clear hE hLz
 replace hH:=aI hH
 rcases hv with ⟨rfl,h20,h30⟩|rfl
 ·have hB2:=hH.b 0 rfl
  repeat (first|refine aR ?_|(refine aD (by refine aE rfl hB2 (by rw [List.size_toArray,hcl]) (Ty.aF rfl)) rfl ?_)|refine aT ?_)
  clear hB2
  refine aO ?_
  refine aA (aC ((C5 ho (fun s hs=>hlo s hs (h20 s hs)) (lR hL hH.ext) (fun s hs=>lR (hR s hs) hH.ext) h30)) rfl rfl ?_)
  rintro _ u1 ⟨s,c,r,a2,n2,c2,rfl,hso,⟨⟨hc1,hc3⟩,⟨hr1,hr3⟩,h6⟩,hrd,hE⟩
  have hx1:=(hH.aH hE).ext
  clear hE hH
  have hg1:=lX hg hx1
  have hH:=Hp.AT u1
  have hsl:=gW (s:=s) hso.ho
  have hT:=Jy hso hc3 hr3 h6
  refine aK ?_
  refine aA (aQ (zs:=sz) hH (Ty.bH rfl) rfl ?_)
  clear hH
  intro _ b5 hH
  replace hH:=aI hH
  refine aK ?_
  refine aA (aJ 0 (vs:=s.cells.toArray) (s:=132) hH rfl rfl rfl (by rw [List.size_toArray,hsl]) (by kernel_rfl) (iP s) (Ty.aF rfl) ?_)
  clear hH
  intro _ hH
  replace hH:=aI hH
  have hB5:=hH.b 0 rfl
  repeat (first|refine aR ?_|(refine aD (by refine aE rfl hB5 (by rw [List.size_toArray,hsl]) (Ty.aF rfl)) rfl ?_)|refine aT ?_)
  clear hB5
  refine aO ?_
  refine aA (aC ((Dq (lX hg1 hH.ext) hso (ER hrd hH.ext) hT)) rfl rfl ?_)
  rintro _ u4 ⟨rfl,hE⟩
  replace hH:=Hp.zx (L:=[(b5,34,s.cells.toArray)]) hH rfl hE
  clear hE
  replace hH:=aI hH
  refine aK ?_
  refine aO ?_
  refine aA (aC ((Cc (lX hg1 hH.ext) hso hT)) rfl rfl ?_)
  rintro _ u5 ⟨s',rfl,hcon,hrd2,hE⟩
  replace hH:=hH.aH hE
  clear hE
  have hx2:=hH.ext
  have hB5:=hH.b 0 rfl
  have hrd1:=ER hrd hx2
  clear hH
  have hso2:=hso.eP hcon
  have hsl2:=gW (s:=s') hso2.ho
  have hbb:I4 c r s'=I4 c r s:=(JD hcon).symm
  have hH:=Hp.AT u5
  refine aK ?_
  refine aA (aQ (zs:=sz) hH (Ty.bH rfl) rfl ?_)
  clear hH
  intro _ b8 hH
  replace hH:=aI hH
  refine aK ?_
  refine aA (aQ (zs:=[.int .i64 0,.int .i64 0]) hH (Ty.bH rfl) rfl ?_)
  clear hH
  intro _ b9 hH
  replace hH:=aI hH
  refine aK ?_
  refine aA (aJ 0 (vs:=s'.cells.toArray) (s:=132) hH rfl rfl rfl (by rw [List.size_toArray,hsl2]) (by kernel_rfl) (iP s') (Ty.aF rfl) ?_)
  clear hH
  intro _ hH
  replace hH:=aI hH
  refine aK ?_
  refine aO ?_
  refine aA (aJ 1 (vs:=#[.int .i64 0,.int .i64 0]) (s:=2) hH rfl rfl rfl (by rfl) (by rfl) (by decide) (Ty.aF rfl) ?_)
  try clear hH
  intro _ hH
  replace hH:=aI hH
  have hBz:=cL.ext (w:=zw u5) hB5 hH.ext (by simp)
  repeat (first|refine aR ?_|(refine aD (by refine aE rfl hBz (by rw [List.size_toArray,hsl]) (Ty.aF rfl)) rfl ?_))
  clear hBz
  refine aO ?_
  refine aA (aC ((vH hso (ER hrd1 hH.ext))) rfl rfl ?_)
  rintro _ _ ⟨a1,e1,rfl,hN⟩
  replace hH:=hH.nu hN
  clear hN
  replace hH:=aI hH
  have hB8:=hH.b 0 rfl
  repeat (first|refine aR ?_|(refine aD (by refine aE rfl hB8 (by rw [List.size_toArray,hsl2]) (Ty.aF rfl)) rfl ?_)|refine aT ?_)
  clear hB8
  refine aO ?_
  refine aA (aC ((vH hso2 (ER hrd2 hH.ext))) rfl rfl ?_)
  rw [hbb]
  rintro _ _ ⟨a3,e3,rfl,hN⟩
  replace hH:=hH.nu hN
  clear hN
  replace hH:=aI hH
  have hB9:=hH.b 1 rfl
  have hS1:=(hH.o 2 rfl).sl
  have hS3:=(hH.o 3 rfl).sl
  have hfw:iY [some .i64,some .i64] [.int .i64 0,.int .i64 0]:=⟨⟨rfl,by decide,by decide⟩,⟨rfl,by decide,by decide⟩,trivial⟩
  repeat (first|refine aR ?_|(refine aD (by first|refine aE rfl hB9 rfl (Ty.aF rfl)|refine bR (cs:=[.int .i64 0,.int .i64 0]) (Ty.bH rfl) (Ty.iJ rfl) rfl|refine Lg (xs:=[.int .i64 0,.int .i64 0]) rfl rfl (Ty.Qm rfl) hfw|refine Im rfl rfl hS1 (Ty.sle rfl) (Ty.Co rfl) (Ty.K8 rfl)|refine Im rfl rfl hS3 (Ty.sle rfl) (Ty.Co rfl) (Ty.K8 rfl)|refine Ma (s:=strOf (I4 c r s)) rfl rfl) rfl ?_)|refine aT ?_)
  exact aM Tryz.func3 rfl ⟨rfl,Kh hx1 hx2 hH.ext⟩
 ·refine aK ?_
  exact aM Tryz.func3 rfl ⟨rfl,Ml hH.ext⟩
end Go.Proofs.YtdbnmbkjmeepkaaGreatDoor
