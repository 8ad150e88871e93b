/- A part of the proof that TopWorse is true at every input; no condition. -/
import Derived.Test.YtpbiicegmcpkpaaGreatT16
namespace Go.Proofs.YtpbiicegmcpkpaaGreat
open Go Go.K Go.P Go.RowKit Go.Proofs
abbrev nv (l:List Nat):List Value:=l.map fun (n:Nat)=>Value.int .i64 (n:Int)
abbrev uv (l:List Nat):List Value:=l.map fun (n:Nat)=>Value.int .u64 (n:Int)
structure CD where
 sz:List Nat
 ws:List Nat
 T:List Int
 a0:Option Addr
 c0:Nat
 a1:Option Addr
 c1:Nat
 a2:Option Addr
 n2:Nat
 c2:Nat
abbrev CD.cs (D:CD):Array Value:=#[.slice D.a0 D.sz.length D.c0,.slice D.a1 D.sz.length D.c1,.slice D.a2 D.n2 D.c2]
def RC (p:Nat) (D:CD):Res:=Res.and (Rb p 228 D.cs) (Res.and (Rs D.a0 (nv D.sz)) (Res.and (Rs D.a1 (uv D.ws)) (Rs D.a2 (iv D.T))))
abbrev CD.ok (D:CD):Prop:=GC D.sz D.ws D.T∧D.T.length=2*D.n2
theorem rs_fp {a:Option Addr} {vs:List Value} {x:Nat} (h:x∈(Rs a vs).fp):x∈blk a:=by
 have h':x∈(if vs=[] then [] else blk a):=h
 split at h'
 ·cases h'
 ·exact h'
theorem RC.new {p n0 n2:Nat} {a0 a1 a2:Option Addr} {c0 c1 c2:Nat} {sz ws:List Nat} {T:List Int} {w w':World} (hn:sz.length=n0) (h:Hp [] w w' [Rb p 228 #[.slice a0 n0 c0,.slice a1 n0 c1,.slice a2 n2 c2],Ro 3 1 a0 n0 c0 (nv sz),Ro 85 1 a1 n0 c1 (uv ws),Ro 281 2 a2 n2 c2 (iv T)]) :
  New (RC p ⟨sz,ws,T,a0,c0,a1,c1,a2,n2,c2⟩) w w':=by
 subst hn
 refine ⟨h.ext,⟨h.b 0 rfl,(h.o 1 rfl).sl,(h.o 2 rfl).sl,(h.o 3 rfl).sl⟩,fun x hx=>?_⟩
 have key:∀ (i:Nat) (r:Res),[Rb p 228 #[.slice a0 sz.length c0,.slice a1 sz.length c1,.slice a2 n2 c2],Ro 3 1 a0 sz.length c0 (nv sz),Ro 85 1 a1 sz.length c1 (uv ws),Ro 281 2 a2 n2 c2 (iv T)][i]?=some r→x∈r.fp→w.heap.size≤x:=fun i r hi hr=>by
  rcases h.new r (List.mem_of_getElem? hi) x hr with h1|h1
  ·cases h1
  ·exact h1
 rcases List.mem_append.1 hx with hx|hx
 ·exact key 0 _ rfl hx
 rcases List.mem_append.1 hx with hx|hx
 ·exact key 1 _ rfl (rs_fp hx)
 rcases List.mem_append.1 hx with hx|hx
 ·exact key 2 _ rfl (rs_fp hx)
 ·exact key 3 _ rfl (rs_fp hx)
def CNew (l:List Int) (v:Value) (w w':World):Prop :=
 (¬ (1≤l.length∧l.length≤64)∧v=.tuple #[np,.int .i64 7]∧Ext [] w w') ∨
 ((1≤l.length∧l.length≤64)∧(∃ x∈l,¬ (1≤x∧x≤32))∧v=.tuple #[np,.int .i64 2]∧Ext [] w w') ∨
 ∃ sz:List Nat,l=sz.map (fun (n:Nat)=>(n:Int))∧(1≤sz.length∧sz.length≤64)∧(∀ n∈sz,1≤n∧n≤32) ∧
  ((codeOf sz=none∧v=.tuple #[np,.int .i64 8]∧Ext [] w w')∨∃ p D,D.sz=sz∧D.ok∧v=.tuple #[pt p,.int .i64 0]∧New (RC p D) w w')
def IsO (W0:Nat) (e:TypeId) (n:Nat) (vs:List Value):Value→World→Prop:=fun v w=>∃ a c,v=.slice a n c∧Own w e 1 a n c vs∧∀ x∈blk a,W0≤x
theorem IsO.st {W0 n:Nat} {e:TypeId} {vs:List Value}:Stable (IsO W0 e n vs):=fun _ _ _ ⟨a,c,h,hO,hf⟩ hE=>⟨a,c,h,hO.ext0 hE,hf⟩
def Parts (W0 n:Nat) (vs:List Value) (a:Option Addr) (c b5 b6:Nat) (w:World):Prop :=
 (Own w 3 1 a n c vs∧∀ x∈blk a,W0≤x)∧(Blk w b5 85 (madeCells [Value.int .u64 0].toArray (n*1))∧W0≤b5)∧(Blk w b6 281 (madeCells [Value.int .i64 0,Value.int .i64 0].toArray (1*2))∧W0≤b6)
theorem Parts.ext0 {W0 n:Nat} {vs:List Value} {a:Option Addr} {c b5 b6:Nat} {w w':World} (h:Parts W0 n vs a c b5 b6 w) (hE:Ext [] w w'):Parts W0 n vs a c b5 b6 w':=⟨⟨h.1.1.ext0 hE,h.1.2⟩,⟨h.2.1.1.ext0 hE,h.2.1.2⟩,⟨h.2.2.1.ext0 hE,h.2.2.2⟩⟩
abbrev csO (n:Nat) (a:Option Addr) (c b5 b6:Nat):Array Value:=#[.slice a n c,.slice (some ⟨b5,0,none⟩) n n,.slice (some ⟨b6,0,none⟩) 1 1]
def IsP (W0 n:Nat) (vs:List Value):Value→World→Prop:=fun v w=>∃ a c b5 b6,v=.agg (csO n a c b5 b6)∧Parts W0 n vs a c b5 b6 w
theorem IsP.st {W0 n:Nat} {vs:List Value}:Stable (IsP W0 n vs):=fun _ _ _ ⟨a,c,b5,b6,h,hP⟩ hE=>⟨a,c,b5,b6,h,hP.ext0 hE⟩
theorem made2 (x y:Value):madeCells [x,y].toArray (1*2)=#[x,y]:=by
 refine Array.ext (by simp [size_madeCells]) (fun i h1 h2=>?_)
 have:i=0∨i=1:=by simp at h2;omega
 rcases this with rfl|rfl<;>simp [madeCells]
def IsQ (W0 n:Nat) (vs:List Value):Value→World→Prop:=fun v w=>∃ a c b5 b6 b8,v=pt b8∧Parts W0 n vs a c b5 b6 w∧Blk w b8 228 (csO n a c b5 b6)∧W0≤b8
theorem IsQ.st {W0 n:Nat} {vs:List Value}:Stable (IsQ W0 n vs):=fun _ _ _ ⟨a,c,b5,b6,b8,h,hP,hB,hb⟩ hE=>⟨a,c,b5,b6,b8,h,hP.ext0 hE,hB.ext0 hE,hb⟩
theorem blk_ne {w:World} {b b':Nat} {e e':TypeId} {cs cs':Array Value} (h:Blk w b e cs) (h':Blk w b' e' cs') (hne:e≠e'):b≠b':=fun hb=>by
 subst hb
 have h3:some (Obj.cells cs e (0,0))=some (Obj.cells cs' e' (0,0)):=h.symm.trans h'
 simp only [Option.some.injEq,Obj.cells.injEq] at h3
 exact hne h3.2.1
theorem own_ne {w:World} {b sz n c:Nat} {e e':TypeId} {cs:Array Value} {a:Option Addr} {vs:List Value} (h:Blk w b e cs) (h':Own w e' sz a n c vs) (hne:e≠e'):b ∉ blk a:=fun hb=>by
 obtain ⟨_,_,_,⟨rfl,_⟩|⟨b',cur,rfl,hB,_⟩⟩:=h'
 ·cases hb
 ·exact blk_ne h hB hne (by simpa [blk] using hb)
theorem IsQ.hp {w w':World} {n:Nat} {vs:List Value} {v:Value} (hn:n≤9223372036854775807) (hE:Ext [] w w') (h:IsQ w.heap.size n vs v w'):∃ a c b5 b6 b8,v=pt b8 ∧
  Hp [] w w' [Rb b8 228 (csO n a c b5 b6),Ro 3 1 a n c vs,Ro 85 1 (some ⟨b5,0,none⟩) n n (uv (List.replicate n 0)),Ro 281 2 (some ⟨b6,0,none⟩) 1 1 (iv [0,0])]:=by
 obtain ⟨a,c,b5,b6,b8,rfl,⟨⟨hO,hf⟩,⟨hB5,h5⟩,⟨hB6,h6⟩⟩,hB8,h8⟩:=h
 refine ⟨a,c,b5,b6,b8,rfl,?_⟩
 have h0:Hp [] w w' [Rb b8 228 (csO n a c b5 b6),Ro 3 1 a n c vs,Rb b5 85 (madeCells [Value.int .u64 0].toArray (n*1)),Rb b6 281 (madeCells [Value.int .i64 0,Value.int .i64 0].toArray (1*2))]:=by
  refine ⟨hE,fun r hr=>?_,fun r hr x hx=>.inr ?_,?_⟩
  ·simp only [List.mem_cons,List.not_mem_nil,or_false] at hr
   rcases hr with rfl|rfl|rfl|rfl
   ·exact hB8
   ·exact hO
   ·exact hB5
   ·exact hB6
  ·simp only [List.mem_cons,List.not_mem_nil,or_false] at hr
   rcases hr with rfl|rfl|rfl|rfl
   ·have:x=b8:=by simpa [Rb] using hx
    omega
   ·exact hf x hx
   ·have:x=b5:=by simpa [Rb] using hx
    omega
   ·have:x=b6:=by simpa [Rb] using hx
    omega
  ·have d1:∀ {b:Nat} {e:TypeId} {cs:Array Value},Blk w' b e cs→e≠3→Dj (Rb b e cs) (Ro 3 1 a n c vs):=fun {b e cs} hB hne x hx hx'=>by
    have:x=b:=by simpa [Rb] using hx
    subst this
    exact own_ne hB hO hne hx'
   have d2:∀ {b b':Nat} {e e':TypeId} {cs cs':Array Value},Blk w' b e cs→Blk w' b' e' cs'→e≠e'→Dj (Rb b e cs) (Rb b' e' cs'):=fun {b b' e e' cs cs'} hB hB' hne x hx hx'=>by
    have h1:x=b:=by simpa [Rb] using hx
    have h2:x=b':=by simpa [Rb] using hx'
    exact blk_ne hB hB' hne (h1.symm.trans h2)
   simp only [List.pairwise_cons,List.mem_cons,List.not_mem_nil,or_false,forall_eq_or_imp,forall_eq,List.Pairwise.nil,and_true,false_implies,implies_true]
   exact ⟨⟨d1 hB8 (by decide),d2 hB8 hB5 (by decide),d2 hB8 hB6 (by decide)⟩,⟨(d1 hB5 (by decide)).symm,(d1 hB6 (by decide)).symm⟩,d2 hB5 hB6 (by decide)⟩
 have h1:=h0.made 2 rfl hn
 have h2:=h1.as 3 rfl (r':=Ro 281 2 (some ⟨b6,0,none⟩) 1 1 (iv [0,0])) (fun _ h=>h) (fun h=>by
  rw [made2] at h
  exact (h:Blk _ _ _ _).own (n:=1) (sz:=2) rfl (by decide))
 simpa [uv] using h2
abbrev wof (a:CE):List Bool × Nat:=(nb a.2.1 a.2.2,a.1)
theorem ints_all {l:List Int} (h:∀ x∈l,1≤x∧x≤32):∃ sz:List Nat,l=sz.map (fun (n:Nat)=>(n:Int))∧∀ n∈sz,1≤n∧n≤32:=by
 refine ⟨l.map Int.toNat,?_,fun n hn=>?_⟩
 ·rw [List.map_map]
  refine (List.map_id' l).symm.trans (List.map_congr_left fun x hx=>?_)
  have:=h x hx
  show x=((x.toNat:Nat):Int)
  omega
 ·obtain ⟨x,hx,rfl⟩:=List.mem_map.1 hn
  have:=h x hx
  omega
set_option maxRecDepth 20000 in
set_option maxHeartbeats 8000000 in
theorem cnew_spec {a:Option Addr} {n0 c:Nat} {l:List Int} {w:World} (hS:SlA w a (l.map (Value.int .i64))) (hn:l.length=n0) (hlen:n0≤9223372036854775807) :
  Does Tryz.prog 82 #[.slice a n0 c] w fun v w'=>CNew l v w w':=by
 subst hn
 refine Does_of (args:=[_]) Tryz.func82 rfl rfl Tryz.ntmps82 rfl ?_
 by_cases hlo:l.length<1
 ·skip
  repeat (first|refine WS_seq ?_|refine WS_region ?_|refine WL_nil ?_|refine WS_true rfl ?_|refine WL_gno (b:=true) rfl rfl (dT (by omega)) rfl rfl ?_|(refine WL_r (by first|refine Run_pev rfl|refine k_len rfl (Ty.isl rfl)|refine k_pick_t (dT (by omega)) rfl) rfl ?_))
  exact WS_ret2 Tryz.func82 rfl (.inl ⟨by omega,rfl,.refl⟩)
 by_cases hhi:64<l.length
 ·skip
  repeat (first|refine WS_seq ?_|refine WS_region ?_|refine WL_nil ?_|refine WS_yes rfl (by omega) ?_|refine WL_gyes rfl rfl (dF (by omega)) ?_|(refine WL_r (by first|refine Run_pev rfl|refine k_len rfl (Ty.isl rfl)|refine k_pick_f (dF (by omega)) rfl) rfl ?_))
  exact WS_ret2 Tryz.func82 rfl (.inl ⟨by omega,rfl,.refl⟩)
 have hll:(l.map (Value.int .i64)).length=l.length:=by simp
 repeat (first|refine WS_seq ?_|refine WS_region ?_|refine WL_nil ?_|refine WS_skip ?_|refine WS_no rfl (by omega) ?_|refine WL_gyes rfl rfl (dF (by omega)) ?_|(refine WL_r (by first|refine Run_pev rfl|refine k_len rfl (Ty.isl rfl)|refine k_pick_f (dF (by omega)) rfl) rfl ?_))
 refine WS_specK [IsNew w.heap.size 3 #[] (fun b=>.slice (some ⟨b,0,none⟩) 0 0),Is (.slice a l.length c),IsO w.heap.size 3 l.length (l.map (Value.int .i64)),Is (.slice a l.length c),Is (.int .i64 l.length),IsNew w.heap.size 85 (madeCells [Value.int .u64 0].toArray (l.length*1)) (fun b=>.slice (some ⟨b,0,none⟩) l.length l.length),IsNew w.heap.size 281 (madeCells [Value.int .i64 0,Value.int .i64 0].toArray (1*2)) (fun b=>.slice (some ⟨b,0,none⟩) 1 1),IsP w.heap.size l.length (l.map (Value.int .i64)),IsQ w.heap.size l.length (l.map (Value.int .i64)),IsQ w.heap.size l.length (l.map (Value.int .i64))] Ty.mixed [(265289728,[],true),(264765440,[],true),(198705152,[(0,19),(1,20)],true),(255328256,[],true),(242745344,[(3,22)],true),(184025088,[(4,23)],true),(167247872,[],true),(66584576,[(2,21),(5,24),(6,25)],true),(133693440,[(7,26)],true),(267911168,[(8,27)],true)] 267911184 [(9,4)] (by kernel_rfl) (by kernel_rfl) (by kernel_rfl) (by kernel_rfl) (by kernel_rfl) ⟨(by exact IsNew.st),Is.st,(by exact IsO.st),Is.st,Is.st,(by exact IsNew.st),(by exact IsNew.st),(by exact IsP.st),(by exact IsQ.st),(by exact IsQ.st),trivial⟩ ⟨⟨GOk.none,?_⟩,⟨GOk.none,?_⟩,⟨GOk.none,?_⟩,⟨GOk.none,?_⟩,⟨GOk.none,?_⟩,⟨GOk.none,?_⟩,⟨GOk.none,?_⟩,⟨GOk.none,?_⟩,⟨GOk.none,?_⟩,⟨GOk.none,?_⟩,trivial⟩ ?_
 ·intro w'' hE''
  intro σ''
  refine S_lit (out:=[]) (Ty.sle rfl) (Ty.zer rfl) rfl rfl rfl (by decide) rfl ?_
  intro w3'' b'' hb'' hE3'' hB'' hs''
  exact ⟨hE3'',_,rfl,b'',rfl,hB'',by have:=hE''.size;omega⟩
 ·intro w'' hE''
  intro σ''
  exact sp_is (by refine Run_pev rfl) rfl
 ·intro w'' hE''
  rintro _ h0
  rintro _ rfl
  intro σ''
  obtain ⟨b0,rfl,hB0,hb0⟩:=h0
  refine S_append0 (Ty.sle rfl) (Ty.zer rfl) rfl (Ty.byt rfl) (by decide) rfl hB0 rfl (hS.ext0 hE'') (by simp) (by omega) (by simp only [maxLen];omega) rfl ?_
  intro w3'' a'' c'' hE3'' hO3'' hf''
  exact ⟨hE3'',_,rfl,a'',c'',rfl,hO3'',fun x hx=>by have:=hE''.size;rcases hf'' x hx with h|h<;>omega⟩
 ·intro w'' hE''
  intro σ''
  exact sp_is (by refine Run_pev rfl) rfl
 ·intro w'' hE''
  rintro _ rfl
  intro σ''
  exact sp_is (by refine k_len rfl (Ty.isl rfl)) rfl
 ·intro w'' hE''
  rintro _ rfl
  intro σ''
  refine S_make (n:=l.length) (Ty.sle rfl) (Ty.zer rfl) (Ty.byt rfl) rfl rfl rfl rfl (by omega) (by simp only [maxLen];omega) rfl ?_
  intro w3'' b'' hb'' hE3'' hB'' hs''
  exact ⟨hE3'',_,rfl,b'',rfl,hB'',by have:=hE''.size;omega⟩
 ·intro w'' hE''
  intro σ''
  refine S_make (n:=1) (Ty.sle rfl) (Ty.zer rfl) (Ty.byt rfl) rfl rfl rfl rfl (by decide) (by decide) rfl ?_
  intro w3'' b'' hb'' hE3'' hB'' hs''
  exact ⟨hE3'',_,rfl,b'',rfl,hB'',by have:=hE''.size;omega⟩
 ·intro w'' hE''
  rintro _ h2
  rintro _ h5
  rintro _ h6
  intro σ''
  obtain ⟨a2,c2,rfl,hO2,hf2⟩:=h2
  obtain ⟨b5,rfl,hB5,hb5⟩:=h5
  obtain ⟨b6,rfl,hB6,hb6⟩:=h6
  exact S_run (k_buildS (cs:=[.slice a2 l.length c2,.slice (some ⟨b5,0,none⟩) l.length l.length,.slice (some ⟨b6,0,none⟩) 1 1]) (Ty.zer rfl) (Ty.plc rfl) rfl) rfl ⟨.refl,_,rfl,a2,c2,b5,b6,rfl,⟨hO2,hf2⟩,⟨hB5,hb5⟩,⟨hB6,hb6⟩⟩
 ·intro w'' hE''
  rintro _ h7
  intro σ''
  obtain ⟨a2,c2,b5,b6,rfl,hP⟩:=h7
  refine S_box (cs:=csO l.length a2 c2 b5 b6) rfl rfl rfl ?_
  intro w3'' b'' hb'' hE3'' hB'' hs''
  exact ⟨hE3'',_,rfl,a2,c2,b5,b6,b'',rfl,hP.ext0 hE3'',hB'',by have:=hE''.size;omega⟩
 ·intro w'' hE''
  rintro _ h8
  intro σ''
  exact S_run (k_assign rfl) rfl ⟨.refl,_,rfl,h8⟩
 intro w'' hE''
 rintro _ h9
 intro σ''
 obtain ⟨aS,cS,b5,b6,p,rfl,hH⟩:=h9.hp (by omega) hE''
 clear h9 hE''
 have hS1:=hH.old hS
 repeat (first|refine WS_seq ?_|refine WS_region ?_|refine WL_nil ?_|refine WS_block ?_|(refine WL_r (by first|refine Run_pev rfl|refine k_len rfl (Ty.isl rfl)) rfl ?_))
 refine WS_loop (G:=(Nat)) (fun i=>l.length-i) 2197949513804 (fun i=>[(30,.int .i64 i)]) (fun i w'=>i≤l.length∧(∀ x∈l.take i,1≤x∧x≤32)∧Ext [] w'' w') (0) ⟨rfl,trivial⟩ ⟨by omega,by simp,.refl⟩ ?_
 rintro i u1 σ ⟨hi,hok,hW⟩ IH
 show WS _ _ _ _ _ (updL [(30,.int .i64 i)] _) _
 by_cases hlt:i<l.length
 ·have hv:(l.map (Value.int .i64))[i]?=some (.int .i64 l[i]):=by simp [hlt]
  have hS2:=hS1.ext0 hW
  have hmem:=List.getElem_mem hlt
  have htk:l.take (i+1)=l.take i++[l[i]]:=List.take_succ_eq_append_getElem hlt
  generalize l[i]=x at *
  by_cases h1:x<1
  ·repeat (first|refine WS_seq ?_|refine WS_region ?_|refine WL_nil ?_|refine WS_block ?_|refine WS_skip ?_|refine WS_true rfl ?_|refine WS_yes rfl (by omega) ?_|refine WL_gno (b:=true) rfl rfl (dT (by omega)) rfl rfl ?_|(refine WL_r (by first|refine k_ix1 rfl rfl hS2 hll (Ty.sle rfl) (by omega)|refine k_loads rfl hS2 hv (Ty.shp rfl)|refine Run_pev rfl|refine k_pick_t (dT (by omega)) rfl) rfl ?_))
   exact WS_ret2 Tryz.func82 rfl (.inr (.inl ⟨⟨by omega,by omega⟩,⟨x,hmem,by omega⟩,rfl,(hH.ext0 hW).ext⟩))
  by_cases h2:32<x
  ·repeat (first|refine WS_seq ?_|refine WS_region ?_|refine WL_nil ?_|refine WS_block ?_|refine WS_skip ?_|refine WS_yes rfl (by omega) ?_|refine WL_gyes rfl rfl (dF (by omega)) ?_|(refine WL_r (by first|refine k_ix1 rfl rfl hS2 hll (Ty.sle rfl) (by omega)|refine k_loads rfl hS2 hv (Ty.shp rfl)|refine Run_pev rfl|refine k_pick_f (dF (by omega)) rfl) rfl ?_))
   exact WS_ret2 Tryz.func82 rfl (.inr (.inl ⟨⟨by omega,by omega⟩,⟨x,hmem,by omega⟩,rfl,(hH.ext0 hW).ext⟩))
  repeat (first|refine WS_seq ?_|refine WS_region ?_|refine WL_nil ?_|refine WS_block ?_|refine WS_inBlock ?_|refine WS_skip ?_|refine WS_yes rfl (by omega) ?_|refine WS_no rfl (by omega) ?_|refine WL_gyes rfl rfl (dF (by omega)) ?_|(refine WL_r (by first|refine k_ix1 rfl rfl hS2 hll (Ty.sle rfl) (by omega)|refine k_loads rfl hS2 hv (Ty.shp rfl)|refine Run_pev rfl|refine k_add64 rfl rfl (by omega)|refine k_pick_f (dF (by omega)) rfl) rfl ?_))
  refine IH (i+1) _ _ ?_ ?_ ?_ ?_
  ·omega
  ·exact ⟨rfl,trivial⟩
  ·repeat first|with_reducible apply Agr.refl|refine Agr.upd rfl ?_|refine Agr.updL rfl ?_|refine Agr.mrg rfl ?_
  ·exact ⟨by omega,fun y hy=>by rw [htk] at hy;rcases List.mem_append.1 hy with h|h;exact hok y h;(simp at h;subst h;omega),hW⟩
 clear IH
 rw [List.take_of_length_le (by omega)] at hok
 obtain ⟨sz,hsz,hszok⟩:=ints_all hok
 have hlz:l.length=sz.length:=by rw [hsz,List.length_map]
 have hnv:l.map (Value.int .i64)=nv sz:=by rw [hsz,List.map_map];rfl
 replace hH:=hH.ext0 hW
 replace hS1:=hS1.ext0 hW
 rw [hnv] at hS1 hH hll
 repeat (first|refine WS_seq ?_|refine WS_region ?_|refine WL_nil ?_|refine WS_block ?_|refine WS_exit rfl ?_|refine WS_no rfl (by omega) ?_|refine lp rfl rfl ?_)
 clear hW hok hi hlt
 refine WS_loop (G:=(Nat) × (Nat) × (List CE) × (List Nat) × (List Int) × (List (List Bool)) × (Option Addr) × (Nat)) (fun|(s,wd,A,ws,T,P,a6,c6)=>33-s) 75557863723715300165516 (fun|(s,wd,A,ws,T,P,a6,c6)=>[(7,.int .u64 wd),(8,.int .i64 s)]) (fun|(s,wd,A,ws,T,P,a6,c6),w'=>1≤s∧s≤33∧codeOf sz=cout (czs sz) (33-s) s wd A∧CI sz s 0 (2*wd) A∧(ws.length=sz.length∧∀ a∈A,ws[a.1]?=some a.2.1)∧TI T P (A.map wof) []∧P.length≤1+31*A.length∧Hp [] w w' [Rb p 228 #[.slice aS l.length cS,.slice (some ⟨b5,0,none⟩) l.length l.length,.slice a6 P.length c6],Ro 3 1 aS l.length cS (nv sz),Ro 85 1 (some ⟨b5,0,none⟩) l.length l.length (uv ws),Ro 281 2 a6 P.length c6 (iv T)]) (1,0,[],List.replicate l.length 0,[0,0],[[]],some ⟨b6,0,none⟩,1) ⟨rfl,rfl,trivial⟩ ⟨by omega,by omega,rfl,CI.zero,⟨by rw [List.length_replicate,hlz],by simp⟩,TI.zero,by simp,hH⟩ ?_
 rintro ⟨s,wd,A,ws,T,P,a6,c6⟩ u2 σ ⟨hs1,hs33,hco,hci,⟨hwl,hws⟩,hT,hPl,hH⟩ IH
 show WS _ _ _ _ _ (updL [(7,.int .u64 wd),(8,.int .i64 s)] _) _
 by_cases hs:s≤32
 ·rw [cout_start hs] at hco
  have h2s:2 ^ s≤2 ^ 32:=Nat.pow_le_pow_right (by decide) hs
  have htop:=hci.top
  have hw2:wd*2 ^ 1 % 18446744073709551616=2*wd:=by rw [Nat.mod_eq_of_lt (by omega)];omega
  have hsh:1*2 ^ s % 18446744073709551616=2 ^ s:=by rw [Nat.mod_eq_of_lt (by omega)];omega
  obtain ⟨v,hv2⟩:∃ v,v=2*wd:=⟨_,rfl⟩
  rw [← hv2] at hw2 hco hci
  clear htop
  repeat (first|refine WS_seq ?_|refine WS_region ?_|refine WL_nil ?_|refine WS_block ?_|refine WS_skip ?_|refine WS_yes rfl (by omega) ?_|(refine WL_r (by first|refine (k_shlu (m:=wd) (n:=1) rfl rfl).is (congrArg (fun n:Nat=>Value.int .u64 (n:Int)) hw2)|refine Run_pev rfl|refine k_len rfl (Ty.isl rfl)) rfl ?_))
  clear hw2 hv2
  refine WS_loop (G:=(Nat) × (Nat) × (List CE) × (List Nat) × (List Int) × (List (List Bool)) × (Option Addr) × (Nat)) (fun|(i,wd,A,ws,T,P,a6,c6)=>l.length-i) 75557863162964369999500 (fun|(i,wd,A,ws,T,P,a6,c6)=>[(7,.int .u64 wd),(49,.int .i64 i)]) (fun|(i,wd,A,ws,T,P,a6,c6),w'=>i≤l.length∧codeOf sz=crest sz s i wd A∧CI sz s i wd A∧(ws.length=sz.length∧∀ a∈A,ws[a.1]?=some a.2.1)∧TI T P (A.map wof) []∧P.length≤1+31*A.length∧Hp [] w w' [Rb p 228 #[.slice aS l.length cS,.slice (some ⟨b5,0,none⟩) l.length l.length,.slice a6 P.length c6],Ro 3 1 aS l.length cS (nv sz),Ro 85 1 (some ⟨b5,0,none⟩) l.length l.length (uv ws),Ro 281 2 a6 P.length c6 (iv T)]) (0,v,A,ws,T,P,a6,c6) ⟨rfl,rfl,trivial⟩ ⟨by omega,hco,hci,⟨hwl,hws⟩,hT,hPl,hH⟩ ?_
  rintro ⟨i,wd,A,ws,T,P,a6,c6⟩ u3 σ ⟨hi,hco,hci,⟨hwl,hws⟩,hT,hPl,hH⟩ IH
  show WS _ _ _ _ _ (updL [(7,.int .u64 wd),(49,.int .i64 i)] _) _
  by_cases hlt:i<l.length
  ·have hiz:i<sz.length:=by omega
   have hS2:=hH.old hS
   rw [hnv] at hS2
   have hv:(nv sz)[i]?=some (.int .i64 (sz[i]:Nat)):=by simp [nv,hiz]
   have hnum:=hci.num
   have hwtop:=hci.top
   by_cases hn:sz[i]=s
   ·by_cases hw:2 ^ s≤wd
    ·rw [crest_none hiz hn hw] at hco
     rw [hn] at hv
     repeat (first|refine WS_seq ?_|refine WS_region ?_|refine WL_nil ?_|refine WS_block ?_|refine WS_skip ?_|refine WS_true rfl ?_|refine WS_false rfl ?_|refine WS_yes rfl (by omega) ?_|(refine WL_r (by first|refine k_ix1 rfl rfl hS2 hll (Ty.sle rfl) (by omega)|refine k_loads rfl hS2 hv (Ty.shp rfl)|refine (k_shlu (m:=1) (n:=s) rfl rfl).is (congrArg (fun n:Nat=>Value.int .u64 (n:Int)) hsh)|refine (k_geq (q:=.u64) rfl rfl).is (bT (by omega))|refine (k_neq (q:=.i64) rfl rfl).is (bF (fun h=>h rfl))|refine Run_pev rfl) rfl ?_))
     exact WS_ret2 Tryz.func82 rfl (.inr (.inr ⟨sz,hsz,⟨by omega,by omega⟩,hszok,.inl ⟨hco,rfl,hH.ext⟩⟩))
    ·rw [crest_eq hiz hn (by omega)] at hco
     have hci2:=hci.put hiz hn hs1 (by omega)
     have hfr:=hci.free (show wd<2 ^ s by omega)
     have hnew:=hci.new hiz hn
     have hws2:∀ a∈A++[(i,wd,s)],(ws.set i wd)[a.1]?=some a.2.1:=fun a ha=>by
      rcases List.mem_append.1 ha with ha|ha
      ·rw [List.getElem?_set_ne (Ne.symm (hnew a ha))];exact hws a ha
      ·simp at ha;subst ha
       exact List.getElem?_set_self (by omega)
     rw [hn] at hv
     have hB:=hH.b 0 rfl
     have e4:(uv ws).set i (.int .u64 wd)=uv (ws.set i wd):=by rw [← List.map_set]
     repeat (first|refine WS_seq ?_|refine WS_region ?_|refine WL_nil ?_|refine WS_block ?_|refine WS_skip ?_|refine WS_false rfl ?_|refine WS_yes rfl (by omega) ?_|(refine WL_r (by first|refine k_ix1 rfl rfl hS2 hll (Ty.sle rfl) (by omega)|refine k_loads rfl hS2 hv (Ty.shp rfl)|refine (k_shlu (m:=1) (n:=s) rfl rfl).is (congrArg (fun n:Nat=>Value.int .u64 (n:Int)) hsh)|refine (k_geq (q:=.u64) rfl rfl).is (bF (by omega))|refine (k_neq (q:=.i64) rfl rfl).is (bF (fun h=>h rfl))|refine k_nilCheck rfl|refine k_fa rfl (Ty.fld rfl rfl)|refine k_loadb rfl hB rfl (Ty.shp rfl)|refine k_ix1S rfl rfl (Ty.sle rfl) (by omega)|refine Run_pev rfl) rfl ?_))
     refine WL_s (H_storeO 2 (v:=.int .u64 wd) hH rfl rfl rfl (by omega) rfl (Ty.shp rfl) ?_)
     clear hH hB
     intro u4 hH
     replace hH:=nn4 hH
     rw [show ((i:Nat):Int).toNat=i from rfl,e4] at hH
     replace hH:=hH.merge 0 3 rfl rfl (by decide)
     replace hH:=nn3 hH
     repeat (first|refine WS_seq ?_|refine WS_region ?_|refine WL_nil ?_|refine lp rfl rfl ?_)
     refine WL_s (S_call (cput_spec hT rfl (by omega) (fun u hu=>by obtain ⟨a,ha,rfl⟩:=List.mem_map.1 hu;exact hfr a ha) ⟨hs1,hs⟩ (by omega) (by omega) (hH.at 0 rfl)) rfl rfl ?_)
     rintro v w8 ⟨rfl,a7,c7,n7,T7,P7,rfl,hn7,hT7,hU⟩
     replace hH:=(hH.up 0 rfl hU).split 0 rfl
     clear hU
     replace hH:=nn4 hH
     repeat (first|refine WS_region ?_|refine WL_nil ?_|refine WS_inBlock ?_|(refine WL_r (by first|refine k_addU (m:=wd) (n:=1) rfl rfl (by omega)|refine Run_pev rfl|refine k_add64 rfl rfl (by omega)) rfl ?_))
     refine IH (i+1,wd+1,A++[(i,wd,s)],ws.set i wd,T7,P7,a7,c7) _ _ ?_ ?_ ?_ ?_
     ·simp only;omega
     ·exact ⟨rfl,rfl,trivial⟩
     ·repeat first|with_reducible apply Agr.refl|refine Agr.upd rfl ?_|refine Agr.updL rfl ?_|refine Agr.mrg rfl ?_
     ·exact ⟨by omega,hco,hci2,⟨by rw [List.length_set];exact hwl,hws2⟩,by rw [List.map_append];exact hT7,by simp;omega,hH⟩
   ·rw [crest_ne hiz hn] at hco
    have hci2:=hci.skip hiz hn
    repeat (first|refine WS_seq ?_|refine WS_region ?_|refine WL_nil ?_|refine WS_block ?_|refine WS_skip ?_|refine WS_exit rfl ?_|refine WS_true rfl ?_|refine WS_yes rfl (by omega) ?_|(refine WL_r (by first|refine k_ix1 rfl rfl hS2 hll (Ty.sle rfl) (by omega)|refine k_loads rfl hS2 hv (Ty.shp rfl)|refine (k_neq (q:=.i64) rfl rfl).is (bT (by omega))|refine Run_pev rfl|refine k_add64 rfl rfl (by omega)) rfl ?_))
    refine IH (i+1,wd,A,ws,T,P,a6,c6) _ _ ?_ ?_ ?_ ?_
    ·simp only;omega
    ·exact ⟨rfl,rfl,trivial⟩
    ·repeat first|with_reducible apply Agr.refl|refine Agr.upd rfl ?_|refine Agr.updL rfl ?_|refine Agr.mrg rfl ?_
    ·exact ⟨by omega,hco,hci2,⟨hwl,hws⟩,hT,hPl,hH⟩
  obtain rfl:i=l.length:=by omega
  clear IH
  rw [hlz,crest_end] at hco
  rw [hlz] at hci
  have hci2:=hci.next (by omega) hs1
  repeat (first|refine WS_seq ?_|refine WS_region ?_|refine WL_nil ?_|refine WS_inBlock ?_|refine WS_exit rfl ?_|refine WS_no rfl (by omega) ?_|(refine WL_r (by first|refine Run_pev rfl|refine k_add64 rfl rfl (by omega)) rfl ?_))
  refine IH (s+1,wd,A,ws,T,P,a6,c6) _ _ ?_ ?_ ?_ ?_
  ·simp only;omega
  ·exact ⟨rfl,rfl,trivial⟩
  ·repeat first|with_reducible apply Agr.refl|refine Agr.upd rfl ?_|refine Agr.updL rfl ?_|refine Agr.mrg rfl ?_
  ·exact ⟨by omega,by omega,by rw [show 33-(s+1)=32-s by omega];exact hco,hci2,⟨hwl,hws⟩,hT,hPl,hH⟩
 obtain rfl:s=33:=by omega
 clear IH
 repeat (first|refine WS_seq ?_|refine WS_region ?_|refine WL_nil ?_|refine WS_exit rfl ?_|refine WS_false rfl ?_|refine lp rfl rfl ?_)
 exact WS_ret2 Tryz.func82 rfl (.inr (.inr ⟨sz,hsz,⟨by omega,by omega⟩,hszok,.inr ⟨p,⟨sz,ws,T,aS,cS,some ⟨b5,0,none⟩,l.length,a6,P.length,c6⟩,rfl,⟨⟨⟨show 1≤sz.length by omega,show sz.length≤64 by omega⟩,hszok,hwl,A,_,P,hco,hci,hws,hT⟩,hT.len⟩,rfl,RC.new hlz.symm hH⟩⟩))
end Go.Proofs.YtpbiicegmcpkpaaGreat
namespace Go.Proofs.YtpbiicegmcpkpaaGreat
open Go Go.K Go.P Go.RowKit Go.Proofs
theorem ptrC:isPtr Tryz.prog 143=true:=by kernel_rfl
section
variable {p:Nat} {D:CD} {w:World}
theorem RC.b (h:(RC p D).holds w):Blk w p 228 D.cs:=h.1
theorem RC.s (h:(RC p D).holds w):SlA w D.a0 (nv D.sz):=h.2.1
theorem RC.u (h:(RC p D).holds w):SlA w D.a1 (uv D.ws):=h.2.2.1
theorem nv_at {l:List Nat} {i:Nat} (h:i<l.length):(nv l)[i]?=some (.int .i64 (l.getD i 0:Nat)):=by
 rw [List.getElem?_map,List.getD_eq_getElem?_getD,List.getElem?_eq_getElem h];rfl
theorem uv_at {l:List Nat} {i:Nat} (h:i<l.length):(uv l)[i]?=some (.int .u64 (l.getD i 0:Nat)):=by
 rw [List.getElem?_map,List.getD_eq_getElem?_getD,List.getElem?_eq_getElem h];rfl
end
set_option maxRecDepth 20000 in
set_option maxHeartbeats 2000000 in
theorem cputw_spec {p q c i:Nat} {a:Option Addr} {bs:List Bool} {D:CD} {w:World} (hD:D.ok) (hi:i<D.sz.length) (hbl:bs.length≤1000000000) (hR:(RC p D).holds w) (hW:(Rw q a c bs).holds w) :
  Does Tryz.prog 129 #[pt p,pt q,.int .i64 i] w fun v w'=>v=.int .i64 0∧∃ a' c',Upd (Rw q a c bs) (Rw q a' c' (bs++cw D.sz D.ws i)) w w':=by
 refine Does_of (args:=[_,_,_]) Tryz.func129 rfl rfl Tryz.ntmps129 rfl ?_
 have hB:=RC.b hR
 have hS:=RC.s hR
 have hU:=RC.u hR
 have hl:(nv D.sz).length=D.sz.length:=by simp
 have hl2:(uv D.ws).length=D.sz.length:=by rw [List.length_map];exact hD.1.wl
 have hv:=nv_at hi
 have hv2:=uv_at (l:=D.ws) (i:=i) (by have:=hD.1.wl;omega)
 have hs:=hD.1.szd hi
 repeat (first|refine WS_seq ?_|refine WS_region ?_|refine WL_nil ?_|refine WS_block ?_|refine WS_inBlock ?_|refine WS_skip ?_|refine WS_false rfl ?_|refine WS_no rfl (by omega) ?_|refine WL_gyes rfl rfl rfl ?_|(refine WL_r (by first|refine k_nilCheck rfl|refine k_fa rfl (Ty.fld rfl rfl)|refine k_pnil rfl rfl (.inr rfl) ptrC|refine k_loadb rfl hB rfl (Ty.shp rfl)|refine Run_pev rfl|refine k_len rfl (Ty.isl rfl)) rfl ?_))
 refine WS_tailS Ty.mixed 15 rfl (by kernel_rfl) rfl (fun u=>Ext [] w u) ?_
 have hx1:Ext [] w w.drew:=Ext.drew0
 refine wp 0 hx1 rfl rfl rfl rfl ?_
 refine wp 1 hx1 rfl rfl rfl rfl ?_
 refine wt 2 hx1 rfl rfl rfl (fun w' hw'=>by refine k_nilCheck rfl) ?_
 refine wt 3 hx1 rfl rfl rfl (fun w' hw'=>by refine k_fa rfl (Ty.fld rfl rfl)) ?_
 refine wt 4 hx1 rfl rfl rfl (fun w' hw'=>by refine k_loadb rfl (hB.ext0 hw') rfl (Ty.shp rfl)) ?_
 refine wp 5 hx1 rfl rfl rfl rfl ?_
 refine wt 6 hx1 rfl rfl rfl (fun w' hw'=>by refine k_ix1 rfl rfl (hU.ext0 hw') hl2 (Ty.sle rfl) (by omega)) ?_
 refine wt 7 hx1 rfl rfl rfl (fun w' hw'=>by refine k_loads rfl (hU.ext0 hw') hv2 (Ty.shp rfl)) ?_
 refine wp 8 hx1 rfl rfl rfl rfl ?_
 refine wt 9 hx1 rfl rfl rfl (fun w' hw'=>by refine k_nilCheck rfl) ?_
 refine wt 10 hx1 rfl rfl rfl (fun w' hw'=>by refine k_fa rfl (Ty.fld rfl rfl)) ?_
 refine wt 11 hx1 rfl rfl rfl (fun w' hw'=>by refine k_loadb rfl (hB.ext0 hw') rfl (Ty.shp rfl)) ?_
 refine wp 12 hx1 rfl rfl rfl rfl ?_
 refine wt 13 hx1 rfl rfl rfl (fun w' hw'=>by refine k_ix1 rfl rfl (hS.ext0 hw') hl (Ty.sle rfl) (by omega)) ?_
 refine wt 14 hx1 rfl rfl rfl (fun w' hw'=>by refine k_loads rfl (hS.ext0 hw') hv (Ty.shp rfl)) ?_
 refine WA_done (by kernel_rfl) ?_
 refine WL_s (S_call (wput_spec (s:=D.sz.getD i 0) (hD.1.w64 hi) (by omega) (by omega) ((Rw q a c bs).keep hW hx1 (by simp))) rfl rfl ?_)
 rintro v w2 ⟨rfl,a2,c2,hU2⟩
 repeat (first|refine WS_seq ?_|refine WS_region ?_|refine WL_nil ?_|refine lp rfl rfl ?_)
 exact WS_ret1 Tryz.func129 rfl ⟨rfl,a2,c2,(hx1.weaken (by simp)).trans hU2.ext (fun t ht=>.inl ht),hU2.holds,fun x hx=>(hU2.fp x hx).imp id (fun h=>Nat.le_trans hx1.size h)⟩
end Go.Proofs.YtpbiicegmcpkpaaGreat
namespace Go.Proofs.YtpbiicegmcpkpaaGreat
open Go Go.K Go.P Go.RowKit Go.Proofs
theorem sz_of {l:List Int} {sz:List Nat} (h:l=sz.map (fun (n:Nat)=>(n:Int))):sz=l.map Int.toNat:=by
 subst h
 rw [List.map_map]
 exact (List.map_id' sz).symm
theorem CNew.ok {l:List Int} {v:Value} {w w':World} (h:CNew l v w w') (h1:1≤l.length∧l.length≤64) (h2:l.all (fun x=>decide (1≤x∧x≤32))=true) (h3:(codeOf (l.map Int.toNat)).isSome=true) :
  ∃ p D,D.sz=l.map Int.toNat∧D.ok∧v=.tuple #[pt p,.int .i64 0]∧New (RC p D) w w':=by
 rcases h with ⟨h,_⟩|⟨_,⟨x,hx,h⟩,_⟩|⟨sz,hl,_,_,⟨hn,_⟩|⟨p,D,hD,hok,rfl,hN⟩⟩
 ·exact absurd h1 h
 ·exact absurd (of_decide_eq_true (List.all_eq_true.1 h2 x hx)) h
 ·rw [← sz_of hl,hn] at h3;cases h3
 ·exact ⟨p,D,by rw [hD];exact sz_of hl,hok,rfl,hN⟩
def szM:List Int:=[2,1,3,4,4]
def szS:List Int:=[3,2,2,3,3,4,5,6,7,8,9,10,10]
def szP:List Int:=[3,4,4,4,4,4,5,4,4,5,4,4,4,5,5,3]
set_option maxRecDepth 20000 in
theorem modes_spec {w:World}:Does Tryz.prog 47 #[] w fun v w'=>∃ p D,D.sz=szM.map Int.toNat∧D.ok∧v=pt p∧New (RC p D) w w':=by
 refine Does_of (args:=[]) Tryz.func47 rfl rfl Tryz.ntmps47 rfl ?_
 have hH:=Hp.start w
 repeat (first|refine WS_seq ?_|refine WS_region ?_|refine WL_nil ?_|refine lp rfl rfl ?_)
 refine WL_s (H_lit (out:=(szM.map (Value.int .i64))) hH (Ty.sle rfl) (Ty.zer rfl) rfl rfl rfl (by decide) rfl ?_)
 try clear hH
 intro _ b4 hH
 replace hH:=nn1 hH
 skip
 refine WL_s (S_call (cnew_spec (l:=szM) (hH.b 0 rfl).sl0 rfl (by decide)) rfl rfl ?_)
 rintro v w2 hCN
 obtain ⟨p,D,hsz,hok,rfl,hN⟩:=hCN.ok (by decide) (by decide) (by decide +kernel)
 replace hH:=(hH.nu hN).del 0
 replace hH:=nn1 hH
 repeat (first|refine WS_seq ?_|refine WS_region ?_|refine WL_nil ?_|(refine WL_r (by first|refine Run_pev rfl|refine k_extract rfl rfl) rfl ?_))
 exact WS_ret1 Tryz.func47 rfl ⟨p,D,hsz,hok,rfl,hH.new1 0 rfl⟩
set_option maxRecDepth 20000 in
theorem sizes_spec {w:World}:Does Tryz.prog 48 #[] w fun v w'=>∃ p D,D.sz=szS.map Int.toNat∧D.ok∧v=pt p∧New (RC p D) w w':=by
 refine Does_of (args:=[]) Tryz.func48 rfl rfl Tryz.ntmps48 rfl ?_
 have hH:=Hp.start w
 repeat (first|refine WS_seq ?_|refine WS_region ?_|refine WL_nil ?_|refine lp rfl rfl ?_)
 refine WL_s (H_lit (out:=(szS.map (Value.int .i64))) hH (Ty.sle rfl) (Ty.zer rfl) rfl rfl rfl (by decide) rfl ?_)
 try clear hH
 intro _ b4 hH
 replace hH:=nn1 hH
 skip
 refine WL_s (S_call (cnew_spec (l:=szS) (hH.b 0 rfl).sl0 rfl (by decide)) rfl rfl ?_)
 rintro v w2 hCN
 obtain ⟨p,D,hsz,hok,rfl,hN⟩:=hCN.ok (by decide) (by decide) (by decide +kernel)
 replace hH:=(hH.nu hN).del 0
 replace hH:=nn1 hH
 repeat (first|refine WS_seq ?_|refine WS_region ?_|refine WL_nil ?_|(refine WL_r (by first|refine Run_pev rfl|refine k_extract rfl rfl) rfl ?_))
 exact WS_ret1 Tryz.func48 rfl ⟨p,D,hsz,hok,rfl,hH.new1 0 rfl⟩
set_option maxRecDepth 20000 in
theorem patterns_spec {w:World}:Does Tryz.prog 49 #[] w fun v w'=>∃ p D,D.sz=szP.map Int.toNat∧D.ok∧v=pt p∧New (RC p D) w w':=by
 refine Does_of (args:=[]) Tryz.func49 rfl rfl Tryz.ntmps49 rfl ?_
 have hH:=Hp.start w
 repeat (first|refine WS_seq ?_|refine WS_region ?_|refine WL_nil ?_|refine lp rfl rfl ?_)
 refine WL_s (H_lit (out:=(szP.map (Value.int .i64))) hH (Ty.sle rfl) (Ty.zer rfl) rfl rfl rfl (by decide) rfl ?_)
 try clear hH
 intro _ b4 hH
 replace hH:=nn1 hH
 skip
 refine WL_s (S_call (cnew_spec (l:=szP) (hH.b 0 rfl).sl0 rfl (by decide)) rfl rfl ?_)
 rintro v w2 hCN
 obtain ⟨p,D,hsz,hok,rfl,hN⟩:=hCN.ok (by decide) (by decide) (by decide +kernel)
 replace hH:=(hH.nu hN).del 0
 replace hH:=nn1 hH
 repeat (first|refine WS_seq ?_|refine WS_region ?_|refine WL_nil ?_|(refine WL_r (by first|refine Run_pev rfl|refine k_extract rfl rfl) rfl ?_))
 exact WS_ret1 Tryz.func49 rfl ⟨p,D,hsz,hok,rfl,hH.new1 0 rfl⟩
end Go.Proofs.YtpbiicegmcpkpaaGreat
namespace Go.Proofs.YtpbiicegmcpkpaaGreat
open Go Go.K Go.P Go.RowKit Go.Proofs
theorem tm32m (x:Int):-31≤x.tmod 32∧x.tmod 32≤31:=by
 have h1:=Int.tmod_lt_of_pos x (show (0:Int)<32 by decide)
 have h2:=Int.tmod_lt_of_pos (-x) (show (0:Int)<32 by decide)
 rw [Int.neg_tmod] at h2
 omega
def VG (u:Value):Prop:=∃ x y:Int,(-31≤x∧x≤31)∧(-31≤y∧y≤31)∧u=CV x y
theorem VG.one {u:Value} (h:VG u):u.oneCell'=true:=by obtain ⟨x,y,_,_,rfl⟩:=h;rfl
theorem small19 {x y:Int} {w:World} (hx:-128≤x∧x≤127) (hy:-128≤y∧y≤127):Does Tryz.prog 54 #[.int .i8 x,.int .i8 y] w fun v w'=>VG v∧w'=w:=by
 refine Does_of (args:=[_,_]) Tryz.func54 rfl rfl Tryz.ntmps54 rfl ?_
 repeat (first|refine WS_seq ?_|refine WS_region ?_|refine WL_nil ?_|(refine WL_r (by first|refine k_remt rfl rfl (by decide)|refine Run_pev rfl|refine k_convI rfl rfl rfl (by omega)) rfl ?_))
 refine WL_s (S_call (vof_spec) rfl rfl ?_)
 rintro v w1 ⟨rfl,rfl⟩
 repeat (first|refine WL_nil ?_|refine lp rfl rfl ?_)
 exact WS_ret1 Tryz.func54 rfl ⟨⟨_,_,tm32m x,tm32m y,rfl⟩,rfl⟩
section
variable {cs:List Value}
end
def mk0 (k:Nat) (q:Int):List Value:=[.int .u8 k,.int .i64 q]++(List.replicate 4 (.complex .f64 0 0)++([.bool false]++List.replicate 384 (.int .i64 0)))
theorem cv0:VG (.complex .f64 0 0):=⟨0,0,by decide,by decide,by
 have e:FN 0=0:=by decide +kernel
 show Value.complex .f64 0 0=.complex .f64 (FN 0) (FN 0)
 rw [e]⟩
theorem H_storeN {P:Program} {N:Nat} {K:Fr→World→Prop} {ρ:Fr} {S:List Nat} {W w:World} {H:List Res} {ty t e:TypeId} {pos:String} {af:Array Edge} {gd:Option (Nat × Bool)} {x y:Operand} (i:Nat) {b o s:Nat} {cs vs:List Value} (hH:Hp S W w H) (hi:H[i]?=some (Rb b e cs.toArray)) (hx:ev ρ x=.pointer (some ⟨b,o,none⟩)) (hy:ev ρ y=.agg vs.toArray) (ho:o+vs.length≤cs.length) (h1:∀ v∈vs,v.oneCell'=true) (ht:shp P t=some (true,s)) (hs:vs.length=s)
  (hk:∀ w',Hp S W w' (H.set i (Rb b e (cs.take o++vs++cs.drop (o+vs.length)).toArray))→K ρ w'):Stp P N ρ ⟨none,.store t x y,ty,pos,af,gd⟩ w K :=
 S_storeN hx hy (hH.b i hi) (by simpa using ho) h1 ht (by simpa using hs) (fun w' hE hB _=>hk w' (hH.up i hi ⟨hE,hB,fun _ hx=>.inl hx⟩))
theorem H_storeL {P:Program} {N:Nat} {K:Fr→World→Prop} {ρ:Fr} {S:List Nat} {W w:World} {H:List Res} {ty t e:TypeId} {pos:String} {af:Array Edge} {gd:Option (Nat × Bool)} {x y:Operand} {v:Value} (i:Nat) {b o:Nat} {cs:List Value} (hH:Hp S W w H) (hi:H[i]?=some (Rb b e cs.toArray)) (hx:ev ρ x=.pointer (some ⟨b,o,none⟩)) (hy:ev ρ y=v) (ho:o<cs.length) (h1:v.oneCell'=true) (ht:shp P t=some (false,1))
  (hk:∀ w',Hp S W w' (H.set i (Rb b e (cs.set o v).toArray))→K ρ w'):Stp P N ρ ⟨none,.store t x y,ty,pos,af,gd⟩ w K :=
 H_store i hH hi hx hy (by simpa using ho) h1 ht (fun w' h=>hk w' (by simpa using h))
theorem all_spec {u:Value} {w:World} (hu:VG u):Does Tryz.prog 34 #[u] w fun v w'=>v=.agg #[u,u,u,u]∧Ext [] w w':=by
 refine Does_of (args:=[_]) Tryz.func34 rfl rfl Tryz.ntmps34 rfl ?_
 have hH:=Hp.start w
 obtain ⟨x,y,_,_,rfl⟩:=hu
 repeat (first|refine WS_seq ?_|refine WS_region ?_)
 refine WL_s (H_alloc hH (Ty.zer rfl) rfl ?_)
 try clear hH
 intro w1 b hH
 replace hH:=nn1 hH
 repeat (first|refine WS_seq ?_|refine WS_region ?_|refine WL_nil ?_|(refine WL_r (by first|refine k_buildA (cs:=[CV x y,CV x y,CV x y,CV x y]) (Ty.zer rfl) (Ty.arr rfl) rfl|refine Run_pev rfl) rfl ?_))
 refine WL_s (H_storeA 0 hH rfl rfl rfl rfl rfl (by intro v hv;simp at hv;subst hv;rfl) (Ty.shp rfl) ?_)
 try clear hH
 intro w2 hH
 replace hH:=nn1 hH
 repeat (refine WL_nil ?_)
 exact WS_retc1 Tryz.func34 rfl rfl (hH.b 0 rfl) rfl (Ty.shp rfl) ⟨rfl,hH.ext⟩
structure W9 (zs:List Value):Prop where
 len:zs.length=9
 x:∀ i,i<8→∃ n:Int,(-128≤n∧n≤127)∧zs[i]?=some (.int .i8 n)
 b:∃ b:Bool,zs[8]?=some (.bool b)
theorem VG.set {vs:List Value} (h:∀ u∈vs,VG u) {i:Nat} {u:Value} (hu:VG u):∀ v∈vs.set i u,VG v:=fun v hv=>by
 rcases List.mem_or_eq_of_mem_set hv with h1|h1
 ·exact h v h1
 ·subst h1;exact hu
set_option maxRecDepth 20000 in
set_option maxHeartbeats 2000000 in
theorem vectors19 {zs:List Value} {w:World} (hz:W9 zs):Does Tryz.prog 33 #[.agg zs.toArray] w fun v w'=>∃ vs:List Value,vs.length=4∧(∀ u∈vs,VG u)∧v=.agg vs.toArray∧Ext [] w w':=by
 refine Does_of (args:=[_]) Tryz.func33 rfl rfl Tryz.ntmps33 rfl ?_
 have hH:=Hp.start w
 repeat (first|refine WS_seq ?_|refine WS_region ?_)
 refine WL_s (H_box (cs:=zs.toArray) hH rfl rfl rfl ?_)
 try clear hH
 intro w1 b1 hH
 replace hH:=nn1 hH
 skip
 refine WL_s (H_alloc hH (Ty.zer rfl) rfl ?_)
 try clear hH
 intro w2 b2 hH
 replace hH:=nn2 hH
 repeat (first|refine WS_seq ?_|refine WS_region ?_|refine WL_nil ?_)
 refine WL_s (H_alloc hH (Ty.zer rfl) rfl ?_)
 try clear hH
 intro w3 b3 hH
 replace hH:=nn3 hH
 repeat (first|refine WS_seq ?_|refine WS_region ?_|refine WL_nil ?_|refine WS_block ?_|refine lp rfl rfl ?_)
 refine WS_loop (G:=(Nat) × (List Value)) (fun|(i,vs)=>4-i) 67108848 (fun|(i,vs)=>[(5,.int .i64 i)]) (fun|(i,vs),w'=>i≤4∧vs.length=4∧(∀ u∈vs,VG u)∧Hp [] w w' [Rb b1 84 zs.toArray,Rb b2 93 (List.replicate 4 (Value.complex .f64 0 0)).toArray,Rb b3 93 vs.toArray]) (0,List.replicate 4 (Value.complex .f64 0 0)) ⟨rfl,trivial⟩ ⟨by omega,by simp,fun u hu=>by rw [(List.mem_replicate.1 hu).2];exact cv0,hH⟩ ?_
 rintro ⟨i,vs⟩ u1 σ ⟨hi,hl,hv,hH⟩ IH
 show WS _ _ _ _ _ (updL [(5,.int .i64 i)] _) _
 by_cases hlt:i<4
 ·obtain ⟨x,hx,hxv⟩:=hz.x i (by omega)
  obtain ⟨y,hy,hyv⟩:=hz.x (4+i) (by omega)
  obtain ⟨bb,hbv⟩:=hz.b
  have hzl:=hz.len
  have hB1:Blk u1 b1 84 zs.toArray:=hH.b 0 rfl
  have hSx:SlA u1 (some ⟨b1,0+0,none⟩) (zs.take 4):=hB1.sl (fun j v hj=>by rw [List.getElem?_take] at hj;split at hj;(rw [List.getElem?_toArray,Nat.add_zero,Nat.zero_add];exact hj);cases hj)
  have hSy:SlA u1 (some ⟨b1,0+4,none⟩) (zs.drop 4):=hB1.sl (fun j v hj=>by rw [List.getElem?_drop] at hj;rw [List.getElem?_toArray,Nat.zero_add];exact hj)
  have hxt:(zs.take 4)[(i:Int).toNat]?=some (.int .i8 x):=by rw [show (i:Int).toNat=i from rfl,List.getElem?_take,if_pos hlt];exact hxv
  have hyt:(zs.drop 4)[(i:Int).toNat]?=some (.int .i8 y):=by rw [show (i:Int).toNat=i from rfl,List.getElem?_drop];exact hyv
  repeat (first|refine WS_seq ?_|refine WS_region ?_|refine WL_nil ?_|refine WS_block ?_|refine WS_skip ?_|refine WS_yes rfl (by omega) ?_|refine lp rfl rfl ?_)
  refine WS_specT 11 rfl (by kernel_rfl) (by kernel_rfl) [Is (.int .i64 i),Is (.int .i64 i),Is (.pointer (some ⟨b1,0+0,none⟩)),Is (.pointer (some (At (some ⟨b1,0+0,none⟩) (i:Int).toNat))),Is (.int .i8 x),Is (.int .i64 i),Is (.pointer (some ⟨b1,0+4,none⟩)),Is (.pointer (some (At (some ⟨b1,0+4,none⟩) (i:Int).toNat))),Is (.int .i8 y),(fun v _=>VG v),Is (.pointer (some ⟨b3,0+(i:Int).toNat,none⟩))] Ty.mixed [(261632,[],true),(259328,[],true),(258816,[],true),(255744,[(2,10),(1,9)],true),(126720,[(3,11)],true),(220928,[],true),(212736,[],true),(163584,[(6,14),(5,13)],true),(65280,[(7,15)],true),(130816,[(4,12),(8,16)],true),(261888,[(0,8)],true)] 524032 [(9,17),(10,18)] (by kernel_rfl) (by kernel_rfl) (by kernel_rfl) (by kernel_rfl) (by kernel_rfl) ⟨Is.st,Is.st,Is.st,Is.st,Is.st,Is.st,Is.st,Is.st,Is.st,(by exact (fun _ _ _ h _=>h)),Is.st,trivial⟩ ⟨⟨GOk.none,?_⟩,⟨GOk.none,?_⟩,⟨GOk.none,?_⟩,⟨GOk.none,?_⟩,⟨GOk.none,?_⟩,⟨GOk.none,?_⟩,⟨GOk.none,?_⟩,⟨GOk.none,?_⟩,⟨GOk.none,?_⟩,⟨GOk.none,?_⟩,⟨GOk.none,?_⟩,trivial⟩ ?_
  ·intro w'' hE''
   intro σ''
   exact sp_is (by refine Run_pev rfl) rfl
  ·intro w'' hE''
   intro σ''
   exact sp_is (by refine Run_pev rfl) rfl
  ·intro w'' hE''
   intro σ''
   exact sp_is (by refine k_fa rfl (Ty.fld rfl rfl)) rfl
  ·intro w'' hE''
   rintro _ rfl
   rintro _ rfl
   intro σ''
   exact sp_is (by refine k_ixa1 rfl rfl (Ty.arr rfl) (by omega)) rfl
  ·intro w'' hE''
   rintro _ rfl
   intro σ''
   exact sp_is (by refine k_loads rfl (hSx.ext0 hE'') hxt (Ty.shp rfl)) rfl
  ·intro w'' hE''
   intro σ''
   exact sp_is (by refine Run_pev rfl) rfl
  ·intro w'' hE''
   intro σ''
   exact sp_is (by refine k_fa rfl (Ty.fld rfl rfl)) rfl
  ·intro w'' hE''
   rintro _ rfl
   rintro _ rfl
   intro σ''
   exact sp_is (by refine k_ixa1 rfl rfl (Ty.arr rfl) (by omega)) rfl
  ·intro w'' hE''
   rintro _ rfl
   intro σ''
   exact sp_is (by refine k_loads rfl (hSy.ext0 hE'') hyt (Ty.shp rfl)) rfl
  ·intro w'' hE''
   rintro _ rfl
   rintro _ rfl
   intro σ''
   refine S_call (small19 hx hy) rfl rfl ?_
   rintro v w3'' ⟨hg,rfl⟩
   exact ⟨.refl,_,rfl,hg⟩
  ·intro w'' hE''
   rintro _ rfl
   intro σ''
   exact sp_is (by refine k_ixa1 rfl rfl (Ty.arr rfl) (by omega)) rfl
  intro w'' hE''
  rintro _ h9
  rintro _ rfl
  intro σ''
  replace hH:=hH.ext0 hE''
  obtain ⟨x9,y9,hx9,hy9,rfl⟩:=h9
  refine WL_s (H_storeL 2 hH rfl rfl rfl (by omega) rfl (Ty.shp rfl) ?_)
  clear hH
  intro w4 hH
  replace hH:Hp [] w w4 [Rb b1 84 zs.toArray,Rb b2 93 (List.replicate 4 (Value.complex .f64 0 0)).toArray,Rb b3 93 (vs.set (0+(i:Int).toNat) (CV x9 y9)).toArray]:=hH
  have hv2:=VG.set hv (i:=0+(i:Int).toNat) (u:=CV x9 y9) ⟨x9,y9,hx9,hy9,rfl⟩
  have hl2:(vs.set (0+(i:Int).toNat) (CV x9 y9)).length=4:=by rw [List.length_set];exact hl
  generalize vs.set (0 + (i:Int).toNat) (CV x9 y9)=us at *
  have hS1:SlA w4 (some ⟨b1,0,none⟩) zs:=(hH.b 0 rfl).sl0
  have hS3:SlA w4 (some ⟨b3,0,none⟩) us:=(hH.b 2 rfl).sl0
  cases bb with
  | false =>
   repeat (first|refine WS_seq ?_|refine WS_region ?_|refine WL_nil ?_|refine WS_inBlock ?_|refine WS_skip ?_|refine WS_false rfl ?_|(refine WL_r (by first|refine k_fa rfl (Ty.fld rfl rfl)|refine k_loads rfl hS1 hbv (Ty.shp rfl)|refine Run_pev rfl|refine k_add64 rfl rfl (by omega)) rfl ?_))
   refine IH (i+1,us) _ _ ?_ ?_ ?_ ?_
   ·simp only;omega
   ·exact ⟨rfl,trivial⟩
   ·repeat first|with_reducible apply Agr.refl|refine Agr.upd rfl ?_|refine Agr.updL rfl ?_|refine Agr.mrg rfl ?_
   ·exact ⟨by omega,hl2,hv2,hH⟩
  | true =>
   have hu0:us[0]?=some us[0]:=List.getElem?_eq_getElem _
   obtain ⟨x0,y0,hx0,hy0,he0⟩:=hv2 us[0] (List.getElem_mem _)
   rw [he0] at hu0
   repeat (first|refine WS_seq ?_|refine WS_region ?_|refine WL_nil ?_|refine WS_true rfl ?_|(refine WL_r (by first|refine k_fa rfl (Ty.fld rfl rfl)|refine k_loads rfl hS1 hbv (Ty.shp rfl)|refine k_ixa1 (i:=0) rfl rfl (Ty.arr rfl) (by decide)|refine k_loads (j:=0) rfl hS3 hu0 (Ty.shp rfl)|refine k_ixa1 rfl rfl (Ty.arr rfl) (by omega)|refine Run_pev rfl) rfl ?_))
   refine WL_s (H_storeL 2 (o:=0+(i:Int).toNat) hH rfl rfl rfl (by omega) rfl (Ty.shp rfl) ?_)
   clear hH
   intro w5 hH
   replace hH:=nn3 hH
   repeat (first|refine WS_region ?_|refine WL_nil ?_|refine WS_inBlock ?_|(refine WL_r (by first|refine Run_pev rfl|refine k_add64 rfl rfl (by omega)) rfl ?_))
   refine IH (i+1,us.set (0+(i:Int).toNat) (CV x0 y0)) _ _ ?_ ?_ ?_ ?_
   ·simp only;omega
   ·exact ⟨rfl,trivial⟩
   ·repeat first|with_reducible apply Agr.refl|refine Agr.upd rfl ?_|refine Agr.updL rfl ?_|refine Agr.mrg rfl ?_
   ·exact ⟨by omega,by rw [List.length_set];exact hl2,VG.set hv2 ⟨x0,y0,hx0,hy0,rfl⟩,hH⟩
 clear IH
 have hB3:Blk u1 b3 93 vs.toArray:=hH.b 2 rfl
 repeat (first|refine WS_seq ?_|refine WS_region ?_|refine WL_nil ?_|refine WS_exit rfl ?_|refine WS_no rfl (by omega) ?_|(refine WL_r (by first|refine k_loadA rfl hB3 (by simpa using hl) (Ty.shp rfl)|refine Run_pev rfl) rfl ?_))
 refine WL_s (H_storeA 1 (vs:=vs.toArray) hH rfl rfl rfl (by simpa using hl) rfl (fun u hu=>(hv u (by simpa using hu)).one) (Ty.shp rfl) ?_)
 clear hH
 intro w6 hH
 replace hH:=nn3 hH
 repeat (refine WL_nil ?_)
 exact WS_retc1 Tryz.func33 rfl rfl (hH.b 1 rfl) (by simpa using hl) (Ty.shp rfl) ⟨vs,hl,hv,rfl,hH.ext⟩
end Go.Proofs.YtpbiicegmcpkpaaGreat
