/- A part of the proof that TopWorse is true at every input; no condition. -/
import Derived.Test.YtpbiicegmcpkpaaGreatT36
import Derived.Test.YtpbiicegmcpkpaaGreatT38
namespace Go.Proofs.YtpbiicegmcpkpaaGreat
open Go Go.K Go.P Go.RowKit Go.Proofs
abbrev f50 (y u z:Nat):List Res:=[Rb y 5 (List.replicate (16*1*(16*1)) (Value.int .u8 50)).toArray,Rb u 5 (List.replicate (8*1*(8*1)) (Value.int .u8 50)).toArray,Rb z 5 (List.replicate (8*1*(8*1)) (Value.int .u8 50)).toArray]
abbrev p1 (a:Option Addr) (n c:Nat):List Value:=[.int .i64 0,.bool false,.bool false,.int .i64 1,.slice a n c]
theorem eC_head {bc y u z:Nat} {ed:Value}:((eC bc y u z ed).drop (0+0)).take 139=cf1:=by kernel_rfl
theorem eC_frame {bc y u z:Nat} {ed:Value}:((eC bc y u z ed).drop (0+140)).take 11=frC 1 1 y u z:=by kernel_rfl
theorem cf1_head:(cf1.drop (0+0)).take 131=SH.one.cells:=by kernel_rfl
theorem cf1_tab:(cf1.drop (0+0+2)).take 129=tz:=by kernel_rfl
theorem er_perm {α:Type}:∀ {l:List α} {i:Nat} (h:i<l.length),(l[i]::l.eraseIdx i).Perm l
 | _::_,0,_=>.refl _
 | a::l,i+1,h=>(List.Perm.swap a (l[i]'(by simpa using h)) (l.eraseIdx i)).trans (.cons a (er_perm (by simpa using h)))
theorem hpf {S:List Nat} {W w:World} {H:List Res} {r:Res} (i:Nat) (h:Hp S W w H) (hi:H[i]?=some r):Hp S W w (r::H.eraseIdx i):=by
 obtain ⟨h1,h2⟩:=List.getElem?_eq_some_iff.1 hi
 rw [← h2]
 exact h.swap (er_perm h1)
theorem hpk {S:List Nat} {W w v:World} {H:List Res} {r s:Res} (i j:Nat) (h:Hp S W w H) (hi:H[i]?=some r) (hj:H[j]?=some s) (hne:i≠j) (hE:Ext r.fp w v):s.holds v:=s.keep (h.at j hj) hE (fun x hx hxs=>h.dj i j hi hj hne x hx hxs)
theorem WS_retcc {P:Program} {N:Nat} {f:FuncId} {R:Value→World→Prop} {k:List Item} {ρ:Fr} {w:World} {t t2:TypeId} {fn:Func} {e e2:TypeId} {c b s c2 b2 s2 q:Nat} {cs cs2:Array Value} (hf:P.funcs[f]?=some fn) (hr:fn.results=#[.cell c t,.cell c2 t2,.tmp q]) (hc:ρ c=.pointer (some ⟨b,0,none⟩)) (hB:Blk w b e cs) (hl:cs.size=s) (ht:shp P t=some (true,s))
  (hc2:ρ c2=.pointer (some ⟨b2,0,none⟩)) (hB2:Blk w b2 e2 cs2) (hl2:cs2.size=s2) (ht2:shp P t2=some (true,s2)) (h:R (.tuple #[.agg cs,.agg cs2,ρ q]) w):WS P N f R (.code .ret::k) ρ w :=
 WS_leave hf step_ret' (fun a ha=>by
  have h1:=ha.val c
  rw [hc,Array.getD_eq_getD_getElem?] at h1
  have h2:=ha.val c2
  rw [hc2,Array.getD_eq_getD_getElem?] at h2
  have h3:=ha.val q
  rw [Array.getD_eq_getD_getElem?] at h3
  simp [results,hr,h1,h2,← h3,asAddr,run_loadA hB hl ht,run_loadA hB2 hl2 ht2]) h
set_option maxRecDepth 20000 in
set_option maxHeartbeats 16000000 in
theorem picture29 {bx y2 u2 z2 y u z:Nat} {k:KD} {w:World} (hk:k.ok) (hS:Sep (Rb bx 113 (eC k.bc y2 u2 z2 (.pointer none)).toArray::RK k::f50 y u z) w):Does Tryz.prog 29 #[pt bx,.int .i64 0,.agg (frC 1 1 y u z).toArray] w fun v w'=>∃ (a:Option Addr) (c y3 u3 z3:Nat) (cs:List Value),v=.tuple #[.agg (p1 a 1 c).toArray,.agg (frC 1 1 y3 u3 z3).toArray,.int .i64 0]∧cs.length=156∧Hp (fps (Rb bx 113 (eC k.bc y2 u2 z2 (.pointer none)).toArray::RK k::f50 y u z)) w w' [Rb bx 113 cs.toArray]:=by
 refine Does_of (args:=[_,_,_]) Tryz.func29 rfl rfl Tryz.ntmps29 rfl ?_
 have hH:=Hp.startL hS
 repeat (first|refine WS_seq ?_|refine WS_region ?_)
 refine WL_s (H_box (cs:=(frC 1 1 y u z).toArray) hH rfl rfl rfl ?_)
 try clear hH
 intro _ b5 hH
 replace hH:=nn6 hH
 skip
 refine WL_s (H_alloc hH (Ty.zer rfl) rfl ?_)
 try clear hH
 intro _ b6 hH
 replace hH:=nn7 hH
 skip
 refine WL_s (H_alloc hH (Ty.zer rfl) rfl ?_)
 try clear hH
 intro _ b7 hH
 replace hH:=nn8 hH
 have hS0:SlA _ (some ⟨bx,0,none⟩) _:=(hH.b 0 rfl).sl0
 repeat (first|refine WS_seq ?_|refine WS_region ?_|refine WL_nil ?_|(refine WL_r (by first|refine k_nilCheck rfl|refine k_fa rfl (Ty.fld rfl rfl)|refine k_loadC (j:=0+0) (cs:=cf1) rfl hS0 eC_head rfl (Ty.shp rfl)|refine Run_pev rfl) rfl ?_))
 clear hS0
 refine WL_s (H_alloc (zs:=cfz) hH (Ty.zer rfl) rfl ?_)
 clear hH
 intro _ b9 hH
 replace hH:=nn9 hH
 skip
 refine WL_s (H_storeA 8 (vs:=cf1.toArray) (s:=139) hH rfl rfl rfl rfl rfl (by decide +kernel) (Ty.shp rfl) ?_)
 clear hH
 intro _ hH
 replace hH:=nn9 hH
 repeat (first|refine WS_seq ?_|refine WS_region ?_|refine WL_nil ?_|(refine WL_r (by first|refine k_nilCheck rfl|refine k_fa rfl (Ty.fld rfl rfl)|refine Run_pev rfl) rfl ?_))
 refine WL_s (H_storeL 0 (o:=0+152) (v:=.int .i64 0) hH rfl rfl rfl (by rw [eC_len];decide) rfl (Ty.shp rfl) ?_)
 clear hH
 intro _ hH
 replace hH:=hH.as (r':=Rb bx 113 (eC k.bc y2 u2 z2 (.pointer none)).toArray) 0 rfl (fun _ h=>h) (fun h=>h)
 replace hH:=nn9 hH
 repeat (first|refine WS_seq ?_|refine WS_region ?_|refine WL_nil ?_|refine WL_gno rfl rfl rfl rfl rfl ?_|refine WL_gund rfl rfl rfl ?_|(refine WL_r (by first|refine k_nilCheck rfl|refine k_fa rfl (Ty.fld rfl rfl)|refine Run_pev rfl) rfl ?_))
 refine WL_s (H_storeL 0 (o:=0+155) (v:=.bool false) hH rfl rfl rfl (by rw [eC_len];decide) rfl (Ty.shp rfl) ?_)
 clear hH
 intro _ hH
 replace hH:=hH.as (r':=Rb bx 113 (eC k.bc y2 u2 z2 (.pointer none)).toArray) 0 rfl (fun _ h=>h) (fun h=>h)
 replace hH:=nn9 hH
 have hB0:=hH.b 0 rfl
 repeat (first|refine WS_seq ?_|refine WS_region ?_|refine WL_nil ?_|refine WL_gno rfl rfl rfl rfl rfl ?_|(refine WL_r (by first|refine k_nilCheck rfl|refine k_fa rfl (Ty.fld rfl rfl)|refine k_loadb (v:=.bool false) rfl hB0 rfl (Ty.shp rfl)|refine Run_pev rfl) rfl ?_))
 clear hB0
 refine WL_s (H_storeL 0 (o:=0+154) (v:=.bool false) hH rfl rfl rfl (by rw [eC_len];decide) rfl (Ty.shp rfl) ?_)
 clear hH
 intro w5 hH
 replace hH:=hH.as (r':=Rb bx 113 (eC k.bc y2 u2 z2 (.pointer none)).toArray) 0 rfl (fun _ h=>h) (fun h=>h)
 replace hH:=nn9 hH
 have hB0:=hH.b 0 rfl
 repeat (first|refine WS_seq ?_|refine WL_nil ?_)
 refine WS_specT 16 rfl (by kernel_rfl) (by kernel_rfl) [Is (.int .i64 0),Is (pt bx),Is (pt bx),Is (.pointer (some ⟨bx,0+155,none⟩)),Is (.bool false),Is (pt bx),Is (pt bx),Is (.pointer (some ⟨bx,0+154,none⟩)),Is (.bool false),Is (pt bx),Is (pt bx),Is (.pointer (some ⟨bx,0+151,none⟩)),Is (.int .i64 1),Is (.agg #[.int .i64 0,.bool false,.bool false,.int .i64 1]),Is (.agg (p1 none 0 0).toArray),IsNew w5.heap.size 72 #[.int .i64 0,.bool false,.bool false,.int .i64 0,.slice none 0 0] (fun b=>pt b)] Ty.mixed [(453310288867338521412608,[],true),(604333782598798620492800,[],true),(604223102134356363183104,[(1,65)],true),(604001741205471848563712,[(2,66)],true),(453033587706232878138368,[(3,67)],true),(602673575632164760847360,[],true),(600902688201088643892224,[(5,69)],true),(597360913338936409981952,[(6,70)],true),(448606369128542585750528,[(7,71)],true),(576110264166023006520320,[],true),(547776065268805135238144,[(9,73)],true),(491107667474369392673792,[(10,74)],true),(377770871885497907545088,[(11,75)],true),(151097280707754937287680,[(0,64),(4,68),(8,72),(12,76)],true),(302213008159583584125952,[(13,77)],true),(604444463063240877801472,[],true)] 604444463063240877802496 [(14,78),(15,10)] (by kernel_rfl) (by kernel_rfl) (by kernel_rfl) (by kernel_rfl) (by kernel_rfl) ⟨Is.st,Is.st,Is.st,Is.st,Is.st,Is.st,Is.st,Is.st,Is.st,Is.st,Is.st,Is.st,Is.st,Is.st,Is.st,(by exact IsNew.st),trivial⟩ ⟨⟨GOk.none,?_⟩,⟨GOk.none,?_⟩,⟨GOk.none,?_⟩,⟨GOk.none,?_⟩,⟨GOk.none,?_⟩,⟨GOk.none,?_⟩,⟨GOk.none,?_⟩,⟨GOk.none,?_⟩,⟨GOk.none,?_⟩,⟨GOk.none,?_⟩,⟨GOk.none,?_⟩,⟨GOk.none,?_⟩,⟨GOk.none,?_⟩,⟨GOk.none,?_⟩,⟨GOk.none,?_⟩,⟨GOk.none,?_⟩,trivial⟩ ?_
 ·intro w'' hE''
  intro σ''
  exact sp_is (by refine Run_pev rfl) rfl
 ·intro w'' hE''
  intro σ''
  exact sp_is (by refine Run_pev rfl) rfl
 ·intro w'' hE''
  rintro _ rfl
  intro σ''
  exact sp_is (by refine k_nilCheck rfl) rfl
 ·intro w'' hE''
  rintro _ rfl
  intro σ''
  exact sp_is (by refine k_fa rfl (Ty.fld rfl rfl)) rfl
 ·intro w'' hE''
  rintro _ rfl
  intro σ''
  exact sp_is (by refine k_loadb rfl (hB0.ext0 hE'') rfl (Ty.shp rfl)) rfl
 ·intro w'' hE''
  intro σ''
  exact sp_is (by refine Run_pev rfl) rfl
 ·intro w'' hE''
  rintro _ rfl
  intro σ''
  exact sp_is (by refine k_nilCheck rfl) rfl
 ·intro w'' hE''
  rintro _ rfl
  intro σ''
  exact sp_is (by refine k_fa rfl (Ty.fld rfl rfl)) rfl
 ·intro w'' hE''
  rintro _ rfl
  intro σ''
  exact sp_is (by refine k_loadb rfl (hB0.ext0 hE'') rfl (Ty.shp rfl)) rfl
 ·intro w'' hE''
  intro σ''
  exact sp_is (by refine Run_pev rfl) rfl
 ·intro w'' hE''
  rintro _ rfl
  intro σ''
  exact sp_is (by refine k_nilCheck rfl) rfl
 ·intro w'' hE''
  rintro _ rfl
  intro σ''
  exact sp_is (by refine k_fa rfl (Ty.fld rfl rfl)) rfl
 ·intro w'' hE''
  rintro _ rfl
  intro σ''
  exact sp_is (by refine k_loadb rfl (hB0.ext0 hE'') rfl (Ty.shp rfl)) rfl
 ·intro w'' hE''
  rintro _ rfl
  rintro _ rfl
  rintro _ rfl
  rintro _ rfl
  intro σ''
  exact sp_is (by refine k_buildS (cs:=[.int .i64 0,.bool false,.bool false,.int .i64 1]) (Ty.zer rfl) (Ty.plc rfl) rfl) rfl
 ·intro w'' hE''
  rintro _ rfl
  intro σ''
  exact sp_is (by refine k_buildS (cs:=p1 none 0 0) (Ty.zer rfl) (Ty.plc rfl) rfl) rfl
 ·intro w'' hE''
  intro σ''
  refine S_alloc (Ty.zer rfl) rfl ?_
  intro w3'' b'' hb'' hE3'' hB'' hs''
  exact ⟨hE3'',_,rfl,b'',rfl,hB'',by have:=hE''.size;omega⟩
 intro w'' hE''
 rintro _ rfl
 rintro _ h15
 intro σ''
 obtain ⟨b10,rfl,hB10,hb10⟩:=h15
 replace hH:=hH.nu (r:=Rb b10 72 #[.int .i64 0,.bool false,.bool false,.int .i64 0,.slice none 0 0]) ⟨hE'',hB10,fun x hx=>by simp [Rb] at hx;omega⟩
 clear hE'' hB10 hb10 hB0
 replace hH:=nn10 hH
 refine WL_s (H_storeA 9 (vs:=(p1 none 0 0).toArray) (s:=5) hH rfl rfl rfl (by rfl) (by rfl) (by decide) (Ty.shp rfl) ?_)
 try clear hH
 intro _ hH
 replace hH:=nn10 hH
 have hB9:=hH.b 8 rfl
 repeat (first|refine WS_seq ?_|refine WS_region ?_|refine WL_nil ?_|(refine WL_r (by first|refine k_fa rfl (Ty.fld rfl rfl)|refine k_loadb (v:=.int .i64 1) rfl hB9 rfl (Ty.shp rfl)) rfl ?_))
 clear hB9
 refine WL_s (S_call ((newframe_spec (c:=1) (r:=1) (x:=128) (by decide) (by decide))) rfl rfl ?_)
 rintro _ _ ⟨y3,u3,z3,rfl,hQ⟩
 replace hH:=hH.calls 0 hQ
 clear hQ
 replace hH:=nn13 hH
 replace hH:=RY.cl (n:=16*16) 0 hH rfl (by simp)
 replace hH:=RY.cl (n:=8*8) 1 hH rfl (by simp)
 replace hH:=RY.cl (n:=8*8) 2 hH rfl (by simp)
 replace hH:=nn13 hH
 skip
 refine WL_s (H_alloc hH (Ty.zer rfl) rfl ?_)
 try clear hH
 intro _ b11 hH
 replace hH:=nn14 hH
 skip
 refine WL_s (H_storeA 13 (vs:=(frC 1 1 y3 u3 z3).toArray) (s:=11) hH rfl rfl rfl (by rfl) (by rfl) (by simp [Value.oneCell']) (Ty.shp rfl) ?_)
 try clear hH
 intro _ hH
 replace hH:=nn14 hH
 have hB9:=hH.b 11 rfl
 repeat (first|refine WS_seq ?_|refine WS_region ?_|refine WL_nil ?_|refine WS_block ?_|(refine WL_r (by first|refine k_fa rfl (Ty.fld rfl rfl)|refine k_loadb (v:=.int .i64 1) rfl hB9 rfl (Ty.shp rfl)|refine (k_mul64 (m:=1) (n:=1) rfl rfl (by omega)).is (v':=.int .i64 1) rfl|refine Run_pev rfl) rfl ?_))
 clear hB9
 refine WS_loop0 ?_
 repeat (first|refine WS_seq ?_|refine WS_region ?_|refine WL_nil ?_|refine WS_block ?_|refine WS_skip ?_|refine WS_true rfl ?_|(refine WL_r (by first|refine k_buildS (cs:=GR.cells ⟨0,none,0,[]⟩) (Ty.zer rfl) (Ty.plc rfl) rfl|refine Run_pev rfl) rfl ?_))
 refine WL_s (H_alloc hH (Ty.zer rfl) rfl ?_)
 try clear hH
 intro _ b15 hH
 replace hH:=nn15 hH
 skip
 refine WL_s (H_storeA 14 (vs:=(GR.cells ⟨0,none,0,[]⟩).toArray) (s:=2) hH rfl rfl rfl (by rfl) (by rfl) (by decide) (Ty.shp rfl) ?_)
 try clear hH
 intro _ hH
 replace hH:=nn15 hH
 have hB9:=hH.b 11 rfl
 repeat (first|refine WS_seq ?_|refine WS_region ?_|refine WL_nil ?_|(refine WL_r (by first|refine k_fa rfl (Ty.fld rfl rfl)|refine k_loadb (v:=.int .i64 1) rfl hB9 rfl (Ty.shp rfl)|refine Run_pev rfl) rfl ?_))
 clear hB9
 refine WL_s (S_call ((prednew_spec 1000 (c:=1) (r:=1) (by decide) (by decide))) rfl rfl ?_)
 rintro _ _ ⟨b,m1,m2,m3,rfl,hN⟩
 replace hH:=hH.nu hN
 clear hN
 replace hH:=nn16 hH
 repeat ((refine WL_r (by first|refine k_nilCheck rfl|refine k_fa rfl (Ty.fld rfl rfl)) rfl ?_))
 refine WL_s (H_storeL 3 (o:=0+153) (v:=pt b) hH rfl rfl rfl (by rw [eC_len];decide) rfl (Ty.shp rfl) ?_)
 clear hH
 intro _ hH
 replace hH:=hH.as (r':=Rb bx 113 (eC k.bc y2 u2 z2 (pt b)).toArray) 3 rfl (fun _ h=>h) (fun h=>h)
 replace hH:=hpf 7 (hpf 15 (hpf 7 (hpf 7 (hpf 7 hH rfl) rfl) rfl) rfl) rfl
 replace hH:=nn16 hH
 have hB0:=hH.b 0 rfl
 repeat (first|refine WS_seq ?_|refine WS_region ?_|refine WL_nil ?_|refine WS_block ?_|(refine WL_r (by first|refine k_nilCheck rfl|refine k_fa rfl (Ty.fld rfl rfl)|refine k_loadb (v:=.int .i64 1) rfl hB0 rfl (Ty.shp rfl)|refine Run_pev rfl) rfl ?_))
 clear hB0
 refine WS_loop0 ?_
 have hB9:=hH.b 12 rfl
 have hB5:=hH.b 9 rfl
 repeat (first|refine WS_seq ?_|refine WS_region ?_|refine WL_nil ?_|refine WS_block ?_|refine WS_skip ?_|refine WS_true rfl ?_|(refine WL_r (by first|refine k_fa rfl (Ty.fld rfl rfl)|refine k_loadb (v:=.int .i64 1) rfl hB9 rfl (Ty.shp rfl)|refine k_loadA rfl hB5 rfl (Ty.shp rfl)|refine Run_pev rfl|refine k_add64 rfl rfl (by omega)|refine k_min rfl rfl) rfl ?_))
 clear hB9 hB5
 refine WL_s (S_call ((macro51 (hH.sepN 5))) rfl rfl ?_)
 rintro _ _ ⟨e,rfl,hQ⟩
 replace hH:=hH.calls 5 hQ
 clear hQ
 replace hH:=nn16 hH
 skip
 refine WL_s (H_alloc (zs:=mk0 0 0) hH (Ty.zer rfl) rfl ?_)
 clear hH
 intro _ b18 hH
 replace hH:=nn17 hH
 have hM0:(mk0 0 0).length=391:=by rw [mk0_mcl];exact mcl_len (by simp)
 skip
 refine WL_s (H_storeA 16 (vs:=(m25 e).toArray) (s:=391) hH rfl rfl rfl (by simpa using m25_len) (by simpa using hM0) (mcl_one m25_ok) (Ty.shp rfl) ?_)
 clear hH
 intro _ hH
 replace hH:=hpf 7 (hpf 7 (hpf 7 hH rfl) rfl) rfl
 replace hH:=nn17 hH
 have hB18:=hH.b 16 rfl
 repeat (first|refine WS_seq ?_|refine WS_region ?_|refine WL_nil ?_|(refine WL_r (by first|refine k_fa rfl (Ty.fld rfl rfl)|refine k_loadb (v:=.int .i64 1) rfl hB18 rfl (Ty.shp rfl)|refine Run_pev rfl) rfl ?_))
 have hB0:=hH.b 3 rfl
 have hS0:SlA _ (some ⟨bx,0,none⟩) _:=hB0.sl0
 have hS9:SlA _ (some ⟨b9,0,none⟩) cf1:=(hH.b 12 rfl).sl0
 have hB11:=hH.b 14 rfl
 refine WS_tailE Ty.mixed 14 rfl (by kernel_rfl) rfl (fun w1 hx1=>?_)
 refine wt 0 hx1 rfl rfl rfl (fun w' hw'=>by refine k_fa rfl (Ty.fld rfl rfl)) ?_
 refine wt 1 hx1 rfl rfl rfl (fun w' hw'=>by refine k_fa rfl (Ty.fld rfl rfl)) ?_
 refine wt 2 hx1 rfl rfl rfl (fun w' hw'=>by refine k_loadC (j:=0+0+2) (cs:=tz) rfl (hS9.ext0 hw') cf1_tab rfl (Ty.shp rfl)) ?_
 refine wp 3 hx1 rfl rfl rfl rfl ?_
 refine wt 4 hx1 rfl rfl rfl (fun w' hw'=>by refine k_nilCheck rfl) ?_
 refine wt 5 hx1 rfl rfl rfl (fun w' hw'=>by refine k_fa rfl (Ty.fld rfl rfl)) ?_
 refine wt 6 hx1 rfl rfl rfl (fun w' hw'=>by refine k_loadb (v:=.bool false) rfl (hB0.ext0 hw') rfl (Ty.shp rfl)) ?_
 refine wp 7 hx1 rfl rfl rfl rfl ?_
 refine wt 8 hx1 rfl rfl rfl (fun w' hw'=>by refine k_nilCheck rfl) ?_
 refine wt 9 hx1 rfl rfl rfl (fun w' hw'=>by refine k_fa rfl (Ty.fld rfl rfl)) ?_
 refine wt 10 hx1 rfl rfl rfl (fun w' hw'=>by refine k_loadC (j:=0+140) (cs:=frC 1 1 y2 u2 z2) rfl (hS0.ext0 hw') eC_frame rfl (Ty.shp rfl)) ?_
 refine wt 11 hx1 rfl rfl rfl (fun w' hw'=>by refine k_loadA rfl (hB11.ext0 hw') rfl (Ty.shp rfl)) ?_
 refine wp 12 hx1 rfl rfl rfl rfl ?_
 refine wt 13 hx1 rfl rfl rfl (fun w' hw'=>by refine k_loadA rfl (hB18.ext0 hw') (by simpa using m25_len) (Ty.shp rfl)) ?_
 refine WA_done (by kernel_rfl) ?_
 replace hH:=hH.ext0 hx1
 clear hB18 hB0 hS0 hS9 hB11 hx1
 refine WL_s (S_call ((recput_spec (hH.sepN 3))) rfl rfl ?_)
 rintro _ _ ⟨rfl,hQ⟩
 replace hH:=hH.calls 3 hQ
 clear hQ
 replace hH:=(((((((hH.del 9).del 7).del 6).del 5).del 4).del 2).del 1).del 0
 replace hH:=hH.nu (New.nilO (e:=97) (sz:=391))
 replace hH:=nn10 hH
 have hB15:=hH.b 7 rfl
 have hB18:=hH.b 8 rfl
 repeat (first|refine WS_seq ?_|refine WS_region ?_|refine WL_nil ?_|refine WS_skip ?_|refine WS_false rfl ?_|(refine WL_r (by first|refine k_fa rfl (Ty.fld rfl rfl)|refine k_loadb rfl hB15 rfl (Ty.shp rfl)|refine k_loadA rfl hB18 (by simpa using m25_len) (Ty.shp rfl)|refine Run_pev rfl) rfl ?_))
 clear hB15 hB18
 refine WL_s (H_lit (out:=m25 e) hH (Ty.sle rfl) (Ty.zer rfl) rfl (lit1 rfl m25_len) rfl (by decide) rfl ?_)
 clear hH
 intro _ b19 hH
 replace hH:=nn11 hH
 refine WL_s (H_append 9 hH rfl (Ty.sle rfl) (Ty.zer rfl) rfl (Ty.byt rfl) (by decide) rfl rfl (hH.b 10 rfl).sl0 (by rw [m25_len]) (fun v hv=>mcl_one m25_ok v (by simpa using hv)) (by omega) (by simp only [maxLen];omega) rfl ?_)
 clear hH
 intro _ a9 c9 hH
 replace hH:=hH.del 10
 replace hH:=nn10 hH
 repeat ((refine WL_r (by refine k_fa rfl (Ty.fld rfl rfl)) rfl ?_))
 refine WL_s (H_store 7 (v:=.slice a9 (0+1) c9) hH rfl rfl rfl (Nat.le_of_ble_eq_true rfl) rfl (Ty.shp rfl) ?_)
 try clear hH
 intro _ hH
 replace hH:=nn10 hH
 replace hH:=hH.del 8
 replace hH:=nn9 hH
 repeat (first|refine WS_region ?_|refine WL_nil ?_|refine WS_inBlock ?_|(refine WL_r (by first|refine Run_pev rfl|refine k_add64 rfl rfl (by omega)) rfl ?_))
 refine WS_inLoop ?_
 have hB9:=hH.b 4 rfl
 repeat (first|refine WS_seq ?_|refine WS_region ?_|refine WL_nil ?_|refine WS_exit rfl ?_|refine WS_false rfl ?_|(refine WL_r (by first|refine k_fa rfl (Ty.fld rfl rfl)|refine k_loadb (v:=.int .i64 1) rfl hB9 rfl (Ty.shp rfl)|refine Run_pev rfl|refine k_add64 rfl rfl (by omega)|refine k_min rfl rfl) rfl ?_))
 clear hB9
 refine WS_w fun w9 hw9=>?_
 rw [← hw9] at hH
 have hmb:chn false 1 [⟨3,1,zV,zV,zV,zV,e,FL 6⟩]:=⟨m25_ok,fun _=>(by decide:3≤3),rfl,trivial⟩
 have hml:mcs [⟨3,1,zV,zV,zV,zV,e,FL 6⟩]=[]++m25 e:=by simp [mcs]
 refine WS_draw Ty.mixed (fun v=>Ext (RK k).fp w9 v) 19 rfl ?_
 have hx1:Ext (RK k).fp w9 w9.drew:=Ext.drew0
 refine wp 0 hx1 rfl rfl rfl rfl ?_
 refine wt 1 hx1 rfl rfl rfl (fun w' hw'=>by refine k_nilCheck rfl) ?_
 refine wt 2 hx1 rfl rfl rfl (fun w' hw'=>by refine k_fa rfl (Ty.fld rfl rfl)) ?_
 refine wt 3 hx1 rfl rfl rfl (fun w' hw'=>by refine k_loadb (v:=pt k.bc) rfl (hpk 1 0 hH rfl rfl (by decide) hw') rfl (Ty.shp rfl)) ?_
 refine wt 4 hx1 rfl rfl rfl (fun w' hw'=>by refine k_fa rfl (Ty.fld rfl rfl)) ?_
 refine wt 5 hx1 rfl rfl rfl (fun w' hw'=>by refine k_loadC (j:=0+0) (cs:=SH.one.cells) rfl (show SlA _ (some ⟨b9,0,none⟩) cf1 from (show Blk _ _ _ _ from hpk 1 4 hH rfl rfl (by decide) hw').sl0) cf1_head rfl (Ty.shp rfl)) ?_
 refine wt 6 hx1 rfl rfl rfl (fun w' hw'=>by refine k_fa rfl (Ty.fld rfl rfl)) ?_
 refine wt 7 hx1 rfl rfl rfl (fun w' hw'=>by refine k_loadC (j:=0+0) (cs:=[.int .i64 0,.bool false,.bool false,.int .i64 1]) rfl (show SlA _ (some ⟨b10,0,none⟩) (p1 none 0 0) from (show Blk _ _ _ _ from hpk 1 5 hH rfl rfl (by decide) hw').sl0) rfl rfl (Ty.shp rfl)) ?_
 refine wp 8 hx1 rfl rfl rfl rfl ?_
 refine wt 9 hx1 rfl rfl rfl (fun w' hw'=>by refine k_fa rfl (Ty.fld rfl rfl)) ?_
 refine wt 10 hx1 rfl rfl rfl (fun w' hw'=>by refine k_loadb (v:=.slice a9 (0+1) c9) rfl (hpk 1 7 hH rfl rfl (by decide) hw') rfl (Ty.shp rfl)) ?_
 refine WA_one 11 (by kernel_rfl) rfl rfl (S_call (coput_spec (h:=SH.one) (hp:=⟨0,false,false,1⟩) (C:=1) (R:=1) (f:=0) (n:=1) (a:=a9) (cap:=c9) hk (hpk 0 1 hH rfl rfl (by decide) (Ext.drew0)) SH.one_ok SH.one_err rfl rfl (by decide) (hml▸(show Own _ _ _ _ _ _ _ from (hH.ext0 Ext.drew0).at 8 rfl).sl) (fun s hs hb=>hH.dj 1 8 rfl rfl (by decide) s hs hb) rfl (by decide) (by decide) hmb) rfl rfl ?_)
 rintro _ w10 ⟨al,cl,A,al2,cl2,Bb,rfl,hA,hB,_,_,hQ⟩
 have hx2:Ext (RK k).fp w9 w10:=hx1.then1' hQ.ext
 refine ⟨hx2,?_⟩
 refine wp 12 hx2 rfl rfl rfl rfl ?_
 refine wt 13 hx2 rfl rfl rfl (fun w' hw'=>by refine k_extract rfl rfl) ?_
 refine wt 14 hx2 rfl rfl rfl (fun w' hw'=>by refine k_extract rfl rfl) ?_
 refine wt 15 hx2 rfl rfl rfl (fun w' hw'=>by refine k_extract rfl rfl) ?_
 refine wp 16 hx2 rfl rfl rfl rfl ?_
 refine wp 17 hx2 rfl rfl rfl rfl ?_
 refine wp 18 hx2 rfl rfl rfl rfl ?_
 refine WA_done (by kernel_rfl) ?_
 replace hH:=(hH.ext0 Ext.drew0).call 1 rfl hQ
 replace hH:=nn11 hH
 replace hH:=(((hH.del 10).del 9).del 8).del 7
 replace hH:=hH.nu (New.nilO (e:=80) (sz:=2))
 replace hH:=nn8 hH
 have hB10:=hH.b 4 rfl
 have hB15:=hH.b 6 rfl
 repeat (first|refine WS_seq ?_|refine WS_region ?_|refine WL_nil ?_|refine WS_skip ?_|refine WS_false rfl ?_|(refine WL_r (by first|refine k_fa rfl (Ty.fld rfl rfl)|refine k_loadb rfl hB10 rfl (Ty.shp rfl)|refine k_loadA rfl hB15 rfl (Ty.shp rfl)|refine Run_pev rfl|refine k_add64 rfl rfl (by omega)|refine k_len rfl (Ty.isl rfl)) rfl ?_))
 refine WL_s (H_lit (out:=[.int .i64 0,.slice a9 1 c9]) hH (Ty.sle rfl) (Ty.zer rfl) rfl rfl rfl (by decide) rfl ?_)
 try clear hH
 intro _ blit hH
 replace hH:=nn9 hH
 refine WL_s (H_append 7 hH rfl (Ty.sle rfl) (Ty.zer rfl) rfl (Ty.byt rfl) (by decide) rfl rfl ((hH.b 8 rfl).sl0) (by simp;try omega) (by simp) (by omega) (by simp only [maxLen];omega) rfl ?_)
 try clear hH
 intro _ a8 c8 hH
 replace hH:=nn9 hH
 replace hH:=hH.del 8
 replace hH:=nn8 hH
 repeat ((refine WL_r (by refine k_fa rfl (Ty.fld rfl rfl)) rfl ?_))
 clear hB10 hB15
 refine WL_s (H_store 4 (v:=.slice a8 (0+1) c8) hH rfl rfl rfl (Nat.le_of_ble_eq_true rfl) rfl (Ty.shp rfl) ?_)
 try clear hH
 intro _ hH
 replace hH:=nn8 hH
 have hB9:=hH.b 3 rfl
 repeat (first|refine WS_region ?_|refine WL_nil ?_|refine WS_inBlock ?_|(refine WL_r (by first|refine k_fa rfl (Ty.fld rfl rfl)|refine k_loadb (v:=.int .i64 1) rfl hB9 rfl (Ty.shp rfl)|refine Run_pev rfl|refine k_add64 rfl rfl (by omega)) rfl ?_))
 refine WS_inLoop ?_
 repeat (first|refine WS_seq ?_|refine WS_region ?_|refine WL_nil ?_|refine WS_exit rfl ?_|refine WS_false rfl ?_|refine lp rfl rfl ?_)
 clear hB9
 refine WL_s (S_call ((rate_spec (n:=0+(A.length+Bb.length)) (hH.b 0 rfl) rfl)) rfl rfl ?_)
 rintro _ _ ⟨rfl,hE0⟩
 replace hH:=hH.ext0 hE0
 clear hE0
 repeat (first|refine WS_seq ?_|refine WL_nil ?_)
 refine WS_w fun w11 hw11=>?_
 rw [← hw11] at hH
 have hB6:=hH.b 1 rfl
 have hB7:=hH.b 2 rfl
 have hB10:=hH.b 4 rfl
 have hB11:=hH.b 5 rfl
 have hn10:b10 ∉ [b6,b7]:=fun hm=>by
  simp at hm
  rcases hm with h|h
  ·exact hH.dj 4 1 rfl rfl (by decide) b10 (by simp [Rb]) (by simp [Rb,h])
  ·exact hH.dj 4 2 rfl rfl (by decide) b10 (by simp [Rb]) (by simp [Rb,h])
 have hn11:b11 ∉ [b6,b7]:=fun hm=>by
  simp at hm
  rcases hm with h|h
  ·exact hH.dj 5 1 rfl rfl (by decide) b11 (by simp [Rb]) (by simp [Rb,h])
  ·exact hH.dj 5 2 rfl rfl (by decide) b11 (by simp [Rb]) (by simp [Rb,h])
 refine WS_draw Ty.mixed (fun v=>Ext [b6,b7] w11 v) 5 rfl ?_
 have hx3:Ext [b6,b7] w11 w11.drew:=Ext.drew0
 refine wt 0 hx3 rfl rfl rfl (fun w' hw'=>by refine k_loadA rfl (hB10.ext hw' hn10) rfl (Ty.shp rfl)) ?_
 refine wt 1 hx3 rfl rfl rfl (fun w' hw'=>by refine k_loadA rfl (hB11.ext hw' hn11) rfl (Ty.shp rfl)) ?_
 replace hH:=hH.ext0 (Ext.drew0 (S:=[]))
 refine WA_one 2 (by kernel_rfl) rfl rfl (S_storeA (s:=5) (vs:=(p1 a8 1 c8).toArray) rfl rfl (hH.b 1 rfl) rfl rfl (by simp [Value.oneCell']) (Ty.shp rfl) (fun w12 hE7 hB12 _=>?_))
 have hx4:=hx3.trans hE7 (fun _ ht=>.inl (by simp at ht;simp [ht]))
 refine ⟨hx4,?_⟩
 replace hH:=hH.up 1 rfl (r':=Rb b6 72 (p1 a8 1 c8).toArray) ⟨hE7,hB12,fun _ hx=>.inl hx⟩
 replace hH:=nn8 hH
 refine WA_one 3 (by kernel_rfl) rfl rfl (S_storeA (s:=11) (vs:=(frC 1 1 y3 u3 z3).toArray) rfl rfl (hH.b 2 rfl) rfl rfl (by simp [Value.oneCell']) (Ty.shp rfl) (fun w13 hE8 hB13 _=>?_))
 have hx5:=hx4.trans hE8 (fun _ ht=>.inl (by simp at ht;simp [ht]))
 refine ⟨hx5,?_⟩
 replace hH:=hH.up 2 rfl (r':=Rb b7 66 (frC 1 1 y3 u3 z3).toArray) ⟨hE8,hB13,fun _ hx=>.inl hx⟩
 replace hH:=nn8 hH
 refine wp 4 hx5 rfl rfl rfl rfl ?_
 refine WA_done (by kernel_rfl) ?_
 skip
 exact WS_retcc Tryz.func29 rfl rfl (hH.b 1 rfl) rfl (Ty.shp rfl) rfl (hH.b 2 rfl) rfl (Ty.shp rfl) ⟨a8,c8,y3,u3,z3,_,rfl,eC_len,hH.take 1⟩
end Go.Proofs.YtpbiicegmcpkpaaGreat
namespace Go.Proofs.YtpbiicegmcpkpaaGreat
open Go Go.K Go.P Go.RowKit Go.Proofs
set_option maxRecDepth 20000 in
set_option maxHeartbeats 16000000 in
theorem encode_spec {af:Option Addr} {cf y u z:Nat} {w:World} (hS:Sep (Rs af (frC 1 1 y u z)::f50 y u z) w):Does Tryz.prog 11 #[.agg cf1.toArray,.slice af 1 cf] w fun v w'=>∃ (a1:Option Addr) (c1:Nat) (a2:Option Addr) (c2:Nat) (a:Option Addr) (c:Nat),v=.tuple #[.agg (SH.one.cells++[Value.slice a1 1 c1]).toArray,.slice a2 1 c2,.int .i64 0]∧Hp (fps (Rs af (frC 1 1 y u z)::f50 y u z)) w w' [Ro 72 5 a1 1 c1 (p1 a 1 c)]:=by
 refine Does_of (args:=[_,_]) Tryz.func11 rfl rfl Tryz.ntmps11 rfl ?_
 have hH:=Hp.startL hS
 repeat (first|refine WS_seq ?_|refine WS_region ?_)
 refine WL_s (H_box (cs:=cf1.toArray) hH rfl rfl rfl ?_)
 try clear hH
 intro _ b2 hH
 replace hH:=nn5 hH
 skip
 refine WL_s (H_alloc (zs:=sz) hH (Ty.zer rfl) rfl ?_)
 try clear hH
 intro _ b4 hH
 replace hH:=nn6 hH
 have hB2:=hH.b 4 rfl
 repeat (first|refine WS_seq ?_|refine WS_region ?_|refine WL_nil ?_|(refine WL_r (by first|refine k_loadA rfl hB2 rfl (Ty.shp rfl)|refine Run_pev rfl) rfl ?_))
 clear hB2
 refine WL_s (S_call (ccheck_spec) rfl rfl ?_)
 rintro _ _ ⟨rfl,hE0⟩
 replace hH:=hH.ext0 hE0
 clear hE0
 replace hH:=nn6 hH
 repeat (first|refine WS_seq ?_|refine WS_region ?_|refine WL_nil ?_|refine WS_block ?_|refine WS_skip ?_|refine WS_false rfl ?_|refine WL_gyes rfl rfl rfl ?_|(refine WL_r (by first|refine Run_pev rfl|refine k_len rfl (Ty.isl rfl)) rfl ?_))
 refine WS_loop0 ?_
 have hSf:=hH.s 0 rfl
 repeat (first|refine WS_seq ?_|refine WS_region ?_|refine WL_nil ?_|refine WS_block ?_|refine WS_skip ?_|refine WS_true rfl ?_|(refine WL_r (by first|refine k_ix (sz:=11) rfl rfl hSf rfl (by decide) (Ty.sle rfl) (by omega)|refine k_loadC (j:=0) (cs:=frC 1 1 y u z) rfl hSf rfl rfl (Ty.shp rfl)|refine Run_pev rfl) rfl ?_))
 clear hSf
 refine WL_s (H_alloc hH (Ty.zer rfl) rfl ?_)
 try clear hH
 intro _ b9 hH
 replace hH:=nn7 hH
 skip
 refine WL_s (H_storeA 6 (vs:=(frC 1 1 y u z).toArray) (s:=11) hH rfl rfl rfl (by rfl) (by rfl) (by simp [Value.oneCell']) (Ty.shp rfl) ?_)
 try clear hH
 intro _ hH
 replace hH:=nn7 hH
 have hB9:=hH.b 6 rfl
 repeat (first|refine WS_seq ?_|refine WS_region ?_|refine WL_nil ?_|(refine WL_r (by refine k_loadA rfl hB9 rfl (Ty.shp rfl)) rfl ?_))
 clear hB9
 refine WL_s (S_call (fcheck_spec) rfl rfl ?_)
 rintro _ _ ⟨rfl,hE0⟩
 replace hH:=hH.ext0 hE0
 clear hE0
 replace hH:=nn7 hH
 have hB9:=hH.b 6 rfl
 have hB2:=hH.b 4 rfl
 repeat (first|refine WS_region ?_|refine WL_nil ?_|refine WS_inBlock ?_|refine WS_skip ?_|refine WS_false rfl ?_|refine WL_gyes rfl rfl rfl ?_|(refine WL_r (by first|refine k_fa rfl (Ty.fld rfl rfl)|refine k_loadb (v:=.int .i64 1) rfl hB9 rfl (Ty.shp rfl)|refine k_loadb (v:=.int .i64 1) rfl hB2 rfl (Ty.shp rfl)|refine Run_pev rfl|refine k_add64 rfl rfl (by omega)) rfl ?_))
 refine WS_inLoop ?_
 repeat (first|refine WS_seq ?_|refine WS_region ?_|refine WL_nil ?_|refine WS_exit rfl ?_|refine WS_false rfl ?_|refine lp rfl rfl ?_)
 clear hB9 hB2
 replace hH:=hH.del 6
 replace hH:=nn6 hH
 refine WS_w fun w9 hw9=>?_
 rw [← hw9] at hH
 have hB2:=hH.b 4 rfl
 refine WS_drawE Ty.mixed 14 rfl (fun w1 hx1=>?_)
 refine wt 0 hx1 rfl rfl rfl (fun w' hw'=>by refine k_loadA rfl (hB2.ext0 hw') rfl (Ty.shp rfl)) ?_
 refine wt 2 hx1 rfl rfl rfl (fun w' hw'=>by refine k_fa rfl (Ty.fld rfl rfl)) ?_
 refine wt 3 hx1 rfl rfl rfl (fun w' hw'=>by refine k_fa rfl (Ty.fld rfl rfl)) ?_
 refine wt 4 hx1 rfl rfl rfl (fun w' hw'=>by refine k_loadb (v:=.int .i64 1) rfl (hB2.ext0 hw') rfl (Ty.shp rfl)) ?_
 refine wt 5 hx1 rfl rfl rfl (fun w' hw'=>by refine k_fa rfl (Ty.fld rfl rfl)) ?_
 refine wt 6 hx1 rfl rfl rfl (fun w' hw'=>by refine k_fa rfl (Ty.fld rfl rfl)) ?_
 refine wt 7 hx1 rfl rfl rfl (fun w' hw'=>by refine k_loadb (v:=.int .i64 1) rfl (hB2.ext0 hw') rfl (Ty.shp rfl)) ?_
 refine wt 9 hx1 rfl rfl rfl (fun w' hw'=>by refine k_fa rfl (Ty.fld rfl rfl)) ?_
 refine wt 10 hx1 rfl rfl rfl (fun w' hw'=>by refine k_loadb (v:=.int .i64 1) rfl (hB2.ext0 hw') rfl (Ty.shp rfl)) ?_
 refine WA_one 1 (by kernel_rfl) rfl rfl (S_call pnew_spec rfl rfl ?_)
 rintro _ w2 ⟨k,hk,rfl,hN⟩
 have hx2:=hx1.then0 hN.ext
 refine ⟨hx2,?_⟩
 replace hH:=(hH.ext0 hx1).nu hN
 refine WA_one 8 (by kernel_rfl) rfl rfl (S_call (newframe_spec (c:=1) (r:=1) (x:=128) (by decide) (by decide)) rfl rfl ?_)
 rintro _ w3 ⟨y2,u2,z2,rfl,hQ⟩
 have hx3:=hx2.then0 hQ.ext
 refine ⟨hx3,?_⟩
 replace hH:=(((hH.calls 0 hQ).del 2).del 1).del 0
 replace hH:=nn7 hH
 refine wt 11 hx3 rfl rfl rfl (fun w' hw'=>by refine k_buildS (cs:=eC k.bc y2 u2 z2 (.pointer none)) (Ty.zer rfl) (Ty.plc rfl) (by kernel_rfl)) ?_
 refine WA_one 12 (by kernel_rfl) rfl rfl (S_box (cs:=(eC k.bc y2 u2 z2 (.pointer none)).toArray) rfl rfl rfl ?_)
 intro w4 bx hbx hE4 hB4 _
 have hx4:=hx3.then0 hE4
 refine ⟨hx4,?_⟩
 replace hH:=hH.nu (r:=Rb bx 113 (eC k.bc y2 u2 z2 (.pointer none)).toArray) ⟨hE4,hB4,fun x hx=>by simp [Rb] at hx;omega⟩
 replace hH:=nn8 hH
 refine wp 13 hx4 rfl rfl rfl rfl ?_
 refine WA_done (by kernel_rfl) ?_
 clear hx1 hx2 hx3 hx4 hE4 hB4 hbx hN hQ hB2 hw9
 have hS2:SlA _ (some ⟨b2,0,none⟩) cf1:=(hH.b 4 rfl).sl0
 repeat (first|refine WS_seq ?_|refine WS_region ?_|(refine WL_r (by first|refine k_fa rfl (Ty.fld rfl rfl)|refine k_loadC (j:=0+0) (cs:=SH.one.cells) rfl hS2 cf1_head rfl (Ty.shp rfl)|refine k_buildS (cs:=ST.cells ⟨SH.one,none,0,[]⟩) (Ty.zer rfl) (Ty.plc rfl) (fillH SH.one_ok)) rfl ?_))
 clear hS2
 refine WL_s (H_alloc (zs:=sz) hH (Ty.zer rfl) rfl ?_)
 try clear hH
 intro _ b11 hH
 replace hH:=nn9 hH
 skip
 refine WL_s (H_storeA 8 (vs:=(ST.cells ⟨SH.one,none,0,[]⟩).toArray) (s:=132) hH rfl rfl rfl rfl rfl (st_one _) (Ty.shp rfl) ?_)
 clear hH
 intro _ hH
 replace hH:=nn9 hH
 repeat (first|refine WS_seq ?_|refine WS_region ?_|refine WL_nil ?_|refine WS_block ?_|(refine WL_r (by first|refine Run_pev rfl|refine k_len rfl (Ty.isl rfl)) rfl ?_))
 refine WS_loop0 ?_
 have hSf:=hH.s 0 rfl
 repeat (first|refine WS_seq ?_|refine WS_region ?_|refine WL_nil ?_|refine WS_block ?_|refine WS_skip ?_|refine WS_true rfl ?_|(refine WL_r (by first|refine k_ix (sz:=11) rfl rfl hSf rfl (by decide) (Ty.sle rfl) (by omega)|refine k_loadC (j:=0) (cs:=frC 1 1 y u z) rfl hSf rfl rfl (Ty.shp rfl)|refine Run_pev rfl) rfl ?_))
 clear hSf
 refine WL_s (H_alloc hH (Ty.zer rfl) rfl ?_)
 try clear hH
 intro _ b14 hH
 replace hH:=nn10 hH
 repeat (refine lp rfl rfl ?_)
 refine WL_s (H_storeA 9 (vs:=(frC 1 1 y u z).toArray) (s:=11) hH rfl rfl rfl (by rfl) (by rfl) (by simp [Value.oneCell']) (Ty.shp rfl) ?_)
 try clear hH
 intro _ hH
 replace hH:=nn10 hH
 replace hH:=hpf 7 (hpf 6 (hpf 3 (hpf 3 (hpf 3 hH rfl) rfl) rfl) rfl) rfl
 replace hH:=nn10 hH
 have hB14:=hH.b 9 rfl
 repeat (first|refine WS_seq ?_|refine WS_region ?_|refine WL_nil ?_|(refine WL_r (by first|refine k_loadA rfl hB14 rfl (Ty.shp rfl)|refine Run_pev rfl) rfl ?_))
 clear hB14
 refine WL_s (S_call ((picture29 hk (hH.sepN 5))) rfl rfl ?_)
 rintro _ _ ⟨a,c,y3,u3,z3,cs,rfl,hcl,hQ⟩
 replace hH:=hH.calls 5 hQ
 clear hQ
 replace hH:=nn6 hH
 repeat ((refine WL_r (by first|refine Run_pev rfl|refine k_extract rfl rfl) rfl ?_))
 refine WL_s (H_alloc hH (Ty.zer rfl) rfl ?_)
 try clear hH
 intro _ b15 hH
 replace hH:=nn7 hH
 skip
 refine WL_s (H_alloc hH (Ty.zer rfl) rfl ?_)
 try clear hH
 intro _ b16 hH
 replace hH:=nn8 hH
 skip
 refine WL_s (H_storeA 6 (vs:=(p1 a 1 c).toArray) (s:=5) hH rfl rfl rfl (by rfl) (by rfl) (by simp [Value.oneCell']) (Ty.shp rfl) ?_)
 try clear hH
 intro _ hH
 replace hH:=nn8 hH
 skip
 refine WL_s (H_storeA 7 (vs:=(frC 1 1 y3 u3 z3).toArray) (s:=11) hH rfl rfl rfl (by rfl) (by rfl) (by simp [Value.oneCell']) (Ty.shp rfl) ?_)
 try clear hH
 intro _ hH
 replace hH:=nn8 hH
 replace hH:=hH.nu (New.nilO (e:=72) (sz:=5))
 replace hH:=nn9 hH
 have hB11:=hH.b 4 rfl
 have hB15:=hH.b 6 rfl
 repeat (first|refine WS_seq ?_|refine WS_region ?_|refine WL_nil ?_|refine WS_skip ?_|refine WS_false rfl ?_|(refine WL_r (by first|refine k_fa rfl (Ty.fld rfl rfl)|refine k_loadb (v:=.slice none 0 0) rfl hB11 rfl (Ty.shp rfl)|refine k_loadA rfl hB15 rfl (Ty.shp rfl)|refine Run_pev rfl) rfl ?_))
 refine WL_s (H_lit (out:=[.int .i64 0,.bool false,.bool false,.int .i64 1,.slice a 1 c]) hH (Ty.sle rfl) (Ty.zer rfl) rfl rfl rfl (by decide) rfl ?_)
 try clear hH
 intro _ blit hH
 replace hH:=nn10 hH
 refine WL_s (H_append 8 hH rfl (Ty.sle rfl) (Ty.zer rfl) rfl (Ty.byt rfl) (by decide) rfl rfl ((hH.b 9 rfl).sl0) (by simp;try omega) (by simp) (by omega) (by simp only [maxLen];omega) rfl ?_)
 try clear hH
 intro _ a9 c9 hH
 replace hH:=nn10 hH
 replace hH:=hH.del 9
 replace hH:=nn9 hH
 repeat ((refine WL_r (by refine k_fa rfl (Ty.fld rfl rfl)) rfl ?_))
 clear hB11 hB15
 refine WL_s (H_storeL 4 (o:=0+131) (v:=.slice a9 (0+1) c9) hH rfl rfl rfl (by decide) rfl (Ty.shp rfl) ?_)
 clear hH
 intro _ hH
 replace hH:=hH.as (r':=Rb b11 37 (SH.one.cells++[Value.slice a9 1 c9]).toArray) 4 rfl (fun _ h=>h) (fun h=>h)
 replace hH:=hH.nu (New.nilO (e:=66) (sz:=11))
 replace hH:=nn10 hH
 have hB16:=hH.b 7 rfl
 repeat (first|refine WS_seq ?_|refine WS_region ?_|refine WL_nil ?_|(refine WL_r (by first|refine k_loadA rfl hB16 rfl (Ty.shp rfl)|refine Run_pev rfl) rfl ?_))
 refine WL_s (H_lit (out:=frC 1 1 y3 u3 z3) hH (Ty.sle rfl) (Ty.zer rfl) rfl rfl rfl (by decide) rfl ?_)
 clear hH hB16
 intro _ b19 hH
 replace hH:=nn11 hH
 refine WL_s (H_append 9 hH rfl (Ty.sle rfl) (Ty.zer rfl) rfl (Ty.byt rfl) (by decide) rfl rfl (hH.b 10 rfl).sl0 rfl (by simp [Value.oneCell']) (by omega) (by simp only [maxLen];omega) rfl ?_)
 clear hH
 intro _ a8 c8 hH
 replace hH:=hH.del 10
 replace hH:=nn10 hH
 have hB16:=hH.b 7 rfl
 repeat (first|refine WS_region ?_|refine WL_nil ?_|(refine WL_r (by first|refine k_nilCheck rfl|refine k_fa rfl (Ty.fld rfl rfl)|refine k_loadA rfl hB16 rfl (Ty.shp rfl)|refine Run_pev rfl) rfl ?_))
 clear hB16
 refine WL_s (H_storeN 0 (o:=0+140) (vs:=frC 1 1 y3 u3 z3) (s:=11) hH rfl rfl rfl (by rw [hcl];exact (by decide:0+140+11≤156)) (by simp [Value.oneCell']) (Ty.shp rfl) rfl ?_)
 clear hH
 intro _ hH
 replace hH:=nn10 hH
 repeat (first|refine WS_region ?_|refine WL_nil ?_|refine WS_inBlock ?_|(refine WL_r (by first|refine Run_pev rfl|refine k_add64 rfl rfl (by omega)) rfl ?_))
 refine WS_inLoop ?_
 have hB11:=hH.b 4 rfl
 repeat (first|refine WS_seq ?_|refine WS_region ?_|refine WL_nil ?_|refine WS_exit rfl ?_|refine WS_false rfl ?_|(refine WL_r (by first|refine k_loadA rfl hB11 rfl (Ty.shp rfl)|refine Run_pev rfl) rfl ?_))
 clear hB11
 refine WL_s (H_storeA 3 (vs:=(SH.one.cells++[Value.slice a9 1 c9]).toArray) (s:=132) hH rfl rfl rfl rfl rfl (st_one ⟨SH.one,a9,c9,[⟨⟨0,false,false,1⟩,a,c,[]⟩]⟩) (Ty.shp rfl) ?_)
 clear hH
 intro _ hH
 replace hH:=nn10 hH
 repeat (first|refine WL_nil ?_|refine lp rfl rfl ?_)
 exact WS_retc3 Tryz.func11 rfl rfl (hH.b 3 rfl) rfl (Ty.shp rfl) ⟨a9,c9,a8,c8,a,c,rfl,(hpf 8 hH rfl).take 1⟩
set_option maxRecDepth 20000 in
set_option maxHeartbeats 8000000 in
theorem awake29 (w:World):Does Tryz.prog 4 #[] w fun v w'=>v=.bool true∧Ext [] w w':=by
 refine Does_of (args:=[]) Tryz.func4 rfl rfl Tryz.ntmps4 rfl ?_
 have hH:=Hp.start w
 repeat (first|refine WS_seq ?_|refine WS_region ?_|refine WL_nil ?_|(refine WL_r (by first|refine k_buildS (cs:=cfz) (Ty.zer rfl) (Ty.plc rfl) (by kernel_rfl)|refine Run_pev rfl) rfl ?_))
 refine WL_s (S_call (config_spec) rfl rfl ?_)
 rintro _ _ ⟨rfl,hE0⟩
 replace hH:=hH.ext0 hE0
 clear hE0
 replace hH:=nn0 hH
 skip
 refine WL_s (S_call ((newframe_spec (c:=1) (r:=1) (x:=50) (by decide) (by decide))) rfl rfl ?_)
 rintro _ _ ⟨y,u,z,rfl,hQ⟩
 replace hH:=hH.calls 0 hQ
 clear hQ
 replace hH:=nn3 hH
 skip
 refine WL_s (H_lit (out:=frC 1 1 y u z) hH (Ty.sle rfl) (Ty.zer rfl) rfl rfl rfl (by decide) rfl ?_)
 clear hH
 intro _ b8 hH
 replace hH:=hH.as (r':=Rs (some ⟨b8,0,none⟩) (frC 1 1 y u z)) 3 rfl (fun _ h=>h) (fun h=>h.sl0)
 replace hH:=hpf 3 hH rfl
 replace hH:=nn4 hH
 skip
 refine WL_s (S_call ((encode_spec (hH.sepN 4))) rfl rfl ?_)
 rintro _ _ ⟨a1,c1,a2,c2,a,c,rfl,hQ⟩
 replace hH:=hH.calls 4 hQ
 clear hQ
 replace hH:=nn1 hH
 repeat ((refine WL_r (by first|refine Run_pev rfl|refine k_extract rfl rfl) rfl ?_))
 refine WL_s (H_alloc (zs:=sz) hH (Ty.zer rfl) rfl ?_)
 clear hH
 intro _ b1 hH
 replace hH:=nn2 hH
 skip
 refine WL_s (H_storeA 1 (vs:=(SH.one.cells++[Value.slice a1 1 c1]).toArray) (s:=132) hH rfl rfl rfl rfl rfl (st_one ⟨SH.one,a1,c1,[⟨⟨0,false,false,1⟩,a,c,[]⟩]⟩) (Ty.shp rfl) ?_)
 clear hH
 intro _ hH
 replace hH:=nn2 hH
 have hB1:=hH.b 1 rfl
 have hSp:=(hH.o 0 rfl).sl
 repeat (first|refine WS_seq ?_|refine WS_region ?_|refine WL_nil ?_|refine WL_gyes rfl rfl rfl ?_|(refine WL_r (by first|refine k_faA (a:=a1) rfl (Ty.fld rfl rfl)|refine k_fa rfl (Ty.fld rfl rfl)|refine k_loadb (v:=.slice a1 1 c1) rfl hB1 rfl (Ty.shp rfl)|refine k_ix (sz:=5) rfl rfl hSp rfl (by decide) (Ty.sle rfl) (by omega)|refine k_loads (v:=.slice a 1 c) rfl hSp rfl (Ty.shp rfl)|refine Run_pev rfl|refine k_len rfl (Ty.isl rfl)) rfl ?_))
 refine WL_s (S_call ((column_spec (p:=5) (c:=3) (by decide) (by decide))) rfl rfl ?_)
 rintro _ _ ⟨rfl,rfl⟩
 repeat (first|refine WL_nil ?_|refine WL_gyes rfl rfl rfl ?_|refine lp rfl rfl ?_)
 exact WS_ret1 Tryz.func4 rfl ⟨rfl,hH.ext⟩
end Go.Proofs.YtpbiicegmcpkpaaGreat
namespace Go.Proofs.YtpbiicegmcpkpaaGreat
open Go Go.K Go.P
def le (m m':List Bool):Prop:=∀ i,m.getD i false=true→m'.getD i false=true
theorem getD_set {m:List Bool} {n i:Nat} {v:Bool}:(m.set n v).getD i false=if n=i∧n<m.length then v else m.getD i false:=by
 rw [List.getD_eq_getElem?_getD,List.getD_eq_getElem?_getD,List.getElem?_set]
 by_cases h:n=i
 ·subst h
  by_cases h2:n<m.length
  ·simp [h2]
  ·simp [h2]
 ·simp [h]
theorem hasB_mono {m m':List Bool} (h:le m m') {n:Int} (hn:hasB m n=true):hasB m' n=true:=by
 unfold hasB at hn ⊢
 rw [Bool.and_eq_true] at hn ⊢
 exact ⟨hn.1,h _ hn.2⟩
theorem dFr_mono {C R n:Nat} {old old':List Bool} {x:MB} (h:le old old') (hd:dFr C R old n x=true):dFr C R old' n x=true:=by
 by_cases hc:¬ (x.k=3∨x.k=4)∧∃ k:Int,Tch C R n x.v4 k∧hasB old k=true
 ·obtain ⟨h1,k,h2,h3⟩:=hc
  exact dFr_t ⟨h1,k,h2,hasB_mono h h3⟩
 ·rw [dFr_f hc] at hd;cases hd
theorem setG_keep {C R:Nat} {old:List Bool} {l:List MB}:∀ {n i:Nat} {m:List Bool},n+l.length≤i→(setG C R old n l m).getD i false=m.getD i false:=by
 induction l with
 | nil=>intro n i m _;rfl
 | cons x l ih =>
  intro n i m h
  rw [List.length_cons] at h
  refine (ih (by omega)).trans ?_
  rw [getD_set,if_neg (by omega)]
theorem setG_le {C R:Nat} {old old':List Bool} (ho:le old old') {l:List MB}:∀ {n:Nat} {m m':List Bool},m.length=m'.length→le m m'→le (setG C R old n l m) (setG C R old' n l m'):=by
 induction l with
 | nil=>intro n m m' _ h;exact h
 | cons x l ih =>
  intro n m m' hl h
  refine ih (by simp [hl]) (fun i hi=>?_)
  rw [getD_set] at hi ⊢
  split at hi
  ·rename_i hc
   rw [if_pos (by omega)]
   rw [hc.1] at hi ⊢
   exact dFr_mono ho hi
  ·rename_i hc
   rw [if_neg (by omega)]
   exact h i hi
theorem setG_tr {C R:Nat} {old:List Bool} {l:List MB}:∀ {n:Nat} {m m':List Bool},(∀ i,n≤i→i<n+l.length→m'.getD i false=true)→le m m'→le (setG C R old n l m) m':=by
 induction l with
 | nil=>intro n m m' _ h;exact h
 | cons x l ih =>
  intro n m m' ht h
  rw [List.length_cons] at ht
  refine ih (fun i h1 h2=>ht i (by omega) (by omega)) (fun i hi=>?_)
  rw [getD_set] at hi
  split at hi
  ·rename_i hc
   exact ht i (by omega) (by omega)
  ·exact h i hi
theorem runG_le {C R K:Nat} {T T':Nat→Bool} (hT:∀ t,T t=true→T' t=true) {old old':List Bool} (ho:le old old') {inter:Bool} {hq:Int} {l:List GR}:∀ {t nx:Nat} {m m':List Bool},gok inter hq nx l K→m.length=m'.length→(∀ i,nx≤i→i<K→m'.getD i false=true)→le m m'→le (runG C R T old t l m) (runG C R T' old' t l m'):=by
 induction l with
 | nil=>intro t nx m m' _ _ _ h;exact h
 | cons g l ih =>
  intro t nx m m' hg hl ht h
  have hgl:=gok_le hg.2.2.2
  obtain ⟨hgf,hgn,_,hgt⟩:=hg
  show le (runG C R T old (t+1) l (if T t then m else setG C R old g.f g.ms m)) (runG C R T' old' (t+1) l (if T' t then m' else setG C R old' g.f g.ms m'))
  cases h1:T t with
  | true =>
   rw [hT t h1]
   exact ih hgt hl (fun i hi hk=>ht i (by omega) hk) h
  | false =>
   cases h2:T' t with
   | true=>exact ih hgt (setG_len.trans hl) (fun i hi hk=>ht i (by omega) hk) (setG_tr (fun i h1 h2=>ht i (by omega) (by omega)) h)
   | false =>
    refine ih hgt (setG_len.trans (hl.trans setG_len.symm)) (fun i hi hk=>?_) (setG_le ho hl h)
    exact (setG_keep (by omega)).trans (ht i (by omega) hk)
theorem runP_le {C R:Nat} {T T':Nat→Bool} (hT:∀ t,T t=true→T' t=true) {l:List PR}:∀ {i t:Nat} {old old':List Bool},(∀ (j:Nat) (p:PR),l[j]?=some p→p.ok C R (i+j))→le old old' →
  ∀ {k:Nat} {m m':List Bool},(runP C R T t old l)[k]?=some m→(runP C R T' t old' l)[k]?=some m'→le m m':=by
 induction l with
 | nil=>intro i t old old' _ _ k m m' h;simp [runP] at h
 | cons p l ih =>
  intro i t old old' hp ho k m m' h h'
  have hg:=(hp 0 p rfl).gs
  have hm:le (runG C R T old t p.gs (List.replicate (C*R) true)) (runG C R T' old' t p.gs (List.replicate (C*R) true)) :=
   runG_le hT ho hg rfl (fun i _ hi=>by rw [List.getD_eq_getElem?_getD,List.getElem?_replicate,if_pos hi];rfl) (fun _ h=>h)
  cases k with
  | zero =>
   obtain rfl:=Option.some.inj h
   obtain rfl:=Option.some.inj h'
   exact hm
  | succ k=>exact ih (i:=i+1) (fun j q hq=>by have:=hp (j+1) q hq;rwa [show i+(j+1)=i+1+j by omega] at this) hm h h'
theorem lastG_mono {L L':Nat→Bool} (hL:∀ t,L t=true→L' t=true) {k:Int} {n:Nat}:∀ {t:Nat} {r r':Int},r'≤r→r≤k→lastG L' k t n r'≤lastG L k t n r:=by
 induction n with
 | zero=>intro t r r' h _;exact h
 | succ n ih =>
  intro t r r' h hk
  show lastG L' k (t+1) n (if L' t then r' else k)≤lastG L k (t+1) n (if L t then r else k)
  cases h1:L t with
  | true=>rw [hL t h1];exact ih h hk
  | false =>
   cases h2:L' t with
   | true=>exact ih (by simp only [if_true,Bool.false_eq_true,if_false];omega) (Int.le_refl _)
   | false=>exact ih (Int.le_refl _) (Int.le_refl _)
theorem lastP_mono {L L':Nat→Bool} (hL:∀ t,L t=true→L' t=true) {l:List PR}:∀ {k t:Nat} {r r':Int},-1≤r→r'≤r→r≤k→lastP L' k t l r'≤lastP L k t l r:=by
 induction l with
 | nil=>intro k t r r' _ h _;exact h
 | cons p l ih =>
  intro k t r r' h0 h hk
  have hb:=lastG_le (L:=L) (k:=k) (t:=t) (n:=p.gs.length) ⟨h0,hk⟩
  exact ih hb.1 (lastG_mono hL h hk) (by omega)
theorem clo_len {C R:Nat} {ps:List PR} {F:List FA} {Z:List Int}:(clo C R ps F Z).length=min (lastP (loA F) 0 0 ps (-1)+1).toNat ps.length:=by
 unfold clo
 rw [List.length_take,runP_len]
theorem clo_mono {C R:Nat} {s:ST} (hs:s.ok C R) {F F':List FA} {Z:List Int} (hL:∀ t,loA F t=true→loA F' t=true) (hT:∀ t,toA F Z t=true→toA F' Z t=true) :
  (clo C R s.ps F' Z).length≤(clo C R s.ps F Z).length∧∀ {k:Nat} {m m':List Bool},(clo C R s.ps F Z)[k]?=some m→(clo C R s.ps F' Z)[k]?=some m'→le m m':=by
 refine ⟨?_,fun {k m m'} h h'=>?_⟩
 ·rw [clo_len,clo_len]
  have:=lastP_mono hL (l:=s.ps) (k:=0) (t:=0) (r:=-1) (r':=-1) (by decide) (by decide) (by decide)
  omega
 ·unfold clo at h h'
  rw [List.getElem?_take] at h h'
  split at h
  ·split at h'
   ·exact runP_le hT (i:=0) (fun j p hp=>by rw [Nat.zero_add];exact hs.ps j p hp) (fun _ h=>h) h h'
   ·cases h'
  ·cases h
theorem more_lo {F F':List FA} (hl:F.length≤F'.length) (h:∀ (t:Nat) (e:FA),F[t]?=some e→∃ e',F'[t]?=some e'∧(e.1=true→e'.1=true)∧e'.2.2.2=e.2.2.2) {t:Nat}:loA F t=true→loA F' t=true:=by
 unfold loA
 intro h1
 rw [List.getD_eq_getElem?_getD] at h1 ⊢
 cases he:F[t]? with
 | none=>rw [he] at h1;cases h1
 | some e =>
  obtain ⟨e',he',h2,_⟩:=h t e he
  rw [he] at h1
  rw [he']
  exact h2 h1
theorem ftT_mono {a a':Bool} {m m':List Nat} {z:Int} (ha:a=true→a'=true) (hm:m'=m) (h:ftT a m z=true):ftT a' m' z=true:=by
 subst hm
 unfold ftT at h ⊢
 rw [Bool.or_eq_true] at h ⊢
 exact h.imp_left ha
theorem more_to {F F':List FA} {Z:List Int} (h:∀ (t:Nat) (e:FA),F[t]?=some e→∃ e',F'[t]?=some e'∧(e.1=true→e'.1=true)∧e'.2.2.2=e.2.2.2) {t:Nat}:toA F Z t=true→toA F' Z t=true:=by
 unfold toA
 intro h1
 rw [List.getD_eq_getElem?_getD] at h1 ⊢
 cases he:F[t]? with
 | none=>rw [he] at h1;simp [fnil,ftT] at h1
 | some e =>
  obtain ⟨e',he',h2,h3⟩:=h t e he
  rw [he] at h1
  rw [he']
  exact ftT_mono h2 h3 h1
end Go.Proofs.YtpbiicegmcpkpaaGreat
