/- A part of the proof that TopWorse is true at every input; no condition. -/
import Derived.Test.YtpbiicegmcpkpaaGreatT14
import Derived.Test.YtpbiicegmcpkpaaGreatT32
namespace Go.Proofs.YtpbiicegmcpkpaaGreat
open Go Go.K Go.P Go.RowKit Go.Proofs
abbrev Rms (b:Nat) (l:List Nat):Res:=Rb b 5 (l.map B).toArray
theorem xor_lt {a b:Nat} (ha:a<256) (hb:b<256):a ^^^ b<256:=Nat.xor_lt_two_pow (n:=8) ha hb
set_option maxHeartbeats 4000000 in
theorem fflip_spec {i at' n b7 b9 bm:Nat} {lost:Bool} {ms:List Nat} {w:World} (hB7:Blk w b7 48 #[.bool lost,.slice (some ⟨bm,0,none⟩) n n]) (hB9:Blk w b9 3 #[.int .i64 at']) (hM:(Rms bm ms).holds w) (hl:ms.length=n) (hb:Byt ms) (hi:at'+i / 8<n) (hi2:i≤1000000) (hn:n≤1000000) :
  Does Tryz.prog 73 #[.int .i64 i,pt b7,pt b9] w fun v w'=>v=.tuple #[]∧∃ ms',ms'.length=n∧Byt ms'∧Upd (Rms bm ms) (Rms bm ms') w w':=by
 refine Does_of (args:=[_,_,_]) Tryz.func73 rfl rfl Tryz.ntmps73 rfl ?_
 have hH:=Hp.start1 (r:=Rms bm ms) hM
 have hS:SlA _ (some ⟨bm,0,none⟩) (ms.map B):=(hH.b 0 rfl).sl0
 obtain ⟨x,hx⟩:∃ x,ms[at'+i / 8]?=some x:=⟨_,List.getElem?_eq_getElem (by omega)⟩
 have hxv:(ms.map B)[at'+i / 8]?=some (B x):=by rw [List.getElem?_map,hx];rfl
 have hxb:=hb x (List.mem_of_getElem? hx)
 have hd8:128 / 2 ^ (i % 8)<256:=Nat.lt_of_le_of_lt (Nat.div_le_self _ _) (by decide)
 have hk:((at':Int)+(i / 8:Nat))=((at'+i / 8:Nat):Int):=by simp
 skip
 refine WS_tail Ty.mixed 13 rfl (by kernel_rfl) rfl (fun w1 hx1=>?_)
 refine wt 0 hx1 rfl rfl rfl (fun w' hw'=>by refine k_fa rfl (Ty.fld rfl rfl)) ?_
 refine wt 1 hx1 rfl rfl rfl (fun w' hw'=>by refine k_loadb rfl (hB7.ext0 hw') rfl (Ty.shp rfl)) ?_
 refine wt 2 hx1 rfl rfl rfl (fun w' hw'=>by refine k_loadb rfl (hB9.ext0 hw') rfl (Ty.shp rfl)) ?_
 refine wp 3 hx1 rfl rfl rfl rfl ?_
 refine wt 4 hx1 rfl rfl rfl (fun w' hw'=>by refine k_quou (m:=i) (n:=8) rfl rfl (by decide) (fiti (by omega))) ?_
 refine wt 5 hx1 rfl rfl rfl (fun w' hw'=>by refine (k_add64 rfl rfl (by omega)).is (congrArg (Value.int .i64) hk)) ?_
 refine wt 6 hx1 rfl rfl rfl (fun w' hw'=>by refine k_ix1 rfl rfl (hS.ext0 hw') (by simp [hl]) (Ty.sle rfl) (by omega)) ?_
 refine wt 7 hx1 rfl rfl rfl (fun w' hw'=>by refine k_loads rfl (hS.ext0 hw') hxv (Ty.shp rfl)) ?_
 refine wp 8 hx1 rfl rfl rfl rfl ?_
 refine wt 9 hx1 rfl rfl rfl (fun w' hw'=>by refine k_remu (m:=i) (n:=8) rfl rfl (by decide)) ?_
 refine wt 10 hx1 rfl rfl rfl (fun w' hw'=>by refine k_shr (m:=128) (n:=i % 8) rfl rfl (by decide)) ?_
 refine wt 11 hx1 rfl rfl rfl (fun w' hw'=>by refine k_xor rfl rfl (fit8 hxb) (fit8 hd8)) ?_
 refine wt 12 hx1 rfl rfl rfl (fun w' hw'=>by refine k_ix1 rfl rfl (hS.ext0 hw') (by simp [hl]) (Ty.sle rfl) (by omega)) ?_
 refine WA_done (by kernel_rfl) ?_
 replace hH:=hH.ext0 hx1
 refine WL_s (H_storeB 0 (v:=B (x ^^^ 128 / 2 ^ (i % 8))) hH rfl rfl rfl (by simp [hl];omega) rfl (Ty.shp rfl) ?_)
 try clear hH
 intro _ hH
 replace hH:=nn1 hH
 rw [← List.map_set,Int.toNat_natCast] at hH
 repeat (refine WL_nil ?_)
 exact WS_end0 Tryz.func73 rfl ⟨rfl,ms.set (at'+i / 8) (x ^^^ 128 / 2 ^ (i % 8)),by simp [hl],fun y hy=>by
  rcases List.mem_or_eq_of_mem_set hy with h|h
  ·exact hb y h
  ·rw [h];exact xor_lt hxb hd8,hH.upd 0 rfl⟩
theorem k_makeFunc2 {P:Program} {ρ:Fr} {w:World} {dst:Option Nat} {ty:TypeId} {pos:String} {af:Array Edge} {gd:Option (Nat × Bool)} {x y:Operand} {v u:Value} {fn:Fn} (hx:ev ρ x=v) (hy:ev ρ y=u):Run P ρ ⟨dst,.makeFunc fn #[] #[x,y],ty,pos,af,gd⟩ w (.func fn #[] #[v,u]) w:=by
 constructor;unfold execOp;simp [Instr.makeFunc,hx,hy]
theorem joinN {A:Prop} {Y:Fr→Nat→Nat→World→Prop} (Z:Nat→Nat→World→Prop) (h1:(∀ σ a b u,Z a b u→Y σ a b u)→A) (h2:∀ σ a b u,Z a b u→Y σ a b u):A:=h1 h2
def isB (v:Value):Prop:=∃ o,v=.bool o
def FN' (b:BT) (e:FA) (ow:List BT):Prop:=(e.2∈ow∨e.2=b∨e.2.2.2=[])∧Byt e.2.2.2∧e.2.2.2.length≤e.2.2.1∧e.2.2.2.length≤100000
theorem RL.none {w w':World} (h:Ext [] w w'):New (RL []) w w':=⟨h,fun _ he=>by simp at he,fun _ hx=>by simp [RL] at hx⟩
theorem fn_new {b:BT} {w w':World} {H:List Res} {lost:Bool} {bm n i:Nat} {ms:List Nat} (hH:Hp [] w w' H) (hi:H[i]?=some (Rms bm ms)) (hl:ms.length=n) (hb:Byt ms) (hn:n≤100000) :
  ∃ (e:FA) (ow:List BT),(.agg #[.bool lost,.slice (some ⟨bm,0,none⟩) n n]:Value)=.agg (fac e).toArray∧FN' b e ow∧New (RL ow) w w':=by
 subst hl
 have h:=hH.new1 i hi
 refine ⟨(lost,some ⟨bm,0,none⟩,ms.length,ms),[(some ⟨bm,0,none⟩,ms.length,ms)],rfl,⟨.inl (by simp),hb,Nat.le_refl _,hn⟩,h.ext,fun e he=>?_,fun x hx=>?_⟩
 ·simp at he;subst he
  exact (h.holds:Blk _ _ _ _).sl0
 ·have hx2:x∈(Rs (some ⟨bm,0,none⟩) (ms.map B)).fp:=by simpa [RL] using hx
  refine h.3 x ?_
  unfold Rs at hx2
  simp only at hx2
  split at hx2
  ·cases hx2
  ·simpa [blk,Rb] using hx2
set_option maxRecDepth 20000 in
set_option maxHeartbeats 16000000 in
theorem ffate_spec {f:FS} {la lb:Nat} {w:World} (hf:f.rd w) (h30:f.us.length≤30) (h500:f.b.2.2.length≤500) (ha:1≤la∧la≤30000) (hb:1≤lb∧lb≤30000) :
  Does Tryz.prog 41 #[.agg f.cells.toArray,.int .i64 la,.int .i64 lb] w fun v w'=>∃ (e:FA) (ow:List BT),v=.agg (fac e).toArray∧FN' f.b e ow∧New (RL ow) w w':=by
 refine Does_of (args:=[_,_,_]) Tryz.func41 rfl rfl Tryz.ntmps41 rfl ?_
 have hH:=Hp.start w
 obtain ⟨lost,hlost⟩:∃ lost,decide (((f.k % 8:Nat):Int)=((4:Nat):Int))=lost:=⟨_,rfl⟩
 repeat (first|refine WS_seq ?_|refine WS_region ?_)
 refine WL_s (H_box (cs:=f.cells.toArray) hH rfl rfl rfl ?_)
 try clear hH
 intro _ b3 hH
 replace hH:=nn1 hH
 refine WL_s (H_alloc hH (Ty.zer rfl) rfl ?_)
 try clear hH
 intro _ b6 hH
 replace hH:=nn2 hH
 have hB3:=hH.b 0 rfl
 repeat (first|refine WS_seq ?_|refine WS_region ?_|refine WL_nil ?_|(refine WL_r (by first|refine k_fa rfl (Ty.fld rfl rfl)|refine k_loadb rfl hB3 rfl (Ty.shp rfl)|refine k_remu (m:=f.k) (n:=8) rfl rfl (by decide)|refine (k_eql (q:=.u8) rfl rfl).is (congrArg Value.bool hlost)|refine k_buildS (cs:=[.bool lost,.slice none 0 0]) (Ty.zer rfl) (Ty.plc rfl) rfl) rfl ?_))
 clear hB3
 refine WL_s (H_alloc hH (Ty.zer rfl) rfl ?_)
 try clear hH
 intro _ b7 hH
 replace hH:=nn3 hH
 refine WL_s (H_storeA 2 (vs:=#[.bool lost,.slice none 0 0]) (s:=2) hH rfl rfl rfl (by rfl) (by rfl) (by simp [Value.oneCell']) (Ty.shp rfl) ?_)
 try clear hH
 intro _ hH
 replace hH:=nn3 hH
 have hB3:=hH.b 0 rfl
 have hB7:=hH.b 2 rfl
 by_cases h5:f.k % 8<5
 ·repeat (first|refine WS_seq ?_|refine WS_region ?_|refine WL_nil ?_|refine WS_true rfl ?_|refine WL_gno rfl rfl rfl rfl rfl ?_|(refine WL_r (by first|refine k_fa rfl (Ty.fld rfl rfl)|refine k_loadb rfl hB3 rfl (Ty.shp rfl)|refine k_remu (m:=f.k) (n:=8) rfl rfl (by decide)|refine (k_lss (q:=.u8) rfl rfl).is (bT (by omega))|refine k_loadA rfl hB7 rfl (Ty.shp rfl)|refine Run_pev rfl|refine k_add64 rfl rfl (by omega)) rfl ?_))
  refine WL_s (H_storeA 1 (vs:=#[.bool lost,.slice none 0 0]) (s:=2) hH rfl rfl rfl (by rfl) (by rfl) (by simp [Value.oneCell']) (Ty.shp rfl) ?_)
  try clear hH
  intro _ hH
  replace hH:=nn3 hH
  repeat (refine WL_nil ?_)
  exact WS_retc1 Tryz.func41 rfl rfl (hH.b 1 rfl) rfl (Ty.shp rfl) ⟨(lost,none,0,[]),[],rfl,⟨.inr (.inr rfl),by simp [Byt],by simp,by simp⟩,RL.none hH.ext⟩
 by_cases h7:f.k % 8=7
 ·repeat (first|refine WS_seq ?_|refine WS_region ?_|refine WL_nil ?_|refine WS_skip ?_|refine WS_true rfl ?_|refine WS_no rfl (by omega) ?_|refine WL_gyes rfl rfl rfl ?_|(refine WL_r (by first|refine k_fa rfl (Ty.fld rfl rfl)|refine k_loadb rfl hB3 rfl (Ty.shp rfl)|refine k_remu (m:=f.k) (n:=8) rfl rfl (by decide)|refine (k_lss (q:=.u8) rfl rfl).is (bF (by omega))|refine (k_eql (q:=.u8) rfl rfl).is (bT (by omega))|refine Run_pev rfl|refine k_add64 rfl rfl (by omega)) rfl ?_))
  refine WL_s (H_storeB 2 (v:=bsl f.b) hH rfl rfl rfl (by simp) rfl (Ty.shp rfl) ?_)
  try clear hH
  intro _ hH
  replace hH:=nn3 hH
  have hB7:=hH.b 2 rfl
  repeat (first|refine WS_seq ?_|refine WS_region ?_|refine WL_nil ?_|(refine WL_r (by refine k_loadA rfl hB7 rfl (Ty.shp rfl)) rfl ?_))
  refine WL_s (H_storeA 1 (vs:=#[.bool lost,bsl f.b]) (s:=2) hH rfl rfl rfl (by rfl) (by rfl) (by simp [Value.oneCell']) (Ty.shp rfl) ?_)
  try clear hH
  intro _ hH
  replace hH:=nn3 hH
  repeat (refine WL_nil ?_)
  exact WS_retc1 Tryz.func41 rfl rfl (hH.b 1 rfl) rfl (Ty.shp rfl) ⟨(lost,f.b),[],rfl,⟨.inr (.inl rfl),hf.bb,hf.bl,by simp only;omega⟩,RL.none hH.ext⟩
 obtain ⟨n,hn⟩:∃ n:Nat,(la:Int)+lb=n:=⟨la+lb,by simp⟩
 repeat (first|refine WS_seq ?_|refine WS_region ?_|refine WL_nil ?_|refine WS_skip ?_|refine WS_false rfl ?_|refine WS_no rfl (by omega) ?_|refine WL_gyes rfl rfl rfl ?_|(refine WL_r (by first|refine k_fa rfl (Ty.fld rfl rfl)|refine k_loadb rfl hB3 rfl (Ty.shp rfl)|refine k_remu (m:=f.k) (n:=8) rfl rfl (by decide)|refine (k_lss (q:=.u8) rfl rfl).is (bF (by omega))|refine (k_eql (q:=.u8) rfl rfl).is (bF (by omega))|refine (k_add64 rfl rfl (by omega)).is (congrArg (Value.int .i64) hn)|refine Run_pev rfl) rfl ?_))
 clear hB7
 refine WL_s (H_make (n:=n) hH (Ty.sle rfl) (Ty.zer rfl) (Ty.byt rfl) rfl rfl rfl rfl (by omega) (by simp only [maxLen];omega) rfl ?_)
 clear hH
 intro w2 bm hH
 replace hH:=nn4 hH
 rw [made_one] at hH
 replace hH:=hH.as (r':=Rms bm (List.replicate n 0)) 3 rfl (fun _ h=>h) (fun h=>by
  have e:(List.replicate n (Value.int .u8 0)).toArray=((List.replicate n 0).map B).toArray:=by rw [List.map_replicate];rfl
  have h2:Blk _ bm 5 (List.replicate n (Value.int .u8 0)).toArray:=h
  rw [e] at h2
  exact h2)
 replace hH:=nn4 hH
 repeat ((refine WL_r (by refine k_fa rfl (Ty.fld rfl rfl)) rfl ?_))
 refine WL_s (H_storeB 2 (v:=.slice (some ⟨bm,0,none⟩) n n) hH rfl rfl rfl (by simp) rfl (Ty.shp rfl) ?_)
 try clear hH
 intro _ hH
 replace hH:=nn4 hH
 repeat (first|refine WS_seq ?_|refine WS_region ?_|refine WL_nil ?_|refine lp rfl rfl ?_)
 refine WL_s (H_alloc hH (Ty.zer rfl) rfl ?_)
 try clear hH
 intro _ b9 hH
 replace hH:=nn5 hH
 refine WL_s (H_store 4 (v:=.int .i64 0) hH rfl rfl rfl (Nat.le_of_ble_eq_true rfl) rfl (Ty.shp rfl) ?_)
 try clear hH
 intro _ hH
 replace hH:=nn5 hH
 have hB3:=hH.b 0 rfl
 have hB7:Blk _ b7 48 #[.bool lost,.slice (some ⟨bm,0,none⟩) n n]:=hH.b 2 rfl
 apply joinN (Z:=fun at' ln u=>at'+ln≤n∧(1≤ln∧ln≤30000)∧Hp [] w u [Rb b3 120 f.cells.toArray,Rb b6 48 #[.bool false,.slice none 0 0],Rb b7 48 #[.bool lost,.slice (some ⟨bm,0,none⟩) n n],Rms bm (List.replicate n 0),Rb b9 3 #[.int .i64 at']])
 ·intro key
  by_cases hodd:f.x % 2=1
  ·repeat (first|refine WS_seq ?_|refine WS_region ?_|refine WL_nil ?_|refine WS_true rfl ?_|(refine WL_r (by first|refine k_fa rfl (Ty.fld rfl rfl)|refine k_loadb rfl hB3 rfl (Ty.shp rfl)|refine k_remu (m:=f.x) (n:=2) rfl rfl (by decide)|refine (k_eql (q:=.u16) rfl rfl).is (bT (by omega))|refine Run_pev rfl) rfl ?_))
   refine WL_s (H_store 4 (v:=.int .i64 la) hH rfl rfl rfl (Nat.le_of_ble_eq_true rfl) rfl (Ty.shp rfl) ?_)
   try clear hH
   intro _ hH
   replace hH:=nn5 hH
   have hB3:=hH.b 0 rfl
   repeat (first|refine WS_seq ?_|refine WS_region ?_|refine WL_nil ?_|(refine WL_r (by first|refine k_fa rfl (Ty.fld rfl rfl)|refine k_loadb rfl hB3 rfl (Ty.shp rfl)|refine k_remu (m:=f.k) (n:=8) rfl rfl (by decide)|refine k_makeFunc2 rfl rfl|refine Run_pev rfl) rfl ?_))
   obtain ⟨x9,y9,e1,e2⟩:∃ x9 y9:Nat,x9=la∧lb=y9:=⟨la,lb,rfl,rfl⟩
   refine WS_keep [(3,pt b3),(6,pt b6),(7,pt b7),(9,pt b9),(10,.int .i64 y9),(11,.func (.func 73) #[] #[pt b7,pt b9]),(59,.bool (decide (((f.k % 8:Nat):Int)=5)))] ⟨rfl,rfl,rfl,rfl,congrArg (fun n:Nat=>Value.int .i64 n) e2,rfl,rfl,trivial⟩ (fun σ=>?_)
   replace hH:=hH.as (r':=Rb b9 3 #[.int .i64 x9]) 4 rfl (fun _ h=>h) (fun h=>by rw [e1];exact h)
   replace hH:=nn5 hH
   exact WS_w fun u hu=>key σ x9 y9 u ⟨by omega,by omega,hu▸hH⟩
  ·repeat (first|refine WS_seq ?_|refine WS_region ?_|refine WL_nil ?_|refine WS_skip ?_|refine WS_false rfl ?_|(refine WL_r (by first|refine k_fa rfl (Ty.fld rfl rfl)|refine k_loadb rfl hB3 rfl (Ty.shp rfl)|refine k_remu (m:=f.x) (n:=2) rfl rfl (by decide)|refine (k_eql (q:=.u16) rfl rfl).is (bF (by omega))|refine k_remu (m:=f.k) (n:=8) rfl rfl (by decide)|refine k_makeFunc2 rfl rfl|refine Run_pev rfl) rfl ?_))
   obtain ⟨x9,y9,e1,e2⟩:∃ x9 y9:Nat,x9=0∧la=y9:=⟨0,la,rfl,rfl⟩
   refine WS_keep [(3,pt b3),(6,pt b6),(7,pt b7),(9,pt b9),(10,.int .i64 y9),(11,.func (.func 73) #[] #[pt b7,pt b9]),(59,.bool (decide (((f.k % 8:Nat):Int)=5)))] ⟨rfl,rfl,rfl,rfl,congrArg (fun n:Nat=>Value.int .i64 n) e2,rfl,rfl,trivial⟩ (fun σ=>?_)
   replace hH:=hH.as (r':=Rb b9 3 #[.int .i64 x9]) 4 rfl (fun _ h=>h) (fun h=>by rw [e1];exact h)
   replace hH:=nn5 hH
   exact WS_w fun u hu=>key σ x9 y9 u ⟨by omega,by omega,hu▸hH⟩
 clear hH hB7 hB3
 rintro σ at' ln u ⟨hat,hln,hH⟩
 have hms:∃ ms:List Nat,ms.length=n∧Byt ms∧List.replicate n 0=ms:=⟨_,by simp,fun x hx=>by rw [(List.mem_replicate.1 hx).2];decide,rfl⟩
 obtain ⟨ms,hml,hmb,hme⟩:=hms
 rw [hme] at hH
 by_cases h5b:f.k % 8=5
 ·obtain ⟨p,hp,hpl⟩:∃ p:Nat,(((f.x / 2:Nat):Int) % ((ln:Int)*8))=p∧p<ln*8:=⟨(((f.x / 2:Nat):Int) % ((ln:Int)*8)).toNat,by
   have:=Int.emod_nonneg ((f.x / 2:Nat):Int) (show (ln:Int)*8≠0 by omega);omega,by
   have h1:=Int.emod_lt_of_pos ((f.x / 2:Nat):Int) (show (0:Int)<(ln:Int)*8 by omega)
   omega⟩
  have hfx:=hf.x
  have hB3:=hH.b 0 rfl
  repeat (first|refine WS_seq ?_|refine WS_region ?_|refine WL_nil ?_|refine WS_block ?_|refine WS_yes rfl (by omega) ?_|(refine WL_r (by first|refine k_fa rfl (Ty.fld rfl rfl)|refine k_loadb rfl hB3 rfl (Ty.shp rfl)|refine k_quou (m:=f.x) (n:=2) rfl rfl (by decide) (fit16 (by omega))|refine (k_rem rfl rfl (by omega)).is (congrArg (Value.int .i64) hp)|refine Run_pev rfl|refine k_mul64 rfl rfl (by omega)|refine k_convI rfl rfl rfl (by omega)) rfl ?_))
  clear hB3
  refine WS_loop (G:=(Nat) × (List Nat)) (fun|(j,m1)=>16-j) 1237939891711427685222719488 (fun|(j,m1)=>[(67,.int .i64 j)]) (fun|(j,m1),w'=>j≤16∧m1.length=n∧Byt m1∧Hp [] w w' [Rb b3 120 f.cells.toArray,Rb b6 48 #[.bool false,.slice none 0 0],Rb b7 48 #[.bool lost,.slice (some ⟨bm,0,none⟩) n n],Rms bm m1,Rb b9 3 #[.int .i64 at']]) (0,ms) ⟨rfl,trivial⟩ ⟨by omega,hml,hmb,hH⟩ ?_
  rintro ⟨j,m1⟩ w' σ ⟨hj,hml,hmb,hH⟩ IH
  show WS _ _ _ _ _ (updL [(67,.int .i64 j)] _) _
  by_cases hjl:j<16
  ·have hB3:=hH.b 0 rfl
   have hfy:=hf.y
   have hyb:f.y / 2 ^ j<65536:=Nat.lt_of_le_of_lt (Nat.div_le_self _ _) hfy
   have hpj:(p:Int)+j=((p+j:Nat):Int):=by simp
   by_cases hbit:f.y / 2 ^ j &&& 1=1
   ·by_cases hin:p+j<ln*8
    ·repeat (first|refine WS_seq ?_|refine WS_region ?_|refine WL_nil ?_|refine WS_block ?_|refine WS_skip ?_|refine WS_yes rfl (by omega) ?_|refine WL_gyes rfl rfl rfl ?_|(refine WL_r (by first|refine k_fa rfl (Ty.fld rfl rfl)|refine k_loadb rfl hB3 rfl (Ty.shp rfl)|refine k_shr (m:=f.y) (n:=j) rfl rfl (fit16 hfy)|refine k_and (n:=1) rfl rfl (fit16 hyb) (by decide)|refine (k_eql (q:=.u16) rfl rfl).is (bT (by omega))|refine (k_add64 (m:=p) (n:=j) rfl rfl (by omega)).is (congrArg (Value.int .i64) hpj)|refine Run_pev rfl|refine k_mul64 rfl rfl (by omega)) rfl ?_))
     refine WL_s (S_callv (vs:=[.int .i64 ((p+j:Nat):Int)]) (caps:=[pt b7,pt b9]) rfl (fflip_spec (hH.b 2 rfl) (hH.b 4 rfl) (hH.at 3 rfl) hml hmb (by omega) (by omega) (by omega)) rfl rfl ?_)
     rintro _ _ ⟨rfl,m2,hm2,hb2,hU⟩
     replace hH:=hH.up 3 rfl hU
     clear hU
     replace hH:=nn5 hH
     repeat (first|refine WS_region ?_|refine WL_nil ?_|refine WS_inBlock ?_|(refine WL_r (by first|refine Run_pev rfl|refine k_add64 rfl rfl (by omega)) rfl ?_))
     refine IH (j+1,m2) _ _ ?_ ?_ ?_ ?_
     ·simp only;omega
     ·exact ⟨rfl,trivial⟩
     ·repeat first|with_reducible apply Agr.refl|refine Agr.upd rfl ?_|refine Agr.updL rfl ?_|refine Agr.mrg rfl ?_
     ·exact ⟨by omega,hm2,hb2,hH⟩
    ·repeat (first|refine WS_seq ?_|refine WS_region ?_|refine WL_nil ?_|refine WS_block ?_|refine WS_inBlock ?_|refine WS_skip ?_|refine WS_yes rfl (by omega) ?_|refine WS_no rfl (by omega) ?_|refine WL_gyes rfl rfl rfl ?_|(refine WL_r (by first|refine k_fa rfl (Ty.fld rfl rfl)|refine k_loadb rfl hB3 rfl (Ty.shp rfl)|refine k_shr (m:=f.y) (n:=j) rfl rfl (fit16 hfy)|refine k_and (n:=1) rfl rfl (fit16 hyb) (by decide)|refine (k_eql (q:=.u16) rfl rfl).is (bT (by omega))|refine Run_pev rfl|refine k_add64 rfl rfl (by omega)|refine k_mul64 rfl rfl (by omega)) rfl ?_))
     refine IH (j+1,m1) _ _ ?_ ?_ ?_ ?_
     ·simp only;omega
     ·exact ⟨rfl,trivial⟩
     ·repeat first|with_reducible apply Agr.refl|refine Agr.upd rfl ?_|refine Agr.updL rfl ?_|refine Agr.mrg rfl ?_
     ·exact ⟨by omega,hml,hmb,hH⟩
   ·repeat (first|refine WS_seq ?_|refine WS_region ?_|refine WL_nil ?_|refine WS_block ?_|refine WS_inBlock ?_|refine WS_skip ?_|refine WS_false rfl ?_|refine WS_yes rfl (by omega) ?_|refine WL_gno rfl rfl rfl rfl rfl ?_|(refine WL_r (by first|refine k_fa rfl (Ty.fld rfl rfl)|refine k_loadb rfl hB3 rfl (Ty.shp rfl)|refine k_shr (m:=f.y) (n:=j) rfl rfl (fit16 hfy)|refine k_and (n:=1) rfl rfl (fit16 hyb) (by decide)|refine (k_eql (q:=.u16) rfl rfl).is (bF (by omega))|refine Run_pev rfl|refine k_add64 rfl rfl (by omega)) rfl ?_))
    refine IH (j+1,m1) _ _ ?_ ?_ ?_ ?_
    ·simp only;omega
    ·exact ⟨rfl,trivial⟩
    ·repeat first|with_reducible apply Agr.refl|refine Agr.upd rfl ?_|refine Agr.updL rfl ?_|refine Agr.mrg rfl ?_
    ·exact ⟨by omega,hml,hmb,hH⟩
  ·obtain rfl:j=16:=by omega
   clear IH
   have hB7:=hH.b 2 rfl
   repeat (first|refine WS_seq ?_|refine WS_region ?_|refine WL_nil ?_|refine WS_exit rfl ?_|refine WS_false rfl ?_|(refine WL_r (by first|refine k_loadA rfl hB7 rfl (Ty.shp rfl)|refine Run_pev rfl) rfl ?_))
   refine WL_s (H_storeA 1 (vs:=#[.bool lost,.slice (some ⟨bm,0,none⟩) n n]) (s:=2) hH rfl rfl rfl (by rfl) (by rfl) (by simp [Value.oneCell']) (Ty.shp rfl) ?_)
   try clear hH
   intro _ hH
   replace hH:=nn5 hH
   repeat (refine WL_nil ?_)
   exact WS_retc1 Tryz.func41 rfl rfl (hH.b 1 rfl) rfl (Ty.shp rfl) (fn_new hH (i:=3) rfl hml hmb (by omega))
 ·repeat (first|refine WS_seq ?_|refine WS_region ?_|refine WS_skip ?_|refine WS_no rfl (by omega) ?_)
  refine WL_s (H_makeMap .i64 isB hH rfl ?_)
  clear hH
  intro w4 bp hH
  replace hH:=nn6 hH
  have hB3:=hH.b 0 rfl
  repeat (first|refine WS_seq ?_|refine WS_region ?_|refine WL_nil ?_|(refine WL_r (by first|refine k_fa rfl (Ty.fld rfl rfl)|refine k_loadb rfl hB3 rfl (Ty.shp rfl)|refine Run_pev rfl) rfl ?_))
  refine WL_s (H_lit (out:=[U6 f.x]) hH (Ty.sle rfl) (Ty.zer rfl) rfl rfl rfl (by decide) rfl ?_)
  try clear hH
  intro _ bl hH
  replace hH:=nn7 hH
  replace hH:=hH.as (r':=Ro 117 1 (some ⟨bl,0,none⟩) 1 1 [U6 f.x]) 6 rfl (fun _ h=>h) (fun hB=>hB.own rfl (by decide))
  replace hH:=nn7 hH
  have hB3:=hH.b 0 rfl
  repeat ((refine WL_r (by first|refine k_fa rfl (Ty.fld rfl rfl)|refine k_loadb (v:=.slice f.a f.us.length f.c) rfl hB3 rfl (Ty.shp rfl)) rfl ?_))
  refine WL_s (H_append 6 hH rfl (Ty.sle rfl) (Ty.zer rfl) rfl (Ty.byt rfl) (by decide) rfl rfl (hf.us.ext0 hH.ext) (by simp;try omega) (by simp) (by omega) (by simp only [maxLen];omega) rfl ?_)
  try clear hH
  intro _ al cl hH
  replace hH:=nn7 hH
  clear hB3
  have hul:(f.x::f.us).length=1+f.us.length:=by simp;omega
  have hub:∀ u∈f.x::f.us,u<65536:=fun u hu=>by
   rcases List.mem_cons.1 hu with rfl|h
   ·exact hf.x
   ·exact hf.ub u h
  change Hp [] w _ [Rb b3 120 f.cells.toArray,Rb b6 48 #[.bool false,.slice none 0 0],Rb b7 48 #[.bool lost,.slice (some ⟨bm,0,none⟩) n n],Rms bm ms,Rb b9 3 #[.int .i64 at'],Rm bp .i64 isB,Ro 117 1 al (1+f.us.length) cl ((f.x::f.us).map U6)] at hH
  generalize f.x::f.us=us at hH hul hub
  have hun:1+f.us.length≤31:=by omega
  generalize 1 + f.us.length=nu at *
  repeat (first|refine WL_nil ?_|refine WS_block ?_|(refine WL_r (by first|refine Run_pev rfl|refine k_len rfl (Ty.isl rfl)) rfl ?_))
  refine WS_loop (G:=(Nat) × (Nat)) (fun|(j,cnt)=>nu-j) 166152865647814369998275134183866368 (fun|(j,cnt)=>[(15,.int .i64 cnt),(99,.int .i64 j)]) (fun|(j,cnt),w'=>j≤nu∧cnt≤j∧Hp [] w w' [Rb b3 120 f.cells.toArray,Rb b6 48 #[.bool false,.slice none 0 0],Rb b7 48 #[.bool lost,.slice (some ⟨bm,0,none⟩) n n],Rms bm ms,Rb b9 3 #[.int .i64 at'],Rm bp .i64 isB,Ro 117 1 al nu cl (us.map U6)]) (0,0) ⟨rfl,rfl,trivial⟩ ⟨by omega,by omega,hH⟩ ?_
  rintro ⟨j,cnt⟩ w' σ ⟨hj,hc,hH⟩ IH
  show WS _ _ _ _ _ (updL [(15,.int .i64 cnt),(99,.int .i64 j)] _) _
  by_cases hjl:j<nu
  ·obtain ⟨u1,hu⟩:∃ u1,us[j]?=some u1:=⟨_,List.getElem?_eq_getElem (by omega)⟩
   have huv:(us.map U6)[j]?=some (U6 u1):=by rw [List.getElem?_map,hu];rfl
   have hu1:=hub u1 (List.mem_of_getElem? hu)
   have hSu:=(hH.o 6 rfl).sl
   obtain ⟨p,hp⟩:∃ p:Int,(u1:Int) % ((ln:Int)*8)=p:=⟨_,rfl⟩
   repeat (first|refine WS_seq ?_|refine WS_region ?_|refine WL_nil ?_|refine WS_block ?_|refine WS_skip ?_|refine WS_yes rfl (by omega) ?_|(refine WL_r (by first|refine k_ix1 rfl rfl hSu (by simp [hul]) (Ty.sle rfl) (by omega)|refine k_loads rfl hSu huv (Ty.shp rfl)|refine (k_rem rfl rfl (by omega)).is (congrArg (Value.int .i64) hp)|refine Run_pev rfl|refine k_mul64 rfl rfl (by omega)|refine k_convI rfl rfl rfl (by omega)) rfl ?_))
   clear hSu
   refine WL_s (S_lookupQ (e:=4) (q:=.i64) (Q:=isB) (u:=.bool false) (by kernel_rfl) (by kernel_rfl) rfl rfl (hH.at 5 rfl) rfl ?_)
   rintro v hv
   obtain ⟨o,rfl⟩:∃ o,v=.bool o:=hv.elim id fun h=>⟨_,h⟩
   clear hv
   cases o
   ·repeat (first|refine WS_seq ?_|refine WS_region ?_|refine WL_nil ?_|refine WS_true rfl ?_|refine lp rfl rfl ?_)
    refine WL_s (S_mapSet (e:=4) (q:=.i64) (Q:=isB) (by kernel_rfl) rfl rfl rfl (hH.at 5 rfl) ⟨true,rfl⟩ ?_)
    intro w5 hE5 hM5 hs5
    replace hH:=hH.up (r':=Rm bp .i64 isB) 5 rfl ⟨hE5,hM5,fun _ hx=>.inl hx⟩
    clear hE5 hM5 hs5
    replace hH:=nn7 hH
    repeat (first|refine WS_region ?_|refine WL_nil ?_|refine WS_inBlock ?_|(refine WL_r (by first|refine Run_pev rfl|refine k_add64 rfl rfl (by omega)) rfl ?_))
    refine IH (j+1,cnt+1) _ _ ?_ ?_ ?_ ?_
    ·simp only;omega
    ·exact ⟨rfl,rfl,trivial⟩
    ·repeat first|with_reducible apply Agr.refl|refine Agr.upd rfl ?_|refine Agr.updL rfl ?_|refine Agr.mrg rfl ?_
    ·exact ⟨by omega,by omega,hH⟩
   ·repeat (first|refine WS_region ?_|refine WL_nil ?_|refine WS_inBlock ?_|refine WS_skip ?_|refine WS_false rfl ?_|(refine WL_r (by first|refine Run_pev rfl|refine k_add64 rfl rfl (by omega)) rfl ?_))
    refine IH (j+1,cnt) _ _ ?_ ?_ ?_ ?_
    ·simp only;omega
    ·exact ⟨rfl,rfl,trivial⟩
    ·repeat first|with_reducible apply Agr.refl|refine Agr.upd rfl ?_|refine Agr.updL rfl ?_|refine Agr.mrg rfl ?_
    ·exact ⟨by omega,by omega,hH⟩
  ·obtain rfl:j=nu:=by omega
   clear IH
   have hln8:(ln:Int)*8=((ln*8:Nat):Int):=by simp
   have hfx:=hf.x
   repeat (first|refine WS_seq ?_|refine WS_region ?_|refine WL_nil ?_|refine WS_block ?_|refine WS_exit rfl ?_|refine WS_no rfl (by omega) ?_|(refine WL_r (by first|refine (k_mul64 rfl rfl (by omega)).is (congrArg (Value.int .i64) hln8)|refine Run_pev rfl) rfl ?_))
   obtain ⟨q,hq⟩:∃ q:Int,(f.x:Int) % (ln*8:Nat)=q:=⟨_,rfl⟩
   refine WS_loop (G:=(Nat) × (List Nat)) (fun|(k,m1)=>ln*8-k) 22300744533916625249077781820744831366332416 (fun|(k,m1)=>[(119,.int .i64 k)]) (fun|(k,m1),w'=>k≤ln*8∧m1.length=n∧Byt m1∧Hp [] w w' [Rb b3 120 f.cells.toArray,Rb b6 48 #[.bool false,.slice none 0 0],Rb b7 48 #[.bool lost,.slice (some ⟨bm,0,none⟩) n n],Rms bm m1,Rb b9 3 #[.int .i64 at'],Rm bp .i64 isB,Ro 117 1 al j cl (us.map U6)]) (0,ms) ⟨rfl,trivial⟩ ⟨by omega,hml,hmb,hH⟩ ?_
   rintro ⟨k,m1⟩ w' σ ⟨hk,hml,hmb,hH⟩ IH
   show WS _ _ _ _ _ (updL [(119,.int .i64 k)] _) _
   by_cases hkl:k<ln*8
   ·repeat (first|refine WS_seq ?_|refine WS_region ?_|refine WL_nil ?_|refine WS_block ?_|refine WS_skip ?_|refine WS_yes rfl (by omega) ?_|refine lp rfl rfl ?_)
    refine WL_s (S_lookupQ (e:=4) (q:=.i64) (Q:=isB) (u:=.bool false) (by kernel_rfl) (by kernel_rfl) rfl rfl (hH.at 5 rfl) rfl ?_)
    rintro v hv
    obtain ⟨o,rfl⟩:∃ o,v=.bool o:=hv.elim id fun h=>⟨_,h⟩
    clear hv
    have hB3:=hH.b 0 rfl
    cases o
    ·repeat (first|refine WS_region ?_|refine WL_nil ?_|refine WS_inBlock ?_|refine WS_skip ?_|refine WS_false rfl ?_|refine WL_gno rfl rfl rfl rfl rfl ?_|refine WL_gund rfl rfl rfl ?_|(refine WL_r (by first|refine Run_pev rfl|refine k_add64 rfl rfl (by omega)) rfl ?_))
     refine IH (k+1,m1) _ _ ?_ ?_ ?_ ?_
     ·simp only;omega
     ·exact ⟨rfl,trivial⟩
     ·repeat first|with_reducible apply Agr.refl|refine Agr.upd rfl ?_|refine Agr.updL rfl ?_|refine Agr.mrg rfl ?_
     ·exact ⟨by omega,hml,hmb,hH⟩
    ·by_cases hodd:cnt % 2=1
     ·repeat (first|refine WS_region ?_|refine WL_nil ?_|refine WS_true rfl ?_|refine WL_gyes rfl rfl rfl ?_|refine WL_gno (b:=true) rfl rfl (dT (by omega)) rfl rfl ?_|(refine WL_r (by first|refine Run_pev rfl|refine k_rem rfl rfl (by omega)|refine k_pick_t (dT (by omega)) rfl) rfl ?_))
      refine WL_s (S_callv (vs:=[.int .i64 (k:Int)]) (caps:=[pt b7,pt b9]) rfl (fflip_spec (hH.b 2 rfl) (hH.b 4 rfl) (hH.at 3 rfl) hml hmb (by omega) (by omega) (by omega)) rfl rfl ?_)
      rintro _ _ ⟨rfl,m2,hm2,hb2,hU⟩
      replace hH:=hH.up 3 rfl hU
      clear hU
      replace hH:=nn7 hH
      repeat (first|refine WS_region ?_|refine WL_nil ?_|refine WS_inBlock ?_|(refine WL_r (by first|refine Run_pev rfl|refine k_add64 rfl rfl (by omega)) rfl ?_))
      refine IH (k+1,m2) _ _ ?_ ?_ ?_ ?_
      ·simp only;omega
      ·exact ⟨rfl,trivial⟩
      ·repeat first|with_reducible apply Agr.refl|refine Agr.upd rfl ?_|refine Agr.updL rfl ?_|refine Agr.mrg rfl ?_
      ·exact ⟨by omega,hm2,hb2,hH⟩
     ·by_cases hkq:(k:Int)=q
      ·repeat (first|refine WS_region ?_|refine WL_nil ?_|refine WS_inBlock ?_|refine WS_skip ?_|refine WS_false rfl ?_|refine WL_gyes rfl rfl rfl ?_|refine WL_gyes rfl rfl (dF (by omega)) ?_|(refine WL_r (by first|refine k_fa rfl (Ty.fld rfl rfl)|refine k_loadb rfl hB3 rfl (Ty.shp rfl)|refine (k_mul64 rfl rfl (by omega)).is (congrArg (Value.int .i64) hln8)|refine (k_rem rfl rfl (by omega)).is (congrArg (Value.int .i64) hq)|refine (k_neq (q:=.i64) rfl rfl).is (bF (by omega))|refine Run_pev rfl|refine k_add64 rfl rfl (by omega)|refine k_rem rfl rfl (by omega)|refine k_convI rfl rfl rfl (by omega)|refine k_pick_f (dF (by omega)) rfl) rfl ?_))
       refine IH (k+1,m1) _ _ ?_ ?_ ?_ ?_
       ·simp only;omega
       ·exact ⟨rfl,trivial⟩
       ·repeat first|with_reducible apply Agr.refl|refine Agr.upd rfl ?_|refine Agr.updL rfl ?_|refine Agr.mrg rfl ?_
       ·exact ⟨by omega,hml,hmb,hH⟩
      ·repeat (first|refine WS_region ?_|refine WL_nil ?_|refine WS_true rfl ?_|refine WL_gyes rfl rfl rfl ?_|refine WL_gyes rfl rfl (dF (by omega)) ?_|(refine WL_r (by first|refine k_fa rfl (Ty.fld rfl rfl)|refine k_loadb rfl hB3 rfl (Ty.shp rfl)|refine (k_mul64 rfl rfl (by omega)).is (congrArg (Value.int .i64) hln8)|refine (k_rem rfl rfl (by omega)).is (congrArg (Value.int .i64) hq)|refine (k_neq (q:=.i64) rfl rfl).is (bT (by omega))|refine Run_pev rfl|refine k_rem rfl rfl (by omega)|refine k_convI rfl rfl rfl (by omega)|refine k_pick_f (dF (by omega)) rfl) rfl ?_))
       refine WL_s (S_callv (vs:=[.int .i64 (k:Int)]) (caps:=[pt b7,pt b9]) rfl (fflip_spec (hH.b 2 rfl) (hH.b 4 rfl) (hH.at 3 rfl) hml hmb (by omega) (by omega) (by omega)) rfl rfl ?_)
       rintro _ _ ⟨rfl,m2,hm2,hb2,hU⟩
       replace hH:=hH.up 3 rfl hU
       clear hU
       replace hH:=nn7 hH
       repeat (first|refine WS_region ?_|refine WL_nil ?_|refine WS_inBlock ?_|(refine WL_r (by first|refine Run_pev rfl|refine k_add64 rfl rfl (by omega)) rfl ?_))
       refine IH (k+1,m2) _ _ ?_ ?_ ?_ ?_
       ·simp only;omega
       ·exact ⟨rfl,trivial⟩
       ·repeat first|with_reducible apply Agr.refl|refine Agr.upd rfl ?_|refine Agr.updL rfl ?_|refine Agr.mrg rfl ?_
       ·exact ⟨by omega,hm2,hb2,hH⟩
   ·obtain rfl:k=ln*8:=by omega
    clear IH
    have hB7:=hH.b 2 rfl
    repeat (first|refine WS_seq ?_|refine WS_region ?_|refine WL_nil ?_|refine WS_exit rfl ?_|refine WS_no rfl (by omega) ?_|(refine WL_r (by first|refine k_loadA rfl hB7 rfl (Ty.shp rfl)|refine Run_pev rfl) rfl ?_))
    refine WL_s (H_storeA 1 (vs:=#[.bool lost,.slice (some ⟨bm,0,none⟩) n n]) (s:=2) hH rfl rfl rfl (by rfl) (by rfl) (by simp [Value.oneCell']) (Ty.shp rfl) ?_)
    try clear hH
    intro _ hH
    replace hH:=nn7 hH
    repeat (refine WL_nil ?_)
    exact WS_retc1 Tryz.func41 rfl rfl (hH.b 1 rfl) rfl (Ty.shp rfl) (fn_new hH (i:=3) rfl hml hmb (by omega))
end Go.Proofs.YtpbiicegmcpkpaaGreat
namespace Go.Proofs.YtpbiicegmcpkpaaGreat
open Go Go.K Go.P Go.RowKit Go.Proofs
theorem RL.cat {S:List Nat} {W w:World} {H:List Res} {es fs:List BT} (i j:Nat) (h:Hp S W w H) (hi:H[i]?=some (RL es)) (hj:H[j]?=some (RL fs)) (hij:i<j) :
  Hp S W w (((H.set i (sep (RL es) (RL fs))).eraseIdx j).set i (RL (es++fs))):=by
 have h1:=h.merge i j hi hj (by omega)
 have hil:=(List.getElem?_eq_some_iff.1 hi).1
 refine h1.as i (r:=sep (RL es) (RL fs)) ?_ (fun x hx=>?_) (fun hh=>?_)
 ·rw [List.getElem?_eraseIdx,if_pos hij,List.getElem?_set_self hil]
 ·obtain ⟨e',he',hxe⟩:=List.mem_flatMap.1 hx
  rcases List.mem_append.1 he' with he'|he'
  ·exact List.mem_append.2 (.inl (List.mem_flatMap.2 ⟨e',he',hxe⟩))
  ·exact List.mem_append.2 (.inr (List.mem_flatMap.2 ⟨e',he',hxe⟩))
 ·intro e' he'
  rcases List.mem_append.1 he' with he'|he'
  ·exact hh.1 e' he'
  ·exact hh.2.1 e' he'
def FG (l:List FS) (e:FA) (ow:List BT):Prop:=(e.2∈ow∨(∃ f∈l,e.2=f.b)∨e.2.2.2=[])∧Byt e.2.2.2∧e.2.2.2.length≤e.2.2.1∧e.2.2.2.length≤100000
def FAs (w:World) (F:List FA):Prop:=∀ e∈F,SlA w e.2.1 (e.2.2.2.map B)∧Byt e.2.2.2∧e.2.2.2.length≤e.2.2.1∧e.2.2.2.length≤100000
theorem FG.fas {w:World} {l:List FS} {F:List FA} {ow:List BT} (h:∀ e∈F,FG l e ow) (hl:∀ f∈l,f.rd w) (hR:(RL ow).holds w):FAs w F:=fun e he=>⟨by
 rcases (h e he).1 with h1|⟨f,hf,h1⟩|h1
 ·exact hR e.2 h1
 ·rw [h1];exact (hl f hf).b
 ·rw [h1];exact SlA.nil,(h e he).2⟩
theorem FAs.ext {w w':World} {F:List FA} (h:FAs w F) (hE:Ext [] w w'):FAs w' F:=fun e he=>⟨(h e he).1.ext0 hE,(h e he).2⟩
set_option maxRecDepth 20000 in
set_option maxHeartbeats 8000000 in
theorem ffates_spec {a al:Option Addr} {n c nl cl:Nat} {e0:BT} {es:List BT} {l:List FS} {w:World} (hS:SlA w a ((e0::es).map bsl)) (hn:es.length+1=n) (hn2:n≤1000000) (hpk:∀ e∈es,pkt e) (hrd:∀ e∈es,SlA w e.1 (e.2.2.map B))
  (hL:SlA w al (l.flatMap FS.cells)) (hll:l.length=nl) (hfew:few l) (hlr:∀ f∈l,f.rd w) :
  Does Tryz.prog 20 #[.slice a n c,.slice al nl cl] w fun v w'=>∃ (a':Option Addr) (c':Nat) (F:List FA) (ow:List BT),v=.slice a' F.length c'∧F.length≤es.length∧(∀ e∈F,FG l e ow)∧F.length≤c'∧Hp [] w w' [Rs a' (F.flatMap fac),RL ow]:=by
 refine Does_of (args:=[_,_]) Tryz.func20 rfl rfl Tryz.ntmps20 rfl ?_
 have hle:(l.flatMap FS.cells).length=nl*5:=by rw [← hll];exact fm_len (fun _ _=>rfl)
 have hl60:nl≤60:=by rw [← hll];exact hfew.1
 repeat (first|refine WS_seq ?_|refine WS_region ?_|refine WL_nil ?_|refine lp rfl rfl ?_)
 refine WL_s (S_call ((fparts_spec hS hn hn2 hpk hrd)) rfl rfl ?_)
 rintro _ wb ⟨ap,cp,ps,rfl,hpl,hpo,hSp,hE0⟩
 have hH:=((Hp.start wb).nu (New.nilO (e:=48) (sz:=2))).nu (RL.none .refl)
 replace hH:=nn2 hH
 replace hL:=hL.ext0 hE0
 have hple:(ps.flatMap plc).length=ps.length*2:=fm_len (fun _ _=>rfl)
 repeat (first|refine WL_nil ?_|refine WS_block ?_|(refine WL_r (by first|refine Run_pev rfl|refine k_len rfl (Ty.isl rfl)) rfl ?_))
 refine WS_loop (G:=(Nat) × (Option Addr) × (Nat) × (List FA) × (List BT)) (fun|(i,a1,c1,F,ow)=>ps.length-i) 8589932768 (fun|(i,a1,c1,F,ow)=>[(11,.int .i64 i),(5,.slice a1 F.length c1)]) (fun|(i,a1,c1,F,ow),w'=>i≤ps.length∧F.length≤i∧(∀ e∈F,FG l e ow)∧Hp [] wb w' [Ro 48 2 a1 F.length c1 (F.flatMap fac),RL ow]) (0,none,0,[],[]) ⟨rfl,rfl,trivial⟩ ⟨by omega,by simp,by simp,hH⟩ ?_
 rintro ⟨i,a1,c1,F,ow⟩ w' σ ⟨hi,hFl,hF,hH⟩ IH
 show WS _ _ _ _ _ (updL [(11,.int .i64 i),(5,.slice a1 F.length c1)] _) _
 by_cases hlt:i<ps.length
 ·obtain ⟨p,hp⟩:∃ p,ps[i]?=some p:=⟨_,List.getElem?_eq_getElem (by omega)⟩
  have hat:=fm_at (f:=plc) (sz:=2) (fun _ _=>rfl) hp
  have hpk:=hpo p (List.mem_of_getElem? hp)
  have hSp2:=hSp.ext0 hH.ext
  repeat (first|refine WS_seq ?_|refine WS_region ?_|refine WL_nil ?_|refine WS_block ?_|refine WS_skip ?_|refine WS_yes rfl (by omega) ?_|(refine WL_r (by first|refine k_ix (sz:=2) rfl rfl hSp2 hple (by decide) (Ty.sle rfl) (by omega)|refine k_loadC (j:=i*2) (cs:=plc p) rfl hSp2 hat rfl (Ty.shp rfl)|refine Run_pev rfl) rfl ?_))
  clear hSp2
  refine WL_s (H_alloc hH (Ty.zer rfl) rfl ?_)
  try clear hH
  intro _ b7 hH
  replace hH:=nn3 hH
  repeat (refine lp rfl rfl ?_)
  refine WL_s (H_storeA 2 (vs:=(plc p).toArray) (s:=2) hH rfl rfl rfl (by rfl) (by rfl) (by simp [Value.oneCell']) (Ty.shp rfl) ?_)
  try clear hH
  intro _ hH
  replace hH:=nn3 hH
  by_cases hin:i<nl
  ·obtain ⟨f,hf⟩:∃ f,l[i]?=some f:=⟨_,List.getElem?_eq_getElem (by omega)⟩
   have hfm:=List.mem_of_getElem? hf
   have hfr:=(hlr f hfm).ext hE0
   have hff:=hfew.2 f hfm
   have hat2:=fm_at (f:=FS.cells) (sz:=5) (fun _ _=>rfl) hf
   have hB7:=hH.b 2 rfl
   have hL2:=hL.ext0 hH.ext
   have hFr:=hfr.ext hH.ext
   repeat (first|refine WS_seq ?_|refine WS_region ?_|refine WL_nil ?_|refine WS_yes rfl (by omega) ?_|(refine WL_r (by first|refine Run_pev rfl|refine k_len rfl (Ty.isl rfl)) rfl ?_))
   refine WS_tailE Ty.mixed 11 rfl (by kernel_rfl) rfl (fun w1 hx1=>?_)
   refine wp 0 hx1 rfl rfl rfl rfl ?_
   refine wp 1 hx1 rfl rfl rfl rfl ?_
   refine wp 2 hx1 rfl rfl rfl rfl ?_
   refine wt 3 hx1 rfl rfl rfl (fun w' hw'=>by refine k_ix (sz:=5) rfl rfl (hL2.ext0 hw') hle (by decide) (Ty.sle rfl) (by omega)) ?_
   refine wt 4 hx1 rfl rfl rfl (fun w' hw'=>by refine k_loadC (j:=i*5) (cs:=f.cells) rfl (hL2.ext0 hw') hat2 rfl (Ty.shp rfl)) ?_
   refine wt 5 hx1 rfl rfl rfl (fun w' hw'=>by refine k_ixa1 rfl rfl (Ty.arr rfl) (by decide)) ?_
   refine wt 6 hx1 rfl rfl rfl (fun w' hw'=>by refine k_loadb rfl (hB7.ext0 hw') rfl (Ty.shp rfl)) ?_
   refine wt 7 hx1 rfl rfl rfl (fun w' hw'=>by refine k_ixa1 rfl rfl (Ty.arr rfl) (by decide)) ?_
   refine wt 8 hx1 rfl rfl rfl (fun w' hw'=>by refine k_loadb rfl (hB7.ext0 hw') rfl (Ty.shp rfl)) ?_
   refine WA_one 9 (by kernel_rfl) rfl rfl (S_call (ffate_spec (hFr.ext hx1) hff.1 hff.2 hpk.1 hpk.2) rfl rfl ?_)
   rintro _ w2 ⟨e,ow2,rfl,hFN,hN⟩
   refine ⟨hx1.then0 hN.ext,?_⟩
   replace hH:=(hH.ext0 hx1).nu hN
   refine WA_one 10 (by kernel_rfl) rfl rfl (S_lit (out:=[.bool e.1,bsl e.2]) (Ty.sle rfl) (Ty.zer rfl) rfl rfl rfl (by decide) rfl ?_)
   intro w3 b3 hb3 hE3 hB3 _
   refine ⟨(hx1.then0 hN.ext).then0 hE3,?_⟩
   refine WA_done (by kernel_rfl) ?_
   replace hH:=hH.nu (r:=Rb b3 48 #[.bool e.1,bsl e.2]) ⟨hE3,hB3,fun x hx=>by simp [Rb] at hx;omega⟩
   clear hx1 hB7 hL2 hFr hN hE3 hB3 hb3
   replace hH:=nn5 hH
   replace hH:=RL.cat 1 3 hH rfl rfl (by decide)
   replace hH:=nn4 hH
   replace hH:=hH.del 2
   replace hH:=nn3 hH
   have hFN1:FG l e (ow++ow2):=⟨hFN.1.elim (fun h=>.inl (List.mem_append_right _ h)) (fun h=>.inr (h.imp_left (fun h=>⟨f,hfm,h⟩))),hFN.2⟩
   refine WL_s (H_append 0 hH rfl (Ty.sle rfl) (Ty.zer rfl) rfl (Ty.byt rfl) (by decide) rfl rfl ((hH.b 2 rfl).sl0) (by simp;try omega) (by simp) (by omega) (by simp only [maxLen];omega) rfl ?_)
   try clear hH
   intro _ a9 c9 hH
   replace hH:=nn3 hH
   replace hH:=hH.del 2
   replace hH:=nn2 hH
   repeat (first|refine WS_region ?_|refine WL_nil ?_|refine WS_inBlock ?_|(refine WL_r (by first|refine Run_pev rfl|refine k_add64 rfl rfl (by omega)) rfl ?_))
   have hes:F.length+1=(F++[e]).length:=by simp
   have hec:F.flatMap fac++[.bool e.1,bsl e.2]=(F++[e]).flatMap fac:=by simp
   have hF2:∀ x∈F++[e],FG l x (ow++ow2):=fun x hx=>by
    rcases List.mem_append.1 hx with h|h
    ·exact ⟨(hF x h).1.imp_left (fun h=>List.mem_append_left _ h),(hF x h).2⟩
    ·simp at h;subst h;exact hFN1
   rw [hes,hec] at hH
   rw [hes]
   have hFl2:(F++[e]).length=F.length+1:=by simp
   generalize F++[e]=F2 at *
   refine IH (i+1,a9,c9,F2,ow++ow2) _ _ ?_ ?_ ?_ ?_
   ·simp only;omega
   ·exact ⟨rfl,rfl,trivial⟩
   ·repeat first|with_reducible apply Agr.refl|refine Agr.upd rfl ?_|refine Agr.updL rfl ?_|refine Agr.mrg rfl ?_
   ·exact ⟨by omega,by omega,hF2,hH⟩
  ·repeat (first|refine WS_seq ?_|refine WS_region ?_|refine WL_nil ?_|refine WS_inBlock ?_|refine WS_skip ?_|refine WS_no rfl (by omega) ?_|(refine WL_r (by first|refine Run_pev rfl|refine k_add64 rfl rfl (by omega)|refine k_len rfl (Ty.isl rfl)) rfl ?_))
   replace hH:=hH.del 2
   replace hH:=nn2 hH
   refine IH (i+1,a1,c1,F,ow) _ _ ?_ ?_ ?_ ?_
   ·simp only;omega
   ·exact ⟨rfl,rfl,trivial⟩
   ·repeat first|with_reducible apply Agr.refl|refine Agr.upd rfl ?_|refine Agr.updL rfl ?_|refine Agr.mrg rfl ?_
   ·exact ⟨by omega,by omega,hF,hH⟩
 ·obtain rfl:i=ps.length:=by omega
  repeat (first|refine WS_seq ?_|refine WS_region ?_|refine WL_nil ?_|refine WS_exit rfl ?_|refine WS_no rfl (by omega) ?_|refine lp rfl rfl ?_)
  have hO:=(hH.o 0 rfl).2.1
  have hQ:=((Hp.start w).ext0 hE0).calls 0 (Q:=[Rs a1 (F.flatMap fac),RL ow]) (Rs.of 0 hH rfl)
  exact WS_ret1 Tryz.func20 rfl ⟨a1,c1,F,ow,rfl,by omega,hF,hO,hQ⟩
end Go.Proofs.YtpbiicegmcpkpaaGreat
