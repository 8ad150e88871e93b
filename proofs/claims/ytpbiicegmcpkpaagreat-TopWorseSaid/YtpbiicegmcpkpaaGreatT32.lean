/- A part of the proof that TopWorse is true at every input; no condition. -/
import Derived.Test.YtpbiicegmcpkpaaGreatT31
namespace Go.Proofs.YtpbiicegmcpkpaaGreat
open Go Go.K Go.P Go.RowKit Go.Proofs
abbrev U6 (n:Nat):Value:=.int .u16 (n:Int)
structure FS where
 k:Nat
 x:Nat
 y:Nat
 a:Option Addr
 c:Nat
 us:List Nat
 b:BT
abbrev FS.cells (f:FS):List Value:=[.int .u8 f.k,.int .u16 f.x,.int .u16 f.y,.slice f.a f.us.length f.c,bsl f.b]
structure FS.rd (w:World) (f:FS):Prop where
 k:f.k<256
 x:f.x<65536
 y:f.y<65536
 us:SlA w f.a (f.us.map U6)
 ub:∀ u∈f.us,u<65536
 b:SlA w f.b.1 (f.b.2.2.map B)
 bb:Byt f.b.2.2
 bl:f.b.2.2.length≤f.b.2.1
theorem FS.rd.ext {w w':World} {f:FS} (h:f.rd w) (hE:Ext [] w w'):f.rd w':=⟨h.k,h.x,h.y,h.us.ext0 hE,h.ub,h.b.ext0 hE,h.bb,h.bl⟩
def few (l:List FS):Prop:=l.length≤60∧∀ f∈l,f.us.length≤30∧f.b.2.2.length≤500
set_option maxHeartbeats 4000000 in
theorem flight_spec {a:Option Addr} {n c:Nat} {l:List FS} {w:World} (hS:SlA w a (l.flatMap FS.cells)) (hn:l.length=n) (hn2:n≤9223372036854775807) :
  Does Tryz.prog 16 #[.slice a n c] w fun v w'=>∃ b,v=.bool b∧(b=true→few l)∧Ext [] w w':=by
 refine Does_of (args:=[_]) Tryz.func16 rfl rfl Tryz.ntmps16 rfl ?_
 have hH:=Hp.start w
 have hle:(l.flatMap FS.cells).length=n*5:=by rw [← hn];exact fm_len (fun _ _=>rfl)
 repeat (first|refine WS_seq ?_|refine WS_region ?_|refine WL_nil ?_|refine WS_block ?_|(refine WL_r (by first|refine Run_pev rfl|refine k_len rfl (Ty.isl rfl)) rfl ?_))
 refine WS_loop (G:=(Nat)) (fun i=>n-i) 4194196 (fun i=>[(7,.int .i64 i)]) (fun i w'=>i≤n∧(∀ (j:Nat) (f:FS),j<i→l[j]?=some f→f.us.length≤30∧f.b.2.2.length≤500)∧Hp [] w w' []) (0) ⟨rfl,trivial⟩ ⟨by omega,by omega,hH⟩ ?_
 rintro i w' σ ⟨hi,hall,hH⟩ IH
 show WS _ _ _ _ _ (updL [(7,.int .i64 i)] _) _
 by_cases hlt:i<n
 ·obtain ⟨f,hf⟩:∃ f,l[i]?=some f:=⟨_,List.getElem?_eq_getElem (by omega)⟩
  have hat:=fm_at (f:=FS.cells) (sz:=5) (fun _ _=>rfl) hf
  have hS2:=hS.ext0 hH.ext
  repeat (first|refine WS_seq ?_|refine WS_region ?_|refine WL_nil ?_|refine WS_block ?_|refine WS_skip ?_|refine WS_yes rfl (by omega) ?_|(refine WL_r (by first|refine k_ix (sz:=5) rfl rfl hS2 hle (by decide) (Ty.sle rfl) (by omega)|refine k_loadC (j:=i*5) (cs:=f.cells) rfl hS2 hat rfl (Ty.shp rfl)|refine Run_pev rfl) rfl ?_))
  clear hS2
  refine WL_s (H_alloc hH (Ty.zer rfl) rfl ?_)
  try clear hH
  intro _ b4 hH
  replace hH:=nn1 hH
  refine WL_s (H_storeA 0 (vs:=f.cells.toArray) (s:=5) hH rfl rfl rfl (by rfl) (by rfl) (by simp [Value.oneCell']) (Ty.shp rfl) ?_)
  try clear hH
  intro _ hH
  replace hH:=nn1 hH
  have hB4:=hH.b 0 rfl
  by_cases h1:f.b.2.2.length≤500
  ·by_cases h2:f.us.length≤30
   ·repeat (first|refine WS_seq ?_|refine WS_region ?_|refine WL_nil ?_|refine WS_inBlock ?_|refine WS_skip ?_|refine WS_no rfl (by omega) ?_|refine WL_gyes rfl rfl (dF (by omega)) ?_|(refine WL_r (by first|refine k_fa rfl (Ty.fld rfl rfl)|refine k_loadb rfl hB4 rfl (Ty.shp rfl)|refine Run_pev rfl|refine k_add64 rfl rfl (by omega)|refine k_len rfl (Ty.isl rfl)|refine k_pick_f (dF (by omega)) rfl) rfl ?_))
    replace hH:=hH.del 0
    replace hH:=nn0 hH
    refine IH (i+1) _ _ ?_ ?_ ?_ ?_
    ·omega
    ·exact ⟨rfl,trivial⟩
    ·repeat first|with_reducible apply Agr.refl|refine Agr.upd rfl ?_|refine Agr.updL rfl ?_|refine Agr.mrg rfl ?_
    ·exact ⟨by omega,fun j g hj hg=>(Nat.lt_or_ge j i).elim (fun h=>hall j g h hg) (fun h=>by have e:j=i:=(by omega);subst e;rw [hf] at hg;cases hg;exact ⟨h2,h1⟩),hH⟩
   ·repeat (first|refine WS_seq ?_|refine WS_region ?_|refine WL_nil ?_|refine WS_yes rfl (by omega) ?_|refine WL_gyes rfl rfl (dF (by omega)) ?_|(refine WL_r (by first|refine k_fa rfl (Ty.fld rfl rfl)|refine k_loadb rfl hB4 rfl (Ty.shp rfl)|refine Run_pev rfl|refine k_len rfl (Ty.isl rfl)|refine k_pick_f (dF (by omega)) rfl) rfl ?_))
    exact WS_ret1 Tryz.func16 rfl ⟨false,rfl,by simp,hH.ext⟩
  ·repeat (first|refine WS_seq ?_|refine WS_region ?_|refine WL_nil ?_|refine WS_true rfl ?_|refine WL_gno (b:=true) rfl rfl (dT (by omega)) rfl rfl ?_|(refine WL_r (by first|refine k_fa rfl (Ty.fld rfl rfl)|refine k_loadb rfl hB4 rfl (Ty.shp rfl)|refine Run_pev rfl|refine k_len rfl (Ty.isl rfl)|refine k_pick_t (dT (by omega)) rfl) rfl ?_))
   exact WS_ret1 Tryz.func16 rfl ⟨false,rfl,by simp,hH.ext⟩
 ·obtain rfl:i=n:=by omega
  repeat (first|refine WS_seq ?_|refine WS_region ?_|refine WL_nil ?_|refine WS_exit rfl ?_|refine WS_no rfl (by omega) ?_|(refine WL_r (by first|refine Run_pev rfl|refine k_len rfl (Ty.isl rfl)) rfl ?_))
  refine WS_ret1 Tryz.func16 rfl ⟨_,rfl,fun hb=>⟨?_,fun f hf=>?_⟩,hH.ext⟩
  ·have:=of_decide_eq_true hb
   omega
  ·obtain ⟨j,hj⟩:=List.mem_iff_getElem?.1 hf
   exact hall j f (by have:=(List.getElem?_eq_some_iff.1 hj).1;omega) hj
abbrev PL:=Nat × Nat
abbrev plc (p:PL):List Value:=[.int .i64 p.1,.int .i64 p.2]
def PL.ok (p:PL):Prop:=(1≤p.1∧p.1≤30000)∧1≤p.2∧p.2≤30000
theorem xb_a {d:PD} (h:d.n<65536):numB 0 (((xb d.bits).drop 37).take 16)=d.n:=by
 have:((xb d.bits).drop 37).take 16=nb d.n 16:=by
  have e:xb d.bits=(d.h.bits++(nb d.f 7++nb d.c 7))++(nb d.n 16++((nb d.m 16++(nb d.sa 16++nb d.sb 16))++(nb (crc (pk d.bits)) 16++nb 0 2))):=by simp [xb,PD.bits]
  rw [e,List.drop_left' (by simp [PH.bits_len,nb_len]),List.take_left' (nb_len _ _)]
 rw [this,numB_nb0 (by omega)]
theorem xb_b {d:PD} (h:d.m<65536):numB 0 (((xb d.bits).drop 53).take 16)=d.m:=by
 have:((xb d.bits).drop 53).take 16=nb d.m 16:=by
  have e:xb d.bits=(d.h.bits++(nb d.f 7++(nb d.c 7++nb d.n 16)))++(nb d.m 16++((nb d.sa 16++nb d.sb 16)++(nb (crc (pk d.bits)) 16++nb 0 2))):=by simp [xb,PD.bits]
  rw [e,List.drop_left' (by simp [PH.bits_len,nb_len]),List.take_left' (nb_len _ _)]
 rw [this,numB_nb0 (by omega)]
theorem numB_at {X:List Bool} {o j:Nat} (h:o+j<X.length):numB 0 ((X.drop o).take (j+1))=2*numB 0 ((X.drop o).take j)+X[o+j].toNat:=by
 rw [numB_take (by simp;omega),List.getElem_drop]
attribute [local simp] nbits_len in
set_option maxRecDepth 20000 in
set_option maxHeartbeats 8000000 in
theorem fparts_spec {a:Option Addr} {n c:Nat} {e0:BT} {es:List BT} {w:World} (hS:SlA w a ((e0::es).map bsl)) (hn:es.length+1=n) (hn2:n≤1000000) (hpk:∀ e∈es,pkt e) (hrd:∀ e∈es,SlA w e.1 (e.2.2.map B)) :
  Does Tryz.prog 40 #[.slice a n c] w fun v w'=>∃ (a':Option Addr) (c':Nat) (l:List PL),v=.slice a' l.length c'∧l.length=es.length∧(∀ p∈l,p.ok)∧SlA w' a' (l.flatMap plc)∧Ext [] w w':=by
 refine Does_of (args:=[_]) Tryz.func40 rfl rfl Tryz.ntmps40 rfl ?_
 have hH:=(Hp.start w).nu (New.nilO (e:=136) (sz:=2))
 replace hH:=nn1 hH
 repeat (first|refine WS_seq ?_|refine WS_region ?_|refine WL_nil ?_|refine WS_block ?_|(refine WL_r (by first|refine Run_pev rfl|refine k_len rfl (Ty.isl rfl)) rfl ?_))
 refine WS_loop (G:=(Nat) × (Option Addr) × (Nat) × (List PL)) (fun|(i,a1,c1,l)=>n-i) 9223372036854763384 (fun|(i,a1,c1,l)=>[(14,.int .i64 i),(3,.slice a1 l.length c1)]) (fun|(i,a1,c1,l),w'=>i≤n∧l.length=i-1∧(∀ p∈l,p.ok)∧Hp [] w w' [Ro 136 2 a1 l.length c1 (l.flatMap plc)]) (0,none,0,[]) ⟨rfl,rfl,trivial⟩ ⟨by omega,rfl,by simp,hH⟩ ?_
 rintro ⟨i,a1,c1,l⟩ w' σ ⟨hi,hl,hok,hH⟩ IH
 show WS _ _ _ _ _ (updL [(14,.int .i64 i),(3,.slice a1 l.length c1)] _) _
 by_cases hlt:i<n
 ·obtain ⟨e,he⟩:∃ e,(e0::es)[i]?=some e:=⟨_,List.getElem?_eq_getElem (by simp;omega)⟩
  have hv:((e0::es).map bsl)[i]?=some (.slice e.1 e.2.2.length e.2.1):=by rw [List.getElem?_map,he];rfl
  have hS2:=hS.ext0 hH.ext
  by_cases h0:i=0
  ·subst h0
   repeat (first|refine WS_seq ?_|refine WS_region ?_|refine WL_nil ?_|refine WS_block ?_|refine WS_skip ?_|refine WS_exit rfl ?_|refine WS_true rfl ?_|refine WS_yes rfl (by omega) ?_|(refine WL_r (by first|refine k_ix1 rfl rfl hS2 (by simp;omega) (Ty.sle rfl) (by omega)|refine k_loads rfl hS2 hv (Ty.shp rfl)|refine Run_pev rfl|refine k_add64 rfl rfl (by omega)) rfl ?_))
   refine IH (1,a1,c1,l) _ _ ?_ ?_ ?_ ?_
   ·simp only;omega
   ·exact ⟨rfl,rfl,trivial⟩
   ·repeat first|with_reducible apply Agr.refl|refine Agr.upd rfl ?_|refine Agr.updL rfl ?_|refine Agr.mrg rfl ?_
   ·exact ⟨by omega,hl,hok,hH⟩
  ·have he2:es[i-1]?=some e:=by
    rw [show i=(i-1)+1 by omega] at he
    simpa using he
   have hem:=List.mem_of_getElem? he2
   obtain ⟨d,A,Bb,hx,hdn,hdm,hA,hBb,_,_,hcap⟩:=hpk e hem
   have hSe:=hrd e hem
   have hel:21≤e.2.2.length:=by rw [hx,List.append_assoc,List.length_append,phd_len];omega
   obtain ⟨X,hX⟩:∃ X,xb d.bits=X:=⟨_,rfl⟩
   have hXl:X.length=119:=by rw [← hX];exact xb_len d
   have ha:=xb_a (d:=d) (by omega)
   have hb:=xb_b (d:=d) (by omega)
   rw [hX] at ha hb
   have hch:(e.2.2.drop 4).take 17=chs X:=by
    rw [hx,← hX]
    show (((([0,0,1,182]:List Nat)++chs (xb d.bits))++A++Bb).drop 4).take 17=_
    rw [List.append_assoc,List.append_assoc]
    exact List.take_left' (chs_len _)
   replace hH:=hH.nu (New.nilO (e:=5) (sz:=1))
   replace hH:=nn2 hH
   repeat (first|refine WS_seq ?_|refine WS_region ?_|refine WL_nil ?_|refine WS_block ?_|refine WS_skip ?_|refine WS_yes rfl (by omega) ?_|refine WS_no rfl (by omega) ?_|(refine WL_r (by first|refine k_ix1 rfl rfl hS2 (by simp;omega) (Ty.sle rfl) (by omega)|refine k_loads rfl hS2 hv (Ty.shp rfl)|refine k_slcN (l:=4) (h:=21) rfl rfl rfl (Ty.sle rfl) (by omega)|refine Run_pev rfl|refine k_len rfl (Ty.isl rfl)) rfl ?_))
   have hSc:=sl_sliced (l:=4) (h:=21) (sz:=1) hSe (by decide) hel hcap
   rw [List.map_drop.symm,List.map_take.symm] at hSc
   change SlA _ _ (((e.2.2.drop 4).take 17).map B) at hSc
   rw [hch] at hSc
   generalize (if e.2.1=4 then e.1 else e.1.map fun x=>x.add (4 * 1))=ac at *
   have hcl:=chs_len X
   refine WS_loop (G:=(Nat) × (Option Addr) × (Nat) × (List Bool)) (fun|(k,a2,c2,bs)=>17-k) 17163092288 (fun|(k,a2,c2,bs)=>[(24,.int .i64 k),(6,.slice a2 bs.length c2)]) (fun|(k,a2,c2,bs),w'=>k≤17∧bs.length=7*k∧bs=b7 ((chs X).take k)∧Hp [] w w' [Ro 136 2 a1 l.length c1 (l.flatMap plc),Ro 5 1 a2 bs.length c2 (bq bs)]) (0,none,0,[]) ⟨rfl,rfl,trivial⟩ ⟨by omega,rfl,by simp [b7],hH⟩ ?_
   rintro ⟨k,a2,c2,bs⟩ w' σ ⟨hk,hbl,hbs,hH⟩ IH2
   show WS _ _ _ _ _ (updL [(24,.int .i64 k),(6,.slice a2 bs.length c2)] _) _
   by_cases hkl:k<17
   ·obtain ⟨x,hx2⟩:∃ x,(chs X)[k]?=some x:=⟨_,List.getElem?_eq_getElem (by omega)⟩
    have hx3:((chs X).map B)[k]?=some (B x):=by rw [List.getElem?_map,hx2];rfl
    have hxb:=chs_byt X x (List.mem_of_getElem? hx2)
    have hSc2:=hSc.ext0 hH.ext
    repeat (first|refine WS_seq ?_|refine WS_region ?_|refine WL_nil ?_|refine WS_block ?_|refine WS_skip ?_|refine WS_yes rfl (by omega) ?_|(refine WL_r (by first|refine k_ix1 rfl rfl hSc2 (by simp [hcl]) (Ty.sle rfl) (by omega)|refine k_loads rfl hSc2 hx3 (Ty.shp rfl)|refine Run_pev rfl|refine k_conv64 rfl rfl rfl (by omega)) rfl ?_))
    refine WL_s (S_call ((rbits_spec (n:=x) (s:=7) (by omega) (by decide) (by decide))) rfl rfl ?_)
    rintro _ _ ⟨a3,c3,rfl,hN⟩
    replace hH:=hH.nu hN
    clear hN
    replace hH:=nn3 hH
    refine WL_s (H_append 1 hH rfl (Ty.sle rfl) (Ty.zer rfl) rfl (Ty.byt rfl) (by decide) rfl rfl ((hH.o 2 rfl).sl) (by simp;try omega) (by simp) (by omega) (by simp only [maxLen];omega) rfl ?_)
    try clear hH
    intro _ a4 c4 hH
    replace hH:=nn3 hH
    rw [nbits_nb] at hH
    replace hH:=hH.del 2
    replace hH:=nn2 hH
    have hbs2:bs++nb x 7=b7 ((chs X).take (k+1)):=by rw [hbs,List.take_add_one,hx2];simp [b7]
    have hbl2:(bs++nb x 7).length=bs.length+7:=by rw [List.length_append,nb_len]
    rw [← bq_app,← hbl2] at hH
    rw [← hbl2]
    generalize bs++nb x 7=bs2 at *
    repeat (first|refine WS_region ?_|refine WL_nil ?_|refine WS_inBlock ?_|(refine WL_r (by first|refine Run_pev rfl|refine k_add64 rfl rfl (by omega)) rfl ?_))
    refine IH2 (k+1,a4,c4,bs2) _ _ ?_ ?_ ?_ ?_
    ·simp only;omega
    ·exact ⟨rfl,rfl,trivial⟩
    ·repeat first|with_reducible apply Agr.refl|refine Agr.upd rfl ?_|refine Agr.updL rfl ?_|refine Agr.mrg rfl ?_
    ·exact ⟨by omega,by omega,hbs2,hH⟩
   ·obtain rfl:k=17:=by omega
    clear IH2
    have hbX:bs=X:=by rw [hbs,List.take_of_length_le (by omega),b7_chs hXl]
    subst hbX
    repeat (first|refine WS_seq ?_|refine WS_region ?_|refine WL_nil ?_|refine WS_block ?_|refine WS_exit rfl ?_|refine WS_false rfl ?_|refine lp rfl rfl ?_)
    refine WS_loop (G:=(Nat)) (fun k=>16-k) 72057576858062336 (fun k=>[(34,.int .i64 k),(9,.int .i64 (numB 0 ((bs.drop 37).take k):Nat)),(10,.int .i64 (numB 0 ((bs.drop 53).take k):Nat))]) (fun k w'=>k≤16∧Hp [] w w' [Ro 136 2 a1 l.length c1 (l.flatMap plc),Ro 5 1 a2 bs.length c2 (bq bs)]) (0) ⟨rfl,rfl,rfl,trivial⟩ ⟨by omega,hH⟩ ?_
    rintro k w' σ ⟨hk,hH⟩ IH3
    show WS _ _ _ _ _ (updL [(34,.int .i64 k),(9,.int .i64 (numB 0 ((bs.drop 37).take k):Nat)),(10,.int .i64 (numB 0 ((bs.drop 53).take k):Nat))] _) _
    by_cases hkl:k<16
    ·have e1:=numB_at (X:=bs) (o:=37) (j:=k) (by omega)
     have e2:=numB_at (X:=bs) (o:=53) (j:=k) (by omega)
     have l1:=numB_lt ((bs.drop 37).take k) 0 0 (by decide)
     have l2:=numB_lt ((bs.drop 53).take k) 0 0 (by decide)
     have l3:2 ^ (0+((bs.drop 37).take k).length)≤2 ^ 16:=Nat.pow_le_pow_right (by decide) (by simp;omega)
     have l4:2 ^ (0+((bs.drop 53).take k).length)≤2 ^ 16:=Nat.pow_le_pow_right (by decide) (by simp;omega)
     have g1:(bq bs)[37+k]?=some (B bs[37+k].toNat):=by simp [List.getElem?_eq_getElem (show 37+k<bs.length by omega)]
     have g2:(bq bs)[53+k]?=some (B bs[53+k].toNat):=by simp [List.getElem?_eq_getElem (show 53+k<bs.length by omega)]
     have t1:=Bool.toNat_le bs[37+k]
     have t2:=Bool.toNat_le bs[53+k]
     generalize numB 0 ((bs.drop 37).take k)=n1 at *
     generalize numB 0 ((bs.drop 53).take k)=n2 at *
     generalize bs[37 + k].toNat=m1 at *
     generalize bs[53 + k].toNat=m2 at *
     have hSb:=(hH.o 1 rfl).sl
     have hk1:((37:Int)+k)=((37+k:Nat):Int):=by simp
     have hk2:((53:Int)+k)=((53+k:Nat):Int):=by simp
     repeat (first|refine WS_seq ?_|refine WS_region ?_|refine WL_nil ?_|refine WS_block ?_|refine WS_skip ?_|refine WS_yes rfl (by omega) ?_|refine lp rfl rfl ?_)
     refine WS_drawE Ty.mixed 20 rfl (fun w1 hx1=>?_)
     refine wp 0 hx1 rfl rfl rfl rfl ?_
     refine wt 1 hx1 rfl rfl rfl (fun w' hw'=>by refine k_mul64 rfl rfl (by omega)) ?_
     refine wp 2 hx1 rfl rfl rfl rfl ?_
     refine wp 3 hx1 rfl rfl rfl rfl ?_
     refine wt 4 hx1 rfl rfl rfl (fun w' hw'=>by refine (k_add64 rfl rfl (by omega)).is (congrArg (Value.int .i64) hk1)) ?_
     refine wt 5 hx1 rfl rfl rfl (fun w' hw'=>by refine k_ix1 rfl rfl (hSb.ext0 hw') (by simp;try omega) (Ty.sle rfl) (by omega)) ?_
     refine wt 6 hx1 rfl rfl rfl (fun w' hw'=>by refine k_loads rfl (hSb.ext0 hw') g1 (Ty.shp rfl)) ?_
     refine wt 7 hx1 rfl rfl rfl (fun w' hw'=>by refine k_convI rfl rfl rfl (by omega)) ?_
     refine wt 8 hx1 rfl rfl rfl (fun w' hw'=>by refine k_add64 rfl rfl (by omega)) ?_
     refine wp 9 hx1 rfl rfl rfl rfl ?_
     refine wt 10 hx1 rfl rfl rfl (fun w' hw'=>by refine k_mul64 rfl rfl (by omega)) ?_
     refine wp 11 hx1 rfl rfl rfl rfl ?_
     refine wp 12 hx1 rfl rfl rfl rfl ?_
     refine wt 13 hx1 rfl rfl rfl (fun w' hw'=>by refine (k_add64 rfl rfl (by omega)).is (congrArg (Value.int .i64) hk2)) ?_
     refine wt 14 hx1 rfl rfl rfl (fun w' hw'=>by refine k_ix1 rfl rfl (hSb.ext0 hw') (by simp;try omega) (Ty.sle rfl) (by omega)) ?_
     refine wt 15 hx1 rfl rfl rfl (fun w' hw'=>by refine k_loads rfl (hSb.ext0 hw') g2 (Ty.shp rfl)) ?_
     refine wt 16 hx1 rfl rfl rfl (fun w' hw'=>by refine k_convI rfl rfl rfl (by omega)) ?_
     refine wt 17 hx1 rfl rfl rfl (fun w' hw'=>by refine k_add64 rfl rfl (by omega)) ?_
     refine wp 18 hx1 rfl rfl rfl rfl ?_
     refine wp 19 hx1 rfl rfl rfl rfl ?_
     refine WA_done (by kernel_rfl) ?_
     replace hH:=hH.ext0 hx1
     repeat (first|refine WS_region ?_|refine WL_nil ?_|refine WS_inBlock ?_|(refine WL_r (by first|refine Run_pev rfl|refine k_add64 rfl rfl (by omega)) rfl ?_))
     refine IH3 (k+1) _ _ ?_ ?_ ?_ ?_
     ·omega
     ·exact ⟨rfl,congrArg (Value.int .i64) (by omega),congrArg (Value.int .i64) (by omega),trivial⟩
     ·repeat first|with_reducible apply Agr.refl|refine Agr.upd rfl ?_|refine Agr.updL rfl ?_|refine Agr.mrg rfl ?_
     ·exact ⟨by omega,hH⟩
    ·obtain rfl:k=16:=by omega
     clear IH3
     rw [ha,hb]
     repeat (first|refine WS_seq ?_|refine WS_region ?_|refine WL_nil ?_|refine WS_exit rfl ?_|refine WS_false rfl ?_|(refine WL_r (by first|refine k_buildA (cs:=[.int .i64 d.n,.int .i64 d.m]) (Ty.zer rfl) (Ty.arr rfl) rfl|refine Run_pev rfl) rfl ?_))
     refine WL_s (H_lit (out:=[.int .i64 d.n,.int .i64 d.m]) hH (Ty.sle rfl) (Ty.zer rfl) rfl rfl rfl (by decide) rfl ?_)
     try clear hH
     intro _ blit hH
     replace hH:=nn3 hH
     refine WL_s (H_append 0 hH rfl (Ty.sle rfl) (Ty.zer rfl) rfl (Ty.byt rfl) (by decide) rfl rfl ((hH.b 2 rfl).sl0) (by simp;try omega) (by simp) (by omega) (by simp only [maxLen];omega) rfl ?_)
     try clear hH
     intro _ a9 c9 hH
     replace hH:=nn3 hH
     replace hH:=hH.del 2
     replace hH:=nn2 hH
     repeat (first|refine WS_region ?_|refine WL_nil ?_|refine WS_inBlock ?_|(refine WL_r (by first|refine Run_pev rfl|refine k_add64 rfl rfl (by omega)) rfl ?_))
     replace hH:=hH.del 1
     replace hH:=nn1 hH
     have hes:l.length+1=(l++[((d.n,d.m):PL)]).length:=by simp
     have hec:l.flatMap plc++[.int .i64 d.n,.int .i64 d.m]=(l++[((d.n,d.m):PL)]).flatMap plc:=by simp
     have hok2:∀ p∈l++[((d.n,d.m):PL)],p.ok:=fun p hp=>by
      rcases List.mem_append.1 hp with h|h
      ·exact hok p h
      ·simp at h;subst h
       exact ⟨by simp only;omega,by simp only;omega⟩
     rw [hes,hec] at hH
     rw [hes]
     generalize l++[((d.n,d.m):PL)]=l2 at *
     refine IH (i+1,a9,c9,l2) _ _ ?_ ?_ ?_ ?_
     ·simp only;omega
     ·exact ⟨rfl,rfl,trivial⟩
     ·repeat first|with_reducible apply Agr.refl|refine Agr.upd rfl ?_|refine Agr.updL rfl ?_|refine Agr.mrg rfl ?_
     ·exact ⟨by omega,by omega,hok2,hH⟩
 ·obtain rfl:i=n:=by omega
  repeat (first|refine WS_seq ?_|refine WS_region ?_|refine WL_nil ?_|refine WS_exit rfl ?_|refine WS_no rfl (by omega) ?_|refine lp rfl rfl ?_)
  exact WS_ret1 Tryz.func40 rfl ⟨a1,c1,l,rfl,by omega,hok,(hH.o 0 rfl).sl,hH.ext⟩
end Go.Proofs.YtpbiicegmcpkpaaGreat
