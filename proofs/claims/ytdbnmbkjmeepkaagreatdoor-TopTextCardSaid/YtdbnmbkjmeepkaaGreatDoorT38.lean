/- A part of the proof of the card of TopText; no condition. -/
import Derived.Test.YtdbnmbkjmeepkaaGreatDoorT37
namespace Go.Proofs.YtdbnmbkjmeepkaaGreatDoor
open Go Go.K Go.P Go.RowKit Go.Proofs
def okW (y:cV):Prop:=y.length≤24∧∀ b∈y,b≠10∧b≠32
def LH (x:List cV):Prop:=x≠[]∧∀ y∈x,okW y
instance (y:cV):Decidable (okW y):=by unfold okW;exact inferInstance
theorem eO {n:Int} (h:-1000000<n∧n<1000000):okW (Lib.itoa n):=by
 refine ⟨Nat.le_trans (wL (k:=6) (by omega) (by decide)) (by decide),fun b hb=>?_⟩
 have h1:=Bu n b hb
 constructor
 ·rintro rfl
  exact absurd h1 (by decide)
 ·rintro rfl
  exact absurd h1 (by decide)
theorem AV {x y:cV} {c:UInt8} (hx:okW x) (hy:okW y) (hc:c≠10∧c≠32) (hl:x.length+y.length<24):okW (x++c::y):=by
 refine ⟨by rw [List.length_append,List.length_cons];omega,fun b hb=>?_⟩
 rcases List.mem_append.1 hb with hb|hb
 ·exact hx.2 b hb
 ·rcases List.mem_cons.1 hb with rfl|hb
  ·exact hc
  ·exact hy.2 b hb
theorem uW {n:Int} (h:-1000000<n∧n<1000000):(Lib.itoa n).length≤7:=wL (k:=6) (by omega) (by decide)
theorem Mf:∀ k,k<5→okW (kw k):=by decide
theorem qG {u:Value} (hu:VG u):okW (dD u):=by
 obtain ⟨x,y,hx,hy,rfl⟩:=hu
 have e:dD (CV x y)=Lib.itoa x++44::Lib.itoa y:=by
  unfold dD
  rw [show (lV (CV x y)).1=FN x from rfl,show (lV (CV x y)).2=FN y from rfl,eW x (by omega),eW y (by omega)]
 have h1:=uW (n:=x) (by omega)
 have h2:=uW (n:=y) (by omega)
 rw [e]
 exact AV (eO (by omega)) (eO (by omega)) (by decide) (by omega)
theorem KA {k i:Nat} {n:Int} (hk:k<1000) (hi:i<1000) (hn:-2047≤n∧n≤2047):okW (Gg k i n):=by
 have h1:=uW (n:=(k:Nat)) (by omega)
 have h2:=uW (n:=(i:Nat)) (by omega)
 have h3:=uW (n:=n) (by omega)
 unfold Gg
 refine AV (eO (by omega)) (AV (eO (by omega)) (eO (by omega)) (by decide) (by omega)) (by decide) ?_
 rw [List.length_append,List.length_cons]
 omega
theorem E4 {L:List Int} (hL:∀ x∈L,-2047≤x∧x≤2047):∀ j,j≤384→∀ y∈qQ L j,okW y
 | 0,_,y,hy=>by cases hy
 | j+1,hj,y,hy=>by
  unfold qQ at hy
  rcases List.mem_append.1 hy with hy|hy
  ·exact E4 hL j (by omega) y hy
  ·split at hy
   ·obtain rfl:=List.mem_singleton.1 hy
    refine KA (by omega) (by omega) ?_
    rw [List.getD_eq_getElem?_getD]
    by_cases h:j<L.length
    ·rw [List.getElem?_eq_getElem h]
     exact hL _ (List.getElem_mem h)
    ·rw [List.getElem?_eq_none (by omega)]
     decide
   ·cases hy
theorem MS {m:MB} (hm:m.ok):LH (mC m):=by
 have hL:∀ x∈m.L,-2047≤x∧x≤2047:=fun x hx=>by
  obtain ⟨i,hi⟩:=List.mem_iff_getElem?.1 hx
  exact (hm.lv i x hi).1
 have hq:=hm.q1
 refine ⟨by simp [mC],fun y hy=>?_⟩
 unfold mC at hy
 rcases List.mem_cons.1 hy with rfl|hy
 ·exact Mf m.k hm.k5
 rcases List.mem_append.1 hy with hy|hy
 ·unfold wZ at hy
  split at hy
  ·simp only [List.mem_cons,List.not_mem_nil,or_false] at hy
   rcases hy with rfl|rfl
   ·decide
   ·exact eO (by omega)
  ·split at hy
   ·obtain rfl:=List.mem_singleton.1 hy
    exact qG hm.g0
   ·split at hy
    ·simp only [List.mem_cons,List.not_mem_nil,or_false] at hy
     rcases hy with rfl|rfl|rfl|rfl
     ·exact qG hm.g0
     ·exact qG hm.g1
     ·exact qG hm.g2
     ·exact qG hm.g3
    ·cases hy
 rcases List.mem_append.1 hy with hy|hy
 ·split at hy
  ·obtain rfl:=List.mem_singleton.1 hy
   decide
  ·cases hy
 ·exact E4 hL 384 (Nat.le_refl _) y hy
theorem FC (m:MB):(mC m).length≤390:=by
 have h1:=nW m.L 384
 have h2:(wZ m).length≤4:=by
  unfold wZ
  repeat' split
  all_goals simp
 have h3:(if m.e then [DC] else []).length≤1:=by split<;>simp
 rw [mC,List.length_cons,List.length_append,List.length_append]
 omega
theorem Bd {l:List Nat} (hb:gR l):LH (eJ::gT l):=by
 refine ⟨by simp,fun y hy=>?_⟩
 rcases List.mem_cons.1 hy with rfl|hy
 ·decide
 ·obtain ⟨n,hn,rfl⟩:=List.mem_map.1 hy
  have:=hb n hn
  exact eO (by omega)
theorem join_one {x c:cV}:Lib.join [x] c=x:=by simp [Lib.join,List.intercalate]
theorem wB:∀ {x:cV} {r:List cV},(∀ y∈x::r,y.length≤24)→(Lib.join (x::r) [32]).length+1≤25*(r.length+1)
 | x,[],h=>by
  have h1:=h x (by simp)
  rw [join_one,List.length_nil]
  omega
 | x,y::r,h=>by
  have h1:=h x (by simp)
  have h2:=wB (x:=y) (r:=r) (fun z hz=>h z (by simp [hz]))
  rw [kZ,List.length_append,List.length_cons,List.length_cons]
  omega
theorem Jh {x:List cV} (h:LH x):(Nq x).length≤25*x.length:=by
 cases x with
 | nil=>exact absurd rfl h.1
 | cons y r =>
  have:=wB (x:=y) (r:=r) (fun z hz=>(h.2 z hz).1)
  rw [List.length_append,List.length_singleton,List.length_cons]
  exact this
theorem IB:∀ {ls:List (List cV)},(∀ x∈ls,LH x)→(tx ls).length≤25*ls.flatten.length
 | [],_=>by simp
 | x::ls,h=>by
  have h1:=Jh (h x (by simp))
  have h2:=IB (ls:=ls) (fun z hz=>h z (by simp [hz]))
  simp only [tx,List.flatMap_cons,List.flatten_cons,List.length_append] at *
  omega
theorem E2:∀ {l:List MB},(l.map mC).flatten.length≤390*l.length
 | []=>by simp
 | m::l=>by
  have h1:=FC m
  have h2:=E2 (l:=l)
  simp only [List.map_cons,List.flatten_cons,List.length_append,List.length_cons] at *
  omega
theorem zC {inter:Bool} {hq:Int}:∀ {n e:Nat} {l:List GR},Dh inter hq n l e→((l.map fun g=>(g.f,g.ms)).flatMap BB).flatten.length+393*n≤393*e
 | n,e,[],h=>by
  obtain rfl:n=e:=h
  simp
 | n,e,g::l,h=>by
  have h1:=zC h.2.2.2
  have h2:=E2 (l:=g.ms)
  have h3:=h.2.1
  simp only [List.map_cons,List.flatMap_cons,List.flatten_append,List.length_append] at *
  rw [BB,List.flatten_cons,List.length_append]
  simp only [List.length_cons,List.length_nil]
  omega
theorem B0 {C R:Nat} (hCR:C*R≤9):∀ {l:List PR},(∀ p∈l,∃ i,p.ok C R i)→((l.map PR.eP).flatMap sI).flatten.length≤3542*l.length
 | [],_=>by simp
 | p::l,h=>by
  obtain ⟨i,hp⟩:=h p (by simp)
  have h1:=zC hp.gs
  have h2:=B0 hCR (l:=l) (fun q hq=>h q (by simp [hq]))
  simp only [List.map_cons,List.flatMap_cons,List.flatten_append,List.length_append,List.length_cons] at *
  rw [sI,List.flatten_cons,List.length_append]
  simp only [List.length_cons,List.length_nil]
  have h4:393*(C*R)≤3537:=by omega
  omega
theorem LV {C R:Nat} {s:ST} (hs:s.ok C R):∀ x∈uU s.eP,LH x:=by
 intro x hx
 have hgd:=SH.D5 hs.err
 rcases List.mem_append.1 hx with hx|hx
 ·rcases List.mem_cons.1 hx with rfl|hx
  ·refine ⟨by simp,fun y hy=>?_⟩
   simp only [List.mem_cons,List.not_mem_nil,or_false] at hy
   rcases hy with rfl|rfl|rfl|rfl
   ·decide
   ·exact eO (by omega)
   ·exact eO (by omega)
   ·split<;>decide
  ·split at hx
   ·simp only [List.mem_cons,List.not_mem_nil,or_false] at hx
    rcases hx with rfl|rfl
    ·exact Bd hs.ho.ba
    ·exact Bd hs.ho.bb
   ·cases hx
 ·obtain ⟨cp,hcp,hx⟩:=List.mem_flatMap.1 hx
  obtain ⟨p,hpm,rfl⟩:=List.mem_map.1 hcp
  obtain ⟨i,hpi⟩:=List.mem_iff_getElem?.1 hpm
  have hpo:=hs.ps i p hpi
  have hi:=(List.getElem?_eq_some_iff.1 hpi).1
  have hle:=hs.len
  have hid:=hpo.id
  have hqp:=rN hpo.err
  rcases List.mem_cons.1 hx with rfl|hx
  ·refine ⟨by simp,fun y hy=>?_⟩
   simp only [List.mem_cons,List.not_mem_nil,or_false] at hy
   rcases hy with rfl|rfl|rfl|rfl|rfl
   ·decide
   ·exact eO (by omega)
   ·split<;>decide
   ·split<;>decide
   ·exact eO (by omega)
  ·obtain ⟨cg,hcg,hx⟩:=List.mem_flatMap.1 hx
   obtain ⟨g,hgm,rfl⟩:=List.mem_map.1 hcg
   obtain ⟨hgf,hch⟩:=Av hpo.gs hgm
   obtain ⟨_,_,hCR⟩:=qK hs.err hs.c hs.r
   rcases List.mem_cons.1 hx with rfl|hx
   ·refine ⟨by simp,fun y hy=>?_⟩
    simp only [List.mem_cons,List.not_mem_nil,or_false] at hy
    rcases hy with rfl|rfl|rfl
    ·decide
    ·exact eO (by omega)
    ·exact eO (by omega)
   ·obtain ⟨m,hm,rfl⟩:=List.mem_map.1 hx
    exact MS (rJ hch m hm)
theorem Jy {C R:Nat} {s:ST} (hs:s.ok C R) (hC:C≤3) (hR:R≤3) (h6:s.ps.length≤6):(tx (uU s.eP)).length≤1000000:=by
 have hCR:C*R≤9:=Nat.mul_le_mul hC hR
 refine Nat.le_trans (IB (LV hs)) ?_
 have h1:=B0 hCR (l:=s.ps) (fun p hp=>by
  obtain ⟨i,hi⟩:=List.mem_iff_getElem?.1 hp
  exact ⟨i,hs.ps i p hi⟩)
 have h2:(JM s.h).flatten.length≤134:=by
  unfold JM
  split
  ·simp [hs.ho.la,hs.ho.lb]
  ·simp
 rw [uU,List.flatten_append,List.length_append]
 have h3:((ST.eP s).ps.flatMap sI).flatten.length≤3542*s.ps.length:=h1
 have h4:(JM (ST.eP s).h).flatten.length≤134:=h2
 omega
theorem OG {C R:Nat} {s:ST} (hs:s.ok C R):∀ x∈uU s.eP,x.length≤100000:=by
 intro x hx
 rcases List.mem_append.1 hx with hx|hx
 ·rcases List.mem_cons.1 hx with rfl|hx
  ·simp
  ·split at hx
   ·simp only [List.mem_cons,List.not_mem_nil,or_false] at hx
    rcases hx with rfl|rfl
    ·rw [List.length_cons,List.length_map,hs.ho.la];decide
    ·rw [List.length_cons,List.length_map,hs.ho.lb];decide
   ·cases hx
 ·obtain ⟨cp,_,hx⟩:=List.mem_flatMap.1 hx
  rcases List.mem_cons.1 hx with rfl|hx
  ·simp
  ·obtain ⟨cg,_,hx⟩:=List.mem_flatMap.1 hx
   rcases List.mem_cons.1 hx with rfl|hx
   ·simp
   ·obtain ⟨m,_,rfl⟩:=List.mem_map.1 hx
    have:=FC m
    omega
theorem E5:∀ (ls:List (List cV)),tx ls=Lib.join ((ls.map fun x=>Lib.join x [32])++[[]]) [10]
 | []=>rfl
 | [x]=>by
  show Nq x++[]=Lib.join [Lib.join x [32],[]] [10]
  rw [kZ,join_one]
  simp
 | x::y::ls=>by
  have h:=E5 (y::ls)
  simp only [List.map_cons,List.cons_append] at *
  rw [kZ,← h]
  simp [tx]
theorem Ee {c:UInt8} (hc:c≠32):∀ {x:cV} {r:List cV},(∀ y∈x::r,c ∉ y)→c ∉ Lib.join (x::r) [32]
 | x,[],h=>by
  rw [join_one]
  exact h x (by simp)
 | x,y::r,h=>by
  rw [kZ]
  have h1:=h x (by simp)
  have h2:=Ee hc (x:=y) (r:=r) (fun z hz=>h z (by simp [hz]))
  simp [h1,h2,hc]
theorem J9 {x:List cV} (h:LH x):(10:UInt8) ∉ Lib.join x [32]:=by
 cases x with
 | nil=>exact absurd rfl h.1
 | cons y r=>exact Ee (by decide) (fun z hz hb=>((h.2 z hz).2 10 hb).1 rfl)
theorem Ki {x:List cV} (h:LH x):∀ y∈x,(32:UInt8) ∉ y:=fun y hy hb=>((h.2 y hy).2 32 hb).2 rfl
theorem ST.ok.cs {C R:Nat} {s:ST} (hs:s.ok C R):(1≤s.h.c∧s.h.c≤8)∧(1≤s.h.r∧s.h.r≤8)∧(s.h.wt=false→s.h.A=List.replicate 64 0∧s.h.Bb=List.replicate 64 0):=by
 obtain ⟨h1,h2,h3,h4⟩:=SH.D5 hs.err
 refine ⟨h1,h2,fun hw=>⟨?_,?_⟩⟩
 ·exact List.eq_replicate_iff.2 ⟨hs.ho.la,fun x hx=>h4 hw x (List.mem_append_left _ hx)⟩
 ·exact List.eq_replicate_iff.2 ⟨hs.ho.lb,fun x hx=>h4 hw x (List.mem_append_right _ hx)⟩
theorem E7 (l:cV):(⟨l.toArray⟩:ByteArray).toList=l:=by
 have h:=Aj (l.map (·.toNat))
 have e:strOf (l.map (·.toNat))=(⟨l.toArray⟩:ByteArray):=by
  unfold strOf
  simp [List.map_map,Function.comp_def]
 rw [e] at h
 rw [h,List.map_map]
 simp [Function.comp_def]
theorem iV {P:Program} {ρ:Fr} {w:World} {dst:Option Nat} {ty t u:TypeId} {pos:String} {af:Array Edge} {gd:Option (Nat × Bool)} {x y:Operand} {l m:cV} (hx:ev ρ x=sV l) (hy:ev ρ y=sV m):cU P ρ ⟨dst,.binOp .eql t x y u,ty,pos,af,gd⟩ w (.bool (l == m)) w :=
 dB hx hy (aZ rfl) (by
  show (Op.stringOp .eql ⟨l.toArray⟩ ⟨m.toArray⟩).run P w=_
  simp only [Op.stringOp,Sem.run_pure,E7])
theorem BP {P:Program} {ρ:Fr} {w:World} {dst:Option Nat} {ty t u:TypeId} {pos:String} {af:Array Edge} {gd:Option (Nat × Bool)} {x y:Operand} {l m:cV} (hx:ev ρ x=sV l) (hy:ev ρ y=sV m):cU P ρ ⟨dst,.binOp .neq t x y u,ty,pos,af,gd⟩ w (.bool (!(l == m))) w :=
 dB hx hy (aZ rfl) (by
  show (Op.stringOp .neq ⟨l.toArray⟩ ⟨m.toArray⟩).run P w=_
  simp only [Op.stringOp,Sem.run_pure,E7])
theorem nil_eq {P:Program} {w:World} {t:TypeId} {ms:Array (String × TypeId)} (ht:P.underlying t=some (.interface ms)):∀ d,(Op.equalIn (d+1) t .nilIface .nilIface).run P w=.ok true w:=fun d=>by
 rw [Op.equalIn]
 simp only [Sem.run_bind,run_underlying ht,Result.andThen_ok,Sem.run_pure]
theorem IM {P:Program} {ρ:Fr} {w:World} {dst:Option Nat} {ty t u:TypeId} {pos:String} {af:Array Edge} {gd:Option (Nat × Bool)} {x:Operand} {ms:Array (String × TypeId)} (hx:ev ρ x=.nilIface) (ht:P.underlying t=some (.interface ms)):cU P ρ ⟨dst,.binOp .neq t x (.const .nilIface) u,ty,pos,af,gd⟩ w (.bool false) w :=
 dB (b:=.nilIface) hx rfl (by cases x<;>rfl) (by
  have h:(Op.equal t .nilIface .nilIface).run P w=.ok true w:=nil_eq ht _
  show (do pure (.bool (!(← Op.equal t .nilIface .nilIface))):Sem Value).run P w=_
  simp only [Sem.run_bind,h,Result.andThen_ok,Sem.run_pure,Bool.not_true])
theorem qF (l:cV):(!(l == l))=false:=by simp
theorem dE {n lo hi:Int} {v:Value} {w:World} (hg:GL w) (h:lo≤n∧n≤hi) (hb:-1000000≤n∧n≤1000000):aX Tryz.prog 40 #[v,sV (Lib.itoa n),.int .i64 lo,.int .i64 hi] w fun u w'=>u=.int .i64 n∧Ext [] w w':=by
 refine aL (args:=[_,_,_,_]) Tryz.func40 rfl rfl Tryz.ntmps40 rfl ?_
 have hH:=Hp.start w
 have hl:=wL (n:=n) (k:=7) (by omega) (by decide)
 refine aK ?_
 refine aO ?_
 refine aA (aC ((DY (n:=n) (by omega))) rfl rfl ?_)
 rintro _ _ ⟨rfl,hE0⟩
 replace hH:=hH.aH hE0
 clear hE0
 replace hH:=aI hH
 repeat (first|refine aR ?_|(refine aD (by refine IM rfl Tryz.underlying77) rfl ?_)|refine aT ?_)
 refine aO ?_
 refine aA (aC ((uQ (n:=n) (hg.ext hH.ext) (by omega))) rfl rfl ?_)
 rintro _ _ ⟨rfl,hE0⟩
 replace hH:=hH.aH hE0
 clear hE0
 replace hH:=aI hH
 repeat (first|refine aR ?_|(refine aD (by refine (BP rfl rfl).is (congrArg Value.bool (qF _))) rfl ?_)|refine aT ?_)
 exact aM Tryz.func40 rfl ⟨rfl,hH.ext⟩
theorem IU {l m:cV} (h:l≠m):(l == m)=false:=by simpa using h
theorem lH {b:Bool} {y n:cV} {v:Value} {w:World} (h:n≠y):aX Tryz.prog 41 #[v,sV (if b then y else n),sV y,sV n] w fun u w'=>u=.bool b∧Ext [] w w':=by
 refine aL (args:=[_,_,_,_]) Tryz.func41 rfl rfl Tryz.ntmps41 rfl ?_
 have hH:=Hp.start w
 cases b with
 | true =>
  repeat (first|refine aR ?_|(refine aD (by first|refine (BP (l:=y) (m:=y) rfl rfl).is (congrArg Value.bool (qF _))|refine (iV (l:=y) (m:=y) rfl rfl).is (congrArg Value.bool (beq_self_eq_true _))) rfl ?_)|refine aT ?_)
  exact aM Tryz.func41 rfl ⟨rfl,hH.ext⟩
 | false =>
  have h1:(!(n == y))=true:=by rw [IU h];rfl
  repeat (first|refine aR ?_|(refine aD (by first|refine (BP (l:=n) (m:=y) rfl rfl).is (congrArg Value.bool h1)|refine (BP (l:=n) (m:=n) rfl rfl).is (congrArg Value.bool (qF _))|refine (iV (l:=n) (m:=y) rfl rfl).is (congrArg Value.bool (IU h))) rfl ?_)|refine aT ?_)
  exact aM Tryz.func41 rfl ⟨rfl,hH.ext⟩
theorem ME {x y:Int} (hx:-31≤x∧x≤31) (hy:-31≤y∧y≤31):dD (CV x y)=Lib.itoa x++44::Lib.itoa y:=by
 unfold dD
 rw [show (lV (CV x y)).1=FN x from rfl,show (lV (CV x y)).2=FN y from rfl,eW x (by omega),eW y (by omega)]
theorem A6 {n:Int} {c:UInt8} (hc:c.toNat≠45∧(c.toNat<48∨57<c.toNat)):c ∉ Lib.itoa n:=fun h=>by
 rcases Bu n c h with h|h<;>omega
theorem jZ {u:Value} {v:Value} {w:World} (hg:GL w) (hu:VG u):aX Tryz.prog 73 #[v,sV (dD u)] w fun z w'=>z=u∧Ext [] w w':=by
 obtain ⟨x,y,hx,hy,rfl⟩:=hu
 refine aL (args:=[_,_]) Tryz.func73 rfl rfl Tryz.ntmps73 rfl ?_
 have hH:=Hp.start w
 have h1:=Lib.itoa_length_le x (by omega) (by omega)
 have h2:=Lib.itoa_length_le y (by omega) (by omega)
 rw [ME hx hy]
 refine aK ?_
 refine aO ?_
 refine aA (aC ((rX (c:=44) (a:=Lib.itoa x) (b:=Lib.itoa y) hg (A6 (by decide)) (by simp;omega))) rfl rfl ?_)
 rintro _ _ ⟨rfl,hE0⟩
 replace hH:=hH.aH hE0
 clear hE0
 replace hH:=aI hH
 refine aK ?_
 refine aO ?_
 refine aA (aC ((dE (n:=x) (hg.ext hH.ext) hx (by omega))) rfl rfl ?_)
 rintro _ _ ⟨rfl,hE0⟩
 replace hH:=hH.aH hE0
 clear hE0
 replace hH:=aI hH
 refine aK ?_
 refine aO ?_
 refine aA (aC ((dE (n:=y) (hg.ext hH.ext) hy (by omega))) rfl rfl ?_)
 rintro _ _ ⟨rfl,hE0⟩
 replace hH:=hH.aH hE0
 clear hE0
 replace hH:=aI hH
 refine aK ?_
 refine aO ?_
 refine aA (aC (nG) rfl rfl ?_)
 rintro _ _ ⟨rfl,rfl⟩
 refine aK ?_
 exact aM Tryz.func73 rfl ⟨rfl,hH.ext⟩
def Dx (L:List Int):Nat→List Nat
 | 0=>[]
 | j+1=>Dx L j++(if L.getD j 0≠0 then [j] else [])
abbrev lw (L:List Int) (j:Nat):cV:=Gg (j / 64) (j % 64) (L.getD j 0)
theorem AM (L:List Int):∀ n,qQ L n=(Dx L n).map (lw L)
 | 0=>rfl
 | j+1=>by
  rw [qQ,Dx,List.map_append,AM L j]
  split<;>simp [lw]
theorem EX {L:List Int}:∀ {n j:Nat},j∈Dx L n ↔ j<n∧L.getD j 0≠0
 | 0,j=>by simp [Dx]
 | n+1,j=>by
  rw [Dx,List.mem_append,EX (n:=n)]
  by_cases h:L.getD n 0≠0
  ·rw [if_pos h]
   simp only [List.mem_singleton]
   constructor
   ·rintro (h1|rfl)
    ·exact ⟨by omega,h1.2⟩
    ·exact ⟨by omega,h⟩
   ·rintro ⟨h1,h2⟩
    by_cases hj:j=n
    ·exact .inr hj
    ·exact .inl ⟨by omega,h2⟩
  ·rw [if_neg h]
   simp only [List.not_mem_nil,or_false]
   constructor
   ·rintro ⟨h1,h2⟩
    exact ⟨by omega,h2⟩
   ·rintro ⟨h1,h2⟩
    refine ⟨?_,h2⟩
    by_cases hj:j=n
    ·subst hj;exact absurd h2 h
    ·omega
theorem Hr (L:List Int):∀ n,(Dx L n).Pairwise (·<·)
 | 0=>.nil
 | n+1=>by
  rw [Dx,List.pairwise_append]
  refine ⟨Hr L n,?_,fun a ha b hb=>?_⟩
  ·split<;>simp
  ·have:=(EX.1 ha).1
   split at hb
   ·simp at hb;omega
   ·cases hb
def Lt (L:List Int) (nz:List Nat) (t:Nat):List Int:=(nz.take t).foldl (fun l j=>l.set j (L.getD j 0)) (List.replicate 384 0)
theorem BV {L:List Int}:∀ {nz:List Nat} {l:List Int} {i:Nat},i<l.length→(nz.foldl (fun l j=>l.set j (L.getD j 0)) l)[i]?=if i∈nz then some (L.getD i 0) else l[i]?
 | [],l,i,_=>by simp
 | j::nz,l,i,hi=>by
  rw [List.foldl_cons,BV (by rw [List.length_set];exact hi),List.getElem?_set]
  by_cases h1:i∈nz
  ·rw [if_pos h1,if_pos (by simp [h1])]
  ·rw [if_neg h1]
   by_cases h2:j=i
   ·subst h2
    rw [if_pos rfl,if_pos hi,if_pos (by simp)]
   ·rw [if_neg h2,if_neg (by simp [h1];omega)]
theorem By {L:List Int}:∀ {nz:List Nat} {l:List Int},(nz.foldl (fun l j=>l.set j (L.getD j 0)) l).length=l.length
 | [],_=>rfl
 | j::nz,l=>by rw [List.foldl_cons,By,List.length_set]
theorem Ih (L:List Int) (nz:List Nat) (t:Nat):(Lt L nz t).length=384:=by rw [Lt,By,List.length_replicate]
theorem Je {L:List Int} {nz:List Nat} {t j:Nat} (h:nz[t]?=some j):(Lt L nz t).set j (L.getD j 0)=Lt L nz (t+1):=by
 rw [Lt,Lt,List.take_add_one,h,List.foldl_append]
 rfl
theorem NJ {L:List Int} (hl:L.length=384):Lt L (Dx L 384) (Dx L 384).length=L:=by
 refine List.ext_getElem? (fun i=>?_)
 by_cases hi:i<384
 ·have hr:L[i]?=some L[i]:=List.getElem?_eq_getElem (by omega)
  rw [Lt,List.take_length,BV (by rw [List.length_replicate];exact hi),hr]
  have hg:L.getD i 0=L[i]:=by rw [List.getD_eq_getElem?_getD,List.getElem?_eq_getElem (by omega)];rfl
  split
  ·rw [hg]
  ·rename_i h
   rw [List.getElem?_replicate,if_pos hi]
   by_cases h0:L.getD i 0=0
   ·rw [← hg,h0]
   ·exact absurd (EX.2 ⟨hi,h0⟩) h
 ·rw [List.getElem?_eq_none (by rw [Ih];omega),List.getElem?_eq_none (by omega)]
theorem HE {k:Nat} {q:Int} {u0 u1 u2 u3:Value} {e:Bool} {L:List Int} {j:Nat} {n:Int}:(eF k q u0 u1 u2 u3 e L).set (7+j) (.int .i64 n)=eF k q u0 u1 u2 u3 e (L.set j n):=by
 rw [Nat.add_comm]
 simp [eF,List.map_set]
set_option maxRecDepth 20000 in
set_option maxHeartbeats 8000000 in
theorem A3 {k:Nat} {q:Int} {u0 u1 u2 u3 v:Value} {e:Bool} {L:List Int} {bm n c:Nat} {a:Option Addr} {w:World} (hg:∀ u,Ext [bm] w u→GL u) (hl:L.length=384) (hb:∀ x∈L,-2047≤x∧x≤2047)
  (hS:cI w a (fV (qQ L 384))) (hn:(qQ L 384).length=n) (hB:(Rb bm 95 (eF k q u0 u1 u2 u3 e (List.replicate 384 0)).toArray).holds w) (hd:bm ∉ dI a) :
  aX Tryz.prog 74 #[v,pt bm,.slice a n c] w fun z w'=>z=.tuple #[]∧jA (Rb bm 95 (eF k q u0 u1 u2 u3 e (List.replicate 384 0)).toArray) (Rb bm 95 (eF k q u0 u1 u2 u3 e L).toArray) w w':=by
 refine aL (args:=[_,_,_]) Tryz.func74 rfl rfl Tryz.ntmps74 rfl ?_
 have hH:=Hp.fI hB
 have hwl:(fV (qQ L 384)).length=n:=by rw [List.length_map,hn]
 have hn4:n≤384:=by rw [← hn];exact nW L 384
 have hml:∀ L':List Int,L'.length=384→(eF k q u0 u1 u2 u3 e L').length=391:=fun _ h=>bL h
 have hnn:(Dx L 384).length=n:=by rw [← hn,AM,List.length_map]
 refine aK ?_
 refine aV (G:=(Nat) × (Int)) (fun|(t,last)=>n-t) 302231454903657292889920 (fun|(t,last)=>[(6,.int .i64 last),(20,.int .i64 t)]) (fun|(t,last),w'=>t≤n∧(-1≤last∧last≤384)∧(∀ j,(Dx L 384)[t]?=some j→last<(j:Int))∧Hp [bm] w w' [Rb bm 95 (eF k q u0 u1 u2 u3 e (Lt L (Dx L 384) t)).toArray]) (0,-1) ⟨rfl,rfl,trivial⟩ ⟨by omega,by omega,fun j _=>by omega,hH⟩ ?_
 rintro ⟨t,last⟩ w' σ ⟨ht,hla,hlj,hH⟩ IH
 show WS _ _ _ _ _ (bQ [(6,.int .i64 last),(20,.int .i64 t)] _) _
 by_cases htn:t<n
 ·obtain ⟨j,hj⟩:∃ j,(Dx L 384)[t]?=some j:=⟨_,List.getElem?_eq_getElem (by omega)⟩
  have hjm:=EX.1 (List.mem_of_getElem? hj)
  have hlast:=hlj j hj
  obtain ⟨x,hx⟩:∃ x,L.getD j 0=x:=⟨_,rfl⟩
  have hx0:x≠0:=by rw [← hx];exact hjm.2
  have hxm:x∈L:=by
   rw [← hx,List.getD_eq_getElem?_getD,List.getElem?_eq_getElem (by omega)]
   exact List.getElem_mem _
  have hxb:=hb x hxm
  have hws:(fV (qQ L 384))[t]?=some (sV (lw L j)):=by
   rw [AM]
   show (((Dx L 384).map (lw L)).map sV)[t]?=_
   rw [List.getElem?_map,List.getElem?_map,hj];rfl
  have hSt:=hS.ext hH.ext (by simpa using hd)
  have h1:=Lib.itoa_length_le ((j / 64:Nat):Int) (by omega) (by omega)
  have h2:=Lib.itoa_length_le ((j % 64:Nat):Int) (by omega) (by omega)
  have h3:=Lib.itoa_length_le x (by omega) (by omega)
  have hlw:lw L j=(Lib.itoa ((j / 64:Nat):Int)++58::Lib.itoa ((j % 64:Nat):Int))++61::Lib.itoa x:=by
   rw [lw,Gg,hx];simp
  rw [hlw] at hws
  repeat (first|refine aR ?_|(refine aD (by first|refine cG rfl rfl hSt hwl (Ty.sle rfl) (by omega)|refine aU rfl hSt hws (Ty.aF rfl)) rfl ?_)|refine aT ?_)
  clear hSt
  have h58:∀ m:Int,(58:UInt8) ∉ Lib.itoa m:=fun m=>A6 (by decide)
  have h61:∀ m:Int,(61:UInt8) ∉ Lib.itoa m:=fun m=>A6 (by decide)
  refine aO ?_
  refine aA (aC ((rX (c:=61) (a:=Lib.itoa ((j / 64:Nat):Int)++58::Lib.itoa ((j % 64:Nat):Int)) (b:=Lib.itoa x) (hg _ hH.ext) (by simp [h61]) (by simp only [List.length_append,List.length_cons];omega))) rfl rfl ?_)
  rintro _ _ ⟨rfl,hE0⟩
  replace hH:=hH.aH hE0
  clear hE0
  replace hH:=aI hH
  refine aK ?_
  refine aO ?_
  refine aA (aC ((rX (c:=58) (a:=Lib.itoa ((j / 64:Nat):Int)) (b:=Lib.itoa ((j % 64:Nat):Int)) (hg _ hH.ext) (h58 _) (by simp only [List.length_append,List.length_cons];omega))) rfl rfl ?_)
  rintro _ _ ⟨rfl,hE0⟩
  replace hH:=hH.aH hE0
  clear hE0
  replace hH:=aI hH
  refine aK ?_
  refine aO ?_
  refine aA (aC ((dE (n:=((j / 64:Nat):Int)) (hg _ hH.ext) (by omega) (by omega))) rfl rfl ?_)
  rintro _ _ ⟨rfl,hE0⟩
  replace hH:=hH.aH hE0
  clear hE0
  replace hH:=aI hH
  refine aK ?_
  refine aO ?_
  refine aA (aC ((dE (n:=((j % 64:Nat):Int)) (hg _ hH.ext) (by omega) (by omega))) rfl rfl ?_)
  rintro _ _ ⟨rfl,hE0⟩
  replace hH:=hH.aH hE0
  clear hE0
  replace hH:=aI hH
  refine aK ?_
  refine aO ?_
  refine aA (aC ((dE (n:=x) (hg _ hH.ext) (by omega) (by omega))) rfl rfl ?_)
  rintro _ _ ⟨rfl,hE0⟩
  replace hH:=hH.aH hE0
  clear hE0
  replace hH:=aI hH
  have hjj:64*((j / 64:Nat):Int)+((j % 64:Nat):Int)=j:=by omega
  repeat (first|refine aR ?_|(refine aD (by first|refine aG rfl|refine aN rfl (Ty.bA rfl rfl)|refine (cT (m:=64*((j / 64:Nat):Int)) (n:=((j % 64:Nat):Int)) rfl rfl (by omega)).is (congrArg (Value.int .i64) hjj)|refine qZ rfl rfl (Ty.arr rfl) (by omega)) rfl ?_)|refine aT ?_)
  refine aA (bV 0 (o:=0+7+((j / 64:Nat):Int).toNat*64+((j % 64:Nat):Int).toNat*1) (v:=.int .i64 x) hH rfl rfl rfl (by rw [hml _ (Ih _ _ _)];omega) rfl (Ty.aF rfl) ?_)
  clear hH
  intro _ hH
  rw [show 0+7+((j / 64:Nat):Int).toNat*64+((j % 64:Nat):Int).toNat*1=7+j by omega,HE,← hx,Je hj] at hH
  replace hH:=aI hH
  refine aK ?_
  refine IH (t+1,(j:Int)) _ _ ?_ ?_ ?_ ?_
  ·simp only;omega
  ·exact ⟨by rw [← hjj];rfl,rfl,trivial⟩
  ·exact cP
  ·exact ⟨by omega,by omega,fun j2 hj2=>(by
   have h:=List.pairwise_iff_getElem.1 (Hr L 384) t (t+1) (List.getElem?_eq_some_iff.1 hj).1 (List.getElem?_eq_some_iff.1 hj2).1 (by omega)
   rw [(List.getElem?_eq_some_iff.1 hj).2,(List.getElem?_eq_some_iff.1 hj2).2] at h
   omega),hH⟩
 ·obtain rfl:t=n:=by omega
  refine aK ?_
  rw [← hnn,NJ hl] at hH
  exact cE Tryz.func74 rfl ⟨rfl,hH.dX 0 rfl⟩
theorem K5 {P:Program} {ρ:Fr} {w:World} {dst:Option Nat} {ty t:TypeId} {pos:String} {af:Array Edge} {gd:Option (Nat × Bool)} {x:Operand} {a:Option Addr} {n c:Nat} (hx:ev ρ x=.slice a n c) (h:isSlice P t=true):cU P ρ ⟨dst,.call ⟨.builtin .cap,#[x],#[t]⟩,ty,pos,af,gd⟩ w (.int .i64 c) w:=by
 unfold isSlice at h
 split at h
 ·rename_i e hh
  constructor;unfold execOp;simp [hx,resolve,invoke,builtin,Builtin.cap_,run_underlying hh,goInt]
 ·cases h
structure RD where
 h:SH
 a:Option Addr
 cap:Nat
 ps:List PR
 line:Nat
 rows:Nat
 qp:Int
abbrev RD.tail (d:RD):List Value:=[.slice d.a d.ps.length d.cap,.int .i64 d.line,.int .i64 0,.int .i64 d.rows,.int .i64 d.qp]
abbrev RD.cells (d:RD):List Value:=d.h.cells++d.tail
theorem oY {d:RD} (ho:d.h.ok):d.cells.length=136:=by rw [RD.cells,List.length_append,SH.bK ho];rfl
set_option maxRecDepth 20000 in
set_option maxHeartbeats 4000000 in
theorem oQ {br:Nat} {d:RD} {w:World} (ho:d.h.ok) (hB:cL w br 68 d.cells.toArray) (hS:cI w d.a (d.ps.flatMap PR.cells)) (hps:d.ps.length≤100)
  (hfl:∀ P p,d.ps=P++[p]→cI w p.a (p.gs.flatMap GR.cells)∧p.gs.length≤1000∧∀ G g,p.gs=G++[g]→g.ms.length=g.cap):aX Tryz.prog 18 #[pt br] w fun v w'=>v=.tuple #[]∧Ext [] w w':=by
 refine aL (args:=[_]) Tryz.func18 rfl rfl Tryz.ntmps18 rfl ?_
 have hH:=Hp.start w
 have hfm:=dQ (f:=PR.cells) (sz:=5) (l:=d.ps) (fun _ _=>rfl)
 rcases List.eq_nil_or_concat d.ps with h0|⟨P,p,hp⟩
 ·have hl0:d.ps.length=0:=by rw [h0];rfl
  repeat (first|refine aR ?_|(refine aD (by first|refine aG rfl|refine aN rfl (Ty.bA rfl rfl)|refine aB rfl hB ((cQ ho (Nat.le_of_ble_eq_true rfl)).trans rfl) (Ty.aF rfl)) rfl ?_)|refine aT ?_)
  exact cE Tryz.func18 rfl ⟨rfl,hH.ext⟩
 ·rw [List.concat_eq_append] at hp
  obtain ⟨hSg,hgl,hgf⟩:=hfl P p hp
  have hpl:d.ps.length=P.length+1:=by rw [hp];simp
  have hpi:d.ps[P.length]?=some p:=by rw [hp];simp
  have hat:=jV (f:=PR.cells) (sz:=5) (fun _ _=>rfl) hpi
  have him:(d.ps.length:Int)-1=(P.length:Nat):=by omega
  have hp4:(d.ps.flatMap PR.cells)[P.length*5+4]?=some (.slice p.a p.gs.length p.cap):=by
   have h:=congrArg (fun l:List Value=>l[4]?) hat
   rw [List.getElem?_take,if_pos (by decide),List.getElem?_drop] at h
   exact h
  repeat (first|refine aR ?_|(refine aD (by first|refine aG rfl|refine aN rfl (Ty.bA rfl rfl)|refine aB rfl hB ((cQ ho (Nat.le_of_ble_eq_true rfl)).trans rfl) (Ty.aF rfl)|refine (dM (m:=d.ps.length) (n:=1) rfl rfl (by omega)).is (congrArg (Value.int .i64) him)|refine gE (sz:=5) rfl rfl hS hfm (by decide) (Ty.sle rfl) (by omega)|refine aU rfl hS hp4 (Ty.aF rfl)) rfl ?_)|refine aT ?_)
  rcases List.eq_nil_or_concat p.gs with h0|⟨G,g,hg⟩
  ·have hl0:p.gs.length=0:=by rw [h0];rfl
   refine aK ?_
   exact cE Tryz.func18 rfl ⟨rfl,hH.ext⟩
  ·rw [List.concat_eq_append] at hg
   have hgs:=hgf G g hg
   have hgl2:p.gs.length=G.length+1:=by rw [hg];simp
   have hgi:p.gs[G.length]?=some g:=by rw [hg];simp
   have hatg:=jV (f:=GR.cells) (sz:=2) (fun _ _=>rfl) hgi
   have hfg:=dQ (f:=GR.cells) (sz:=2) (l:=p.gs) (fun _ _=>rfl)
   have hgm:(p.gs.length:Int)-1=(G.length:Nat):=by omega
   repeat (first|refine aR ?_|(refine aD (by first|refine (dM (m:=p.gs.length) (n:=1) rfl rfl (by omega)).is (congrArg (Value.int .i64) hgm)|refine gE (sz:=2) rfl rfl hSg hfg (by decide) (Ty.sle rfl) (by omega)|refine bG (j:=G.length*2) (cs:=g.cells) rfl hSg hatg rfl (Ty.aF rfl)) rfl ?_)|refine aT ?_)
   refine aO ?_
   refine aA (aQ hH (Ty.bH rfl) rfl ?_)
   try clear hH
   intro _ b4 hH
   replace hH:=aI hH
   refine aK ?_
   refine aO ?_
   refine aA (aJ 0 (vs:=g.cells.toArray) (s:=2) hH rfl rfl rfl (by rfl) (by rfl) (by simp [Value.oneCell']) (Ty.aF rfl) ?_)
   try clear hH
   intro _ hH
   replace hH:=aI hH
   have hB4:=hH.b 0 rfl
   repeat (first|refine aR ?_|(refine aD (by first|refine aN rfl (Ty.bA rfl rfl)|refine aB (v:=.slice g.a g.ms.length g.cap) rfl hB4 rfl (Ty.aF rfl)|refine K5 rfl (Ty.LP rfl)) rfl ?_)|refine aT ?_)
   exact cE Tryz.func18 rfl ⟨rfl,hH.ext⟩
set_option maxRecDepth 20000 in
set_option maxHeartbeats 4000000 in
theorem Dr {br cw:Nat} {aw:Option Addr} {c r:Int} {wt:Bool} {d:RD} {w:World} (ho:d.h.ok) (hc:1≤c∧c≤8) (hr:1≤r∧r≤8) (hS:cI w aw (fV [Fs,Lib.itoa c,Lib.itoa r,if wt then sC else rQ])) (hB:(Rb br 68 d.cells.toArray).holds w) (hdj:br ∉ dI aw) (hgb:∀ u,Ext [br] w u→GL u) :
  aX Tryz.prog 39 #[pt br,.slice aw 4 cw] w fun v w'=>v=.tuple #[]∧jA (Rb br 68 d.cells.toArray) (Rb br 68 ({ d with h:=⟨c,r,wt,d.h.A,d.h.Bb⟩ }:RD).cells.toArray) w w':=by
 refine aL (args:=[_,_]) Tryz.func39 rfl rfl Tryz.ntmps39 rfl ?_
 have hH:=Hp.fI hB
 have hrl:=oY (d:=d) ho
 have hwl:(fV [Fs,Lib.itoa c,Lib.itoa r,if wt then sC else rQ]).length=4:=rfl
 have hSw:=hS
 repeat (first|refine aR ?_|(refine aD (by first|refine cG rfl rfl hSw hwl (Ty.sle rfl) (by decide)|refine aU (v:=sV Fs) rfl hSw rfl (Ty.aF rfl)|refine (BP (l:=Fs) (m:=Fs) rfl rfl).is (congrArg Value.bool (qF _))) rfl ?_)|refine aT ?_)
 have hdj':∀ s∈[br],s ∉ dI aw:=by simpa using hdj
 refine lJ Ty.mixed (fun v=>Ext [br] w v) 22 rfl ?_
 have hx1:Ext [br] w w.drew:=Ext.dV
 refine bE 0 hx1 ?_
 refine bE 1 hx1 ?_
 refine bE 2 hx1 ?_
 refine bE 3 hx1 ?_
 refine aY 4 hx1 rfl (fun w' hw'=>by refine cG rfl rfl (hSw.ext hw' hdj') hwl (Ty.sle rfl) (by decide)) ?_
 refine aY 5 hx1 rfl (fun w' hw'=>by refine aU (v:=sV (Lib.itoa c)) rfl (hSw.ext hw' hdj') rfl (Ty.aF rfl)) ?_
 refine bE 7 hx1 ?_
 refine bE 8 hx1 ?_
 refine aY 9 hx1 rfl (fun w' hw'=>by refine cG rfl rfl (hSw.ext hw' hdj') hwl (Ty.sle rfl) (by decide)) ?_
 refine aY 10 hx1 rfl (fun w' hw'=>by refine aU (v:=sV (Lib.itoa r)) rfl (hSw.ext hw' hdj') rfl (Ty.aF rfl)) ?_
 replace hH:=hH.aH (Ext.dV (S:=[]))
 refine bC 6 (by kernel_rfl) rfl rfl (aC (dE (n:=c) (hgb _ hH.ext) hc (by omega)) rfl rfl ?_)
 rintro _ w3 ⟨rfl,hE⟩
 have hx3:Ext [br] w w3:=hx1.trans hE (by simp)
 refine ⟨hx3,?_⟩
 replace hH:=hH.aH hE
 refine bC 11 (by kernel_rfl) rfl rfl (aC (dE (n:=r) (hgb _ hH.ext) hr (by omega)) rfl rfl ?_)
 rintro _ w4 ⟨rfl,hE⟩
 have hx4:Ext [br] w w4:=hx3.trans hE (by simp)
 refine ⟨hx4,?_⟩
 replace hH:=hH.aH hE
 refine aY 12 hx4 rfl (fun w' hw'=>by refine aG rfl) ?_
 refine aY 13 hx4 rfl (fun w' hw'=>by refine aN rfl (Ty.bA rfl rfl)) ?_
 refine aY 14 hx4 rfl (fun w' hw'=>by refine aN rfl (Ty.bA rfl rfl)) ?_
 refine aY 15 hx4 rfl (fun w' hw'=>by refine aN rfl (Ty.bA rfl rfl)) ?_
 refine bC 16 (by kernel_rfl) rfl rfl (gC (v:=.int .i64 c) rfl rfl (hH.b 0 rfl) (by rw [List.size_toArray,hrl];exact (by decide:0+0+0+0<136)) rfl (Ty.aF rfl) ?_)
 intro w5 hE5 hB5 _
 rw [List.setIfInBounds_toArray] at hB5
 have hx5:=hx4.iS hE5
 refine ⟨hx5,?_⟩
 replace hH:=hH.up 0 rfl (r':=Rb br 68 ({ d with h:=⟨c,d.h.r,d.h.wt,d.h.A,d.h.Bb⟩ }:RD).cells.toArray) ⟨hE5,hB5,fun _ hx=>.inl hx⟩
 replace hH:=aI hH
 refine aY 17 hx5 rfl (fun w' hw'=>by refine aG rfl) ?_
 refine aY 18 hx5 rfl (fun w' hw'=>by refine aN rfl (Ty.bA rfl rfl)) ?_
 refine aY 19 hx5 rfl (fun w' hw'=>by refine aN rfl (Ty.bA rfl rfl)) ?_
 refine aY 20 hx5 rfl (fun w' hw'=>by refine aN rfl (Ty.bA rfl rfl)) ?_
 have hrl2:=oY (d:={ d with h:=⟨c,d.h.r,d.h.wt,d.h.A,d.h.Bb⟩ }) ⟨ho.la,ho.lb,ho.ba,ho.bb⟩
 refine bC 21 (by kernel_rfl) rfl rfl (gC (v:=.int .i64 r) rfl rfl (hH.b 0 rfl) (by rw [List.size_toArray,hrl2];exact (by decide:0+0+0+1<136)) rfl (Ty.aF rfl) ?_)
 intro w6 hE6 hB6 _
 rw [List.setIfInBounds_toArray] at hB6
 refine ⟨hx5.iS hE6,?_⟩
 replace hH:=hH.up 0 rfl (r':=Rb br 68 ({ d with h:=⟨c,r,d.h.wt,d.h.A,d.h.Bb⟩ }:RD).cells.toArray) ⟨hE6,hB6,fun _ hx=>.inl hx⟩
 replace hH:=aI hH
 refine aW (by kernel_rfl) ?_
 clear hx1 hx3 hx4 hx5 hE hE5 hE6 hB5 hB6 hSw
 have hSw:=hS.ext hH.ext hdj'
 repeat (first|refine aR ?_|(refine aD (by first|refine cG rfl rfl hSw hwl (Ty.sle rfl) (by decide)|refine aU (v:=sV (if wt then sC else rQ)) rfl hSw rfl (Ty.aF rfl)) rfl ?_)|refine aT ?_)
 refine aO ?_
 refine aA (aC ((lH (b:=wt) (y:=sC) (n:=rQ) (by decide))) rfl rfl ?_)
 rintro _ _ ⟨rfl,hE0⟩
 replace hH:=hH.aH hE0
 clear hE0
 replace hH:=aI hH
 repeat ((refine aD (by first|refine aG rfl|refine aN rfl (Ty.bA rfl rfl)) rfl ?_))
 have hrl3:=oY (d:={ d with h:=⟨c,r,d.h.wt,d.h.A,d.h.Bb⟩ }) ⟨ho.la,ho.lb,ho.ba,ho.bb⟩
 refine aA (bV 0 (o:=0+0+2+0) (v:=.bool wt) hH rfl rfl rfl (by rw [hrl3];decide) rfl (Ty.aF rfl) ?_)
 clear hH
 intro _ hH
 replace hH:=hH.as (r':=Rb br 68 ({ d with h:=⟨c,r,wt,d.h.A,d.h.Bb⟩ }:RD).cells.toArray) 0 rfl (fun _ h=>h) (fun h=>h)
 replace hH:=aI hH
 refine aK ?_
 exact cE Tryz.func39 rfl ⟨rfl,hH.dX 0 rfl⟩
theorem Md {P:List PR} {p:PR} {v:Value} {i:Nat} (hi:i<5):((P++[p]).flatMap PR.cells).set (P.length*5+i) v=P.flatMap PR.cells++p.cells.set i v:=by
 have hl:=dQ (f:=PR.cells) (sz:=5) (l:=P) (fun _ _=>rfl)
 rw [List.flatMap_append,List.flatMap_singleton,List.set_append_right _ _ (by omega),hl,Nat.add_sub_cancel_left]
theorem pE {P:List PR} {p:PR}:(P++[p]).flatMap PR.cells=P.flatMap PR.cells++p.cells:=by rw [List.flatMap_append,List.flatMap_singleton]
abbrev gN (f bm n:Nat):GR:=⟨f,some ⟨bm,0,none⟩,n,[]⟩
set_option maxRecDepth 20000 in
set_option maxHeartbeats 8000000 in
theorem zT {br cw cg:Nat} {aw ag:Option Addr} {f n:Nat} {d:RD} {P:List PR} {hp:PH} {G:List GR} {w:World} (ho:d.h.ok) (hps:d.ps=P++[⟨hp,ag,cg,G⟩]) (hpl:d.ps.length≤16) (hGl:G.length≤64) (hf:f≤64) (hn:1≤n∧n≤64) (hfull:∀ G0 g,G=G0++[g]→g.ms.length=g.cap)
  (hSw:cI w aw (fV [AH,Lib.itoa (f:Nat),Lib.itoa (n:Nat)])) (hS:Sep [Rb br 68 d.cells.toArray,Ro 60 5 d.a d.ps.length d.cap (d.ps.flatMap PR.cells),Ro 87 2 ag G.length cg (G.flatMap GR.cells)] w) (hdj:∀ s∈eY [Rb br 68 d.cells.toArray,Ro 60 5 d.a d.ps.length d.cap (d.ps.flatMap PR.cells),Ro 87 2 ag G.length cg (G.flatMap GR.cells)],s ∉ dI aw) (hg:∀ u,Ext (eY [Rb br 68 d.cells.toArray,Ro 60 5 d.a d.ps.length d.cap (d.ps.flatMap PR.cells),Ro 87 2 ag G.length cg (G.flatMap GR.cells)]) w u→GL u) :
  aX Tryz.prog 42 #[pt br,.slice aw 3 cw] w fun v w'=>v=.tuple #[]∧∃ (ag2:Option Addr) (cg2 bm:Nat),Hp (eY [Rb br 68 d.cells.toArray,Ro 60 5 d.a d.ps.length d.cap (d.ps.flatMap PR.cells),Ro 87 2 ag G.length cg (G.flatMap GR.cells)]) w w' [Rb br 68 ({ d with ps:=P++[⟨hp,ag2,cg2,G++[gN f bm n]⟩],qp:=hp.qp }:RD).cells.toArray,Ro 60 5 d.a d.ps.length d.cap ((P++[(⟨hp,ag2,cg2,G++[gN f bm n]⟩:PR)]).flatMap PR.cells),Ro 87 2 ag2 (G.length+1) cg2 ((G++[gN f bm n]).flatMap GR.cells),Ro 95 391 (some ⟨bm,0,none⟩) 0 n []]:=by
 refine aL (args:=[_,_]) Tryz.func42 rfl rfl Tryz.ntmps42 rfl ?_
 have hH:=Hp.fQ hS
 have hrl:=oY (d:=d) ho
 have hwl:(fV [AH,Lib.itoa (f:Nat),Lib.itoa (n:Nat)]).length=3:=rfl
 have hfm:=dQ (f:=PR.cells) (sz:=5) (l:=d.ps) (fun _ _=>rfl)
 have hdl:d.ps.length=P.length+1:=by rw [hps];simp
 have hpi:d.ps[P.length]?=some ⟨hp,ag,cg,G⟩:=by rw [hps];simp
 have hat:=jV (f:=PR.cells) (sz:=5) (fun _ _=>rfl) hpi
 have him:(d.ps.length:Int)-1=(P.length:Nat):=by omega
 have hc:∀ i,i<5→(d.ps.flatMap PR.cells)[P.length*5+i]?=(PR.cells ⟨hp,ag,cg,G⟩)[i]?:=fun i hi=>by
  have h:=congrArg (fun l:List Value=>l[i]?) hat
  rw [List.getElem?_take,if_pos hi,List.getElem?_drop] at h
  exact h
 have hfu:∀ P' p',d.ps=P'++[p']→cI w p'.a (p'.gs.flatMap GR.cells)∧p'.gs.length≤1000∧∀ G0 g,p'.gs=G0++[g]→g.ms.length=g.cap:=fun P' p' hp'=>by
  have h:=List.append_inj_right' (hps.symm.trans hp') rfl
  obtain rfl:p'=⟨hp,ag,cg,G⟩:=(List.cons.inj h).1.symm
  exact ⟨(hH.o 2 rfl).sl,by simp only;omega,hfull⟩
 refine aK ?_
 refine aO ?_
 refine aA (aC ((oQ ho (hH.b 0 rfl) (hH.o 1 rfl).sl (by omega) hfu)) rfl rfl ?_)
 rintro _ _ ⟨rfl,hE⟩
 replace hH:=hH.aH hE
 clear hE
 refine aK ?_
 have hB:=hH.b 0 rfl
 have hSp:=(hH.o 1 rfl).sl
 refine cD Ty.mixed 14 rfl (fun w1 hx1=>?_)
 refine bE 0 hx1 ?_
 refine AO ?_
 refine uN ?_
 refine D8 ?_
 refine aY 4 hx1 rfl (fun w' hw'=>by refine aB rfl (hB.aH hw') ((cQ ho (Nat.le_of_ble_eq_true rfl)).trans rfl) (Ty.aF rfl)) ?_
 refine bE 5 hx1 ?_
 refine aY 6 hx1 rfl (fun w' hw'=>by refine aG rfl) ?_
 refine xV ?_
 refine DJ ?_
 refine aY 9 hx1 rfl (fun w' hw'=>by refine aB rfl (hB.aH hw') ((cQ ho (Nat.le_of_ble_eq_true rfl)).trans rfl) (Ty.aF rfl)) ?_
 refine bE 10 hx1 ?_
 refine aY 11 hx1 rfl (fun w' hw'=>by refine (dM (m:=d.ps.length) (n:=1) rfl rfl (by omega)).is (congrArg (Value.int .i64) him)) ?_
 refine aY 12 hx1 rfl (fun w' hw'=>by refine gE (sz:=5) rfl rfl (hSp.aH hw') hfm (by decide) (Ty.sle rfl) (by omega)) ?_
 refine bE 13 hx1 ?_
 refine aW (by kernel_rfl) ?_
 replace hH:=hH.aH hx1
 clear hx1 hB hSp
 have hSw2:=hSw.ext hH.ext hdj
 repeat (first|refine aR ?_|(refine aD (by first|refine cG rfl rfl hSw2 hwl (Ty.sle rfl) (by decide)|refine aU (v:=sV (Lib.itoa (f:Nat))) rfl hSw2 rfl (Ty.aF rfl)) rfl ?_)|refine aT ?_)
 clear hSw2
 refine aO ?_
 refine aA (aC ((dE (n:=(f:Nat)) (hg _ hH.ext) (by omega) (by omega))) rfl rfl ?_)
 rintro _ _ ⟨rfl,hE0⟩
 replace hH:=hH.aH hE0
 clear hE0
 replace hH:=aI hH
 have hSw2:=hSw.ext hH.ext hdj
 repeat (first|refine aR ?_|(refine aD (by first|refine cG rfl rfl hSw2 hwl (Ty.sle rfl) (by decide)|refine aU (v:=sV (Lib.itoa (n:Nat))) rfl hSw2 rfl (Ty.aF rfl)) rfl ?_)|refine aT ?_)
 clear hSw2
 refine aO ?_
 refine aA (aC ((dE (n:=(n:Nat)) (hg _ hH.ext) (by omega) (by omega))) rfl rfl ?_)
 rintro _ _ ⟨rfl,hE0⟩
 replace hH:=hH.aH hE0
 clear hE0
 replace hH:=aI hH
 refine aK ?_
 refine oG fun w0 hw0=>?_
 rw [← hw0] at hH
 clear hw0
 have hSp:=(hH.o 1 rfl).sl
 have hdp:∀ s∈dI ag,s ∉ dI d.a:=fun s hs h=>hH.dj 2 1 rfl rfl (by decide) s hs h
 refine iL Ty.mixed 11 rfl (by kernel_rfl) rfl (fun v=>Ext (dI ag) w0 v) ?_
 have hx1:Ext (dI ag) w0 w0.drew:=Ext.dV
 refine bE 0 hx1 ?_
 refine bE 1 hx1 ?_
 refine xF ?_
 refine D8 ?_
 refine aY 4 hx1 rfl (fun w' hw'=>by refine aU rfl (hSp.ext hw' hdp) (hc 4 (by decide)) (Ty.aF rfl)) ?_
 refine bE 5 hx1 ?_
 refine bE 6 hx1 ?_
 replace hH:=hH.aH (Ext.dV (S:=[]))
 refine bC 7 (by kernel_rfl) rfl rfl (Jr (n:=n) (bytes:=3160) (zs:=mH 0 0 (List.replicate 384 0)) (Ty.sle rfl) (Ty.bH rfl) (Ty.gS rfl) (bL List.length_replicate) rfl rfl (by omega) (by simp only [maxLen];omega) rfl ?_)
 intro w7 bm hbm hE7 hO7
 have hx7:Ext (dI ag) w0 w7:=hx1.trans hE7 (by simp)
 refine ⟨hx7,?_⟩
 replace hH:=hH.nu (r:=Ro 95 391 (some ⟨bm,0,none⟩) 0 n []) ⟨hE7,hO7,fun x hx=>by simp [Ro,dI] at hx;omega⟩
 replace hH:=aI hH
 refine aY 8 hx7 rfl (fun w' hw'=>by refine bR (cs:=(gN f bm n).cells) (Ty.bH rfl) (Ty.iJ rfl) rfl) ?_
 refine bC 9 (by kernel_rfl) rfl rfl ?_
 refine oK (out:=(gN f bm n).cells) (Ty.sle rfl) (Ty.bH rfl) rfl rfl rfl (by decide) rfl ?_
 intro w9 bl hbl hE9 hB9 _
 have hx9:Ext (dI ag) w0 w9:=hx7.trans hE9 (by simp)
 refine ⟨hx9,?_⟩
 replace hH:=hH.aH hE9
 refine bC 10 (by kernel_rfl) rfl rfl ?_
 refine kY (a:=ag) (n:=G.length) (cap:=cg) (m:=1) (bytes:=32) (news:=(gN f bm n).cells) (Ty.sle rfl) (Ty.bH rfl) rfl (Ty.gS rfl) (by decide) rfl (hH.o 2 rfl) rfl hB9.cX rfl (by simp [Value.oneCell']) (by omega) (by simp only [maxLen];omega) rfl ?_
 intro w10 ag2 cg2 hE10 hO10 hf10 _
 refine ⟨hx9.iS hE10,?_⟩
 replace hH:=hH.up 2 rfl (r':=Ro 87 2 ag2 (G.length+1) cg2 (G.flatMap GR.cells++(gN f bm n).cells)) ⟨hE10,hO10,hf10⟩
 replace hH:=aI hH
 refine aW (by kernel_rfl) ?_
 clear hx1 hx7 hx9 hE7 hE9 hE10 hO7 hO10 hf10 hSp hB9
 repeat ((refine aD (by first|refine aG rfl|refine aN rfl (Ty.bA rfl rfl)) rfl ?_))
 refine aA (jU 1 (o:=(P.length:Int).toNat*5+4) (v:=.slice ag2 (G.length+1) cg2) hH rfl rfl rfl (by omega) rfl (Ty.aF rfl) ?_)
 clear hH
 intro _ hH
 have hps2:d.ps.flatMap PR.cells=(P++[(⟨hp,ag,cg,G⟩:PR)]).flatMap PR.cells:=by rw [hps]
 have hset:(d.ps.flatMap PR.cells).set ((P.length:Int).toNat*5+4) (.slice ag2 (G.length+1) cg2)=(P++[(⟨hp,ag2,cg2,G++[gN f bm n]⟩:PR)]).flatMap PR.cells:=by
  rw [hps2,Int.toNat_natCast,Md (by decide),pE]
  have e:(G++[gN f bm n]).length=G.length+1:=by simp
  show _=P.flatMap PR.cells++[Value.int .i64 hp.id,.bool hp.inter,.bool hp.down,.int .i64 hp.qp,.slice ag2 (G++[gN f bm n]).length cg2]
  rw [e]
  rfl
 have hgs:G.flatMap GR.cells++(gN f bm n).cells=(G++[gN f bm n]).flatMap GR.cells:=by rw [List.flatMap_append,List.flatMap_singleton]
 rw [hset,hgs] at hH
 replace hH:=aI hH
 have hSp:=(hH.o 1 rfl).sl
 have hq:((P++[(⟨hp,ag2,cg2,G++[gN f bm n]⟩:PR)]).flatMap PR.cells)[P.length*5+0+3]?=some (.int .i64 hp.qp):=by
  have hl:=dQ (f:=PR.cells) (sz:=5) (l:=P) (fun _ _=>rfl)
  rw [pE,List.getElem?_append_right (by omega),hl,show P.length*5+0+3-P.length*5=3 by omega]
  rfl
 repeat (first|refine aR ?_|(refine aD (by first|refine aG rfl|refine aN rfl (Ty.bA rfl rfl)|refine aU rfl hSp hq (Ty.aF rfl)) rfl ?_)|refine aT ?_)
 clear hSp
 refine aA (bV 0 (o:=0+135) (v:=.int .i64 hp.qp) hH rfl rfl rfl (by rw [hrl];decide) rfl (Ty.aF rfl) ?_)
 clear hH
 intro _ hH
 rw [fS ho (by decide)] at hH
 have hpn:(P++[(⟨hp,ag2,cg2,G++[gN f bm n]⟩:PR)]).length=d.ps.length:=by rw [hdl];simp
 replace hH:=Hp.eqv (r':=Rb br 68 ({ d with ps:=P++[⟨hp,ag2,cg2,G++[gN f bm n]⟩],qp:=hp.qp }:RD).cells.toArray) 0 hH rfl (by
  show Rb br _ (d.h.cells++[Value.slice d.a d.ps.length d.cap,.int .i64 d.line,.int .i64 0,.int .i64 d.rows,.int .i64 hp.qp]).toArray=Rb br _ (d.h.cells++[Value.slice d.a (P++[(⟨hp,ag2,cg2,G++[gN f bm n]⟩:PR)]).length d.cap,.int .i64 d.line,.int .i64 0,.int .i64 d.rows,.int .i64 hp.qp]).toArray
  rw [hpn])
 replace hH:=aI hH
 refine aK ?_
 exact cE Tryz.func42 rfl ⟨rfl,ag2,cg2,bm,hH⟩
end Go.Proofs.YtdbnmbkjmeepkaaGreatDoor
