/- A part of the proof of the card of TopText; no condition. -/
import Derived.Test.YtdbnmbkjmeepkaaGreatDoorT19
namespace Go.Proofs.YtdbnmbkjmeepkaaGreatDoor
open Go Go.K Go.P Go.RowKit Go.Proofs
def Lc (S:List Nat) (m n:Nat) (x2 y2:Int) (down:Bool):Int :=
 let x:=x2 / 2
 let y:=y2 / 2
 let d:Int:=if down then 1 else 0
 let a:Int:=zS S m n x y
 if x2 % 2=0∧y2 % 2=0 then a
 else if y2 % 2=0 then (a+zS S m n (x+1) y+1-d) / 2
 else if x2 % 2=0 then (a+zS S m n x (y+1)+1-d) / 2
 else (a+zS S m n (x+1) y+zS S m n x (y+1)+zS S m n (x+1) (y+1)+2-d) / 4
theorem L7 {S:List Nat} {m n:Nat} {x2 y2:Int} {down:Bool} (h:gR S):0≤Lc S m n x2 y2 down∧Lc S m n x2 y2 down≤256:=by
 have h1:=iH (m:=m) (n:=n) (x:=x2 / 2) (y:=y2 / 2) h
 have h2:=iH (m:=m) (n:=n) (x:=x2 / 2+1) (y:=y2 / 2) h
 have h3:=iH (m:=m) (n:=n) (x:=x2 / 2) (y:=y2 / 2+1) h
 have h4:=iH (m:=m) (n:=n) (x:=x2 / 2+1) (y:=y2 / 2+1) h
 unfold Lc
 simp only
 cases down<;>(repeat' split)<;>omega
set_option maxRecDepth 20000 in
set_option maxHeartbeats 4000000 in
theorem IA {m n:Nat} {p:mI} {x2 y2:Int} {down:Bool} {w:World} (hm:1≤m∧m≤1024) (hn:1≤n∧n≤1024) (hx:-100000≤x2∧x2≤100000) (hy:-100000≤y2∧y2≤100000) (hl:p.ok m n) (hS:cI w p.a (p.S.map B)) :
  aX Tryz.prog 210 #[.agg (p.cells m n).toArray,.int .i64 x2,.int .i64 y2,.bool down] w fun v w'=>v=.int .i64 (Lc p.S m n x2 y2 down)∧Ext [] w w':=by
 refine aL (args:=[_,_,_,_]) Tryz.func210 rfl rfl Tryz.ntmps210 rfl ?_
 have hH:=Hp.start w
 unfold Lc
 simp only
 refine aK ?_
 refine aO ?_
 refine aA (bI (cs:=(p.cells m n).toArray) hH rfl rfl rfl ?_)
 try clear hH
 intro _ b1 hH
 replace hH:=aI hH
 refine aK ?_
 refine aO ?_
 refine aA (aC (sE) rfl rfl ?_)
 rintro _ _ ⟨rfl,rfl⟩
 refine aK ?_
 refine aO ?_
 refine aA (aC (sE) rfl rfl ?_)
 rintro _ _ ⟨rfl,rfl⟩
 obtain ⟨x,hxx⟩:∃ x,x2 / 2=x:=⟨_,rfl⟩
 obtain ⟨y,hyy⟩:∃ y,y2 / 2=y:=⟨_,rfl⟩
 obtain ⟨fx,hfx⟩:∃ f,x2 % 2=f:=⟨_,rfl⟩
 obtain ⟨fy,hfy⟩:∃ f,y2 % 2=f:=⟨_,rfl⟩
 rw [hxx,hyy,hfx,hfy]
 obtain ⟨d,hd⟩:∃ d:Int,(if down=true then 1 else 0)=d:=⟨_,rfl⟩
 have hd2:0≤d∧d≤1:=by rw [← hd];split<;>decide
 rw [hd]
 apply join
 ·intro key
  by_cases hdn:down=true
  ·rw [if_pos hdn] at hd
   repeat (first|refine aR ?_|refine zK (congrArg Value.bool hdn) ?_|refine aT ?_)
   exact OL
  ·rw [if_neg hdn] at hd
   repeat (first|refine aR ?_|refine wO (congrArg Value.bool (Bool.not_eq_true _▸hdn)) ?_|refine aT ?_)
   exact OL
 intro σ
 have hB:=hH.b 0 rfl
 repeat (first|(refine aD (by refine aE rfl hB rfl (Ty.aF rfl)) rfl ?_)|refine aT ?_)
 clear hB
 refine aO ?_
 refine aA (aC ((gL (i:=x) (j:=y) hm hn hl (hS.aH hH.ext))) rfl rfl ?_)
 rintro _ _ ⟨rfl,hE0⟩
 replace hH:=hH.aH hE0
 clear hE0
 replace hH:=aI hH
 have g1:=iH (m:=m) (n:=n) (x:=x) (y:=y) hl.2
 obtain ⟨a1,ha1⟩:∃ a,zS p.S m n (x) (y)=a:=⟨_,rfl⟩
 rw [ha1] at g1 ⊢
 refine aK ?_
 by_cases h1:fx=0
 ·by_cases h2:fy=0
  ·rw [if_pos ⟨h1,h2⟩]
   refine aK ?_
   exact aM Tryz.func210 rfl ⟨rfl,hH.ext⟩
  ·rw [if_neg (fun h=>h2 h.2),if_neg h2,if_pos h1]
   have hB:=hH.b 0 rfl
   repeat (first|refine aR ?_|(refine aD (by refine aE rfl hB rfl (Ty.aF rfl)) rfl ?_)|refine aT ?_)
   clear hB
   refine aO ?_
   refine aA (aC ((gL (i:=x) (j:=y+1) hm hn hl (hS.aH hH.ext))) rfl rfl ?_)
   rintro _ _ ⟨rfl,hE0⟩
   replace hH:=hH.aH hE0
   clear hE0
   replace hH:=aI hH
   have g2:=iH (m:=m) (n:=n) (x:=x) (y:=y+1) hl.2
   obtain ⟨a2,ha2⟩:∃ a,zS p.S m n (x) (y+1)=a:=⟨_,rfl⟩
   rw [ha2] at g2 ⊢
   refine aK ?_
   exact aM Tryz.func210 rfl ⟨rfl,hH.ext⟩
 ·by_cases h2:fy=0
  ·rw [if_neg (fun h=>h1 h.1),if_pos h2]
   have hB:=hH.b 0 rfl
   repeat (first|refine aR ?_|(refine aD (by refine aE rfl hB rfl (Ty.aF rfl)) rfl ?_)|refine aT ?_)
   clear hB
   refine aO ?_
   refine aA (aC ((gL (i:=x+1) (j:=y) hm hn hl (hS.aH hH.ext))) rfl rfl ?_)
   rintro _ _ ⟨rfl,hE0⟩
   replace hH:=hH.aH hE0
   clear hE0
   replace hH:=aI hH
   have g2:=iH (m:=m) (n:=n) (x:=x+1) (y:=y) hl.2
   obtain ⟨a2,ha2⟩:∃ a,zS p.S m n (x+1) (y)=a:=⟨_,rfl⟩
   rw [ha2] at g2 ⊢
   refine aK ?_
   exact aM Tryz.func210 rfl ⟨rfl,hH.ext⟩
  ·rw [if_neg (fun h=>h1 h.1),if_neg h2,if_neg h1]
   have hB:=hH.b 0 rfl
   have s2:=fun w (hE:Ext [] _ w)=>gL (i:=x+1) (j:=y) hm hn hl ((hS.aH hH.ext).aH hE)
   have s3:=fun w (hE:Ext [] _ w)=>gL (i:=x) (j:=y+1) hm hn hl ((hS.aH hH.ext).aH hE)
   have s4:=fun w (hE:Ext [] _ w)=>gL (i:=x+1) (j:=y+1) hm hn hl ((hS.aH hH.ext).aH hE)
   have g2:=iH (m:=m) (n:=n) (x:=x+1) (y:=y) hl.2
   have g3:=iH (m:=m) (n:=n) (x:=x) (y:=y+1) hl.2
   have g4:=iH (m:=m) (n:=n) (x:=x+1) (y:=y+1) hl.2
   generalize zS p.S m n (x + 1) y=a2 at *
   generalize zS p.S m n x (y + 1)=a3 at *
   generalize zS p.S m n (x + 1) (y + 1)=a4 at *
   refine aK ?_
   refine gX [Is (.int .i64 a1),Is (.agg (p.cells m n).toArray),Is (.int .i64 x),Is (.int .i64 (x+1)),Is (.int .i64 y),Is (.int .u8 a2),Is (.int .i64 a2),Is (.int .i64 ((a1:Int)+a2)),Is (.agg (p.cells m n).toArray),Is (.int .i64 x),Is (.int .i64 y),Is (.int .i64 (y+1)),Is (.int .u8 a3),Is (.int .i64 a3),Is (.int .i64 ((a1:Int)+a2+a3)),Is (.agg (p.cells m n).toArray),Is (.int .i64 x),Is (.int .i64 (x+1)),Is (.int .i64 y),Is (.int .i64 (y+1)),Is (.int .u8 a4),Is (.int .i64 a4),Is (.int .i64 ((a1:Int)+a2+a3+a4)),Is (.int .i64 ((a1:Int)+a2+a3+a4+2)),Is (.int .i64 d),Is (.int .i64 ((a1:Int)+a2+a3+a4+2-d)),Is (.int .i64 (((a1:Int)+a2+a3+a4+2-d) / 4)),Is (.int .i64 (((a1:Int)+a2+a3+a4+2-d) / 4))] Ty.mixed [(79228085775808990961809227776,[],true),(79228141853910975038846140416,[],true),(79228154840418802930370478080,[],true),(79228138312136112886612230144,[(2,71)],true),(79228133589769630016967016448,[],true),(79225687403931503540746321920,[(1,70),(3,72),(4,73)],true),(79228048587172938363353169920,[(5,74)],true),(79218414959547884287117230080,[(0,69),(6,75)],true),(79225592956601846147842048000,[],true),(79225441840874394319195209728,[],true),(79226348535239105291076239360,[],true),(79224535146509683347314180096,[(10,79)],true),(78601938349408149322340499456,[(8,77),(9,78),(11,80)],true),(79213654814133151684741824512,[(12,81)],true),(76742610438840849651642400768,[(7,76),(13,82)],true),(78589849091212003030593437696,[],true),(79112105045285522834066505728,[],true),(78531820651870500830207541248,[(16,85)],true),(78763934409236509631751127040,[],true),(78299706894504492028663955456,[(18,87)],true),(77371251865040456822489612288,[(15,84),(17,86),(19,88)],true),(75514341806112386410140925952,[(20,89)],true),(71800521688256245585443553280,[(14,83),(21,90)],true),(54469361138260921736855814144,[(22,91)],true),(49517600981119400637259317248,[],true),(19807040038270274039680335872,[(23,92),(24,93)],true),(39614080666836358438066323456,[(25,94)],true),(79228161923968527234838298624,[(26,95)],true)] 79228161923968527234838298880 [(27,8)] (by kernel_rfl) (by kernel_rfl) (by kernel_rfl) (by kernel_rfl) (by kernel_rfl) ⟨Is.st,Is.st,Is.st,Is.st,Is.st,Is.st,Is.st,Is.st,Is.st,Is.st,Is.st,Is.st,Is.st,Is.st,Is.st,Is.st,Is.st,Is.st,Is.st,Is.st,Is.st,Is.st,Is.st,Is.st,Is.st,Is.st,Is.st,Is.st,trivial⟩ ⟨⟨cC.none,?_⟩,⟨cC.none,?_⟩,⟨cC.none,?_⟩,⟨cC.none,?_⟩,⟨cC.none,?_⟩,⟨cC.none,?_⟩,⟨cC.none,?_⟩,⟨cC.none,?_⟩,⟨cC.none,?_⟩,⟨cC.none,?_⟩,⟨cC.none,?_⟩,⟨cC.none,?_⟩,⟨cC.none,?_⟩,⟨cC.none,?_⟩,⟨cC.none,?_⟩,⟨cC.none,?_⟩,⟨cC.none,?_⟩,⟨cC.none,?_⟩,⟨cC.none,?_⟩,⟨cC.none,?_⟩,⟨cC.none,?_⟩,⟨cC.none,?_⟩,⟨cC.none,?_⟩,⟨cC.none,?_⟩,⟨cC.none,?_⟩,⟨cC.none,?_⟩,⟨cC.none,?_⟩,⟨cC.none,?_⟩,trivial⟩ ?_
   ·intro w'' hE''
    intro σ''
    exact bJ (by refine aP rfl) rfl
   ·intro w'' hE''
    intro σ''
    exact MM
   ·intro w'' hE''
    intro σ''
    exact bJ (by refine aP rfl) rfl
   ·intro w'' hE''
    rintro _ rfl
    intro σ''
    exact xR
   ·intro w'' hE''
    intro σ''
    exact bJ (by refine aP rfl) rfl
   ·intro w'' hE''
    rintro _ rfl
    rintro _ rfl
    rintro _ rfl
    intro σ''
    refine aC (s2 _ hE'') rfl rfl ?_
    rintro v w3'' ⟨rfl,hE3''⟩
    exact ⟨hE3'',_,rfl,rfl⟩
   ·intro w'' hE''
    rintro _ rfl
    intro σ''
    exact bJ (by refine eT rfl rfl rfl (by omega)) rfl
   ·intro w'' hE''
    rintro _ rfl
    rintro _ rfl
    intro σ''
    exact xR
   ·intro w'' hE''
    intro σ''
    exact MM
   ·intro w'' hE''
    intro σ''
    exact bJ (by refine aP rfl) rfl
   ·intro w'' hE''
    intro σ''
    exact bJ (by refine aP rfl) rfl
   ·intro w'' hE''
    rintro _ rfl
    intro σ''
    exact xR
   ·intro w'' hE''
    rintro _ rfl
    rintro _ rfl
    rintro _ rfl
    intro σ''
    refine aC (s3 _ hE'') rfl rfl ?_
    rintro v w3'' ⟨rfl,hE3''⟩
    exact ⟨hE3'',_,rfl,rfl⟩
   ·intro w'' hE''
    rintro _ rfl
    intro σ''
    exact bJ (by refine eT rfl rfl rfl (by omega)) rfl
   ·intro w'' hE''
    rintro _ rfl
    rintro _ rfl
    intro σ''
    exact xR
   ·intro w'' hE''
    intro σ''
    exact MM
   ·intro w'' hE''
    intro σ''
    exact bJ (by refine aP rfl) rfl
   ·intro w'' hE''
    rintro _ rfl
    intro σ''
    exact xR
   ·intro w'' hE''
    intro σ''
    exact bJ (by refine aP rfl) rfl
   ·intro w'' hE''
    rintro _ rfl
    intro σ''
    exact xR
   ·intro w'' hE''
    rintro _ rfl
    rintro _ rfl
    rintro _ rfl
    intro σ''
    refine aC (s4 _ hE'') rfl rfl ?_
    rintro v w3'' ⟨rfl,hE3''⟩
    exact ⟨hE3'',_,rfl,rfl⟩
   ·intro w'' hE''
    rintro _ rfl
    intro σ''
    exact bJ (by refine eT rfl rfl rfl (by omega)) rfl
   ·intro w'' hE''
    rintro _ rfl
    rintro _ rfl
    intro σ''
    exact xR
   ·intro w'' hE''
    rintro _ rfl
    intro σ''
    exact xR
   ·intro w'' hE''
    intro σ''
    exact bJ (by refine aP rfl) rfl
   ·intro w'' hE''
    rintro _ rfl
    rintro _ rfl
    intro σ''
    exact bJ (by refine dM rfl rfl (by omega)) rfl
   ·intro w'' hE''
    rintro _ rfl
    intro σ''
    exact bJ (by refine jC rfl rfl (by omega)) rfl
   ·intro w'' hE''
    rintro _ rfl
    intro σ''
    exact bJ (by refine aP rfl) rfl
   intro w'' hE''
   rintro _ rfl
   intro σ''
   replace hH:=hH.aH hE''
   refine aK ?_
   exact aM Tryz.func210 rfl ⟨rfl,hH.ext⟩
def Gb (S:List Nat) (m n:Nat) (i j dx dy:Int) (down:Bool):List Int:=(List.range 64).map fun k=>Lc S m n (2*(i+(k % 8:Nat))+dx) (2*(j+(k / 8:Nat))+dy) down
theorem AW (S:List Nat) (m n:Nat) (i j dx dy:Int) (down:Bool):(Gb S m n i j dx dy down).length=64:=by simp [Gb]
theorem Lv {S:List Nat} {m n:Nat} {i j dx dy:Int} {down:Bool} {k:Nat} (h:k<64):(Gb S m n i j dx dy down)[k]?=some (Lc S m n (2*(i+(k % 8:Nat))+dx) (2*(j+(k / 8:Nat))+dy) down):=by simp [Gb,h]
theorem Ic {S:List Nat} {m n:Nat} {i j dx dy:Int} {down:Bool} (h:gR S):∀ x∈Gb S m n i j dx dy down,0≤x∧x≤256:=fun x hx=>by
 obtain ⟨k,_,rfl⟩:=List.mem_map.1 hx
 exact L7 h
set_option maxRecDepth 20000 in
set_option maxHeartbeats 4000000 in
theorem tL {m n:Nat} {p:mI} {i j dx dy:Int} {down:Bool} {w:World} (hm:1≤m∧m≤1024) (hn:1≤n∧n≤1024) (hi:0≤i∧i≤10000) (hj:0≤j∧j≤10000) (hdx:-100≤dx∧dx≤100) (hdy:-100≤dy∧dy≤100) (hl:p.ok m n) (hS:cI w p.a (p.S.map B)) :
  aX Tryz.prog 186 #[.agg (p.cells m n).toArray,.int .i64 i,.int .i64 j,.int .i64 dx,.int .i64 dy,.bool down] w fun v w'=>v=.agg ((Gb p.S m n i j dx dy down).map (Value.int .i64)).toArray∧Ext [] w w':=by
 refine aL (args:=[_,_,_,_,_,_]) Tryz.func186 rfl rfl Tryz.ntmps186 rfl ?_
 have hH:=Hp.start w
 have hz:=AW p.S m n i j dx dy down
 have hzk:=fun k=>Lv (S:=p.S) (m:=m) (n:=n) (i:=i) (j:=j) (dx:=dx) (dy:=dy) (down:=down) (k:=k)
 generalize Gb p.S m n i j dx dy down=z at *
 refine aK ?_
 refine aO ?_
 refine aA (bI (cs:=(p.cells m n).toArray) hH rfl rfl rfl ?_)
 try clear hH
 intro _ b1 hH
 replace hH:=aI hH
 refine aO ?_
 refine aA (aQ hH (Ty.bH rfl) rfl ?_)
 try clear hH
 intro _ b2 hH
 replace hH:=aI hH
 refine aK ?_
 refine aO ?_
 refine aA (aQ hH (Ty.bH rfl) rfl ?_)
 try clear hH
 intro _ b3 hH
 replace hH:=aI hH
 refine aK ?_
 refine aV (G:=(Nat)) (fun k=>64-k) 274877890560 (fun k=>[(15,.int .i64 k)]) (fun k w'=>k≤64∧Hp [] w w' [Rb b1 52 (p.cells m n).toArray,Rb b2 92 ((List.replicate 64 (0:Int)).map (Value.int .i64)).toArray,Rb b3 92 ((mix z (List.replicate 64 0) k).map (Value.int .i64)).toArray]) (0) ⟨rfl,trivial⟩ ⟨by omega,by rw [kV];exact hH⟩ ?_
 rintro k w' σ ⟨hk,hH⟩ IH
 show WS _ _ _ _ _ (bQ [(15,.int .i64 k)] _) _
 have hml:=eZ hz (List.length_replicate (n:=64) (a:=(0:Int))) hk
 by_cases hlt:k<64
 ·have hB:=hH.b 0 rfl
  have hzz:=hzk k hlt
  repeat (first|refine aR ?_|(refine aD (by first|refine aE rfl hB rfl (Ty.aF rfl)|refine dL (n:=8) rfl rfl (by decide)|refine iR (n:=8) rfl rfl (by decide) (mU (by omega))|refine bN (m:=2) rfl rfl (by omega)) rfl ?_)|refine aT ?_)
  refine aO ?_
  refine aA (aC ((IA (x2:=2*(i+(k % 8:Nat))+dx) (y2:=2*(j+(k / 8:Nat))+dy) (down:=down) hm hn (by omega) (by omega) hl (hS.aH hH.ext))) rfl rfl ?_)
  rintro _ _ ⟨rfl,hE0⟩
  replace hH:=hH.aH hE0
  clear hE0
  replace hH:=aI hH
  clear hB
  generalize Lc p.S m n (2 * (i + (k % 8:Nat)) + dx) (2 * (j + (k / 8:Nat)) + dy) down=c at *
  repeat ((refine aD (by refine bD rfl rfl (Ty.arr rfl) (by omega)) rfl ?_))
  refine aO ?_
  refine aA (cF 2 (v:=.int .i64 c) hH rfl rfl rfl (by rw [List.length_map,hml];omega) rfl (Ty.aF rfl) ?_)
  try clear hH
  intro _ hH
  replace hH:=aI hH
  rw [← List.map_set,Int.toNat_natCast,gZ hz (by simp) hlt hzz] at hH
  refine aK ?_
  refine IH (k+1) _ _ ?_ ?_ ?_ ?_
  ·omega
  ·exact ⟨rfl,trivial⟩
  ·exact cP
  ·exact ⟨by omega,hH⟩
 ·obtain rfl:k=64:=by omega
  rw [lD hz (by simp)] at hH
  have hB:=hH.b 2 rfl
  have hl1:=hz
  repeat (first|refine aR ?_|(refine aD (by refine aE rfl hB (by simp [hz]) (Ty.aF rfl)) rfl ?_)|refine aT ?_)
  refine aO ?_
  refine aA (aJ 1 (vs:=(z.map (Value.int .i64)).toArray) (s:=64) hH rfl rfl rfl (by simp [hl1]) (by rfl) (by exact bB) (Ty.aF rfl) ?_)
  try clear hH
  intro _ hH
  replace hH:=aI hH
  refine aK ?_
  exact bP Tryz.func186 rfl rfl (hH.b 1 rfl) (by simp [hz]) (Ty.aF rfl) ⟨rfl,hH.ext⟩
theorem Hv {P:Program} {ρ:Fr} {w:World} {dst:Option Nat} {ty t u:TypeId} {pos:String} {af:Array Edge} {gd:Option (Nat × Bool)} {x y:Operand} {m n:Int} (hx:ev ρ x=.int .i64 m) (hy:ev ρ y=.int .i64 n) (h:(-9223372036854775808<m∧m≤9223372036854775807)∧0<n):cU P ρ ⟨dst,.binOp .quo t x y u,ty,pos,af,gd⟩ w (.int .i64 (m.tdiv n)) w :=
 dB hx hy (aZ rfl) (by
  have h0:n≠0:=by omega
  have hb:-9223372036854775808≤m.tdiv n∧m.tdiv n≤9223372036854775807:=by
   have h1:(m.tdiv n).natAbs=m.natAbs / n.natAbs:=Int.natAbs_tdiv m n
   have h2:m.natAbs / n.natAbs≤m.natAbs:=Nat.div_le_self _ _
   omega
  simp [binOp,Op.intDiv,h0,fN hb.1 hb.2])
def zU (b:List Int):List Int:=((iM b 4).bind fun x=>iM x 4).getD []
def NY (c:List Int):List Int:=((fH c 4).bind fun x=>fH x 4).getD []
def HQ (c:List Int):List Int:=(NY c).map fun n=>(n+32) / 64
section
variable {M:Int} {b:List Int}
theorem Hd (hM0:0≤M) (hM:64*M<9007199254740992) (hb:tH M b):∃ x y,iM b 4=some x∧x.length=64∧iM x 4=some y∧zU b=y∧tH (64*M) y:=by
 obtain ⟨x,h1,h2⟩:=Br hM0 (by omega) hb
 obtain ⟨y,h3,h4⟩:=Br (M:=8*M) (by omega) (by omega) h2
 exact ⟨x,y,h1,h2.1,h3,by rw [zU,h1,Option.bind_some,h3];rfl,by rw [show 64*M=8*(8*M) by omega];exact h4⟩
theorem IK (hM0:0≤M) (hM:64*M<9007199254740992) (hb:tH M b):∃ x y,fH b 4=some x∧x.length=64∧fH x 4=some y∧NY b=y∧tH (64*M) y:=by
 obtain ⟨x,h1,h2⟩:=zA hM0 (by omega) hb
 obtain ⟨y,h3,h4⟩:=zA (M:=8*M) (by omega) (by omega) h2
 exact ⟨x,y,h1,h2.1,h3,by rw [NY,h1,Option.bind_some,h3];rfl,by rw [show 64*M=8*(8*M) by omega];exact h4⟩
end
set_option maxHeartbeats 4000000 in
theorem qA {M:Int} {b:List Int} {w:World} (hM0:0≤M) (hM:64*M<9007199254740992) (hb:tH M b):aX Tryz.prog 134 #[.agg (b.map (Value.int .i64)).toArray] w fun r w'=>r=.agg ((zU b).map (Value.int .i64)).toArray∧Ext [] w w':=by
 obtain ⟨x,y,hx,hxl,hy,hf,hym⟩:=Hd hM0 hM hb
 rw [hf]
 have hyl:=hym.1
 have hbl:=hb.1
 refine aL (args:=[_]) Tryz.func134 rfl rfl Tryz.ntmps134 rfl ?_
 have hH:=Hp.start w
 refine aK ?_
 refine aO ?_
 refine aA (bI (cs:=(b.map (Value.int .i64)).toArray) hH rfl rfl rfl ?_)
 try clear hH
 intro _ b1 hH
 replace hH:=aI hH
 refine aO ?_
 refine aA (aQ hH (Ty.bH rfl) rfl ?_)
 try clear hH
 intro _ b2 hH
 replace hH:=aI hH
 have hB:=hH.b 0 rfl
 repeat (first|refine aR ?_|(refine aD (by refine aE rfl hB (by simp [hbl]) (Ty.aF rfl)) rfl ?_))
 refine aO ?_
 refine aA (aC ((yE hbl hx)) rfl rfl ?_)
 rintro _ _ ⟨rfl,hE0⟩
 replace hH:=hH.aH hE0
 clear hE0
 replace hH:=aI hH
 refine aK ?_
 refine aO ?_
 refine aA (aC ((yE hxl hy)) rfl rfl ?_)
 rintro _ _ ⟨rfl,hE0⟩
 replace hH:=hH.aH hE0
 clear hE0
 replace hH:=aI hH
 refine aK ?_
 have hl1:=hyl
 refine aO ?_
 refine aA (aJ 1 (vs:=(y.map (Value.int .i64)).toArray) (s:=64) hH rfl rfl rfl (by simp [hl1]) (by rfl) (by exact bB) (Ty.aF rfl) ?_)
 try clear hH
 intro _ hH
 replace hH:=aI hH
 refine aK ?_
 exact bP Tryz.func134 rfl rfl (hH.b 1 rfl) (by simp [hyl]) (Ty.aF rfl) ⟨rfl,hH.ext⟩
set_option maxRecDepth 20000 in
set_option maxHeartbeats 4000000 in
theorem zX {M:Int} {b:List Int} {w:World} (hM0:0≤M) (hM:64*M<9007199254740000) (hb:tH M b):aX Tryz.prog 145 #[.agg (b.map (Value.int .i64)).toArray] w fun r w'=>r=.agg ((HQ b).map (Value.int .i64)).toArray∧Ext [] w w':=by
 obtain ⟨x,y,hx,hxl,hy,hf,hym⟩:=IK hM0 (by omega) hb
 unfold HQ
 rw [hf]
 have hyl:=hym.1
 have hbl:=hb.1
 refine aL (args:=[_]) Tryz.func145 rfl rfl Tryz.ntmps145 rfl ?_
 have hH:=Hp.start w
 obtain ⟨z,hz⟩:∃ z,y.map (fun n=>(n+32) / 64)=z:=⟨_,rfl⟩
 have hzl:z.length=64:=by rw [← hz,List.length_map,hyl]
 rw [hz]
 refine aK ?_
 refine aO ?_
 refine aA (bI (cs:=(b.map (Value.int .i64)).toArray) hH rfl rfl rfl ?_)
 try clear hH
 intro _ b1 hH
 replace hH:=aI hH
 refine aO ?_
 refine aA (aQ hH (Ty.bH rfl) rfl ?_)
 try clear hH
 intro _ b2 hH
 replace hH:=aI hH
 refine aK ?_
 refine aO ?_
 refine aA (aQ hH (Ty.bH rfl) rfl ?_)
 try clear hH
 intro _ b3 hH
 replace hH:=aI hH
 have hB:=hH.b 0 rfl
 repeat (first|refine aR ?_|(refine aD (by refine aE rfl hB (by simp [hbl]) (Ty.aF rfl)) rfl ?_))
 clear hB
 refine aO ?_
 refine aA (aC ((zI hbl hx)) rfl rfl ?_)
 rintro _ _ ⟨rfl,hE0⟩
 replace hH:=hH.aH hE0
 clear hE0
 replace hH:=aI hH
 refine aK ?_
 refine aO ?_
 refine aA (aC ((zI hxl hy)) rfl rfl ?_)
 rintro _ _ ⟨rfl,hE0⟩
 replace hH:=hH.aH hE0
 clear hE0
 replace hH:=aI hH
 refine aK ?_
 refine aO ?_
 refine aA (aQ hH (Ty.bH rfl) rfl ?_)
 try clear hH
 intro _ b4 hH
 replace hH:=aI hH
 refine aK ?_
 have hl1:=hyl
 refine aO ?_
 refine aA (aJ 3 (vs:=(y.map (Value.int .i64)).toArray) (s:=64) hH rfl rfl rfl (by simp [hl1]) (by rfl) (by exact bB) (Ty.aF rfl) ?_)
 try clear hH
 intro _ hH
 replace hH:=aI hH
 have hB:=hH.b 3 rfl
 repeat (first|refine aR ?_|(refine aD (by refine aE rfl hB (by simp [hyl]) (Ty.aF rfl)) rfl ?_)|refine aT ?_)
 clear hB
 refine aV (G:=(Nat)) (fun i=>64-i) 2095200 (fun i=>[(11,.int .i64 i)]) (fun i w'=>i≤64∧Hp [] w w' [Rb b1 92 (b.map (Value.int .i64)).toArray,Rb b2 92 ((List.replicate 64 (0:Int)).map (Value.int .i64)).toArray,Rb b3 92 ((mix z (List.replicate 64 0) i).map (Value.int .i64)).toArray,Rb b4 92 (y.map (Value.int .i64)).toArray]) (0) ⟨rfl,trivial⟩ ⟨by omega,by rw [kV];exact hH⟩ ?_
 rintro i w' σ ⟨hi,hH⟩ IH
 show WS _ _ _ _ _ (bQ [(11,.int .i64 i)] _) _
 have hml:=eZ hzl (List.length_replicate (n:=64) (a:=(0:Int))) hi
 by_cases hlt:i<64
 ·have hx1:=eC hyl hlt
  have hy1:=hym.2 i
  have hzk:z[i]?=some ((y.getD i 0+32) / 64):=by rw [← hz,List.getElem?_map,List.getD_eq_getElem?_getD,List.getElem?_eq_getElem (by omega)];rfl
  repeat (first|refine aR ?_|(refine aD (by first|refine cB rfl rfl (Ty.arr rfl) (by omega) hx1|refine DS (m:=6) rfl rfl (by decide)|refine bD rfl rfl (Ty.arr rfl) (by omega)) rfl ?_)|refine aT ?_)
  refine aO ?_
  refine aA (cF 2 (v:=.int .i64 ((y.getD i 0+32) / 64)) hH rfl rfl rfl (by rw [List.length_map,hml];omega) rfl (Ty.aF rfl) ?_)
  try clear hH
  intro _ hH
  replace hH:=aI hH
  rw [← List.map_set,Int.toNat_natCast,gZ hzl (by simp) hlt hzk] at hH
  refine aK ?_
  refine IH (i+1) _ _ ?_ ?_ ?_ ?_
  ·omega
  ·exact ⟨rfl,trivial⟩
  ·exact cP
  ·exact ⟨by omega,hH⟩
 ·obtain rfl:i=64:=by omega
  rw [lD hzl (by simp)] at hH
  have hB:=hH.b 2 rfl
  clear hl1
  have hl1:=hzl
  repeat (first|refine aR ?_|(refine aD (by refine aE rfl hB (by simp [hzl]) (Ty.aF rfl)) rfl ?_)|refine aT ?_)
  refine aO ?_
  refine aA (aJ 1 (vs:=(z.map (Value.int .i64)).toArray) (s:=64) hH rfl rfl rfl (by simp [hl1]) (by rfl) (by exact bB) (Ty.aF rfl) ?_)
  try clear hH
  intro _ hH
  replace hH:=aI hH
  refine aK ?_
  exact bP Tryz.func145 rfl rfl (hH.b 1 rfl) (by simp [hzl]) (Ty.aF rfl) ⟨rfl,hH.ext⟩
theorem uP {l:List Nat} (hl:gR l) (i:Nat):l.getD i 0≤255:=by
 rw [List.getD_eq_getElem?_getD]
 cases hi:l[i]? with
 | none=>decide
 | some c=>have:=hl c (List.mem_of_getElem? hi);simp;omega
def vJ (h:SH) (qp:Int) (i:Nat) (b:Bool):Int:=min (max qp 1) 31*max (if h.wt=true then (((if b=true then h.A else h.Bb).getD i 0:Nat):Int) else 16) 8
theorem pS {h:SH} (ho:h.ok) (qp:Int) (i:Nat) (b:Bool):8≤vJ h qp i b∧vJ h qp i b≤7905:=by
 have h1:(if h.wt=true then (((if b=true then h.A else h.Bb).getD i 0:Nat):Int) else 16)≤255:=by
  split
  ·have key:∀ l:List Nat,gR l→l.getD i 0≤255:=fun l hl=>by
    rw [List.getD_eq_getElem?_getD]
    cases hi:l[i]? with
    | none=>decide
    | some c=>have:=hl c (List.mem_of_getElem? hi);simp;omega
   have:(if b=true then h.A else h.Bb).getD i 0≤255:=by
    split
    ·exact key _ ho.ba
    ·exact key _ ho.bb
   omega
  ·decide
 unfold vJ
 generalize (if h.wt=true then (((if b=true then h.A else h.Bb).getD i 0:Nat):Int) else 16)=x at *
 obtain ⟨p,hp⟩:∃ p,min (max qp 1) 31=p:=⟨_,rfl⟩
 obtain ⟨s,hs⟩:∃ s,max x 8=s:=⟨_,rfl⟩
 rw [hp,hs]
 have h2:(1:Int)*8≤p*s:=Int.mul_le_mul (by omega) (by omega) (by decide) (by omega)
 have h3:p*s≤31*255:=Int.mul_le_mul (by omega) (by omega) (by omega) (by decide)
 omega
set_option maxRecDepth 20000 in
set_option maxHeartbeats 4000000 in
theorem vW {h:SH} {qp:Int} {i:Nat} {b:Bool} {w:World} (ho:h.ok) (hi:i<64):aX Tryz.prog 179 #[.agg h.tc.toArray,.int .i64 qp,.int .i64 i,.bool b] w fun v w'=>v=.int .i64 (vJ h qp i b)∧Ext [] w w':=by
 have hle:=pS ho qp i b
 refine aL (args:=[_,_,_,_]) Tryz.func179 rfl rfl Tryz.ntmps179 rfl ?_
 have hH:=Hp.start w
 have h00:(h.tc.toArray)[0]?=some (.bool h.wt):=rfl
 unfold vJ at hle ⊢
 refine aK ?_
 refine aO ?_
 refine aA (bI (cs:=h.tc.toArray) hH rfl rfl rfl ?_)
 try clear hH
 intro _ b1 hH
 replace hH:=aI hH
 have hB:=hH.b 0 rfl
 cases hw:h.wt
 ·simp only [hw,if_neg (show ¬ (false=true) by decide)] at hle ⊢
  repeat (first|refine aR ?_|(refine aD (by first|refine aN rfl (Ty.bA rfl rfl)|refine (aB rfl hB h00 (Ty.aF rfl)).is (congrArg Value.bool hw)|refine bN (m:=min (max qp 1) 31) (n:=max 16 8) rfl rfl (by omega)) rfl ?_)|refine aT ?_)
  exact aM Tryz.func179 rfl ⟨rfl,hH.ext⟩
 ·have hSA:cI _ (some ⟨b1,0+1,none⟩) (h.A.map B):=hB.sl (fun j v hj=>by
   have hl:=(List.getElem?_eq_some_iff.1 hj).1
   rw [List.getElem?_toArray,SH.tc,show 0+1+j=j+1 by omega,List.getElem?_cons_succ,List.getElem?_append_left hl];exact hj)
  have hSB:cI _ (some ⟨b1,0+65,none⟩) (h.Bb.map B):=hB.sl (fun j v hj=>by
   rw [List.getElem?_toArray,SH.tc,show 0+65+j=(j+64)+1 by omega,List.getElem?_cons_succ,List.getElem?_append_right (by rw [List.length_map,ho.la];omega),List.length_map,ho.la,Nat.add_sub_cancel];exact hj)
  have hA:(h.A.map B)[i]?=some (.int .u8 (h.A.getD i 0:Nat)):=by
   rw [List.getElem?_map,List.getD_eq_getElem?_getD,List.getElem?_eq_getElem (by rw [ho.la];exact hi)];rfl
  have hB6:(h.Bb.map B)[i]?=some (.int .u8 (h.Bb.getD i 0:Nat)):=by
   rw [List.getElem?_map,List.getD_eq_getElem?_getD,List.getElem?_eq_getElem (by rw [ho.lb];exact hi)];rfl
  rw [hw,if_pos rfl] at hle
  rw [if_pos rfl]
  cases b
  ·rw [if_neg (by decide)] at hle ⊢
   have hxb:=uP ho.bb i
   generalize h.Bb.getD i 0=xb at *
   repeat (first|refine aR ?_|(refine aD (by first|refine aN rfl (Ty.bA rfl rfl)|refine (aB rfl hB h00 (Ty.aF rfl)).is (congrArg Value.bool hw)|refine bD rfl rfl (Ty.arr rfl) (by omega)|refine aU rfl hSB hB6 (Ty.aF rfl)|refine bN rfl rfl (by omega)) rfl ?_)|refine aT ?_)
   exact aM Tryz.func179 rfl ⟨rfl,hH.ext⟩
  ·rw [if_pos rfl] at hle ⊢
   have hxb:=uP ho.bb i
   generalize h.Bb.getD i 0=xb at *
   have hxa:=uP ho.ba i
   generalize h.A.getD i 0=xa at *
   repeat (first|refine aR ?_|(refine aD (by first|refine aN rfl (Ty.bA rfl rfl)|refine (aB rfl hB h00 (Ty.aF rfl)).is (congrArg Value.bool hw)|refine bD rfl rfl (Ty.arr rfl) (by omega)|refine aU rfl hSB hB6 (Ty.aF rfl)|refine aU rfl hSA hA (Ty.aF rfl)|refine bN rfl rfl (by omega)) rfl ?_)|refine aT ?_)
   exact aM Tryz.func179 rfl ⟨rfl,hH.ext⟩
def xH (n st:Int):Int:=min (max (n.tdiv st) (-2047)) 2047
def vC (l st:Int):Int:=if 0<l then l*st+st / 2 else if l<0 then l*st-st / 2 else 0
theorem JG (n st:Int):-2047≤xH n st∧xH n st≤2047:=by unfold xH;omega
theorem Eu {l st:Int} (hl:-2047≤l∧l≤2047) (hs:8≤st∧st≤7905):-16200000≤vC l st∧vC l st≤16200000:=by
 have h1:l*st≤2047*7905:=by
  rcases Int.lt_or_le l 0 with h|h
  ·have:=Int.mul_nonpos_of_nonpos_of_nonneg (a:=l) (b:=st) (by omega) (by omega);omega
  ·exact Int.mul_le_mul hl.2 hs.2 (by omega) (by omega)
 have h2:-(2047*7905)≤l*st:=by
  rcases Int.lt_or_le l 0 with h|h
  ·have:=Int.mul_le_mul (a:=-l) (b:=st) (c:=2047) (d:=7905) (by omega) hs.2 (by omega) (by omega)
   rw [Int.neg_mul] at this;omega
  ·have:=Int.mul_nonneg h (show 0≤st by omega);omega
 unfold vC
 split<;>(try split)<;>omega
theorem Du {n st:Int} {w:World} (hn:-1000000000≤n∧n≤1000000000) (hs:8≤st∧st≤7905):aX Tryz.prog 178 #[.int .i64 n,.int .i64 st] w fun v w'=>v=.int .i64 (xH n st)∧w'=w:=by
 refine aL (args:=[_,_]) Tryz.func178 rfl rfl Tryz.ntmps178 rfl ?_
 have e:max st 1=st:=by omega
 repeat (first|refine aR ?_|(refine aD (by first|refine (gJ rfl rfl).is (congrArg (Value.int .i64) e)|refine Hv rfl rfl (by omega)) rfl ?_)|refine aT ?_)
 exact aM Tryz.func178 rfl ⟨rfl,rfl⟩
theorem Ds {l st:Int} {w:World} (hl:-2047≤l∧l≤2047) (hs:8≤st∧st≤7905):aX Tryz.prog 189 #[.int .i64 l,.int .i64 st] w fun v w'=>v=.int .i64 (vC l st)∧w'=w:=by
 refine aL (args:=[_,_]) Tryz.func189 rfl rfl Tryz.ntmps189 rfl ?_
 have e:min (max l (-2047)) 2047=l:=by omega
 have e2:min (max st 1) 65536=st:=by omega
 have hb:=Eu hl hs
 unfold vC at hb ⊢
 by_cases h1:0<l
 ·rw [if_pos h1] at hb ⊢
  repeat (first|refine aR ?_|(refine aD (by first|refine (eK rfl rfl).is (congrArg (Value.int .i64) e)|refine (eK rfl rfl).is (congrArg (Value.int .i64) e2)|refine bN (m:=l) (n:=st) rfl rfl (by omega)) rfl ?_)|refine aT ?_)
  exact aM Tryz.func189 rfl ⟨rfl,rfl⟩
 ·rw [if_neg h1] at hb ⊢
  by_cases h2:l<0
  ·rw [if_pos h2] at hb ⊢
   repeat (first|refine aR ?_|(refine aD (by first|refine (eK rfl rfl).is (congrArg (Value.int .i64) e)|refine (eK rfl rfl).is (congrArg (Value.int .i64) e2)|refine bN (m:=l) (n:=st) rfl rfl (by omega)) rfl ?_)|refine aT ?_)
   exact aM Tryz.func189 rfl ⟨rfl,rfl⟩
  ·rw [if_neg h2]
   repeat (first|refine aR ?_|(refine aD (by first|refine (eK rfl rfl).is (congrArg (Value.int .i64) e)|refine (eK rfl rfl).is (congrArg (Value.int .i64) e2)) rfl ?_)|refine aT ?_)
   exact aM Tryz.func189 rfl ⟨rfl,rfl⟩
def GY (g:Int→Int→Int) (h:SH) (c:List Int) (qp:Int) (b:Bool):List Int:=(List.range 64).map fun i=>g (c.getD i 0) (vJ h qp i b)
def JY (h:SH) (c:List Int) (qp:Int) (b:Bool):List Int:=if b=true then (GY xH h c qp b).set 0 (Hz (c.getD 0 0) qp) else GY xH h c qp b
def M5 (h:SH) (c:List Int) (qp:Int) (b:Bool):List Int:=if b=true then (GY vC h c qp b).set 0 (J5 (c.getD 0 0) qp) else GY vC h c qp b
theorem nX (g:Int→Int→Int) (h:SH) (c:List Int) (qp:Int) (b:Bool):(GY g h c qp b).length=64:=by simp [GY]
theorem Gm {g:Int→Int→Int} {h:SH} {c:List Int} {qp:Int} {b:Bool} {i:Nat} (hi:i<64):(GY g h c qp b)[i]?=some (g (c.getD i 0) (vJ h qp i b)):=by simp [GY,hi]
set_option maxRecDepth 20000 in
set_option maxHeartbeats 4000000 in
theorem CR {h:SH} {c:List Int} {qp:Int} {b:Bool} {w:World} (ho:h.ok) (hc:tH 1000000000 c):aX Tryz.prog 133 #[.agg h.tc.toArray,.agg (c.map (Value.int .i64)).toArray,.int .i64 qp,.bool b] w fun v w'=>v=.agg ((JY h c qp b).map (Value.int .i64)).toArray∧Ext [] w w':=by
 refine aL (args:=[_,_,_,_]) Tryz.func133 rfl rfl Tryz.ntmps133 rfl ?_
 have hH:=Hp.start w
 have htl:=SH.eS ho
 have hzl:=nX xH h c qp b
 have hzk:=fun i=>Gm (g:=xH) (h:=h) (c:=c) (qp:=qp) (b:=b) (i:=i)
 unfold JY
 generalize GY xH h c qp b=z at *
 refine aK ?_
 refine aO ?_
 refine aA (bI (cs:=h.tc.toArray) hH rfl rfl rfl ?_)
 try clear hH
 intro _ b1 hH
 replace hH:=aI hH
 refine aO ?_
 refine aA (bI (cs:=(c.map (Value.int .i64)).toArray) hH rfl rfl rfl ?_)
 try clear hH
 intro _ b2 hH
 replace hH:=aI hH
 refine aO ?_
 refine aA (aQ hH (Ty.bH rfl) rfl ?_)
 try clear hH
 intro _ b3 hH
 replace hH:=aI hH
 refine aK ?_
 refine aO ?_
 refine aA (aQ hH (Ty.bH rfl) rfl ?_)
 try clear hH
 intro _ b4 hH
 replace hH:=aI hH
 have hB:=hH.b 1 rfl
 repeat (first|refine aR ?_|(refine aD (by refine aE rfl hB (by simp [hc.1]) (Ty.aF rfl)) rfl ?_)|refine aT ?_)
 clear hB
 refine aV (G:=(Nat)) (fun k=>64-k) 134212608 (fun k=>[(13,.int .i64 k)]) (fun k w'=>k≤64∧Hp [] w w' [Rb b1 24 h.tc.toArray,Rb b2 92 (c.map (Value.int .i64)).toArray,Rb b3 92 ((List.replicate 64 (0:Int)).map (Value.int .i64)).toArray,Rb b4 92 ((mix z (List.replicate 64 0) k).map (Value.int .i64)).toArray]) (0) ⟨rfl,trivial⟩ ⟨by omega,by rw [kV];exact hH⟩ ?_
 rintro k w' σ ⟨hk,hH⟩ IH
 show WS _ _ _ _ _ (bQ [(13,.int .i64 k)] _) _
 have hml:=eZ hzl (List.length_replicate (n:=64) (a:=(0:Int))) hk
 by_cases hlt:k<64
 ·have hx1:=eC hc.1 hlt
  have hck:=hc.2 k
  have hzz:=hzk k hlt
  have dW:=pS ho qp k b
  have hB:=hH.b 0 rfl
  repeat (first|refine aR ?_|(refine aD (by first|refine cB rfl rfl (Ty.arr rfl) (by omega) hx1|refine aE rfl hB (by simp [htl]) (Ty.aF rfl)) rfl ?_)|refine aT ?_)
  refine aO ?_
  refine aA (aC ((vW ho hlt)) rfl rfl ?_)
  rintro _ _ ⟨rfl,hE0⟩
  replace hH:=hH.aH hE0
  clear hE0
  replace hH:=aI hH
  clear hB
  refine aK ?_
  refine aO ?_
  refine aA (aC ((Du (by omega) dW)) rfl rfl ?_)
  rintro _ _ ⟨rfl,rfl⟩
  repeat ((refine aD (by refine bD rfl rfl (Ty.arr rfl) (by omega)) rfl ?_))
  refine aO ?_
  refine aA (cF 3 (v:=.int .i64 _) hH rfl rfl rfl (by rw [List.length_map,hml];omega) rfl (Ty.aF rfl) ?_)
  try clear hH
  intro _ hH
  replace hH:=aI hH
  rw [← List.map_set,Int.toNat_natCast,gZ hzl (by simp) hlt hzz] at hH
  refine aK ?_
  refine IH (k+1) _ _ ?_ ?_ ?_ ?_
  ·omega
  ·exact ⟨rfl,trivial⟩
  ·exact cP
  ·exact ⟨by omega,hH⟩
 ·obtain rfl:k=64:=by omega
  rw [lD hzl (by simp)] at hH
  cases b
  ·rw [if_neg (by decide)]
   have hB:=hH.b 3 rfl
   have hl1:=hzl
   repeat (first|refine aR ?_|(refine aD (by refine aE rfl hB (by simp [hzl]) (Ty.aF rfl)) rfl ?_)|refine aT ?_)
   refine aO ?_
   refine aA (aJ 2 (vs:=(z.map (Value.int .i64)).toArray) (s:=64) hH rfl rfl rfl (by simp [hl1]) (by rfl) (by exact bB) (Ty.aF rfl) ?_)
   try clear hH
   intro _ hH
   replace hH:=aI hH
   refine aK ?_
   exact bP Tryz.func133 rfl rfl (hH.b 2 rfl) (by simp [hzl]) (Ty.aF rfl) ⟨rfl,hH.ext⟩
  ·rw [if_pos rfl]
   have hB:=hH.b 1 rfl
   have hx1:=eC hc.1 (show 0<64 by decide)
   rw [List.getElem?_toArray] at hx1
   have hS:cI _ (some ⟨b2,0,none⟩) (c.map (Value.int .i64)):=hB.cX
   repeat (first|refine aR ?_|(refine aD (by first|refine bD rfl rfl (Ty.arr rfl) (by omega)|refine aU rfl hS hx1 (Ty.aF rfl)) rfl ?_)|refine aT ?_)
   clear hS hB
   have hck:=hc.2 0
   refine aO ?_
   refine aA (aC ((cZ (n:=c.getD 0 0) (q:=qp) (by omega))) rfl rfl ?_)
   rintro _ _ ⟨rfl,rfl⟩
   repeat ((refine aD (by refine bD rfl rfl (Ty.arr rfl) (by omega)) rfl ?_))
   refine aO ?_
   refine aA (cF 3 (v:=.int .i64 _) hH rfl rfl rfl (by rw [List.length_map,hzl];decide) rfl (Ty.aF rfl) ?_)
   try clear hH
   intro _ hH
   replace hH:=aI hH
   rw [← List.map_set] at hH
   have hzs:(z.set (0:Int).toNat (Hz (c.getD 0 0) qp)).length=64:=by rw [List.length_set,hzl]
   have hB:=hH.b 3 rfl
   have hl1:=hzl
   repeat (first|refine aR ?_|(refine aD (by refine aE rfl hB (by simp [hzl]) (Ty.aF rfl)) rfl ?_))
   refine aO ?_
   refine aA (aJ 2 (vs:=((z.set (0:Int).toNat (Hz (c.getD 0 0) qp)).map (Value.int .i64)).toArray) (s:=64) hH rfl rfl rfl (by simp [hl1]) (by rfl) (by exact bB) (Ty.aF rfl) ?_)
   try clear hH
   intro _ hH
   replace hH:=aI hH
   refine aK ?_
   exact bP Tryz.func133 rfl rfl (hH.b 2 rfl) (by simpa using hzs) (Ty.aF rfl) ⟨rfl,hH.ext⟩
set_option maxRecDepth 20000 in
set_option maxHeartbeats 4000000 in
theorem G8 {h:SH} {c:List Int} {qp:Int} {b:Bool} {w:World} (ho:h.ok) (hc:tH 2047 c):aX Tryz.prog 146 #[.agg h.tc.toArray,.agg (c.map (Value.int .i64)).toArray,.int .i64 qp,.bool b] w fun v w'=>v=.agg ((M5 h c qp b).map (Value.int .i64)).toArray∧Ext [] w w':=by
 refine aL (args:=[_,_,_,_]) Tryz.func146 rfl rfl Tryz.ntmps146 rfl ?_
 have hH:=Hp.start w
 have htl:=SH.eS ho
 have hzl:=nX vC h c qp b
 have hzk:=fun i=>Gm (g:=vC) (h:=h) (c:=c) (qp:=qp) (b:=b) (i:=i)
 unfold M5
 generalize GY vC h c qp b=z at *
 refine aK ?_
 refine aO ?_
 refine aA (bI (cs:=h.tc.toArray) hH rfl rfl rfl ?_)
 try clear hH
 intro _ b1 hH
 replace hH:=aI hH
 refine aO ?_
 refine aA (bI (cs:=(c.map (Value.int .i64)).toArray) hH rfl rfl rfl ?_)
 try clear hH
 intro _ b2 hH
 replace hH:=aI hH
 refine aO ?_
 refine aA (aQ hH (Ty.bH rfl) rfl ?_)
 try clear hH
 intro _ b3 hH
 replace hH:=aI hH
 refine aK ?_
 refine aO ?_
 refine aA (aQ hH (Ty.bH rfl) rfl ?_)
 try clear hH
 intro _ b4 hH
 replace hH:=aI hH
 have hB:=hH.b 1 rfl
 repeat (first|refine aR ?_|(refine aD (by refine aE rfl hB (by simp [hc.1]) (Ty.aF rfl)) rfl ?_)|refine aT ?_)
 clear hB
 refine aV (G:=(Nat)) (fun k=>64-k) 134212608 (fun k=>[(13,.int .i64 k)]) (fun k w'=>k≤64∧Hp [] w w' [Rb b1 24 h.tc.toArray,Rb b2 92 (c.map (Value.int .i64)).toArray,Rb b3 92 ((List.replicate 64 (0:Int)).map (Value.int .i64)).toArray,Rb b4 92 ((mix z (List.replicate 64 0) k).map (Value.int .i64)).toArray]) (0) ⟨rfl,trivial⟩ ⟨by omega,by rw [kV];exact hH⟩ ?_
 rintro k w' σ ⟨hk,hH⟩ IH
 show WS _ _ _ _ _ (bQ [(13,.int .i64 k)] _) _
 have hml:=eZ hzl (List.length_replicate (n:=64) (a:=(0:Int))) hk
 by_cases hlt:k<64
 ·have hx1:=eC hc.1 hlt
  have hck:=hc.2 k
  have hzz:=hzk k hlt
  have dW:=pS ho qp k b
  have hB:=hH.b 0 rfl
  repeat (first|refine aR ?_|(refine aD (by first|refine cB rfl rfl (Ty.arr rfl) (by omega) hx1|refine aE rfl hB (by simp [htl]) (Ty.aF rfl)) rfl ?_)|refine aT ?_)
  refine aO ?_
  refine aA (aC ((vW ho hlt)) rfl rfl ?_)
  rintro _ _ ⟨rfl,hE0⟩
  replace hH:=hH.aH hE0
  clear hE0
  replace hH:=aI hH
  clear hB
  refine aK ?_
  refine aO ?_
  refine aA (aC ((Ds (by omega) dW)) rfl rfl ?_)
  rintro _ _ ⟨rfl,rfl⟩
  repeat ((refine aD (by refine bD rfl rfl (Ty.arr rfl) (by omega)) rfl ?_))
  refine aO ?_
  refine aA (cF 3 (v:=.int .i64 _) hH rfl rfl rfl (by rw [List.length_map,hml];omega) rfl (Ty.aF rfl) ?_)
  try clear hH
  intro _ hH
  replace hH:=aI hH
  rw [← List.map_set,Int.toNat_natCast,gZ hzl (by simp) hlt hzz] at hH
  refine aK ?_
  refine IH (k+1) _ _ ?_ ?_ ?_ ?_
  ·omega
  ·exact ⟨rfl,trivial⟩
  ·exact cP
  ·exact ⟨by omega,hH⟩
 ·obtain rfl:k=64:=by omega
  rw [lD hzl (by simp)] at hH
  cases b
  ·rw [if_neg (by decide)]
   have hB:=hH.b 3 rfl
   have hl1:=hzl
   repeat (first|refine aR ?_|(refine aD (by refine aE rfl hB (by simp [hzl]) (Ty.aF rfl)) rfl ?_)|refine aT ?_)
   refine aO ?_
   refine aA (aJ 2 (vs:=(z.map (Value.int .i64)).toArray) (s:=64) hH rfl rfl rfl (by simp [hl1]) (by rfl) (by exact bB) (Ty.aF rfl) ?_)
   try clear hH
   intro _ hH
   replace hH:=aI hH
   refine aK ?_
   exact bP Tryz.func146 rfl rfl (hH.b 2 rfl) (by simp [hzl]) (Ty.aF rfl) ⟨rfl,hH.ext⟩
  ·rw [if_pos rfl]
   have hB:=hH.b 1 rfl
   have hx1:=eC hc.1 (show 0<64 by decide)
   rw [List.getElem?_toArray] at hx1
   have hS:cI _ (some ⟨b2,0,none⟩) (c.map (Value.int .i64)):=hB.cX
   repeat (first|refine aR ?_|(refine aD (by first|refine bD rfl rfl (Ty.arr rfl) (by omega)|refine aU rfl hS hx1 (Ty.aF rfl)) rfl ?_)|refine aT ?_)
   clear hS hB
   have hck:=hc.2 0
   refine aO ?_
   refine aA (aC ((nJ (l:=c.getD 0 0) (q:=qp))) rfl rfl ?_)
   rintro _ _ ⟨rfl,rfl⟩
   repeat ((refine aD (by refine bD rfl rfl (Ty.arr rfl) (by omega)) rfl ?_))
   refine aO ?_
   refine aA (cF 3 (v:=.int .i64 _) hH rfl rfl rfl (by rw [List.length_map,hzl];decide) rfl (Ty.aF rfl) ?_)
   try clear hH
   intro _ hH
   replace hH:=aI hH
   rw [← List.map_set] at hH
   have hzs:(z.set (0:Int).toNat (J5 (c.getD 0 0) qp)).length=64:=by rw [List.length_set,hzl]
   have hB:=hH.b 3 rfl
   have hl1:=hzl
   repeat (first|refine aR ?_|(refine aD (by refine aE rfl hB (by simp [hzl]) (Ty.aF rfl)) rfl ?_))
   refine aO ?_
   refine aA (aJ 2 (vs:=((z.set (0:Int).toNat (J5 (c.getD 0 0) qp)).map (Value.int .i64)).toArray) (s:=64) hH rfl rfl rfl (by simp [hl1]) (by rfl) (by exact bB) (Ty.aF rfl) ?_)
   try clear hH
   intro _ hH
   replace hH:=aI hH
   refine aK ?_
   exact bP Tryz.func146 rfl rfl (hH.b 2 rfl) (by simpa using hzs) (Ty.aF rfl) ⟨rfl,hH.ext⟩
end Go.Proofs.YtdbnmbkjmeepkaaGreatDoor
