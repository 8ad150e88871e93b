/- A calculus of walks: what a piece of a function's code does, said over frames that are functions from slots to values; no condition. -/
import Derived.Scope
import Derived.Orders
import Derived.KernelRfl
namespace Go.K

/-- A frame, as a function from slots to values. -/
abbrev Fr := Nat → Value
def upd (ρ : Fr) (d : Nat) (v : Value) : Fr := fun n => cond (Nat.beq n d) v (ρ n)
def updo (ρ : Fr) : Option Nat → Value → Fr
  | none, _ => ρ
  | some d, v => upd ρ d v
def ev (ρ : Fr) : Operand → Value
  | .tmp t => ρ t
  | .const v => v
  | .global g => .pointer (some ⟨g, 0, none⟩)
  | .func f => .func (.func f) #[] #[]
def dstOk (N : Nat) : Option Nat → Bool
  | none => true
  | some d => Nat.blt d N
structure Rep (N : Nat) (a : Act) (ρ : Fr) : Prop where
  size : a.tmps.size = N
  defers : a.defers = []
  val : ∀ t, a.tmps.getD t undef = ρ t
theorem Rep.eval {N : Nat} {a : Act} {ρ : Fr} (h : Rep N a ρ) : a.eval = ev ρ := by
  funext x
  cases x with
  | tmp t => exact h.val t
  | const v => rfl
  | global g => rfl
  | func f => rfl
theorem upd_same (ρ : Fr) (d : Nat) (v : Value) : upd ρ d v d = v := by
  show cond (Nat.beq d d) v (ρ d) = v
  rw [Nat.beq_refl]; rfl
theorem upd_ne (ρ : Fr) {d t : Nat} (v : Value) (h : t ≠ d) : upd ρ d v t = ρ t := by
  have : Nat.beq t d = false := by
    cases hb : Nat.beq t d with
    | false => rfl
    | true => exact absurd (Nat.eq_of_beq_eq_true hb) h
  show cond (Nat.beq t d) v (ρ t) = ρ t
  rw [this]; rfl
theorem Rep.put {N : Nat} {a : Act} {ρ : Fr} (h : Rep N a ρ) {d : Option Nat} (hd : dstOk N d = true) (v : Value) : Rep N (a.put d v) (updo ρ d v) := by
  cases d with
  | none => exact h
  | some d =>
    have hlt : d < N := by simpa [dstOk, Nat.blt_eq] using hd
    refine ⟨by simp [Act.put, h.size], by simp [Act.put, h.defers], fun t => ?_⟩
    by_cases htd : t = d
    · subst htd
      have : t < a.tmps.size := by rw [h.size]; exact hlt
      simp [Act.put, updo, upd_same, this]
    · have := h.val t
      simp only [updo, upd_ne ρ v htd, ← this]
      simp [Act.put, Array.getElem?_setIfInBounds_ne (Ne.symm htd)]

/-- The machine's frame of function f. -/
def base (f : FuncId) : Frame := { (default : Frame) with fn := f, kind := .normal }

/-- From the stack of work k, the frame ρ and the world w on, function f comes to its return with a value and a world of which R holds. -/
structure WS (P : Program) (N : Nat) (f : FuncId) (R : Value → World → Prop) (k : List Item) (ρ : Fr) (w : World) : Prop where
  out : ∀ a, Rep N a ρ → ∀ cs, ∃ v w' fr, R v w' ∧ Steps P (lone ((base f).at a k) cs w) (lone fr cs w') ∧ fr.fn = f ∧ fr.leaving P w' (.returned v)

section
variable {P : Program} {N : Nat} {f : FuncId} {R : Value → World → Prop} {k : List Item} {ρ : Fr} {w : World}

theorem WS_step1 {k' : List Item} (hs : ∀ a cs, step P (lone ((base f).at a k) cs w) = .next (lone ((base f).at a k') cs w))
    (h : WS P N f R k' ρ w) : WS P N f R k ρ w := ⟨fun a ha cs =>
  let ⟨v, w', fr, hR, hst, hl⟩ := h.out a ha cs
  ⟨v, w', fr, hR, .head (hs a cs) hst, hl⟩⟩
theorem WS_seq {x y : Code} (h : WS P N f R (.code x :: .code y :: k) ρ w) : WS P N f R (.code (.seq x y) :: k) ρ w := WS_step1 (fun _ _ => step_seq) h
theorem WS_skip (h : WS P N f R k ρ w) : WS P N f R (.code .skip :: k) ρ w := WS_step1 (fun _ _ => step_skip) h
theorem WS_label {l : Nat} (h : WS P N f R k ρ w) : WS P N f R (.code (.label l) :: k) ρ w := WS_step1 (fun _ _ => step_label) h
theorem WS_block {id : Nat} {c : Code} (h : WS P N f R (.code c :: .inBlock id :: k) ρ w) : WS P N f R (.code (.block id c) :: k) ρ w := WS_step1 (fun _ _ => step_block) h
theorem WS_inBlock {id : Nat} (h : WS P N f R k ρ w) : WS P N f R (.inBlock id :: k) ρ w := WS_step1 (fun _ _ => step_inBlock) h
theorem WS_scope {c : Code} (h : WS P N f R (.code c :: .inScope c :: k) ρ w) : WS P N f R (.code (.scope c) :: k) ρ w := WS_step1 (fun _ _ => step_scope) h
theorem WS_inScope {c : Code} (h : WS P N f R k ρ w) : WS P N f R (.inScope c :: k) ρ w := WS_step1 (fun _ _ => step_inScope) h
theorem WS_loop0 {c : Code} (h : WS P N f R (.code c :: .inLoop c :: k) ρ w) : WS P N f R (.code (.loop c) :: k) ρ w := WS_step1 (fun _ _ => step_loop) h
theorem WS_inLoop {c : Code} (h : WS P N f R (.code c :: .inLoop c :: k) ρ w) : WS P N f R (.inLoop c :: k) ρ w := WS_step1 (fun _ _ => step_inLoop) h
theorem WS_exit {id : Nat} {k' : List Item} (hk : exitTo id k = some k') (h : WS P N f R k' ρ w) : WS P N f R (.code (.exit id) :: k) ρ w := WS_step1 (fun _ _ => step_exit hk) h
theorem WS_goto {l : Nat} {k' : List Item} (hk : gotoIn l k = some k') (h : WS P N f R k' ρ w) : WS P N f R (.code (.goto l) :: k) ρ w := WS_step1 (fun _ _ => step_goto hk) h
theorem WS_cond {c : Operand} {x y : Code} {t : Bool} (hc : ev ρ c = .bool t) (h : WS P N f R (.code (if t then x else y) :: k) ρ w) : WS P N f R (.code (.cond c x y) :: k) ρ w :=
  ⟨fun a ha cs =>
  let ⟨v, w', fr, hR, hst, hl⟩ := h.out a ha cs
  ⟨v, w', fr, hR, .head (step_cond (by rw [ha.eval]; exact hc)) hst, hl⟩⟩
theorem WS_true {c : Operand} {x y : Code} (hc : ev ρ c = .bool true) (h : WS P N f R (.code x :: k) ρ w) : WS P N f R (.code (.cond c x y) :: k) ρ w := WS_cond hc h
theorem WS_false {c : Operand} {x y : Code} (hc : ev ρ c = .bool false) (h : WS P N f R (.code y :: k) ρ w) : WS P N f R (.code (.cond c x y) :: k) ρ w := WS_cond hc h
/-- A test that is decided by what is known. -/
theorem WS_yes {c : Operand} {x y : Code} {p : Prop} [Decidable p] (hc : ev ρ c = .bool (decide p)) (hp : p) (h : WS P N f R (.code x :: k) ρ w) : WS P N f R (.code (.cond c x y) :: k) ρ w :=
  WS_cond hc (by rw [decide_eq_true hp]; exact h)
theorem WS_no {c : Operand} {x y : Code} {p : Prop} [Decidable p] (hc : ev ρ c = .bool (decide p)) (hp : ¬p) (h : WS P N f R (.code y :: k) ρ w) : WS P N f R (.code (.cond c x y) :: k) ρ w :=
  WS_cond hc (by rw [decide_eq_false hp]; exact h)
theorem WS_ite {c : Operand} {x y : Code} {p : Prop} [Decidable p] (hc : ev ρ c = .bool (decide p)) (ht : p → WS P N f R (.code x :: k) ρ w) (hf : ¬p → WS P N f R (.code y :: k) ρ w) :
    WS P N f R (.code (.cond c x y) :: k) ρ w := by
  by_cases hp : p
  · exact WS_yes hc hp (ht hp)
  · exact WS_no hc hp (hf hp)
theorem WS_bool {c : Operand} {x y : Code} {b : Bool} (hc : ev ρ c = .bool b) (ht : b = true → WS P N f R (.code x :: k) ρ w) (hf : b = false → WS P N f R (.code y :: k) ρ w) :
    WS P N f R (.code (.cond c x y) :: k) ρ w := by
  cases b
  · exact WS_cond hc (hf rfl)
  · exact WS_cond hc (ht rfl)

/-- What the result variables come to. -/
theorem WS_leave {fn : Func} {v : Value} (hf : P.funcs[f]? = some fn) (hk : ∀ a cs, ∃ todo, step P (lone ((base f).at a k) cs w) = .next (lone { (base f).at a todo with mode := .returning } cs w))
    (hr : ∀ a, Rep N a ρ → (results fn a.tmps).run P w = .ok v w) (hR : R v w) : WS P N f R k ρ w := ⟨fun a ha cs => by
  obtain ⟨todo, hs⟩ := hk a cs
  exact ⟨v, w, _, hR, .one hs, rfl, rfl, ha.defers, rfl, fn, hf, hr a ha⟩⟩
theorem results_tmp1 {fn : Func} {t : Tmp} (h : fn.results = #[.tmp t]) {a : Act} (ha : Rep N a ρ) : (results fn a.tmps).run P w = .ok (ρ t) w := by
  simp [results, h, ← ha.val]
theorem results_tmp0 {fn : Func} (h : fn.results = #[]) {a : Act} : (results fn a.tmps).run P w = .ok (.tuple #[]) w := by
  simp [results, h]
theorem results_tmp2' {fn : Func} {t u : Tmp} (h : fn.results = #[.tmp t, .tmp u]) {a : Act} (ha : Rep N a ρ) : (results fn a.tmps).run P w = .ok (.tuple #[ρ t, ρ u]) w := by
  simp [results, h, ← ha.val]
theorem results_tmp3' {fn : Func} {t u s : Tmp} (h : fn.results = #[.tmp t, .tmp u, .tmp s]) {a : Act} (ha : Rep N a ρ) : (results fn a.tmps).run P w = .ok (.tuple #[ρ t, ρ u, ρ s]) w := by
  simp [results, h, ← ha.val]
theorem step_ret' : ∀ (a : Act) (cs : List Frame), ∃ todo, step P (lone ((base f).at a (.code .ret :: k)) cs w) = .next (lone { (base f).at a todo with mode := .returning } cs w) :=
  fun _ _ => ⟨_, step_ret⟩
theorem step_end' : ∀ (a : Act) (cs : List Frame), ∃ todo, step P (lone ((base f).at a []) cs w) = .next (lone { (base f).at a todo with mode := .returning } cs w) :=
  fun _ _ => ⟨_, step_end⟩
theorem WS_ret1 {fn : Func} {t : Tmp} (hf : P.funcs[f]? = some fn) (hr : fn.results = #[.tmp t]) (h : R (ρ t) w) : WS P N f R (.code .ret :: k) ρ w := WS_leave hf step_ret' (fun _ ha => results_tmp1 hr ha) h
theorem WS_ret2 {fn : Func} {t u : Tmp} (hf : P.funcs[f]? = some fn) (hr : fn.results = #[.tmp t, .tmp u]) (h : R (.tuple #[ρ t, ρ u]) w) : WS P N f R (.code .ret :: k) ρ w := WS_leave hf step_ret' (fun _ ha => results_tmp2' hr ha) h
theorem WS_ret3 {fn : Func} {t u s : Tmp} (hf : P.funcs[f]? = some fn) (hr : fn.results = #[.tmp t, .tmp u, .tmp s]) (h : R (.tuple #[ρ t, ρ u, ρ s]) w) : WS P N f R (.code .ret :: k) ρ w := WS_leave hf step_ret' (fun _ ha => results_tmp3' hr ha) h
theorem WS_ret0 {fn : Func} (hf : P.funcs[f]? = some fn) (hr : fn.results = #[]) (h : R (.tuple #[]) w) : WS P N f R (.code .ret :: k) ρ w := WS_leave hf step_ret' (fun _ _ => results_tmp0 hr) h
theorem WS_end0 {fn : Func} (hf : P.funcs[f]? = some fn) (hr : fn.results = #[]) (h : R (.tuple #[]) w) : WS P N f R [] ρ w := WS_leave hf step_end' (fun _ _ => results_tmp0 hr) h
theorem WS_end1 {fn : Func} {t : Tmp} (hf : P.funcs[f]? = some fn) (hr : fn.results = #[.tmp t]) (h : R (ρ t) w) : WS P N f R [] ρ w := WS_leave hf step_end' (fun _ ha => results_tmp1 hr ha) h

/-! ### Loops: by induction on a measure of a ghost. -/
/-- The frame ρ with the list's values laid over it. -/
def updL : List (Nat × Value) → Fr → Fr
  | [], ρ => ρ
  | (i, v) :: l, ρ => upd (updL l ρ) i v
/-- Is slot n in the set W, a number by its bits? -/
def inW (W n : Nat) : Bool := Nat.beq (Nat.land (Nat.shiftRight W n) 1) 1
/-- Slots of W out of σ, all others out of ρ. -/
def mrg (W : Nat) (ρ σ : Fr) : Fr := fun n => cond (inW W n) (σ n) (ρ n)
def Has (ρ : Fr) : List (Nat × Value) → Prop
  | [] => True
  | (i, v) :: l => ρ i = v ∧ Has ρ l
/-- Outside W the two frames are the same. -/
def Agr (W : Nat) (ρ ρ' : Fr) : Prop := ∀ n, inW W n = false → ρ' n = ρ n
theorem Agr.refl {W : Nat} {ρ : Fr} : Agr W ρ ρ := fun _ _ => rfl
theorem Agr.upd {W : Nat} {ρ ρ' : Fr} {d : Nat} {v : Value} (hd : inW W d = true) (h : Agr W ρ ρ') : Agr W ρ (upd ρ' d v) := fun n hn => by
  rw [upd_ne ρ' v (fun e => by subst e; rw [hn] at hd; cases hd)]
  exact h n hn
theorem Agr.updo {W : Nat} {ρ ρ' : Fr} {d : Nat} {v : Value} (hd : inW W d = true) (h : Agr W ρ ρ') : Agr W ρ (updo ρ' (some d) v) := h.upd hd
theorem Agr.updn {W : Nat} {ρ ρ' : Fr} {v : Value} (h : Agr W ρ ρ') : Agr W ρ (K.updo ρ' none v) := h
theorem Agr.updL {W : Nat} {ρ ρ' : Fr} : ∀ {l : List (Nat × Value)}, l.all (fun p => inW W p.1) = true → Agr W ρ ρ' → Agr W ρ (updL l ρ')
  | [], _, h => h
  | (i, v) :: l, hl, h => by
    have hl' : (inW W i && l.all (fun p => inW W p.1)) = true := by simpa using hl
    rw [Bool.and_eq_true] at hl'
    exact (Agr.updL hl'.2 h).upd hl'.1
theorem Agr.mrg {W W' : Nat} {ρ ρ' σ : Fr} (hs : Nat.land W' W = W') (h : Agr W ρ ρ') : Agr W ρ (mrg W' ρ' σ) := fun n hn => by
  have hb : inW W' n = false := by
    cases hb : inW W' n with
    | false => rfl
    | true =>
      have h1 : (W' >>> n) &&& 1 = 1 := Nat.eq_of_beq_eq_true hb
      have h2 : (W >>> n) &&& 1 = 1 := by
        have : (W' &&& W) >>> n &&& 1 = 1 := by rw [show W' &&& W = W' from hs]; exact h1
        rw [Nat.shiftRight_and_distrib, Nat.and_assoc] at this
        have h3 : (W' >>> n) &&& ((W >>> n) &&& 1) ≤ (W >>> n) &&& 1 := Nat.and_le_right
        have h4 : (W >>> n) &&& 1 ≤ 1 := Nat.and_le_right
        omega
      have : inW W n = true := by
        show Nat.beq ((W >>> n) &&& 1) 1 = true
        rw [h2]
        rfl
      rw [hn] at this
      cases this
  show cond (inW W' n) (σ n) (ρ' n) = ρ n
  rw [hb]
  exact h n hn
theorem updL_of_has {ρ : Fr} : ∀ {l : List (Nat × Value)}, Has ρ l → updL l ρ = ρ
  | [], _ => rfl
  | (i, v) :: l, h => by
    show upd (updL l ρ) i v = ρ
    rw [updL_of_has h.2]
    funext n
    by_cases hn : n = i
    · subst hn; rw [upd_same]; exact h.1.symm
    · exact upd_ne ρ v hn
theorem mrg_of_agr {W : Nat} {ρ ρ' : Fr} (h : Agr W ρ ρ') : mrg W ρ ρ' = ρ' := by
  funext n
  show cond (inW W n) (ρ' n) (ρ n) = ρ' n
  cases hb : inW W n with
  | true => rfl
  | false => exact (h n hb).symm
theorem WS_goal {G : Type} (μ : G → Nat) (W : Nat) (S : G → List (Nat × Value)) (I : G → World → Prop) (k0 : List Item) (ρ0 : Fr)
    (round : ∀ g w σ, I g w → (∀ g' w' ρ', μ g' < μ g → Has ρ' (S g') → Agr W ρ0 ρ' → I g' w' → WS P N f R k0 ρ' w') → WS P N f R k0 (updL (S g) (mrg W ρ0 σ)) w) :
    ∀ g w ρ', Has ρ' (S g) → Agr W ρ0 ρ' → I g w → WS P N f R k0 ρ' w := by
  have key : ∀ n g, μ g = n → ∀ w ρ', Has ρ' (S g) → Agr W ρ0 ρ' → I g w → WS P N f R k0 ρ' w := by
    intro n
    induction n using Nat.strongRecOn with
    | _ n ih =>
      intro g hn w ρ' hS hA hI
      have h := round g w ρ' hI (fun g' w' ρ'' hlt hS' hA' hI' => ih (μ g') (hn ▸ hlt) g' rfl w' ρ'' hS' hA' hI')
      rw [mrg_of_agr hA, updL_of_has hS] at h
      exact h
  exact fun g w ρ' hS hA hI => key _ g rfl w ρ' hS hA hI
/-- A loop: S the slots that it carries, W all slots that it writes, I what holds of ghost and world at each round's head, μ what each round lowers. -/
theorem WS_loop {G : Type} {c : Code} (μ : G → Nat) (W : Nat) (S : G → List (Nat × Value)) (I : G → World → Prop) (g0 : G) (hS : Has ρ (S g0)) (h0 : I g0 w)
    (round : ∀ g w σ, I g w → (∀ g' w' ρ', μ g' < μ g → Has ρ' (S g') → Agr W ρ ρ' → I g' w' → WS P N f R (.inLoop c :: k) ρ' w') → WS P N f R (.code c :: .inLoop c :: k) (updL (S g) (mrg W ρ σ)) w) :
    WS P N f R (.code (.loop c) :: k) ρ w := by
  have key := WS_goal (P := P) (N := N) (f := f) (R := R) μ W S I (.inLoop c :: k) ρ (fun g w σ hI ih => WS_inLoop (round g w σ hI ih)) g0 w ρ hS .refl h0
  refine ⟨fun a ha cs => ?_⟩
  · obtain ⟨v, w', fr, hR, hst, hl⟩ := key.out a ha cs
    obtain ⟨n, hn⟩ := hst
    -- the head of a loop and its second head are one: both step to the body
    cases n with
    | zero =>
      exfalso
      simp only [runN, Stepped.next.injEq] at hn
      have hm := congrArg (fun m : Machine => (m.gs[0]?).map fun g => (g.frame.mode, g.frame.todo)) hn
      simp only [lone, Frame.at] at hm
      obtain ⟨_, hleave⟩ := hl
      have h1 := hleave.1
      simp at hm
      rw [h1] at hm
      exact absurd hm.1 (by simp)
    | succ n =>
      simp only [runN, step_inLoop] at hn
      exact ⟨v, w', fr, hR, ⟨n + 1, by simp only [runN, step_loop]; exact hn⟩, hl⟩
end
end Go.K
