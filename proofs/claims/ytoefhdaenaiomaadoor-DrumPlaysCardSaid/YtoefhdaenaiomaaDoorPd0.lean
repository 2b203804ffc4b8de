/- A small engine: a function's code is walked as the machine's own list of what is still to do, with a list of known slots. Plain theorems over any program. -/
import Derived.Below
import Derived.Tactics
import Derived.Laws.AppendOwn
import Derived.Laws.CopyRow
import Derived.Laws.Rows
import Derived.Laws.StructEq
import Derived.WideLaws
import Derived.Laws.CopyOwn
import Derived.Laws.MakeOwn
set_option linter.unusedVariables false
set_option linter.unusedSimpArgs false
namespace Go.Proofs.YtoefhdaenaiomaaDoor
open Go
set_option maxRecDepth 20000

/-- What is known of a frame's slots: the newest first. -/
abbrev Fm := List (Nat × Value)

def look : Fm → Nat → Option Value
  | [], _ => none
  | (i, v) :: m, j => cond (Nat.beq i j) (some v) (look m j)

structure Fits (a : Act) (n : Nat) (m : Fm) : Prop where
  size : a.tmps.size = n
  defers : a.defers = []
  get : ∀ i v, look m i = some v → a.tmps[i]? = some v

theorem Fits.put {a : Act} {n d : Nat} {m : Fm} (h : Fits a n m) (v : Value) (hd : Nat.blt d n = true) : Fits (a.put (some d) v) n ((d, v) :: m) := by
  have hd' : d < n := by simpa using hd
  refine ⟨by simp [Act.put, h.size], by simp [Act.put, h.defers], fun i u hu => ?_⟩
  simp only [look] at hu
  by_cases hi : d = i
  · subst hi
    have : (Nat.beq d d) = true := by simp
    rw [this] at hu
    simp only [cond_true] at hu
    injection hu with hu
    subst hu
    simp [Act.put, h.size, hd']
  · have : (Nat.beq d i) = false := by cases hq : Nat.beq d i; rfl; exact absurd (Nat.eq_of_beq_eq_true hq) hi
    rw [this] at hu
    simp only [cond_false] at hu
    simp only [Act.put]
    rw [Array.getElem?_setIfInBounds_ne hi]
    exact h.get i u hu

theorem Fits.put_none {a : Act} {n : Nat} {m : Fm} (h : Fits a n m) (v : Value) : Fits (a.put none v) n m := h

theorem Fits.less {a : Act} {n : Nat} {m m' : Fm} (h : Fits a n m) (hs : ∀ i v, look m' i = some v → look m i = some v) : Fits a n m' :=
  ⟨h.size, h.defers, fun i v hv => h.get i v (hs i v hv)⟩

/-- Every row of m' stands in m. -/
def Sub : Fm → Fm → Prop
  | [], _ => True
  | p :: m', m => look m p.1 = some p.2 ∧ Sub m' m

theorem Sub.look {m : Fm} : ∀ {m' : Fm}, Sub m' m → ∀ i v, look m' i = some v → look m i = some v
  | [], _, i, v, h => by simp [Go.Proofs.YtoefhdaenaiomaaDoor.look] at h
  | p :: m', hs, i, v, h => by
    simp only [Go.Proofs.YtoefhdaenaiomaaDoor.look] at h
    cases hb : Nat.beq p.1 i with
    | true =>
      rw [hb] at h
      simp only [cond_true] at h
      injection h with h
      have : p.1 = i := by simpa using hb
      rw [← this, ← h]
      exact hs.1
    | false =>
      rw [hb] at h
      exact Sub.look hs.2 i v h

def ev (m : Fm) : Operand → Option Value
  | .tmp t => look m t
  | .const v => some v
  | .global g => some (.pointer (some ⟨g, 0, none⟩))
  | .func f => some (.func (.func f) #[] #[])

theorem Fits.eval {a : Act} {n : Nat} {m : Fm} (h : Fits a n m) {x : Operand} {v : Value} (he : ev m x = some v) : a.eval x = v := by
  cases x with
  | tmp t =>
    have := h.get t v he
    simp [Act.eval, this]
  | const u => simpa [ev, Act.eval] using he
  | global g => simpa [ev, Act.eval] using he
  | func f => simpa [ev, Act.eval] using he

def evs (m : Fm) : List Operand → Option (List Value)
  | [] => some []
  | x :: xs => match ev m x, evs m xs with
    | some v, some vs => some (v :: vs)
    | _, _ => none

theorem Fits.evals {a : Act} {n : Nat} {m : Fm} (h : Fits a n m) : ∀ {xs : List Operand} {vs : List Value}, evs m xs = some vs → xs.map a.eval = vs
  | [], vs, he => by simp [evs] at he; simp [he]
  | x :: xs, vs, he => by
    simp only [evs] at he
    cases h1 : ev m x with
    | none => simp [h1] at he
    | some v =>
      cases h2 : evs m xs with
      | none => simp [h1, h2] at he
      | some us =>
        simp [h1, h2] at he
        subst he
        simp [h.eval h1, h.evals h2]

/-- From the list k of what is left to do, the call of f comes to an end that R tells of. -/
def S (P : Program) (f : FuncId) (R : Ending → World → Prop) (k : List Item) (a : Act) (w : World) : Prop :=
  ∀ (b : Frame) (cs : List Frame), b.fn = f → b.kind = .normal →
    ∃ e w' fr, R e w' ∧ Comes P (lone (b.at a k) cs w) (lone fr cs w') e ∧ fr.fn = f ∧ fr.leaving P w' e

def T (P : Program) (f : FuncId) (R : Ending → World → Prop) (n : Nat) (k : List Item) (m : Fm) (w : World) : Prop :=
  ∀ a, Fits a n m → S P f R k a w

section
variable {P : Program} {f : FuncId} {R : Ending → World → Prop} {n : Nat} {k : List Item} {m : Fm} {a : Act} {w : World}

theorem S.head {k' : List Item} {a' : Act} {w' : World} (hs : ∀ (b : Frame) (cs : List Frame), step P (lone (b.at a k) cs w) = .next (lone (b.at a' k') cs w')) (h : S P f R k' a' w') : S P f R k a w := by
  intro b cs hb hk
  obtain ⟨e, w2, fr, hR, hc, h1, h2⟩ := h b cs hb hk
  exact ⟨e, w2, fr, hR, Comes.of_steps (.one (hs b cs)) hc, h1, h2⟩

theorem T.less {m' : Fm} (hs : Sub m' m) (h : T P f R n k m' w) : T P f R n k m w := fun a ha => h a (ha.less hs.look)

theorem T_seq {x y : Code} (h : T P f R n (.code x :: .code y :: k) m w) : T P f R n (.code (.seq x y) :: k) m w :=
  fun a ha => S.head (fun _ _ => step_seq) (h a ha)
theorem T_skip (h : T P f R n k m w) : T P f R n (.code .skip :: k) m w := fun a ha => S.head (fun _ _ => step_skip) (h a ha)
theorem T_block {id : Nat} {c : Code} (h : T P f R n (.code c :: .inBlock id :: k) m w) : T P f R n (.code (.block id c) :: k) m w :=
  fun a ha => S.head (fun _ _ => step_block) (h a ha)
theorem T_inBlock {id : Nat} (h : T P f R n k m w) : T P f R n (.inBlock id :: k) m w := fun a ha => S.head (fun _ _ => step_inBlock) (h a ha)
theorem T_exit {id : Nat} {k' : List Item} (hk : exitTo id k = some k') (h : T P f R n k' m w) : T P f R n (.code (.exit id) :: k) m w :=
  fun a ha => S.head (fun _ _ => step_exit hk) (h a ha)
theorem T_loopIn {c : Code} (h : T P f R n (.code c :: .inLoop c :: k) m w) : T P f R n (.code (.loop c) :: k) m w :=
  fun a ha => S.head (fun _ _ => step_loop) (h a ha)
theorem T_inLoop {c : Code} (h : T P f R n (.code c :: .inLoop c :: k) m w) : T P f R n (.inLoop c :: k) m w :=
  fun a ha => S.head (fun _ _ => step_inLoop) (h a ha)
theorem T_cond {c : Operand} {x y : Code} {t : Bool} (hc : ev m c = some (.bool t)) (ht : t = true → T P f R n (.code x :: k) m w) (hf : t = false → T P f R n (.code y :: k) m w) :
    T P f R n (.code (.cond c x y) :: k) m w := by
  intro a ha
  refine S.head (fun _ _ => step_cond (ha.eval hc)) ?_
  cases t
  · exact hf rfl a ha
  · exact ht rfl a ha
theorem T_condP {c : Operand} {x y : Code} {p : Prop} [Decidable p] (hc : ev m c = some (.bool (decide p))) (ht : p → T P f R n (.code x :: k) m w) (hf : ¬ p → T P f R n (.code y :: k) m w) :
    T P f R n (.code (.cond c x y) :: k) m w :=
  T_cond hc (fun h => ht (of_decide_eq_true h)) (fun h => hf (of_decide_eq_false h))
theorem T_condT {c : Operand} {x y : Code} (hc : ev m c = some (.bool true)) (ht : T P f R n (.code x :: k) m w) : T P f R n (.code (.cond c x y) :: k) m w :=
  T_cond hc (fun _ => ht) (fun h => by cases h)
theorem T_condF {c : Operand} {x y : Code} (hc : ev m c = some (.bool false)) (hf : T P f R n (.code y :: k) m w) : T P f R n (.code (.cond c x y) :: k) m w :=
  T_cond hc (fun h => by cases h) (fun _ => hf)

/-- The two ways of a test. -/
def Cnd (P : Program) (f : FuncId) (R : Ending → World → Prop) (n : Nat) (k : List Item) (x y : Code) (m : Fm) (w : World) (b : Bool) : Prop :=
  (b = true → T P f R n (.code x :: k) m w) ∧ (b = false → T P f R n (.code y :: k) m w)
theorem T_condV {c : Operand} {x y : Code} {b : Bool} (hc : ev m c = some (.bool b)) (h : Cnd P f R n k x y m w b) : T P f R n (.code (.cond c x y) :: k) m w := T_cond hc h.1 h.2
theorem Cnd_t {x y : Code} (h : T P f R n (.code x :: k) m w) : Cnd P f R n k x y m w true := ⟨fun _ => h, fun e => by cases e⟩
theorem Cnd_f {x y : Code} (h : T P f R n (.code y :: k) m w) : Cnd P f R n k x y m w false := ⟨fun e => (by cases e), fun _ => h⟩
theorem Cnd_p {x y : Code} {p : Prop} [Decidable p] (ht : p → T P f R n (.code x :: k) m w) (hf : ¬ p → T P f R n (.code y :: k) m w) : Cnd P f R n k x y m w (decide p) :=
  ⟨fun h => ht (of_decide_eq_true h), fun h => hf (of_decide_eq_false h)⟩
theorem Cnd_b {x y : Code} {b : Bool} (ht : b = true → T P f R n (.code x :: k) m w) (hf : b = false → T P f R n (.code y :: k) m w) : Cnd P f R n k x y m w b := ⟨ht, hf⟩
theorem Cnd_some {α : Type} {x y : Code} {v : α} (h : T P f R n (.code y :: k) m w) : Cnd P f R n k x y m w (Option.isNone (some v)) := Cnd_f h
theorem Cnd_none {α : Type} {x y : Code} (h : T P f R n (.code x :: k) m w) : Cnd P f R n k x y m w (Option.isNone (none : Option α)) := Cnd_t h
theorem Cnd_not {x y : Code} {b : Bool} (h : Cnd P f R n k y x m w b) : Cnd P f R n k x y m w (!b) :=
  ⟨fun e => h.2 (by simpa using e), fun e => h.1 (by simpa using e)⟩

/-- A loop: fm, ww: the slots and the world at the head of a round, of a state x; mu falls. -/
theorem T_loop {α : Type} {c : Code} (fm : α → Fm) (ww : α → World) (mu : α → Nat) (inv : α → Prop) (x0 : α) (h0 : inv x0) (hm : Sub (fm x0) m) (hw : ww x0 = w)
    (round : ∀ x, inv x → (∀ y, inv y → mu y < mu x → T P f R n (.inLoop c :: k) (fm y) (ww y)) → T P f R n (.code c :: .inLoop c :: k) (fm x) (ww x)) :
    T P f R n (.code (.loop c) :: k) m w := by
  have key : ∀ d x, mu x = d → inv x → T P f R n (.code c :: .inLoop c :: k) (fm x) (ww x) := by
    intro d
    induction d using Nat.strongRecOn with
    | _ d ih =>
      intro x hd hx
      exact round x hx (fun y hy hlt => T_inLoop (ih (mu y) (hd ▸ hlt) y rfl hy))
  subst hw
  exact T_loopIn (T.less hm (key _ x0 rfl h0))

/-- The call's end. -/
theorem S_ret {fn : Func} {v : Value} (hf : P.funcs[f]? = some fn) (hd : a.defers = []) (hr : (results fn a.tmps).run P w = .ok v w) (hR : R (.returned v) w) :
    S P f R (.code .ret :: k) a w := by
  intro b cs hb hk
  exact ⟨.returned v, w, _, hR, .one step_ret, hb, rfl, hd, hk, fn, by show P.funcs[b.fn]? = _; rw [hb]; exact hf, hr⟩
theorem S_end {fn : Func} {v : Value} (hf : P.funcs[f]? = some fn) (hd : a.defers = []) (hr : (results fn a.tmps).run P w = .ok v w) (hR : R (.returned v) w) :
    S P f R [] a w := by
  intro b cs hb hk
  exact ⟨.returned v, w, _, hR, .one step_end, hb, rfl, hd, hk, fn, by show P.funcs[b.fn]? = _; rw [hb]; exact hf, hr⟩
theorem T_ret1 {fn : Func} {t : Tmp} {v : Value} (hf : P.funcs[f]? = some fn) (hr : fn.results = #[.tmp t]) (hv : look m t = some v) (hR : R (.returned v) w) : T P f R n (.code .ret :: k) m w := by
  intro a ha
  refine S_ret hf ha.defers ?_ hR
  rw [results_tmp hr]
  have := ha.get t v hv
  simp [this]
theorem T_ret2 {fn : Func} {t u : Tmp} {v v' : Value} (hf : P.funcs[f]? = some fn) (hr : fn.results = #[.tmp t, .tmp u]) (hv : look m t = some v) (hv' : look m u = some v') (hR : R (.returned (.tuple #[v, v'])) w) :
    T P f R n (.code .ret :: k) m w := by
  intro a ha
  refine S_ret hf ha.defers ?_ hR
  rw [results_tmp2 hr]
  have h1 := ha.get t v hv
  have h2 := ha.get u v' hv'
  simp [h1, h2]
theorem T_ret3 {fn : Func} {t u s : Tmp} {v v' v'' : Value} (hf : P.funcs[f]? = some fn) (hr : fn.results = #[.tmp t, .tmp u, .tmp s]) (hv : look m t = some v) (hv' : look m u = some v') (hv'' : look m s = some v'')
    (hR : R (.returned (.tuple #[v, v', v''])) w) : T P f R n (.code .ret :: k) m w := by
  intro a ha
  refine S_ret hf ha.defers ?_ hR
  have h1 := ha.get t v hv
  have h2 := ha.get u v' hv'
  have h3 := ha.get s v'' hv''
  simp [results, hr, h1, h2, h3]
theorem T_end0 {fn : Func} (hf : P.funcs[f]? = some fn) (hr : fn.results = #[]) (hR : R (.returned (.tuple #[])) w) : T P f R n [] m w := by
  intro a ha
  exact S_end hf ha.defers (results_none hr _ _ _) hR
theorem T_ret0 {fn : Func} (hf : P.funcs[f]? = some fn) (hr : fn.results = #[]) (hR : R (.returned (.tuple #[])) w) : T P f R n (.code .ret :: k) m w := by
  intro a ha
  exact S_ret hf ha.defers (results_none hr _ _ _) hR
end

/-- The slots that hold the arguments. -/
def args : Nat → List Value → Fm
  | _, [] => []
  | i, v :: vs => (i, v) :: args (i + 1) vs

theorem look_args : ∀ (vs : List Value) (i j : Nat) (v : Value), look (args i vs) j = some v → i ≤ j ∧ vs[j - i]? = some v
  | [], i, j, v, h => by simp [args, look] at h
  | u :: vs, i, j, v, h => by
    simp only [args, look] at h
    cases hb : Nat.beq i j with
    | true =>
      rw [hb] at h
      have : i = j := by simpa using hb
      subst this
      simpa using h
    | false =>
      rw [hb] at h
      obtain ⟨h1, h2⟩ := look_args vs (i + 1) j v h
      refine ⟨by omega, ?_⟩
      rw [show j - i = (j - (i + 1)) + 1 by omega]
      simpa using h2

theorem calls_T {P : Program} {f : FuncId} {fn : Func} {c : Code} {vs : List Value} {w : World} {R : Ending → World → Prop} {n : Nat}
    (hf : P.funcs[f]? = some fn) (hb : fn.body = some c) (hn : fn.ntmps = n) (hl : Nat.ble vs.length n = true) (h : T P f R n [.code c] (args 0 vs) w) : Calls P f vs.toArray w R := by
  intro cs
  let b : Frame := { (default : Frame) with fn := f, kind := .normal }
  have hl' : vs.length ≤ n := by simpa using hl
  have henter : Frame.enter P f vs.toArray .normal =
      b.at { tmps := vs.toArray ++ Array.replicate (fn.ntmps - vs.toArray.size) undef, defers := [] } [.code c] := by
    simp [Frame.enter, Frame.at, hf, hb, b]
  have hfit : Fits { tmps := vs.toArray ++ Array.replicate (fn.ntmps - vs.toArray.size) undef, defers := [] } n (args 0 vs) := by
    refine ⟨by simp [hn]; omega, rfl, fun i v hv => ?_⟩
    obtain ⟨_, h2⟩ := look_args vs 0 i v hv
    have hlt : i < vs.length := by
      have := (List.getElem?_eq_some_iff.1 h2).1
      simpa using this
    simp only [Nat.sub_zero] at h2
    rw [Array.getElem?_append_left (by simpa using hlt)]
    simpa using h2
  obtain ⟨e, w', fr, hR, hc, h1, h2⟩ := h _ hfit b cs rfl rfl
  rw [← henter] at hc
  exact ⟨e, w', fr, hR, hc, h1, h2⟩

/-! ### Operations -/

/-- The rest of a region's operations, then k. -/
def U (P : Program) (n : Nat) (Z : Act → World → Prop) (ops : Array Oper) (rest : List Oper) (m : Fm) (w : World) : Prop :=
  ∀ a, Fits a n m → wpList P ops (fun e a' w' => e = .normal ∧ Z a' w') rest a w

section
variable {P : Program} {f : FuncId} {R : Ending → World → Prop} {n : Nat} {k : List Item} {m : Fm} {Z : Act → World → Prop} {ops : Array Oper} {rest : List Oper} {w : World}

theorem S_of_wp {c : Code} {a : Act} (h : c.wp P (fun e a' w' => e = .normal ∧ S P f R k a' w') a w) : S P f R (.code c :: k) a w := by
  intro b cs hb hk
  obtain ⟨e, a', w', ⟨rfl, hS⟩, harr⟩ := h b k cs
  obtain ⟨e2, w2, fr, hR, hc, h1, h2⟩ := hS b cs hb hk
  exact ⟨e2, w2, fr, hR, Comes.of_steps harr hc, h1, h2⟩

theorem T_region {id : Nat} {l : List Oper} (h : U P n (S P f R k) l.toArray l m w) : T P f R n (.code (.region id l.toArray false) :: k) m w :=
  fun a ha => S_of_wp (wp_region_lit (h a ha))

theorem U_nil (h : T P f R n k m w) : U P n (S P f R k) ops [] m w := fun a ha => wpList_nil ⟨rfl, h a ha⟩

theorem U_less {m' : Fm} (hs : Sub m' m) (h : U P n Z ops rest m' w) : U P n Z ops rest m w := fun a ha => h a (ha.less hs.look)

/-- An operation whose run is known. -/
theorem U_run {o : Oper} {v : Value} {w' : World} {d : Nat} (hg : o.guard = none) (hdst : o.dst = some d) (hd : Nat.blt d n = true)
    (hr : ∀ a, Fits a n m → (execOp a.eval o).run P w = .ok (.value v) w') (h : U P n Z ops rest ((d, v) :: m) w') : U P n Z ops (o :: rest) m w := by
  intro a ha
  refine wpList_plain hg fun K hK => ?_
  unfold Oper.wp
  rw [hr a ha]
  rw [Oper.upon_value, hdst]
  exact hK _ _ (h _ (ha.put v hd))

theorem U_runNone {o : Oper} {v : Value} {w' : World} (hg : o.guard = none) (hdst : o.dst = none)
    (hr : ∀ a, Fits a n m → (execOp a.eval o).run P w = .ok (.value v) w') (h : U P n Z ops rest m w') : U P n Z ops (o :: rest) m w := by
  intro a ha
  refine wpList_plain hg fun K hK => ?_
  unfold Oper.wp
  rw [hr a ha]
  rw [Oper.upon_value, hdst]
  exact hK _ _ (h _ (ha.put_none v))

theorem U_skip {o : Oper} {w' : World} (hg : o.guard = none) (hdst : o.dst = none)
    (hr : ∀ a, Fits a n m → (execOp a.eval o).run P w = .ok .skip w') (h : U P n Z ops rest m w') : U P n Z ops (o :: rest) m w := by
  intro a ha
  refine wpList_plain hg fun K hK => ?_
  unfold Oper.wp
  rw [hr a ha]
  rw [Oper.upon_skip, hdst]
  exact hK _ _ (h _ (ha.put_none undef))

/-- A guarded operation that is wanted. -/
theorem U_want {dst : Option Tmp} {op : Op} {ty : TypeId} {ps : String} {af : Array Edge} {j g : Nat} {want : Bool} (hj : (ops[j]?).bind (·.dst) = some g) (hv : look m g = some (.bool want))
    (h : U P n Z ops ({ dst := dst, op := op, type := ty, pos := ps, after := af, guard := none } :: rest) m w) :
    U P n Z ops ({ dst := dst, op := op, type := ty, pos := ps, after := af, guard := some (j, want) } :: rest) m w := by
  intro a ha
  have hy : yielded ops a.tmps j = some want := by
    unfold yielded
    rw [hj]
    simp [ha.get g _ hv]
  have := h a ha
  unfold wpList at this ⊢
  rw [if_pos (by simp [Region.wanted])] at this
  rw [if_pos (by simp [Region.wanted, hy])]
  exact this

theorem U_unwant {d : Nat} {op : Op} {ty : TypeId} {ps : String} {af : Array Edge} {j g : Nat} {want b : Bool} (hj : (ops[j]?).bind (·.dst) = some g) (hv : look m g = some (.bool b)) (hb : (b == want) = false) (hd : Nat.blt d n = true)
    (h : U P n Z ops rest ((d, undef) :: m) w) :
    U P n Z ops ({ dst := some d, op := op, type := ty, pos := ps, after := af, guard := some (j, want) } :: rest) m w := by
  intro a ha
  have hy : yielded ops a.tmps j = some b := by
    unfold yielded
    rw [hj]
    simp [ha.get g _ hv]
  unfold wpList
  rw [if_neg (by simp only [Region.wanted, hy]; intro h; have h2 : (some b == some want) = (b == want) := rfl; rw [h2, hb] at h; cases h)]
  exact h _ (ha.put undef hd)

/-- A guarded operation: by what its guard's slot holds. -/
def Gd (P : Program) (n : Nat) (Z : Act → World → Prop) (ops : Array Oper) (rest : List Oper) (o : Oper) (m : Fm) (w : World) (g : Nat) (b : Bool) : Prop :=
  (∀ j want, o.guard = some (j, want) → (ops[j]?).bind (·.dst) = some g) → look m g = some (.bool b) → U P n Z ops (o :: rest) m w
theorem U_guard {dst : Option Tmp} {op : Op} {ty : TypeId} {ps : String} {af : Array Edge} {j g : Nat} {want b : Bool} (hj : (ops[j]?).bind (·.dst) = some g) (hv : look m g = some (.bool b))
    (h : Gd P n Z ops rest { dst := dst, op := op, type := ty, pos := ps, after := af, guard := some (j, want) } m w g b) :
    U P n Z ops ({ dst := dst, op := op, type := ty, pos := ps, after := af, guard := some (j, want) } :: rest) m w :=
  h (fun _ _ e => by injection e with e; injection e with e1 e2; rw [← e1]; exact hj) hv
theorem Gd_want {dst : Option Tmp} {op : Op} {ty : TypeId} {ps : String} {af : Array Edge} {j g : Nat} {want : Bool}
    (h : U P n Z ops ({ dst := dst, op := op, type := ty, pos := ps, after := af, guard := none } :: rest) m w) :
    Gd P n Z ops rest { dst := dst, op := op, type := ty, pos := ps, after := af, guard := some (j, want) } m w g want := fun hj hv => U_want (hj _ _ rfl) hv h
theorem Gd_skipT {d : Nat} {op : Op} {ty : TypeId} {ps : String} {af : Array Edge} {j g : Nat} (hd : Nat.blt d n = true)
    (h : U P n Z ops rest ((d, undef) :: m) w) :
    Gd P n Z ops rest { dst := some d, op := op, type := ty, pos := ps, after := af, guard := some (j, false) } m w g true := fun hj hv => U_unwant (hj _ _ rfl) hv rfl hd h
theorem Gd_skipF {d : Nat} {op : Op} {ty : TypeId} {ps : String} {af : Array Edge} {j g : Nat} (hd : Nat.blt d n = true)
    (h : U P n Z ops rest ((d, undef) :: m) w) :
    Gd P n Z ops rest { dst := some d, op := op, type := ty, pos := ps, after := af, guard := some (j, true) } m w g false := fun hj hv => U_unwant (hj _ _ rfl) hv rfl hd h

theorem Gd_some {α : Type} {v : α} {o : Oper} {g : Nat} (h : Gd P n Z ops rest o m w g false) : Gd P n Z ops rest o m w g (Option.isNone (some v)) := h
theorem Gd_none {α : Type} {o : Oper} {g : Nat} (h : Gd P n Z ops rest o m w g true) : Gd P n Z ops rest o m w g (Option.isNone (none : Option α)) := h

theorem Gd_nt {o : Oper} {g : Nat} (h : Gd P n Z ops rest o m w g false) : Gd P n Z ops rest o m w g (!true) := h
theorem Gd_nf {o : Oper} {g : Nat} (h : Gd P n Z ops rest o m w g true) : Gd P n Z ops rest o m w g (!false) := h

/-- What a slot holds is decided. -/
theorem U_split {g : Nat} {p : Prop} [Decidable p] (hv : look m g = some (.bool (decide p))) (ht : p → U P n Z ops rest ((g, .bool true) :: m) w) (hf : ¬ p → U P n Z ops rest ((g, .bool false) :: m) w) : U P n Z ops rest m w := by
  have hs : ∀ b, decide p = b → ∀ i v, look ((g, .bool b) :: m) i = some v → look m i = some v := by
    intro b hb i v h
    simp only [look] at h
    cases hgi : Nat.beq g i with
    | true =>
      rw [hgi] at h
      have : g = i := by simpa using hgi
      subst this
      rw [hv, hb]
      exact h
    | false => rw [hgi] at h; exact h
  by_cases hp : p
  · exact fun a ha => ht hp a (ha.less (hs true (decide_eq_true hp)))
  · exact fun a ha => hf hp a (ha.less (hs false (decide_eq_false hp)))
theorem U_splitB {g : Nat} {p : Bool} (hv : look m g = some (.bool p)) (ht : p = true → U P n Z ops rest ((g, .bool true) :: m) w) (hf : p = false → U P n Z ops rest ((g, .bool false) :: m) w) : U P n Z ops rest m w := by
  have hs : ∀ i v, look ((g, .bool p) :: m) i = some v → look m i = some v := by
    intro i v h
    simp only [look] at h
    cases hgi : Nat.beq g i with
    | true =>
      rw [hgi] at h
      have : g = i := by simpa using hgi
      subst this
      rw [hv]
      exact h
    | false => rw [hgi] at h; exact h
  cases p
  · exact fun a ha => hf rfl a (ha.less hs)
  · exact fun a ha => ht rfl a (ha.less hs)
theorem Gd_p {g : Nat} {o : Oper} {p : Prop} [Decidable p] (ht : p → U P n Z ops (o :: rest) ((g, .bool true) :: m) w) (hf : ¬ p → U P n Z ops (o :: rest) ((g, .bool false) :: m) w) : Gd P n Z ops rest o m w g (decide p) :=
  fun _ hv => U_split hv ht hf
theorem Gd_b {g : Nat} {o : Oper} {b : Bool} (ht : b = true → U P n Z ops (o :: rest) ((g, .bool true) :: m) w) (hf : b = false → U P n Z ops (o :: rest) ((g, .bool false) :: m) w) : Gd P n Z ops rest o m w g b :=
  fun _ hv => U_splitB hv ht hf
end

/-! ### Calls -/
def Ret (G : Value → World → Prop) : Ending → World → Prop := fun e w => ∃ v, e = .returned v ∧ G v w

theorem ret_of {P : Program} {g : FuncId} {vs : Array Value} {w : World} {v : Value} {Q : World → Prop} (h : Calls P g vs w (fun e w' => e = .returned v ∧ Q w')) : Calls P g vs w (Ret fun r w' => r = v ∧ Q w') :=
  h.mono fun e w' ⟨he, hw⟩ => ⟨v, he, rfl, hw⟩

section
variable {P : Program} {f : FuncId} {R : Ending → World → Prop} {n : Nat} {k : List Item} {m : Fm} {Z : Act → World → Prop} {ops : Array Oper} {rest : List Oper} {w : World}

theorem U_call {d : Nat} {xs : List Operand} {ats : Array TypeId} {ty : TypeId} {ps : String} {af : Array Edge} {g : FuncId} {vs : List Value} {G : Value → World → Prop} (hvs : evs m xs = some vs) (hd : Nat.blt d n = true)
    (hcall : ∀ w, (callFunc g vs.toArray).run P w = .ok (.enter g vs.toArray) w) (hc : Calls P g vs.toArray w (Ret G)) (h : ∀ v w', G v w' → U P n Z ops rest ((d, v) :: m) w') :
    U P n Z ops ({ dst := some d, op := .call { callee := .value (.func g), args := xs.toArray, argTypes := ats }, type := ty, pos := ps, after := af, guard := none } :: rest) m w := by
  intro a ha
  refine wpList_plain rfl fun K hK => ?_
  unfold Oper.wp
  have hr : (execOp a.eval { dst := some d, op := .call { callee := .value (.func g), args := xs.toArray, argTypes := ats }, type := ty, pos := ps, after := af, guard := none }).run P w = .ok (.enter g vs.toArray) w := by
    simp only [execOp, resolve, Deferred.ofValue, Act.eval, Sem.run_bind, Sem.run_pure, Result.andThen_ok, invoke, List.map_toArray, ha.evals hvs]
    simpa using hcall w
  rw [hr, Oper.upon_enter]
  refine hc.mono ?_
  rintro e w' ⟨v, rfl, hG⟩
  exact hK _ _ (h v w' hG _ (ha.put v hd))

theorem U_call0 {xs : List Operand} {ats : Array TypeId} {ty : TypeId} {ps : String} {af : Array Edge} {g : FuncId} {vs : List Value} {G : Value → World → Prop} (hvs : evs m xs = some vs)
    (hcall : ∀ w, (callFunc g vs.toArray).run P w = .ok (.enter g vs.toArray) w) (hc : Calls P g vs.toArray w (Ret G)) (h : ∀ v w', G v w' → U P n Z ops rest m w') :
    U P n Z ops ({ dst := none, op := .call { callee := .value (.func g), args := xs.toArray, argTypes := ats }, type := ty, pos := ps, after := af, guard := none } :: rest) m w := by
  intro a ha
  refine wpList_plain rfl fun K hK => ?_
  unfold Oper.wp
  have hr : (execOp a.eval { dst := none, op := .call { callee := .value (.func g), args := xs.toArray, argTypes := ats }, type := ty, pos := ps, after := af, guard := none }).run P w = .ok (.enter g vs.toArray) w := by
    simp only [execOp, resolve, Deferred.ofValue, Act.eval, Sem.run_bind, Sem.run_pure, Result.andThen_ok, invoke, List.map_toArray, ha.evals hvs]
    simpa using hcall w
  rw [hr, Oper.upon_enter]
  refine hc.mono ?_
  rintro e w' ⟨v, rfl, hG⟩
  exact hK _ _ (h v w' hG _ (ha.put_none v))
end
end Go.Proofs.YtoefhdaenaiomaaDoor

/- Operations that touch no memory: what they come to, as a function of the known slots. -/
namespace Go.Proofs.YtoefhdaenaiomaaDoor
open Go
set_option maxRecDepth 20000

/-- What is known of the program's types: the underlying description, and how many cells. -/
structure Env (P : Program) where
  ty : Nat → Option (TypeDesc × Nat)
  ok : ∀ i d s, ty i = some (d, s) → P.underlying i = some d ∧ (P.info? i).map (·.size) = some s
  /-- a struct's fields: their offsets -/
  fld : Nat → Option (List Nat)
  fld_ok : ∀ s l, fld s = some l → ∃ fs, P.underlying s = some (.struct fs) ∧ ∀ (i o : Nat), l[i]? = some o → ∃ f, fs[i]? = some f ∧ f.offset = o ∧ ∃ j, P.info? f.type = some j ∧ j.size ≠ 0
  /-- cells, bytes, the zero value -/
  info : Nat → Option (Nat × Nat × Value)
  info_ok : ∀ t s b z, info t = some (s, b, z) → ∃ i, P.info? t = some i ∧ i.size = s ∧ i.bytes = b ∧ i.zero = some z

def cmpOp : BinOp → Int → Int → Option Bool
  | .eql, x, y => some (decide (x = y))
  | .neq, x, y => some (decide (x ≠ y))
  | .lss, x, y => some (decide (x < y))
  | .leq, x, y => some (decide (x ≤ y))
  | .gtr, x, y => some (decide (y < x))
  | .geq, x, y => some (decide (y ≤ x))
  | _, _, _ => none

def arOp : BinOp → Int → Int → Option Int
  | .add, x, y => some (x + y)
  | .sub, x, y => some (x - y)
  | .mul, x, y => some (x * y)
  | _, _, _ => none

def isC : Operand → Bool
  | .const _ => true
  | _ => false

/-- '==' where it is plain: pointers, errors and slices held against nil; two bools. -/
def eqP (d : TypeDesc) (yc : Bool) : Value → Value → Option Bool
  | .pointer a, .pointer none => match d with | .pointer _ => some a.isNone | _ => none
  | .iface _ _, .nilIface => match d with | .interface _ => some false | _ => none
  | .nilIface, .nilIface => match d with | .interface _ => if yc then some true else none | _ => none
  | .slice a _ _, .slice none _ _ => match d with | .slice _ => some a.isNone | _ => none
  | .bool a, .bool b => match d with | .bool => some (decide (a = b)) | _ => none
  | _, _ => none

def pv (ty : Nat → Option (TypeDesc × Nat)) (fld : Nat → Option (List Nat)) (m : Fm) : Op → Option Value
  | .move x => ev m x
  | .assign x => ev m x
  | .pick c a b => match ev m c with
    | some (.bool true) => ev m a
    | some (.bool false) => ev m b
    | _ => none
  | .extract x i => match ev m x with
    | some (.tuple vs) => vs[i]?
    | _ => none
  | .nilCheck x => match ev m x with
    | some (.pointer (some p)) => some (.pointer (some p))
    | _ => none
  | .unOp .not _ x => match ev m x with
    | some (.bool b) => some (.bool (!b))
    | _ => none
  | .makeInterface t x => match ty t, ev m x with
    | some (.interface _, _), _ => none
    | some _, some v => some (.iface t v)
    | _, _ => none
  | .fieldAddr s x i => match fld s, ev m x with
    | some l, some (.pointer (some ⟨b, o, none⟩)) => match l[i]? with
      | some f => some (.pointer (some ⟨b, o + f, none⟩))
      | none => none
    | _, _ => none
  | .convert s t x => match ty s, ty t, ev m x with
    | some _, some (.int k, _), some (.int _ n) => some (.int k (k.wrap n))
    | _, _, _ => none
  | .binOp op t x y _ => match ev m x, ev m y with
    | some (.int k a), some (.int k' b) => if k = k' then
        match op with
        | .shl => none
        | .shr => none
        | _ => match cmpOp op a b with
          | some c => some (.bool c)
          | none => match arOp op a b with
            | some c => some (.int k (k.wrap c))
            | none => none
      else none
    | some u, some v => match ty t with
      | some (d, _) => match op with
        | .eql => (eqP d (isC y) u v).map .bool
        | .neq => (eqP d (isC y) u v).map fun b => .bool (!b)
        | _ => none
      | none => none
    | _, _ => none
  | .call c => match c.callee with
    | .builtin .len => match c.args.toList, c.argTypes[0]? with
      | [x], some t => match ev m x, ty t with
        | some (.slice _ l _), some (.slice _, _) => some (.int .i64 l)
        | _, _ => none
      | _, _ => none
    | _ => none
  | _ => none

section
variable {P : Program} {m : Fm} {n : Nat} {a : Act} {w : World}

theorem run_cmp (op : BinOp) (t : TypeId) (k : IntKind) (x y : Int) {c : Bool} (h : cmpOp op x y = some c) : (binOp op t (.int k x) (.int k y)).run P w = .ok (.bool c) w := by
  cases op <;> simp only [cmpOp] at h <;> first | cases h | skip
  · have : (x == y) = decide (x = y) := by by_cases hxy : x = y <;> simp [hxy]
    simp [binOp, Op.intCmp, this]
  · have : (x != y) = decide (x ≠ y) := by by_cases hxy : x = y <;> simp [hxy]
    simp [binOp, Op.intCmp, this]
  · simp [binOp, Op.intCmp]
  · simp [binOp, Op.intCmp]
  · simp [binOp, Op.intCmp]
  · simp [binOp, Op.intCmp]

theorem run_ar (op : BinOp) (t : TypeId) (k : IntKind) (x y : Int) {c : Int} (h : arOp op x y = some c) : (binOp op t (.int k x) (.int k y)).run P w = .ok (.int k (k.wrap c)) w := by
  cases op <;> simp [arOp] at h <;> subst h <;> simp [binOp, Op.intArith]

theorem eqGuard_int (op : BinOp) (t : TypeId) (x y : Operand) (k k' : IntKind) (p q : Int) : (eqGuard op t x y (.int k p) (.int k' q)).run P w = .ok () w := by
  unfold eqGuard
  cases op <;> simp

section
variable {t : TypeId}
variable (dp : Nat)
theorem eq_ptr' {e : TypeId} (hu : P.underlying t = some (.pointer e)) (p : Option Addr) : (Op.equalIn (dp + 1) t (.pointer p) (.pointer none)).run P w = .ok p.isNone w := by
  cases p <;> simp [Op.equalIn, run_underlying hu]
theorem eq_ifc' {ms : Array (String × TypeId)} (hu : P.underlying t = some (.interface ms)) (tv : TypeId) (v : Value) : (Op.equalIn (dp + 1) t (.iface tv v) .nilIface).run P w = .ok false w := by
  simp [Op.equalIn, run_underlying hu]
theorem eq_nil' {ms : Array (String × TypeId)} (hu : P.underlying t = some (.interface ms)) : (Op.equalIn (dp + 1) t .nilIface .nilIface).run P w = .ok true w := by
  simp [Op.equalIn, run_underlying hu]
theorem eq_sl' {e : TypeId} (hu : P.underlying t = some (.slice e)) (p : Option Addr) (l c l' c' : Nat) : (Op.equalIn (dp + 1) t (.slice p l c) (.slice none l' c')).run P w = .ok p.isNone w := by
  cases p <;> simp [Op.equalIn, run_underlying hu]
theorem eq_bool' (hu : P.underlying t = some .bool) (p q : Bool) : (Op.equalIn (dp + 1) t (.bool p) (.bool q)).run P w = .ok (decide (p = q)) w := by
  simp [Op.equalIn, run_underlying hu]
  cases p <;> cases q <;> rfl
theorem eq_ptr {e : TypeId} (hu : P.underlying t = some (.pointer e)) (p : Option Addr) : (Op.equal t (.pointer p) (.pointer none)).run P w = .ok p.isNone w :=
  eq_ptr' 9999 hu p
theorem eq_ifc {ms : Array (String × TypeId)} (hu : P.underlying t = some (.interface ms)) (tv : TypeId) (v : Value) : (Op.equal t (.iface tv v) .nilIface).run P w = .ok false w :=
  eq_ifc' 9999 hu tv v
theorem eq_nil {ms : Array (String × TypeId)} (hu : P.underlying t = some (.interface ms)) : (Op.equal t .nilIface .nilIface).run P w = .ok true w :=
  eq_nil' 9999 hu
theorem eq_sl {e : TypeId} (hu : P.underlying t = some (.slice e)) (p : Option Addr) (l c l' c' : Nat) : (Op.equal t (.slice p l c) (.slice none l' c')).run P w = .ok p.isNone w :=
  eq_sl' 9999 hu p l c l' c'
theorem eq_bool (hu : P.underlying t = some .bool) (p q : Bool) : (Op.equal t (.bool p) (.bool q)).run P w = .ok (decide (p = q)) w :=
  eq_bool' 9999 hu p q
end

theorem run_eqP {t : TypeId} {d : TypeDesc} (hu : P.underlying t = some d) (y : Operand) {u v : Value} {c : Bool} (h : eqP d (isC y) u v = some c) (op : BinOp) (ho : op = .eql ∨ op = .neq) :
    (∀ x, (eqGuard op t x y u v).run P w = .ok () w) ∧ ((binOp .eql t u v).run P w = .ok (.bool c) w) ∧ ((binOp .neq t u v).run P w = .ok (.bool (!c)) w) := by
  unfold eqP at h
  split at h
  · split at h
    · injection h with h
      subst h
      refine ⟨by intro x; rcases ho with rfl | rfl <;> simp [eqGuard], ?_, ?_⟩ <;> simp [binOp, eq_ptr hu]
    · cases h
  · split at h
    · injection h with h
      subst h
      refine ⟨by intro x; rcases ho with rfl | rfl <;> simp [eqGuard], ?_, ?_⟩ <;> simp [binOp, eq_ifc hu]
    · cases h
  · split at h
    · split at h
      · injection h with h
        subst h
        rename_i hy
        have hg : ∀ x, (eqGuard op t x y .nilIface .nilIface).run P w = .ok () w := by
          intro x
          cases y <;> simp [isC] at hy
          rcases ho with rfl | rfl <;> simp [eqGuard]
        refine ⟨hg, ?_, ?_⟩ <;> simp [binOp, eq_nil hu]
      · cases h
    · cases h
  · split at h
    · injection h with h
      subst h
      refine ⟨by intro x; rcases ho with rfl | rfl <;> simp [eqGuard], ?_, ?_⟩ <;> simp [binOp, eq_sl hu]
    · cases h
  · split at h
    · injection h with h
      subst h
      refine ⟨by intro x; rcases ho with rfl | rfl <;> simp [eqGuard], ?_, ?_⟩ <;> simp [binOp, eq_bool hu]
    · cases h
  · cases h

theorem run_pv (E : Env P) (hf : Fits a n m) {op : Op} {v : Value} (h : pv E.ty E.fld m op = some v) (dst : Option Tmp) (ty : TypeId) (ps : String) (af : Array Edge) (gd : Option (Nat × Bool)) :
    (execOp a.eval { dst := dst, op := op, type := ty, pos := ps, after := af, guard := gd }).run P w = .ok (.value v) w := by
  unfold pv at h
  split at h
  · simp [execOp, hf.eval h]
  · simp [execOp, hf.eval h]
  · split at h
    · rename_i hc
      simp [execOp, hf.eval hc, hf.eval h, asBool]
    · rename_i hc
      simp [execOp, hf.eval hc, hf.eval h, asBool]
    · cases h
  · split at h
    · rename_i hc
      simp [execOp, hf.eval hc, Instr.extract, h]
    · cases h
  · split at h
    · rename_i hc
      injection h with h
      subst h
      simp [execOp, hf.eval hc]
    · cases h
  · split at h
    · rename_i hc
      injection h with h
      subst h
      simp [execOp, hf.eval hc, Op.unary]
    · cases h
  · split at h
    · cases h
    · rename_i hn ht hx
      injection h with h
      subst h
      rename_i ds v'
      obtain ⟨d, s⟩ := ds
      have hu := (E.ok _ _ _ ht).1
      have hni : ∀ ms, d ≠ .interface ms := fun ms hd => hn ms s (by rw [hd])
      simp only [execOp, Instr.makeInterface, Sem.run_bind, run_underlying hu, hf.eval hx, Result.andThen_ok]
      cases d <;> first | rfl | exact absurd rfl (hni _)
    · cases h
  · split at h
    · rename_i hs hx
      split at h
      · rename_i fd hfd
        injection h with h
        subst h
        obtain ⟨fs, hu, hall⟩ := E.fld_ok _ _ hs
        obtain ⟨fe, h1, h2, j, h3, h4⟩ := hall _ _ hfd
        subst h2
        simp [execOp, Instr.fieldAt, run_underlying hu, h1, hf.eval hx, Instr.sureAddr, fieldPlace, sizeOf, typeInfo, h3, h4, Addr.add]
        try (intro h0; simp [h0])
      · cases h
    · cases h
  · split at h
    · rename_i hs ht hx
      injection h with h
      subst h
      obtain ⟨d, s⟩ := ‹TypeDesc × Nat›
      have h1 := (E.ok _ _ _ hs).1
      have h2 := (E.ok _ _ _ ht).1
      simp [execOp, convert, run_underlying h1, run_underlying h2, hf.eval hx, Conv.intToInt]
    · cases h
  · split at h
    · rename_i hx hy
      split at h
      · rename_i hk
        subst hk
        split at h
        · cases h
        · cases h
        · split at h
          · rename_i hc
            injection h with h
            subst h
            simp [execOp, hf.eval hx, hf.eval hy, eqGuard_int, run_cmp _ _ _ _ _ hc]
          · split at h
            · rename_i hc
              injection h with h
              subst h
              simp [execOp, hf.eval hx, hf.eval hy, eqGuard_int, run_ar _ _ _ _ _ hc]
            · cases h
      · cases h
    · rename_i hx hy
      split at h
      · rename_i ht
        have hu := (E.ok _ _ _ ht).1
        split at h
        · cases hq : eqP _ _ _ _ with
          | none => rw [hq] at h; cases h
          | some c =>
            rw [hq] at h
            simp at h
            subst h
            obtain ⟨h1, h4, _⟩ := run_eqP (w := w) hu _ hq .eql (.inl rfl)
            simp [execOp, hf.eval hx, hf.eval hy, h1, h4]
        · cases hq : eqP _ _ _ _ with
          | none => rw [hq] at h; cases h
          | some c =>
            rw [hq] at h
            simp at h
            subst h
            obtain ⟨h1, _, h5⟩ := run_eqP (w := w) hu _ hq .neq (.inr rfl)
            simp [execOp, hf.eval hx, hf.eval hy, h1, h5]
        · cases h
      · cases h
    · cases h
  · rename_i c
    split at h
    · rename_i hcal
      split at h
      · rename_i x t hxs hts
        split at h
        · rename_i hx ht
          injection h with h
          subst h
          have hu := (E.ok _ _ _ ht).1
          obtain ⟨callee, args, ats⟩ := c
          simp only at hcal hxs hts
          subst hcal
          have hxs' : args = #[x] := by
            apply Array.toList_inj.1
            simpa using hxs
          subst hxs'
          simp [execOp, resolve, invoke, builtin, Builtin.len_, hts, run_underlying hu, hf.eval hx, goInt]
        · cases h
      · cases h
    · cases h
  · cases h
end

section
variable {P : Program} {f : FuncId} {R : Ending → World → Prop} {n : Nat} {k : List Item} {m : Fm} {Z : Act → World → Prop} {ops : Array Oper} {rest : List Oper} {w : World}
variable {d : Nat} {ty : TypeId} {ps : String} {af : Array Edge}

theorem U_pure (E : Env P) {op : Op} {v : Value} (h : pv E.ty E.fld m op = some v) (hd : Nat.blt d n = true) (hn : U P n Z ops rest ((d, v) :: m) w) :
    U P n Z ops ({ dst := some d, op := op, type := ty, pos := ps, after := af, guard := none } :: rest) m w :=
  U_run rfl rfl hd (fun _ ha => run_pv E ha h _ _ _ _ _) hn

theorem U_ar {bop : BinOp} {t t2 : TypeId} {x y : Operand} {kd : IntKind} {p q r : Int} (hx : ev m x = some (.int kd p)) (hy : ev m y = some (.int kd q)) (hr : arOp bop p q = some r) (hw : kd.wrap r = r) (hd : Nat.blt d n = true)
    (hn : U P n Z ops rest ((d, .int kd r) :: m) w) :
    U P n Z ops ({ dst := some d, op := .binOp bop t x y t2, type := ty, pos := ps, after := af, guard := none } :: rest) m w :=
  U_run rfl rfl hd (fun a ha => by simp [execOp, ha.eval hx, ha.eval hy, eqGuard_int, run_ar _ _ _ _ _ hr, hw]) hn

theorem wrap_i64 {r : Int} (h : -9223372036854775808 ≤ r ∧ r ≤ 9223372036854775807) : IntKind.i64.wrap r = r := by
  simp [IntKind.wrap, IntKind.bits, IntKind.signed]
  omega
theorem wrap_u8 {r : Int} (h : 0 ≤ r ∧ r < 256) : IntKind.u8.wrap r = r := by
  simp [IntKind.wrap, IntKind.bits, IntKind.signed]
  omega
theorem wrap_u32 {r : Int} (h : 0 ≤ r ∧ r < 4294967296) : IntKind.u32.wrap r = r := by
  simp [IntKind.wrap, IntKind.bits, IntKind.signed]
  omega
theorem wrap_u64 {r : Int} (h : 0 ≤ r ∧ r < 18446744073709551616) : IntKind.u64.wrap r = r := by
  simp [IntKind.wrap, IntKind.bits, IntKind.signed]
  omega
def wrapOk : IntKind → Int → Prop
  | .i64, r => -9223372036854775808 ≤ r ∧ r ≤ 9223372036854775807
  | .u64, r => 0 ≤ r ∧ r < 18446744073709551616
  | .u32, r => 0 ≤ r ∧ r < 4294967296
  | .u16, r => 0 ≤ r ∧ r < 65536
  | .u8, r => 0 ≤ r ∧ r < 256
  | _, _ => False
theorem wrap_u16 {r : Int} (h : 0 ≤ r ∧ r < 65536) : IntKind.u16.wrap r = r := by
  simp [IntKind.wrap, IntKind.bits, IntKind.signed]
  omega
theorem wrap_k {k : IntKind} {r : Int} (h : wrapOk k r) : k.wrap r = r := by
  cases k
  case i64 => exact wrap_i64 h
  case u64 => exact wrap_u64 h
  case u32 => exact wrap_u32 h
  case u16 => exact wrap_u16 h
  case u8 => exact wrap_u8 h
  all_goals exact h.elim
end
end Go.Proofs.YtoefhdaenaiomaaDoor

/- Operations that touch memory, over worlds of which only this and that is known. -/
namespace Go.Proofs.YtoefhdaenaiomaaDoor
open Go
set_option maxRecDepth 20000

/-- Block b is the row cs. -/
def Blk (w : World) (b : Nat) (cs : List Value) (t : TypeId) : Prop := w.heap[b]? = some (.cells cs.toArray t (0, 0))

/-- What was there stands as it was, but for the blocks of F. -/
structure Kept (F : Nat → Prop) (w w' : World) : Prop where
  os : w'.os = w.os
  tape : w'.tape = w.tape
  output : w'.output = w.output
  size : w.heap.size ≤ w'.heap.size
  same : ∀ b, b < w.heap.size → ¬ F b → w'.heap[b]? = w.heap[b]?

theorem Kept.refl (F : Nat → Prop) (w : World) : Kept F w w := ⟨rfl, rfl, rfl, Nat.le_refl _, fun _ _ _ => rfl⟩
theorem Kept.tr {F G : Nat → Prop} {a b c : World} (h : Kept F a b) (k : Kept G b c) (hg : ∀ i, i < a.heap.size → G i → F i) : Kept F a c :=
  ⟨k.os.trans h.os, k.tape.trans h.tape, k.output.trans h.output, Nat.le_trans h.size k.size,
    fun i hi hF => (k.same i (Nat.lt_of_lt_of_le hi h.size) (fun hG => hF (hg i hi hG))).trans (h.same i hi hF)⟩
theorem Kept.mono {F G : Nat → Prop} {a b : World} (h : Kept F a b) (hg : ∀ i, i < a.heap.size → F i → G i) : Kept G a b :=
  ⟨h.os, h.tape, h.output, h.size, fun i hi hG => h.same i hi (fun hF => hG (hg i hi hF))⟩
theorem Kept.below {w w' : World} (h : Kept (fun _ => False) w w') : RowKit.Below w.heap.size w w' := ⟨h.os, h.tape, h.output, h.size, fun i hi => h.same i hi (fun x => x)⟩
theorem Kept.of_below {w w' : World} (h : RowKit.Below w.heap.size w w') : Kept (fun _ => False) w w' := ⟨h.os, h.tape, h.output, h.size, fun i hi _ => h.block i hi⟩
theorem Kept.of_grown {w w' : World} {row : Option Nat} (h : w.grownBy w' row) : Kept (fun b => row = some b) w w' :=
  ⟨h.os, h.tape, h.output, h.size, fun i hi hn => h.block i hi (fun e => hn e.symm)⟩

theorem Blk.lt {w : World} {b : Nat} {cs : List Value} {t : TypeId} (h : Blk w b cs t) : b < w.heap.size := (Array.getElem?_eq_some_iff.1 h).1
theorem Blk.mv {F : Nat → Prop} {w w' : World} {b : Nat} {cs : List Value} {t : TypeId} (h : Blk w b cs t) (k : Kept F w w') (hn : ¬ F b) : Blk w' b cs t := (k.same b h.lt hn).trans h
theorem Blk.cell {w : World} {b : Nat} {cs : List Value} {t : TypeId} (h : Blk w b cs t) (o : Nat) : w.cell? ⟨b, o, none⟩ = cs[o]? := by
  rw [cell_of_row w b o cs.toArray t (0, 0) h]
  simp

/-- The cells of seg stand from (b, o) on. -/
def Seg (w : World) (b o : Nat) (seg : List Value) : Prop := ∀ j v, seg[j]? = some v → w.cell? ⟨b, o + j, none⟩ = some v

theorem Blk.seg {w : World} {b : Nat} {cs : List Value} {t : TypeId} (h : Blk w b cs t) (o l : Nat) : Seg w b o ((cs.drop o).take l) := by
  intro j v hj
  rw [h.cell]
  rw [List.getElem?_take] at hj
  split at hj
  · simpa using hj
  · cases hj

theorem Seg.lt {w : World} {b o : Nat} {seg : List Value} (h : Seg w b o seg) (hn : seg ≠ []) : b < w.heap.size := by
  cases seg with
  | nil => exact absurd rfl hn
  | cons v r => exact World.block_lt_of_cell? w ⟨b, o + 0, none⟩ (h 0 v rfl)

theorem Seg.mv {F : Nat → Prop} {w w' : World} {b o : Nat} {seg : List Value} (h : Seg w b o seg) (k : Kept F w w') (hn : ¬ F b) : Seg w' b o seg := by
  intro j v hj
  have h1 := h j v hj
  have hlt : b < w.heap.size := World.block_lt_of_cell? w ⟨b, o + j, none⟩ h1
  rw [World.cell?_of_block (w := w) (w' := w') (a := ⟨b, o + j, none⟩) (k.same b hlt hn)]
  exact h1

theorem addr_add (b o n : Nat) : (⟨b, o, none⟩ : Addr).add n = ⟨b, o + n, none⟩ := by
  unfold Addr.add
  split
  · rename_i h; simp [h]
  · rfl

def notAgg : TypeDesc → Bool
  | .struct _ => false
  | .array _ _ => false
  | _ => true

/-- A world in which block b alone is another one. -/
structure Upd (w w' : World) (b : Nat) (cs : List Value) (t : TypeId) : Prop where
  blk : Blk w' b cs t
  kept : Kept (fun x => x = b) w w'
  size : w'.heap.size = w.heap.size

theorem Upd.setRow {w : World} {b : Nat} {cs : List Value} {t : TypeId} (h : Blk w b cs t) (cs' : List Value) : Upd w (w.setRow b cs'.toArray) b cs' t :=
  ⟨setRow_heap w b cs.toArray cs'.toArray t (0, 0) h, ⟨rfl, rfl, rfl, by simp, fun i _ hn => setRow_other w b i _ hn⟩, by simp⟩

theorem splice_all {α : Type} (cs seg : List α) (h : seg.length = cs.length) : cs.take 0 ++ seg ++ cs.drop (0 + seg.length) = seg := by
  rw [List.take_zero, Nat.zero_add, List.drop_of_length_le (by omega), List.append_nil, List.nil_append]
theorem Blk.whole {w : World} {b : Nat} {cs : List Value} {t : TypeId} (h : Blk w b cs t) : Seg w b 0 cs := by
  have := h.seg 0 cs.length
  simp only [List.drop_zero, List.take_length] at this
  exact this

/-- A world with one new block. -/
structure New (w w' : World) (b : Nat) (cs : List Value) (t : TypeId) : Prop where
  at_ : b = w.heap.size
  blk : Blk w' b cs t
  kept : Kept (fun _ => False) w w'
  size : w'.heap.size = w.heap.size + 1

theorem New.alloc (w : World) (cs : List Value) (t : TypeId) : New w (w.alloc (.cells cs.toArray t)) w.heap.size cs t :=
  ⟨rfl, heap_alloc_new w _, ⟨rfl, rfl, rfl, by simp, fun i hi _ => heap_alloc_old w _ i hi⟩, by simp⟩
theorem New.drew {w w' : World} {b : Nat} {cs : List Value} {t : TypeId} (h : New w.drew w' b cs t) : New w w' b cs t :=
  ⟨h.at_, h.blk, ⟨h.kept.os, h.kept.tape, h.kept.output, h.kept.size, h.kept.same⟩, h.size⟩

section
variable {P : Program} {f : FuncId} {R : Ending → World → Prop} {n : Nat} {k : List Item} {m : Fm} {Z : Act → World → Prop} {ops : Array Oper} {rest : List Oper} {w : World}
variable {d : Nat} {ty : TypeId} {ps : String} {af : Array Edge}

theorem r_info {t : TypeId} {i : TypeInfo} (h : P.info? t = some i) (w : World) : (typeInfo t).run P w = .ok i w := by simp [typeInfo, h]
theorem r_size {t : TypeId} {i : TypeInfo} (h : P.info? t = some i) (w : World) : (sizeOf t).run P w = .ok i.size w := by simp [sizeOf, r_info h]
theorem r_zero {t : TypeId} {i : TypeInfo} {z : Value} (h : P.info? t = some i) (hz : i.zero = some z) (w : World) : (zeroValue t).run P w = .ok z w := by simp [zeroValue, r_info h, hz]
theorem r_new (w : World) (t : TypeId) (v : Value) (cs : List Value) (hv : v.cells = cs.toArray) : (newVar t v).run P w = .ok ⟨w.heap.size, 0, none⟩ (w.alloc (.cells cs.toArray t)) := by
  rw [← hv]
  rfl

theorem run_isAgg {t : TypeId} {de : TypeDesc} (hu : P.underlying t = some de) (w : World) : (isAgg t).run P w = .ok (!notAgg de) w := by
  unfold isAgg
  rw [Sem.run_bind, run_underlying hu w]
  cases de <;> rfl

theorem run_loadVar_cell {t : TypeId} {de : TypeDesc} (hu : P.underlying t = some de) (hn : notAgg de = true) {p : Addr} {v : Value} (hc : w.cell? p = some v) : (loadVar t p).run P w = .ok v w := by
  simp [loadVar, Sem.run_bind, run_isAgg hu, hn, load, Sem.run, hc]

theorem U_load (E : Env P) {t : TypeId} {x : Operand} {p : Addr} {v : Value} {de : TypeDesc} {s : Nat} (ht : E.ty t = some (de, s)) (hn : notAgg de = true) (hx : ev m x = some (.pointer (some p))) (hc : w.cell? p = some v) (hd : Nat.blt d n = true)
    (h : U P n Z ops rest ((d, v) :: m) w) : U P n Z ops ({ dst := some d, op := .load t x, type := ty, pos := ps, after := af, guard := none } :: rest) m w :=
  U_run rfl rfl hd (fun a ha => by simp [execOp, ha.eval hx, Instr.loadAt, Instr.sureAddr, run_loadVar_cell (E.ok _ _ _ ht).1 hn hc]) h

/-- A cell of a known block. -/
theorem U_loadB (E : Env P) {t : TypeId} {x : Operand} {b o : Nat} {cs : List Value} {bt : TypeId} {v : Value} {de : TypeDesc} {s : Nat} (hb : Blk w b cs bt) (ht : E.ty t = some (de, s)) (hn : notAgg de = true) (hx : ev m x = some (.pointer (some ⟨b, o, none⟩))) (hc : cs[o]? = some v) (hd : Nat.blt d n = true)
    (h : U P n Z ops rest ((d, v) :: m) w) : U P n Z ops ({ dst := some d, op := .load t x, type := ty, pos := ps, after := af, guard := none } :: rest) m w :=
  U_load E ht hn hx (by rw [hb.cell]; exact hc) hd h

theorem run_loadVar_seg {t : TypeId} {de : TypeDesc} {s : Nat} (hu : P.underlying t = some de) (hn : notAgg de = false) (hi : (P.info? t).map (·.size) = some s) {b o : Nat} {seg : List Value} (hs : Seg w b o seg) (hl : seg.length = s) :
    (loadVar t ⟨b, o, none⟩).run P w = .ok (.agg seg.toArray) w := by
  have h1 : (loadCells ⟨b, o, none⟩ seg.length).run P w = .ok seg.toArray w := run_loadCells_list (P := P) w ⟨b, o, none⟩ seg (fun j v hv => by rw [addr_add]; exact hs j v hv)
  cases hq : P.info? t with
  | none => simp [hq] at hi
  | some i =>
    have hs' : i.size = seg.length := by simp [hq] at hi; omega
    simp [loadVar, Sem.run_bind, run_isAgg hu, hn, sizeOf, typeInfo, hq, hs', h1]

theorem U_loadA (E : Env P) {t : TypeId} {x : Operand} {b o : Nat} {seg : List Value} {de : TypeDesc} {s : Nat} (hs : Seg w b o seg) (ht : E.ty t = some (de, s)) (hn : notAgg de = false) (hx : ev m x = some (.pointer (some ⟨b, o, none⟩))) (hl : seg.length = s) (hd : Nat.blt d n = true)
    (h : U P n Z ops rest ((d, .agg seg.toArray) :: m) w) : U P n Z ops ({ dst := some d, op := .load t x, type := ty, pos := ps, after := af, guard := none } :: rest) m w :=
  U_run rfl rfl hd (fun a ha => by simp [execOp, ha.eval hx, Instr.loadAt, Instr.sureAddr, run_loadVar_seg (E.ok _ _ _ ht).1 hn (E.ok _ _ _ ht).2 hs hl]) h

theorem run_storeVar_seg {t : TypeId} {s : Nat} (hi : (P.info? t).map (·.size) = some s) {b o : Nat} {cs seg : List Value} {bt : TypeId} {v : Value} (hb : Blk w b cs bt) (hv : v.cells = seg.toArray) (hl : seg.length = s) (ho : o + s ≤ cs.length) (h1 : ∀ u ∈ seg, u.oneCell' = true) :
    (storeVar t ⟨b, o, none⟩ v).run P w = .ok () (w.setRow b (cs.take o ++ seg ++ cs.drop (o + s)).toArray) := by
  cases hq : P.info? t with
  | none => simp [hq] at hi
  | some i =>
    have hs' : i.size = seg.length := by simp [hq] at hi; omega
    have hst := run_storeCells_at P b o bt seg 0 cs.toArray w hb (by simp; omega) h1
    simp only [Nat.add_zero] at hst
    rw [← hl]
    simp [storeVar, Sem.run_bind, r_size hq, hs', hv]
    simpa using hst

theorem set_eq_splice (cs : List Value) (o : Nat) (v : Value) (ho : o < cs.length) : cs.take o ++ [v] ++ cs.drop (o + 1) = cs.set o v := by
  rw [List.set_eq_take_append_cons_drop, if_pos ho]
  simp

theorem U_store (E : Env P) {t : TypeId} {x y : Operand} {b o : Nat} {cs : List Value} {bt : TypeId} {v : Value} {de : TypeDesc} (hb : Blk w b cs bt) (ht : E.ty t = some (de, 1)) (hx : ev m x = some (.pointer (some ⟨b, o, none⟩))) (hy : ev m y = some v) (ho : o < cs.length) (h1 : v.oneCell' = true)
    (h : ∀ w', Upd w w' b (cs.set o v) bt → U P n Z ops rest m w') : U P n Z ops ({ dst := none, op := .store t x y, type := ty, pos := ps, after := af, guard := none } :: rest) m w := by
  have hv : v.cells = [v].toArray := by cases v <;> simp [Value.oneCell'] at h1 <;> rfl
  have hr := run_storeVar_seg (P := P) (E.ok _ _ _ ht).2 hb hv rfl (Nat.succ_le_of_lt ho) (by simpa using h1)
  rw [set_eq_splice cs o v ho] at hr
  exact U_skip rfl rfl (fun a ha => by simp [execOp, ha.eval hx, ha.eval hy, Instr.storeAt, Instr.sureAddr, hr]) (h _ (Upd.setRow hb _))

theorem U_storeA (E : Env P) {t : TypeId} {x y : Operand} {b o : Nat} {cs seg : List Value} {bt : TypeId} {de : TypeDesc} {s : Nat} (hb : Blk w b cs bt) (ht : E.ty t = some (de, s)) (hx : ev m x = some (.pointer (some ⟨b, o, none⟩))) (hy : ev m y = some (.agg seg.toArray)) (hl : seg.length = s) (ho : o + s ≤ cs.length) (h1 : ∀ u ∈ seg, u.oneCell' = true)
    (h : ∀ w', Upd w w' b (cs.take o ++ seg ++ cs.drop (o + s)) bt → U P n Z ops rest m w') : U P n Z ops ({ dst := none, op := .store t x y, type := ty, pos := ps, after := af, guard := none } :: rest) m w := by
  have hr := run_storeVar_seg (P := P) (v := .agg seg.toArray) (E.ok _ _ _ ht).2 hb rfl hl ho h1
  exact U_skip rfl rfl (fun a ha => by simp [execOp, ha.eval hx, ha.eval hy, Instr.storeAt, Instr.sureAddr, hr]) (h _ (Upd.setRow hb _))

theorem U_alloc (E : Env P) {t : TypeId} {s by_ : Nat} {z : Value} {zs : List Value} (hi : E.info t = some (s, by_, z)) (hz : z.cells = zs.toArray) (hd : Nat.blt d n = true)
    (h : ∀ b w', New w w' b zs t → U P n Z ops rest ((d, .pointer (some ⟨b, 0, none⟩)) :: m) w') : U P n Z ops ({ dst := some d, op := .alloc t, type := ty, pos := ps, after := af, guard := none } :: rest) m w := by
  obtain ⟨i, h1, _, _, h4⟩ := E.info_ok _ _ _ _ hi
  exact U_run rfl rfl hd (fun a _ => by
    simp [execOp, Instr.alloc, Sem.run_bind, r_zero h1 h4, r_new w t z zs hz]) (h _ _ (New.alloc w zs t))

theorem U_box (E : Env P) {t : TypeId} {x : Operand} {v : Value} {cs : List Value} (hx : ev m x = some v) (hz : v.cells = cs.toArray) (hd : Nat.blt d n = true)
    (h : ∀ b w', New w w' b cs t → U P n Z ops rest ((d, .pointer (some ⟨b, 0, none⟩)) :: m) w') : U P n Z ops ({ dst := some d, op := .box t x, type := ty, pos := ps, after := af, guard := none } :: rest) m w :=
  have _ := E
  U_run rfl rfl hd (fun a ha => by
    simp [execOp, Instr.box, ha.eval hx, r_new w t v cs hz]) (h _ _ (New.alloc w cs t))

/-- An operation that turns nothing, its run laid by hand. -/
theorem U_same {op : Op} {v : Value} (hr : ∀ a : Act, Fits a n m → (execOp a.eval { dst := some d, op := op, type := ty, pos := ps, after := af, guard := none }).run P w = .ok (.value v) w) (hd : Nat.blt d n = true)
    (h : U P n Z ops rest ((d, v) :: m) w) : U P n Z ops ({ dst := some d, op := op, type := ty, pos := ps, after := af, guard := none } :: rest) m w :=
  U_run rfl rfl hd hr h

theorem run_indexAt_slice {t e : TypeId} {i : Int} {kd : IntKind} {b o len cap s : Nat} (hu : P.underlying t = some (.slice e)) (hs : (P.info? e).map (·.size) = some s) (h0 : 0 ≤ i) (hl : i < len) :
    (Instr.indexAt t (.slice (some ⟨b, o, none⟩) len cap) (.int kd i)).run P w = .ok (.pointer (some ⟨b, o + i.toNat * s, none⟩)) w := by
  cases hq : P.info? e with
  | none => simp [hq] at hs
  | some j =>
    have : j.size = s := by simpa [hq] using hs
    simp [Instr.indexAt, asIntOf, run_underlying hu, h0, hl, sizeOf, typeInfo, hq, this, addr_add]

theorem U_indexS (E : Env P) {t e : TypeId} {x y : Operand} {b o len cap s se : Nat} {i : Int} {kd : IntKind} {de : TypeDesc} (hu : E.ty t = some (.slice e, se)) (he : E.ty e = some (de, s)) (hx : ev m x = some (.slice (some ⟨b, o, none⟩) len cap)) (hy : ev m y = some (.int kd i)) {o' : Nat} (h0 : 0 ≤ i) (hl : i < len) (ho : o + i.toNat * s = o') (hd : Nat.blt d n = true)
    (h : U P n Z ops rest ((d, .pointer (some ⟨b, o', none⟩)) :: m) w) : U P n Z ops ({ dst := some d, op := .indexAddr t x y, type := ty, pos := ps, after := af, guard := none } :: rest) m w :=
  U_run rfl rfl hd (fun a ha => by
    have hr := run_indexAt_slice (P := P) (w := w) (kd := kd) (b := b) (o := o) (cap := cap) (E.ok _ _ _ hu).1 (E.ok _ _ _ he).2 h0 hl
    rw [ho] at hr
    simp only [execOp, ha.eval hx, ha.eval hy, Sem.run_bind, hr, Result.andThen_ok, Sem.run_pure]) h

/-- A slice's bounds. -/
def bnd (m : Fm) : Option Operand → Option (Option Int)
  | none => some none
  | some x => match ev m x with
    | some (.int _ i) => some (some i)
    | _ => none

theorem run_slice {t e : TypeId} {A : Option Addr} {len cap s : Nat} {lo hi : Option Value} {l h' : Nat} (hu : P.underlying t = some (.slice e)) (hs : (P.info? e).map (·.size) = some s)
    (hlo : match lo with | none => l = 0 | some v => ∃ kd, v = .int kd l) (hhi : match hi with | none => h' = len | some v => ∃ kd, v = .int kd h') (h1 : l ≤ h') (h2 : h' ≤ cap) :
    (Instr.sliceAt t (.slice A len cap) lo hi none).run P w = .ok (.slice (if cap = l then A else A.map (·.add (l * s))) (h' - l) (cap - l)) w := by
  cases hq : P.info? e with
  | none => simp [hq] at hs
  | some j =>
    have hj : j.size = s := by simpa [hq] using hs
    have hL : ∀ v : Value, (∃ kd, v = .int kd (l : Int)) → (Instr.sliceBound v h' .sliceB).run P w = .ok l w := by
      rintro v ⟨kd, rfl⟩
      simp [Instr.sliceBound, asIntOf]
      omega
    have hH : ∀ v : Value, (∃ kd, v = .int kd (h' : Int)) → (Instr.sliceBound v cap .sliceAcap).run P w = .ok h' w := by
      rintro v ⟨kd, rfl⟩
      simp [Instr.sliceBound, asIntOf]
      omega
    cases lo with
    | none =>
      simp only at hlo
      subst hlo
      cases hi with
      | none =>
        simp only at hhi
        subst hhi
        simp [Instr.sliceAt, Instr.slice, run_underlying hu, Instr.sliceBounds, sizeOf, typeInfo, hq]
      | some v =>
        simp [Instr.sliceAt, Instr.slice, run_underlying hu, Instr.sliceBounds, sizeOf, typeInfo, hq, hH v hhi]
    | some u =>
      cases hi with
      | none =>
        simp only at hhi
        subst hhi
        simp [Instr.sliceAt, Instr.slice, run_underlying hu, Instr.sliceBounds, sizeOf, typeInfo, hq, hj, hL u hlo]
      | some v =>
        simp [Instr.sliceAt, Instr.slice, run_underlying hu, Instr.sliceBounds, sizeOf, typeInfo, hq, hj, hH v hhi, hL u hlo]

/-- The slice of an array's cells. -/
theorem run_slice_array {t e : TypeId} {N b o s : Nat} {lo : Option Value} {l : Nat} (hu : P.underlying t = some (.array N e)) (hs : (P.info? e).map (·.size) = some s)
    (hlo : match lo with | none => l = 0 | some v => ∃ kd, v = .int kd l) (h1 : l ≤ N) :
    (Instr.sliceAt t (.pointer (some ⟨b, o, none⟩)) lo none none).run P w = .ok (.slice (some (if N = l then ⟨b, o, none⟩ else ⟨b, o + l * s, none⟩)) (N - l) (N - l)) w := by
  cases hq : P.info? e with
  | none => simp [hq] at hs
  | some j =>
    have hj : j.size = s := by simpa [hq] using hs
    cases lo with
    | none =>
      simp only at hlo
      subst hlo
      simp [Instr.sliceAt, run_underlying hu, Instr.sliceBounds, sizeOf, typeInfo, hq, Instr.sureAddr, addr_add]
    | some u =>
      have hL : ∀ v : Value, (∃ kd, v = .int kd (l : Int)) → (Instr.sliceBound v N .sliceB).run P w = .ok l w := by
        rintro v ⟨kd, rfl⟩
        simp [Instr.sliceBound, asIntOf]
        omega
      simp [Instr.sliceAt, run_underlying hu, Instr.sliceBounds, sizeOf, typeInfo, hq, hj, hL u hlo, Instr.sureAddr, addr_add]

theorem ro_sliceArr (E : Env P) {t e : TypeId} {x : Operand} {b o N s sa : Nat} {de : TypeDesc} (hu : E.ty t = some (.array N e, sa)) (he : E.ty e = some (de, s)) (hx : ev m x = some (.pointer (some ⟨b, o, none⟩))) (hN : Nat.blt 0 N = true) {dst : Option Tmp} {gd : Option (Nat × Bool)} :
    ∀ a, Fits a n m → (execOp a.eval { dst := dst, op := .slice t x none none none, type := ty, pos := ps, after := af, guard := gd }).run P w = .ok (.value (.slice (some ⟨b, o, none⟩) N N)) w := by
  intro a ha
  have hN' : 0 < N := by simpa using hN
  have hr := run_slice_array (P := P) (w := w) (b := b) (o := o) (lo := none) (l := 0) (E.ok _ _ _ hu).1 (E.ok _ _ _ he).2 rfl (by omega)
  rw [if_neg (by omega)] at hr
  simp only [Nat.zero_mul, Nat.add_zero, Nat.sub_zero] at hr
  simp only [execOp, ha.eval hx, Option.map_none, Sem.run_bind, hr, Result.andThen_ok, Sem.run_pure]
theorem ro_sliceArrFrom (E : Env P) {t e : TypeId} {x y : Operand} {b o N s sa l : Nat} {de : TypeDesc} {kd : IntKind} (hu : E.ty t = some (.array N e, sa)) (he : E.ty e = some (de, s)) (hx : ev m x = some (.pointer (some ⟨b, o, none⟩))) (hy : ev m y = some (.int kd (l : Int))) (hl : l < N) {dst : Option Tmp} {gd : Option (Nat × Bool)} :
    ∀ a, Fits a n m → (execOp a.eval { dst := dst, op := .slice t x (some y) none none, type := ty, pos := ps, after := af, guard := gd }).run P w = .ok (.value (.slice (some ⟨b, o + l * s, none⟩) (N - l) (N - l))) w := by
  intro a ha
  have hr := run_slice_array (P := P) (w := w) (b := b) (o := o) (lo := some (.int kd (l : Int))) (l := l) (E.ok _ _ _ hu).1 (E.ok _ _ _ he).2 ⟨kd, rfl⟩ (by omega)
  rw [if_neg (by omega)] at hr
  simp only [execOp, ha.eval hx, ha.eval hy, Option.map_none, Option.map_some, Sem.run_bind, hr, Result.andThen_ok, Sem.run_pure]
theorem ro_load (E : Env P) {t : TypeId} {x : Operand} {p : Addr} {v : Value} {de : TypeDesc} {s : Nat} (ht : E.ty t = some (de, s)) (hn : notAgg de = true) (hx : ev m x = some (.pointer (some p))) (hc : w.cell? p = some v) {dst : Option Tmp} {gd : Option (Nat × Bool)} :
    ∀ a, Fits a n m → (execOp a.eval { dst := dst, op := .load t x, type := ty, pos := ps, after := af, guard := gd }).run P w = .ok (.value v) w :=
  fun a ha => by simp [execOp, ha.eval hx, Instr.loadAt, Instr.sureAddr, run_loadVar_cell (E.ok _ _ _ ht).1 hn hc]
theorem ro_loadB (E : Env P) {t : TypeId} {x : Operand} {b o : Nat} {cs : List Value} {bt : TypeId} {v : Value} {de : TypeDesc} {s : Nat} (hb : Blk w b cs bt) (ht : E.ty t = some (de, s)) (hn : notAgg de = true) (hx : ev m x = some (.pointer (some ⟨b, o, none⟩))) (hc : cs[o]? = some v) {dst : Option Tmp} {gd : Option (Nat × Bool)} :
    ∀ a, Fits a n m → (execOp a.eval { dst := dst, op := .load t x, type := ty, pos := ps, after := af, guard := gd }).run P w = .ok (.value v) w :=
  ro_load E ht hn hx (by rw [hb.cell]; exact hc)
theorem ro_loadA (E : Env P) {t : TypeId} {x : Operand} {b o : Nat} {seg : List Value} {de : TypeDesc} {s : Nat} (hs : Seg w b o seg) (ht : E.ty t = some (de, s)) (hn : notAgg de = false) (hx : ev m x = some (.pointer (some ⟨b, o, none⟩))) (hl : seg.length = s) {dst : Option Tmp} {gd : Option (Nat × Bool)} :
    ∀ a, Fits a n m → (execOp a.eval { dst := dst, op := .load t x, type := ty, pos := ps, after := af, guard := gd }).run P w = .ok (.value (.agg seg.toArray)) w :=
  fun a ha => by simp [execOp, ha.eval hx, Instr.loadAt, Instr.sureAddr, run_loadVar_seg (E.ok _ _ _ ht).1 hn (E.ok _ _ _ ht).2 hs hl]
theorem ro_indexS (E : Env P) {t e : TypeId} {x y : Operand} {b o len cap s se : Nat} {i : Int} {kd : IntKind} {de : TypeDesc} {o' : Nat} (hu : E.ty t = some (.slice e, se)) (he : E.ty e = some (de, s)) (hx : ev m x = some (.slice (some ⟨b, o, none⟩) len cap)) (hy : ev m y = some (.int kd i)) (h0 : 0 ≤ i) (hl : i < len) (ho : o + i.toNat * s = o') {dst : Option Tmp} {gd : Option (Nat × Bool)} :
    ∀ a, Fits a n m → (execOp a.eval { dst := dst, op := .indexAddr t x y, type := ty, pos := ps, after := af, guard := gd }).run P w = .ok (.value (.pointer (some ⟨b, o', none⟩))) w := by
  intro a ha
  have hr := run_indexAt_slice (P := P) (w := w) (kd := kd) (b := b) (o := o) (cap := cap) (E.ok _ _ _ hu).1 (E.ok _ _ _ he).2 h0 hl
  rw [ho] at hr
  simp only [execOp, ha.eval hx, ha.eval hy, Sem.run_bind, hr, Result.andThen_ok, Sem.run_pure]
end
end Go.Proofs.YtoefhdaenaiomaaDoor
