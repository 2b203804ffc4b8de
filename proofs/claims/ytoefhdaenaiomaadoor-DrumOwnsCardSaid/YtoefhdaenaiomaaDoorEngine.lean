/- A small engine: a function's code is walked as the machine's own list of what is still to do, with a list of known slots. Plain theorems over any program. -/
import Derived.Below
import Derived.Tactics
import Derived.Laws.AppendOwn
import Derived.Laws.CopyRow
import Derived.Laws.Rows
import Derived.Laws.StructEq
import Derived.WideLaws
namespace Go.Proofs.YtoefhdaenaiomaaDoor
open Go

/-- What is known of a frame's slots: the newest first. -/
abbrev Fm := List (Nat × Value)

def look : Fm → Nat → Option Value
  | [], _ => none
  | (i, v) :: m, j => cond (Nat.beq i j) (some v) (look m j)

structure Fits (a : Act) (n : Nat) (m : Fm) : Prop where
  size : a.tmps.size = n
  defers : a.defers = []
  get : ∀ i v, look m i = some v → a.tmps[i]? = some v

theorem Fits.put {a : Act} {n d : Nat} {m : Fm} (h : Fits a n m) (v : Value) (hd : Nat.blt d n = true) : Fits (a.put (some d) v) n ((d, v) :: m) := by
  have hd' : d < n := by simpa using hd
  refine ⟨by simp [Act.put, h.size], by simp [Act.put, h.defers], fun i u hu => ?_⟩
  simp only [look] at hu
  by_cases hi : d = i
  · subst hi
    have : (Nat.beq d d) = true := by simp
    rw [this] at hu
    simp only [cond_true] at hu
    injection hu with hu
    subst hu
    simp [Act.put, h.size, hd']
  · have : (Nat.beq d i) = false := by cases hq : Nat.beq d i; rfl; exact absurd (Nat.eq_of_beq_eq_true hq) hi
    rw [this] at hu
    simp only [cond_false] at hu
    simp only [Act.put]
    rw [Array.getElem?_setIfInBounds_ne hi]
    exact h.get i u hu

theorem Fits.put_none {a : Act} {n : Nat} {m : Fm} (h : Fits a n m) (v : Value) : Fits (a.put none v) n m := h

theorem Fits.less {a : Act} {n : Nat} {m m' : Fm} (h : Fits a n m) (hs : ∀ i v, look m' i = some v → look m i = some v) : Fits a n m' :=
  ⟨h.size, h.defers, fun i v hv => h.get i v (hs i v hv)⟩

/-- Every row of m' stands in m. -/
def Sub : Fm → Fm → Prop
  | [], _ => True
  | p :: m', m => look m p.1 = some p.2 ∧ Sub m' m

theorem Sub.look {m : Fm} : ∀ {m' : Fm}, Sub m' m → ∀ i v, look m' i = some v → look m i = some v
  | [], _, i, v, h => by simp [Go.Proofs.YtoefhdaenaiomaaDoor.look] at h
  | p :: m', hs, i, v, h => by
    simp only [Go.Proofs.YtoefhdaenaiomaaDoor.look] at h
    cases hb : Nat.beq p.1 i with
    | true =>
      rw [hb] at h
      simp only [cond_true] at h
      injection h with h
      have : p.1 = i := by simpa using hb
      rw [← this, ← h]
      exact hs.1
    | false =>
      rw [hb] at h
      exact Sub.look hs.2 i v h

def ev (m : Fm) : Operand → Option Value
  | .tmp t => look m t
  | .const v => some v
  | .global g => some (.pointer (some ⟨g, 0, none⟩))
  | .func f => some (.func (.func f) #[] #[])

theorem Fits.eval {a : Act} {n : Nat} {m : Fm} (h : Fits a n m) {x : Operand} {v : Value} (he : ev m x = some v) : a.eval x = v := by
  cases x with
  | tmp t =>
    have := h.get t v he
    simp [Act.eval, this]
  | const u => simpa [ev, Act.eval] using he
  | global g => simpa [ev, Act.eval] using he
  | func f => simpa [ev, Act.eval] using he

def evs (m : Fm) : List Operand → Option (List Value)
  | [] => some []
  | x :: xs => match ev m x, evs m xs with
    | some v, some vs => some (v :: vs)
    | _, _ => none

theorem Fits.evals {a : Act} {n : Nat} {m : Fm} (h : Fits a n m) : ∀ {xs : List Operand} {vs : List Value}, evs m xs = some vs → xs.map a.eval = vs
  | [], vs, he => by simp [evs] at he; simp [he]
  | x :: xs, vs, he => by
    simp only [evs] at he
    cases h1 : ev m x with
    | none => simp [h1] at he
    | some v =>
      cases h2 : evs m xs with
      | none => simp [h1, h2] at he
      | some us =>
        simp [h1, h2] at he
        subst he
        simp [h.eval h1, h.evals h2]

/-- From the list k of what is left to do, the call of f comes to an end that R tells of. -/
def S (P : Program) (f : FuncId) (R : Ending → World → Prop) (k : List Item) (a : Act) (w : World) : Prop :=
  ∀ (b : Frame) (cs : List Frame), b.fn = f → b.kind = .normal →
    ∃ e w' fr, R e w' ∧ Comes P (lone (b.at a k) cs w) (lone fr cs w') e ∧ fr.fn = f ∧ fr.leaving P w' e

def T (P : Program) (f : FuncId) (R : Ending → World → Prop) (n : Nat) (k : List Item) (m : Fm) (w : World) : Prop :=
  ∀ a, Fits a n m → S P f R k a w

section
variable {P : Program} {f : FuncId} {R : Ending → World → Prop} {n : Nat} {k : List Item} {m : Fm} {a : Act} {w : World}

theorem S.head {k' : List Item} {a' : Act} {w' : World} (hs : ∀ (b : Frame) (cs : List Frame), step P (lone (b.at a k) cs w) = .next (lone (b.at a' k') cs w')) (h : S P f R k' a' w') : S P f R k a w := by
  intro b cs hb hk
  obtain ⟨e, w2, fr, hR, hc, h1, h2⟩ := h b cs hb hk
  exact ⟨e, w2, fr, hR, Comes.of_steps (.one (hs b cs)) hc, h1, h2⟩

theorem T.less {m' : Fm} (hs : Sub m' m) (h : T P f R n k m' w) : T P f R n k m w := fun a ha => h a (ha.less hs.look)

theorem T_seq {x y : Code} (h : T P f R n (.code x :: .code y :: k) m w) : T P f R n (.code (.seq x y) :: k) m w :=
  fun a ha => S.head (fun _ _ => step_seq) (h a ha)
theorem T_skip (h : T P f R n k m w) : T P f R n (.code .skip :: k) m w := fun a ha => S.head (fun _ _ => step_skip) (h a ha)
theorem T_block {id : Nat} {c : Code} (h : T P f R n (.code c :: .inBlock id :: k) m w) : T P f R n (.code (.block id c) :: k) m w :=
  fun a ha => S.head (fun _ _ => step_block) (h a ha)
theorem T_inBlock {id : Nat} (h : T P f R n k m w) : T P f R n (.inBlock id :: k) m w := fun a ha => S.head (fun _ _ => step_inBlock) (h a ha)
theorem T_exit {id : Nat} {k' : List Item} (hk : exitTo id k = some k') (h : T P f R n k' m w) : T P f R n (.code (.exit id) :: k) m w :=
  fun a ha => S.head (fun _ _ => step_exit hk) (h a ha)
theorem T_loopIn {c : Code} (h : T P f R n (.code c :: .inLoop c :: k) m w) : T P f R n (.code (.loop c) :: k) m w :=
  fun a ha => S.head (fun _ _ => step_loop) (h a ha)
theorem T_inLoop {c : Code} (h : T P f R n (.code c :: .inLoop c :: k) m w) : T P f R n (.inLoop c :: k) m w :=
  fun a ha => S.head (fun _ _ => step_inLoop) (h a ha)
theorem T_cond {c : Operand} {x y : Code} {t : Bool} (hc : ev m c = some (.bool t)) (ht : t = true → T P f R n (.code x :: k) m w) (hf : t = false → T P f R n (.code y :: k) m w) :
    T P f R n (.code (.cond c x y) :: k) m w := by
  intro a ha
  refine S.head (fun _ _ => step_cond (ha.eval hc)) ?_
  cases t
  · exact hf rfl a ha
  · exact ht rfl a ha
theorem T_condP {c : Operand} {x y : Code} {p : Prop} [Decidable p] (hc : ev m c = some (.bool (decide p))) (ht : p → T P f R n (.code x :: k) m w) (hf : ¬ p → T P f R n (.code y :: k) m w) :
    T P f R n (.code (.cond c x y) :: k) m w :=
  T_cond hc (fun h => ht (of_decide_eq_true h)) (fun h => hf (of_decide_eq_false h))
theorem T_condT {c : Operand} {x y : Code} (hc : ev m c = some (.bool true)) (ht : T P f R n (.code x :: k) m w) : T P f R n (.code (.cond c x y) :: k) m w :=
  T_cond hc (fun _ => ht) (fun h => by cases h)
theorem T_condF {c : Operand} {x y : Code} (hc : ev m c = some (.bool false)) (hf : T P f R n (.code y :: k) m w) : T P f R n (.code (.cond c x y) :: k) m w :=
  T_cond hc (fun h => by cases h) (fun _ => hf)

/-- The two ways of a test. -/
def Cnd (P : Program) (f : FuncId) (R : Ending → World → Prop) (n : Nat) (k : List Item) (x y : Code) (m : Fm) (w : World) (b : Bool) : Prop :=
  (b = true → T P f R n (.code x :: k) m w) ∧ (b = false → T P f R n (.code y :: k) m w)
theorem T_condV {c : Operand} {x y : Code} {b : Bool} (hc : ev m c = some (.bool b)) (h : Cnd P f R n k x y m w b) : T P f R n (.code (.cond c x y) :: k) m w := T_cond hc h.1 h.2
theorem Cnd_t {x y : Code} (h : T P f R n (.code x :: k) m w) : Cnd P f R n k x y m w true := ⟨fun _ => h, fun e => by cases e⟩
theorem Cnd_f {x y : Code} (h : T P f R n (.code y :: k) m w) : Cnd P f R n k x y m w false := ⟨fun e => (by cases e), fun _ => h⟩
theorem Cnd_p {x y : Code} {p : Prop} [Decidable p] (ht : p → T P f R n (.code x :: k) m w) (hf : ¬ p → T P f R n (.code y :: k) m w) : Cnd P f R n k x y m w (decide p) :=
  ⟨fun h => ht (of_decide_eq_true h), fun h => hf (of_decide_eq_false h)⟩
theorem Cnd_b {x y : Code} {b : Bool} (ht : b = true → T P f R n (.code x :: k) m w) (hf : b = false → T P f R n (.code y :: k) m w) : Cnd P f R n k x y m w b := ⟨ht, hf⟩
theorem Cnd_some {α : Type} {x y : Code} {v : α} (h : T P f R n (.code y :: k) m w) : Cnd P f R n k x y m w (Option.isNone (some v)) := Cnd_f h
theorem Cnd_none {α : Type} {x y : Code} (h : T P f R n (.code x :: k) m w) : Cnd P f R n k x y m w (Option.isNone (none : Option α)) := Cnd_t h
theorem Cnd_not {x y : Code} {b : Bool} (h : Cnd P f R n k y x m w b) : Cnd P f R n k x y m w (!b) :=
  ⟨fun e => h.2 (by simpa using e), fun e => h.1 (by simpa using e)⟩

/-- A loop: fm, ww: the slots and the world at the head of a round, of a state x; mu falls. -/
theorem T_loop {α : Type} {c : Code} (fm : α → Fm) (ww : α → World) (mu : α → Nat) (inv : α → Prop) (x0 : α) (h0 : inv x0) (hm : Sub (fm x0) m) (hw : ww x0 = w)
    (round : ∀ x, inv x → (∀ y, inv y → mu y < mu x → T P f R n (.inLoop c :: k) (fm y) (ww y)) → T P f R n (.code c :: .inLoop c :: k) (fm x) (ww x)) :
    T P f R n (.code (.loop c) :: k) m w := by
  have key : ∀ d x, mu x = d → inv x → T P f R n (.code c :: .inLoop c :: k) (fm x) (ww x) := by
    intro d
    induction d using Nat.strongRecOn with
    | _ d ih =>
      intro x hd hx
      exact round x hx (fun y hy hlt => T_inLoop (ih (mu y) (hd ▸ hlt) y rfl hy))
  subst hw
  exact T_loopIn (T.less hm (key _ x0 rfl h0))

/-- The call's end. -/
theorem S_ret {fn : Func} {v : Value} (hf : P.funcs[f]? = some fn) (hd : a.defers = []) (hr : (results fn a.tmps).run P w = .ok v w) (hR : R (.returned v) w) :
    S P f R (.code .ret :: k) a w := by
  intro b cs hb hk
  exact ⟨.returned v, w, _, hR, .one step_ret, hb, rfl, hd, hk, fn, by show P.funcs[b.fn]? = _; rw [hb]; exact hf, hr⟩
theorem S_end {fn : Func} {v : Value} (hf : P.funcs[f]? = some fn) (hd : a.defers = []) (hr : (results fn a.tmps).run P w = .ok v w) (hR : R (.returned v) w) :
    S P f R [] a w := by
  intro b cs hb hk
  exact ⟨.returned v, w, _, hR, .one step_end, hb, rfl, hd, hk, fn, by show P.funcs[b.fn]? = _; rw [hb]; exact hf, hr⟩
theorem T_ret1 {fn : Func} {t : Tmp} {v : Value} (hf : P.funcs[f]? = some fn) (hr : fn.results = #[.tmp t]) (hv : look m t = some v) (hR : R (.returned v) w) : T P f R n (.code .ret :: k) m w := by
  intro a ha
  refine S_ret hf ha.defers ?_ hR
  rw [results_tmp hr]
  have := ha.get t v hv
  simp [this]
theorem T_ret2 {fn : Func} {t u : Tmp} {v v' : Value} (hf : P.funcs[f]? = some fn) (hr : fn.results = #[.tmp t, .tmp u]) (hv : look m t = some v) (hv' : look m u = some v') (hR : R (.returned (.tuple #[v, v'])) w) :
    T P f R n (.code .ret :: k) m w := by
  intro a ha
  refine S_ret hf ha.defers ?_ hR
  rw [results_tmp2 hr]
  have h1 := ha.get t v hv
  have h2 := ha.get u v' hv'
  simp [h1, h2]
theorem T_ret3 {fn : Func} {t u s : Tmp} {v v' v'' : Value} (hf : P.funcs[f]? = some fn) (hr : fn.results = #[.tmp t, .tmp u, .tmp s]) (hv : look m t = some v) (hv' : look m u = some v') (hv'' : look m s = some v'')
    (hR : R (.returned (.tuple #[v, v', v''])) w) : T P f R n (.code .ret :: k) m w := by
  intro a ha
  refine S_ret hf ha.defers ?_ hR
  have h1 := ha.get t v hv
  have h2 := ha.get u v' hv'
  have h3 := ha.get s v'' hv''
  simp [results, hr, h1, h2, h3]
theorem T_end0 {fn : Func} (hf : P.funcs[f]? = some fn) (hr : fn.results = #[]) (hR : R (.returned (.tuple #[])) w) : T P f R n [] m w := by
  intro a ha
  exact S_end hf ha.defers (results_none hr _ _ _) hR
theorem T_ret0 {fn : Func} (hf : P.funcs[f]? = some fn) (hr : fn.results = #[]) (hR : R (.returned (.tuple #[])) w) : T P f R n (.code .ret :: k) m w := by
  intro a ha
  exact S_ret hf ha.defers (results_none hr _ _ _) hR
end

/-- The slots that hold the arguments. -/
def args : Nat → List Value → Fm
  | _, [] => []
  | i, v :: vs => (i, v) :: args (i + 1) vs

theorem look_args : ∀ (vs : List Value) (i j : Nat) (v : Value), look (args i vs) j = some v → i ≤ j ∧ vs[j - i]? = some v
  | [], i, j, v, h => by simp [args, look] at h
  | u :: vs, i, j, v, h => by
    simp only [args, look] at h
    cases hb : Nat.beq i j with
    | true =>
      rw [hb] at h
      have : i = j := by simpa using hb
      subst this
      simpa using h
    | false =>
      rw [hb] at h
      obtain ⟨h1, h2⟩ := look_args vs (i + 1) j v h
      refine ⟨by omega, ?_⟩
      rw [show j - i = (j - (i + 1)) + 1 by omega]
      simpa using h2

theorem calls_T {P : Program} {f : FuncId} {fn : Func} {c : Code} {vs : List Value} {w : World} {R : Ending → World → Prop} {n : Nat}
    (hf : P.funcs[f]? = some fn) (hb : fn.body = some c) (hn : fn.ntmps = n) (hl : Nat.ble vs.length n = true) (h : T P f R n [.code c] (args 0 vs) w) : Calls P f vs.toArray w R := by
  intro cs
  let b : Frame := { (default : Frame) with fn := f, kind := .normal }
  have hl' : vs.length ≤ n := by simpa using hl
  have henter : Frame.enter P f vs.toArray .normal =
      b.at { tmps := vs.toArray ++ Array.replicate (fn.ntmps - vs.toArray.size) undef, defers := [] } [.code c] := by
    simp [Frame.enter, Frame.at, hf, hb, b]
  have hfit : Fits { tmps := vs.toArray ++ Array.replicate (fn.ntmps - vs.toArray.size) undef, defers := [] } n (args 0 vs) := by
    refine ⟨by simp [hn]; omega, rfl, fun i v hv => ?_⟩
    obtain ⟨_, h2⟩ := look_args vs 0 i v hv
    have hlt : i < vs.length := by
      have := (List.getElem?_eq_some_iff.1 h2).1
      simpa using this
    simp only [Nat.sub_zero] at h2
    rw [Array.getElem?_append_left (by simpa using hlt)]
    simpa using h2
  obtain ⟨e, w', fr, hR, hc, h1, h2⟩ := h _ hfit b cs rfl rfl
  rw [← henter] at hc
  exact ⟨e, w', fr, hR, hc, h1, h2⟩

/-! ### Operations -/

/-- The rest of a region's operations, then k. -/
def U (P : Program) (n : Nat) (Z : Act → World → Prop) (ops : Array Oper) (rest : List Oper) (m : Fm) (w : World) : Prop :=
  ∀ a, Fits a n m → wpList P ops (fun e a' w' => e = .normal ∧ Z a' w') rest a w

section
variable {P : Program} {f : FuncId} {R : Ending → World → Prop} {n : Nat} {k : List Item} {m : Fm} {Z : Act → World → Prop} {ops : Array Oper} {rest : List Oper} {w : World}

theorem S_of_wp {c : Code} {a : Act} (h : c.wp P (fun e a' w' => e = .normal ∧ S P f R k a' w') a w) : S P f R (.code c :: k) a w := by
  intro b cs hb hk
  obtain ⟨e, a', w', ⟨rfl, hS⟩, harr⟩ := h b k cs
  obtain ⟨e2, w2, fr, hR, hc, h1, h2⟩ := hS b cs hb hk
  exact ⟨e2, w2, fr, hR, Comes.of_steps harr hc, h1, h2⟩

theorem T_region {id : Nat} {l : List Oper} (h : U P n (S P f R k) l.toArray l m w) : T P f R n (.code (.region id l.toArray false) :: k) m w :=
  fun a ha => S_of_wp (wp_region_lit (h a ha))

theorem U_nil (h : T P f R n k m w) : U P n (S P f R k) ops [] m w := fun a ha => wpList_nil ⟨rfl, h a ha⟩

theorem U_less {m' : Fm} (hs : Sub m' m) (h : U P n Z ops rest m' w) : U P n Z ops rest m w := fun a ha => h a (ha.less hs.look)

/-- An operation whose run is known. -/
theorem U_run {o : Oper} {v : Value} {w' : World} {d : Nat} (hg : o.guard = none) (hdst : o.dst = some d) (hd : Nat.blt d n = true)
    (hr : ∀ a, Fits a n m → (execOp a.eval o).run P w = .ok (.value v) w') (h : U P n Z ops rest ((d, v) :: m) w') : U P n Z ops (o :: rest) m w := by
  intro a ha
  refine wpList_plain hg fun K hK => ?_
  unfold Oper.wp
  rw [hr a ha]
  rw [Oper.upon_value, hdst]
  exact hK _ _ (h _ (ha.put v hd))

theorem U_runNone {o : Oper} {v : Value} {w' : World} (hg : o.guard = none) (hdst : o.dst = none)
    (hr : ∀ a, Fits a n m → (execOp a.eval o).run P w = .ok (.value v) w') (h : U P n Z ops rest m w') : U P n Z ops (o :: rest) m w := by
  intro a ha
  refine wpList_plain hg fun K hK => ?_
  unfold Oper.wp
  rw [hr a ha]
  rw [Oper.upon_value, hdst]
  exact hK _ _ (h _ (ha.put_none v))

theorem U_skip {o : Oper} {w' : World} (hg : o.guard = none) (hdst : o.dst = none)
    (hr : ∀ a, Fits a n m → (execOp a.eval o).run P w = .ok .skip w') (h : U P n Z ops rest m w') : U P n Z ops (o :: rest) m w := by
  intro a ha
  refine wpList_plain hg fun K hK => ?_
  unfold Oper.wp
  rw [hr a ha]
  rw [Oper.upon_skip, hdst]
  exact hK _ _ (h _ (ha.put_none undef))

/-- A guarded operation that is wanted. -/
theorem U_want {dst : Option Tmp} {op : Op} {ty : TypeId} {ps : String} {af : Array Edge} {j g : Nat} {want : Bool} (hj : (ops[j]?).bind (·.dst) = some g) (hv : look m g = some (.bool want))
    (h : U P n Z ops ({ dst := dst, op := op, type := ty, pos := ps, after := af, guard := none } :: rest) m w) :
    U P n Z ops ({ dst := dst, op := op, type := ty, pos := ps, after := af, guard := some (j, want) } :: rest) m w := by
  intro a ha
  have hy : yielded ops a.tmps j = some want := by
    unfold yielded
    rw [hj]
    simp [ha.get g _ hv]
  have := h a ha
  unfold wpList at this ⊢
  rw [if_pos (by simp [Region.wanted])] at this
  rw [if_pos (by simp [Region.wanted, hy])]
  exact this

theorem U_unwant {d : Nat} {op : Op} {ty : TypeId} {ps : String} {af : Array Edge} {j g : Nat} {want b : Bool} (hj : (ops[j]?).bind (·.dst) = some g) (hv : look m g = some (.bool b)) (hb : (b == want) = false) (hd : Nat.blt d n = true)
    (h : U P n Z ops rest ((d, undef) :: m) w) :
    U P n Z ops ({ dst := some d, op := op, type := ty, pos := ps, after := af, guard := some (j, want) } :: rest) m w := by
  intro a ha
  have hy : yielded ops a.tmps j = some b := by
    unfold yielded
    rw [hj]
    simp [ha.get g _ hv]
  unfold wpList
  rw [if_neg (by simp only [Region.wanted, hy]; intro h; have h2 : (some b == some want) = (b == want) := rfl; rw [h2, hb] at h; cases h)]
  exact h _ (ha.put undef hd)

/-- A guarded operation: by what its guard's slot holds. -/
def Gd (P : Program) (n : Nat) (Z : Act → World → Prop) (ops : Array Oper) (rest : List Oper) (o : Oper) (m : Fm) (w : World) (g : Nat) (b : Bool) : Prop :=
  (∀ j want, o.guard = some (j, want) → (ops[j]?).bind (·.dst) = some g) → look m g = some (.bool b) → U P n Z ops (o :: rest) m w
theorem U_guard {dst : Option Tmp} {op : Op} {ty : TypeId} {ps : String} {af : Array Edge} {j g : Nat} {want b : Bool} (hj : (ops[j]?).bind (·.dst) = some g) (hv : look m g = some (.bool b))
    (h : Gd P n Z ops rest { dst := dst, op := op, type := ty, pos := ps, after := af, guard := some (j, want) } m w g b) :
    U P n Z ops ({ dst := dst, op := op, type := ty, pos := ps, after := af, guard := some (j, want) } :: rest) m w :=
  h (fun _ _ e => by injection e with e; injection e with e1 e2; rw [← e1]; exact hj) hv
theorem Gd_want {dst : Option Tmp} {op : Op} {ty : TypeId} {ps : String} {af : Array Edge} {j g : Nat} {want : Bool}
    (h : U P n Z ops ({ dst := dst, op := op, type := ty, pos := ps, after := af, guard := none } :: rest) m w) :
    Gd P n Z ops rest { dst := dst, op := op, type := ty, pos := ps, after := af, guard := some (j, want) } m w g want := fun hj hv => U_want (hj _ _ rfl) hv h
theorem Gd_skipT {d : Nat} {op : Op} {ty : TypeId} {ps : String} {af : Array Edge} {j g : Nat} (hd : Nat.blt d n = true)
    (h : U P n Z ops rest ((d, undef) :: m) w) :
    Gd P n Z ops rest { dst := some d, op := op, type := ty, pos := ps, after := af, guard := some (j, false) } m w g true := fun hj hv => U_unwant (hj _ _ rfl) hv rfl hd h
theorem Gd_skipF {d : Nat} {op : Op} {ty : TypeId} {ps : String} {af : Array Edge} {j g : Nat} (hd : Nat.blt d n = true)
    (h : U P n Z ops rest ((d, undef) :: m) w) :
    Gd P n Z ops rest { dst := some d, op := op, type := ty, pos := ps, after := af, guard := some (j, true) } m w g false := fun hj hv => U_unwant (hj _ _ rfl) hv rfl hd h

theorem Gd_some {α : Type} {v : α} {o : Oper} {g : Nat} (h : Gd P n Z ops rest o m w g false) : Gd P n Z ops rest o m w g (Option.isNone (some v)) := h
theorem Gd_none {α : Type} {o : Oper} {g : Nat} (h : Gd P n Z ops rest o m w g true) : Gd P n Z ops rest o m w g (Option.isNone (none : Option α)) := h

theorem Gd_nt {o : Oper} {g : Nat} (h : Gd P n Z ops rest o m w g false) : Gd P n Z ops rest o m w g (!true) := h
theorem Gd_nf {o : Oper} {g : Nat} (h : Gd P n Z ops rest o m w g true) : Gd P n Z ops rest o m w g (!false) := h

/-- What a slot holds is decided. -/
theorem U_split {g : Nat} {p : Prop} [Decidable p] (hv : look m g = some (.bool (decide p))) (ht : p → U P n Z ops rest ((g, .bool true) :: m) w) (hf : ¬ p → U P n Z ops rest ((g, .bool false) :: m) w) : U P n Z ops rest m w := by
  have hs : ∀ b, decide p = b → ∀ i v, look ((g, .bool b) :: m) i = some v → look m i = some v := by
    intro b hb i v h
    simp only [look] at h
    cases hgi : Nat.beq g i with
    | true =>
      rw [hgi] at h
      have : g = i := by simpa using hgi
      subst this
      rw [hv, hb]
      exact h
    | false => rw [hgi] at h; exact h
  by_cases hp : p
  · exact fun a ha => ht hp a (ha.less (hs true (decide_eq_true hp)))
  · exact fun a ha => hf hp a (ha.less (hs false (decide_eq_false hp)))
theorem U_splitB {g : Nat} {p : Bool} (hv : look m g = some (.bool p)) (ht : p = true → U P n Z ops rest ((g, .bool true) :: m) w) (hf : p = false → U P n Z ops rest ((g, .bool false) :: m) w) : U P n Z ops rest m w := by
  have hs : ∀ i v, look ((g, .bool p) :: m) i = some v → look m i = some v := by
    intro i v h
    simp only [look] at h
    cases hgi : Nat.beq g i with
    | true =>
      rw [hgi] at h
      have : g = i := by simpa using hgi
      subst this
      rw [hv]
      exact h
    | false => rw [hgi] at h; exact h
  cases p
  · exact fun a ha => hf rfl a (ha.less hs)
  · exact fun a ha => ht rfl a (ha.less hs)
theorem Gd_p {g : Nat} {o : Oper} {p : Prop} [Decidable p] (ht : p → U P n Z ops (o :: rest) ((g, .bool true) :: m) w) (hf : ¬ p → U P n Z ops (o :: rest) ((g, .bool false) :: m) w) : Gd P n Z ops rest o m w g (decide p) :=
  fun _ hv => U_split hv ht hf
theorem Gd_b {g : Nat} {o : Oper} {b : Bool} (ht : b = true → U P n Z ops (o :: rest) ((g, .bool true) :: m) w) (hf : b = false → U P n Z ops (o :: rest) ((g, .bool false) :: m) w) : Gd P n Z ops rest o m w g b :=
  fun _ hv => U_splitB hv ht hf
end

/-! ### Calls -/
def Ret (G : Value → World → Prop) : Ending → World → Prop := fun e w => ∃ v, e = .returned v ∧ G v w

theorem ret_of {P : Program} {g : FuncId} {vs : Array Value} {w : World} {v : Value} {Q : World → Prop} (h : Calls P g vs w (fun e w' => e = .returned v ∧ Q w')) : Calls P g vs w (Ret fun r w' => r = v ∧ Q w') :=
  h.mono fun e w' ⟨he, hw⟩ => ⟨v, he, rfl, hw⟩

section
variable {P : Program} {f : FuncId} {R : Ending → World → Prop} {n : Nat} {k : List Item} {m : Fm} {Z : Act → World → Prop} {ops : Array Oper} {rest : List Oper} {w : World}

theorem U_call {d : Nat} {xs : List Operand} {ats : Array TypeId} {ty : TypeId} {ps : String} {af : Array Edge} {g : FuncId} {vs : List Value} {G : Value → World → Prop} (hvs : evs m xs = some vs) (hd : Nat.blt d n = true)
    (hcall : ∀ w, (callFunc g vs.toArray).run P w = .ok (.enter g vs.toArray) w) (hc : Calls P g vs.toArray w (Ret G)) (h : ∀ v w', G v w' → U P n Z ops rest ((d, v) :: m) w') :
    U P n Z ops ({ dst := some d, op := .call { callee := .value (.func g), args := xs.toArray, argTypes := ats }, type := ty, pos := ps, after := af, guard := none } :: rest) m w := by
  intro a ha
  refine wpList_plain rfl fun K hK => ?_
  unfold Oper.wp
  have hr : (execOp a.eval { dst := some d, op := .call { callee := .value (.func g), args := xs.toArray, argTypes := ats }, type := ty, pos := ps, after := af, guard := none }).run P w = .ok (.enter g vs.toArray) w := by
    simp only [execOp, resolve, Deferred.ofValue, Act.eval, Sem.run_bind, Sem.run_pure, Result.andThen_ok, invoke, List.map_toArray, ha.evals hvs]
    simpa using hcall w
  rw [hr, Oper.upon_enter]
  refine hc.mono ?_
  rintro e w' ⟨v, rfl, hG⟩
  exact hK _ _ (h v w' hG _ (ha.put v hd))

theorem U_call0 {xs : List Operand} {ats : Array TypeId} {ty : TypeId} {ps : String} {af : Array Edge} {g : FuncId} {vs : List Value} {G : Value → World → Prop} (hvs : evs m xs = some vs)
    (hcall : ∀ w, (callFunc g vs.toArray).run P w = .ok (.enter g vs.toArray) w) (hc : Calls P g vs.toArray w (Ret G)) (h : ∀ v w', G v w' → U P n Z ops rest m w') :
    U P n Z ops ({ dst := none, op := .call { callee := .value (.func g), args := xs.toArray, argTypes := ats }, type := ty, pos := ps, after := af, guard := none } :: rest) m w := by
  intro a ha
  refine wpList_plain rfl fun K hK => ?_
  unfold Oper.wp
  have hr : (execOp a.eval { dst := none, op := .call { callee := .value (.func g), args := xs.toArray, argTypes := ats }, type := ty, pos := ps, after := af, guard := none }).run P w = .ok (.enter g vs.toArray) w := by
    simp only [execOp, resolve, Deferred.ofValue, Act.eval, Sem.run_bind, Sem.run_pure, Result.andThen_ok, invoke, List.map_toArray, ha.evals hvs]
    simpa using hcall w
  rw [hr, Oper.upon_enter]
  refine hc.mono ?_
  rintro e w' ⟨v, rfl, hG⟩
  exact hK _ _ (h v w' hG _ (ha.put_none v))
end
end Go.Proofs.YtoefhdaenaiomaaDoor
