/- Regions whose order is open: those that only read, and those that end in one writing operation (number d) for which all others are waited. -/
import Derived.Test.YtoefhdaenaiomaaDoorSlices
import Derived.OrdersHeld
import Derived.Deep.Quiet
import Derived.KernelRfl
import Derived.StillTail
namespace Go.Proofs.YtoefhdaenaiomaaDoor
open Go
set_option maxRecDepth 20000

/-- Worlds that are w but for some draws. -/
def Drew (w : World) : World → Prop := fun w' => ∃ n, w' = w.drewN n

theorem Drew.heap {w w' : World} (h : Drew w w') : w'.heap = w.heap := by
  obtain ⟨n, rfl⟩ := h
  rfl
theorem Drew.refl (w : World) : Drew w w := ⟨0, rfl⟩
theorem Drew.tr {a b c : World} (h : Drew a b) (k : Drew b c) : Drew a c := by
  obtain ⟨n, rfl⟩ := h
  obtain ⟨n', rfl⟩ := k
  exact ⟨n + n', by simp [World.drewN, Nat.add_assoc]⟩
theorem Drew.kept {w w' : World} (h : Drew w w') (F : Nat → Prop) : Kept F w w' := by
  obtain ⟨n, rfl⟩ := h
  exact ⟨rfl, rfl, rfl, Nat.le_refl _, fun _ _ _ => rfl⟩
theorem Drew.cell {w w' : World} (h : Drew w w') (p : Addr) : w'.cell? p = w.cell? p := by
  obtain ⟨n, rfl⟩ := h
  rfl

section
variable {P : Program} {f : FuncId} {R : Ending → World → Prop} {n : Nat} {k : List Item} {m : Fm} {ops : Array Oper} {rest : List Oper} {w : World} {C : World → Prop}

/-! ### Reads alone: one walk in the text's order -/
def V (P : Program) (n : Nat) (Z : Act → Prop) (C : World → Prop) (ops : Array Oper) (rest : List Oper) (m : Fm) : Prop :=
  ∀ a, Fits a n m → wpQuiet P ops C Z rest a

theorem T_quiet {id : Nat} {l : List Oper} (hm : P.follows .mixedOrders = true) (hB : Region.lexB .any l.toArray = true) (h : V P n (fun a' => ∀ w', Drew w w' → S P f R k a' w') (Drew w) l.toArray l m) : T P f R n (.code (.region id l.toArray true) :: k) m w :=
  fun a ha => S_of_wp (wp_region_quiet_lit hm hB (by
    have := h a ha
    have mono : ∀ (l' : List Oper) (a : Act), wpQuiet P l.toArray (Drew w) (fun a' => ∀ w', Drew w w' → S P f R k a' w') l' a →
        wpQuiet P l.toArray (fun w' => ∃ n, w' = w.drewN n) (fun a' => ∀ w', (∃ n, w' = w.drewN n) → Exit.normal = Exit.normal ∧ S P f R k a' w') l' a := by
      intro l'
      induction l' with
      | nil => intro a h w' hw; exact ⟨rfl, h w' hw⟩
      | cons o r ih =>
        intro a h
        unfold wpQuiet at h ⊢
        split
        · rename_i hw
          rw [if_pos hw] at h
          exact Oper.quiet_mono (fun a h => ih a h) h
        · rename_i hw
          rw [if_neg hw] at h
          exact ih _ h
    exact mono l a this))

/-- The first N operations but read; the others come up one behind the other. -/
theorem T_tail (N : Nat) {id : Nat} {l : List Oper} (hm : P.follows .mixedOrders = true) (hB : Region.lexTailB .any l.toArray N = true)
    (h : ∀ w1, Drew w w1 → V P n (fun a' => wpList P l.toArray (fun e a' w' => e = .normal ∧ S P f R k a' w') (l.drop N) a' w1) (fun w' => w' = w1) l.toArray (l.take N) m) : T P f R n (.code (.region id l.toArray true) :: k) m w := by
  intro a ha
  refine S_of_wp (wp_region_still_tail N hm hB ?_)
  have h1 := h { w with drawn := w.drawn + 1 } ⟨1, rfl⟩ a ha
  have still : ∀ (w1 : World) (Z : Act → Prop) (l' : List Oper) (a : Act), wpQuiet P l.toArray (fun w' => w' = w1) Z l' a → wpStill P l.toArray w1 Z l' a := by
    intro w1 Z l'
    induction l' with
    | nil => intro a h; exact h
    | cons o r ih =>
      intro a h
      unfold wpQuiet at h
      unfold wpStill
      split
      · rename_i hw
        rw [if_pos hw] at h
        obtain ⟨v, h1, h2⟩ := h
        have h3 := h1 w1 rfl
        unfold Oper.quietAt at h3
        unfold Oper.still
        generalize (execOp a.eval o).run P w1 = rs at h3
        cases rs with
        | ok nx w' =>
          cases nx <;> simp only [Oper.quietUpon] at h3 <;> simp only [Oper.stillUpon]
          case value u => obtain ⟨e1, e2⟩ := h3; exact ⟨e1, by rw [e2]; exact ih _ h2⟩
          case skip => obtain ⟨e1, e2⟩ := h3; exact ⟨e1, by rw [← e2]; exact ih _ h2⟩
          case enter g xs => obtain ⟨e1, hc⟩ := h3; exact ⟨e1, v, hc, ih _ h2⟩
        | halt x w' => simp only [Oper.quietUpon] at h3
      · rename_i hw
        rw [if_neg hw] at h
        exact ih _ h
  exact still _ _ _ _ h1

theorem V_nilQ (h : ∀ w', C w' → T P f R n k m w') : V P n (fun a' => ∀ w', C w' → S P f R k a' w') C ops [] m := fun a ha => wpQuiet_nil fun w' hw => h w' hw a ha
theorem V_nilT {w1 : World} {tl : List Oper} (h : U P n (S P f R k) ops tl m w1) : V P n (fun a' => wpList P ops (fun e a' w' => e = .normal ∧ S P f R k a' w') tl a' w1) C ops [] m := fun a ha => wpQuiet_nil (h a ha)

variable {Z : Act → Prop}

theorem V_run {o : Oper} {v : Value} {d : Nat} (hg : o.guard = none) (hdst : o.dst = some d) (hd : Nat.blt d n = true)
    (hr : ∀ a, Fits a n m → ∀ w, C w → (execOp a.eval o).run P w = .ok (.value v) w) (h : V P n Z C ops rest ((d, v) :: m)) : V P n Z C ops (o :: rest) m := by
  intro a ha
  unfold wpQuiet
  rw [if_pos (by simp [Region.wanted, hg])]
  refine ⟨v, fun w hw => ?_, ?_⟩
  · unfold Oper.quietAt
    rw [hr a ha w hw]
    exact ⟨rfl, rfl⟩
  · rw [hdst]
    exact h _ (ha.put v hd)

variable {d : Nat} {ty : TypeId} {ps : String} {af : Array Edge}

theorem V_pure (E : Env P) {op : Op} {v : Value} (h : pv E.ty E.fld m op = some v) (hd : Nat.blt d n = true) (hn : V P n Z C ops rest ((d, v) :: m)) :
    V P n Z C ops ({ dst := some d, op := op, type := ty, pos := ps, after := af, guard := none } :: rest) m :=
  V_run rfl rfl hd (fun _ ha _ _ => run_pv E ha h _ _ _ _ _) hn
theorem V_ar {bop : BinOp} {t t2 : TypeId} {x y : Operand} {kd : IntKind} {p q r : Int} (hx : ev m x = some (.int kd p)) (hy : ev m y = some (.int kd q)) (hr : arOp bop p q = some r) (hw : kd.wrap r = r) (hd : Nat.blt d n = true)
    (hn : V P n Z C ops rest ((d, .int kd r) :: m)) :
    V P n Z C ops ({ dst := some d, op := .binOp bop t x y t2, type := ty, pos := ps, after := af, guard := none } :: rest) m :=
  V_run rfl rfl hd (fun a ha w _ => by simp [execOp, ha.eval hx, ha.eval hy, eqGuard_int, run_ar _ _ _ _ _ hr, hw]) hn
theorem V_want {dst : Option Tmp} {op : Op} {j g : Nat} {want : Bool} (hj : (ops[j]?).bind (·.dst) = some g) (hv : look m g = some (.bool want))
    (h : V P n Z C ops ({ dst := dst, op := op, type := ty, pos := ps, after := af, guard := none } :: rest) m) :
    V P n Z C ops ({ dst := dst, op := op, type := ty, pos := ps, after := af, guard := some (j, want) } :: rest) m := by
  intro a ha
  have hy : yielded ops a.tmps j = some want := by
    unfold yielded
    rw [hj]
    simp [ha.get g _ hv]
  have := h a ha
  unfold wpQuiet at this ⊢
  rw [if_pos (by simp [Region.wanted])] at this
  rw [if_pos (by simp [Region.wanted, hy])]
  exact this
theorem V_unwant {op : Op} {j g : Nat} {want b : Bool} (hj : (ops[j]?).bind (·.dst) = some g) (hv : look m g = some (.bool b)) (hb : (b == want) = false) (hd : Nat.blt d n = true)
    (h : V P n Z C ops rest ((d, undef) :: m)) :
    V P n Z C ops ({ dst := some d, op := op, type := ty, pos := ps, after := af, guard := some (j, want) } :: rest) m := by
  intro a ha
  have hy : yielded ops a.tmps j = some b := by
    unfold yielded
    rw [hj]
    simp [ha.get g _ hv]
  unfold wpQuiet
  rw [if_neg (by simp only [Region.wanted, hy]; intro h; have h2 : (some b == some want) = (b == want) := rfl; rw [h2, hb] at h; cases h)]
  exact h _ (ha.put undef hd)
def GdV (P : Program) (n : Nat) (Z : Act → Prop) (C : World → Prop) (ops : Array Oper) (rest : List Oper) (o : Oper) (m : Fm) (g : Nat) (b : Bool) : Prop :=
  (∀ j want, o.guard = some (j, want) → (ops[j]?).bind (·.dst) = some g) → look m g = some (.bool b) → V P n Z C ops (o :: rest) m
theorem V_guard {dst : Option Tmp} {op : Op} {j g : Nat} {want b : Bool} (hj : (ops[j]?).bind (·.dst) = some g) (hv : look m g = some (.bool b))
    (h : GdV P n Z C ops rest { dst := dst, op := op, type := ty, pos := ps, after := af, guard := some (j, want) } m g b) :
    V P n Z C ops ({ dst := dst, op := op, type := ty, pos := ps, after := af, guard := some (j, want) } :: rest) m :=
  h (fun _ _ e => by injection e with e; injection e with e1 e2; rw [← e1]; exact hj) hv
theorem GdV_want {dst : Option Tmp} {op : Op} {j g : Nat} {want : Bool}
    (h : V P n Z C ops ({ dst := dst, op := op, type := ty, pos := ps, after := af, guard := none } :: rest) m) :
    GdV P n Z C ops rest { dst := dst, op := op, type := ty, pos := ps, after := af, guard := some (j, want) } m g want := fun hj hv => V_want (hj _ _ rfl) hv h
theorem GdV_skipT {op : Op} {j g : Nat} (hd : Nat.blt d n = true)
    (h : V P n Z C ops rest ((d, undef) :: m)) :
    GdV P n Z C ops rest { dst := some d, op := op, type := ty, pos := ps, after := af, guard := some (j, false) } m g true := fun hj hv => V_unwant (hj _ _ rfl) hv rfl hd h
theorem GdV_skipF {op : Op} {j g : Nat} (hd : Nat.blt d n = true)
    (h : V P n Z C ops rest ((d, undef) :: m)) :
    GdV P n Z C ops rest { dst := some d, op := op, type := ty, pos := ps, after := af, guard := some (j, true) } m g false := fun hj hv => V_unwant (hj _ _ rfl) hv rfl hd h
theorem V_split {g : Nat} {p : Prop} [Decidable p] (hv : look m g = some (.bool (decide p))) (ht : p → V P n Z C ops rest ((g, .bool true) :: m)) (hf : ¬ p → V P n Z C ops rest ((g, .bool false) :: m)) : V P n Z C ops rest m := by
  have hs : ∀ b, decide p = b → ∀ i v, look ((g, .bool b) :: m) i = some v → look m i = some v := by
    intro b hb i v h
    simp only [look] at h
    cases hgi : Nat.beq g i with
    | true =>
      rw [hgi] at h
      have : g = i := by simpa using hgi
      subst this
      rw [hv, hb]
      exact h
    | false => rw [hgi] at h; exact h
  by_cases hp : p
  · exact fun a ha => ht hp a (ha.less (hs true (decide_eq_true hp)))
  · exact fun a ha => hf hp a (ha.less (hs false (decide_eq_false hp)))
theorem GdV_p {g : Nat} {o : Oper} {p : Prop} [Decidable p] (ht : p → V P n Z C ops (o :: rest) ((g, .bool true) :: m)) (hf : ¬ p → V P n Z C ops (o :: rest) ((g, .bool false) :: m)) : GdV P n Z C ops rest o m g (decide p) :=
  fun _ hv => V_split hv ht hf
theorem V_load (E : Env P) {t : TypeId} {x : Operand} {p : Addr} {v : Value} {de : TypeDesc} {s : Nat} (ht : E.ty t = some (de, s)) (hn : notAgg de = true) (hx : ev m x = some (.pointer (some p))) (hc : ∀ w, C w → w.cell? p = some v) (hd : Nat.blt d n = true)
    (h : V P n Z C ops rest ((d, v) :: m)) : V P n Z C ops ({ dst := some d, op := .load t x, type := ty, pos := ps, after := af, guard := none } :: rest) m :=
  V_run rfl rfl hd (fun a ha w hw => by simp [execOp, ha.eval hx, Instr.loadAt, Instr.sureAddr, run_loadVar_cell (E.ok _ _ _ ht).1 hn (hc w hw)]) h
theorem V_loadB (E : Env P) (hC : ∀ w', C w' → w'.heap = w.heap) {t : TypeId} {x : Operand} {b o : Nat} {cs : List Value} {bt : TypeId} {v : Value} {de : TypeDesc} {s : Nat} (hb : Blk w b cs bt) (ht : E.ty t = some (de, s)) (hn : notAgg de = true) (hx : ev m x = some (.pointer (some ⟨b, o, none⟩))) (hc : cs[o]? = some v) (hd : Nat.blt d n = true)
    (h : V P n Z C ops rest ((d, v) :: m)) : V P n Z C ops ({ dst := some d, op := .load t x, type := ty, pos := ps, after := af, guard := none } :: rest) m :=
  V_load E ht hn hx (fun w' hw => by rw [World.cell?_of_block (w := w) (w' := w') (by rw [hC w' hw]), hb.cell]; exact hc) hd h
theorem V_idx (E : Env P) {G : Nat → Prop} {t e : TypeId} {x y : Operand} {v u : Value} {cs : List Value} {N se : Nat} {i : Int} {kd : IntKind} {de : TypeDesc} (hs : Sl w G v 1 N cs) (hu : E.ty t = some (.slice e, se)) (he : E.ty e = some (de, 1)) (hx : ev m x = some v) (hy : ev m y = some (.int kd i)) (h0 : 0 ≤ i) (hl : i < N) (hc : cs[i.toNat]? = some u) (hd : Nat.blt d n = true)
    (h : ∀ p, w.cell? p = some u → V P n Z C ops rest ((d, .pointer (some p)) :: m)) : V P n Z C ops ({ dst := some d, op := .indexAddr t x y, type := ty, pos := ps, after := af, guard := none } :: rest) m := by
  obtain ⟨_, _, A, c, rfl, _, h5⟩ := hs
  rcases h5 with rfl | ⟨b, o, rfl, _, _, hseg⟩
  · exfalso
    simp at hl
    omega
  · have hcell := hseg _ _ hc
    refine V_run rfl rfl hd (fun a ha w' _ => ?_) (h ⟨b, o + i.toNat, none⟩ hcell)
    have hr := run_indexAt_slice (P := P) (w := w') (kd := kd) (b := b) (o := o) (cap := c) (E.ok _ _ _ hu).1 (E.ok _ _ _ he).2 h0 hl
    rw [Nat.mul_one] at hr
    simp only [execOp, ha.eval hx, ha.eval hy, Sem.run_bind, hr, Result.andThen_ok, Sem.run_pure]
theorem V_loadA (E : Env P) (hC : ∀ w', C w' → w'.heap = w.heap) {t : TypeId} {x : Operand} {b o : Nat} {seg : List Value} {de : TypeDesc} {s : Nat} (hs : Seg w b o seg) (ht : E.ty t = some (de, s)) (hn : notAgg de = false) (hx : ev m x = some (.pointer (some ⟨b, o, none⟩))) (hl : seg.length = s) (hd : Nat.blt d n = true)
    (h : V P n Z C ops rest ((d, .agg seg.toArray) :: m)) : V P n Z C ops ({ dst := some d, op := .load t x, type := ty, pos := ps, after := af, guard := none } :: rest) m :=
  V_run rfl rfl hd (fun a ha w' hw => by
    have hs' : Seg w' b o seg := fun j v hj => (World.cell?_of_block (w := w) (w' := w') (by rw [hC w' hw])).trans (hs j v hj)
    simp [execOp, ha.eval hx, Instr.loadAt, Instr.sureAddr, run_loadVar_seg (E.ok _ _ _ ht).1 hn (E.ok _ _ _ ht).2 hs' hl]) h
theorem V_indexS (E : Env P) {t e : TypeId} {x y : Operand} {b o len cap s se : Nat} {i : Int} {kd : IntKind} {de : TypeDesc} {o' : Nat} (hu : E.ty t = some (.slice e, se)) (he : E.ty e = some (de, s)) (hx : ev m x = some (.slice (some ⟨b, o, none⟩) len cap)) (hy : ev m y = some (.int kd i)) (h0 : 0 ≤ i) (hl : i < len) (ho : o + i.toNat * s = o') (hd : Nat.blt d n = true)
    (h : V P n Z C ops rest ((d, .pointer (some ⟨b, o', none⟩)) :: m)) : V P n Z C ops ({ dst := some d, op := .indexAddr t x y, type := ty, pos := ps, after := af, guard := none } :: rest) m :=
  V_run rfl rfl hd (fun a ha w' _ => by
    have hr := run_indexAt_slice (P := P) (w := w') (kd := kd) (b := b) (o := o) (cap := cap) (E.ok _ _ _ hu).1 (E.ok _ _ _ he).2 h0 hl
    rw [ho] at hr
    simp only [execOp, ha.eval hx, ha.eval hy, Sem.run_bind, hr, Result.andThen_ok, Sem.run_pure]) h
theorem V_call {xs : List Operand} {ats : Array TypeId} {g : FuncId} {vs : List Value} {v : Value} (hvs : evs m xs = some vs) (hd : Nat.blt d n = true)
    (hcall : ∀ w, (callFunc g vs.toArray).run P w = .ok (.enter g vs.toArray) w) (hc : ∀ w1, Drew w w1 → Calls P g vs.toArray w1 (fun e w2 => e = .returned v ∧ Drew w1 w2)) (h : V P n Z (Drew w) ops rest ((d, v) :: m)) :
    V P n Z (Drew w) ops ({ dst := some d, op := .call { callee := .value (.func g), args := xs.toArray, argTypes := ats }, type := ty, pos := ps, after := af, guard := none } :: rest) m := by
  intro a ha
  unfold wpQuiet
  rw [if_pos (by simp [Region.wanted])]
  refine ⟨v, fun w1 hw1 => ?_, h _ (ha.put v hd)⟩
  unfold Oper.quietAt
  have hr : (execOp a.eval { dst := some d, op := .call { callee := .value (.func g), args := xs.toArray, argTypes := ats }, type := ty, pos := ps, after := af, guard := none }).run P w1 = .ok (.enter g vs.toArray) w1 := by
    simp only [execOp, resolve, Deferred.ofValue, Act.eval, Sem.run_bind, Sem.run_pure, Result.andThen_ok, invoke, List.map_toArray, ha.evals hvs]
    simpa using hcall w1
  rw [hr]
  exact ⟨rfl, (hc w1 hw1).mono fun e w2 ⟨he, h2⟩ => ⟨he, hw1.tr h2⟩⟩
end

/-! ### One last operation -/
/-- Operation j waits for i, by a chain of edges. -/
def waitsB (ops : Array Oper) (i : Nat) : Nat → Nat → Bool
  | 0, _ => false
  | fu + 1, j => match ops[j]? with
    | some o => o.after.any fun e => Region.binds .any e && (e.on == i || waitsB ops i fu e.on)
    | none => false

def Closed (ops : Array Oper) (listed : Array Bool) : Prop :=
  ∀ j oj, ops[j]? = some oj → listed.getD j false = true → ∀ e ∈ oj.after, Region.binds .any e = true → listed.getD e.on false = true

section
variable {P : Program} {ops : Array Oper} {Q : Exit → Act → World → Prop} {S0 : World → Prop} {d : Nat}

theorem Closed.start (N : Nat) : Closed ops (Array.replicate N false) := by
  intro j oj _ hl
  exfalso
  rcases Nat.lt_or_ge j N with h | h <;> simp [h] at hl

theorem Closed.put {listed : Array Bool} {i : Nat} (h : Closed ops listed) (hi : i ∈ Region.ready .any ops listed) : Closed ops (listed.setIfInBounds i true) := by
  obtain ⟨_, oi, hoi, hall⟩ := mem_ready.1 hi
  intro j oj hj hl e he hb
  by_cases hij : i = j
  · subst hij
    obtain rfl : oj = oi := Option.some.inj (hj.symm.trans hoi)
    exact getD_set_true (hall e he hb)
  · rw [getD_set_ne false hij] at hl
    exact getD_set_true (h j oj hj hl e he hb)

theorem waits_listed {listed : Array Bool} {i : Nat} (hc : Closed ops listed) : ∀ (fu j : Nat), waitsB ops i fu j = true → listed.getD j false = true → listed.getD i false = true
  | 0, _, h, _ => by simp [waitsB] at h
  | fu + 1, j, h, hl => by
    unfold waitsB at h
    split at h
    · rename_i o ho
      obtain ⟨e, he, h1⟩ := Array.any_eq_true'.1 h
      simp only [Bool.and_eq_true, Bool.or_eq_true, beq_iff_eq] at h1
      have hle := hc j o ho hl e he h1.1
      rcases h1.2 with h2 | h2
      · rw [← h2]; exact hle
      · exact waits_listed hc fu e.on h2 hle
    · cases h

theorem waits_not_ready {listed : Array Bool} {i j fu : Nat} (hc : Closed ops listed) (hr : waitsB ops i fu j = true) (hun : listed.getD i true = false) : j ∉ Region.ready .any ops listed := by
  intro hd
  obtain ⟨_, o, ho, hall⟩ := mem_ready.1 hd
  have hi : listed.getD i false = true := by
    cases fu with
    | zero => simp [waitsB] at hr
    | succ n =>
      unfold waitsB at hr
      rw [ho] at hr
      obtain ⟨e, he, h1⟩ := Array.any_eq_true'.1 hr
      simp only [Bool.and_eq_true, Bool.or_eq_true, beq_iff_eq] at h1
      have hle := hall e he h1.1
      rcases h1.2 with h2 | h2
      · rw [← h2]; exact hle
      · exact waits_listed hc n e.on h2 hle
  rcases Nat.lt_or_ge i listed.size with h' | h'
  · simp [h'] at hun hi
    rw [hun] at hi
    cases hi
  · simp [Array.getElem?_eq_none h'] at hun

/-- Whatever order is picked; S0 holds behind every operation but the last one, d. -/
def wpAnyL (P : Program) (ops : Array Oper) (Q : Exit → Act → World → Prop) (S0 : World → Prop) (d : Nat) : Nat → Array Bool → Act → World → Prop
  | 0, listed, a, w => Region.ready .any ops listed = [] ∧ Q .normal a w
  | fuel + 1, listed, a, w =>
    (Region.ready .any ops listed = [] → Q .normal a w) ∧
    ∀ i ∈ Region.ready .any ops listed, wpOp P ops Q i (fun a' w' => (i ≠ d → S0 w') ∧ wpAnyL P ops Q S0 d fuel (listed.setIfInBounds i true) a' w') a w

theorem wpAny_of_L : ∀ (fuel : Nat) (listed : Array Bool) (a : Act) (w : World), wpAnyL P ops Q S0 d fuel listed a w → wpAny P .any ops Q fuel listed a w
  | 0, _, _, _, h => h
  | fuel + 1, _, _, _, h => ⟨h.1, fun i hi => wpOp_mono (fun a' w' h' => wpAny_of_L fuel _ a' w' h'.2) (h.2 i hi)⟩

theorem wpAnyL_first {i : Nat} {oi : Oper} {v : Value} {fu : Nat} (hi : ops[i]? = some oi) (hsel : ∀ (j : Nat) (o : Oper) cs b, ops[j]? = some o → o.op ≠ .select cs b)
    (hQ : ∀ c a w, Q (.panic c) (a.put oi.dst v) w → Q (.panic c) a w) (hid : i ≠ d) (hwt : d < ops.size → waitsB ops i fu d = true) :
    ∀ (fuel : Nat) (listed : Array Bool) (a : Act) (w : World), Closed ops listed →
      (∀ j oj, ops[j]? = some oj → j ≠ i → listed.getD j true = false → (∀ e ∈ oj.after, Region.binds .any e = true → e.on ≠ i) → oi.apart ops oj = true) →
      i ∈ Region.ready .any ops listed → YieldsIf P ops S0 oi v a → S0 w →
      wpAnyL P ops Q S0 d fuel (listed.setIfInBounds i true) (a.put oi.dst v) w → wpAnyL P ops Q S0 d (fuel + 1) listed a w := by
  intro fuel
  induction fuel with
  | zero =>
    intro listed a w _ _ hr hy hS H
    refine ⟨fun h => (by rw [h] at hr; cases hr), fun j hj => ?_⟩
    by_cases hji : j = i
    · subst hji; exact hy.wpOp hi hS ⟨fun _ => hS, H⟩
    · have := ready_mono hj hji
      rw [H.1] at this
      cases this
  | succ fuel ih =>
    intro listed a w hcl hfree hr hy hS H
    refine ⟨fun h => (by rw [h] at hr; cases hr), fun j hj => ?_⟩
    by_cases hji : j = i
    · subst hji; exact hy.wpOp hi hS ⟨fun _ => hS, H⟩
    · have h1 := H.2 j (ready_mono hj hji)
      obtain ⟨hjun, oj, hoj, hall⟩ := mem_ready.1 hj
      have hiun := (mem_ready.1 hr).1
      have hnot : ∀ e ∈ oj.after, Region.binds .any e = true → e.on ≠ i := fun e he hb heq => by
        have h1 := hall e he hb
        rw [heq] at h1
        rcases Nat.lt_or_ge i listed.size with h' | h'
        · simp [h'] at hiun h1; rw [hiun] at h1; cases h1
        · simp [Array.getElem?_eq_none h'] at h1
      have hjd : j ≠ d := fun e => waits_not_ready hcl (hwt (e ▸ (Array.getElem?_eq_some_iff.1 hoj).1)) hiun (e ▸ hj)
      have h2 := wpOp_putIf hoj (hfree j oj hoj hji hjun hnot) (fun cs b => hsel i oi cs b hi) (fun cs b => hsel j oj cs b hoj) hQ hy h1
      have hfree' : ∀ k ok, ops[k]? = some ok → k ≠ i → (listed.setIfInBounds j true).getD k true = false →
          (∀ e ∈ ok.after, Region.binds .any e = true → e.on ≠ i) → oi.apart ops ok = true := fun k ok hk hki hun hno => by
        refine hfree k ok hk hki ?_ hno
        by_cases hjk : j = k
        · subst hjk; exact hjun
        · rw [getD_set_ne true hjk] at hun; exact hun
      refine wpOp_mono (fun a' w' h3 => ⟨h3.2.1, ih (listed.setIfInBounds j true) a' w' (hcl.put hj) hfree' (ready_mono hr (Ne.symm hji)) h3.1 (h3.2.1 hjd) ?_⟩) h2
      rw [Array.setIfInBounds_comm _ _ hji]
      exact h3.2.2
end

section
variable {P : Program} {f : FuncId} {R : Ending → World → Prop} {n : Nat} {k : List Item} {m : Fm} {ops : Array Oper} {w : World} {S0 : World → Prop} {d fuel : Nat} {listed : Array Bool}

def L (P : Program) (f : FuncId) (R : Ending → World → Prop) (n : Nat) (k : List Item) (ops : Array Oper) (S0 : World → Prop) (d fuel : Nat) (listed : Array Bool) (m : Fm) (w : World) : Prop :=
  Closed ops listed → ∀ a, Fits a n m → wpAnyL P ops (fun e a' w' => e = .normal ∧ S P f R k a' w') S0 d fuel listed a w

theorem L_begin {id N : Nat} {l : List Oper} (S0 : World → Prop) (d : Nat) (hm : P.follows .mixedOrders = true) (hN : l.length = N) (h : ∀ w1, Drew w w1 → L P f R n k l.toArray S0 d N (Array.replicate N false) m w1) : T P f R n (.code (.region id l.toArray true) :: k) m w := by
  subst hN
  intro a ha
  refine S_of_wp (wp_region_any hm (wpAny_of_L (S0 := S0) (d := d) _ _ _ _ ?_))
  have := h { w with drawn := w.drawn + 1 } ⟨1, rfl⟩ (by simpa using Closed.start _) a ha
  simpa using this

theorem L_take (i : Nat) {o : Oper} {v : Value} {d' : Nat} (hi : ops[i]? = some o) (hs : Region.noSelect ops = true) (hf : Region.free .any ops listed i = true) (hr : (Region.ready .any ops listed).contains i = true)
    (hid : (Nat.beq i d || (decide (d < ops.size) && !waitsB ops i ops.size d)) = false) (hS : S0 w) (hg : o.guard = none) (hdst : o.dst = some d') (hd : Nat.blt d' n = true)
    (hy : ∀ a, Fits a n m → ∀ w', S0 w' → (execOp a.eval o).run P w' = .ok (.value v) w') (h : L P f R n k ops S0 d fuel (listed.setIfInBounds i true) ((d', v) :: m) w) : L P f R n k ops S0 d (fuel + 1) listed m w := by
  intro hcl a ha
  simp only [Bool.or_eq_false_iff] at hid
  have hne : i ≠ d := fun e => by rw [e] at hid; simp at hid
  have hrr : i ∈ Region.ready .any ops listed := by simpa using hr
  have := h (hcl.put hrr) _ (ha.put v hd)
  rw [← hdst] at this
  refine wpAnyL_first (fu := ops.size) hi (Region.noSelect_spec hs) (fun c a w h => by cases h.1) hne (fun hlt => ?_) fuel listed a w hcl (Region.free_spec hi hf) hrr (.inl ⟨by simp [Region.wanted, hg], hy a ha⟩) hS this
  have h2 := hid.2
  simp only [hlt, decide_true, Bool.true_and, Bool.not_eq_false'] at h2
  exact h2

/-- The one that comes up. -/
theorem L_run (i : Nat) {o : Oper} {v : Value} {w' : World} {d' : Nat} (hr : Region.ready .any ops listed = [i]) (hi : ops[i]? = some o) (hg : o.guard = none) (hdst : o.dst = some d') (hd : Nat.blt d' n = true)
    (hrun : ∀ a, Fits a n m → (execOp a.eval o).run P w = .ok (.value v) w') (hS : i ≠ d → S0 w') (h : L P f R n k ops S0 d fuel (listed.setIfInBounds i true) ((d', v) :: m) w') : L P f R n k ops S0 d (fuel + 1) listed m w := by
  intro hcl a ha
  refine ⟨fun h0 => (by rw [hr] at h0; cases h0), fun j hj => ?_⟩
  have hrr := hj
  rw [hr] at hj
  obtain rfl : j = i := by simpa using hj
  unfold wpOp
  rw [hi]
  simp only
  rw [if_pos (by simp [Region.wanted, hg])]
  refine .inl ?_
  unfold Oper.wp
  rw [hrun a ha, Oper.upon_value]
  refine ⟨hS, ?_⟩
  rw [hdst]
  exact h (hcl.put hrr) _ (ha.put v hd)

theorem L_runNone (i : Nat) {o : Oper} {w' : World} (hr : Region.ready .any ops listed = [i]) (hi : ops[i]? = some o) (hg : o.guard = none) (hdst : o.dst = none)
    (hrun : ∀ a, Fits a n m → (execOp a.eval o).run P w = .ok .skip w') (hS : i ≠ d → S0 w') (h : L P f R n k ops S0 d fuel (listed.setIfInBounds i true) m w') : L P f R n k ops S0 d (fuel + 1) listed m w := by
  intro hcl a ha
  refine ⟨fun h0 => (by rw [hr] at h0; cases h0), fun j hj => ?_⟩
  have hrr := hj
  rw [hr] at hj
  obtain rfl : j = i := by simpa using hj
  unfold wpOp
  rw [hi]
  simp only
  rw [if_pos (by simp [Region.wanted, hg])]
  refine .inl ?_
  unfold Oper.wp
  rw [hrun a ha, Oper.upon_skip]
  refine ⟨hS, ?_⟩
  rw [hdst]
  exact h (hcl.put hrr) _ (ha.put_none undef)

/-- The one that comes up, by the rules of the closed order. -/
def LZ (P : Program) (f : FuncId) (R : Ending → World → Prop) (k : List Item) (ops : Array Oper) (S0 : World → Prop) (d fuel i : Nat) (listed : Array Bool) : Act → World → Prop := fun a w =>
  (i ≠ d → S0 w) ∧ wpAnyL P ops (fun e a' w' => e = .normal ∧ S P f R k a' w') S0 d fuel listed a w
theorem L_op (i : Nat) {o : Oper} (hr : Region.ready .any ops listed = [i]) (hi : ops[i]? = some o) (h : Closed ops (listed.setIfInBounds i true) → U P n (LZ P f R k ops S0 d fuel i (listed.setIfInBounds i true)) ops [o] m w) : L P f R n k ops S0 d (fuel + 1) listed m w := by
  intro hcl a ha
  refine ⟨fun h0 => (by rw [hr] at h0; cases h0), fun j hj => ?_⟩
  have hrr := hj
  rw [hr] at hj
  obtain rfl : j = i := by simpa using hj
  have := h (hcl.put hrr) a ha
  unfold wpList at this
  unfold wpOp
  rw [hi]
  simp only
  split
  · rename_i hw
    rw [if_pos hw] at this
    rcases this with this | this
    · refine .inl ?_
      unfold Oper.wp at *
      generalize (execOp a.eval o).run P w = rs at *
      cases rs with
      | ok nx w' =>
        cases nx <;> simp only [Oper.upon] at this ⊢ <;>
          first
            | exact this.2
            | exact Calls.mono this (fun e w'' he => by cases e <;> first | exact he.2 | exact absurd he.1 (by intro h; cases h) | (obtain ⟨x, y, h⟩ := he; exact absurd h.1 (by intro h; cases h)))
            | exact Rows.mono this (fun _ _ he => he.2)
      | halt x w' => cases x <;> simp only [Oper.upon] at this ⊢ <;> first | exact this | exact absurd this.1 (by intro h; cases h)
    · obtain ⟨_, x, y, h⟩ := this
      exact absurd h.1 (by intro h; cases h)
  · rename_i hw
    rw [if_neg hw] at this
    exact this.2
theorem L_op2 (i j : Nat) {o o2 : Oper} (hr : Region.ready .any ops listed = [i, j]) (hi : ops[i]? = some o) (hj : ops[j]? = some o2) (h : Closed ops (listed.setIfInBounds i true) → U P n (LZ P f R k ops S0 d fuel i (listed.setIfInBounds i true)) ops [o] m w)
    (h2 : Closed ops (listed.setIfInBounds j true) → U P n (LZ P f R k ops S0 d fuel j (listed.setIfInBounds j true)) ops [o2] m w) : L P f R n k ops S0 d (fuel + 1) listed m w := by
  have one : ∀ (i : Nat) (o : Oper), ops[i]? = some o → (Closed ops (listed.setIfInBounds i true) → U P n (LZ P f R k ops S0 d fuel i (listed.setIfInBounds i true)) ops [o] m w) → i ∈ Region.ready .any ops listed →
      Closed ops listed → ∀ a, Fits a n m → wpOp P ops (fun e a' w' => e = .normal ∧ S P f R k a' w') i (fun a' w' => (i ≠ d → S0 w') ∧ wpAnyL P ops (fun e a' w' => e = .normal ∧ S P f R k a' w') S0 d fuel (listed.setIfInBounds i true) a' w') a w := by
    intro i o hi h hrr hcl a ha
    have := h (hcl.put hrr) a ha
    unfold wpList at this
    unfold wpOp
    rw [hi]
    simp only
    split
    · rename_i hw
      rw [if_pos hw] at this
      rcases this with this | this
      · refine .inl ?_
        unfold Oper.wp at *
        generalize (execOp a.eval o).run P w = rs at *
        cases rs with
        | ok nx w' =>
          cases nx <;> simp only [Oper.upon] at this ⊢ <;>
            first
              | exact this.2
              | exact Calls.mono this (fun e w'' he => by cases e <;> first | exact he.2 | exact absurd he.1 (by intro h; cases h) | (obtain ⟨x, y, h⟩ := he; exact absurd h.1 (by intro h; cases h)))
              | exact Rows.mono this (fun _ _ he => he.2)
        | halt x w' => cases x <;> simp only [Oper.upon] at this ⊢ <;> first | exact this | exact absurd this.1 (by intro h; cases h)
      · obtain ⟨_, x, y, h⟩ := this
        exact absurd h.1 (by intro h; cases h)
    · rename_i hw
      rw [if_neg hw] at this
      exact this.2
  intro hcl a ha
  refine ⟨fun h0 => (by rw [hr] at h0; cases h0), fun q hq => ?_⟩
  have hq2 := hq
  rw [hr] at hq
  simp only [List.mem_cons, List.not_mem_nil, or_false] at hq
  rcases hq with rfl | rfl
  · exact one _ _ hi h hq2 hcl a ha
  · exact one _ _ hj h2 hq2 hcl a ha
theorem U_nilL {i : Nat} (hcl : Closed ops listed) (hS : i ≠ d → S0 w) (h : L P f R n k ops S0 d fuel listed m w) : U P n (LZ P f R k ops S0 d fuel i listed) ops [] m w :=
  fun a ha => wpList_nil ⟨rfl, hS, h hcl a ha⟩

theorem L_done (hr : Region.ready .any ops listed = []) (h : T P f R n k m w) : L P f R n k ops S0 d fuel listed m w := by
  intro _ a ha
  cases fuel with
  | zero => exact ⟨hr, rfl, h a ha⟩
  | succ fu => exact ⟨fun _ => ⟨rfl, h a ha⟩, by rw [hr]; simp⟩
end
end Go.Proofs.YtoefhdaenaiomaaDoor
