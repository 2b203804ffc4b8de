/- The same walk inside a fence that lets everything in: for a range over a function, its body, its iterator. -/
import Derived.Test.YtoefhdaenaiomaaDoorBits
import Derived.RangeFuncNested
import Derived.RangeFuncLeaves
import Derived.TacticsIn
namespace Go.Proofs.YtoefhdaenaiomaaDoor
open Go Go.RowKit
set_option maxRecDepth 20000

structure FitsD (a : Act) (n : Nat) (m : Fm) (ds : List Deferred) : Prop where
  fits : Fits { a with defers := [] } n m
  defers : a.defers = ds

theorem FitsD.put {a : Act} {n d : Nat} {m : Fm} {ds : List Deferred} (h : FitsD a n m ds) (v : Value) (hd : Nat.blt d n = true) : FitsD (a.put (some d) v) n ((d, v) :: m) ds := ⟨h.fits.put v hd, h.defers⟩
theorem FitsD.put_none {a : Act} {n : Nat} {m : Fm} {ds : List Deferred} (h : FitsD a n m ds) (v : Value) : FitsD (a.put none v) n m ds := h
theorem FitsD.of {a : Act} {n : Nat} {m : Fm} (h : Fits a n m) : FitsD a n m [] := ⟨⟨h.size, rfl, h.get⟩, h.defers⟩
theorem FitsD.less {a : Act} {n : Nat} {m m' : Fm} {ds : List Deferred} (h : FitsD a n m ds) (hs : Sub m' m) : FitsD a n m' ds := ⟨h.fits.less hs.look, h.defers⟩

def J (F : Fence) (nn : Nat) (P : Program) (Q : Exit → Act → World → Prop) (n : Nat) (ds : List Deferred) (c : Code) (m : Fm) (w : World) : Prop := ∀ a, FitsD a n m ds → c.wpIn F nn P Q a w
def JL (F : Fence) (nn : Nat) (P : Program) (Q : Exit → Act → World → Prop) (n : Nat) (ds : List Deferred) (ops : Array Oper) (rest : List Oper) (m : Fm) (w : World) : Prop := ∀ a, FitsD a n m ds → wpListIn F nn P ops Q rest a w
def K (Q : Exit → Act → World → Prop) (n : Nat) (ds : List Deferred) (m : Fm) (w : World) : Prop := ∀ a, FitsD a n m ds → Q .normal a w

section
variable {F : Fence} {nn : Nat} {P : Program} {Q : Exit → Act → World → Prop} {n : Nat} {ds : List Deferred} {m : Fm} {w : World} {ops : Array Oper} {rest : List Oper}

theorem J_seq {x y : Code} (h : J F nn P (Exit.then (y.wpIn F nn P Q) Q) n ds x m w) : J F nn P Q n ds (.seq x y) m w := fun a ha => wpIn_seq (h a ha)
theorem J_region {id : Nat} {l : List Oper} (h : JL F nn P Q n ds l.toArray l m w) : J F nn P Q n ds (.region id l.toArray false) m w := fun a ha => wpIn_region_lit (h a ha)
theorem J_skip (h : K Q n ds m w) : J F nn P Q n ds .skip m w := fun a ha => wpIn_skip (h a ha)
theorem J_ret (h : ∀ a, FitsD a n m ds → Q .ret a w) : J F nn P Q n ds .ret m w := fun a ha => wpIn_ret (h a ha)
theorem J_exit {id : Nat} (h : ∀ a, FitsD a n m ds → Q (.exit id) a w) : J F nn P Q n ds (.exit id) m w := fun a ha => wpIn_exit (h a ha)
theorem J_block {id : Nat} {c : Code} (h : J F nn P (Exit.inBlock id Q) n ds c m w) : J F nn P Q n ds (.block id c) m w := fun a ha => wpIn_block (h a ha)
theorem J_cond {c : Operand} {x y : Code} {t : Bool} (hc : ev m c = some (.bool t)) (ht : t = true → J F nn P Q n ds x m w) (hf : t = false → J F nn P Q n ds y m w) : J F nn P Q n ds (.cond c x y) m w := by
  intro a ha
  have he : a.eval c = .bool t := ha.fits.eval hc
  cases t
  · exact wpIn_cond_false he (hf rfl a ha)
  · exact wpIn_cond_true he (ht rfl a ha)
theorem JL_nil (h : K Q n ds m w) : JL F nn P Q n ds ops [] m w := fun a ha => wpListIn_nil (h a ha)
theorem K_then {y : Code} (h : J F nn P Q n ds y m w) : K (Exit.then (y.wpIn F nn P Q) Q) n ds m w := h
theorem K_block {id : Nat} (h : K Q n ds m w) : K (Exit.inBlock id Q) n ds m w := h

theorem JL_run {o : Oper} {v : Value} {w' : World} {d : Nat} (hF : ∀ f, F.fn f) (hdf : ∀ c, o.op ≠ .defer c) (hg : o.guard = none) (hdst : o.dst = some d) (hd : Nat.blt d n = true)
    (hr : ∀ a, Fits a n m → (execOp a.eval o).run P w = .ok (.value v) w') (h : JL F nn P Q n ds ops rest ((d, v) :: m) w') : JL F nn P Q n ds ops (o :: rest) m w := by
  intro a ha
  refine wpListIn_plain hg fun KK hK => ⟨fun f _ => hF f, ?_⟩
  rw [Oper.semAt_eq _ _ _ hdf]
  have := hr _ ha.fits
  rw [show (execOp a.eval o) = execOp ({ a with defers := [] } : Act).eval o from rfl, this, Oper.uponIn_value, hdst]
  exact hK _ _ (h _ (ha.put v hd))
theorem JL_skip {o : Oper} {w' : World} (hF : ∀ f, F.fn f) (hdf : ∀ c, o.op ≠ .defer c) (hg : o.guard = none) (hdst : o.dst = none)
    (hr : ∀ a, Fits a n m → (execOp a.eval o).run P w = .ok .skip w') (h : JL F nn P Q n ds ops rest m w') : JL F nn P Q n ds ops (o :: rest) m w := by
  intro a ha
  refine wpListIn_plain hg fun KK hK => ⟨fun f _ => hF f, ?_⟩
  rw [Oper.semAt_eq _ _ _ hdf]
  have := hr _ ha.fits
  rw [show (execOp a.eval o) = execOp ({ a with defers := [] } : Act).eval o from rfl, this, Oper.uponIn_skip, hdst]
  exact hK _ _ (h _ (ha.put_none undef))

variable {d : Nat} {ty : TypeId} {ps : String} {af : Array Edge}
theorem JL_pure (E : Env P) (hF : ∀ f, F.fn f) {op : Op} {v : Value} (h : pv E.ty E.fld m op = some v) (hdf : ∀ c, op ≠ .defer c) (hd : Nat.blt d n = true) (hn : JL F nn P Q n ds ops rest ((d, v) :: m) w) :
    JL F nn P Q n ds ops ({ dst := some d, op := op, type := ty, pos := ps, after := af, guard := none } :: rest) m w :=
  JL_run hF hdf rfl rfl hd (fun _ ha => run_pv E ha h _ _ _ _ _) hn
theorem JL_ar (hF : ∀ f, F.fn f) {bop : BinOp} {t t2 : TypeId} {x y : Operand} {kd : IntKind} {p q r : Int} (hx : ev m x = some (.int kd p)) (hy : ev m y = some (.int kd q)) (hr : arOp bop p q = some r) (hw : kd.wrap r = r) (hd : Nat.blt d n = true)
    (hn : JL F nn P Q n ds ops rest ((d, .int kd r) :: m) w) :
    JL F nn P Q n ds ops ({ dst := some d, op := .binOp bop t x y t2, type := ty, pos := ps, after := af, guard := none } :: rest) m w :=
  JL_run hF (fun _ e => by cases e) rfl rfl hd (fun a ha => by simp [execOp, ha.eval hx, ha.eval hy, eqGuard_int, run_ar _ _ _ _ _ hr, hw]) hn

theorem ro_alloc (E : Env P) {t : TypeId} {s by_ : Nat} {z : Value} {zs : List Value} (hi : E.info t = some (s, by_, z)) (hz : z.cells = zs.toArray) {dst : Option Tmp} {gd : Option (Nat × Bool)} (w : World) :
    ∃ b w', New w w' b zs t ∧ ∀ a : Act, (execOp a.eval { dst := dst, op := .alloc t, type := ty, pos := ps, after := af, guard := gd }).run P w = .ok (.value (.pointer (some ⟨b, 0, none⟩))) w' := by
  obtain ⟨i, h1, _, _, h4⟩ := E.info_ok _ _ _ _ hi
  exact ⟨_, _, New.alloc w zs t, fun a => by simp [execOp, Instr.alloc, Sem.run_bind, r_zero h1 h4, r_new w t z zs hz]⟩
theorem ro_storeA (E : Env P) {t : TypeId} {x y : Operand} {b o : Nat} {cs seg : List Value} {bt : TypeId} {de : TypeDesc} {s : Nat} (hb : Blk w b cs bt) (ht : E.ty t = some (de, s)) (hx : ev m x = some (.pointer (some ⟨b, o, none⟩))) (hy : ev m y = some (.agg seg.toArray)) (hl : seg.length = s) (ho : o + s ≤ cs.length) (h1 : ∀ u ∈ seg, u.oneCell' = true) {dst : Option Tmp} {gd : Option (Nat × Bool)} :
    ∃ w', Upd w w' b (cs.take o ++ seg ++ cs.drop (o + s)) bt ∧ ∀ a, Fits a n m → (execOp a.eval { dst := dst, op := .store t x y, type := ty, pos := ps, after := af, guard := gd }).run P w = .ok .skip w' := by
  have hr := run_storeVar_seg (P := P) (v := .agg seg.toArray) (E.ok _ _ _ ht).2 hb rfl hl ho h1
  exact ⟨_, Upd.setRow hb _, fun a ha => by simp [execOp, ha.eval hx, ha.eval hy, Instr.storeAt, Instr.sureAddr, hr]⟩

theorem JL_alloc (E : Env P) (hF : ∀ f, F.fn f) {t : TypeId} {s by_ : Nat} {z : Value} {zs : List Value} (hi : E.info t = some (s, by_, z)) (hz : z.cells = zs.toArray) (hd : Nat.blt d n = true)
    (h : ∀ b w', New w w' b zs t → JL F nn P Q n ds ops rest ((d, .pointer (some ⟨b, 0, none⟩)) :: m) w') : JL F nn P Q n ds ops ({ dst := some d, op := .alloc t, type := ty, pos := ps, after := af, guard := none } :: rest) m w := by
  obtain ⟨b, w', hn, hr⟩ := ro_alloc (ty := ty) (ps := ps) (af := af) E hi hz (dst := some d) (gd := none) w
  exact JL_run hF (fun _ e => by cases e) rfl rfl hd (fun a _ => hr a) (h b w' hn)
theorem JL_storeA (E : Env P) (hF : ∀ f, F.fn f) {t : TypeId} {x y : Operand} {b o : Nat} {cs seg : List Value} {bt : TypeId} {de : TypeDesc} {s : Nat} (hb : Blk w b cs bt) (ht : E.ty t = some (de, s)) (hx : ev m x = some (.pointer (some ⟨b, o, none⟩))) (hy : ev m y = some (.agg seg.toArray)) (hl : seg.length = s) (ho : o + s ≤ cs.length) (h1 : ∀ u ∈ seg, u.oneCell' = true)
    (h : ∀ w', Upd w w' b (cs.take o ++ seg ++ cs.drop (o + s)) bt → JL F nn P Q n ds ops rest m w') : JL F nn P Q n ds ops ({ dst := none, op := .store t x y, type := ty, pos := ps, after := af, guard := none } :: rest) m w := by
  obtain ⟨w', hu, hr⟩ := ro_storeA (n := n) (ty := ty) (ps := ps) (af := af) E hb ht hx hy hl ho h1 (dst := none) (gd := none)
  exact JL_skip hF (fun _ e => by cases e) rfl rfl hr (h w' hu)

/-- A call of the round's function value. -/
theorem JL_yield (hF : ∀ f, F.fn f) (hdp : F.depth = none) {g : Operand} {xs : List Operand} {ats : Array TypeId} {l : Nat} {vs : List Value} {G : Value → World → Prop} (hg : ev m g = some (.func (.yield l) #[] #[])) (hvs : evs m xs = some vs) (hd : Nat.blt d n = true)
    (hy : YieldAt F (nn - 1) P l vs.toArray w (Ret G)) (h : ∀ v w', G v w' → JL F nn P Q n ds ops rest ((d, v) :: m) w') :
    JL F nn P Q n ds ops ({ dst := some d, op := .call { callee := .value g, args := xs.toArray, argTypes := ats }, type := ty, pos := ps, after := af, guard := none } :: rest) m w := by
  intro a ha
  obtain ⟨fn, tmps, assign, body, h1, h2⟩ := hy
  refine wpListIn_plain rfl fun KK hK => ⟨fun f _ => hF f, ?_⟩
  rw [Oper.semAt_eq _ _ _ (fun _ e => by cases e)]
  have he : a.eval g = .func (.yield l) #[] #[] := ha.fits.eval hg
  have hvv : xs.map a.eval = vs := ha.fits.evals hvs
  have hr : (execOp a.eval { dst := some d, op := .call { callee := .value g, args := xs.toArray, argTypes := ats }, type := ty, pos := ps, after := af, guard := none }).run P w = .ok (.round l fn tmps assign body) w := by
    simp only [execOp, resolve, Deferred.ofValue, he, Sem.run_bind, Sem.run_pure, Result.andThen_ok, invoke, List.map_toArray, hvv]
    simpa using h1
  rw [hr, Oper.uponIn_round]
  refine ⟨fun e => (by rw [hdp] at e; cases e), h2.mono ?_⟩
  rintro e w' ⟨v, rfl, hG⟩
  exact hK _ _ (h v w' hG _ (ha.put v hd))

/-- A loop. -/
theorem J_loop {α : Type} {c : Code} (fm : α → Fm) (inv : α → World → Prop) (mu : Act → Nat) (x0 : α) (h0 : inv x0 w) (hm : Sub (fm x0) m)
    (round : ∀ x w1, inv x w1 → ∀ a1, FitsD a1 n (fm x) ds → c.wpIn F nn P (Exit.then (fun a' w' => (∃ y, inv y w' ∧ FitsD a' n (fm y) ds) ∧ mu a' < mu a1) Q) a1 w1) :
    J F nn P Q n ds (.loop c) m w := by
  intro a ha
  refine wpIn_loop (fun a' w' => ∃ x, inv x w' ∧ FitsD a' n (fm x) ds) (fun a' _ => mu a') ⟨x0, h0, ha.less hm⟩ ?_
  rintro a' w' ⟨x, hx, hf⟩
  exact round x w' hx a' hf

theorem quiet_defers {C : World → Prop} {Z : Act → Prop} : ∀ (rest : List Oper) (a : Act), wpQuiet P ops C (fun a' => Z { a' with defers := a.defers }) rest { a with defers := [] } → wpQuiet P ops C Z rest a
  | [], a, h => h
  | o :: rest, a, h => by
    unfold wpQuiet at h ⊢
    split
    · rename_i hw
      rw [if_pos hw] at h
      obtain ⟨v, h1, h2⟩ := h
      refine ⟨v, h1, quiet_defers rest (a.put o.dst v) ?_⟩
      cases hd : o.dst with
      | none => rw [hd] at h2; exact h2
      | some d => rw [hd] at h2; exact h2
    · rename_i hw
      rw [if_neg hw] at h
      refine quiet_defers rest (a.put o.dst undef) ?_
      cases hd : o.dst with
      | none => rw [hd] at h; exact h
      | some d => rw [hd] at h; exact h

/-- A region of which the last operation alone writes, in a fence that lets everything in. -/
theorem J_tail (N : Nat) {id : Nat} {l : List Oper} (hm : P.follows .mixedOrders = true) (hB : Region.lexTailB .any l.toArray N = true)
    (h : ∀ w1, Drew w w1 → V P n (fun a' => wpList P l.toArray Q (l.drop N) { a' with defers := ds } w1) (fun w' => w' = w1) l.toArray (l.take N) m) : J Fence.wide nn P Q n ds (.region id l.toArray true) m w := by
  intro a ha
  refine wpIn_wide.2 (wp_region_still_tail N hm hB ?_)
  have h1 := h { w with drawn := w.drawn + 1 } ⟨1, rfl⟩ { a with defers := [] } ha.fits
  rw [← ha.defers] at h1
  have h2 := quiet_defers (Z := fun a' => wpList P l.toArray Q (l.drop N) a' { w with drawn := w.drawn + 1 }) _ a h1
  have still : ∀ (w1 : World) (Z : Act → Prop) (l' : List Oper) (a : Act), wpQuiet P l.toArray (fun w' => w' = w1) Z l' a → wpStill P l.toArray w1 Z l' a := by
    intro w1 Z l'
    induction l' with
    | nil => intro a h; exact h
    | cons o r ih =>
      intro a h
      unfold wpQuiet at h
      unfold wpStill
      split
      · rename_i hw
        rw [if_pos hw] at h
        obtain ⟨v, h1, h2⟩ := h
        have h3 := h1 w1 rfl
        unfold Oper.quietAt at h3
        unfold Oper.still
        generalize (execOp a.eval o).run P w1 = rs at h3
        cases rs with
        | ok nx w' =>
          cases nx <;> simp only [Oper.quietUpon] at h3 <;> simp only [Oper.stillUpon]
          case value u => obtain ⟨e1, e2⟩ := h3; exact ⟨e1, by rw [e2]; exact ih _ h2⟩
          case skip => obtain ⟨e1, e2⟩ := h3; exact ⟨e1, by rw [← e2]; exact ih _ h2⟩
          case enter g xs => obtain ⟨e1, hc⟩ := h3; exact ⟨e1, v, hc, ih _ h2⟩
        | halt x w' => simp only [Oper.quietUpon] at h3
      · rename_i hw
        rw [if_neg hw] at h
        exact ih _ h
  exact still _ _ _ _ h2

/-- The last operation, a store. -/
theorem V_nilStore (E : Env P) {C : World → Prop} {w1 : World} {t : TypeId} {x y : Operand} {b o : Nat} {cs seg : List Value} {bt : TypeId} {de : TypeDesc} {s : Nat} (hb : Blk w1 b cs bt) (ht : E.ty t = some (de, s)) (hx : ev m x = some (.pointer (some ⟨b, o, none⟩))) (hy : ev m y = some (.agg seg.toArray)) (hl : seg.length = s) (ho : o + s ≤ cs.length) (h1 : ∀ u ∈ seg, u.oneCell' = true)
    (h : ∀ w', Upd w1 w' b (cs.take o ++ seg ++ cs.drop (o + s)) bt → K Q n ds m w') :
    V P n (fun a' => wpList P ops Q [{ dst := none, op := .store t x y, type := ty, pos := ps, after := af, guard := none }] { a' with defers := ds } w1) C ops [] m := by
  intro a ha
  obtain ⟨w', hu, hr⟩ := ro_storeA (n := n) (ty := ty) (ps := ps) (af := af) E hb ht hx hy hl ho h1 (dst := none) (gd := none)
  refine wpQuiet_nil (wpList_plain rfl fun KK hK => ?_)
  unfold Oper.wp
  rw [show execOp ({ a with defers := ds } : Act).eval { dst := none, op := .store t x y, type := ty, pos := ps, after := af, guard := none } = execOp a.eval { dst := none, op := .store t x y, type := ty, pos := ps, after := af, guard := none } from rfl, hr a ha, Oper.upon_skip]
  exact hK _ _ (wpList_nil (h w' hu _ ⟨⟨ha.size, rfl, ha.get⟩, rfl⟩))

theorem fits_args {fn : Func} {vs : List Value} (hn : fn.ntmps = n) (hl : Nat.ble vs.length n = true) : FitsD { tmps := vs.toArray ++ Array.replicate (fn.ntmps - vs.toArray.size) undef, defers := [] } n (args 0 vs) [] := by
  have hl' : vs.length ≤ n := by simpa using hl
  refine ⟨⟨by simp [hn]; omega, rfl, fun i v hv => ?_⟩, rfl⟩
  obtain ⟨_, h2⟩ := look_args vs 0 i v hv
  have hlt : i < vs.length := by
    have := (List.getElem?_eq_some_iff.1 h2).1
    simpa using this
  simp only [Nat.sub_zero] at h2
  show (vs.toArray ++ _)[i]? = _
  rw [Array.getElem?_append_left (by simpa using hlt)]
  simpa using h2
theorem JL_box (E : Env P) (hF : ∀ f, F.fn f) {t : TypeId} {x : Operand} {v : Value} {cs : List Value} (hx : ev m x = some v) (hz : v.cells = cs.toArray) (hd : Nat.blt d n = true)
    (h : ∀ b w', New w w' b cs t → JL F nn P Q n ds ops rest ((d, .pointer (some ⟨b, 0, none⟩)) :: m) w') : JL F nn P Q n ds ops ({ dst := some d, op := .box t x, type := ty, pos := ps, after := af, guard := none } :: rest) m w :=
  have _ := E
  JL_run hF (fun _ e => by cases e) rfl rfl hd (fun a ha => by simp [execOp, Instr.box, ha.eval hx, r_new w t v cs hz]) (h _ _ (New.alloc w cs t))
theorem JL_call {xs : List Operand} {ats : Array TypeId} {g : FuncId} {vs : List Value} {G : Value → World → Prop} (hvs : evs m xs = some vs) (hd : Nat.blt d n = true)
    (hcall : ∀ w, (callFunc g vs.toArray).run P w = .ok (.enter g vs.toArray) w) (hc : Calls P g vs.toArray w (Ret G)) (h : ∀ v w', G v w' → JL Fence.wide nn P Q n ds ops rest ((d, v) :: m) w') :
    JL Fence.wide nn P Q n ds ops ({ dst := some d, op := .call { callee := .value (.func g), args := xs.toArray, argTypes := ats }, type := ty, pos := ps, after := af, guard := none } :: rest) m w := by
  intro a ha
  refine wpListIn_plain rfl fun KK hK => ⟨fun f _ => trivial, ?_⟩
  rw [Oper.semAt_eq _ _ _ (fun _ e => by cases e)]
  have hr : (execOp a.eval { dst := some d, op := .call { callee := .value (.func g), args := xs.toArray, argTypes := ats }, type := ty, pos := ps, after := af, guard := none }).run P w = .ok (.enter g vs.toArray) w := by
    have hvv : xs.map a.eval = vs := ha.fits.evals hvs
    simp only [execOp, resolve, Deferred.ofValue, Act.eval, Sem.run_bind, Sem.run_pure, Result.andThen_ok, invoke, List.map_toArray]
    have : (xs.map a.eval).toArray = vs.toArray := by rw [hvv]
    simpa [this] using hcall w
  rw [hr, Oper.uponIn_enter]
  refine ⟨fun e => (by cases e), callsIn_wide.2 (hc.mono ?_)⟩
  rintro e w' ⟨v, rfl, hG⟩
  exact hK _ _ (h v w' hG _ (ha.put v hd))
end
end Go.Proofs.YtoefhdaenaiomaaDoor
