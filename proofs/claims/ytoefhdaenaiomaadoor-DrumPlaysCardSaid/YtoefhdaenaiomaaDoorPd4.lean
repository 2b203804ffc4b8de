/- The same walk inside a fence that lets everything in: for a range over a function, its body, its iterator. -/
import Derived.Test.YtoefhdaenaiomaaDoorPd3
import Derived.RangeFuncNested
import Derived.RangeFuncLeaves
import Derived.TacticsIn
import Derived.Test.YtoefhdaenaiomaaDoorPd2
import Derived.WalkKit
import Derived.LaidEql
import Derived.Stop.Asserts
import Derived.RowKitTokens
set_option linter.unusedVariables false
set_option linter.unusedSimpArgs false
namespace Go.Proofs.YtoefhdaenaiomaaDoor
open Go Go.RowKit
set_option maxRecDepth 20000

structure FitsD (a : Act) (n : Nat) (m : Fm) (ds : List Deferred) : Prop where
  fits : Fits { a with defers := [] } n m
  defers : a.defers = ds

theorem FitsD.put {a : Act} {n d : Nat} {m : Fm} {ds : List Deferred} (h : FitsD a n m ds) (v : Value) (hd : Nat.blt d n = true) : FitsD (a.put (some d) v) n ((d, v) :: m) ds := ⟨h.fits.put v hd, h.defers⟩
theorem FitsD.put_none {a : Act} {n : Nat} {m : Fm} {ds : List Deferred} (h : FitsD a n m ds) (v : Value) : FitsD (a.put none v) n m ds := h
theorem FitsD.of {a : Act} {n : Nat} {m : Fm} (h : Fits a n m) : FitsD a n m [] := ⟨⟨h.size, rfl, h.get⟩, h.defers⟩
theorem FitsD.less {a : Act} {n : Nat} {m m' : Fm} {ds : List Deferred} (h : FitsD a n m ds) (hs : Sub m' m) : FitsD a n m' ds := ⟨h.fits.less hs.look, h.defers⟩

def J (F : Fence) (nn : Nat) (P : Program) (Q : Exit → Act → World → Prop) (n : Nat) (ds : List Deferred) (c : Code) (m : Fm) (w : World) : Prop := ∀ a, FitsD a n m ds → c.wpIn F nn P Q a w
def JL (F : Fence) (nn : Nat) (P : Program) (Q : Exit → Act → World → Prop) (n : Nat) (ds : List Deferred) (ops : Array Oper) (rest : List Oper) (m : Fm) (w : World) : Prop := ∀ a, FitsD a n m ds → wpListIn F nn P ops Q rest a w
def K (Q : Exit → Act → World → Prop) (n : Nat) (ds : List Deferred) (m : Fm) (w : World) : Prop := ∀ a, FitsD a n m ds → Q .normal a w

section
variable {F : Fence} {nn : Nat} {P : Program} {Q : Exit → Act → World → Prop} {n : Nat} {ds : List Deferred} {m : Fm} {w : World} {ops : Array Oper} {rest : List Oper}

theorem J_seq {x y : Code} (h : J F nn P (Exit.then (y.wpIn F nn P Q) Q) n ds x m w) : J F nn P Q n ds (.seq x y) m w := fun a ha => wpIn_seq (h a ha)
theorem J_region {id : Nat} {l : List Oper} (h : JL F nn P Q n ds l.toArray l m w) : J F nn P Q n ds (.region id l.toArray false) m w := fun a ha => wpIn_region_lit (h a ha)
theorem J_skip (h : K Q n ds m w) : J F nn P Q n ds .skip m w := fun a ha => wpIn_skip (h a ha)
theorem J_ret (h : ∀ a, FitsD a n m ds → Q .ret a w) : J F nn P Q n ds .ret m w := fun a ha => wpIn_ret (h a ha)
theorem J_exit {id : Nat} (h : ∀ a, FitsD a n m ds → Q (.exit id) a w) : J F nn P Q n ds (.exit id) m w := fun a ha => wpIn_exit (h a ha)
theorem J_block {id : Nat} {c : Code} (h : J F nn P (Exit.inBlock id Q) n ds c m w) : J F nn P Q n ds (.block id c) m w := fun a ha => wpIn_block (h a ha)
theorem J_cond {c : Operand} {x y : Code} {t : Bool} (hc : ev m c = some (.bool t)) (ht : t = true → J F nn P Q n ds x m w) (hf : t = false → J F nn P Q n ds y m w) : J F nn P Q n ds (.cond c x y) m w := by
  intro a ha
  have he : a.eval c = .bool t := ha.fits.eval hc
  cases t
  · exact wpIn_cond_false he (hf rfl a ha)
  · exact wpIn_cond_true he (ht rfl a ha)
theorem JL_nil (h : K Q n ds m w) : JL F nn P Q n ds ops [] m w := fun a ha => wpListIn_nil (h a ha)
theorem K_then {y : Code} (h : J F nn P Q n ds y m w) : K (Exit.then (y.wpIn F nn P Q) Q) n ds m w := h
theorem K_block {id : Nat} (h : K Q n ds m w) : K (Exit.inBlock id Q) n ds m w := h

theorem JL_run {o : Oper} {v : Value} {w' : World} {d : Nat} (hF : ∀ f, F.fn f) (hdf : ∀ c, o.op ≠ .defer c) (hg : o.guard = none) (hdst : o.dst = some d) (hd : Nat.blt d n = true)
    (hr : ∀ a, Fits a n m → (execOp a.eval o).run P w = .ok (.value v) w') (h : JL F nn P Q n ds ops rest ((d, v) :: m) w') : JL F nn P Q n ds ops (o :: rest) m w := by
  intro a ha
  refine wpListIn_plain hg fun KK hK => ⟨fun f _ => hF f, ?_⟩
  rw [Oper.semAt_eq _ _ _ hdf]
  have := hr _ ha.fits
  rw [show (execOp a.eval o) = execOp ({ a with defers := [] } : Act).eval o from rfl, this, Oper.uponIn_value, hdst]
  exact hK _ _ (h _ (ha.put v hd))
theorem JL_skip {o : Oper} {w' : World} (hF : ∀ f, F.fn f) (hdf : ∀ c, o.op ≠ .defer c) (hg : o.guard = none) (hdst : o.dst = none)
    (hr : ∀ a, Fits a n m → (execOp a.eval o).run P w = .ok .skip w') (h : JL F nn P Q n ds ops rest m w') : JL F nn P Q n ds ops (o :: rest) m w := by
  intro a ha
  refine wpListIn_plain hg fun KK hK => ⟨fun f _ => hF f, ?_⟩
  rw [Oper.semAt_eq _ _ _ hdf]
  have := hr _ ha.fits
  rw [show (execOp a.eval o) = execOp ({ a with defers := [] } : Act).eval o from rfl, this, Oper.uponIn_skip, hdst]
  exact hK _ _ (h _ (ha.put_none undef))

variable {d : Nat} {ty : TypeId} {ps : String} {af : Array Edge}
theorem JL_pure (E : Env P) (hF : ∀ f, F.fn f) {op : Op} {v : Value} (h : pv E.ty E.fld m op = some v) (hdf : ∀ c, op ≠ .defer c) (hd : Nat.blt d n = true) (hn : JL F nn P Q n ds ops rest ((d, v) :: m) w) :
    JL F nn P Q n ds ops ({ dst := some d, op := op, type := ty, pos := ps, after := af, guard := none } :: rest) m w :=
  JL_run hF hdf rfl rfl hd (fun _ ha => run_pv E ha h _ _ _ _ _) hn
theorem JL_ar (hF : ∀ f, F.fn f) {bop : BinOp} {t t2 : TypeId} {x y : Operand} {kd : IntKind} {p q r : Int} (hx : ev m x = some (.int kd p)) (hy : ev m y = some (.int kd q)) (hr : arOp bop p q = some r) (hw : kd.wrap r = r) (hd : Nat.blt d n = true)
    (hn : JL F nn P Q n ds ops rest ((d, .int kd r) :: m) w) :
    JL F nn P Q n ds ops ({ dst := some d, op := .binOp bop t x y t2, type := ty, pos := ps, after := af, guard := none } :: rest) m w :=
  JL_run hF (fun _ e => by cases e) rfl rfl hd (fun a ha => by simp [execOp, ha.eval hx, ha.eval hy, eqGuard_int, run_ar _ _ _ _ _ hr, hw]) hn

theorem ro_alloc (E : Env P) {t : TypeId} {s by_ : Nat} {z : Value} {zs : List Value} (hi : E.info t = some (s, by_, z)) (hz : z.cells = zs.toArray) {dst : Option Tmp} {gd : Option (Nat × Bool)} (w : World) :
    ∃ b w', New w w' b zs t ∧ ∀ a : Act, (execOp a.eval { dst := dst, op := .alloc t, type := ty, pos := ps, after := af, guard := gd }).run P w = .ok (.value (.pointer (some ⟨b, 0, none⟩))) w' := by
  obtain ⟨i, h1, _, _, h4⟩ := E.info_ok _ _ _ _ hi
  exact ⟨_, _, New.alloc w zs t, fun a => by simp [execOp, Instr.alloc, Sem.run_bind, r_zero h1 h4, r_new w t z zs hz]⟩
theorem ro_storeA (E : Env P) {t : TypeId} {x y : Operand} {b o : Nat} {cs seg : List Value} {bt : TypeId} {de : TypeDesc} {s : Nat} (hb : Blk w b cs bt) (ht : E.ty t = some (de, s)) (hx : ev m x = some (.pointer (some ⟨b, o, none⟩))) (hy : ev m y = some (.agg seg.toArray)) (hl : seg.length = s) (ho : o + s ≤ cs.length) (h1 : ∀ u ∈ seg, u.oneCell' = true) {dst : Option Tmp} {gd : Option (Nat × Bool)} :
    ∃ w', Upd w w' b (cs.take o ++ seg ++ cs.drop (o + s)) bt ∧ ∀ a, Fits a n m → (execOp a.eval { dst := dst, op := .store t x y, type := ty, pos := ps, after := af, guard := gd }).run P w = .ok .skip w' := by
  have hr := run_storeVar_seg (P := P) (v := .agg seg.toArray) (E.ok _ _ _ ht).2 hb rfl hl ho h1
  exact ⟨_, Upd.setRow hb _, fun a ha => by simp [execOp, ha.eval hx, ha.eval hy, Instr.storeAt, Instr.sureAddr, hr]⟩

theorem JL_alloc (E : Env P) (hF : ∀ f, F.fn f) {t : TypeId} {s by_ : Nat} {z : Value} {zs : List Value} (hi : E.info t = some (s, by_, z)) (hz : z.cells = zs.toArray) (hd : Nat.blt d n = true)
    (h : ∀ b w', New w w' b zs t → JL F nn P Q n ds ops rest ((d, .pointer (some ⟨b, 0, none⟩)) :: m) w') : JL F nn P Q n ds ops ({ dst := some d, op := .alloc t, type := ty, pos := ps, after := af, guard := none } :: rest) m w := by
  obtain ⟨b, w', hn, hr⟩ := ro_alloc (ty := ty) (ps := ps) (af := af) E hi hz (dst := some d) (gd := none) w
  exact JL_run hF (fun _ e => by cases e) rfl rfl hd (fun a _ => hr a) (h b w' hn)
theorem JL_storeA (E : Env P) (hF : ∀ f, F.fn f) {t : TypeId} {x y : Operand} {b o : Nat} {cs seg : List Value} {bt : TypeId} {de : TypeDesc} {s : Nat} (hb : Blk w b cs bt) (ht : E.ty t = some (de, s)) (hx : ev m x = some (.pointer (some ⟨b, o, none⟩))) (hy : ev m y = some (.agg seg.toArray)) (hl : seg.length = s) (ho : o + s ≤ cs.length) (h1 : ∀ u ∈ seg, u.oneCell' = true)
    (h : ∀ w', Upd w w' b (cs.take o ++ seg ++ cs.drop (o + s)) bt → JL F nn P Q n ds ops rest m w') : JL F nn P Q n ds ops ({ dst := none, op := .store t x y, type := ty, pos := ps, after := af, guard := none } :: rest) m w := by
  obtain ⟨w', hu, hr⟩ := ro_storeA (n := n) (ty := ty) (ps := ps) (af := af) E hb ht hx hy hl ho h1 (dst := none) (gd := none)
  exact JL_skip hF (fun _ e => by cases e) rfl rfl hr (h w' hu)

/-- A call of the round's function value. -/
theorem JL_yield (hF : ∀ f, F.fn f) (hdp : F.depth = none) {g : Operand} {xs : List Operand} {ats : Array TypeId} {l : Nat} {vs : List Value} {G : Value → World → Prop} (hg : ev m g = some (.func (.yield l) #[] #[])) (hvs : evs m xs = some vs) (hd : Nat.blt d n = true)
    (hy : YieldAt F (nn - 1) P l vs.toArray w (Ret G)) (h : ∀ v w', G v w' → JL F nn P Q n ds ops rest ((d, v) :: m) w') :
    JL F nn P Q n ds ops ({ dst := some d, op := .call { callee := .value g, args := xs.toArray, argTypes := ats }, type := ty, pos := ps, after := af, guard := none } :: rest) m w := by
  intro a ha
  obtain ⟨fn, tmps, assign, body, h1, h2⟩ := hy
  refine wpListIn_plain rfl fun KK hK => ⟨fun f _ => hF f, ?_⟩
  rw [Oper.semAt_eq _ _ _ (fun _ e => by cases e)]
  have he : a.eval g = .func (.yield l) #[] #[] := ha.fits.eval hg
  have hvv : xs.map a.eval = vs := ha.fits.evals hvs
  have hr : (execOp a.eval { dst := some d, op := .call { callee := .value g, args := xs.toArray, argTypes := ats }, type := ty, pos := ps, after := af, guard := none }).run P w = .ok (.round l fn tmps assign body) w := by
    simp only [execOp, resolve, Deferred.ofValue, he, Sem.run_bind, Sem.run_pure, Result.andThen_ok, invoke, List.map_toArray, hvv]
    simpa using h1
  rw [hr, Oper.uponIn_round]
  refine ⟨fun e => (by rw [hdp] at e; cases e), h2.mono ?_⟩
  rintro e w' ⟨v, rfl, hG⟩
  exact hK _ _ (h v w' hG _ (ha.put v hd))

/-- A loop. -/
theorem J_loop {α : Type} {c : Code} (fm : α → Fm) (inv : α → World → Prop) (mu : Act → Nat) (x0 : α) (h0 : inv x0 w) (hm : Sub (fm x0) m)
    (round : ∀ x w1, inv x w1 → ∀ a1, FitsD a1 n (fm x) ds → c.wpIn F nn P (Exit.then (fun a' w' => (∃ y, inv y w' ∧ FitsD a' n (fm y) ds) ∧ mu a' < mu a1) Q) a1 w1) :
    J F nn P Q n ds (.loop c) m w := by
  intro a ha
  refine wpIn_loop (fun a' w' => ∃ x, inv x w' ∧ FitsD a' n (fm x) ds) (fun a' _ => mu a') ⟨x0, h0, ha.less hm⟩ ?_
  rintro a' w' ⟨x, hx, hf⟩
  exact round x w' hx a' hf

theorem quiet_defers {C : World → Prop} {Z : Act → Prop} : ∀ (rest : List Oper) (a : Act), wpQuiet P ops C (fun a' => Z { a' with defers := a.defers }) rest { a with defers := [] } → wpQuiet P ops C Z rest a
  | [], a, h => h
  | o :: rest, a, h => by
    unfold wpQuiet at h ⊢
    split
    · rename_i hw
      rw [if_pos hw] at h
      obtain ⟨v, h1, h2⟩ := h
      refine ⟨v, h1, quiet_defers rest (a.put o.dst v) ?_⟩
      cases hd : o.dst with
      | none => rw [hd] at h2; exact h2
      | some d => rw [hd] at h2; exact h2
    · rename_i hw
      rw [if_neg hw] at h
      refine quiet_defers rest (a.put o.dst undef) ?_
      cases hd : o.dst with
      | none => rw [hd] at h; exact h
      | some d => rw [hd] at h; exact h

/-- A region of which the last operation alone writes, in a fence that lets everything in. -/
theorem J_tail (N : Nat) {id : Nat} {l : List Oper} (hm : P.follows .mixedOrders = true) (hB : Region.lexTailB .any l.toArray N = true)
    (h : ∀ w1, Drew w w1 → V P n (fun a' => wpList P l.toArray Q (l.drop N) { a' with defers := ds } w1) (fun w' => w' = w1) l.toArray (l.take N) m) : J Fence.wide nn P Q n ds (.region id l.toArray true) m w := by
  intro a ha
  refine wpIn_wide.2 (wp_region_still_tail N hm hB ?_)
  have h1 := h { w with drawn := w.drawn + 1 } ⟨1, rfl⟩ { a with defers := [] } ha.fits
  rw [← ha.defers] at h1
  have h2 := quiet_defers (Z := fun a' => wpList P l.toArray Q (l.drop N) a' { w with drawn := w.drawn + 1 }) _ a h1
  have still : ∀ (w1 : World) (Z : Act → Prop) (l' : List Oper) (a : Act), wpQuiet P l.toArray (fun w' => w' = w1) Z l' a → wpStill P l.toArray w1 Z l' a := by
    intro w1 Z l'
    induction l' with
    | nil => intro a h; exact h
    | cons o r ih =>
      intro a h
      unfold wpQuiet at h
      unfold wpStill
      split
      · rename_i hw
        rw [if_pos hw] at h
        obtain ⟨v, h1, h2⟩ := h
        have h3 := h1 w1 rfl
        unfold Oper.quietAt at h3
        unfold Oper.still
        generalize (execOp a.eval o).run P w1 = rs at h3
        cases rs with
        | ok nx w' =>
          cases nx <;> simp only [Oper.quietUpon] at h3 <;> simp only [Oper.stillUpon]
          case value u => obtain ⟨e1, e2⟩ := h3; exact ⟨e1, by rw [e2]; exact ih _ h2⟩
          case skip => obtain ⟨e1, e2⟩ := h3; exact ⟨e1, by rw [← e2]; exact ih _ h2⟩
          case enter g xs => obtain ⟨e1, hc⟩ := h3; exact ⟨e1, v, hc, ih _ h2⟩
        | halt x w' => simp only [Oper.quietUpon] at h3
      · rename_i hw
        rw [if_neg hw] at h
        exact ih _ h
  exact still _ _ _ _ h2

/-- The last operation, a store. -/
theorem V_nilStore (E : Env P) {C : World → Prop} {w1 : World} {t : TypeId} {x y : Operand} {b o : Nat} {cs seg : List Value} {bt : TypeId} {de : TypeDesc} {s : Nat} (hb : Blk w1 b cs bt) (ht : E.ty t = some (de, s)) (hx : ev m x = some (.pointer (some ⟨b, o, none⟩))) (hy : ev m y = some (.agg seg.toArray)) (hl : seg.length = s) (ho : o + s ≤ cs.length) (h1 : ∀ u ∈ seg, u.oneCell' = true)
    (h : ∀ w', Upd w1 w' b (cs.take o ++ seg ++ cs.drop (o + s)) bt → K Q n ds m w') :
    V P n (fun a' => wpList P ops Q [{ dst := none, op := .store t x y, type := ty, pos := ps, after := af, guard := none }] { a' with defers := ds } w1) C ops [] m := by
  intro a ha
  obtain ⟨w', hu, hr⟩ := ro_storeA (n := n) (ty := ty) (ps := ps) (af := af) E hb ht hx hy hl ho h1 (dst := none) (gd := none)
  refine wpQuiet_nil (wpList_plain rfl fun KK hK => ?_)
  unfold Oper.wp
  rw [show execOp ({ a with defers := ds } : Act).eval { dst := none, op := .store t x y, type := ty, pos := ps, after := af, guard := none } = execOp a.eval { dst := none, op := .store t x y, type := ty, pos := ps, after := af, guard := none } from rfl, hr a ha, Oper.upon_skip]
  exact hK _ _ (wpList_nil (h w' hu _ ⟨⟨ha.size, rfl, ha.get⟩, rfl⟩))

theorem fits_args {fn : Func} {vs : List Value} (hn : fn.ntmps = n) (hl : Nat.ble vs.length n = true) : FitsD { tmps := vs.toArray ++ Array.replicate (fn.ntmps - vs.toArray.size) undef, defers := [] } n (args 0 vs) [] := by
  have hl' : vs.length ≤ n := by simpa using hl
  refine ⟨⟨by simp [hn]; omega, rfl, fun i v hv => ?_⟩, rfl⟩
  obtain ⟨_, h2⟩ := look_args vs 0 i v hv
  have hlt : i < vs.length := by
    have := (List.getElem?_eq_some_iff.1 h2).1
    simpa using this
  simp only [Nat.sub_zero] at h2
  show (vs.toArray ++ _)[i]? = _
  rw [Array.getElem?_append_left (by simpa using hlt)]
  simpa using h2
theorem JL_box (E : Env P) (hF : ∀ f, F.fn f) {t : TypeId} {x : Operand} {v : Value} {cs : List Value} (hx : ev m x = some v) (hz : v.cells = cs.toArray) (hd : Nat.blt d n = true)
    (h : ∀ b w', New w w' b cs t → JL F nn P Q n ds ops rest ((d, .pointer (some ⟨b, 0, none⟩)) :: m) w') : JL F nn P Q n ds ops ({ dst := some d, op := .box t x, type := ty, pos := ps, after := af, guard := none } :: rest) m w :=
  have _ := E
  JL_run hF (fun _ e => by cases e) rfl rfl hd (fun a ha => by simp [execOp, Instr.box, ha.eval hx, r_new w t v cs hz]) (h _ _ (New.alloc w cs t))
theorem JL_call {xs : List Operand} {ats : Array TypeId} {g : FuncId} {vs : List Value} {G : Value → World → Prop} (hvs : evs m xs = some vs) (hd : Nat.blt d n = true)
    (hcall : ∀ w, (callFunc g vs.toArray).run P w = .ok (.enter g vs.toArray) w) (hc : Calls P g vs.toArray w (Ret G)) (h : ∀ v w', G v w' → JL Fence.wide nn P Q n ds ops rest ((d, v) :: m) w') :
    JL Fence.wide nn P Q n ds ops ({ dst := some d, op := .call { callee := .value (.func g), args := xs.toArray, argTypes := ats }, type := ty, pos := ps, after := af, guard := none } :: rest) m w := by
  intro a ha
  refine wpListIn_plain rfl fun KK hK => ⟨fun f _ => trivial, ?_⟩
  rw [Oper.semAt_eq _ _ _ (fun _ e => by cases e)]
  have hr : (execOp a.eval { dst := some d, op := .call { callee := .value (.func g), args := xs.toArray, argTypes := ats }, type := ty, pos := ps, after := af, guard := none }).run P w = .ok (.enter g vs.toArray) w := by
    have hvv : xs.map a.eval = vs := ha.fits.evals hvs
    simp only [execOp, resolve, Deferred.ofValue, Act.eval, Sem.run_bind, Sem.run_pure, Result.andThen_ok, invoke, List.map_toArray]
    have : (xs.map a.eval).toArray = vs.toArray := by rw [hvv]
    simpa [this] using hcall w
  rw [hr, Oper.uponIn_enter]
  refine ⟨fun e => (by cases e), callsIn_wide.2 (hc.mono ?_)⟩
  rintro e w' ⟨v, rfl, hG⟩
  exact hK _ _ (h v w' hG _ (ha.put v hd))
end
end Go.Proofs.YtoefhdaenaiomaaDoor

/- slices.Backward over the writes; the iterator. -/
namespace Go.Proofs.YtoefhdaenaiomaaDoor
open Go Go.RowKit
set_option maxRecDepth 20000

/-- A sector as the last write has it. -/
def nowS (l : List (List UInt8)) (ws : List (Nat × List UInt8)) (i : Nat) : List UInt8 := ws.foldl (fun s p => if p.1 = i then p.2 else s) (l.getD i [])
theorem nowS_snoc (l : List (List UInt8)) (ws : List (Nat × List UInt8)) (p : Nat × List UInt8) (i : Nat) : nowS l (ws ++ [p]) i = if p.1 = i then p.2 else nowS l ws i := by
  simp [nowS]
def at_ (ws : List (Nat × List UInt8)) (j : Nat) : Nat × List UInt8 := ws.getD j (0, zeros 256)
theorem at_get {ws : List (Nat × List UInt8)} {j : Nat} (h : j < ws.length) : at_ ws j = ws[j] := by
  rw [at_, List.getD_eq_getElem?_getD, List.getElem?_eq_getElem h, Option.getD_some]
theorem nowS_take (l : List (List UInt8)) (ws : List (Nat × List UInt8)) (i : Nat) : ∀ d k, ws.length - k = d → k ≤ ws.length → (∀ j, k ≤ j → j < ws.length → (at_ ws j).1 ≠ i) → nowS l ws i = nowS l (ws.take k) i := by
  intro d
  induction d with
  | zero =>
    intro k hd hk _
    rw [List.take_of_length_le (by omega)]
  | succ d ih =>
    intro k hd hk h
    have hk' : k < ws.length := by omega
    rw [ih (k + 1) (by omega) (by omega) (fun j hj hl => h j (by omega) hl), take_snoc ws k hk', nowS_snoc, if_neg]
    have := h k (Nat.le_refl _) hk'
    rwa [at_get hk'] at this
theorem nowS_none (l : List (List UInt8)) (ws : List (Nat × List UInt8)) (i : Nat) (h : ∀ j, j < ws.length → (at_ ws j).1 ≠ i) : nowS l ws i = l.getD i [] := by
  rw [nowS_take l ws i _ 0 rfl (Nat.zero_le _) (fun j _ hl => h j hl), List.take_zero]
  rfl
theorem nowS_some (l : List (List UInt8)) (ws : List (Nat × List UInt8)) (i k : Nat) (hk : k < ws.length) (he : (at_ ws k).1 = i) (h : ∀ j, k < j → j < ws.length → (at_ ws j).1 ≠ i) : nowS l ws i = (at_ ws k).2 := by
  rw [nowS_take l ws i _ (k + 1) rfl (by omega) (fun j hj hl => h j (by omega) hl), take_snoc ws k hk, nowS_snoc, ← at_get hk, if_pos he]
theorem nowS_len (l : List (List UInt8)) (ws : List (Nat × List UInt8)) (i : Nat) (hl : ∀ x ∈ l, x.length = 256) (hw : ∀ p ∈ ws, p.2.length = 256) (hi : i < l.length) : (nowS l ws i).length = 256 := by
  have key : ∀ (ws : List (Nat × List UInt8)) (s : List UInt8), s.length = 256 → (∀ p ∈ ws, p.2.length = 256) → (ws.foldl (fun s p => if p.1 = i then p.2 else s) s).length = 256 := by
    intro ws
    induction ws with
    | nil => intro s hs _; exact hs
    | cons p ws ih =>
      intro s hs hw
      refine ih _ ?_ (fun q hq => hw q (by simp [hq]))
      dsimp only
      split
      · exact hw p (by simp)
      · exact hs
  exact key ws _ (sec_of l hl i hi) hw

theorem at_len {ws : List (Nat × List UInt8)} (hw : ∀ p ∈ ws, p.2.length = 256) (j : Nat) : (at_ ws j).2.length = 256 := by
  by_cases h : j < ws.length
  · rw [at_get h]; exact hw _ (List.getElem_mem h)
  · rw [at_, List.getD_eq_getElem?_getD, List.getElem?_eq_none (by omega), Option.getD_none]; exact zeros_len 256

/-- What has come when k rounds are over. -/
def desc (N k : Nat) : List Nat := (List.range k).map fun i => N - 1 - i
theorem desc_succ (N k : Nat) : desc N (k + 1) = desc N k ++ [N - 1 - k] := by simp [desc, List.range_succ]
theorem desc_len (N k : Nat) : (desc N k).length = k := by simp [desc]
theorem desc_mem {N k j : Nat} (h : j ∈ desc N k) : ∃ i, i < k ∧ j = N - 1 - i := by
  simp only [desc, List.mem_map, List.mem_range] at h
  obtain ⟨i, h1, h2⟩ := h
  exact ⟨i, h1, h2.symm⟩

theorem back_c (w : World) (v : Value) (h1 : v.oneCell' = true) :
    Calls Tryd.prog 103 [v].toArray w (Ret fun r w' => ∃ b, New w w' b [v] 97 ∧ r = .func (.func 115) #[] #[ptr b]) := by
  refine calls_T Tryd.func103 rfl rfl rfl ?_
  repeat (first | (with_reducible first | apply T_seq | apply T_region | apply U_nil | apply T_skip | apply T_block | apply T_inBlock | apply Cnd_t | apply Cnd_f | apply Cnd_not | apply Cnd_some | apply Cnd_none | apply Gd_nt | apply Gd_nf | apply Gd_some | apply Gd_none | apply Gd_want) | refine U_ar rfl rfl rfl (wrap_i64 (by omega)) rfl ?_ | refine U_pure E rfl rfl ?_ | refine T_exit rfl ?_ | refine T_condV rfl ?_ | refine U_guard rfl rfl ?_ | ((with_reducible refine Gd_skipT ?_ ?_); exact rfl) | ((with_reducible refine Gd_skipF ?_ ?_); exact rfl))
  refine U_box E (cs := [v]) rfl (by cases v <;> simp [Value.oneCell'] at h1 <;> rfl) rfl ?_
  intro b w1 hn
  repeat (first | (with_reducible first | apply T_seq | apply T_region | apply U_nil | apply T_skip | apply T_block | apply T_inBlock | apply Cnd_t | apply Cnd_f | apply Cnd_not | apply Cnd_some | apply Cnd_none | apply Gd_nt | apply Gd_nf | apply Gd_some | apply Gd_none | apply Gd_want) | refine U_ar rfl rfl rfl (wrap_i64 (by omega)) rfl ?_ | refine U_pure E rfl rfl ?_ | refine T_exit rfl ?_ | refine T_condV rfl ?_ | refine U_guard rfl rfl ?_ | ((with_reducible refine Gd_skipT ?_ ?_); exact rfl) | ((with_reducible refine Gd_skipF ?_ ?_); exact rfl))
  refine U_same (v := .func (.func 115) #[] #[.pointer (some ⟨b, 0, none⟩)]) (fun a ha => ?_) rfl ?_
  · have := ha.get 1 _ rfl
    simp [execOp, Instr.makeFunc, Act.eval, this]
  · repeat (first | (with_reducible first | apply T_seq | apply T_region | apply U_nil | apply T_skip | apply T_block | apply T_inBlock | apply Cnd_t | apply Cnd_f | apply Cnd_not | apply Cnd_some | apply Cnd_none | apply Gd_nt | apply Gd_nf | apply Gd_some | apply Gd_none | apply Gd_want) | refine U_ar rfl rfl rfl (wrap_i64 (by omega)) rfl ?_ | refine U_pure E rfl rfl ?_ | refine T_exit rfl ?_ | refine T_condV rfl ?_ | refine U_guard rfl rfl ?_ | ((with_reducible refine Gd_skipT ?_ ?_); exact rfl) | ((with_reducible refine Gd_skipF ?_ ?_); exact rfl))
    exact T_ret1 Tryd.func103 rfl rfl ⟨_, rfl, b, hn, rfl⟩

def encI (ws : List (Nat × List UInt8)) (j : Nat) : Array Value := #[.int .i64 j, .agg (encW (at_ ws j)).toArray]

set_option maxHeartbeats 1000000 in
theorem back1_stops (F : Fence) (hF : ∀ f, F.fn f) (hdp : F.depth = none) (hro : F.round = none) (nn : Nat) (w : World) (Bs : Nat) (A : Option Addr) (c : Nat) (ws : List (Nat × List UInt8)) (G : Nat → Prop) (hws : ∀ p ∈ ws, p.2.length = 256) (hwn : ws.length ≤ 1000000)
    (hBs : Blk w Bs [.slice A ws.length c] 97) (hr : Row w G (.slice A ws.length c) 257 ws.length (ws.map encW).flatten 103) :
    SeqStopsK F nn Tryd.prog 115 #[ptr Bs] (encI ws) (Below w.heap.size) (fun xs => xs = desc ws.length ws.length) (fun pre => ∃ k, k < ws.length ∧ pre = desc ws.length (k + 1)) ws.length w := by
  intro l JJ Jx W hW _ _ hY h0
  have hkW : Kept none0 w W := ⟨hW.os, hW.tape, hW.output, hW.size, fun b hb _ => hW.block b hb⟩
  refine callsIn_of_wp Tryd.func115 rfl (hF _) ?_ hro
  refine (?_ : J F nn Tryd.prog _ Tryd.f115.ntmps [] _ _ W) _ (fits_args (vs := [.func (.yield l) #[] #[], ptr Bs]) rfl rfl)
  unfold ptr at *
  have hB := hBs.mv hkW (fun x => x)
  repeat (first | with_reducible refine J_seq ?_ | with_reducible refine J_region ?_ | with_reducible refine JL_nil ?_ | with_reducible refine K_then ?_ | with_reducible refine K_block ?_ | with_reducible refine J_skip ?_ | with_reducible refine J_block ?_ | refine JL_ar hF rfl rfl rfl (wrap_i64 (by omega)) rfl ?_ | refine JL_pure E hF rfl (fun _ e => by cases e) rfl ?_)
  refine JL_run hF (fun _ e => by cases e) rfl rfl rfl (ro_loadB E (hB) rfl rfl rfl (by rfl)) ?_
  repeat (first | with_reducible refine J_seq ?_ | with_reducible refine J_region ?_ | with_reducible refine JL_nil ?_ | with_reducible refine K_then ?_ | with_reducible refine K_block ?_ | with_reducible refine J_skip ?_ | with_reducible refine J_block ?_ | refine JL_ar hF rfl rfl rfl (wrap_i64 (by omega)) rfl ?_ | refine JL_pure E hF rfl (fun _ e => by cases e) rfl ?_)
  refine J_loop (α := Nat) (fun k => [(3, .int .i64 ((ws.length : Int) - 1 - k)), (0, .func (.yield l) #[] #[]), (1, .pointer (some ⟨Bs, 0, none⟩))]) (fun k W1 => k ≤ ws.length ∧ JJ (desc ws.length k) W1 ∧ Below w.heap.size w W1)
    (fun a => (intOf (a.tmps.getD 3 undef) + 1).toNat) 0 ⟨Nat.zero_le _, h0, hW⟩ ⟨by simp [look], rfl, rfl, trivial⟩ ?_
  rintro k W1 ⟨hk, hJ, hb1⟩ a1 ha1
  have hmu : intOf (a1.tmps.getD 3 undef) = (ws.length : Int) - 1 - k := by
    have := ha1.fits.get 3 _ rfl
    simp [this, intOf]
  have hkW1 : Kept none0 w W1 := ⟨hb1.os, hb1.tape, hb1.output, hb1.size, fun b hb _ => hb1.block b hb⟩
  refine (?_ : J F nn Tryd.prog _ Tryd.f115.ntmps [] _ _ W1) a1 ha1
  repeat (first | with_reducible refine J_seq ?_ | with_reducible refine J_region ?_ | with_reducible refine JL_nil ?_ | with_reducible refine K_then ?_ | with_reducible refine K_block ?_ | with_reducible refine J_skip ?_ | with_reducible refine J_block ?_ | refine JL_ar hF rfl rfl rfl (wrap_i64 (by omega)) rfl ?_ | refine JL_pure E hF rfl (fun _ e => by cases e) rfl ?_)
  by_cases hlt : k < ws.length
  · refine J_cond rfl (fun _ => ?_) (fun h => absurd (of_decide_eq_false h) (by omega))
    have hj : ws.length - 1 - k < ws.length := by omega
    have hr1 := hr.mv hkW1 (fun _ _ _ x => x)
    have hB1 := hBs.mv hkW1 (fun x => x)
    obtain ⟨gw, rfl, _, hseg⟩ := wait_seg hws hr1 rfl hj
    have hln := hws _ (List.getElem_mem hj)
    repeat (first | with_reducible refine J_seq ?_ | with_reducible refine J_region ?_ | with_reducible refine JL_nil ?_ | with_reducible refine K_then ?_ | with_reducible refine K_block ?_ | with_reducible refine J_skip ?_ | with_reducible refine J_block ?_ | refine JL_ar hF rfl rfl rfl (wrap_i64 (by omega)) rfl ?_ | refine JL_pure E hF rfl (fun _ e => by cases e) rfl ?_)
    refine JL_run hF (fun _ e => by cases e) rfl rfl rfl (ro_loadB E (hB1) rfl rfl rfl (by rfl)) ?_
    repeat (first | with_reducible refine J_seq ?_ | with_reducible refine J_region ?_ | with_reducible refine JL_nil ?_ | with_reducible refine K_then ?_ | with_reducible refine K_block ?_ | with_reducible refine J_skip ?_ | with_reducible refine J_block ?_ | refine JL_ar hF rfl rfl rfl (wrap_i64 (by omega)) rfl ?_ | refine JL_pure E hF rfl (fun _ e => by cases e) rfl ?_)
    refine JL_run hF (fun _ e => by cases e) rfl rfl rfl (ro_indexS (o' := (ws.length - 1 - k) * 257) E rfl rfl rfl rfl (by omega) (by omega) (by rw [Nat.zero_add, show ((ws.length : Int) - 1 - k).toNat = ws.length - 1 - k by omega])) ?_
    refine JL_run hF (fun _ e => by cases e) rfl rfl rfl (ro_loadA E (hseg) rfl rfl rfl (by rw [encW_len, hln])) ?_
    have hy := hY (desc ws.length k) (ws.length - 1 - k) W1 hJ (by rw [desc_len]; exact hlt)
    refine JL_yield hF hdp (G := fun v W2 => (v = .bool true ∧ JJ (desc ws.length (k + 1)) W2 ∧ Below w.heap.size W1 W2) ∨ (v = .bool false ∧ Jx (desc ws.length (k + 1)) W2)) rfl (vs := [.int .i64 ((ws.length : Int) - 1 - k), .agg (encW ws[ws.length - 1 - k]).toArray]) rfl rfl ?_ ?_
    · obtain ⟨fn, tmps, assign, body, h1, h2⟩ := hy
      refine ⟨fn, tmps, assign, body, ?_, h2.mono ?_⟩
      · rw [← h1, encI, at_get hj, show ((ws.length - 1 - k : Nat) : Int) = (ws.length : Int) - 1 - k by omega]
      · rintro e W2 (⟨rfl, h3, h4⟩ | ⟨rfl, h3⟩)
        · exact ⟨_, rfl, .inl ⟨rfl, by rw [desc_succ]; exact h3, h4⟩⟩
        · exact ⟨_, rfl, .inr ⟨rfl, by rw [desc_succ]; exact h3⟩⟩
    rintro v W2 (⟨rfl, hJ2, hb2⟩ | ⟨rfl, hJ2⟩)
    · repeat (first | with_reducible refine J_seq ?_ | with_reducible refine J_region ?_ | with_reducible refine JL_nil ?_ | with_reducible refine K_then ?_ | with_reducible refine K_block ?_ | with_reducible refine J_skip ?_ | with_reducible refine J_block ?_ | refine JL_ar hF rfl rfl rfl (wrap_i64 (by omega)) rfl ?_ | refine JL_pure E hF rfl (fun _ e => by cases e) rfl ?_)
      refine J_cond rfl (fun h => by cases h) (fun _ => ?_)
      repeat (first | with_reducible refine J_seq ?_ | with_reducible refine J_region ?_ | with_reducible refine JL_nil ?_ | with_reducible refine K_then ?_ | with_reducible refine K_block ?_ | with_reducible refine J_skip ?_ | with_reducible refine J_block ?_ | refine JL_ar hF rfl rfl rfl (wrap_i64 (by omega)) rfl ?_ | refine JL_pure E hF rfl (fun _ e => by cases e) rfl ?_)
      intro a2 ha2
      show (∃ y, _) ∧ _
      refine ⟨⟨k + 1, ⟨hlt, hJ2, hb1.trans hb2⟩, ha2.less ?_⟩, ?_⟩
      · refine ⟨?_, rfl, rfl, trivial⟩
        have : (ws.length : Int) - 1 - ↑k - 1 = (ws.length : Int) - 1 - ↑(k + 1) := by omega
        show some (Value.int IntKind.i64 ((ws.length : Int) - 1 - ↑k - 1)) = _
        rw [this]
      · rw [hmu]
        have := ha2.fits.get 3 _ rfl
        have h2 : intOf (a2.tmps.getD 3 undef) = (ws.length : Int) - 1 - k - 1 := by
          simp [this, intOf]
        rw [h2]
        omega
    · repeat (first | with_reducible refine J_seq ?_ | with_reducible refine J_region ?_ | with_reducible refine JL_nil ?_ | with_reducible refine K_then ?_ | with_reducible refine K_block ?_ | with_reducible refine J_skip ?_ | with_reducible refine J_block ?_ | refine JL_ar hF rfl rfl rfl (wrap_i64 (by omega)) rfl ?_ | refine JL_pure E hF rfl (fun _ e => by cases e) rfl ?_)
      refine J_cond rfl (fun _ => ?_) (fun h => by cases h)
      refine J_ret (fun a2 ha2 => ?_)
      simp only [Exit.then, Exit.inBlock, ↓reduceIte]
      exact bodyPost_ret (results_none rfl _ _ _) ha2.defers ⟨⟨_, rfl⟩, .inr ⟨_, ⟨k, hlt, rfl⟩, hJ2⟩⟩
  · refine J_cond rfl (fun h => absurd (of_decide_eq_true h) (by omega)) (fun _ => ?_)
    refine J_exit (fun a2 ha2 => ?_)
    have : k = ws.length := by omega
    subst this
    simp only [Exit.then, Exit.inBlock, ↓reduceIte]
    exact bodyPost_end (results_none rfl _ _ _) ha2.defers ⟨⟨_, rfl⟩, .inl ⟨_, rfl, hJ⟩⟩
end Go.Proofs.YtoefhdaenaiomaaDoor

/- A sector as the last write has it. -/
namespace Go.Proofs.YtoefhdaenaiomaaDoor
open Go Go.RowKit
set_option maxRecDepth 20000

theorem Blk.grown {w w' : World} {b : Nat} {cs : List Value} {t : TypeId} {row : Option Nat} (h : Blk w b cs t) (hg : w.grownBy w' row) (hr : ∀ r, row = some r → ∃ o : Obj, w.heap[r]? = some o ∧ o.isCells = false) : Blk w' b cs t := by
  refine (hg.block b h.lt (fun e => ?_)).trans h
  obtain ⟨o, h1, h2⟩ := hr b e.symm
  rw [h] at h1
  cases h1
  cases h2
theorem Upd.keepsFrom {w w' : World} {b : Nat} {cs : List Value} {t : TypeId} {cs0 : List Value} {t0 : TypeId} (h : Upd w w' b cs t) (h0 : Blk w b cs0 t0) (B : Nat) : KeepsFrom B w w' :=
  ⟨h.kept.size, fun k o _ hk ho => by
    have hne : k ≠ b := fun e => by rw [e] at hk; rw [h0] at hk; cases hk; cases ho
    exact (h.kept.same k (Array.getElem?_eq_some_iff.1 hk).1 hne).trans hk⟩
theorem New.keepsFrom {w w' : World} {b : Nat} {cs : List Value} {t : TypeId} (h : New w w' b cs t) (B : Nat) : KeepsFrom B w w' :=
  ⟨h.kept.size, fun k o _ hk _ => (h.kept.same k (Array.getElem?_eq_some_iff.1 hk).1 (fun x => x)).trans hk⟩
theorem Kept.belowOf {B : Nat} {G : Nat → Prop} {w w' : World} (h : Kept G w w') (hB : B ≤ w.heap.size) (hg : ∀ b, G b → B ≤ b) : Below B w w' :=
  ⟨h.os, h.tape, h.output, h.size, fun b hb => h.same b (by omega) (fun x => by have := hg b x; omega)⟩

/-- The call's end, where a range over a function has left its mark: a result in a cell. -/
theorem leave_cell {nn : Nat} {P : Program} {fn : Func} {R : Ending → World → Prop} {a : Act} {n : Nat} {m : Fm} {E b : Nat} {W : World} {seg : List Value} {bt t : TypeId} {p : Tmp} {de : TypeDesc}
    (hr : fn.results = #[.cell p t]) (ha : FitsD a n m [{ target := .collected E, args := #[] }]) (hp : look m p = some (ptr b)) (hb : Blk W b seg bt) (hu : P.underlying t = some de) (hn : notAgg de = false) (hi : (P.info? t).map (·.size) = some seg.length)
    (hD : W.heap[E]? = some (.deferred (some []))) (hR : ∀ W', Kept (fun x => x = E) W W' → R (.returned (.agg seg.toArray)) W') : LeavesInM Fence.wide nn P fn a.tmps R a.defers .returning W := by
  rw [ha.defers]
  have hbE : b ≠ E := fun e => by rw [← e] at hD; rw [hb] at hD; cases hD
  refine ⟨by simp, .inl ⟨E, _, rfl, run_takeDeferred hD, ?_⟩⟩
  refine ⟨_, results_cell_row hr a.tmps _ b bt seg.toArray (0, 0) de ?_ ?_ hu (by cases de <;> simp [notAgg] at hn <;> rfl) (by simpa using hi), hR _ (Kept.of_grown (grownBy_putObj' W E _) |>.mono (fun j _ e => by injection e with e; exact e.symm))⟩
  · have h1 : a.tmps[p]? = some (ptr b) := ha.fits.get p _ hp
    simp [h1, ptr]
  · rw [World.putObj_heap_other hbE]
    exact hb

set_option maxHeartbeats 2000000 in
theorem now_c (w : World) (F : Nat → Prop) (hb : Nat) (D : Dr) (i : Nat) (h : IsD w F hb D) (hi : i < D.l.length) :
    Calls Tryd.prog 79 [ptr hb, .int .i64 i].toArray w (Ret fun r w' => r = .agg (encBs (nowS D.l D.wait i)).toArray ∧ Kept none0 w w') := by
  obtain ⟨h0, vl, vw, h1, h2, h3, h4⟩ := h
  have hws := fun p hp => (h0.waits p hp).2
  have hwn := h0.wn
  have hn2 := h0.n2
  obtain ⟨A, c, rfl⟩ := h4.val
  obtain ⟨g, cap, pad, rfl, hg, hbg, hgl, hgc⟩ := h3.pos h0.n1
  have hF : ∀ f, Fence.wide.fn f := fun _ => trivial
  refine (callsIn_wide (n := 3)).1 (callsIn_of_wp_marks Tryd.func79 rfl trivial ?_)
  refine (?_ : J Fence.wide 3 Tryd.prog _ Tryd.f79.ntmps [] _ _ w) _ (fits_args (vs := [ptr hb, .int .i64 i]) rfl rfl)
  unfold ptr at *
  repeat (first | with_reducible refine J_seq ?_ | with_reducible refine J_region ?_ | with_reducible refine JL_nil ?_ | with_reducible refine K_then ?_ | with_reducible refine K_block ?_ | with_reducible refine J_skip ?_ | with_reducible refine J_block ?_ | refine JL_ar hF rfl rfl rfl (wrap_i64 (by omega)) rfl ?_ | refine JL_pure E hF rfl (fun _ e => by cases e) rfl ?_)
  refine JL_box E hF rfl rfl rfl ?_
  intro b3 w1 hn1
  refine JL_alloc E hF rfl rfl rfl ?_
  intro b4 w2 hn2'
  have hk2 : Kept none0 w w2 := hn1.kept.tr hn2'.kept (fun _ _ x => x)
  have h22 := h2.mv hk2 (fun x => x)
  repeat (first | with_reducible refine J_seq ?_ | with_reducible refine J_region ?_ | with_reducible refine JL_nil ?_ | with_reducible refine K_then ?_ | with_reducible refine K_block ?_ | with_reducible refine J_skip ?_ | with_reducible refine J_block ?_ | refine JL_ar hF rfl rfl rfl (wrap_i64 (by omega)) rfl ?_ | refine JL_pure E hF rfl (fun _ e => by cases e) rfl ?_)
  refine JL_run hF (fun _ e => by cases e) rfl rfl rfl (ro_loadB E (h22) rfl rfl rfl (by rfl)) ?_
  refine JL_call rfl rfl (Tryd.call103 _) (back_c w2 _ rfl) ?_
  rintro r w3 ⟨bS, hn3, rfl⟩
  unfold ptr at *
  have hk3 : Kept none0 w w3 := hk2.tr hn3.kept (fun _ _ x => x)
  have e3 := hn1.at_
  have e4 := hn2'.at_
  have eS := hn3.at_
  have s1 := hn1.size
  have s2 := hn2'.size
  have s3 := hn3.size
  have hb33 : Blk w3 b3 [.int .i64 i] 3 := (hn1.blk.mv hn2'.kept (fun x => x)).mv hn3.kept (fun x => x)
  have hb43 : Blk w3 b4 (encBs (zeros 256)) 101 := by
    have := hn2'.blk.mv hn3.kept (fun x => x)
    rw [encBs_zeros]
    exact this
  repeat (first | with_reducible refine J_seq ?_ | with_reducible refine J_region ?_ | with_reducible refine JL_nil ?_ | with_reducible refine K_then ?_ | with_reducible refine K_block ?_ | with_reducible refine J_skip ?_ | with_reducible refine J_block ?_ | refine JL_ar hF rfl rfl rfl (wrap_i64 (by omega)) rfl ?_ | refine JL_pure E hF rfl (fun _ e => by cases e) rfl ?_)
  intro a ha
  have hev : a.eval (.tmp 11) = .func (.func 115) #[] #[.pointer (some ⟨bS, 0, none⟩)] := ha.fits.eval (x := .tmp 11) rfl
  refine wpIn_rangeFunc_ownH (α := Nat) rfl (by decide) hev (hF _) (fun args w => Tryd.call115 args w)
    (back1_stops Fence.wide hF rfl rfl 2 w3 bS A c D.wait _ hws hwn hn3.blk (h4.mv hk3 (fun _ _ _ x => x))) belowK_t (belowK_b (Nat.le_refl _)) (Below.refl _ _) (fun _ => rfl)
    (fun pre W => Kept none0 w W ∧ w3.heap.size ≤ W.heap.size ∧ Blk W b3 [.int .i64 i] 3 ∧ Blk W b4 (encBs (zeros 256)) 101 ∧ ∀ j ∈ pre, (at_ D.wait j).1 ≠ i)
    (fun cd pre W => cd = .ret ∧ Kept none0 w W ∧ w3.heap.size ≤ W.heap.size ∧ ∃ pre' x, pre = pre' ++ [x] ∧ (∀ j ∈ pre', (at_ D.wait j).1 ≠ i) ∧ (at_ D.wait x).1 = i ∧ Blk W b4 (encBs (at_ D.wait x).2) 101)
    ?hI ?hIx ?h0 (fun x a' W => ∃ b6, w3.heap.size ≤ b6 ∧ Blk W b6 (encW (at_ D.wait x)) 103 ∧ FitsD a' Tryd.f79.ntmps [(6, .pointer (some ⟨b6, 0, none⟩)), (3, .pointer (some ⟨b3, 0, none⟩)), (4, .pointer (some ⟨b4, 0, none⟩))] []) ?hAx ?assign ?body ?done ?stop
  case hI =>
    rintro s W W' row ⟨g1, g2, g3, g4, g5⟩ hgr hrow
    refine ⟨g1.tr (Kept.of_grown hgr) (fun j hj e => ?_), Nat.le_trans g2 hgr.size, g3.grown hgr (fun r e => (hrow r e).2), g4.grown hgr (fun r e => (hrow r e).2), g5⟩
    have := (hrow j e).1
    omega
  case hIx =>
    rintro cd s W W' row ⟨g0, g1, g2, pre', x, g3, g4, g5, g6⟩ hgr hrow
    refine ⟨g0, g1.tr (Kept.of_grown hgr) (fun j hj e => ?_), Nat.le_trans g2 hgr.size, pre', x, g3, g4, g5, g6.grown hgr (fun r e => (hrow r e).2)⟩
    have := (hrow j e).1
    omega
  case h0 => exact ⟨hk3, Nat.le_refl _, hb33, hb43, fun j hj => by cases hj⟩
  case hAx =>
    rintro x a' _ W W' row ⟨b6, g1, g2, g3⟩ hgr hrow
    exact ⟨b6, g1, g2.grown hgr (fun r e => (hrow r e).2), g3⟩
  case assign =>
    intro l pre x W KK ⟨g1, g2, g3, g4, g5⟩ hKK
    have hfit : FitsD { tmps := (#[12, 13].zip (encI D.wait x)).foldl (fun t (p, v) => t.setIfInBounds p v) a.tmps, defers := [] } Tryd.f79.ntmps [(13, .agg (encW (at_ D.wait x)).toArray), (3, .pointer (some ⟨b3, 0, none⟩)), (4, .pointer (some ⟨b4, 0, none⟩))] [] := by
      have e : (#[12, 13].zip (encI D.wait x)).foldl (fun t (p, v) => t.setIfInBounds p v) a.tmps = (a.tmps.setIfInBounds 12 (.int .i64 x)).setIfInBounds 13 (.agg (encW (at_ D.wait x)).toArray) := by simp [encI]
      rw [e]
      have ha0 : FitsD { a with defers := [] } _ _ [] := ⟨ha.fits, rfl⟩
      exact ((ha0.put (d := 12) (.int .i64 x) rfl).put (d := 13) (.agg (encW (at_ D.wait x)).toArray) rfl).less ⟨rfl, rfl, rfl, trivial⟩
    have hln := at_len hws x
    have hF : ∀ f, (Fence.wide.inRound l).fn f := fun _ => trivial
    refine (?_ : J (Fence.wide.inRound l) 1 Tryd.prog _ Tryd.f79.ntmps [] _ _ W) _ hfit
    refine J_region ?_
    refine JL_alloc E hF rfl rfl rfl ?_
    intro b6 W1 hN
    refine JL_storeA E hF hN.blk rfl rfl rfl (by rw [encW_len, hln]) zw_fit (encW_one _) ?_
    intro W2 hU
    have hb6 := hU.blk
    rw [show 257 = (encW (at_ D.wait x)).length by rw [encW_len, hln], splice_all _ _ (by rw [encW_len, hln, zw_len])] at hb6
    have eN := hN.at_
    have hkW : Kept none0 W W2 := hN.kept.tr hU.kept (fun j hj (e : j = b6) => by omega)
    refine JL_nil (fun a2 ha2 => ?_)
    show KK a2 W2
    refine hKK a2 W2 ((hN.keepsFrom _).trans (hU.keepsFrom hN.blk _)) (hkW.belowOf g2 (fun _ x => x.elim)) ⟨g1.tr hkW (fun _ _ x => x), Nat.le_trans g2 hkW.size, g3.mv hkW (fun x => x), g4.mv hkW (fun x => x), g5⟩ ⟨b6, by omega, hb6, ha2.less ⟨rfl, rfl, rfl, trivial⟩⟩
  case body =>
    rintro l pre x a' W _ _ ⟨g1, g2, g3, g4, g5⟩ ⟨b6, g6, g7, g8⟩ _
    have hln := at_len hws x
    have hF : ∀ f, (Fence.wide.inRound l).fn f := fun _ => trivial
    refine (?_ : J (Fence.wide.inRound l) 1 Tryd.prog _ Tryd.f79.ntmps [] _ _ W) _ g8
    repeat (first | with_reducible refine J_seq ?_ | with_reducible refine J_region ?_ | with_reducible refine JL_nil ?_ | with_reducible refine K_then ?_ | with_reducible refine K_block ?_ | with_reducible refine J_skip ?_ | with_reducible refine J_block ?_ | refine JL_ar hF rfl rfl rfl (wrap_i64 (by omega)) rfl ?_ | refine JL_pure E hF rfl (fun _ e => by cases e) rfl ?_)
    refine JL_run hF (fun _ e => by cases e) rfl rfl rfl (ro_loadB E (g7) rfl rfl rfl (by rfl)) ?_
    refine JL_run hF (fun _ e => by cases e) rfl rfl rfl (ro_loadB E (g3) rfl rfl rfl (by rfl)) ?_
    repeat (first | with_reducible refine J_seq ?_ | with_reducible refine J_region ?_ | with_reducible refine JL_nil ?_ | with_reducible refine K_then ?_ | with_reducible refine K_block ?_ | with_reducible refine J_skip ?_ | with_reducible refine J_block ?_ | refine JL_ar hF rfl rfl rfl (wrap_i64 (by omega)) rfl ?_ | refine JL_pure E hF rfl (fun _ e => by cases e) rfl ?_)
    by_cases he : (at_ D.wait x).1 = i
    · refine J_cond rfl (fun _ => ?_) (fun h => absurd (of_decide_eq_false h) (by omega))
      repeat (first | with_reducible refine J_seq ?_ | with_reducible refine J_region ?_ | with_reducible refine JL_nil ?_ | with_reducible refine K_then ?_ | with_reducible refine K_block ?_ | with_reducible refine J_skip ?_ | with_reducible refine J_block ?_ | refine JL_ar hF rfl rfl rfl (wrap_i64 (by omega)) rfl ?_ | refine JL_pure E hF rfl (fun _ e => by cases e) rfl ?_)
      have hs6 : Seg W b6 1 (encBs (at_ D.wait x).2) := by
        have := g7.whole.drop 1
        simpa [encW] using this
      refine JL_run hF (fun _ e => by cases e) rfl rfl rfl (ro_loadA E (hs6) rfl rfl rfl (by rw [encBs_len, hln])) ?_
      refine JL_storeA E hF g4 rfl rfl rfl (by rw [encBs_len, hln]) (by rw [encBs_len, zeros_len]; exact Nat.le_refl 256) (encBs_one _) ?_
      intro W2 hU
      have hb4 := hU.blk
      rw [show 256 = (encBs (at_ D.wait x).2).length by rw [encBs_len, hln], splice_all _ _ (by rw [encBs_len, encBs_len, hln, zeros_len])] at hb4
      repeat (first | with_reducible refine J_seq ?_ | with_reducible refine J_region ?_ | with_reducible refine JL_nil ?_ | with_reducible refine K_then ?_ | with_reducible refine K_block ?_ | with_reducible refine J_skip ?_ | with_reducible refine J_block ?_ | refine JL_ar hF rfl rfl rfl (wrap_i64 (by omega)) rfl ?_ | refine JL_pure E hF rfl (fun _ e => by cases e) rfl ?_)
      refine J_ret (fun a2 ha2 => ?_)
      simp only [Exit.then, Exit.inBlock, ownPostG]
      exact ⟨hU.keepsFrom g4 _, trivial, g1.tr hU.kept (fun j hj (e : j = b4) => by omega), Nat.le_trans g2 hU.kept.size, pre, x, rfl, g5, he, hb4⟩
    · refine J_cond rfl (fun h => absurd (of_decide_eq_true h) (by omega)) (fun _ => ?_)
      repeat (first | with_reducible refine J_seq ?_ | with_reducible refine J_region ?_ | with_reducible refine JL_nil ?_ | with_reducible refine K_then ?_ | with_reducible refine K_block ?_ | with_reducible refine J_skip ?_ | with_reducible refine J_block ?_ | refine JL_ar hF rfl rfl rfl (wrap_i64 (by omega)) rfl ?_ | refine JL_pure E hF rfl (fun _ e => by cases e) rfl ?_)
      intro a2 ha2
      simp only [Exit.then, Exit.inBlock, ownPostG]
      refine ⟨KeepsFrom.refl _ _, Below.refl _ _, g1, g2, g3, g4, fun j hj => ?_⟩
      rcases List.mem_append.1 hj with hj | hj
      · exact g5 j hj
      · rw [List.mem_singleton.1 hj]; exact he
  case done =>
    rintro Dd xs W hE rfl ⟨g1, g2, g3, g4, g5⟩ hDf
    have hnone : nowS D.l D.wait i = D.l.getD i [] := nowS_none _ _ _ (fun j hj => g5 j (by
      simp only [desc, List.mem_map, List.mem_range]
      exact ⟨D.wait.length - 1 - j, by omega, by omega⟩))
    have haD : FitsD { a with defers := { target := .collected Dd, args := #[] } :: a.defers } _ _ [{ target := .collected Dd, args := #[] }] := ⟨ha.fits, by rw [ha.defers]⟩
    simp only [Exit.then, Exit.inBlock]
    refine (?_ : J Fence.wide 3 Tryd.prog _ Tryd.f79.ntmps _ _ _ W) _ haD
    refine J_seq ?_
    refine J_tail 7 (by kernel_rfl) (by kernel_rfl) (fun w5 hd5 => ?_)
    simp only [List.take_succ_cons, List.take_zero, List.drop_succ_cons, List.drop_zero]
    have hk5 := g1.tr (hd5.kept none0) (fun _ _ x => x)
    have h25 := h2.mv hk5 (fun x => x)
    have hb35 := g3.mv (hd5.kept none0) (fun x => x)
    have hb45 := g4.mv (hd5.kept none0) (fun x => x)
    have hg5 := hbg.mv hk5 (fun x => x)
    have hsegs := encSegs h0.secs
    have hsec := h0.secs _ (List.getElem_mem hi)
    have hsg : Seg w5 g (i * 256) (encBs D.l[i]) := by
      have := hg5.seg (i * 256) 256
      rw [flat_part (sz := 256) _ _ hsegs (by simpa using hi)] at this
      simpa using this
    (repeat (first | refine V_ar rfl rfl rfl (wrap_i64 (by omega)) rfl ?_ | refine V_pure E rfl rfl ?_ | refine V_guard rfl rfl ?_ | with_reducible refine GdV_want ?_ | ((with_reducible refine GdV_skipT ?_ ?_); exact rfl) | ((with_reducible refine GdV_skipF ?_ ?_); exact rfl)))
    refine V_loadB E (by first | exact fun _ h => h.heap | (intro _ h; subst h; rfl)) (by assumption) rfl rfl rfl (by rfl) rfl ?_
    (repeat (first | refine V_ar rfl rfl rfl (wrap_i64 (by omega)) rfl ?_ | refine V_pure E rfl rfl ?_ | refine V_guard rfl rfl ?_ | with_reducible refine GdV_want ?_ | ((with_reducible refine GdV_skipT ?_ ?_); exact rfl) | ((with_reducible refine GdV_skipF ?_ ?_); exact rfl)))
    refine V_loadB E (by first | exact fun _ h => h.heap | (intro _ h; subst h; rfl)) (by assumption) rfl rfl rfl (by rfl) rfl ?_
    (repeat (first | refine V_ar rfl rfl rfl (wrap_i64 (by omega)) rfl ?_ | refine V_pure E rfl rfl ?_ | refine V_guard rfl rfl ?_ | with_reducible refine GdV_want ?_ | ((with_reducible refine GdV_skipT ?_ ?_); exact rfl) | ((with_reducible refine GdV_skipF ?_ ?_); exact rfl)))
    refine V_indexS E rfl rfl rfl rfl (by omega) (by omega) (by rw [Int.toNat_natCast, Nat.zero_add]) rfl ?_
    refine V_loadA E (by first | exact fun _ h => h.heap | (intro _ h; subst h; rfl)) (hsg) rfl rfl rfl (by rw [encBs_len, hsec]) rfl ?_
    refine V_nilStore E hb45 rfl rfl rfl (by rw [encBs_len, hsec]) (by rw [encBs_len, zeros_len]; exact Nat.le_refl 256) (encBs_one _) (fun w6 hu6 => ?_)
    have hb46 := hu6.blk
    rw [show 256 = (encBs D.l[i]).length by rw [encBs_len, hsec], splice_all _ _ (by rw [encBs_len, encBs_len, hsec, zeros_len])] at hb46
    have hD6 : w6.heap[Dd]? = some (.deferred (some [])) := by
      have hne : Dd ≠ b4 := fun e => by rw [e] at hDf; rw [g4] at hDf; cases hDf
      have h5 : w5.heap[Dd]? = some (.deferred (some [])) := by rw [hd5.heap]; exact hDf
      exact (hu6.kept.same Dd (Array.getElem?_eq_some_iff.1 h5).1 hne).trans h5
    refine K_then (J_ret (fun a2 ha2 => ?_))
    refine leave_cell rfl ha2 (b := b4) rfl hb46 (E.ok _ _ _ rfl).1 rfl (by rw [encBs_len, hsec]; exact (E.ok _ _ _ rfl).2) hD6 (fun W' hkW => ⟨_, rfl, ?_, ?_⟩)
    · rw [hnone, List.getD_eq_getElem?_getD, List.getElem?_eq_getElem hi, Option.getD_some]
    · exact (hk5.tr hu6.kept (fun j hj (e : j = b4) => by omega)).tr hkW (fun j hj (e : j = Dd) => by omega)
  case stop =>
    rintro Dd cd pre W hE ⟨k, hk, rfl⟩ ⟨rfl, g1, g2, pre', x, g3, g4, g5, g6⟩ hDf
    rw [desc_succ] at g3
    obtain ⟨e1, e2⟩ := List.append_inj' g3 rfl
    have ex : x = D.wait.length - 1 - k := by injection e2 with e2; exact e2.symm
    subst e1
    subst ex
    have hsome : nowS D.l D.wait i = (at_ D.wait (D.wait.length - 1 - k)).2 := nowS_some _ _ _ _ (by omega) g5 (fun j hj hjl => g4 j (by
      simp only [desc, List.mem_map, List.mem_range]
      exact ⟨D.wait.length - 1 - j, by omega, by omega⟩))
    have haD : FitsD { a with defers := { target := .collected Dd, args := #[] } :: a.defers } _ _ [{ target := .collected Dd, args := #[] }] := ⟨ha.fits, by rw [ha.defers]⟩
    refine wpIn_ret ?_
    simp only [Exit.then, Exit.inBlock]
    refine leave_cell rfl haD (b := b4) rfl g6 (E.ok _ _ _ rfl).1 rfl (by rw [encBs_len, at_len hws]; exact (E.ok _ _ _ rfl).2) hDf (fun W' hkW => ⟨_, rfl, ?_, ?_⟩)
    · rw [hsome]
    · exact g1.tr hkW (fun j hj (e : j = Dd) => by omega)
end Go.Proofs.YtoefhdaenaiomaaDoor

/- Read. -/
namespace Go.Proofs.YtoefhdaenaiomaaDoor
open Go
set_option maxRecDepth 20000

theorem blk_bs {w : World} {G : Nat → Prop} {b : Nat} {s : List UInt8} {t : TypeId} (h : Blk w b (encBs s) t) (hs : s.length = 256) (hg : G b) : BS w G (.slice (some ⟨b, 0, none⟩) 256 256) s := by
  refine ⟨by omega, by rw [encBs_len, Nat.mul_one], some ⟨b, 0, none⟩, 256, by rw [hs], by omega, .inr ⟨b, 0, rfl, hg, h.lt, h.whole⟩⟩

theorem read_c (w : World) (F : Nat → Prop) (hb : Nat) (D : Dr) (i : Nat) (h : IsD w F hb D) (hi : i < D.l.length) :
    Calls Tryd.prog 36 [ptr hb, .int .i64 i].toArray w (Ret fun r w' => ∃ b, r = .tuple #[.slice (some ⟨b, 0, none⟩) 256 256, .nilIface] ∧ w.heap.size ≤ b ∧ Blk w' b (encBs (nowS D.l D.wait i)) 101 ∧ Kept none0 w w') := by
  have hf := fits_c w F hb D i h
  rw [if_pos (by omega)] at hf
  have hn := now_c w F hb D i h hi
  have hln := nowS_len D.l D.wait i h.1.secs (fun p hp => (h.1.waits p hp).2) hi
  refine calls_T Tryd.func36 rfl rfl rfl ?_
  unfold ptr at *
  repeat (first | (with_reducible first | apply T_seq | apply T_region | apply U_nil | apply T_skip | apply T_block | apply T_inBlock | apply Cnd_t | apply Cnd_f | apply Cnd_not | apply Cnd_some | apply Cnd_none | apply Gd_nt | apply Gd_nf | apply Gd_some | apply Gd_none | apply Gd_want) | refine U_ar rfl rfl rfl (wrap_i64 (by omega)) rfl ?_ | refine U_pure E rfl rfl ?_ | refine T_exit rfl ?_ | refine T_condV rfl ?_ | refine U_guard rfl rfl ?_ | ((with_reducible refine Gd_skipT ?_ ?_); exact rfl) | ((with_reducible refine Gd_skipF ?_ ?_); exact rfl))
  refine U_call rfl rfl (Tryd.call70 _) (ret_of hf) ?_
  rintro r w1 ⟨rfl, rfl⟩
  unfold errV
  repeat (first | (with_reducible first | apply T_seq | apply T_region | apply U_nil | apply T_skip | apply T_block | apply T_inBlock | apply Cnd_t | apply Cnd_f | apply Cnd_not | apply Cnd_some | apply Cnd_none | apply Gd_nt | apply Gd_nf | apply Gd_some | apply Gd_none | apply Gd_want) | refine U_ar rfl rfl rfl (wrap_i64 (by omega)) rfl ?_ | refine U_pure E rfl rfl ?_ | refine T_exit rfl ?_ | refine T_condV rfl ?_ | refine U_guard rfl rfl ?_ | ((with_reducible refine Gd_skipT ?_ ?_); exact rfl) | ((with_reducible refine Gd_skipF ?_ ?_); exact rfl))
  refine U_call rfl rfl (Tryd.call79 _) (hn) ?_
  rintro r w2 ⟨rfl, hk2⟩
  refine U_alloc E rfl rfl rfl ?_
  intro b w3 hn3
  refine U_storeA E (hn3.blk) rfl rfl rfl (by rw [encBs_len, hln]) (by rw [List.length_replicate]; exact Nat.le_refl 256) (encBs_one _) ?_
  intro w4 hu4
  have hb4 := hu4.blk
  rw [show 256 = (encBs (nowS D.l D.wait i)).length by rw [encBs_len, hln], splice_all _ _ (by rw [encBs_len, hln, List.length_replicate])] at hb4
  have e3 := hn3.at_
  have s2 := hk2.size
  repeat (first | (with_reducible first | apply T_seq | apply T_region | apply U_nil | apply T_skip | apply T_block | apply T_inBlock | apply Cnd_t | apply Cnd_f | apply Cnd_not | apply Cnd_some | apply Cnd_none | apply Gd_nt | apply Gd_nf | apply Gd_some | apply Gd_none | apply Gd_want) | refine U_ar rfl rfl rfl (wrap_i64 (by omega)) rfl ?_ | refine U_pure E rfl rfl ?_ | refine T_exit rfl ?_ | refine T_condV rfl ?_ | refine U_guard rfl rfl ?_ | ((with_reducible refine Gd_skipT ?_ ?_); exact rfl) | ((with_reducible refine Gd_skipF ?_ ?_); exact rfl))
  refine U_run rfl rfl rfl (ro_sliceArr E rfl rfl rfl rfl) ?_
  repeat (first | (with_reducible first | apply T_seq | apply T_region | apply U_nil | apply T_skip | apply T_block | apply T_inBlock | apply Cnd_t | apply Cnd_f | apply Cnd_not | apply Cnd_some | apply Cnd_none | apply Gd_nt | apply Gd_nf | apply Gd_some | apply Gd_none | apply Gd_want) | refine U_ar rfl rfl rfl (wrap_i64 (by omega)) rfl ?_ | refine U_pure E rfl rfl ?_ | refine T_exit rfl ?_ | refine T_condV rfl ?_ | refine U_guard rfl rfl ?_ | ((with_reducible refine Gd_skipT ?_ ?_); exact rfl) | ((with_reducible refine Gd_skipF ?_ ?_); exact rfl))
  exact T_ret2 Tryd.func36 rfl rfl rfl ⟨_, rfl, b, rfl, by omega, hb4, (hk2.tr hn3.kept (fun _ _ x => x)).tr hu4.kept (fun j hj (e : j = b) => by omega)⟩

theorem read_no (w : World) (F : Nat → Prop) (hb : Nat) (D : Dr) (i : Int) (h : IsD w F hb D) (hi : ¬ (0 ≤ i ∧ i < D.l.length)) :
    Calls Tryd.prog 36 [ptr hb, .int .i64 i].toArray w (Ret fun r w' => r = .tuple #[.slice none 0 0, errV 7] ∧ w' = w) := by
  have hf := fits_c w F hb D i h
  rw [if_neg hi] at hf
  refine calls_T Tryd.func36 rfl rfl rfl ?_
  unfold ptr at *
  repeat (first | (with_reducible first | apply T_seq | apply T_region | apply U_nil | apply T_skip | apply T_block | apply T_inBlock | apply Cnd_t | apply Cnd_f | apply Cnd_not | apply Cnd_some | apply Cnd_none | apply Gd_nt | apply Gd_nf | apply Gd_some | apply Gd_none | apply Gd_want) | refine U_ar rfl rfl rfl (wrap_i64 (by omega)) rfl ?_ | refine U_pure E rfl rfl ?_ | refine T_exit rfl ?_ | refine T_condV rfl ?_ | refine U_guard rfl rfl ?_ | ((with_reducible refine Gd_skipT ?_ ?_); exact rfl) | ((with_reducible refine Gd_skipF ?_ ?_); exact rfl))
  refine U_call rfl rfl (Tryd.call70 _) (ret_of hf) ?_
  rintro r w1 ⟨rfl, rfl⟩
  unfold errV
  repeat (first | (with_reducible first | apply T_seq | apply T_region | apply U_nil | apply T_skip | apply T_block | apply T_inBlock | apply Cnd_t | apply Cnd_f | apply Cnd_not | apply Cnd_some | apply Cnd_none | apply Gd_nt | apply Gd_nf | apply Gd_some | apply Gd_none | apply Gd_want) | refine U_ar rfl rfl rfl (wrap_i64 (by omega)) rfl ?_ | refine U_pure E rfl rfl ?_ | refine T_exit rfl ?_ | refine T_condV rfl ?_ | refine U_guard rfl rfl ?_ | ((with_reducible refine Gd_skipT ?_ ?_); exact rfl) | ((with_reducible refine Gd_skipF ?_ ?_); exact rfl))
  exact T_ret2 Tryd.func36 rfl rfl rfl ⟨_, rfl, rfl, rfl⟩
end Go.Proofs.YtoefhdaenaiomaaDoor

/- errors.As at an *api.Errno: its own text, walked (after the kit's worked example of a pointer target). -/
namespace Go.Proofs.YtoefhdaenaiomaaDoor
open Go.RowKit Go.Extern.Stop Go.Stop Go.Extern
set_option maxRecDepth 20000

/-- errors.As(nil, target). -/
theorem as_nil (t : Value) (w : World) :
    Calls Tryd.prog 71 #[.nilIface, t] w fun e w' => e = .returned (.bool false) ∧ w' = w := by
  go_enter Tryd.func71, Tryd.ntmps71
  go_wp2
  go_ret
  exact ⟨rfl, rfl⟩

/-! ### CLOSED FACTS ON THE MODEL's ENTRIES FOR internal/reflectlite, at this program's types: 25: *p.E · 27: **p.E · 23: error · 45: reflectlite's rtype · 1: how many package-level variables the dump has -/
theorem asvalueOf27 (t : Addr) (w : World) : (ReflectliteValue.unpack (.iface 106 (.pointer (some t)))).run Tryd.prog w
    = .ok (.agg #[.pointer (some ⟨3, 106, none⟩), .pointer (some ⟨w.heap.size, 0, none⟩), .int .u64 150]) (w.alloc (.cells #[.pointer (some t)] 106)) := by kernel_rfl
theorem astype27 (a : Addr) (w : World) : (ReflectliteValue.methodAny (ReflectliteValue.valueError "reflectlite.Value.Type" 0) (fun t _ _ _ => ReflectliteType.toType t) #[.agg #[.pointer (some ⟨3, 106, none⟩), .pointer (some a), .int .u64 150]]).run Tryd.prog w
    = .ok (.iface 166 (.agg #[.pointer (some ⟨3, 106, none⟩)])) w := by kernel_rfl
theorem asmethodKind (h : Value) (w : World) : (Go.method 309 166 (.agg #[h]) "Kind").run Tryd.prog w = .ok (133, h) w := by kernel_rfl
theorem askind27 (w : World) : ((ReflectliteType.abiMethod fun t => (fun a : Nat => Value.int IntKind.u8 (a : Int)) <$> Rtype.kind t) #[.pointer (some ⟨3, 106, none⟩)]).run Tryd.prog w = .ok (.int .u8 22) w := by kernel_rfl
theorem askind25 (w : World) : ((ReflectliteType.abiMethod fun t => (fun a : Nat => Value.int IntKind.u8 (a : Int)) <$> Rtype.kind t) #[.pointer (some ⟨3, 39, none⟩)]).run Tryd.prog w = .ok (.int .u8 2) w := by kernel_rfl

/-! ### THE ENTRIES THAT READ OR WRITE MEMORY: laws with a premise on the cell (after Derived/Lib/ReflectliteSlice.lean's manner: each unfolding a lemma of its own, by rfl) -/
theorem rlm (z : Sem Value) (f : TypeId → Addr → Nat → Nat → Sem Value) (v : Value) :
    ReflectliteValue.method z f #[v] = (do match ← ReflectliteValue.parts v with | none => z | some (t, a, fl) => f t a fl (fl % 32)) := rfl
theorem asparts27 (a : Addr) (w : World) : (ReflectliteValue.parts (.agg #[.pointer (some ⟨3, 106, none⟩), .pointer (some a), .int .u64 150])).run Tryd.prog w = .ok (some (106, a, 150)) w := by kernel_rfl
/-- (Value).IsNil at the Value of a **p.E that is not nil. -/
theorem asisNil27 (a p : Addr) (W : World) (ha : W.cell? a = some (.pointer (some p))) :
    (ReflectliteValue.method (ReflectliteValue.valueError "reflectlite.Value.IsNil" 0) ReflectliteValue.isNil #[.agg #[.pointer (some ⟨3, 106, none⟩), .pointer (some a), .int .u64 150]]).run Tryd.prog W = .ok (.bool false) W := by
  rw [rlm]
  simp only [Sem.run_bind, asparts27, Result.andThen]
  simp [ReflectliteValue.isNil, loadVar, isAgg, underlying, Tryd.underlying106, ha, Result.andThen]

theorem asmethodElem (h : Value) (w : World) : (Go.method 309 166 (.agg #[h]) "Elem").run Tryd.prog w = .ok (143, .agg #[h]) w := by kernel_rfl
theorem asmethodImplements (h : Value) (w : World) : (Go.method 309 166 (.agg #[h]) "Implements").run Tryd.prog w = .ok (144, .agg #[h]) w := by kernel_rfl
theorem asmethodAssignableTo (h : Value) (w : World) : (Go.method 309 166 (.agg #[h]) "AssignableTo").run Tryd.prog w = .ok (141, .agg #[h]) w := by kernel_rfl
theorem aselem27 (w : World) : (ReflectliteType.method ReflectliteType.elem #[.agg #[.pointer (some ⟨3, 106, none⟩)]]).run Tryd.prog w = .ok (.iface 166 (.agg #[.pointer (some ⟨3, 39, none⟩)])) w := by kernel_rfl
theorem asimplements25 (w : World) : (ReflectliteType.relation "Implements" ReflectliteType.implements_ #[.agg #[.pointer (some ⟨3, 39, none⟩)], .iface 166 (.agg #[.pointer (some ⟨3, 28, none⟩)])]).run Tryd.prog w = .ok (.bool true) w := by kernel_rfl
theorem astypeOf25 (v : Value) (w : World) : (ReflectliteType.typeOf #[.iface 39 v]).run Tryd.prog w = .ok (.iface 166 (.agg #[.pointer (some ⟨3, 39, none⟩)])) w := by kernel_rfl
theorem asassignable25 (w : World) : (ReflectliteType.relation "AssignableTo" ReflectliteType.assignableTo #[.agg #[.pointer (some ⟨3, 39, none⟩)], .iface 166 (.agg #[.pointer (some ⟨3, 39, none⟩)])]).run Tryd.prog w = .ok (.bool true) w := by kernel_rfl
theorem asvalueOf25 (e : Int) (w : World) : (ReflectliteValue.unpack (.iface 39 (.int .i64 e))).run Tryd.prog w
    = .ok (.agg #[.pointer (some ⟨3, 39, none⟩), .pointer (some ⟨w.heap.size, 0, none⟩), .int .u64 130]) (w.alloc (.cells #[.int .i64 e] 39)) := by kernel_rfl

theorem aselemOf27 (w : World) : (Rtype.elem? 106).run Tryd.prog w = .ok (some 39) w := by kernel_rfl
theorem asmk25 (p : Addr) (w : World) : (ReflectliteValue.mk 39 p ReflectliteValue.flagAddr).run Tryd.prog w = .ok (.agg #[.pointer (some ⟨3, 39, none⟩), .pointer (some p), .int .u64 386]) w := by kernel_rfl
/-- (Value).Elem at the Value of a **p.E that is not nil: the Value of the *p.E variable that it points to, addressable. -/
theorem aselemV27 (a p : Addr) (W : World) (ha : W.cell? a = some (.pointer (some p))) :
    (ReflectliteValue.method (ReflectliteValue.valueError "reflectlite.Value.Elem" 0) ReflectliteValue.elem #[.agg #[.pointer (some ⟨3, 106, none⟩), .pointer (some a), .int .u64 150]]).run Tryd.prog W
      = .ok (.agg #[.pointer (some ⟨3, 39, none⟩), .pointer (some p), .int .u64 386]) W := by
  rw [rlm]
  simp only [Sem.run_bind, asparts27, Result.andThen]
  simp [ReflectliteValue.elem, loadVar, isAgg, underlying, Tryd.underlying106, ha, Result.andThen, aselemOf27, asmk25]
theorem rls (v x : Value) : ReflectliteValue.set #[v, x] = (do
    let (some (dst, a, fl), some (src, b, _)) := (← ReflectliteValue.parts v, ← ReflectliteValue.parts x)
      | unsupported (.noEntry "extern/(internal/reflectlite.Value).Set.zeroValue")
    if fl / ReflectliteValue.flagAddr % 2 == 0 then unsupported (.noEntry "extern/(internal/reflectlite.Value).Set.unaddressable")
    let val ← loadVar src b
    if ← Rtype.directlyAssignable dst src then storeVar dst a val
    else if ← Rtype.implements dst src then
      if (← Rtype.kind src) == 20 then
        match val with
        | .nilIface => unsupported (.noEntry "extern/reflectlite: a nil value of one interface type handed on as a value of another")
        | _ => storeVar dst a val
      else storeVar dst a (.iface src val)
    else panicString ("reflectlite.Set: value of type " ++ (← Rtype.spelt src) ++ " is not assignable to type " ++ (← Rtype.spelt dst))
    pure (.tuple #[])) := rfl
theorem asparts25a (a : Addr) (w : World) : (ReflectliteValue.parts (.agg #[.pointer (some ⟨3, 39, none⟩), .pointer (some a), .int .u64 386])).run Tryd.prog w = .ok (some (39, a, 386)) w := by kernel_rfl
theorem asparts25 (a : Addr) (w : World) : (ReflectliteValue.parts (.agg #[.pointer (some ⟨3, 39, none⟩), .pointer (some a), .int .u64 130])).run Tryd.prog w = .ok (some (39, a, 130)) w := by kernel_rfl
theorem asdirect25 (w : World) : (Rtype.directlyAssignable 39 39).run Tryd.prog w = .ok true w := by kernel_rfl
theorem assize25 (w : World) : (sizeOf 39).run Tryd.prog w = .ok 1 w := by kernel_rfl
/-- (Value).Set: the *p.E variable at 'ta' gets what the Value's own variable 'b' holds. -/
theorem asset25 (ta b : Addr) (e : Int) (old : Value) (W : World) (hb : W.cell? b = some (.int .i64 e)) (ht : W.cell? ta = some old) (hf : W.frozen? ta = false) :
    (ReflectliteValue.set #[.agg #[.pointer (some ⟨3, 39, none⟩), .pointer (some ta), .int .u64 386], .agg #[.pointer (some ⟨3, 39, none⟩), .pointer (some b), .int .u64 130]]).run Tryd.prog W
      = .ok (.tuple #[]) (W.setCell ta (.int .i64 e)) := by
  rw [rls]
  simp only [Sem.run_bind, asparts25a, asparts25, Result.andThen]
  simp [ReflectliteValue.flagAddr, loadVar, isAgg, underlying, Tryd.underlying39, hb, Result.andThen, asdirect25, storeVar, Value.cells, storeCells, Addr.add]
  rw [run_store Tryd.prog W ta _ _ (by rfl)]
  simp [ht, hf]

set_option maxHeartbeats 4000000 in
theorem as_hit (e : Int) (t : Addr) (old : Value) (w : World) (hg : w.cell? ⟨0, 0, none⟩ = some (.iface 166 (.agg #[.pointer (some ⟨3, 28, none⟩)]))) (ht0 : w.cell? t = some old) (hf0 : w.frozen? t = false) :
    Calls Tryd.prog 71 #[.iface 39 (.int .i64 e), .iface 106 (.pointer (some t))] w fun ev w' => ev = .returned (.bool true) ∧ w' = ((((w.alloc (.cells #[.pointer (some t)] 106)).alloc (.cells #[.pointer (some ⟨3, 106, none⟩), .pointer (some ⟨w.heap.size, 0, none⟩), .int .u64 150] 145)).alloc (.cells #[.pointer (some ⟨3, 106, none⟩), .pointer (some ⟨w.heap.size, 0, none⟩), .int .u64 150] 145)).alloc (.cells #[.int .i64 e] 39)).setCell t (.int .i64 e) := by
  have h6 := @run_callFunc_extern Tryd.prog 99 _ (fun args => ReflectliteValue.unpack (args.getD 0 (.tuple #[]))) Tryd.func99 (by kernel_rfl) (by kernel_rfl) (by kernel_rfl) (by kernel_rfl)
  have h7 := @run_callFunc_extern Tryd.prog 100 _ (ReflectliteValue.methodAny (ReflectliteValue.valueError "reflectlite.Value.Type" 0) (fun t _ _ _ => ReflectliteType.toType t)) Tryd.func100 (by kernel_rfl) (by kernel_rfl) (by kernel_rfl) (by kernel_rfl)
  have h8 := @run_callFunc_extern Tryd.prog 101 _ (ReflectliteValue.method (ReflectliteValue.valueError "reflectlite.Value.IsNil" 0) ReflectliteValue.isNil) Tryd.func101 (by kernel_rfl) (by kernel_rfl) (by kernel_rfl) (by kernel_rfl)
  have h27 := @run_callFunc_extern Tryd.prog 133 _ (ReflectliteType.abiMethod fun t => do pure (.int .u8 (← Rtype.kind t))) Tryd.func133 (by kernel_rfl) (by kernel_rfl) (by kernel_rfl) (by kernel_rfl)
  have h37 := @run_callFunc_extern Tryd.prog 143 _ (ReflectliteType.method ReflectliteType.elem) Tryd.func143 (by kernel_rfl) (by kernel_rfl) (by kernel_rfl) (by kernel_rfl)
  have h38 := @run_callFunc_extern Tryd.prog 144 _ (ReflectliteType.relation "Implements" ReflectliteType.implements_) Tryd.func144 (by kernel_rfl) (by kernel_rfl) (by kernel_rfl) (by kernel_rfl)
  have h10 := @run_callFunc_extern Tryd.prog 112 _ ReflectliteType.typeOf Tryd.func112 (by kernel_rfl) (by kernel_rfl) (by kernel_rfl) (by kernel_rfl)
  have h35 := @run_callFunc_extern Tryd.prog 141 _ (ReflectliteType.relation "AssignableTo" ReflectliteType.assignableTo) Tryd.func141 (by kernel_rfl) (by kernel_rfl) (by kernel_rfl) (by kernel_rfl)
  have h11 := @run_callFunc_extern Tryd.prog 113 _ (ReflectliteValue.method (ReflectliteValue.valueError "reflectlite.Value.Elem" 0) ReflectliteValue.elem) Tryd.func113 (by kernel_rfl) (by kernel_rfl) (by kernel_rfl) (by kernel_rfl)
  have h12 := @run_callFunc_extern Tryd.prog 114 _ ReflectliteValue.set Tryd.func114 (by kernel_rfl) (by kernel_rfl) (by kernel_rfl) (by kernel_rfl)
  have tO := astypeOf25
  have mA := asmethodAssignableTo
  have a25 := asassignable25
  have v25 := asvalueOf25
  have f6 := asvalueOf27
  have f7 := astype27
  have mK := asmethodKind
  have mE := asmethodElem
  have mI := asmethodImplements
  have k27 := askind27
  have k25 := askind25
  have e27 := aselem27
  have i25 := asimplements25
  have n8 := asisNil27 ⟨w.heap.size, 0, none⟩ t ((w.alloc (.cells #[.pointer (some t)] 106)).alloc (.cells #[.pointer (some ⟨3, 106, none⟩), .pointer (some ⟨w.heap.size, 0, none⟩), .int .u64 150] 145)) (by simp)
  have hlt : 0 < w.heap.size := by
    rcases Nat.eq_zero_or_pos w.heap.size with h0 | h
    · simp [World.cell?, h0] at hg
    · exact h
  have hg2 : ((w.alloc (.cells #[.pointer (some t)] 106)).alloc (.cells #[.pointer (some ⟨3, 106, none⟩), .pointer (some ⟨w.heap.size, 0, none⟩), .int .u64 150] 145)).cell? ⟨0, 0, none⟩ = some (.iface 166 (.agg #[.pointer (some ⟨3, 28, none⟩)])) := by
    rw [World.cell?_alloc_lt _ _ ⟨0, 0, none⟩ (by simp), World.cell?_alloc_lt _ _ ⟨0, 0, none⟩ hlt]; exact hg
  have htl : t.block < w.heap.size := by
    rcases Nat.lt_or_ge t.block w.heap.size with h | h
    · exact h
    · simp [World.cell?, Array.getElem?_eq_none h] at ht0
  have el := aselemV27 ⟨w.heap.size, 0, none⟩ t (((w.alloc (.cells #[.pointer (some t)] 106)).alloc (.cells #[.pointer (some ⟨3, 106, none⟩), .pointer (some ⟨w.heap.size, 0, none⟩), .int .u64 150] 145)).alloc (.cells #[.pointer (some ⟨3, 106, none⟩), .pointer (some ⟨w.heap.size, 0, none⟩), .int .u64 150] 145)) (by rw [World.cell?_alloc_lt _ _ ⟨w.heap.size, 0, none⟩ (by simp; omega)]; simp)
  have st := asset25 t ⟨w.heap.size + 1 + 1 + 1, 0, none⟩ e old ((((w.alloc (.cells #[.pointer (some t)] 106)).alloc (.cells #[.pointer (some ⟨3, 106, none⟩), .pointer (some ⟨w.heap.size, 0, none⟩), .int .u64 150] 145)).alloc (.cells #[.pointer (some ⟨3, 106, none⟩), .pointer (some ⟨w.heap.size, 0, none⟩), .int .u64 150] 145)).alloc (.cells #[.int .i64 e] 39))
    (by rw [World.cell?_alloc_at _ _ _ _ (by simp)]; rfl)
    (by rw [World.cell?_alloc_lt _ _ t (by simp; omega), World.cell?_alloc_lt _ _ t (by simp; omega), World.cell?_alloc_lt _ _ t (by simp; omega), World.cell?_alloc_lt _ _ t htl]; exact ht0)
    (by rw [World.frozen?_alloc_old _ _ t (by simp; omega), World.frozen?_alloc_old _ _ t (by simp; omega), World.frozen?_alloc_old _ _ t (by simp; omega), World.frozen?_alloc_old _ _ t (Nat.ne_of_lt htl)]; exact hf0)
  go_enter Tryd.func71, Tryd.ntmps71
  go_wp2
  refine wp_loop_rounds 1 ?_
  rw [rounds_succ]
  go_wp2
  go_ret
  exact ⟨rfl, rfl⟩
end Go.Proofs.YtoefhdaenaiomaaDoor

/- api.Code of an error number, of nil. -/
namespace Go.Proofs.YtoefhdaenaiomaaDoor
open Go
set_option maxRecDepth 20000

/-- errors.errorType stands as the program's text lays it. -/
def Laid (w : World) : Prop := w.cell? ⟨0, 0, none⟩ = some (.iface 166 (.agg #[.pointer (some ⟨3, 28, none⟩)]))
theorem Laid.mv {F : Nat → Prop} {w w' : World} (h : Laid w) (k : Kept F w w') (hF : ¬ F 0) : Laid w' := by
  have hlt : 0 < w.heap.size := World.block_lt_of_cell? w ⟨0, 0, none⟩ h
  unfold Laid
  rw [World.cell?_of_block (w := w) (w' := w') (a := ⟨0, 0, none⟩) (k.same 0 hlt hF)]
  exact h
theorem Laid.lt {w : World} (h : Laid w) : 0 < w.heap.size := World.block_lt_of_cell? w ⟨0, 0, none⟩ h

theorem Upd.setCell {w : World} {b o : Nat} {cs : List Value} {t : TypeId} (h : Blk w b cs t) (v : Value) : Upd w (w.setCell ⟨b, o, none⟩ v) b (cs.set o v) t := by
  have hb : w.heap[b]? = some (.cells cs.toArray t (0, 0)) := h
  refine ⟨?_, ⟨rfl, rfl, rfl, by simp [World.setCell], fun i _ hn => ?_⟩, by simp [World.setCell]⟩
  · simp [Blk, World.setCell, Array.getElem?_modify, hb]
  · simp only [World.setCell, Array.getElem?_modify]
    rw [if_neg (fun e => hn e.symm)]

theorem as_c (w : World) (b : Nat) (old : Value) (k : Int) (hg : Laid w) (hb : Blk w b [old] 39) :
    Calls Tryd.prog 71 [.iface 39 (.int .i64 k), .iface 106 (.pointer (some ⟨b, 0, none⟩))].toArray w (Ret fun r w' => r = .bool true ∧ Kept (fun j => j = b) w w' ∧ Blk w' b [.int .i64 k] 39) := by
  have hbb : w.heap[b]? = some (.cells #[old] 39 (0, 0)) := hb
  refine (as_hit k ⟨b, 0, none⟩ old w hg (by rw [hb.cell]; rfl) (by simp [World.frozen?, hbb])).mono ?_
  rintro e w' ⟨rfl, rfl⟩
  refine ⟨_, rfl, rfl, ?_⟩
  have alloc : ∀ (u : World) (cs : Array Value) (t : TypeId), Kept none0 u (u.alloc (.cells cs t)) := fun u cs t => (New.alloc u cs.toList t).kept
  have hk : Kept none0 w ((((w.alloc (.cells #[.pointer (some ⟨b, 0, none⟩)] 106)).alloc (.cells #[.pointer (some ⟨3, 106, none⟩), .pointer (some ⟨w.heap.size, 0, none⟩), .int .u64 150] 145)).alloc (.cells #[.pointer (some ⟨3, 106, none⟩), .pointer (some ⟨w.heap.size, 0, none⟩), .int .u64 150] 145)).alloc (.cells #[.int .i64 k] 39)) :=
    (((alloc _ _ _).tr (alloc _ _ _) (fun _ _ x => x)).tr (alloc _ _ _) (fun _ _ x => x)).tr (alloc _ _ _) (fun _ _ x => x)
  have hu := Upd.setCell (o := 0) (hb.mv hk (fun x => x)) (.int .i64 k)
  exact ⟨hk.mono (fun _ _ x => x.elim) |>.tr hu.kept (fun _ _ x => x), hu.blk⟩

theorem code_nil (w : World) : Calls Tryd.prog 28 [.nilIface].toArray w (Ret fun r w' => r = .int .i64 0 ∧ w' = w) := by
  refine calls_T Tryd.func28 rfl rfl rfl ?_
  repeat (first | (with_reducible first | apply T_seq | apply T_region | apply U_nil | apply T_skip | apply T_block | apply T_inBlock | apply Cnd_t | apply Cnd_f | apply Cnd_not | apply Cnd_some | apply Cnd_none | apply Gd_nt | apply Gd_nf | apply Gd_some | apply Gd_none | apply Gd_want) | refine U_ar rfl rfl rfl (wrap_i64 (by omega)) rfl ?_ | refine U_pure E rfl rfl ?_ | refine T_exit rfl ?_ | refine T_condV rfl ?_ | refine U_guard rfl rfl ?_ | ((with_reducible refine Gd_skipT ?_ ?_); exact rfl) | ((with_reducible refine Gd_skipF ?_ ?_); exact rfl))
  exact T_ret1 Tryd.func28 rfl rfl ⟨_, rfl, rfl, rfl⟩

theorem code_err (w : World) (k : Int) (hg : Laid w) : Calls Tryd.prog 28 [.iface 39 (.int .i64 k)].toArray w (Ret fun r w' => r = .int .i64 k ∧ Kept none0 w w') := by
  refine calls_T Tryd.func28 rfl rfl rfl ?_
  repeat (first | (with_reducible first | apply T_seq | apply T_region | apply U_nil | apply T_skip | apply T_block | apply T_inBlock | apply Cnd_t | apply Cnd_f | apply Cnd_not | apply Cnd_some | apply Cnd_none | apply Gd_nt | apply Gd_nf | apply Gd_some | apply Gd_none | apply Gd_want) | refine U_ar rfl rfl rfl (wrap_i64 (by omega)) rfl ?_ | refine U_pure E rfl rfl ?_ | refine T_exit rfl ?_ | refine T_condV rfl ?_ | refine U_guard rfl rfl ?_ | ((with_reducible refine Gd_skipT ?_ ?_); exact rfl) | ((with_reducible refine Gd_skipF ?_ ?_); exact rfl))
  refine U_alloc E rfl rfl rfl ?_
  intro b w1 hn
  have hl := hg.lt
  have e1 := hn.at_
  repeat (first | (with_reducible first | apply T_seq | apply T_region | apply U_nil | apply T_skip | apply T_block | apply T_inBlock | apply Cnd_t | apply Cnd_f | apply Cnd_not | apply Cnd_some | apply Cnd_none | apply Gd_nt | apply Gd_nf | apply Gd_some | apply Gd_none | apply Gd_want) | refine U_ar rfl rfl rfl (wrap_i64 (by omega)) rfl ?_ | refine U_pure E rfl rfl ?_ | refine T_exit rfl ?_ | refine T_condV rfl ?_ | refine U_guard rfl rfl ?_ | ((with_reducible refine Gd_skipT ?_ ?_); exact rfl) | ((with_reducible refine Gd_skipF ?_ ?_); exact rfl))
  have hc := as_c w1 b (.int .i64 0) k (hg.mv hn.kept (fun x => x)) hn.blk
  refine U_call rfl rfl (Tryd.call71 _) (hc) ?_
  rintro r w2 ⟨rfl, hk2, hb2⟩
  have hk : Kept none0 w w2 := hn.kept.tr hk2 (fun j hj (e : j = b) => by omega)
  repeat (first | (with_reducible first | apply T_seq | apply T_region | apply U_nil | apply T_skip | apply T_block | apply T_inBlock | apply Cnd_t | apply Cnd_f | apply Cnd_not | apply Cnd_some | apply Cnd_none | apply Gd_nt | apply Gd_nf | apply Gd_some | apply Gd_none | apply Gd_want) | refine U_ar rfl rfl rfl (wrap_i64 (by omega)) rfl ?_ | refine U_pure E rfl rfl ?_ | refine T_exit rfl ?_ | refine T_condV rfl ?_ | refine U_guard rfl rfl ?_ | ((with_reducible refine Gd_skipT ?_ ?_); exact rfl) | ((with_reducible refine Gd_skipF ?_ ?_); exact rfl))
  refine U_loadB E hb2 rfl rfl rfl (by rfl) rfl ?_
  repeat (first | (with_reducible first | apply T_seq | apply T_region | apply U_nil | apply T_skip | apply T_block | apply T_inBlock | apply Cnd_t | apply Cnd_f | apply Cnd_not | apply Cnd_some | apply Cnd_none | apply Gd_nt | apply Gd_nf | apply Gd_some | apply Gd_none | apply Gd_want) | refine U_ar rfl rfl rfl (wrap_i64 (by omega)) rfl ?_ | refine U_pure E rfl rfl ?_ | refine T_exit rfl ?_ | refine T_condV rfl ?_ | refine U_guard rfl rfl ?_ | ((with_reducible refine Gd_skipT ?_ ?_); exact rfl) | ((with_reducible refine Gd_skipF ?_ ?_); exact rfl))
  exact T_ret1 Tryd.func28 rfl rfl ⟨_, rfl, rfl, hk⟩

/-- Code of what the drum's functions answer. -/
theorem code_c (w : World) (k : Nat) (hg : Laid w) : Calls Tryd.prog 28 [errV k].toArray w (Ret fun r w' => r = .int .i64 k ∧ Kept none0 w w') := by
  cases k with
  | zero =>
    refine (code_nil w).mono ?_
    rintro e w' ⟨r, rfl, rfl, rfl⟩
    exact ⟨_, rfl, rfl, Kept.refl _ _⟩
  | succ j => exact code_err w (j + 1 : Nat) hg
end Go.Proofs.YtoefhdaenaiomaaDoor

/- What a call owns: the blocks that it may turn; what stands beside them. -/
namespace Go.Proofs.YtoefhdaenaiomaaDoor
open Go
set_option maxRecDepth 20000

/-- From w to w' the blocks of F alone are turned; F' is F and some that are new. -/
structure Own (F : Nat → Prop) (w : World) (F' : Nat → Prop) (w' : World) : Prop where
  kept : Kept F w w'
  sub : ∀ b, F' b → F b ∨ w.heap.size ≤ b
  lt : ∀ b, F' b → b < w'.heap.size

section
variable {F F' F'' : Nat → Prop} {w w' w'' : World}
theorem Own.refl (h : ∀ b, F b → b < w.heap.size) : Own F w F w := ⟨Kept.refl _ _, fun _ h => .inl h, h⟩
theorem Own.tr (h : Own F w F' w') (k : Own F' w' F'' w'') : Own F w F'' w'' :=
  ⟨h.kept.tr k.kept (fun i hi e => (h.sub i e).elim (fun x => x) (fun x => by omega)),
   fun b e => (k.sub b e).elim (fun e => h.sub b e) (fun e => .inr (Nat.le_trans h.kept.size e)), k.lt⟩
theorem Own.same (hl : ∀ b, F b → b < w.heap.size) (k : Kept none0 w w') : Own F w F w' := ⟨k.mono (fun _ _ x => x.elim), fun _ h => .inl h, fun b h => Nat.lt_of_lt_of_le (hl b h) k.size⟩
theorem Own.upd (hl : ∀ b, F b → b < w.heap.size) {G : Nat → Prop} (k : Kept G w w') (hG : ∀ b, b < w.heap.size → G b → F b) : Own F w F w' := ⟨k.mono hG, fun _ h => .inl h, fun b h => Nat.lt_of_lt_of_le (hl b h) k.size⟩
theorem Own.then0 (h : Own F w F' w') (k : Kept none0 w' w'') : Own F w F' w'' := h.tr (Own.same h.lt k)
theorem Own.size (h : Own F w F' w') : w.heap.size ≤ w'.heap.size := h.kept.size

/-- What stands beside. -/
theorem Own.out (h : Own F w F' w') {b : Nat} (hb : b < w.heap.size) (hF : ¬ F b) : ¬ F' b := fun e => (h.sub b e).elim hF (fun e => by omega)
theorem Own.sl (h : Own F w F' w') {v : Value} {sz n : Nat} {cs : List Value} (hs : Sl w (fun b => ¬ F b) v sz n cs) : Sl w' (fun b => ¬ F' b) v sz n cs :=
  ((hs.mono (G := fun b => ¬ F b ∧ b < w.heap.size) (fun _ hb h => ⟨h, hb⟩)).mv h.kept (fun _ _ h e => h.1 e)).mono (fun b _ hb e => h.out hb.2 hb.1 e)
theorem Own.slG (h : Own F w F' w') {G : Nat → Prop} {v : Value} {sz n : Nat} {cs : List Value} (hs : Sl w G v sz n cs) (hG : ∀ b, b < w.heap.size → G b → ¬ F b) : Sl w' G v sz n cs := hs.mv h.kept hG
theorem Own.blk (h : Own F w F' w') {b : Nat} {cs : List Value} {t : TypeId} (hb : Blk w b cs t) (hF : ¬ F b) : Blk w' b cs t := hb.mv h.kept hF
theorem Own.laid (h : Own F w F' w') (hL : Laid w ∧ ¬ F 0) : Laid w' ∧ ¬ F' 0 := ⟨hL.1.mv h.kept hL.2, h.out hL.1.lt hL.2⟩
theorem Own.sep (h : Own F w F' w') {G : Nat → Prop} (hG : ∀ b, G b → b < w.heap.size ∧ ¬ F b) : ∀ b, G b → b < w'.heap.size ∧ ¬ F' b :=
  fun b e => ⟨Nat.lt_of_lt_of_le (hG b e).1 h.size, h.out (hG b e).1 (hG b e).2⟩
/-- All that is owned is new since w0. -/
theorem Own.done {w0 : World} (h : Own F w F' w') (k : Kept none0 w0 w) (hF : ∀ b, F b → w0.heap.size ≤ b) : Kept none0 w0 w' := k.tr h.kept (fun i hi e => by have := hF i e; omega)
theorem Own.newer {w0 : World} (h : Own F w F' w') (k : w0.heap.size ≤ w.heap.size) (hF : ∀ b, F b → w0.heap.size ≤ b) : ∀ b, F' b → w0.heap.size ≤ b :=
  fun b e => (h.sub b e).elim (hF b) (fun e => Nat.le_trans k e)
/-- What is new since w stands beside what is owned at w. -/
theorem Sl.beside {v : Value} {sz n : Nat} {cs : List Value} (hs : Sl w' (fresh w) v sz n cs) (hF : ∀ b, F b → b < w.heap.size) : Sl w' (fun b => ¬ F b) v sz n cs :=
  hs.mono (fun b _ h e => by have := hF b e; simp only [fresh] at h; omega)
end

/-! ### The drum, owned -/
structure Dm (w : World) (F : Nat → Prop) (hb : Nat) (D : Dr) : Prop where
  isD : IsD w F hb D
  lt : ∀ b, F b → b < w.heap.size
theorem Dm.same {w w' : World} {F : Nat → Prop} {hb : Nat} {D : Dr} (h : Dm w F hb D) (k : Kept none0 w w') : Dm w' F hb D := ⟨h.isD.mv k (fun _ _ _ x => x), fun b e => Nat.lt_of_lt_of_le (h.lt b e) k.size⟩
theorem Dm.mv {w w' : World} {F G : Nat → Prop} {hb : Nat} {D : Dr} (h : Dm w F hb D) (k : Kept G w w') (hG : ∀ b, F b → ¬ G b) : Dm w' F hb D := ⟨h.isD.mv k (fun b _ e => hG b e), fun b e => Nat.lt_of_lt_of_le (h.lt b e) k.size⟩

def flErr (D : Dr) : Nat := if D.left = 0 then 8 else 0
def flDr (D : Dr) : Dr := if D.left = 0 then D else ⟨applyW D.l D.wait, [], dec D.left⟩

theorem dw_write (w : World) (F : Nat → Prop) (hb : Nat) (D : Dr) (v : Value) (p : List UInt8) (i : Int) (h : Dm w F hb D) (hp : BS w (fun b => ¬ F b) v p) (hwn : D.wait.length < 1000000) :
    Calls Tryd.prog 27 [ptr hb, .int .i64 i, v].toArray w (Ret fun r w' => r = errV (wrErr D i p) ∧ ∃ F', Own F w F' w' ∧ Dm w' F' hb (wrDr D i p)) := by
  by_cases hk : wrErr D i p = 0
  · refine (write_ok w F hb D _ v p i h.isD hp (fun b h1 h2 => h1 h2) hk hwn).mono ?_
    rintro e w' ⟨r, rfl, rfl, k, hD⟩
    refine ⟨_, rfl, by rw [hk], fun b => (F b ∨ w.heap.size ≤ b) ∧ b < w'.heap.size, ⟨k, fun b e => e.1, fun b e => e.2⟩, hD.mono (fun b hb h => ⟨h, hb⟩), fun b e => e.2⟩
  · refine (write_no w F hb D _ v p i h.isD hp hk).mono ?_
    rintro e w' ⟨r, rfl, rfl, k, s, hD⟩
    have hm := h.isD.mem
    refine ⟨_, rfl, rfl, F, Own.upd h.lt k (fun b _ (e : b = hb) => by rw [e]; exact hm), ?_, fun b e => by rw [s]; exact h.lt b e⟩
    rw [wrDr, if_neg hk]
    exact hD

theorem dw_flush (w : World) (F : Nat → Prop) (hb : Nat) (D : Dr) (h : Dm w F hb D) :
    Calls Tryd.prog 26 [ptr hb].toArray w (Ret fun r w' => r = errV (flErr D) ∧ ∃ F', Own F w F' w' ∧ Dm w' F' hb (flDr D)) := by
  by_cases hk : D.left = 0
  · refine (flush_off w F hb D h.isD hk).mono ?_
    rintro e w' ⟨r, rfl, rfl, k, s, hD⟩
    have hm := h.isD.mem
    refine ⟨_, rfl, by rw [flErr, if_pos hk], F, Own.upd h.lt k (fun b _ (e : b = hb) => by rw [e]; exact hm), ?_, fun b e => by rw [s]; exact h.lt b e⟩
    rw [flDr, if_pos hk]
    exact hD
  · refine (flush_ok w F hb D h.isD hk).mono ?_
    rintro e w' ⟨r, rfl, rfl, k, hD⟩
    refine ⟨_, rfl, by rw [flErr, if_neg hk], F, Own.upd h.lt k (fun b _ e => e), ?_, fun b e => Nat.lt_of_lt_of_le (h.lt b e) k.size⟩
    rw [flDr, if_neg hk]
    exact hD
end Go.Proofs.YtoefhdaenaiomaaDoor
