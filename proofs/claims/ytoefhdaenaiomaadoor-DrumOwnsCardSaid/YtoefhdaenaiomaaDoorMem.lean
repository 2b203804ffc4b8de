/- Operations that touch memory, over worlds of which only this and that is known. -/
import Derived.Test.YtoefhdaenaiomaaDoorPure
import Derived.Laws.CopyOwn
import Derived.Laws.MakeOwn
namespace Go.Proofs.YtoefhdaenaiomaaDoor
open Go

/-- Block b is the row cs. -/
def Blk (w : World) (b : Nat) (cs : List Value) (t : TypeId) : Prop := w.heap[b]? = some (.cells cs.toArray t (0, 0))

/-- What was there stands as it was, but for the blocks of F. -/
structure Kept (F : Nat → Prop) (w w' : World) : Prop where
  os : w'.os = w.os
  tape : w'.tape = w.tape
  output : w'.output = w.output
  size : w.heap.size ≤ w'.heap.size
  same : ∀ b, b < w.heap.size → ¬ F b → w'.heap[b]? = w.heap[b]?

theorem Kept.refl (F : Nat → Prop) (w : World) : Kept F w w := ⟨rfl, rfl, rfl, Nat.le_refl _, fun _ _ _ => rfl⟩
theorem Kept.tr {F G : Nat → Prop} {a b c : World} (h : Kept F a b) (k : Kept G b c) (hg : ∀ i, i < a.heap.size → G i → F i) : Kept F a c :=
  ⟨k.os.trans h.os, k.tape.trans h.tape, k.output.trans h.output, Nat.le_trans h.size k.size,
    fun i hi hF => (k.same i (Nat.lt_of_lt_of_le hi h.size) (fun hG => hF (hg i hi hG))).trans (h.same i hi hF)⟩
theorem Kept.mono {F G : Nat → Prop} {a b : World} (h : Kept F a b) (hg : ∀ i, i < a.heap.size → F i → G i) : Kept G a b :=
  ⟨h.os, h.tape, h.output, h.size, fun i hi hG => h.same i hi (fun hF => hG (hg i hi hF))⟩
theorem Kept.below {w w' : World} (h : Kept (fun _ => False) w w') : RowKit.Below w.heap.size w w' := ⟨h.os, h.tape, h.output, h.size, fun i hi => h.same i hi (fun x => x)⟩
theorem Kept.of_below {w w' : World} (h : RowKit.Below w.heap.size w w') : Kept (fun _ => False) w w' := ⟨h.os, h.tape, h.output, h.size, fun i hi _ => h.block i hi⟩
theorem Kept.of_grown {w w' : World} {row : Option Nat} (h : w.grownBy w' row) : Kept (fun b => row = some b) w w' :=
  ⟨h.os, h.tape, h.output, h.size, fun i hi hn => h.block i hi (fun e => hn e.symm)⟩

theorem Blk.lt {w : World} {b : Nat} {cs : List Value} {t : TypeId} (h : Blk w b cs t) : b < w.heap.size := (Array.getElem?_eq_some_iff.1 h).1
theorem Blk.mv {F : Nat → Prop} {w w' : World} {b : Nat} {cs : List Value} {t : TypeId} (h : Blk w b cs t) (k : Kept F w w') (hn : ¬ F b) : Blk w' b cs t := (k.same b h.lt hn).trans h
theorem Blk.cell {w : World} {b : Nat} {cs : List Value} {t : TypeId} (h : Blk w b cs t) (o : Nat) : w.cell? ⟨b, o, none⟩ = cs[o]? := by
  rw [cell_of_row w b o cs.toArray t (0, 0) h]
  simp

/-- The cells of seg stand from (b, o) on. -/
def Seg (w : World) (b o : Nat) (seg : List Value) : Prop := ∀ j v, seg[j]? = some v → w.cell? ⟨b, o + j, none⟩ = some v

theorem Blk.seg {w : World} {b : Nat} {cs : List Value} {t : TypeId} (h : Blk w b cs t) (o l : Nat) : Seg w b o ((cs.drop o).take l) := by
  intro j v hj
  rw [h.cell]
  rw [List.getElem?_take] at hj
  split at hj
  · simpa using hj
  · cases hj

theorem Seg.lt {w : World} {b o : Nat} {seg : List Value} (h : Seg w b o seg) (hn : seg ≠ []) : b < w.heap.size := by
  cases seg with
  | nil => exact absurd rfl hn
  | cons v r => exact World.block_lt_of_cell? w ⟨b, o + 0, none⟩ (h 0 v rfl)

theorem Seg.mv {F : Nat → Prop} {w w' : World} {b o : Nat} {seg : List Value} (h : Seg w b o seg) (k : Kept F w w') (hn : ¬ F b) : Seg w' b o seg := by
  intro j v hj
  have h1 := h j v hj
  have hlt : b < w.heap.size := World.block_lt_of_cell? w ⟨b, o + j, none⟩ h1
  rw [World.cell?_of_block (w := w) (w' := w') (a := ⟨b, o + j, none⟩) (k.same b hlt hn)]
  exact h1

theorem addr_add (b o n : Nat) : (⟨b, o, none⟩ : Addr).add n = ⟨b, o + n, none⟩ := by
  unfold Addr.add
  split
  · rename_i h; simp [h]
  · rfl

def notAgg : TypeDesc → Bool
  | .struct _ => false
  | .array _ _ => false
  | _ => true

/-- A world in which block b alone is another one. -/
structure Upd (w w' : World) (b : Nat) (cs : List Value) (t : TypeId) : Prop where
  blk : Blk w' b cs t
  kept : Kept (fun x => x = b) w w'
  size : w'.heap.size = w.heap.size

theorem Upd.setRow {w : World} {b : Nat} {cs : List Value} {t : TypeId} (h : Blk w b cs t) (cs' : List Value) : Upd w (w.setRow b cs'.toArray) b cs' t :=
  ⟨setRow_heap w b cs.toArray cs'.toArray t (0, 0) h, ⟨rfl, rfl, rfl, by simp, fun i _ hn => setRow_other w b i _ hn⟩, by simp⟩

theorem splice_all {α : Type} (cs seg : List α) (h : seg.length = cs.length) : cs.take 0 ++ seg ++ cs.drop (0 + seg.length) = seg := by
  rw [List.take_zero, Nat.zero_add, List.drop_of_length_le (by omega), List.append_nil, List.nil_append]
theorem Blk.whole {w : World} {b : Nat} {cs : List Value} {t : TypeId} (h : Blk w b cs t) : Seg w b 0 cs := by
  have := h.seg 0 cs.length
  simp only [List.drop_zero, List.take_length] at this
  exact this

/-- A world with one new block. -/
structure New (w w' : World) (b : Nat) (cs : List Value) (t : TypeId) : Prop where
  at_ : b = w.heap.size
  blk : Blk w' b cs t
  kept : Kept (fun _ => False) w w'
  size : w'.heap.size = w.heap.size + 1

theorem New.alloc (w : World) (cs : List Value) (t : TypeId) : New w (w.alloc (.cells cs.toArray t)) w.heap.size cs t :=
  ⟨rfl, heap_alloc_new w _, ⟨rfl, rfl, rfl, by simp, fun i hi _ => heap_alloc_old w _ i hi⟩, by simp⟩
theorem New.drew {w w' : World} {b : Nat} {cs : List Value} {t : TypeId} (h : New w.drew w' b cs t) : New w w' b cs t :=
  ⟨h.at_, h.blk, ⟨h.kept.os, h.kept.tape, h.kept.output, h.kept.size, h.kept.same⟩, h.size⟩

section
variable {P : Program} {f : FuncId} {R : Ending → World → Prop} {n : Nat} {k : List Item} {m : Fm} {Z : Act → World → Prop} {ops : Array Oper} {rest : List Oper} {w : World}
variable {d : Nat} {ty : TypeId} {ps : String} {af : Array Edge}

theorem r_info {t : TypeId} {i : TypeInfo} (h : P.info? t = some i) (w : World) : (typeInfo t).run P w = .ok i w := by simp [typeInfo, h]
theorem r_size {t : TypeId} {i : TypeInfo} (h : P.info? t = some i) (w : World) : (sizeOf t).run P w = .ok i.size w := by simp [sizeOf, r_info h]
theorem r_zero {t : TypeId} {i : TypeInfo} {z : Value} (h : P.info? t = some i) (hz : i.zero = some z) (w : World) : (zeroValue t).run P w = .ok z w := by simp [zeroValue, r_info h, hz]
theorem r_new (w : World) (t : TypeId) (v : Value) (cs : List Value) (hv : v.cells = cs.toArray) : (newVar t v).run P w = .ok ⟨w.heap.size, 0, none⟩ (w.alloc (.cells cs.toArray t)) := by
  rw [← hv]
  rfl

theorem run_isAgg {t : TypeId} {de : TypeDesc} (hu : P.underlying t = some de) (w : World) : (isAgg t).run P w = .ok (!notAgg de) w := by
  unfold isAgg
  rw [Sem.run_bind, run_underlying hu w]
  cases de <;> rfl

theorem run_loadVar_cell {t : TypeId} {de : TypeDesc} (hu : P.underlying t = some de) (hn : notAgg de = true) {p : Addr} {v : Value} (hc : w.cell? p = some v) : (loadVar t p).run P w = .ok v w := by
  simp [loadVar, Sem.run_bind, run_isAgg hu, hn, load, Sem.run, hc]

theorem U_load (E : Env P) {t : TypeId} {x : Operand} {p : Addr} {v : Value} {de : TypeDesc} {s : Nat} (ht : E.ty t = some (de, s)) (hn : notAgg de = true) (hx : ev m x = some (.pointer (some p))) (hc : w.cell? p = some v) (hd : Nat.blt d n = true)
    (h : U P n Z ops rest ((d, v) :: m) w) : U P n Z ops ({ dst := some d, op := .load t x, type := ty, pos := ps, after := af, guard := none } :: rest) m w :=
  U_run rfl rfl hd (fun a ha => by simp [execOp, ha.eval hx, Instr.loadAt, Instr.sureAddr, run_loadVar_cell (E.ok _ _ _ ht).1 hn hc]) h

/-- A cell of a known block. -/
theorem U_loadB (E : Env P) {t : TypeId} {x : Operand} {b o : Nat} {cs : List Value} {bt : TypeId} {v : Value} {de : TypeDesc} {s : Nat} (hb : Blk w b cs bt) (ht : E.ty t = some (de, s)) (hn : notAgg de = true) (hx : ev m x = some (.pointer (some ⟨b, o, none⟩))) (hc : cs[o]? = some v) (hd : Nat.blt d n = true)
    (h : U P n Z ops rest ((d, v) :: m) w) : U P n Z ops ({ dst := some d, op := .load t x, type := ty, pos := ps, after := af, guard := none } :: rest) m w :=
  U_load E ht hn hx (by rw [hb.cell]; exact hc) hd h

theorem run_loadVar_seg {t : TypeId} {de : TypeDesc} {s : Nat} (hu : P.underlying t = some de) (hn : notAgg de = false) (hi : (P.info? t).map (·.size) = some s) {b o : Nat} {seg : List Value} (hs : Seg w b o seg) (hl : seg.length = s) :
    (loadVar t ⟨b, o, none⟩).run P w = .ok (.agg seg.toArray) w := by
  have h1 : (loadCells ⟨b, o, none⟩ seg.length).run P w = .ok seg.toArray w := run_loadCells_list (P := P) w ⟨b, o, none⟩ seg (fun j v hv => by rw [addr_add]; exact hs j v hv)
  cases hq : P.info? t with
  | none => simp [hq] at hi
  | some i =>
    have hs' : i.size = seg.length := by simp [hq] at hi; omega
    simp [loadVar, Sem.run_bind, run_isAgg hu, hn, sizeOf, typeInfo, hq, hs', h1]

theorem U_loadA (E : Env P) {t : TypeId} {x : Operand} {b o : Nat} {seg : List Value} {de : TypeDesc} {s : Nat} (hs : Seg w b o seg) (ht : E.ty t = some (de, s)) (hn : notAgg de = false) (hx : ev m x = some (.pointer (some ⟨b, o, none⟩))) (hl : seg.length = s) (hd : Nat.blt d n = true)
    (h : U P n Z ops rest ((d, .agg seg.toArray) :: m) w) : U P n Z ops ({ dst := some d, op := .load t x, type := ty, pos := ps, after := af, guard := none } :: rest) m w :=
  U_run rfl rfl hd (fun a ha => by simp [execOp, ha.eval hx, Instr.loadAt, Instr.sureAddr, run_loadVar_seg (E.ok _ _ _ ht).1 hn (E.ok _ _ _ ht).2 hs hl]) h

theorem run_storeVar_seg {t : TypeId} {s : Nat} (hi : (P.info? t).map (·.size) = some s) {b o : Nat} {cs seg : List Value} {bt : TypeId} {v : Value} (hb : Blk w b cs bt) (hv : v.cells = seg.toArray) (hl : seg.length = s) (ho : o + s ≤ cs.length) (h1 : ∀ u ∈ seg, u.oneCell' = true) :
    (storeVar t ⟨b, o, none⟩ v).run P w = .ok () (w.setRow b (cs.take o ++ seg ++ cs.drop (o + s)).toArray) := by
  cases hq : P.info? t with
  | none => simp [hq] at hi
  | some i =>
    have hs' : i.size = seg.length := by simp [hq] at hi; omega
    have hst := run_storeCells_at P b o bt seg 0 cs.toArray w hb (by simp; omega) h1
    simp only [Nat.add_zero] at hst
    rw [← hl]
    simp [storeVar, Sem.run_bind, r_size hq, hs', hv]
    simpa using hst

theorem set_eq_splice (cs : List Value) (o : Nat) (v : Value) (ho : o < cs.length) : cs.take o ++ [v] ++ cs.drop (o + 1) = cs.set o v := by
  rw [List.set_eq_take_append_cons_drop, if_pos ho]
  simp

theorem U_store (E : Env P) {t : TypeId} {x y : Operand} {b o : Nat} {cs : List Value} {bt : TypeId} {v : Value} {de : TypeDesc} (hb : Blk w b cs bt) (ht : E.ty t = some (de, 1)) (hx : ev m x = some (.pointer (some ⟨b, o, none⟩))) (hy : ev m y = some v) (ho : o < cs.length) (h1 : v.oneCell' = true)
    (h : ∀ w', Upd w w' b (cs.set o v) bt → U P n Z ops rest m w') : U P n Z ops ({ dst := none, op := .store t x y, type := ty, pos := ps, after := af, guard := none } :: rest) m w := by
  have hv : v.cells = [v].toArray := by cases v <;> simp [Value.oneCell'] at h1 <;> rfl
  have hr := run_storeVar_seg (P := P) (E.ok _ _ _ ht).2 hb hv rfl (Nat.succ_le_of_lt ho) (by simpa using h1)
  rw [set_eq_splice cs o v ho] at hr
  exact U_skip rfl rfl (fun a ha => by simp [execOp, ha.eval hx, ha.eval hy, Instr.storeAt, Instr.sureAddr, hr]) (h _ (Upd.setRow hb _))

theorem U_storeA (E : Env P) {t : TypeId} {x y : Operand} {b o : Nat} {cs seg : List Value} {bt : TypeId} {de : TypeDesc} {s : Nat} (hb : Blk w b cs bt) (ht : E.ty t = some (de, s)) (hx : ev m x = some (.pointer (some ⟨b, o, none⟩))) (hy : ev m y = some (.agg seg.toArray)) (hl : seg.length = s) (ho : o + s ≤ cs.length) (h1 : ∀ u ∈ seg, u.oneCell' = true)
    (h : ∀ w', Upd w w' b (cs.take o ++ seg ++ cs.drop (o + s)) bt → U P n Z ops rest m w') : U P n Z ops ({ dst := none, op := .store t x y, type := ty, pos := ps, after := af, guard := none } :: rest) m w := by
  have hr := run_storeVar_seg (P := P) (v := .agg seg.toArray) (E.ok _ _ _ ht).2 hb rfl hl ho h1
  exact U_skip rfl rfl (fun a ha => by simp [execOp, ha.eval hx, ha.eval hy, Instr.storeAt, Instr.sureAddr, hr]) (h _ (Upd.setRow hb _))

theorem U_alloc (E : Env P) {t : TypeId} {s by_ : Nat} {z : Value} {zs : List Value} (hi : E.info t = some (s, by_, z)) (hz : z.cells = zs.toArray) (hd : Nat.blt d n = true)
    (h : ∀ b w', New w w' b zs t → U P n Z ops rest ((d, .pointer (some ⟨b, 0, none⟩)) :: m) w') : U P n Z ops ({ dst := some d, op := .alloc t, type := ty, pos := ps, after := af, guard := none } :: rest) m w := by
  obtain ⟨i, h1, _, _, h4⟩ := E.info_ok _ _ _ _ hi
  exact U_run rfl rfl hd (fun a _ => by
    simp [execOp, Instr.alloc, Sem.run_bind, r_zero h1 h4, r_new w t z zs hz]) (h _ _ (New.alloc w zs t))

theorem U_box (E : Env P) {t : TypeId} {x : Operand} {v : Value} {cs : List Value} (hx : ev m x = some v) (hz : v.cells = cs.toArray) (hd : Nat.blt d n = true)
    (h : ∀ b w', New w w' b cs t → U P n Z ops rest ((d, .pointer (some ⟨b, 0, none⟩)) :: m) w') : U P n Z ops ({ dst := some d, op := .box t x, type := ty, pos := ps, after := af, guard := none } :: rest) m w :=
  have _ := E
  U_run rfl rfl hd (fun a ha => by
    simp [execOp, Instr.box, ha.eval hx, r_new w t v cs hz]) (h _ _ (New.alloc w cs t))

/-- An operation that turns nothing, its run laid by hand. -/
theorem U_same {op : Op} {v : Value} (hr : ∀ a : Act, Fits a n m → (execOp a.eval { dst := some d, op := op, type := ty, pos := ps, after := af, guard := none }).run P w = .ok (.value v) w) (hd : Nat.blt d n = true)
    (h : U P n Z ops rest ((d, v) :: m) w) : U P n Z ops ({ dst := some d, op := op, type := ty, pos := ps, after := af, guard := none } :: rest) m w :=
  U_run rfl rfl hd hr h

theorem run_indexAt_slice {t e : TypeId} {i : Int} {kd : IntKind} {b o len cap s : Nat} (hu : P.underlying t = some (.slice e)) (hs : (P.info? e).map (·.size) = some s) (h0 : 0 ≤ i) (hl : i < len) :
    (Instr.indexAt t (.slice (some ⟨b, o, none⟩) len cap) (.int kd i)).run P w = .ok (.pointer (some ⟨b, o + i.toNat * s, none⟩)) w := by
  cases hq : P.info? e with
  | none => simp [hq] at hs
  | some j =>
    have : j.size = s := by simpa [hq] using hs
    simp [Instr.indexAt, asIntOf, run_underlying hu, h0, hl, sizeOf, typeInfo, hq, this, addr_add]

theorem U_indexS (E : Env P) {t e : TypeId} {x y : Operand} {b o len cap s se : Nat} {i : Int} {kd : IntKind} {de : TypeDesc} (hu : E.ty t = some (.slice e, se)) (he : E.ty e = some (de, s)) (hx : ev m x = some (.slice (some ⟨b, o, none⟩) len cap)) (hy : ev m y = some (.int kd i)) {o' : Nat} (h0 : 0 ≤ i) (hl : i < len) (ho : o + i.toNat * s = o') (hd : Nat.blt d n = true)
    (h : U P n Z ops rest ((d, .pointer (some ⟨b, o', none⟩)) :: m) w) : U P n Z ops ({ dst := some d, op := .indexAddr t x y, type := ty, pos := ps, after := af, guard := none } :: rest) m w :=
  U_run rfl rfl hd (fun a ha => by
    have hr := run_indexAt_slice (P := P) (w := w) (kd := kd) (b := b) (o := o) (cap := cap) (E.ok _ _ _ hu).1 (E.ok _ _ _ he).2 h0 hl
    rw [ho] at hr
    simp only [execOp, ha.eval hx, ha.eval hy, Sem.run_bind, hr, Result.andThen_ok, Sem.run_pure]) h

/-- A slice's bounds. -/
def bnd (m : Fm) : Option Operand → Option (Option Int)
  | none => some none
  | some x => match ev m x with
    | some (.int _ i) => some (some i)
    | _ => none

theorem run_slice {t e : TypeId} {A : Option Addr} {len cap s : Nat} {lo hi : Option Value} {l h' : Nat} (hu : P.underlying t = some (.slice e)) (hs : (P.info? e).map (·.size) = some s)
    (hlo : match lo with | none => l = 0 | some v => ∃ kd, v = .int kd l) (hhi : match hi with | none => h' = len | some v => ∃ kd, v = .int kd h') (h1 : l ≤ h') (h2 : h' ≤ cap) :
    (Instr.sliceAt t (.slice A len cap) lo hi none).run P w = .ok (.slice (if cap = l then A else A.map (·.add (l * s))) (h' - l) (cap - l)) w := by
  cases hq : P.info? e with
  | none => simp [hq] at hs
  | some j =>
    have hj : j.size = s := by simpa [hq] using hs
    have hL : ∀ v : Value, (∃ kd, v = .int kd (l : Int)) → (Instr.sliceBound v h' .sliceB).run P w = .ok l w := by
      rintro v ⟨kd, rfl⟩
      simp [Instr.sliceBound, asIntOf]
      omega
    have hH : ∀ v : Value, (∃ kd, v = .int kd (h' : Int)) → (Instr.sliceBound v cap .sliceAcap).run P w = .ok h' w := by
      rintro v ⟨kd, rfl⟩
      simp [Instr.sliceBound, asIntOf]
      omega
    cases lo with
    | none =>
      simp only at hlo
      subst hlo
      cases hi with
      | none =>
        simp only at hhi
        subst hhi
        simp [Instr.sliceAt, Instr.slice, run_underlying hu, Instr.sliceBounds, sizeOf, typeInfo, hq]
      | some v =>
        simp [Instr.sliceAt, Instr.slice, run_underlying hu, Instr.sliceBounds, sizeOf, typeInfo, hq, hH v hhi]
    | some u =>
      cases hi with
      | none =>
        simp only at hhi
        subst hhi
        simp [Instr.sliceAt, Instr.slice, run_underlying hu, Instr.sliceBounds, sizeOf, typeInfo, hq, hj, hL u hlo]
      | some v =>
        simp [Instr.sliceAt, Instr.slice, run_underlying hu, Instr.sliceBounds, sizeOf, typeInfo, hq, hj, hH v hhi, hL u hlo]

/-- The slice of an array's cells. -/
theorem run_slice_array {t e : TypeId} {N b o s : Nat} {lo : Option Value} {l : Nat} (hu : P.underlying t = some (.array N e)) (hs : (P.info? e).map (·.size) = some s)
    (hlo : match lo with | none => l = 0 | some v => ∃ kd, v = .int kd l) (h1 : l ≤ N) :
    (Instr.sliceAt t (.pointer (some ⟨b, o, none⟩)) lo none none).run P w = .ok (.slice (some (if N = l then ⟨b, o, none⟩ else ⟨b, o + l * s, none⟩)) (N - l) (N - l)) w := by
  cases hq : P.info? e with
  | none => simp [hq] at hs
  | some j =>
    have hj : j.size = s := by simpa [hq] using hs
    cases lo with
    | none =>
      simp only at hlo
      subst hlo
      simp [Instr.sliceAt, run_underlying hu, Instr.sliceBounds, sizeOf, typeInfo, hq, Instr.sureAddr, addr_add]
    | some u =>
      have hL : ∀ v : Value, (∃ kd, v = .int kd (l : Int)) → (Instr.sliceBound v N .sliceB).run P w = .ok l w := by
        rintro v ⟨kd, rfl⟩
        simp [Instr.sliceBound, asIntOf]
        omega
      simp [Instr.sliceAt, run_underlying hu, Instr.sliceBounds, sizeOf, typeInfo, hq, hj, hL u hlo, Instr.sureAddr, addr_add]

theorem ro_sliceArr (E : Env P) {t e : TypeId} {x : Operand} {b o N s sa : Nat} {de : TypeDesc} (hu : E.ty t = some (.array N e, sa)) (he : E.ty e = some (de, s)) (hx : ev m x = some (.pointer (some ⟨b, o, none⟩))) (hN : Nat.blt 0 N = true) {dst : Option Tmp} {gd : Option (Nat × Bool)} :
    ∀ a, Fits a n m → (execOp a.eval { dst := dst, op := .slice t x none none none, type := ty, pos := ps, after := af, guard := gd }).run P w = .ok (.value (.slice (some ⟨b, o, none⟩) N N)) w := by
  intro a ha
  have hN' : 0 < N := by simpa using hN
  have hr := run_slice_array (P := P) (w := w) (b := b) (o := o) (lo := none) (l := 0) (E.ok _ _ _ hu).1 (E.ok _ _ _ he).2 rfl (by omega)
  rw [if_neg (by omega)] at hr
  simp only [Nat.zero_mul, Nat.add_zero, Nat.sub_zero] at hr
  simp only [execOp, ha.eval hx, Option.map_none, Sem.run_bind, hr, Result.andThen_ok, Sem.run_pure]
theorem ro_sliceArrFrom (E : Env P) {t e : TypeId} {x y : Operand} {b o N s sa l : Nat} {de : TypeDesc} {kd : IntKind} (hu : E.ty t = some (.array N e, sa)) (he : E.ty e = some (de, s)) (hx : ev m x = some (.pointer (some ⟨b, o, none⟩))) (hy : ev m y = some (.int kd (l : Int))) (hl : l < N) {dst : Option Tmp} {gd : Option (Nat × Bool)} :
    ∀ a, Fits a n m → (execOp a.eval { dst := dst, op := .slice t x (some y) none none, type := ty, pos := ps, after := af, guard := gd }).run P w = .ok (.value (.slice (some ⟨b, o + l * s, none⟩) (N - l) (N - l))) w := by
  intro a ha
  have hr := run_slice_array (P := P) (w := w) (b := b) (o := o) (lo := some (.int kd (l : Int))) (l := l) (E.ok _ _ _ hu).1 (E.ok _ _ _ he).2 ⟨kd, rfl⟩ (by omega)
  rw [if_neg (by omega)] at hr
  simp only [execOp, ha.eval hx, ha.eval hy, Option.map_none, Option.map_some, Sem.run_bind, hr, Result.andThen_ok, Sem.run_pure]
theorem ro_load (E : Env P) {t : TypeId} {x : Operand} {p : Addr} {v : Value} {de : TypeDesc} {s : Nat} (ht : E.ty t = some (de, s)) (hn : notAgg de = true) (hx : ev m x = some (.pointer (some p))) (hc : w.cell? p = some v) {dst : Option Tmp} {gd : Option (Nat × Bool)} :
    ∀ a, Fits a n m → (execOp a.eval { dst := dst, op := .load t x, type := ty, pos := ps, after := af, guard := gd }).run P w = .ok (.value v) w :=
  fun a ha => by simp [execOp, ha.eval hx, Instr.loadAt, Instr.sureAddr, run_loadVar_cell (E.ok _ _ _ ht).1 hn hc]
theorem ro_loadB (E : Env P) {t : TypeId} {x : Operand} {b o : Nat} {cs : List Value} {bt : TypeId} {v : Value} {de : TypeDesc} {s : Nat} (hb : Blk w b cs bt) (ht : E.ty t = some (de, s)) (hn : notAgg de = true) (hx : ev m x = some (.pointer (some ⟨b, o, none⟩))) (hc : cs[o]? = some v) {dst : Option Tmp} {gd : Option (Nat × Bool)} :
    ∀ a, Fits a n m → (execOp a.eval { dst := dst, op := .load t x, type := ty, pos := ps, after := af, guard := gd }).run P w = .ok (.value v) w :=
  ro_load E ht hn hx (by rw [hb.cell]; exact hc)
theorem ro_loadA (E : Env P) {t : TypeId} {x : Operand} {b o : Nat} {seg : List Value} {de : TypeDesc} {s : Nat} (hs : Seg w b o seg) (ht : E.ty t = some (de, s)) (hn : notAgg de = false) (hx : ev m x = some (.pointer (some ⟨b, o, none⟩))) (hl : seg.length = s) {dst : Option Tmp} {gd : Option (Nat × Bool)} :
    ∀ a, Fits a n m → (execOp a.eval { dst := dst, op := .load t x, type := ty, pos := ps, after := af, guard := gd }).run P w = .ok (.value (.agg seg.toArray)) w :=
  fun a ha => by simp [execOp, ha.eval hx, Instr.loadAt, Instr.sureAddr, run_loadVar_seg (E.ok _ _ _ ht).1 hn (E.ok _ _ _ ht).2 hs hl]
theorem ro_indexS (E : Env P) {t e : TypeId} {x y : Operand} {b o len cap s se : Nat} {i : Int} {kd : IntKind} {de : TypeDesc} {o' : Nat} (hu : E.ty t = some (.slice e, se)) (he : E.ty e = some (de, s)) (hx : ev m x = some (.slice (some ⟨b, o, none⟩) len cap)) (hy : ev m y = some (.int kd i)) (h0 : 0 ≤ i) (hl : i < len) (ho : o + i.toNat * s = o') {dst : Option Tmp} {gd : Option (Nat × Bool)} :
    ∀ a, Fits a n m → (execOp a.eval { dst := dst, op := .indexAddr t x y, type := ty, pos := ps, after := af, guard := gd }).run P w = .ok (.value (.pointer (some ⟨b, o', none⟩))) w := by
  intro a ha
  have hr := run_indexAt_slice (P := P) (w := w) (kd := kd) (b := b) (o := o) (cap := cap) (E.ok _ _ _ hu).1 (E.ok _ _ _ he).2 h0 hl
  rw [ho] at hr
  simp only [execOp, ha.eval hx, ha.eval hy, Sem.run_bind, hr, Result.andThen_ok, Sem.run_pure]
end
end Go.Proofs.YtoefhdaenaiomaaDoor
