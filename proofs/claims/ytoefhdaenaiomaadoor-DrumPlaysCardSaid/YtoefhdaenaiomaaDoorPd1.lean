/- Slices: read, made, appended to, copied. -/
import Derived.Test.YtoefhdaenaiomaaDoorPd0
import Derived.Great.BuildSlice
import Derived.OrdersHeld
import Derived.Deep.Quiet
import Derived.KernelRfl
import Derived.StillTail
set_option linter.unusedVariables false
set_option linter.unusedSimpArgs false
namespace Go.Proofs.YtoefhdaenaiomaaDoor
open Go
set_option maxRecDepth 20000

/-- A slice value that reads as the cells cs (n elements of sz cells), in a block of G. -/
def Sl (w : World) (G : Nat → Prop) (v : Value) (sz n : Nat) (cs : List Value) : Prop :=
  n ≤ 9223372036854775807 ∧ cs.length = n * sz ∧ ∃ A c, v = .slice A n c ∧ n ≤ c ∧ (n = 0 ∨ ∃ b o, A = some ⟨b, o, none⟩ ∧ G b ∧ b < w.heap.size ∧ Seg w b o cs)

/-- A slice of the code's own: nil, or a block from its head on. -/
def Row (w : World) (F : Nat → Prop) (v : Value) (sz n : Nat) (cs : List Value) (e : TypeId) : Prop :=
  cs.length = n * sz ∧ ((v = .slice none 0 0 ∧ n = 0) ∨ ∃ g cap pad, v = .slice (some ⟨g, 0, none⟩) n cap ∧ F g ∧ Blk w g (cs ++ pad) e ∧ (cs ++ pad).length = cap * sz ∧ n ≤ cap)

theorem Seg.nil (w : World) (b o : Nat) : Seg w b o [] := fun j v h => by simp at h

theorem Seg.part {w : World} {b o : Nat} {cs : List Value} (h : Seg w b o cs) (i l : Nat) : Seg w b (o + i) ((cs.drop i).take l) := by
  intro j v hj
  rw [List.getElem?_take] at hj
  split at hj
  · rw [List.getElem?_drop] at hj
    have := h _ _ hj
    rwa [Nat.add_assoc]
  · cases hj
theorem Seg.drop {w : World} {b o : Nat} {cs : List Value} (h : Seg w b o cs) (i : Nat) : Seg w b (o + i) (cs.drop i) := by
  intro j v hj
  rw [List.getElem?_drop] at hj
  have := h _ _ hj
  rwa [Nat.add_assoc]
theorem Seg.take {w : World} {b o : Nat} {cs : List Value} (h : Seg w b o cs) (l : Nat) : Seg w b o (cs.take l) := by
  intro j v hj
  rw [List.getElem?_take] at hj
  split at hj
  · exact h _ _ hj
  · cases hj

theorem Row.nil (w : World) (F : Nat → Prop) (sz : Nat) (e : TypeId) : Row w F (.slice none 0 0) sz 0 [] e := ⟨by simp, .inl ⟨rfl, rfl⟩⟩

theorem Row.sl {w : World} {F : Nat → Prop} {v : Value} {sz n : Nat} {cs : List Value} {e : TypeId} (h : Row w F v sz n cs e) (hn : n ≤ 9223372036854775807) : Sl w F v sz n cs := by
  refine ⟨hn, h.1, ?_⟩
  rcases h.2 with ⟨rfl, rfl⟩ | ⟨g, cap, pad, rfl, hF, hb, _, hc⟩
  · exact ⟨none, 0, rfl, Nat.le_refl _, .inl rfl⟩
  · refine ⟨_, cap, rfl, hc, .inr ⟨g, 0, rfl, hF, hb.lt, ?_⟩⟩
    have := hb.seg 0 cs.length
    simpa using this

theorem Row.own {w : World} {F : Nat → Prop} {v : Value} {sz n : Nat} {cs : List Value} {e : TypeId} (h : Row w F v sz n cs e) : ∀ b, v.ownBlock = some b → F b ∧ b < w.heap.size := by
  intro b hb
  rcases h.2 with ⟨rfl, _⟩ | ⟨g, cap, pad, rfl, hF, hblk, _⟩
  · simp [Value.ownBlock] at hb
  · simp only [Value.ownBlock] at hb
    injection hb with hb
    subst hb
    exact ⟨hF, hblk.lt⟩

theorem Sl.mono {w : World} {F G : Nat → Prop} {v : Value} {sz n : Nat} {cs : List Value} (h : Sl w F v sz n cs) (hg : ∀ b, b < w.heap.size → F b → G b) : Sl w G v sz n cs := by
  obtain ⟨h1, h2, A, c, h3, h4, h5⟩ := h
  refine ⟨h1, h2, A, c, h3, h4, ?_⟩
  rcases h5 with h5 | ⟨b, o, e, hF, hlt, hs⟩
  · exact .inl h5
  · exact .inr ⟨b, o, e, hg _ hlt hF, hlt, hs⟩
theorem Row.mono {w : World} {F G : Nat → Prop} {v : Value} {sz n : Nat} {cs : List Value} {e : TypeId} (h : Row w F v sz n cs e) (hg : ∀ b, b < w.heap.size → F b → G b) : Row w G v sz n cs e := by
  refine ⟨h.1, ?_⟩
  rcases h.2 with h5 | ⟨g, cap, pad, e, hF, hb, r⟩
  · exact .inl h5
  · exact .inr ⟨g, cap, pad, e, hg _ hb.lt hF, hb, r⟩

theorem Sl.mv {w w' : World} {F G : Nat → Prop} {v : Value} {sz n : Nat} {cs : List Value} (h : Sl w G v sz n cs) (k : Kept F w w') (hd : ∀ b, b < w.heap.size → G b → ¬ F b) : Sl w' G v sz n cs := by
  obtain ⟨h1, h2, A, c, h3, h4, h5⟩ := h
  refine ⟨h1, h2, A, c, h3, h4, ?_⟩
  rcases h5 with h5 | ⟨b, o, e, hG, hlt, hs⟩
  · exact .inl h5
  · exact .inr ⟨b, o, e, hG, Nat.lt_of_lt_of_le hlt k.size, hs.mv k (hd b hlt hG)⟩
theorem Row.mv {w w' : World} {F G : Nat → Prop} {v : Value} {sz n : Nat} {cs : List Value} {e : TypeId} (h : Row w G v sz n cs e) (k : Kept F w w') (hd : ∀ b, b < w.heap.size → G b → ¬ F b) : Row w' G v sz n cs e := by
  refine ⟨h.1, ?_⟩
  rcases h.2 with h5 | ⟨g, cap, pad, e, hG, hb, r⟩
  · exact .inl h5
  · exact .inr ⟨g, cap, pad, e, hG, hb.mv k (hd g hb.lt hG), r⟩

section
variable {P : Program} {w : World}

theorem r_first {sz n : Nat} {v : Value} {G : Nat → Prop} {cs : List Value} (h : Sl w G v sz n cs) : (Builtin.firstCells sz n v).run P w = .ok cs.toArray w := by
  obtain ⟨_, h2, A, c, rfl, h4, h5⟩ := h
  rcases h5 with rfl | ⟨b, o, rfl, _, _, hs⟩
  · have : cs = [] := List.eq_nil_of_length_eq_zero (by simpa using h2)
    subst this
    cases A with
    | none => exact run_firstCells_none (P := P) w sz 0 0 c
    | some a => exact run_firstCells_some (P := P) w sz 0 a 0 c [] h2 (fun j v hv => by simp at hv)
  · exact run_firstCells_some (P := P) w sz n ⟨b, o, none⟩ n c cs h2 (fun j v hv => by rw [addr_add]; exact hs j v hv)

theorem Sl.len {n sz : Nat} {v : Value} {G : Nat → Prop} {cs : List Value} (h : Sl w G v sz n cs) : ∃ A c, v = .slice A n c := by
  obtain ⟨_, _, A, c, e, _⟩ := h
  exact ⟨A, c, e⟩

theorem madeCells_replicate (u : Value) (n : Nat) : madeCells #[u] n = (List.replicate n u).toArray := by
  apply Array.ext
  · simp [madeCells]
  · intro i h1 h2
    have : ((fun x => #[u][x % #[u].size]!) i) = u := by
      simp [Nat.mod_one]
    simp [madeCells, Nat.mod_one]

theorem Seg.drew {b o : Nat} {cs : List Value} (h : Seg w b o cs) : Seg w.drew b o cs := h
theorem Sl.drew {n sz : Nat} {v : Value} {G : Nat → Prop} {cs : List Value} (h : Sl w G v sz n cs) : Sl w.drew G v sz n cs := h

/-- append: what it comes to. -/
theorem r_append {F G : Nat → Prop} {t ty e : TypeId} {i : TypeInfo} {z : Value} {sz by_ : Nat} (ht : P.underlying t = some (.slice e)) (hi : P.info? e = some i) (hs : i.size = sz) (hby : i.bytes = by_) (hz : i.zero = some z) (hzs : z.cells.size = sz)
    {v x : Value} {n l : Nat} {cs news : List Value} (hv : Row w F v sz n cs e) (hx : Sl w G x sz l news) (h1 : ∀ u ∈ news, u.oneCell' = true) (hb : (n + l) * by_ ≤ 140737488355328) (hnl : n + l ≤ 281474976710656) :
    ∃ v' w', (Builtin.append_ #[t, t] ty #[v, x]).run P w = .ok v' w' ∧ Row w' (fun b => F b ∨ w.heap.size ≤ b) v' sz (n + l) (cs ++ news) e ∧ Kept (fun b => v.ownBlock = some b) w w' ∧
      (v' = .slice none 0 0 ↔ v = .slice none 0 0 ∧ l = 0) ∧ (∀ b, v'.ownBlock = some b → v.ownBlock = some b ∨ w.heap.size ≤ b) := by
  have hlen : (cs ++ news).length = (n + l) * sz := by rw [List.length_append, hv.1, hx.2.1, Nat.add_mul]
  have hfx := r_first (P := P) hx
  have hfxd := r_first (P := P) hx.drew
  obtain ⟨_, hxl, Ax, cx, rfl, hxc, hx5⟩ := hx
  subst hs
  have grow : ∀ (A : Option Addr) (cap : Nat), ¬ n + l ≤ cap → n ≤ cap → v = .slice A n cap → (Builtin.firstCells i.size n v).run P w.drew = .ok cs.toArray w.drew →
      ∃ v' w', (Builtin.append_ #[t, t] ty #[v, .slice Ax l cx]).run P w = .ok v' w' ∧ Row w' (fun b => F b ∨ w.heap.size ≤ b) v' i.size (n + l) (cs ++ news) e ∧ Kept (fun b => v.ownBlock = some b) w w' ∧
      (v' = .slice none 0 0 ↔ v = .slice none 0 0 ∧ l = 0) ∧ (∀ b, v'.ownBlock = some b → v.ownBlock = some b ∨ w.heap.size ≤ b) := by
    intro A cap hcap hnc hvv hfc
    subst hvv
    have hge := grownCap_ge w (n + l) cap e
    have h63 : ¬ (9223372036854775807 < (n : Int) + (l : Int)) := by omega
    have hfit : ¬ (281474976710656 < Builtin.nextslicecap (n + l) cap * i.bytes) := by
      have := growslice_fits (need := n + l) (old := cap) (bytes := i.bytes) (by omega) (by rw [hby]; exact hb)
      omega
    refine ⟨.slice (some ⟨w.heap.size, 0, none⟩) (n + l) (grownCap w (n + l) cap e), w.drew.alloc (.cells ((cs ++ news) ++ (Builtin.zeroCells z.cells (grownCap w (n + l) cap e - (n + l))).toList).toArray e), ?_, ?_, ?_, ?_, ?_⟩
    · simp [Builtin.append_, run_underlying ht, sizeOf, typeInfo, zeroValue, hi, hz, Builtin.lenOf, hcap, h63, hfit, Question.forced, hfc, hfxd, newRow, grownCap]
      congr 2
      apply Array.ext'
      simp
    · refine ⟨hlen, .inr ⟨w.heap.size, _, (Builtin.zeroCells z.cells (grownCap w (n + l) cap e - (n + l))).toList, rfl, .inr (Nat.le_refl _), heap_alloc_new w.drew _, ?_, hge⟩⟩
      rw [List.length_append, hlen]
      simp only [Array.length_toList, size_zeroCells, hzs]
      rw [← Nat.add_mul]
      congr 1
      omega
    · exact (New.alloc w.drew _ e).drew.kept.mono (fun _ _ h => h.elim)
    · constructor
      · intro h; cases h
      · rintro ⟨h, h0⟩
        injection h with h2 h3 h4
        omega
    · intro b hbb
      right
      simp only [Value.ownBlock] at hbb
      injection hbb with hbb
      omega
  rcases hv.2 with ⟨rfl, rfl⟩ | ⟨g, cap, pad, rfl, hF, hblk, hcl, hnc⟩
  · have hc0 : cs = [] := List.eq_nil_of_length_eq_zero (by simpa using hv.1)
    subst hc0
    by_cases hl0 : l = 0
    · subst hl0
      have hn0 : news = [] := List.eq_nil_of_length_eq_zero (by simpa using hxl)
      subst hn0
      refine ⟨.slice none 0 0, w, ?_, by simpa using Row.nil w _ i.size e, Kept.refl _ _, by simp, by simp [Value.ownBlock]⟩
      simp [Builtin.append_, run_underlying ht, sizeOf, typeInfo, hi, Builtin.lenOf, hfx]
    · exact grow none 0 (by omega) (Nat.le_refl _) rfl (run_firstCells_none (P := P) w.drew i.size 0 0 0)
  · by_cases hroom : n + l ≤ cap
    · have hst := run_storeCells_at P g cs.length e news 0 (cs ++ pad).toArray w hblk (by
        have := Nat.mul_le_mul_right i.size hroom
        rw [← hlen, List.length_append] at this
        simp only [List.size_toArray, hcl]
        omega) h1
      simp only [Nat.add_zero] at hst
      have hcells : ((cs ++ pad).toArray.toList.take cs.length ++ news ++ (cs ++ pad).toArray.toList.drop (cs.length + news.length)) = (cs ++ news) ++ pad.drop news.length := by
        simp [List.drop_append]
      rw [hcells] at hst
      refine ⟨.slice (some ⟨g, 0, none⟩) (n + l) cap, w.setRow g ((cs ++ news) ++ pad.drop news.length).toArray, ?_, ?_, ?_, by simp, fun b hb => .inl hb⟩
      · have hoff : (⟨g, 0, none⟩ : Addr).add (n * i.size) = ⟨g, cs.length, none⟩ := by rw [addr_add, hv.1]; simp
        simp [Builtin.append_, run_underlying ht, sizeOf, typeInfo, hi, Builtin.lenOf, hroom, hfx, hoff, hst]
      · refine ⟨hlen, .inr ⟨g, cap, pad.drop news.length, rfl, .inl hF, (Upd.setRow hblk _).blk, ?_, hroom⟩⟩
        have := Nat.mul_le_mul_right i.size hroom
        rw [← hlen, List.length_append] at this
        rw [← hcl] at this ⊢
        simp only [List.length_append, List.length_drop] at this ⊢
        omega
      · exact (Upd.setRow hblk _).kept.mono (fun b _ hb => by simp [Value.ownBlock, hb])
    · refine grow _ cap hroom hnc rfl ?_
      have hd : Sl w.drew (fun _ => True) (.slice (some ⟨g, 0, none⟩) n cap) i.size n cs :=
        ⟨by omega, hv.1, _, cap, rfl, hnc, .inr ⟨g, 0, rfl, trivial, hblk.lt, by have := hblk.seg 0 cs.length; simp only [List.drop_zero, List.take_left] at this; exact this⟩⟩
      exact r_first hd
end

section
variable {P : Program} {f : FuncId} {R : Ending → World → Prop} {n : Nat} {k : List Item} {m : Fm} {Z : Act → World → Prop} {ops : Array Oper} {rest : List Oper} {w : World}
variable {d : Nat} {ty : TypeId} {ps : String} {af : Array Edge}

/-- The place of an element of one cell. -/
theorem U_idx (E : Env P) {G : Nat → Prop} {t e : TypeId} {x y : Operand} {v u : Value} {cs : List Value} {N se : Nat} {i : Int} {kd : IntKind} {de : TypeDesc} (hs : Sl w G v 1 N cs) (hu : E.ty t = some (.slice e, se)) (he : E.ty e = some (de, 1)) (hx : ev m x = some v) (hy : ev m y = some (.int kd i)) (h0 : 0 ≤ i) (hl : i < N) (hc : cs[i.toNat]? = some u) (hd : Nat.blt d n = true)
    (h : ∀ p, w.cell? p = some u → U P n Z ops rest ((d, .pointer (some p)) :: m) w) : U P n Z ops ({ dst := some d, op := .indexAddr t x y, type := ty, pos := ps, after := af, guard := none } :: rest) m w := by
  obtain ⟨_, _, A, c, rfl, _, h5⟩ := hs
  rcases h5 with rfl | ⟨b, o, rfl, _, _, hseg⟩
  · exfalso
    simp at hl
    omega
  · exact U_indexS E hu he hx hy h0 hl (by rw [Nat.mul_one]) hd (h _ (hseg _ _ hc))

theorem U_append (E : Env P) {F G : Nat → Prop} {t e : TypeId} {x y : Operand} {v u : Value} {z : Value} {sz by_ se N l : Nat} {cs news : List Value} (hv : Row w F v sz N cs e) (hu : Sl w G u sz l news) (h1 : ∀ c ∈ news, c.oneCell' = true)
    (ht : E.ty t = some (.slice e, se)) (hi : E.info e = some (sz, by_, z)) (hzs : z.cells.size = sz) (hx : ev m x = some v) (hy : ev m y = some u) (hb : (N + l) * by_ ≤ 140737488355328) (hnl : N + l ≤ 281474976710656) (hd : Nat.blt d n = true)
    (h : ∀ v' w', Row w' (fun b => F b ∨ w.heap.size ≤ b) v' sz (N + l) (cs ++ news) e → Kept (fun b => v.ownBlock = some b) w w' → (v' = .slice none 0 0 ↔ v = .slice none 0 0 ∧ l = 0) → (∀ b, v'.ownBlock = some b → v.ownBlock = some b ∨ w.heap.size ≤ b) → U P n Z ops rest ((d, v') :: m) w') :
    U P n Z ops ({ dst := some d, op := .call { callee := .builtin .append, args := #[x, y], argTypes := #[t, t] }, type := ty, pos := ps, after := af, guard := none } :: rest) m w := by
  obtain ⟨i, hi1, hi2, hi3, hi4⟩ := E.info_ok _ _ _ _ hi
  obtain ⟨v', w', hr, h2, h3, h4, h5⟩ := r_append (P := P) (ty := ty) (E.ok _ _ _ ht).1 hi1 hi2 hi3 hi4 hzs hv hu h1 hb hnl
  exact U_run rfl rfl hd (fun a ha => by
    simp only [execOp, resolve, invoke, builtin, Sem.run_bind, Sem.run_pure, Result.andThen_ok, List.map_toArray, List.map_cons, List.map_nil, ha.eval hx, ha.eval hy, hr]) (h v' w' h2 h3 h4 h5)

theorem U_copy (E : Env P) {G : Nat → Prop} {t e : TypeId} {x y : Operand} {g o dl dc l se : Nat} {u : Value} {de : TypeDesc} {cur cs : List Value} {bt : TypeId} (hb : Blk w g cur bt) (hu : Sl w G u 1 l cs) (h1 : ∀ c ∈ cs, c.oneCell' = true)
    (ht : E.ty t = some (.slice e, se)) (he : E.ty e = some (de, 1)) (hx : ev m x = some (.slice (some ⟨g, o, none⟩) dl dc)) (hy : ev m y = some u) (hfit : o + dl ≤ cur.length) (hd : Nat.blt d n = true)
    (h : ∀ w', Upd w w' g (cur.take o ++ cs.take dl ++ cur.drop (o + (cs.take dl).length)) bt → U P n Z ops rest ((d, .int .i64 (min l dl : Nat)) :: m) w') :
    U P n Z ops ({ dst := some d, op := .call { callee := .builtin .copy, args := #[x, y], argTypes := #[t, t] }, type := ty, pos := ps, after := af, guard := none } :: rest) m w := by
  have hl := hu.2.1
  obtain ⟨_, _, A, c, rfl, _, h5⟩ := hu
  have hn : (cs.take dl).length = Nat.min l dl := by
    rw [List.length_take, hl, Nat.mul_one]
    exact Nat.min_comm _ _
  have hlo : ∀ v ∈ cs.take dl, v.oneCell' = true := fun v hv => h1 v (List.mem_of_mem_take hv)
  rcases h5 with rfl | ⟨b, ob, rfl, _, _, hs⟩
  · have hc0 : cs = [] := List.eq_nil_of_length_eq_zero (by simpa using hl)
    subst hc0
    cases A with
    | none =>
      have hsome : ((P.info? e).map (·.size)).isSome = true := by simp [(E.ok _ _ _ he).2]
      cases hq : P.info? e with
      | none => simp [hq] at hsome
      | some i =>
        refine U_run rfl rfl hd (fun a ha => ?_) (h w ⟨by simpa using hb, Kept.refl _ _, rfl⟩)
        simp [execOp, resolve, invoke, builtin, ha.eval hx, ha.eval hy, Builtin.copy_, run_underlying (E.ok _ _ _ ht).1, Builtin.lenOf, Builtin.firstCells, sizeOf, typeInfo, hq, storeCells, goInt]
    | some p =>
      have hr := run_copy_row (P := P) w t t ty e g o dl dc p 0 c cur.toArray bt ([].take dl) (E.ok _ _ _ ht).1 (E.ok _ _ _ he).2 hb hn (fun j v hv => by simp at hv) (by simp only [List.size_toArray]; rw [hn]; have : Nat.min 0 dl ≤ dl := Nat.min_le_right _ _; omega) hlo
      refine U_run rfl rfl hd (fun a ha => ?_) (h _ (Upd.setRow hb _))
      simp only [execOp, resolve, invoke, builtin, Sem.run_bind, Sem.run_pure, Result.andThen_ok, List.map_toArray, List.map_cons, List.map_nil, ha.eval hx, ha.eval hy]
      rw [hr]
      simp only [Result.andThen_ok, goInt, hn]
  · have hr := run_copy_row (P := P) w t t ty e g o dl dc ⟨b, ob, none⟩ l c cur.toArray bt (cs.take dl) (E.ok _ _ _ ht).1 (E.ok _ _ _ he).2 hb hn (fun j v hv => by rw [addr_add]; exact (hs.take dl) j v hv) (by simp only [List.size_toArray]; rw [hn]; have : Nat.min l dl ≤ dl := Nat.min_le_right _ _; omega) hlo
    refine U_run rfl rfl hd (fun a ha => ?_) (h _ (Upd.setRow hb _))
    simp only [execOp, resolve, invoke, builtin, Sem.run_bind, Sem.run_pure, Result.andThen_ok, List.map_toArray, List.map_cons, List.map_nil, ha.eval hx, ha.eval hy]
    rw [hr]
    simp only [Result.andThen_ok, goInt, hn]

/-- Rows of one length, one behind the other. -/
theorem flat_get {α : Type} {sz : Nat} (h0 : 0 < sz) : ∀ (segs : List (List α)), (∀ s ∈ segs, s.length = sz) → ∀ k : Nat, segs.flatten[k]? = (segs[k / sz]?).bind (·[k % sz]?)
  | [], _, k => by simp
  | s :: segs, h, k => by
    have hs : s.length = sz := h s (by simp)
    rw [List.flatten_cons, List.getElem?_append, hs]
    by_cases hk : k < sz
    · rw [if_pos hk, Nat.div_eq_of_lt hk, Nat.mod_eq_of_lt hk]
      simp
    · rw [if_neg hk, flat_get h0 segs (fun x hx => h x (by simp [hx])) (k - sz)]
      have h1 : k / sz = (k - sz) / sz + 1 := by
        have := Nat.add_div_right (k - sz) h0
        rw [show k - sz + sz = k by omega] at this
        exact this
      have h2 : k % sz = (k - sz) % sz := by
        have := Nat.add_mod_right (k - sz) sz
        rw [show k - sz + sz = k by omega] at this
        exact this
      rw [h1, h2, List.getElem?_cons_succ]

theorem flat_len {α : Type} {sz : Nat} : ∀ (segs : List (List α)), (∀ s ∈ segs, s.length = sz) → segs.flatten.length = segs.length * sz
  | [], _ => by simp
  | s :: segs, h => by
    have hs : s.length = sz := h s (by simp)
    have := flat_len segs (fun x hx => h x (by simp [hx]))
    simp only [List.flatten_cons, List.length_append, List.length_cons, Nat.succ_mul]
    omega

theorem fill_flat {sz : Nat} (h0 : 0 < sz) (vs : List Value) (segs : List (List Value)) (hv : vs.map (·.cells) = segs.map (·.toArray)) (hl : ∀ s ∈ segs, s.length = sz) (cells : Array Value) (hc : cells.size = vs.length * sz) :
    Instr.fill (fun i => some (i * sz, sz)) cells ((vs.zipIdx 0).map fun x => (x.2, x.1)) = some segs.flatten.toArray := by
  have hlen : vs.length = segs.length := by simpa using congrArg List.length hv
  have hget : ∀ i : Nat, (vs[i]?).map (·.cells) = (segs[i]?).map (·.toArray) := by
    intro i
    have := congrArg (fun l => l[i]?) hv
    simpa using this
  have hvs : ∀ v ∈ vs, v.cells.size = sz := by
    intro v hm
    obtain ⟨i, hi, rfl⟩ := List.mem_iff_getElem.1 hm
    have h1 := hget i
    rw [List.getElem?_eq_getElem hi, List.getElem?_eq_getElem (by omega)] at h1
    simp only [Option.map_some] at h1
    injection h1 with h1
    rw [h1]
    simpa using hl _ (List.getElem_mem (by omega))
  obtain ⟨r, hr, hsz, hk⟩ := Great.fill_dense h0 vs 0 cells hvs (by rw [hc]; simp)
  rw [hr]
  congr 1
  apply Array.ext'
  apply List.ext_getElem?
  intro j
  rw [Array.getElem?_toList, hk j]
  have hfl := flat_get h0 segs hl j
  simp only [Nat.zero_mul, Nat.zero_le, true_and, Nat.zero_add, Nat.sub_zero]
  by_cases hj : j < vs.length * sz
  · rw [if_pos hj, hfl]
    have h1 := hget (j / sz)
    cases hx : vs[j / sz]? with
    | none =>
      rw [hx] at h1
      cases hy : segs[j / sz]? with
      | none => rfl
      | some y => rw [hy] at h1; cases h1
    | some x =>
      rw [hx] at h1
      cases hy : segs[j / sz]? with
      | none => rw [hy] at h1; cases h1
      | some y =>
        rw [hy] at h1
        simp only [Option.map_some] at h1
        injection h1 with h1
        simp [h1]
  · rw [if_neg hj]
    have h1 : cells[j]? = none := by simp; omega
    rw [hlen] at hj
    have h2 : segs.flatten[j]? = none := by
      have := flat_len segs hl
      apply List.getElem?_eq_none
      omega
    rw [h1, h2]

theorem U_buildSlice (E : Env P) {t e : TypeId} {parts : Array (Nat × Operand)} {vs : List Value} {segs : List (List Value)} {z : Value} {sz by_ se len : Nat} (ht : E.ty t = some (.slice e, se)) (hi : E.info e = some (sz, by_, z)) (h0 : Nat.blt 0 sz = true)
    (hp : parts.toList = ((parts.toList.map (·.2)).zipIdx 0).map fun x => (x.2, x.1)) (he : evs m (parts.toList.map (·.2)) = some vs) (hlen : vs.length = len) (hpos : Nat.blt 0 len = true) (hsmall : Nat.ble (len * sz) 16777216 = true) (hv : vs.map (·.cells) = segs.map (·.toArray)) (hl : ∀ s ∈ segs, s.length = sz) (hd : Nat.blt d n = true)
    (h : ∀ b w', New w w' b segs.flatten e → U P n Z ops rest ((d, .slice (some ⟨b, 0, none⟩) len len) :: m) w') :
    U P n Z ops ({ dst := some d, op := .buildSlice t len parts, type := ty, pos := ps, after := af, guard := none } :: rest) m w := by
  obtain ⟨i, hi1, hi2, hi3, hi4⟩ := E.info_ok _ _ _ _ hi
  subst hi2
  subst hlen
  have h0' : 0 < i.size := by simpa using h0
  have hpos' : 0 < vs.length := by simpa using hpos
  have hsmall' : vs.length * i.size ≤ 16777216 := by simpa using hsmall
  have hne : ¬ vs.length * i.size = 0 := by
    have := Nat.mul_pos hpos' h0'
    omega
  have hfill := fill_flat h0' vs segs hv hl ((Array.range (vs.length * i.size)).map (z.cells[· % z.cells.size]!)) (by simp)
  refine U_run rfl rfl hd (fun a ha => ?_) (h _ _ (New.alloc w segs.flatten e))
  have hparts : (parts.map fun (i, x) => (i, a.eval x)).toList = (vs.zipIdx 0).map fun x => (x.2, x.1) := by
    have hv2 := ha.evals he
    generalize parts.toList.map (·.2) = L at hp hv2
    rw [← hv2, Array.toList_map, hp, List.zipIdx_map, List.map_map, List.map_map]
    rfl
  have hr := run_buildSlice (P := P) w t e vs.length (parts.map fun (i, x) => (i, a.eval x)) segs.flatten.toArray i z (E.ok _ _ _ ht).1 hi1 hi4 (by omega) hne (by rw [hparts]; exact hfill)
  simp only [execOp, Sem.run_bind, hr, Result.andThen_ok, Sem.run_pure]

theorem U_buildSlice0 (E : Env P) {t e : TypeId} {z : Value} {sz by_ se : Nat} (ht : E.ty t = some (.slice e, se)) (hi : E.info e = some (sz, by_, z)) (hd : Nat.blt d n = true)
    (h : ∀ b w', New w w' b [] e → U P n Z ops rest ((d, .slice (some ⟨b, 0, none⟩) 0 0) :: m) w') :
    U P n Z ops ({ dst := some d, op := .buildSlice t 0 #[], type := ty, pos := ps, after := af, guard := none } :: rest) m w := by
  obtain ⟨i, hi1, hi2, hi3, hi4⟩ := E.info_ok _ _ _ _ hi
  refine U_run rfl rfl hd (fun a ha => ?_) (h _ _ (New.alloc w [] e))
  have hr : (Instr.buildSlice t 0 #[]).run P w = .ok (.slice (some ⟨w.heap.size, 0, none⟩) 0 0) (w.alloc (.cells [].toArray e)) := by
    simp [Instr.buildSlice, run_underlying (E.ok _ _ _ ht).1, sizeOf, typeInfo, hi1, Instr.fill, newRow, Array.range_zero']
  have he : (#[] : Array (Nat × Operand)).map (fun (i, x) => (i, a.eval x)) = #[] := by simp
  simp only [execOp, he, Sem.run_bind, hr, Result.andThen_ok, Sem.run_pure]

theorem U_build {t : TypeId} {parts : Array (Nat × Operand)} {vs : List Value} {cells : List Value} (he : evs m (parts.toList.map (·.2)) = some vs) (hb : P.built t ((parts.toList.map (·.1)).zip vs) = some cells.toArray) (hd : Nat.blt d n = true)
    (h : U P n Z ops rest ((d, .agg cells.toArray) :: m) w) :
    U P n Z ops ({ dst := some d, op := .build t parts, type := ty, pos := ps, after := af, guard := none } :: rest) m w := by
  refine U_run rfl rfl hd (fun a ha => ?_) h
  have hp : (parts.map fun (i, x) => (i, a.eval x)).toList = (parts.toList.map (·.1)).zip vs := by
    rw [← ha.evals he, Array.toList_map]
    generalize parts.toList = L
    induction L with
    | nil => rfl
    | cons p r ih => simp [ih]
  have hr := run_build (P := P) w t (parts.map fun (i, x) => (i, a.eval x)) cells.toArray (by rw [hp]; exact hb)
  simp only [execOp, Sem.run_bind, hr, Result.andThen_ok, Sem.run_pure]

theorem U_make (E : Env P) {t e : TypeId} {x y : Operand} {z : Value} {sz by_ se N : Nat} {kx ky : IntKind} {zs : List Value} (ht : E.ty t = some (.slice e, se)) (hi : E.info e = some (sz, by_, z)) (hz : z.cells = zs.toArray) (hx : ev m x = some (.int kx N)) (hy : ev m y = some (.int ky N)) (hb : by_ * N ≤ 140737488355328) (hN : N ≤ 281474976710656) (hzl : zs.length = sz) (h0 : Nat.blt 0 sz = true) (hd : Nat.blt d n = true)
    (h : ∀ b w', New w w' b (List.replicate N zs).flatten e → U P n Z ops rest ((d, .slice (some ⟨b, 0, none⟩) N N) :: m) w') :
    U P n Z ops ({ dst := some d, op := .makeSlice t x y, type := ty, pos := ps, after := af, guard := none } :: rest) m w := by
  obtain ⟨i, hi1, hi2, hi3, hi4⟩ := E.info_ok _ _ _ _ hi
  subst hi2
  have h0' : 0 < i.size := by simpa using h0
  have hcast : (i.bytes : Int) * (N : Int) ≤ 281474976710656 := by
    rw [hi3]
    have h2 : ((by_ * N : Nat) : Int) ≤ ((140737488355328 : Nat) : Int) := Int.ofNat_le.2 hb
    simp only [Int.natCast_mul] at h2
    omega
  have hr := run_make (P := P) w t e i z (E.ok _ _ _ ht).1 hi1 hi4 kx ky (N : Int) (N : Int) (by omega) (by omega) hcast (by omega)
  have hmade : madeCells z.cells (N * i.size) = (List.replicate N zs).flatten.toArray := by
    apply Array.ext'
    apply List.ext_getElem?
    intro j
    have hlz : ∀ s ∈ List.replicate N zs, s.length = i.size := fun s hs => by rw [(List.mem_replicate.1 hs).2]; exact hzl
    show (madeCells z.cells (N * i.size)).toList[j]? = (List.replicate N zs).flatten[j]?
    rw [Array.getElem?_toList, flat_get h0' _ hlz j]
    by_cases hj : j < N * i.size
    · have h1 : j / i.size < N := by
        rw [Nat.div_lt_iff_lt_mul h0']
        exact hj
      have hm : j % i.size < zs.length := by rw [hzl]; exact Nat.mod_lt _ h0'
      simp only [madeCells, Array.getElem?_map]
      rw [Array.getElem?_eq_getElem (by simpa using hj)]
      simp only [Array.getElem_range, Option.map_some, hz]
      rw [List.getElem?_replicate, if_pos h1, ← hzl]
      rw [hzl] at hm
      simp [← hzl, Nat.mod_lt _ (show 0 < zs.length by omega)]
    · have h1 : ¬ j / i.size < N := by
        rw [Nat.div_lt_iff_lt_mul h0']
        exact hj
      rw [List.getElem?_replicate, if_neg h1]
      apply Array.getElem?_eq_none
      rw [size_madeCells]
      omega
  refine U_run rfl rfl hd (fun a ha => ?_) (h _ _ (New.alloc w _ e))
  simp only [Int.toNat_natCast] at hr
  simp only [execOp, ha.eval hx, ha.eval hy, Sem.run_bind, hr, Result.andThen_ok, Sem.run_pure, hmade]

/-- x[lo:hi] of a slice that reads as cs. -/
theorem slice_sl {G : Nat → Prop} {v : Value} {sz N : Nat} {cs : List Value} (hs : Sl w G v sz N cs) (lo hi : Nat) (h1 : lo ≤ hi) (h2 : hi ≤ N) :
    ∃ r, Sl w G r sz (hi - lo) ((cs.drop (lo * sz)).take ((hi - lo) * sz)) ∧ ∀ (w' : World) (t e : TypeId) (L H : Option Value), P.underlying t = some (.slice e) → (P.info? e).map (·.size) = some sz →
      (match L with | none => lo = 0 | some u => ∃ kd, u = .int kd lo) → (match H with | none => hi = N | some u => ∃ kd, u = .int kd hi) → (Instr.sliceAt t v L H none).run P w' = .ok r w' := by
  obtain ⟨g1, g2, A, c, rfl, g3, g4⟩ := hs
  refine ⟨.slice (if c = lo then A else A.map (·.add (lo * sz))) (hi - lo) (c - lo), ⟨by omega, ?_, _, _, rfl, by omega, ?_⟩, fun w' t e L H ht he hL hH => run_slice ht he hL hH h1 (by omega)⟩
  · rw [List.length_take, List.length_drop, g2, ← Nat.mul_sub_right_distrib]
    apply Nat.min_eq_left
    exact Nat.mul_le_mul_right _ (by omega)
  · rcases g4 with rfl | ⟨b, o, rfl, hG, hlt, hseg⟩
    · left
      omega
    · right
      by_cases hc : c = lo
      · rw [if_pos hc]
        refine ⟨b, o, rfl, hG, hlt, ?_⟩
        have : hi - lo = 0 := by omega
        rw [this, Nat.zero_mul, List.take_zero]
        exact Seg.nil w b o
      · rw [if_neg hc]
        exact ⟨b, o + lo * sz, by simp [addr_add], hG, hlt, hseg.part _ _⟩

theorem ro_sliceS (E : Env P) {t e : TypeId} {x : Operand} {L H : Option Operand} {v r : Value} {sz se : Nat} {de : TypeDesc} {lv hv : Option Value} (ht : E.ty t = some (.slice e, se)) (he : E.ty e = some (de, sz)) (hx : ev m x = some v)
    (hL : match L with | none => lv = none | some y => ∃ u, lv = some u ∧ ev m y = some u) (hH : match H with | none => hv = none | some y => ∃ u, hv = some u ∧ ev m y = some u)
    (hr : P.underlying t = some (.slice e) → (P.info? e).map (·.size) = some sz → (Instr.sliceAt t v lv hv none).run P w = .ok r w) {dst : Option Tmp} {gd : Option (Nat × Bool)} :
    ∀ a, Fits a n m → (execOp a.eval { dst := dst, op := .slice t x L H none, type := ty, pos := ps, after := af, guard := gd }).run P w = .ok (.value r) w := by
  intro a ha
  have h := hr (E.ok _ _ _ ht).1 (E.ok _ _ _ he).2
  have e1 : L.map a.eval = lv := by
    cases L with
    | none => simpa using hL.symm
    | some y => obtain ⟨u, e1, e2⟩ := hL; simp [ha.eval e2, e1]
  have e2 : H.map a.eval = hv := by
    cases H with
    | none => simpa using hH.symm
    | some y => obtain ⟨u, e1, e2⟩ := hH; simp [ha.eval e2, e1]
  simp only [execOp, ha.eval hx, e1, e2, Option.map_none, Sem.run_bind, h, Result.andThen_ok, Sem.run_pure]

/-- A string's bytes: the slice is marked behind its end; it reads as it did. -/
theorem U_convBytes (E : Env P) {t e : TypeId} {x : Operand} {b N se sb : Nat} {cs : List Value} {bt : TypeId} (hb : Blk w b cs bt) (hl : cs.length = N) (hN : N ≤ 1000) (ht : E.ty t = some (.slice e, se)) (he : E.ty e = some (.int .u8, sb)) (hx : ev m x = some (.slice (some ⟨b, 0, none⟩) N N)) (hd : Nat.blt d n = true)
    (h : ∀ w', Kept (fun j => j = b) w w' → w'.heap.size = w.heap.size → Sl w' (fun j => j = b) (.slice (some ⟨b, 0, none⟩) N N) 1 N cs → U P n Z ops rest ((d, .slice (some ⟨b, 0, none⟩) N N) :: m) w') :
    U P n Z ops ({ dst := some d, op := .convert t t x, type := ty, pos := ps, after := af, guard := none } :: rest) m w := by
  have hsh : w.shape? b = some (bt, cs.length) := by
    have : w.heap[b]? = some (.cells cs.toArray bt (0, 0)) := hb
    simp [World.shape?, this]
  refine U_run rfl rfl hd (w' := w.freeze { block := b, off := cs.length } 1) (fun a ha => ?_) (h _ ⟨rfl, rfl, rfl, by simp [World.freeze], fun j _ hj => ?_⟩ (by simp [World.freeze]) ⟨by omega, by omega, _, _, rfl, Nat.le_refl _, .inr ⟨b, 0, rfl, rfl, by simpa [World.freeze] using hb.lt, ?_⟩⟩)
  · simp [execOp, convert, run_underlying (E.ok _ _ _ ht).1, run_underlying (E.ok _ _ _ he).1, ha.eval hx, markStringish, shape, freeze, Sem.run, hsh]
  · simp only [World.freeze, Nat.one_ne_zero, if_false, Array.getElem?_modify]
    rw [if_neg (fun e => hj e.symm)]
  · intro j u hj
    have h1 := hb.whole j u hj
    rw [World.cell?] at h1 ⊢
    have hbb : w.heap[b]? = some (.cells cs.toArray bt (0, 0)) := hb
    simp only [World.freeze, Nat.one_ne_zero, if_false, Array.getElem?_modify, if_true, hbb] at h1 ⊢
    simpa using h1
end
end Go.Proofs.YtoefhdaenaiomaaDoor

/- Regions whose order is open: those that only read, and those that end in one writing operation (number d) for which all others are waited. -/
namespace Go.Proofs.YtoefhdaenaiomaaDoor
open Go
set_option maxRecDepth 20000

/-- Worlds that are w but for some draws. -/
def Drew (w : World) : World → Prop := fun w' => ∃ n, w' = w.drewN n

theorem Drew.heap {w w' : World} (h : Drew w w') : w'.heap = w.heap := by
  obtain ⟨n, rfl⟩ := h
  rfl
theorem Drew.refl (w : World) : Drew w w := ⟨0, rfl⟩
theorem Drew.tr {a b c : World} (h : Drew a b) (k : Drew b c) : Drew a c := by
  obtain ⟨n, rfl⟩ := h
  obtain ⟨n', rfl⟩ := k
  exact ⟨n + n', by simp [World.drewN, Nat.add_assoc]⟩
theorem Drew.kept {w w' : World} (h : Drew w w') (F : Nat → Prop) : Kept F w w' := by
  obtain ⟨n, rfl⟩ := h
  exact ⟨rfl, rfl, rfl, Nat.le_refl _, fun _ _ _ => rfl⟩
theorem Drew.cell {w w' : World} (h : Drew w w') (p : Addr) : w'.cell? p = w.cell? p := by
  obtain ⟨n, rfl⟩ := h
  rfl

section
variable {P : Program} {f : FuncId} {R : Ending → World → Prop} {n : Nat} {k : List Item} {m : Fm} {ops : Array Oper} {rest : List Oper} {w : World} {C : World → Prop}

/-! ### Reads alone: one walk in the text's order -/
def V (P : Program) (n : Nat) (Z : Act → Prop) (C : World → Prop) (ops : Array Oper) (rest : List Oper) (m : Fm) : Prop :=
  ∀ a, Fits a n m → wpQuiet P ops C Z rest a

theorem T_quiet {id : Nat} {l : List Oper} (hm : P.follows .mixedOrders = true) (hB : Region.lexB .any l.toArray = true) (h : V P n (fun a' => ∀ w', Drew w w' → S P f R k a' w') (Drew w) l.toArray l m) : T P f R n (.code (.region id l.toArray true) :: k) m w :=
  fun a ha => S_of_wp (wp_region_quiet_lit hm hB (by
    have := h a ha
    have mono : ∀ (l' : List Oper) (a : Act), wpQuiet P l.toArray (Drew w) (fun a' => ∀ w', Drew w w' → S P f R k a' w') l' a →
        wpQuiet P l.toArray (fun w' => ∃ n, w' = w.drewN n) (fun a' => ∀ w', (∃ n, w' = w.drewN n) → Exit.normal = Exit.normal ∧ S P f R k a' w') l' a := by
      intro l'
      induction l' with
      | nil => intro a h w' hw; exact ⟨rfl, h w' hw⟩
      | cons o r ih =>
        intro a h
        unfold wpQuiet at h ⊢
        split
        · rename_i hw
          rw [if_pos hw] at h
          exact Oper.quiet_mono (fun a h => ih a h) h
        · rename_i hw
          rw [if_neg hw] at h
          exact ih _ h
    exact mono l a this))

/-- The first N operations but read; the others come up one behind the other. -/
theorem T_tail (N : Nat) {id : Nat} {l : List Oper} (hm : P.follows .mixedOrders = true) (hB : Region.lexTailB .any l.toArray N = true)
    (h : ∀ w1, Drew w w1 → V P n (fun a' => wpList P l.toArray (fun e a' w' => e = .normal ∧ S P f R k a' w') (l.drop N) a' w1) (fun w' => w' = w1) l.toArray (l.take N) m) : T P f R n (.code (.region id l.toArray true) :: k) m w := by
  intro a ha
  refine S_of_wp (wp_region_still_tail N hm hB ?_)
  have h1 := h { w with drawn := w.drawn + 1 } ⟨1, rfl⟩ a ha
  have still : ∀ (w1 : World) (Z : Act → Prop) (l' : List Oper) (a : Act), wpQuiet P l.toArray (fun w' => w' = w1) Z l' a → wpStill P l.toArray w1 Z l' a := by
    intro w1 Z l'
    induction l' with
    | nil => intro a h; exact h
    | cons o r ih =>
      intro a h
      unfold wpQuiet at h
      unfold wpStill
      split
      · rename_i hw
        rw [if_pos hw] at h
        obtain ⟨v, h1, h2⟩ := h
        have h3 := h1 w1 rfl
        unfold Oper.quietAt at h3
        unfold Oper.still
        generalize (execOp a.eval o).run P w1 = rs at h3
        cases rs with
        | ok nx w' =>
          cases nx <;> simp only [Oper.quietUpon] at h3 <;> simp only [Oper.stillUpon]
          case value u => obtain ⟨e1, e2⟩ := h3; exact ⟨e1, by rw [e2]; exact ih _ h2⟩
          case skip => obtain ⟨e1, e2⟩ := h3; exact ⟨e1, by rw [← e2]; exact ih _ h2⟩
          case enter g xs => obtain ⟨e1, hc⟩ := h3; exact ⟨e1, v, hc, ih _ h2⟩
        | halt x w' => simp only [Oper.quietUpon] at h3
      · rename_i hw
        rw [if_neg hw] at h
        exact ih _ h
  exact still _ _ _ _ h1

theorem V_nilQ (h : ∀ w', C w' → T P f R n k m w') : V P n (fun a' => ∀ w', C w' → S P f R k a' w') C ops [] m := fun a ha => wpQuiet_nil fun w' hw => h w' hw a ha
theorem V_nilT {w1 : World} {tl : List Oper} (h : U P n (S P f R k) ops tl m w1) : V P n (fun a' => wpList P ops (fun e a' w' => e = .normal ∧ S P f R k a' w') tl a' w1) C ops [] m := fun a ha => wpQuiet_nil (h a ha)

variable {Z : Act → Prop}

theorem V_run {o : Oper} {v : Value} {d : Nat} (hg : o.guard = none) (hdst : o.dst = some d) (hd : Nat.blt d n = true)
    (hr : ∀ a, Fits a n m → ∀ w, C w → (execOp a.eval o).run P w = .ok (.value v) w) (h : V P n Z C ops rest ((d, v) :: m)) : V P n Z C ops (o :: rest) m := by
  intro a ha
  unfold wpQuiet
  rw [if_pos (by simp [Region.wanted, hg])]
  refine ⟨v, fun w hw => ?_, ?_⟩
  · unfold Oper.quietAt
    rw [hr a ha w hw]
    exact ⟨rfl, rfl⟩
  · rw [hdst]
    exact h _ (ha.put v hd)

variable {d : Nat} {ty : TypeId} {ps : String} {af : Array Edge}

theorem V_pure (E : Env P) {op : Op} {v : Value} (h : pv E.ty E.fld m op = some v) (hd : Nat.blt d n = true) (hn : V P n Z C ops rest ((d, v) :: m)) :
    V P n Z C ops ({ dst := some d, op := op, type := ty, pos := ps, after := af, guard := none } :: rest) m :=
  V_run rfl rfl hd (fun _ ha _ _ => run_pv E ha h _ _ _ _ _) hn
theorem V_ar {bop : BinOp} {t t2 : TypeId} {x y : Operand} {kd : IntKind} {p q r : Int} (hx : ev m x = some (.int kd p)) (hy : ev m y = some (.int kd q)) (hr : arOp bop p q = some r) (hw : kd.wrap r = r) (hd : Nat.blt d n = true)
    (hn : V P n Z C ops rest ((d, .int kd r) :: m)) :
    V P n Z C ops ({ dst := some d, op := .binOp bop t x y t2, type := ty, pos := ps, after := af, guard := none } :: rest) m :=
  V_run rfl rfl hd (fun a ha w _ => by simp [execOp, ha.eval hx, ha.eval hy, eqGuard_int, run_ar _ _ _ _ _ hr, hw]) hn
theorem V_want {dst : Option Tmp} {op : Op} {j g : Nat} {want : Bool} (hj : (ops[j]?).bind (·.dst) = some g) (hv : look m g = some (.bool want))
    (h : V P n Z C ops ({ dst := dst, op := op, type := ty, pos := ps, after := af, guard := none } :: rest) m) :
    V P n Z C ops ({ dst := dst, op := op, type := ty, pos := ps, after := af, guard := some (j, want) } :: rest) m := by
  intro a ha
  have hy : yielded ops a.tmps j = some want := by
    unfold yielded
    rw [hj]
    simp [ha.get g _ hv]
  have := h a ha
  unfold wpQuiet at this ⊢
  rw [if_pos (by simp [Region.wanted])] at this
  rw [if_pos (by simp [Region.wanted, hy])]
  exact this
theorem V_unwant {op : Op} {j g : Nat} {want b : Bool} (hj : (ops[j]?).bind (·.dst) = some g) (hv : look m g = some (.bool b)) (hb : (b == want) = false) (hd : Nat.blt d n = true)
    (h : V P n Z C ops rest ((d, undef) :: m)) :
    V P n Z C ops ({ dst := some d, op := op, type := ty, pos := ps, after := af, guard := some (j, want) } :: rest) m := by
  intro a ha
  have hy : yielded ops a.tmps j = some b := by
    unfold yielded
    rw [hj]
    simp [ha.get g _ hv]
  unfold wpQuiet
  rw [if_neg (by simp only [Region.wanted, hy]; intro h; have h2 : (some b == some want) = (b == want) := rfl; rw [h2, hb] at h; cases h)]
  exact h _ (ha.put undef hd)
def GdV (P : Program) (n : Nat) (Z : Act → Prop) (C : World → Prop) (ops : Array Oper) (rest : List Oper) (o : Oper) (m : Fm) (g : Nat) (b : Bool) : Prop :=
  (∀ j want, o.guard = some (j, want) → (ops[j]?).bind (·.dst) = some g) → look m g = some (.bool b) → V P n Z C ops (o :: rest) m
theorem V_guard {dst : Option Tmp} {op : Op} {j g : Nat} {want b : Bool} (hj : (ops[j]?).bind (·.dst) = some g) (hv : look m g = some (.bool b))
    (h : GdV P n Z C ops rest { dst := dst, op := op, type := ty, pos := ps, after := af, guard := some (j, want) } m g b) :
    V P n Z C ops ({ dst := dst, op := op, type := ty, pos := ps, after := af, guard := some (j, want) } :: rest) m :=
  h (fun _ _ e => by injection e with e; injection e with e1 e2; rw [← e1]; exact hj) hv
theorem GdV_want {dst : Option Tmp} {op : Op} {j g : Nat} {want : Bool}
    (h : V P n Z C ops ({ dst := dst, op := op, type := ty, pos := ps, after := af, guard := none } :: rest) m) :
    GdV P n Z C ops rest { dst := dst, op := op, type := ty, pos := ps, after := af, guard := some (j, want) } m g want := fun hj hv => V_want (hj _ _ rfl) hv h
theorem GdV_skipT {op : Op} {j g : Nat} (hd : Nat.blt d n = true)
    (h : V P n Z C ops rest ((d, undef) :: m)) :
    GdV P n Z C ops rest { dst := some d, op := op, type := ty, pos := ps, after := af, guard := some (j, false) } m g true := fun hj hv => V_unwant (hj _ _ rfl) hv rfl hd h
theorem GdV_skipF {op : Op} {j g : Nat} (hd : Nat.blt d n = true)
    (h : V P n Z C ops rest ((d, undef) :: m)) :
    GdV P n Z C ops rest { dst := some d, op := op, type := ty, pos := ps, after := af, guard := some (j, true) } m g false := fun hj hv => V_unwant (hj _ _ rfl) hv rfl hd h
theorem V_split {g : Nat} {p : Prop} [Decidable p] (hv : look m g = some (.bool (decide p))) (ht : p → V P n Z C ops rest ((g, .bool true) :: m)) (hf : ¬ p → V P n Z C ops rest ((g, .bool false) :: m)) : V P n Z C ops rest m := by
  have hs : ∀ b, decide p = b → ∀ i v, look ((g, .bool b) :: m) i = some v → look m i = some v := by
    intro b hb i v h
    simp only [look] at h
    cases hgi : Nat.beq g i with
    | true =>
      rw [hgi] at h
      have : g = i := by simpa using hgi
      subst this
      rw [hv, hb]
      exact h
    | false => rw [hgi] at h; exact h
  by_cases hp : p
  · exact fun a ha => ht hp a (ha.less (hs true (decide_eq_true hp)))
  · exact fun a ha => hf hp a (ha.less (hs false (decide_eq_false hp)))
theorem GdV_p {g : Nat} {o : Oper} {p : Prop} [Decidable p] (ht : p → V P n Z C ops (o :: rest) ((g, .bool true) :: m)) (hf : ¬ p → V P n Z C ops (o :: rest) ((g, .bool false) :: m)) : GdV P n Z C ops rest o m g (decide p) :=
  fun _ hv => V_split hv ht hf
theorem V_load (E : Env P) {t : TypeId} {x : Operand} {p : Addr} {v : Value} {de : TypeDesc} {s : Nat} (ht : E.ty t = some (de, s)) (hn : notAgg de = true) (hx : ev m x = some (.pointer (some p))) (hc : ∀ w, C w → w.cell? p = some v) (hd : Nat.blt d n = true)
    (h : V P n Z C ops rest ((d, v) :: m)) : V P n Z C ops ({ dst := some d, op := .load t x, type := ty, pos := ps, after := af, guard := none } :: rest) m :=
  V_run rfl rfl hd (fun a ha w hw => by simp [execOp, ha.eval hx, Instr.loadAt, Instr.sureAddr, run_loadVar_cell (E.ok _ _ _ ht).1 hn (hc w hw)]) h
theorem V_loadB (E : Env P) (hC : ∀ w', C w' → w'.heap = w.heap) {t : TypeId} {x : Operand} {b o : Nat} {cs : List Value} {bt : TypeId} {v : Value} {de : TypeDesc} {s : Nat} (hb : Blk w b cs bt) (ht : E.ty t = some (de, s)) (hn : notAgg de = true) (hx : ev m x = some (.pointer (some ⟨b, o, none⟩))) (hc : cs[o]? = some v) (hd : Nat.blt d n = true)
    (h : V P n Z C ops rest ((d, v) :: m)) : V P n Z C ops ({ dst := some d, op := .load t x, type := ty, pos := ps, after := af, guard := none } :: rest) m :=
  V_load E ht hn hx (fun w' hw => by rw [World.cell?_of_block (w := w) (w' := w') (by rw [hC w' hw]), hb.cell]; exact hc) hd h
theorem V_idx (E : Env P) {G : Nat → Prop} {t e : TypeId} {x y : Operand} {v u : Value} {cs : List Value} {N se : Nat} {i : Int} {kd : IntKind} {de : TypeDesc} (hs : Sl w G v 1 N cs) (hu : E.ty t = some (.slice e, se)) (he : E.ty e = some (de, 1)) (hx : ev m x = some v) (hy : ev m y = some (.int kd i)) (h0 : 0 ≤ i) (hl : i < N) (hc : cs[i.toNat]? = some u) (hd : Nat.blt d n = true)
    (h : ∀ p, w.cell? p = some u → V P n Z C ops rest ((d, .pointer (some p)) :: m)) : V P n Z C ops ({ dst := some d, op := .indexAddr t x y, type := ty, pos := ps, after := af, guard := none } :: rest) m := by
  obtain ⟨_, _, A, c, rfl, _, h5⟩ := hs
  rcases h5 with rfl | ⟨b, o, rfl, _, _, hseg⟩
  · exfalso
    simp at hl
    omega
  · have hcell := hseg _ _ hc
    refine V_run rfl rfl hd (fun a ha w' _ => ?_) (h ⟨b, o + i.toNat, none⟩ hcell)
    have hr := run_indexAt_slice (P := P) (w := w') (kd := kd) (b := b) (o := o) (cap := c) (E.ok _ _ _ hu).1 (E.ok _ _ _ he).2 h0 hl
    rw [Nat.mul_one] at hr
    simp only [execOp, ha.eval hx, ha.eval hy, Sem.run_bind, hr, Result.andThen_ok, Sem.run_pure]
theorem V_loadA (E : Env P) (hC : ∀ w', C w' → w'.heap = w.heap) {t : TypeId} {x : Operand} {b o : Nat} {seg : List Value} {de : TypeDesc} {s : Nat} (hs : Seg w b o seg) (ht : E.ty t = some (de, s)) (hn : notAgg de = false) (hx : ev m x = some (.pointer (some ⟨b, o, none⟩))) (hl : seg.length = s) (hd : Nat.blt d n = true)
    (h : V P n Z C ops rest ((d, .agg seg.toArray) :: m)) : V P n Z C ops ({ dst := some d, op := .load t x, type := ty, pos := ps, after := af, guard := none } :: rest) m :=
  V_run rfl rfl hd (fun a ha w' hw => by
    have hs' : Seg w' b o seg := fun j v hj => (World.cell?_of_block (w := w) (w' := w') (by rw [hC w' hw])).trans (hs j v hj)
    simp [execOp, ha.eval hx, Instr.loadAt, Instr.sureAddr, run_loadVar_seg (E.ok _ _ _ ht).1 hn (E.ok _ _ _ ht).2 hs' hl]) h
theorem V_indexS (E : Env P) {t e : TypeId} {x y : Operand} {b o len cap s se : Nat} {i : Int} {kd : IntKind} {de : TypeDesc} {o' : Nat} (hu : E.ty t = some (.slice e, se)) (he : E.ty e = some (de, s)) (hx : ev m x = some (.slice (some ⟨b, o, none⟩) len cap)) (hy : ev m y = some (.int kd i)) (h0 : 0 ≤ i) (hl : i < len) (ho : o + i.toNat * s = o') (hd : Nat.blt d n = true)
    (h : V P n Z C ops rest ((d, .pointer (some ⟨b, o', none⟩)) :: m)) : V P n Z C ops ({ dst := some d, op := .indexAddr t x y, type := ty, pos := ps, after := af, guard := none } :: rest) m :=
  V_run rfl rfl hd (fun a ha w' _ => by
    have hr := run_indexAt_slice (P := P) (w := w') (kd := kd) (b := b) (o := o) (cap := cap) (E.ok _ _ _ hu).1 (E.ok _ _ _ he).2 h0 hl
    rw [ho] at hr
    simp only [execOp, ha.eval hx, ha.eval hy, Sem.run_bind, hr, Result.andThen_ok, Sem.run_pure]) h
theorem V_call {xs : List Operand} {ats : Array TypeId} {g : FuncId} {vs : List Value} {v : Value} (hvs : evs m xs = some vs) (hd : Nat.blt d n = true)
    (hcall : ∀ w, (callFunc g vs.toArray).run P w = .ok (.enter g vs.toArray) w) (hc : ∀ w1, Drew w w1 → Calls P g vs.toArray w1 (fun e w2 => e = .returned v ∧ Drew w1 w2)) (h : V P n Z (Drew w) ops rest ((d, v) :: m)) :
    V P n Z (Drew w) ops ({ dst := some d, op := .call { callee := .value (.func g), args := xs.toArray, argTypes := ats }, type := ty, pos := ps, after := af, guard := none } :: rest) m := by
  intro a ha
  unfold wpQuiet
  rw [if_pos (by simp [Region.wanted])]
  refine ⟨v, fun w1 hw1 => ?_, h _ (ha.put v hd)⟩
  unfold Oper.quietAt
  have hr : (execOp a.eval { dst := some d, op := .call { callee := .value (.func g), args := xs.toArray, argTypes := ats }, type := ty, pos := ps, after := af, guard := none }).run P w1 = .ok (.enter g vs.toArray) w1 := by
    simp only [execOp, resolve, Deferred.ofValue, Act.eval, Sem.run_bind, Sem.run_pure, Result.andThen_ok, invoke, List.map_toArray, ha.evals hvs]
    simpa using hcall w1
  rw [hr]
  exact ⟨rfl, (hc w1 hw1).mono fun e w2 ⟨he, h2⟩ => ⟨he, hw1.tr h2⟩⟩
end

/-! ### One last operation -/
/-- Operation j waits for i, by a chain of edges. -/
def waitsB (ops : Array Oper) (i : Nat) : Nat → Nat → Bool
  | 0, _ => false
  | fu + 1, j => match ops[j]? with
    | some o => o.after.any fun e => Region.binds .any e && (e.on == i || waitsB ops i fu e.on)
    | none => false

def Closed (ops : Array Oper) (listed : Array Bool) : Prop :=
  ∀ j oj, ops[j]? = some oj → listed.getD j false = true → ∀ e ∈ oj.after, Region.binds .any e = true → listed.getD e.on false = true

section
variable {P : Program} {ops : Array Oper} {Q : Exit → Act → World → Prop} {S0 : World → Prop} {d : Nat}

theorem Closed.start (N : Nat) : Closed ops (Array.replicate N false) := by
  intro j oj _ hl
  exfalso
  rcases Nat.lt_or_ge j N with h | h <;> simp [h] at hl

theorem Closed.put {listed : Array Bool} {i : Nat} (h : Closed ops listed) (hi : i ∈ Region.ready .any ops listed) : Closed ops (listed.setIfInBounds i true) := by
  obtain ⟨_, oi, hoi, hall⟩ := mem_ready.1 hi
  intro j oj hj hl e he hb
  by_cases hij : i = j
  · subst hij
    obtain rfl : oj = oi := Option.some.inj (hj.symm.trans hoi)
    exact getD_set_true (hall e he hb)
  · rw [getD_set_ne false hij] at hl
    exact getD_set_true (h j oj hj hl e he hb)

theorem waits_listed {listed : Array Bool} {i : Nat} (hc : Closed ops listed) : ∀ (fu j : Nat), waitsB ops i fu j = true → listed.getD j false = true → listed.getD i false = true
  | 0, _, h, _ => by simp [waitsB] at h
  | fu + 1, j, h, hl => by
    unfold waitsB at h
    split at h
    · rename_i o ho
      obtain ⟨e, he, h1⟩ := Array.any_eq_true'.1 h
      simp only [Bool.and_eq_true, Bool.or_eq_true, beq_iff_eq] at h1
      have hle := hc j o ho hl e he h1.1
      rcases h1.2 with h2 | h2
      · rw [← h2]; exact hle
      · exact waits_listed hc fu e.on h2 hle
    · cases h

theorem waits_not_ready {listed : Array Bool} {i j fu : Nat} (hc : Closed ops listed) (hr : waitsB ops i fu j = true) (hun : listed.getD i true = false) : j ∉ Region.ready .any ops listed := by
  intro hd
  obtain ⟨_, o, ho, hall⟩ := mem_ready.1 hd
  have hi : listed.getD i false = true := by
    cases fu with
    | zero => simp [waitsB] at hr
    | succ n =>
      unfold waitsB at hr
      rw [ho] at hr
      obtain ⟨e, he, h1⟩ := Array.any_eq_true'.1 hr
      simp only [Bool.and_eq_true, Bool.or_eq_true, beq_iff_eq] at h1
      have hle := hall e he h1.1
      rcases h1.2 with h2 | h2
      · rw [← h2]; exact hle
      · exact waits_listed hc n e.on h2 hle
  rcases Nat.lt_or_ge i listed.size with h' | h'
  · simp [h'] at hun hi
    rw [hun] at hi
    cases hi
  · simp [Array.getElem?_eq_none h'] at hun

/-- Whatever order is picked; S0 holds behind every operation but the last one, d. -/
def wpAnyL (P : Program) (ops : Array Oper) (Q : Exit → Act → World → Prop) (S0 : World → Prop) (d : Nat) : Nat → Array Bool → Act → World → Prop
  | 0, listed, a, w => Region.ready .any ops listed = [] ∧ Q .normal a w
  | fuel + 1, listed, a, w =>
    (Region.ready .any ops listed = [] → Q .normal a w) ∧
    ∀ i ∈ Region.ready .any ops listed, wpOp P ops Q i (fun a' w' => (i ≠ d → S0 w') ∧ wpAnyL P ops Q S0 d fuel (listed.setIfInBounds i true) a' w') a w

theorem wpAny_of_L : ∀ (fuel : Nat) (listed : Array Bool) (a : Act) (w : World), wpAnyL P ops Q S0 d fuel listed a w → wpAny P .any ops Q fuel listed a w
  | 0, _, _, _, h => h
  | fuel + 1, _, _, _, h => ⟨h.1, fun i hi => wpOp_mono (fun a' w' h' => wpAny_of_L fuel _ a' w' h'.2) (h.2 i hi)⟩

theorem wpAnyL_first {i : Nat} {oi : Oper} {v : Value} {fu : Nat} (hi : ops[i]? = some oi) (hsel : ∀ (j : Nat) (o : Oper) cs b, ops[j]? = some o → o.op ≠ .select cs b)
    (hQ : ∀ c a w, Q (.panic c) (a.put oi.dst v) w → Q (.panic c) a w) (hid : i ≠ d) (hwt : d < ops.size → waitsB ops i fu d = true) :
    ∀ (fuel : Nat) (listed : Array Bool) (a : Act) (w : World), Closed ops listed →
      (∀ j oj, ops[j]? = some oj → j ≠ i → listed.getD j true = false → (∀ e ∈ oj.after, Region.binds .any e = true → e.on ≠ i) → oi.apart ops oj = true) →
      i ∈ Region.ready .any ops listed → YieldsIf P ops S0 oi v a → S0 w →
      wpAnyL P ops Q S0 d fuel (listed.setIfInBounds i true) (a.put oi.dst v) w → wpAnyL P ops Q S0 d (fuel + 1) listed a w := by
  intro fuel
  induction fuel with
  | zero =>
    intro listed a w _ _ hr hy hS H
    refine ⟨fun h => (by rw [h] at hr; cases hr), fun j hj => ?_⟩
    by_cases hji : j = i
    · subst hji; exact hy.wpOp hi hS ⟨fun _ => hS, H⟩
    · have := ready_mono hj hji
      rw [H.1] at this
      cases this
  | succ fuel ih =>
    intro listed a w hcl hfree hr hy hS H
    refine ⟨fun h => (by rw [h] at hr; cases hr), fun j hj => ?_⟩
    by_cases hji : j = i
    · subst hji; exact hy.wpOp hi hS ⟨fun _ => hS, H⟩
    · have h1 := H.2 j (ready_mono hj hji)
      obtain ⟨hjun, oj, hoj, hall⟩ := mem_ready.1 hj
      have hiun := (mem_ready.1 hr).1
      have hnot : ∀ e ∈ oj.after, Region.binds .any e = true → e.on ≠ i := fun e he hb heq => by
        have h1 := hall e he hb
        rw [heq] at h1
        rcases Nat.lt_or_ge i listed.size with h' | h'
        · simp [h'] at hiun h1; rw [hiun] at h1; cases h1
        · simp [Array.getElem?_eq_none h'] at h1
      have hjd : j ≠ d := fun e => waits_not_ready hcl (hwt (e ▸ (Array.getElem?_eq_some_iff.1 hoj).1)) hiun (e ▸ hj)
      have h2 := wpOp_putIf hoj (hfree j oj hoj hji hjun hnot) (fun cs b => hsel i oi cs b hi) (fun cs b => hsel j oj cs b hoj) hQ hy h1
      have hfree' : ∀ k ok, ops[k]? = some ok → k ≠ i → (listed.setIfInBounds j true).getD k true = false →
          (∀ e ∈ ok.after, Region.binds .any e = true → e.on ≠ i) → oi.apart ops ok = true := fun k ok hk hki hun hno => by
        refine hfree k ok hk hki ?_ hno
        by_cases hjk : j = k
        · subst hjk; exact hjun
        · rw [getD_set_ne true hjk] at hun; exact hun
      refine wpOp_mono (fun a' w' h3 => ⟨h3.2.1, ih (listed.setIfInBounds j true) a' w' (hcl.put hj) hfree' (ready_mono hr (Ne.symm hji)) h3.1 (h3.2.1 hjd) ?_⟩) h2
      rw [Array.setIfInBounds_comm _ _ hji]
      exact h3.2.2
end

section
variable {P : Program} {f : FuncId} {R : Ending → World → Prop} {n : Nat} {k : List Item} {m : Fm} {ops : Array Oper} {w : World} {S0 : World → Prop} {d fuel : Nat} {listed : Array Bool}

def L (P : Program) (f : FuncId) (R : Ending → World → Prop) (n : Nat) (k : List Item) (ops : Array Oper) (S0 : World → Prop) (d fuel : Nat) (listed : Array Bool) (m : Fm) (w : World) : Prop :=
  Closed ops listed → ∀ a, Fits a n m → wpAnyL P ops (fun e a' w' => e = .normal ∧ S P f R k a' w') S0 d fuel listed a w

theorem L_begin {id N : Nat} {l : List Oper} (S0 : World → Prop) (d : Nat) (hm : P.follows .mixedOrders = true) (hN : l.length = N) (h : ∀ w1, Drew w w1 → L P f R n k l.toArray S0 d N (Array.replicate N false) m w1) : T P f R n (.code (.region id l.toArray true) :: k) m w := by
  subst hN
  intro a ha
  refine S_of_wp (wp_region_any hm (wpAny_of_L (S0 := S0) (d := d) _ _ _ _ ?_))
  have := h { w with drawn := w.drawn + 1 } ⟨1, rfl⟩ (by simpa using Closed.start _) a ha
  simpa using this

theorem L_take (i : Nat) {o : Oper} {v : Value} {d' : Nat} (hi : ops[i]? = some o) (hs : Region.noSelect ops = true) (hf : Region.free .any ops listed i = true) (hr : (Region.ready .any ops listed).contains i = true)
    (hid : (Nat.beq i d || (decide (d < ops.size) && !waitsB ops i ops.size d)) = false) (hS : S0 w) (hg : o.guard = none) (hdst : o.dst = some d') (hd : Nat.blt d' n = true)
    (hy : ∀ a, Fits a n m → ∀ w', S0 w' → (execOp a.eval o).run P w' = .ok (.value v) w') (h : L P f R n k ops S0 d fuel (listed.setIfInBounds i true) ((d', v) :: m) w) : L P f R n k ops S0 d (fuel + 1) listed m w := by
  intro hcl a ha
  simp only [Bool.or_eq_false_iff] at hid
  have hne : i ≠ d := fun e => by rw [e] at hid; simp at hid
  have hrr : i ∈ Region.ready .any ops listed := by simpa using hr
  have := h (hcl.put hrr) _ (ha.put v hd)
  rw [← hdst] at this
  refine wpAnyL_first (fu := ops.size) hi (Region.noSelect_spec hs) (fun c a w h => by cases h.1) hne (fun hlt => ?_) fuel listed a w hcl (Region.free_spec hi hf) hrr (.inl ⟨by simp [Region.wanted, hg], hy a ha⟩) hS this
  have h2 := hid.2
  simp only [hlt, decide_true, Bool.true_and, Bool.not_eq_false'] at h2
  exact h2

/-- The one that comes up. -/
theorem L_run (i : Nat) {o : Oper} {v : Value} {w' : World} {d' : Nat} (hr : Region.ready .any ops listed = [i]) (hi : ops[i]? = some o) (hg : o.guard = none) (hdst : o.dst = some d') (hd : Nat.blt d' n = true)
    (hrun : ∀ a, Fits a n m → (execOp a.eval o).run P w = .ok (.value v) w') (hS : i ≠ d → S0 w') (h : L P f R n k ops S0 d fuel (listed.setIfInBounds i true) ((d', v) :: m) w') : L P f R n k ops S0 d (fuel + 1) listed m w := by
  intro hcl a ha
  refine ⟨fun h0 => (by rw [hr] at h0; cases h0), fun j hj => ?_⟩
  have hrr := hj
  rw [hr] at hj
  obtain rfl : j = i := by simpa using hj
  unfold wpOp
  rw [hi]
  simp only
  rw [if_pos (by simp [Region.wanted, hg])]
  refine .inl ?_
  unfold Oper.wp
  rw [hrun a ha, Oper.upon_value]
  refine ⟨hS, ?_⟩
  rw [hdst]
  exact h (hcl.put hrr) _ (ha.put v hd)

theorem L_runNone (i : Nat) {o : Oper} {w' : World} (hr : Region.ready .any ops listed = [i]) (hi : ops[i]? = some o) (hg : o.guard = none) (hdst : o.dst = none)
    (hrun : ∀ a, Fits a n m → (execOp a.eval o).run P w = .ok .skip w') (hS : i ≠ d → S0 w') (h : L P f R n k ops S0 d fuel (listed.setIfInBounds i true) m w') : L P f R n k ops S0 d (fuel + 1) listed m w := by
  intro hcl a ha
  refine ⟨fun h0 => (by rw [hr] at h0; cases h0), fun j hj => ?_⟩
  have hrr := hj
  rw [hr] at hj
  obtain rfl : j = i := by simpa using hj
  unfold wpOp
  rw [hi]
  simp only
  rw [if_pos (by simp [Region.wanted, hg])]
  refine .inl ?_
  unfold Oper.wp
  rw [hrun a ha, Oper.upon_skip]
  refine ⟨hS, ?_⟩
  rw [hdst]
  exact h (hcl.put hrr) _ (ha.put_none undef)

/-- The one that comes up, by the rules of the closed order. -/
def LZ (P : Program) (f : FuncId) (R : Ending → World → Prop) (k : List Item) (ops : Array Oper) (S0 : World → Prop) (d fuel i : Nat) (listed : Array Bool) : Act → World → Prop := fun a w =>
  (i ≠ d → S0 w) ∧ wpAnyL P ops (fun e a' w' => e = .normal ∧ S P f R k a' w') S0 d fuel listed a w
theorem L_op (i : Nat) {o : Oper} (hr : Region.ready .any ops listed = [i]) (hi : ops[i]? = some o) (h : Closed ops (listed.setIfInBounds i true) → U P n (LZ P f R k ops S0 d fuel i (listed.setIfInBounds i true)) ops [o] m w) : L P f R n k ops S0 d (fuel + 1) listed m w := by
  intro hcl a ha
  refine ⟨fun h0 => (by rw [hr] at h0; cases h0), fun j hj => ?_⟩
  have hrr := hj
  rw [hr] at hj
  obtain rfl : j = i := by simpa using hj
  have := h (hcl.put hrr) a ha
  unfold wpList at this
  unfold wpOp
  rw [hi]
  simp only
  split
  · rename_i hw
    rw [if_pos hw] at this
    rcases this with this | this
    · refine .inl ?_
      unfold Oper.wp at *
      generalize (execOp a.eval o).run P w = rs at *
      cases rs with
      | ok nx w' =>
        cases nx <;> simp only [Oper.upon] at this ⊢ <;>
          first
            | exact this.2
            | exact Calls.mono this (fun e w'' he => by cases e <;> first | exact he.2 | exact absurd he.1 (by intro h; cases h) | (obtain ⟨x, y, h⟩ := he; exact absurd h.1 (by intro h; cases h)))
            | exact Rows.mono this (fun _ _ he => he.2)
      | halt x w' => cases x <;> simp only [Oper.upon] at this ⊢ <;> first | exact this | exact absurd this.1 (by intro h; cases h)
    · obtain ⟨_, x, y, h⟩ := this
      exact absurd h.1 (by intro h; cases h)
  · rename_i hw
    rw [if_neg hw] at this
    exact this.2
theorem L_op2 (i j : Nat) {o o2 : Oper} (hr : Region.ready .any ops listed = [i, j]) (hi : ops[i]? = some o) (hj : ops[j]? = some o2) (h : Closed ops (listed.setIfInBounds i true) → U P n (LZ P f R k ops S0 d fuel i (listed.setIfInBounds i true)) ops [o] m w)
    (h2 : Closed ops (listed.setIfInBounds j true) → U P n (LZ P f R k ops S0 d fuel j (listed.setIfInBounds j true)) ops [o2] m w) : L P f R n k ops S0 d (fuel + 1) listed m w := by
  have one : ∀ (i : Nat) (o : Oper), ops[i]? = some o → (Closed ops (listed.setIfInBounds i true) → U P n (LZ P f R k ops S0 d fuel i (listed.setIfInBounds i true)) ops [o] m w) → i ∈ Region.ready .any ops listed →
      Closed ops listed → ∀ a, Fits a n m → wpOp P ops (fun e a' w' => e = .normal ∧ S P f R k a' w') i (fun a' w' => (i ≠ d → S0 w') ∧ wpAnyL P ops (fun e a' w' => e = .normal ∧ S P f R k a' w') S0 d fuel (listed.setIfInBounds i true) a' w') a w := by
    intro i o hi h hrr hcl a ha
    have := h (hcl.put hrr) a ha
    unfold wpList at this
    unfold wpOp
    rw [hi]
    simp only
    split
    · rename_i hw
      rw [if_pos hw] at this
      rcases this with this | this
      · refine .inl ?_
        unfold Oper.wp at *
        generalize (execOp a.eval o).run P w = rs at *
        cases rs with
        | ok nx w' =>
          cases nx <;> simp only [Oper.upon] at this ⊢ <;>
            first
              | exact this.2
              | exact Calls.mono this (fun e w'' he => by cases e <;> first | exact he.2 | exact absurd he.1 (by intro h; cases h) | (obtain ⟨x, y, h⟩ := he; exact absurd h.1 (by intro h; cases h)))
              | exact Rows.mono this (fun _ _ he => he.2)
        | halt x w' => cases x <;> simp only [Oper.upon] at this ⊢ <;> first | exact this | exact absurd this.1 (by intro h; cases h)
      · obtain ⟨_, x, y, h⟩ := this
        exact absurd h.1 (by intro h; cases h)
    · rename_i hw
      rw [if_neg hw] at this
      exact this.2
  intro hcl a ha
  refine ⟨fun h0 => (by rw [hr] at h0; cases h0), fun q hq => ?_⟩
  have hq2 := hq
  rw [hr] at hq
  simp only [List.mem_cons, List.not_mem_nil, or_false] at hq
  rcases hq with rfl | rfl
  · exact one _ _ hi h hq2 hcl a ha
  · exact one _ _ hj h2 hq2 hcl a ha
theorem U_nilL {i : Nat} (hcl : Closed ops listed) (hS : i ≠ d → S0 w) (h : L P f R n k ops S0 d fuel listed m w) : U P n (LZ P f R k ops S0 d fuel i listed) ops [] m w :=
  fun a ha => wpList_nil ⟨rfl, hS, h hcl a ha⟩

theorem L_done (hr : Region.ready .any ops listed = []) (h : T P f R n k m w) : L P f R n k ops S0 d fuel listed m w := by
  intro _ a ha
  cases fuel with
  | zero => exact ⟨hr, rfl, h a ha⟩
  | succ fu => exact ⟨fun _ => ⟨rfl, h a ha⟩, by rw [hr]; simp⟩
end
end Go.Proofs.YtoefhdaenaiomaaDoor
