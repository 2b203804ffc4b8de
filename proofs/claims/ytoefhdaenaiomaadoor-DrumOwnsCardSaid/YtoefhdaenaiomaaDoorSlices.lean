/- Slices: read, made, appended to, copied. -/
import Derived.Test.YtoefhdaenaiomaaDoorMem
import Derived.Great.BuildSlice
namespace Go.Proofs.YtoefhdaenaiomaaDoor
open Go
set_option maxRecDepth 20000

/-- A slice value that reads as the cells cs (n elements of sz cells), in a block of G. -/
def Sl (w : World) (G : Nat → Prop) (v : Value) (sz n : Nat) (cs : List Value) : Prop :=
  n ≤ 9223372036854775807 ∧ cs.length = n * sz ∧ ∃ A c, v = .slice A n c ∧ n ≤ c ∧ (n = 0 ∨ ∃ b o, A = some ⟨b, o, none⟩ ∧ G b ∧ b < w.heap.size ∧ Seg w b o cs)

/-- A slice of the code's own: nil, or a block from its head on. -/
def Row (w : World) (F : Nat → Prop) (v : Value) (sz n : Nat) (cs : List Value) (e : TypeId) : Prop :=
  cs.length = n * sz ∧ ((v = .slice none 0 0 ∧ n = 0) ∨ ∃ g cap pad, v = .slice (some ⟨g, 0, none⟩) n cap ∧ F g ∧ Blk w g (cs ++ pad) e ∧ (cs ++ pad).length = cap * sz ∧ n ≤ cap)

theorem Seg.nil (w : World) (b o : Nat) : Seg w b o [] := fun j v h => by simp at h

theorem Seg.part {w : World} {b o : Nat} {cs : List Value} (h : Seg w b o cs) (i l : Nat) : Seg w b (o + i) ((cs.drop i).take l) := by
  intro j v hj
  rw [List.getElem?_take] at hj
  split at hj
  · rw [List.getElem?_drop] at hj
    have := h _ _ hj
    rwa [Nat.add_assoc]
  · cases hj
theorem Seg.drop {w : World} {b o : Nat} {cs : List Value} (h : Seg w b o cs) (i : Nat) : Seg w b (o + i) (cs.drop i) := by
  intro j v hj
  rw [List.getElem?_drop] at hj
  have := h _ _ hj
  rwa [Nat.add_assoc]
theorem Seg.take {w : World} {b o : Nat} {cs : List Value} (h : Seg w b o cs) (l : Nat) : Seg w b o (cs.take l) := by
  intro j v hj
  rw [List.getElem?_take] at hj
  split at hj
  · exact h _ _ hj
  · cases hj

theorem Row.nil (w : World) (F : Nat → Prop) (sz : Nat) (e : TypeId) : Row w F (.slice none 0 0) sz 0 [] e := ⟨by simp, .inl ⟨rfl, rfl⟩⟩

theorem Row.sl {w : World} {F : Nat → Prop} {v : Value} {sz n : Nat} {cs : List Value} {e : TypeId} (h : Row w F v sz n cs e) (hn : n ≤ 9223372036854775807) : Sl w F v sz n cs := by
  refine ⟨hn, h.1, ?_⟩
  rcases h.2 with ⟨rfl, rfl⟩ | ⟨g, cap, pad, rfl, hF, hb, _, hc⟩
  · exact ⟨none, 0, rfl, Nat.le_refl _, .inl rfl⟩
  · refine ⟨_, cap, rfl, hc, .inr ⟨g, 0, rfl, hF, hb.lt, ?_⟩⟩
    have := hb.seg 0 cs.length
    simpa using this

theorem Row.own {w : World} {F : Nat → Prop} {v : Value} {sz n : Nat} {cs : List Value} {e : TypeId} (h : Row w F v sz n cs e) : ∀ b, v.ownBlock = some b → F b ∧ b < w.heap.size := by
  intro b hb
  rcases h.2 with ⟨rfl, _⟩ | ⟨g, cap, pad, rfl, hF, hblk, _⟩
  · simp [Value.ownBlock] at hb
  · simp only [Value.ownBlock] at hb
    injection hb with hb
    subst hb
    exact ⟨hF, hblk.lt⟩

theorem Sl.mono {w : World} {F G : Nat → Prop} {v : Value} {sz n : Nat} {cs : List Value} (h : Sl w F v sz n cs) (hg : ∀ b, b < w.heap.size → F b → G b) : Sl w G v sz n cs := by
  obtain ⟨h1, h2, A, c, h3, h4, h5⟩ := h
  refine ⟨h1, h2, A, c, h3, h4, ?_⟩
  rcases h5 with h5 | ⟨b, o, e, hF, hlt, hs⟩
  · exact .inl h5
  · exact .inr ⟨b, o, e, hg _ hlt hF, hlt, hs⟩
theorem Row.mono {w : World} {F G : Nat → Prop} {v : Value} {sz n : Nat} {cs : List Value} {e : TypeId} (h : Row w F v sz n cs e) (hg : ∀ b, b < w.heap.size → F b → G b) : Row w G v sz n cs e := by
  refine ⟨h.1, ?_⟩
  rcases h.2 with h5 | ⟨g, cap, pad, e, hF, hb, r⟩
  · exact .inl h5
  · exact .inr ⟨g, cap, pad, e, hg _ hb.lt hF, hb, r⟩

theorem Sl.mv {w w' : World} {F G : Nat → Prop} {v : Value} {sz n : Nat} {cs : List Value} (h : Sl w G v sz n cs) (k : Kept F w w') (hd : ∀ b, b < w.heap.size → G b → ¬ F b) : Sl w' G v sz n cs := by
  obtain ⟨h1, h2, A, c, h3, h4, h5⟩ := h
  refine ⟨h1, h2, A, c, h3, h4, ?_⟩
  rcases h5 with h5 | ⟨b, o, e, hG, hlt, hs⟩
  · exact .inl h5
  · exact .inr ⟨b, o, e, hG, Nat.lt_of_lt_of_le hlt k.size, hs.mv k (hd b hlt hG)⟩
theorem Row.mv {w w' : World} {F G : Nat → Prop} {v : Value} {sz n : Nat} {cs : List Value} {e : TypeId} (h : Row w G v sz n cs e) (k : Kept F w w') (hd : ∀ b, b < w.heap.size → G b → ¬ F b) : Row w' G v sz n cs e := by
  refine ⟨h.1, ?_⟩
  rcases h.2 with h5 | ⟨g, cap, pad, e, hG, hb, r⟩
  · exact .inl h5
  · exact .inr ⟨g, cap, pad, e, hG, hb.mv k (hd g hb.lt hG), r⟩

section
variable {P : Program} {w : World}

theorem r_first {sz n : Nat} {v : Value} {G : Nat → Prop} {cs : List Value} (h : Sl w G v sz n cs) : (Builtin.firstCells sz n v).run P w = .ok cs.toArray w := by
  obtain ⟨_, h2, A, c, rfl, h4, h5⟩ := h
  rcases h5 with rfl | ⟨b, o, rfl, _, _, hs⟩
  · have : cs = [] := List.eq_nil_of_length_eq_zero (by simpa using h2)
    subst this
    cases A with
    | none => exact run_firstCells_none (P := P) w sz 0 0 c
    | some a => exact run_firstCells_some (P := P) w sz 0 a 0 c [] h2 (fun j v hv => by simp at hv)
  · exact run_firstCells_some (P := P) w sz n ⟨b, o, none⟩ n c cs h2 (fun j v hv => by rw [addr_add]; exact hs j v hv)

theorem Sl.len {n sz : Nat} {v : Value} {G : Nat → Prop} {cs : List Value} (h : Sl w G v sz n cs) : ∃ A c, v = .slice A n c := by
  obtain ⟨_, _, A, c, e, _⟩ := h
  exact ⟨A, c, e⟩

theorem madeCells_replicate (u : Value) (n : Nat) : madeCells #[u] n = (List.replicate n u).toArray := by
  apply Array.ext
  · simp [madeCells]
  · intro i h1 h2
    have : ((fun x => #[u][x % #[u].size]!) i) = u := by
      simp [Nat.mod_one]
    simp [madeCells, Nat.mod_one]

theorem Seg.drew {b o : Nat} {cs : List Value} (h : Seg w b o cs) : Seg w.drew b o cs := h
theorem Sl.drew {n sz : Nat} {v : Value} {G : Nat → Prop} {cs : List Value} (h : Sl w G v sz n cs) : Sl w.drew G v sz n cs := h

/-- append: what it comes to. -/
theorem r_append {F G : Nat → Prop} {t ty e : TypeId} {i : TypeInfo} {z : Value} {sz by_ : Nat} (ht : P.underlying t = some (.slice e)) (hi : P.info? e = some i) (hs : i.size = sz) (hby : i.bytes = by_) (hz : i.zero = some z) (hzs : z.cells.size = sz)
    {v x : Value} {n l : Nat} {cs news : List Value} (hv : Row w F v sz n cs e) (hx : Sl w G x sz l news) (h1 : ∀ u ∈ news, u.oneCell' = true) (hb : (n + l) * by_ ≤ 140737488355328) (hnl : n + l ≤ 281474976710656) :
    ∃ v' w', (Builtin.append_ #[t, t] ty #[v, x]).run P w = .ok v' w' ∧ Row w' (fun b => F b ∨ w.heap.size ≤ b) v' sz (n + l) (cs ++ news) e ∧ Kept (fun b => v.ownBlock = some b) w w' ∧
      (v' = .slice none 0 0 ↔ v = .slice none 0 0 ∧ l = 0) ∧ (∀ b, v'.ownBlock = some b → v.ownBlock = some b ∨ w.heap.size ≤ b) := by
  have hlen : (cs ++ news).length = (n + l) * sz := by rw [List.length_append, hv.1, hx.2.1, Nat.add_mul]
  have hfx := r_first (P := P) hx
  have hfxd := r_first (P := P) hx.drew
  obtain ⟨_, hxl, Ax, cx, rfl, hxc, hx5⟩ := hx
  subst hs
  have grow : ∀ (A : Option Addr) (cap : Nat), ¬ n + l ≤ cap → n ≤ cap → v = .slice A n cap → (Builtin.firstCells i.size n v).run P w.drew = .ok cs.toArray w.drew →
      ∃ v' w', (Builtin.append_ #[t, t] ty #[v, .slice Ax l cx]).run P w = .ok v' w' ∧ Row w' (fun b => F b ∨ w.heap.size ≤ b) v' i.size (n + l) (cs ++ news) e ∧ Kept (fun b => v.ownBlock = some b) w w' ∧
      (v' = .slice none 0 0 ↔ v = .slice none 0 0 ∧ l = 0) ∧ (∀ b, v'.ownBlock = some b → v.ownBlock = some b ∨ w.heap.size ≤ b) := by
    intro A cap hcap hnc hvv hfc
    subst hvv
    have hge := grownCap_ge w (n + l) cap e
    have h63 : ¬ (9223372036854775807 < (n : Int) + (l : Int)) := by omega
    have hfit : ¬ (281474976710656 < Builtin.nextslicecap (n + l) cap * i.bytes) := by
      have := growslice_fits (need := n + l) (old := cap) (bytes := i.bytes) (by omega) (by rw [hby]; exact hb)
      omega
    refine ⟨.slice (some ⟨w.heap.size, 0, none⟩) (n + l) (grownCap w (n + l) cap e), w.drew.alloc (.cells ((cs ++ news) ++ (Builtin.zeroCells z.cells (grownCap w (n + l) cap e - (n + l))).toList).toArray e), ?_, ?_, ?_, ?_, ?_⟩
    · simp [Builtin.append_, run_underlying ht, sizeOf, typeInfo, zeroValue, hi, hz, Builtin.lenOf, hcap, h63, hfit, Question.forced, hfc, hfxd, newRow, grownCap]
      congr 2
      apply Array.ext'
      simp
    · refine ⟨hlen, .inr ⟨w.heap.size, _, (Builtin.zeroCells z.cells (grownCap w (n + l) cap e - (n + l))).toList, rfl, .inr (Nat.le_refl _), heap_alloc_new w.drew _, ?_, hge⟩⟩
      rw [List.length_append, hlen]
      simp only [Array.length_toList, size_zeroCells, hzs]
      rw [← Nat.add_mul]
      congr 1
      omega
    · exact (New.alloc w.drew _ e).drew.kept.mono (fun _ _ h => h.elim)
    · constructor
      · intro h; cases h
      · rintro ⟨h, h0⟩
        injection h with h2 h3 h4
        omega
    · intro b hbb
      right
      simp only [Value.ownBlock] at hbb
      injection hbb with hbb
      omega
  rcases hv.2 with ⟨rfl, rfl⟩ | ⟨g, cap, pad, rfl, hF, hblk, hcl, hnc⟩
  · have hc0 : cs = [] := List.eq_nil_of_length_eq_zero (by simpa using hv.1)
    subst hc0
    by_cases hl0 : l = 0
    · subst hl0
      have hn0 : news = [] := List.eq_nil_of_length_eq_zero (by simpa using hxl)
      subst hn0
      refine ⟨.slice none 0 0, w, ?_, by simpa using Row.nil w _ i.size e, Kept.refl _ _, by simp, by simp [Value.ownBlock]⟩
      simp [Builtin.append_, run_underlying ht, sizeOf, typeInfo, hi, Builtin.lenOf, hfx]
    · exact grow none 0 (by omega) (Nat.le_refl _) rfl (run_firstCells_none (P := P) w.drew i.size 0 0 0)
  · by_cases hroom : n + l ≤ cap
    · have hst := run_storeCells_at P g cs.length e news 0 (cs ++ pad).toArray w hblk (by
        have := Nat.mul_le_mul_right i.size hroom
        rw [← hlen, List.length_append] at this
        simp only [List.size_toArray, hcl]
        omega) h1
      simp only [Nat.add_zero] at hst
      have hcells : ((cs ++ pad).toArray.toList.take cs.length ++ news ++ (cs ++ pad).toArray.toList.drop (cs.length + news.length)) = (cs ++ news) ++ pad.drop news.length := by
        simp [List.drop_append]
      rw [hcells] at hst
      refine ⟨.slice (some ⟨g, 0, none⟩) (n + l) cap, w.setRow g ((cs ++ news) ++ pad.drop news.length).toArray, ?_, ?_, ?_, by simp, fun b hb => .inl hb⟩
      · have hoff : (⟨g, 0, none⟩ : Addr).add (n * i.size) = ⟨g, cs.length, none⟩ := by rw [addr_add, hv.1]; simp
        simp [Builtin.append_, run_underlying ht, sizeOf, typeInfo, hi, Builtin.lenOf, hroom, hfx, hoff, hst]
      · refine ⟨hlen, .inr ⟨g, cap, pad.drop news.length, rfl, .inl hF, (Upd.setRow hblk _).blk, ?_, hroom⟩⟩
        have := Nat.mul_le_mul_right i.size hroom
        rw [← hlen, List.length_append] at this
        rw [← hcl] at this ⊢
        simp only [List.length_append, List.length_drop] at this ⊢
        omega
      · exact (Upd.setRow hblk _).kept.mono (fun b _ hb => by simp [Value.ownBlock, hb])
    · refine grow _ cap hroom hnc rfl ?_
      have hd : Sl w.drew (fun _ => True) (.slice (some ⟨g, 0, none⟩) n cap) i.size n cs :=
        ⟨by omega, hv.1, _, cap, rfl, hnc, .inr ⟨g, 0, rfl, trivial, hblk.lt, by have := hblk.seg 0 cs.length; simp only [List.drop_zero, List.take_left] at this; exact this⟩⟩
      exact r_first hd
end

section
variable {P : Program} {f : FuncId} {R : Ending → World → Prop} {n : Nat} {k : List Item} {m : Fm} {Z : Act → World → Prop} {ops : Array Oper} {rest : List Oper} {w : World}
variable {d : Nat} {ty : TypeId} {ps : String} {af : Array Edge}

/-- The place of an element of one cell. -/
theorem U_idx (E : Env P) {G : Nat → Prop} {t e : TypeId} {x y : Operand} {v u : Value} {cs : List Value} {N se : Nat} {i : Int} {kd : IntKind} {de : TypeDesc} (hs : Sl w G v 1 N cs) (hu : E.ty t = some (.slice e, se)) (he : E.ty e = some (de, 1)) (hx : ev m x = some v) (hy : ev m y = some (.int kd i)) (h0 : 0 ≤ i) (hl : i < N) (hc : cs[i.toNat]? = some u) (hd : Nat.blt d n = true)
    (h : ∀ p, w.cell? p = some u → U P n Z ops rest ((d, .pointer (some p)) :: m) w) : U P n Z ops ({ dst := some d, op := .indexAddr t x y, type := ty, pos := ps, after := af, guard := none } :: rest) m w := by
  obtain ⟨_, _, A, c, rfl, _, h5⟩ := hs
  rcases h5 with rfl | ⟨b, o, rfl, _, _, hseg⟩
  · exfalso
    simp at hl
    omega
  · exact U_indexS E hu he hx hy h0 hl (by rw [Nat.mul_one]) hd (h _ (hseg _ _ hc))

theorem U_append (E : Env P) {F G : Nat → Prop} {t e : TypeId} {x y : Operand} {v u : Value} {z : Value} {sz by_ se N l : Nat} {cs news : List Value} (hv : Row w F v sz N cs e) (hu : Sl w G u sz l news) (h1 : ∀ c ∈ news, c.oneCell' = true)
    (ht : E.ty t = some (.slice e, se)) (hi : E.info e = some (sz, by_, z)) (hzs : z.cells.size = sz) (hx : ev m x = some v) (hy : ev m y = some u) (hb : (N + l) * by_ ≤ 140737488355328) (hnl : N + l ≤ 281474976710656) (hd : Nat.blt d n = true)
    (h : ∀ v' w', Row w' (fun b => F b ∨ w.heap.size ≤ b) v' sz (N + l) (cs ++ news) e → Kept (fun b => v.ownBlock = some b) w w' → (v' = .slice none 0 0 ↔ v = .slice none 0 0 ∧ l = 0) → (∀ b, v'.ownBlock = some b → v.ownBlock = some b ∨ w.heap.size ≤ b) → U P n Z ops rest ((d, v') :: m) w') :
    U P n Z ops ({ dst := some d, op := .call { callee := .builtin .append, args := #[x, y], argTypes := #[t, t] }, type := ty, pos := ps, after := af, guard := none } :: rest) m w := by
  obtain ⟨i, hi1, hi2, hi3, hi4⟩ := E.info_ok _ _ _ _ hi
  obtain ⟨v', w', hr, h2, h3, h4, h5⟩ := r_append (P := P) (ty := ty) (E.ok _ _ _ ht).1 hi1 hi2 hi3 hi4 hzs hv hu h1 hb hnl
  exact U_run rfl rfl hd (fun a ha => by
    simp only [execOp, resolve, invoke, builtin, Sem.run_bind, Sem.run_pure, Result.andThen_ok, List.map_toArray, List.map_cons, List.map_nil, ha.eval hx, ha.eval hy, hr]) (h v' w' h2 h3 h4 h5)

theorem U_copy (E : Env P) {G : Nat → Prop} {t e : TypeId} {x y : Operand} {g o dl dc l se : Nat} {u : Value} {de : TypeDesc} {cur cs : List Value} {bt : TypeId} (hb : Blk w g cur bt) (hu : Sl w G u 1 l cs) (h1 : ∀ c ∈ cs, c.oneCell' = true)
    (ht : E.ty t = some (.slice e, se)) (he : E.ty e = some (de, 1)) (hx : ev m x = some (.slice (some ⟨g, o, none⟩) dl dc)) (hy : ev m y = some u) (hfit : o + dl ≤ cur.length) (hd : Nat.blt d n = true)
    (h : ∀ w', Upd w w' g (cur.take o ++ cs.take dl ++ cur.drop (o + (cs.take dl).length)) bt → U P n Z ops rest ((d, .int .i64 (min l dl : Nat)) :: m) w') :
    U P n Z ops ({ dst := some d, op := .call { callee := .builtin .copy, args := #[x, y], argTypes := #[t, t] }, type := ty, pos := ps, after := af, guard := none } :: rest) m w := by
  have hl := hu.2.1
  obtain ⟨_, _, A, c, rfl, _, h5⟩ := hu
  have hn : (cs.take dl).length = Nat.min l dl := by
    rw [List.length_take, hl, Nat.mul_one]
    exact Nat.min_comm _ _
  have hlo : ∀ v ∈ cs.take dl, v.oneCell' = true := fun v hv => h1 v (List.mem_of_mem_take hv)
  rcases h5 with rfl | ⟨b, ob, rfl, _, _, hs⟩
  · have hc0 : cs = [] := List.eq_nil_of_length_eq_zero (by simpa using hl)
    subst hc0
    cases A with
    | none =>
      have hsome : ((P.info? e).map (·.size)).isSome = true := by simp [(E.ok _ _ _ he).2]
      cases hq : P.info? e with
      | none => simp [hq] at hsome
      | some i =>
        refine U_run rfl rfl hd (fun a ha => ?_) (h w ⟨by simpa using hb, Kept.refl _ _, rfl⟩)
        simp [execOp, resolve, invoke, builtin, ha.eval hx, ha.eval hy, Builtin.copy_, run_underlying (E.ok _ _ _ ht).1, Builtin.lenOf, Builtin.firstCells, sizeOf, typeInfo, hq, storeCells, goInt]
    | some p =>
      have hr := run_copy_row (P := P) w t t ty e g o dl dc p 0 c cur.toArray bt ([].take dl) (E.ok _ _ _ ht).1 (E.ok _ _ _ he).2 hb hn (fun j v hv => by simp at hv) (by simp only [List.size_toArray]; rw [hn]; have : Nat.min 0 dl ≤ dl := Nat.min_le_right _ _; omega) hlo
      refine U_run rfl rfl hd (fun a ha => ?_) (h _ (Upd.setRow hb _))
      simp only [execOp, resolve, invoke, builtin, Sem.run_bind, Sem.run_pure, Result.andThen_ok, List.map_toArray, List.map_cons, List.map_nil, ha.eval hx, ha.eval hy]
      rw [hr]
      simp only [Result.andThen_ok, goInt, hn]
  · have hr := run_copy_row (P := P) w t t ty e g o dl dc ⟨b, ob, none⟩ l c cur.toArray bt (cs.take dl) (E.ok _ _ _ ht).1 (E.ok _ _ _ he).2 hb hn (fun j v hv => by rw [addr_add]; exact (hs.take dl) j v hv) (by simp only [List.size_toArray]; rw [hn]; have : Nat.min l dl ≤ dl := Nat.min_le_right _ _; omega) hlo
    refine U_run rfl rfl hd (fun a ha => ?_) (h _ (Upd.setRow hb _))
    simp only [execOp, resolve, invoke, builtin, Sem.run_bind, Sem.run_pure, Result.andThen_ok, List.map_toArray, List.map_cons, List.map_nil, ha.eval hx, ha.eval hy]
    rw [hr]
    simp only [Result.andThen_ok, goInt, hn]

/-- Rows of one length, one behind the other. -/
theorem flat_get {α : Type} {sz : Nat} (h0 : 0 < sz) : ∀ (segs : List (List α)), (∀ s ∈ segs, s.length = sz) → ∀ k : Nat, segs.flatten[k]? = (segs[k / sz]?).bind (·[k % sz]?)
  | [], _, k => by simp
  | s :: segs, h, k => by
    have hs : s.length = sz := h s (by simp)
    rw [List.flatten_cons, List.getElem?_append, hs]
    by_cases hk : k < sz
    · rw [if_pos hk, Nat.div_eq_of_lt hk, Nat.mod_eq_of_lt hk]
      simp
    · rw [if_neg hk, flat_get h0 segs (fun x hx => h x (by simp [hx])) (k - sz)]
      have h1 : k / sz = (k - sz) / sz + 1 := by
        have := Nat.add_div_right (k - sz) h0
        rw [show k - sz + sz = k by omega] at this
        exact this
      have h2 : k % sz = (k - sz) % sz := by
        have := Nat.add_mod_right (k - sz) sz
        rw [show k - sz + sz = k by omega] at this
        exact this
      rw [h1, h2, List.getElem?_cons_succ]

theorem flat_len {α : Type} {sz : Nat} : ∀ (segs : List (List α)), (∀ s ∈ segs, s.length = sz) → segs.flatten.length = segs.length * sz
  | [], _ => by simp
  | s :: segs, h => by
    have hs : s.length = sz := h s (by simp)
    have := flat_len segs (fun x hx => h x (by simp [hx]))
    simp only [List.flatten_cons, List.length_append, List.length_cons, Nat.succ_mul]
    omega

theorem fill_flat {sz : Nat} (h0 : 0 < sz) (vs : List Value) (segs : List (List Value)) (hv : vs.map (·.cells) = segs.map (·.toArray)) (hl : ∀ s ∈ segs, s.length = sz) (cells : Array Value) (hc : cells.size = vs.length * sz) :
    Instr.fill (fun i => some (i * sz, sz)) cells ((vs.zipIdx 0).map fun x => (x.2, x.1)) = some segs.flatten.toArray := by
  have hlen : vs.length = segs.length := by simpa using congrArg List.length hv
  have hget : ∀ i : Nat, (vs[i]?).map (·.cells) = (segs[i]?).map (·.toArray) := by
    intro i
    have := congrArg (fun l => l[i]?) hv
    simpa using this
  have hvs : ∀ v ∈ vs, v.cells.size = sz := by
    intro v hm
    obtain ⟨i, hi, rfl⟩ := List.mem_iff_getElem.1 hm
    have h1 := hget i
    rw [List.getElem?_eq_getElem hi, List.getElem?_eq_getElem (by omega)] at h1
    simp only [Option.map_some] at h1
    injection h1 with h1
    rw [h1]
    simpa using hl _ (List.getElem_mem (by omega))
  obtain ⟨r, hr, hsz, hk⟩ := Great.fill_dense h0 vs 0 cells hvs (by rw [hc]; simp)
  rw [hr]
  congr 1
  apply Array.ext'
  apply List.ext_getElem?
  intro j
  rw [Array.getElem?_toList, hk j]
  have hfl := flat_get h0 segs hl j
  simp only [Nat.zero_mul, Nat.zero_le, true_and, Nat.zero_add, Nat.sub_zero]
  by_cases hj : j < vs.length * sz
  · rw [if_pos hj, hfl]
    have h1 := hget (j / sz)
    cases hx : vs[j / sz]? with
    | none =>
      rw [hx] at h1
      cases hy : segs[j / sz]? with
      | none => rfl
      | some y => rw [hy] at h1; cases h1
    | some x =>
      rw [hx] at h1
      cases hy : segs[j / sz]? with
      | none => rw [hy] at h1; cases h1
      | some y =>
        rw [hy] at h1
        simp only [Option.map_some] at h1
        injection h1 with h1
        simp [h1]
  · rw [if_neg hj]
    have h1 : cells[j]? = none := by simp; omega
    rw [hlen] at hj
    have h2 : segs.flatten[j]? = none := by
      have := flat_len segs hl
      apply List.getElem?_eq_none
      omega
    rw [h1, h2]

theorem U_buildSlice (E : Env P) {t e : TypeId} {parts : Array (Nat × Operand)} {vs : List Value} {segs : List (List Value)} {z : Value} {sz by_ se len : Nat} (ht : E.ty t = some (.slice e, se)) (hi : E.info e = some (sz, by_, z)) (h0 : Nat.blt 0 sz = true)
    (hp : parts.toList = ((parts.toList.map (·.2)).zipIdx 0).map fun x => (x.2, x.1)) (he : evs m (parts.toList.map (·.2)) = some vs) (hlen : vs.length = len) (hpos : Nat.blt 0 len = true) (hsmall : Nat.ble (len * sz) 16777216 = true) (hv : vs.map (·.cells) = segs.map (·.toArray)) (hl : ∀ s ∈ segs, s.length = sz) (hd : Nat.blt d n = true)
    (h : ∀ b w', New w w' b segs.flatten e → U P n Z ops rest ((d, .slice (some ⟨b, 0, none⟩) len len) :: m) w') :
    U P n Z ops ({ dst := some d, op := .buildSlice t len parts, type := ty, pos := ps, after := af, guard := none } :: rest) m w := by
  obtain ⟨i, hi1, hi2, hi3, hi4⟩ := E.info_ok _ _ _ _ hi
  subst hi2
  subst hlen
  have h0' : 0 < i.size := by simpa using h0
  have hpos' : 0 < vs.length := by simpa using hpos
  have hsmall' : vs.length * i.size ≤ 16777216 := by simpa using hsmall
  have hne : ¬ vs.length * i.size = 0 := by
    have := Nat.mul_pos hpos' h0'
    omega
  have hfill := fill_flat h0' vs segs hv hl ((Array.range (vs.length * i.size)).map (z.cells[· % z.cells.size]!)) (by simp)
  refine U_run rfl rfl hd (fun a ha => ?_) (h _ _ (New.alloc w segs.flatten e))
  have hparts : (parts.map fun (i, x) => (i, a.eval x)).toList = (vs.zipIdx 0).map fun x => (x.2, x.1) := by
    have hv2 := ha.evals he
    generalize parts.toList.map (·.2) = L at hp hv2
    rw [← hv2, Array.toList_map, hp, List.zipIdx_map, List.map_map, List.map_map]
    rfl
  have hr := run_buildSlice (P := P) w t e vs.length (parts.map fun (i, x) => (i, a.eval x)) segs.flatten.toArray i z (E.ok _ _ _ ht).1 hi1 hi4 (by omega) hne (by rw [hparts]; exact hfill)
  simp only [execOp, Sem.run_bind, hr, Result.andThen_ok, Sem.run_pure]

theorem U_buildSlice0 (E : Env P) {t e : TypeId} {z : Value} {sz by_ se : Nat} (ht : E.ty t = some (.slice e, se)) (hi : E.info e = some (sz, by_, z)) (hd : Nat.blt d n = true)
    (h : ∀ b w', New w w' b [] e → U P n Z ops rest ((d, .slice (some ⟨b, 0, none⟩) 0 0) :: m) w') :
    U P n Z ops ({ dst := some d, op := .buildSlice t 0 #[], type := ty, pos := ps, after := af, guard := none } :: rest) m w := by
  obtain ⟨i, hi1, hi2, hi3, hi4⟩ := E.info_ok _ _ _ _ hi
  refine U_run rfl rfl hd (fun a ha => ?_) (h _ _ (New.alloc w [] e))
  have hr : (Instr.buildSlice t 0 #[]).run P w = .ok (.slice (some ⟨w.heap.size, 0, none⟩) 0 0) (w.alloc (.cells [].toArray e)) := by
    simp [Instr.buildSlice, run_underlying (E.ok _ _ _ ht).1, sizeOf, typeInfo, hi1, Instr.fill, newRow, Array.range_zero']
  have he : (#[] : Array (Nat × Operand)).map (fun (i, x) => (i, a.eval x)) = #[] := by simp
  simp only [execOp, he, Sem.run_bind, hr, Result.andThen_ok, Sem.run_pure]

theorem U_build {t : TypeId} {parts : Array (Nat × Operand)} {vs : List Value} {cells : List Value} (he : evs m (parts.toList.map (·.2)) = some vs) (hb : P.built t ((parts.toList.map (·.1)).zip vs) = some cells.toArray) (hd : Nat.blt d n = true)
    (h : U P n Z ops rest ((d, .agg cells.toArray) :: m) w) :
    U P n Z ops ({ dst := some d, op := .build t parts, type := ty, pos := ps, after := af, guard := none } :: rest) m w := by
  refine U_run rfl rfl hd (fun a ha => ?_) h
  have hp : (parts.map fun (i, x) => (i, a.eval x)).toList = (parts.toList.map (·.1)).zip vs := by
    rw [← ha.evals he, Array.toList_map]
    generalize parts.toList = L
    induction L with
    | nil => rfl
    | cons p r ih => simp [ih]
  have hr := run_build (P := P) w t (parts.map fun (i, x) => (i, a.eval x)) cells.toArray (by rw [hp]; exact hb)
  simp only [execOp, Sem.run_bind, hr, Result.andThen_ok, Sem.run_pure]

theorem U_make (E : Env P) {t e : TypeId} {x y : Operand} {z : Value} {sz by_ se N : Nat} {kx ky : IntKind} {zs : List Value} (ht : E.ty t = some (.slice e, se)) (hi : E.info e = some (sz, by_, z)) (hz : z.cells = zs.toArray) (hx : ev m x = some (.int kx N)) (hy : ev m y = some (.int ky N)) (hb : by_ * N ≤ 140737488355328) (hN : N ≤ 281474976710656) (hzl : zs.length = sz) (h0 : Nat.blt 0 sz = true) (hd : Nat.blt d n = true)
    (h : ∀ b w', New w w' b (List.replicate N zs).flatten e → U P n Z ops rest ((d, .slice (some ⟨b, 0, none⟩) N N) :: m) w') :
    U P n Z ops ({ dst := some d, op := .makeSlice t x y, type := ty, pos := ps, after := af, guard := none } :: rest) m w := by
  obtain ⟨i, hi1, hi2, hi3, hi4⟩ := E.info_ok _ _ _ _ hi
  subst hi2
  have h0' : 0 < i.size := by simpa using h0
  have hcast : (i.bytes : Int) * (N : Int) ≤ 281474976710656 := by
    rw [hi3]
    have h2 : ((by_ * N : Nat) : Int) ≤ ((140737488355328 : Nat) : Int) := Int.ofNat_le.2 hb
    simp only [Int.natCast_mul] at h2
    omega
  have hr := run_make (P := P) w t e i z (E.ok _ _ _ ht).1 hi1 hi4 kx ky (N : Int) (N : Int) (by omega) (by omega) hcast (by omega)
  have hmade : madeCells z.cells (N * i.size) = (List.replicate N zs).flatten.toArray := by
    apply Array.ext'
    apply List.ext_getElem?
    intro j
    have hlz : ∀ s ∈ List.replicate N zs, s.length = i.size := fun s hs => by rw [(List.mem_replicate.1 hs).2]; exact hzl
    show (madeCells z.cells (N * i.size)).toList[j]? = (List.replicate N zs).flatten[j]?
    rw [Array.getElem?_toList, flat_get h0' _ hlz j]
    by_cases hj : j < N * i.size
    · have h1 : j / i.size < N := by
        rw [Nat.div_lt_iff_lt_mul h0']
        exact hj
      have hm : j % i.size < zs.length := by rw [hzl]; exact Nat.mod_lt _ h0'
      simp only [madeCells, Array.getElem?_map]
      rw [Array.getElem?_eq_getElem (by simpa using hj)]
      simp only [Array.getElem_range, Option.map_some, hz]
      rw [List.getElem?_replicate, if_pos h1, ← hzl]
      rw [hzl] at hm
      simp [← hzl, Nat.mod_lt _ (show 0 < zs.length by omega)]
    · have h1 : ¬ j / i.size < N := by
        rw [Nat.div_lt_iff_lt_mul h0']
        exact hj
      rw [List.getElem?_replicate, if_neg h1]
      apply Array.getElem?_eq_none
      rw [size_madeCells]
      omega
  refine U_run rfl rfl hd (fun a ha => ?_) (h _ _ (New.alloc w _ e))
  simp only [Int.toNat_natCast] at hr
  simp only [execOp, ha.eval hx, ha.eval hy, Sem.run_bind, hr, Result.andThen_ok, Sem.run_pure, hmade]

/-- x[lo:hi] of a slice that reads as cs. -/
theorem slice_sl {G : Nat → Prop} {v : Value} {sz N : Nat} {cs : List Value} (hs : Sl w G v sz N cs) (lo hi : Nat) (h1 : lo ≤ hi) (h2 : hi ≤ N) :
    ∃ r, Sl w G r sz (hi - lo) ((cs.drop (lo * sz)).take ((hi - lo) * sz)) ∧ ∀ (w' : World) (t e : TypeId) (L H : Option Value), P.underlying t = some (.slice e) → (P.info? e).map (·.size) = some sz →
      (match L with | none => lo = 0 | some u => ∃ kd, u = .int kd lo) → (match H with | none => hi = N | some u => ∃ kd, u = .int kd hi) → (Instr.sliceAt t v L H none).run P w' = .ok r w' := by
  obtain ⟨g1, g2, A, c, rfl, g3, g4⟩ := hs
  refine ⟨.slice (if c = lo then A else A.map (·.add (lo * sz))) (hi - lo) (c - lo), ⟨by omega, ?_, _, _, rfl, by omega, ?_⟩, fun w' t e L H ht he hL hH => run_slice ht he hL hH h1 (by omega)⟩
  · rw [List.length_take, List.length_drop, g2, ← Nat.mul_sub_right_distrib]
    apply Nat.min_eq_left
    exact Nat.mul_le_mul_right _ (by omega)
  · rcases g4 with rfl | ⟨b, o, rfl, hG, hlt, hseg⟩
    · left
      omega
    · right
      by_cases hc : c = lo
      · rw [if_pos hc]
        refine ⟨b, o, rfl, hG, hlt, ?_⟩
        have : hi - lo = 0 := by omega
        rw [this, Nat.zero_mul, List.take_zero]
        exact Seg.nil w b o
      · rw [if_neg hc]
        exact ⟨b, o + lo * sz, by simp [addr_add], hG, hlt, hseg.part _ _⟩

theorem ro_sliceS (E : Env P) {t e : TypeId} {x : Operand} {L H : Option Operand} {v r : Value} {sz se : Nat} {de : TypeDesc} {lv hv : Option Value} (ht : E.ty t = some (.slice e, se)) (he : E.ty e = some (de, sz)) (hx : ev m x = some v)
    (hL : match L with | none => lv = none | some y => ∃ u, lv = some u ∧ ev m y = some u) (hH : match H with | none => hv = none | some y => ∃ u, hv = some u ∧ ev m y = some u)
    (hr : P.underlying t = some (.slice e) → (P.info? e).map (·.size) = some sz → (Instr.sliceAt t v lv hv none).run P w = .ok r w) {dst : Option Tmp} {gd : Option (Nat × Bool)} :
    ∀ a, Fits a n m → (execOp a.eval { dst := dst, op := .slice t x L H none, type := ty, pos := ps, after := af, guard := gd }).run P w = .ok (.value r) w := by
  intro a ha
  have h := hr (E.ok _ _ _ ht).1 (E.ok _ _ _ he).2
  have e1 : L.map a.eval = lv := by
    cases L with
    | none => simpa using hL.symm
    | some y => obtain ⟨u, e1, e2⟩ := hL; simp [ha.eval e2, e1]
  have e2 : H.map a.eval = hv := by
    cases H with
    | none => simpa using hH.symm
    | some y => obtain ⟨u, e1, e2⟩ := hH; simp [ha.eval e2, e1]
  simp only [execOp, ha.eval hx, e1, e2, Option.map_none, Sem.run_bind, h, Result.andThen_ok, Sem.run_pure]

/-- A string's bytes: the slice is marked behind its end; it reads as it did. -/
theorem U_convBytes (E : Env P) {t e : TypeId} {x : Operand} {b N se sb : Nat} {cs : List Value} {bt : TypeId} (hb : Blk w b cs bt) (hl : cs.length = N) (hN : N ≤ 1000) (ht : E.ty t = some (.slice e, se)) (he : E.ty e = some (.int .u8, sb)) (hx : ev m x = some (.slice (some ⟨b, 0, none⟩) N N)) (hd : Nat.blt d n = true)
    (h : ∀ w', Kept (fun j => j = b) w w' → w'.heap.size = w.heap.size → Sl w' (fun j => j = b) (.slice (some ⟨b, 0, none⟩) N N) 1 N cs → U P n Z ops rest ((d, .slice (some ⟨b, 0, none⟩) N N) :: m) w') :
    U P n Z ops ({ dst := some d, op := .convert t t x, type := ty, pos := ps, after := af, guard := none } :: rest) m w := by
  have hsh : w.shape? b = some (bt, cs.length) := by
    have : w.heap[b]? = some (.cells cs.toArray bt (0, 0)) := hb
    simp [World.shape?, this]
  refine U_run rfl rfl hd (w' := w.freeze { block := b, off := cs.length } 1) (fun a ha => ?_) (h _ ⟨rfl, rfl, rfl, by simp [World.freeze], fun j _ hj => ?_⟩ (by simp [World.freeze]) ⟨by omega, by omega, _, _, rfl, Nat.le_refl _, .inr ⟨b, 0, rfl, rfl, by simpa [World.freeze] using hb.lt, ?_⟩⟩)
  · simp [execOp, convert, run_underlying (E.ok _ _ _ ht).1, run_underlying (E.ok _ _ _ he).1, ha.eval hx, markStringish, shape, freeze, Sem.run, hsh]
  · simp only [World.freeze, Nat.one_ne_zero, if_false, Array.getElem?_modify]
    rw [if_neg (fun e => hj e.symm)]
  · intro j u hj
    have h1 := hb.whole j u hj
    rw [World.cell?] at h1 ⊢
    have hbb : w.heap[b]? = some (.cells cs.toArray bt (0, 0)) := hb
    simp only [World.freeze, Nat.one_ne_zero, if_false, Array.getElem?_modify, if_true, hbb] at h1 ⊢
    simpa using h1
end
end Go.Proofs.YtoefhdaenaiomaaDoor
