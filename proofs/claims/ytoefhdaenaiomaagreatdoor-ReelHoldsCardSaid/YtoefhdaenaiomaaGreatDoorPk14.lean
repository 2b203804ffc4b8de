/- What the law of the scripts needs beside: a beginning of a list; a full slice that is appended to; the state of a script. -/
import Derived.Test.YtoefhdaenaiomaaGreatDoorPk13
import Derived.Test.YtoefhdaenaiomaaGreatDoorPk10
set_option linter.unusedVariables false
set_option linter.unusedSimpArgs false
namespace Go.Proofs.YtoefhdaenaiomaaGreatDoor
open Go
set_option maxRecDepth 20000

theorem T_viaE {P : Program} {f : FuncId} {R : Ending → World → Prop} {n : Nat} {k kc : List Item} {m : Fm} {w : World} {α : Type} {it : Item} (j : Nat) (hk : exitTo j k = some kc) (fm : α → Fm) (X : α → World → Prop) (fin : ∀ x w', X x w' → T P f R n k (fm x) w')
    (h : ∀ k', exitTo j k' = some kc → (∀ x w', X x w' → T P f R n k' (fm x) w') → T P f R n (it :: k') m w) : T P f R n (it :: k) m w := h k hk fin

section
variable {P : Program} {w : World}
theorem run_slice3 {t e : TypeId} {b o n cap s : Nat} {kd kd' : IntKind} (hu : P.underlying t = some (.slice e)) (hs : (P.info? e).map (·.size) = some s) (h0 : 0 < n) (h1 : n ≤ cap) :
    (Instr.sliceAt t (.slice (some ⟨b, o, none⟩) n cap) none (some (.int kd n)) (some (.int kd' n))).run P w = .ok (.slice (some ⟨b, o, none⟩) n n) w := by
  cases hq : P.info? e with
  | none => simp [hq] at hs
  | some j =>
    have hj : j.size = s := by simpa [hq] using hs
    have e1 : (Instr.sliceBound (.int kd' (n : Int)) cap .slice3Acap).run P w = .ok n w := by
      simp [Instr.sliceBound, asIntOf]
      omega
    have e2 : (Instr.sliceBound (.int kd (n : Int)) n .slice3B).run P w = .ok n w := by
      simp [Instr.sliceBound, asIntOf]
    have e3 : ¬ n = 0 := by omega
    simp [Instr.sliceAt, Instr.slice, run_underlying hu, Instr.sliceBounds, sizeOf, typeInfo, hq, e1, e2, e3, addr_add]

theorem r_append_full {F G : Nat → Prop} {t ty e : TypeId} {i : TypeInfo} {z : Value} {sz by_ : Nat} (ht : P.underlying t = some (.slice e)) (hi : P.info? e = some i) (hs : i.size = sz) (hby : i.bytes = by_) (hz : i.zero = some z) (hzs : z.cells.size = sz)
    {x : Value} {b o n l : Nat} {cs news : List Value} (hv : Sl w F (.slice (some ⟨b, o, none⟩) n n) sz n cs) (hx : Sl w G x sz l news) (hl : 0 < l) (hb : (n + l) * by_ ≤ 140737488355328) (hnl : n + l ≤ 281474976710656) :
    ∃ v' w', (Builtin.append_ #[t, t] ty #[.slice (some ⟨b, o, none⟩) n n, x]).run P w = .ok v' w' ∧ Row w' (fun b => w.heap.size ≤ b) v' sz (n + l) (cs ++ news) e ∧ Kept none0 w w' := by
  have hlen : (cs ++ news).length = (n + l) * sz := by rw [List.length_append, hv.2.1, hx.2.1, Nat.add_mul]
  have hfx := r_first (P := P) hx
  have hfxd := r_first (P := P) hx.drew
  have hfc := r_first (P := P) hv.drew
  obtain ⟨_, hxl, Ax, cx, rfl, hxc, hx5⟩ := hx
  subst hs
  have hcap : ¬ n + l ≤ n := by omega
  have hge := grownCap_ge w (n + l) n e
  have h63 : ¬ (9223372036854775807 < (n : Int) + (l : Int)) := by omega
  have hfit : ¬ (281474976710656 < Builtin.nextslicecap (n + l) n * i.bytes) := by
    have := growslice_fits (need := n + l) (old := n) (bytes := i.bytes) (by omega) (by rw [hby]; exact hb)
    omega
  refine ⟨.slice (some ⟨w.heap.size, 0, none⟩) (n + l) (grownCap w (n + l) n e), w.drew.alloc (.cells ((cs ++ news) ++ (Builtin.zeroCells z.cells (grownCap w (n + l) n e - (n + l))).toList).toArray e), ?_, ?_, ?_⟩
  · simp [Builtin.append_, run_underlying ht, sizeOf, typeInfo, zeroValue, hi, hz, Builtin.lenOf, hcap, h63, hfit, Question.forced, hfc, hfxd, newRow, grownCap]
    congr 2
    apply Array.ext'
    simp
  · refine ⟨hlen, .inr ⟨w.heap.size, _, (Builtin.zeroCells z.cells (grownCap w (n + l) n e - (n + l))).toList, rfl, Nat.le_refl _, heap_alloc_new w.drew _, ?_, hge⟩⟩
    rw [List.length_append, hlen]
    simp only [Array.length_toList, size_zeroCells, hzs]
    rw [← Nat.add_mul]
    congr 1
    omega
  · exact (New.alloc w.drew _ e).drew.kept
end

section
variable {P : Program} {f : FuncId} {R : Ending → World → Prop} {n : Nat} {k : List Item} {m : Fm} {Z : Act → World → Prop} {ops : Array Oper} {rest : List Oper} {w : World}
variable {d : Nat} {ty : TypeId} {ps : String} {af : Array Edge}
theorem ro_slice3 (E : Env P) {t e : TypeId} {x y y' : Operand} {b o l cap s se : Nat} {kd kd' : IntKind} {de : TypeDesc} (ht : E.ty t = some (.slice e, se)) (he : E.ty e = some (de, s)) (hx : ev m x = some (.slice (some ⟨b, o, none⟩) l cap)) (hy : ev m y = some (.int kd (l : Int))) (hy' : ev m y' = some (.int kd' (l : Int))) (h0 : 0 < l) (h1 : l ≤ cap) {dst : Option Tmp} {gd : Option (Nat × Bool)} :
    ∀ a, Fits a n m → (execOp a.eval { dst := dst, op := .slice t x none (some y) (some y'), type := ty, pos := ps, after := af, guard := gd }).run P w = .ok (.value (.slice (some ⟨b, o, none⟩) l l)) w := by
  intro a ha
  have hr := run_slice3 (P := P) (w := w) (b := b) (o := o) (kd := kd) (kd' := kd') (E.ok _ _ _ ht).1 (E.ok _ _ _ he).2 h0 h1
  simp only [execOp, ha.eval hx, ha.eval hy, ha.eval hy', Option.map_none, Option.map_some, Sem.run_bind, hr, Result.andThen_ok, Sem.run_pure]
theorem U_append_full (E : Env P) {F G : Nat → Prop} {t e : TypeId} {x y : Operand} {u : Value} {z : Value} {b o sz by_ se N l : Nat} {cs news : List Value} (hv : Sl w F (.slice (some ⟨b, o, none⟩) N N) sz N cs) (hu : Sl w G u sz l news) (hl : 0 < l)
    (ht : E.ty t = some (.slice e, se)) (hi : E.info e = some (sz, by_, z)) (hzs : z.cells.size = sz) (hx : ev m x = some (.slice (some ⟨b, o, none⟩) N N)) (hy : ev m y = some u) (hb : (N + l) * by_ ≤ 140737488355328) (hnl : N + l ≤ 281474976710656) (hd : Nat.blt d n = true)
    (h : ∀ v' w', Row w' (fun b => w.heap.size ≤ b) v' sz (N + l) (cs ++ news) e → Kept none0 w w' → U P n Z ops rest ((d, v') :: m) w') :
    U P n Z ops ({ dst := some d, op := .call { callee := .builtin .append, args := #[x, y], argTypes := #[t, t] }, type := ty, pos := ps, after := af, guard := none } :: rest) m w := by
  obtain ⟨i, hi1, hi2, hi3, hi4⟩ := E.info_ok _ _ _ _ hi
  obtain ⟨v', w', hr, h2, h3⟩ := r_append_full (P := P) (ty := ty) (E.ok _ _ _ ht).1 hi1 hi2 hi3 hi4 hzs hv hu hl hb hnl
  exact U_run rfl rfl hd (fun a ha => by
    simp only [execOp, resolve, invoke, builtin, Sem.run_bind, Sem.run_pure, Result.andThen_ok, List.map_toArray, List.map_cons, List.map_nil, ha.eval hx, ha.eval hy, hr]) (h v' w' h2 h3)
end

/-- A list and one more, in a row of its own. -/
theorem RS.snoc {G : Nat → Prop} {w w1 w2 : World} {vo' vp : Value} {us : List Value} {b : Nat} {t : TypeId} {l : List (List UInt8)} {p : List UInt8} (hG : ∀ b, w.heap.size ≤ b → G b) (h1 : us.length = l.length) (hl : l.length ≤ 1000)
    (h3 : ∀ (j : Nat) u q, us[j]? = some u → l[j]? = some q → BS w G u q) (hp : BS w G vp p) (hn : New w w1 b [vp] t) (hr : Row w2 (fun b => w1.heap.size ≤ b) vo' 1 (us.length + 1) (us ++ [vp]) 22) (k : Kept none0 w1 w2) : RS w2 G vo' (l ++ [p]) := by
  have k' : Kept none0 w w2 := hn.kept.tr k (fun _ _ x => x)
  refine ⟨us ++ [vp], by rw [List.length_append, List.length_append, h1]; rfl, ?_, fun j u q hu hq => ?_⟩
  · rw [List.length_append]
    exact (hr.sl (by omega)).mono (fun b _ e => hG b (Nat.le_trans hn.kept.size e))
  · rcases Nat.lt_or_ge j us.length with hj | hj
    · rw [List.getElem?_append_left hj] at hu
      rw [List.getElem?_append_left (by omega)] at hq
      exact (h3 j u q hu hq).mv k' (fun _ _ _ x => x)
    · rw [List.getElem?_append_right hj] at hu
      rw [List.getElem?_append_right (by omega), ← h1] at hq
      have h0 : j - us.length = 0 := by
        have := (List.getElem?_eq_some_iff.1 hu).1
        simp at this
        omega
      rw [h0] at hu hq
      injection hu with hu
      injection hq with hq
      subst hu
      subst hq
      exact hp.mv k' (fun _ _ _ x => x)

theorem Own.rsK {F F' : Nat → Prop} {w w' : World} (o : Own F w F' w') {G : Nat → Prop} {v : Value} {l : List (List UInt8)} (h : RS w (fun b => G b ∧ ¬ F b) v l) : RS w' (fun b => (G b ∧ b < w.heap.size) ∧ ¬ F' b) v l := by
  obtain ⟨vs, h1, h2, h3⟩ := h
  exact ⟨vs, h1, o.slK h2, fun j u p hu hp => o.slK (h3 j u p hu hp)⟩

set_option maxHeartbeats 2000000 in
theorem begins_t (w : World) (G H : Nat → Prop) (va vb : Value) (a b : List (List UInt8)) (sure : Nat) (ha : RS w G va a) (hb : RS w H vb b) (h1 : sure ≤ a.length) (h2 : a.length ≤ b.length) (h3 : a = b.take a.length) :
    Calls Tryz.prog 18 [va, vb, .int .i64 sure].toArray w (Ret fun r w' => r = .bool true ∧ Kept none0 w w') := by
  have ha0 := ha
  obtain ⟨vs, a1, a2, a3⟩ := ha
  obtain ⟨us, b1, b2, b3⟩ := hb
  obtain ⟨r, hr1, hr2⟩ := slice_sl (P := Tryz.prog) b2 0 vs.length (Nat.zero_le _) (by omega)
  simp only [Nat.zero_mul, List.drop_zero, Nat.sub_zero, Nat.mul_one] at hr1
  obtain ⟨A, c, rfl⟩ := a2.len
  obtain ⟨B, cb, rfl⟩ := b2.len
  have hrs : RS w H r (b.take vs.length) := by
    refine ⟨us.take vs.length, by rw [List.length_take, List.length_take, b1], ?_, fun j u p hu hp => ?_⟩
    · have : (us.take vs.length).length = vs.length := by rw [List.length_take]; omega
      rw [this]
      exact hr1
    · rw [List.getElem?_take] at hu hp
      split at hu
      · rename_i hj
        rw [if_pos hj] at hp
        exact b3 j u p hu hp
      · cases hu
  rw [a1, ← h3] at hrs
  have hsm := rsame_c w _ _ _ _ a a ha0 hrs
  rw [decide_eq_true rfl] at hsm
  refine calls_T Tryz.func18 rfl rfl rfl ?_
  repeat (first | (with_reducible first | apply T_seq | apply T_region | apply U_nil | apply T_skip | apply T_block | apply T_inBlock | apply Cnd_t | apply Cnd_f | apply Cnd_not | apply Cnd_some | apply Cnd_none | apply Gd_nt | apply Gd_nf | apply Gd_some | apply Gd_none | apply Gd_want) | refine U_ar rfl rfl rfl (wrap_k (by simp only [wrapOk]; omega)) rfl ?_ | refine U_cv E rfl rfl rfl (wrap_k (by simp only [wrapOk]; omega)) rfl ?_ | refine U_pure E rfl rfl ?_ | refine T_exit rfl ?_ | refine T_condV rfl ?_ | refine U_guard rfl rfl ?_ | ((with_reducible refine Gd_skipT ?_ ?_); exact rfl) | ((with_reducible refine Gd_skipF ?_ ?_); exact rfl))
  refine Gd_p (fun g1 => ?_) (fun g1 => ?_)
  · repeat (first | (with_reducible first | apply T_seq | apply T_region | apply U_nil | apply T_skip | apply T_block | apply T_inBlock | apply Cnd_t | apply Cnd_f | apply Cnd_not | apply Cnd_some | apply Cnd_none | apply Gd_nt | apply Gd_nf | apply Gd_some | apply Gd_none | apply Gd_want) | refine U_ar rfl rfl rfl (wrap_k (by simp only [wrapOk]; omega)) rfl ?_ | refine U_cv E rfl rfl rfl (wrap_k (by simp only [wrapOk]; omega)) rfl ?_ | refine U_pure E rfl rfl ?_ | refine T_exit rfl ?_ | refine T_condV rfl ?_ | refine U_guard rfl rfl ?_ | ((with_reducible refine Gd_skipT ?_ ?_); exact rfl) | ((with_reducible refine Gd_skipF ?_ ?_); exact rfl))
    refine Gd_p (fun g2 => ?_) (fun g2 => ?_)
    · repeat (first | (with_reducible first | apply T_seq | apply T_region | apply U_nil | apply T_skip | apply T_block | apply T_inBlock | apply Cnd_t | apply Cnd_f | apply Cnd_not | apply Cnd_some | apply Cnd_none | apply Gd_nt | apply Gd_nf | apply Gd_some | apply Gd_none | apply Gd_want) | refine U_ar rfl rfl rfl (wrap_k (by simp only [wrapOk]; omega)) rfl ?_ | refine U_cv E rfl rfl rfl (wrap_k (by simp only [wrapOk]; omega)) rfl ?_ | refine U_pure E rfl rfl ?_ | refine T_exit rfl ?_ | refine T_condV rfl ?_ | refine U_guard rfl rfl ?_ | ((with_reducible refine Gd_skipT ?_ ?_); exact rfl) | ((with_reducible refine Gd_skipF ?_ ?_); exact rfl))
      refine U_run rfl rfl rfl (ro_sliceS (L := none) (H := some (.tmp 22)) (lv := none) (hv := some (.int .i64 vs.length)) E rfl rfl rfl rfl ⟨_, rfl, rfl⟩ (fun ht hi => hr2 _ _ _ none (some (.int .i64 vs.length)) ht hi rfl ⟨_, rfl⟩)) ?_
      repeat (first | (with_reducible first | apply T_seq | apply T_region | apply U_nil | apply T_skip | apply T_block | apply T_inBlock | apply Cnd_t | apply Cnd_f | apply Cnd_not | apply Cnd_some | apply Cnd_none | apply Gd_nt | apply Gd_nf | apply Gd_some | apply Gd_none | apply Gd_want) | refine U_ar rfl rfl rfl (wrap_k (by simp only [wrapOk]; omega)) rfl ?_ | refine U_cv E rfl rfl rfl (wrap_k (by simp only [wrapOk]; omega)) rfl ?_ | refine U_pure E rfl rfl ?_ | refine T_exit rfl ?_ | refine T_condV rfl ?_ | refine U_guard rfl rfl ?_ | ((with_reducible refine Gd_skipT ?_ ?_); exact rfl) | ((with_reducible refine Gd_skipF ?_ ?_); exact rfl))
      refine U_call rfl rfl (Tryz.call17 _) (hsm) ?_
      rintro q w1 ⟨rfl, k1⟩
      repeat (first | (with_reducible first | apply T_seq | apply T_region | apply U_nil | apply T_skip | apply T_block | apply T_inBlock | apply Cnd_t | apply Cnd_f | apply Cnd_not | apply Cnd_some | apply Cnd_none | apply Gd_nt | apply Gd_nf | apply Gd_some | apply Gd_none | apply Gd_want) | refine U_ar rfl rfl rfl (wrap_k (by simp only [wrapOk]; omega)) rfl ?_ | refine U_cv E rfl rfl rfl (wrap_k (by simp only [wrapOk]; omega)) rfl ?_ | refine U_pure E rfl rfl ?_ | refine T_exit rfl ?_ | refine T_condV rfl ?_ | refine U_guard rfl rfl ?_ | ((with_reducible refine Gd_skipT ?_ ?_); exact rfl) | ((with_reducible refine Gd_skipF ?_ ?_); exact rfl))
      exact T_ret1 Tryz.func18 rfl rfl ⟨_, rfl, rfl, k1⟩
    · exfalso; omega
  · exfalso; omega

/-! ### The state of a script -/
def HSt (D : Dr) (g : Nat) (l : List (List UInt8)) (sure : Nat) (off turning : Bool) (tp : List UInt8) (gr : Nat) (Lr : List (List UInt8)) (ar : Nat) : Prop :=
  (off = false ∧ turning = false ∧ Ri D g l ∧ Old D g l sure ∧ gr = g ∧ Lr = l ∧ ar = (allP g 0 l).length) ∨ (off = true ∧ Old D g l sure) ∨ (off = true ∧ turning = true ∧ Mid D g l tp ∧ 1 ≤ sure ∧ sure ≤ l.length) ∨ (off = true ∧ turning = true ∧ Old D (g + 1) [tp] 1 ∧ 1 ≤ sure ∧ sure ≤ l.length)

section
variable {D : Dr} {g sure gr ar : Nat} {l Lr : List (List UInt8)} {off turning : Bool} {tp : List UInt8}
theorem HSt.sure1 (h : HSt D g l sure off turning tp gr Lr ar) : 1 ≤ sure ∧ sure ≤ l.length := by
  rcases h with ⟨_, _, _, h, _⟩ | ⟨_, h⟩ | ⟨_, _, _, h⟩ | ⟨_, _, _, h⟩
  · exact h.sure1
  · exact h.sure1
  · exact h
  · exact h
theorem HSt.on (h : HSt D g l sure false turning tp gr Lr ar) : turning = false ∧ Ri D g l ∧ Old D g l sure ∧ gr = g ∧ Lr = l ∧ ar = (allP g 0 l).length := by
  rcases h with ⟨_, h⟩ | ⟨h, _⟩ | ⟨h, _⟩ | ⟨h, _⟩
  · exact h
  all_goals cases h
theorem HSt.arm (h : HSt D g l sure off turning tp gr Lr ar) (n : Int) : HSt (wl D n) g l sure off turning tp gr Lr ar := by
  rcases h with ⟨h1, h2, h3, h4, h5⟩ | ⟨h1, h2⟩ | ⟨h1, h2, h3, h4⟩ | ⟨h1, h2, h3, h4⟩
  · exact .inl ⟨h1, h2, h3.wl n, h4.wl n, h5⟩
  · exact .inr (.inl ⟨h1, h2.wl n⟩)
  · exact .inr (.inr (.inl ⟨h1, h2, h3.wl n, h4⟩))
  · exact .inr (.inr (.inr ⟨h1, h2, h3.wl n, h4⟩))
theorem HSt.flush_on (h : HSt D g l sure false turning tp gr Lr ar) (hl : D.left ≠ 0) : HSt (flDr D) g l l.length false turning tp gr Lr ar := by
  obtain ⟨h1, h2, h3, h4⟩ := h.on
  have := Go.Proofs.YtoefhdaenaiomaaGreatDoor.on_flush h2 h3 hl
  exact .inl ⟨rfl, h1, this.ri, this.old, h4⟩
theorem HSt.flush_off (h : HSt D g l sure off turning tp gr Lr ar) (hc : off = true ∨ D.left = 0) : HSt (flDr D) g l sure true turning tp gr Lr ar := by
  rcases h with ⟨h1, h2, h3, h4, h5⟩ | ⟨h1, h2⟩ | ⟨h1, h2, h3, h4⟩ | ⟨h1, h2, h3, h4⟩
  · exact .inr (.inl ⟨rfl, h4.flush⟩)
  · exact .inr (.inl ⟨rfl, h2.flush⟩)
  · by_cases hl : D.left = 0
    · have : flDr D = D := by rw [flDr, if_pos hl]
      rw [this]
      exact .inr (.inr (.inl ⟨rfl, h2, h3, h4⟩))
    · exact .inr (.inr (.inr ⟨rfl, h2, (h3.flush hl).old, h4⟩))
  · exact .inr (.inr (.inr ⟨rfl, h2, h3.flush, h4⟩))

/-- What Open finds: all that is sure; or what was turned to. -/
structure Fnd (D : Dr) (g : Nat) (l : List (List UInt8)) (sure : Nat) (turning : Bool) (tp : List UInt8) (g' : Nat) (l' : List (List UInt8)) (s' : Nat) : Prop where
  ok : (opF D).1 = 0
  gen : opG D = g'
  recs : opS D = (l', (allP g' 0 l').length)
  ri : Ri (opF D).2 g' l'
  old : Old (opF D).2 g' l' s'
  len : (opF D).2.l.length = D.l.length
  wait : (opF D).2.wait.length ≤ D.wait.length
  which : (g' = g ∧ ∃ k, l' = l.take k ∧ sure ≤ k ∧ k ≤ l.length) ∨ (turning = true ∧ g' = g + 1 ∧ l' = [tp])
theorem found {D' : Dr} {g' : Nat} {l' : List (List UInt8)} (h : Firm D' g' l') (hl : D'.l.length = D.l.length) (hw : (g' = g ∧ ∃ k, l' = l.take k ∧ sure ≤ k ∧ k ≤ l.length) ∨ (turning = true ∧ g' = g + 1 ∧ l' = [tp])) : Fnd D' g l sure turning tp g' l' l'.length := by
  obtain ⟨e1, e2, e3⟩ := ri_open h.ri
  refine ⟨by rw [e3], e1, e2, by rw [e3]; exact h.ri, by rw [e3]; exact h.old, by rw [e3], by rw [e3]; exact Nat.le_refl _, hw⟩
theorem HSt.fall (h : HSt D g l sure off turning tp gr Lr ar) (keep : List Bool) (torn : Int) : (drFall D keep torn).l.length = D.l.length ∧ (drFall D keep torn).wait = [] ∧ ∃ g' l', Fnd (drFall D keep torn) g l sure turning tp g' l' l'.length := by
  have old : ∀ {g l sure}, Old D g l sure → (drFall D keep torn).l.length = D.l.length ∧ (drFall D keep torn).wait = [] ∧ ∃ k, sure ≤ k ∧ k ≤ l.length ∧ (opF (drFall D keep torn)).1 = 0 ∧ opG (drFall D keep torn) = g ∧ opS (drFall D keep torn) = (l.take k, (allP g 0 (l.take k)).length) ∧ Firm (opF (drFall D keep torn)).2 g (l.take k) ∧ (opF (drFall D keep torn)).2.l.length = (drFall D keep torn).l.length := by
    intro g l sure h
    obtain ⟨f1, f2, f3, _⟩ := fall_sec D keep torn (fun p hp => (h.waits p hp).2)
    obtain ⟨k, k1, k2, k3, k4, k5, _, k6, k7⟩ := (h.fell keep torn).opens
    exact ⟨f3, f1, k, k1, k2, k3, k4, k5, k6, k7⟩
  rcases h with ⟨_, _, _, h, _⟩ | ⟨_, h⟩ | ⟨_, h1, h, h2⟩ | ⟨_, h1, h, h2⟩
  · obtain ⟨f3, f1, k, k1, k2, k3, k4, k5, k6, k7⟩ := old h
    exact ⟨f3, f1, g, l.take k, k3, k4, k5, k6.ri, k6.old, k7, by rw [k6.wait]; exact Nat.zero_le _, .inl ⟨rfl, k, rfl, k1, k2⟩⟩
  · obtain ⟨f3, f1, k, k1, k2, k3, k4, k5, k6, k7⟩ := old h
    exact ⟨f3, f1, g, l.take k, k3, k4, k5, k6.ri, k6.old, k7, by rw [k6.wait]; exact Nat.zero_le _, .inl ⟨rfl, k, rfl, k1, k2⟩⟩
  · obtain ⟨m1, m2, m3⟩ := h.fall keep torn
    rcases m3 with m3 | m3
    · exact ⟨m2, m3.wait, g + 1, [tp], found m3 m2 (.inr ⟨h1, rfl, rfl⟩)⟩
    · exact ⟨m2, m3.wait, g, l, found m3 m2 (.inl ⟨rfl, l.length, by rw [List.take_length], h2.2, Nat.le_refl _⟩)⟩
  · obtain ⟨f3, f1, k, k1, k2, k3, k4, k5, k6, k7⟩ := old h
    have hk : k = 1 := by simp at k2; omega
    subst hk
    have e : [tp].take 1 = [tp] := rfl
    rw [e] at k5 k6
    exact ⟨f3, f1, g + 1, [tp], k3, k4, k5, k6.ri, k6.old, k7, by rw [k6.wait]; exact Nat.zero_le _, .inr ⟨h1, rfl, rfl⟩⟩
theorem HSt.again (h : HSt D g l sure false turning tp gr Lr ar) : Fnd D g l sure turning tp g l sure := by
  obtain ⟨h1, h2, h3, _⟩ := h.on
  obtain ⟨e1, e2, e3⟩ := ri_open h2
  exact ⟨by rw [e3], e1, e2, by rw [e3]; exact h2, by rw [e3]; exact h3, by rw [e3], by rw [e3]; exact Nat.le_refl _, .inl ⟨rfl, l.length, by rw [List.take_length], h3.sure1.2, Nat.le_refl _⟩⟩
end

theorem begF_wait (D : Dr) (g : Nat) (p : List UInt8) : (begF D g p).2.wait.length ≤ D.wait.length + (p.length + 9) ∧ (begF D g p).2.l.length = D.l.length := by
  have h1 := putF_wait D g 0 0 p
  have h2 := putF_len D g 0 0 p
  have h3 := flDr_wait (putF D g 0 0 p).2
  have h4 := flDr_len (putF D g 0 0 p).2
  have h5 := wrDr_wait (flDr (putF D g 0 0 p).2) ((g % 2 : Nat) : Int) (hdS g)
  have h6 := wrDr_l (flDr (putF D g 0 0 p).2) ((g % 2 : Nat) : Int) (hdS g)
  have h7 := flDr_wait (wrDr (flDr (putF D g 0 0 p).2) ((g % 2 : Nat) : Int) (hdS g))
  have h8 := flDr_len (wrDr (flDr (putF D g 0 0 p).2) ((g % 2 : Nat) : Int) (hdS g))
  rw [h6] at h8
  rw [begF]
  split
  · exact ⟨by omega, h2⟩
  · split
    · exact ⟨by dsimp only; omega, by dsimp only; omega⟩
    · split
      · exact ⟨by dsimp only; omega, by dsimp only; rw [h6]; omega⟩
      · exact ⟨by dsimp only; omega, by dsimp only; omega⟩
theorem trF_wait (D : Dr) (g : Nat) (p : List UInt8) : (trF D g p).2.wait.length ≤ D.wait.length + hsz D + (p.length + 9) ∧ (trF D g p).2.l.length = D.l.length := by
  have h1 := wipeR_keeps (hsz D) (base D (g + 1)) false D
  have h2 := begF_wait (wipeR (hsz D) (base D (g + 1)) false D).2.2 (g + 1) p
  rw [trF]
  split
  · exact ⟨by dsimp only; omega, rfl⟩
  · split
    · exact ⟨by dsimp only; omega, rfl⟩
    · split
      · exact ⟨by omega, h1.1⟩
      · exact ⟨by omega, by rw [h2.2, h1.1]⟩
theorem appD_wait (D : Dr) (g n a : Nat) (p : List UInt8) : (appD D g n a p).wait.length ≤ D.wait.length + (p.length + 8) ∧ (appD D g n a p).l.length = D.l.length := by
  rw [appD]
  split
  · exact ⟨by omega, rfl⟩
  · exact ⟨putF_wait _ _ _ _ _, putF_len _ _ _ _ _⟩
end Go.Proofs.YtoefhdaenaiomaaGreatDoor
