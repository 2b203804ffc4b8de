/- ReelHolds: the walk. -/
import Derived.Test.YtoefhdaenaiomaaGreatDoorPk14
set_option linter.unusedVariables false
set_option linter.unusedSimpArgs false
namespace Go.Proofs.YtoefhdaenaiomaaGreatDoor
open Go
set_option maxRecDepth 20000

/-- An act, as its cells hold it. -/
structure HAct where
  d : Nat
  vp : Value
  p : List UInt8
  lg : Bool
  vk : Value
  keep : List Bool
  torn : Int
  n : Nat
def HAct.cells (a : HAct) : List Value := [.int .u8 a.d, a.vp, .bool a.lg, a.vk, .int .i64 a.torn, .int .u8 a.n]
def HAct.ok (w : World) (a : HAct) : Prop := a.d < 256 ∧ BS w (old w) a.vp a.p ∧ Sl w (old w) a.vk 1 a.keep.length (encBools a.keep) ∧ a.n < 256
instance : Inhabited HAct := ⟨⟨0, .slice none 0 0, [], false, .slice none 0 0, [], 0, 0⟩⟩
theorem six_get {α : Type} {f : α → List Value} (hf : ∀ a, (f a).length = 6) : ∀ (l : List α) (j : Nat), (l.flatMap f)[j]? = (l[j / 6]?).bind fun a => (f a)[j % 6]?
  | [], j => by simp
  | a :: l, j => by
    rw [List.flatMap_cons, List.getElem?_append, hf]
    by_cases h : j < 6
    · rw [if_pos h, Nat.div_eq_of_lt h, Nat.mod_eq_of_lt h]
      rfl
    · rw [if_neg h, six_get hf l (j - 6)]
      rw [show j / 6 = (j - 6) / 6 + 1 by omega, show j % 6 = (j - 6) % 6 by omega, List.getElem?_cons_succ]
theorem six_seg {α : Type} {f : α → List Value} (hf : ∀ a, (f a).length = 6) {w : World} {b o : Nat} {l : List α} (h : Seg w b o (l.flatMap f)) {i : Nat} (hi : i < l.length) : Seg w b (o + i * 6) (f l[i]) := by
  intro j v hj
  have hj6 : j < 6 := by
    have := (List.getElem?_eq_some_iff.1 hj).1
    rw [hf] at this
    exact this
  have := h (i * 6 + j) v (by
    rw [six_get hf, show (i * 6 + j) / 6 = i by omega, show (i * 6 + j) % 6 = j by omega, List.getElem?_eq_getElem hi]
    exact hj)
  rwa [← Nat.add_assoc] at this

/-- The state of the law. -/
structure HS where
  F : Nat → Prop
  Fr : Nat → Prop
  hb : Nat
  rb : Nat
  D : Dr
  g : Nat
  l : List (List UInt8)
  sure : Nat
  off : Bool
  turning : Bool
  tp : List UInt8
  vl : Value
  vt : Value
  gr : Nat
  Lr : List (List UInt8)
  ar : Nat
structure HI (w0 w : World) (S i : Nat) (x : HS) : Prop where
  k : Kept none0 w0 w
  nw : ∀ b, uni x.F x.Fr b → w0.heap.size ≤ b
  dm : Dm w x.F x.hb x.D
  rl : Rl w x.F x.Fr x.hb x.rb x.gr x.Lr x.ar
  len : x.D.l.length = S
  wait : x.D.wait.length ≤ 2000 * i
  ls : RS w (fun b => fresh w0 b ∧ ¬ uni x.F x.Fr b) x.vl x.l
  ts : BS w (fun b => fresh w0 b ∧ ¬ uni x.F x.Fr b) x.vt x.tp
  tl : x.tp.length ≤ 700
  pl : ∀ p ∈ x.l, p.length ≤ 700
  gen : 1 ≤ x.g ∧ x.g ≤ i + 1
  cnt : x.l.length ≤ i + 1
  st : HSt x.D x.g x.l x.sure x.off x.turning x.tp x.gr x.Lr x.ar
theorem HI.same {w0 w w' : World} {S i : Nat} {x : HS} (h : HI w0 w S i x) (k : Kept none0 w w') : HI w0 w' S i x :=
  ⟨h.k.tr k (fun _ _ x => x), h.nw, h.dm.same k, h.rl.same h.dm.lt k, h.len, h.wait, h.ls.mv k (fun _ _ _ x => x), h.ts.mv k (fun _ _ _ x => x), h.tl, h.pl, h.gen, h.cnt, h.st⟩
theorem HI.next {w0 w : World} {S i : Nat} {x : HS} (h : HI w0 w S i x) : HI w0 w S (i + 1) x :=
  ⟨h.k, h.nw, h.dm, h.rl, h.len, by have := h.wait; omega, h.ls, h.ts, h.tl, h.pl, by have := h.gen; omega, by have := h.cnt; omega, h.st⟩
/-- The drum and the reel are other ones; the law's own stands. -/
theorem HI.step {w0 w w' : World} {S i : Nat} {F Fr F' Fr' : Nat → Prop} {hb rb g sure gr ar sure' gr' ar' : Nat} {D D' : Dr} {l Lr Lr' : List (List UInt8)} {off turning off' turning' : Bool} {tp : List UInt8} {vl vt : Value}
    (h : HI w0 w S i ⟨F, Fr, hb, rb, D, g, l, sure, off, turning, tp, vl, vt, gr, Lr, ar⟩) (o : Own (uni F Fr) w (uni F' Fr') w') (hD : Dm w' F' hb D') (hR : Rl w' F' Fr' hb rb gr' Lr' ar') (hl : D'.l.length = D.l.length) (hw : D'.wait.length ≤ D.wait.length + 2000)
    (hs : HSt D' g l sure' off' turning' tp gr' Lr' ar') : HI w0 w' S (i + 1) ⟨F', Fr', hb, rb, D', g, l, sure', off', turning', tp, vl, vt, gr', Lr', ar'⟩ := by
  have hlen := h.len
  have hwt := h.wait
  have hg := h.gen
  have hc := h.cnt
  dsimp only at hlen hwt hg hc
  exact ⟨o.done h.k h.nw, o.newer h.k.size h.nw, hD, hR, by dsimp only; omega, by dsimp only; omega, (o.rsK h.ls).mono (fun b _ e => ⟨e.1.1, e.2⟩), (o.slK h.ts).mono (fun b _ e => ⟨e.1.1, e.2⟩), h.tl, h.pl, by dsimp only; omega, by dsimp only; omega, hs⟩

theorem T_viaC {P : Program} {f : FuncId} {R : Ending → World → Prop} {n : Nat} {k kc : List Item} {m : Fm} {w : World} {α : Type} {it : Item} (j : Nat) (hk : exitTo j k = some kc) (fm : α → Fm) (X : α → World → Prop) (nxt : ∀ x w', X x w' → T P f R n kc (fm x) w') (fin : ∀ x w', X x w' → T P f R n k (fm x) w')
    (h : ∀ k', exitTo j k' = some kc → (∀ x w', X x w' → T P f R n k' (fm x) w') → (∀ x w', X x w' → T P f R n kc (fm x) w') → T P f R n (it :: k') m w) : T P f R n (it :: k) m w := h k hk fin nxt

theorem rs_pos {w : World} {G : Nat → Prop} {v : Value} {l : List (List UInt8)} (h : RS w G v l) (hl : 0 < l.length) : ∃ b o c vs, v = .slice (some ⟨b, o, none⟩) l.length c ∧ l.length ≤ c ∧ vs.length = l.length ∧ Sl w G v 1 l.length vs ∧ Sl w G (.slice (some ⟨b, o, none⟩) l.length l.length) 1 l.length vs ∧ ∀ (j : Nat) u p, vs[j]? = some u → l[j]? = some p → BS w G u p := by
  obtain ⟨vs, h1, h2, h3⟩ := h
  rw [h1] at h2
  have h2' := h2
  obtain ⟨g1, g2, A, c, rfl, g3, g4⟩ := h2
  rcases g4 with g4 | ⟨b, o, rfl, g5, g6, g7⟩
  · omega
  · exact ⟨b, o, c, vs, rfl, g3, h1, h2', ⟨g1, g2, _, _, rfl, Nat.le_refl _, .inr ⟨b, o, rfl, g5, g6, g7⟩⟩, h3⟩

theorem mk_firm {D : Dr} {p : List UInt8} (h : On D) (h6 : 6 ≤ D.l.length ∧ D.l.length ≤ 7000) (hp : p.length ≤ 100000 ∧ ¬ zz (frm (sdr 1 0) p)) (hfit : pgs p.length ≤ hsz D) : (mkF D p).1 = 0 ∧ Firm (mkF D p).2 1 [p] ∧ (mkF D p).2.l.length = D.l.length := by
  obtain ⟨m0, m1, m2, m3, m4, m5⟩ := mkF_on h h6 hp hfit
  obtain ⟨a0, a1, a2, a3⟩ := wipe_on D.l.length 0 false D h (by omega)
  obtain ⟨W, hW⟩ : ∃ W, wipeR D.l.length 0 false D = W := ⟨_, rfl⟩
  rw [hW] at a0 a1 a2 a3
  obtain ⟨b0, b1, b2, b3, b4, b5⟩ := fl_on a1
  have hlen : (flDr W.2.2).l.length = D.l.length := by rw [b2, a2]
  have hbh := base_hsz D 1 (by omega)
  have hb2 : 2 ≤ base (flDr W.2.2) 1 := by unfold base; omega
  obtain ⟨c0, c1, c2, c3, c4, c5⟩ := begF_on (D := flDr W.2.2) 1 p b1 (by omega) (by rw [base_len hlen, hlen]; omega)
  have hM : mkF D p = begF (flDr W.2.2) 1 p := by
    rw [mkF, if_neg (by omega), rfErr_fit hp.1 (by omega), if_neg (fun e => e rfl), hW, if_neg (fun e => e a0), if_neg (fun e => e b0)]
  have hz : dv (mkF D p).2 ((1 + 1) % 2) = zeros 256 := by
    rw [m4, hM, c5, if_neg (by decide), if_neg (by omega), b4, a3, if_pos ⟨Nat.zero_le _, by omega⟩]
  exact ⟨m0, ⟨m3, m5, by decide, by rw [hz]; exact zeros_len 256, by rw [hz]; decide⟩, m2⟩

set_option maxHeartbeats 16000000 in
theorem holds_c (w : World) (Gf Ga : Nat → Prop) (va vf : Value) (first : List UInt8) (n : Nat) (acts : List HAct) (ha : Sl w Ga va 6 acts.length (acts.flatMap HAct.cells)) (hok : ∀ a ∈ acts, a.ok w) (hf : BS w Gf vf first) (hn : n < 256) (hL : Laid w) :
    Calls Tryz.prog 3 [.int .u8 n, vf, va].toArray w (Ret fun r w' => r = .bool true ∧ Kept none0 w w') := by
  have hal := ha.1
  have ha0 := ha
  obtain ⟨A, c, rfl⟩ := ha.len
  refine calls_T Tryz.func3 rfl rfl rfl ?_
  repeat (first | (with_reducible first | apply T_seq | apply T_region | apply U_nil | apply T_skip | apply T_block | apply T_inBlock | apply Cnd_t | apply Cnd_f | apply Cnd_not | apply Cnd_some | apply Cnd_none | apply Gd_nt | apply Gd_nf | apply Gd_some | apply Gd_none | apply Gd_want) | refine U_ar rfl rfl rfl (wrap_k (by simp only [wrapOk]; omega)) rfl ?_ | refine U_cv E rfl rfl rfl (wrap_k (by simp only [wrapOk]; omega)) rfl ?_ | refine U_pure E rfl rfl ?_ | refine T_exit rfl ?_ | refine T_condV rfl ?_ | refine U_guard rfl rfl ?_ | ((with_reducible refine Gd_skipT ?_ ?_); exact rfl) | ((with_reducible refine Gd_skipF ?_ ?_); exact rfl))
  refine U_call rfl rfl (Tryz.call4 _) (awake15_c w) ?_
  rintro r w1 ⟨rfl, k1⟩
  repeat (first | (with_reducible first | apply T_seq | apply T_region | apply U_nil | apply T_skip | apply T_block | apply T_inBlock | apply Cnd_t | apply Cnd_f | apply Cnd_not | apply Cnd_some | apply Cnd_none | apply Gd_nt | apply Gd_nf | apply Gd_some | apply Gd_none | apply Gd_want) | refine U_ar rfl rfl rfl (wrap_k (by simp only [wrapOk]; omega)) rfl ?_ | refine U_cv E rfl rfl rfl (wrap_k (by simp only [wrapOk]; omega)) rfl ?_ | refine U_pure E rfl rfl ?_ | refine T_exit rfl ?_ | refine T_condV rfl ?_ | refine U_guard rfl rfl ?_ | ((with_reducible refine Gd_skipT ?_ ?_); exact rfl) | ((with_reducible refine Gd_skipF ?_ ?_); exact rfl))
  refine U_run rfl rfl rfl (ro_bin (r := .int .u8 (n % 30 : Nat)) rfl rfl (by exact run_rem (y := 30) (by decide))) ?_
  repeat (first | (with_reducible first | apply T_seq | apply T_region | apply U_nil | apply T_skip | apply T_block | apply T_inBlock | apply Cnd_t | apply Cnd_f | apply Cnd_not | apply Cnd_some | apply Cnd_none | apply Gd_nt | apply Gd_nf | apply Gd_some | apply Gd_none | apply Gd_want) | refine U_ar rfl rfl rfl (wrap_k (by simp only [wrapOk]; omega)) rfl ?_ | refine U_cv E rfl rfl rfl (wrap_k (by simp only [wrapOk]; omega)) rfl ?_ | refine U_pure E rfl rfl ?_ | refine T_exit rfl ?_ | refine T_condV rfl ?_ | refine U_guard rfl rfl ?_ | ((with_reducible refine Gd_skipT ?_ ?_); exact rfl) | ((with_reducible refine Gd_skipF ?_ ?_); exact rfl))
  obtain ⟨S, hS⟩ : ∃ S : Nat, 6 + n % 30 = S := ⟨_, rfl⟩
  obtain ⟨Hf, hHf⟩ : ∃ Hf : Nat, (S - 2) / 2 = Hf := ⟨_, rfl⟩
  refine U_run rfl rfl rfl (ro_bin (r := .int .i64 (Hf : Nat)) rfl rfl (by rw [show (6 : Int) + ((n % 30 : Nat) : Int) - 2 = ((S - 2 : Nat) : Int) by omega, ← hHf]; exact run_quo (y := 2) (by decide) (wrap_i64 (by omega)))) ?_
  repeat (first | (with_reducible first | apply T_seq | apply T_region | apply U_nil | apply T_skip | apply T_block | apply T_inBlock | apply Cnd_t | apply Cnd_f | apply Cnd_not | apply Cnd_some | apply Cnd_none | apply Gd_nt | apply Gd_nf | apply Gd_some | apply Gd_none | apply Gd_want) | refine U_ar rfl rfl rfl (wrap_k (by simp only [wrapOk]; omega)) rfl ?_ | refine U_cv E rfl rfl rfl (wrap_k (by simp only [wrapOk]; omega)) rfl ?_ | refine U_pure E rfl rfl ?_ | refine T_exit rfl ?_ | refine T_condV rfl ?_ | refine U_guard rfl rfl ?_ | ((with_reducible refine Gd_skipT ?_ ?_); exact rfl) | ((with_reducible refine Gd_skipF ?_ ?_); exact rfl))
  refine U_call rfl rfl (Tryz.call5 _) (cut_c w1 _ vf first 200 (hf.mv k1 (fun _ _ _ x => x)) (by decide)) ?_
  rintro rp w2 ⟨k2, hrp⟩
  obtain ⟨P0, hP0⟩ : ∃ P, first.take (Int.toNat 200) = P := ⟨_, rfl⟩
  have lP0 : P0.length ≤ 200 := by rw [← hP0]; exact List.length_take_le _ _
  have gP0 : pgs P0.length = 1 := by unfold pgs; omega
  rw [hP0] at hrp
  have k02 : Kept none0 w w2 := k1.tr k2 (fun _ _ x => x)
  have s1 := k1.size
  have s2 := k02.size
  have hp2 : BS w2 (fun b => w.heap.size ≤ b ∧ b < w2.heap.size) rp P0 := (hrp.sl (by omega)).mono (fun b h e => ⟨by simp only [fresh] at e; omega, h⟩)
  repeat (first | (with_reducible first | apply T_seq | apply T_region | apply U_nil | apply T_skip | apply T_block | apply T_inBlock | apply Cnd_t | apply Cnd_f | apply Cnd_not | apply Cnd_some | apply Cnd_none | apply Gd_nt | apply Gd_nf | apply Gd_some | apply Gd_none | apply Gd_want) | refine U_ar rfl rfl rfl (wrap_k (by simp only [wrapOk]; omega)) rfl ?_ | refine U_cv E rfl rfl rfl (wrap_k (by simp only [wrapOk]; omega)) rfl ?_ | refine U_pure E rfl rfl ?_ | refine T_exit rfl ?_ | refine T_condV rfl ?_ | refine U_guard rfl rfl ?_ | ((with_reducible refine Gd_skipT ?_ ?_); exact rfl) | ((with_reducible refine Gd_skipF ?_ ?_); exact rfl))
  refine U_call rfl rfl (Tryz.call6 _) (new_c w2 (6 + ((n % 30 : Nat) : Int)) (by omega)) ?_
  rintro r w3 ⟨k3, hdb, rfl, hD3⟩
  have hD3 := hD3.dm
  rw [show ((6 : Int) + ((n % 30 : Nat) : Int)).toNat = S by omega] at hD3
  have k03 : Kept none0 w w3 := k02.tr k3 (fun _ _ x => x)
  have hp3 := hp2.mv k3 (fun _ _ _ x => x)
  obtain ⟨m0, hfirm, ml⟩ := mk_firm (D := drNew S) (p := P0) (drNew_on _) (by rw [drNew_len]; omega) (rec_ok (by decide) (by decide) (by omega)) (by rw [drNew_hsz]; omega)
  have hmk := make_rc w3 _ hdb _ rp P0 hD3 (hp3.mono (fun b _ e e2 => by have := e2.1; omega)) (by omega) (by simp [drNew])
  rw [drNew_len] at ml
  unfold ptr at *
  repeat (first | (with_reducible first | apply T_seq | apply T_region | apply U_nil | apply T_skip | apply T_block | apply T_inBlock | apply Cnd_t | apply Cnd_f | apply Cnd_not | apply Cnd_some | apply Cnd_none | apply Gd_nt | apply Gd_nf | apply Gd_some | apply Gd_none | apply Gd_want) | refine U_ar rfl rfl rfl (wrap_k (by simp only [wrapOk]; omega)) rfl ?_ | refine U_cv E rfl rfl rfl (wrap_k (by simp only [wrapOk]; omega)) rfl ?_ | refine U_pure E rfl rfl ?_ | refine T_exit rfl ?_ | refine T_condV rfl ?_ | refine U_guard rfl rfl ?_ | ((with_reducible refine Gd_skipT ?_ ?_); exact rfl) | ((with_reducible refine Gd_skipF ?_ ?_); exact rfl))
  refine U_call rfl rfl (Tryz.call7 _) (hmk) ?_
  rintro r w4 ⟨F4, o4, hD4, hcase⟩
  obtain ⟨_, rb, Fr4, rfl, hR4, hFr4⟩ := hcase.resolve_left (fun e => e.1 m0)
  have s3 := k3.size
  have k04 : Kept none0 w w4 := o4.done k03 (fun b e => by have := e.1; omega)
  have hn4 : ∀ b, uni F4 Fr4 b → w2.heap.size ≤ b := fun b e => e.elim (o4.newer s3 (fun b e => e.1) b) (fun e => by have := hFr4 b e; omega)
  have hp4 : BS w4 (fun b => fresh w b ∧ ¬ uni F4 Fr4 b) rp P0 := (hp3.mv o4.kept (fun b _ e e2 => by have := e2.1; omega)).mono (fun b _ e => ⟨e.1, fun e2 => by have := hn4 b e2; omega⟩)
  have hlt4 := hR4.lt2 hD4.lt
  repeat (first | (with_reducible first | apply T_seq | apply T_region | apply U_nil | apply T_skip | apply T_block | apply T_inBlock | apply Cnd_t | apply Cnd_f | apply Cnd_not | apply Cnd_some | apply Cnd_none | apply Gd_nt | apply Gd_nf | apply Gd_some | apply Gd_none | apply Gd_want) | refine U_ar rfl rfl rfl (wrap_k (by simp only [wrapOk]; omega)) rfl ?_ | refine U_cv E rfl rfl rfl (wrap_k (by simp only [wrapOk]; omega)) rfl ?_ | refine U_pure E rfl rfl ?_ | refine T_exit rfl ?_ | refine T_condV rfl ?_ | refine U_guard rfl rfl ?_ | ((with_reducible refine Gd_skipT ?_ ?_); exact rfl) | ((with_reducible refine Gd_skipF ?_ ?_); exact rfl))
  refine U_buildSlice (sz := 1) E rfl rfl rfl rfl rfl rfl rfl rfl (segs := [[rp]]) (by rw [List.map_cons, List.map_cons, bs_cells hp4]; rfl) (by simp) rfl ?_
  intro b5 w5 hn5
  have hb5 := hn5.at_
  have s04 := k04.size
  have hI5 : HI w w5 S 0 ⟨F4, Fr4, hdb, rb, (mkF (drNew S) P0).2, 1, [P0], 1, false, false, [], .slice (some ⟨b5, 0, none⟩) 1 1, .slice none 0 0, 1, [P0], pgs P0.length⟩ := by
    refine ⟨k04.tr hn5.kept (fun _ _ x => x), fun b e => by have := hn4 b e; omega, hD4.same hn5.kept, hR4.same hD4.lt hn5.kept, ml, by dsimp only; rw [hfirm.wait]; exact Nat.zero_le _, ?_, sl_nil _ _, Nat.zero_le _, fun p hp => ?_, ⟨Nat.le_refl _, Nat.le_refl _⟩, Nat.le_refl _, .inl ⟨rfl, rfl, hfirm.ri, hfirm.old, rfl, rfl, by simp [allP, lay_len]⟩⟩
    · refine ⟨[rp], rfl, (one_sl hn5.blk).mono (fun b _ (e : b = b5) => ⟨by simp only [fresh]; omega, fun e2 => by have := hlt4 b e2; omega⟩), fun j u q hu hq => ?_⟩
      match j with
      | 0 =>
        injection hu with hu
        injection hq with hq
        subst hu
        subst hq
        exact hp4.mv hn5.kept (fun _ _ _ x => x)
      | j + 1 => simp at hu
    · rw [List.mem_singleton.1 hp]; omega
  clear hp4 hp3 hp2 hmk hR4 hD4 hD3 o4 hcase
  repeat (first | (with_reducible first | apply T_seq | apply T_region | apply U_nil | apply T_skip | apply T_block | apply T_inBlock | apply Cnd_t | apply Cnd_f | apply Cnd_not | apply Cnd_some | apply Cnd_none | apply Gd_nt | apply Gd_nf | apply Gd_some | apply Gd_none | apply Gd_want) | refine U_ar rfl rfl rfl (wrap_k (by simp only [wrapOk]; omega)) rfl ?_ | refine U_cv E rfl rfl rfl (wrap_k (by simp only [wrapOk]; omega)) rfl ?_ | refine U_pure E rfl rfl ?_ | refine T_exit rfl ?_ | refine T_condV rfl ?_ | refine U_guard rfl rfl ?_ | ((with_reducible refine Gd_skipT ?_ ?_); exact rfl) | ((with_reducible refine Gd_skipF ?_ ?_); exact rfl))
  refine T_loop (α := Nat × HS × World) (fun y => [(52, .int .i64 y.1), (51, .int .i64 acts.length), (50, .slice A acts.length c), (8, .int .i64 (Hf : Nat)), (9, .pointer (some ⟨y.2.1.hb, 0, none⟩)), (11, .pointer (some ⟨y.2.1.rb, 0, none⟩)), (13, y.2.1.vl), (14, .int .i64 (y.2.1.sure : Nat)), (15, .int .u32 (y.2.1.g : Nat)), (16, .bool y.2.1.off), (17, y.2.1.vt), (18, .bool y.2.1.turning)]) (fun y => y.2.2) (fun y => acts.length - y.1)
    (fun y => y.1 ≤ acts.length ∧ y.1 ≤ 24 ∧ HI w y.2.2 S y.1 y.2.1) (0, ⟨F4, Fr4, hdb, rb, (mkF (drNew S) P0).2, 1, [P0], 1, false, false, [], .slice (some ⟨b5, 0, none⟩) 1 1, .slice none 0 0, 1, [P0], pgs P0.length⟩, w5) ⟨Nat.zero_le _, Nat.zero_le _, hI5⟩ ?hsub rfl ?_
  case hsub => exact ⟨rfl, rfl, rfl, rfl, rfl, rfl, rfl, rfl, rfl, rfl, rfl, rfl, trivial⟩
  clear hI5
  rintro ⟨i, ⟨F, Fr, hb, rb, D, g, l, sure, off, turning, tp, vl, vt, gr, Lr, ar⟩, w6⟩ ⟨hi, hi24, hx6⟩ ih
  dsimp only at hi hi24 hx6 ⊢
  repeat (first | (with_reducible first | apply T_seq | apply T_region | apply U_nil | apply T_skip | apply T_block | apply T_inBlock | apply Cnd_t | apply Cnd_f | apply Cnd_not | apply Cnd_some | apply Cnd_none | apply Gd_nt | apply Gd_nf | apply Gd_some | apply Gd_none | apply Gd_want) | refine U_ar rfl rfl rfl (wrap_k (by simp only [wrapOk]; omega)) rfl ?_ | refine U_cv E rfl rfl rfl (wrap_k (by simp only [wrapOk]; omega)) rfl ?_ | refine U_pure E rfl rfl ?_ | refine T_exit rfl ?_ | refine T_condV rfl ?_ | refine U_guard rfl rfl ?_ | ((with_reducible refine Gd_skipT ?_ ?_); exact rfl) | ((with_reducible refine Gd_skipF ?_ ?_); exact rfl))
  refine Cnd_p (fun hlt => ?_) (fun hlt => ?_)
  · have hl1 : i < acts.length := by omega
    obtain ⟨bA, oA, hAe, hseg⟩ : ∃ b o, A = some ⟨b, o, none⟩ ∧ Seg w b o (acts.flatMap HAct.cells) := by
      obtain ⟨_, _, A', c', e, _, h5⟩ := ha0
      injection e with e1 e2 e3
      subst e1
      rcases h5 with h | ⟨b, o, h1, _, _, h2⟩
      · omega
      · exact ⟨b, o, h1, h2⟩
    subst hAe
    have hseg6 := six_seg (fun _ => rfl) (hseg.mv hx6.k (fun x => x)) hl1
    obtain ⟨a, hae⟩ : ∃ a, acts[i] = a := ⟨_, rfl⟩
    rw [hae] at hseg6
    obtain ⟨hd, hap, hkp, han⟩ : a.ok w := by rw [← hae]; exact hok _ (List.getElem_mem hl1)
    repeat (first | (with_reducible first | apply T_seq | apply T_region | apply U_nil | apply T_skip | apply T_block | apply T_inBlock | apply Cnd_t | apply Cnd_f | apply Cnd_not | apply Cnd_some | apply Cnd_none | apply Gd_nt | apply Gd_nf | apply Gd_some | apply Gd_none | apply Gd_want) | refine U_ar rfl rfl rfl (wrap_k (by simp only [wrapOk]; omega)) rfl ?_ | refine U_cv E rfl rfl rfl (wrap_k (by simp only [wrapOk]; omega)) rfl ?_ | refine U_pure E rfl rfl ?_ | refine T_exit rfl ?_ | refine T_condV rfl ?_ | refine U_guard rfl rfl ?_ | ((with_reducible refine Gd_skipT ?_ ?_); exact rfl) | ((with_reducible refine Gd_skipF ?_ ?_); exact rfl))
    refine U_indexS (o' := oA + i * 6) E rfl rfl rfl rfl (by omega) (by omega) (by rw [Int.toNat_natCast]) rfl ?_
    refine U_loadA E hseg6 rfl rfl rfl rfl rfl ?_
    refine U_alloc E rfl rfl rfl ?_
    intro bq w7 hn7
    repeat (first | (with_reducible first | apply T_seq | apply T_region | apply U_nil | apply T_skip | apply T_block | apply T_inBlock | apply Cnd_t | apply Cnd_f | apply Cnd_not | apply Cnd_some | apply Cnd_none | apply Gd_nt | apply Gd_nf | apply Gd_some | apply Gd_none | apply Gd_want) | refine U_ar rfl rfl rfl (wrap_k (by simp only [wrapOk]; omega)) rfl ?_ | refine U_cv E rfl rfl rfl (wrap_k (by simp only [wrapOk]; omega)) rfl ?_ | refine U_pure E rfl rfl ?_ | refine T_exit rfl ?_ | refine T_condV rfl ?_ | refine U_guard rfl rfl ?_ | ((with_reducible refine Gd_skipT ?_ ?_); exact rfl) | ((with_reducible refine Gd_skipF ?_ ?_); exact rfl))
    refine U_storeA E hn7.blk rfl rfl rfl rfl (by decide) (by intro u hu; simp only [HAct.cells, List.mem_cons, List.not_mem_nil, or_false] at hu; rcases hu with rfl | rfl | rfl | rfl | rfl | rfl <;> first | rfl | exact bs_one hap | (obtain ⟨_, _, e⟩ := hkp.len; rw [e]; rfl)) ?_
    intro w8 hu8
    have hB8 : Blk w8 bq a.cells 38 := hu8.blk
    have e7 := hn7.at_
    have k68 : Kept none0 w6 w8 := hn7.kept.tr hu8.kept (fun j hj (e : j = bq) => by omega)
    have hx8 := hx6.same k68
    have hlt6 := hx6.rl.lt2 hx6.dm.lt
    dsimp only at hlt6
    have hbq8 : ∀ b, uni F Fr b → b < bq := fun b e => by have := hlt6 b e; omega
    repeat (first | (with_reducible first | apply T_seq | apply T_region | apply U_nil | apply T_skip | apply T_block | apply T_inBlock | apply Cnd_t | apply Cnd_f | apply Cnd_not | apply Cnd_some | apply Cnd_none | apply Gd_nt | apply Gd_nf | apply Gd_some | apply Gd_none | apply Gd_want) | refine U_ar rfl rfl rfl (wrap_k (by simp only [wrapOk]; omega)) rfl ?_ | refine U_cv E rfl rfl rfl (wrap_k (by simp only [wrapOk]; omega)) rfl ?_ | refine U_pure E rfl rfl ?_ | refine T_exit rfl ?_ | refine T_condV rfl ?_ | refine U_guard rfl rfl ?_ | ((with_reducible refine Gd_skipT ?_ ?_); exact rfl) | ((with_reducible refine Gd_skipF ?_ ?_); exact rfl))
    refine Cnd_p (fun h24 => ?_) (fun h24 => ?_)
    · repeat (first | (with_reducible first | apply T_seq | apply T_region | apply U_nil | apply T_skip | apply T_block | apply T_inBlock | apply Cnd_t | apply Cnd_f | apply Cnd_not | apply Cnd_some | apply Cnd_none | apply Gd_nt | apply Gd_nf | apply Gd_some | apply Gd_none | apply Gd_want) | refine U_ar rfl rfl rfl (wrap_k (by simp only [wrapOk]; omega)) rfl ?_ | refine U_cv E rfl rfl rfl (wrap_k (by simp only [wrapOk]; omega)) rfl ?_ | refine U_pure E rfl rfl ?_ | refine T_exit rfl ?_ | refine T_condV rfl ?_ | refine U_guard rfl rfl ?_ | ((with_reducible refine Gd_skipT ?_ ?_); exact rfl) | ((with_reducible refine Gd_skipF ?_ ?_); exact rfl))
      exact T_ret1 Tryz.func3 rfl rfl ⟨_, rfl, rfl, hx8.k⟩
    · repeat (first | (with_reducible first | apply T_seq | apply T_region | apply U_nil | apply T_skip | apply T_block | apply T_inBlock | apply Cnd_t | apply Cnd_f | apply Cnd_not | apply Cnd_some | apply Cnd_none | apply Gd_nt | apply Gd_nf | apply Gd_some | apply Gd_none | apply Gd_want) | refine U_ar rfl rfl rfl (wrap_k (by simp only [wrapOk]; omega)) rfl ?_ | refine U_cv E rfl rfl rfl (wrap_k (by simp only [wrapOk]; omega)) rfl ?_ | refine U_pure E rfl rfl ?_ | refine T_exit rfl ?_ | refine T_condV rfl ?_ | refine U_guard rfl rfl ?_ | ((with_reducible refine Gd_skipT ?_ ?_); exact rfl) | ((with_reducible refine Gd_skipF ?_ ?_); exact rfl))
      refine U_loadB E hB8 rfl rfl rfl rfl rfl ?_
      repeat (first | (with_reducible first | apply T_seq | apply T_region | apply U_nil | apply T_skip | apply T_block | apply T_inBlock | apply Cnd_t | apply Cnd_f | apply Cnd_not | apply Cnd_some | apply Cnd_none | apply Gd_nt | apply Gd_nf | apply Gd_some | apply Gd_none | apply Gd_want) | refine U_ar rfl rfl rfl (wrap_k (by simp only [wrapOk]; omega)) rfl ?_ | refine U_cv E rfl rfl rfl (wrap_k (by simp only [wrapOk]; omega)) rfl ?_ | refine U_pure E rfl rfl ?_ | refine T_exit rfl ?_ | refine T_condV rfl ?_ | refine U_guard rfl rfl ?_ | ((with_reducible refine Gd_skipT ?_ ?_); exact rfl) | ((with_reducible refine Gd_skipF ?_ ?_); exact rfl))
      refine U_loadB E hB8 rfl rfl rfl rfl rfl ?_
      repeat (first | (with_reducible first | apply T_seq | apply T_region | apply U_nil | apply T_skip | apply T_block | apply T_inBlock | apply Cnd_t | apply Cnd_f | apply Cnd_not | apply Cnd_some | apply Cnd_none | apply Gd_nt | apply Gd_nf | apply Gd_some | apply Gd_none | apply Gd_want) | refine U_ar rfl rfl rfl (wrap_k (by simp only [wrapOk]; omega)) rfl ?_ | refine U_cv E rfl rfl rfl (wrap_k (by simp only [wrapOk]; omega)) rfl ?_ | refine U_pure E rfl rfl ?_ | refine T_exit rfl ?_ | refine T_condV rfl ?_ | refine U_guard rfl rfl ?_ | ((with_reducible refine Gd_skipT ?_ ?_); exact rfl) | ((with_reducible refine Gd_skipF ?_ ?_); exact rfl))
      refine U_call rfl rfl (Tryz.call8 _) (cut15_c w8 _ a.vp a.p a.lg (hap.mv hx8.k (fun _ _ _ x => x)) hap.1) ?_
      rintro vp w9 ⟨k9, hp9⟩
      obtain ⟨p, hpe⟩ : ∃ p, cutP a.p a.lg = p := ⟨_, rfl⟩
      have lp : p.length ≤ 700 := by rw [← hpe]; exact cutP_len _ _
      rw [hpe] at hp9
      obtain ⟨Ap, cp, hvp⟩ := hp9.len
      subst hvp
      have hx9 := hx8.same k9
      have hB9 := hB8.mv k9 (fun x => x)
      have hlt9 := hx9.rl.lt2 hx9.dm.lt
      dsimp only at hlt9
      have hp9' : BS w9 (fun b => fresh w b ∧ ¬ uni F Fr b) (Value.slice Ap p.length cp) p := hp9.mono (fun b _ e => ⟨by have := hx8.k.size; simp only [fresh] at *; omega, fun e2 => by have := hbq8 b e2; have := hB8.lt; simp only [fresh] at e; omega⟩)
      have hbq9 : bq < w9.heap.size := hB9.lt
      have hbqw : w.heap.size ≤ bq := by have := hx6.k.size; omega
      clear hp9 hB8 hx8
      repeat (first | (with_reducible first | apply T_seq | apply T_region | apply U_nil | apply T_skip | apply T_block | apply T_inBlock | apply Cnd_t | apply Cnd_f | apply Cnd_not | apply Cnd_some | apply Cnd_none | apply Gd_nt | apply Gd_nf | apply Gd_some | apply Gd_none | apply Gd_want) | refine U_ar rfl rfl rfl (wrap_k (by simp only [wrapOk]; omega)) rfl ?_ | refine U_cv E rfl rfl rfl (wrap_k (by simp only [wrapOk]; omega)) rfl ?_ | refine U_pure E rfl rfl ?_ | refine T_exit rfl ?_ | refine T_condV rfl ?_ | refine U_guard rfl rfl ?_ | ((with_reducible refine Gd_skipT ?_ ?_); exact rfl) | ((with_reducible refine Gd_skipF ?_ ?_); exact rfl))
      refine U_loadB E hB9 rfl rfl rfl rfl rfl ?_
      refine U_run rfl rfl rfl (ro_bin (r := .int .u8 (a.d % 8 : Nat)) rfl rfl (by exact run_rem (y := 8) (by decide))) ?_
      obtain ⟨dd, hdd⟩ : ∃ dd, a.d % 8 = dd := ⟨_, rfl⟩
      rw [hdd]
      have hdd8 : dd < 8 := by omega
      refine U_nil ?_
      (repeat (with_reducible refine T_seq ?_))
      refine T_viaC 1 rfl (fun x : HS => [(52, .int .i64 i), (51, .int .i64 acts.length), (50, .slice (some ⟨bA, oA, none⟩) acts.length c), (8, .int .i64 (Hf : Nat)), (9, .pointer (some ⟨x.hb, 0, none⟩)), (11, .pointer (some ⟨x.rb, 0, none⟩)), (13, x.vl), (14, .int .i64 (x.sure : Nat)), (15, .int .u32 (x.g : Nat)), (16, .bool x.off), (17, x.vt), (18, .bool x.turning)]) (fun x w' => HI w w' S (i + 1) x) ?nxt ?fin ?go
      case nxt =>
        intro x w' hx
        repeat (first | (with_reducible first | apply T_seq | apply T_region | apply U_nil | apply T_skip | apply T_block | apply T_inBlock | apply Cnd_t | apply Cnd_f | apply Cnd_not | apply Cnd_some | apply Cnd_none | apply Gd_nt | apply Gd_nf | apply Gd_some | apply Gd_none | apply Gd_want) | refine U_ar rfl rfl rfl (wrap_k (by simp only [wrapOk]; omega)) rfl ?_ | refine U_cv E rfl rfl rfl (wrap_k (by simp only [wrapOk]; omega)) rfl ?_ | refine U_pure E rfl rfl ?_ | refine T_exit rfl ?_ | refine T_condV rfl ?_ | refine U_guard rfl rfl ?_ | ((with_reducible refine Gd_skipT ?_ ?_); exact rfl) | ((with_reducible refine Gd_skipF ?_ ?_); exact rfl))
        refine T.less ?_ (ih (i + 1, x, w') ⟨by omega, by omega, hx⟩ (by dsimp only; omega))
        exact ⟨rfl, rfl, rfl, rfl, rfl, rfl, rfl, rfl, rfl, rfl, rfl, rfl, trivial⟩
      case fin =>
        rintro ⟨F, Fr, hb, rb, D, g, l, sure, off, turning, tp, vl, vt, gr, Lr, ar⟩ w' hx
        dsimp only
        cases off
        · obtain ⟨ht0, hri, hold, e1, e2, e3⟩ := hx.st.on
          have hR := hx.rl
          dsimp only at hR ht0 hri hold e1 e2 e3
          rw [e1, e2, e3] at hR
          have hrc := records_c hR
          have hg := hx.gen
          have hcn := hx.cnt
          have hlen := hx.len
          dsimp only at hg hcn hlen
          have hz : hsz D = Hf := by rw [hsz, hlen]; exact hHf
          have hft := hri.fits
          rw [hz] at hft
          unfold ptr at *
          repeat (first | (with_reducible first | apply T_seq | apply T_region | apply U_nil | apply T_skip | apply T_block | apply T_inBlock | apply Cnd_t | apply Cnd_f | apply Cnd_not | apply Cnd_some | apply Cnd_none | apply Gd_nt | apply Gd_nf | apply Gd_some | apply Gd_none | apply Gd_want) | refine U_ar rfl rfl rfl (wrap_k (by simp only [wrapOk]; omega)) rfl ?_ | refine U_cv E rfl rfl rfl (wrap_k (by simp only [wrapOk]; omega)) rfl ?_ | refine U_pure E rfl rfl ?_ | refine T_exit rfl ?_ | refine T_condV rfl ?_ | refine U_guard rfl rfl ?_ | refine U_guardU rfl rfl rfl ?_ | ((with_reducible refine Gd_skipT ?_ ?_); exact rfl) | ((with_reducible refine Gd_skipF ?_ ?_); exact rfl))
          refine U_call rfl rfl (Tryz.call15 _) (hrc) ?_
          rintro r wa ⟨ka, hsa⟩
          have hSm := rsame_c wa _ _ _ _ l l hsa (hx.ls.mv ka (fun _ _ _ x => x))
          rw [decide_eq_true rfl] at hSm
          repeat (first | (with_reducible first | apply T_seq | apply T_region | apply U_nil | apply T_skip | apply T_block | apply T_inBlock | apply Cnd_t | apply Cnd_f | apply Cnd_not | apply Cnd_some | apply Cnd_none | apply Gd_nt | apply Gd_nf | apply Gd_some | apply Gd_none | apply Gd_want) | refine U_ar rfl rfl rfl (wrap_k (by simp only [wrapOk]; omega)) rfl ?_ | refine U_cv E rfl rfl rfl (wrap_k (by simp only [wrapOk]; omega)) rfl ?_ | refine U_pure E rfl rfl ?_ | refine T_exit rfl ?_ | refine T_condV rfl ?_ | refine U_guard rfl rfl ?_ | refine U_guardU rfl rfl rfl ?_ | ((with_reducible refine Gd_skipT ?_ ?_); exact rfl) | ((with_reducible refine Gd_skipF ?_ ?_); exact rfl))
          refine U_call rfl rfl (Tryz.call17 _) (hSm) ?_
          rintro r wb ⟨rfl, kb⟩
          have kwb := ka.tr kb (fun _ _ x => x)
          have hxb := hx.same kwb
          have hRb := hR.same hx.dm.lt kwb
          have hrm := room_c hRb hxb.dm (by dsimp only; omega)
          dsimp only at hrm
          rw [hz] at hrm
          unfold ptr at *
          repeat (first | (with_reducible first | apply T_seq | apply T_region | apply U_nil | apply T_skip | apply T_block | apply T_inBlock | apply Cnd_t | apply Cnd_f | apply Cnd_not | apply Cnd_some | apply Cnd_none | apply Gd_nt | apply Gd_nf | apply Gd_some | apply Gd_none | apply Gd_want) | refine U_ar rfl rfl rfl (wrap_k (by simp only [wrapOk]; omega)) rfl ?_ | refine U_cv E rfl rfl rfl (wrap_k (by simp only [wrapOk]; omega)) rfl ?_ | refine U_pure E rfl rfl ?_ | refine T_exit rfl ?_ | refine T_condV rfl ?_ | refine U_guard rfl rfl ?_ | refine U_guardU rfl rfl rfl ?_ | ((with_reducible refine Gd_skipT ?_ ?_); exact rfl) | ((with_reducible refine Gd_skipF ?_ ?_); exact rfl))
          refine U_call rfl rfl (Tryz.call22 _) (hrm) ?_
          rintro r wc ⟨rfl, kc⟩
          have hxc := hxb.same kc
          have hRc := hRb.same hxb.dm.lt kc
          have hall := rall_c wc _ g _ l (by omega) hxc.ls (by omega) (fun q hq => by have := hx.pl q hq; omega)
          repeat (first | (with_reducible first | apply T_seq | apply T_region | apply U_nil | apply T_skip | apply T_block | apply T_inBlock | apply Cnd_t | apply Cnd_f | apply Cnd_not | apply Cnd_some | apply Cnd_none | apply Gd_nt | apply Gd_nf | apply Gd_some | apply Gd_none | apply Gd_want) | refine U_ar rfl rfl rfl (wrap_k (by simp only [wrapOk]; omega)) rfl ?_ | refine U_cv E rfl rfl rfl (wrap_k (by simp only [wrapOk]; omega)) rfl ?_ | refine U_pure E rfl rfl ?_ | refine T_exit rfl ?_ | refine T_condV rfl ?_ | refine U_guard rfl rfl ?_ | refine U_guardU rfl rfl rfl ?_ | ((with_reducible refine Gd_skipT ?_ ?_); exact rfl) | ((with_reducible refine Gd_skipF ?_ ?_); exact rfl))
          refine U_call rfl rfl (Tryz.call21 _) (hall) ?_
          rintro r wd ⟨kd, ys, y1, y2, y3⟩
          obtain ⟨Ay, cy, rfl⟩ := y2.val
          have hxd := hxc.same kd
          have hRd := hRc.same hxc.dm.lt kd
          have hgd := gen_c hRd
          unfold ptr at *
          repeat (first | (with_reducible first | apply T_seq | apply T_region | apply U_nil | apply T_skip | apply T_block | apply T_inBlock | apply Cnd_t | apply Cnd_f | apply Cnd_not | apply Cnd_some | apply Cnd_none | apply Gd_nt | apply Gd_nf | apply Gd_some | apply Gd_none | apply Gd_want) | refine U_ar rfl rfl rfl (wrap_k (by simp only [wrapOk]; omega)) rfl ?_ | refine U_cv E rfl rfl rfl (wrap_k (by simp only [wrapOk]; omega)) rfl ?_ | refine U_pure E rfl rfl ?_ | refine T_exit rfl ?_ | refine T_condV rfl ?_ | refine U_guard rfl rfl ?_ | refine U_guardU rfl rfl rfl ?_ | ((with_reducible refine Gd_skipT ?_ ?_); exact rfl) | ((with_reducible refine Gd_skipF ?_ ?_); exact rfl))
          refine Gd_p (fun hne => ?_) (fun hne => ?_)
          · exfalso; omega
          · repeat (first | (with_reducible first | apply T_seq | apply T_region | apply U_nil | apply T_skip | apply T_block | apply T_inBlock | apply Cnd_t | apply Cnd_f | apply Cnd_not | apply Cnd_some | apply Cnd_none | apply Gd_nt | apply Gd_nf | apply Gd_some | apply Gd_none | apply Gd_want) | refine U_ar rfl rfl rfl (wrap_k (by simp only [wrapOk]; omega)) rfl ?_ | refine U_cv E rfl rfl rfl (wrap_k (by simp only [wrapOk]; omega)) rfl ?_ | refine U_pure E rfl rfl ?_ | refine T_exit rfl ?_ | refine T_condV rfl ?_ | refine U_guard rfl rfl ?_ | refine U_guardU rfl rfl rfl ?_ | ((with_reducible refine Gd_skipT ?_ ?_); exact rfl) | ((with_reducible refine Gd_skipF ?_ ?_); exact rfl))
            refine U_call rfl rfl (Tryz.call16 _) (hgd) ?_
            rintro r we ⟨rfl, rfl⟩
            repeat (first | (with_reducible first | apply T_seq | apply T_region | apply U_nil | apply T_skip | apply T_block | apply T_inBlock | apply Cnd_t | apply Cnd_f | apply Cnd_not | apply Cnd_some | apply Cnd_none | apply Gd_nt | apply Gd_nf | apply Gd_some | apply Gd_none | apply Gd_want) | refine U_ar rfl rfl rfl (wrap_k (by simp only [wrapOk]; omega)) rfl ?_ | refine U_cv E rfl rfl rfl (wrap_k (by simp only [wrapOk]; omega)) rfl ?_ | refine U_pure E rfl rfl ?_ | refine T_exit rfl ?_ | refine T_condV rfl ?_ | refine U_guard rfl rfl ?_ | refine U_guardU rfl rfl rfl ?_ | ((with_reducible refine Gd_skipT ?_ ?_); exact rfl) | ((with_reducible refine Gd_skipF ?_ ?_); exact rfl))
            refine Cnd_p (fun hne2 => ?_) (fun hne2 => ?_)
            · exact (hne2 rfl).elim
            · repeat (first | (with_reducible first | apply T_seq | apply T_region | apply U_nil | apply T_skip | apply T_block | apply T_inBlock | apply Cnd_t | apply Cnd_f | apply Cnd_not | apply Cnd_some | apply Cnd_none | apply Gd_nt | apply Gd_nf | apply Gd_some | apply Gd_none | apply Gd_want) | refine U_ar rfl rfl rfl (wrap_k (by simp only [wrapOk]; omega)) rfl ?_ | refine U_cv E rfl rfl rfl (wrap_k (by simp only [wrapOk]; omega)) rfl ?_ | refine U_pure E rfl rfl ?_ | refine T_exit rfl ?_ | refine T_condV rfl ?_ | refine U_guard rfl rfl ?_ | refine U_guardU rfl rfl rfl ?_ | ((with_reducible refine Gd_skipT ?_ ?_); exact rfl) | ((with_reducible refine Gd_skipF ?_ ?_); exact rfl))
              refine T.less ?_ (ih (i + 1, ⟨F, Fr, hb, rb, D, g, l, sure, false, turning, tp, vl, vt, gr, Lr, ar⟩, we) ⟨by omega, by omega, hxd⟩ (by dsimp only; omega))
              exact ⟨rfl, rfl, rfl, rfl, rfl, rfl, rfl, rfl, rfl, rfl, rfl, rfl, trivial⟩
        · repeat (first | (with_reducible first | apply T_seq | apply T_region | apply U_nil | apply T_skip | apply T_block | apply T_inBlock | apply Cnd_t | apply Cnd_f | apply Cnd_not | apply Cnd_some | apply Cnd_none | apply Gd_nt | apply Gd_nf | apply Gd_some | apply Gd_none | apply Gd_want) | refine U_ar rfl rfl rfl (wrap_k (by simp only [wrapOk]; omega)) rfl ?_ | refine U_cv E rfl rfl rfl (wrap_k (by simp only [wrapOk]; omega)) rfl ?_ | refine U_pure E rfl rfl ?_ | refine T_exit rfl ?_ | refine T_condV rfl ?_ | refine U_guard rfl rfl ?_ | refine U_guardU rfl rfl rfl ?_ | ((with_reducible refine Gd_skipT ?_ ?_); exact rfl) | ((with_reducible refine Gd_skipF ?_ ?_); exact rfl))
          refine T.less ?_ (ih (i + 1, ⟨F, Fr, hb, rb, D, g, l, sure, true, turning, tp, vl, vt, gr, Lr, ar⟩, w') ⟨by omega, by omega, hx⟩ (by dsimp only; omega))
          exact ⟨rfl, rfl, rfl, rfl, rfl, rfl, rfl, rfl, rfl, rfl, rfl, rfl, trivial⟩
      case go =>
        intro kk hkk f1 f2
        have hlen := hx9.len
        have hwait := hx9.wait
        have htl := hx9.tl
        have hpl := hx9.pl
        have hgen := hx9.gen
        have hcnt := hx9.cnt
        have hst := hx9.st
        dsimp only at hlen hwait htl hpl hgen hcnt hst
        have hs1 := hst.sure1
        have hz : hsz D = Hf := by rw [hsz, hlen]; exact hHf
        have hstay : ∀ w', Kept none0 w9 w' → HI w w' S (i + 1) ⟨F, Fr, hb, rb, D, g, l, sure, off, turning, tp, vl, vt, gr, Lr, ar⟩ := fun w' k => (hx9.same k).next
        refine T_block ?_
        repeat (first | (with_reducible first | apply T_seq | apply T_region | apply U_nil | apply T_skip | apply T_block | apply T_inBlock | apply Cnd_t | apply Cnd_f | apply Cnd_not | apply Cnd_some | apply Cnd_none | apply Gd_nt | apply Gd_nf | apply Gd_some | apply Gd_none | apply Gd_want) | refine U_ar rfl rfl rfl (wrap_k (by simp only [wrapOk]; omega)) rfl ?_ | refine U_cv E rfl rfl rfl (wrap_k (by simp only [wrapOk]; omega)) rfl ?_ | refine U_pure E rfl rfl ?_ | refine T_exit rfl ?_ | refine T_condV rfl ?_ | refine U_guard rfl rfl ?_ | ((with_reducible refine Gd_skipT ?_ ?_); exact rfl) | ((with_reducible refine Gd_skipF ?_ ?_); exact rfl))
        refine Cnd_p (fun h3 => ?_) (fun h3 => ?_)
        · -- a flush
          have hfl := rflush_c hx9.rl hx9.dm
          have hfw := flDr_wait D
          have hfl2 := flDr_len D
          dsimp only at hfl
          unfold ptr at *
          repeat (first | (with_reducible first | apply T_seq | apply T_region | apply U_nil | apply T_skip | apply T_block | apply T_inBlock | apply Cnd_t | apply Cnd_f | apply Cnd_not | apply Cnd_some | apply Cnd_none | apply Gd_nt | apply Gd_nf | apply Gd_some | apply Gd_none | apply Gd_want) | refine U_ar rfl rfl rfl (wrap_k (by simp only [wrapOk]; omega)) rfl ?_ | refine U_cv E rfl rfl rfl (wrap_k (by simp only [wrapOk]; omega)) rfl ?_ | refine U_pure E rfl rfl ?_ | refine T_exit rfl ?_ | refine T_condV rfl ?_ | refine U_guard rfl rfl ?_ | ((with_reducible refine Gd_skipT ?_ ?_); exact rfl) | ((with_reducible refine Gd_skipF ?_ ?_); exact rfl))
          refine U_call rfl rfl (Tryz.call9 _) (hfl) ?_
          rintro r w10 ⟨rfl, F3, o3, hD3, hR3⟩
          have ob := o3.both hx9.rl.lt
          rcases fl_err D with ⟨e1, e2, e3⟩ | ⟨e1, e2, e3⟩
          · rw [e1]
            cases off
            · have hI := hx9.step ob hD3 hR3 hfl2 (by omega) (hst.flush_on e2)
              obtain ⟨bl, ol, cl, us, hvl, _⟩ := rs_pos hx9.ls (by dsimp only; omega)
              dsimp only at hvl
              subst hvl
              unfold errV
              repeat (first | (with_reducible first | apply T_seq | apply T_region | apply U_nil | apply T_skip | apply T_block | apply T_inBlock | apply Cnd_t | apply Cnd_f | apply Cnd_not | apply Cnd_some | apply Cnd_none | apply Gd_nt | apply Gd_nf | apply Gd_some | apply Gd_none | apply Gd_want) | refine U_ar rfl rfl rfl (wrap_k (by simp only [wrapOk]; omega)) rfl ?_ | refine U_cv E rfl rfl rfl (wrap_k (by simp only [wrapOk]; omega)) rfl ?_ | refine U_pure E rfl rfl ?_ | refine T_exit rfl ?_ | refine T_condV rfl ?_ | refine U_guard rfl rfl ?_ | refine U_guardU rfl rfl rfl ?_ | ((with_reducible refine Gd_skipT ?_ ?_); exact rfl) | ((with_reducible refine Gd_skipF ?_ ?_); exact rfl))
              refine T.less ?_ (f1 _ w10 hI)
              exact ⟨rfl, rfl, rfl, rfl, rfl, rfl, rfl, rfl, rfl, rfl, rfl, rfl, trivial⟩
            · have hI := hx9.step ob hD3 hR3 hfl2 (by omega) (hst.flush_off (.inl rfl))
              unfold errV
              repeat (first | (with_reducible first | apply T_seq | apply T_region | apply U_nil | apply T_skip | apply T_block | apply T_inBlock | apply Cnd_t | apply Cnd_f | apply Cnd_not | apply Cnd_some | apply Cnd_none | apply Gd_nt | apply Gd_nf | apply Gd_some | apply Gd_none | apply Gd_want) | refine U_ar rfl rfl rfl (wrap_k (by simp only [wrapOk]; omega)) rfl ?_ | refine U_cv E rfl rfl rfl (wrap_k (by simp only [wrapOk]; omega)) rfl ?_ | refine U_pure E rfl rfl ?_ | refine T_exit rfl ?_ | refine T_condV rfl ?_ | refine U_guard rfl rfl ?_ | refine U_guardU rfl rfl rfl ?_ | ((with_reducible refine Gd_skipT ?_ ?_); exact rfl) | ((with_reducible refine Gd_skipF ?_ ?_); exact rfl))
              refine T.less ?_ (f1 _ w10 hI)
              exact ⟨rfl, rfl, rfl, rfl, rfl, rfl, rfl, rfl, rfl, rfl, rfl, rfl, trivial⟩
          · rw [e1]
            have hI := hx9.step ob hD3 hR3 hfl2 (by omega) (hst.flush_off (.inr e2))
            unfold errV
            cases off
            · repeat (first | (with_reducible first | apply T_seq | apply T_region | apply U_nil | apply T_skip | apply T_block | apply T_inBlock | apply Cnd_t | apply Cnd_f | apply Cnd_not | apply Cnd_some | apply Cnd_none | apply Gd_nt | apply Gd_nf | apply Gd_some | apply Gd_none | apply Gd_want) | refine U_ar rfl rfl rfl (wrap_k (by simp only [wrapOk]; omega)) rfl ?_ | refine U_cv E rfl rfl rfl (wrap_k (by simp only [wrapOk]; omega)) rfl ?_ | refine U_pure E rfl rfl ?_ | refine T_exit rfl ?_ | refine T_condV rfl ?_ | refine U_guard rfl rfl ?_ | refine U_guardU rfl rfl rfl ?_ | ((with_reducible refine Gd_skipT ?_ ?_); exact rfl) | ((with_reducible refine Gd_skipF ?_ ?_); exact rfl))
              refine T.less ?_ (f1 _ w10 hI)
              exact ⟨rfl, rfl, rfl, rfl, rfl, rfl, rfl, rfl, rfl, rfl, rfl, rfl, trivial⟩
            · repeat (first | (with_reducible first | apply T_seq | apply T_region | apply U_nil | apply T_skip | apply T_block | apply T_inBlock | apply Cnd_t | apply Cnd_f | apply Cnd_not | apply Cnd_some | apply Cnd_none | apply Gd_nt | apply Gd_nf | apply Gd_some | apply Gd_none | apply Gd_want) | refine U_ar rfl rfl rfl (wrap_k (by simp only [wrapOk]; omega)) rfl ?_ | refine U_cv E rfl rfl rfl (wrap_k (by simp only [wrapOk]; omega)) rfl ?_ | refine U_pure E rfl rfl ?_ | refine T_exit rfl ?_ | refine T_condV rfl ?_ | refine U_guard rfl rfl ?_ | refine U_guardU rfl rfl rfl ?_ | ((with_reducible refine Gd_skipT ?_ ?_); exact rfl) | ((with_reducible refine Gd_skipF ?_ ?_); exact rfl))
              refine T.less ?_ (f1 _ w10 hI)
              exact ⟨rfl, rfl, rfl, rfl, rfl, rfl, rfl, rfl, rfl, rfl, rfl, rfl, trivial⟩
        · repeat (first | (with_reducible first | apply T_seq | apply T_region | apply U_nil | apply T_skip | apply T_block | apply T_inBlock | apply Cnd_t | apply Cnd_f | apply Cnd_not | apply Cnd_some | apply Cnd_none | apply Gd_nt | apply Gd_nf | apply Gd_some | apply Gd_none | apply Gd_want) | refine U_ar rfl rfl rfl (wrap_k (by simp only [wrapOk]; omega)) rfl ?_ | refine U_cv E rfl rfl rfl (wrap_k (by simp only [wrapOk]; omega)) rfl ?_ | refine U_pure E rfl rfl ?_ | refine T_exit rfl ?_ | refine T_condV rfl ?_ | refine U_guard rfl rfl ?_ | ((with_reducible refine Gd_skipT ?_ ?_); exact rfl) | ((with_reducible refine Gd_skipF ?_ ?_); exact rfl))
          refine Cnd_p (fun h4 => ?_) (fun h4 => ?_)
          · -- a turn
            cases off
            · obtain ⟨ht0, hri, hold, e1, e2, e3⟩ := hst.on
              have hR := hx9.rl
              dsimp only at hR
              rw [e1, e2, e3] at hR
              have htn := rturn_c (Value.slice Ap p.length cp) p hR hx9.dm (by dsimp only; omega) (hp9'.mono (fun b _ e => e.2)) (by omega) (by dsimp only; omega)
              have htw := trF_wait D g p
              dsimp only at htn
              unfold ptr at *
              repeat (first | (with_reducible first | apply T_seq | apply T_region | apply U_nil | apply T_skip | apply T_block | apply T_inBlock | apply Cnd_t | apply Cnd_f | apply Cnd_not | apply Cnd_some | apply Cnd_none | apply Gd_nt | apply Gd_nf | apply Gd_some | apply Gd_none | apply Gd_want) | refine U_ar rfl rfl rfl (wrap_k (by simp only [wrapOk]; omega)) rfl ?_ | refine U_cv E rfl rfl rfl (wrap_k (by simp only [wrapOk]; omega)) rfl ?_ | refine U_pure E rfl rfl ?_ | refine T_exit rfl ?_ | refine T_condV rfl ?_ | refine U_guard rfl rfl ?_ | ((with_reducible refine Gd_skipT ?_ ?_); exact rfl) | ((with_reducible refine Gd_skipF ?_ ?_); exact rfl))
              refine U_call rfl rfl (Tryz.call10 _) (htn) ?_
              rintro r w10 ⟨rfl, F3, Fr3, o3, hD3, hR3⟩
              repeat (first | (with_reducible first | apply T_seq | apply T_region | apply U_nil | apply T_skip | apply T_block | apply T_inBlock | apply Cnd_t | apply Cnd_f | apply Cnd_not | apply Cnd_some | apply Cnd_none | apply Gd_nt | apply Gd_nf | apply Gd_some | apply Gd_none | apply Gd_want) | refine U_ar rfl rfl rfl (wrap_k (by simp only [wrapOk]; omega)) rfl ?_ | refine U_cv E rfl rfl rfl (wrap_k (by simp only [wrapOk]; omega)) rfl ?_ | refine U_pure E rfl rfl ?_ | refine T_exit rfl ?_ | refine T_condV rfl ?_ | refine U_guard rfl rfl ?_ | ((with_reducible refine Gd_skipT ?_ ?_); exact rfl) | ((with_reducible refine Gd_skipF ?_ ?_); exact rfl))
              refine U_call rfl rfl (Tryz.call11 _) (rpages_c w10 p.length (by omega)) ?_
              rintro r w11 ⟨rfl, rfl⟩
              have hp4 : BS w11 (fun b => fresh w b ∧ ¬ uni F3 Fr3 b) (Value.slice Ap p.length cp) p := (o3.slK hp9').mono (fun b _ e => ⟨e.1.1, e.2⟩)
              repeat (first | (with_reducible first | apply T_seq | apply T_region | apply U_nil | apply T_skip | apply T_block | apply T_inBlock | apply Cnd_t | apply Cnd_f | apply Cnd_not | apply Cnd_some | apply Cnd_none | apply Gd_nt | apply Gd_nf | apply Gd_some | apply Gd_none | apply Gd_want) | refine U_ar rfl rfl rfl (wrap_k (by simp only [wrapOk]; omega)) rfl ?_ | refine U_cv E rfl rfl rfl (wrap_k (by simp only [wrapOk]; omega)) rfl ?_ | refine U_pure E rfl rfl ?_ | refine T_exit rfl ?_ | refine T_condV rfl ?_ | refine U_guard rfl rfl ?_ | ((with_reducible refine Gd_skipT ?_ ?_); exact rfl) | ((with_reducible refine Gd_skipF ?_ ?_); exact rfl))
              refine Cnd_p (fun hgt => ?_) (fun hgt => ?_)
              · have hT : trF D g p = (6, D) := by rw [trF, rfErr_full (by omega) (by omega), if_pos (by decide)]
                rw [hT] at hD3 hR3 ⊢
                dsimp only at hD3 hR3 ⊢
                rw [if_neg (by decide), if_neg (by decide), if_neg (by decide)] at hR3
                have hI := hx9.step o3 hD3 hR3 rfl (by omega) (.inl ⟨rfl, ht0, hri, hold, rfl, rfl, rfl⟩)
                repeat (first | (with_reducible first | apply T_seq | apply T_region | apply U_nil | apply T_skip | apply T_block | apply T_inBlock | apply Cnd_t | apply Cnd_f | apply Cnd_not | apply Cnd_some | apply Cnd_none | apply Gd_nt | apply Gd_nf | apply Gd_some | apply Gd_none | apply Gd_want) | refine U_ar rfl rfl rfl (wrap_k (by simp only [wrapOk]; omega)) rfl ?_ | refine U_cv E rfl rfl rfl (wrap_k (by simp only [wrapOk]; omega)) rfl ?_ | refine U_pure E rfl rfl ?_ | refine T_exit rfl ?_ | refine T_condV rfl ?_ | refine U_guard rfl rfl ?_ | ((with_reducible refine Gd_skipT ?_ ?_); exact rfl) | ((with_reducible refine Gd_skipF ?_ ?_); exact rfl))
                refine U_call rfl rfl (Tryz.call12 _) (code_c w11 6 (hL.mv hI.k (fun x => x))) ?_
                rintro r w12 ⟨rfl, k12⟩
                repeat (first | (with_reducible first | apply T_seq | apply T_region | apply U_nil | apply T_skip | apply T_block | apply T_inBlock | apply Cnd_t | apply Cnd_f | apply Cnd_not | apply Cnd_some | apply Cnd_none | apply Gd_nt | apply Gd_nf | apply Gd_some | apply Gd_none | apply Gd_want) | refine U_ar rfl rfl rfl (wrap_k (by simp only [wrapOk]; omega)) rfl ?_ | refine U_cv E rfl rfl rfl (wrap_k (by simp only [wrapOk]; omega)) rfl ?_ | refine U_pure E rfl rfl ?_ | refine T_exit rfl ?_ | refine T_condV rfl ?_ | refine U_guard rfl rfl ?_ | ((with_reducible refine Gd_skipT ?_ ?_); exact rfl) | ((with_reducible refine Gd_skipF ?_ ?_); exact rfl))
                refine Cnd_b (fun e => absurd e (by decide)) (fun _ => ?_)
                repeat (first | (with_reducible first | apply T_seq | apply T_region | apply U_nil | apply T_skip | apply T_block | apply T_inBlock | apply Cnd_t | apply Cnd_f | apply Cnd_not | apply Cnd_some | apply Cnd_none | apply Gd_nt | apply Gd_nf | apply Gd_some | apply Gd_none | apply Gd_want) | refine U_ar rfl rfl rfl (wrap_k (by simp only [wrapOk]; omega)) rfl ?_ | refine U_cv E rfl rfl rfl (wrap_k (by simp only [wrapOk]; omega)) rfl ?_ | refine U_pure E rfl rfl ?_ | refine T_exit rfl ?_ | refine T_condV rfl ?_ | refine U_guard rfl rfl ?_ | ((with_reducible refine Gd_skipT ?_ ?_); exact rfl) | ((with_reducible refine Gd_skipF ?_ ?_); exact rfl))
                refine T.less ?_ (f1 _ w12 (hI.same k12))
                exact ⟨rfl, rfl, rfl, rfl, rfl, rfl, rfl, rfl, rfl, rfl, rfl, rfl, trivial⟩
              · have hrok := rec_ok (g := g + 1) (i := 0) (p := p) (by omega) (by decide) (by omega)
                have hls3 := o3.rsK hx9.ls
                have hts3 := o3.slK hx9.ts
                rcases tr_safe hri hold (by omega) hrok (by omega) with ⟨t0, tF⟩ | ⟨t8, tO⟩
                · rw [t0] at hR3 ⊢
                  rw [if_pos rfl, if_pos rfl, if_pos rfl] at hR3
                  unfold errV
                  repeat (first | (with_reducible first | apply T_seq | apply T_region | apply U_nil | apply T_skip | apply T_block | apply T_inBlock | apply Cnd_t | apply Cnd_f | apply Cnd_not | apply Cnd_some | apply Cnd_none | apply Gd_nt | apply Gd_nf | apply Gd_some | apply Gd_none | apply Gd_want) | refine U_ar rfl rfl rfl (wrap_k (by simp only [wrapOk]; omega)) rfl ?_ | refine U_cv E rfl rfl rfl (wrap_k (by simp only [wrapOk]; omega)) rfl ?_ | refine U_pure E rfl rfl ?_ | refine T_exit rfl ?_ | refine T_condV rfl ?_ | refine U_guard rfl rfl ?_ | ((with_reducible refine Gd_skipT ?_ ?_); exact rfl) | ((with_reducible refine Gd_skipF ?_ ?_); exact rfl))
                  refine U_buildSlice (sz := 1) E rfl rfl rfl rfl rfl rfl rfl rfl (segs := [[(Value.slice Ap p.length cp)]]) (by rw [List.map_cons, List.map_cons, bs_cells hp4]; rfl) (by simp) rfl ?_
                  intro b12 w12 hn12
                  have e12 := hn12.at_
                  have hlt11 := hR3.lt2 hD3.lt
                  have k011 : Kept none0 w w11 := o3.done hx9.k hx9.nw
                  have s011 := k011.size
                  have hI : HI w w12 S (i + 1) ⟨F3, Fr3, hb, rb, (trF D g p).2, g + 1, [p], 1, false, turning, tp, .slice (some ⟨b12, 0, none⟩) 1 1, vt, g + 1, [p], pgs p.length⟩ := by
                    refine ⟨k011.tr hn12.kept (fun _ _ x => x), o3.newer hx9.k.size hx9.nw, hD3.same hn12.kept, hR3.same hD3.lt hn12.kept, by dsimp only; omega, by dsimp only; omega, ?_, (hts3.mono (fun b _ e => ⟨e.1.1, e.2⟩)).mv hn12.kept (fun _ _ _ x => x), htl, fun q hq => ?_, by dsimp only; omega, by dsimp only; rw [List.length_singleton]; omega, .inl ⟨rfl, ht0, tF.ri, tF.old, rfl, rfl, by simp [allP, lay_len]⟩⟩
                    · refine ⟨[(Value.slice Ap p.length cp)], rfl, (one_sl hn12.blk).mono (fun b _ (e : b = b12) => ⟨by simp only [fresh]; omega, fun e2 => by have := hlt11 b e2; omega⟩), fun j u q hu hq => ?_⟩
                      match j with
                      | 0 =>
                        injection hu with hu
                        injection hq with hq
                        subst hu
                        subst hq
                        exact hp4.mv hn12.kept (fun _ _ _ x => x)
                      | j + 1 => simp at hu
                    · rw [List.mem_singleton.1 hq]; omega
                  repeat (first | (with_reducible first | apply T_seq | apply T_region | apply U_nil | apply T_skip | apply T_block | apply T_inBlock | apply Cnd_t | apply Cnd_f | apply Cnd_not | apply Cnd_some | apply Cnd_none | apply Gd_nt | apply Gd_nf | apply Gd_some | apply Gd_none | apply Gd_want) | refine U_ar rfl rfl rfl (wrap_k (by simp only [wrapOk]; omega)) rfl ?_ | refine U_cv E rfl rfl rfl (wrap_k (by simp only [wrapOk]; omega)) rfl ?_ | refine U_pure E rfl rfl ?_ | refine T_exit rfl ?_ | refine T_condV rfl ?_ | refine U_guard rfl rfl ?_ | ((with_reducible refine Gd_skipT ?_ ?_); exact rfl) | ((with_reducible refine Gd_skipF ?_ ?_); exact rfl))
                  refine T.less ?_ (f1 _ w12 hI)
                  exact ⟨rfl, rfl, rfl, rfl, rfl, rfl, rfl, rfl, rfl, rfl, rfl, rfl, trivial⟩
                · rw [t8] at hR3 ⊢
                  rw [if_neg (by decide), if_neg (by decide), if_neg (by decide)] at hR3
                  have hst' : HSt (trF D g p).2 g l sure true true p g l (allP g 0 l).length := tO.elim (fun e => .inr (.inl ⟨rfl, e⟩)) (fun e => .inr (.inr (.inl ⟨rfl, rfl, e, hs1⟩)))
                  have hI : HI w w11 S (i + 1) ⟨F3, Fr3, hb, rb, (trF D g p).2, g, l, sure, true, true, p, vl, (Value.slice Ap p.length cp), g, l, (allP g 0 l).length⟩ :=
                    ⟨o3.done hx9.k hx9.nw, o3.newer hx9.k.size hx9.nw, hD3, hR3, by dsimp only; omega, by dsimp only; omega, hls3.mono (fun b _ e => ⟨e.1.1, e.2⟩), hp4, lp, hpl, by dsimp only; omega, by dsimp only; omega, hst'⟩
                  unfold errV
                  repeat (first | (with_reducible first | apply T_seq | apply T_region | apply U_nil | apply T_skip | apply T_block | apply T_inBlock | apply Cnd_t | apply Cnd_f | apply Cnd_not | apply Cnd_some | apply Cnd_none | apply Gd_nt | apply Gd_nf | apply Gd_some | apply Gd_none | apply Gd_want) | refine U_ar rfl rfl rfl (wrap_k (by simp only [wrapOk]; omega)) rfl ?_ | refine U_cv E rfl rfl rfl (wrap_k (by simp only [wrapOk]; omega)) rfl ?_ | refine U_pure E rfl rfl ?_ | refine T_exit rfl ?_ | refine T_condV rfl ?_ | refine U_guard rfl rfl ?_ | ((with_reducible refine Gd_skipT ?_ ?_); exact rfl) | ((with_reducible refine Gd_skipF ?_ ?_); exact rfl))
                  refine T.less ?_ (f1 _ w11 hI)
                  exact ⟨rfl, rfl, rfl, rfl, rfl, rfl, rfl, rfl, rfl, rfl, rfl, rfl, trivial⟩
            · repeat (first | (with_reducible first | apply T_seq | apply T_region | apply U_nil | apply T_skip | apply T_block | apply T_inBlock | apply Cnd_t | apply Cnd_f | apply Cnd_not | apply Cnd_some | apply Cnd_none | apply Gd_nt | apply Gd_nf | apply Gd_some | apply Gd_none | apply Gd_want) | refine U_ar rfl rfl rfl (wrap_k (by simp only [wrapOk]; omega)) rfl ?_ | refine U_cv E rfl rfl rfl (wrap_k (by simp only [wrapOk]; omega)) rfl ?_ | refine U_pure E rfl rfl ?_ | refine T_exit rfl ?_ | refine T_condV rfl ?_ | refine U_guard rfl rfl ?_ | ((with_reducible refine Gd_skipT ?_ ?_); exact rfl) | ((with_reducible refine Gd_skipF ?_ ?_); exact rfl))
              refine T_exit hkk ?_
              refine T.less ?_ (f2 _ w9 (hstay w9 (Kept.refl _ _)))
              exact ⟨rfl, rfl, rfl, rfl, rfl, rfl, rfl, rfl, rfl, rfl, rfl, rfl, trivial⟩
          · repeat (first | (with_reducible first | apply T_seq | apply T_region | apply U_nil | apply T_skip | apply T_inBlock | apply Gd_nt | apply Gd_nf | apply Gd_some | apply Gd_none | apply Gd_want) | refine U_ar rfl rfl rfl (wrap_i64 (by omega)) rfl ?_ | refine U_pure E rfl rfl ?_ | refine T_exit rfl ?_ | refine U_guard rfl rfl ?_ | ((with_reducible refine Gd_skipT ?_ ?_); exact rfl) | ((with_reducible refine Gd_skipF ?_ ?_); exact rfl))
            refine T_viaE 1 hkk (α := Unit) (fun _ => [(147, .bool (decide (dd = 5 ∨ dd = 6))), (20, .pointer (some ⟨bq, 0, none⟩)), (21, (Value.slice Ap p.length cp)), (66, .int .u8 (dd : Nat)), (52, .int .i64 i), (51, .int .i64 acts.length), (50, .slice (some ⟨bA, oA, none⟩) acts.length c), (8, .int .i64 (Hf : Nat)), (9, .pointer (some ⟨hb, 0, none⟩)), (11, .pointer (some ⟨rb, 0, none⟩)), (13, vl), (14, .int .i64 (sure : Nat)), (15, .int .u32 (g : Nat)), (16, .bool off), (17, vt), (18, .bool turning)])
              (fun _ w' => w' = w9) ?fin1 ?go1
            case go1 =>
              intro k1 hk1 g1
              repeat (first | (with_reducible first | apply T_seq | apply T_region | apply U_nil | apply T_skip | apply T_block | apply T_inBlock | apply Cnd_t | apply Cnd_f | apply Cnd_not | apply Cnd_some | apply Cnd_none | apply Gd_nt | apply Gd_nf | apply Gd_some | apply Gd_none | apply Gd_want) | refine U_ar rfl rfl rfl (wrap_k (by simp only [wrapOk]; omega)) rfl ?_ | refine U_cv E rfl rfl rfl (wrap_k (by simp only [wrapOk]; omega)) rfl ?_ | refine U_pure E rfl rfl ?_ | refine T_exit rfl ?_ | refine T_condV rfl ?_ | refine U_guard rfl rfl ?_ | ((with_reducible refine Gd_skipT ?_ ?_); exact rfl) | ((with_reducible refine Gd_skipF ?_ ?_); exact rfl))
              refine Cnd_p (fun h5 => ?_) (fun h5 => ?_)
              · repeat (first | (with_reducible first | apply T_seq | apply T_region | apply U_nil | apply T_skip | apply T_block | apply T_inBlock | apply Cnd_t | apply Cnd_f | apply Cnd_not | apply Cnd_some | apply Cnd_none | apply Gd_nt | apply Gd_nf | apply Gd_some | apply Gd_none | apply Gd_want) | refine U_ar rfl rfl rfl (wrap_k (by simp only [wrapOk]; omega)) rfl ?_ | refine U_cv E rfl rfl rfl (wrap_k (by simp only [wrapOk]; omega)) rfl ?_ | refine U_pure E rfl rfl ?_ | refine T_exit rfl ?_ | refine T_condV rfl ?_ | refine U_guard rfl rfl ?_ | ((with_reducible refine Gd_skipT ?_ ?_); exact rfl) | ((with_reducible refine Gd_skipF ?_ ?_); exact rfl))
                refine T.less ?_ (g1 () w9 rfl)
                exact ⟨by rw [decide_eq_true (show dd = 5 ∨ dd = 6 by omega)]; exact congrArg (fun b => some (Value.bool b)) (decide_eq_true h5), rfl, rfl, rfl, rfl, rfl, rfl, rfl, rfl, rfl, rfl, rfl, rfl, rfl, rfl, rfl, trivial⟩
              · repeat (first | (with_reducible first | apply T_seq | apply T_region | apply U_nil | apply T_skip | apply T_block | apply T_inBlock | apply Cnd_t | apply Cnd_f | apply Cnd_not | apply Cnd_some | apply Cnd_none | apply Gd_nt | apply Gd_nf | apply Gd_some | apply Gd_none | apply Gd_want) | refine U_ar rfl rfl rfl (wrap_k (by simp only [wrapOk]; omega)) rfl ?_ | refine U_cv E rfl rfl rfl (wrap_k (by simp only [wrapOk]; omega)) rfl ?_ | refine U_pure E rfl rfl ?_ | refine T_exit rfl ?_ | refine T_condV rfl ?_ | refine U_guard rfl rfl ?_ | ((with_reducible refine Gd_skipT ?_ ?_); exact rfl) | ((with_reducible refine Gd_skipF ?_ ?_); exact rfl))
                refine T.less ?_ (g1 () w9 rfl)
                refine ⟨?_, rfl, rfl, rfl, rfl, rfl, rfl, rfl, rfl, rfl, rfl, rfl, rfl, rfl, rfl, rfl, trivial⟩
                exact congrArg (fun b => some (Value.bool b)) (decide_eq_decide.2 (by omega))
            case fin1 =>
              rintro ⟨⟩ w' hw'
              have hw2 := hw'.symm
              subst hw2
              repeat (first | (with_reducible first | apply T_seq | apply T_region | apply U_nil | apply T_skip | apply T_block | apply T_inBlock | apply Cnd_t | apply Cnd_f | apply Cnd_not | apply Cnd_some | apply Cnd_none | apply Gd_nt | apply Gd_nf | apply Gd_some | apply Gd_none | apply Gd_want) | refine U_ar rfl rfl rfl (wrap_k (by simp only [wrapOk]; omega)) rfl ?_ | refine U_cv E rfl rfl rfl (wrap_k (by simp only [wrapOk]; omega)) rfl ?_ | refine U_pure E rfl rfl ?_ | refine T_exit rfl ?_ | refine T_condV rfl ?_ | refine U_guard rfl rfl ?_ | ((with_reducible refine Gd_skipT ?_ ?_); exact rfl) | ((with_reducible refine Gd_skipF ?_ ?_); exact rfl))
              refine Cnd_p (fun h56 => ?_) (fun h56 => ?_)
              · -- a fall, or Open again
                repeat (first | (with_reducible first | apply T_seq | apply T_region | apply U_nil | apply T_skip | apply T_inBlock | apply Gd_nt | apply Gd_nf | apply Gd_some | apply Gd_none | apply Gd_want) | refine U_ar rfl rfl rfl (wrap_i64 (by omega)) rfl ?_ | refine U_pure E rfl rfl ?_ | refine T_exit rfl ?_ | refine U_guard rfl rfl ?_ | ((with_reducible refine Gd_skipT ?_ ?_); exact rfl) | ((with_reducible refine Gd_skipF ?_ ?_); exact rfl))
                refine U_loadB E hB9 rfl rfl rfl rfl rfl ?_
                refine U_run rfl rfl rfl (ro_bin (r := .int .u8 (dd : Nat)) rfl rfl (by rw [← hdd]; exact run_rem (y := 8) (by decide))) ?_
                repeat (first | (with_reducible first | apply T_seq | apply T_region | apply U_nil | apply T_skip | apply T_inBlock | apply Gd_nt | apply Gd_nf | apply Gd_some | apply Gd_none | apply Gd_want) | refine U_ar rfl rfl rfl (wrap_i64 (by omega)) rfl ?_ | refine U_pure E rfl rfl ?_ | refine T_exit rfl ?_ | refine U_guard rfl rfl ?_ | ((with_reducible refine Gd_skipT ?_ ?_); exact rfl) | ((with_reducible refine Gd_skipF ?_ ?_); exact rfl))
                refine T_viaE 1 hkk (α := (Nat → Prop) × Nat × Dr × Nat × List (List UInt8) × Nat) (fun x => [(20, .pointer (some ⟨bq, 0, none⟩)), (52, .int .i64 i), (51, .int .i64 acts.length), (50, .slice (some ⟨bA, oA, none⟩) acts.length c), (8, .int .i64 (Hf : Nat)), (9, .pointer (some ⟨x.2.1, 0, none⟩)), (11, .pointer (some ⟨rb, 0, none⟩)), (13, vl), (14, .int .i64 (sure : Nat)), (15, .int .u32 (g : Nat)), (16, .bool off), (17, vt), (18, .bool turning)])
                  (fun x w' => Kept none0 w9 w' ∧ (∀ b, x.1 b → w.heap.size ≤ b) ∧ ¬ x.1 bq ∧ Dm w' x.1 x.2.1 x.2.2.1 ∧ x.2.2.1.l.length = S ∧ x.2.2.1.wait.length ≤ 2000 * i ∧ Fnd x.2.2.1 g l sure turning tp x.2.2.2.1 x.2.2.2.2.1 x.2.2.2.2.2 ∧
                    RS w' (fun b => fresh w b ∧ ¬ x.1 b) vl l ∧ BS w' (fun b => fresh w b ∧ ¬ x.1 b) vt tp ∧ (dd = 5 → x.2.2.2.2.2 = x.2.2.2.2.1.length) ∧ (dd ≠ 5 → off = false ∧ x.2.2.2.1 = g ∧ x.2.2.2.2.1 = l ∧ x.2.2.2.2.2 = sure)) ?fin2 ?go2
                case go2 =>
                  intro k2 hk2 g2
                  refine T_condV rfl ?_
                  refine Cnd_p (fun h5 => ?_) (fun h5 => ?_)
                  · repeat (first | (with_reducible first | apply T_seq | apply T_region | apply U_nil | apply T_skip | apply T_block | apply T_inBlock | apply Cnd_t | apply Cnd_f | apply Cnd_not | apply Cnd_some | apply Cnd_none | apply Gd_nt | apply Gd_nf | apply Gd_some | apply Gd_none | apply Gd_want) | refine U_ar rfl rfl rfl (wrap_k (by simp only [wrapOk]; omega)) rfl ?_ | refine U_cv E rfl rfl rfl (wrap_k (by simp only [wrapOk]; omega)) rfl ?_ | refine U_pure E rfl rfl ?_ | refine T_exit rfl ?_ | refine T_condV rfl ?_ | refine U_guard rfl rfl ?_ | ((with_reducible refine Gd_skipT ?_ ?_); exact rfl) | ((with_reducible refine Gd_skipF ?_ ?_); exact rfl))
                    refine U_loadB E hB9 rfl rfl rfl rfl rfl ?_
                    repeat (first | (with_reducible first | apply T_seq | apply T_region | apply U_nil | apply T_skip | apply T_block | apply T_inBlock | apply Cnd_t | apply Cnd_f | apply Cnd_not | apply Cnd_some | apply Cnd_none | apply Gd_nt | apply Gd_nf | apply Gd_some | apply Gd_none | apply Gd_want) | refine U_ar rfl rfl rfl (wrap_k (by simp only [wrapOk]; omega)) rfl ?_ | refine U_cv E rfl rfl rfl (wrap_k (by simp only [wrapOk]; omega)) rfl ?_ | refine U_pure E rfl rfl ?_ | refine T_exit rfl ?_ | refine T_condV rfl ?_ | refine U_guard rfl rfl ?_ | ((with_reducible refine Gd_skipT ?_ ?_); exact rfl) | ((with_reducible refine Gd_skipF ?_ ?_); exact rfl))
                    refine U_loadB E hB9 rfl rfl rfl rfl rfl ?_
                    have hfa := fall_c w9 F hb D _ a.vk a.keep a.torn hx9.dm.isD (hkp.mv hx9.k (fun _ _ _ x => x))
                    unfold ptr at *
                    repeat (first | (with_reducible first | apply T_seq | apply T_region | apply U_nil | apply T_skip | apply T_block | apply T_inBlock | apply Cnd_t | apply Cnd_f | apply Cnd_not | apply Cnd_some | apply Cnd_none | apply Gd_nt | apply Gd_nf | apply Gd_some | apply Gd_none | apply Gd_want) | refine U_ar rfl rfl rfl (wrap_k (by simp only [wrapOk]; omega)) rfl ?_ | refine U_cv E rfl rfl rfl (wrap_k (by simp only [wrapOk]; omega)) rfl ?_ | refine U_pure E rfl rfl ?_ | refine T_exit rfl ?_ | refine T_condV rfl ?_ | refine U_guard rfl rfl ?_ | ((with_reducible refine Gd_skipT ?_ ?_); exact rfl) | ((with_reducible refine Gd_skipF ?_ ?_); exact rfl))
                    refine U_call rfl rfl (Tryz.call13 _) (hfa) ?_
                    rintro r w10 ⟨k10, hb2, rfl, hD10⟩
                    have hD10 := hD10.dm
                    obtain ⟨q1, q2, g', l', hF⟩ := hst.fall a.keep a.torn
                    have hls10 := ((hx9.ls.mono (G' := fun b => fresh w b ∧ b < w9.heap.size) (fun b hb e => ⟨e.1, hb⟩)).mv k10 (fun _ _ _ x => x)).mono (G' := fun b => fresh w b ∧ ¬ (w9.heap.size ≤ b ∧ b < w10.heap.size)) (fun b _ e => ⟨e.1, fun e2 => by have := e.2; omega⟩)
                    have hts10 := ((hx9.ts.mono (G := fun b => fresh w b ∧ b < w9.heap.size) (fun b hb e => ⟨e.1, hb⟩)).mv k10 (fun _ _ _ x => x)).mono (G := fun b => fresh w b ∧ ¬ (w9.heap.size ≤ b ∧ b < w10.heap.size)) (fun b _ e => ⟨e.1, fun e2 => by have := e.2; omega⟩)
                    repeat (first | (with_reducible first | apply T_seq | apply T_region | apply U_nil | apply T_skip | apply T_block | apply T_inBlock | apply Cnd_t | apply Cnd_f | apply Cnd_not | apply Cnd_some | apply Cnd_none | apply Gd_nt | apply Gd_nf | apply Gd_some | apply Gd_none | apply Gd_want) | refine U_ar rfl rfl rfl (wrap_k (by simp only [wrapOk]; omega)) rfl ?_ | refine U_cv E rfl rfl rfl (wrap_k (by simp only [wrapOk]; omega)) rfl ?_ | refine U_pure E rfl rfl ?_ | refine T_exit rfl ?_ | refine T_condV rfl ?_ | refine U_guard rfl rfl ?_ | ((with_reducible refine Gd_skipT ?_ ?_); exact rfl) | ((with_reducible refine Gd_skipF ?_ ?_); exact rfl))
                    refine T.less ?_ (g2 (_, hb2, drFall D a.keep a.torn, g', l', l'.length) w10 ⟨k10, fun b e => by have := hx9.k.size; have := e.1; omega, fun e => by have := e.1; omega, hD10, by dsimp only; omega, by dsimp only; rw [q2]; exact Nat.zero_le _, hF, hls10, hts10, fun _ => rfl, fun e => absurd (by omega) e⟩)
                    exact ⟨rfl, rfl, rfl, rfl, rfl, rfl, rfl, rfl, rfl, rfl, rfl, rfl, rfl, trivial⟩
                  · cases off
                    · repeat (first | (with_reducible first | apply T_seq | apply T_region | apply U_nil | apply T_skip | apply T_block | apply T_inBlock | apply Cnd_t | apply Cnd_f | apply Cnd_not | apply Cnd_some | apply Cnd_none | apply Gd_nt | apply Gd_nf | apply Gd_some | apply Gd_none | apply Gd_want) | refine U_ar rfl rfl rfl (wrap_k (by simp only [wrapOk]; omega)) rfl ?_ | refine U_cv E rfl rfl rfl (wrap_k (by simp only [wrapOk]; omega)) rfl ?_ | refine U_pure E rfl rfl ?_ | refine T_exit rfl ?_ | refine T_condV rfl ?_ | refine U_guard rfl rfl ?_ | ((with_reducible refine Gd_skipT ?_ ?_); exact rfl) | ((with_reducible refine Gd_skipF ?_ ?_); exact rfl))
                      refine T.less ?_ (g2 (F, hb, D, g, l, sure) w9 ⟨Kept.refl _ _, fun b e => hx9.nw b (.inl e), fun e => by have := hbq8 bq (.inl e); omega, hx9.dm, hlen, hwait, hst.again, hx9.ls.mono (fun b _ e => ⟨e.1, fun e2 => e.2 (.inl e2)⟩), hx9.ts.mono (fun b _ e => ⟨e.1, fun e2 => e.2 (.inl e2)⟩), fun e => absurd (by omega) h5, fun _ => ⟨rfl, rfl, rfl, rfl⟩⟩)
                      exact ⟨rfl, rfl, rfl, rfl, rfl, rfl, rfl, rfl, rfl, rfl, rfl, rfl, rfl, trivial⟩
                    · repeat (first | (with_reducible first | apply T_seq | apply T_region | apply U_nil | apply T_skip | apply T_block | apply T_inBlock | apply Cnd_t | apply Cnd_f | apply Cnd_not | apply Cnd_some | apply Cnd_none | apply Gd_nt | apply Gd_nf | apply Gd_some | apply Gd_none | apply Gd_want) | refine U_ar rfl rfl rfl (wrap_k (by simp only [wrapOk]; omega)) rfl ?_ | refine U_cv E rfl rfl rfl (wrap_k (by simp only [wrapOk]; omega)) rfl ?_ | refine U_pure E rfl rfl ?_ | refine T_exit rfl ?_ | refine T_condV rfl ?_ | refine U_guard rfl rfl ?_ | ((with_reducible refine Gd_skipT ?_ ?_); exact rfl) | ((with_reducible refine Gd_skipF ?_ ?_); exact rfl))
                      refine T_exit hk2 ?_
                      refine T.less ?_ (f2 _ w9 (hstay w9 (Kept.refl _ _)))
                      exact ⟨rfl, rfl, rfl, rfl, rfl, rfl, rfl, rfl, rfl, rfl, rfl, rfl, trivial⟩
                case fin2 =>
                  rintro ⟨F2, hb2, D2, g', l', s'⟩ w10 ⟨k10, hn10, hq10, hD10, hl10, hw10, hF, hls10, hts10, h5a, h5b⟩
                  dsimp only at hn10 hq10 hD10 hl10 hw10 hF hls10 hts10 h5a h5b ⊢
                  have hB10 := hB9.mv k10 (fun x => x)
                  have k010 : Kept none0 w w10 := hx9.k.tr k10 (fun _ _ x => x)
                  have hop := open_rc w10 F2 hb2 D2 hD10 (by omega) (by omega)
                  rw [hF.gen, hF.recs] at hop
                  have hfl := hF.len
                  have hfw := hF.wait
                  unfold ptr at *
                  repeat (first | (with_reducible first | apply T_seq | apply T_region | apply U_nil | apply T_skip | apply T_block | apply T_inBlock | apply Cnd_t | apply Cnd_f | apply Cnd_not | apply Cnd_some | apply Cnd_none | apply Gd_nt | apply Gd_nf | apply Gd_some | apply Gd_none | apply Gd_want) | refine U_ar rfl rfl rfl (wrap_k (by simp only [wrapOk]; omega)) rfl ?_ | refine U_cv E rfl rfl rfl (wrap_k (by simp only [wrapOk]; omega)) rfl ?_ | refine U_pure E rfl rfl ?_ | refine T_exit rfl ?_ | refine T_condV rfl ?_ | refine U_guard rfl rfl ?_ | ((with_reducible refine Gd_skipT ?_ ?_); exact rfl) | ((with_reducible refine Gd_skipF ?_ ?_); exact rfl))
                  refine U_call rfl rfl (Tryz.call14 _) (hop) ?_
                  rintro r w11 ⟨F11, o11, hD11, hcase⟩
                  obtain ⟨_, rb', Fr', rfl, hR11, hFr11⟩ := hcase.resolve_left (fun e => e.1 hF.ok)
                  dsimp only at hR11
                  have k011 : Kept none0 w w11 := o11.done k010 hn10
                  have hB11 := hB10.mv o11.kept hq10
                  have hnw11 : ∀ b, uni F11 Fr' b → w.heap.size ≤ b := fun b e => e.elim (o11.newer k010.size hn10 b) (fun e => by have := hFr11 b e; have := k010.size; omega)
                  have hls11 : RS w11 (fun b => fresh w b ∧ ¬ uni F11 Fr' b) vl l := (o11.rsK hls10).mono (fun b _ e => ⟨e.1.1, fun e2 => e2.elim e.2 (fun e3 => by have := hFr11 b e3; have := e.1.2; omega)⟩)
                  have hts11 : BS w11 (fun b => fresh w b ∧ ¬ uni F11 Fr' b) vt tp := (o11.slK hts10).mono (fun b _ e => ⟨e.1.1, fun e2 => e2.elim e.2 (fun e3 => by have := hFr11 b e3; have := e.1.2; omega)⟩)
                  have hlt11 := hR11.lt2 hD11.lt
                  have hll : l'.length ≤ 10000 := hR11.len
                  have hrc := records_o hR11
                  unfold ptr at *
                  repeat (first | (with_reducible first | apply T_seq | apply T_region | apply U_nil | apply T_skip | apply T_block | apply T_inBlock | apply Cnd_t | apply Cnd_f | apply Cnd_not | apply Cnd_some | apply Cnd_none | apply Gd_nt | apply Gd_nf | apply Gd_some | apply Gd_none | apply Gd_want) | refine U_ar rfl rfl rfl (wrap_k (by simp only [wrapOk]; omega)) rfl ?_ | refine U_cv E rfl rfl rfl (wrap_k (by simp only [wrapOk]; omega)) rfl ?_ | refine U_pure E rfl rfl ?_ | refine T_exit rfl ?_ | refine T_condV rfl ?_ | refine U_guard rfl rfl ?_ | ((with_reducible refine Gd_skipT ?_ ?_); exact rfl) | ((with_reducible refine Gd_skipF ?_ ?_); exact rfl))
                  refine U_call rfl rfl (Tryz.call15 _) (hrc) ?_
                  rintro got w12 ⟨k12, hO12⟩
                  have hgot : RS w12 (fun b => fresh w b ∧ ¬ uni F11 Fr' b) got l' := (hO12.rs (by omega)).mono (fun b _ e => ⟨by have := k011.size; simp only [fresh] at *; omega, fun e2 => by have := hlt11 b e2; simp only [fresh] at e; omega⟩)
                  obtain ⟨vs, v1, v2, v3⟩ := id hgot
                  obtain ⟨Ag, cg, hge⟩ := v2.len
                  subst hge
                  have hB12 := hB11.mv k12 (fun x => x)
                  have hls12 := hls11.mv k12 (fun _ _ _ x => x)
                  have hts12 := hts11.mv k12 (fun _ _ _ x => x)
                  have hR12 := hR11.same hD11.lt k12
                  have hD12 := hD11.same k12
                  have k012 : Kept none0 w w12 := k011.tr k12 (fun _ _ x => x)
                  repeat (first | refine U_ar rfl rfl rfl (wrap_k (by simp only [wrapOk]; omega)) rfl ?_ | refine U_cv E rfl rfl rfl (wrap_k (by simp only [wrapOk]; omega)) rfl ?_ | refine U_pure E rfl rfl ?_)
                  refine U_nil ?_
                  (repeat (with_reducible refine T_seq ?_))
                  refine T_viaK (α := Bool) (fun b => [(183, .bool b), (22, .slice Ag vs.length cg), (20, .pointer (some ⟨bq, 0, none⟩)), (52, .int .i64 i), (51, .int .i64 acts.length), (50, .slice (some ⟨bA, oA, none⟩) acts.length c), (8, .int .i64 (Hf : Nat)), (9, .pointer (some ⟨hb2, 0, none⟩)), (11, .pointer (some ⟨rb', 0, none⟩)), (13, vl), (14, .int .i64 (sure : Nat)), (15, .int .u32 (g : Nat)), (16, .bool off), (17, vt), (18, .bool turning)])
                    (fun b w' => Kept none0 w12 w' ∧ (b = true → g' = g + 1 ∧ l' = [tp]) ∧ (b = false → g' = g ∧ ∃ k, l' = l.take k ∧ sure ≤ k ∧ k ≤ l.length)) ?fin3 ?go3
                  case go3 =>
                    intro k3 g3
                    cases turning
                    · repeat (first | (with_reducible first | apply T_seq | apply T_region | apply U_nil | apply T_skip | apply T_block | apply T_inBlock | apply Cnd_t | apply Cnd_f | apply Cnd_not | apply Cnd_some | apply Cnd_none | apply Gd_nt | apply Gd_nf | apply Gd_some | apply Gd_none | apply Gd_want) | refine U_ar rfl rfl rfl (wrap_k (by simp only [wrapOk]; omega)) rfl ?_ | refine U_cv E rfl rfl rfl (wrap_k (by simp only [wrapOk]; omega)) rfl ?_ | refine U_pure E rfl rfl ?_ | refine T_exit rfl ?_ | refine T_condV rfl ?_ | refine U_guard rfl rfl ?_ | refine U_guardU rfl rfl rfl ?_ | ((with_reducible refine Gd_skipT ?_ ?_); exact rfl) | ((with_reducible refine Gd_skipF ?_ ?_); exact rfl))
                      refine T.less ?_ (g3 false w12 ⟨Kept.refl _ _, (fun e => by cases e), fun _ => hF.which.resolve_right (fun e => by cases e.1)⟩)
                      exact ⟨rfl, rfl, rfl, rfl, rfl, rfl, rfl, rfl, rfl, rfl, rfl, rfl, rfl, rfl, rfl, trivial⟩
                    · have hgn := gen_c hR12
                      unfold ptr at *
                      repeat (first | (with_reducible first | apply T_seq | apply T_region | apply U_nil | apply T_skip | apply T_block | apply T_inBlock | apply Cnd_t | apply Cnd_f | apply Cnd_not | apply Cnd_some | apply Cnd_none | apply Gd_nt | apply Gd_nf | apply Gd_some | apply Gd_none | apply Gd_want) | refine U_ar rfl rfl rfl (wrap_k (by simp only [wrapOk]; omega)) rfl ?_ | refine U_cv E rfl rfl rfl (wrap_k (by simp only [wrapOk]; omega)) rfl ?_ | refine U_pure E rfl rfl ?_ | refine T_exit rfl ?_ | refine T_condV rfl ?_ | refine U_guard rfl rfl ?_ | refine U_guardU rfl rfl rfl ?_ | ((with_reducible refine Gd_skipT ?_ ?_); exact rfl) | ((with_reducible refine Gd_skipF ?_ ?_); exact rfl))
                      refine U_call rfl rfl (Tryz.call16 _) (hgn) ?_
                      rintro r w13 ⟨rfl, rfl⟩
                      repeat (first | (with_reducible first | apply T_seq | apply T_region | apply U_nil | apply T_skip | apply T_block | apply T_inBlock | apply Cnd_t | apply Cnd_f | apply Cnd_not | apply Cnd_some | apply Cnd_none | apply Gd_nt | apply Gd_nf | apply Gd_some | apply Gd_none | apply Gd_want) | refine U_ar rfl rfl rfl (wrap_k (by simp only [wrapOk]; omega)) rfl ?_ | refine U_cv E rfl rfl rfl (wrap_k (by simp only [wrapOk]; omega)) rfl ?_ | refine U_pure E rfl rfl ?_ | refine T_exit rfl ?_ | refine T_condV rfl ?_ | refine U_guard rfl rfl ?_ | refine U_guardU rfl rfl rfl ?_ | ((with_reducible refine Gd_skipT ?_ ?_); exact rfl) | ((with_reducible refine Gd_skipF ?_ ?_); exact rfl))
                      refine Gd_p (fun hgg => ?_) (fun hgg => ?_)
                      · have hw2 : g' = g + 1 ∧ l' = [tp] := (hF.which.resolve_left (fun e => by have := e.1; omega)).2
                        repeat (first | (with_reducible first | apply T_seq | apply T_region | apply U_nil | apply T_skip | apply T_block | apply T_inBlock | apply Cnd_t | apply Cnd_f | apply Cnd_not | apply Cnd_some | apply Cnd_none | apply Gd_nt | apply Gd_nf | apply Gd_some | apply Gd_none | apply Gd_want) | refine U_ar rfl rfl rfl (wrap_k (by simp only [wrapOk]; omega)) rfl ?_ | refine U_cv E rfl rfl rfl (wrap_k (by simp only [wrapOk]; omega)) rfl ?_ | refine U_pure E rfl rfl ?_ | refine T_exit rfl ?_ | refine T_condV rfl ?_ | refine U_guard rfl rfl ?_ | refine U_guardU rfl rfl rfl ?_ | ((with_reducible refine Gd_skipT ?_ ?_); exact rfl) | ((with_reducible refine Gd_skipF ?_ ?_); exact rfl))
                        refine U_buildSlice (sz := 1) E rfl rfl rfl rfl rfl rfl rfl rfl (segs := [[vt]]) (by rw [List.map_cons, List.map_cons, bs_cells hts12]; rfl) (by simp) rfl ?_
                        intro b14 w14 hn14
                        have hSm := rsame_c w14 _ _ _ _ l' [tp] (hgot.mv hn14.kept (fun _ _ _ x => x)) (RS.one hn14 hts12)
                        rw [decide_eq_true hw2.2] at hSm
                        repeat (first | (with_reducible first | apply T_seq | apply T_region | apply U_nil | apply T_skip | apply T_block | apply T_inBlock | apply Cnd_t | apply Cnd_f | apply Cnd_not | apply Cnd_some | apply Cnd_none | apply Gd_nt | apply Gd_nf | apply Gd_some | apply Gd_none | apply Gd_want) | refine U_ar rfl rfl rfl (wrap_k (by simp only [wrapOk]; omega)) rfl ?_ | refine U_cv E rfl rfl rfl (wrap_k (by simp only [wrapOk]; omega)) rfl ?_ | refine U_pure E rfl rfl ?_ | refine T_exit rfl ?_ | refine T_condV rfl ?_ | refine U_guard rfl rfl ?_ | refine U_guardU rfl rfl rfl ?_ | ((with_reducible refine Gd_skipT ?_ ?_); exact rfl) | ((with_reducible refine Gd_skipF ?_ ?_); exact rfl))
                        refine U_call rfl rfl (Tryz.call17 _) (hSm) ?_
                        rintro r w15 ⟨rfl, k15⟩
                        repeat (first | (with_reducible first | apply T_seq | apply T_region | apply U_nil | apply T_skip | apply T_block | apply T_inBlock | apply Cnd_t | apply Cnd_f | apply Cnd_not | apply Cnd_some | apply Cnd_none | apply Gd_nt | apply Gd_nf | apply Gd_some | apply Gd_none | apply Gd_want) | refine U_ar rfl rfl rfl (wrap_k (by simp only [wrapOk]; omega)) rfl ?_ | refine U_cv E rfl rfl rfl (wrap_k (by simp only [wrapOk]; omega)) rfl ?_ | refine U_pure E rfl rfl ?_ | refine T_exit rfl ?_ | refine T_condV rfl ?_ | refine U_guard rfl rfl ?_ | refine U_guardU rfl rfl rfl ?_ | ((with_reducible refine Gd_skipT ?_ ?_); exact rfl) | ((with_reducible refine Gd_skipF ?_ ?_); exact rfl))
                        refine T.less ?_ (g3 true w15 ⟨hn14.kept.tr k15 (fun _ _ x => x), fun _ => hw2, (fun e => by cases e)⟩)
                        exact ⟨rfl, rfl, rfl, rfl, rfl, rfl, rfl, rfl, rfl, rfl, rfl, rfl, rfl, rfl, rfl, trivial⟩
                      · repeat (first | (with_reducible first | apply T_seq | apply T_region | apply U_nil | apply T_skip | apply T_block | apply T_inBlock | apply Cnd_t | apply Cnd_f | apply Cnd_not | apply Cnd_some | apply Cnd_none | apply Gd_nt | apply Gd_nf | apply Gd_some | apply Gd_none | apply Gd_want) | refine U_ar rfl rfl rfl (wrap_k (by simp only [wrapOk]; omega)) rfl ?_ | refine U_cv E rfl rfl rfl (wrap_k (by simp only [wrapOk]; omega)) rfl ?_ | refine U_pure E rfl rfl ?_ | refine T_exit rfl ?_ | refine T_condV rfl ?_ | refine U_guard rfl rfl ?_ | refine U_guardU rfl rfl rfl ?_ | ((with_reducible refine Gd_skipT ?_ ?_); exact rfl) | ((with_reducible refine Gd_skipF ?_ ?_); exact rfl))
                        refine T.less ?_ (g3 false w13 ⟨Kept.refl _ _, (fun e => by cases e), fun _ => hF.which.resolve_right (fun e => hgg (by have := e.2.1; omega))⟩)
                        exact ⟨rfl, rfl, rfl, rfl, rfl, rfl, rfl, rfl, rfl, rfl, rfl, rfl, rfl, rfl, rfl, trivial⟩
                  case fin3 =>
                    rintro tb w13 ⟨k13, ht, hff⟩
                    (try dsimp only)
                    have hgot13 := hgot.mv k13 (fun _ _ _ x => x)
                    have hls13 := hls12.mv k13 (fun _ _ _ x => x)
                    have hB13 := hB12.mv k13 (fun x => x)
                    have hR13 := hR12.same hD12.lt k13
                    have hD13 := hD12.same k13
                    (repeat (with_reducible refine T_seq ?_))
                    refine T_viaK (α := Value × List (List UInt8)) (fun x => [(22, .slice Ag vs.length cg), (20, .pointer (some ⟨bq, 0, none⟩)), (52, .int .i64 i), (51, .int .i64 acts.length), (50, .slice (some ⟨bA, oA, none⟩) acts.length c), (8, .int .i64 (Hf : Nat)), (9, .pointer (some ⟨hb2, 0, none⟩)), (11, .pointer (some ⟨rb', 0, none⟩)), (13, x.1), (14, .int .i64 (sure : Nat)), (15, .int .u32 (g' : Nat)), (16, .bool off), (17, vt), (18, .bool turning)])
                      (fun x w' => Kept none0 w13 w' ∧ RS w' (fun b => fresh w b ∧ ¬ uni F11 Fr' b) x.1 x.2 ∧ (dd ≠ 5 → x.2 = l) ∧ l'.length ≤ i + 1 ∧ g' ≤ i + 2 ∧ ∀ q ∈ l', q.length ≤ 700) ?fin4 ?go4
                    case go4 =>
                      intro k4 g4
                      refine T_condV rfl ?_
                      cases tb
                      · refine Cnd_f ?_
                        obtain ⟨hgg, k, hk1, hk2, hk3⟩ := hff rfl
                        have hkl : l'.length = k := by rw [hk1, List.length_take]; omega
                        have hgn := gen_c hR13
                        unfold ptr at *
                        repeat (first | (with_reducible first | apply T_seq | apply T_region | apply U_nil | apply T_skip | apply T_block | apply T_inBlock | apply Cnd_t | apply Cnd_f | apply Cnd_not | apply Cnd_some | apply Cnd_none | apply Gd_nt | apply Gd_nf | apply Gd_some | apply Gd_none | apply Gd_want) | refine U_ar rfl rfl rfl (wrap_k (by simp only [wrapOk]; omega)) rfl ?_ | refine U_cv E rfl rfl rfl (wrap_k (by simp only [wrapOk]; omega)) rfl ?_ | refine U_pure E rfl rfl ?_ | refine T_exit rfl ?_ | refine T_condV rfl ?_ | refine U_guard rfl rfl ?_ | refine U_guardU rfl rfl rfl ?_ | ((with_reducible refine Gd_skipT ?_ ?_); exact rfl) | ((with_reducible refine Gd_skipF ?_ ?_); exact rfl))
                        refine U_call rfl rfl (Tryz.call16 _) (hgn) ?_
                        rintro r w14 ⟨rfl, rfl⟩
                        repeat (first | (with_reducible first | apply T_seq | apply T_region | apply U_nil | apply T_skip | apply T_block | apply T_inBlock | apply Cnd_t | apply Cnd_f | apply Cnd_not | apply Cnd_some | apply Cnd_none | apply Gd_nt | apply Gd_nf | apply Gd_some | apply Gd_none | apply Gd_want) | refine U_ar rfl rfl rfl (wrap_k (by simp only [wrapOk]; omega)) rfl ?_ | refine U_cv E rfl rfl rfl (wrap_k (by simp only [wrapOk]; omega)) rfl ?_ | refine U_pure E rfl rfl ?_ | refine T_exit rfl ?_ | refine T_condV rfl ?_ | refine U_guard rfl rfl ?_ | refine U_guardU rfl rfl rfl ?_ | ((with_reducible refine Gd_skipT ?_ ?_); exact rfl) | ((with_reducible refine Gd_skipF ?_ ?_); exact rfl))
                        refine Gd_p (fun hne => ?_) (fun hne => ?_)
                        · exfalso; omega
                        · have hbg := begins_t w14 _ _ _ _ l' l sure hgot13 hls13 (by omega) (by omega) (by rw [hkl]; exact hk1)
                          repeat (first | (with_reducible first | apply T_seq | apply T_region | apply U_nil | apply T_skip | apply T_block | apply T_inBlock | apply Cnd_t | apply Cnd_f | apply Cnd_not | apply Cnd_some | apply Cnd_none | apply Gd_nt | apply Gd_nf | apply Gd_some | apply Gd_none | apply Gd_want) | refine U_ar rfl rfl rfl (wrap_k (by simp only [wrapOk]; omega)) rfl ?_ | refine U_cv E rfl rfl rfl (wrap_k (by simp only [wrapOk]; omega)) rfl ?_ | refine U_pure E rfl rfl ?_ | refine T_exit rfl ?_ | refine T_condV rfl ?_ | refine U_guard rfl rfl ?_ | refine U_guardU rfl rfl rfl ?_ | ((with_reducible refine Gd_skipT ?_ ?_); exact rfl) | ((with_reducible refine Gd_skipF ?_ ?_); exact rfl))
                          refine U_call rfl rfl (Tryz.call18 _) (hbg) ?_
                          rintro r w15 ⟨rfl, k15⟩
                          repeat (first | (with_reducible first | apply T_seq | apply T_region | apply U_nil | apply T_skip | apply T_block | apply T_inBlock | apply Cnd_t | apply Cnd_f | apply Cnd_not | apply Cnd_some | apply Cnd_none | apply Gd_nt | apply Gd_nf | apply Gd_some | apply Gd_none | apply Gd_want) | refine U_ar rfl rfl rfl (wrap_k (by simp only [wrapOk]; omega)) rfl ?_ | refine U_cv E rfl rfl rfl (wrap_k (by simp only [wrapOk]; omega)) rfl ?_ | refine U_pure E rfl rfl ?_ | refine T_exit rfl ?_ | refine T_condV rfl ?_ | refine U_guard rfl rfl ?_ | refine U_guardU rfl rfl rfl ?_ | ((with_reducible refine Gd_skipT ?_ ?_); exact rfl) | ((with_reducible refine Gd_skipF ?_ ?_); exact rfl))
                          refine T.less ?_ (g4 (vl, l) w15 ⟨k15, hls13.mv k15 (fun _ _ _ x => x), fun _ => rfl, by omega, by omega, fun q hq => hpl q (by rw [hk1] at hq; exact List.mem_of_mem_take hq)⟩)
                          subst hgg
                          exact ⟨rfl, rfl, rfl, rfl, rfl, rfl, rfl, rfl, rfl, rfl, rfl, rfl, rfl, rfl, trivial⟩
                      · refine Cnd_t ?_
                        obtain ⟨hgg, hl2⟩ := ht rfl
                        have hl2' : l'.length = 1 := by rw [hl2]; rfl
                        repeat (first | (with_reducible first | apply T_seq | apply T_region | apply U_nil | apply T_skip | apply T_block | apply T_inBlock | apply Cnd_t | apply Cnd_f | apply Cnd_not | apply Cnd_some | apply Cnd_none | apply Gd_nt | apply Gd_nf | apply Gd_some | apply Gd_none | apply Gd_want) | refine U_ar rfl rfl rfl (wrap_k (by simp only [wrapOk]; omega)) rfl ?_ | refine U_cv E rfl rfl rfl (wrap_k (by simp only [wrapOk]; omega)) rfl ?_ | refine U_pure E rfl rfl ?_ | refine T_exit rfl ?_ | refine T_condV rfl ?_ | refine U_guard rfl rfl ?_ | refine U_guardU rfl rfl rfl ?_ | ((with_reducible refine Gd_skipT ?_ ?_); exact rfl) | ((with_reducible refine Gd_skipF ?_ ?_); exact rfl))
                        refine T.less ?_ (g4 (.slice Ag vs.length cg, l') w13 ⟨Kept.refl _ _, hgot13, fun e => (h5b e).2.2.1, by omega, by omega, fun q hq => by rw [hl2] at hq; rw [List.mem_singleton.1 hq]; exact htl⟩)
                        subst hgg
                        exact ⟨rfl, rfl, rfl, rfl, rfl, rfl, rfl, rfl, rfl, rfl, rfl, rfl, rfl, rfl, trivial⟩
                    case fin4 =>
                      rintro ⟨vl2, l2⟩ w14 ⟨k14, hls14, hl2, hc14, hg14, hp14⟩
                      dsimp only at hls14 hl2 ⊢
                      have hB14 := hB13.mv k14 (fun x => x)
                      have hR14 := hR13.same hD13.lt k14
                      have hD14 := hD13.same k14
                      have k1214 := k13.tr k14 (fun _ _ x => x)
                      have hts14 := hts12.mv k1214 (fun _ _ _ x => x)
                      have hgot14 := hgot.mv k1214 (fun _ _ _ x => x)
                      have k014 := k012.tr k1214 (fun _ _ x => x)
                      have hg1 := hF.ri.gen.1
                      repeat (first | (with_reducible first | apply T_seq | apply T_region | apply U_nil | apply T_skip | apply T_block | apply T_inBlock | apply Cnd_t | apply Cnd_f | apply Cnd_not | apply Cnd_some | apply Cnd_none | apply Gd_nt | apply Gd_nf | apply Gd_some | apply Gd_none | apply Gd_want) | refine U_ar rfl rfl rfl (wrap_k (by simp only [wrapOk]; omega)) rfl ?_ | refine U_cv E rfl rfl rfl (wrap_k (by simp only [wrapOk]; omega)) rfl ?_ | refine U_pure E rfl rfl ?_ | refine T_exit rfl ?_ | refine T_condV rfl ?_ | refine U_guard rfl rfl ?_ | ((with_reducible refine Gd_skipT ?_ ?_); exact rfl) | ((with_reducible refine Gd_skipF ?_ ?_); exact rfl))
                      refine U_loadB E hB14 rfl rfl rfl rfl rfl ?_
                      refine U_run rfl rfl rfl (ro_bin (r := .int .u8 (dd : Nat)) rfl rfl (by rw [← hdd]; exact run_rem (y := 8) (by decide))) ?_
                      repeat (first | (with_reducible first | apply T_seq | apply T_region | apply U_nil | apply T_skip | apply T_block | apply T_inBlock | apply Cnd_t | apply Cnd_f | apply Cnd_not | apply Cnd_some | apply Cnd_none | apply Gd_nt | apply Gd_nf | apply Gd_some | apply Gd_none | apply Gd_want) | refine U_ar rfl rfl rfl (wrap_k (by simp only [wrapOk]; omega)) rfl ?_ | refine U_cv E rfl rfl rfl (wrap_k (by simp only [wrapOk]; omega)) rfl ?_ | refine U_pure E rfl rfl ?_ | refine T_exit rfl ?_ | refine T_condV rfl ?_ | refine U_guard rfl rfl ?_ | ((with_reducible refine Gd_skipT ?_ ?_); exact rfl) | ((with_reducible refine Gd_skipF ?_ ?_); exact rfl))
                      refine Cnd_p (fun h5 => ?_) (fun h5 => ?_)
                      · have hs5 := h5a (by omega)
                        have hI : HI w w14 S (i + 1) ⟨F11, Fr', hb2, rb', (opF D2).2, g', l', vs.length, false, false, tp, .slice Ag vs.length cg, vt, g', l', (allP g' 0 l').length⟩ := by
                          refine ⟨k014, hnw11, hD14, hR14, by dsimp only; omega, by dsimp only; omega, hgot14, hts14, htl, hp14, by dsimp only; omega, by dsimp only; omega, .inl ⟨rfl, rfl, hF.ri, ?_, rfl, rfl, rfl⟩⟩
                          have := hF.old
                          rw [hs5, ← v1] at this
                          exact this
                        repeat (first | (with_reducible first | apply T_seq | apply T_region | apply U_nil | apply T_skip | apply T_block | apply T_inBlock | apply Cnd_t | apply Cnd_f | apply Cnd_not | apply Cnd_some | apply Cnd_none | apply Gd_nt | apply Gd_nf | apply Gd_some | apply Gd_none | apply Gd_want) | refine U_ar rfl rfl rfl (wrap_k (by simp only [wrapOk]; omega)) rfl ?_ | refine U_cv E rfl rfl rfl (wrap_k (by simp only [wrapOk]; omega)) rfl ?_ | refine U_pure E rfl rfl ?_ | refine T_exit rfl ?_ | refine T_condV rfl ?_ | refine U_guard rfl rfl ?_ | ((with_reducible refine Gd_skipT ?_ ?_); exact rfl) | ((with_reducible refine Gd_skipF ?_ ?_); exact rfl))
                        refine T.less ?_ (f1 _ w14 hI)
                        exact ⟨rfl, rfl, rfl, rfl, rfl, rfl, rfl, rfl, rfl, rfl, rfl, rfl, trivial⟩
                      · obtain ⟨b1, b2, b3, b4⟩ := h5b (by omega)
                        have hl2 := hl2 (by omega)
                        subst b1
                        obtain ⟨ht0, _⟩ := hst.on
                        have hI : HI w w14 S (i + 1) ⟨F11, Fr', hb2, rb', (opF D2).2, g', l2, sure, false, turning, tp, vl2, vt, g', l', (allP g' 0 l').length⟩ := by
                          refine ⟨k014, hnw11, hD14, hR14, by dsimp only; omega, by dsimp only; omega, hls14, hts14, htl, by dsimp only; rw [hl2]; exact hpl, by dsimp only; omega, by dsimp only; rw [hl2]; omega, .inl ⟨rfl, ht0, ?_, ?_, rfl, ?_, ?_⟩⟩
                          · dsimp only; rw [hl2, ← b3]; exact hF.ri
                          · dsimp only; rw [hl2, ← b3, ← b4]; exact hF.old
                          · dsimp only; rw [hl2, b3]
                          · dsimp only; rw [hl2, b3]
                        repeat (first | (with_reducible first | apply T_seq | apply T_region | apply U_nil | apply T_skip | apply T_block | apply T_inBlock | apply Cnd_t | apply Cnd_f | apply Cnd_not | apply Cnd_some | apply Cnd_none | apply Gd_nt | apply Gd_nf | apply Gd_some | apply Gd_none | apply Gd_want) | refine U_ar rfl rfl rfl (wrap_k (by simp only [wrapOk]; omega)) rfl ?_ | refine U_cv E rfl rfl rfl (wrap_k (by simp only [wrapOk]; omega)) rfl ?_ | refine U_pure E rfl rfl ?_ | refine T_exit rfl ?_ | refine T_condV rfl ?_ | refine U_guard rfl rfl ?_ | ((with_reducible refine Gd_skipT ?_ ?_); exact rfl) | ((with_reducible refine Gd_skipF ?_ ?_); exact rfl))
                        refine T.less ?_ (f1 _ w14 hI)
                        exact ⟨rfl, rfl, rfl, rfl, rfl, rfl, rfl, rfl, rfl, rfl, rfl, rfl, trivial⟩
              · repeat (first | (with_reducible first | apply T_seq | apply T_region | apply U_nil | apply T_skip | apply T_block | apply T_inBlock | apply Cnd_t | apply Cnd_f | apply Cnd_not | apply Cnd_some | apply Cnd_none | apply Gd_nt | apply Gd_nf | apply Gd_some | apply Gd_none | apply Gd_want) | refine U_ar rfl rfl rfl (wrap_k (by simp only [wrapOk]; omega)) rfl ?_ | refine U_cv E rfl rfl rfl (wrap_k (by simp only [wrapOk]; omega)) rfl ?_ | refine U_pure E rfl rfl ?_ | refine T_exit rfl ?_ | refine T_condV rfl ?_ | refine U_guard rfl rfl ?_ | ((with_reducible refine Gd_skipT ?_ ?_); exact rfl) | ((with_reducible refine Gd_skipF ?_ ?_); exact rfl))
                refine Cnd_p (fun h7 => ?_) (fun h7 => ?_)
                · -- a limit
                  repeat (first | (with_reducible first | apply T_seq | apply T_region | apply U_nil | apply T_skip | apply T_block | apply T_inBlock | apply Cnd_t | apply Cnd_f | apply Cnd_not | apply Cnd_some | apply Cnd_none | apply Gd_nt | apply Gd_nf | apply Gd_some | apply Gd_none | apply Gd_want) | refine U_ar rfl rfl rfl (wrap_k (by simp only [wrapOk]; omega)) rfl ?_ | refine U_cv E rfl rfl rfl (wrap_k (by simp only [wrapOk]; omega)) rfl ?_ | refine U_pure E rfl rfl ?_ | refine T_exit rfl ?_ | refine T_condV rfl ?_ | refine U_guard rfl rfl ?_ | ((with_reducible refine Gd_skipT ?_ ?_); exact rfl) | ((with_reducible refine Gd_skipF ?_ ?_); exact rfl))
                  refine U_loadB E hB9 rfl rfl rfl rfl rfl ?_
                  refine U_run rfl rfl rfl (ro_bin (r := .int .u8 (a.n % 12 : Nat)) rfl rfl (by exact run_rem (y := 12) (by decide))) ?_
                  have har := arm_c w9 F hb D ((a.n % 12 : Nat) : Int) hx9.dm.isD (by omega)
                  unfold ptr at *
                  repeat (first | (with_reducible first | apply T_seq | apply T_region | apply U_nil | apply T_skip | apply T_block | apply T_inBlock | apply Cnd_t | apply Cnd_f | apply Cnd_not | apply Cnd_some | apply Cnd_none | apply Gd_nt | apply Gd_nf | apply Gd_some | apply Gd_none | apply Gd_want) | refine U_ar rfl rfl rfl (wrap_k (by simp only [wrapOk]; omega)) rfl ?_ | refine U_cv E rfl rfl rfl (wrap_k (by simp only [wrapOk]; omega)) rfl ?_ | refine U_pure E rfl rfl ?_ | refine T_exit rfl ?_ | refine T_condV rfl ?_ | refine U_guard rfl rfl ?_ | ((with_reducible refine Gd_skipT ?_ ?_); exact rfl) | ((with_reducible refine Gd_skipF ?_ ?_); exact rfl))
                  refine U_call rfl rfl (Tryz.call19 _) (har) ?_
                  rintro r w10 ⟨rfl, k10, s10, hD10⟩
                  have hmem := hx9.dm.isD.mem
                  have oa : Own F w9 F w10 := Own.upd hx9.dm.lt k10 (fun b _ (e : b = hb) => by rw [e]; exact hmem)
                  have hI := hx9.step (oa.both hx9.rl.lt) ⟨hD10, fun b e => by rw [s10]; exact hx9.dm.lt b e⟩ (hx9.rl.drum oa) rfl (by dsimp only; omega) (hst.arm (max ((a.n % 12 : Nat) : Int) (-1)))
                  repeat (first | (with_reducible first | apply T_seq | apply T_region | apply U_nil | apply T_skip | apply T_block | apply T_inBlock | apply Cnd_t | apply Cnd_f | apply Cnd_not | apply Cnd_some | apply Cnd_none | apply Gd_nt | apply Gd_nf | apply Gd_some | apply Gd_none | apply Gd_want) | refine U_ar rfl rfl rfl (wrap_k (by simp only [wrapOk]; omega)) rfl ?_ | refine U_cv E rfl rfl rfl (wrap_k (by simp only [wrapOk]; omega)) rfl ?_ | refine U_pure E rfl rfl ?_ | refine T_exit rfl ?_ | refine T_condV rfl ?_ | refine U_guard rfl rfl ?_ | ((with_reducible refine Gd_skipT ?_ ?_); exact rfl) | ((with_reducible refine Gd_skipF ?_ ?_); exact rfl))
                  refine T.less ?_ (f1 _ w10 hI)
                  exact ⟨rfl, rfl, rfl, rfl, rfl, rfl, rfl, rfl, rfl, rfl, rfl, rfl, trivial⟩
                · -- a record
                  cases off
                  · obtain ⟨ht0, hri, hold, e1, e2, e3⟩ := hst.on
                    have hR := hx9.rl
                    dsimp only at hR
                    rw [e1, e2, e3] at hR
                    have hft := hri.fits
                    rw [hz] at hft
                    have hap := append_rc (Value.slice Ap p.length cp) p hR hx9.dm (by dsimp only; omega) (hp9'.mono (fun b _ e => e.2)) (by omega) (by omega) (by dsimp only; omega)
                    have hwt := appD_wait D g l.length (allP g 0 l).length p
                    dsimp only at hap
                    unfold ptr at *
                    repeat (first | (with_reducible first | apply T_seq | apply T_region | apply U_nil | apply T_skip | apply T_block | apply T_inBlock | apply Cnd_t | apply Cnd_f | apply Cnd_not | apply Cnd_some | apply Cnd_none | apply Gd_nt | apply Gd_nf | apply Gd_some | apply Gd_none | apply Gd_want) | refine U_ar rfl rfl rfl (wrap_k (by simp only [wrapOk]; omega)) rfl ?_ | refine U_cv E rfl rfl rfl (wrap_k (by simp only [wrapOk]; omega)) rfl ?_ | refine U_pure E rfl rfl ?_ | refine T_exit rfl ?_ | refine T_condV rfl ?_ | refine U_guard rfl rfl ?_ | ((with_reducible refine Gd_skipT ?_ ?_); exact rfl) | ((with_reducible refine Gd_skipF ?_ ?_); exact rfl))
                    refine U_call rfl rfl (Tryz.call20 _) (hap) ?_
                    rintro r w10 ⟨rfl, F3, Fr3, o3, hD3, hR3⟩
                    have hls3 := (o3.rsK hx9.ls).mono (G' := fun b => fresh w b ∧ ¬ uni F3 Fr3 b) (fun b _ e => ⟨e.1.1, e.2⟩)
                    have hts3 := (o3.slK hx9.ts).mono (G := fun b => fresh w b ∧ ¬ uni F3 Fr3 b) (fun b _ e => ⟨e.1.1, e.2⟩)
                    have hp3 : BS w10 (fun b => fresh w b ∧ ¬ uni F3 Fr3 b) (Value.slice Ap p.length cp) p := (o3.slK hp9').mono (fun b _ e => ⟨e.1.1, e.2⟩)
                    have k03 : Kept none0 w w10 := o3.done hx9.k hx9.nw
                    have hnw3 := o3.newer hx9.k.size hx9.nw
                    dsimp only at hls3 hts3 hnw3
                    have hall := rall_c w10 _ g _ l (by omega) hls3 (by omega) (fun q hq => by have := hpl q hq; omega)
                    repeat (first | (with_reducible first | apply T_seq | apply T_region | apply U_nil | apply T_skip | apply T_block | apply T_inBlock | apply Cnd_t | apply Cnd_f | apply Cnd_not | apply Cnd_some | apply Cnd_none | apply Gd_nt | apply Gd_nf | apply Gd_some | apply Gd_none | apply Gd_want) | refine U_ar rfl rfl rfl (wrap_k (by simp only [wrapOk]; omega)) rfl ?_ | refine U_cv E rfl rfl rfl (wrap_k (by simp only [wrapOk]; omega)) rfl ?_ | refine U_pure E rfl rfl ?_ | refine T_exit rfl ?_ | refine T_condV rfl ?_ | refine U_guard rfl rfl ?_ | ((with_reducible refine Gd_skipT ?_ ?_); exact rfl) | ((with_reducible refine Gd_skipF ?_ ?_); exact rfl))
                    refine U_call rfl rfl (Tryz.call21 _) (hall) ?_
                    rintro r w11 ⟨k11, ys, y1, y2, y3⟩
                    obtain ⟨Ay, cy, rfl⟩ := y2.val
                    repeat (first | (with_reducible first | apply T_seq | apply T_region | apply U_nil | apply T_skip | apply T_block | apply T_inBlock | apply Cnd_t | apply Cnd_f | apply Cnd_not | apply Cnd_some | apply Cnd_none | apply Gd_nt | apply Gd_nf | apply Gd_some | apply Gd_none | apply Gd_want) | refine U_ar rfl rfl rfl (wrap_k (by simp only [wrapOk]; omega)) rfl ?_ | refine U_cv E rfl rfl rfl (wrap_k (by simp only [wrapOk]; omega)) rfl ?_ | refine U_pure E rfl rfl ?_ | refine T_exit rfl ?_ | refine T_condV rfl ?_ | refine U_guard rfl rfl ?_ | ((with_reducible refine Gd_skipT ?_ ?_); exact rfl) | ((with_reducible refine Gd_skipF ?_ ?_); exact rfl))
                    refine U_call rfl rfl (Tryz.call11 _) (rpages_c w11 p.length (by omega)) ?_
                    rintro r w12 ⟨rfl, rfl⟩
                    have k04 : Kept none0 w w12 := k03.tr k11 (fun _ _ x => x)
                    have hls4 := hls3.mv k11 (fun _ _ _ x => x)
                    have hts4 := hts3.mv k11 (fun _ _ _ x => x)
                    have hp4 := hp3.mv k11 (fun _ _ _ x => x)
                    have hD4 := hD3.same k11
                    have hR4 := hR3.same hD3.lt k11
                    have hlt4 := hR4.lt2 hD4.lt
                    repeat (first | (with_reducible first | apply T_seq | apply T_region | apply U_nil | apply T_skip | apply T_block | apply T_inBlock | apply Cnd_t | apply Cnd_f | apply Cnd_not | apply Cnd_some | apply Cnd_none | apply Gd_nt | apply Gd_nf | apply Gd_some | apply Gd_none | apply Gd_want) | refine U_ar rfl rfl rfl (wrap_k (by simp only [wrapOk]; omega)) rfl ?_ | refine U_cv E rfl rfl rfl (wrap_k (by simp only [wrapOk]; omega)) rfl ?_ | refine U_pure E rfl rfl ?_ | refine T_exit rfl ?_ | refine T_condV rfl ?_ | refine U_guard rfl rfl ?_ | ((with_reducible refine Gd_skipT ?_ ?_); exact rfl) | ((with_reducible refine Gd_skipF ?_ ?_); exact rfl))
                    refine Cnd_p (fun hgt => ?_) (fun hgt => ?_)
                    · have he : appE D g l.length (allP g 0 l).length p = 6 ∧ appD D g l.length (allP g 0 l).length p = D := app_full (by omega) (by rw [hz]; omega)
                      rw [he.1] at hR4
                      rw [he.2] at hD4
                      rw [if_neg (by decide), if_neg (by decide)] at hR4
                      rw [he.1]
                      repeat (first | (with_reducible first | apply T_seq | apply T_region | apply U_nil | apply T_skip | apply T_block | apply T_inBlock | apply Cnd_t | apply Cnd_f | apply Cnd_not | apply Cnd_some | apply Cnd_none | apply Gd_nt | apply Gd_nf | apply Gd_some | apply Gd_none | apply Gd_want) | refine U_ar rfl rfl rfl (wrap_k (by simp only [wrapOk]; omega)) rfl ?_ | refine U_cv E rfl rfl rfl (wrap_k (by simp only [wrapOk]; omega)) rfl ?_ | refine U_pure E rfl rfl ?_ | refine T_exit rfl ?_ | refine T_condV rfl ?_ | refine U_guard rfl rfl ?_ | ((with_reducible refine Gd_skipT ?_ ?_); exact rfl) | ((with_reducible refine Gd_skipF ?_ ?_); exact rfl))
                      refine U_call rfl rfl (Tryz.call12 _) (code_c w12 6 (hL.mv k04 (fun x => x))) ?_
                      rintro r w13 ⟨rfl, k13⟩
                      repeat (first | (with_reducible first | apply T_seq | apply T_region | apply U_nil | apply T_skip | apply T_block | apply T_inBlock | apply Cnd_t | apply Cnd_f | apply Cnd_not | apply Cnd_some | apply Cnd_none | apply Gd_nt | apply Gd_nf | apply Gd_some | apply Gd_none | apply Gd_want) | refine U_ar rfl rfl rfl (wrap_k (by simp only [wrapOk]; omega)) rfl ?_ | refine U_cv E rfl rfl rfl (wrap_k (by simp only [wrapOk]; omega)) rfl ?_ | refine U_pure E rfl rfl ?_ | refine T_exit rfl ?_ | refine T_condV rfl ?_ | refine U_guard rfl rfl ?_ | ((with_reducible refine Gd_skipT ?_ ?_); exact rfl) | ((with_reducible refine Gd_skipF ?_ ?_); exact rfl))
                      refine Cnd_b (fun e => absurd e (by decide)) (fun _ => ?_)
                      have hI : HI w w12 S (i + 1) ⟨F3, Fr3, hb, rb, D, g, l, sure, false, turning, tp, vl, vt, g, l, (allP g 0 l).length⟩ := ⟨k04, hnw3, hD4, hR4, hlen, by dsimp only; omega, hls4, hts4, htl, hpl, by dsimp only; omega, by dsimp only; omega, .inl ⟨rfl, ht0, hri, hold, rfl, rfl, rfl⟩⟩
                      repeat (first | (with_reducible first | apply T_seq | apply T_region | apply U_nil | apply T_skip | apply T_block | apply T_inBlock | apply Cnd_t | apply Cnd_f | apply Cnd_not | apply Cnd_some | apply Cnd_none | apply Gd_nt | apply Gd_nf | apply Gd_some | apply Gd_none | apply Gd_want) | refine U_ar rfl rfl rfl (wrap_k (by simp only [wrapOk]; omega)) rfl ?_ | refine U_cv E rfl rfl rfl (wrap_k (by simp only [wrapOk]; omega)) rfl ?_ | refine U_pure E rfl rfl ?_ | refine T_exit rfl ?_ | refine T_condV rfl ?_ | refine U_guard rfl rfl ?_ | ((with_reducible refine Gd_skipT ?_ ?_); exact rfl) | ((with_reducible refine Gd_skipF ?_ ?_); exact rfl))
                      refine T.less ?_ (f1 _ w13 (hI.same k13))
                      exact ⟨rfl, rfl, rfl, rfl, rfl, rfl, rfl, rfl, rfl, rfl, rfl, rfl, trivial⟩
                    · obtain ⟨he, hold', hri'⟩ := app_safe (p := p) hri hold (rec_ok (by omega) (by omega) (by omega)) (by rw [hz]; omega)
                      rcases he with he | he
                      · have hri' := hri' he
                        rw [he] at hR4 ⊢
                        rw [if_pos rfl, if_pos rfl] at hR4
                        unfold errV
                        obtain ⟨bl, ol, cl, us, hvl, hcl, hus, hsl, hfull, hel⟩ := rs_pos hls4 (by omega)
                        subst hvl
                        repeat (first | (with_reducible first | apply T_seq | apply T_region | apply U_nil | apply T_skip | apply T_block | apply T_inBlock | apply Cnd_t | apply Cnd_f | apply Cnd_not | apply Cnd_some | apply Cnd_none | apply Gd_nt | apply Gd_nf | apply Gd_some | apply Gd_none | apply Gd_want) | refine U_ar rfl rfl rfl (wrap_k (by simp only [wrapOk]; omega)) rfl ?_ | refine U_cv E rfl rfl rfl (wrap_k (by simp only [wrapOk]; omega)) rfl ?_ | refine U_pure E rfl rfl ?_ | refine T_exit rfl ?_ | refine T_condV rfl ?_ | refine U_guard rfl rfl ?_ | ((with_reducible refine Gd_skipT ?_ ?_); exact rfl) | ((with_reducible refine Gd_skipF ?_ ?_); exact rfl))
                        refine U_run rfl rfl rfl (ro_slice3 E rfl rfl rfl rfl rfl (by omega) hcl) ?_
                        repeat (first | (with_reducible first | apply T_seq | apply T_region | apply U_nil | apply T_skip | apply T_block | apply T_inBlock | apply Cnd_t | apply Cnd_f | apply Cnd_not | apply Cnd_some | apply Cnd_none | apply Gd_nt | apply Gd_nf | apply Gd_some | apply Gd_none | apply Gd_want) | refine U_ar rfl rfl rfl (wrap_k (by simp only [wrapOk]; omega)) rfl ?_ | refine U_cv E rfl rfl rfl (wrap_k (by simp only [wrapOk]; omega)) rfl ?_ | refine U_pure E rfl rfl ?_ | refine T_exit rfl ?_ | refine T_condV rfl ?_ | refine U_guard rfl rfl ?_ | ((with_reducible refine Gd_skipT ?_ ?_); exact rfl) | ((with_reducible refine Gd_skipF ?_ ?_); exact rfl))
                        refine U_buildSlice (sz := 1) E rfl rfl rfl rfl rfl rfl rfl rfl (segs := [[(Value.slice Ap p.length cp)]]) (by rw [List.map_cons, List.map_cons, bs_cells hp4]; rfl) (by simp) rfl ?_
                        intro b5 w5 hn5
                        refine U_append_full E (hfull.mv hn5.kept (fun _ _ _ x => x)) (one_sl hn5.blk) (by decide) rfl rfl rfl rfl rfl (by omega) (by omega) rfl ?_
                        intro vo' w6 hr6 k6
                        have hls6 := RS.snoc (G := fun b => fresh w b ∧ ¬ uni F3 Fr3 b) (fun b e => ⟨by have := k04.size; simp only [fresh]; omega, fun e2 => by have := hlt4 b e2; omega⟩) hus (by omega) hel hp4 hn5 (by rw [hus]; exact hr6) k6
                        have k46 : Kept none0 w12 w6 := hn5.kept.tr k6 (fun _ _ x => x)
                        repeat (first | (with_reducible first | apply T_seq | apply T_region | apply U_nil | apply T_skip | apply T_block | apply T_inBlock | apply Cnd_t | apply Cnd_f | apply Cnd_not | apply Cnd_some | apply Cnd_none | apply Gd_nt | apply Gd_nf | apply Gd_some | apply Gd_none | apply Gd_want) | refine U_ar rfl rfl rfl (wrap_k (by simp only [wrapOk]; omega)) rfl ?_ | refine U_cv E rfl rfl rfl (wrap_k (by simp only [wrapOk]; omega)) rfl ?_ | refine U_pure E rfl rfl ?_ | refine T_exit rfl ?_ | refine T_condV rfl ?_ | refine U_guard rfl rfl ?_ | ((with_reducible refine Gd_skipT ?_ ?_); exact rfl) | ((with_reducible refine Gd_skipF ?_ ?_); exact rfl))
                        refine T.less ?_ (f1 ⟨F3, Fr3, hb, rb, appD D g l.length (allP g 0 l).length p, g, l ++ [p], sure, false, turning, tp, vo', vt, g, l ++ [p], (allP g 0 l).length + pgs p.length⟩ w6 ⟨k04.tr k46 (fun _ _ x => x), hnw3, hD4.same k46, (hR4.same hD4.lt k46), by dsimp only; rw [hwt.2]; exact hlen, by dsimp only; omega, hls6, hts4.mv k46 (fun _ _ _ x => x), htl, ?_, by dsimp only; omega, by dsimp only; rw [List.length_append, List.length_singleton]; omega, (.inl ⟨rfl, ht0, hri', hold', rfl, rfl, by rw [allP_snoc, List.length_append, lay_len]⟩)⟩)
                        · exact ⟨rfl, rfl, rfl, rfl, rfl, rfl, rfl, rfl, rfl, rfl, rfl, rfl, trivial⟩
                        · intro q hq
                          rcases List.mem_append.1 hq with hq | hq
                          · exact hpl q hq
                          · rw [List.mem_singleton.1 hq]; omega
                      · rw [he] at hR4 ⊢
                        rw [if_neg (by decide), if_neg (by decide)] at hR4
                        unfold errV
                        obtain ⟨bl, ol, cl, us, hvl, hcl, hus, hsl, hfull, hel⟩ := rs_pos hls4 (by omega)
                        subst hvl
                        repeat (first | (with_reducible first | apply T_seq | apply T_region | apply U_nil | apply T_skip | apply T_block | apply T_inBlock | apply Cnd_t | apply Cnd_f | apply Cnd_not | apply Cnd_some | apply Cnd_none | apply Gd_nt | apply Gd_nf | apply Gd_some | apply Gd_none | apply Gd_want) | refine U_ar rfl rfl rfl (wrap_k (by simp only [wrapOk]; omega)) rfl ?_ | refine U_cv E rfl rfl rfl (wrap_k (by simp only [wrapOk]; omega)) rfl ?_ | refine U_pure E rfl rfl ?_ | refine T_exit rfl ?_ | refine T_condV rfl ?_ | refine U_guard rfl rfl ?_ | ((with_reducible refine Gd_skipT ?_ ?_); exact rfl) | ((with_reducible refine Gd_skipF ?_ ?_); exact rfl))
                        refine U_run rfl rfl rfl (ro_slice3 E rfl rfl rfl rfl rfl (by omega) hcl) ?_
                        repeat (first | (with_reducible first | apply T_seq | apply T_region | apply U_nil | apply T_skip | apply T_block | apply T_inBlock | apply Cnd_t | apply Cnd_f | apply Cnd_not | apply Cnd_some | apply Cnd_none | apply Gd_nt | apply Gd_nf | apply Gd_some | apply Gd_none | apply Gd_want) | refine U_ar rfl rfl rfl (wrap_k (by simp only [wrapOk]; omega)) rfl ?_ | refine U_cv E rfl rfl rfl (wrap_k (by simp only [wrapOk]; omega)) rfl ?_ | refine U_pure E rfl rfl ?_ | refine T_exit rfl ?_ | refine T_condV rfl ?_ | refine U_guard rfl rfl ?_ | ((with_reducible refine Gd_skipT ?_ ?_); exact rfl) | ((with_reducible refine Gd_skipF ?_ ?_); exact rfl))
                        refine U_buildSlice (sz := 1) E rfl rfl rfl rfl rfl rfl rfl rfl (segs := [[(Value.slice Ap p.length cp)]]) (by rw [List.map_cons, List.map_cons, bs_cells hp4]; rfl) (by simp) rfl ?_
                        intro b5 w5 hn5
                        refine U_append_full E (hfull.mv hn5.kept (fun _ _ _ x => x)) (one_sl hn5.blk) (by decide) rfl rfl rfl rfl rfl (by omega) (by omega) rfl ?_
                        intro vo' w6 hr6 k6
                        have hls6 := RS.snoc (G := fun b => fresh w b ∧ ¬ uni F3 Fr3 b) (fun b e => ⟨by have := k04.size; simp only [fresh]; omega, fun e2 => by have := hlt4 b e2; omega⟩) hus (by omega) hel hp4 hn5 (by rw [hus]; exact hr6) k6
                        have k46 : Kept none0 w12 w6 := hn5.kept.tr k6 (fun _ _ x => x)
                        repeat (first | (with_reducible first | apply T_seq | apply T_region | apply U_nil | apply T_skip | apply T_block | apply T_inBlock | apply Cnd_t | apply Cnd_f | apply Cnd_not | apply Cnd_some | apply Cnd_none | apply Gd_nt | apply Gd_nf | apply Gd_some | apply Gd_none | apply Gd_want) | refine U_ar rfl rfl rfl (wrap_k (by simp only [wrapOk]; omega)) rfl ?_ | refine U_cv E rfl rfl rfl (wrap_k (by simp only [wrapOk]; omega)) rfl ?_ | refine U_pure E rfl rfl ?_ | refine T_exit rfl ?_ | refine T_condV rfl ?_ | refine U_guard rfl rfl ?_ | ((with_reducible refine Gd_skipT ?_ ?_); exact rfl) | ((with_reducible refine Gd_skipF ?_ ?_); exact rfl))
                        refine T.less ?_ (f1 ⟨F3, Fr3, hb, rb, appD D g l.length (allP g 0 l).length p, g, l ++ [p], sure, true, turning, tp, vo', vt, g, l, (allP g 0 l).length⟩ w6 ⟨k04.tr k46 (fun _ _ x => x), hnw3, hD4.same k46, (hR4.same hD4.lt k46), by dsimp only; rw [hwt.2]; exact hlen, by dsimp only; omega, hls6, hts4.mv k46 (fun _ _ _ x => x), htl, ?_, by dsimp only; omega, by dsimp only; rw [List.length_append, List.length_singleton]; omega, (.inr (.inl ⟨rfl, hold'⟩))⟩)
                        · exact ⟨rfl, rfl, rfl, rfl, rfl, rfl, rfl, rfl, rfl, rfl, rfl, rfl, trivial⟩
                        · intro q hq
                          rcases List.mem_append.1 hq with hq | hq
                          · exact hpl q hq
                          · rw [List.mem_singleton.1 hq]; omega
                  · repeat (first | (with_reducible first | apply T_seq | apply T_region | apply U_nil | apply T_skip | apply T_block | apply T_inBlock | apply Cnd_t | apply Cnd_f | apply Cnd_not | apply Cnd_some | apply Cnd_none | apply Gd_nt | apply Gd_nf | apply Gd_some | apply Gd_none | apply Gd_want) | refine U_ar rfl rfl rfl (wrap_k (by simp only [wrapOk]; omega)) rfl ?_ | refine U_cv E rfl rfl rfl (wrap_k (by simp only [wrapOk]; omega)) rfl ?_ | refine U_pure E rfl rfl ?_ | refine T_exit rfl ?_ | refine T_condV rfl ?_ | refine U_guard rfl rfl ?_ | ((with_reducible refine Gd_skipT ?_ ?_); exact rfl) | ((with_reducible refine Gd_skipF ?_ ?_); exact rfl))
                    refine T_exit hkk ?_
                    refine T.less ?_ (f2 _ w9 (hstay w9 (Kept.refl _ _)))
                    exact ⟨rfl, rfl, rfl, rfl, rfl, rfl, rfl, rfl, rfl, rfl, rfl, rfl, trivial⟩
  · repeat (first | (with_reducible first | apply T_seq | apply T_region | apply U_nil | apply T_skip | apply T_block | apply T_inBlock | apply Cnd_t | apply Cnd_f | apply Cnd_not | apply Cnd_some | apply Cnd_none | apply Gd_nt | apply Gd_nf | apply Gd_some | apply Gd_none | apply Gd_want) | refine U_ar rfl rfl rfl (wrap_k (by simp only [wrapOk]; omega)) rfl ?_ | refine U_cv E rfl rfl rfl (wrap_k (by simp only [wrapOk]; omega)) rfl ?_ | refine U_pure E rfl rfl ?_ | refine T_exit rfl ?_ | refine T_condV rfl ?_ | refine U_guard rfl rfl ?_ | ((with_reducible refine Gd_skipT ?_ ?_); exact rfl) | ((with_reducible refine Gd_skipF ?_ ?_); exact rfl))
    exact T_ret1 Tryz.func3 rfl rfl ⟨_, rfl, rfl, hx6.k⟩
end Go.Proofs.YtoefhdaenaiomaaGreatDoor
