/- Frames: Clone, Frame, Next. -/
import Derived.Test.YtoefhdaenaiomaaDoorPd5
import Derived.Test.YtoefhdaenaiomaaDoorPd2
set_option linter.unusedVariables false
set_option linter.unusedSimpArgs false
namespace Go.Proofs.YtoefhdaenaiomaaDoor
open Go
set_option maxRecDepth 20000

section
variable {P : Program} {w : World} {m : Fm} {n : Nat} {t ty t2 : TypeId} {ps : String} {af : Array Edge}
theorem ro_convI (E : Env P) {s t : TypeId} {x : Operand} {k k' : IntKind} {z r : Int} {d : TypeDesc × Nat} {q : Nat} (hs : E.ty s = some d) (ht : E.ty t = some (.int k', q)) (hx : ev m x = some (.int k z)) (hz : k'.wrap z = r) {dst : Option Tmp} {gd : Option (Nat × Bool)} :
    ∀ a, Fits a n m → (execOp a.eval { dst := dst, op := .convert s t x, type := ty, pos := ps, after := af, guard := gd }).run P w = .ok (.value (.int k' r)) w := by
  intro a ha
  have := run_pv (v := .int k' (k'.wrap z)) E ha (op := .convert s t x) (by simp [pv, hs, ht, hx]) dst ty ps af gd (w := w)
  rw [hz] at this
  exact this
end

theorem New.row {w w' : World} {b N : Nat} {l : List UInt8} (h : New w w' b (encBs l) 5) (hl : l.length = N) : Row w' (fun x => x = b) (.slice (some ⟨b, 0, none⟩) N N) 1 N (encBs l) 5 := by
  refine ⟨by rw [encBs_len, hl, Nat.mul_one], .inr ⟨b, N, [], rfl, rfl, by rw [List.append_nil]; exact h.blk, by rw [List.append_nil, encBs_len, hl, Nat.mul_one], Nat.le_refl _⟩⟩

theorem encBs_app (l l' : List UInt8) : encBs (l ++ l') = encBs l ++ encBs l' := List.map_append ..

theorem bclone_c (w : World) (G : Nat → Prop) (v : Value) (l : List UInt8) (h : BS w G v l) (hN : l.length ≤ 1000000) :
    Calls Tryd.prog 68 [v].toArray w (Ret fun r w' => Kept none0 w w' ∧ BS w' (fresh w) r l) := by
  refine calls_T Tryd.func68 rfl rfl rfl ?_
  obtain ⟨A, c, rfl⟩ := h.len
  cases A with
  | none =>
    have hl0 : l = [] := by
      obtain ⟨_, _, A, c', e, _, h5⟩ := h
      rcases h5 with h5 | ⟨b, o, rfl, _⟩
      · exact List.eq_nil_of_length_eq_zero h5
      · cases e
    subst hl0
    repeat (first | (with_reducible first | apply T_seq | apply T_region | apply U_nil | apply T_skip | apply T_block | apply T_inBlock | apply Cnd_t | apply Cnd_f | apply Cnd_not | apply Cnd_some | apply Cnd_none | apply Gd_nt | apply Gd_nf | apply Gd_some | apply Gd_none | apply Gd_want) | refine U_ar rfl rfl rfl (wrap_i64 (by omega)) rfl ?_ | refine U_pure E rfl rfl ?_ | refine T_exit rfl ?_ | refine T_condV rfl ?_ | refine U_guard rfl rfl ?_ | ((with_reducible refine Gd_skipT ?_ ?_); exact rfl) | ((with_reducible refine Gd_skipF ?_ ?_); exact rfl))
    exact T_ret1 Tryd.func68 rfl rfl ⟨_, rfl, Kept.refl _ _, by decide, rfl, none, 0, rfl, Nat.le_refl _, .inl rfl⟩
  | some a =>
    repeat (first | (with_reducible first | apply T_seq | apply T_region | apply U_nil | apply T_skip | apply T_block | apply T_inBlock | apply Cnd_t | apply Cnd_f | apply Cnd_not | apply Cnd_some | apply Cnd_none | apply Gd_nt | apply Gd_nf | apply Gd_some | apply Gd_none | apply Gd_want) | refine U_ar rfl rfl rfl (wrap_i64 (by omega)) rfl ?_ | refine U_pure E rfl rfl ?_ | refine T_exit rfl ?_ | refine T_condV rfl ?_ | refine U_guard rfl rfl ?_ | ((with_reducible refine Gd_skipT ?_ ?_); exact rfl) | ((with_reducible refine Gd_skipF ?_ ?_); exact rfl))
    refine U_buildSlice0 E rfl rfl rfl ?_
    intro b w1 hn
    repeat (first | (with_reducible first | apply T_seq | apply T_region | apply U_nil | apply T_skip | apply T_block | apply T_inBlock | apply Cnd_t | apply Cnd_f | apply Cnd_not | apply Cnd_some | apply Cnd_none | apply Gd_nt | apply Gd_nf | apply Gd_some | apply Gd_none | apply Gd_want) | refine U_ar rfl rfl rfl (wrap_i64 (by omega)) rfl ?_ | refine U_pure E rfl rfl ?_ | refine T_exit rfl ?_ | refine T_condV rfl ?_ | refine U_guard rfl rfl ?_ | ((with_reducible refine Gd_skipT ?_ ?_); exact rfl) | ((with_reducible refine Gd_skipF ?_ ?_); exact rfl))
    have hr0 : Row w1 (fun x => x = b) (.slice (some ⟨b, 0, none⟩) 0 0) 1 0 (encBs []) 5 := hn.row (l := []) rfl
    refine U_append E hr0 (h.mv hn.kept (fun _ _ _ x => x)) (encBs_one l) rfl rfl rfl rfl rfl (by omega) (by omega) rfl ?_
    intro v' w2 hr2 hk2 _ hob
    have e1 := hn.at_
    repeat (first | (with_reducible first | apply T_seq | apply T_region | apply U_nil | apply T_skip | apply T_block | apply T_inBlock | apply Cnd_t | apply Cnd_f | apply Cnd_not | apply Cnd_some | apply Cnd_none | apply Gd_nt | apply Gd_nf | apply Gd_some | apply Gd_none | apply Gd_want) | refine U_ar rfl rfl rfl (wrap_i64 (by omega)) rfl ?_ | refine U_pure E rfl rfl ?_ | refine T_exit rfl ?_ | refine T_condV rfl ?_ | refine U_guard rfl rfl ?_ | ((with_reducible refine Gd_skipT ?_ ?_); exact rfl) | ((with_reducible refine Gd_skipF ?_ ?_); exact rfl))
    refine T_ret1 Tryd.func68 rfl rfl ⟨_, rfl, hn.kept.tr hk2 (fun j hj (e : some b = some j) => by injection e; omega), ?_⟩
    have s1 := hn.size
    have := (hr2.mono (G := fresh w) (fun j _ hj => by simp only [fresh]; rcases hj with hj | hj <;> omega)).sl (by omega)
    rw [Nat.zero_add] at this
    exact this

theorem frame_c (w : World) (G : Nat → Prop) (v : Value) (l : List UInt8) (s : Nat) (hs : s < 4294967296) (h : BS w G v l) (hN : l.length ≤ 1000000) :
    Calls Tryd.prog 20 [.int .u32 s, v].toArray w (Ret fun r w' => Kept none0 w w' ∧ BS w' (fresh w) r (frm s l)) := by
  refine calls_T Tryd.func20 rfl rfl rfl ?_
  obtain ⟨A, c, rfl⟩ := h.len
  repeat (first | (with_reducible first | apply T_seq | apply T_region | apply U_nil | apply T_skip | apply T_block | apply T_inBlock | apply Cnd_t | apply Cnd_f | apply Cnd_not | apply Cnd_some | apply Cnd_none | apply Gd_nt | apply Gd_nf | apply Gd_some | apply Gd_none | apply Gd_want) | refine U_ar rfl rfl rfl (wrap_i64 (by omega)) rfl ?_ | refine U_pure E rfl rfl ?_ | refine T_exit rfl ?_ | refine T_condV rfl ?_ | refine U_guard rfl rfl ?_ | ((with_reducible refine Gd_skipT ?_ ?_); exact rfl) | ((with_reducible refine Gd_skipF ?_ ?_); exact rfl))
  rw [wrap_u32 (by omega)]
  refine U_call rfl rfl (Tryd.call65 _) (word_c w l.length (by omega)) ?_
  rintro r w1 ⟨b, rfl, hn⟩
  have hr1 := hn.row (le4_len _)
  have e1 := hn.at_
  have s1 := hn.size
  repeat (first | (with_reducible first | apply T_seq | apply T_region | apply U_nil | apply T_skip | apply T_block | apply T_inBlock | apply Cnd_t | apply Cnd_f | apply Cnd_not | apply Cnd_some | apply Cnd_none | apply Gd_nt | apply Gd_nf | apply Gd_some | apply Gd_none | apply Gd_want) | refine U_ar rfl rfl rfl (wrap_i64 (by omega)) rfl ?_ | refine U_pure E rfl rfl ?_ | refine T_exit rfl ?_ | refine T_condV rfl ?_ | refine U_guard rfl rfl ?_ | ((with_reducible refine Gd_skipT ?_ ?_); exact rfl) | ((with_reducible refine Gd_skipF ?_ ?_); exact rfl))
  refine U_append E hr1 (h.mv hn.kept (fun _ _ _ x => x)) (encBs_one l) rfl rfl rfl rfl rfl (by omega) (by omega) rfl ?_
  intro v2 w2 hr2 hk2 _ hob2
  have hk2' : Kept none0 w w2 := hn.kept.tr hk2 (fun j hj (e : some b = some j) => by injection e; omega)
  have s2 := hk2.size
  have hql : (le4 l.length ++ l).length = 4 + l.length := by rw [List.length_append, le4_len]
  have hr2' : Row w2 (fresh w) v2 1 (le4 l.length ++ l).length (encBs (le4 l.length ++ l)) 5 := by
    rw [hql, encBs_app]
    exact hr2.mono (fun j _ hj => by simp only [fresh]; rcases hj with hj | hj <;> omega)
  have hb2 : BS w2 (fresh w) v2 (le4 l.length ++ l) := hr2'.sl (by omega)
  repeat (first | (with_reducible first | apply T_seq | apply T_region | apply U_nil | apply T_skip | apply T_block | apply T_inBlock | apply Cnd_t | apply Cnd_f | apply Cnd_not | apply Cnd_some | apply Cnd_none | apply Gd_nt | apply Gd_nf | apply Gd_some | apply Gd_none | apply Gd_want) | refine U_ar rfl rfl rfl (wrap_i64 (by omega)) rfl ?_ | refine U_pure E rfl rfl ?_ | refine T_exit rfl ?_ | refine T_condV rfl ?_ | refine U_guard rfl rfl ?_ | ((with_reducible refine Gd_skipT ?_ ?_); exact rfl) | ((with_reducible refine Gd_skipF ?_ ?_); exact rfl))
  refine U_call rfl rfl (Tryd.call43 _) (check_c w2 (fresh w) v2 (le4 l.length ++ l) s hs hb2) ?_
  rintro r w3 ⟨rfl, hk3⟩
  have s3 := hk3.size
  repeat (first | (with_reducible first | apply T_seq | apply T_region | apply U_nil | apply T_skip | apply T_block | apply T_inBlock | apply Cnd_t | apply Cnd_f | apply Cnd_not | apply Cnd_some | apply Cnd_none | apply Gd_nt | apply Gd_nf | apply Gd_some | apply Gd_none | apply Gd_want) | refine U_ar rfl rfl rfl (wrap_i64 (by omega)) rfl ?_ | refine U_pure E rfl rfl ?_ | refine T_exit rfl ?_ | refine T_condV rfl ?_ | refine U_guard rfl rfl ?_ | ((with_reducible refine Gd_skipT ?_ ?_); exact rfl) | ((with_reducible refine Gd_skipF ?_ ?_); exact rfl))
  refine U_call rfl rfl (Tryd.call65 _) (word_c w3 _ (chk_lt s _)) ?_
  rintro r w4 ⟨b4, rfl, hn4⟩
  have hk4 : Kept none0 w2 w4 := hk3.tr hn4.kept (fun _ _ x => x)
  have s4 := hk4.size
  have l4 := le4_len (chk s (le4 l.length ++ l))
  repeat (first | (with_reducible first | apply T_seq | apply T_region | apply U_nil | apply T_skip | apply T_block | apply T_inBlock | apply Cnd_t | apply Cnd_f | apply Cnd_not | apply Cnd_some | apply Cnd_none | apply Gd_nt | apply Gd_nf | apply Gd_some | apply Gd_none | apply Gd_want) | refine U_ar rfl rfl rfl (wrap_i64 (by omega)) rfl ?_ | refine U_pure E rfl rfl ?_ | refine T_exit rfl ?_ | refine T_condV rfl ?_ | refine U_guard rfl rfl ?_ | ((with_reducible refine Gd_skipT ?_ ?_); exact rfl) | ((with_reducible refine Gd_skipF ?_ ?_); exact rfl))
  refine U_append E (hr2'.mv hk4 (fun _ _ _ x => x)) (hn4.bs (le4_len _) (by decide) (fun _ => True) trivial) (encBs_one _) rfl rfl rfl rfl rfl (by omega) (by omega) rfl ?_
  intro v5 w5 hr5 hk5 _ hob5
  repeat (first | (with_reducible first | apply T_seq | apply T_region | apply U_nil | apply T_skip | apply T_block | apply T_inBlock | apply Cnd_t | apply Cnd_f | apply Cnd_not | apply Cnd_some | apply Cnd_none | apply Gd_nt | apply Gd_nf | apply Gd_some | apply Gd_none | apply Gd_want) | refine U_ar rfl rfl rfl (wrap_i64 (by omega)) rfl ?_ | refine U_pure E rfl rfl ?_ | refine T_exit rfl ?_ | refine T_condV rfl ?_ | refine U_guard rfl rfl ?_ | ((with_reducible refine Gd_skipT ?_ ?_); exact rfl) | ((with_reducible refine Gd_skipF ?_ ?_); exact rfl))
  refine T_ret1 Tryd.func20 rfl rfl ⟨_, rfl, (hk2'.tr hk4 (fun _ _ x => x)).tr hk5 (fun j hj e => by have := (hr2'.own j e).1; simp only [fresh] at this; omega), ?_⟩
  have := (hr5.mono (G := fresh w) (fun j _ hj => by simp only [fresh] at *; rcases hj with hj | hj <;> omega)).sl (by omega)
  rw [← encBs_app] at this
  unfold BS frm
  have e := @List.length_append _ (le4 l.length ++ l) (le4 (chk s (le4 l.length ++ l)))
  rw [e]
  exact this

theorem sl_nil (w : World) (G : Nat → Prop) : BS w G (.slice none 0 0) [] := ⟨by decide, rfl, none, 0, rfl, Nat.le_refl _, .inl rfl⟩

theorem next_c (w : World) (G : Nat → Prop) (v : Value) (l : List UInt8) (s : Nat) (hs : s < 4294967296) (h : BS w G v l) (hN : l.length ≤ 1000000) :
    Calls Tryd.prog 21 [.int .u32 s, v].toArray w (Ret fun r w' => Kept none0 w w' ∧ ∃ u, r = .tuple #[u, .int .i64 (nLen s l : Nat), errV (nErr s l)] ∧ BS w' (fresh w) u (nRec s l)) := by
  have bad : ∀ (k : Nat), nErr s l = k + 1 → nLen s l = 0 ∧ nRec s l = [] := fun k hk => by
    constructor
    · rw [nLen, if_neg (by omega)]
    · rw [nRec, if_neg (by omega)]
  refine calls_T Tryd.func21 rfl rfl rfl ?_
  obtain ⟨A, c, rfl⟩ := h.len
  repeat (first | (with_reducible first | apply T_seq | apply T_region | apply U_nil | apply T_skip | apply T_block | apply T_inBlock | apply Cnd_t | apply Cnd_f | apply Cnd_not | apply Cnd_some | apply Cnd_none | apply Gd_nt | apply Gd_nf | apply Gd_some | apply Gd_none | apply Gd_want) | refine U_ar rfl rfl rfl (wrap_i64 (by omega)) rfl ?_ | refine U_pure E rfl rfl ?_ | refine T_exit rfl ?_ | refine T_condV rfl ?_ | refine U_guard rfl rfl ?_ | ((with_reducible refine Gd_skipT ?_ ?_); exact rfl) | ((with_reducible refine Gd_skipF ?_ ?_); exact rfl))
  refine U_call rfl rfl (Tryd.call66 _) (trim_c w G _ l h) ?_
  rintro r w1 ⟨hd1, A1, n1, c1, rfl, hz⟩
  have h1 := h.mv (hd1.kept none0) (fun _ _ _ x => x)
  have k1 : Kept none0 w w1 := hd1.kept none0
  repeat (first | (with_reducible first | apply T_seq | apply T_region | apply U_nil | apply T_skip | apply T_block | apply T_inBlock | apply Cnd_t | apply Cnd_f | apply Cnd_not | apply Cnd_some | apply Cnd_none | apply Gd_nt | apply Gd_nf | apply Gd_some | apply Gd_none | apply Gd_want) | refine U_ar rfl rfl rfl (wrap_i64 (by omega)) rfl ?_ | refine U_pure E rfl rfl ?_ | refine T_exit rfl ?_ | refine T_condV rfl ?_ | refine U_guard rfl rfl ?_ | ((with_reducible refine Gd_skipT ?_ ?_); exact rfl) | ((with_reducible refine Gd_skipF ?_ ?_); exact rfl))
  refine Cnd_p (fun h0 => ?_) (fun h0 => ?_)
  · have he : nErr s l = 3 := by rw [nErr, if_pos (hz.1 (by omega))]
    obtain ⟨e1, e2⟩ := bad 2 he
    repeat (first | (with_reducible first | apply T_seq | apply T_region | apply U_nil | apply T_skip | apply T_block | apply T_inBlock | apply Cnd_t | apply Cnd_f | apply Cnd_not | apply Cnd_some | apply Cnd_none | apply Gd_nt | apply Gd_nf | apply Gd_some | apply Gd_none | apply Gd_want) | refine U_ar rfl rfl rfl (wrap_i64 (by omega)) rfl ?_ | refine U_pure E rfl rfl ?_ | refine T_exit rfl ?_ | refine T_condV rfl ?_ | refine U_guard rfl rfl ?_ | ((with_reducible refine Gd_skipT ?_ ?_); exact rfl) | ((with_reducible refine Gd_skipF ?_ ?_); exact rfl))
    refine T_ret3 Tryd.func21 rfl rfl rfl rfl ⟨_, rfl, k1, .slice none 0 0, ?_, ?_⟩
    · rw [he, e1]; rfl
    · rw [e2]; exact sl_nil _ _
  · have hnz : ¬ zz l := fun e => h0 (by rw [hz.2 e]; rfl)
    repeat (first | (with_reducible first | apply T_seq | apply T_region | apply U_nil | apply T_skip | apply T_block | apply T_inBlock | apply Cnd_t | apply Cnd_f | apply Cnd_not | apply Cnd_some | apply Cnd_none | apply Gd_nt | apply Gd_nf | apply Gd_some | apply Gd_none | apply Gd_want) | refine U_ar rfl rfl rfl (wrap_i64 (by omega)) rfl ?_ | refine U_pure E rfl rfl ?_ | refine T_exit rfl ?_ | refine T_condV rfl ?_ | refine U_guard rfl rfl ?_ | ((with_reducible refine Gd_skipT ?_ ?_); exact rfl) | ((with_reducible refine Gd_skipF ?_ ?_); exact rfl))
    refine Cnd_p (fun h8 => ?_) (fun h8 => ?_)
    · have he : nErr s l = 2 := by rw [nErr, if_neg hnz, if_pos (by omega)]
      obtain ⟨e1, e2⟩ := bad 1 he
      repeat (first | (with_reducible first | apply T_seq | apply T_region | apply U_nil | apply T_skip | apply T_block | apply T_inBlock | apply Cnd_t | apply Cnd_f | apply Cnd_not | apply Cnd_some | apply Cnd_none | apply Gd_nt | apply Gd_nf | apply Gd_some | apply Gd_none | apply Gd_want) | refine U_ar rfl rfl rfl (wrap_i64 (by omega)) rfl ?_ | refine U_pure E rfl rfl ?_ | refine T_exit rfl ?_ | refine T_condV rfl ?_ | refine U_guard rfl rfl ?_ | ((with_reducible refine Gd_skipT ?_ ?_); exact rfl) | ((with_reducible refine Gd_skipF ?_ ?_); exact rfl))
      refine T_ret3 Tryd.func21 rfl rfl rfl rfl ⟨_, rfl, k1, .slice none 0 0, ?_, ?_⟩
      · rw [he, e1]; rfl
      · rw [e2]; exact sl_nil _ _
    · have h8' : 8 ≤ l.length := by omega
      have hv4 := val4_lt l
      repeat (first | (with_reducible first | apply T_seq | apply T_region | apply U_nil | apply T_skip | apply T_block | apply T_inBlock | apply Cnd_t | apply Cnd_f | apply Cnd_not | apply Cnd_some | apply Cnd_none | apply Gd_nt | apply Gd_nf | apply Gd_some | apply Gd_none | apply Gd_want) | refine U_ar rfl rfl rfl (wrap_i64 (by omega)) rfl ?_ | refine U_pure E rfl rfl ?_ | refine T_exit rfl ?_ | refine T_condV rfl ?_ | refine U_guard rfl rfl ?_ | ((with_reducible refine Gd_skipT ?_ ?_); exact rfl) | ((with_reducible refine Gd_skipF ?_ ?_); exact rfl))
      refine U_call rfl rfl (Tryd.call67 _) (ret_of (number_c w1 G _ l (by omega) h1)) ?_
      rintro r w2 ⟨rfl, rfl⟩
      refine U_run rfl rfl rfl (ro_convI (r := (val4 l : Int)) E rfl rfl rfl (wrap_u64 (by omega))) ?_
      repeat (first | (with_reducible first | apply T_seq | apply T_region | apply U_nil | apply T_skip | apply T_block | apply T_inBlock | apply Cnd_t | apply Cnd_f | apply Cnd_not | apply Cnd_some | apply Cnd_none | apply Gd_nt | apply Gd_nf | apply Gd_some | apply Gd_none | apply Gd_want) | refine U_ar rfl rfl rfl (wrap_i64 (by omega)) rfl ?_ | refine U_pure E rfl rfl ?_ | refine T_exit rfl ?_ | refine T_condV rfl ?_ | refine U_guard rfl rfl ?_ | ((with_reducible refine Gd_skipT ?_ ?_); exact rfl) | ((with_reducible refine Gd_skipF ?_ ?_); exact rfl))
      rw [wrap_u64 (r := (l.length : Int) - 8) (by omega)]
      refine Cnd_p (fun hn => ?_) (fun hn => ?_)
      · have he : nErr s l = 2 := by rw [nErr, if_neg hnz, if_neg (by omega), if_pos (by omega)]
        obtain ⟨e1, e2⟩ := bad 1 he
        repeat (first | (with_reducible first | apply T_seq | apply T_region | apply U_nil | apply T_skip | apply T_block | apply T_inBlock | apply Cnd_t | apply Cnd_f | apply Cnd_not | apply Cnd_some | apply Cnd_none | apply Gd_nt | apply Gd_nf | apply Gd_some | apply Gd_none | apply Gd_want) | refine U_ar rfl rfl rfl (wrap_i64 (by omega)) rfl ?_ | refine U_pure E rfl rfl ?_ | refine T_exit rfl ?_ | refine T_condV rfl ?_ | refine U_guard rfl rfl ?_ | ((with_reducible refine Gd_skipT ?_ ?_); exact rfl) | ((with_reducible refine Gd_skipF ?_ ?_); exact rfl))
        refine T_ret3 Tryd.func21 rfl rfl rfl rfl ⟨_, rfl, k1, .slice none 0 0, ?_, ?_⟩
        · rw [he, e1]; rfl
        · rw [e2]; exact sl_nil _ _
      · repeat (first | (with_reducible first | apply T_seq | apply T_region | apply U_nil | apply T_skip | apply T_block | apply T_inBlock | apply Cnd_t | apply Cnd_f | apply Cnd_not | apply Cnd_some | apply Cnd_none | apply Gd_nt | apply Gd_nf | apply Gd_some | apply Gd_none | apply Gd_want) | refine U_ar rfl rfl rfl (wrap_i64 (by omega)) rfl ?_ | refine U_pure E rfl rfl ?_ | refine T_exit rfl ?_ | refine T_condV rfl ?_ | refine U_guard rfl rfl ?_ | ((with_reducible refine Gd_skipT ?_ ?_); exact rfl) | ((with_reducible refine Gd_skipF ?_ ?_); exact rfl))
        refine Cnd_p (fun hm => ?_) (fun hm => ?_)
        · have he : nErr s l = 4 := by rw [nErr, if_neg hnz, if_neg (by omega), if_neg (by omega), if_pos (by omega)]
          obtain ⟨e1, e2⟩ := bad 3 he
          repeat (first | (with_reducible first | apply T_seq | apply T_region | apply U_nil | apply T_skip | apply T_block | apply T_inBlock | apply Cnd_t | apply Cnd_f | apply Cnd_not | apply Cnd_some | apply Cnd_none | apply Gd_nt | apply Gd_nf | apply Gd_some | apply Gd_none | apply Gd_want) | refine U_ar rfl rfl rfl (wrap_i64 (by omega)) rfl ?_ | refine U_pure E rfl rfl ?_ | refine T_exit rfl ?_ | refine T_condV rfl ?_ | refine U_guard rfl rfl ?_ | ((with_reducible refine Gd_skipT ?_ ?_); exact rfl) | ((with_reducible refine Gd_skipF ?_ ?_); exact rfl))
          refine T_ret3 Tryd.func21 rfl rfl rfl rfl ⟨_, rfl, k1, .slice none 0 0, ?_, ?_⟩
          · rw [he, e1]; rfl
          · rw [e2]; exact sl_nil _ _
        · repeat (first | (with_reducible first | apply T_seq | apply T_region | apply U_nil | apply T_skip | apply T_block | apply T_inBlock | apply Gd_nt | apply Gd_nf | apply Gd_some | apply Gd_none | apply Gd_want) | refine U_ar rfl rfl rfl (wrap_i64 (by omega)) rfl ?_ | refine U_pure E rfl rfl ?_ | refine T_exit rfl ?_ | refine U_guard rfl rfl ?_ | ((with_reducible refine Gd_skipT ?_ ?_); exact rfl) | ((with_reducible refine Gd_skipF ?_ ?_); exact rfl))
          rw [wrap_i64 (r := (val4 l : Int)) (by omega), wrap_i64 (r := (val4 l : Int) + 4) (by omega)]
          repeat (first | (with_reducible first | apply T_seq | apply T_region | apply U_nil | apply T_skip | apply T_block | apply T_inBlock | apply Cnd_t | apply Cnd_f | apply Cnd_not | apply Cnd_some | apply Cnd_none | apply Gd_nt | apply Gd_nf | apply Gd_some | apply Gd_none | apply Gd_want) | refine U_ar rfl rfl rfl (wrap_i64 (by omega)) rfl ?_ | refine U_pure E rfl rfl ?_ | refine T_exit rfl ?_ | refine T_condV rfl ?_ | refine U_guard rfl rfl ?_ | ((with_reducible refine Gd_skipT ?_ ?_); exact rfl) | ((with_reducible refine Gd_skipF ?_ ?_); exact rfl))
          obtain ⟨ra, ha, fa⟩ := bs_part (P := Tryd.prog) h1 (val4 l + 4) l.length (by omega) (Nat.le_refl _)
          obtain ⟨rb, hb, fb⟩ := bs_part (P := Tryd.prog) h1 0 (val4 l + 4) (by omega) (by omega)
          rw [List.take_of_length_le (by rw [List.length_drop]; exact Nat.le_refl _)] at ha
          rw [List.drop_zero, Nat.sub_zero] at hb
          refine L_begin (fun _ => True) 10 (by kernel_rfl) (N := 10) rfl (fun w3 hd3 => ?_)
          refine L_take 0 rfl (by kernel_rfl) (by kernel_rfl) (by kernel_rfl) (by kernel_rfl) trivial rfl rfl rfl (fun a ha w' _ => run_pv E ha rfl _ _ _ _ _) ?_; refine L_take 1 rfl (by kernel_rfl) (by kernel_rfl) (by kernel_rfl) (by kernel_rfl) trivial rfl rfl rfl (fun a ha w' _ => run_pv E ha rfl _ _ _ _ _) ?_
          refine L_take 2 rfl (by kernel_rfl) (by kernel_rfl) (by kernel_rfl) (by kernel_rfl) trivial rfl rfl rfl (fun a ha w' _ => ro_slB E rfl rfl rfl fa (by first | rfl | (simp only [List.length_take, List.length_drop, List.length_append] <;> omega) | (dsimp only; omega) | exact ⟨_, rfl⟩ | exact ⟨_, congrArg (fun z => some (Value.int _ z)) (by omega)⟩) (by first | rfl | (simp only [List.length_take, List.length_drop, List.length_append] <;> omega) | (dsimp only; omega) | exact ⟨_, rfl⟩ | exact ⟨_, congrArg (fun z => some (Value.int _ z)) (by omega)⟩) a ha) ?_
          refine L_take 4 rfl (by kernel_rfl) (by kernel_rfl) (by kernel_rfl) (by kernel_rfl) trivial rfl rfl rfl (fun a ha w' _ => run_pv E ha rfl _ _ _ _ _) ?_; refine L_take 5 rfl (by kernel_rfl) (by kernel_rfl) (by kernel_rfl) (by kernel_rfl) trivial rfl rfl rfl (fun a ha w' _ => run_pv E ha rfl _ _ _ _ _) ?_; refine L_take 6 rfl (by kernel_rfl) (by kernel_rfl) (by kernel_rfl) (by kernel_rfl) trivial rfl rfl rfl (fun a ha w' _ => run_pv E ha rfl _ _ _ _ _) ?_
          refine L_take 7 rfl (by kernel_rfl) (by kernel_rfl) (by kernel_rfl) (by kernel_rfl) trivial rfl rfl rfl (fun a ha w' _ => ro_slB E rfl rfl rfl fb (by first | rfl | (simp only [List.length_take, List.length_drop, List.length_append] <;> omega) | (dsimp only; omega) | exact ⟨_, rfl⟩ | exact ⟨_, congrArg (fun z => some (Value.int _ z)) (by omega)⟩) (by first | rfl | (simp only [List.length_take, List.length_drop, List.length_append] <;> omega) | (dsimp only; omega) | exact ⟨_, rfl⟩ | exact ⟨_, congrArg (fun z => some (Value.int _ z)) (by omega)⟩) a ha) ?_
          have ha3 := ha.mv (hd3.kept none0) (fun _ _ _ x => x)
          have hb3 := hb.mv (hd3.kept none0) (fun _ _ _ x => x)
          refine L_op 3 (by kernel_rfl) rfl (fun hc3 => ?_)
          refine U_call rfl rfl (Tryd.call67 _) (ret_of (number_c w3 G _ _ (by rw [List.length_drop]; omega) ha3)) ?_
          rintro r w4 ⟨rfl, rfl⟩
          refine U_nilL hc3 (fun _ => trivial) ?_
          refine L_op 8 (by kernel_rfl) rfl (fun hc8 => ?_)
          refine U_call rfl rfl (Tryd.call43 _) (check_c w4 G _ _ s hs hb3) ?_
          rintro r w5 ⟨rfl, hk5⟩
          refine U_nilL hc8 (fun _ => trivial) ?_
          refine L_take 9 rfl (by kernel_rfl) (by kernel_rfl) (by kernel_rfl) (by kernel_rfl) trivial rfl rfl rfl (fun a ha w' _ => run_pv E ha rfl _ _ _ _ _) ?_
          refine L_done (by kernel_rfl) ?_
          have k5 : Kept none0 w w5 := (k1.tr (hd3.kept none0) (fun _ _ x => x)).tr hk5 (fun _ _ x => x)
          have h5 := (h1.mv (hd3.kept none0) (fun _ _ _ x => x)).mv hk5 (fun _ _ _ x => x)
          repeat (first | (with_reducible first | apply T_seq | apply T_region | apply U_nil | apply T_skip | apply T_block | apply T_inBlock | apply Cnd_t | apply Cnd_f | apply Cnd_not | apply Cnd_some | apply Cnd_none | apply Gd_nt | apply Gd_nf | apply Gd_some | apply Gd_none | apply Gd_want) | refine U_ar rfl rfl rfl (wrap_i64 (by omega)) rfl ?_ | refine U_pure E rfl rfl ?_ | refine T_exit rfl ?_ | refine T_condV rfl ?_ | refine U_guard rfl rfl ?_ | ((with_reducible refine Gd_skipT ?_ ?_); exact rfl) | ((with_reducible refine Gd_skipF ?_ ?_); exact rfl))
          refine Cnd_p (fun hs5 => ?_) (fun hs5 => ?_)
          · have he : nErr s l = 5 := by rw [nErr, if_neg hnz, if_neg (by omega), if_neg (by omega), if_neg (by omega), if_pos (by omega)]
            obtain ⟨e1, e2⟩ := bad 4 he
            repeat (first | (with_reducible first | apply T_seq | apply T_region | apply U_nil | apply T_skip | apply T_block | apply T_inBlock | apply Cnd_t | apply Cnd_f | apply Cnd_not | apply Cnd_some | apply Cnd_none | apply Gd_nt | apply Gd_nf | apply Gd_some | apply Gd_none | apply Gd_want) | refine U_ar rfl rfl rfl (wrap_i64 (by omega)) rfl ?_ | refine U_pure E rfl rfl ?_ | refine T_exit rfl ?_ | refine T_condV rfl ?_ | refine U_guard rfl rfl ?_ | ((with_reducible refine Gd_skipT ?_ ?_); exact rfl) | ((with_reducible refine Gd_skipF ?_ ?_); exact rfl))
            refine T_ret3 Tryd.func21 rfl rfl rfl rfl ⟨_, rfl, k5, .slice none 0 0, ?_, ?_⟩
            · rw [he, e1]; rfl
            · rw [e2]; exact sl_nil _ _
          · have he : nErr s l = 0 := by rw [nErr, if_neg hnz, if_neg (by omega), if_neg (by omega), if_neg (by omega), if_neg (by omega)]
            repeat (first | (with_reducible first | apply T_seq | apply T_region | apply U_nil | apply T_skip | apply T_block | apply T_inBlock | apply Gd_nt | apply Gd_nf | apply Gd_some | apply Gd_none | apply Gd_want) | refine U_ar rfl rfl rfl (wrap_i64 (by omega)) rfl ?_ | refine U_pure E rfl rfl ?_ | refine T_exit rfl ?_ | refine U_guard rfl rfl ?_ | ((with_reducible refine Gd_skipT ?_ ?_); exact rfl) | ((with_reducible refine Gd_skipF ?_ ?_); exact rfl))
            obtain ⟨rc, hc, rcf⟩ := bs_part (P := Tryd.prog) (h5) (4) (val4 l + 4) (by omega) (by omega); refine U_run rfl rfl rfl (ro_slB E rfl rfl rfl rcf (by first | rfl | (simp only [List.length_take, List.length_drop, List.length_append] <;> omega) | (dsimp only; omega) | exact ⟨_, rfl⟩ | exact ⟨_, congrArg (fun z => some (Value.int _ z)) (by omega)⟩) (by first | rfl | (simp only [List.length_take, List.length_drop, List.length_append] <;> omega) | (dsimp only; omega) | exact ⟨_, rfl⟩ | exact ⟨_, congrArg (fun z => some (Value.int _ z)) (by omega)⟩)) ?_
            have hlc : ((l.drop 4).take (val4 l + 4 - 4)).length = val4 l := by rw [List.length_take, List.length_drop]; omega
            refine U_call rfl rfl (Tryd.call68 _) (bclone_c w5 G _ _ hc (by omega)) ?_
            rintro r w6 ⟨hk6, hr6⟩
            repeat (first | (with_reducible first | apply T_seq | apply T_region | apply U_nil | apply T_skip | apply T_block | apply T_inBlock | apply Cnd_t | apply Cnd_f | apply Cnd_not | apply Cnd_some | apply Cnd_none | apply Gd_nt | apply Gd_nf | apply Gd_some | apply Gd_none | apply Gd_want) | refine U_ar rfl rfl rfl (wrap_i64 (by omega)) rfl ?_ | refine U_pure E rfl rfl ?_ | refine T_exit rfl ?_ | refine T_condV rfl ?_ | refine U_guard rfl rfl ?_ | ((with_reducible refine Gd_skipT ?_ ?_); exact rfl) | ((with_reducible refine Gd_skipF ?_ ?_); exact rfl))
            refine T_ret3 Tryd.func21 rfl rfl rfl rfl ⟨_, rfl, k5.tr hk6 (fun _ _ x => x), r, ?_, ?_⟩
            · rw [he, nLen, if_pos he]
              have : ((val4 l + 8 : Nat) : Int) = (val4 l : Int) + 4 + 4 := by omega
              rw [this]
              rfl
            · rw [nRec, if_pos he]
              have e : val4 l + 4 - 4 = val4 l := by omega
              rw [e] at hr6
              have s5 := k5.size
              exact hr6.mono (fun j _ hj => Nat.le_trans s5 hj)
end Go.Proofs.YtoefhdaenaiomaaDoor

/- Join. -/
namespace Go.Proofs.YtoefhdaenaiomaaDoor
open Go
set_option maxRecDepth 20000

theorem join_c (w : World) (G H : Nat → Prop) (vl : Value) (vs : List Value) (ls : List (List UInt8)) (h : Sl w G vl 1 vs.length vs) (hl : vs.length = ls.length) (hs : ∀ (i : Nat) v l, vs[i]? = some v → ls[i]? = some l → BS w H v l) (hN : ls.flatten.length ≤ 1000000) :
    Calls Tryd.prog 35 [vl].toArray w (Ret fun r w' => Kept none0 w w' ∧ BR w' (fresh w) r ls.flatten) := by
  refine calls_T Tryd.func35 rfl rfl rfl ?_
  obtain ⟨A, c, rfl⟩ := h.len
  have hlen := h.1
  repeat (first | (with_reducible first | apply T_seq | apply T_region | apply U_nil | apply T_skip | apply T_block | apply T_inBlock | apply Cnd_t | apply Cnd_f | apply Cnd_not | apply Cnd_some | apply Cnd_none | apply Gd_nt | apply Gd_nf | apply Gd_some | apply Gd_none | apply Gd_want) | refine U_ar rfl rfl rfl (wrap_i64 (by omega)) rfl ?_ | refine U_pure E rfl rfl ?_ | refine T_exit rfl ?_ | refine T_condV rfl ?_ | refine U_guard rfl rfl ?_ | ((with_reducible refine Gd_skipT ?_ ?_); exact rfl) | ((with_reducible refine Gd_skipF ?_ ?_); exact rfl))
  refine T_loop (α := Nat × Value × World) (fun x => [(8, .int .i64 x.1), (7, .int .i64 vs.length), (6, .slice A vs.length c), (3, x.2.1)]) (fun x => x.2.2) (fun x => vs.length - x.1)
    (fun x => x.1 ≤ vs.length ∧ Kept none0 w x.2.2 ∧ BR x.2.2 (fresh w) x.2.1 (ls.take x.1).flatten) (0, .slice none 0 0, w) ⟨Nat.zero_le _, Kept.refl _ _, by simp only [List.take_zero, List.flatten_nil]; exact BR.nil w _⟩ ⟨rfl, rfl, rfl, rfl, trivial⟩ rfl ?_
  rintro ⟨i, v, w1⟩ ⟨hi, hk, hr⟩ ih
  dsimp only at hi hk hr ⊢
  repeat (first | (with_reducible first | apply T_seq | apply T_region | apply U_nil | apply T_skip | apply T_block | apply T_inBlock | apply Cnd_t | apply Cnd_f | apply Cnd_not | apply Cnd_some | apply Cnd_none | apply Gd_nt | apply Gd_nf | apply Gd_some | apply Gd_none | apply Gd_want) | refine U_ar rfl rfl rfl (wrap_i64 (by omega)) rfl ?_ | refine U_pure E rfl rfl ?_ | refine T_exit rfl ?_ | refine T_condV rfl ?_ | refine U_guard rfl rfl ?_ | ((with_reducible refine Gd_skipT ?_ ?_); exact rfl) | ((with_reducible refine Gd_skipF ?_ ?_); exact rfl))
  refine Cnd_p (fun hlt => ?_) (fun hlt => ?_)
  · have hlt' : i < vs.length := by omega
    have hg : vs[(i : Int).toNat]? = some vs[i] := by rw [Int.toNat_natCast, List.getElem?_eq_getElem hlt']
    have hli : i < ls.length := by omega
    have hvi := hs i _ _ (List.getElem?_eq_getElem hlt') (List.getElem?_eq_getElem hli)
    have htot : ((ls.take i).flatten ++ ls[i]).length ≤ 1000000 := by
      have e : ls = ls.take i ++ ls[i] :: ls.drop (i + 1) := by simp
      have : ls.flatten.length = (ls.take i).flatten.length + (ls[i].length + (ls.drop (i + 1)).flatten.length) := by
        conv => lhs; rw [e]
        simp only [List.flatten_append, List.length_append, List.flatten_cons]
      rw [List.length_append]
      omega
    rw [List.length_append] at htot
    repeat (first | (with_reducible first | apply T_seq | apply T_region | apply U_nil | apply T_skip | apply T_block | apply T_inBlock | apply Cnd_t | apply Cnd_f | apply Cnd_not | apply Cnd_some | apply Cnd_none | apply Gd_nt | apply Gd_nf | apply Gd_some | apply Gd_none | apply Gd_want) | refine U_ar rfl rfl rfl (wrap_i64 (by omega)) rfl ?_ | refine U_pure E rfl rfl ?_ | refine T_exit rfl ?_ | refine T_condV rfl ?_ | refine U_guard rfl rfl ?_ | ((with_reducible refine Gd_skipT ?_ ?_); exact rfl) | ((with_reducible refine Gd_skipF ?_ ?_); exact rfl))
    refine U_idx E (h.mv hk (fun _ _ _ x => x)) rfl rfl rfl rfl (by omega) (by omega) (hg) rfl (fun p hp => ?_)
    refine U_load E rfl rfl rfl hp rfl ?_
    repeat (first | (with_reducible first | apply T_seq | apply T_region | apply U_nil | apply T_skip | apply T_block | apply T_inBlock | apply Cnd_t | apply Cnd_f | apply Cnd_not | apply Cnd_some | apply Cnd_none | apply Gd_nt | apply Gd_nf | apply Gd_some | apply Gd_none | apply Gd_want) | refine U_ar rfl rfl rfl (wrap_i64 (by omega)) rfl ?_ | refine U_pure E rfl rfl ?_ | refine T_exit rfl ?_ | refine T_condV rfl ?_ | refine U_guard rfl rfl ?_ | ((with_reducible refine Gd_skipT ?_ ?_); exact rfl) | ((with_reducible refine Gd_skipF ?_ ?_); exact rfl))
    refine U_append E hr (hvi.mv hk (fun _ _ _ x => x)) (encBs_one _) rfl rfl rfl rfl rfl (by omega) (by omega) rfl ?_
    intro v' w3 hr3 hk3 _ hob
    have hk3' : Kept none0 w w3 := hk.tr hk3 (fun j hj hv => by have := (hr.own j hv).1; simp only [fresh] at this; omega)
    repeat (first | (with_reducible first | apply T_seq | apply T_region | apply U_nil | apply T_skip | apply T_block | apply T_inBlock | apply Cnd_t | apply Cnd_f | apply Cnd_not | apply Cnd_some | apply Cnd_none | apply Gd_nt | apply Gd_nf | apply Gd_some | apply Gd_none | apply Gd_want) | refine U_ar rfl rfl rfl (wrap_i64 (by omega)) rfl ?_ | refine U_pure E rfl rfl ?_ | refine T_exit rfl ?_ | refine T_condV rfl ?_ | refine U_guard rfl rfl ?_ | ((with_reducible refine Gd_skipT ?_ ?_); exact rfl) | ((with_reducible refine Gd_skipF ?_ ?_); exact rfl))
    refine T.less ?_ (ih (i + 1, v', w3) ?_ ?_)
    · exact ⟨rfl, rfl, rfl, rfl, trivial⟩
    · refine ⟨hlt', hk3', ?_⟩
      dsimp only
      have hsz := hk.size
      rw [take_snoc ls i hli, List.flatten_append]
      have := hr3.mono (G := fresh w) (fun j _ hj => hj.elim (fun x => x) (fun x => Nat.le_trans hsz x))
      simpa [BR, encBs] using this
    · dsimp only
      omega
  · repeat (first | (with_reducible first | apply T_seq | apply T_region | apply U_nil | apply T_skip | apply T_block | apply T_inBlock | apply Cnd_t | apply Cnd_f | apply Cnd_not | apply Cnd_some | apply Cnd_none | apply Gd_nt | apply Gd_nf | apply Gd_some | apply Gd_none | apply Gd_want) | refine U_ar rfl rfl rfl (wrap_i64 (by omega)) rfl ?_ | refine U_pure E rfl rfl ?_ | refine T_exit rfl ?_ | refine T_condV rfl ?_ | refine U_guard rfl rfl ?_ | ((with_reducible refine Gd_skipT ?_ ?_); exact rfl) | ((with_reducible refine Gd_skipF ?_ ?_); exact rfl))
    refine T_ret1 Tryd.func35 rfl rfl ⟨_, rfl, hk, ?_⟩
    have : i = ls.length := by omega
    subst this
    simpa using hr

end Go.Proofs.YtoefhdaenaiomaaDoor

/- Frames: the reference's functions. -/
namespace Go.Proofs.YtoefhdaenaiomaaDoor
open Go
set_option maxRecDepth 20000

section
variable {P : Program} {f : FuncId} {R : Ending → World → Prop} {n : Nat} {k : List Item} {m : Fm} {ops : Array Oper} {rest : List Oper} {w : World}
variable {d : Nat} {ty : TypeId} {ps : String} {af : Array Edge}
theorem U_cv {Z : Act → World → Prop} (E : Env P) {s t : TypeId} {x : Operand} {k k' : IntKind} {z r : Int} {d' : TypeDesc × Nat} {q : Nat} (hs : E.ty s = some d') (ht : E.ty t = some (.int k', q)) (hx : ev m x = some (.int k z)) (hz : k'.wrap z = r) (hd : Nat.blt d n = true)
    (h : U P n Z ops rest ((d, .int k' r) :: m) w) : U P n Z ops ({ dst := some d, op := .convert s t x, type := ty, pos := ps, after := af, guard := none } :: rest) m w :=
  U_run rfl rfl hd (ro_convI E hs ht hx hz) h
theorem V_cv {Z : Act → Prop} {C : World → Prop} (E : Env P) {s t : TypeId} {x : Operand} {k k' : IntKind} {z r : Int} {d' : TypeDesc × Nat} {q : Nat} (hs : E.ty s = some d') (ht : E.ty t = some (.int k', q)) (hx : ev m x = some (.int k z)) (hz : k'.wrap z = r) (hd : Nat.blt d n = true)
    (h : V P n Z C ops rest ((d, .int k' r) :: m)) : V P n Z C ops ({ dst := some d, op := .convert s t x, type := ty, pos := ps, after := af, guard := none } :: rest) m :=
  V_run rfl rfl hd (fun a ha w' _ => ro_convI E hs ht hx hz a ha) h
end

theorem mod_enc (x : Nat) : Value.int IntKind.u8 ((x % 256 : Nat) : Int) = encB (UInt8.ofNat x) := by
  simp only [encB]
  rw [UInt8.toNat_ofNat']

theorem rword_c (w : World) (z : Nat) (hz : z < 18446744073709551616) :
    Calls Tryd.prog 82 [.int .u64 z].toArray w (Ret fun r w' => ∃ b, r = .slice (some ⟨b, 0, none⟩) 4 4 ∧ New w w' b (encBs (le4 z)) 5) := by
  refine calls_T Tryd.func82 rfl rfl rfl ?_
  repeat (first | (with_reducible first | apply T_seq | apply T_region | apply U_nil | apply T_skip | apply T_block | apply T_inBlock | apply Cnd_t | apply Cnd_f | apply Cnd_not | apply Cnd_some | apply Cnd_none | apply Gd_nt | apply Gd_nf | apply Gd_some | apply Gd_none | apply Gd_want) | refine U_ar rfl rfl rfl (wrap_k (by simp only [wrapOk]; omega)) rfl ?_ | refine U_cv E rfl rfl rfl (wrap_k (by simp only [wrapOk]; omega)) rfl ?_ | refine U_pure E rfl rfl ?_ | refine T_exit rfl ?_ | refine T_condV rfl ?_ | refine U_guard rfl rfl ?_ | ((with_reducible refine Gd_skipT ?_ ?_); exact rfl) | ((with_reducible refine Gd_skipF ?_ ?_); exact rfl))
  refine U_run rfl rfl rfl (ro_bin (r := .int .u64 (z % 256 : Nat)) rfl rfl (by exact run_rem (y := 256) (by decide))) ?_
  repeat (first | (with_reducible first | apply T_seq | apply T_region | apply U_nil | apply T_skip | apply T_block | apply T_inBlock | apply Cnd_t | apply Cnd_f | apply Cnd_not | apply Cnd_some | apply Cnd_none | apply Gd_nt | apply Gd_nf | apply Gd_some | apply Gd_none | apply Gd_want) | refine U_ar rfl rfl rfl (wrap_k (by simp only [wrapOk]; omega)) rfl ?_ | refine U_cv E rfl rfl rfl (wrap_k (by simp only [wrapOk]; omega)) rfl ?_ | refine U_pure E rfl rfl ?_ | refine T_exit rfl ?_ | refine T_condV rfl ?_ | refine U_guard rfl rfl ?_ | ((with_reducible refine Gd_skipT ?_ ?_); exact rfl) | ((with_reducible refine Gd_skipF ?_ ?_); exact rfl))
  refine U_run rfl rfl rfl (ro_bin (r := .int .u64 (z / 256 : Nat)) rfl rfl (by exact run_quo (y := 256) (by decide) (wrap_u64 (by omega)))) ?_
  repeat (first | (with_reducible first | apply T_seq | apply T_region | apply U_nil | apply T_skip | apply T_block | apply T_inBlock | apply Cnd_t | apply Cnd_f | apply Cnd_not | apply Cnd_some | apply Cnd_none | apply Gd_nt | apply Gd_nf | apply Gd_some | apply Gd_none | apply Gd_want) | refine U_ar rfl rfl rfl (wrap_k (by simp only [wrapOk]; omega)) rfl ?_ | refine U_cv E rfl rfl rfl (wrap_k (by simp only [wrapOk]; omega)) rfl ?_ | refine U_pure E rfl rfl ?_ | refine T_exit rfl ?_ | refine T_condV rfl ?_ | refine U_guard rfl rfl ?_ | ((with_reducible refine Gd_skipT ?_ ?_); exact rfl) | ((with_reducible refine Gd_skipF ?_ ?_); exact rfl))
  refine U_run rfl rfl rfl (ro_bin (r := .int .u64 (z / 256 % 256 : Nat)) rfl rfl (by exact run_rem (y := 256) (by decide))) ?_
  repeat (first | (with_reducible first | apply T_seq | apply T_region | apply U_nil | apply T_skip | apply T_block | apply T_inBlock | apply Cnd_t | apply Cnd_f | apply Cnd_not | apply Cnd_some | apply Cnd_none | apply Gd_nt | apply Gd_nf | apply Gd_some | apply Gd_none | apply Gd_want) | refine U_ar rfl rfl rfl (wrap_k (by simp only [wrapOk]; omega)) rfl ?_ | refine U_cv E rfl rfl rfl (wrap_k (by simp only [wrapOk]; omega)) rfl ?_ | refine U_pure E rfl rfl ?_ | refine T_exit rfl ?_ | refine T_condV rfl ?_ | refine U_guard rfl rfl ?_ | ((with_reducible refine Gd_skipT ?_ ?_); exact rfl) | ((with_reducible refine Gd_skipF ?_ ?_); exact rfl))
  refine U_run rfl rfl rfl (ro_bin (r := .int .u64 (z / 65536 : Nat)) rfl rfl (by exact run_quo (y := 65536) (by decide) (wrap_u64 (by omega)))) ?_
  repeat (first | (with_reducible first | apply T_seq | apply T_region | apply U_nil | apply T_skip | apply T_block | apply T_inBlock | apply Cnd_t | apply Cnd_f | apply Cnd_not | apply Cnd_some | apply Cnd_none | apply Gd_nt | apply Gd_nf | apply Gd_some | apply Gd_none | apply Gd_want) | refine U_ar rfl rfl rfl (wrap_k (by simp only [wrapOk]; omega)) rfl ?_ | refine U_cv E rfl rfl rfl (wrap_k (by simp only [wrapOk]; omega)) rfl ?_ | refine U_pure E rfl rfl ?_ | refine T_exit rfl ?_ | refine T_condV rfl ?_ | refine U_guard rfl rfl ?_ | ((with_reducible refine Gd_skipT ?_ ?_); exact rfl) | ((with_reducible refine Gd_skipF ?_ ?_); exact rfl))
  refine U_run rfl rfl rfl (ro_bin (r := .int .u64 (z / 65536 % 256 : Nat)) rfl rfl (by exact run_rem (y := 256) (by decide))) ?_
  repeat (first | (with_reducible first | apply T_seq | apply T_region | apply U_nil | apply T_skip | apply T_block | apply T_inBlock | apply Cnd_t | apply Cnd_f | apply Cnd_not | apply Cnd_some | apply Cnd_none | apply Gd_nt | apply Gd_nf | apply Gd_some | apply Gd_none | apply Gd_want) | refine U_ar rfl rfl rfl (wrap_k (by simp only [wrapOk]; omega)) rfl ?_ | refine U_cv E rfl rfl rfl (wrap_k (by simp only [wrapOk]; omega)) rfl ?_ | refine U_pure E rfl rfl ?_ | refine T_exit rfl ?_ | refine T_condV rfl ?_ | refine U_guard rfl rfl ?_ | ((with_reducible refine Gd_skipT ?_ ?_); exact rfl) | ((with_reducible refine Gd_skipF ?_ ?_); exact rfl))
  refine U_run rfl rfl rfl (ro_bin (r := .int .u64 (z / 16777216 : Nat)) rfl rfl (by exact run_quo (y := 16777216) (by decide) (wrap_u64 (by omega)))) ?_
  repeat (first | (with_reducible first | apply T_seq | apply T_region | apply U_nil | apply T_skip | apply T_block | apply T_inBlock | apply Cnd_t | apply Cnd_f | apply Cnd_not | apply Cnd_some | apply Cnd_none | apply Gd_nt | apply Gd_nf | apply Gd_some | apply Gd_none | apply Gd_want) | refine U_ar rfl rfl rfl (wrap_k (by simp only [wrapOk]; omega)) rfl ?_ | refine U_cv E rfl rfl rfl (wrap_k (by simp only [wrapOk]; omega)) rfl ?_ | refine U_pure E rfl rfl ?_ | refine T_exit rfl ?_ | refine T_condV rfl ?_ | refine U_guard rfl rfl ?_ | ((with_reducible refine Gd_skipT ?_ ?_); exact rfl) | ((with_reducible refine Gd_skipF ?_ ?_); exact rfl))
  refine U_run rfl rfl rfl (ro_bin (r := .int .u64 (z / 16777216 % 256 : Nat)) rfl rfl (by exact run_rem (y := 256) (by decide))) ?_
  repeat (first | (with_reducible first | apply T_seq | apply T_region | apply U_nil | apply T_skip | apply T_block | apply T_inBlock | apply Cnd_t | apply Cnd_f | apply Cnd_not | apply Cnd_some | apply Cnd_none | apply Gd_nt | apply Gd_nf | apply Gd_some | apply Gd_none | apply Gd_want) | refine U_ar rfl rfl rfl (wrap_k (by simp only [wrapOk]; omega)) rfl ?_ | refine U_cv E rfl rfl rfl (wrap_k (by simp only [wrapOk]; omega)) rfl ?_ | refine U_pure E rfl rfl ?_ | refine T_exit rfl ?_ | refine T_condV rfl ?_ | refine U_guard rfl rfl ?_ | ((with_reducible refine Gd_skipT ?_ ?_); exact rfl) | ((with_reducible refine Gd_skipF ?_ ?_); exact rfl))
  rw [mod_enc, mod_enc, mod_enc, mod_enc]
  refine U_buildSlice E rfl rfl rfl rfl rfl rfl rfl rfl (segs := (encBs (le4 z)).map ([·])) rfl (by intro s hs; obtain ⟨u, _, rfl⟩ := List.mem_map.1 hs; rfl) rfl ?_
  intro b w1 hn
  repeat (first | (with_reducible first | apply T_seq | apply T_region | apply U_nil | apply T_skip | apply T_block | apply T_inBlock | apply Cnd_t | apply Cnd_f | apply Cnd_not | apply Cnd_some | apply Cnd_none | apply Gd_nt | apply Gd_nf | apply Gd_some | apply Gd_none | apply Gd_want) | refine U_ar rfl rfl rfl (wrap_k (by simp only [wrapOk]; omega)) rfl ?_ | refine U_cv E rfl rfl rfl (wrap_k (by simp only [wrapOk]; omega)) rfl ?_ | refine U_pure E rfl rfl ?_ | refine T_exit rfl ?_ | refine T_condV rfl ?_ | refine U_guard rfl rfl ?_ | ((with_reducible refine Gd_skipT ?_ ?_); exact rfl) | ((with_reducible refine Gd_skipF ?_ ?_); exact rfl))
  refine T_ret1 Tryd.func82 rfl rfl ⟨_, rfl, b, rfl, ?_⟩
  exact hn

theorem value_c (w : World) (G : Nat → Prop) (v : Value) (l : List UInt8) (h4 : 4 ≤ l.length) (h : BS w G v l) :
    Calls Tryd.prog 80 [v].toArray w (fun e w' => e = .returned (.int .u64 (val4 l : Nat)) ∧ Drew w w') := by
  refine calls_T Tryd.func80 rfl rfl rfl ?_
  have hlen := h.1
  have b0 := b_lt (l[0]'(by omega))
  have b1 := b_lt (l[1]'(by omega))
  have b2 := b_lt (l[2]'(by omega))
  have b3 := b_lt (l[3]'(by omega))
  have g : ∀ (i : Nat) (hi : i < l.length), (encBs l)[(OfNat.ofNat i : Int).toNat]? = some (encB l[i]) := fun i hi => get_enc hi
  obtain ⟨A, c, rfl⟩ := h.len
  repeat (first | (with_reducible first | apply T_seq | apply T_region | apply U_nil | apply T_skip | apply T_block | apply T_inBlock | apply Cnd_t | apply Cnd_f | apply Cnd_not | apply Cnd_some | apply Cnd_none | apply Gd_nt | apply Gd_nf | apply Gd_some | apply Gd_none | apply Gd_want) | refine U_ar rfl rfl rfl (wrap_k (by simp only [wrapOk]; omega)) rfl ?_ | refine U_cv E rfl rfl rfl (wrap_k (by simp only [wrapOk]; omega)) rfl ?_ | refine U_pure E rfl rfl ?_ | refine T_exit rfl ?_ | refine T_condV rfl ?_ | refine U_guard rfl rfl ?_ | ((with_reducible refine Gd_skipT ?_ ?_); exact rfl) | ((with_reducible refine Gd_skipF ?_ ?_); exact rfl))
  refine T_quiet (by kernel_rfl) (by kernel_rfl) ?_; (repeat (first | refine V_ar rfl rfl rfl (wrap_k (by simp only [wrapOk]; omega)) rfl ?_ | refine V_cv E rfl rfl rfl (wrap_k (by simp only [wrapOk]; omega)) rfl ?_ | refine V_pure E rfl rfl ?_ | refine V_guard rfl rfl ?_ | with_reducible refine GdV_want ?_ | ((with_reducible refine GdV_skipT ?_ ?_); exact rfl) | ((with_reducible refine GdV_skipF ?_ ?_); exact rfl)))
  refine V_idx E (h) rfl rfl rfl rfl (by omega) (by omega) ((g 0 (by omega))) rfl (fun p0 hp0 => ?_)
  refine V_load E rfl rfl rfl (fun w' hw' => (by first | (rw [hw'.cell]; exact hp0) | (subst hw'; exact hp0))) rfl ?_
  repeat (first | refine V_ar rfl rfl rfl (wrap_k (by simp only [wrapOk]; omega)) rfl ?_ | refine V_cv E rfl rfl rfl (wrap_k (by simp only [wrapOk]; omega)) rfl ?_ | refine V_pure E rfl rfl ?_ | refine V_guard rfl rfl ?_ | with_reducible refine GdV_want ?_ | ((with_reducible refine GdV_skipT ?_ ?_); exact rfl) | ((with_reducible refine GdV_skipF ?_ ?_); exact rfl))
  refine V_idx E (h) rfl rfl rfl rfl (by omega) (by omega) ((g 1 (by omega))) rfl (fun p1 hp1 => ?_)
  refine V_load E rfl rfl rfl (fun w' hw' => (by first | (rw [hw'.cell]; exact hp1) | (subst hw'; exact hp1))) rfl ?_
  repeat (first | refine V_ar rfl rfl rfl (wrap_k (by simp only [wrapOk]; omega)) rfl ?_ | refine V_cv E rfl rfl rfl (wrap_k (by simp only [wrapOk]; omega)) rfl ?_ | refine V_pure E rfl rfl ?_ | refine V_guard rfl rfl ?_ | with_reducible refine GdV_want ?_ | ((with_reducible refine GdV_skipT ?_ ?_); exact rfl) | ((with_reducible refine GdV_skipF ?_ ?_); exact rfl))
  refine V_idx E (h) rfl rfl rfl rfl (by omega) (by omega) ((g 2 (by omega))) rfl (fun p2 hp2 => ?_)
  refine V_load E rfl rfl rfl (fun w' hw' => (by first | (rw [hw'.cell]; exact hp2) | (subst hw'; exact hp2))) rfl ?_
  repeat (first | refine V_ar rfl rfl rfl (wrap_k (by simp only [wrapOk]; omega)) rfl ?_ | refine V_cv E rfl rfl rfl (wrap_k (by simp only [wrapOk]; omega)) rfl ?_ | refine V_pure E rfl rfl ?_ | refine V_guard rfl rfl ?_ | with_reducible refine GdV_want ?_ | ((with_reducible refine GdV_skipT ?_ ?_); exact rfl) | ((with_reducible refine GdV_skipF ?_ ?_); exact rfl))
  refine V_idx E (h) rfl rfl rfl rfl (by omega) (by omega) ((g 3 (by omega))) rfl (fun p3 hp3 => ?_)
  refine V_load E rfl rfl rfl (fun w' hw' => (by first | (rw [hw'.cell]; exact hp3) | (subst hw'; exact hp3))) rfl ?_
  repeat (first | refine V_ar rfl rfl rfl (wrap_k (by simp only [wrapOk]; omega)) rfl ?_ | refine V_cv E rfl rfl rfl (wrap_k (by simp only [wrapOk]; omega)) rfl ?_ | refine V_pure E rfl rfl ?_ | refine V_guard rfl rfl ?_ | with_reducible refine GdV_want ?_ | ((with_reducible refine GdV_skipT ?_ ?_); exact rfl) | ((with_reducible refine GdV_skipF ?_ ?_); exact rfl))
  refine V_nilQ fun w' hw => ?_
  repeat (first | (with_reducible first | apply T_seq | apply T_region | apply U_nil | apply T_skip | apply T_block | apply T_inBlock | apply Cnd_t | apply Cnd_f | apply Cnd_not | apply Cnd_some | apply Cnd_none | apply Gd_nt | apply Gd_nf | apply Gd_some | apply Gd_none | apply Gd_want) | refine U_ar rfl rfl rfl (wrap_k (by simp only [wrapOk]; omega)) rfl ?_ | refine U_cv E rfl rfl rfl (wrap_k (by simp only [wrapOk]; omega)) rfl ?_ | refine U_pure E rfl rfl ?_ | refine T_exit rfl ?_ | refine T_condV rfl ?_ | refine U_guard rfl rfl ?_ | ((with_reducible refine Gd_skipT ?_ ?_); exact rfl) | ((with_reducible refine Gd_skipF ?_ ?_); exact rfl))
  refine T_ret1 Tryd.func80 rfl rfl ⟨?_, hw⟩
  refine congrArg (fun z => Ending.returned (Value.int .u64 z)) ?_
  unfold val4
  rw [at8_get (i := 0) (by omega), at8_get (i := 1) (by omega), at8_get (i := 2) (by omega), at8_get (i := 3) (by omega)]
  omega

/-- The register of the reference, that takes a byte bit by bit. -/
theorem ref_step (r c : Nat) : (if (r % 2 + c) % 2 = 1 then (r / 2) ^^^ 3988292384 else r / 2) ^^^ (c / 2) = stp (r ^^^ c) := by
  unfold stp
  rw [xor_mod, xor_half]
  by_cases h : (r + c) % 2 = 1
  · rw [if_pos (by omega), if_pos h, Nat.xor_assoc, Nat.xor_comm 3988292384, ← Nat.xor_assoc]
  · rw [if_neg (by omega), if_neg h]

theorem two_sl {w : World} {b : Nat} {t : TypeId} {u v : Value} (h : Blk w b [u, v] t) : Sl w (fun x => x = b) (.slice (some ⟨b, 0, none⟩) 2 2) 1 [u, v].length [u, v] :=
  ⟨by simp, rfl, _, 2, rfl, Nat.le_refl _, .inr ⟨b, 0, rfl, rfl, h.lt, h.whole⟩⟩
theorem two_bs {w : World} {H : Nat → Prop} {u v : Value} {p q : List UInt8} (hu : BS w H u p) (hv : BS w H v q) : ∀ (i : Nat) x l, [u, v][i]? = some x → [p, q][i]? = some l → BS w H x l := by
  intro j x l hx hl
  match j with
  | 0 => injection hx with hx; injection hl with hl; subst hx; subst hl; exact hu
  | 1 => injection hx with hx; injection hl with hl; subst hx; subst hl; exact hv
  | j + 2 => simp at hx

set_option maxHeartbeats 2000000 in
theorem rcheck_c (w : World) (G : Nat → Prop) (v : Value) (l : List UInt8) (s : Nat) (hs : s < 4294967296) (h : BS w G v l) (hN : l.length ≤ 900000) :
    Calls Tryd.prog 45 [.int .u32 s, v].toArray w (Ret fun r w' => r = .int .u32 (chk s l : Nat) ∧ Kept none0 w w') := by
  refine calls_T Tryd.func45 rfl rfl rfl ?_
  repeat (first | (with_reducible first | apply T_seq | apply T_region | apply U_nil | apply T_skip | apply T_block | apply T_inBlock | apply Cnd_t | apply Cnd_f | apply Cnd_not | apply Cnd_some | apply Cnd_none | apply Gd_nt | apply Gd_nf | apply Gd_some | apply Gd_none | apply Gd_want) | refine U_ar rfl rfl rfl (wrap_k (by simp only [wrapOk]; omega)) rfl ?_ | refine U_cv E rfl rfl rfl (wrap_k (by simp only [wrapOk]; omega)) rfl ?_ | refine U_pure E rfl rfl ?_ | refine T_exit rfl ?_ | refine T_condV rfl ?_ | refine U_guard rfl rfl ?_ | ((with_reducible refine Gd_skipT ?_ ?_); exact rfl) | ((with_reducible refine Gd_skipF ?_ ?_); exact rfl))
  refine U_call rfl rfl (Tryd.call82 _) (rword_c w s (by omega)) ?_
  rintro r w1 ⟨b1, rfl, hn1⟩
  obtain ⟨A, c, rfl⟩ := h.len
  repeat (first | (with_reducible first | apply T_seq | apply T_region | apply U_nil | apply T_skip | apply T_block | apply T_inBlock | apply Cnd_t | apply Cnd_f | apply Cnd_not | apply Cnd_some | apply Cnd_none | apply Gd_nt | apply Gd_nf | apply Gd_some | apply Gd_none | apply Gd_want) | refine U_ar rfl rfl rfl (wrap_k (by simp only [wrapOk]; omega)) rfl ?_ | refine U_cv E rfl rfl rfl (wrap_k (by simp only [wrapOk]; omega)) rfl ?_ | refine U_pure E rfl rfl ?_ | refine T_exit rfl ?_ | refine T_condV rfl ?_ | refine U_guard rfl rfl ?_ | ((with_reducible refine Gd_skipT ?_ ?_); exact rfl) | ((with_reducible refine Gd_skipF ?_ ?_); exact rfl))
  refine U_buildSlice (sz := 1) E rfl rfl rfl rfl rfl rfl rfl rfl (segs := [[.slice (some ⟨b1, 0, none⟩) 4 4], [.slice A l.length c]]) rfl (by simp) rfl ?_
  intro b2 w2 hn2
  have hs1 : BS w2 (fun _ => True) (.slice (some ⟨b1, 0, none⟩) 4 4) (le4 s) := (hn1.bs (le4_len s) (by decide) _ trivial).mv hn2.kept (fun _ _ _ x => x)
  have k2 : Kept none0 w w2 := hn1.kept.tr hn2.kept (fun _ _ x => x)
  have hl2 : BS w2 (fun _ => True) (.slice A l.length c) l := (h.mv k2 (fun _ _ _ x => x)).mono (fun _ _ _ => trivial)
  have hJ : ([le4 s, l] : List (List UInt8)).flatten = le4 s ++ l := by simp
  have hjl : (le4 s ++ l).length = 4 + l.length := by rw [List.length_append, le4_len]
  have hj := join_c w2 _ _ _ _ [le4 s, l] (two_sl hn2.blk) rfl (two_bs hs1 hl2) (by rw [hJ, hjl]; omega)
  rw [hJ] at hj
  refine U_call rfl rfl (Tryd.call35 _) (hj) ?_
  rintro r w3 ⟨k3, hr3⟩
  have k3' : Kept none0 w w3 := k2.tr k3 (fun _ _ x => x)
  have hb3 : BS w3 (fresh w2) r (le4 s ++ l) := hr3.sl (by omega)
  clear hr3
  obtain ⟨J, hJe⟩ : ∃ J, le4 s ++ l = J := ⟨_, rfl⟩
  rw [hJe] at hb3 hjl
  obtain ⟨A3, c3, rfl⟩ := hb3.len
  repeat (first | (with_reducible first | apply T_seq | apply T_region | apply U_nil | apply T_skip | apply T_block | apply T_inBlock | apply Cnd_t | apply Cnd_f | apply Cnd_not | apply Cnd_some | apply Cnd_none | apply Gd_nt | apply Gd_nf | apply Gd_some | apply Gd_none | apply Gd_want) | refine U_ar rfl rfl rfl (wrap_k (by simp only [wrapOk]; omega)) rfl ?_ | refine U_cv E rfl rfl rfl (wrap_k (by simp only [wrapOk]; omega)) rfl ?_ | refine U_pure E rfl rfl ?_ | refine T_exit rfl ?_ | refine T_condV rfl ?_ | refine U_guard rfl rfl ?_ | ((with_reducible refine Gd_skipT ?_ ?_); exact rfl) | ((with_reducible refine Gd_skipF ?_ ?_); exact rfl))
  refine T_loop (α := Nat × Nat) (fun x => [(17, .int .i64 x.1), (16, .int .i64 J.length), (15, .slice A3 J.length c3), (5, .int .u64 x.2)]) (fun x => w3) (fun x => J.length - x.1)
    (fun x => x.1 ≤ J.length ∧ x.2 = crc 4294967295 (J.take x.1)) (0, 4294967295) ⟨Nat.zero_le _, by simp [crc]⟩ ⟨rfl, rfl, rfl, rfl, trivial⟩ rfl ?_
  rintro ⟨i, x⟩ ⟨hi, hx⟩ ih
  dsimp only at hi hx ⊢
  have hx32 : x < 4294967296 := by rw [hx]; exact crc_lt (by decide) _
  repeat (first | (with_reducible first | apply T_seq | apply T_region | apply U_nil | apply T_skip | apply T_block | apply T_inBlock | apply Cnd_t | apply Cnd_f | apply Cnd_not | apply Cnd_some | apply Cnd_none | apply Gd_nt | apply Gd_nf | apply Gd_some | apply Gd_none | apply Gd_want) | refine U_ar rfl rfl rfl (wrap_k (by simp only [wrapOk]; omega)) rfl ?_ | refine U_cv E rfl rfl rfl (wrap_k (by simp only [wrapOk]; omega)) rfl ?_ | refine U_pure E rfl rfl ?_ | refine T_exit rfl ?_ | refine T_condV rfl ?_ | refine U_guard rfl rfl ?_ | ((with_reducible refine Gd_skipT ?_ ?_); exact rfl) | ((with_reducible refine Gd_skipF ?_ ?_); exact rfl))
  refine Cnd_p (fun hlt => ?_) (fun hlt => ?_)
  · have hlt' : i < J.length := by omega
    have hb := b_lt J[i]
    repeat (first | (with_reducible first | apply T_seq | apply T_region | apply U_nil | apply T_skip | apply T_block | apply T_inBlock | apply Cnd_t | apply Cnd_f | apply Cnd_not | apply Cnd_some | apply Cnd_none | apply Gd_nt | apply Gd_nf | apply Gd_some | apply Gd_none | apply Gd_want) | refine U_ar rfl rfl rfl (wrap_k (by simp only [wrapOk]; omega)) rfl ?_ | refine U_cv E rfl rfl rfl (wrap_k (by simp only [wrapOk]; omega)) rfl ?_ | refine U_pure E rfl rfl ?_ | refine T_exit rfl ?_ | refine T_condV rfl ?_ | refine U_guard rfl rfl ?_ | ((with_reducible refine Gd_skipT ?_ ?_); exact rfl) | ((with_reducible refine Gd_skipF ?_ ?_); exact rfl))
    refine U_idx E (hb3) rfl rfl rfl rfl (by omega) (by omega) ((toNat_get hlt')) rfl (fun p hp => ?_)
    refine U_load E rfl rfl rfl hp rfl ?_
    repeat (first | (with_reducible first | apply T_seq | apply T_region | apply U_nil | apply T_skip | apply T_block | apply T_inBlock | apply Cnd_t | apply Cnd_f | apply Cnd_not | apply Cnd_some | apply Cnd_none | apply Gd_nt | apply Gd_nf | apply Gd_some | apply Gd_none | apply Gd_want) | refine U_ar rfl rfl rfl (wrap_k (by simp only [wrapOk]; omega)) rfl ?_ | refine U_cv E rfl rfl rfl (wrap_k (by simp only [wrapOk]; omega)) rfl ?_ | refine U_pure E rfl rfl ?_ | refine T_exit rfl ?_ | refine T_condV rfl ?_ | refine U_guard rfl rfl ?_ | ((with_reducible refine Gd_skipT ?_ ?_); exact rfl) | ((with_reducible refine Gd_skipF ?_ ?_); exact rfl))
    refine T_loop (α := Nat × Nat) (fun y => [(8, .int .i64 y.1), (5, .int .u64 y.2), (7, encB J[i]), (17, .int .i64 i), (16, .int .i64 J.length), (15, .slice A3 J.length c3)]) (fun y => w3) (fun y => 8 - y.1)
      (fun y => y.1 ≤ 8 ∧ y.2 < 4294967296 ∧ y.2 ^^^ (J[i].toNat / 2 ^ y.1) = stps y.1 (x ^^^ J[i].toNat)) (0, x) ⟨Nat.zero_le 8, hx32, by simp [stps]⟩ ⟨rfl, rfl, rfl, rfl, rfl, rfl, trivial⟩ rfl ?_
    rintro ⟨j, y⟩ ⟨hj8, hy32, hy⟩ ih2
    dsimp only at hj8 hy32 hy ⊢
    have hnext : stps (j + 1) (x ^^^ J[i].toNat) = stp (y ^^^ (J[i].toNat / 2 ^ j)) := by rw [hy]; rfl
    have hdd : J[i].toNat / 2 ^ (j + 1) = J[i].toNat / 2 ^ j / 2 := by rw [Nat.pow_succ, Nat.div_div_eq_div_mul]
    have hq : J[i].toNat / 2 ^ j ≤ J[i].toNat := Nat.div_le_self _ _
    obtain ⟨Q, hQ⟩ : ∃ Q, J[i].toNat / 2 ^ j = Q := ⟨_, rfl⟩
    rw [hQ] at hy hnext hdd hq
    repeat (first | (with_reducible first | apply T_seq | apply T_region | apply U_nil | apply T_skip | apply T_block | apply T_inBlock | apply Cnd_t | apply Cnd_f | apply Cnd_not | apply Cnd_some | apply Cnd_none | apply Gd_nt | apply Gd_nf | apply Gd_some | apply Gd_none | apply Gd_want) | refine U_ar rfl rfl rfl (wrap_k (by simp only [wrapOk]; omega)) rfl ?_ | refine U_cv E rfl rfl rfl (wrap_k (by simp only [wrapOk]; omega)) rfl ?_ | refine U_pure E rfl rfl ?_ | refine T_exit rfl ?_ | refine T_condV rfl ?_ | refine U_guard rfl rfl ?_ | ((with_reducible refine Gd_skipT ?_ ?_); exact rfl) | ((with_reducible refine Gd_skipF ?_ ?_); exact rfl))
    refine Cnd_p (fun hjl8 => ?_) (fun hjl8 => ?_)
    · repeat (first | (with_reducible first | apply T_seq | apply T_region | apply U_nil | apply T_skip | apply T_block | apply T_inBlock | apply Cnd_t | apply Cnd_f | apply Cnd_not | apply Cnd_some | apply Cnd_none | apply Gd_nt | apply Gd_nf | apply Gd_some | apply Gd_none | apply Gd_want) | refine U_ar rfl rfl rfl (wrap_k (by simp only [wrapOk]; omega)) rfl ?_ | refine U_cv E rfl rfl rfl (wrap_k (by simp only [wrapOk]; omega)) rfl ?_ | refine U_pure E rfl rfl ?_ | refine T_exit rfl ?_ | refine T_condV rfl ?_ | refine U_guard rfl rfl ?_ | ((with_reducible refine Gd_skipT ?_ ?_); exact rfl) | ((with_reducible refine Gd_skipF ?_ ?_); exact rfl))
      refine U_run rfl rfl rfl (ro_bin (r := .int .u64 (y % 2 : Nat)) rfl rfl (by exact run_rem (y := 2) (by decide))) ?_
      repeat (first | (with_reducible first | apply T_seq | apply T_region | apply U_nil | apply T_skip | apply T_block | apply T_inBlock | apply Cnd_t | apply Cnd_f | apply Cnd_not | apply Cnd_some | apply Cnd_none | apply Gd_nt | apply Gd_nf | apply Gd_some | apply Gd_none | apply Gd_want) | refine U_ar rfl rfl rfl (wrap_k (by simp only [wrapOk]; omega)) rfl ?_ | refine U_cv E rfl rfl rfl (wrap_k (by simp only [wrapOk]; omega)) rfl ?_ | refine U_pure E rfl rfl ?_ | refine T_exit rfl ?_ | refine T_condV rfl ?_ | refine U_guard rfl rfl ?_ | ((with_reducible refine Gd_skipT ?_ ?_); exact rfl) | ((with_reducible refine Gd_skipF ?_ ?_); exact rfl))
      refine U_run rfl rfl rfl (ro_bin (r := .int .u64 (Q : Nat)) rfl rfl (by rw [← hQ]; exact run_shr (y := j) .i64 (by simp only [IntKind.bits]; omega))) ?_
      repeat (first | (with_reducible first | apply T_seq | apply T_region | apply U_nil | apply T_skip | apply T_block | apply T_inBlock | apply Cnd_t | apply Cnd_f | apply Cnd_not | apply Cnd_some | apply Cnd_none | apply Gd_nt | apply Gd_nf | apply Gd_some | apply Gd_none | apply Gd_want) | refine U_ar rfl rfl rfl (wrap_k (by simp only [wrapOk]; omega)) rfl ?_ | refine U_cv E rfl rfl rfl (wrap_k (by simp only [wrapOk]; omega)) rfl ?_ | refine U_pure E rfl rfl ?_ | refine T_exit rfl ?_ | refine T_condV rfl ?_ | refine U_guard rfl rfl ?_ | ((with_reducible refine Gd_skipT ?_ ?_); exact rfl) | ((with_reducible refine Gd_skipF ?_ ?_); exact rfl))
      refine U_run rfl rfl rfl (ro_bin (r := .int .u64 ((y % 2 + Q) % 2 : Nat)) rfl rfl (by exact run_rem (x := y % 2 + Q) (y := 2) (by decide))) ?_
      repeat (first | (with_reducible first | apply T_seq | apply T_region | apply U_nil | apply T_skip | apply T_block | apply T_inBlock | apply Cnd_t | apply Cnd_f | apply Cnd_not | apply Cnd_some | apply Cnd_none | apply Gd_nt | apply Gd_nf | apply Gd_some | apply Gd_none | apply Gd_want) | refine U_ar rfl rfl rfl (wrap_k (by simp only [wrapOk]; omega)) rfl ?_ | refine U_cv E rfl rfl rfl (wrap_k (by simp only [wrapOk]; omega)) rfl ?_ | refine U_pure E rfl rfl ?_ | refine T_exit rfl ?_ | refine T_condV rfl ?_ | refine U_guard rfl rfl ?_ | ((with_reducible refine Gd_skipT ?_ ?_); exact rfl) | ((with_reducible refine Gd_skipF ?_ ?_); exact rfl))
      refine U_run rfl rfl rfl (ro_bin (r := .int .u64 (y / 2 : Nat)) rfl rfl (by exact run_quo (y := 2) (by decide) (wrap_u64 (by omega)))) ?_
      repeat (first | (with_reducible first | apply T_seq | apply T_region | apply U_nil | apply T_skip | apply T_block | apply T_inBlock | apply Cnd_t | apply Cnd_f | apply Cnd_not | apply Cnd_some | apply Cnd_none | apply Gd_nt | apply Gd_nf | apply Gd_some | apply Gd_none | apply Gd_want) | refine U_ar rfl rfl rfl (wrap_k (by simp only [wrapOk]; omega)) rfl ?_ | refine U_cv E rfl rfl rfl (wrap_k (by simp only [wrapOk]; omega)) rfl ?_ | refine U_pure E rfl rfl ?_ | refine T_exit rfl ?_ | refine T_condV rfl ?_ | refine U_guard rfl rfl ?_ | ((with_reducible refine Gd_skipT ?_ ?_); exact rfl) | ((with_reducible refine Gd_skipF ?_ ?_); exact rfl))
      have hstep := ref_step y Q
      refine Cnd_p (fun hodd => ?_) (fun hodd => ?_)
      · rw [if_pos (by omega)] at hstep
        repeat (first | (with_reducible first | apply T_seq | apply T_region | apply U_nil | apply T_skip | apply T_block | apply T_inBlock | apply Cnd_t | apply Cnd_f | apply Cnd_not | apply Cnd_some | apply Cnd_none | apply Gd_nt | apply Gd_nf | apply Gd_some | apply Gd_none | apply Gd_want) | refine U_ar rfl rfl rfl (wrap_k (by simp only [wrapOk]; omega)) rfl ?_ | refine U_cv E rfl rfl rfl (wrap_k (by simp only [wrapOk]; omega)) rfl ?_ | refine U_pure E rfl rfl ?_ | refine T_exit rfl ?_ | refine T_condV rfl ?_ | refine U_guard rfl rfl ?_ | ((with_reducible refine Gd_skipT ?_ ?_); exact rfl) | ((with_reducible refine Gd_skipF ?_ ?_); exact rfl))
        refine U_run rfl rfl rfl (ro_bin (r := .int .u64 (y / 2 ^^^ 3988292384 : Nat)) rfl rfl (by exact run_xor (y := 3988292384) rfl (by simp only [IntKind.bits]; omega) (by decide))) ?_
        repeat (first | (with_reducible first | apply T_seq | apply T_region | apply U_nil | apply T_skip | apply T_block | apply T_inBlock | apply Cnd_t | apply Cnd_f | apply Cnd_not | apply Cnd_some | apply Cnd_none | apply Gd_nt | apply Gd_nf | apply Gd_some | apply Gd_none | apply Gd_want) | refine U_ar rfl rfl rfl (wrap_k (by simp only [wrapOk]; omega)) rfl ?_ | refine U_cv E rfl rfl rfl (wrap_k (by simp only [wrapOk]; omega)) rfl ?_ | refine U_pure E rfl rfl ?_ | refine T_exit rfl ?_ | refine T_condV rfl ?_ | refine U_guard rfl rfl ?_ | ((with_reducible refine Gd_skipT ?_ ?_); exact rfl) | ((with_reducible refine Gd_skipF ?_ ?_); exact rfl))
        refine T.less ?_ (ih2 (j + 1, y / 2 ^^^ 3988292384) ⟨by omega, xor_lt32 (by omega) (by decide), ?_⟩ (by dsimp only; omega))
        · exact ⟨rfl, rfl, rfl, rfl, rfl, rfl, trivial⟩
        · dsimp only
          rw [hnext, hdd, hstep]
      · rw [if_neg (by omega)] at hstep
        repeat (first | (with_reducible first | apply T_seq | apply T_region | apply U_nil | apply T_skip | apply T_block | apply T_inBlock | apply Cnd_t | apply Cnd_f | apply Cnd_not | apply Cnd_some | apply Cnd_none | apply Gd_nt | apply Gd_nf | apply Gd_some | apply Gd_none | apply Gd_want) | refine U_ar rfl rfl rfl (wrap_k (by simp only [wrapOk]; omega)) rfl ?_ | refine U_cv E rfl rfl rfl (wrap_k (by simp only [wrapOk]; omega)) rfl ?_ | refine U_pure E rfl rfl ?_ | refine T_exit rfl ?_ | refine T_condV rfl ?_ | refine U_guard rfl rfl ?_ | ((with_reducible refine Gd_skipT ?_ ?_); exact rfl) | ((with_reducible refine Gd_skipF ?_ ?_); exact rfl))
        refine T.less ?_ (ih2 (j + 1, y / 2) ⟨by omega, by dsimp only; omega, ?_⟩ (by dsimp only; omega))
        · exact ⟨rfl, rfl, rfl, rfl, rfl, rfl, trivial⟩
        · dsimp only
          rw [hnext, hdd, hstep]
    · have : j = 8 := by omega
      subst this
      repeat (first | (with_reducible first | apply T_seq | apply T_region | apply U_nil | apply T_skip | apply T_block | apply T_inBlock | apply Cnd_t | apply Cnd_f | apply Cnd_not | apply Cnd_some | apply Cnd_none | apply Gd_nt | apply Gd_nf | apply Gd_some | apply Gd_none | apply Gd_want) | refine U_ar rfl rfl rfl (wrap_k (by simp only [wrapOk]; omega)) rfl ?_ | refine U_cv E rfl rfl rfl (wrap_k (by simp only [wrapOk]; omega)) rfl ?_ | refine U_pure E rfl rfl ?_ | refine T_exit rfl ?_ | refine T_condV rfl ?_ | refine U_guard rfl rfl ?_ | ((with_reducible refine Gd_skipT ?_ ?_); exact rfl) | ((with_reducible refine Gd_skipF ?_ ?_); exact rfl))
      refine T.less ?_ (ih (i + 1, y) ⟨hlt', ?_⟩ (by dsimp only; omega))
      · exact ⟨rfl, rfl, rfl, rfl, trivial⟩
      · dsimp only
        have hQ0 : Q = 0 := by rw [← hQ]; omega
        rw [hQ0, Nat.xor_zero] at hy
        rw [take_snoc J i hlt', crc_snoc, ← hx, hy]
        rfl
  · have : i = J.length := by omega
    subst this
    rw [List.take_length] at hx
    repeat (first | (with_reducible first | apply T_seq | apply T_region | apply U_nil | apply T_skip | apply T_block | apply T_inBlock | apply Cnd_t | apply Cnd_f | apply Cnd_not | apply Cnd_some | apply Cnd_none | apply Gd_nt | apply Gd_nf | apply Gd_some | apply Gd_none | apply Gd_want) | refine U_ar rfl rfl rfl (wrap_k (by simp only [wrapOk]; omega)) rfl ?_ | refine U_cv E rfl rfl rfl (wrap_k (by simp only [wrapOk]; omega)) rfl ?_ | refine U_pure E rfl rfl ?_ | refine T_exit rfl ?_ | refine T_condV rfl ?_ | refine U_guard rfl rfl ?_ | ((with_reducible refine Gd_skipT ?_ ?_); exact rfl) | ((with_reducible refine Gd_skipF ?_ ?_); exact rfl))
    refine T_ret1 Tryd.func45 rfl rfl ⟨_, rfl, ?_, k3'⟩
    refine congrArg (fun z => Value.int .u32 z) ?_
    unfold chk
    rw [← crc_append, hJe, ← hx]
    omega
end Go.Proofs.YtoefhdaenaiomaaDoor
