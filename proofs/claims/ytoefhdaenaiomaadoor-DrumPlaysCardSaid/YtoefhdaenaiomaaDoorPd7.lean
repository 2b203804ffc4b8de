/- Frames: the reference's Frame, Next, Turned. -/
import Derived.Test.YtoefhdaenaiomaaDoorPd6
import Derived.Test.YtoefhdaenaiomaaDoorPd5
set_option linter.unusedVariables false
set_option linter.unusedSimpArgs false
namespace Go.Proofs.YtoefhdaenaiomaaDoor
open Go
set_option maxRecDepth 20000

section
variable {P : Program} {w : World} {m : Fm} {n : Nat} {t ty t2 : TypeId} {ps : String} {af : Array Edge}
theorem ro_ar {bop : BinOp} {x y : Operand} {kd : IntKind} {p q r : Int} (hx : ev m x = some (.int kd p)) (hy : ev m y = some (.int kd q)) (hr : arOp bop p q = some r) (hw : kd.wrap r = r) {dst : Option Tmp} {gd : Option (Nat × Bool)} :
    ∀ a, Fits a n m → (execOp a.eval { dst := dst, op := .binOp bop t x y t2, type := ty, pos := ps, after := af, guard := gd }).run P w = .ok (.value (.int kd r)) w := by
  intro a ha
  simp [execOp, ha.eval hx, ha.eval hy, eqGuard_int, run_ar _ _ _ _ _ hr, hw]
end

theorem rframe_c (w : World) (G : Nat → Prop) (v : Value) (l : List UInt8) (s : Nat) (hs : s < 4294967296) (h : BS w G v l) (hN : l.length ≤ 800000) :
    Calls Tryd.prog 44 [.int .u32 s, v].toArray w (Ret fun r w' => Kept none0 w w' ∧ BS w' (fresh w) r (frm s l)) := by
  refine calls_T Tryd.func44 rfl rfl rfl ?_
  obtain ⟨A, c, rfl⟩ := h.len
  repeat (first | (with_reducible first | apply T_seq | apply T_region | apply U_nil | apply T_skip | apply T_block | apply T_inBlock | apply Cnd_t | apply Cnd_f | apply Cnd_not | apply Cnd_some | apply Cnd_none | apply Gd_nt | apply Gd_nf | apply Gd_some | apply Gd_none | apply Gd_want) | refine U_ar rfl rfl rfl (wrap_k (by simp only [wrapOk]; omega)) rfl ?_ | refine U_cv E rfl rfl rfl (wrap_k (by simp only [wrapOk]; omega)) rfl ?_ | refine U_pure E rfl rfl ?_ | refine T_exit rfl ?_ | refine T_condV rfl ?_ | refine U_guard rfl rfl ?_ | ((with_reducible refine Gd_skipT ?_ ?_); exact rfl) | ((with_reducible refine Gd_skipF ?_ ?_); exact rfl))
  refine U_call rfl rfl (Tryd.call82 _) (rword_c w l.length (by omega)) ?_
  rintro r w1 ⟨b1, rfl, hn1⟩
  repeat (first | (with_reducible first | apply T_seq | apply T_region | apply U_nil | apply T_skip | apply T_block | apply T_inBlock | apply Cnd_t | apply Cnd_f | apply Cnd_not | apply Cnd_some | apply Cnd_none | apply Gd_nt | apply Gd_nf | apply Gd_some | apply Gd_none | apply Gd_want) | refine U_ar rfl rfl rfl (wrap_k (by simp only [wrapOk]; omega)) rfl ?_ | refine U_cv E rfl rfl rfl (wrap_k (by simp only [wrapOk]; omega)) rfl ?_ | refine U_pure E rfl rfl ?_ | refine T_exit rfl ?_ | refine T_condV rfl ?_ | refine U_guard rfl rfl ?_ | ((with_reducible refine Gd_skipT ?_ ?_); exact rfl) | ((with_reducible refine Gd_skipF ?_ ?_); exact rfl))
  refine U_buildSlice (sz := 1) E rfl rfl rfl rfl rfl rfl rfl rfl (segs := [[.slice (some ⟨b1, 0, none⟩) 4 4], [.slice A l.length c]]) rfl (by simp) rfl ?_
  intro b2 w2 hn2
  have hs1 : BS w2 (fun _ => True) (.slice (some ⟨b1, 0, none⟩) 4 4) (le4 l.length) := (hn1.bs (le4_len _) (by decide) _ trivial).mv hn2.kept (fun _ _ _ x => x)
  have k2 : Kept none0 w w2 := hn1.kept.tr hn2.kept (fun _ _ x => x)
  have hl2 : BS w2 (fun _ => True) (.slice A l.length c) l := (h.mv k2 (fun _ _ _ x => x)).mono (fun _ _ _ => trivial)
  have hJ : ([le4 l.length, l] : List (List UInt8)).flatten = le4 l.length ++ l := by simp
  have hjl : (le4 l.length ++ l).length = 4 + l.length := by rw [List.length_append, le4_len]
  have hj := join_c w2 _ _ _ _ [le4 l.length, l] (two_sl hn2.blk) rfl (two_bs hs1 hl2) (by rw [hJ, hjl]; omega)
  rw [hJ] at hj
  refine U_call rfl rfl (Tryd.call35 _) (hj) ?_
  rintro r w3 ⟨k3, hr3⟩
  have k3' : Kept none0 w w3 := k2.tr k3 (fun _ _ x => x)
  have hb3 : BS w3 (fresh w2) r (le4 l.length ++ l) := hr3.sl (by omega)
  clear hr3
  obtain ⟨J, hJe⟩ : ∃ J, le4 l.length ++ l = J := ⟨_, rfl⟩
  rw [hJe] at hb3 hjl
  repeat (first | (with_reducible first | apply T_seq | apply T_region | apply U_nil | apply T_skip | apply T_block | apply T_inBlock | apply Cnd_t | apply Cnd_f | apply Cnd_not | apply Cnd_some | apply Cnd_none | apply Gd_nt | apply Gd_nf | apply Gd_some | apply Gd_none | apply Gd_want) | refine U_ar rfl rfl rfl (wrap_k (by simp only [wrapOk]; omega)) rfl ?_ | refine U_cv E rfl rfl rfl (wrap_k (by simp only [wrapOk]; omega)) rfl ?_ | refine U_pure E rfl rfl ?_ | refine T_exit rfl ?_ | refine T_condV rfl ?_ | refine U_guard rfl rfl ?_ | ((with_reducible refine Gd_skipT ?_ ?_); exact rfl) | ((with_reducible refine Gd_skipF ?_ ?_); exact rfl))
  refine U_call rfl rfl (Tryd.call45 _) (rcheck_c w3 _ r J s hs hb3 (by omega)) ?_
  rintro rs w4 ⟨rfl, k4⟩
  have hck := chk_lt s J
  repeat (first | (with_reducible first | apply T_seq | apply T_region | apply U_nil | apply T_skip | apply T_block | apply T_inBlock | apply Cnd_t | apply Cnd_f | apply Cnd_not | apply Cnd_some | apply Cnd_none | apply Gd_nt | apply Gd_nf | apply Gd_some | apply Gd_none | apply Gd_want) | refine U_ar rfl rfl rfl (wrap_k (by simp only [wrapOk]; omega)) rfl ?_ | refine U_cv E rfl rfl rfl (wrap_k (by simp only [wrapOk]; omega)) rfl ?_ | refine U_pure E rfl rfl ?_ | refine T_exit rfl ?_ | refine T_condV rfl ?_ | refine U_guard rfl rfl ?_ | ((with_reducible refine Gd_skipT ?_ ?_); exact rfl) | ((with_reducible refine Gd_skipF ?_ ?_); exact rfl))
  refine U_call rfl rfl (Tryd.call82 _) (rword_c w4 (chk s J) (by omega)) ?_
  rintro r5 w5 ⟨b5, rfl, hn5⟩
  obtain ⟨A3, c3, rfl⟩ := hb3.len
  repeat (first | (with_reducible first | apply T_seq | apply T_region | apply U_nil | apply T_skip | apply T_block | apply T_inBlock | apply Cnd_t | apply Cnd_f | apply Cnd_not | apply Cnd_some | apply Cnd_none | apply Gd_nt | apply Gd_nf | apply Gd_some | apply Gd_none | apply Gd_want) | refine U_ar rfl rfl rfl (wrap_k (by simp only [wrapOk]; omega)) rfl ?_ | refine U_cv E rfl rfl rfl (wrap_k (by simp only [wrapOk]; omega)) rfl ?_ | refine U_pure E rfl rfl ?_ | refine T_exit rfl ?_ | refine T_condV rfl ?_ | refine U_guard rfl rfl ?_ | ((with_reducible refine Gd_skipT ?_ ?_); exact rfl) | ((with_reducible refine Gd_skipF ?_ ?_); exact rfl))
  refine U_buildSlice (sz := 1) E rfl rfl rfl rfl rfl rfl rfl rfl (segs := [[.slice A3 J.length c3], [.slice (some ⟨b5, 0, none⟩) 4 4]]) rfl (by simp) rfl ?_
  intro b6 w6 hn6
  have hs6 : BS w6 (fun _ => True) (.slice (some ⟨b5, 0, none⟩) 4 4) (le4 (chk s J)) := (hn5.bs (le4_len _) (by decide) _ trivial).mv hn6.kept (fun _ _ _ x => x)
  have k6 : Kept none0 w3 w6 := (k4.tr hn5.kept (fun _ _ x => x)).tr hn6.kept (fun _ _ x => x)
  have hl6 : BS w6 (fun _ => True) (.slice A3 J.length c3) J := (hb3.mv k6 (fun _ _ _ x => x)).mono (fun _ _ _ => trivial)
  have hJ6 : ([J, le4 (chk s J)] : List (List UInt8)).flatten = J ++ le4 (chk s J) := by simp
  have l6 : (J ++ le4 (chk s J)).length = J.length + 4 := by rw [List.length_append, le4_len]
  have hj6 := join_c w6 _ _ _ _ [J, le4 (chk s J)] (two_sl hn6.blk) rfl (two_bs hl6 hs6) (by rw [hJ6, l6]; omega)
  rw [hJ6] at hj6
  refine U_call rfl rfl (Tryd.call35 _) (hj6) ?_
  rintro r w7 ⟨k7, hr7⟩
  have k6' : Kept none0 w w6 := k3'.tr k6 (fun _ _ x => x)
  have s6 := k6'.size
  have hb7 : BS w7 (fresh w) r (J ++ le4 (chk s J)) := (hr7.sl (by omega)).mono (fun j _ hj => Nat.le_trans s6 hj)
  repeat (first | (with_reducible first | apply T_seq | apply T_region | apply U_nil | apply T_skip | apply T_block | apply T_inBlock | apply Cnd_t | apply Cnd_f | apply Cnd_not | apply Cnd_some | apply Cnd_none | apply Gd_nt | apply Gd_nf | apply Gd_some | apply Gd_none | apply Gd_want) | refine U_ar rfl rfl rfl (wrap_k (by simp only [wrapOk]; omega)) rfl ?_ | refine U_cv E rfl rfl rfl (wrap_k (by simp only [wrapOk]; omega)) rfl ?_ | refine U_pure E rfl rfl ?_ | refine T_exit rfl ?_ | refine T_condV rfl ?_ | refine U_guard rfl rfl ?_ | ((with_reducible refine Gd_skipT ?_ ?_); exact rfl) | ((with_reducible refine Gd_skipF ?_ ?_); exact rfl))
  refine T_ret1 Tryd.func44 rfl rfl ⟨_, rfl, k6'.tr k7 (fun _ _ x => x), ?_⟩
  unfold frm
  rw [hJe]
  exact hb7

theorem some_step {l : List UInt8} {i : Nat} (h : i < l.length) (b : Bool) (hb : b = true ↔ ¬ zz (l.take i)) (hf : b = false) : (decide ((0 : Int) < (l[i].toNat : Int)) = true) ↔ ¬ zz (l.take (i + 1)) := by
  subst hf
  have hz : zz (l.take i) := Classical.byContradiction fun e => by have := hb.2 e; cases this
  rw [take_snoc l i h, decide_eq_true_iff]
  constructor
  · intro h0 e
    have := e l[i] (List.mem_append_right _ (List.mem_singleton.2 rfl))
    rw [this] at h0
    exact absurd h0 (by decide)
  · intro h0
    refine Classical.byContradiction fun e => h0 ?_
    intro x hx
    rcases List.mem_append.1 hx with hx | hx
    · exact hz x hx
    · rw [List.mem_singleton.1 hx]
      apply UInt8.toNat_inj.1
      show l[i].toNat = 0
      omega

set_option maxHeartbeats 2000000 in
theorem rnext_c (w : World) (G : Nat → Prop) (v : Value) (l : List UInt8) (s : Nat) (hs : s < 4294967296) (h : BS w G v l) (hN : l.length ≤ 800000) :
    Calls Tryd.prog 42 [.int .u32 s, v].toArray w (Ret fun r w' => Kept none0 w w' ∧ ∃ u, r = .tuple #[u, .int .i64 (nLen s l : Nat), .int .i64 (nErr s l : Nat)] ∧ BS w' (fresh w) u (nRec s l)) := by
  have bad : ∀ (k : Nat), nErr s l = k + 1 → nLen s l = 0 ∧ nRec s l = [] := fun k hk => by
    constructor
    · rw [nLen, if_neg (by omega)]
    · rw [nRec, if_neg (by omega)]
  refine calls_T Tryd.func42 rfl rfl rfl ?_
  obtain ⟨A, c, rfl⟩ := h.len
  have hv4 := val4_lt l
  repeat (first | (with_reducible first | apply T_seq | apply T_region | apply U_nil | apply T_skip | apply T_block | apply T_inBlock | apply Cnd_t | apply Cnd_f | apply Cnd_not | apply Cnd_some | apply Cnd_none | apply Gd_nt | apply Gd_nf | apply Gd_some | apply Gd_none | apply Gd_want) | refine U_ar rfl rfl rfl (wrap_k (by simp only [wrapOk]; omega)) rfl ?_ | refine U_cv E rfl rfl rfl (wrap_k (by simp only [wrapOk]; omega)) rfl ?_ | refine U_pure E rfl rfl ?_ | refine T_exit rfl ?_ | refine T_condV rfl ?_ | refine U_guard rfl rfl ?_ | ((with_reducible refine Gd_skipT ?_ ?_); exact rfl) | ((with_reducible refine Gd_skipF ?_ ?_); exact rfl))
  refine T_loop (α := Nat × Bool) (fun x => [(13, .int .i64 x.1), (12, .int .i64 l.length), (11, .slice A l.length c), (7, .bool x.2), (0, .int .u32 s), (1, .slice A l.length c), (4, .slice none 0 0), (5, .int .i64 0), (6, .int .i64 0)]) (fun x => w) (fun x => l.length - x.1)
    (fun x => x.1 ≤ l.length ∧ (x.2 = true ↔ ¬ zz (l.take x.1))) (0, false) ⟨Nat.zero_le _, by rw [List.take_zero]; constructor <;> intro e; cases e; exact absurd (fun x hx => by cases hx) e⟩ ⟨rfl, rfl, rfl, rfl, rfl, rfl, rfl, rfl, rfl, trivial⟩ rfl ?_
  rintro ⟨i, b⟩ ⟨hi, hb⟩ ih
  dsimp only at hi hb ⊢
  repeat (first | (with_reducible first | apply T_seq | apply T_region | apply U_nil | apply T_skip | apply T_block | apply T_inBlock | apply Cnd_t | apply Cnd_f | apply Cnd_not | apply Cnd_some | apply Cnd_none | apply Gd_nt | apply Gd_nf | apply Gd_some | apply Gd_none | apply Gd_want) | refine U_ar rfl rfl rfl (wrap_k (by simp only [wrapOk]; omega)) rfl ?_ | refine U_cv E rfl rfl rfl (wrap_k (by simp only [wrapOk]; omega)) rfl ?_ | refine U_pure E rfl rfl ?_ | refine T_exit rfl ?_ | refine T_condV rfl ?_ | refine U_guard rfl rfl ?_ | ((with_reducible refine Gd_skipT ?_ ?_); exact rfl) | ((with_reducible refine Gd_skipF ?_ ?_); exact rfl))
  refine Cnd_p (fun hlt => ?_) (fun hlt => ?_)
  · have hlt' : i < l.length := by omega
    repeat (first | (with_reducible first | apply T_seq | apply T_region | apply U_nil | apply T_skip | apply T_block | apply T_inBlock | apply Cnd_t | apply Cnd_f | apply Cnd_not | apply Cnd_some | apply Cnd_none | apply Gd_nt | apply Gd_nf | apply Gd_some | apply Gd_none | apply Gd_want) | refine U_ar rfl rfl rfl (wrap_k (by simp only [wrapOk]; omega)) rfl ?_ | refine U_cv E rfl rfl rfl (wrap_k (by simp only [wrapOk]; omega)) rfl ?_ | refine U_pure E rfl rfl ?_ | refine T_exit rfl ?_ | refine T_condV rfl ?_ | refine U_guard rfl rfl ?_ | ((with_reducible refine Gd_skipT ?_ ?_); exact rfl) | ((with_reducible refine Gd_skipF ?_ ?_); exact rfl))
    refine U_idx E (h) rfl rfl rfl rfl (by omega) (by omega) ((toNat_get hlt')) rfl (fun p hp => ?_)
    refine U_load E rfl rfl rfl hp rfl ?_
    repeat (first | (with_reducible first | apply T_seq | apply T_region | apply U_nil | apply T_skip | apply T_block | apply T_inBlock | apply Cnd_t | apply Cnd_f | apply Cnd_not | apply Cnd_some | apply Cnd_none | apply Gd_nt | apply Gd_nf | apply Gd_some | apply Gd_none | apply Gd_want) | refine U_ar rfl rfl rfl (wrap_k (by simp only [wrapOk]; omega)) rfl ?_ | refine U_cv E rfl rfl rfl (wrap_k (by simp only [wrapOk]; omega)) rfl ?_ | refine U_pure E rfl rfl ?_ | refine T_exit rfl ?_ | refine T_condV rfl ?_ | refine U_guard rfl rfl ?_ | ((with_reducible refine Gd_skipT ?_ ?_); exact rfl) | ((with_reducible refine Gd_skipF ?_ ?_); exact rfl))
    refine Gd_b (fun e => ?_) (fun e => ?_)
    · subst e
      repeat (first | (with_reducible first | apply T_seq | apply T_region | apply U_nil | apply T_skip | apply T_block | apply T_inBlock | apply Cnd_t | apply Cnd_f | apply Cnd_not | apply Cnd_some | apply Cnd_none | apply Gd_nt | apply Gd_nf | apply Gd_some | apply Gd_none | apply Gd_want) | refine U_ar rfl rfl rfl (wrap_k (by simp only [wrapOk]; omega)) rfl ?_ | refine U_cv E rfl rfl rfl (wrap_k (by simp only [wrapOk]; omega)) rfl ?_ | refine U_pure E rfl rfl ?_ | refine T_exit rfl ?_ | refine T_condV rfl ?_ | refine U_guard rfl rfl ?_ | ((with_reducible refine Gd_skipT ?_ ?_); exact rfl) | ((with_reducible refine Gd_skipF ?_ ?_); exact rfl))
      refine T.less ?_ (ih (i + 1, true) ⟨hlt', ?_⟩ (by dsimp only; omega))
      · exact ⟨rfl, rfl, rfl, rfl, rfl, rfl, rfl, rfl, rfl, trivial⟩
      · dsimp only
        constructor
        · intro _ e
          refine hb.1 rfl (fun x hx => e x ?_)
          rw [take_snoc l i hlt']
          exact List.mem_append_left _ hx
        · intro _; rfl
    · have hst := some_step hlt' b hb e
      subst e
      repeat (first | (with_reducible first | apply T_seq | apply T_region | apply U_nil | apply T_skip | apply T_block | apply T_inBlock | apply Cnd_t | apply Cnd_f | apply Cnd_not | apply Cnd_some | apply Cnd_none | apply Gd_nt | apply Gd_nf | apply Gd_some | apply Gd_none | apply Gd_want) | refine U_ar rfl rfl rfl (wrap_k (by simp only [wrapOk]; omega)) rfl ?_ | refine U_cv E rfl rfl rfl (wrap_k (by simp only [wrapOk]; omega)) rfl ?_ | refine U_pure E rfl rfl ?_ | refine T_exit rfl ?_ | refine T_condV rfl ?_ | refine U_guard rfl rfl ?_ | ((with_reducible refine Gd_skipT ?_ ?_); exact rfl) | ((with_reducible refine Gd_skipF ?_ ?_); exact rfl))
      refine T.less ?_ (ih (i + 1, decide ((0 : Int) < (l[i].toNat : Int))) ⟨hlt', hst⟩ (by dsimp only; omega))
      exact ⟨rfl, rfl, rfl, rfl, rfl, rfl, rfl, rfl, rfl, trivial⟩
  · have : i = l.length := by omega
    subst this
    rw [List.take_length] at hb
    repeat (first | (with_reducible first | apply T_seq | apply T_region | apply U_nil | apply T_skip | apply T_block | apply T_inBlock | apply Cnd_t | apply Cnd_f | apply Cnd_not | apply Cnd_some | apply Cnd_none | apply Gd_nt | apply Gd_nf | apply Gd_some | apply Gd_none | apply Gd_want) | refine U_ar rfl rfl rfl (wrap_k (by simp only [wrapOk]; omega)) rfl ?_ | refine U_cv E rfl rfl rfl (wrap_k (by simp only [wrapOk]; omega)) rfl ?_ | refine U_pure E rfl rfl ?_ | refine T_exit rfl ?_ | refine T_condV rfl ?_ | refine U_guard rfl rfl ?_ | ((with_reducible refine Gd_skipT ?_ ?_); exact rfl) | ((with_reducible refine Gd_skipF ?_ ?_); exact rfl))
    refine Cnd_b (fun hz0 => ?_) (fun hz0 => ?_)
    · have hnz : ¬ zz l := hb.1 hz0
      repeat (first | (with_reducible first | apply T_seq | apply T_region | apply U_nil | apply T_skip | apply T_block | apply T_inBlock | apply Cnd_t | apply Cnd_f | apply Cnd_not | apply Cnd_some | apply Cnd_none | apply Gd_nt | apply Gd_nf | apply Gd_some | apply Gd_none | apply Gd_want) | refine U_ar rfl rfl rfl (wrap_k (by simp only [wrapOk]; omega)) rfl ?_ | refine U_cv E rfl rfl rfl (wrap_k (by simp only [wrapOk]; omega)) rfl ?_ | refine U_pure E rfl rfl ?_ | refine T_exit rfl ?_ | refine T_condV rfl ?_ | refine U_guard rfl rfl ?_ | ((with_reducible refine Gd_skipT ?_ ?_); exact rfl) | ((with_reducible refine Gd_skipF ?_ ?_); exact rfl))
      refine Gd_p (fun h8 => ?_) (fun h8 => ?_)
      · have he : nErr s l = 2 := by rw [nErr, if_neg hnz, if_pos (by omega)]
        obtain ⟨e1, e2⟩ := bad 1 he
        repeat (first | (with_reducible first | apply T_seq | apply T_region | apply U_nil | apply T_skip | apply T_block | apply T_inBlock | apply Cnd_t | apply Cnd_f | apply Cnd_not | apply Cnd_some | apply Cnd_none | apply Gd_nt | apply Gd_nf | apply Gd_some | apply Gd_none | apply Gd_want) | refine U_ar rfl rfl rfl (wrap_k (by simp only [wrapOk]; omega)) rfl ?_ | refine U_cv E rfl rfl rfl (wrap_k (by simp only [wrapOk]; omega)) rfl ?_ | refine U_pure E rfl rfl ?_ | refine T_exit rfl ?_ | refine T_condV rfl ?_ | refine U_guard rfl rfl ?_ | ((with_reducible refine Gd_skipT ?_ ?_); exact rfl) | ((with_reducible refine Gd_skipF ?_ ?_); exact rfl))
        refine T_ret3 Tryd.func42 rfl rfl rfl rfl ⟨_, rfl, Kept.refl _ _, .slice none 0 0, ?_, ?_⟩
        · rw [he, e1]; rfl
        · rw [e2]; exact sl_nil _ _
      · have h8' : 8 ≤ l.length := by omega
        repeat (first | (with_reducible first | apply T_seq | apply T_region | apply U_nil | apply T_skip | apply T_block | apply T_inBlock | apply Cnd_t | apply Cnd_f | apply Cnd_not | apply Cnd_some | apply Cnd_none | apply Gd_nt | apply Gd_nf | apply Gd_some | apply Gd_none | apply Gd_want) | refine U_ar rfl rfl rfl (wrap_k (by simp only [wrapOk]; omega)) rfl ?_ | refine U_cv E rfl rfl rfl (wrap_k (by simp only [wrapOk]; omega)) rfl ?_ | refine U_pure E rfl rfl ?_ | refine T_exit rfl ?_ | refine T_condV rfl ?_ | refine U_guard rfl rfl ?_ | ((with_reducible refine Gd_skipT ?_ ?_); exact rfl) | ((with_reducible refine Gd_skipF ?_ ?_); exact rfl))
        refine U_call rfl rfl (Tryd.call80 _) (ret_of (value_c w G _ l (by omega) h)) ?_
        rintro r w1 ⟨rfl, hd1⟩
        have h1 := h.mv (hd1.kept none0) (fun _ _ _ x => x)
        repeat (first | (with_reducible first | apply T_seq | apply T_region | apply U_nil | apply T_skip | apply T_block | apply T_inBlock | apply Cnd_t | apply Cnd_f | apply Cnd_not | apply Cnd_some | apply Cnd_none | apply Gd_nt | apply Gd_nf | apply Gd_some | apply Gd_none | apply Gd_want) | refine U_ar rfl rfl rfl (wrap_k (by simp only [wrapOk]; omega)) rfl ?_ | refine U_cv E rfl rfl rfl (wrap_k (by simp only [wrapOk]; omega)) rfl ?_ | refine U_pure E rfl rfl ?_ | refine T_exit rfl ?_ | refine T_condV rfl ?_ | refine U_guard rfl rfl ?_ | ((with_reducible refine Gd_skipT ?_ ?_); exact rfl) | ((with_reducible refine Gd_skipF ?_ ?_); exact rfl))
        refine Cnd_p (fun hn => ?_) (fun hn => ?_)
        · have he : nErr s l = 2 := by rw [nErr, if_neg hnz, if_neg (by omega), if_pos (by omega)]
          obtain ⟨e1, e2⟩ := bad 1 he
          repeat (first | (with_reducible first | apply T_seq | apply T_region | apply U_nil | apply T_skip | apply T_block | apply T_inBlock | apply Cnd_t | apply Cnd_f | apply Cnd_not | apply Cnd_some | apply Cnd_none | apply Gd_nt | apply Gd_nf | apply Gd_some | apply Gd_none | apply Gd_want) | refine U_ar rfl rfl rfl (wrap_k (by simp only [wrapOk]; omega)) rfl ?_ | refine U_cv E rfl rfl rfl (wrap_k (by simp only [wrapOk]; omega)) rfl ?_ | refine U_pure E rfl rfl ?_ | refine T_exit rfl ?_ | refine T_condV rfl ?_ | refine U_guard rfl rfl ?_ | ((with_reducible refine Gd_skipT ?_ ?_); exact rfl) | ((with_reducible refine Gd_skipF ?_ ?_); exact rfl))
          refine T_ret3 Tryd.func42 rfl rfl rfl rfl ⟨_, rfl, hd1.kept none0, .slice none 0 0, ?_, ?_⟩
          · rw [he, e1]; rfl
          · rw [e2]; exact sl_nil _ _
        · repeat (first | (with_reducible first | apply T_seq | apply T_region | apply U_nil | apply T_skip | apply T_block | apply T_inBlock | apply Cnd_t | apply Cnd_f | apply Cnd_not | apply Cnd_some | apply Cnd_none | apply Gd_nt | apply Gd_nf | apply Gd_some | apply Gd_none | apply Gd_want) | refine U_ar rfl rfl rfl (wrap_k (by simp only [wrapOk]; omega)) rfl ?_ | refine U_cv E rfl rfl rfl (wrap_k (by simp only [wrapOk]; omega)) rfl ?_ | refine U_pure E rfl rfl ?_ | refine T_exit rfl ?_ | refine T_condV rfl ?_ | refine U_guard rfl rfl ?_ | ((with_reducible refine Gd_skipT ?_ ?_); exact rfl) | ((with_reducible refine Gd_skipF ?_ ?_); exact rfl))
          refine U_call rfl rfl (Tryd.call80 _) (ret_of (value_c w1 G _ l (by omega) h1)) ?_
          rintro r w2 ⟨rfl, hd2⟩
          have h2 := h1.mv (hd2.kept none0) (fun _ _ _ x => x)
          have k2 : Kept none0 w w2 := (hd1.kept none0).tr (hd2.kept none0) (fun _ _ x => x)
          repeat (first | (with_reducible first | apply T_seq | apply T_region | apply U_nil | apply T_skip | apply T_block | apply T_inBlock | apply Cnd_t | apply Cnd_f | apply Cnd_not | apply Cnd_some | apply Cnd_none | apply Gd_nt | apply Gd_nf | apply Gd_some | apply Gd_none | apply Gd_want) | refine U_ar rfl rfl rfl (wrap_k (by simp only [wrapOk]; omega)) rfl ?_ | refine U_cv E rfl rfl rfl (wrap_k (by simp only [wrapOk]; omega)) rfl ?_ | refine U_pure E rfl rfl ?_ | refine T_exit rfl ?_ | refine T_condV rfl ?_ | refine U_guard rfl rfl ?_ | ((with_reducible refine Gd_skipT ?_ ?_); exact rfl) | ((with_reducible refine Gd_skipF ?_ ?_); exact rfl))
          refine Cnd_p (fun hm => ?_) (fun hm => ?_)
          · have he : nErr s l = 4 := by rw [nErr, if_neg hnz, if_neg (by omega), if_neg (by omega), if_pos (by omega)]
            obtain ⟨e1, e2⟩ := bad 3 he
            repeat (first | (with_reducible first | apply T_seq | apply T_region | apply U_nil | apply T_skip | apply T_block | apply T_inBlock | apply Cnd_t | apply Cnd_f | apply Cnd_not | apply Cnd_some | apply Cnd_none | apply Gd_nt | apply Gd_nf | apply Gd_some | apply Gd_none | apply Gd_want) | refine U_ar rfl rfl rfl (wrap_k (by simp only [wrapOk]; omega)) rfl ?_ | refine U_cv E rfl rfl rfl (wrap_k (by simp only [wrapOk]; omega)) rfl ?_ | refine U_pure E rfl rfl ?_ | refine T_exit rfl ?_ | refine T_condV rfl ?_ | refine U_guard rfl rfl ?_ | ((with_reducible refine Gd_skipT ?_ ?_); exact rfl) | ((with_reducible refine Gd_skipF ?_ ?_); exact rfl))
            refine T_ret3 Tryd.func42 rfl rfl rfl rfl ⟨_, rfl, k2, .slice none 0 0, ?_, ?_⟩
            · rw [he, e1]; rfl
            · rw [e2]; exact sl_nil _ _
          · repeat (first | (with_reducible first | apply T_seq | apply T_region | apply U_nil | apply T_skip | apply T_block | apply T_inBlock | apply Cnd_t | apply Cnd_f | apply Cnd_not | apply Cnd_some | apply Cnd_none | apply Gd_nt | apply Gd_nf | apply Gd_some | apply Gd_none | apply Gd_want) | refine U_ar rfl rfl rfl (wrap_k (by simp only [wrapOk]; omega)) rfl ?_ | refine U_cv E rfl rfl rfl (wrap_k (by simp only [wrapOk]; omega)) rfl ?_ | refine U_pure E rfl rfl ?_ | refine T_exit rfl ?_ | refine T_condV rfl ?_ | refine U_guard rfl rfl ?_ | ((with_reducible refine Gd_skipT ?_ ?_); exact rfl) | ((with_reducible refine Gd_skipF ?_ ?_); exact rfl))
            refine U_call rfl rfl (Tryd.call80 _) (ret_of (value_c w2 G _ l (by omega) h2)) ?_
            rintro r w3 ⟨rfl, hd3⟩
            have h3 := h2.mv (hd3.kept none0) (fun _ _ _ x => x)
            have k3 : Kept none0 w w3 := k2.tr (hd3.kept none0) (fun _ _ x => x)
            repeat (first | (with_reducible first | apply T_seq | apply T_region | apply U_nil | apply T_skip | apply T_block | apply T_inBlock | apply Cnd_t | apply Cnd_f | apply Cnd_not | apply Cnd_some | apply Cnd_none | apply Gd_nt | apply Gd_nf | apply Gd_some | apply Gd_none | apply Gd_want) | refine U_ar rfl rfl rfl (wrap_k (by simp only [wrapOk]; omega)) rfl ?_ | refine U_cv E rfl rfl rfl (wrap_k (by simp only [wrapOk]; omega)) rfl ?_ | refine U_pure E rfl rfl ?_ | refine T_exit rfl ?_ | refine T_condV rfl ?_ | refine U_guard rfl rfl ?_ | ((with_reducible refine Gd_skipT ?_ ?_); exact rfl) | ((with_reducible refine Gd_skipF ?_ ?_); exact rfl))
            obtain ⟨ra, ha, fa⟩ := bs_part (P := Tryd.prog) h3 (val4 l + 4) l.length (by omega) (Nat.le_refl _)
            obtain ⟨rb, hbb, fb⟩ := bs_part (P := Tryd.prog) h3 0 (val4 l + 4) (by omega) (by omega)
            rw [List.take_of_length_le (by rw [List.length_drop]; exact Nat.le_refl _)] at ha
            rw [List.drop_zero, Nat.sub_zero] at hbb
            refine L_begin (fun _ => True) 13 (by kernel_rfl) (N := 13) rfl (fun w4 hd4 => ?_)
            refine L_take 0 rfl (by kernel_rfl) (by kernel_rfl) (by kernel_rfl) (by kernel_rfl) trivial rfl rfl rfl (fun a ha w' _ => run_pv E ha rfl _ _ _ _ _) ?_; refine L_take 1 rfl (by kernel_rfl) (by kernel_rfl) (by kernel_rfl) (by kernel_rfl) trivial rfl rfl rfl (fun a ha w' _ => run_pv E ha rfl _ _ _ _ _) ?_
            refine L_take 2 rfl (by kernel_rfl) (by kernel_rfl) (by kernel_rfl) (by kernel_rfl) trivial rfl rfl rfl (fun a ha w' _ => ro_ar rfl rfl rfl (wrap_k (by simp only [wrapOk]; omega)) a ha) ?_
            refine L_take 3 rfl (by kernel_rfl) (by kernel_rfl) (by kernel_rfl) (by kernel_rfl) trivial rfl rfl rfl (fun a ha w' _ => ro_slB E rfl rfl rfl fa (by first | rfl | (simp only [List.length_take, List.length_drop, List.length_append] <;> omega) | (dsimp only; omega) | exact ⟨_, rfl⟩ | exact ⟨_, congrArg (fun z => some (Value.int _ z)) (by omega)⟩) (by first | rfl | (simp only [List.length_take, List.length_drop, List.length_append] <;> omega) | (dsimp only; omega) | exact ⟨_, rfl⟩ | exact ⟨_, congrArg (fun z => some (Value.int _ z)) (by omega)⟩) a ha) ?_
            refine L_take 5 rfl (by kernel_rfl) (by kernel_rfl) (by kernel_rfl) (by kernel_rfl) trivial rfl rfl rfl (fun a ha w' _ => run_pv E ha rfl _ _ _ _ _) ?_; refine L_take 6 rfl (by kernel_rfl) (by kernel_rfl) (by kernel_rfl) (by kernel_rfl) trivial rfl rfl rfl (fun a ha w' _ => run_pv E ha rfl _ _ _ _ _) ?_; refine L_take 7 rfl (by kernel_rfl) (by kernel_rfl) (by kernel_rfl) (by kernel_rfl) trivial rfl rfl rfl (fun a ha w' _ => run_pv E ha rfl _ _ _ _ _) ?_
            refine L_take 8 rfl (by kernel_rfl) (by kernel_rfl) (by kernel_rfl) (by kernel_rfl) trivial rfl rfl rfl (fun a ha w' _ => ro_ar rfl rfl rfl (wrap_k (by simp only [wrapOk]; omega)) a ha) ?_
            refine L_take 9 rfl (by kernel_rfl) (by kernel_rfl) (by kernel_rfl) (by kernel_rfl) trivial rfl rfl rfl (fun a ha w' _ => ro_slB E rfl rfl rfl fb (by first | rfl | (simp only [List.length_take, List.length_drop, List.length_append] <;> omega) | (dsimp only; omega) | exact ⟨_, rfl⟩ | exact ⟨_, congrArg (fun z => some (Value.int _ z)) (by omega)⟩) (by first | rfl | (simp only [List.length_take, List.length_drop, List.length_append] <;> omega) | (dsimp only; omega) | exact ⟨_, rfl⟩ | exact ⟨_, congrArg (fun z => some (Value.int _ z)) (by omega)⟩) a ha) ?_
            have ha4 := ha.mv (hd4.kept none0) (fun _ _ _ x => x)
            have hb4 := hbb.mv (hd4.kept none0) (fun _ _ _ x => x)
            refine L_op 4 (by kernel_rfl) rfl (fun hc4 => ?_)
            refine U_call rfl rfl (Tryd.call80 _) (ret_of (value_c w4 G _ _ (by rw [List.length_drop]; omega) ha4)) ?_
            rintro r w5 ⟨rfl, hd5⟩
            refine U_nilL hc4 (fun _ => trivial) ?_
            refine L_op 10 (by kernel_rfl) rfl (fun hc10 => ?_)
            refine U_call rfl rfl (Tryd.call45 _) (rcheck_c w5 G _ _ s hs (hb4.mv (hd5.kept none0) (fun _ _ _ x => x)) (by rw [List.length_take]; omega)) ?_
            rintro r w6 ⟨rfl, k6⟩
            have hck := chk_lt s (l.take (val4 l + 4))
            refine U_nilL hc10 (fun _ => trivial) ?_
            refine L_take 11 rfl (by kernel_rfl) (by kernel_rfl) (by kernel_rfl) (by kernel_rfl) trivial rfl rfl rfl (fun a ha w' _ => ro_convI E rfl rfl rfl (wrap_k (by simp only [wrapOk]; omega)) a ha) ?_
            refine L_take 12 rfl (by kernel_rfl) (by kernel_rfl) (by kernel_rfl) (by kernel_rfl) trivial rfl rfl rfl (fun a ha w' _ => run_pv E ha rfl _ _ _ _ _) ?_
            refine L_done (by kernel_rfl) ?_
            have k36 : Kept none0 w3 w6 := ((hd4.kept none0).tr (hd5.kept none0) (fun _ _ x => x)).tr k6 (fun _ _ x => x)
            have k6' : Kept none0 w w6 := k3.tr k36 (fun _ _ x => x)
            have h6 := h3.mv k36 (fun _ _ _ x => x)
            repeat (first | (with_reducible first | apply T_seq | apply T_region | apply U_nil | apply T_skip | apply T_block | apply T_inBlock | apply Cnd_t | apply Cnd_f | apply Cnd_not | apply Cnd_some | apply Cnd_none | apply Gd_nt | apply Gd_nf | apply Gd_some | apply Gd_none | apply Gd_want) | refine U_ar rfl rfl rfl (wrap_k (by simp only [wrapOk]; omega)) rfl ?_ | refine U_cv E rfl rfl rfl (wrap_k (by simp only [wrapOk]; omega)) rfl ?_ | refine U_pure E rfl rfl ?_ | refine T_exit rfl ?_ | refine T_condV rfl ?_ | refine U_guard rfl rfl ?_ | ((with_reducible refine Gd_skipT ?_ ?_); exact rfl) | ((with_reducible refine Gd_skipF ?_ ?_); exact rfl))
            refine Cnd_p (fun hs5 => ?_) (fun hs5 => ?_)
            · have he : nErr s l = 5 := by rw [nErr, if_neg hnz, if_neg (by omega), if_neg (by omega), if_neg (by omega), if_pos (by omega)]
              obtain ⟨e1, e2⟩ := bad 4 he
              repeat (first | (with_reducible first | apply T_seq | apply T_region | apply U_nil | apply T_skip | apply T_block | apply T_inBlock | apply Cnd_t | apply Cnd_f | apply Cnd_not | apply Cnd_some | apply Cnd_none | apply Gd_nt | apply Gd_nf | apply Gd_some | apply Gd_none | apply Gd_want) | refine U_ar rfl rfl rfl (wrap_k (by simp only [wrapOk]; omega)) rfl ?_ | refine U_cv E rfl rfl rfl (wrap_k (by simp only [wrapOk]; omega)) rfl ?_ | refine U_pure E rfl rfl ?_ | refine T_exit rfl ?_ | refine T_condV rfl ?_ | refine U_guard rfl rfl ?_ | ((with_reducible refine Gd_skipT ?_ ?_); exact rfl) | ((with_reducible refine Gd_skipF ?_ ?_); exact rfl))
              refine T_ret3 Tryd.func42 rfl rfl rfl rfl ⟨_, rfl, k6', .slice none 0 0, ?_, ?_⟩
              · rw [he, e1]; rfl
              · rw [e2]; exact sl_nil _ _
            · have he : nErr s l = 0 := by rw [nErr, if_neg hnz, if_neg (by omega), if_neg (by omega), if_neg (by omega), if_neg (by omega)]
              repeat (first | (with_reducible first | apply T_seq | apply T_region | apply U_nil | apply T_skip | apply T_block | apply T_inBlock | apply Gd_nt | apply Gd_nf | apply Gd_some | apply Gd_none | apply Gd_want) | refine U_ar rfl rfl rfl (wrap_k (by simp only [wrapOk]; omega)) rfl ?_ | refine U_cv E rfl rfl rfl (wrap_k (by simp only [wrapOk]; omega)) rfl ?_ | refine U_pure E rfl rfl ?_ | refine T_exit rfl ?_ | refine U_guard rfl rfl ?_ | ((with_reducible refine Gd_skipT ?_ ?_); exact rfl) | ((with_reducible refine Gd_skipF ?_ ?_); exact rfl))
              obtain ⟨rc, hc, rcf⟩ := bs_part (P := Tryd.prog) (h6) (4) (val4 l + 4) (by omega) (by omega); refine U_run rfl rfl rfl (ro_slB E rfl rfl rfl rcf (by first | rfl | (simp only [List.length_take, List.length_drop, List.length_append] <;> omega) | (dsimp only; omega) | exact ⟨_, rfl⟩ | exact ⟨_, congrArg (fun z => some (Value.int _ z)) (by omega)⟩) (by first | rfl | (simp only [List.length_take, List.length_drop, List.length_append] <;> omega) | (dsimp only; omega) | exact ⟨_, rfl⟩ | exact ⟨_, congrArg (fun z => some (Value.int _ z)) (by omega)⟩)) ?_
              have hlc : ((l.drop 4).take (val4 l + 4 - 4)).length = val4 l := by rw [List.length_take, List.length_drop]; omega
              repeat (first | (with_reducible first | apply T_seq | apply T_region | apply U_nil | apply T_skip | apply T_block | apply T_inBlock | apply Gd_nt | apply Gd_nf | apply Gd_some | apply Gd_none | apply Gd_want) | refine U_ar rfl rfl rfl (wrap_k (by simp only [wrapOk]; omega)) rfl ?_ | refine U_cv E rfl rfl rfl (wrap_k (by simp only [wrapOk]; omega)) rfl ?_ | refine U_pure E rfl rfl ?_ | refine T_exit rfl ?_ | refine U_guard rfl rfl ?_ | ((with_reducible refine Gd_skipT ?_ ?_); exact rfl) | ((with_reducible refine Gd_skipF ?_ ?_); exact rfl))
              refine U_call rfl rfl (Tryd.call19 _) (cut_c w6 G _ _ (val4 l) hc (by omega)) ?_
              rintro r w7 ⟨k7, hr7⟩
              rw [Int.toNat_natCast, List.take_of_length_le (Nat.le_of_eq hlc)] at hr7
              repeat (first | (with_reducible first | apply T_seq | apply T_region | apply U_nil | apply T_skip | apply T_block | apply T_inBlock | apply Cnd_t | apply Cnd_f | apply Cnd_not | apply Cnd_some | apply Cnd_none | apply Gd_nt | apply Gd_nf | apply Gd_some | apply Gd_none | apply Gd_want) | refine U_ar rfl rfl rfl (wrap_k (by simp only [wrapOk]; omega)) rfl ?_ | refine U_cv E rfl rfl rfl (wrap_k (by simp only [wrapOk]; omega)) rfl ?_ | refine U_pure E rfl rfl ?_ | refine T_exit rfl ?_ | refine T_condV rfl ?_ | refine U_guard rfl rfl ?_ | ((with_reducible refine Gd_skipT ?_ ?_); exact rfl) | ((with_reducible refine Gd_skipF ?_ ?_); exact rfl))
              refine T_ret3 Tryd.func42 rfl rfl rfl rfl ⟨_, rfl, k6'.tr k7 (fun _ _ x => x), r, ?_, ?_⟩
              · rw [he, nLen, if_pos he]
                rfl
              · rw [nRec, if_pos he]
                have e : val4 l + 4 - 4 = val4 l := by omega
                rw [e] at hr7 hlc
                have s6 := k6'.size
                exact (hr7.sl (by omega)).mono (fun j _ hj => Nat.le_trans s6 hj)
    · have he : nErr s l = 3 := by rw [nErr, if_pos (Classical.byContradiction fun e => by have := hb.2 e; rw [hz0] at this; cases this)]
      obtain ⟨e1, e2⟩ := bad 2 he
      repeat (first | (with_reducible first | apply T_seq | apply T_region | apply U_nil | apply T_skip | apply T_block | apply T_inBlock | apply Cnd_t | apply Cnd_f | apply Cnd_not | apply Cnd_some | apply Cnd_none | apply Gd_nt | apply Gd_nf | apply Gd_some | apply Gd_none | apply Gd_want) | refine U_ar rfl rfl rfl (wrap_k (by simp only [wrapOk]; omega)) rfl ?_ | refine U_cv E rfl rfl rfl (wrap_k (by simp only [wrapOk]; omega)) rfl ?_ | refine U_pure E rfl rfl ?_ | refine T_exit rfl ?_ | refine T_condV rfl ?_ | refine U_guard rfl rfl ?_ | ((with_reducible refine Gd_skipT ?_ ?_); exact rfl) | ((with_reducible refine Gd_skipF ?_ ?_); exact rfl))
      refine T_ret3 Tryd.func42 rfl rfl rfl rfl ⟨_, rfl, Kept.refl _ _, .slice none 0 0, ?_, ?_⟩
      · rw [he, e1]; rfl
      · rw [e2]; exact sl_nil _ _
end Go.Proofs.YtoefhdaenaiomaaDoor

/- Guarded operations in regions of open order; the example of the frames; frames and what is taken out of them. -/
namespace Go.Proofs.YtoefhdaenaiomaaDoor
open Go
set_option maxRecDepth 20000

section
variable {P : Program} {f : FuncId} {R : Ending → World → Prop} {n : Nat} {k : List Item} {m : Fm} {ops : Array Oper} {w : World} {S0 : World → Prop} {d fuel : Nat} {listed : Array Bool}

theorem L_takeG (i : Nat) {o : Oper} {v : Value} {d' j g : Nat} {want : Bool} (hi : ops[i]? = some o) (hs : Region.noSelect ops = true) (hf : Region.free .any ops listed i = true) (hr : (Region.ready .any ops listed).contains i = true)
    (hid : (Nat.beq i d || (decide (d < ops.size) && !waitsB ops i ops.size d)) = false) (hS : S0 w) (hg : o.guard = some (j, want)) (hj : (ops[j]?).bind (·.dst) = some g) (hv : look m g = some (.bool want)) (hdst : o.dst = some d') (hd : Nat.blt d' n = true)
    (hy : ∀ a, Fits a n m → ∀ w', S0 w' → (execOp a.eval o).run P w' = .ok (.value v) w') (h : L P f R n k ops S0 d fuel (listed.setIfInBounds i true) ((d', v) :: m) w) : L P f R n k ops S0 d (fuel + 1) listed m w := by
  intro hcl a ha
  simp only [Bool.or_eq_false_iff] at hid
  have hne : i ≠ d := fun e => by rw [e] at hid; simp at hid
  have hrr : i ∈ Region.ready .any ops listed := by simpa using hr
  have := h (hcl.put hrr) _ (ha.put v hd)
  rw [← hdst] at this
  have hyl : yielded ops a.tmps j = some want := by
    unfold yielded
    rw [hj]
    simp [ha.get g _ hv]
  refine wpAnyL_first (fu := ops.size) hi (Region.noSelect_spec hs) (fun c a w h => by cases h.1) hne (fun hlt => ?_) fuel listed a w hcl (Region.free_spec hi hf) hrr (.inl ⟨by simp [Region.wanted, hg, hyl], hy a ha⟩) hS this
  have h2 := hid.2
  simp only [hlt, decide_true, Bool.true_and, Bool.not_eq_false'] at h2
  exact h2

theorem L_skipG (i : Nat) {o : Oper} {d' j g : Nat} {want b : Bool} (hi : ops[i]? = some o) (hs : Region.noSelect ops = true) (hf : Region.free .any ops listed i = true) (hr : (Region.ready .any ops listed).contains i = true)
    (hid : (Nat.beq i d || (decide (d < ops.size) && !waitsB ops i ops.size d)) = false) (hS : S0 w) (hg : o.guard = some (j, want)) (hj : (ops[j]?).bind (·.dst) = some g) (hv : look m g = some (.bool b)) (hb : (b == want) = false) (hdst : o.dst = some d') (hd : Nat.blt d' n = true)
    (h : L P f R n k ops S0 d fuel (listed.setIfInBounds i true) ((d', undef) :: m) w) : L P f R n k ops S0 d (fuel + 1) listed m w := by
  intro hcl a ha
  simp only [Bool.or_eq_false_iff] at hid
  have hne : i ≠ d := fun e => by rw [e] at hid; simp at hid
  have hrr : i ∈ Region.ready .any ops listed := by simpa using hr
  have := h (hcl.put hrr) _ (ha.put undef hd)
  rw [← hdst] at this
  have hyl : yielded ops a.tmps j = some b := by
    unfold yielded
    rw [hj]
    simp [ha.get g _ hv]
  refine wpAnyL_first (fu := ops.size) hi (Region.noSelect_spec hs) (fun c a w h => by cases h.1) hne (fun hlt => ?_) fuel listed a w hcl (Region.free_spec hi hf) hrr (.inr ⟨?_, rfl⟩) hS this
  · have h2 := hid.2
    simp only [hlt, decide_true, Bool.true_and, Bool.not_eq_false'] at h2
    exact h2
  · simp only [Region.wanted, hg, hyl]
    exact hb

/-- What a slot holds is decided. -/
theorem L_splitB {g : Nat} {p : Bool} (hv : look m g = some (.bool p)) (ht : p = true → L P f R n k ops S0 d fuel listed ((g, .bool true) :: m) w) (hf : p = false → L P f R n k ops S0 d fuel listed ((g, .bool false) :: m) w) : L P f R n k ops S0 d fuel listed m w := by
  have hs : ∀ i v, look ((g, .bool p) :: m) i = some v → look m i = some v := by
    intro i v h
    simp only [look] at h
    cases hgi : Nat.beq g i with
    | true =>
      rw [hgi] at h
      have : g = i := by simpa using hgi
      subst this
      rw [hv]
      exact h
    | false => rw [hgi] at h; exact h
  cases p
  · exact fun hcl a ha => hf rfl hcl a (ha.less hs)
  · exact fun hcl a ha => ht rfl hcl a (ha.less hs)
theorem L_less {m' : Fm} (hs : Sub m' m) (h : L P f R n k ops S0 d fuel listed m' w) : L P f R n k ops S0 d fuel listed m w := fun hcl a ha => h hcl a (ha.less hs.look)

/-- A guarded operation whose guard was left out itself. -/
theorem U_guardU {Z : Act → World → Prop} {rest : List Oper} {d' : Nat} {op : Op} {ty : TypeId} {ps : String} {af : Array Edge} {j g : Nat} {want : Bool} (hj : (ops[j]?).bind (·.dst) = some g) (hv : look m g = some undef) (hd : Nat.blt d' n = true)
    (h : U P n Z ops rest ((d', undef) :: m) w) :
    U P n Z ops ({ dst := some d', op := op, type := ty, pos := ps, after := af, guard := some (j, want) } :: rest) m w := by
  intro a ha
  have hy : yielded ops a.tmps j = none := by
    unfold yielded
    rw [hj]
    simp [ha.get g _ hv, undef]
  unfold wpList
  rw [if_neg (by simp [Region.wanted, hy])]
  exact h _ (ha.put undef hd)
end

theorem chk0 : chk 0 [] = 558161692 := by kernel_rfl
theorem sawake_c (w : World) : Calls Tryd.prog 18 [].toArray w (Ret fun r w' => r = .bool true ∧ Kept none0 w w') := by
  refine calls_T Tryd.func18 rfl rfl rfl ?_
  repeat (first | (with_reducible first | apply T_seq | apply T_region | apply U_nil | apply T_skip | apply T_block | apply T_inBlock | apply Cnd_t | apply Cnd_f | apply Cnd_not | apply Cnd_some | apply Cnd_none | apply Gd_nt | apply Gd_nf | apply Gd_some | apply Gd_none | apply Gd_want) | refine U_ar rfl rfl rfl (wrap_k (by simp only [wrapOk]; omega)) rfl ?_ | refine U_cv E rfl rfl rfl (wrap_k (by simp only [wrapOk]; omega)) rfl ?_ | refine U_pure E rfl rfl ?_ | refine T_exit rfl ?_ | refine T_condV rfl ?_ | refine U_guard rfl rfl ?_ | ((with_reducible refine Gd_skipT ?_ ?_); exact rfl) | ((with_reducible refine Gd_skipF ?_ ?_); exact rfl))
  refine U_call rfl rfl (Tryd.call43 _) (check_c w none0 (.slice none 0 0) [] 0 (by decide) (sl_nil w none0)) ?_
  rintro r w1 ⟨rfl, k1⟩
  rw [chk0]
  repeat (first | (with_reducible first | apply T_seq | apply T_region | apply U_nil | apply T_skip | apply T_block | apply T_inBlock | apply Cnd_t | apply Cnd_f | apply Cnd_not | apply Cnd_some | apply Cnd_none | apply Gd_nt | apply Gd_nf | apply Gd_some | apply Gd_none | apply Gd_want) | refine U_ar rfl rfl rfl (wrap_k (by simp only [wrapOk]; omega)) rfl ?_ | refine U_cv E rfl rfl rfl (wrap_k (by simp only [wrapOk]; omega)) rfl ?_ | refine U_pure E rfl rfl ?_ | refine T_exit rfl ?_ | refine T_condV rfl ?_ | refine U_guard rfl rfl ?_ | ((with_reducible refine Gd_skipT ?_ ?_); exact rfl) | ((with_reducible refine Gd_skipF ?_ ?_); exact rfl))
  refine Gd_b (fun _ => ?_) (fun e => absurd e (by decide))
  repeat (first | (with_reducible first | apply T_seq | apply T_region | apply U_nil | apply T_skip | apply T_block | apply T_inBlock | apply Cnd_t | apply Cnd_f | apply Cnd_not | apply Cnd_some | apply Cnd_none | apply Gd_nt | apply Gd_nf | apply Gd_some | apply Gd_none | apply Gd_want) | refine U_ar rfl rfl rfl (wrap_k (by simp only [wrapOk]; omega)) rfl ?_ | refine U_cv E rfl rfl rfl (wrap_k (by simp only [wrapOk]; omega)) rfl ?_ | refine U_pure E rfl rfl ?_ | refine T_exit rfl ?_ | refine T_condV rfl ?_ | refine U_guard rfl rfl ?_ | ((with_reducible refine Gd_skipT ?_ ?_); exact rfl) | ((with_reducible refine Gd_skipF ?_ ?_); exact rfl))
  refine U_call rfl rfl (Tryd.call46 _) (size_c w1 3 (by decide)) ?_
  rintro r w2 ⟨rfl, rfl⟩
  repeat (first | (with_reducible first | apply T_seq | apply T_region | apply U_nil | apply T_skip | apply T_block | apply T_inBlock | apply Cnd_t | apply Cnd_f | apply Cnd_not | apply Cnd_some | apply Cnd_none | apply Gd_nt | apply Gd_nf | apply Gd_some | apply Gd_none | apply Gd_want) | refine U_ar rfl rfl rfl (wrap_k (by simp only [wrapOk]; omega)) rfl ?_ | refine U_cv E rfl rfl rfl (wrap_k (by simp only [wrapOk]; omega)) rfl ?_ | refine U_pure E rfl rfl ?_ | refine T_exit rfl ?_ | refine T_condV rfl ?_ | refine U_guard rfl rfl ?_ | ((with_reducible refine Gd_skipT ?_ ?_); exact rfl) | ((with_reducible refine Gd_skipF ?_ ?_); exact rfl))
  exact T_ret1 Tryd.func18 rfl rfl ⟨_, rfl, rfl, k1⟩

/-! ### What is taken out of a frame -/
theorem frm_val (s : Nat) (p more : List UInt8) (hp : p.length < 4294967296) : val4 (frm s p ++ more) = p.length := by
  rw [frm, List.append_assoc, List.append_assoc, val4_le4_append _ hp]
theorem frm_take (s : Nat) (p more : List UInt8) : (frm s p ++ more).take (p.length + 4) = le4 p.length ++ p := by
  rw [frm, List.append_assoc]
  exact List.take_left' (by rw [List.length_append, le4_len]; omega)
theorem frm_drop (s : Nat) (p more : List UInt8) : (frm s p ++ more).drop (p.length + 4) = le4 (chk s (le4 p.length ++ p)) ++ more := by
  rw [frm, List.append_assoc]
  exact List.drop_left' (by rw [List.length_append, le4_len]; omega)
theorem frm_body (s : Nat) (p more : List UInt8) : ((frm s p ++ more).drop 4).take p.length = p := by
  rw [frm, List.append_assoc, List.append_assoc, List.drop_left' (le4_len _)]
  exact List.take_left' rfl
theorem nErr_frm (s t : Nat) (p more : List UInt8) (hp : p.length ≤ 100000) (hz : ¬ zz (frm s p ++ more)) : nErr t (frm s p ++ more) = if chk s (le4 p.length ++ p) = chk t (le4 p.length ++ p) then 0 else 5 := by
  have hl : (frm s p ++ more).length = p.length + 8 + more.length := by rw [List.length_append, frm_len]
  rw [nErr, if_neg hz, if_neg (by omega), frm_val s p more (by omega), if_neg (by omega), if_neg (by omega), frm_take, frm_drop, val4_append (by rw [le4_len]; decide), val4_le4 _ (chk_lt _ _)]
  by_cases h : chk s (le4 p.length ++ p) = chk t (le4 p.length ++ p)
  · rw [if_pos h, if_neg (by simp [h])]
  · rw [if_neg h, if_pos h]
theorem zz_le4 {n : Nat} (hn : n < 4294967296) (h : zz (le4 n)) : n = 0 := by
  have hv := val4_le4 n hn
  have e : le4 n = [0, 0, 0, 0] := by
    have h0 := h (UInt8.ofNat n) (by simp [le4])
    have h1 := h (UInt8.ofNat (n / 256)) (by simp [le4])
    have h2 := h (UInt8.ofNat (n / 65536)) (by simp [le4])
    have h3 := h (UInt8.ofNat (n / 16777216)) (by simp [le4])
    rw [le4, h0, h1, h2, h3]
  rw [e] at hv
  rw [← hv]
  rfl
theorem zz_app {a b : List UInt8} : zz (a ++ b) ↔ zz a ∧ zz b := by
  constructor
  · intro h
    exact ⟨fun x hx => h x (List.mem_append_left _ hx), fun x hx => h x (List.mem_append_right _ hx)⟩
  · rintro ⟨h1, h2⟩ x hx
    rcases List.mem_append.1 hx with hx | hx
    · exact h1 x hx
    · exact h2 x hx
theorem zz_frm {s : Nat} {p : List UInt8} (hp : p.length < 4294967296) (h : zz (frm s p)) : p = [] ∧ chk s (le4 0) = 0 := by
  rw [frm, zz_app, zz_app] at h
  have h0 := zz_le4 hp h.1.1
  have hpe : p = [] := List.eq_nil_of_length_eq_zero h0
  subst hpe
  refine ⟨rfl, ?_⟩
  have := zz_le4 (chk_lt _ _) h.2
  simpa using this
end Go.Proofs.YtoefhdaenaiomaaDoor

/- Turned. -/
namespace Go.Proofs.YtoefhdaenaiomaaDoor
open Go
set_option maxRecDepth 20000

theorem T_cut {P : Program} {f : FuncId} {R : Ending → World → Prop} {n : Nat} {k : List Item} {m : Fm} {w : World} {α : Type} {it : Item} (fm : α → Fm) (X : α → World → Prop) (fin : ∀ x w', X x w' → T P f R n k (fm x) w') (h : (∀ x w', X x w' → T P f R n k (fm x) w') → T P f R n (it :: k) m w) : T P f R n (it :: k) m w := h fin

def tbl8 : List Value := [.int .u8 1, .int .u8 2, .int .u8 4, .int .u8 8, .int .u8 16, .int .u8 32, .int .u8 64, .int .u8 128]
theorem tbl_get : ∀ r, r < 8 → tbl8[r]? = some (.int .u8 ((2 ^ r : Nat) : Int))
  | 0, _ => rfl
  | 1, _ => rfl
  | 2, _ => rfl
  | 3, _ => rfl
  | 4, _ => rfl
  | 5, _ => rfl
  | 6, _ => rfl
  | 7, _ => rfl
  | r + 8, h => by omega

/-- Bits from at on are turned where the mask says so, the first k of them. -/
def TurnedTo (l l' : List UInt8) (at_ k mask : Nat) : Prop := l'.length = l.length ∧ ∀ j, j < l.length * 8 → bitAt l' j = (bitAt l j ^^ (decide (at_ ≤ j ∧ j < at_ + k) && mask.testBit (j - at_)))
theorem TurnedTo.zero (l : List UInt8) (at_ mask : Nat) : TurnedTo l l at_ 0 mask := by
  refine ⟨rfl, fun j _ => ?_⟩
  rw [decide_eq_false (by omega)]
  simp
theorem TurnedTo.off {l l' : List UInt8} {at_ k mask : Nat} (h : TurnedTo l l' at_ k mask) (hb : l.length * 8 ≤ at_ + k ∨ mask.testBit k = false) : TurnedTo l l' at_ (k + 1) mask := by
  refine ⟨h.1, fun j hj => ?_⟩
  rw [h.2 j hj]
  congr 1
  by_cases hk : j = at_ + k
  · rcases hb with hb | hb
    · omega
    · rw [show j - at_ = k by omega, hb, Bool.and_false, Bool.and_false]
  · congr 1
    by_cases h1 : at_ ≤ j ∧ j < at_ + k
    · rw [decide_eq_true h1, decide_eq_true (by omega)]
    · rw [decide_eq_false h1, decide_eq_false (by omega)]
theorem TurnedTo.on {l l' : List UInt8} {at_ k mask : Nat} (h : TurnedTo l l' at_ k mask) (hb : mask.testBit k = true) (hi : (at_ + k) / 8 < l'.length) :
    TurnedTo l (l'.set ((at_ + k) / 8) (UInt8.ofNat (l'[(at_ + k) / 8].toNat ^^^ 2 ^ ((at_ + k) % 8)))) at_ (k + 1) mask := by
  refine ⟨by rw [List.length_set]; exact h.1, fun j hj => ?_⟩
  have := bit_step (s := l') (k := at_ + k) (M := 1) hi j
  rw [show (1 &&& 1) * 2 ^ ((at_ + k) % 8) = 2 ^ ((at_ + k) % 8) by simp] at this
  rw [this, h.2 j hj, Bool.xor_assoc]
  congr 1
  by_cases hk : j = at_ + k
  · rw [decide_eq_false (by omega), decide_eq_true hk, decide_eq_true (by omega), show j - at_ = k by omega, hb]
    rfl
  · rw [decide_eq_false hk, Bool.false_and, Bool.xor_false]
    congr 1
    by_cases h1 : at_ ≤ j ∧ j < at_ + k
    · rw [decide_eq_true h1, decide_eq_true (by omega)]
    · rw [decide_eq_false h1, decide_eq_false (by omega)]

theorem TurnedTo.onB {l l' : List UInt8} {at_ k mask B : Nat} (hB : at_ + k = B) (h : TurnedTo l l' at_ k mask) (hb : mask.testBit k = true) (hi : B / 8 < l'.length) :
    TurnedTo l (l'.set (B / 8) (UInt8.ofNat (l'[B / 8].toNat ^^^ 2 ^ (B % 8)))) at_ (k + 1) mask := by
  subst hB
  exact h.on hb hi

theorem idx1 (n : Nat) : 0 + ((n : Nat) : Int).toNat * 1 = n := by rw [Int.toNat_natCast, Nat.zero_add, Nat.mul_one]
theorem bit_of (mask k : Nat) : (mask / 2 ^ k) % 2 = 1 ↔ mask.testBit k = true := by
  rw [Nat.testBit_eq_decide_div_mod_eq, decide_eq_true_iff]

set_option maxHeartbeats 2000000 in
theorem turned_c (w : World) (G : Nat → Prop) (v : Value) (l : List UInt8) (at_ mask : Nat) (h : BS w G v l) (hl : l.length ≤ 100000) (hl0 : 0 < l.length) (hat : at_ ≤ 10000000) (hm : mask < 4294967296) :
    Calls Tryd.prog 47 [v, .int .i64 at_, .int .u32 mask].toArray w (Ret fun r w' => Kept none0 w w' ∧ ∃ l', TurnedTo l l' at_ 32 mask ∧ BS w' (fresh w) r l') := by
  refine calls_T Tryd.func47 rfl rfl rfl ?_
  obtain ⟨A, c, rfl⟩ := h.len
  repeat (first | (with_reducible first | apply T_seq | apply T_region | apply U_nil | apply T_skip | apply T_block | apply T_inBlock | apply Cnd_t | apply Cnd_f | apply Cnd_not | apply Cnd_some | apply Cnd_none | apply Gd_nt | apply Gd_nf | apply Gd_some | apply Gd_none | apply Gd_want) | refine U_ar rfl rfl rfl (wrap_k (by simp only [wrapOk]; omega)) rfl ?_ | refine U_cv E rfl rfl rfl (wrap_k (by simp only [wrapOk]; omega)) rfl ?_ | refine U_pure E rfl rfl ?_ | refine T_exit rfl ?_ | refine T_condV rfl ?_ | refine U_guard rfl rfl ?_ | ((with_reducible refine Gd_skipT ?_ ?_); exact rfl) | ((with_reducible refine Gd_skipF ?_ ?_); exact rfl))
  refine U_buildSlice (sz := 1) E rfl rfl rfl rfl rfl rfl rfl rfl (segs := [[.slice A l.length c]]) rfl (by simp) rfl ?_
  intro b1 w1 hn1
  have hl1 := h.mv hn1.kept (fun _ _ _ x => x)
  have hone : Sl w1 (fun x => x = b1) (.slice (some ⟨b1, 0, none⟩) 1 1) 1 [Value.slice A l.length c].length [Value.slice A l.length c] := ⟨by simp, rfl, _, 1, rfl, Nat.le_refl _, .inr ⟨b1, 0, rfl, rfl, hn1.blk.lt, hn1.blk.whole⟩⟩
  have hj := join_c w1 _ G _ _ [l] hone rfl (fun i x q hx hq => by
    match i with
    | 0 => injection hx with hx; injection hq with hq; subst hx; subst hq; exact hl1
    | i + 1 => simp at hx) (by simp; omega)
  rw [show ([l] : List (List UInt8)).flatten = l by simp] at hj
  refine U_call rfl rfl (Tryd.call35 _) (hj) ?_
  rintro r w2 ⟨k2, hr2⟩
  obtain ⟨g, cap, pad, rfl, hg, hbg, hcl, hcap⟩ := hr2.pos hl0
  have k2' : Kept none0 w w2 := hn1.kept.tr k2 (fun _ _ x => x)
  have hgw : w.heap.size ≤ g := by have := hn1.kept.size; simp only [fresh] at hg; omega
  repeat (first | (with_reducible first | apply T_seq | apply T_region | apply U_nil | apply T_skip | apply T_block | apply T_inBlock | apply Cnd_t | apply Cnd_f | apply Cnd_not | apply Cnd_some | apply Cnd_none | apply Gd_nt | apply Gd_nf | apply Gd_some | apply Gd_none | apply Gd_want) | refine U_ar rfl rfl rfl (wrap_k (by simp only [wrapOk]; omega)) rfl ?_ | refine U_cv E rfl rfl rfl (wrap_k (by simp only [wrapOk]; omega)) rfl ?_ | refine U_pure E rfl rfl ?_ | refine T_exit rfl ?_ | refine T_condV rfl ?_ | refine U_guard rfl rfl ?_ | ((with_reducible refine Gd_skipT ?_ ?_); exact rfl) | ((with_reducible refine Gd_skipF ?_ ?_); exact rfl))
  refine T_loop (α := Nat × List UInt8 × World) (fun x => [(8, .int .i64 x.1), (7, .slice (some ⟨g, 0, none⟩) l.length cap), (1, .int .i64 at_), (2, .int .u32 mask)]) (fun x => x.2.2) (fun x => 32 - x.1)
    (fun x => x.1 ≤ 32 ∧ Kept none0 w x.2.2 ∧ Blk x.2.2 g (encBs x.2.1 ++ pad) 5 ∧ TurnedTo l x.2.1 at_ x.1 mask) (0, l, w2) ⟨Nat.zero_le 32, k2', hbg, TurnedTo.zero l at_ mask⟩ ⟨rfl, rfl, rfl, rfl, trivial⟩ rfl ?_
  rintro ⟨k, q, w3⟩ ⟨hk, k3, hb3, ht⟩ ih
  dsimp only at hk k3 hb3 ht ⊢
  have hql := ht.1
  repeat (first | (with_reducible first | apply T_seq | apply T_region | apply U_nil | apply T_skip | apply T_block | apply T_inBlock | apply Cnd_t | apply Cnd_f | apply Cnd_not | apply Cnd_some | apply Cnd_none | apply Gd_nt | apply Gd_nf | apply Gd_some | apply Gd_none | apply Gd_want) | refine U_ar rfl rfl rfl (wrap_k (by simp only [wrapOk]; omega)) rfl ?_ | refine U_cv E rfl rfl rfl (wrap_k (by simp only [wrapOk]; omega)) rfl ?_ | refine U_pure E rfl rfl ?_ | refine T_exit rfl ?_ | refine T_condV rfl ?_ | refine U_guard rfl rfl ?_ | ((with_reducible refine Gd_skipT ?_ ?_); exact rfl) | ((with_reducible refine Gd_skipF ?_ ?_); exact rfl))
  refine Cnd_p (fun h32 => ?_) (fun h32 => ?_)
  · have hk32 : k < 32 := by omega
    repeat (first | (with_reducible first | apply T_seq | apply T_region | apply U_nil | apply T_skip | apply T_block | apply T_inBlock | apply Cnd_t | apply Cnd_f | apply Cnd_not | apply Cnd_some | apply Cnd_none | apply Gd_nt | apply Gd_nf | apply Gd_some | apply Gd_none | apply Gd_want) | refine U_ar rfl rfl rfl (wrap_k (by simp only [wrapOk]; omega)) rfl ?_ | refine U_cv E rfl rfl rfl (wrap_k (by simp only [wrapOk]; omega)) rfl ?_ | refine U_pure E rfl rfl ?_ | refine T_exit rfl ?_ | refine T_condV rfl ?_ | refine U_guard rfl rfl ?_ | ((with_reducible refine Gd_skipT ?_ ?_); exact rfl) | ((with_reducible refine Gd_skipF ?_ ?_); exact rfl))
    refine U_run rfl rfl rfl (ro_bin (r := .int .i64 ((at_ + k) / 8 : Nat)) rfl rfl (by rw [show (at_ : Int) + (k : Int) = ((at_ + k : Nat) : Int) by omega]; exact run_quo (y := 8) (by decide) (wrap_i64 (by omega)))) ?_
    repeat (first | (with_reducible first | apply T_seq | apply T_region | apply U_nil | apply T_skip | apply T_block | apply T_inBlock | apply Cnd_t | apply Cnd_f | apply Cnd_not | apply Cnd_some | apply Cnd_none | apply Gd_nt | apply Gd_nf | apply Gd_some | apply Gd_none | apply Gd_want) | refine U_ar rfl rfl rfl (wrap_k (by simp only [wrapOk]; omega)) rfl ?_ | refine U_cv E rfl rfl rfl (wrap_k (by simp only [wrapOk]; omega)) rfl ?_ | refine U_pure E rfl rfl ?_ | refine T_exit rfl ?_ | refine T_condV rfl ?_ | refine U_guard rfl rfl ?_ | ((with_reducible refine Gd_skipT ?_ ?_); exact rfl) | ((with_reducible refine Gd_skipF ?_ ?_); exact rfl))
    refine Gd_p (fun hin => ?_) (fun hin => ?_)
    · have hin' : (at_ + k) / 8 < q.length := by omega
      repeat (first | (with_reducible first | apply T_seq | apply T_region | apply U_nil | apply T_skip | apply T_block | apply T_inBlock | apply Cnd_t | apply Cnd_f | apply Cnd_not | apply Cnd_some | apply Cnd_none | apply Gd_nt | apply Gd_nf | apply Gd_some | apply Gd_none | apply Gd_want) | refine U_ar rfl rfl rfl (wrap_k (by simp only [wrapOk]; omega)) rfl ?_ | refine U_cv E rfl rfl rfl (wrap_k (by simp only [wrapOk]; omega)) rfl ?_ | refine U_pure E rfl rfl ?_ | refine T_exit rfl ?_ | refine T_condV rfl ?_ | refine U_guard rfl rfl ?_ | ((with_reducible refine Gd_skipT ?_ ?_); exact rfl) | ((with_reducible refine Gd_skipF ?_ ?_); exact rfl))
      refine U_run rfl rfl rfl (ro_bin (r := .int .u32 (mask / 2 ^ k : Nat)) rfl rfl (by exact run_shr (y := k) .i64 (by simp only [IntKind.bits]; omega))) ?_
      repeat (first | (with_reducible first | apply T_seq | apply T_region | apply U_nil | apply T_skip | apply T_block | apply T_inBlock | apply Cnd_t | apply Cnd_f | apply Cnd_not | apply Cnd_some | apply Cnd_none | apply Gd_nt | apply Gd_nf | apply Gd_some | apply Gd_none | apply Gd_want) | refine U_ar rfl rfl rfl (wrap_k (by simp only [wrapOk]; omega)) rfl ?_ | refine U_cv E rfl rfl rfl (wrap_k (by simp only [wrapOk]; omega)) rfl ?_ | refine U_pure E rfl rfl ?_ | refine T_exit rfl ?_ | refine T_condV rfl ?_ | refine U_guard rfl rfl ?_ | ((with_reducible refine Gd_skipT ?_ ?_); exact rfl) | ((with_reducible refine Gd_skipF ?_ ?_); exact rfl))
      refine U_run rfl rfl rfl (ro_bin (r := .int .u32 (mask / 2 ^ k % 2 : Nat)) rfl rfl (by exact run_rem (y := 2) (by decide))) ?_
      repeat (first | (with_reducible first | apply T_seq | apply T_region | apply U_nil | apply T_skip | apply T_block | apply T_inBlock | apply Cnd_t | apply Cnd_f | apply Cnd_not | apply Cnd_some | apply Cnd_none | apply Gd_nt | apply Gd_nf | apply Gd_some | apply Gd_none | apply Gd_want) | refine U_ar rfl rfl rfl (wrap_k (by simp only [wrapOk]; omega)) rfl ?_ | refine U_cv E rfl rfl rfl (wrap_k (by simp only [wrapOk]; omega)) rfl ?_ | refine U_pure E rfl rfl ?_ | refine T_exit rfl ?_ | refine T_condV rfl ?_ | refine U_guard rfl rfl ?_ | ((with_reducible refine Gd_skipT ?_ ?_); exact rfl) | ((with_reducible refine Gd_skipF ?_ ?_); exact rfl))
      refine Cnd_p (fun hbit => ?_) (fun hbit => ?_)
      · have hbit' : mask.testBit k = true := (bit_of mask k).1 (by omega)
        obtain ⟨B, hB⟩ : ∃ B, at_ + k = B := ⟨_, rfl⟩
        have hBi : (at_ : Int) + (k : Int) = (B : Int) := by omega
        rw [hB] at hin'
        have hto := ht.onB hB hbit' hin'
        rw [hBi]
        have hget : (encBs q ++ pad)[B / 8]? = some (encB q[B / 8]) := by
          rw [List.getElem?_append_left (by rw [encBs_len]; exact hin')]
          exact get_enc hin'
        have hq8 := b_lt q[B / 8]
        have hr8 : B % 8 < 8 := Nat.mod_lt _ (by decide)
        have hp8 : 2 ^ (B % 8) < 256 := by
          have h3 : 2 ^ (B % 8) ≤ 2 ^ 7 := Nat.pow_le_pow_right (by decide) (by omega)
          omega
        have hx8 : q[B / 8].toNat ^^^ 2 ^ (B % 8) < 256 := Nat.xor_lt_two_pow (n := 8) hq8 hp8
        repeat (first | (with_reducible first | apply T_seq | apply T_region | apply U_nil | apply T_skip | apply T_block | apply T_inBlock | apply Cnd_t | apply Cnd_f | apply Cnd_not | apply Cnd_some | apply Cnd_none | apply Gd_nt | apply Gd_nf | apply Gd_some | apply Gd_none | apply Gd_want) | refine U_ar rfl rfl rfl (wrap_k (by simp only [wrapOk]; omega)) rfl ?_ | refine U_cv E rfl rfl rfl (wrap_k (by simp only [wrapOk]; omega)) rfl ?_ | refine U_pure E rfl rfl ?_ | refine T_exit rfl ?_ | refine T_condV rfl ?_ | refine U_guard rfl rfl ?_ | ((with_reducible refine Gd_skipT ?_ ?_); exact rfl) | ((with_reducible refine Gd_skipF ?_ ?_); exact rfl))
        refine L_begin (fun w' => Blk w' g (encBs q ++ pad) 5) 12 (by kernel_rfl) (N := 13) rfl (fun w4 hd4 => ?_)
        have hS4 := hb3.mv (hd4.kept none0) (fun x => x)
        refine L_take 0 rfl (by kernel_rfl) (by kernel_rfl) (by kernel_rfl) (by kernel_rfl) hS4 rfl rfl rfl (fun a ha w' _ => run_pv E ha rfl _ _ _ _ _) ?_; refine L_take 1 rfl (by kernel_rfl) (by kernel_rfl) (by kernel_rfl) (by kernel_rfl) hS4 rfl rfl rfl (fun a ha w' _ => run_pv E ha rfl _ _ _ _ _) ?_
        refine L_take 2 rfl (by kernel_rfl) (by kernel_rfl) (by kernel_rfl) (by kernel_rfl) hS4 rfl rfl rfl (fun a ha w' _ => ro_bin (r := .int .i64 (B / 8 : Nat)) rfl rfl (by exact run_quo (y := 8) (by decide) (wrap_i64 (by omega))) a ha) ?_
        refine L_take 3 rfl (by kernel_rfl) (by kernel_rfl) (by kernel_rfl) (by kernel_rfl) hS4 rfl rfl rfl (fun a ha w' hS => ro_indexS (o' := B / 8) E rfl rfl rfl rfl (by omega) (by omega) (idx1 _) a ha) ?_
        refine L_take 4 rfl (by kernel_rfl) (by kernel_rfl) (by kernel_rfl) (by kernel_rfl) hS4 rfl rfl rfl (fun a ha w' hS => ro_loadB E hS rfl rfl rfl hget a ha) ?_
        refine L_take 6 rfl (by kernel_rfl) (by kernel_rfl) (by kernel_rfl) (by kernel_rfl) hS4 rfl rfl rfl (fun a ha w' _ => run_pv E ha rfl _ _ _ _ _) ?_
        refine L_take 7 rfl (by kernel_rfl) (by kernel_rfl) (by kernel_rfl) (by kernel_rfl) hS4 rfl rfl rfl (fun a ha w' _ => ro_bin (r := .int .i64 (B % 8 : Nat)) rfl rfl (by exact run_rem (y := 8) (by decide)) a ha) ?_
        refine L_op 5 (by kernel_rfl) rfl (fun hc5 => ?_)
        refine U_buildSlice E rfl rfl rfl rfl rfl rfl rfl rfl (segs := tbl8.map ([·])) rfl (by intro s hs; obtain ⟨u, _, rfl⟩ := List.mem_map.1 hs; rfl) rfl ?_
        intro b5 w5 hn5
        have hS5 := hS4.mv hn5.kept (fun x => x)
        have hb5 : Blk w5 b5 tbl8 5 := hn5.blk
        have e5 := hn5.at_
        refine U_nilL hc5 (fun _ => hS5) ?_
        refine L_take 8 rfl (by kernel_rfl) (by kernel_rfl) (by kernel_rfl) (by kernel_rfl) hS5 rfl rfl rfl (fun a ha w' hS => ro_indexS (o' := B % 8) E rfl rfl rfl rfl (by omega) (by omega) (idx1 _) a ha) ?_
        refine L_op 9 (by kernel_rfl) rfl (fun hc9 => ?_)
        refine U_loadB E hb5 rfl rfl rfl (tbl_get _ hr8) rfl ?_
        refine U_nilL hc9 (fun _ => hS5) ?_
        refine L_op 10 (by kernel_rfl) rfl (fun hc10 => ?_)
        refine U_run rfl rfl rfl (ro_bin (r := .int .u8 (q[B / 8].toNat ^^^ 2 ^ (B % 8) : Nat)) rfl rfl (by exact run_xor (k := .u8) rfl hq8 hp8)) ?_
        refine U_nilL hc10 (fun _ => hS5) ?_
        refine L_take 11 rfl (by kernel_rfl) (by kernel_rfl) (by kernel_rfl) (by kernel_rfl) hS5 rfl rfl rfl (fun a ha w' hS => ro_indexS (o' := B / 8) E rfl rfl rfl rfl (by omega) (by omega) (idx1 _) a ha) ?_
        refine L_op 12 (by kernel_rfl) rfl (fun hc12 => ?_)
        refine U_store E (hS5) rfl rfl rfl (by rw [List.length_append, encBs_len]; omega) rfl ?_
        intro w6 hu6
        refine U_nilL hc12 (fun e => absurd rfl e) ?_
        refine L_done (by kernel_rfl) ?_
        repeat (first | (with_reducible first | apply T_seq | apply T_region | apply U_nil | apply T_skip | apply T_block | apply T_inBlock | apply Cnd_t | apply Cnd_f | apply Cnd_not | apply Cnd_some | apply Cnd_none | apply Gd_nt | apply Gd_nf | apply Gd_some | apply Gd_none | apply Gd_want) | refine U_ar rfl rfl rfl (wrap_k (by simp only [wrapOk]; omega)) rfl ?_ | refine U_cv E rfl rfl rfl (wrap_k (by simp only [wrapOk]; omega)) rfl ?_ | refine U_pure E rfl rfl ?_ | refine T_exit rfl ?_ | refine T_condV rfl ?_ | refine U_guard rfl rfl ?_ | ((with_reducible refine Gd_skipT ?_ ?_); exact rfl) | ((with_reducible refine Gd_skipF ?_ ?_); exact rfl))
        refine T.less ?_ (ih (k + 1, q.set (B / 8) (UInt8.ofNat (q[B / 8].toNat ^^^ 2 ^ (B % 8))), w6) ⟨by omega, ?_, ?_, hto⟩ (by dsimp only; omega))
        · exact ⟨rfl, rfl, rfl, rfl, trivial⟩
        · have k4 : Kept none0 w w5 := (k3.tr (hd4.kept none0) (fun _ _ x => x)).tr hn5.kept (fun _ _ x => x)
          exact k4.tr hu6.kept (fun j hj (e : j = g) => by omega)
        · have := hu6.blk
          dsimp only
          rw [List.set_append_left _ _ (by rw [encBs_len]; exact hin')] at this
          rw [encBs_set]
          have e : encB (UInt8.ofNat (q[B / 8].toNat ^^^ 2 ^ (B % 8))) = .int .u8 ((q[B / 8].toNat ^^^ 2 ^ (B % 8) : Nat) : Int) := by
            simp only [encB]
            rw [UInt8.toNat_ofNat', Nat.mod_eq_of_lt hx8]
          rw [e]
          exact this
      · repeat (first | (with_reducible first | apply T_seq | apply T_region | apply U_nil | apply T_skip | apply T_block | apply T_inBlock | apply Cnd_t | apply Cnd_f | apply Cnd_not | apply Cnd_some | apply Cnd_none | apply Gd_nt | apply Gd_nf | apply Gd_some | apply Gd_none | apply Gd_want) | refine U_ar rfl rfl rfl (wrap_k (by simp only [wrapOk]; omega)) rfl ?_ | refine U_cv E rfl rfl rfl (wrap_k (by simp only [wrapOk]; omega)) rfl ?_ | refine U_pure E rfl rfl ?_ | refine T_exit rfl ?_ | refine T_condV rfl ?_ | refine U_guard rfl rfl ?_ | ((with_reducible refine Gd_skipT ?_ ?_); exact rfl) | ((with_reducible refine Gd_skipF ?_ ?_); exact rfl))
        refine T.less ?_ (ih (k + 1, q, w3) ⟨by omega, k3, hb3, ht.off (.inr ?_)⟩ (by dsimp only; omega))
        · exact ⟨rfl, rfl, rfl, rfl, trivial⟩
        · cases hbb : mask.testBit k with
          | false => rfl
          | true => exact absurd (by have := (bit_of mask k).2 hbb; omega) hbit
    · repeat (first | (with_reducible first | apply T_seq | apply T_region | apply U_nil | apply T_skip | apply T_block | apply T_inBlock | apply Cnd_t | apply Cnd_f | apply Cnd_not | apply Cnd_some | apply Cnd_none | apply Gd_nt | apply Gd_nf | apply Gd_some | apply Gd_none | apply Gd_want) | refine U_ar rfl rfl rfl (wrap_k (by simp only [wrapOk]; omega)) rfl ?_ | refine U_cv E rfl rfl rfl (wrap_k (by simp only [wrapOk]; omega)) rfl ?_ | refine U_pure E rfl rfl ?_ | refine T_exit rfl ?_ | refine T_condV rfl ?_ | refine U_guard rfl rfl ?_ | ((with_reducible refine Gd_skipT ?_ ?_); exact rfl) | ((with_reducible refine Gd_skipF ?_ ?_); exact rfl))
      refine T.less ?_ (ih (k + 1, q, w3) ⟨by omega, k3, hb3, ht.off (.inl ?_)⟩ (by dsimp only; omega))
      · exact ⟨rfl, rfl, rfl, rfl, trivial⟩
      · omega
  · have : k = 32 := by omega
    subst this
    repeat (first | (with_reducible first | apply T_seq | apply T_region | apply U_nil | apply T_skip | apply T_block | apply T_inBlock | apply Cnd_t | apply Cnd_f | apply Cnd_not | apply Cnd_some | apply Cnd_none | apply Gd_nt | apply Gd_nf | apply Gd_some | apply Gd_none | apply Gd_want) | refine U_ar rfl rfl rfl (wrap_k (by simp only [wrapOk]; omega)) rfl ?_ | refine U_cv E rfl rfl rfl (wrap_k (by simp only [wrapOk]; omega)) rfl ?_ | refine U_pure E rfl rfl ?_ | refine T_exit rfl ?_ | refine T_condV rfl ?_ | refine U_guard rfl rfl ?_ | ((with_reducible refine Gd_skipT ?_ ?_); exact rfl) | ((with_reducible refine Gd_skipF ?_ ?_); exact rfl))
    refine T_ret1 Tryd.func47 rfl rfl ⟨_, rfl, k3, q, ht, ?_⟩
    refine ⟨by omega, by rw [encBs_len, Nat.mul_one], _, cap, by rw [hql], by rw [hql]; exact hcap, .inr ⟨g, 0, rfl, hgw, hb3.lt, ?_⟩⟩
    have := hb3.seg 0 (encBs q).length
    simp only [List.drop_zero, List.take_left] at this
    exact this
end Go.Proofs.YtoefhdaenaiomaaDoor

/- What the walks of DrumPlays take of a law's kit. -/
namespace Go.Proofs.YtoefhdaenaiomaaDoor
open Go
set_option maxRecDepth 20000

theorem T_viaK {P : Program} {f : FuncId} {R : Ending → World → Prop} {n : Nat} {k : List Item} {m : Fm} {w : World} {α : Type} {it : Item} (fm : α → Fm) (X : α → World → Prop) (fin : ∀ x w', X x w' → T P f R n k (fm x) w') (h : ∀ k', (∀ x w', X x w' → T P f R n k' (fm x) w') → T P f R n (it :: k') m w) : T P f R n (it :: k) m w := h k fin
theorem one_sl {w : World} {b : Nat} {t : TypeId} {u : Value} (h : Blk w b [u] t) : Sl w (fun x => x = b) (.slice (some ⟨b, 0, none⟩) 1 1) 1 1 [u] :=
  ⟨by decide, rfl, _, 1, rfl, Nat.le_refl _, .inr ⟨b, 0, rfl, rfl, h.lt, h.whole⟩⟩
theorem bs_one {w : World} {G : Nat → Prop} {v : Value} {l : List UInt8} (h : BS w G v l) : v.oneCell' = true := by
  obtain ⟨A, c, rfl⟩ := h.len
  rfl
theorem bs_cells {w : World} {G : Nat → Prop} {v : Value} {l : List UInt8} (h : BS w G v l) : v.cells = #[v] := by
  obtain ⟨A, c, rfl⟩ := h.len
  rfl
end Go.Proofs.YtoefhdaenaiomaaDoor

/- The document's drum: a history of writes. What it is in memory; what waits. -/
namespace Go.Proofs.YtoefhdaenaiomaaDoor
open Go
set_option maxRecDepth 20000

structure XS where
  first : List (List UInt8)
  deeds : List (Int × List UInt8)
  left : Int
/-- The deeds behind the last flush. -/
def wts (l : List (Int × List UInt8)) : List (Int × List UInt8) := l.foldl (fun o x => if x.1 < 0 then [] else o ++ [x]) []
theorem wts_snoc (l : List (Int × List UInt8)) (x : Int × List UInt8) : wts (l ++ [x]) = if x.1 < 0 then [] else wts l ++ [x] := by simp [wts]
theorem wts_suffix (l : List (Int × List UInt8)) : ∃ a, l = a ++ wts l := by
  suffices H : ∀ n, n ≤ l.length → ∃ a, l.take n = a ++ wts (l.take n) by
    obtain ⟨a, h⟩ := H l.length (Nat.le_refl _)
    rw [List.take_length] at h
    exact ⟨a, h⟩
  intro n
  induction n with
  | zero => intro _; exact ⟨[], rfl⟩
  | succ n ih =>
    intro hn
    obtain ⟨a, h⟩ := ih (by omega)
    rw [take_snoc l n (by omega), wts_snoc]
    split
    · exact ⟨l.take n ++ [l[n]], by rw [List.append_nil]⟩
    · exact ⟨a, by rw [← List.append_assoc, ← h]⟩
theorem wts_len (l : List (Int × List UInt8)) : (wts l).length ≤ l.length := by
  obtain ⟨a, h⟩ := wts_suffix l
  have := congrArg List.length h
  rw [List.length_append] at this
  omega
def lastW (ds : List (Int × List UInt8)) (i : Int) (s : List UInt8) : List UInt8 := ds.foldl (fun s x => if x.1 = i then x.2 else s) s
theorem lastW_snoc (ds : List (Int × List UInt8)) (x : Int × List UInt8) (i : Int) (s : List UInt8) : lastW (ds ++ [x]) i s = if x.1 = i then x.2 else lastW ds i s := by simp [lastW]
theorem lastW_app (a b : List (Int × List UInt8)) (i : Int) (s : List UInt8) : lastW (a ++ b) i s = lastW b i (lastW a i s) := by simp [lastW]
def XS.safe (X : XS) (i : Nat) : List UInt8 := lastW (X.deeds.take (X.deeds.length - (wts X.deeds).length)) i (X.first.getD i [])
def XS.read (X : XS) (i : Nat) : List UInt8 := lastW X.deeds i (X.first.getD i [])
theorem XS.read_safe (X : XS) (i : Nat) : X.read i = lastW (wts X.deeds) i (X.safe i) := by
  obtain ⟨a, h⟩ := wts_suffix X.deeds
  have hl := congrArg List.length h
  rw [List.length_append] at hl
  rw [XS.safe, XS.read, ← lastW_app]
  congr 1
  have : X.deeds.take (X.deeds.length - (wts X.deeds).length) = a := by
    rw [show X.deeds.length - (wts X.deeds).length = a.length by omega]
    conv => lhs; rw [h]
    exact List.take_left' rfl
  rw [this, ← h]

/-! ### In memory -/
def dcells (d : Int × Value) : List Value := [.int .i64 d.1, d.2]
def dcs (ds : List (Int × Value)) : List Value := (ds.map dcells).flatten
theorem dcs_len (ds : List (Int × Value)) : (dcs ds).length = ds.length * 2 := by
  have := flat_len (sz := 2) (ds.map dcells) (fun s hs => by obtain ⟨d, _, rfl⟩ := List.mem_map.1 hs; rfl)
  rw [List.length_map] at this
  exact this
theorem dcs_snoc (ds : List (Int × Value)) (d : Int × Value) : dcs (ds ++ [d]) = dcs ds ++ dcells d := by simp [dcs]
/-- Deeds. -/
def DS (w : World) (F H : Nat → Prop) (v : Value) (es : List (Int × List UInt8)) : Prop := ∃ ds : List (Int × Value), ds.length = es.length ∧ Row w F v 2 ds.length (dcs ds) 114 ∧ ∀ (j : Nat) d e, ds[j]? = some d → es[j]? = some e → d.1 = e.1 ∧ BS w H d.2 e.2
theorem DS.nil (w : World) (F H : Nat → Prop) : DS w F H (.slice none 0 0) [] := ⟨[], rfl, Row.nil _ _ _ _, fun j d e h => by simp at h⟩
theorem DS.mv {w w' : World} {F H K : Nat → Prop} {v : Value} {es : List (Int × List UInt8)} (h : DS w F H v es) (k : Kept K w w') (h1 : ∀ b, b < w.heap.size → F b → ¬ K b) (h2 : ∀ b, b < w.heap.size → H b → ¬ K b) : DS w' F H v es := by
  obtain ⟨ds, a, b, c⟩ := h
  exact ⟨ds, a, b.mv k h1, fun j d e hd he => ⟨(c j d e hd he).1, (c j d e hd he).2.mv k h2⟩⟩
theorem DS.mono {w : World} {F F' H H' : Nat → Prop} {v : Value} {es : List (Int × List UInt8)} (h : DS w F H v es) (h1 : ∀ b, b < w.heap.size → F b → F' b) (h2 : ∀ b, b < w.heap.size → H b → H' b) : DS w F' H' v es := by
  obtain ⟨ds, a, b, c⟩ := h
  exact ⟨ds, a, b.mono h1, fun j d e hd he => ⟨(c j d e hd he).1, (c j d e hd he).2.mono h2⟩⟩
/-- Sectors. -/
def FSl (w : World) (F H : Nat → Prop) (v : Value) (l : List (List UInt8)) : Prop := ∃ fs : List Value, fs.length = l.length ∧ Row w F v 1 fs.length fs 23 ∧ ∀ (j : Nat) u p, fs[j]? = some u → l[j]? = some p → BS w H u p
theorem FSl.mv {w w' : World} {F H K : Nat → Prop} {v : Value} {es : List (List UInt8)} (h : FSl w F H v es) (k : Kept K w w') (h1 : ∀ b, b < w.heap.size → F b → ¬ K b) (h2 : ∀ b, b < w.heap.size → H b → ¬ K b) : FSl w' F H v es := by
  obtain ⟨ds, a, b, c⟩ := h
  exact ⟨ds, a, b.mv k h1, fun j d e hd he => (c j d e hd he).mv k h2⟩
theorem FSl.mono {w : World} {F F' H H' : Nat → Prop} {v : Value} {es : List (List UInt8)} (h : FSl w F H v es) (h1 : ∀ b, b < w.heap.size → F b → F' b) (h2 : ∀ b, b < w.heap.size → H b → H' b) : FSl w F' H' v es := by
  obtain ⟨ds, a, b, c⟩ := h
  exact ⟨ds, a, b.mono h1, fun j d e hd he => (c j d e hd he).mono h2⟩

def Hx (G : Nat → Prop) (xb : Nat) (vf vd : Value) : Nat → Prop := fun b => G b ∧ b ≠ xb ∧ vf.ownBlock ≠ some b ∧ vd.ownBlock ≠ some b
structure XM (w : World) (G : Nat → Prop) (xb : Nat) (vf vd : Value) (X : XS) : Prop where
  mem : G xb
  blk : Blk w xb [vf, vd, .int .i64 X.left] 111
  fst : FSl w (fun b => G b ∧ b ≠ xb) (Hx G xb vf vd) vf X.first
  dds : DS w (fun b => G b ∧ b ≠ xb ∧ vf.ownBlock ≠ some b) (Hx G xb vf vd) vd X.deeds
  len : X.first.length ≤ 9000 ∧ X.deeds.length ≤ 100000
  left : -1 ≤ X.left ∧ X.left ≤ 9223372036854775807
theorem XM.mv {w w' : World} {G K : Nat → Prop} {xb : Nat} {vf vd : Value} {X : XS} (h : XM w G xb vf vd X) (k : Kept K w w') (hK : ∀ b, b < w.heap.size → G b → ¬ K b) : XM w' G xb vf vd X :=
  ⟨h.mem, h.blk.mv k (hK xb h.blk.lt h.mem), h.fst.mv k (fun b hb e => hK b hb e.1) (fun b hb e => hK b hb e.1), h.dds.mv k (fun b hb e => hK b hb e.1) (fun b hb e => hK b hb e.1), h.len, h.left⟩
theorem XM.same {w w' : World} {G : Nat → Prop} {xb : Nat} {vf vd : Value} {X : XS} (h : XM w G xb vf vd X) (k : Kept none0 w w') : XM w' G xb vf vd X := h.mv k (fun _ _ _ x => x)
theorem XM.mono {w : World} {G G' : Nat → Prop} {xb : Nat} {vf vd : Value} {X : XS} (h : XM w G xb vf vd X) (hG : ∀ b, b < w.heap.size → G b → G' b) : XM w G' xb vf vd X :=
  ⟨hG xb h.blk.lt h.mem, h.blk, h.fst.mono (fun b hb e => ⟨hG b hb e.1, e.2⟩) (fun b hb e => ⟨hG b hb e.1, e.2⟩), h.dds.mono (fun b hb e => ⟨hG b hb e.1, e.2⟩) (fun b hb e => ⟨hG b hb e.1, e.2⟩), h.len, h.left⟩

/-- A deed's cells. -/
theorem ds_seg {w : World} {F : Nat → Prop} {v : Value} {ds : List (Int × Value)} {t : TypeId} (h : Row w F v 2 ds.length (dcs ds) t) {i : Nat} (hi : i < ds.length) : ∃ g cap, v = .slice (some ⟨g, 0, none⟩) ds.length cap ∧ F g ∧ g < w.heap.size ∧ ds.length ≤ cap ∧ ∀ j, j < ds.length → Seg w g (j * 2) (dcells (ds.getD j (0, .nilIface))) := by
  obtain ⟨g, cap, pad, e, hF, hb, hc, hn⟩ := h.pos (by omega)
  refine ⟨g, cap, e, hF, hb.lt, hn, fun j hj => ?_⟩
  have hw := hb.whole
  intro q v hq
  have hq2 : q < 2 := (List.getElem?_eq_some_iff.1 hq).1
  have := hw (j * 2 + q) v (by
    rw [List.getElem?_append_left (by rw [dcs_len]; omega), dcs, flat_get (by decide : 0 < 2) _ (fun s hs => by obtain ⟨d, _, rfl⟩ := List.mem_map.1 hs; rfl), show (j * 2 + q) / 2 = j by omega, show (j * 2 + q) % 2 = q by omega, List.getElem?_map, List.getElem?_eq_getElem hj]
    rw [List.getD_eq_getElem?_getD, List.getElem?_eq_getElem hj, Option.getD_some] at hq
    exact hq)
  rw [Nat.zero_add] at this
  exact this

theorem DS.snoc {F H : Nat → Prop} {w w1 w2 : World} {vo vo' : Value} {us : List (Int × Value)} {es : List (Int × List UInt8)} {d : Int × Value} {e : Int × List UInt8} (hF : ∀ b, w1.heap.size ≤ b → F b) (h1 : us.length = es.length)
    (h3 : ∀ (j : Nat) u q, us[j]? = some u → es[j]? = some q → u.1 = q.1 ∧ BS w H u.2 q.2) (hp : d.1 = e.1 ∧ BS w H d.2 e.2) (hH : ∀ b, b < w.heap.size → H b → vo.ownBlock ≠ some b) (k : Kept (fun b => vo.ownBlock = some b) w w2)
    (hr : Row w2 (fun b => F b ∨ w1.heap.size ≤ b) vo' 2 (us.length + 1) (dcs us ++ dcells d) 114) : DS w2 F H vo' (es ++ [e]) := by
  refine ⟨us ++ [d], by rw [List.length_append, List.length_append, h1]; rfl, ?_, fun j u q hu hq => ?_⟩
  · rw [List.length_append, dcs_snoc]
    exact hr.mono (fun b _ e => e.elim (fun x => x) (hF b))
  · rcases Nat.lt_or_ge j us.length with hj | hj
    · rw [List.getElem?_append_left hj] at hu
      rw [List.getElem?_append_left (by omega)] at hq
      exact ⟨(h3 j u q hu hq).1, (h3 j u q hu hq).2.mv k hH⟩
    · rw [List.getElem?_append_right hj] at hu
      rw [List.getElem?_append_right (by omega), ← h1] at hq
      have h0 : j - us.length = 0 := by
        have := (List.getElem?_eq_some_iff.1 hu).1
        simp at this
        omega
      rw [h0] at hu hq
      injection hu with hu
      injection hq with hq
      subst hu
      subst hq
      exact ⟨hp.1, hp.2.mv k hH⟩
theorem dcells_one {w : World} {H : Nat → Prop} {d : Int × Value} {p : List UInt8} (h : BS w H d.2 p) : ∀ u ∈ dcells d, u.oneCell' = true := by
  intro u hu
  simp only [dcells, List.mem_cons, List.not_mem_nil, or_false] at hu
  rcases hu with rfl | rfl
  · rfl
  · exact bs_one h
theorem dcs_one {w : World} {H : Nat → Prop} {ds : List (Int × Value)} {es : List (Int × List UInt8)} (hl : ds.length = es.length) (h : ∀ (j : Nat) d e, ds[j]? = some d → es[j]? = some e → d.1 = e.1 ∧ BS w H d.2 e.2) : ∀ u ∈ dcs ds, u.oneCell' = true := by
  intro u hu
  obtain ⟨s, hs, hu⟩ := List.mem_flatten.1 hu
  obtain ⟨d, hd, rfl⟩ := List.mem_map.1 hs
  obtain ⟨j, hj, rfl⟩ := List.getElem_of_mem hd
  exact dcells_one (h j _ _ (List.getElem?_eq_getElem hj) (List.getElem?_eq_getElem (by omega))).2 u hu

set_option maxHeartbeats 2000000 in
theorem waits_c {w : World} {G : Nat → Prop} {xb : Nat} {vf vd : Value} {X : XS} (h : XM w G xb vf vd X) :
    Calls Tryd.prog 76 [ptr xb].toArray w (Ret fun r w' => Kept none0 w w' ∧ DS w' (fresh w) (fun b => Hx G xb vf vd b ∧ b < w.heap.size) r (wts X.deeds)) := by
  have hB := h.blk
  have hlen := h.len
  obtain ⟨ds, d1, d2, d3⟩ := h.dds
  obtain ⟨A, c, rfl⟩ := d2.val
  refine calls_T Tryd.func76 rfl rfl rfl ?_
  unfold ptr at *
  repeat (first | (with_reducible first | apply T_seq | apply T_region | apply U_nil | apply T_skip | apply T_block | apply T_inBlock | apply Cnd_t | apply Cnd_f | apply Cnd_not | apply Cnd_some | apply Cnd_none | apply Gd_nt | apply Gd_nf | apply Gd_some | apply Gd_none | apply Gd_want) | refine U_ar rfl rfl rfl (wrap_k (by simp only [wrapOk]; omega)) rfl ?_ | refine U_cv E rfl rfl rfl (wrap_k (by simp only [wrapOk]; omega)) rfl ?_ | refine U_pure E rfl rfl ?_ | refine T_exit rfl ?_ | refine T_condV rfl ?_ | refine U_guard rfl rfl ?_ | ((with_reducible refine Gd_skipT ?_ ?_); exact rfl) | ((with_reducible refine Gd_skipF ?_ ?_); exact rfl))
  refine U_loadB E (by assumption) rfl rfl rfl (by rfl) rfl ?_
  repeat (first | (with_reducible first | apply T_seq | apply T_region | apply U_nil | apply T_skip | apply T_block | apply T_inBlock | apply Cnd_t | apply Cnd_f | apply Cnd_not | apply Cnd_some | apply Cnd_none | apply Gd_nt | apply Gd_nf | apply Gd_some | apply Gd_none | apply Gd_want) | refine U_ar rfl rfl rfl (wrap_k (by simp only [wrapOk]; omega)) rfl ?_ | refine U_cv E rfl rfl rfl (wrap_k (by simp only [wrapOk]; omega)) rfl ?_ | refine U_pure E rfl rfl ?_ | refine T_exit rfl ?_ | refine T_condV rfl ?_ | refine U_guard rfl rfl ?_ | ((with_reducible refine Gd_skipT ?_ ?_); exact rfl) | ((with_reducible refine Gd_skipF ?_ ?_); exact rfl))
  refine T_loop (α := Nat × Value × World) (fun x => [(11, .int .i64 x.1), (10, .int .i64 ds.length), (9, .slice A ds.length c), (3, x.2.1)]) (fun x => x.2.2) (fun x => ds.length - x.1)
    (fun x => x.1 ≤ ds.length ∧ Kept none0 w x.2.2 ∧ DS x.2.2 (fresh w) (fun b => Hx G xb vf (.slice A ds.length c) b ∧ b < w.heap.size) x.2.1 (wts (X.deeds.take x.1))) (0, .slice none 0 0, w) ⟨Nat.zero_le _, Kept.refl _ _, DS.nil _ _ _⟩ ?hsub rfl ?_
  case hsub => exact ⟨rfl, rfl, rfl, rfl, trivial⟩
  rintro ⟨i, vo, w1⟩ ⟨hi, k1, hO⟩ ih
  dsimp only at hi k1 hO ⊢
  repeat (first | (with_reducible first | apply T_seq | apply T_region | apply U_nil | apply T_skip | apply T_block | apply T_inBlock | apply Cnd_t | apply Cnd_f | apply Cnd_not | apply Cnd_some | apply Cnd_none | apply Gd_nt | apply Gd_nf | apply Gd_some | apply Gd_none | apply Gd_want) | refine U_ar rfl rfl rfl (wrap_k (by simp only [wrapOk]; omega)) rfl ?_ | refine U_cv E rfl rfl rfl (wrap_k (by simp only [wrapOk]; omega)) rfl ?_ | refine U_pure E rfl rfl ?_ | refine T_exit rfl ?_ | refine T_condV rfl ?_ | refine U_guard rfl rfl ?_ | ((with_reducible refine Gd_skipT ?_ ?_); exact rfl) | ((with_reducible refine Gd_skipF ?_ ?_); exact rfl))
  refine Cnd_p (fun hlt => ?_) (fun hlt => ?_)
  · have hl1 : i < ds.length := by omega
    have hl2 : i < X.deeds.length := by omega
    obtain ⟨g, cap, hv, hg, hgl, hcap, hsegs⟩ := ds_seg d2 hl1
    injection hv with hv1 hv2 hv3
    subst hv1
    have hseg := hsegs i hl1
    rw [List.getD_eq_getElem?_getD, List.getElem?_eq_getElem hl1, Option.getD_some] at hseg
    obtain ⟨d, hd⟩ : ∃ d, ds[i] = d := ⟨_, rfl⟩
    obtain ⟨e, he⟩ : ∃ e, X.deeds[i] = e := ⟨_, rfl⟩
    have hel := d3 i _ _ (List.getElem?_eq_getElem hl1) (List.getElem?_eq_getElem hl2)
    rw [hd] at hseg hel
    rw [he] at hel
    have hseg1 := hseg.mv k1 (fun x => x)
    have htk : wts (X.deeds.take (i + 1)) = if e.1 < 0 then [] else wts (X.deeds.take i) ++ [e] := by rw [take_snoc X.deeds i hl2, wts_snoc, he]
    have hel1 : d.1 = e.1 ∧ BS w1 (fun b => Hx G xb vf (.slice (some ⟨g, 0, none⟩) ds.length c) b ∧ b < w.heap.size) d.2 e.2 := ⟨hel.1, (hel.2.mono (G := fun b => Hx G xb vf (.slice (some ⟨g, 0, none⟩) ds.length c) b ∧ b < w.heap.size) (fun b hb e => ⟨e, hb⟩)).mv k1 (fun _ _ _ x => x)⟩
    repeat (first | (with_reducible first | apply T_seq | apply T_region | apply U_nil | apply T_skip | apply T_block | apply T_inBlock | apply Cnd_t | apply Cnd_f | apply Cnd_not | apply Cnd_some | apply Cnd_none | apply Gd_nt | apply Gd_nf | apply Gd_some | apply Gd_none | apply Gd_want) | refine U_ar rfl rfl rfl (wrap_k (by simp only [wrapOk]; omega)) rfl ?_ | refine U_cv E rfl rfl rfl (wrap_k (by simp only [wrapOk]; omega)) rfl ?_ | refine U_pure E rfl rfl ?_ | refine T_exit rfl ?_ | refine T_condV rfl ?_ | refine U_guard rfl rfl ?_ | ((with_reducible refine Gd_skipT ?_ ?_); exact rfl) | ((with_reducible refine Gd_skipF ?_ ?_); exact rfl))
    refine U_indexS (o' := i * 2) E rfl rfl rfl rfl (by omega) (by omega) (by rw [Int.toNat_natCast, Nat.zero_add]) rfl ?_
    refine U_loadA E hseg1 rfl rfl rfl rfl rfl ?_
    refine U_alloc E rfl rfl rfl ?_
    intro b2 w2 hn2
    refine U_storeA E hn2.blk rfl rfl rfl rfl (by decide) (dcells_one hel1.2) ?_
    intro w3 hu3
    have hB3 : Blk w3 b2 (dcells d) 114 := by
      have := hu3.blk
      simpa [dcells] using this
    have e2 := hn2.at_
    have k13 : Kept none0 w1 w3 := hn2.kept.tr hu3.kept (fun j hj (e : j = b2) => by omega)
    repeat (first | (with_reducible first | apply T_seq | apply T_region | apply U_nil | apply T_skip | apply T_block | apply T_inBlock | apply Cnd_t | apply Cnd_f | apply Cnd_not | apply Cnd_some | apply Cnd_none | apply Gd_nt | apply Gd_nf | apply Gd_some | apply Gd_none | apply Gd_want) | refine U_ar rfl rfl rfl (wrap_k (by simp only [wrapOk]; omega)) rfl ?_ | refine U_cv E rfl rfl rfl (wrap_k (by simp only [wrapOk]; omega)) rfl ?_ | refine U_pure E rfl rfl ?_ | refine T_exit rfl ?_ | refine T_condV rfl ?_ | refine U_guard rfl rfl ?_ | ((with_reducible refine Gd_skipT ?_ ?_); exact rfl) | ((with_reducible refine Gd_skipF ?_ ?_); exact rfl))
    refine U_loadA E hB3.whole rfl rfl rfl rfl rfl ?_
    refine U_buildSlice (sz := 2) E rfl rfl rfl rfl rfl rfl rfl rfl (segs := [dcells d]) rfl (by simp [dcells]) rfl ?_
    intro b4 w4 hn4
    obtain ⟨us, u1, u2, u3⟩ := hO
    have hown := u2.own
    have hul : us.length ≤ i := by have := wts_len (X.deeds.take i); rw [List.length_take] at this; omega
    have k14 : Kept none0 w1 w4 := k13.tr hn4.kept (fun _ _ x => x)
    have hlit : Sl w4 (fun x => x = b4) (.slice (some ⟨b4, 0, none⟩) 1 1) 2 1 (dcells d) := ⟨by decide, rfl, _, 1, rfl, Nat.le_refl _, .inr ⟨b4, 0, rfl, rfl, hn4.blk.lt, by have := hn4.blk.whole; simpa using this⟩⟩
    refine U_append E (u2.mv k14 (fun _ _ _ x => x)) hlit (dcells_one hel1.2) rfl rfl rfl rfl rfl (by omega) (by omega) rfl ?_
    intro vo' w5 hr5 k5 _ hob
    have k15 : Kept (fun b => vo.ownBlock = some b) w1 w5 := (k14.mono (fun _ _ x => x.elim)).tr k5 (fun _ _ x => x)
    have k05 : Kept none0 w w5 := k1.tr k15 (fun b hb e => by have := (hown b e).1; simp only [fresh] at this; omega)
    have hO5 := DS.snoc (F := fresh w) (fun b e => by have := k1.size; have := k14.size; simp only [fresh]; omega) u1 u3 hel1 (fun b hb e e2 => by have := (hown b e2).1; have := e.2; simp only [fresh] at *; omega) k15 hr5
    have hb2o : vo.ownBlock ≠ some b2 := fun e => by have := (hown b2 e).2; omega
    have hB5 := (hB3.mv hn4.kept (fun x => x)).mv k5 hb2o
    repeat (first | (with_reducible first | apply T_seq | apply T_region | apply U_nil | apply T_skip | apply T_block | apply T_inBlock | apply Cnd_t | apply Cnd_f | apply Cnd_not | apply Cnd_some | apply Cnd_none | apply Gd_nt | apply Gd_nf | apply Gd_some | apply Gd_none | apply Gd_want) | refine U_ar rfl rfl rfl (wrap_k (by simp only [wrapOk]; omega)) rfl ?_ | refine U_cv E rfl rfl rfl (wrap_k (by simp only [wrapOk]; omega)) rfl ?_ | refine U_pure E rfl rfl ?_ | refine T_exit rfl ?_ | refine T_condV rfl ?_ | refine U_guard rfl rfl ?_ | ((with_reducible refine Gd_skipT ?_ ?_); exact rfl) | ((with_reducible refine Gd_skipF ?_ ?_); exact rfl))
    refine U_loadB E hB5 rfl rfl rfl rfl rfl ?_
    repeat (first | (with_reducible first | apply T_seq | apply T_region | apply U_nil | apply T_skip | apply T_block | apply T_inBlock | apply Cnd_t | apply Cnd_f | apply Cnd_not | apply Cnd_some | apply Cnd_none | apply Gd_nt | apply Gd_nf | apply Gd_some | apply Gd_none | apply Gd_want) | refine U_ar rfl rfl rfl (wrap_k (by simp only [wrapOk]; omega)) rfl ?_ | refine U_cv E rfl rfl rfl (wrap_k (by simp only [wrapOk]; omega)) rfl ?_ | refine U_pure E rfl rfl ?_ | refine T_exit rfl ?_ | refine T_condV rfl ?_ | refine U_guard rfl rfl ?_ | ((with_reducible refine Gd_skipT ?_ ?_); exact rfl) | ((with_reducible refine Gd_skipF ?_ ?_); exact rfl))
    refine Cnd_p (fun hneg => ?_) (fun hneg => ?_)
    · rw [if_pos (by rw [← hel1.1]; exact hneg)] at htk
      repeat (first | (with_reducible first | apply T_seq | apply T_region | apply U_nil | apply T_skip | apply T_block | apply T_inBlock | apply Cnd_t | apply Cnd_f | apply Cnd_not | apply Cnd_some | apply Cnd_none | apply Gd_nt | apply Gd_nf | apply Gd_some | apply Gd_none | apply Gd_want) | refine U_ar rfl rfl rfl (wrap_k (by simp only [wrapOk]; omega)) rfl ?_ | refine U_cv E rfl rfl rfl (wrap_k (by simp only [wrapOk]; omega)) rfl ?_ | refine U_pure E rfl rfl ?_ | refine T_exit rfl ?_ | refine T_condV rfl ?_ | refine U_guard rfl rfl ?_ | ((with_reducible refine Gd_skipT ?_ ?_); exact rfl) | ((with_reducible refine Gd_skipF ?_ ?_); exact rfl))
      refine T.less ?_ (ih (i + 1, .slice none 0 0, w5) ⟨by omega, k05, by dsimp only; rw [htk]; exact DS.nil _ _ _⟩ (by dsimp only; omega))
      exact ⟨rfl, rfl, rfl, rfl, trivial⟩
    · rw [if_neg (by rw [← hel1.1]; exact hneg)] at htk
      repeat (first | (with_reducible first | apply T_seq | apply T_region | apply U_nil | apply T_skip | apply T_block | apply T_inBlock | apply Cnd_t | apply Cnd_f | apply Cnd_not | apply Cnd_some | apply Cnd_none | apply Gd_nt | apply Gd_nf | apply Gd_some | apply Gd_none | apply Gd_want) | refine U_ar rfl rfl rfl (wrap_k (by simp only [wrapOk]; omega)) rfl ?_ | refine U_cv E rfl rfl rfl (wrap_k (by simp only [wrapOk]; omega)) rfl ?_ | refine U_pure E rfl rfl ?_ | refine T_exit rfl ?_ | refine T_condV rfl ?_ | refine U_guard rfl rfl ?_ | ((with_reducible refine Gd_skipT ?_ ?_); exact rfl) | ((with_reducible refine Gd_skipF ?_ ?_); exact rfl))
      refine T.less ?_ (ih (i + 1, vo', w5) ⟨by omega, k05, by dsimp only; rw [htk]; exact hO5⟩ (by dsimp only; omega))
      exact ⟨rfl, rfl, rfl, rfl, trivial⟩
  · have hie : i = ds.length := by omega
    subst hie
    rw [show X.deeds.take ds.length = X.deeds by rw [d1, List.take_length]] at hO
    repeat (first | (with_reducible first | apply T_seq | apply T_region | apply U_nil | apply T_skip | apply T_block | apply T_inBlock | apply Cnd_t | apply Cnd_f | apply Cnd_not | apply Cnd_some | apply Cnd_none | apply Gd_nt | apply Gd_nf | apply Gd_some | apply Gd_none | apply Gd_want) | refine U_ar rfl rfl rfl (wrap_k (by simp only [wrapOk]; omega)) rfl ?_ | refine U_cv E rfl rfl rfl (wrap_k (by simp only [wrapOk]; omega)) rfl ?_ | refine U_pure E rfl rfl ?_ | refine T_exit rfl ?_ | refine T_condV rfl ?_ | refine U_guard rfl rfl ?_ | ((with_reducible refine Gd_skipT ?_ ?_); exact rfl) | ((with_reducible refine Gd_skipF ?_ ?_); exact rfl))
    exact T_ret1 Tryd.func76 rfl rfl ⟨_, rfl, k1, hO⟩
end Go.Proofs.YtoefhdaenaiomaaDoor
