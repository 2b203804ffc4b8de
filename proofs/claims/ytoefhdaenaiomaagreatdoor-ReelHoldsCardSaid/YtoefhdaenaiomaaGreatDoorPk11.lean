/- The reel: Open. -/
import Derived.Test.YtoefhdaenaiomaaGreatDoorPk10
import Derived.Test.YtoefhdaenaiomaaGreatDoorPk6
import Derived.Test.YtoefhdaenaiomaaGreatDoorPk7
set_option linter.unusedVariables false
set_option linter.unusedSimpArgs false
namespace Go.Proofs.YtoefhdaenaiomaaGreatDoor
open Go
set_option maxRecDepth 20000

theorem nRec_len {seed : Nat} {b : List UInt8} (h : nErr seed b = 0) : (nRec seed b).length = val4 b ∧ val4 b ≤ 100000 := by
  obtain ⟨h1, h2, h3, h4, h5⟩ := nErr_ok h
  refine ⟨?_, h4⟩
  rw [nRec, if_pos h, List.length_take, List.length_drop]
  omega
theorem recR_some {D : Dr} {g n at_ : Nat} : ∀ (f k : Nat) (all : List UInt8) (p : List UInt8) (q : Nat), recR D g n at_ f k all = some (p, q) → k ≤ q ∧ at_ + q ≤ hsz D ∧ p.length ≤ 100000
  | 0, _, _, _, _, h => by rw [recR] at h; cases h
  | f + 1, k, all, p, q, h => by
    rw [recR] at h
    by_cases h1 : at_ + k ≤ hsz D
    · rw [if_pos h1] at h
      cases hb : bareD D ((base D g + at_ + k : Nat) - 1 : Int) 165 with
      | none => rw [hb] at h; cases h
      | some b =>
        rw [hb] at h
        dsimp only at h
        by_cases h2 : 100000 < val4 (all ++ b) ∨ k < pgs (val4 (all ++ b))
        · rw [if_pos h2] at h
          have := recR_some f (k + 1) (all ++ b) p q h
          exact ⟨by omega, this.2⟩
        · rw [if_neg h2] at h
          by_cases h3 : nErr (sdr g n) (all ++ b) = 0
          · rw [if_pos h3] at h
            injection h with h
            injection h with e1 e2
            subst e1
            subst e2
            have := nRec_len h3
            exact ⟨Nat.le_refl _, h1, by omega⟩
          · rw [if_neg h3] at h; cases h
    · rw [if_neg h1] at h; cases h
theorem recD_some {D : Dr} {g n at_ q : Nat} {p : List UInt8} (h : recD D g n at_ = some (p, q)) : 1 ≤ q ∧ at_ + q ≤ hsz D ∧ p.length ≤ 100000 := recR_some _ _ _ _ _ h

/-- The records that stand behind what is read. -/
def scanR (D : Dr) (g : Nat) : Nat → List (List UInt8) → Nat → List (List UInt8) × Nat
  | 0, l, at_ => (l, at_)
  | f + 1, l, at_ => match recD D g l.length at_ with
    | none => (l, at_)
    | some (p, q) => scanR D g f (l ++ [p]) (at_ + q)
def opG (D : Dr) : Nat := if headD D 1 > headD D 0 then headD D 1 else headD D 0
def opS (D : Dr) : List (List UInt8) × Nat := scanR D (opG D) (hsz D + 1) [] 0
/-- Noughts behind; flushed if there was something. -/
def tidF (W : Bool × Nat × Dr) : Nat × Dr := if W.2.1 = 0 ∧ W.1 = true then (flErr W.2.2, flDr W.2.2) else W.2
def opF (D : Dr) : Nat × Dr :=
  if D.l.length < 6 then (1, D) else
  if opG D = 0 then (if cleanD D 0 ∧ cleanD D 1 then 3 else 5, D) else
  if (opS D).1.length = 0 then (2, D) else
  tidF (wipeR (hsz D - (opS D).2) (base D (opG D) + (opS D).2) false D)

theorem headS_lt (s : List UInt8) (i : Nat) : headS s i < 4294967296 := by
  unfold headS
  split
  · exact val4_lt _
  · decide
theorem opG_lt (D : Dr) : opG D < 4294967296 := by
  have h0 := headS_lt (nowS D.l D.wait 0) 0
  have h1 := headS_lt (nowS D.l D.wait 1) 1
  unfold opG headD
  split <;> assumption

theorem open_nil (w : World) : Calls Tryz.prog 14 [.pointer none].toArray w (Ret fun r w' => r = .tuple #[.pointer none, errV 3] ∧ w' = w) := by
  refine calls_T Tryz.func14 rfl rfl rfl ?_
  repeat (first | (with_reducible first | apply T_seq | apply T_region | apply U_nil | apply T_skip | apply T_block | apply T_inBlock | apply Cnd_t | apply Cnd_f | apply Cnd_not | apply Cnd_some | apply Cnd_none | apply Gd_nt | apply Gd_nf | apply Gd_some | apply Gd_none | apply Gd_want) | refine U_ar rfl rfl rfl (wrap_k (by simp only [wrapOk]; omega)) rfl ?_ | refine U_cv E rfl rfl rfl (wrap_k (by simp only [wrapOk]; omega)) rfl ?_ | refine U_pure E rfl rfl ?_ | refine T_exit rfl ?_ | refine T_condV rfl ?_ | refine U_guard rfl rfl ?_ | ((with_reducible refine Gd_skipT ?_ ?_); exact rfl) | ((with_reducible refine Gd_skipF ?_ ?_); exact rfl))
  exact T_ret2 Tryz.func14 rfl rfl rfl ⟨_, rfl, rfl, rfl⟩

set_option maxHeartbeats 8000000 in
theorem open_rc (w : World) (F : Nat → Prop) (hb : Nat) (D : Dr) (h : Dm w F hb D) (hL : D.l.length ≤ 7000) (hwn : D.wait.length + 400000 < 1000000) :
    Calls Tryz.prog 14 [ptr hb].toArray w (Ret fun r w' => ∃ F', Own F w F' w' ∧ Dm w' F' hb (opF D).2 ∧
      (((opF D).1 ≠ 0 ∧ r = .tuple #[.pointer none, errV (opF D).1]) ∨ ((opF D).1 = 0 ∧ ∃ rb Fr, r = .tuple #[ptr rb, .nilIface] ∧ Rl w' F' Fr hb rb (opG D) (opS D).1 (opS D).2 ∧ ∀ b, Fr b → w.heap.size ≤ b))) := by
  have hn1 := h.isD.1.n1
  have hn2 := h.isD.1.n2
  have hsz0 := dsize_c w F hb D h.isD
  have hGl := opG_lt D
  refine calls_T Tryz.func14 rfl rfl rfl ?_
  unfold ptr at *
  repeat (first | (with_reducible first | apply T_seq | apply T_region | apply U_nil | apply T_skip | apply T_block | apply T_inBlock | apply Cnd_t | apply Cnd_f | apply Cnd_not | apply Cnd_some | apply Cnd_none | apply Gd_nt | apply Gd_nf | apply Gd_some | apply Gd_none | apply Gd_want) | refine U_ar rfl rfl rfl (wrap_k (by simp only [wrapOk]; omega)) rfl ?_ | refine U_cv E rfl rfl rfl (wrap_k (by simp only [wrapOk]; omega)) rfl ?_ | refine U_pure E rfl rfl ?_ | refine T_exit rfl ?_ | refine T_condV rfl ?_ | refine U_guard rfl rfl ?_ | ((with_reducible refine Gd_skipT ?_ ?_); exact rfl) | ((with_reducible refine Gd_skipF ?_ ?_); exact rfl))
  refine U_call rfl rfl (Tryz.call24 _) (hsz0) ?_
  rintro r w1 ⟨rfl, rfl⟩
  repeat (first | (with_reducible first | apply T_seq | apply T_region | apply U_nil | apply T_skip | apply T_block | apply T_inBlock | apply Cnd_t | apply Cnd_f | apply Cnd_not | apply Cnd_some | apply Cnd_none | apply Gd_nt | apply Gd_nf | apply Gd_some | apply Gd_none | apply Gd_want) | refine U_ar rfl rfl rfl (wrap_k (by simp only [wrapOk]; omega)) rfl ?_ | refine U_cv E rfl rfl rfl (wrap_k (by simp only [wrapOk]; omega)) rfl ?_ | refine U_pure E rfl rfl ?_ | refine T_exit rfl ?_ | refine T_condV rfl ?_ | refine U_guard rfl rfl ?_ | ((with_reducible refine Gd_skipT ?_ ?_); exact rfl) | ((with_reducible refine Gd_skipF ?_ ?_); exact rfl))
  refine Cnd_p (fun h6 => ?_) (fun h6 => ?_)
  · have he : opF D = (1, D) := by rw [opF, if_pos (by omega)]
    rw [he]
    repeat (first | (with_reducible first | apply T_seq | apply T_region | apply U_nil | apply T_skip | apply T_block | apply T_inBlock | apply Cnd_t | apply Cnd_f | apply Cnd_not | apply Cnd_some | apply Cnd_none | apply Gd_nt | apply Gd_nf | apply Gd_some | apply Gd_none | apply Gd_want) | refine U_ar rfl rfl rfl (wrap_k (by simp only [wrapOk]; omega)) rfl ?_ | refine U_cv E rfl rfl rfl (wrap_k (by simp only [wrapOk]; omega)) rfl ?_ | refine U_pure E rfl rfl ?_ | refine T_exit rfl ?_ | refine T_condV rfl ?_ | refine U_guard rfl rfl ?_ | ((with_reducible refine Gd_skipT ?_ ?_); exact rfl) | ((with_reducible refine Gd_skipF ?_ ?_); exact rfl))
    exact T_ret2 Tryz.func14 rfl rfl rfl ⟨_, rfl, F, Own.refl h.lt, h, .inl ⟨Nat.one_ne_zero, rfl⟩⟩
  · have hz : hsz D ≤ 3500 := by unfold hsz; omega
    have h6' : ¬ D.l.length < 6 := by omega
    have hbs : base D (opG D) ≤ 4000 := by
      unfold base
      have : opG D % 2 * hsz D ≤ 1 * 3500 := Nat.mul_le_mul (by omega) hz
      omega
    have hh0 := head_rc w1 F hb D 0 h.isD (by omega) (by omega)
    unfold ptr at *
    repeat (first | (with_reducible first | apply T_seq | apply T_region | apply U_nil | apply T_skip | apply T_block | apply T_inBlock | apply Cnd_t | apply Cnd_f | apply Cnd_not | apply Cnd_some | apply Cnd_none | apply Gd_nt | apply Gd_nf | apply Gd_some | apply Gd_none | apply Gd_want) | refine U_ar rfl rfl rfl (wrap_k (by simp only [wrapOk]; omega)) rfl ?_ | refine U_cv E rfl rfl rfl (wrap_k (by simp only [wrapOk]; omega)) rfl ?_ | refine U_pure E rfl rfl ?_ | refine T_exit rfl ?_ | refine T_condV rfl ?_ | refine U_guard rfl rfl ?_ | ((with_reducible refine Gd_skipT ?_ ?_); exact rfl) | ((with_reducible refine Gd_skipF ?_ ?_); exact rfl))
    refine U_call rfl rfl (Tryz.call36 _) (hh0) ?_
    rintro r w2 ⟨rfl, k2⟩
    have h2 := h.same k2
    have hh1 := head_rc w2 F hb D 1 h2.isD (by omega) (by omega)
    unfold ptr at *
    repeat (first | (with_reducible first | apply T_seq | apply T_region | apply U_nil | apply T_skip | apply T_block | apply T_inBlock | apply Cnd_t | apply Cnd_f | apply Cnd_not | apply Cnd_some | apply Cnd_none | apply Gd_nt | apply Gd_nf | apply Gd_some | apply Gd_none | apply Gd_want) | refine U_ar rfl rfl rfl (wrap_k (by simp only [wrapOk]; omega)) rfl ?_ | refine U_cv E rfl rfl rfl (wrap_k (by simp only [wrapOk]; omega)) rfl ?_ | refine U_pure E rfl rfl ?_ | refine T_exit rfl ?_ | refine T_condV rfl ?_ | refine U_guard rfl rfl ?_ | ((with_reducible refine Gd_skipT ?_ ?_); exact rfl) | ((with_reducible refine Gd_skipF ?_ ?_); exact rfl))
    refine U_call rfl rfl (Tryz.call36 _) (hh1) ?_
    rintro r w3 ⟨rfl, k3⟩
    repeat (first | (with_reducible first | apply T_seq | apply T_region | apply U_nil | apply T_skip | apply T_block | apply T_inBlock | apply Cnd_t | apply Cnd_f | apply Cnd_not | apply Cnd_some | apply Cnd_none | apply Gd_nt | apply Gd_nf | apply Gd_some | apply Gd_none | apply Gd_want) | refine U_ar rfl rfl rfl (wrap_k (by simp only [wrapOk]; omega)) rfl ?_ | refine U_cv E rfl rfl rfl (wrap_k (by simp only [wrapOk]; omega)) rfl ?_ | refine U_pure E rfl rfl ?_ | refine T_exit rfl ?_ | refine T_condV rfl ?_ | refine U_guard rfl rfl ?_ | ((with_reducible refine Gd_skipT ?_ ?_); exact rfl) | ((with_reducible refine Gd_skipF ?_ ?_); exact rfl))
    refine U_run rfl rfl rfl (ro_max (r := (opG D : Int)) rfl rfl (by unfold opG; split <;> split <;> omega)) ?_
    repeat (first | (with_reducible first | apply T_seq | apply T_region | apply U_nil | apply T_skip | apply T_block | apply T_inBlock | apply Cnd_t | apply Cnd_f | apply Cnd_not | apply Cnd_some | apply Cnd_none | apply Gd_nt | apply Gd_nf | apply Gd_some | apply Gd_none | apply Gd_want) | refine U_ar rfl rfl rfl (wrap_k (by simp only [wrapOk]; omega)) rfl ?_ | refine U_cv E rfl rfl rfl (wrap_k (by simp only [wrapOk]; omega)) rfl ?_ | refine U_pure E rfl rfl ?_ | refine T_exit rfl ?_ | refine T_condV rfl ?_ | refine U_guard rfl rfl ?_ | ((with_reducible refine Gd_skipT ?_ ?_); exact rfl) | ((with_reducible refine Gd_skipF ?_ ?_); exact rfl))
    refine U_build (cells := [.pointer (some ⟨hb, 0, none⟩), .int .u32 (opG D), .slice none 0 0, .int .i64 0]) rfl (by kernel_rfl) rfl ?_
    refine U_box E rfl rfl rfl ?_
    intro rb w4 hn4
    have k24 : Kept none0 w1 w4 := (k2.tr k3 (fun _ _ x => x)).tr hn4.kept (fun _ _ x => x)
    have h4 := h.same k24
    have e4 := hn4.at_
    have s4 := hn4.size
    have s3 := (k2.tr k3 (fun _ _ x => x)).size
    have hB4 := hn4.blk
    have hF1 := h.lt
    have hr4 : Rl w4 F (fun b => b = rb) hb rb (opG D) [] 0 := by
      refine ⟨fun b e => ⟨by omega, fun e2 => by have := hF1 b e2; omega⟩, hGl, by decide, by decide, fun q hq => absurd hq (by simp), .slice none 0 0, [], rfl, hB4, rfl, ⟨rfl, .inl ⟨rfl, rfl⟩⟩, fun j v p hv => by simp at hv⟩
    have hc0 := fun W k => clean_c W F hb D 0 (h.same (w' := W) k).isD
    have hc1 := fun W k => clean_c W F hb D 1 (h.same (w' := W) k).isD
    unfold ptr at *
    repeat (first | (with_reducible first | apply T_seq | apply T_region | apply U_nil | apply T_skip | apply T_block | apply T_inBlock | apply Cnd_t | apply Cnd_f | apply Cnd_not | apply Cnd_some | apply Cnd_none | apply Gd_nt | apply Gd_nf | apply Gd_some | apply Gd_none | apply Gd_want) | refine U_ar rfl rfl rfl (wrap_k (by simp only [wrapOk]; omega)) rfl ?_ | refine U_cv E rfl rfl rfl (wrap_k (by simp only [wrapOk]; omega)) rfl ?_ | refine U_pure E rfl rfl ?_ | refine T_exit rfl ?_ | refine T_condV rfl ?_ | refine U_guard rfl rfl ?_ | ((with_reducible refine Gd_skipT ?_ ?_); exact rfl) | ((with_reducible refine Gd_skipF ?_ ?_); exact rfl))
    refine U_loadB E hB4 rfl rfl rfl (by rfl) rfl ?_
    repeat (first | (with_reducible first | apply T_seq | apply T_region | apply U_nil | apply T_skip | apply T_block | apply T_inBlock | apply Cnd_t | apply Cnd_f | apply Cnd_not | apply Cnd_some | apply Cnd_none | apply Gd_nt | apply Gd_nf | apply Gd_some | apply Gd_none | apply Gd_want) | refine U_ar rfl rfl rfl (wrap_k (by simp only [wrapOk]; omega)) rfl ?_ | refine U_cv E rfl rfl rfl (wrap_k (by simp only [wrapOk]; omega)) rfl ?_ | refine U_pure E rfl rfl ?_ | refine T_exit rfl ?_ | refine T_condV rfl ?_ | refine U_guard rfl rfl ?_ | refine U_guardU rfl rfl rfl ?_ | ((with_reducible refine Gd_skipT ?_ ?_); exact rfl) | ((with_reducible refine Gd_skipF ?_ ?_); exact rfl))
    by_cases hg0 : opG D = 0
    · rw [hg0] at hB4
      have he : opF D = (if cleanD D 0 ∧ cleanD D 1 then 3 else 5, D) := by rw [opF, if_neg h6', if_pos hg0]
      rw [he]
      refine Gd_b (fun _ => ?_) (fun e => absurd (of_decide_eq_false e) (fun x => x (by omega)))
      repeat (first | (with_reducible first | apply T_seq | apply T_region | apply U_nil | apply T_skip | apply T_block | apply T_inBlock | apply Cnd_t | apply Cnd_f | apply Cnd_not | apply Cnd_some | apply Cnd_none | apply Gd_nt | apply Gd_nf | apply Gd_some | apply Gd_none | apply Gd_want) | refine U_ar rfl rfl rfl (wrap_k (by simp only [wrapOk]; omega)) rfl ?_ | refine U_cv E rfl rfl rfl (wrap_k (by simp only [wrapOk]; omega)) rfl ?_ | refine U_pure E rfl rfl ?_ | refine T_exit rfl ?_ | refine T_condV rfl ?_ | refine U_guard rfl rfl ?_ | refine U_guardU rfl rfl rfl ?_ | ((with_reducible refine Gd_skipT ?_ ?_); exact rfl) | ((with_reducible refine Gd_skipF ?_ ?_); exact rfl))
      refine U_call rfl rfl (Tryz.call37 _) (hc0 _ k24) ?_
      rintro r w5 ⟨rfl, k5⟩
      have k25 := k24.tr k5 (fun _ _ x => x)
      repeat (first | (with_reducible first | apply T_seq | apply T_region | apply U_nil | apply T_skip | apply T_block | apply T_inBlock | apply Cnd_t | apply Cnd_f | apply Cnd_not | apply Cnd_some | apply Cnd_none | apply Gd_nt | apply Gd_nf | apply Gd_some | apply Gd_none | apply Gd_want) | refine U_ar rfl rfl rfl (wrap_k (by simp only [wrapOk]; omega)) rfl ?_ | refine U_cv E rfl rfl rfl (wrap_k (by simp only [wrapOk]; omega)) rfl ?_ | refine U_pure E rfl rfl ?_ | refine T_exit rfl ?_ | refine T_condV rfl ?_ | refine U_guard rfl rfl ?_ | refine U_guardU rfl rfl rfl ?_ | ((with_reducible refine Gd_skipT ?_ ?_); exact rfl) | ((with_reducible refine Gd_skipF ?_ ?_); exact rfl))
      refine Gd_b (fun hx => ?_) (fun hx => ?_)
      · have hx' := of_decide_eq_true hx
        repeat (first | (with_reducible first | apply T_seq | apply T_region | apply U_nil | apply T_skip | apply T_block | apply T_inBlock | apply Cnd_t | apply Cnd_f | apply Cnd_not | apply Cnd_some | apply Cnd_none | apply Gd_nt | apply Gd_nf | apply Gd_some | apply Gd_none | apply Gd_want) | refine U_ar rfl rfl rfl (wrap_k (by simp only [wrapOk]; omega)) rfl ?_ | refine U_cv E rfl rfl rfl (wrap_k (by simp only [wrapOk]; omega)) rfl ?_ | refine U_pure E rfl rfl ?_ | refine T_exit rfl ?_ | refine T_condV rfl ?_ | refine U_guard rfl rfl ?_ | refine U_guardU rfl rfl rfl ?_ | ((with_reducible refine Gd_skipT ?_ ?_); exact rfl) | ((with_reducible refine Gd_skipF ?_ ?_); exact rfl))
        refine U_call rfl rfl (Tryz.call37 _) (hc1 _ k25) ?_
        rintro r w6 ⟨rfl, k6⟩
        have k26 := k25.tr k6 (fun _ _ x => x)
        repeat (first | (with_reducible first | apply T_seq | apply T_region | apply U_nil | apply T_skip | apply T_block | apply T_inBlock | apply Cnd_t | apply Cnd_f | apply Cnd_not | apply Cnd_some | apply Cnd_none | apply Gd_nt | apply Gd_nf | apply Gd_some | apply Gd_none | apply Gd_want) | refine U_ar rfl rfl rfl (wrap_k (by simp only [wrapOk]; omega)) rfl ?_ | refine U_cv E rfl rfl rfl (wrap_k (by simp only [wrapOk]; omega)) rfl ?_ | refine U_pure E rfl rfl ?_ | refine T_exit rfl ?_ | refine T_condV rfl ?_ | refine U_guard rfl rfl ?_ | refine U_guardU rfl rfl rfl ?_ | ((with_reducible refine Gd_skipT ?_ ?_); exact rfl) | ((with_reducible refine Gd_skipF ?_ ?_); exact rfl))
        refine Cnd_p (fun hy => ?_) (fun hy => ?_)
        · have : (if cleanD D 0 ∧ cleanD D 1 then 3 else 5) = 3 := if_pos ⟨hx', hy⟩
          rw [this]
          repeat (first | (with_reducible first | apply T_seq | apply T_region | apply U_nil | apply T_skip | apply T_block | apply T_inBlock | apply Cnd_t | apply Cnd_f | apply Cnd_not | apply Cnd_some | apply Cnd_none | apply Gd_nt | apply Gd_nf | apply Gd_some | apply Gd_none | apply Gd_want) | refine U_ar rfl rfl rfl (wrap_k (by simp only [wrapOk]; omega)) rfl ?_ | refine U_cv E rfl rfl rfl (wrap_k (by simp only [wrapOk]; omega)) rfl ?_ | refine U_pure E rfl rfl ?_ | refine T_exit rfl ?_ | refine T_condV rfl ?_ | refine U_guard rfl rfl ?_ | ((with_reducible refine Gd_skipT ?_ ?_); exact rfl) | ((with_reducible refine Gd_skipF ?_ ?_); exact rfl))
          exact T_ret2 Tryz.func14 rfl rfl rfl ⟨_, rfl, F, Own.same h.lt k26, h.same k26, .inl ⟨(show ¬ (3 : Nat) = 0 by decide), rfl⟩⟩
        · have : (if cleanD D 0 ∧ cleanD D 1 then 3 else 5) = 5 := if_neg (fun e => hy e.2)
          rw [this]
          have hB6 := (hB4.mv k5 (fun x => x)).mv k6 (fun x => x)
          repeat (first | (with_reducible first | apply T_seq | apply T_region | apply U_nil | apply T_skip | apply T_block | apply T_inBlock | apply Cnd_t | apply Cnd_f | apply Cnd_not | apply Cnd_some | apply Cnd_none | apply Gd_nt | apply Gd_nf | apply Gd_some | apply Gd_none | apply Gd_want) | refine U_ar rfl rfl rfl (wrap_k (by simp only [wrapOk]; omega)) rfl ?_ | refine U_cv E rfl rfl rfl (wrap_k (by simp only [wrapOk]; omega)) rfl ?_ | refine U_pure E rfl rfl ?_ | refine T_exit rfl ?_ | refine T_condV rfl ?_ | refine U_guard rfl rfl ?_ | ((with_reducible refine Gd_skipT ?_ ?_); exact rfl) | ((with_reducible refine Gd_skipF ?_ ?_); exact rfl))
          refine U_loadB E hB6 rfl rfl rfl (by rfl) rfl ?_
          repeat (first | (with_reducible first | apply T_seq | apply T_region | apply U_nil | apply T_skip | apply T_block | apply T_inBlock | apply Cnd_t | apply Cnd_f | apply Cnd_not | apply Cnd_some | apply Cnd_none | apply Gd_nt | apply Gd_nf | apply Gd_some | apply Gd_none | apply Gd_want) | refine U_ar rfl rfl rfl (wrap_k (by simp only [wrapOk]; omega)) rfl ?_ | refine U_cv E rfl rfl rfl (wrap_k (by simp only [wrapOk]; omega)) rfl ?_ | refine U_pure E rfl rfl ?_ | refine T_exit rfl ?_ | refine T_condV rfl ?_ | refine U_guard rfl rfl ?_ | ((with_reducible refine Gd_skipT ?_ ?_); exact rfl) | ((with_reducible refine Gd_skipF ?_ ?_); exact rfl))
          refine Cnd_p (fun _ => ?_) (fun e => absurd rfl e)
          repeat (first | (with_reducible first | apply T_seq | apply T_region | apply U_nil | apply T_skip | apply T_block | apply T_inBlock | apply Cnd_t | apply Cnd_f | apply Cnd_not | apply Cnd_some | apply Cnd_none | apply Gd_nt | apply Gd_nf | apply Gd_some | apply Gd_none | apply Gd_want) | refine U_ar rfl rfl rfl (wrap_k (by simp only [wrapOk]; omega)) rfl ?_ | refine U_cv E rfl rfl rfl (wrap_k (by simp only [wrapOk]; omega)) rfl ?_ | refine U_pure E rfl rfl ?_ | refine T_exit rfl ?_ | refine T_condV rfl ?_ | refine U_guard rfl rfl ?_ | ((with_reducible refine Gd_skipT ?_ ?_); exact rfl) | ((with_reducible refine Gd_skipF ?_ ?_); exact rfl))
          exact T_ret2 Tryz.func14 rfl rfl rfl ⟨_, rfl, F, Own.same h.lt k26, h.same k26, .inl ⟨(show ¬ (5 : Nat) = 0 by decide), rfl⟩⟩
      · have hx' := of_decide_eq_false hx
        have : (if cleanD D 0 ∧ cleanD D 1 then 3 else 5) = 5 := if_neg (fun e => hx' e.1)
        rw [this]
        have hB5 := hB4.mv k5 (fun x => x)
        repeat (first | (with_reducible first | apply T_seq | apply T_region | apply U_nil | apply T_skip | apply T_block | apply T_inBlock | apply Cnd_t | apply Cnd_f | apply Cnd_not | apply Cnd_some | apply Cnd_none | apply Gd_nt | apply Gd_nf | apply Gd_some | apply Gd_none | apply Gd_want) | refine U_ar rfl rfl rfl (wrap_k (by simp only [wrapOk]; omega)) rfl ?_ | refine U_cv E rfl rfl rfl (wrap_k (by simp only [wrapOk]; omega)) rfl ?_ | refine U_pure E rfl rfl ?_ | refine T_exit rfl ?_ | refine T_condV rfl ?_ | refine U_guard rfl rfl ?_ | refine U_guardU rfl rfl rfl ?_ | ((with_reducible refine Gd_skipT ?_ ?_); exact rfl) | ((with_reducible refine Gd_skipF ?_ ?_); exact rfl))
        refine U_loadB E hB5 rfl rfl rfl (by rfl) rfl ?_
        repeat (first | (with_reducible first | apply T_seq | apply T_region | apply U_nil | apply T_skip | apply T_block | apply T_inBlock | apply Cnd_t | apply Cnd_f | apply Cnd_not | apply Cnd_some | apply Cnd_none | apply Gd_nt | apply Gd_nf | apply Gd_some | apply Gd_none | apply Gd_want) | refine U_ar rfl rfl rfl (wrap_k (by simp only [wrapOk]; omega)) rfl ?_ | refine U_cv E rfl rfl rfl (wrap_k (by simp only [wrapOk]; omega)) rfl ?_ | refine U_pure E rfl rfl ?_ | refine T_exit rfl ?_ | refine T_condV rfl ?_ | refine U_guard rfl rfl ?_ | ((with_reducible refine Gd_skipT ?_ ?_); exact rfl) | ((with_reducible refine Gd_skipF ?_ ?_); exact rfl))
        refine Cnd_p (fun _ => ?_) (fun e => absurd rfl e)
        repeat (first | (with_reducible first | apply T_seq | apply T_region | apply U_nil | apply T_skip | apply T_block | apply T_inBlock | apply Cnd_t | apply Cnd_f | apply Cnd_not | apply Cnd_some | apply Cnd_none | apply Gd_nt | apply Gd_nf | apply Gd_some | apply Gd_none | apply Gd_want) | refine U_ar rfl rfl rfl (wrap_k (by simp only [wrapOk]; omega)) rfl ?_ | refine U_cv E rfl rfl rfl (wrap_k (by simp only [wrapOk]; omega)) rfl ?_ | refine U_pure E rfl rfl ?_ | refine T_exit rfl ?_ | refine T_condV rfl ?_ | refine U_guard rfl rfl ?_ | ((with_reducible refine Gd_skipT ?_ ?_); exact rfl) | ((with_reducible refine Gd_skipF ?_ ?_); exact rfl))
        exact T_ret2 Tryz.func14 rfl rfl rfl ⟨_, rfl, F, Own.same h.lt k25, h.same k25, .inl ⟨(show ¬ (5 : Nat) = 0 by decide), rfl⟩⟩
    · refine Gd_b (fun e => absurd (of_decide_eq_true e) (by omega)) (fun _ => ?_)
      repeat (first | (with_reducible first | apply T_seq | apply T_region | apply U_nil | apply T_skip | apply T_block | apply T_inBlock | apply Cnd_t | apply Cnd_f | apply Cnd_not | apply Cnd_some | apply Cnd_none | apply Gd_nt | apply Gd_nf | apply Gd_some | apply Gd_none | apply Gd_want) | refine U_ar rfl rfl rfl (wrap_k (by simp only [wrapOk]; omega)) rfl ?_ | refine U_cv E rfl rfl rfl (wrap_k (by simp only [wrapOk]; omega)) rfl ?_ | refine U_pure E rfl rfl ?_ | refine T_exit rfl ?_ | refine T_condV rfl ?_ | refine U_guard rfl rfl ?_ | refine U_guardU rfl rfl rfl ?_ | ((with_reducible refine Gd_skipT ?_ ?_); exact rfl) | ((with_reducible refine Gd_skipF ?_ ?_); exact rfl))
      refine U_loadB E hB4 rfl rfl rfl (by rfl) rfl ?_
      repeat (first | (with_reducible first | apply T_seq | apply T_region | apply U_nil | apply T_skip | apply T_block | apply T_inBlock | apply Cnd_t | apply Cnd_f | apply Cnd_not | apply Cnd_some | apply Cnd_none | apply Gd_nt | apply Gd_nf | apply Gd_some | apply Gd_none | apply Gd_want) | refine U_ar rfl rfl rfl (wrap_k (by simp only [wrapOk]; omega)) rfl ?_ | refine U_cv E rfl rfl rfl (wrap_k (by simp only [wrapOk]; omega)) rfl ?_ | refine U_pure E rfl rfl ?_ | refine T_exit rfl ?_ | refine T_condV rfl ?_ | refine U_guard rfl rfl ?_ | ((with_reducible refine Gd_skipT ?_ ?_); exact rfl) | ((with_reducible refine Gd_skipF ?_ ?_); exact rfl))
      refine Cnd_p (fun e => absurd e (by omega)) (fun _ => ?_)
      have hrec0 := record_rc hr4 h4 (by omega) hL
      unfold ptr at *
      repeat (first | (with_reducible first | apply T_seq | apply T_region | apply U_nil | apply T_skip | apply T_block | apply T_inBlock | apply Cnd_t | apply Cnd_f | apply Cnd_not | apply Cnd_some | apply Cnd_none | apply Gd_nt | apply Gd_nf | apply Gd_some | apply Gd_none | apply Gd_want) | refine U_ar rfl rfl rfl (wrap_k (by simp only [wrapOk]; omega)) rfl ?_ | refine U_cv E rfl rfl rfl (wrap_k (by simp only [wrapOk]; omega)) rfl ?_ | refine U_pure E rfl rfl ?_ | refine T_exit rfl ?_ | refine T_condV rfl ?_ | refine U_guard rfl rfl ?_ | ((with_reducible refine Gd_skipT ?_ ?_); exact rfl) | ((with_reducible refine Gd_skipF ?_ ?_); exact rfl))
      refine U_call rfl rfl (Tryz.call38 _) (hrec0) ?_
      rintro r w5 ⟨k5, hcase⟩
      obtain ⟨QQ, hQQ⟩ : ∃ QQ, opS D = QQ := ⟨_, rfl⟩
      have hQ0 : scanR D (opG D) (hsz D + 1) [] 0 = QQ := hQQ
      have k15 := k24.tr k5 (fun _ _ x => x)
      have hr5 := hr4.same h4.lt k5
      -- the loop's first state
      obtain ⟨vu, vk, bb, hr0, hst⟩ : ∃ vu vk bb, r = .tuple #[vu, vk, .bool bb] ∧ ((recD D (opG D) 0 0 = none ∧ bb = false) ∨ ∃ p k, recD D (opG D) 0 0 = some (p, k) ∧ vk = .int .i64 (k : Nat) ∧ bb = true ∧ BS w5 (fun b => w3.heap.size ≤ b ∧ ¬ b = rb) vu p) := by
        rcases hcase with ⟨e, u, k, rfl⟩ | ⟨u, p, k, e, rfl, hb⟩
        · exact ⟨u, _, false, rfl, .inl ⟨e, rfl⟩⟩
        · refine ⟨u, _, true, rfl, .inr ⟨p, k, e, rfl, rfl, hb.mono (fun b _ hx => ?_)⟩⟩
          simp only [fresh] at hx
          exact ⟨by omega, by omega⟩
      rw [hr0]
      repeat (first | (with_reducible first | apply T_seq | apply T_region | apply U_nil | apply T_skip | apply T_block | apply T_inBlock | apply Cnd_t | apply Cnd_f | apply Cnd_not | apply Cnd_some | apply Cnd_none | apply Gd_nt | apply Gd_nf | apply Gd_some | apply Gd_none | apply Gd_want) | refine U_ar rfl rfl rfl (wrap_k (by simp only [wrapOk]; omega)) rfl ?_ | refine U_cv E rfl rfl rfl (wrap_k (by simp only [wrapOk]; omega)) rfl ?_ | refine U_pure E rfl rfl ?_ | refine T_exit rfl ?_ | refine T_condV rfl ?_ | refine U_guard rfl rfl ?_ | ((with_reducible refine Gd_skipT ?_ ?_); exact rfl) | ((with_reducible refine Gd_skipF ?_ ?_); exact rfl))
      refine T_loop (α := List (List UInt8) × Nat × (Nat → Prop) × World × Value × Value × Bool) (fun x => [(7, .bool x.2.2.2.2.2.2), (6, x.2.2.2.2.2.1), (5, x.2.2.2.2.1), (4, .pointer (some ⟨rb, 0, none⟩)), (0, .pointer (some ⟨hb, 0, none⟩))]) (fun x => x.2.2.2.1) (fun x => hsz D + 1 - x.2.1)
        (fun x => x.1.length ≤ x.2.1 ∧ x.2.1 ≤ hsz D ∧ Kept none0 w3 x.2.2.2.1 ∧ (∀ b, x.2.2.1 b → w3.heap.size ≤ b) ∧ x.2.2.1 rb ∧ Rl x.2.2.2.1 F x.2.2.1 hb rb (opG D) x.1 x.2.1 ∧ scanR D (opG D) (hsz D + 1 - x.1.length) x.1 x.2.1 = QQ ∧
          ((recD D (opG D) x.1.length x.2.1 = none ∧ x.2.2.2.2.2.2 = false) ∨ ∃ p k, recD D (opG D) x.1.length x.2.1 = some (p, k) ∧ x.2.2.2.2.2.1 = .int .i64 (k : Nat) ∧ x.2.2.2.2.2.2 = true ∧ BS x.2.2.2.1 (fun b => w3.heap.size ≤ b ∧ ¬ x.2.2.1 b) x.2.2.2.2.1 p))
        ([], 0, (fun b => b = rb), w5, vu, vk, bb) ⟨Nat.le_refl _, Nat.zero_le _, hn4.kept.tr k5 (fun _ _ x => x), fun b e => by omega, rfl, hr5, hQ0, hst⟩ ⟨rfl, rfl, rfl, rfl, rfl, trivial⟩ rfl ?_
      rintro ⟨l, at_, Fr, w6, vu, vk, bb⟩ ⟨hla, hat, k36, hFn, hFrb, hr6, hsc, hst⟩ ih
      dsimp only at hla hat k36 hFn hFrb hr6 hsc hst ⊢
      have hB6 : ∃ vl vs, Blk w6 rb [.pointer (some ⟨hb, 0, none⟩), .int .u32 (opG D), vl, .int .i64 at_] 66 ∧ vs.length = l.length ∧ Row w6 (fun b => Fr b ∧ b ≠ rb) vl 1 vs.length vs 22 ∧ (∀ (j : Nat) v p, vs[j]? = some v → l[j]? = some p → BS w6 (fun b => Fr b ∧ b ≠ rb ∧ vl.ownBlock ≠ some b) v p) := by
        obtain ⟨vl, vs, g1, g2, g3, g4, g5⟩ := hr6.body
        unfold ptr at g2
        exact ⟨vl, vs, g2, g3, g4, g5⟩
      have k16 : Kept none0 w1 w6 := (k2.tr k3 (fun _ _ x => x)).tr k36 (fun _ _ x => x)
      have h6D := h.same k16
      have s16 := k16.size
      obtain ⟨vl, vs, g2, g3, g4, g5⟩ := hB6
      rcases hst with ⟨hrn, rfl⟩ | ⟨p, q, hrs, rfl, rfl, hbp⟩
      · have hQQ2 : QQ = (l, at_) := by
          rw [← hsc]
          cases hsz D + 1 - l.length with
          | zero => rfl
          | succ f => rw [scanR, hrn]
        have hS : opS D = (l, at_) := by rw [hQQ, hQQ2]
        obtain ⟨A, c, rfl⟩ := g4.val
        repeat (first | (with_reducible first | apply T_seq | apply T_region | apply U_nil | apply T_skip | apply T_block | apply T_inBlock | apply Cnd_t | apply Cnd_f | apply Cnd_not | apply Cnd_some | apply Cnd_none | apply Gd_nt | apply Gd_nf | apply Gd_some | apply Gd_none | apply Gd_want) | refine U_ar rfl rfl rfl (wrap_k (by simp only [wrapOk]; omega)) rfl ?_ | refine U_cv E rfl rfl rfl (wrap_k (by simp only [wrapOk]; omega)) rfl ?_ | refine U_pure E rfl rfl ?_ | refine T_exit rfl ?_ | refine T_condV rfl ?_ | refine U_guard rfl rfl ?_ | ((with_reducible refine Gd_skipT ?_ ?_); exact rfl) | ((with_reducible refine Gd_skipF ?_ ?_); exact rfl))
        refine U_loadB E g2 rfl rfl rfl (by rfl) rfl ?_
        repeat (first | (with_reducible first | apply T_seq | apply T_region | apply U_nil | apply T_skip | apply T_block | apply T_inBlock | apply Cnd_t | apply Cnd_f | apply Cnd_not | apply Cnd_some | apply Cnd_none | apply Gd_nt | apply Gd_nf | apply Gd_some | apply Gd_none | apply Gd_want) | refine U_ar rfl rfl rfl (wrap_k (by simp only [wrapOk]; omega)) rfl ?_ | refine U_cv E rfl rfl rfl (wrap_k (by simp only [wrapOk]; omega)) rfl ?_ | refine U_pure E rfl rfl ?_ | refine T_exit rfl ?_ | refine T_condV rfl ?_ | refine U_guard rfl rfl ?_ | ((with_reducible refine Gd_skipT ?_ ?_); exact rfl) | ((with_reducible refine Gd_skipF ?_ ?_); exact rfl))
        refine Cnd_p (fun hl0 => ?_) (fun hl0 => ?_)
        · have hl0' : l.length = 0 := by omega
          have he : opF D = (2, D) := by rw [opF, if_neg h6', if_neg hg0, hS, if_pos hl0']
          rw [he]
          repeat (first | (with_reducible first | apply T_seq | apply T_region | apply U_nil | apply T_skip | apply T_block | apply T_inBlock | apply Cnd_t | apply Cnd_f | apply Cnd_not | apply Cnd_some | apply Cnd_none | apply Gd_nt | apply Gd_nf | apply Gd_some | apply Gd_none | apply Gd_want) | refine U_ar rfl rfl rfl (wrap_k (by simp only [wrapOk]; omega)) rfl ?_ | refine U_cv E rfl rfl rfl (wrap_k (by simp only [wrapOk]; omega)) rfl ?_ | refine U_pure E rfl rfl ?_ | refine T_exit rfl ?_ | refine T_condV rfl ?_ | refine U_guard rfl rfl ?_ | ((with_reducible refine Gd_skipT ?_ ?_); exact rfl) | ((with_reducible refine Gd_skipF ?_ ?_); exact rfl))
          exact T_ret2 Tryz.func14 rfl rfl rfl ⟨_, rfl, F, Own.same h.lt k16, h6D, .inl ⟨(show ¬ (2 : Nat) = 0 by decide), rfl⟩⟩
        · have hl0' : ¬ l.length = 0 := by omega
          have he : opF D = tidF (wipeR (hsz D - at_) (base D (opG D) + at_) false D) := by rw [opF, if_neg h6', if_neg hg0, hS, if_neg hl0']
          rw [he, hS]
          have hrl6 : Rl w6 F Fr hb rb (opG D) l at_ := hr6
          repeat (first | (with_reducible first | apply T_seq | apply T_region | apply U_nil | apply T_skip | apply T_block | apply T_inBlock | apply Cnd_t | apply Cnd_f | apply Cnd_not | apply Cnd_some | apply Cnd_none | apply Gd_nt | apply Gd_nf | apply Gd_some | apply Gd_none | apply Gd_want) | refine U_ar rfl rfl rfl (wrap_k (by simp only [wrapOk]; omega)) rfl ?_ | refine U_cv E rfl rfl rfl (wrap_k (by simp only [wrapOk]; omega)) rfl ?_ | refine U_pure E rfl rfl ?_ | refine T_exit rfl ?_ | refine T_condV rfl ?_ | refine U_guard rfl rfl ?_ | ((with_reducible refine Gd_skipT ?_ ?_); exact rfl) | ((with_reducible refine Gd_skipF ?_ ?_); exact rfl))
          refine L_begin (fun W => Blk W rb [.pointer (some ⟨hb, 0, none⟩), .int .u32 (opG D), .slice A vs.length c, .int .i64 at_] 66) 20 (by kernel_rfl) (N := 20) rfl (fun w7 hd7 => ?_)
          have hB7 := g2.mv (hd7.kept none0) (fun x => x)
          have hD7 := h6D.same (hd7.kept none0)
          have hr7 := hrl6.same h6D.lt (hd7.kept none0)
          have hfr := from_rc w7 F hb D (opG D) hD7.isD (by omega) hGl
          have hrm := room_c hr7 hD7 (by omega)
          have hw := fun W k => wipe_rc W F hb D (base D (opG D) + at_) (hsz D - at_) (hD7.same (w' := W) k) (by omega) (by omega)
          unfold ptr at *
          refine L_take 0 rfl (by kernel_rfl) (by kernel_rfl) (by kernel_rfl) (by kernel_rfl) hB7 rfl rfl rfl (fun a ha w' _ => run_pv E ha rfl _ _ _ _ _) ?_; refine L_take 1 rfl (by kernel_rfl) (by kernel_rfl) (by kernel_rfl) (by kernel_rfl) hB7 rfl rfl rfl (fun a ha w' _ => run_pv E ha rfl _ _ _ _ _) ?_; refine L_take 2 rfl (by kernel_rfl) (by kernel_rfl) (by kernel_rfl) (by kernel_rfl) hB7 rfl rfl rfl (fun a ha w' _ => run_pv E ha rfl _ _ _ _ _) ?_; refine L_take 3 rfl (by kernel_rfl) (by kernel_rfl) (by kernel_rfl) (by kernel_rfl) hB7 rfl rfl rfl (fun a ha w' _ => run_pv E ha rfl _ _ _ _ _) ?_; refine L_take 4 rfl (by kernel_rfl) (by kernel_rfl) (by kernel_rfl) (by kernel_rfl) hB7 rfl rfl rfl (fun a ha w' _ => run_pv E ha rfl _ _ _ _ _) ?_
          refine L_take 5 rfl (by kernel_rfl) (by kernel_rfl) (by kernel_rfl) (by kernel_rfl) hB7 rfl rfl rfl (fun a ha w' hS => ro_loadB E hS rfl rfl rfl rfl a ha) ?_
          refine L_take 7 rfl (by kernel_rfl) (by kernel_rfl) (by kernel_rfl) (by kernel_rfl) hB7 rfl rfl rfl (fun a ha w' _ => run_pv E ha rfl _ _ _ _ _) ?_; refine L_take 8 rfl (by kernel_rfl) (by kernel_rfl) (by kernel_rfl) (by kernel_rfl) hB7 rfl rfl rfl (fun a ha w' _ => run_pv E ha rfl _ _ _ _ _) ?_; refine L_take 9 rfl (by kernel_rfl) (by kernel_rfl) (by kernel_rfl) (by kernel_rfl) hB7 rfl rfl rfl (fun a ha w' _ => run_pv E ha rfl _ _ _ _ _) ?_
          refine L_take 10 rfl (by kernel_rfl) (by kernel_rfl) (by kernel_rfl) (by kernel_rfl) hB7 rfl rfl rfl (fun a ha w' hS => ro_loadB E hS rfl rfl rfl rfl a ha) ?_
          refine L_take 12 rfl (by kernel_rfl) (by kernel_rfl) (by kernel_rfl) (by kernel_rfl) hB7 rfl rfl rfl (fun a ha w' _ => run_pv E ha rfl _ _ _ _ _) ?_
          refine L_op 6 (by kernel_rfl) rfl (fun hc => ?_)
          refine U_call rfl rfl (Tryz.call33 _) (hfr) ?_
          rintro r w8 ⟨rfl, rfl⟩
          refine U_nilL hc (fun _ => hB7) ?_
          refine L_take 11 rfl (by kernel_rfl) (by kernel_rfl) (by kernel_rfl) (by kernel_rfl) hB7 rfl rfl rfl (fun a ha w' _ => ro_ar rfl rfl rfl (wrap_k (by simp only [wrapOk]; omega)) a ha) ?_
          refine L_op 13 (by kernel_rfl) rfl (fun hc => ?_)
          refine U_call rfl rfl (Tryz.call22 _) (hrm) ?_
          rintro r w9 ⟨rfl, k9⟩
          have hB9 := hB7.mv k9 (fun x => x)
          refine U_nilL hc (fun _ => hB9) ?_
          rw [show (hsz D : Int) - (at_ : Int) = ((hsz D - at_ : Nat) : Int) by omega, show (base D (opG D) : Int) + (at_ : Int) = ((base D (opG D) + at_ : Nat) : Int) by omega]
          refine L_op 14 (by kernel_rfl) rfl (fun hc => ?_)
          refine U_call rfl rfl (Tryz.call27 _) (hw _ k9) ?_
          rintro r w10 ⟨rfl, F10, o10, h10⟩
          have hB10 := o10.blk hB9 (hr7.lt rb hFrb).2
          refine U_nilL hc (fun _ => hB10) ?_
          refine L_take 15 rfl (by kernel_rfl) (by kernel_rfl) (by kernel_rfl) (by kernel_rfl) hB10 rfl rfl rfl (fun a ha w' _ => run_pv E ha rfl _ _ _ _ _) ?_; refine L_take 16 rfl (by kernel_rfl) (by kernel_rfl) (by kernel_rfl) (by kernel_rfl) hB10 rfl rfl rfl (fun a ha w' _ => run_pv E ha rfl _ _ _ _ _) ?_; refine L_take 17 rfl (by kernel_rfl) (by kernel_rfl) (by kernel_rfl) (by kernel_rfl) hB10 rfl rfl rfl (fun a ha w' _ => run_pv E ha rfl _ _ _ _ _) ?_; refine L_take 18 rfl (by kernel_rfl) (by kernel_rfl) (by kernel_rfl) (by kernel_rfl) hB10 rfl rfl rfl (fun a ha w' _ => run_pv E ha rfl _ _ _ _ _) ?_; refine L_take 19 rfl (by kernel_rfl) (by kernel_rfl) (by kernel_rfl) (by kernel_rfl) hB10 rfl rfl rfl (fun a ha w' _ => run_pv E ha rfl _ _ _ _ _) ?_
          refine L_done (by kernel_rfl) ?_
          have hr10 := (hr7.same hD7.lt k9).drum o10
          obtain ⟨W, hW⟩ : ∃ W, wipeR (hsz D - at_) (base D (opG D) + at_) false D = W := ⟨_, rfl⟩
          rw [hW] at h10 ⊢
          have o1 := ((Own.same h.lt k16).then0 (hd7.kept none0)).then0 k9
          have o10' := o1.tr o10
          have hfl := dw_flush w10 F10 hb W.2.2 h10
          unfold ptr at *
          have hFn' : ∀ b, Fr b → w1.heap.size ≤ b := fun b e => by have := hFn b e; have := (k2.tr k3 (fun _ _ x => x)).size; omega
          by_cases e1 : W.2.1 = 0
          · rw [e1, errV0]
            cases hws : W.1 with
            | true =>
              have ht : tidF W = (flErr W.2.2, flDr W.2.2) := by rw [tidF, if_pos ⟨e1, hws⟩]
              rw [ht]
              repeat (first | (with_reducible first | apply T_seq | apply T_region | apply U_nil | apply T_skip | apply T_block | apply T_inBlock | apply Cnd_t | apply Cnd_f | apply Cnd_not | apply Cnd_some | apply Cnd_none | apply Gd_nt | apply Gd_nf | apply Gd_some | apply Gd_none | apply Gd_want) | refine U_ar rfl rfl rfl (wrap_k (by simp only [wrapOk]; omega)) rfl ?_ | refine U_cv E rfl rfl rfl (wrap_k (by simp only [wrapOk]; omega)) rfl ?_ | refine U_pure E rfl rfl ?_ | refine T_exit rfl ?_ | refine T_condV rfl ?_ | refine U_guard rfl rfl ?_ | refine U_guardU rfl rfl rfl ?_ | ((with_reducible refine Gd_skipT ?_ ?_); exact rfl) | ((with_reducible refine Gd_skipF ?_ ?_); exact rfl))
              refine U_call rfl rfl (Tryz.call28 _) (hfl) ?_
              rintro r w11 ⟨rfl, F11, o11, h11⟩
              have hr11 := hr10.drum o11
              have o11' := o10'.tr o11
              by_cases e2 : flErr W.2.2 = 0
              · rw [e2, errV0]
                repeat (first | (with_reducible first | apply T_seq | apply T_region | apply U_nil | apply T_skip | apply T_block | apply T_inBlock | apply Cnd_t | apply Cnd_f | apply Cnd_not | apply Cnd_some | apply Cnd_none | apply Gd_nt | apply Gd_nf | apply Gd_some | apply Gd_none | apply Gd_want) | refine U_ar rfl rfl rfl (wrap_k (by simp only [wrapOk]; omega)) rfl ?_ | refine U_cv E rfl rfl rfl (wrap_k (by simp only [wrapOk]; omega)) rfl ?_ | refine U_pure E rfl rfl ?_ | refine T_exit rfl ?_ | refine T_condV rfl ?_ | refine U_guard rfl rfl ?_ | ((with_reducible refine Gd_skipT ?_ ?_); exact rfl) | ((with_reducible refine Gd_skipF ?_ ?_); exact rfl))
                exact T_ret2 Tryz.func14 rfl rfl rfl ⟨_, rfl, F11, o11', h11, .inr ⟨rfl, rb, Fr, rfl, hr11, hFn'⟩⟩
              · obtain ⟨j, hj, hje⟩ := errV_ne e2
                rw [hje]
                repeat (first | (with_reducible first | apply T_seq | apply T_region | apply U_nil | apply T_skip | apply T_block | apply T_inBlock | apply Cnd_t | apply Cnd_f | apply Cnd_not | apply Cnd_some | apply Cnd_none | apply Gd_nt | apply Gd_nf | apply Gd_some | apply Gd_none | apply Gd_want) | refine U_ar rfl rfl rfl (wrap_k (by simp only [wrapOk]; omega)) rfl ?_ | refine U_cv E rfl rfl rfl (wrap_k (by simp only [wrapOk]; omega)) rfl ?_ | refine U_pure E rfl rfl ?_ | refine T_exit rfl ?_ | refine T_condV rfl ?_ | refine U_guard rfl rfl ?_ | ((with_reducible refine Gd_skipT ?_ ?_); exact rfl) | ((with_reducible refine Gd_skipF ?_ ?_); exact rfl))
                exact T_ret2 Tryz.func14 rfl rfl rfl ⟨_, rfl, F11, o11', h11, .inl ⟨e2, rfl⟩⟩
            | false =>
              have ht : tidF W = W.2 := by rw [tidF, if_neg (fun e => by rw [hws] at e; exact absurd e.2 (by decide))]
              rw [ht, e1]
              repeat (first | (with_reducible first | apply T_seq | apply T_region | apply U_nil | apply T_skip | apply T_block | apply T_inBlock | apply Cnd_t | apply Cnd_f | apply Cnd_not | apply Cnd_some | apply Cnd_none | apply Gd_nt | apply Gd_nf | apply Gd_some | apply Gd_none | apply Gd_want) | refine U_ar rfl rfl rfl (wrap_k (by simp only [wrapOk]; omega)) rfl ?_ | refine U_cv E rfl rfl rfl (wrap_k (by simp only [wrapOk]; omega)) rfl ?_ | refine U_pure E rfl rfl ?_ | refine T_exit rfl ?_ | refine T_condV rfl ?_ | refine U_guard rfl rfl ?_ | refine U_guardU rfl rfl rfl ?_ | ((with_reducible refine Gd_skipT ?_ ?_); exact rfl) | ((with_reducible refine Gd_skipF ?_ ?_); exact rfl))
              exact T_ret2 Tryz.func14 rfl rfl rfl ⟨_, rfl, F10, o10', h10, .inr ⟨rfl, rb, Fr, rfl, hr10, hFn'⟩⟩
          · have ht : tidF W = W.2 := by rw [tidF, if_neg (fun e => e1 e.1)]
            rw [ht]
            obtain ⟨j, hj, hje⟩ := errV_ne e1
            rw [hje]
            repeat (first | (with_reducible first | apply T_seq | apply T_region | apply U_nil | apply T_skip | apply T_block | apply T_inBlock | apply Cnd_t | apply Cnd_f | apply Cnd_not | apply Cnd_some | apply Cnd_none | apply Gd_nt | apply Gd_nf | apply Gd_some | apply Gd_none | apply Gd_want) | refine U_ar rfl rfl rfl (wrap_k (by simp only [wrapOk]; omega)) rfl ?_ | refine U_cv E rfl rfl rfl (wrap_k (by simp only [wrapOk]; omega)) rfl ?_ | refine U_pure E rfl rfl ?_ | refine T_exit rfl ?_ | refine T_condV rfl ?_ | refine U_guard rfl rfl ?_ | refine U_guardU rfl rfl rfl ?_ | ((with_reducible refine Gd_skipT ?_ ?_); exact rfl) | ((with_reducible refine Gd_skipF ?_ ?_); exact rfl))
            exact T_ret2 Tryz.func14 rfl rfl rfl ⟨_, rfl, F10, o10', h10, .inl ⟨e1, rfl⟩⟩
      · obtain ⟨hq1, hq2, hpl⟩ := recD_some hrs
        obtain ⟨f, hf⟩ : ∃ f, hsz D + 1 - l.length = f + 1 := ⟨hsz D - l.length, by omega⟩
        rw [hf, scanR, hrs] at hsc
        dsimp only at hsc
        obtain ⟨A', c', rfl⟩ := g4.val
        repeat (first | (with_reducible first | apply T_seq | apply T_region | apply U_nil | apply T_skip | apply T_block | apply T_inBlock | apply Cnd_t | apply Cnd_f | apply Cnd_not | apply Cnd_some | apply Cnd_none | apply Gd_nt | apply Gd_nf | apply Gd_some | apply Gd_none | apply Gd_want) | refine U_ar rfl rfl rfl (wrap_k (by simp only [wrapOk]; omega)) rfl ?_ | refine U_cv E rfl rfl rfl (wrap_k (by simp only [wrapOk]; omega)) rfl ?_ | refine U_pure E rfl rfl ?_ | refine T_exit rfl ?_ | refine T_condV rfl ?_ | refine U_guard rfl rfl ?_ | ((with_reducible refine Gd_skipT ?_ ?_); exact rfl) | ((with_reducible refine Gd_skipF ?_ ?_); exact rfl))
        refine M_begin (fun W => Blk W rb [.pointer (some ⟨hb, 0, none⟩), .int .u32 (opG D), .slice A' vs.length c', .int .i64 at_] 66) [17, 18, 19, 20] (by kernel_rfl) (N := 21) rfl (fun w7 hd7 => ?_)
        have hB7 := g2.mv (hd7.kept none0) (fun x => x)
        refine M_takeP 0 rfl (by kernel_rfl) (by kernel_rfl) (by kernel_rfl) rfl rfl rfl (fun a ha w' => run_pv E ha rfl _ _ _ _ _) ?_; refine M_takeP 1 rfl (by kernel_rfl) (by kernel_rfl) (by kernel_rfl) rfl rfl rfl (fun a ha w' => run_pv E ha rfl _ _ _ _ _) ?_; refine M_takeP 2 rfl (by kernel_rfl) (by kernel_rfl) (by kernel_rfl) rfl rfl rfl (fun a ha w' => run_pv E ha rfl _ _ _ _ _) ?_; refine M_takeP 3 rfl (by kernel_rfl) (by kernel_rfl) (by kernel_rfl) rfl rfl rfl (fun a ha w' => run_pv E ha rfl _ _ _ _ _) ?_; refine M_takeP 4 rfl (by kernel_rfl) (by kernel_rfl) (by kernel_rfl) rfl rfl rfl (fun a ha w' => run_pv E ha rfl _ _ _ _ _) ?_
        refine M_take 5 rfl (by kernel_rfl) (by kernel_rfl) (by kernel_rfl) (by kernel_rfl) hB7 rfl rfl rfl (fun a ha w' hS => ro_loadB E hS rfl rfl rfl rfl a ha) ?_
        refine M_takeP 6 rfl (by kernel_rfl) (by kernel_rfl) (by kernel_rfl) rfl rfl rfl (fun a ha w' => run_pv E ha rfl _ _ _ _ _) ?_; refine M_takeP 9 rfl (by kernel_rfl) (by kernel_rfl) (by kernel_rfl) rfl rfl rfl (fun a ha w' => run_pv E ha rfl _ _ _ _ _) ?_; refine M_takeP 10 rfl (by kernel_rfl) (by kernel_rfl) (by kernel_rfl) rfl rfl rfl (fun a ha w' => run_pv E ha rfl _ _ _ _ _) ?_; refine M_takeP 11 rfl (by kernel_rfl) (by kernel_rfl) (by kernel_rfl) rfl rfl rfl (fun a ha w' => run_pv E ha rfl _ _ _ _ _) ?_
        refine M_take 12 rfl (by kernel_rfl) (by kernel_rfl) (by kernel_rfl) (by kernel_rfl) hB7 rfl rfl rfl (fun a ha w' hS => ro_loadB E hS rfl rfl rfl rfl a ha) ?_
        refine M_takeP 13 rfl (by kernel_rfl) (by kernel_rfl) (by kernel_rfl) rfl rfl rfl (fun a ha w' => run_pv E ha rfl _ _ _ _ _) ?_
        refine M_takeP 14 rfl (by kernel_rfl) (by kernel_rfl) (by kernel_rfl) rfl rfl rfl (fun a ha w' => ro_ar rfl rfl rfl (wrap_k (by simp only [wrapOk]; omega)) a ha) ?_
        obtain ⟨AP, cP, rfl⟩ := hbp.len
        refine M_op 7 (by kernel_rfl) rfl (fun hc => ?_)
        refine U_buildSlice (sz := 1) E rfl rfl rfl rfl rfl rfl rfl rfl (segs := [[.slice AP p.length cP]]) rfl (by simp) rfl ?_
        intro b8 w8 hn8
        have hB8 := hB7.mv hn8.kept (fun x => x)
        refine U_nilM hc (fun _ => hB8) ?_
        have k68 : Kept none0 w6 w8 := (hd7.kept none0).tr hn8.kept (fun _ _ x => x)
        have hlit : Sl w8 (fun x => x = b8) (.slice (some ⟨b8, 0, none⟩) 1 1) 1 1 [.slice AP p.length cP] := ⟨by decide, rfl, _, 1, rfl, Nat.le_refl _, .inr ⟨b8, 0, rfl, rfl, hn8.blk.lt, hn8.blk.whole⟩⟩
        have g48 := g4.mv k68 (fun _ _ _ x => x)
        have hown := g4.own
        refine M_op 8 (by kernel_rfl) rfl (fun hc => ?_)
        refine U_append E g48 hlit (by simp [Value.oneCell']) rfl rfl rfl rfl rfl (by omega) (by omega) rfl ?_
        intro vo' w9 hr9 k9 _ hob
        have hB9 := hB8.mv k9 (fun e => (hown rb e).1.2 rfl)
        refine U_nilM hc (fun _ => hB9) ?_
        refine M_takeP 15 rfl (by kernel_rfl) (by kernel_rfl) (by kernel_rfl) rfl rfl rfl (fun a ha w' => run_pv E ha rfl _ _ _ _ _) ?_; refine M_takeP 16 rfl (by kernel_rfl) (by kernel_rfl) (by kernel_rfl) rfl rfl rfl (fun a ha w' => run_pv E ha rfl _ _ _ _ _) ?_
        obtain ⟨A9, c9, rfl⟩ := hr9.val
        refine M_op 17 (by kernel_rfl) rfl (fun hc => ?_)
        refine U_store E (hB9) rfl rfl rfl (by simp) rfl ?_
        intro w10 hu10
        refine U_nilM hc (fun e => absurd (by decide) e) ?_
        refine M_op 18 (by kernel_rfl) rfl (fun hc => ?_)
        repeat (first | refine U_ar rfl rfl rfl (wrap_k (by simp only [wrapOk]; omega)) rfl ?_ | refine U_cv E rfl rfl rfl (wrap_k (by simp only [wrapOk]; omega)) rfl ?_ | refine U_pure E rfl rfl ?_)
        refine U_nilM hc (fun e => absurd (by decide) e) ?_
        refine M_op 19 (by kernel_rfl) rfl (fun hc => ?_)
        repeat (first | refine U_ar rfl rfl rfl (wrap_k (by simp only [wrapOk]; omega)) rfl ?_ | refine U_cv E rfl rfl rfl (wrap_k (by simp only [wrapOk]; omega)) rfl ?_ | refine U_pure E rfl rfl ?_)
        refine U_nilM hc (fun e => absurd (by decide) e) ?_
        refine M_op 20 (by kernel_rfl) rfl (fun hc => ?_)
        refine U_store E (hu10.blk) rfl rfl rfl (by simp) rfl ?_
        intro w11 hu11
        refine U_nilM hc (fun e => absurd (by decide) e) ?_
        refine M_done (by kernel_rfl) ?_
        have hll := hr6.len
        have hat1 := hr6.at1
        have hlt6 := hr6.lt
        have s68 := k68.size
        have s89 := k9.size
        have s10 := hu10.size
        have s11 := hu11.size
        have s7 := (hd7.kept none0).size
        have hrbl : rb < w6.heap.size := g2.lt
        have stay : ∀ u q, BS w8 (fun b => w3.heap.size ≤ b ∧ b ≠ rb ∧ (Value.slice A' vs.length c').ownBlock ≠ some b) u q → BS w11 (fun b => (w3.heap.size ≤ b ∧ b < w11.heap.size) ∧ b ≠ rb ∧ (Value.slice A9 (vs.length + 1) c9).ownBlock ≠ some b) u q := fun u q hx =>
          ((((hx.mono (G := fun b => (w3.heap.size ≤ b ∧ b ≠ rb ∧ (Value.slice A' vs.length c').ownBlock ≠ some b) ∧ b < w8.heap.size) (fun _ hb h => ⟨h, hb⟩)).mv k9 (fun b _ h e => h.1.2.2 e)).mv hu10.kept (fun b _ h (e : b = rb) => h.1.2.1 e)).mv hu11.kept (fun b _ h (e : b = rb) => h.1.2.1 e)).mono
            (fun b _ h => ⟨⟨h.1.1, by omega⟩, h.1.2.1, fun e => (hob b e).elim h.1.2.2 (fun e => by omega)⟩)
        have s36 := k36.size
        have k811 : Kept (fun b => Fr b) w8 w11 := (k9.mono (fun b _ e => (hown b e).1.1)).tr hu10.kept (fun b _ (e : b = rb) => by rw [e]; exact hFrb) |>.tr hu11.kept (fun b _ (e : b = rb) => by rw [e]; exact hFrb)
        have k311 : Kept none0 w3 w11 := (k36.tr k68 (fun _ _ x => x)).tr k811 (fun b hb e => by have := hFn b e; omega)
        have hD11 := h.same ((k2.tr k3 (fun _ _ x => x)).tr k311 (fun _ _ x => x))
        have hr11 : Rl w11 F (fun b => w3.heap.size ≤ b ∧ b < w11.heap.size) hb rb (opG D) (l ++ [p]) (at_ + q) := by
          refine ⟨fun b e => ⟨e.2, fun e2 => ?_⟩, hGl, by omega, by simp; omega, ?_, .slice A9 (vs.length + 1) c9, vs ++ [.slice AP p.length cP], ⟨hFn rb hFrb, by omega⟩, ?_, by simp [g3], ?_, ?_⟩
          · have := hF1 b e2
            have := (k2.tr k3 (fun _ _ x => x)).size
            have := e.1
            omega
          · intro z hz
            rcases List.mem_append.1 hz with hz | hz
            · exact hr6.recs z hz
            · rw [List.mem_singleton.1 hz]
              exact hpl
          · have := hu11.blk
            unfold ptr
            rw [show ((at_ + q : Nat) : Int) = (at_ : Int) + (q : Int) by omega]
            simpa using this
          · have h1 := (hr9.mv hu10.kept (fun b _ e (e2 : b = rb) => by rcases e with e | e; exact e.2 e2; omega)).mv hu11.kept (fun b _ e (e2 : b = rb) => by rcases e with e | e; exact e.2 e2; omega)
            rw [List.length_append]
            exact h1.mono (fun b hb e => by rcases e with e | e; exact ⟨⟨hFn b e.1, hb⟩, e.2⟩; exact ⟨⟨by omega, hb⟩, by omega⟩)
          · exact snoc_bs g3 (fun j u q hu hq => stay u q (((g5 j u q hu hq).mv k68 (fun _ _ _ x => x)).mono (fun b _ hx => ⟨hFn b hx.1, hx.2⟩))) (stay _ _ ((hbp.mv k68 (fun _ _ _ x => x)).mono (fun b _ hx => ⟨hx.1, fun e => hx.2 (by rw [e]; exact hFrb), fun e => hx.2 (hown b e).1.1⟩)))
        have hrecN := record_rc hr11 hD11 (by omega) hL
        unfold ptr at *
        repeat (first | (with_reducible first | apply T_seq | apply T_region | apply U_nil | apply T_skip | apply T_block | apply T_inBlock | apply Cnd_t | apply Cnd_f | apply Cnd_not | apply Cnd_some | apply Cnd_none | apply Gd_nt | apply Gd_nf | apply Gd_some | apply Gd_none | apply Gd_want) | refine U_ar rfl rfl rfl (wrap_k (by simp only [wrapOk]; omega)) rfl ?_ | refine U_cv E rfl rfl rfl (wrap_k (by simp only [wrapOk]; omega)) rfl ?_ | refine U_pure E rfl rfl ?_ | refine T_exit rfl ?_ | refine T_condV rfl ?_ | refine U_guard rfl rfl ?_ | ((with_reducible refine Gd_skipT ?_ ?_); exact rfl) | ((with_reducible refine Gd_skipF ?_ ?_); exact rfl))
        refine U_call rfl rfl (Tryz.call38 _) (hrecN) ?_
        rintro r w12 ⟨k12, hcase⟩
        obtain ⟨vu2, vk2, bb2, hr0, hst2⟩ : ∃ vu vk bb, r = .tuple #[vu, vk, .bool bb] ∧ ((recD D (opG D) (l ++ [p]).length (at_ + q) = none ∧ bb = false) ∨ ∃ z k, recD D (opG D) (l ++ [p]).length (at_ + q) = some (z, k) ∧ vk = .int .i64 (k : Nat) ∧ bb = true ∧ BS w12 (fun b => w3.heap.size ≤ b ∧ ¬ (w3.heap.size ≤ b ∧ b < w11.heap.size)) vu z) := by
          rcases hcase with ⟨e, u, k, rfl⟩ | ⟨u, z, k, e, rfl, hb⟩
          · exact ⟨u, _, false, rfl, .inl ⟨e, rfl⟩⟩
          · refine ⟨u, _, true, rfl, .inr ⟨z, k, e, rfl, rfl, hb.mono (fun b _ hx => ?_)⟩⟩
            simp only [fresh] at hx
            have := k311.size
            exact ⟨by omega, fun e2 => by omega⟩
        rw [hr0]
        have hlen1 : (l ++ [p]).length = l.length + 1 := by simp
        have s12 := k12.size
        repeat (first | (with_reducible first | apply T_seq | apply T_region | apply U_nil | apply T_skip | apply T_block | apply T_inBlock | apply Cnd_t | apply Cnd_f | apply Cnd_not | apply Cnd_some | apply Cnd_none | apply Gd_nt | apply Gd_nf | apply Gd_some | apply Gd_none | apply Gd_want) | refine U_ar rfl rfl rfl (wrap_k (by simp only [wrapOk]; omega)) rfl ?_ | refine U_cv E rfl rfl rfl (wrap_k (by simp only [wrapOk]; omega)) rfl ?_ | refine U_pure E rfl rfl ?_ | refine T_exit rfl ?_ | refine T_condV rfl ?_ | refine U_guard rfl rfl ?_ | ((with_reducible refine Gd_skipT ?_ ?_); exact rfl) | ((with_reducible refine Gd_skipF ?_ ?_); exact rfl))
        refine T.less ?_ (ih (l ++ [p], at_ + q, (fun b => w3.heap.size ≤ b ∧ b < w11.heap.size), w12, vu2, vk2, bb2) ⟨by rw [hlen1]; dsimp only; omega, hq2, k311.tr k12 (fun _ _ x => x), fun b e => e.1, ⟨hFn rb hFrb, by omega⟩, hr11.same hD11.lt k12, ?_, hst2⟩ (by dsimp only; omega))
        · exact ⟨rfl, rfl, rfl, rfl, rfl, trivial⟩
        · rw [hlen1, show hsz D + 1 - (l.length + 1) = f by omega]
          exact hsc
end Go.Proofs.YtoefhdaenaiomaaGreatDoor

/- The reel: a nil one. -/
namespace Go.Proofs.YtoefhdaenaiomaaGreatDoor
open Go
set_option maxRecDepth 20000

theorem append_nil (w : World) (v : Value) : Calls Tryz.prog 20 [.pointer none, v].toArray w (Ret fun r w' => r = errV 3 ∧ w' = w) := by
  refine calls_T Tryz.func20 rfl rfl rfl ?_
  repeat (first | (with_reducible first | apply T_seq | apply T_region | apply U_nil | apply T_skip | apply T_block | apply T_inBlock | apply Cnd_t | apply Cnd_f | apply Cnd_not | apply Cnd_some | apply Cnd_none | apply Gd_nt | apply Gd_nf | apply Gd_some | apply Gd_none | apply Gd_want) | refine U_ar rfl rfl rfl (wrap_k (by simp only [wrapOk]; omega)) rfl ?_ | refine U_cv E rfl rfl rfl (wrap_k (by simp only [wrapOk]; omega)) rfl ?_ | refine U_pure E rfl rfl ?_ | refine T_exit rfl ?_ | refine T_condV rfl ?_ | refine U_guard rfl rfl ?_ | ((with_reducible refine Gd_skipT ?_ ?_); exact rfl) | ((with_reducible refine Gd_skipF ?_ ?_); exact rfl))
  exact T_ret1 Tryz.func20 rfl rfl ⟨_, rfl, rfl, rfl⟩
theorem rturn_nil (w : World) (v : Value) : Calls Tryz.prog 10 [.pointer none, v].toArray w (Ret fun r w' => r = errV 3 ∧ w' = w) := by
  refine calls_T Tryz.func10 rfl rfl rfl ?_
  repeat (first | (with_reducible first | apply T_seq | apply T_region | apply U_nil | apply T_skip | apply T_block | apply T_inBlock | apply Cnd_t | apply Cnd_f | apply Cnd_not | apply Cnd_some | apply Cnd_none | apply Gd_nt | apply Gd_nf | apply Gd_some | apply Gd_none | apply Gd_want) | refine U_ar rfl rfl rfl (wrap_k (by simp only [wrapOk]; omega)) rfl ?_ | refine U_cv E rfl rfl rfl (wrap_k (by simp only [wrapOk]; omega)) rfl ?_ | refine U_pure E rfl rfl ?_ | refine T_exit rfl ?_ | refine T_condV rfl ?_ | refine U_guard rfl rfl ?_ | ((with_reducible refine Gd_skipT ?_ ?_); exact rfl) | ((with_reducible refine Gd_skipF ?_ ?_); exact rfl))
  exact T_ret1 Tryz.func10 rfl rfl ⟨_, rfl, rfl, rfl⟩
theorem rflush_nil (w : World) : Calls Tryz.prog 9 [.pointer none].toArray w (Ret fun r w' => r = errV 3 ∧ w' = w) := by
  refine calls_T Tryz.func9 rfl rfl rfl ?_
  repeat (first | (with_reducible first | apply T_seq | apply T_region | apply U_nil | apply T_skip | apply T_block | apply T_inBlock | apply Cnd_t | apply Cnd_f | apply Cnd_not | apply Cnd_some | apply Cnd_none | apply Gd_nt | apply Gd_nf | apply Gd_some | apply Gd_none | apply Gd_want) | refine U_ar rfl rfl rfl (wrap_k (by simp only [wrapOk]; omega)) rfl ?_ | refine U_cv E rfl rfl rfl (wrap_k (by simp only [wrapOk]; omega)) rfl ?_ | refine U_pure E rfl rfl ?_ | refine T_exit rfl ?_ | refine T_condV rfl ?_ | refine U_guard rfl rfl ?_ | ((with_reducible refine Gd_skipT ?_ ?_); exact rfl) | ((with_reducible refine Gd_skipF ?_ ?_); exact rfl))
  exact T_ret1 Tryz.func9 rfl rfl ⟨_, rfl, rfl, rfl⟩
theorem records_nil (w : World) : Calls Tryz.prog 15 [.pointer none].toArray w (Ret fun r w' => r = .slice none 0 0 ∧ w' = w) := by
  refine calls_T Tryz.func15 rfl rfl rfl ?_
  repeat (first | (with_reducible first | apply T_seq | apply T_region | apply U_nil | apply T_skip | apply T_block | apply T_inBlock | apply Cnd_t | apply Cnd_f | apply Cnd_not | apply Cnd_some | apply Cnd_none | apply Gd_nt | apply Gd_nf | apply Gd_some | apply Gd_none | apply Gd_want) | refine U_ar rfl rfl rfl (wrap_k (by simp only [wrapOk]; omega)) rfl ?_ | refine U_cv E rfl rfl rfl (wrap_k (by simp only [wrapOk]; omega)) rfl ?_ | refine U_pure E rfl rfl ?_ | refine T_exit rfl ?_ | refine T_condV rfl ?_ | refine U_guard rfl rfl ?_ | ((with_reducible refine Gd_skipT ?_ ?_); exact rfl) | ((with_reducible refine Gd_skipF ?_ ?_); exact rfl))
  exact T_ret1 Tryz.func15 rfl rfl ⟨_, rfl, rfl, rfl⟩
theorem count_nil (w : World) : Calls Tryz.prog 23 [.pointer none].toArray w (Ret fun r w' => r = .int .i64 0 ∧ w' = w) := by
  refine calls_T Tryz.func23 rfl rfl rfl ?_
  repeat (first | (with_reducible first | apply T_seq | apply T_region | apply U_nil | apply T_skip | apply T_block | apply T_inBlock | apply Cnd_t | apply Cnd_f | apply Cnd_not | apply Cnd_some | apply Cnd_none | apply Gd_nt | apply Gd_nf | apply Gd_some | apply Gd_none | apply Gd_want) | refine U_ar rfl rfl rfl (wrap_k (by simp only [wrapOk]; omega)) rfl ?_ | refine U_cv E rfl rfl rfl (wrap_k (by simp only [wrapOk]; omega)) rfl ?_ | refine U_pure E rfl rfl ?_ | refine T_exit rfl ?_ | refine T_condV rfl ?_ | refine U_guard rfl rfl ?_ | ((with_reducible refine Gd_skipT ?_ ?_); exact rfl) | ((with_reducible refine Gd_skipF ?_ ?_); exact rfl))
  exact T_ret1 Tryz.func23 rfl rfl ⟨_, rfl, rfl, rfl⟩
theorem gen_nil (w : World) : Calls Tryz.prog 16 [.pointer none].toArray w (Ret fun r w' => r = .int .u32 0 ∧ w' = w) := by
  refine calls_T Tryz.func16 rfl rfl rfl ?_
  repeat (first | (with_reducible first | apply T_seq | apply T_region | apply U_nil | apply T_skip | apply T_block | apply T_inBlock | apply Cnd_t | apply Cnd_f | apply Cnd_not | apply Cnd_some | apply Cnd_none | apply Gd_nt | apply Gd_nf | apply Gd_some | apply Gd_none | apply Gd_want) | refine U_ar rfl rfl rfl (wrap_k (by simp only [wrapOk]; omega)) rfl ?_ | refine U_cv E rfl rfl rfl (wrap_k (by simp only [wrapOk]; omega)) rfl ?_ | refine U_pure E rfl rfl ?_ | refine T_exit rfl ?_ | refine T_condV rfl ?_ | refine U_guard rfl rfl ?_ | ((with_reducible refine Gd_skipT ?_ ?_); exact rfl) | ((with_reducible refine Gd_skipF ?_ ?_); exact rfl))
  exact T_ret1 Tryz.func16 rfl rfl ⟨_, rfl, rfl, rfl⟩
theorem room_nil (w : World) : Calls Tryz.prog 22 [.pointer none].toArray w (Ret fun r w' => r = .int .i64 0 ∧ w' = w) := by
  refine calls_T Tryz.func22 rfl rfl rfl ?_
  repeat (first | (with_reducible first | apply T_seq | apply T_region | apply U_nil | apply T_skip | apply T_block | apply T_inBlock | apply Cnd_t | apply Cnd_f | apply Cnd_not | apply Cnd_some | apply Cnd_none | apply Gd_nt | apply Gd_nf | apply Gd_some | apply Gd_none | apply Gd_want) | refine U_ar rfl rfl rfl (wrap_k (by simp only [wrapOk]; omega)) rfl ?_ | refine U_cv E rfl rfl rfl (wrap_k (by simp only [wrapOk]; omega)) rfl ?_ | refine U_pure E rfl rfl ?_ | refine T_exit rfl ?_ | refine T_condV rfl ?_ | refine U_guard rfl rfl ?_ | ((with_reducible refine Gd_skipT ?_ ?_); exact rfl) | ((with_reducible refine Gd_skipF ?_ ?_); exact rfl))
  exact T_ret1 Tryz.func22 rfl rfl ⟨_, rfl, rfl, rfl⟩
end Go.Proofs.YtoefhdaenaiomaaGreatDoor

/- The reference's sectors. -/
namespace Go.Proofs.YtoefhdaenaiomaaGreatDoor
open Go
set_option maxRecDepth 20000

def page (f : List UInt8) (j : Nat) : List UInt8 := mrk 165 ((f.drop (254 * j)).take 254)
def lay (g i : Nat) (p : List UInt8) : List (List UInt8) := (List.range (pgs p.length)).map (page (frm (sdr g i) p))
def allP (g : Nat) : Nat → List (List UInt8) → List (List UInt8)
  | _, [] => []
  | i, p :: l => lay g i p ++ allP g (i + 1) l
theorem lay_len (g i : Nat) (p : List UInt8) : (lay g i p).length = pgs p.length := by simp [lay]
theorem allP_snoc (g : Nat) : ∀ (l : List (List UInt8)) (i : Nat) (p : List UInt8), allP g i (l ++ [p]) = allP g i l ++ lay g (i + l.length) p
  | [], i, p => by simp [allP]
  | q :: l, i, p => by
    rw [List.cons_append, allP, allP_snoc g l (i + 1) p, allP, List.append_assoc, List.length_cons, show i + 1 + l.length = i + (l.length + 1) by omega]

theorem OS.nil (w : World) (G : Nat → Prop) : OS w G (.slice none 0 0) [] := ⟨[], rfl, Row.nil _ _ _ _, fun j u p h => by simp at h⟩
theorem OS.mv {w w' : World} {G : Nat → Prop} {v : Value} {l : List (List UInt8)} (h : OS w G v l) (k : Kept none0 w w') : OS w' G v l := by
  obtain ⟨vs, h1, h2, h3⟩ := h
  exact ⟨vs, h1, h2.mv k (fun _ _ _ x => x), fun j u p hu hp => (h3 j u p hu hp).mv k (fun _ _ _ x => x)⟩
/-- Slices are appended. -/
theorem OS.app {w w3 w4 : World} {vo vo' : Value} {vs ns : List Value} {l l' : List (List UInt8)} (hw : w.heap.size ≤ w3.heap.size) (h1 : vs.length = l.length)
    (h3 : ∀ (j : Nat) u p, vs[j]? = some u → l[j]? = some p → BS w3 (fun b => fresh w b ∧ vo.ownBlock ≠ some b) u p) (n1 : ns.length = l'.length)
    (n3 : ∀ (j : Nat) u p, ns[j]? = some u → l'[j]? = some p → BS w3 (fun b => fresh w b ∧ vo.ownBlock ≠ some b) u p)
    (hr : Row w4 (fun b => fresh w b ∨ w3.heap.size ≤ b) vo' 1 (vs.length + ns.length) (vs ++ ns) 22) (k : Kept (fun b => vo.ownBlock = some b) w3 w4) (hob : ∀ b, vo'.ownBlock = some b → vo.ownBlock = some b ∨ w3.heap.size ≤ b) : OS w4 (fresh w) vo' (l ++ l') := by
  have past : ∀ u p, BS w3 (fun b => fresh w b ∧ vo.ownBlock ≠ some b) u p → BS w4 (fun b => fresh w b ∧ vo'.ownBlock ≠ some b) u p := fun u p hx =>
    ((hx.mono (G := fun b => (fresh w b ∧ vo.ownBlock ≠ some b) ∧ b < w3.heap.size) (fun _ hb h => ⟨h, hb⟩)).mv k (fun _ _ h e => h.1.2 e)).mono (fun b _ h => ⟨h.1.1, fun e => (hob b e).elim h.1.2 (fun e => by omega)⟩)
  refine ⟨vs ++ ns, by rw [List.length_append, List.length_append, h1, n1], ?_, fun j u p hu hp => ?_⟩
  · rw [List.length_append]
    exact hr.mono (fun b _ e => e.elim (fun x => x) (fun x => by simp only [fresh]; omega))
  · rcases Nat.lt_or_ge j vs.length with hj | hj
    · rw [List.getElem?_append_left hj] at hu
      rw [List.getElem?_append_left (by omega)] at hp
      exact past u p (h3 j u p hu hp)
    · rw [List.getElem?_append_right hj] at hu
      rw [List.getElem?_append_right (by omega), ← h1] at hp
      exact past u p (n3 _ u p hu hp)

theorem rpages_c (w : World) (n : Nat) (hn : n ≤ 10000000) : Calls Tryz.prog 11 [.int .i64 n].toArray w (Ret fun r w' => r = .int .i64 (pgs n : Nat) ∧ w' = w) := by
  refine calls_T Tryz.func11 rfl rfl rfl ?_
  repeat (first | (with_reducible first | apply T_seq | apply T_region | apply U_nil | apply T_skip | apply T_block | apply T_inBlock | apply Cnd_t | apply Cnd_f | apply Cnd_not | apply Cnd_some | apply Cnd_none | apply Gd_nt | apply Gd_nf | apply Gd_some | apply Gd_none | apply Gd_want) | refine U_ar rfl rfl rfl (wrap_k (by simp only [wrapOk]; omega)) rfl ?_ | refine U_cv E rfl rfl rfl (wrap_k (by simp only [wrapOk]; omega)) rfl ?_ | refine U_pure E rfl rfl ?_ | refine T_exit rfl ?_ | refine T_condV rfl ?_ | refine U_guard rfl rfl ?_ | ((with_reducible refine Gd_skipT ?_ ?_); exact rfl) | ((with_reducible refine Gd_skipF ?_ ?_); exact rfl))
  refine T_loop (α := Nat) (fun x => [(3, .int .i64 x), (0, .int .i64 n)]) (fun _ => w) (fun x => pgs n - x) (fun x => 1 ≤ x ∧ x ≤ pgs n) 1 ⟨Nat.le_refl _, by unfold pgs; omega⟩ ⟨rfl, rfl, trivial⟩ rfl ?_
  rintro k ⟨hk, hk2⟩ ih
  have hp : pgs n = (n + 8 + 253) / 254 := rfl
  repeat (first | (with_reducible first | apply T_seq | apply T_region | apply U_nil | apply T_skip | apply T_block | apply T_inBlock | apply Cnd_t | apply Cnd_f | apply Cnd_not | apply Cnd_some | apply Cnd_none | apply Gd_nt | apply Gd_nf | apply Gd_some | apply Gd_none | apply Gd_want) | refine U_ar rfl rfl rfl (wrap_k (by simp only [wrapOk]; omega)) rfl ?_ | refine U_cv E rfl rfl rfl (wrap_k (by simp only [wrapOk]; omega)) rfl ?_ | refine U_pure E rfl rfl ?_ | refine T_exit rfl ?_ | refine T_condV rfl ?_ | refine U_guard rfl rfl ?_ | ((with_reducible refine Gd_skipT ?_ ?_); exact rfl) | ((with_reducible refine Gd_skipF ?_ ?_); exact rfl))
  refine Cnd_p (fun hlt => ?_) (fun hlt => ?_)
  · repeat (first | (with_reducible first | apply T_seq | apply T_region | apply U_nil | apply T_skip | apply T_block | apply T_inBlock | apply Cnd_t | apply Cnd_f | apply Cnd_not | apply Cnd_some | apply Cnd_none | apply Gd_nt | apply Gd_nf | apply Gd_some | apply Gd_none | apply Gd_want) | refine U_ar rfl rfl rfl (wrap_k (by simp only [wrapOk]; omega)) rfl ?_ | refine U_cv E rfl rfl rfl (wrap_k (by simp only [wrapOk]; omega)) rfl ?_ | refine U_pure E rfl rfl ?_ | refine T_exit rfl ?_ | refine T_condV rfl ?_ | refine U_guard rfl rfl ?_ | ((with_reducible refine Gd_skipT ?_ ?_); exact rfl) | ((with_reducible refine Gd_skipF ?_ ?_); exact rfl))
    refine T.less ?_ (ih (k + 1) ⟨by omega, by omega⟩ (by omega))
    refine ⟨?_, rfl, trivial⟩
    exact congrArg (fun z => some (Value.int .i64 z)) (by omega)
  · repeat (first | (with_reducible first | apply T_seq | apply T_region | apply U_nil | apply T_skip | apply T_block | apply T_inBlock | apply Cnd_t | apply Cnd_f | apply Cnd_not | apply Cnd_some | apply Cnd_none | apply Gd_nt | apply Gd_nf | apply Gd_some | apply Gd_none | apply Gd_want) | refine U_ar rfl rfl rfl (wrap_k (by simp only [wrapOk]; omega)) rfl ?_ | refine U_cv E rfl rfl rfl (wrap_k (by simp only [wrapOk]; omega)) rfl ?_ | refine U_pure E rfl rfl ?_ | refine T_exit rfl ?_ | refine T_condV rfl ?_ | refine U_guard rfl rfl ?_ | ((with_reducible refine Gd_skipT ?_ ?_); exact rfl) | ((with_reducible refine Gd_skipF ?_ ?_); exact rfl))
    have : k = pgs n := by omega
    subst this
    exact T_ret1 Tryz.func11 rfl rfl ⟨_, rfl, rfl, rfl⟩

theorem sec_mrk (m : UInt8) (p : List UInt8) (hp : p.length ≤ 254) : (sec ([m] ++ p)).set 255 m = mrk m p := by
  unfold sec mrk
  have e : ([m] ++ p ++ zeros 256).take 256 = m :: (p ++ zeros 256).take 255 := by simp
  rw [e, List.set_cons_succ]
  congr 1
  have e2 : (p ++ zeros 256).take 255 = (p ++ zeros 254).take 254 ++ [0] := by
    have a1 : (p ++ zeros 256).take 255 = p ++ List.replicate (255 - p.length) 0 := by
      rw [List.take_append, List.take_of_length_le (by omega), zeros, List.take_replicate, Nat.min_eq_left (by omega)]
    have a2 : (p ++ zeros 254).take 254 = p ++ List.replicate (254 - p.length) 0 := by
      rw [List.take_append, List.take_of_length_le (by omega), zeros, List.take_replicate, Nat.min_eq_left (by omega)]
    rw [a1, a2, List.append_assoc, show 255 - p.length = 254 - p.length + 1 by omega, List.replicate_succ']
  have l2 : ((p ++ zeros 254).take 254).length = 254 := by simp [zeros]
  rw [e2, List.set_append_right _ _ (by omega), l2]
  rfl

set_option maxHeartbeats 2000000 in
theorem rmarked_c (w : World) (G : Nat → Prop) (m : UInt8) (v : Value) (p : List UInt8) (h : BS w G v p) (hp : p.length ≤ 254) :
    Calls Tryz.prog 61 [encB m, v].toArray w (Ret fun r w' => Kept none0 w w' ∧ BS w' (fresh w) r (mrk m p)) := by
  obtain ⟨A, c, rfl⟩ := h.len
  refine calls_T Tryz.func61 rfl rfl rfl ?_
  repeat (first | (with_reducible first | apply T_seq | apply T_region | apply U_nil | apply T_skip | apply T_block | apply T_inBlock | apply Cnd_t | apply Cnd_f | apply Cnd_not | apply Cnd_some | apply Cnd_none | apply Gd_nt | apply Gd_nf | apply Gd_some | apply Gd_none | apply Gd_want) | refine U_ar rfl rfl rfl (wrap_k (by simp only [wrapOk]; omega)) rfl ?_ | refine U_cv E rfl rfl rfl (wrap_k (by simp only [wrapOk]; omega)) rfl ?_ | refine U_pure E rfl rfl ?_ | refine T_exit rfl ?_ | refine T_condV rfl ?_ | refine U_guard rfl rfl ?_ | ((with_reducible refine Gd_skipT ?_ ?_); exact rfl) | ((with_reducible refine Gd_skipF ?_ ?_); exact rfl))
  refine U_buildSlice (sz := 1) E rfl rfl rfl rfl rfl rfl rfl rfl (segs := [[encB m]]) rfl (by simp [encB]) rfl ?_
  intro b1 w1 hn1
  have hm1 : BS w1 (fun _ => True) (.slice (some ⟨b1, 0, none⟩) 1 1) [m] := New.bs (l := [m]) (N := 1) hn1 rfl (by decide) _ trivial
  repeat (first | (with_reducible first | apply T_seq | apply T_region | apply U_nil | apply T_skip | apply T_block | apply T_inBlock | apply Cnd_t | apply Cnd_f | apply Cnd_not | apply Cnd_some | apply Cnd_none | apply Gd_nt | apply Gd_nf | apply Gd_some | apply Gd_none | apply Gd_want) | refine U_ar rfl rfl rfl (wrap_k (by simp only [wrapOk]; omega)) rfl ?_ | refine U_cv E rfl rfl rfl (wrap_k (by simp only [wrapOk]; omega)) rfl ?_ | refine U_pure E rfl rfl ?_ | refine T_exit rfl ?_ | refine T_condV rfl ?_ | refine U_guard rfl rfl ?_ | ((with_reducible refine Gd_skipT ?_ ?_); exact rfl) | ((with_reducible refine Gd_skipF ?_ ?_); exact rfl))
  refine U_buildSlice (sz := 1) E rfl rfl rfl rfl rfl rfl rfl rfl (segs := [[.slice (some ⟨b1, 0, none⟩) 1 1], [.slice A p.length c]]) rfl (by simp) rfl ?_
  intro b2 w2 hn2
  have hj := join_c w2 _ (fun _ => True) _ _ _ (two_sl hn2.blk) rfl (two_bs (hm1.mv hn2.kept (fun _ _ _ x => x)) (((h.mv hn1.kept (fun _ _ _ x => x)).mv hn2.kept (fun _ _ _ x => x)).mono (fun _ _ _ => trivial))) (by simp; omega)
  repeat (first | (with_reducible first | apply T_seq | apply T_region | apply U_nil | apply T_skip | apply T_block | apply T_inBlock | apply Cnd_t | apply Cnd_f | apply Cnd_not | apply Cnd_some | apply Cnd_none | apply Gd_nt | apply Gd_nf | apply Gd_some | apply Gd_none | apply Gd_want) | refine U_ar rfl rfl rfl (wrap_k (by simp only [wrapOk]; omega)) rfl ?_ | refine U_cv E rfl rfl rfl (wrap_k (by simp only [wrapOk]; omega)) rfl ?_ | refine U_pure E rfl rfl ?_ | refine T_exit rfl ?_ | refine T_condV rfl ?_ | refine U_guard rfl rfl ?_ | ((with_reducible refine Gd_skipT ?_ ?_); exact rfl) | ((with_reducible refine Gd_skipF ?_ ?_); exact rfl))
  refine U_call rfl rfl (Tryz.call32 _) (hj) ?_
  rintro r w3 ⟨k3, hr3⟩
  have hr3' := hr3.sl (by simp; omega)
  have hf := full_c w3 _ _ _ hr3'
  repeat (first | (with_reducible first | apply T_seq | apply T_region | apply U_nil | apply T_skip | apply T_block | apply T_inBlock | apply Cnd_t | apply Cnd_f | apply Cnd_not | apply Cnd_some | apply Cnd_none | apply Gd_nt | apply Gd_nf | apply Gd_some | apply Gd_none | apply Gd_want) | refine U_ar rfl rfl rfl (wrap_k (by simp only [wrapOk]; omega)) rfl ?_ | refine U_cv E rfl rfl rfl (wrap_k (by simp only [wrapOk]; omega)) rfl ?_ | refine U_pure E rfl rfl ?_ | refine T_exit rfl ?_ | refine T_condV rfl ?_ | refine U_guard rfl rfl ?_ | ((with_reducible refine Gd_skipT ?_ ?_); exact rfl) | ((with_reducible refine Gd_skipF ?_ ?_); exact rfl))
  refine U_call rfl rfl (Tryz.call71 _) (hf) ?_
  rintro r w4 ⟨k4, b4, hb4, rfl, hB4⟩
  have k14 : Kept none0 w w4 := ((hn1.kept.tr hn2.kept (fun _ _ x => x)).tr k3 (fun _ _ x => x)).tr k4 (fun _ _ x => x)
  have k13 : Kept none0 w w3 := (hn1.kept.tr hn2.kept (fun _ _ x => x)).tr k3 (fun _ _ x => x)
  have s3 := k13.size
  repeat (first | (with_reducible first | apply T_seq | apply T_region | apply U_nil | apply T_skip | apply T_block | apply T_inBlock | apply Cnd_t | apply Cnd_f | apply Cnd_not | apply Cnd_some | apply Cnd_none | apply Gd_nt | apply Gd_nf | apply Gd_some | apply Gd_none | apply Gd_want) | refine U_ar rfl rfl rfl (wrap_k (by simp only [wrapOk]; omega)) rfl ?_ | refine U_cv E rfl rfl rfl (wrap_k (by simp only [wrapOk]; omega)) rfl ?_ | refine U_pure E rfl rfl ?_ | refine T_exit rfl ?_ | refine T_condV rfl ?_ | refine U_guard rfl rfl ?_ | ((with_reducible refine Gd_skipT ?_ ?_); exact rfl) | ((with_reducible refine Gd_skipF ?_ ?_); exact rfl))
  refine U_indexS E rfl rfl rfl rfl (by omega) (by omega) (o' := 255) rfl rfl ?_
  refine U_store E (hB4) rfl rfl rfl (by rw [encBs_len, sec_len]; decide) rfl ?_
  intro w5 hu5
  have hb5 := hu5.blk
  have e5 : [[m], p].flatten = [m] ++ p := by simp
  rw [e5, ← encBs_set, sec_mrk m p hp] at hb5
  repeat (first | (with_reducible first | apply T_seq | apply T_region | apply U_nil | apply T_skip | apply T_block | apply T_inBlock | apply Cnd_t | apply Cnd_f | apply Cnd_not | apply Cnd_some | apply Cnd_none | apply Gd_nt | apply Gd_nf | apply Gd_some | apply Gd_none | apply Gd_want) | refine U_ar rfl rfl rfl (wrap_k (by simp only [wrapOk]; omega)) rfl ?_ | refine U_cv E rfl rfl rfl (wrap_k (by simp only [wrapOk]; omega)) rfl ?_ | refine U_pure E rfl rfl ?_ | refine T_exit rfl ?_ | refine T_condV rfl ?_ | refine U_guard rfl rfl ?_ | ((with_reducible refine Gd_skipT ?_ ?_); exact rfl) | ((with_reducible refine Gd_skipF ?_ ?_); exact rfl))
  exact T_ret1 Tryz.func61 rfl rfl ⟨_, rfl, k14.tr hu5.kept (fun j hj (e : j = b4) => by omega), blk_bs hb5 (mrk_len _ _) (by simp only [fresh]; omega)⟩
end Go.Proofs.YtoefhdaenaiomaaGreatDoor

/- The reference's records. -/
namespace Go.Proofs.YtoefhdaenaiomaaGreatDoor
open Go
set_option maxRecDepth 20000

theorem OS.mono {w : World} {G G' : Nat → Prop} {v : Value} {l : List (List UInt8)} (h : OS w G v l) (hG : ∀ b, b < w.heap.size → G b → G' b) : OS w G' v l := by
  obtain ⟨vs, h1, h2, h3⟩ := h
  exact ⟨vs, h1, h2.mono hG, fun j u p hu hp => (h3 j u p hu hp).mono (fun b hb e => ⟨hG b hb e.1, e.2⟩)⟩

set_option maxHeartbeats 4000000 in
theorem rlay_c (w : World) (G : Nat → Prop) (g i : Nat) (v : Value) (p : List UInt8) (hg : g < 4294967296) (hi : i < 4294967296) (h : BS w G v p) (hp : p.length ≤ 100000) :
    Calls Tryz.prog 41 [.int .u32 g, .int .i64 i, v].toArray w (Ret fun r w' => Kept none0 w w' ∧ OS w' (fresh w) r (lay g i p)) := by
  obtain ⟨A, c, rfl⟩ := h.len
  refine calls_T Tryz.func41 rfl rfl rfl ?_
  repeat (first | (with_reducible first | apply T_seq | apply T_region | apply U_nil | apply T_skip | apply T_block | apply T_inBlock | apply Cnd_t | apply Cnd_f | apply Cnd_not | apply Cnd_some | apply Cnd_none | apply Gd_nt | apply Gd_nf | apply Gd_some | apply Gd_none | apply Gd_want) | refine U_ar rfl rfl rfl (wrap_k (by simp only [wrapOk]; omega)) rfl ?_ | refine U_cv E rfl rfl rfl (wrap_k (by simp only [wrapOk]; omega)) rfl ?_ | refine U_pure E rfl rfl ?_ | refine T_exit rfl ?_ | refine T_condV rfl ?_ | refine U_guard rfl rfl ?_ | ((with_reducible refine Gd_skipT ?_ ?_); exact rfl) | ((with_reducible refine Gd_skipF ?_ ?_); exact rfl))
  have hwd := rword_c w i (by omega)
  refine U_call rfl rfl (Tryz.call60 _) (hwd) ?_
  rintro r w1 ⟨b1, rfl, hn1⟩
  have hb1 := hn1.bs (le4_len i) (by decide) (fun _ => True) trivial
  repeat (first | (with_reducible first | apply T_seq | apply T_region | apply U_nil | apply T_skip | apply T_block | apply T_inBlock | apply Cnd_t | apply Cnd_f | apply Cnd_not | apply Cnd_some | apply Cnd_none | apply Gd_nt | apply Gd_nf | apply Gd_some | apply Gd_none | apply Gd_want) | refine U_ar rfl rfl rfl (wrap_k (by simp only [wrapOk]; omega)) rfl ?_ | refine U_cv E rfl rfl rfl (wrap_k (by simp only [wrapOk]; omega)) rfl ?_ | refine U_pure E rfl rfl ?_ | refine T_exit rfl ?_ | refine T_condV rfl ?_ | refine U_guard rfl rfl ?_ | ((with_reducible refine Gd_skipT ?_ ?_); exact rfl) | ((with_reducible refine Gd_skipF ?_ ?_); exact rfl))
  refine U_call rfl rfl (Tryz.call59 _) (rcheck_c w1 _ _ _ g hg hb1 (by rw [le4_len]; decide)) ?_
  rintro r w2 ⟨rfl, k2⟩
  have k12 : Kept none0 w w2 := hn1.kept.tr k2 (fun _ _ x => x)
  repeat (first | (with_reducible first | apply T_seq | apply T_region | apply U_nil | apply T_skip | apply T_block | apply T_inBlock | apply Cnd_t | apply Cnd_f | apply Cnd_not | apply Cnd_some | apply Cnd_none | apply Gd_nt | apply Gd_nf | apply Gd_some | apply Gd_none | apply Gd_want) | refine U_ar rfl rfl rfl (wrap_k (by simp only [wrapOk]; omega)) rfl ?_ | refine U_cv E rfl rfl rfl (wrap_k (by simp only [wrapOk]; omega)) rfl ?_ | refine U_pure E rfl rfl ?_ | refine T_exit rfl ?_ | refine T_condV rfl ?_ | refine U_guard rfl rfl ?_ | ((with_reducible refine Gd_skipT ?_ ?_); exact rfl) | ((with_reducible refine Gd_skipF ?_ ?_); exact rfl))
  refine U_call rfl rfl (Tryz.call58 _) (rframe_c w2 _ _ p (chk g (le4 i)) (chk_lt _ _) (h.mv k12 (fun _ _ _ x => x)) (by omega)) ?_
  rintro vf w3 ⟨k3, hf3⟩
  obtain ⟨X, hX⟩ : ∃ X, frm (chk g (le4 i)) p = X := ⟨_, rfl⟩
  have hXl : X.length = p.length + 8 := by rw [← hX, frm_len]
  rw [hX] at hf3
  have k13 : Kept none0 w w3 := k12.tr k3 (fun _ _ x => x)
  have hf3' : BS w3 (fun b => b < w3.heap.size) vf X := hf3.mono (fun b e _ => e)
  have hpg : pgs p.length = (p.length + 8 + 253) / 254 := rfl
  have hlay : lay g i p = (List.range (pgs p.length)).map (page X) := by rw [lay, sdr, hX]
  rw [hlay]
  have rest_len : ∀ k, (X.drop (254 * k)).length = X.length - 254 * k := fun k => List.length_drop ..
  have snoc : ∀ k, (List.range (k + 1)).map (page X) = (List.range k).map (page X) ++ [page X k] := fun k => by rw [List.range_succ, List.map_append]; rfl
  repeat (first | (with_reducible first | apply T_seq | apply T_region | apply U_nil | apply T_skip | apply T_block | apply T_inBlock | apply Cnd_t | apply Cnd_f | apply Cnd_not | apply Cnd_some | apply Cnd_none | apply Gd_nt | apply Gd_nf | apply Gd_some | apply Gd_none | apply Gd_want) | refine U_ar rfl rfl rfl (wrap_k (by simp only [wrapOk]; omega)) rfl ?_ | refine U_cv E rfl rfl rfl (wrap_k (by simp only [wrapOk]; omega)) rfl ?_ | refine U_pure E rfl rfl ?_ | refine T_exit rfl ?_ | refine T_condV rfl ?_ | refine U_guard rfl rfl ?_ | ((with_reducible refine Gd_skipT ?_ ?_); exact rfl) | ((with_reducible refine Gd_skipF ?_ ?_); exact rfl))
  refine T_loop (α := Nat × Value × Value × World) (fun x => [(8, x.2.1), (7, x.2.2.1)]) (fun x => x.2.2.2) (fun x => pgs p.length - x.1)
    (fun x => x.1 < pgs p.length ∧ Kept none0 w3 x.2.2.2 ∧ OS x.2.2.2 (fresh w3) x.2.1 ((List.range x.1).map (page X)) ∧ BS x.2.2.2 (fun b => b < w3.heap.size) x.2.2.1 (X.drop (254 * x.1)))
    (0, .slice none 0 0, vf, w3) ⟨by dsimp only; omega, Kept.refl _ _, OS.nil _ _, by simpa using hf3'⟩ ⟨rfl, rfl, trivial⟩ rfl ?_
  rintro ⟨k, vo, vr, w4⟩ ⟨hk, k4, ho, hr4⟩ ih
  dsimp only at hk k4 ho hr4 ⊢
  have hrl := rest_len k
  -- a sector more
  have step : ∀ (b6 : Nat) (w5 w6 w7 : World) (vm vo' : Value) (vs : List Value), Kept none0 w4 w5 → BS w5 (fresh w4) vm (page X k) → New w5 w6 b6 [vm] 22 → vs.length = ((List.range k).map (page X)).length →
      (∀ (j : Nat) u q, vs[j]? = some u → ((List.range k).map (page X))[j]? = some q → BS w4 (fun b => fresh w3 b ∧ vo.ownBlock ≠ some b) u q) → (∀ b, vo.ownBlock = some b → fresh w3 b ∧ b < w4.heap.size) →
      Row w7 (fun b => fresh w3 b ∨ w6.heap.size ≤ b) vo' 1 (vs.length + 1) (vs ++ [vm]) 22 → Kept (fun b => vo.ownBlock = some b) w6 w7 → (∀ b, vo'.ownBlock = some b → vo.ownBlock = some b ∨ w6.heap.size ≤ b) →
      OS w7 (fresh w3) vo' ((List.range (k + 1)).map (page X)) ∧ Kept none0 w3 w7 ∧ Kept (fun b => vo.ownBlock = some b) w4 w7 := by
    intro b6 w5 w6 w7 vm vo' vs k5 hm hn h1 h3 hown hr k7 hob
    have k46 := k5.tr hn.kept (fun _ _ x => x)
    have k6 := k4.tr k46 (fun _ _ x => x)
    refine ⟨?_, k6.tr k7 (fun b hb e => by have := (hown b e).1; simp only [fresh] at this; omega), (k46.mono (fun _ _ x => x.elim)).tr k7 (fun _ _ x => x)⟩
    rw [snoc]
    refine OS.app k6.size h1 (fun j u q hu hq => (h3 j u q hu hq).mv k46 (fun _ _ _ x => x)) (ns := [vm]) rfl (fun j u q hu hq => ?_) hr k7 hob
    match j with
    | 0 =>
      injection hu with hu
      injection hq with hq
      subst hu
      subst hq
      exact (hm.mv hn.kept (fun _ _ _ x => x)).mono (fun b _ hx => ⟨by have := k4.size; simp only [fresh] at *; omega, fun e => by have := (hown b e).2; simp only [fresh] at hx; omega⟩)
    | j + 1 => simp at hu
  obtain ⟨vs, ho1, ho2, ho3⟩ := ho
  have hvl : vs.length = k := by rw [ho1]; simp
  have hown := ho2.own
  obtain ⟨Ar, cr, rfl⟩ := hr4.len
  repeat (first | (with_reducible first | apply T_seq | apply T_region | apply U_nil | apply T_skip | apply T_block | apply T_inBlock | apply Cnd_t | apply Cnd_f | apply Cnd_not | apply Cnd_some | apply Cnd_none | apply Gd_nt | apply Gd_nf | apply Gd_some | apply Gd_none | apply Gd_want) | refine U_ar rfl rfl rfl (wrap_k (by simp only [wrapOk]; omega)) rfl ?_ | refine U_cv E rfl rfl rfl (wrap_k (by simp only [wrapOk]; omega)) rfl ?_ | refine U_pure E rfl rfl ?_ | refine T_exit rfl ?_ | refine T_condV rfl ?_ | refine U_guard rfl rfl ?_ | ((with_reducible refine Gd_skipT ?_ ?_); exact rfl) | ((with_reducible refine Gd_skipF ?_ ?_); exact rfl))
  refine Cnd_p (fun hlt => ?_) (fun hlt => ?_)
  · obtain ⟨ra, sa, fa⟩ := bs_part (P := Tryz.prog) hr4 0 254 (by omega) (by omega)
    obtain ⟨rb, sb, fb⟩ := bs_part (P := Tryz.prog) hr4 254 (X.drop (254 * k)).length (by omega) (by omega)
    have ea : ((X.drop (254 * k)).drop 0).take (254 - 0) = (X.drop (254 * k)).take 254 := rfl
    have eb : ((X.drop (254 * k)).drop 254).take ((X.drop (254 * k)).length - 254) = X.drop (254 * (k + 1)) := by
      rw [List.take_of_length_le (by rw [List.length_drop]; exact Nat.le_refl _), List.drop_drop, show 254 * k + 254 = 254 * (k + 1) by omega]
    rw [ea] at sa
    rw [eb] at sb
    repeat (first | (with_reducible first | apply T_seq | apply T_region | apply U_nil | apply T_skip | apply T_block | apply T_inBlock | apply Cnd_t | apply Cnd_f | apply Cnd_not | apply Cnd_some | apply Cnd_none | apply Gd_nt | apply Gd_nf | apply Gd_some | apply Gd_none | apply Gd_want) | refine U_ar rfl rfl rfl (wrap_k (by simp only [wrapOk]; omega)) rfl ?_ | refine U_cv E rfl rfl rfl (wrap_k (by simp only [wrapOk]; omega)) rfl ?_ | refine U_pure E rfl rfl ?_ | refine T_exit rfl ?_ | refine T_condV rfl ?_ | refine U_guard rfl rfl ?_ | ((with_reducible refine Gd_skipT ?_ ?_); exact rfl) | ((with_reducible refine Gd_skipF ?_ ?_); exact rfl))
    refine U_run rfl rfl rfl (ro_slB E rfl rfl rfl fa ?hL1 ?hH1) ?_
    case hL1 => exact rfl
    case hH1 => exact ⟨_, rfl⟩
    have hm := rmarked_c w4 _ 165 ra _ sa (by rw [List.length_take]; omega)
    unfold encB at hm
    repeat (first | (with_reducible first | apply T_seq | apply T_region | apply U_nil | apply T_skip | apply T_block | apply T_inBlock | apply Cnd_t | apply Cnd_f | apply Cnd_not | apply Cnd_some | apply Cnd_none | apply Gd_nt | apply Gd_nf | apply Gd_some | apply Gd_none | apply Gd_want) | refine U_ar rfl rfl rfl (wrap_k (by simp only [wrapOk]; omega)) rfl ?_ | refine U_cv E rfl rfl rfl (wrap_k (by simp only [wrapOk]; omega)) rfl ?_ | refine U_pure E rfl rfl ?_ | refine T_exit rfl ?_ | refine T_condV rfl ?_ | refine U_guard rfl rfl ?_ | ((with_reducible refine Gd_skipT ?_ ?_); exact rfl) | ((with_reducible refine Gd_skipF ?_ ?_); exact rfl))
    refine U_call rfl rfl (Tryz.call61 _) (hm) ?_
    rintro rm w5 ⟨k5, hm5⟩
    obtain ⟨Am, cm, rfl⟩ := hm5.len
    repeat (first | (with_reducible first | apply T_seq | apply T_region | apply U_nil | apply T_skip | apply T_block | apply T_inBlock | apply Cnd_t | apply Cnd_f | apply Cnd_not | apply Cnd_some | apply Cnd_none | apply Gd_nt | apply Gd_nf | apply Gd_some | apply Gd_none | apply Gd_want) | refine U_ar rfl rfl rfl (wrap_k (by simp only [wrapOk]; omega)) rfl ?_ | refine U_cv E rfl rfl rfl (wrap_k (by simp only [wrapOk]; omega)) rfl ?_ | refine U_pure E rfl rfl ?_ | refine T_exit rfl ?_ | refine T_condV rfl ?_ | refine U_guard rfl rfl ?_ | ((with_reducible refine Gd_skipT ?_ ?_); exact rfl) | ((with_reducible refine Gd_skipF ?_ ?_); exact rfl))
    refine U_buildSlice (sz := 1) E rfl rfl rfl rfl rfl rfl rfl rfl (segs := [[.slice Am _ cm]]) rfl (by simp) rfl ?_
    intro b6 w6 hn6
    have hlit : Sl w6 (fun x => x = b6) (.slice (some ⟨b6, 0, none⟩) 1 1) 1 1 [.slice Am _ cm] := ⟨by decide, rfl, _, 1, rfl, Nat.le_refl _, .inr ⟨b6, 0, rfl, rfl, hn6.blk.lt, hn6.blk.whole⟩⟩
    have k46 := k5.tr hn6.kept (fun _ _ x => x)
    repeat (first | (with_reducible first | apply T_seq | apply T_region | apply U_nil | apply T_skip | apply T_block | apply T_inBlock | apply Cnd_t | apply Cnd_f | apply Cnd_not | apply Cnd_some | apply Cnd_none | apply Gd_nt | apply Gd_nf | apply Gd_some | apply Gd_none | apply Gd_want) | refine U_ar rfl rfl rfl (wrap_k (by simp only [wrapOk]; omega)) rfl ?_ | refine U_cv E rfl rfl rfl (wrap_k (by simp only [wrapOk]; omega)) rfl ?_ | refine U_pure E rfl rfl ?_ | refine T_exit rfl ?_ | refine T_condV rfl ?_ | refine U_guard rfl rfl ?_ | ((with_reducible refine Gd_skipT ?_ ?_); exact rfl) | ((with_reducible refine Gd_skipF ?_ ?_); exact rfl))
    refine U_append E (ho2.mv k46 (fun _ _ _ x => x)) hlit (by simp [Value.oneCell']) rfl rfl rfl rfl rfl (by omega) (by omega) rfl ?_
    intro vo' w7 hr7 k7 _ hob
    obtain ⟨ho7, k7', k47⟩ := step b6 w5 w6 w7 _ vo' vs k5 hm5 hn6 ho1 ho3 hown hr7 k7 hob
    have sb7 : BS w7 (fun b => b < w3.heap.size) rb (X.drop (254 * (k + 1))) := sb.mv k47 (fun b _ hb e => by have := (hown b e).1; simp only [fresh] at this; omega)
    repeat (first | (with_reducible first | apply T_seq | apply T_region | apply U_nil | apply T_skip | apply T_block | apply T_inBlock | apply Cnd_t | apply Cnd_f | apply Cnd_not | apply Cnd_some | apply Cnd_none | apply Gd_nt | apply Gd_nf | apply Gd_some | apply Gd_none | apply Gd_want) | refine U_ar rfl rfl rfl (wrap_k (by simp only [wrapOk]; omega)) rfl ?_ | refine U_cv E rfl rfl rfl (wrap_k (by simp only [wrapOk]; omega)) rfl ?_ | refine U_pure E rfl rfl ?_ | refine T_exit rfl ?_ | refine T_condV rfl ?_ | refine U_guard rfl rfl ?_ | ((with_reducible refine Gd_skipT ?_ ?_); exact rfl) | ((with_reducible refine Gd_skipF ?_ ?_); exact rfl))
    refine U_run rfl rfl rfl (ro_slB E rfl rfl rfl fb ?hL2 ?hH2) ?_
    case hL2 => exact ⟨_, rfl⟩
    case hH2 => exact rfl
    repeat (first | (with_reducible first | apply T_seq | apply T_region | apply U_nil | apply T_skip | apply T_block | apply T_inBlock | apply Cnd_t | apply Cnd_f | apply Cnd_not | apply Cnd_some | apply Cnd_none | apply Gd_nt | apply Gd_nf | apply Gd_some | apply Gd_none | apply Gd_want) | refine U_ar rfl rfl rfl (wrap_k (by simp only [wrapOk]; omega)) rfl ?_ | refine U_cv E rfl rfl rfl (wrap_k (by simp only [wrapOk]; omega)) rfl ?_ | refine U_pure E rfl rfl ?_ | refine T_exit rfl ?_ | refine T_condV rfl ?_ | refine U_guard rfl rfl ?_ | ((with_reducible refine Gd_skipT ?_ ?_); exact rfl) | ((with_reducible refine Gd_skipF ?_ ?_); exact rfl))
    refine T.less ?_ (ih (k + 1, vo', rb, w7) ⟨by dsimp only; omega, k7', ho7, sb7⟩ (by dsimp only; omega))
    exact ⟨rfl, rfl, trivial⟩
  · have hk1 : k + 1 = pgs p.length := by omega
    rw [← hk1]
    have hm := rmarked_c w4 _ 165 _ _ hr4 (by omega)
    unfold encB at hm
    have hpk : page X k = mrk 165 (X.drop (254 * k)) := by rw [page, List.take_of_length_le (by omega)]
    repeat (first | (with_reducible first | apply T_seq | apply T_region | apply U_nil | apply T_skip | apply T_block | apply T_inBlock | apply Cnd_t | apply Cnd_f | apply Cnd_not | apply Cnd_some | apply Cnd_none | apply Gd_nt | apply Gd_nf | apply Gd_some | apply Gd_none | apply Gd_want) | refine U_ar rfl rfl rfl (wrap_k (by simp only [wrapOk]; omega)) rfl ?_ | refine U_cv E rfl rfl rfl (wrap_k (by simp only [wrapOk]; omega)) rfl ?_ | refine U_pure E rfl rfl ?_ | refine T_exit rfl ?_ | refine T_condV rfl ?_ | refine U_guard rfl rfl ?_ | ((with_reducible refine Gd_skipT ?_ ?_); exact rfl) | ((with_reducible refine Gd_skipF ?_ ?_); exact rfl))
    refine U_call rfl rfl (Tryz.call61 _) (hm) ?_
    rintro rm w5 ⟨k5, hm5⟩
    rw [← hpk] at hm5
    obtain ⟨Am, cm, rfl⟩ := hm5.len
    repeat (first | (with_reducible first | apply T_seq | apply T_region | apply U_nil | apply T_skip | apply T_block | apply T_inBlock | apply Cnd_t | apply Cnd_f | apply Cnd_not | apply Cnd_some | apply Cnd_none | apply Gd_nt | apply Gd_nf | apply Gd_some | apply Gd_none | apply Gd_want) | refine U_ar rfl rfl rfl (wrap_k (by simp only [wrapOk]; omega)) rfl ?_ | refine U_cv E rfl rfl rfl (wrap_k (by simp only [wrapOk]; omega)) rfl ?_ | refine U_pure E rfl rfl ?_ | refine T_exit rfl ?_ | refine T_condV rfl ?_ | refine U_guard rfl rfl ?_ | ((with_reducible refine Gd_skipT ?_ ?_); exact rfl) | ((with_reducible refine Gd_skipF ?_ ?_); exact rfl))
    refine U_buildSlice (sz := 1) E rfl rfl rfl rfl rfl rfl rfl rfl (segs := [[.slice Am _ cm]]) rfl (by simp) rfl ?_
    intro b6 w6 hn6
    have hlit : Sl w6 (fun x => x = b6) (.slice (some ⟨b6, 0, none⟩) 1 1) 1 1 [.slice Am _ cm] := ⟨by decide, rfl, _, 1, rfl, Nat.le_refl _, .inr ⟨b6, 0, rfl, rfl, hn6.blk.lt, hn6.blk.whole⟩⟩
    have k46 := k5.tr hn6.kept (fun _ _ x => x)
    repeat (first | (with_reducible first | apply T_seq | apply T_region | apply U_nil | apply T_skip | apply T_block | apply T_inBlock | apply Cnd_t | apply Cnd_f | apply Cnd_not | apply Cnd_some | apply Cnd_none | apply Gd_nt | apply Gd_nf | apply Gd_some | apply Gd_none | apply Gd_want) | refine U_ar rfl rfl rfl (wrap_k (by simp only [wrapOk]; omega)) rfl ?_ | refine U_cv E rfl rfl rfl (wrap_k (by simp only [wrapOk]; omega)) rfl ?_ | refine U_pure E rfl rfl ?_ | refine T_exit rfl ?_ | refine T_condV rfl ?_ | refine U_guard rfl rfl ?_ | ((with_reducible refine Gd_skipT ?_ ?_); exact rfl) | ((with_reducible refine Gd_skipF ?_ ?_); exact rfl))
    refine U_append E (ho2.mv k46 (fun _ _ _ x => x)) hlit (by simp [Value.oneCell']) rfl rfl rfl rfl rfl (by omega) (by omega) rfl ?_
    intro vo' w7 hr7 k7 _ hob
    obtain ⟨ho7, k7', k47⟩ := step b6 w5 w6 w7 _ vo' vs k5 hm5 hn6 ho1 ho3 hown hr7 k7 hob
    repeat (first | (with_reducible first | apply T_seq | apply T_region | apply U_nil | apply T_skip | apply T_block | apply T_inBlock | apply Cnd_t | apply Cnd_f | apply Cnd_not | apply Cnd_some | apply Cnd_none | apply Gd_nt | apply Gd_nf | apply Gd_some | apply Gd_none | apply Gd_want) | refine U_ar rfl rfl rfl (wrap_k (by simp only [wrapOk]; omega)) rfl ?_ | refine U_cv E rfl rfl rfl (wrap_k (by simp only [wrapOk]; omega)) rfl ?_ | refine U_pure E rfl rfl ?_ | refine T_exit rfl ?_ | refine T_condV rfl ?_ | refine U_guard rfl rfl ?_ | ((with_reducible refine Gd_skipT ?_ ?_); exact rfl) | ((with_reducible refine Gd_skipF ?_ ?_); exact rfl))
    exact T_ret1 Tryz.func41 rfl rfl ⟨_, rfl, k13.tr k7' (fun _ _ x => x), ho7.mono (fun b _ e => by have := k13.size; simp only [fresh] at *; omega)⟩
end Go.Proofs.YtoefhdaenaiomaaGreatDoor
