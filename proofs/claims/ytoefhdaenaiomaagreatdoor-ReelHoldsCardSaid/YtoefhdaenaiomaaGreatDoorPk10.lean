/- The reel: Make, Turn. -/
import Derived.Test.YtoefhdaenaiomaaGreatDoorPk9
import Derived.Test.YtoefhdaenaiomaaGreatDoorPk4
import Derived.Test.YtoefhdaenaiomaaGreatDoorPk3
set_option linter.unusedVariables false
set_option linter.unusedSimpArgs false
namespace Go.Proofs.YtoefhdaenaiomaaGreatDoor
open Go
set_option maxRecDepth 20000

theorem wipeR_keeps : ∀ (n i : Nat) (s : Bool) (D : Dr), (wipeR n i s D).2.2.l.length = D.l.length ∧ (wipeR n i s D).2.2.wait.length ≤ D.wait.length + n
  | 0, _, _, D => ⟨rfl, Nat.le_refl _⟩
  | n + 1, i, s, D => by
    rw [wipeR]
    by_cases h1 : cleanD D i
    · rw [if_pos h1]
      have ih := wipeR_keeps n (i + 1) s D
      exact ⟨ih.1, by omega⟩
    · rw [if_neg h1]
      by_cases h2 : wrErr D i [] = 0
      · rw [if_pos h2]
        have ih := wipeR_keeps n (i + 1) true (wrDr D i [])
        have := wrDr_wait D i []
        rw [wrDr_l] at ih
        exact ⟨ih.1, by omega⟩
      · rw [if_neg h2]; exact ⟨rfl, by dsimp only; omega⟩

def mkF (D : Dr) (p : List UInt8) : Nat × Dr :=
  if D.l.length < 6 then (1, D) else
  if rfErr p.length (hsz D) ≠ 0 then (rfErr p.length (hsz D), D) else
  if (wipeR D.l.length 0 false D).2.1 ≠ 0 then (wipeR D.l.length 0 false D).2 else
  if flErr (wipeR D.l.length 0 false D).2.2 ≠ 0 then (flErr (wipeR D.l.length 0 false D).2.2, flDr (wipeR D.l.length 0 false D).2.2) else
  begF (flDr (wipeR D.l.length 0 false D).2.2) 1 p

theorem make_nil (w : World) (v : Value) : Calls Tryz.prog 7 [.pointer none, v].toArray w (Ret fun r w' => r = .tuple #[.pointer none, errV 3] ∧ w' = w) := by
  refine calls_T Tryz.func7 rfl rfl rfl ?_
  repeat (first | (with_reducible first | apply T_seq | apply T_region | apply U_nil | apply T_skip | apply T_block | apply T_inBlock | apply Cnd_t | apply Cnd_f | apply Cnd_not | apply Cnd_some | apply Cnd_none | apply Gd_nt | apply Gd_nf | apply Gd_some | apply Gd_none | apply Gd_want) | refine U_ar rfl rfl rfl (wrap_k (by simp only [wrapOk]; omega)) rfl ?_ | refine U_cv E rfl rfl rfl (wrap_k (by simp only [wrapOk]; omega)) rfl ?_ | refine U_pure E rfl rfl ?_ | refine T_exit rfl ?_ | refine T_condV rfl ?_ | refine U_guard rfl rfl ?_ | ((with_reducible refine Gd_skipT ?_ ?_); exact rfl) | ((with_reducible refine Gd_skipF ?_ ?_); exact rfl))
  exact T_ret2 Tryz.func7 rfl rfl rfl ⟨_, rfl, rfl, rfl⟩

set_option maxHeartbeats 8000000 in
theorem make_rc (w : World) (F : Nat → Prop) (hb : Nat) (D : Dr) (v : Value) (p : List UInt8) (h : Dm w F hb D) (hp : BS w (fun b => ¬ F b) v p) (hpl : p.length ≤ 1000000) (hwn : D.wait.length + 400000 < 1000000) :
    Calls Tryz.prog 7 [ptr hb, v].toArray w (Ret fun r w' => ∃ F', Own F w F' w' ∧ Dm w' F' hb (mkF D p).2 ∧
      (((mkF D p).1 ≠ 0 ∧ r = .tuple #[.pointer none, errV (mkF D p).1]) ∨ ((mkF D p).1 = 0 ∧ ∃ rb Fr, r = .tuple #[ptr rb, .nilIface] ∧ Rl w' F' Fr hb rb 1 [p] (pgs p.length) ∧ ∀ b, Fr b → w.heap.size ≤ b))) := by
  have hn1 := h.isD.1.n1
  have hn2 := h.isD.1.n2
  have hsz0 := dsize_c w F hb D h.isD
  refine calls_T Tryz.func7 rfl rfl rfl ?_
  unfold ptr at *
  repeat (first | (with_reducible first | apply T_seq | apply T_region | apply U_nil | apply T_skip | apply T_block | apply T_inBlock | apply Cnd_t | apply Cnd_f | apply Cnd_not | apply Cnd_some | apply Cnd_none | apply Gd_nt | apply Gd_nf | apply Gd_some | apply Gd_none | apply Gd_want) | refine U_ar rfl rfl rfl (wrap_k (by simp only [wrapOk]; omega)) rfl ?_ | refine U_cv E rfl rfl rfl (wrap_k (by simp only [wrapOk]; omega)) rfl ?_ | refine U_pure E rfl rfl ?_ | refine T_exit rfl ?_ | refine T_condV rfl ?_ | refine U_guard rfl rfl ?_ | ((with_reducible refine Gd_skipT ?_ ?_); exact rfl) | ((with_reducible refine Gd_skipF ?_ ?_); exact rfl))
  refine U_call rfl rfl (Tryz.call24 _) (hsz0) ?_
  rintro r w1 ⟨rfl, rfl⟩
  repeat (first | (with_reducible first | apply T_seq | apply T_region | apply U_nil | apply T_skip | apply T_block | apply T_inBlock | apply Cnd_t | apply Cnd_f | apply Cnd_not | apply Cnd_some | apply Cnd_none | apply Gd_nt | apply Gd_nf | apply Gd_some | apply Gd_none | apply Gd_want) | refine U_ar rfl rfl rfl (wrap_k (by simp only [wrapOk]; omega)) rfl ?_ | refine U_cv E rfl rfl rfl (wrap_k (by simp only [wrapOk]; omega)) rfl ?_ | refine U_pure E rfl rfl ?_ | refine T_exit rfl ?_ | refine T_condV rfl ?_ | refine U_guard rfl rfl ?_ | ((with_reducible refine Gd_skipT ?_ ?_); exact rfl) | ((with_reducible refine Gd_skipF ?_ ?_); exact rfl))
  refine Cnd_p (fun h6 => ?_) (fun h6 => ?_)
  · have he : mkF D p = (1, D) := by rw [mkF, if_pos (by omega)]
    rw [he]
    repeat (first | (with_reducible first | apply T_seq | apply T_region | apply U_nil | apply T_skip | apply T_block | apply T_inBlock | apply Cnd_t | apply Cnd_f | apply Cnd_not | apply Cnd_some | apply Cnd_none | apply Gd_nt | apply Gd_nf | apply Gd_some | apply Gd_none | apply Gd_want) | refine U_ar rfl rfl rfl (wrap_k (by simp only [wrapOk]; omega)) rfl ?_ | refine U_cv E rfl rfl rfl (wrap_k (by simp only [wrapOk]; omega)) rfl ?_ | refine U_pure E rfl rfl ?_ | refine T_exit rfl ?_ | refine T_condV rfl ?_ | refine U_guard rfl rfl ?_ | ((with_reducible refine Gd_skipT ?_ ?_); exact rfl) | ((with_reducible refine Gd_skipF ?_ ?_); exact rfl))
    exact T_ret2 Tryz.func7 rfl rfl rfl ⟨_, rfl, F, Own.refl h.lt, h, .inl ⟨Nat.one_ne_zero, rfl⟩⟩
  · have hs := size_rc w1 F hb D h.isD (by omega)
    have hz : hsz D ≤ 8192 := by unfold hsz; omega
    unfold ptr at *
    repeat (first | (with_reducible first | apply T_seq | apply T_region | apply U_nil | apply T_skip | apply T_block | apply T_inBlock | apply Cnd_t | apply Cnd_f | apply Cnd_not | apply Cnd_some | apply Cnd_none | apply Gd_nt | apply Gd_nf | apply Gd_some | apply Gd_none | apply Gd_want) | refine U_ar rfl rfl rfl (wrap_k (by simp only [wrapOk]; omega)) rfl ?_ | refine U_cv E rfl rfl rfl (wrap_k (by simp only [wrapOk]; omega)) rfl ?_ | refine U_pure E rfl rfl ?_ | refine T_exit rfl ?_ | refine T_condV rfl ?_ | refine U_guard rfl rfl ?_ | ((with_reducible refine Gd_skipT ?_ ?_); exact rfl) | ((with_reducible refine Gd_skipF ?_ ?_); exact rfl))
    refine U_call rfl rfl (Tryz.call26 _) (hs) ?_
    rintro r w2 ⟨rfl, rfl⟩
    refine U_call rfl rfl (Tryz.call25 _) (rfits_c w2 _ v p _ hp (by omega)) ?_
    rintro r w3 ⟨rfl, rfl⟩
    by_cases e1 : rfErr p.length (hsz D) = 0
    · obtain ⟨hp5, hpg⟩ := rfErr_ok e1
      have hw := wipe_rc w3 F hb D 0 D.l.length h (by omega) (by omega)
      have hwk := wipeR_keeps D.l.length 0 false D
      rw [e1, errV0]
      unfold ptr at *
      repeat (first | (with_reducible first | apply T_seq | apply T_region | apply U_nil | apply T_skip | apply T_block | apply T_inBlock | apply Cnd_t | apply Cnd_f | apply Cnd_not | apply Cnd_some | apply Cnd_none | apply Gd_nt | apply Gd_nf | apply Gd_some | apply Gd_none | apply Gd_want) | refine U_ar rfl rfl rfl (wrap_k (by simp only [wrapOk]; omega)) rfl ?_ | refine U_cv E rfl rfl rfl (wrap_k (by simp only [wrapOk]; omega)) rfl ?_ | refine U_pure E rfl rfl ?_ | refine T_exit rfl ?_ | refine T_condV rfl ?_ | refine U_guard rfl rfl ?_ | ((with_reducible refine Gd_skipT ?_ ?_); exact rfl) | ((with_reducible refine Gd_skipF ?_ ?_); exact rfl))
      refine U_call rfl rfl (Tryz.call24 _) (hsz0) ?_
      rintro r w4 ⟨rfl, rfl⟩
      refine U_call rfl rfl (Tryz.call27 _) (hw) ?_
      rintro r w5 ⟨rfl, F5, o5, h5⟩
      have hp5' := o5.sl hp
      by_cases e2 : (wipeR D.l.length 0 false D).2.1 = 0
      · rw [e2, errV0]
        have hf := dw_flush w5 F5 hb _ h5
        unfold ptr at *
        repeat (first | (with_reducible first | apply T_seq | apply T_region | apply U_nil | apply T_skip | apply T_block | apply T_inBlock | apply Cnd_t | apply Cnd_f | apply Cnd_not | apply Cnd_some | apply Cnd_none | apply Gd_nt | apply Gd_nf | apply Gd_some | apply Gd_none | apply Gd_want) | refine U_ar rfl rfl rfl (wrap_k (by simp only [wrapOk]; omega)) rfl ?_ | refine U_cv E rfl rfl rfl (wrap_k (by simp only [wrapOk]; omega)) rfl ?_ | refine U_pure E rfl rfl ?_ | refine T_exit rfl ?_ | refine T_condV rfl ?_ | refine U_guard rfl rfl ?_ | ((with_reducible refine Gd_skipT ?_ ?_); exact rfl) | ((with_reducible refine Gd_skipF ?_ ?_); exact rfl))
        refine U_call rfl rfl (Tryz.call28 _) (hf) ?_
        rintro r w6 ⟨rfl, F6, o6, h6'⟩
        have hp6 := o6.sl hp5'
        by_cases e3 : flErr (wipeR D.l.length 0 false D).2.2 = 0
        · have hfw := flDr_wait (wipeR D.l.length 0 false D).2.2
          have hfl := flDr_len (wipeR D.l.length 0 false D).2.2
          have hbg := begin_rc w6 F6 hb _ 1 v p h6' (by omega) (by decide) hp6 hp5 (by omega)
          rw [e3, errV0]
          unfold ptr at *
          repeat (first | (with_reducible first | apply T_seq | apply T_region | apply U_nil | apply T_skip | apply T_block | apply T_inBlock | apply Cnd_t | apply Cnd_f | apply Cnd_not | apply Cnd_some | apply Cnd_none | apply Gd_nt | apply Gd_nf | apply Gd_some | apply Gd_none | apply Gd_want) | refine U_ar rfl rfl rfl (wrap_k (by simp only [wrapOk]; omega)) rfl ?_ | refine U_cv E rfl rfl rfl (wrap_k (by simp only [wrapOk]; omega)) rfl ?_ | refine U_pure E rfl rfl ?_ | refine T_exit rfl ?_ | refine T_condV rfl ?_ | refine U_guard rfl rfl ?_ | ((with_reducible refine Gd_skipT ?_ ?_); exact rfl) | ((with_reducible refine Gd_skipF ?_ ?_); exact rfl))
          refine U_call rfl rfl (Tryz.call29 _) (hbg) ?_
          rintro r w7 ⟨rfl, F7, o7, h7⟩
          have he : mkF D p = begF (flDr (wipeR D.l.length 0 false D).2.2) 1 p := by rw [mkF, if_neg (by omega), if_neg (fun e => e e1), if_neg (fun e => e e2), if_neg (fun e => e e3)]
          rw [he]
          have hp7 := o7.sl hp6
          have o7' := (o5.tr o6).tr o7
          obtain ⟨B, hB⟩ : ∃ B, begF (flDr (wipeR D.l.length 0 false D).2.2) 1 p = B := ⟨_, rfl⟩
          rw [hB] at h7 ⊢
          by_cases e4 : B.1 = 0
          · rw [e4, errV0]
            repeat (first | (with_reducible first | apply T_seq | apply T_region | apply U_nil | apply T_skip | apply T_block | apply T_inBlock | apply Cnd_t | apply Cnd_f | apply Cnd_not | apply Cnd_some | apply Cnd_none | apply Gd_nt | apply Gd_nf | apply Gd_some | apply Gd_none | apply Gd_want) | refine U_ar rfl rfl rfl (wrap_k (by simp only [wrapOk]; omega)) rfl ?_ | refine U_cv E rfl rfl rfl (wrap_k (by simp only [wrapOk]; omega)) rfl ?_ | refine U_pure E rfl rfl ?_ | refine T_exit rfl ?_ | refine T_condV rfl ?_ | refine U_guard rfl rfl ?_ | ((with_reducible refine Gd_skipT ?_ ?_); exact rfl) | ((with_reducible refine Gd_skipF ?_ ?_); exact rfl))
            refine U_call rfl rfl (Tryz.call30 _) (bclone_c w7 _ v p hp7 (by omega)) ?_
            rintro rc w8 ⟨k8, hc8⟩
            obtain ⟨Ac, cc, rfl⟩ := hc8.len
            obtain ⟨AP, cP, rfl⟩ := hp7.len
            repeat (first | (with_reducible first | apply T_seq | apply T_region | apply U_nil | apply T_skip | apply T_block | apply T_inBlock | apply Cnd_t | apply Cnd_f | apply Cnd_not | apply Cnd_some | apply Cnd_none | apply Gd_nt | apply Gd_nf | apply Gd_some | apply Gd_none | apply Gd_want) | refine U_ar rfl rfl rfl (wrap_k (by simp only [wrapOk]; omega)) rfl ?_ | refine U_cv E rfl rfl rfl (wrap_k (by simp only [wrapOk]; omega)) rfl ?_ | refine U_pure E rfl rfl ?_ | refine T_exit rfl ?_ | refine T_condV rfl ?_ | refine U_guard rfl rfl ?_ | ((with_reducible refine Gd_skipT ?_ ?_); exact rfl) | ((with_reducible refine Gd_skipF ?_ ?_); exact rfl))
            refine U_buildSlice (sz := 1) E rfl rfl rfl rfl rfl rfl rfl rfl (segs := [[.slice Ac p.length cc]]) rfl (by simp) rfl ?_
            intro b9 w9 hn9
            repeat (first | (with_reducible first | apply T_seq | apply T_region | apply U_nil | apply T_skip | apply T_block | apply T_inBlock | apply Cnd_t | apply Cnd_f | apply Cnd_not | apply Cnd_some | apply Cnd_none | apply Gd_nt | apply Gd_nf | apply Gd_some | apply Gd_none | apply Gd_want) | refine U_ar rfl rfl rfl (wrap_k (by simp only [wrapOk]; omega)) rfl ?_ | refine U_cv E rfl rfl rfl (wrap_k (by simp only [wrapOk]; omega)) rfl ?_ | refine U_pure E rfl rfl ?_ | refine T_exit rfl ?_ | refine T_condV rfl ?_ | refine U_guard rfl rfl ?_ | ((with_reducible refine Gd_skipT ?_ ?_); exact rfl) | ((with_reducible refine Gd_skipF ?_ ?_); exact rfl))
            refine U_call rfl rfl (Tryz.call31 _) (pages_c w9 p.length (by omega)) ?_
            rintro r w10 ⟨rfl, rfl⟩
            repeat (first | (with_reducible first | apply T_seq | apply T_region | apply U_nil | apply T_skip | apply T_block | apply T_inBlock | apply Cnd_t | apply Cnd_f | apply Cnd_not | apply Cnd_some | apply Cnd_none | apply Gd_nt | apply Gd_nf | apply Gd_some | apply Gd_none | apply Gd_want) | refine U_ar rfl rfl rfl (wrap_k (by simp only [wrapOk]; omega)) rfl ?_ | refine U_cv E rfl rfl rfl (wrap_k (by simp only [wrapOk]; omega)) rfl ?_ | refine U_pure E rfl rfl ?_ | refine T_exit rfl ?_ | refine T_condV rfl ?_ | refine U_guard rfl rfl ?_ | ((with_reducible refine Gd_skipT ?_ ?_); exact rfl) | ((with_reducible refine Gd_skipF ?_ ?_); exact rfl))
            refine U_build (cells := [.pointer (some ⟨hb, 0, none⟩), .int .u32 1, .slice (some ⟨b9, 0, none⟩) 1 1, .int .i64 (pgs p.length : Nat)]) rfl (by kernel_rfl) rfl ?_
            refine U_box E rfl rfl rfl ?_
            intro b11 w11 hn11
            repeat (first | (with_reducible first | apply T_seq | apply T_region | apply U_nil | apply T_skip | apply T_block | apply T_inBlock | apply Cnd_t | apply Cnd_f | apply Cnd_not | apply Cnd_some | apply Cnd_none | apply Gd_nt | apply Gd_nf | apply Gd_some | apply Gd_none | apply Gd_want) | refine U_ar rfl rfl rfl (wrap_k (by simp only [wrapOk]; omega)) rfl ?_ | refine U_cv E rfl rfl rfl (wrap_k (by simp only [wrapOk]; omega)) rfl ?_ | refine U_pure E rfl rfl ?_ | refine T_exit rfl ?_ | refine T_condV rfl ?_ | refine U_guard rfl rfl ?_ | ((with_reducible refine Gd_skipT ?_ ?_); exact rfl) | ((with_reducible refine Gd_skipF ?_ ?_); exact rfl))
            have e9 := hn9.at_
            have e11 := hn11.at_
            have s9 := hn9.size
            have s11 := hn11.size
            have s8 := k8.size
            have s7 := o7'.size
            have hF7 := h7.lt
            have k711 : Kept none0 w7 w11 := (k8.tr hn9.kept (fun _ _ x => x)).tr hn11.kept (fun _ _ x => x)
            refine T_ret2 Tryz.func7 rfl rfl rfl ⟨_, rfl, F7, o7'.then0 k711, h7.same k711, .inr ⟨rfl, b11, fun b => w7.heap.size ≤ b ∧ b < w11.heap.size, rfl, ?_, ?_⟩⟩
            · refine ⟨fun b e => ⟨by omega, fun e2 => by have := hF7 b e2; omega⟩, by decide, by omega, (show 1 ≤ 10000 by decide), ?_, .slice (some ⟨b9, 0, none⟩) 1 1, [.slice Ac p.length cc], ⟨by omega, by omega⟩, hn11.blk, rfl, ?_, ?_⟩
              · intro q hq
                rw [List.mem_singleton.1 hq]
                exact hp5
              · refine ⟨rfl, .inr ⟨b9, 1, [], rfl, ⟨by omega, by omega⟩, ?_, rfl, Nat.le_refl _⟩⟩
                exact hn9.blk.mv hn11.kept (fun x => x)
              · intro j u q hu hq
                match j with
                | 0 =>
                  injection hu with hu
                  injection hq with hq
                  subst hu
                  subst hq
                  have h8 : BS w8 (fun b => fresh w7 b ∧ b < w8.heap.size) (.slice Ac p.length cc) p := hc8.mono (fun b hb hx => ⟨hx, hb⟩)
                  refine ((h8.mv hn9.kept (fun _ _ _ x => x)).mv hn11.kept (fun _ _ _ x => x)).mono (fun b _ hx => ?_)
                  have hx1 := hx.1
                  have hx2 := hx.2
                  simp only [fresh] at hx1
                  refine ⟨⟨hx1, by omega⟩, by omega, fun e => ?_⟩
                  have : b9 = b := by simpa [Value.ownBlock] using e
                  omega
                | j + 1 => simp at hu
            · intro b e
              omega
          · obtain ⟨j, hj, hje⟩ := errV_ne e4
            rw [hje]
            repeat (first | (with_reducible first | apply T_seq | apply T_region | apply U_nil | apply T_skip | apply T_block | apply T_inBlock | apply Cnd_t | apply Cnd_f | apply Cnd_not | apply Cnd_some | apply Cnd_none | apply Gd_nt | apply Gd_nf | apply Gd_some | apply Gd_none | apply Gd_want) | refine U_ar rfl rfl rfl (wrap_k (by simp only [wrapOk]; omega)) rfl ?_ | refine U_cv E rfl rfl rfl (wrap_k (by simp only [wrapOk]; omega)) rfl ?_ | refine U_pure E rfl rfl ?_ | refine T_exit rfl ?_ | refine T_condV rfl ?_ | refine U_guard rfl rfl ?_ | ((with_reducible refine Gd_skipT ?_ ?_); exact rfl) | ((with_reducible refine Gd_skipF ?_ ?_); exact rfl))
            exact T_ret2 Tryz.func7 rfl rfl rfl ⟨_, rfl, F7, o7', h7, .inl ⟨e4, rfl⟩⟩
        · have he : mkF D p = (flErr (wipeR D.l.length 0 false D).2.2, flDr (wipeR D.l.length 0 false D).2.2) := by rw [mkF, if_neg (by omega), if_neg (fun e => e e1), if_neg (fun e => e e2), if_pos e3]
          rw [he]
          obtain ⟨j, hj, hje⟩ := errV_ne e3
          rw [hje]
          repeat (first | (with_reducible first | apply T_seq | apply T_region | apply U_nil | apply T_skip | apply T_block | apply T_inBlock | apply Cnd_t | apply Cnd_f | apply Cnd_not | apply Cnd_some | apply Cnd_none | apply Gd_nt | apply Gd_nf | apply Gd_some | apply Gd_none | apply Gd_want) | refine U_ar rfl rfl rfl (wrap_k (by simp only [wrapOk]; omega)) rfl ?_ | refine U_cv E rfl rfl rfl (wrap_k (by simp only [wrapOk]; omega)) rfl ?_ | refine U_pure E rfl rfl ?_ | refine T_exit rfl ?_ | refine T_condV rfl ?_ | refine U_guard rfl rfl ?_ | ((with_reducible refine Gd_skipT ?_ ?_); exact rfl) | ((with_reducible refine Gd_skipF ?_ ?_); exact rfl))
          exact T_ret2 Tryz.func7 rfl rfl rfl ⟨_, rfl, F6, o5.tr o6, h6', .inl ⟨e3, rfl⟩⟩
      · have he : mkF D p = (wipeR D.l.length 0 false D).2 := by rw [mkF, if_neg (by omega), if_neg (fun e => e e1), if_pos e2]
        rw [he]
        obtain ⟨j, hj, hje⟩ := errV_ne e2
        rw [hje]
        repeat (first | (with_reducible first | apply T_seq | apply T_region | apply U_nil | apply T_skip | apply T_block | apply T_inBlock | apply Cnd_t | apply Cnd_f | apply Cnd_not | apply Cnd_some | apply Cnd_none | apply Gd_nt | apply Gd_nf | apply Gd_some | apply Gd_none | apply Gd_want) | refine U_ar rfl rfl rfl (wrap_k (by simp only [wrapOk]; omega)) rfl ?_ | refine U_cv E rfl rfl rfl (wrap_k (by simp only [wrapOk]; omega)) rfl ?_ | refine U_pure E rfl rfl ?_ | refine T_exit rfl ?_ | refine T_condV rfl ?_ | refine U_guard rfl rfl ?_ | ((with_reducible refine Gd_skipT ?_ ?_); exact rfl) | ((with_reducible refine Gd_skipF ?_ ?_); exact rfl))
        exact T_ret2 Tryz.func7 rfl rfl rfl ⟨_, rfl, F5, o5, h5, .inl ⟨e2, rfl⟩⟩
    · have he : mkF D p = (rfErr p.length (hsz D), D) := by rw [mkF, if_neg (by omega), if_pos e1]
      rw [he]
      obtain ⟨j, hj, hje⟩ := errV_ne e1
      rw [hje]
      repeat (first | (with_reducible first | apply T_seq | apply T_region | apply U_nil | apply T_skip | apply T_block | apply T_inBlock | apply Cnd_t | apply Cnd_f | apply Cnd_not | apply Cnd_some | apply Cnd_none | apply Gd_nt | apply Gd_nf | apply Gd_some | apply Gd_none | apply Gd_want) | refine U_ar rfl rfl rfl (wrap_k (by simp only [wrapOk]; omega)) rfl ?_ | refine U_cv E rfl rfl rfl (wrap_k (by simp only [wrapOk]; omega)) rfl ?_ | refine U_pure E rfl rfl ?_ | refine T_exit rfl ?_ | refine T_condV rfl ?_ | refine U_guard rfl rfl ?_ | ((with_reducible refine Gd_skipT ?_ ?_); exact rfl) | ((with_reducible refine Gd_skipF ?_ ?_); exact rfl))
      exact T_ret2 Tryz.func7 rfl rfl rfl ⟨_, rfl, F, Own.refl h.lt, h, .inl ⟨e1, rfl⟩⟩

def trF (D : Dr) (g : Nat) (p : List UInt8) : Nat × Dr :=
  if rfErr p.length (hsz D) ≠ 0 then (rfErr p.length (hsz D), D) else
  if 2147483648 ≤ g then (12, D) else
  if (wipeR (hsz D) (base D (g + 1)) false D).2.1 ≠ 0 then (wipeR (hsz D) (base D (g + 1)) false D).2 else
  begF (wipeR (hsz D) (base D (g + 1)) false D).2.2 (g + 1) p

set_option maxHeartbeats 8000000 in
theorem rturn_c {w : World} {F Fr : Nat → Prop} {hb rb g at_ : Nat} {l : List (List UInt8)} {D : Dr} (v : Value) (p : List UInt8) (h : Rl w F Fr hb rb g l at_) (hD : Dm w F hb D) (hl : 2 ≤ D.l.length) (hp : BS w (fun b => ¬ uni F Fr b) v p) (hpl : p.length ≤ 1000000) (hwn : D.wait.length + 400000 < 1000000) :
    Calls Tryz.prog 10 [ptr rb, v].toArray w (Ret fun r w' => r = errV (trF D g p).1 ∧ ∃ F' Fr', Own (uni F Fr) w (uni F' Fr') w' ∧ Dm w' F' hb (trF D g p).2 ∧
      Rl w' F' Fr' hb rb (if (trF D g p).1 = 0 then g + 1 else g) (if (trF D g p).1 = 0 then [p] else l) (if (trF D g p).1 = 0 then pgs p.length else at_)) := by
  have hn2 := hD.isD.1.n2
  have hg := h.gen
  have hz : hsz D ≤ 8192 := by unfold hsz; omega
  have hs := size_rc w F hb D hD.isD hl
  obtain ⟨vl, vs, g1, g2, g3, g4, g5⟩ := h.body
  obtain ⟨A, c, rfl⟩ := g4.val
  unfold ptr at g2
  refine calls_T Tryz.func10 rfl rfl rfl ?_
  unfold ptr at *
  repeat (first | (with_reducible first | apply T_seq | apply T_region | apply U_nil | apply T_skip | apply T_block | apply T_inBlock | apply Cnd_t | apply Cnd_f | apply Cnd_not | apply Cnd_some | apply Cnd_none | apply Gd_nt | apply Gd_nf | apply Gd_some | apply Gd_none | apply Gd_want) | refine U_ar rfl rfl rfl (wrap_k (by simp only [wrapOk]; omega)) rfl ?_ | refine U_cv E rfl rfl rfl (wrap_k (by simp only [wrapOk]; omega)) rfl ?_ | refine U_pure E rfl rfl ?_ | refine T_exit rfl ?_ | refine T_condV rfl ?_ | refine U_guard rfl rfl ?_ | ((with_reducible refine Gd_skipT ?_ ?_); exact rfl) | ((with_reducible refine Gd_skipF ?_ ?_); exact rfl))
  refine U_loadB E g2 rfl rfl rfl (by rfl) rfl ?_
  refine U_call rfl rfl (Tryz.call26 _) (hs) ?_
  rintro r w1 ⟨rfl, rfl⟩
  refine U_call rfl rfl (Tryz.call25 _) (rfits_c w1 _ v p _ hp (by omega)) ?_
  rintro r w2 ⟨rfl, rfl⟩
  by_cases e1 : rfErr p.length (hsz D) = 0
  · obtain ⟨hp5, hpg⟩ := rfErr_ok e1
    rw [e1, errV0]
    repeat (first | (with_reducible first | apply T_seq | apply T_region | apply U_nil | apply T_skip | apply T_block | apply T_inBlock | apply Cnd_t | apply Cnd_f | apply Cnd_not | apply Cnd_some | apply Cnd_none | apply Gd_nt | apply Gd_nf | apply Gd_some | apply Gd_none | apply Gd_want) | refine U_ar rfl rfl rfl (wrap_k (by simp only [wrapOk]; omega)) rfl ?_ | refine U_cv E rfl rfl rfl (wrap_k (by simp only [wrapOk]; omega)) rfl ?_ | refine U_pure E rfl rfl ?_ | refine T_exit rfl ?_ | refine T_condV rfl ?_ | refine U_guard rfl rfl ?_ | ((with_reducible refine Gd_skipT ?_ ?_); exact rfl) | ((with_reducible refine Gd_skipF ?_ ?_); exact rfl))
    refine U_loadB E g2 rfl rfl rfl (by rfl) rfl ?_
    repeat (first | (with_reducible first | apply T_seq | apply T_region | apply U_nil | apply T_skip | apply T_block | apply T_inBlock | apply Cnd_t | apply Cnd_f | apply Cnd_not | apply Cnd_some | apply Cnd_none | apply Gd_nt | apply Gd_nf | apply Gd_some | apply Gd_none | apply Gd_want) | refine U_ar rfl rfl rfl (wrap_k (by simp only [wrapOk]; omega)) rfl ?_ | refine U_cv E rfl rfl rfl (wrap_k (by simp only [wrapOk]; omega)) rfl ?_ | refine U_pure E rfl rfl ?_ | refine T_exit rfl ?_ | refine T_condV rfl ?_ | refine U_guard rfl rfl ?_ | ((with_reducible refine Gd_skipT ?_ ?_); exact rfl) | ((with_reducible refine Gd_skipF ?_ ?_); exact rfl))
    refine Cnd_p (fun hover => ?_) (fun hover => ?_)
    · have he : trF D g p = (12, D) := by rw [trF, if_neg (fun e => e e1), if_pos (by omega)]
      rw [he]
      repeat (first | (with_reducible first | apply T_seq | apply T_region | apply U_nil | apply T_skip | apply T_block | apply T_inBlock | apply Cnd_t | apply Cnd_f | apply Cnd_not | apply Cnd_some | apply Cnd_none | apply Gd_nt | apply Gd_nf | apply Gd_some | apply Gd_none | apply Gd_want) | refine U_ar rfl rfl rfl (wrap_k (by simp only [wrapOk]; omega)) rfl ?_ | refine U_cv E rfl rfl rfl (wrap_k (by simp only [wrapOk]; omega)) rfl ?_ | refine U_pure E rfl rfl ?_ | refine T_exit rfl ?_ | refine T_condV rfl ?_ | refine U_guard rfl rfl ?_ | ((with_reducible refine Gd_skipT ?_ ?_); exact rfl) | ((with_reducible refine Gd_skipF ?_ ?_); exact rfl))
      exact T_ret1 Tryz.func10 rfl rfl ⟨_, rfl, rfl, F, Fr, Own.refl (h.lt2 hD.lt), hD, h⟩
    · have hbs : base D (g + 1) ≤ 20000 := by
        unfold base
        have : (g + 1) % 2 * hsz D ≤ 1 * 8192 := Nat.mul_le_mul (by omega) hz
        omega
      repeat (first | (with_reducible first | apply T_seq | apply T_region | apply U_nil | apply T_skip | apply T_block | apply T_inBlock | apply Cnd_t | apply Cnd_f | apply Cnd_not | apply Cnd_some | apply Cnd_none | apply Gd_nt | apply Gd_nf | apply Gd_some | apply Gd_none | apply Gd_want) | refine U_ar rfl rfl rfl (wrap_k (by simp only [wrapOk]; omega)) rfl ?_ | refine U_cv E rfl rfl rfl (wrap_k (by simp only [wrapOk]; omega)) rfl ?_ | refine U_pure E rfl rfl ?_ | refine T_exit rfl ?_ | refine T_condV rfl ?_ | refine U_guard rfl rfl ?_ | ((with_reducible refine Gd_skipT ?_ ?_); exact rfl) | ((with_reducible refine Gd_skipF ?_ ?_); exact rfl))
      refine U_loadB E g2 rfl rfl rfl (by rfl) rfl ?_
      repeat (first | (with_reducible first | apply T_seq | apply T_region | apply U_nil | apply T_skip | apply T_block | apply T_inBlock | apply Cnd_t | apply Cnd_f | apply Cnd_not | apply Cnd_some | apply Cnd_none | apply Gd_nt | apply Gd_nf | apply Gd_some | apply Gd_none | apply Gd_want) | refine U_ar rfl rfl rfl (wrap_k (by simp only [wrapOk]; omega)) rfl ?_ | refine U_cv E rfl rfl rfl (wrap_k (by simp only [wrapOk]; omega)) rfl ?_ | refine U_pure E rfl rfl ?_ | refine T_exit rfl ?_ | refine T_condV rfl ?_ | refine U_guard rfl rfl ?_ | ((with_reducible refine Gd_skipT ?_ ?_); exact rfl) | ((with_reducible refine Gd_skipF ?_ ?_); exact rfl))
      refine L_begin (fun W => Blk W rb [.pointer (some ⟨hb, 0, none⟩), .int .u32 g, .slice A vs.length c, .int .i64 at_] 66) 21 (by kernel_rfl) (N := 21) rfl (fun w3 hd3 => ?_)
      have hB3 := g2.mv (hd3.kept none0) (fun x => x)
      have hD3 := hD.same (hd3.kept none0)
      have h3 := h.same hD.lt (hd3.kept none0)
      have hp3 := hp.mv (hd3.kept none0) (fun _ _ _ x => x)
      have hfr := from_rc w3 F hb D (g + 1) hD3.isD hl (by omega)
      have hs3 := size_rc w3 F hb D hD3.isD hl
      have hw := wipe_rc w3 F hb D (base D (g + 1)) (hsz D) hD3 (by omega) (by omega)
      have hwk := wipeR_keeps (hsz D) (base D (g + 1)) false D
      unfold ptr at *
      refine L_take 0 rfl (by kernel_rfl) (by kernel_rfl) (by kernel_rfl) (by kernel_rfl) hB3 rfl rfl rfl (fun a ha w' _ => run_pv E ha rfl _ _ _ _ _) ?_; refine L_take 1 rfl (by kernel_rfl) (by kernel_rfl) (by kernel_rfl) (by kernel_rfl) hB3 rfl rfl rfl (fun a ha w' _ => run_pv E ha rfl _ _ _ _ _) ?_; refine L_take 2 rfl (by kernel_rfl) (by kernel_rfl) (by kernel_rfl) (by kernel_rfl) hB3 rfl rfl rfl (fun a ha w' _ => run_pv E ha rfl _ _ _ _ _) ?_
      refine L_take 3 rfl (by kernel_rfl) (by kernel_rfl) (by kernel_rfl) (by kernel_rfl) hB3 rfl rfl rfl (fun a ha w' hS => ro_loadB E hS rfl rfl rfl rfl a ha) ?_
      refine L_take 4 rfl (by kernel_rfl) (by kernel_rfl) (by kernel_rfl) (by kernel_rfl) hB3 rfl rfl rfl (fun a ha w' _ => run_pv E ha rfl _ _ _ _ _) ?_; refine L_take 5 rfl (by kernel_rfl) (by kernel_rfl) (by kernel_rfl) (by kernel_rfl) hB3 rfl rfl rfl (fun a ha w' _ => run_pv E ha rfl _ _ _ _ _) ?_; refine L_take 6 rfl (by kernel_rfl) (by kernel_rfl) (by kernel_rfl) (by kernel_rfl) hB3 rfl rfl rfl (fun a ha w' _ => run_pv E ha rfl _ _ _ _ _) ?_
      refine L_take 7 rfl (by kernel_rfl) (by kernel_rfl) (by kernel_rfl) (by kernel_rfl) hB3 rfl rfl rfl (fun a ha w' hS => ro_loadB E hS rfl rfl rfl rfl a ha) ?_
      refine L_take 8 rfl (by kernel_rfl) (by kernel_rfl) (by kernel_rfl) (by kernel_rfl) hB3 rfl rfl rfl (fun a ha w' _ => run_pv E ha rfl _ _ _ _ _) ?_; refine L_take 10 rfl (by kernel_rfl) (by kernel_rfl) (by kernel_rfl) (by kernel_rfl) hB3 rfl rfl rfl (fun a ha w' _ => run_pv E ha rfl _ _ _ _ _) ?_; refine L_take 11 rfl (by kernel_rfl) (by kernel_rfl) (by kernel_rfl) (by kernel_rfl) hB3 rfl rfl rfl (fun a ha w' _ => run_pv E ha rfl _ _ _ _ _) ?_; refine L_take 12 rfl (by kernel_rfl) (by kernel_rfl) (by kernel_rfl) (by kernel_rfl) hB3 rfl rfl rfl (fun a ha w' _ => run_pv E ha rfl _ _ _ _ _) ?_
      refine L_take 13 rfl (by kernel_rfl) (by kernel_rfl) (by kernel_rfl) (by kernel_rfl) hB3 rfl rfl rfl (fun a ha w' hS => ro_loadB E hS rfl rfl rfl rfl a ha) ?_
      rw [show (g : Int) + 1 = ((g + 1 : Nat) : Int) by omega]
      refine L_op 9 (by kernel_rfl) rfl (fun hc => ?_)
      refine U_call rfl rfl (Tryz.call33 _) (hfr) ?_
      rintro r w4 ⟨rfl, rfl⟩
      refine U_nilL hc (fun _ => hB3) ?_
      refine L_op 14 (by kernel_rfl) rfl (fun hc => ?_)
      refine U_call rfl rfl (Tryz.call26 _) (hs3) ?_
      rintro r w5 ⟨rfl, rfl⟩
      refine U_nilL hc (fun _ => hB3) ?_
      refine L_op 15 (by kernel_rfl) rfl (fun hc => ?_)
      refine U_call rfl rfl (Tryz.call27 _) (hw) ?_
      rintro r w6 ⟨rfl, F6, o6, h6⟩
      have hB6 := o6.blk hB3 (h.lt rb g1).2
      have hr6 := h3.drum o6
      have hp6 := (o6.both h3.lt).sl hp3
      have o6' : Own (uni F Fr) w2 (uni F6 Fr) w6 := (Own.same (h.lt2 hD.lt) (hd3.kept none0)).tr (o6.both h3.lt)
      refine U_nilL hc (fun _ => hB6) ?_
      refine L_take 16 rfl (by kernel_rfl) (by kernel_rfl) (by kernel_rfl) (by kernel_rfl) hB6 rfl rfl rfl (fun a ha w' _ => run_pv E ha rfl _ _ _ _ _) ?_; refine L_take 17 rfl (by kernel_rfl) (by kernel_rfl) (by kernel_rfl) (by kernel_rfl) hB6 rfl rfl rfl (fun a ha w' _ => run_pv E ha rfl _ _ _ _ _) ?_; refine L_take 18 rfl (by kernel_rfl) (by kernel_rfl) (by kernel_rfl) (by kernel_rfl) hB6 rfl rfl rfl (fun a ha w' _ => run_pv E ha rfl _ _ _ _ _) ?_; refine L_take 19 rfl (by kernel_rfl) (by kernel_rfl) (by kernel_rfl) (by kernel_rfl) hB6 rfl rfl rfl (fun a ha w' _ => run_pv E ha rfl _ _ _ _ _) ?_; refine L_take 20 rfl (by kernel_rfl) (by kernel_rfl) (by kernel_rfl) (by kernel_rfl) hB6 rfl rfl rfl (fun a ha w' _ => run_pv E ha rfl _ _ _ _ _) ?_
      refine L_done (by kernel_rfl) ?_
      by_cases e2 : (wipeR (hsz D) (base D (g + 1)) false D).2.1 = 0
      · rw [e2, errV0]
        have hbg := begin_rc w6 F6 hb _ (g + 1) v p h6 (by omega) (by omega) hp6.ofUni hp5 (by omega)
        unfold ptr at *
        repeat (first | (with_reducible first | apply T_seq | apply T_region | apply U_nil | apply T_skip | apply T_block | apply T_inBlock | apply Cnd_t | apply Cnd_f | apply Cnd_not | apply Cnd_some | apply Cnd_none | apply Gd_nt | apply Gd_nf | apply Gd_some | apply Gd_none | apply Gd_want) | refine U_ar rfl rfl rfl (wrap_k (by simp only [wrapOk]; omega)) rfl ?_ | refine U_cv E rfl rfl rfl (wrap_k (by simp only [wrapOk]; omega)) rfl ?_ | refine U_pure E rfl rfl ?_ | refine T_exit rfl ?_ | refine T_condV rfl ?_ | refine U_guard rfl rfl ?_ | ((with_reducible refine Gd_skipT ?_ ?_); exact rfl) | ((with_reducible refine Gd_skipF ?_ ?_); exact rfl))
        refine U_loadB E hB6 rfl rfl rfl (by rfl) rfl ?_
        repeat (first | (with_reducible first | apply T_seq | apply T_region | apply U_nil | apply T_skip | apply T_block | apply T_inBlock | apply Cnd_t | apply Cnd_f | apply Cnd_not | apply Cnd_some | apply Cnd_none | apply Gd_nt | apply Gd_nf | apply Gd_some | apply Gd_none | apply Gd_want) | refine U_ar rfl rfl rfl (wrap_k (by simp only [wrapOk]; omega)) rfl ?_ | refine U_cv E rfl rfl rfl (wrap_k (by simp only [wrapOk]; omega)) rfl ?_ | refine U_pure E rfl rfl ?_ | refine T_exit rfl ?_ | refine T_condV rfl ?_ | refine U_guard rfl rfl ?_ | ((with_reducible refine Gd_skipT ?_ ?_); exact rfl) | ((with_reducible refine Gd_skipF ?_ ?_); exact rfl))
        refine U_call rfl rfl (Tryz.call29 _) (hbg) ?_
        rintro r w7 ⟨rfl, F7, o7, h7⟩
        have he : trF D g p = begF (wipeR (hsz D) (base D (g + 1)) false D).2.2 (g + 1) p := by rw [trF, if_neg (fun e => e e1), if_neg (by omega), if_neg (fun e => e e2)]
        rw [he]
        obtain ⟨B, hB⟩ : ∃ B, begF (wipeR (hsz D) (base D (g + 1)) false D).2.2 (g + 1) p = B := ⟨_, rfl⟩
        rw [hB] at h7 ⊢
        have hB7 := o7.blk hB6 (hr6.lt rb g1).2
        have hr7 := hr6.drum o7
        have hp7 := (o7.both hr6.lt).sl hp6
        have o7' := o6'.tr (o7.both hr6.lt)
        by_cases e4 : B.1 = 0
        · rw [if_pos e4, if_pos e4, if_pos e4, e4, errV0]
          obtain ⟨AP, cP, rfl⟩ := hp7.len
          repeat (first | (with_reducible first | apply T_seq | apply T_region | apply U_nil | apply T_skip | apply T_block | apply T_inBlock | apply Cnd_t | apply Cnd_f | apply Cnd_not | apply Cnd_some | apply Cnd_none | apply Gd_nt | apply Gd_nf | apply Gd_some | apply Gd_none | apply Gd_want) | refine U_ar rfl rfl rfl (wrap_k (by simp only [wrapOk]; omega)) rfl ?_ | refine U_cv E rfl rfl rfl (wrap_k (by simp only [wrapOk]; omega)) rfl ?_ | refine U_pure E rfl rfl ?_ | refine T_exit rfl ?_ | refine T_condV rfl ?_ | refine U_guard rfl rfl ?_ | ((with_reducible refine Gd_skipT ?_ ?_); exact rfl) | ((with_reducible refine Gd_skipF ?_ ?_); exact rfl))
          refine U_call rfl rfl (Tryz.call30 _) (bclone_c w7 _ _ p hp7 (by omega)) ?_
          rintro rc c9 ⟨k9, hc9⟩
          have hBc := hB7.mv k9 (fun x => x)
          obtain ⟨Ac, cc, rfl⟩ := hc9.len
          have fin6 : ∀ (w9 : World) (b6 : Nat), New c9 w9 b6 [Value.slice Ac p.length cc] 22 → ∀ w12, Kept (fun b => b = rb) w9 w12 →
              Blk w12 rb [.pointer (some ⟨hb, 0, none⟩), .int .u32 (g + 1 : Nat), .slice (some ⟨b6, 0, none⟩) 1 1, .int .i64 (pgs p.length : Nat)] 66 →
              ∃ F' Fr', Own (uni F Fr) w2 (uni F' Fr') w12 ∧ Dm w12 F' hb B.2 ∧ Rl w12 F' Fr' hb rb (g + 1) [p] (pgs p.length) := by
            intro w9 b6 hn9 w12 k12 hb12
            have e9 := hn9.at_
            have s9 := hn9.size
            have s12 := k12.size
            have sk := k9.size
            have hF7 := h7.lt
            have hFr7 := hr7.lt
            have k79 : Kept none0 w7 w9 := k9.tr hn9.kept (fun _ _ x => x)
            have hrb : rb < w7.heap.size := hB7.lt
            refine ⟨F7, fun b => Fr b ∨ (w7.heap.size ≤ b ∧ b < w12.heap.size), o7'.tr ⟨?_, ?_, ?_⟩, ?_, ?_⟩
            · exact (k79.mono (fun _ _ x => x.elim)).tr k12 (fun b _ (e : b = rb) => .inr (by rw [e]; exact g1))
            · intro b e
              rcases e with e | e | e
              · exact .inl (.inl e)
              · exact .inl (.inr e)
              · exact .inr (by omega)
            · intro b e
              rcases e with e | e | e
              · have := hF7 b e
                omega
              · have := (hFr7 b e).1
                omega
              · omega
            · exact (h7.same k79).mv k12 (fun b e e2 => (hFr7 b (by rw [show b = rb from e2]; exact g1)).2 e)
            · refine ⟨fun b e => ?_, by omega, by omega, (show 1 ≤ 10000 by decide), ?_, .slice (some ⟨b6, 0, none⟩) 1 1, [.slice Ac p.length cc], .inl g1, hb12, rfl, ?_, ?_⟩
              · rcases e with e | e
                · exact ⟨by have := (hFr7 b e).1; omega, (hFr7 b e).2⟩
                · exact ⟨by omega, fun e2 => by have := hF7 b e2; omega⟩
              · intro q hq
                rw [List.mem_singleton.1 hq]
                exact hp5
              · refine ⟨rfl, .inr ⟨b6, 1, [], rfl, ⟨.inr ⟨by omega, by omega⟩, by omega⟩, ?_, rfl, Nat.le_refl _⟩⟩
                exact hn9.blk.mv k12 (fun (e : b6 = rb) => by omega)
              · intro j u q hu hq
                match j with
                | 0 =>
                  injection hu with hu
                  injection hq with hq
                  subst hu
                  subst hq
                  have h8 : BS c9 (fun b => fresh w7 b ∧ b < c9.heap.size) (.slice Ac p.length cc) p := hc9.mono (fun b hb hx => ⟨hx, hb⟩)
                  refine ((h8.mv hn9.kept (fun _ _ _ x => x)).mv k12 (fun b _ hx (e : b = rb) => by have := hx.1; simp only [fresh] at this; omega)).mono (fun b _ hx => ?_)
                  have hx1 := hx.1
                  have hx2 := hx.2
                  simp only [fresh] at hx1
                  refine ⟨.inr ⟨hx1, by omega⟩, by omega, fun e => ?_⟩
                  have : b6 = b := by simpa [Value.ownBlock] using e
                  omega
                | j + 1 => simp at hu
          repeat (first | (with_reducible first | apply T_seq | apply T_region | apply U_nil | apply T_skip | apply T_block | apply T_inBlock | apply Cnd_t | apply Cnd_f | apply Cnd_not | apply Cnd_some | apply Cnd_none | apply Gd_nt | apply Gd_nf | apply Gd_some | apply Gd_none | apply Gd_want) | refine U_ar rfl rfl rfl (wrap_k (by simp only [wrapOk]; omega)) rfl ?_ | refine U_cv E rfl rfl rfl (wrap_k (by simp only [wrapOk]; omega)) rfl ?_ | refine U_pure E rfl rfl ?_ | refine T_exit rfl ?_ | refine T_condV rfl ?_ | refine U_guard rfl rfl ?_ | ((with_reducible refine Gd_skipT ?_ ?_); exact rfl) | ((with_reducible refine Gd_skipF ?_ ?_); exact rfl))
          refine U_buildSlice (sz := 1) E rfl rfl rfl rfl rfl rfl rfl rfl (segs := [[.slice Ac p.length cc]]) rfl (by simp) rfl ?_
          intro b6 w9 hn9
          have hB9 := hBc.mv hn9.kept (fun x => x)
          repeat (first | (with_reducible first | apply T_seq | apply T_region | apply U_nil | apply T_skip | apply T_block | apply T_inBlock | apply Cnd_t | apply Cnd_f | apply Cnd_not | apply Cnd_some | apply Cnd_none | apply Gd_nt | apply Gd_nf | apply Gd_some | apply Gd_none | apply Gd_want) | refine U_ar rfl rfl rfl (wrap_k (by simp only [wrapOk]; omega)) rfl ?_ | refine U_cv E rfl rfl rfl (wrap_k (by simp only [wrapOk]; omega)) rfl ?_ | refine U_pure E rfl rfl ?_ | refine T_exit rfl ?_ | refine T_condV rfl ?_ | refine U_guard rfl rfl ?_ | ((with_reducible refine Gd_skipT ?_ ?_); exact rfl) | ((with_reducible refine Gd_skipF ?_ ?_); exact rfl))
          refine U_call rfl rfl (Tryz.call31 _) (pages_c w9 p.length (by omega)) ?_
          rintro r w10 ⟨rfl, rfl⟩
          repeat (first | (with_reducible first | apply T_seq | apply T_region | apply U_nil | apply T_skip | apply T_block | apply T_inBlock | apply Cnd_t | apply Cnd_f | apply Cnd_not | apply Cnd_some | apply Cnd_none | apply Gd_nt | apply Gd_nf | apply Gd_some | apply Gd_none | apply Gd_want) | refine U_ar rfl rfl rfl (wrap_k (by simp only [wrapOk]; omega)) rfl ?_ | refine U_cv E rfl rfl rfl (wrap_k (by simp only [wrapOk]; omega)) rfl ?_ | refine U_pure E rfl rfl ?_ | refine T_exit rfl ?_ | refine T_condV rfl ?_ | refine U_guard rfl rfl ?_ | ((with_reducible refine Gd_skipT ?_ ?_); exact rfl) | ((with_reducible refine Gd_skipF ?_ ?_); exact rfl))
          refine U_store E (hB9) rfl rfl rfl (by simp) rfl ?_
          intro w13 hu10
          repeat (first | (with_reducible first | apply T_seq | apply T_region | apply U_nil | apply T_skip | apply T_block | apply T_inBlock | apply Cnd_t | apply Cnd_f | apply Cnd_not | apply Cnd_some | apply Cnd_none | apply Gd_nt | apply Gd_nf | apply Gd_some | apply Gd_none | apply Gd_want) | refine U_ar rfl rfl rfl (wrap_k (by simp only [wrapOk]; omega)) rfl ?_ | refine U_cv E rfl rfl rfl (wrap_k (by simp only [wrapOk]; omega)) rfl ?_ | refine U_pure E rfl rfl ?_ | refine T_exit rfl ?_ | refine T_condV rfl ?_ | refine U_guard rfl rfl ?_ | ((with_reducible refine Gd_skipT ?_ ?_); exact rfl) | ((with_reducible refine Gd_skipF ?_ ?_); exact rfl))
          refine U_store E (hu10.blk) rfl rfl rfl (by simp) rfl ?_
          intro w11 hu11
          repeat (first | (with_reducible first | apply T_seq | apply T_region | apply U_nil | apply T_skip | apply T_block | apply T_inBlock | apply Cnd_t | apply Cnd_f | apply Cnd_not | apply Cnd_some | apply Cnd_none | apply Gd_nt | apply Gd_nf | apply Gd_some | apply Gd_none | apply Gd_want) | refine U_ar rfl rfl rfl (wrap_k (by simp only [wrapOk]; omega)) rfl ?_ | refine U_cv E rfl rfl rfl (wrap_k (by simp only [wrapOk]; omega)) rfl ?_ | refine U_pure E rfl rfl ?_ | refine T_exit rfl ?_ | refine T_condV rfl ?_ | refine U_guard rfl rfl ?_ | ((with_reducible refine Gd_skipT ?_ ?_); exact rfl) | ((with_reducible refine Gd_skipF ?_ ?_); exact rfl))
          refine U_store E (hu11.blk) rfl rfl rfl (by simp) rfl ?_
          intro w12 hu12
          repeat (first | (with_reducible first | apply T_seq | apply T_region | apply U_nil | apply T_skip | apply T_block | apply T_inBlock | apply Cnd_t | apply Cnd_f | apply Cnd_not | apply Cnd_some | apply Cnd_none | apply Gd_nt | apply Gd_nf | apply Gd_some | apply Gd_none | apply Gd_want) | refine U_ar rfl rfl rfl (wrap_k (by simp only [wrapOk]; omega)) rfl ?_ | refine U_cv E rfl rfl rfl (wrap_k (by simp only [wrapOk]; omega)) rfl ?_ | refine U_pure E rfl rfl ?_ | refine T_exit rfl ?_ | refine T_condV rfl ?_ | refine U_guard rfl rfl ?_ | ((with_reducible refine Gd_skipT ?_ ?_); exact rfl) | ((with_reducible refine Gd_skipF ?_ ?_); exact rfl))
          have hFin := fin6 w10 b6 hn9 w12 ((hu10.kept.tr hu11.kept (fun _ _ x => x)).tr hu12.kept (fun _ _ x => x)) (by have := hu12.blk; simpa using this)
          exact T_ret1 Tryz.func10 rfl rfl ⟨_, rfl, rfl, hFin⟩
        · rw [if_neg e4, if_neg e4, if_neg e4]
          obtain ⟨j, hj, hje⟩ := errV_ne e4
          rw [hje]
          repeat (first | (with_reducible first | apply T_seq | apply T_region | apply U_nil | apply T_skip | apply T_block | apply T_inBlock | apply Cnd_t | apply Cnd_f | apply Cnd_not | apply Cnd_some | apply Cnd_none | apply Gd_nt | apply Gd_nf | apply Gd_some | apply Gd_none | apply Gd_want) | refine U_ar rfl rfl rfl (wrap_k (by simp only [wrapOk]; omega)) rfl ?_ | refine U_cv E rfl rfl rfl (wrap_k (by simp only [wrapOk]; omega)) rfl ?_ | refine U_pure E rfl rfl ?_ | refine T_exit rfl ?_ | refine T_condV rfl ?_ | refine U_guard rfl rfl ?_ | ((with_reducible refine Gd_skipT ?_ ?_); exact rfl) | ((with_reducible refine Gd_skipF ?_ ?_); exact rfl))
          exact T_ret1 Tryz.func10 rfl rfl ⟨_, rfl, rfl, F7, Fr, o7', h7, hr7⟩
      · have he : trF D g p = (wipeR (hsz D) (base D (g + 1)) false D).2 := by rw [trF, if_neg (fun e => e e1), if_neg (by omega), if_pos e2]
        rw [he, if_neg e2, if_neg e2, if_neg e2]
        obtain ⟨j, hj, hje⟩ := errV_ne e2
        rw [hje]
        repeat (first | (with_reducible first | apply T_seq | apply T_region | apply U_nil | apply T_skip | apply T_block | apply T_inBlock | apply Cnd_t | apply Cnd_f | apply Cnd_not | apply Cnd_some | apply Cnd_none | apply Gd_nt | apply Gd_nf | apply Gd_some | apply Gd_none | apply Gd_want) | refine U_ar rfl rfl rfl (wrap_k (by simp only [wrapOk]; omega)) rfl ?_ | refine U_cv E rfl rfl rfl (wrap_k (by simp only [wrapOk]; omega)) rfl ?_ | refine U_pure E rfl rfl ?_ | refine T_exit rfl ?_ | refine T_condV rfl ?_ | refine U_guard rfl rfl ?_ | ((with_reducible refine Gd_skipT ?_ ?_); exact rfl) | ((with_reducible refine Gd_skipF ?_ ?_); exact rfl))
        exact T_ret1 Tryz.func10 rfl rfl ⟨_, rfl, rfl, F6, Fr, o6', h6, hr6⟩
  · have he : trF D g p = (rfErr p.length (hsz D), D) := by rw [trF, if_pos e1]
    rw [he, if_neg e1, if_neg e1, if_neg e1]
    obtain ⟨j, hj, hje⟩ := errV_ne e1
    rw [hje]
    repeat (first | (with_reducible first | apply T_seq | apply T_region | apply U_nil | apply T_skip | apply T_block | apply T_inBlock | apply Cnd_t | apply Cnd_f | apply Cnd_not | apply Cnd_some | apply Cnd_none | apply Gd_nt | apply Gd_nf | apply Gd_some | apply Gd_none | apply Gd_want) | refine U_ar rfl rfl rfl (wrap_k (by simp only [wrapOk]; omega)) rfl ?_ | refine U_cv E rfl rfl rfl (wrap_k (by simp only [wrapOk]; omega)) rfl ?_ | refine U_pure E rfl rfl ?_ | refine T_exit rfl ?_ | refine T_condV rfl ?_ | refine U_guard rfl rfl ?_ | ((with_reducible refine Gd_skipT ?_ ?_); exact rfl) | ((with_reducible refine Gd_skipF ?_ ?_); exact rfl))
    exact T_ret1 Tryz.func10 rfl rfl ⟨_, rfl, rfl, F, Fr, Own.refl (h.lt2 hD.lt), hD, h⟩
end Go.Proofs.YtoefhdaenaiomaaGreatDoor

/- The document's example. -/
namespace Go.Proofs.YtoefhdaenaiomaaGreatDoor
open Go
set_option maxRecDepth 20000

theorem awake_eq : nowS (drFall (wrDr (drNew 8) 3 [104, 105]) [true] 1).l (drFall (wrDr (drNew 8) 3 [104, 105]) [true] 1).wait 3 = 104 :: zeros 255 := by kernel_rfl

theorem IsD.tight {w w' : World} {hb : Nat} {D : Dr} (h : IsD w' (fresh w) hb D) : IsD w' (fun j => w.heap.size ≤ j ∧ j < w'.heap.size) hb D := h.mono (fun b hb h => ⟨h, hb⟩)

end Go.Proofs.YtoefhdaenaiomaaGreatDoor

/- Writes that go well; what comes behind a test. -/
namespace Go.Proofs.YtoefhdaenaiomaaGreatDoor
open Go
set_option maxRecDepth 20000

section
variable {P : Program} {f : FuncId} {R : Ending → World → Prop} {n : Nat} {k : List Item} {m : Fm} {w : World}
/-- What comes behind a piece of code is walked once. -/
theorem T_via {α : Type} {it : Item} (fm : α → Fm) (X : α → World → Prop) (fin : ∀ x w', X x w' → T P f R n k (fm x) w') (h : (∀ x w', X x w' → T P f R n k (fm x) w') → T P f R n (it :: k) m w) : T P f R n (it :: k) m w := h fin
end

theorem old_fresh {w w' : World} (h : w.heap.size ≤ w'.heap.size) : ∀ b, b < w'.heap.size → old w b → ¬ fresh w b := fun b _ h1 h2 => by simp only [old, fresh] at *; omega

theorem wr_eq (l : List (List UInt8)) (ws : List (Nat × List UInt8)) (i : Nat) (p : List UInt8) (hi : i < l.length) (hp : p.length ≤ 256) : wrErr ⟨l, ws, -1⟩ i p = 0 ∧ wrDr ⟨l, ws, -1⟩ i p = ⟨l, ws ++ [(i, sec p)], -1⟩ := by
  have h : wrErr ⟨l, ws, -1⟩ i p = 0 := by
    rw [wrErr, if_pos (by dsimp only; omega), if_neg (by omega), if_neg (by dsimp only; omega)]
  refine ⟨h, ?_⟩
  rw [wrDr, if_pos h]
  rfl

/-- A write that goes well. -/
theorem wr_c (w0 w : World) (hb : Nat) (l : List (List UInt8)) (ws : List (Nat × List UInt8)) (v : Value) (p : List UInt8) (i : Int) (j : Nat) (e : i = j) (h0 : w0.heap.size ≤ w.heap.size) (h : IsD w (fresh w0) hb ⟨l, ws, -1⟩) (hp : BS w (old w0) v p) (hi : j < l.length) (hl : p.length ≤ 256) (hwn : ws.length < 1000000) :
    Calls Tryz.prog 42 [ptr hb, .int .i64 i, v].toArray w (Ret fun r w' => r = errV 0 ∧ Kept (fresh w0) w w' ∧ IsD w' (fresh w0) hb ⟨l, ws ++ [(j, sec p)], -1⟩) := by
  subst e
  obtain ⟨h1, h2⟩ := wr_eq l ws j p hi hl
  refine (write_ok w (fresh w0) hb _ (old w0) v p j h hp (fun b h1 h2 => by simp only [old, fresh] at *; omega) h1 hwn).mono ?_
  rintro e w' ⟨r, rfl, rfl, hk, hD⟩
  rw [h2] at hD
  exact ⟨_, rfl, rfl, hk, hD.mono (fun b _ h => h.elim (fun x => x) (fun x => Nat.le_trans h0 x))⟩

end Go.Proofs.YtoefhdaenaiomaaGreatDoor

/- Arm, Copy. -/
namespace Go.Proofs.YtoefhdaenaiomaaGreatDoor
open Go
set_option maxRecDepth 20000

section
variable {P : Program} {w : World} {m : Fm} {n : Nat} {ty : TypeId} {ps : String} {af : Array Edge}
theorem ro_max {ats : Array TypeId} {u v : Operand} {kx ky : IntKind} {p q r : Int} (hx : ev m u = some (.int kx p)) (hy : ev m v = some (.int ky q)) (hr : (if q > p then q else p) = r) {dst : Option Tmp} {gd : Option (Nat × Bool)} :
    ∀ a, Fits a n m → (execOp a.eval { dst := dst, op := .call { callee := .builtin .max, args := #[u, v], argTypes := ats }, type := ty, pos := ps, after := af, guard := gd }).run P w = .ok (.value (.int kx r)) w := by
  intro a ha
  simp only [execOp, resolve, invoke, builtin, Sem.run_bind, Sem.run_pure, Result.andThen_ok, List.map_toArray, List.map_cons, List.map_nil, ha.eval hx, ha.eval hy, run_max_int2, hr]
end

theorem arm_c (w : World) (F : Nat → Prop) (hb : Nat) (D : Dr) (n : Int) (h : IsD w F hb D) (hn : n ≤ 9223372036854775807) :
    Calls Tryz.prog 19 [ptr hb, .int .i64 n].toArray w (Ret fun r w' => r = .tuple #[] ∧ Kept (fun b => b = hb) w w' ∧ w'.heap.size = w.heap.size ∧ IsD w' F hb { D with left := max n (-1) }) := by
  obtain ⟨h0, vl, vw, h1, h2, h3, h4⟩ := h
  refine calls_T Tryz.func19 rfl rfl rfl ?_
  unfold ptr
  repeat (first | (with_reducible first | apply T_seq | apply T_region | apply U_nil | apply T_skip | apply T_block | apply T_inBlock | apply Cnd_t | apply Cnd_f | apply Cnd_not | apply Cnd_some | apply Cnd_none | apply Gd_nt | apply Gd_nf | apply Gd_some | apply Gd_none | apply Gd_want) | refine U_ar rfl rfl rfl (wrap_i64 (by omega)) rfl ?_ | refine U_pure E rfl rfl ?_ | refine T_exit rfl ?_ | refine T_condV rfl ?_ | refine U_guard rfl rfl ?_ | ((with_reducible refine Gd_skipT ?_ ?_); exact rfl) | ((with_reducible refine Gd_skipF ?_ ?_); exact rfl))
  refine U_run rfl rfl rfl (ro_max (r := max n (-1)) rfl rfl (by split <;> omega)) ?_
  repeat (first | (with_reducible first | apply T_seq | apply T_region | apply U_nil | apply T_skip | apply T_block | apply T_inBlock | apply Cnd_t | apply Cnd_f | apply Cnd_not | apply Cnd_some | apply Cnd_none | apply Gd_nt | apply Gd_nf | apply Gd_some | apply Gd_none | apply Gd_want) | refine U_ar rfl rfl rfl (wrap_i64 (by omega)) rfl ?_ | refine U_pure E rfl rfl ?_ | refine T_exit rfl ?_ | refine T_condV rfl ?_ | refine U_guard rfl rfl ?_ | ((with_reducible refine Gd_skipT ?_ ?_); exact rfl) | ((with_reducible refine Gd_skipF ?_ ?_); exact rfl))
  refine U_store E (h2) rfl rfl rfl (by simp) rfl ?_
  intro w1 hu
  repeat (first | (with_reducible first | apply T_seq | apply T_region | apply U_nil | apply T_skip | apply T_block | apply T_inBlock | apply Cnd_t | apply Cnd_f | apply Cnd_not | apply Cnd_some | apply Cnd_none | apply Gd_nt | apply Gd_nf | apply Gd_some | apply Gd_none | apply Gd_want) | refine U_ar rfl rfl rfl (wrap_i64 (by omega)) rfl ?_ | refine U_pure E rfl rfl ?_ | refine T_exit rfl ?_ | refine T_condV rfl ?_ | refine U_guard rfl rfl ?_ | ((with_reducible refine Gd_skipT ?_ ?_); exact rfl) | ((with_reducible refine Gd_skipF ?_ ?_); exact rfl))
  refine T_end0 Tryz.func19 rfl ⟨_, rfl, rfl, hu.kept, hu.size, ⟨h0.n1, h0.n2, h0.secs, h0.waits, h0.wn, ?_, ?_⟩, vl, vw, h1, ?_, h3.mv hu.kept (fun b _ h => h.2), h4.mv hu.kept (fun b _ h => h.2.1)⟩
  · dsimp only; omega
  · dsimp only; omega
  · simpa using hu.blk

end Go.Proofs.YtoefhdaenaiomaaGreatDoor
