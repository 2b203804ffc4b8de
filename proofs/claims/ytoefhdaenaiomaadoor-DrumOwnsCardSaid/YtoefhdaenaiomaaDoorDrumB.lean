/- New, Dirty, Flush. -/
import Derived.Test.YtoefhdaenaiomaaDoorDrumA
namespace Go.Proofs.YtoefhdaenaiomaaDoor
open Go
set_option maxRecDepth 20000

def drNew (n : Nat) : Dr := ⟨List.replicate n (zeros 256), [], -1⟩
theorem drNew_ok (n : Nat) (h1 : 1 ≤ n) (h2 : n ≤ 8192) : (drNew n).Ok := by
  refine ⟨?_, ?_, fun s hs => ?_, ?_, ?_, ?_, ?_⟩
  · simp only [drNew, List.length_replicate]; exact h1
  · simp only [drNew, List.length_replicate]; exact h2
  · rw [(List.mem_replicate.1 hs).2]; exact zeros_len 256
  · intro p hp; cases hp
  · exact Nat.zero_le _
  · exact Int.le_refl _
  · simp only [drNew]; omega

theorem zcells : (Value.agg (List.replicate 256 (Value.int IntKind.u8 0)).toArray).cells = (encBs (zeros 256)).toArray := by rw [encBs_zeros]; rfl

theorem new_c (w : World) (n : Int) (h : 1 ≤ n ∧ n ≤ 8192) :
    Calls Tryd.prog 24 [.int .i64 n].toArray w (Ret fun r w' => Kept none0 w w' ∧ ∃ hb, r = .tuple #[ptr hb, .nilIface] ∧ IsD w' (fresh w) hb (drNew n.toNat)) := by
  obtain ⟨N, rfl⟩ := Int.eq_ofNat_of_zero_le (show 0 ≤ n by omega)
  refine calls_T Tryd.func24 rfl rfl rfl ?_
  repeat (first | with_reducible refine T_seq ?_ | with_reducible refine T_region ?_ | with_reducible refine U_nil ?_ | refine U_ar rfl rfl rfl (wrap_i64 (by omega)) rfl ?_ | refine U_pure E rfl rfl ?_ | with_reducible refine T_skip ?_ | with_reducible refine T_block ?_ | with_reducible refine T_inBlock ?_ | refine T_exit rfl ?_ | refine T_condV rfl ?_ | with_reducible refine Cnd_t ?_ | with_reducible refine Cnd_f ?_ | with_reducible refine Cnd_not ?_ | with_reducible refine Cnd_some ?_ | with_reducible refine Cnd_none ?_ | refine U_guard rfl rfl ?_ | with_reducible refine Gd_nt ?_ | with_reducible refine Gd_nf ?_ | with_reducible refine Gd_some ?_ | with_reducible refine Gd_none ?_ | with_reducible refine Gd_want ?_ | ((with_reducible refine Gd_skipT ?_ ?_); exact rfl) | ((with_reducible refine Gd_skipF ?_ ?_); exact rfl))
  refine Gd_p (fun h1 => ?_) (fun h1 => ?_)
  · exfalso; omega
  · repeat (first | with_reducible refine T_seq ?_ | with_reducible refine T_region ?_ | with_reducible refine U_nil ?_ | refine U_ar rfl rfl rfl (wrap_i64 (by omega)) rfl ?_ | refine U_pure E rfl rfl ?_ | with_reducible refine T_skip ?_ | with_reducible refine T_block ?_ | with_reducible refine T_inBlock ?_ | refine T_exit rfl ?_ | refine T_condV rfl ?_ | with_reducible refine Cnd_t ?_ | with_reducible refine Cnd_f ?_ | with_reducible refine Cnd_not ?_ | with_reducible refine Cnd_some ?_ | with_reducible refine Cnd_none ?_ | refine U_guard rfl rfl ?_ | with_reducible refine Gd_nt ?_ | with_reducible refine Gd_nf ?_ | with_reducible refine Gd_some ?_ | with_reducible refine Gd_none ?_ | with_reducible refine Gd_want ?_ | ((with_reducible refine Gd_skipT ?_ ?_); exact rfl) | ((with_reducible refine Gd_skipF ?_ ?_); exact rfl))
    refine Cnd_p (fun h2 => ?_) (fun h2 => ?_)
    · exfalso; omega
    · repeat (first | with_reducible refine T_seq ?_ | with_reducible refine T_region ?_ | with_reducible refine U_nil ?_ | refine U_ar rfl rfl rfl (wrap_i64 (by omega)) rfl ?_ | refine U_pure E rfl rfl ?_ | with_reducible refine T_skip ?_ | with_reducible refine T_block ?_ | with_reducible refine T_inBlock ?_ | refine T_exit rfl ?_ | refine T_condV rfl ?_ | with_reducible refine Cnd_t ?_ | with_reducible refine Cnd_f ?_ | with_reducible refine Cnd_not ?_ | with_reducible refine Cnd_some ?_ | with_reducible refine Cnd_none ?_ | refine U_guard rfl rfl ?_ | with_reducible refine Gd_nt ?_ | with_reducible refine Gd_nf ?_ | with_reducible refine Gd_some ?_ | with_reducible refine Gd_none ?_ | with_reducible refine Gd_want ?_ | ((with_reducible refine Gd_skipT ?_ ?_); exact rfl) | ((with_reducible refine Gd_skipF ?_ ?_); exact rfl))
      refine U_make E rfl rfl (zs := encBs (zeros 256)) zcells (N := N) rfl rfl (by omega) (by omega) (by rw [encBs_len, zeros_len]) rfl rfl ?_
      intro b w1 hn
      refine U_build (cells := [.slice (some ⟨b, 0, none⟩) N N, .slice none 0 0, .int .i64 (-1)]) rfl (by kernel_rfl) rfl ?_
      refine U_box E rfl rfl rfl ?_
      intro hb w2 hn2
      repeat (first | with_reducible refine T_seq ?_ | with_reducible refine T_region ?_ | with_reducible refine U_nil ?_ | refine U_ar rfl rfl rfl (wrap_i64 (by omega)) rfl ?_ | refine U_pure E rfl rfl ?_ | with_reducible refine T_skip ?_ | with_reducible refine T_block ?_ | with_reducible refine T_inBlock ?_ | refine T_exit rfl ?_ | refine T_condV rfl ?_ | with_reducible refine Cnd_t ?_ | with_reducible refine Cnd_f ?_ | with_reducible refine Cnd_not ?_ | with_reducible refine Cnd_some ?_ | with_reducible refine Cnd_none ?_ | refine U_guard rfl rfl ?_ | with_reducible refine Gd_nt ?_ | with_reducible refine Gd_nf ?_ | with_reducible refine Gd_some ?_ | with_reducible refine Gd_none ?_ | with_reducible refine Gd_want ?_ | ((with_reducible refine Gd_skipT ?_ ?_); exact rfl) | ((with_reducible refine Gd_skipF ?_ ?_); exact rfl))
      refine T_ret2 Tryd.func24 rfl rfl rfl ⟨_, rfl, hn.kept.tr hn2.kept (fun _ _ h => h), hb, rfl, drNew_ok _ (by omega) (by omega), _, _, ?_, hn2.blk, ?_, Row.nil _ _ _ _⟩
      · have := hn.kept.size
        simp only [fresh, hn2.at_]
        exact this
      · have hb2 := hn2.at_
        have hb1 := hn.at_
        have hs1 := hn.size
        refine ⟨?_, .inr ⟨b, N, [], ?_, ⟨?_, ?_⟩, ?_, ?_, ?_⟩⟩
        · rw [flat_len (sz := 256) _ (fun s hs => by obtain ⟨x, hx, rfl⟩ := List.mem_map.1 hs; rw [encBs_len, (List.mem_replicate.1 hx).2, zeros_len])]
          simp [drNew]
        · simp [drNew]
        · simp only [fresh]; omega
        · omega
        · have := hn.blk.mv hn2.kept (fun x => x)
          simp only [drNew, List.map_replicate, List.append_nil, Int.toNat_natCast]
          exact this
        · simp only [List.append_nil]
          rw [flat_len (sz := 256) _ (fun s hs => by obtain ⟨x, hx, rfl⟩ := List.mem_map.1 hs; rw [encBs_len, (List.mem_replicate.1 hx).2, zeros_len])]
          simp [drNew]
        · simp [drNew]

theorem new_no (w : World) (n : Int) (h : ¬ (1 ≤ n ∧ n ≤ 8192)) :
    Calls Tryd.prog 24 [.int .i64 n].toArray w (Ret fun r w' => r = .tuple #[.pointer none, errV 1] ∧ w' = w) := by
  refine calls_T Tryd.func24 rfl rfl rfl ?_
  repeat (first | with_reducible refine T_seq ?_ | with_reducible refine T_region ?_ | with_reducible refine U_nil ?_ | refine U_ar rfl rfl rfl (wrap_i64 (by omega)) rfl ?_ | refine U_pure E rfl rfl ?_ | with_reducible refine T_skip ?_ | with_reducible refine T_block ?_ | with_reducible refine T_inBlock ?_ | refine T_exit rfl ?_ | refine T_condV rfl ?_ | with_reducible refine Cnd_t ?_ | with_reducible refine Cnd_f ?_ | with_reducible refine Cnd_not ?_ | with_reducible refine Cnd_some ?_ | with_reducible refine Cnd_none ?_ | refine U_guard rfl rfl ?_ | with_reducible refine Gd_nt ?_ | with_reducible refine Gd_nf ?_ | with_reducible refine Gd_some ?_ | with_reducible refine Gd_none ?_ | with_reducible refine Gd_want ?_ | ((with_reducible refine Gd_skipT ?_ ?_); exact rfl) | ((with_reducible refine Gd_skipF ?_ ?_); exact rfl))
  refine Gd_p (fun h1 => ?_) (fun h1 => ?_)
  · repeat (first | with_reducible refine T_seq ?_ | with_reducible refine T_region ?_ | with_reducible refine U_nil ?_ | refine U_ar rfl rfl rfl (wrap_i64 (by omega)) rfl ?_ | refine U_pure E rfl rfl ?_ | with_reducible refine T_skip ?_ | with_reducible refine T_block ?_ | with_reducible refine T_inBlock ?_ | refine T_exit rfl ?_ | refine T_condV rfl ?_ | with_reducible refine Cnd_t ?_ | with_reducible refine Cnd_f ?_ | with_reducible refine Cnd_not ?_ | with_reducible refine Cnd_some ?_ | with_reducible refine Cnd_none ?_ | refine U_guard rfl rfl ?_ | with_reducible refine Gd_nt ?_ | with_reducible refine Gd_nf ?_ | with_reducible refine Gd_some ?_ | with_reducible refine Gd_none ?_ | with_reducible refine Gd_want ?_ | ((with_reducible refine Gd_skipT ?_ ?_); exact rfl) | ((with_reducible refine Gd_skipF ?_ ?_); exact rfl))
    exact T_ret2 Tryd.func24 rfl rfl rfl ⟨_, rfl, rfl, rfl⟩
  · repeat (first | with_reducible refine T_seq ?_ | with_reducible refine T_region ?_ | with_reducible refine U_nil ?_ | refine U_ar rfl rfl rfl (wrap_i64 (by omega)) rfl ?_ | refine U_pure E rfl rfl ?_ | with_reducible refine T_skip ?_ | with_reducible refine T_block ?_ | with_reducible refine T_inBlock ?_ | refine T_exit rfl ?_ | refine T_condV rfl ?_ | with_reducible refine Cnd_t ?_ | with_reducible refine Cnd_f ?_ | with_reducible refine Cnd_not ?_ | with_reducible refine Cnd_some ?_ | with_reducible refine Cnd_none ?_ | refine U_guard rfl rfl ?_ | with_reducible refine Gd_nt ?_ | with_reducible refine Gd_nf ?_ | with_reducible refine Gd_some ?_ | with_reducible refine Gd_none ?_ | with_reducible refine Gd_want ?_ | ((with_reducible refine Gd_skipT ?_ ?_); exact rfl) | ((with_reducible refine Gd_skipF ?_ ?_); exact rfl))
    refine Cnd_p (fun h2 => ?_) (fun h2 => ?_)
    · repeat (first | with_reducible refine T_seq ?_ | with_reducible refine T_region ?_ | with_reducible refine U_nil ?_ | refine U_ar rfl rfl rfl (wrap_i64 (by omega)) rfl ?_ | refine U_pure E rfl rfl ?_ | with_reducible refine T_skip ?_ | with_reducible refine T_block ?_ | with_reducible refine T_inBlock ?_ | refine T_exit rfl ?_ | refine T_condV rfl ?_ | with_reducible refine Cnd_t ?_ | with_reducible refine Cnd_f ?_ | with_reducible refine Cnd_not ?_ | with_reducible refine Cnd_some ?_ | with_reducible refine Cnd_none ?_ | refine U_guard rfl rfl ?_ | with_reducible refine Gd_nt ?_ | with_reducible refine Gd_nf ?_ | with_reducible refine Gd_some ?_ | with_reducible refine Gd_none ?_ | with_reducible refine Gd_want ?_ | ((with_reducible refine Gd_skipT ?_ ?_); exact rfl) | ((with_reducible refine Gd_skipF ?_ ?_); exact rfl))
      exact T_ret2 Tryd.func24 rfl rfl rfl ⟨_, rfl, rfl, rfl⟩
    · exfalso; omega

theorem dirty_c (w : World) (F : Nat → Prop) (hb : Nat) (D : Dr) (h : IsD w F hb D) :
    Calls Tryd.prog 39 [ptr hb].toArray w (fun e w' => e = .returned (.int .i64 D.wait.length) ∧ w' = w) := by
  obtain ⟨h0, vl, vw, h1, h2, h3, h4⟩ := h
  obtain ⟨A, c, rfl⟩ := h4.val
  refine calls_T Tryd.func39 rfl rfl rfl ?_
  unfold ptr
  repeat (first | with_reducible refine T_seq ?_ | with_reducible refine T_region ?_ | with_reducible refine U_nil ?_ | refine U_ar rfl rfl rfl (wrap_i64 (by omega)) rfl ?_ | refine U_pure E rfl rfl ?_ | with_reducible refine T_skip ?_ | with_reducible refine T_block ?_ | with_reducible refine T_inBlock ?_ | refine T_exit rfl ?_ | refine T_condV rfl ?_ | with_reducible refine Cnd_t ?_ | with_reducible refine Cnd_f ?_ | with_reducible refine Cnd_not ?_ | with_reducible refine Cnd_some ?_ | with_reducible refine Cnd_none ?_ | refine U_guard rfl rfl ?_ | with_reducible refine Gd_nt ?_ | with_reducible refine Gd_nf ?_ | with_reducible refine Gd_some ?_ | with_reducible refine Gd_none ?_ | with_reducible refine Gd_want ?_ | ((with_reducible refine Gd_skipT ?_ ?_); exact rfl) | ((with_reducible refine Gd_skipF ?_ ?_); exact rfl))
  refine U_loadB E (by assumption) rfl rfl rfl (by rfl) rfl ?_
  repeat (first | with_reducible refine T_seq ?_ | with_reducible refine T_region ?_ | with_reducible refine U_nil ?_ | refine U_ar rfl rfl rfl (wrap_i64 (by omega)) rfl ?_ | refine U_pure E rfl rfl ?_ | with_reducible refine T_skip ?_ | with_reducible refine T_block ?_ | with_reducible refine T_inBlock ?_ | refine T_exit rfl ?_ | refine T_condV rfl ?_ | with_reducible refine Cnd_t ?_ | with_reducible refine Cnd_f ?_ | with_reducible refine Cnd_not ?_ | with_reducible refine Cnd_some ?_ | with_reducible refine Cnd_none ?_ | refine U_guard rfl rfl ?_ | with_reducible refine Gd_nt ?_ | with_reducible refine Gd_nf ?_ | with_reducible refine Gd_some ?_ | with_reducible refine Gd_none ?_ | with_reducible refine Gd_want ?_ | ((with_reducible refine Gd_skipT ?_ ?_); exact rfl) | ((with_reducible refine Gd_skipF ?_ ?_); exact rfl))
  exact T_ret1 Tryd.func39 rfl rfl ⟨rfl, rfl⟩

def applyW (l : List (List UInt8)) (ws : List (Nat × List UInt8)) : List (List UInt8) := ws.foldl (fun l p => l.set p.1 p.2) l
theorem applyW_len : ∀ (ws : List (Nat × List UInt8)) (l : List (List UInt8)), (applyW l ws).length = l.length
  | [], l => rfl
  | p :: ws, l => by
    have := applyW_len ws (l.set p.1 p.2)
    simp only [List.length_set] at this
    exact this
theorem applyW_snoc (l : List (List UInt8)) (ws : List (Nat × List UInt8)) (p : Nat × List UInt8) : applyW l (ws ++ [p]) = (applyW l ws).set p.1 p.2 := by
  simp [applyW]
theorem applyW_secs : ∀ (ws : List (Nat × List UInt8)) (l : List (List UInt8)), (∀ s ∈ l, s.length = 256) → (∀ p ∈ ws, p.2.length = 256) → ∀ s ∈ applyW l ws, s.length = 256
  | [], l, h, _ => h
  | p :: ws, l, h, hw => applyW_secs ws (l.set p.1 p.2) (fun s hs => by
      rcases List.mem_or_eq_of_mem_set hs with h1 | h1
      · exact h s h1
      · rw [h1]; exact hw p (by simp)) (fun q hq => hw q (by simp [hq]))

theorem encSegs {l : List (List UInt8)} (h : ∀ s ∈ l, s.length = 256) : ∀ s ∈ l.map encBs, s.length = 256 := by
  intro s hs
  obtain ⟨x, hx, rfl⟩ := List.mem_map.1 hs
  rw [encBs_len]
  exact h x hx
theorem encWs {l : List (Nat × List UInt8)} (h : ∀ p ∈ l, p.2.length = 256) : ∀ s ∈ l.map encW, s.length = 257 := by
  intro s hs
  obtain ⟨x, hx, rfl⟩ := List.mem_map.1 hs
  rw [encW_len, h x hx]

theorem flush_off (w : World) (F : Nat → Prop) (hb : Nat) (D : Dr) (h : IsD w F hb D) (hl : D.left = 0) :
    Calls Tryd.prog 26 [ptr hb].toArray w (Ret fun r w' => r = errV 8 ∧ Kept (fun b => b = hb) w w' ∧ w'.heap.size = w.heap.size ∧ IsD w' F hb D) := by
  have hc := act_c w F hb D h
  rw [if_pos hl, if_pos hl] at hc
  refine calls_T Tryd.func26 rfl rfl rfl ?_
  unfold ptr at *
  repeat (first | with_reducible refine T_seq ?_ | with_reducible refine T_region ?_ | with_reducible refine U_nil ?_ | refine U_ar rfl rfl rfl (wrap_i64 (by omega)) rfl ?_ | refine U_pure E rfl rfl ?_ | with_reducible refine T_skip ?_ | with_reducible refine T_block ?_ | with_reducible refine T_inBlock ?_ | refine T_exit rfl ?_ | refine T_condV rfl ?_ | with_reducible refine Cnd_t ?_ | with_reducible refine Cnd_f ?_ | with_reducible refine Cnd_not ?_ | with_reducible refine Cnd_some ?_ | with_reducible refine Cnd_none ?_ | refine U_guard rfl rfl ?_ | with_reducible refine Gd_nt ?_ | with_reducible refine Gd_nf ?_ | with_reducible refine Gd_some ?_ | with_reducible refine Gd_none ?_ | with_reducible refine Gd_want ?_ | ((with_reducible refine Gd_skipT ?_ ?_); exact rfl) | ((with_reducible refine Gd_skipF ?_ ?_); exact rfl))
  refine U_call rfl rfl (Tryd.call69 _) (hc) ?_
  rintro r w1 ⟨rfl, hk, hs, hD⟩
  unfold errV
  repeat (first | with_reducible refine T_seq ?_ | with_reducible refine T_region ?_ | with_reducible refine U_nil ?_ | refine U_ar rfl rfl rfl (wrap_i64 (by omega)) rfl ?_ | refine U_pure E rfl rfl ?_ | with_reducible refine T_skip ?_ | with_reducible refine T_block ?_ | with_reducible refine T_inBlock ?_ | refine T_exit rfl ?_ | refine T_condV rfl ?_ | with_reducible refine Cnd_t ?_ | with_reducible refine Cnd_f ?_ | with_reducible refine Cnd_not ?_ | with_reducible refine Cnd_some ?_ | with_reducible refine Cnd_none ?_ | refine U_guard rfl rfl ?_ | with_reducible refine Gd_nt ?_ | with_reducible refine Gd_nf ?_ | with_reducible refine Gd_some ?_ | with_reducible refine Gd_none ?_ | with_reducible refine Gd_want ?_ | ((with_reducible refine Gd_skipT ?_ ?_); exact rfl) | ((with_reducible refine Gd_skipF ?_ ?_); exact rfl))
  exact T_ret1 Tryd.func26 rfl rfl ⟨_, rfl, rfl, hk, hs, hD⟩
end Go.Proofs.YtoefhdaenaiomaaDoor
