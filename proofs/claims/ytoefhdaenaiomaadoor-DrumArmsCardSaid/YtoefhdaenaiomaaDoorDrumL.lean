/- Turn. -/
import Derived.Test.YtoefhdaenaiomaaDoorDrumH
import Derived.Test.YtoefhdaenaiomaaDoorBits
namespace Go.Proofs.YtoefhdaenaiomaaDoor
open Go
set_option maxRecDepth 20000

theorem turn_no (w : World) (F : Nat → Prop) (hb : Nat) (D : Dr) (i bit : Int) (mask : Int) (h : IsD w F hb D) (hno : ¬ ((0 ≤ i ∧ i < D.l.length) ∧ 0 ≤ bit ∧ bit < 2048)) :
    Calls Tryd.prog 41 [ptr hb, .int .i64 i, .int .i64 bit, .int .u32 mask].toArray w (Ret fun r w' => r = errV 7 ∧ w' = w) := by
  have hf := fits_c w F hb D i h
  refine calls_T Tryd.func41 rfl rfl rfl ?_
  unfold ptr at *
  repeat (first | with_reducible refine T_seq ?_ | with_reducible refine T_region ?_ | with_reducible refine U_nil ?_ | refine U_ar rfl rfl rfl (wrap_i64 (by omega)) rfl ?_ | refine U_pure E rfl rfl ?_ | with_reducible refine T_skip ?_ | with_reducible refine T_block ?_ | with_reducible refine T_inBlock ?_ | refine T_exit rfl ?_ | refine T_condV rfl ?_ | with_reducible refine Cnd_t ?_ | with_reducible refine Cnd_f ?_ | with_reducible refine Cnd_not ?_ | with_reducible refine Cnd_some ?_ | with_reducible refine Cnd_none ?_ | refine U_guard rfl rfl ?_ | with_reducible refine Gd_nt ?_ | with_reducible refine Gd_nf ?_ | with_reducible refine Gd_some ?_ | with_reducible refine Gd_none ?_ | with_reducible refine Gd_want ?_ | ((with_reducible refine Gd_skipT ?_ ?_); exact rfl) | ((with_reducible refine Gd_skipF ?_ ?_); exact rfl))
  refine U_call rfl rfl (Tryd.call70 _) (ret_of hf) ?_
  rintro r w1 ⟨rfl, rfl⟩
  by_cases hi : 0 ≤ i ∧ i < D.l.length
  · rw [if_pos hi]
    unfold errV
    repeat (first | with_reducible refine T_seq ?_ | with_reducible refine T_region ?_ | with_reducible refine U_nil ?_ | refine U_ar rfl rfl rfl (wrap_i64 (by omega)) rfl ?_ | refine U_pure E rfl rfl ?_ | with_reducible refine T_skip ?_ | with_reducible refine T_block ?_ | with_reducible refine T_inBlock ?_ | refine T_exit rfl ?_ | refine T_condV rfl ?_ | with_reducible refine Cnd_t ?_ | with_reducible refine Cnd_f ?_ | with_reducible refine Cnd_not ?_ | with_reducible refine Cnd_some ?_ | with_reducible refine Cnd_none ?_ | refine U_guard rfl rfl ?_ | with_reducible refine Gd_nt ?_ | with_reducible refine Gd_nf ?_ | with_reducible refine Gd_some ?_ | with_reducible refine Gd_none ?_ | with_reducible refine Gd_want ?_ | ((with_reducible refine Gd_skipT ?_ ?_); exact rfl) | ((with_reducible refine Gd_skipF ?_ ?_); exact rfl))
    refine Gd_p (fun hb1 => ?_) (fun hb1 => ?_)
    · repeat (first | with_reducible refine T_seq ?_ | with_reducible refine T_region ?_ | with_reducible refine U_nil ?_ | refine U_ar rfl rfl rfl (wrap_i64 (by omega)) rfl ?_ | refine U_pure E rfl rfl ?_ | with_reducible refine T_skip ?_ | with_reducible refine T_block ?_ | with_reducible refine T_inBlock ?_ | refine T_exit rfl ?_ | refine T_condV rfl ?_ | with_reducible refine Cnd_t ?_ | with_reducible refine Cnd_f ?_ | with_reducible refine Cnd_not ?_ | with_reducible refine Cnd_some ?_ | with_reducible refine Cnd_none ?_ | refine U_guard rfl rfl ?_ | with_reducible refine Gd_nt ?_ | with_reducible refine Gd_nf ?_ | with_reducible refine Gd_some ?_ | with_reducible refine Gd_none ?_ | with_reducible refine Gd_want ?_ | ((with_reducible refine Gd_skipT ?_ ?_); exact rfl) | ((with_reducible refine Gd_skipF ?_ ?_); exact rfl))
      exact T_ret1 Tryd.func41 rfl rfl ⟨_, rfl, rfl, rfl⟩
    · repeat (first | with_reducible refine T_seq ?_ | with_reducible refine T_region ?_ | with_reducible refine U_nil ?_ | refine U_ar rfl rfl rfl (wrap_i64 (by omega)) rfl ?_ | refine U_pure E rfl rfl ?_ | with_reducible refine T_skip ?_ | with_reducible refine T_block ?_ | with_reducible refine T_inBlock ?_ | refine T_exit rfl ?_ | refine T_condV rfl ?_ | with_reducible refine Cnd_t ?_ | with_reducible refine Cnd_f ?_ | with_reducible refine Cnd_not ?_ | with_reducible refine Cnd_some ?_ | with_reducible refine Cnd_none ?_ | refine U_guard rfl rfl ?_ | with_reducible refine Gd_nt ?_ | with_reducible refine Gd_nf ?_ | with_reducible refine Gd_some ?_ | with_reducible refine Gd_none ?_ | with_reducible refine Gd_want ?_ | ((with_reducible refine Gd_skipT ?_ ?_); exact rfl) | ((with_reducible refine Gd_skipF ?_ ?_); exact rfl))
      refine Cnd_p (fun hb2 => ?_) (fun hb2 => ?_)
      · repeat (first | with_reducible refine T_seq ?_ | with_reducible refine T_region ?_ | with_reducible refine U_nil ?_ | refine U_ar rfl rfl rfl (wrap_i64 (by omega)) rfl ?_ | refine U_pure E rfl rfl ?_ | with_reducible refine T_skip ?_ | with_reducible refine T_block ?_ | with_reducible refine T_inBlock ?_ | refine T_exit rfl ?_ | refine T_condV rfl ?_ | with_reducible refine Cnd_t ?_ | with_reducible refine Cnd_f ?_ | with_reducible refine Cnd_not ?_ | with_reducible refine Cnd_some ?_ | with_reducible refine Cnd_none ?_ | refine U_guard rfl rfl ?_ | with_reducible refine Gd_nt ?_ | with_reducible refine Gd_nf ?_ | with_reducible refine Gd_some ?_ | with_reducible refine Gd_none ?_ | with_reducible refine Gd_want ?_ | ((with_reducible refine Gd_skipT ?_ ?_); exact rfl) | ((with_reducible refine Gd_skipF ?_ ?_); exact rfl))
        exact T_ret1 Tryd.func41 rfl rfl ⟨_, rfl, rfl, rfl⟩
      · exact absurd ⟨hi, by omega, by omega⟩ hno
  · rw [if_neg hi]
    unfold errV
    repeat (first | with_reducible refine T_seq ?_ | with_reducible refine T_region ?_ | with_reducible refine U_nil ?_ | refine U_ar rfl rfl rfl (wrap_i64 (by omega)) rfl ?_ | refine U_pure E rfl rfl ?_ | with_reducible refine T_skip ?_ | with_reducible refine T_block ?_ | with_reducible refine T_inBlock ?_ | refine T_exit rfl ?_ | refine T_condV rfl ?_ | with_reducible refine Cnd_t ?_ | with_reducible refine Cnd_f ?_ | with_reducible refine Cnd_not ?_ | with_reducible refine Cnd_some ?_ | with_reducible refine Cnd_none ?_ | refine U_guard rfl rfl ?_ | with_reducible refine Gd_nt ?_ | with_reducible refine Gd_nf ?_ | with_reducible refine Gd_some ?_ | with_reducible refine Gd_none ?_ | with_reducible refine Gd_want ?_ | ((with_reducible refine Gd_skipT ?_ ?_); exact rfl) | ((with_reducible refine Gd_skipF ?_ ?_); exact rfl))
    exact T_ret1 Tryd.func41 rfl rfl ⟨_, rfl, rfl, rfl⟩

set_option maxHeartbeats 1000000 in
theorem turn_c (w : World) (F : Nat → Prop) (hb : Nat) (D : Dr) (i bit mask : Nat) (h : IsD w F hb D) (hm : mask < 4294967296) (hi : i < D.l.length) (hbit : bit < 2048) :
    Calls Tryd.prog 41 [ptr hb, .int .i64 i, .int .i64 bit, .int .u32 mask].toArray w (Ret fun r w' => r = errV 0 ∧ Kept F w w' ∧ ∃ s', s'.length = 256 ∧
      (∀ j, j < 2048 → bitAt s' j = (bitAt D.l[i] j ^^ (decide (bit ≤ j) && mask.testBit (j - bit)))) ∧ IsD w' F hb { D with l := D.l.set i s' }) := by
  have hf := fits_c w F hb D i h
  rw [if_pos (by omega)] at hf
  obtain ⟨h0, vl, vw, h1, h2, h3, h4⟩ := h
  have hn1 := h0.n1
  have hn2 := h0.n2
  have hsec := h0.secs
  obtain ⟨g, cap, pad, rfl, hg, hbg, hgl, hgc⟩ := h3.pos hn1
  have hl0 := hsec _ (List.getElem_mem hi)
  refine calls_T Tryd.func41 rfl rfl rfl ?_
  unfold ptr at *
  repeat (first | with_reducible refine T_seq ?_ | with_reducible refine T_region ?_ | with_reducible refine U_nil ?_ | refine U_ar rfl rfl rfl (wrap_i64 (by omega)) rfl ?_ | refine U_pure E rfl rfl ?_ | with_reducible refine T_skip ?_ | with_reducible refine T_block ?_ | with_reducible refine T_inBlock ?_ | refine T_exit rfl ?_ | refine T_condV rfl ?_ | with_reducible refine Cnd_t ?_ | with_reducible refine Cnd_f ?_ | with_reducible refine Cnd_not ?_ | with_reducible refine Cnd_some ?_ | with_reducible refine Cnd_none ?_ | refine U_guard rfl rfl ?_ | with_reducible refine Gd_nt ?_ | with_reducible refine Gd_nf ?_ | with_reducible refine Gd_some ?_ | with_reducible refine Gd_none ?_ | with_reducible refine Gd_want ?_ | ((with_reducible refine Gd_skipT ?_ ?_); exact rfl) | ((with_reducible refine Gd_skipF ?_ ?_); exact rfl))
  refine U_call rfl rfl (Tryd.call70 _) (ret_of hf) ?_
  rintro r w1 ⟨rfl, rfl⟩
  unfold errV
  repeat (first | with_reducible refine T_seq ?_ | with_reducible refine T_region ?_ | with_reducible refine U_nil ?_ | refine U_ar rfl rfl rfl (wrap_i64 (by omega)) rfl ?_ | refine U_pure E rfl rfl ?_ | with_reducible refine T_skip ?_ | with_reducible refine T_block ?_ | with_reducible refine T_inBlock ?_ | refine T_exit rfl ?_ | refine T_condV rfl ?_ | with_reducible refine Cnd_t ?_ | with_reducible refine Cnd_f ?_ | with_reducible refine Cnd_not ?_ | with_reducible refine Cnd_some ?_ | with_reducible refine Cnd_none ?_ | refine U_guard rfl rfl ?_ | with_reducible refine Gd_nt ?_ | with_reducible refine Gd_nf ?_ | with_reducible refine Gd_some ?_ | with_reducible refine Gd_none ?_ | with_reducible refine Gd_want ?_ | ((with_reducible refine Gd_skipT ?_ ?_); exact rfl) | ((with_reducible refine Gd_skipF ?_ ?_); exact rfl))
  refine Gd_p (fun hb1 => ?_) (fun hb1 => ?_)
  · exfalso; omega
  · repeat (first | with_reducible refine T_seq ?_ | with_reducible refine T_region ?_ | with_reducible refine U_nil ?_ | refine U_ar rfl rfl rfl (wrap_i64 (by omega)) rfl ?_ | refine U_pure E rfl rfl ?_ | with_reducible refine T_skip ?_ | with_reducible refine T_block ?_ | with_reducible refine T_inBlock ?_ | refine T_exit rfl ?_ | refine T_condV rfl ?_ | with_reducible refine Cnd_t ?_ | with_reducible refine Cnd_f ?_ | with_reducible refine Cnd_not ?_ | with_reducible refine Cnd_some ?_ | with_reducible refine Cnd_none ?_ | refine U_guard rfl rfl ?_ | with_reducible refine Gd_nt ?_ | with_reducible refine Gd_nf ?_ | with_reducible refine Gd_some ?_ | with_reducible refine Gd_none ?_ | with_reducible refine Gd_want ?_ | ((with_reducible refine Gd_skipT ?_ ?_); exact rfl) | ((with_reducible refine Gd_skipF ?_ ?_); exact rfl))
    refine Cnd_p (fun hb2 => ?_) (fun hb2 => ?_)
    · exfalso; omega
    · repeat (first | with_reducible refine T_seq ?_ | with_reducible refine T_region ?_ | with_reducible refine U_nil ?_ | refine U_ar rfl rfl rfl (wrap_i64 (by omega)) rfl ?_ | refine U_pure E rfl rfl ?_ | with_reducible refine T_skip ?_ | with_reducible refine T_block ?_ | with_reducible refine T_inBlock ?_ | refine T_exit rfl ?_ | refine T_condV rfl ?_ | with_reducible refine Cnd_t ?_ | with_reducible refine Cnd_f ?_ | with_reducible refine Cnd_not ?_ | with_reducible refine Cnd_some ?_ | with_reducible refine Cnd_none ?_ | refine U_guard rfl rfl ?_ | with_reducible refine Gd_nt ?_ | with_reducible refine Gd_nf ?_ | with_reducible refine Gd_some ?_ | with_reducible refine Gd_none ?_ | with_reducible refine Gd_want ?_ | ((with_reducible refine Gd_skipT ?_ ?_); exact rfl) | ((with_reducible refine Gd_skipF ?_ ?_); exact rfl))
      refine T_loop (α := Nat × World) (fun x => [(10, .int .i64 x.1), (3, .int .u32 ((mask / 2 ^ (x.1 - bit) : Nat) : Int)), (1, .int .i64 i), (0, .pointer (some ⟨hb, 0, none⟩))]) (fun x => x.2) (fun x => 2048 - x.1)
        (fun x => bit ≤ x.1 ∧ x.1 ≤ 2048 ∧ Kept (fun b => b = g) w1 x.2 ∧ ∃ s, s.length = 256 ∧ (∀ j, j < 2048 → bitAt s j = (bitAt D.l[i] j ^^ (decide (bit ≤ j ∧ j < x.1) && mask.testBit (j - bit)))) ∧ Blk x.2 g (((D.l.set i s).map encBs).flatten ++ pad) 101) (bit, w1)
        ⟨Nat.le_refl _, Nat.le_of_lt hbit, Kept.refl _ _, D.l[i], hl0, fun j _ => by
          have : ¬ (bit ≤ j ∧ j < bit) := by omega
          simp [this], by rw [List.set_getElem_self]; exact hbg⟩ ⟨rfl, by rw [Nat.sub_self, Nat.pow_zero, Nat.div_one]; rfl, rfl, rfl, trivial⟩ rfl ?_
      rintro ⟨k, w2⟩ ⟨hk1, hk2, hk, s, hs, hbits, hb2'⟩ ih
      dsimp only at hk1 hk2 hk hbits hb2' ⊢
      obtain ⟨M, hM⟩ : ∃ M, mask / 2 ^ (k - bit) = M := ⟨_, rfl⟩
      have hMlt : M < 2 ^ 32 := by rw [← hM]; exact Nat.lt_of_le_of_lt (Nat.div_le_self _ _) hm
      have h22 := h2.mv hk (fun e => hg.2 e.symm)
      have h42 := h4.mv hk (fun b _ hb e => hb.2.2 (by rw [e]; rfl))
      have fin : (M = 0 ∨ k = 2048) → Kept F w1 w2 ∧ ∃ s', s'.length = 256 ∧ (∀ j, j < 2048 → bitAt s' j = (bitAt D.l[i] j ^^ (decide (bit ≤ j) && mask.testBit (j - bit)))) ∧ IsD w2 F hb { D with l := D.l.set i s' } := by
        intro hx
        refine ⟨hk.mono (fun b _ e => by rw [e]; exact hg.1), s, hs, fun j hj => ?_, ?_⟩
        · rw [hbits j hj]
          congr 1
          by_cases hjk : j < k
          · simp [hjk]
          · rcases hx with hx | hx
            · have h5 : mask.testBit (j - bit) = false := by
                refine Nat.testBit_lt_two_pow (Nat.lt_of_lt_of_le (m := 2 ^ (k - bit)) ?_ (Nat.pow_le_pow_right (by decide) (by omega)))
                rw [hx] at hM
                rcases Nat.div_eq_zero_iff.1 hM with h6 | h6
                · have := Nat.pow_pos (n := k - bit) (show 0 < 2 by decide)
                  omega
                · exact h6
              simp [h5]
            · omega
        · refine ⟨⟨by dsimp only; rw [List.length_set]; exact h0.n1, by dsimp only; rw [List.length_set]; exact h0.n2, fun x hx => ?_, fun p hp => by dsimp only; rw [List.length_set]; exact h0.waits p hp, h0.wn, h0.left1, h0.left2⟩, _, _, h1, h22, ?_, h42⟩
          · rcases List.mem_or_eq_of_mem_set hx with h5 | h5
            · exact hsec x h5
            · rw [h5]; exact hs
          · have hss : ∀ x ∈ D.l.set i s, x.length = 256 := fun x hx => by
              rcases List.mem_or_eq_of_mem_set hx with h5 | h5
              · exact hsec x h5
              · rw [h5]; exact hs
            refine ⟨?_, .inr ⟨g, cap, pad, by dsimp only; rw [List.length_set], hg, hb2', ?_, by dsimp only; rw [List.length_set]; exact hgc⟩⟩
            · rw [flat_len (sz := 256) _ (encSegs hss), List.length_map]
            · rw [List.length_append, flat_len (sz := 256) _ (encSegs hss), List.length_map, List.length_set, ← hgl, List.length_append, flat_len (sz := 256) _ (encSegs hsec), List.length_map]
      rw [hM]
      repeat (first | with_reducible refine T_seq ?_ | with_reducible refine T_region ?_ | with_reducible refine U_nil ?_ | refine U_ar rfl rfl rfl (wrap_i64 (by omega)) rfl ?_ | refine U_pure E rfl rfl ?_ | with_reducible refine T_skip ?_ | with_reducible refine T_block ?_ | with_reducible refine T_inBlock ?_ | refine T_exit rfl ?_ | refine T_condV rfl ?_ | with_reducible refine Cnd_t ?_ | with_reducible refine Cnd_f ?_ | with_reducible refine Cnd_not ?_ | with_reducible refine Cnd_some ?_ | with_reducible refine Cnd_none ?_ | refine U_guard rfl rfl ?_ | with_reducible refine Gd_nt ?_ | with_reducible refine Gd_nf ?_ | with_reducible refine Gd_some ?_ | with_reducible refine Gd_none ?_ | with_reducible refine Gd_want ?_ | ((with_reducible refine Gd_skipT ?_ ?_); exact rfl) | ((with_reducible refine Gd_skipF ?_ ?_); exact rfl))
      refine Gd_p (fun hM0 => ?_) (fun hM0 => ?_)
      · repeat (first | with_reducible refine T_seq ?_ | with_reducible refine T_region ?_ | with_reducible refine U_nil ?_ | refine U_ar rfl rfl rfl (wrap_i64 (by omega)) rfl ?_ | refine U_pure E rfl rfl ?_ | with_reducible refine T_skip ?_ | with_reducible refine T_block ?_ | with_reducible refine T_inBlock ?_ | refine T_exit rfl ?_ | refine T_condV rfl ?_ | with_reducible refine Cnd_t ?_ | with_reducible refine Cnd_f ?_ | with_reducible refine Cnd_not ?_ | with_reducible refine Cnd_some ?_ | with_reducible refine Cnd_none ?_ | refine U_guard rfl rfl ?_ | with_reducible refine Gd_nt ?_ | with_reducible refine Gd_nf ?_ | with_reducible refine Gd_some ?_ | with_reducible refine Gd_none ?_ | with_reducible refine Gd_want ?_ | ((with_reducible refine Gd_skipT ?_ ?_); exact rfl) | ((with_reducible refine Gd_skipF ?_ ?_); exact rfl))
        refine Cnd_p (fun hk3 => ?_) (fun hk3 => ?_)
        · have hk3' : k < 2048 := by omega
          have hq : k / 8 < s.length := by omega
          have hil : i < (D.l.set i s).length := by rw [List.length_set]; exact hi
          have hss : ∀ x ∈ D.l.set i s, x.length = 256 := fun x hx => by
            rcases List.mem_or_eq_of_mem_set hx with h5 | h5
            · exact hsec x h5
            · rw [h5]; exact hs
          have hsegs := encSegs hss
          repeat (first | with_reducible refine T_seq ?_ | with_reducible refine T_region ?_ | with_reducible refine U_nil ?_ | refine U_ar rfl rfl rfl (wrap_i64 (by omega)) rfl ?_ | refine U_pure E rfl rfl ?_ | with_reducible refine T_skip ?_ | with_reducible refine T_block ?_ | with_reducible refine T_inBlock ?_ | refine T_exit rfl ?_ | refine T_condV rfl ?_ | with_reducible refine Cnd_t ?_ | with_reducible refine Cnd_f ?_ | with_reducible refine Cnd_not ?_ | with_reducible refine Cnd_some ?_ | with_reducible refine Cnd_none ?_ | refine U_guard rfl rfl ?_ | with_reducible refine Gd_nt ?_ | with_reducible refine Gd_nf ?_ | with_reducible refine Gd_some ?_ | with_reducible refine Gd_none ?_ | with_reducible refine Gd_want ?_ | ((with_reducible refine Gd_skipT ?_ ?_); exact rfl) | ((with_reducible refine Gd_skipF ?_ ?_); exact rfl))
          refine T_tail 19 (by kernel_rfl) (by kernel_rfl) (fun w3 hd3 => ?_); simp only [List.take_succ_cons, List.take_zero, List.drop_succ_cons, List.drop_zero]; (repeat (first | refine V_ar rfl rfl rfl (wrap_i64 (by omega)) rfl ?_ | refine V_pure E rfl rfl ?_ | refine V_guard rfl rfl ?_ | with_reducible refine GdV_want ?_ | ((with_reducible refine GdV_skipT ?_ ?_); exact rfl) | ((with_reducible refine GdV_skipF ?_ ?_); exact rfl)))
          have h23 := h22.mv (hd3.kept none0) (fun x => x)
          have hb3 := hb2'.mv (hd3.kept none0) (fun x => x)
          have hseg : Seg w3 g (i * 256) (encBs s) := by
            have := hb3.seg (i * 256) 256
            rw [flat_part (sz := 256) _ i hsegs (by simpa using hil)] at this
            simpa using this
          have hcell : w3.cell? ⟨g, i * 256 + k / 8, none⟩ = some (.int .u8 s[k / 8].toNat) := hseg (k / 8) _ (get_enc hq)
          have hA : M &&& 1 < 2 := by rw [Nat.and_one_is_mod]; omega
          have h2p : 2 ^ (k % 8) ≤ 2 ^ 7 := Nat.pow_le_pow_right (by decide) (by omega)
          have hsh : (M &&& 1) * 2 ^ (k % 8) < 256 := by
            have : (M &&& 1) * 2 ^ (k % 8) ≤ 1 * 2 ^ 7 := Nat.mul_le_mul (by omega) h2p
            omega
          have hnew : s[k / 8].toNat ^^^ ((M &&& 1) * 2 ^ (k % 8)) < 2 ^ 8 := Nat.xor_lt_two_pow s[k / 8].toNat_lt hsh
          refine V_loadB E (by first | exact fun _ h => h.heap | (intro _ h; subst h; rfl)) (by assumption) rfl rfl rfl (by rfl) rfl ?_
          repeat (first | refine V_ar rfl rfl rfl (wrap_i64 (by omega)) rfl ?_ | refine V_pure E rfl rfl ?_ | refine V_guard rfl rfl ?_ | with_reducible refine GdV_want ?_ | ((with_reducible refine GdV_skipT ?_ ?_); exact rfl) | ((with_reducible refine GdV_skipF ?_ ?_); exact rfl))
          refine V_run rfl rfl rfl (fun a ha w' _ => ro_bin (k' := .i64) (p := (k : Int)) (q := ((8 : Nat) : Int)) (r := .int .i64 (k / 8 : Nat)) rfl rfl (run_quo (by decide) (wrap_i64 (by omega))) a ha) ?_
          refine V_indexS E rfl rfl rfl rfl (by omega) (by omega) (by rw [Int.toNat_natCast, Nat.zero_add]) rfl ?_
          refine V_run rfl rfl rfl (fun a ha w' _ => ro_indexA (o' := i * 256 + k / 8) E rfl rfl rfl rfl (by omega) (by omega) (by rw [Int.toNat_natCast, Nat.mul_one]) a ha) ?_
          refine V_load E rfl rfl rfl (fun w' hw' => (by first | (rw [hw'.cell]; exact hcell) | (subst hw'; exact hcell))) rfl ?_
          repeat (first | refine V_ar rfl rfl rfl (wrap_i64 (by omega)) rfl ?_ | refine V_pure E rfl rfl ?_ | refine V_guard rfl rfl ?_ | with_reducible refine GdV_want ?_ | ((with_reducible refine GdV_skipT ?_ ?_); exact rfl) | ((with_reducible refine GdV_skipF ?_ ?_); exact rfl))
          refine V_run rfl rfl rfl (fun a ha w' _ => ro_bin (k' := .u32) (p := (M : Int)) (q := ((1 : Nat) : Int)) (r := .int .u32 (M &&& 1 : Nat)) rfl rfl (run_and rfl hMlt (by decide)) a ha) ?_
          repeat (first | refine V_ar rfl rfl rfl (wrap_i64 (by omega)) rfl ?_ | refine V_pure E rfl rfl ?_ | refine V_guard rfl rfl ?_ | with_reducible refine GdV_want ?_ | ((with_reducible refine GdV_skipT ?_ ?_); exact rfl) | ((with_reducible refine GdV_skipF ?_ ?_); exact rfl))
          refine V_run rfl rfl rfl (fun a ha w' _ => ro_bin (k' := .i64) (p := (k : Int)) (q := ((8 : Nat) : Int)) (r := .int .i64 (k % 8 : Nat)) rfl rfl (run_rem (by decide)) a ha) ?_
          refine V_run rfl rfl rfl (fun a ha w' _ => ro_bin (k' := .i64) (p := IntKind.u8.wrap ((M &&& 1 : Nat) : Int)) (q := ((k % 8 : Nat) : Int)) (r := .int .u8 ((M &&& 1) * 2 ^ (k % 8) : Nat)) rfl rfl (by rw [wrap_nat rfl (Nat.lt_trans hA (by decide))]; exact run_shl .i64 rfl (by show k % 8 ≤ 8; omega) hsh) a ha) ?_
          refine V_run rfl rfl rfl (fun a ha w' _ => ro_bin (k' := .u8) (p := (s[k / 8].toNat : Int)) (q := (((M &&& 1) * 2 ^ (k % 8) : Nat) : Int)) (r := .int .u8 (s[k / 8].toNat ^^^ ((M &&& 1) * 2 ^ (k % 8)) : Nat)) rfl rfl (run_xor rfl s[k / 8].toNat_lt hsh) a ha) ?_
          refine V_indexS E rfl rfl rfl rfl (by omega) (by omega) (by rw [Int.toNat_natCast, Nat.zero_add]) rfl ?_
          refine V_run rfl rfl rfl (fun a ha w' _ => ro_indexA (o' := i * 256 + k / 8) E rfl rfl rfl rfl (by omega) (by omega) (by rw [Int.toNat_natCast, Nat.mul_one]) a ha) ?_
          refine V_nilT ?_
          have hfit : i * 256 + k / 8 < (((D.l.set i s).map encBs).flatten ++ pad).length := by
            have : (i + 1) * 256 ≤ D.l.length * 256 := Nat.mul_le_mul_right _ hi
            rw [List.length_append, flat_len (sz := 256) _ hsegs, List.length_map, List.length_set]
            omega
          refine U_store E (hb3) rfl rfl rfl (hfit) rfl ?_
          intro w4 hu4
          have hb4 := hu4.blk
          rw [flat_cell (sz := 256) _ i (k / 8) _ pad hsegs (by simpa using hil) (by omega)] at hb4
          have hnb : Value.int .u8 (s[k / 8].toNat ^^^ ((M &&& 1) * 2 ^ (k % 8)) : Nat) = encB (UInt8.ofNat (s[k / 8].toNat ^^^ ((M &&& 1) * 2 ^ (k % 8)))) := by
            rw [encB, UInt8.toNat_ofNat', Nat.mod_eq_of_lt hnew]
          have hgi : ((D.l.set i s).map encBs)[i]'(by simpa using hil) = encBs s := by simp
          rw [hgi, hnb, ← encBs_set, ← List.map_set, List.set_set] at hb4
          repeat (first | with_reducible refine T_seq ?_ | with_reducible refine T_region ?_ | with_reducible refine U_nil ?_ | refine U_ar rfl rfl rfl (wrap_i64 (by omega)) rfl ?_ | refine U_pure E rfl rfl ?_ | with_reducible refine T_skip ?_ | with_reducible refine T_block ?_ | with_reducible refine T_inBlock ?_ | refine T_exit rfl ?_ | refine T_condV rfl ?_ | with_reducible refine Cnd_t ?_ | with_reducible refine Cnd_f ?_ | with_reducible refine Cnd_not ?_ | with_reducible refine Cnd_some ?_ | with_reducible refine Cnd_none ?_ | refine U_guard rfl rfl ?_ | with_reducible refine Gd_nt ?_ | with_reducible refine Gd_nf ?_ | with_reducible refine Gd_some ?_ | with_reducible refine Gd_none ?_ | with_reducible refine Gd_want ?_ | ((with_reducible refine Gd_skipT ?_ ?_); exact rfl) | ((with_reducible refine Gd_skipF ?_ ?_); exact rfl))
          refine U_run rfl rfl rfl (ro_bin (k' := .u64) (p := (M : Int)) (q := ((1 : Nat) : Int)) (r := .int .u32 (M / 2 ^ 1 : Nat)) rfl rfl (run_shr .u64 (by decide))) ?_
          repeat (first | with_reducible refine T_seq ?_ | with_reducible refine T_region ?_ | with_reducible refine U_nil ?_ | refine U_ar rfl rfl rfl (wrap_i64 (by omega)) rfl ?_ | refine U_pure E rfl rfl ?_ | with_reducible refine T_skip ?_ | with_reducible refine T_block ?_ | with_reducible refine T_inBlock ?_ | refine T_exit rfl ?_ | refine T_condV rfl ?_ | with_reducible refine Cnd_t ?_ | with_reducible refine Cnd_f ?_ | with_reducible refine Cnd_not ?_ | with_reducible refine Cnd_some ?_ | with_reducible refine Cnd_none ?_ | refine U_guard rfl rfl ?_ | with_reducible refine Gd_nt ?_ | with_reducible refine Gd_nf ?_ | with_reducible refine Gd_some ?_ | with_reducible refine Gd_none ?_ | with_reducible refine Gd_want ?_ | ((with_reducible refine Gd_skipT ?_ ?_); exact rfl) | ((with_reducible refine Gd_skipF ?_ ?_); exact rfl))
          refine T.less ?_ (ih (k + 1, w4) ?_ ?_)
          · have e1 : mask / 2 ^ (k + 1 - bit) = M / 2 ^ 1 := by
              rw [← hM, Nat.div_div_eq_div_mul, ← Nat.pow_succ, show k + 1 - bit = k - bit + 1 by omega]
            dsimp only
            rw [e1]
            exact ⟨rfl, rfl, rfl, rfl, trivial⟩
          · refine ⟨by dsimp only; omega, by dsimp only; omega, (hk.tr (hd3.kept none0) (fun _ _ x => x.elim)).tr hu4.kept (fun j _ e => e), _, by rw [List.length_set]; exact hs, fun j hj => ?_, hb4⟩
            have hM0' : M.testBit 0 = mask.testBit (k - bit) := by rw [← hM, Nat.testBit_div_two_pow, Nat.zero_add]
            rw [bit_step hq, hbits j hj, hM0', Bool.xor_assoc]
            congr 1
            by_cases hjk : j = k
            · subst hjk
              simp [hk1]
            · have e2 : (bit ≤ j ∧ j < k + 1) ↔ (bit ≤ j ∧ j < k) := by omega
              simp [hjk, e2]
          · dsimp only
            omega
        · repeat (first | with_reducible refine T_seq ?_ | with_reducible refine T_region ?_ | with_reducible refine U_nil ?_ | refine U_ar rfl rfl rfl (wrap_i64 (by omega)) rfl ?_ | refine U_pure E rfl rfl ?_ | with_reducible refine T_skip ?_ | with_reducible refine T_block ?_ | with_reducible refine T_inBlock ?_ | refine T_exit rfl ?_ | refine T_condV rfl ?_ | with_reducible refine Cnd_t ?_ | with_reducible refine Cnd_f ?_ | with_reducible refine Cnd_not ?_ | with_reducible refine Cnd_some ?_ | with_reducible refine Cnd_none ?_ | refine U_guard rfl rfl ?_ | with_reducible refine Gd_nt ?_ | with_reducible refine Gd_nf ?_ | with_reducible refine Gd_some ?_ | with_reducible refine Gd_none ?_ | with_reducible refine Gd_want ?_ | ((with_reducible refine Gd_skipT ?_ ?_); exact rfl) | ((with_reducible refine Gd_skipF ?_ ?_); exact rfl))
          obtain ⟨f1, f2⟩ := fin (.inr (by omega))
          exact T_ret1 Tryd.func41 rfl rfl ⟨_, rfl, rfl, f1, f2⟩
      · have hM0' : M = 0 := by omega
        repeat (first | with_reducible refine T_seq ?_ | with_reducible refine T_region ?_ | with_reducible refine U_nil ?_ | refine U_ar rfl rfl rfl (wrap_i64 (by omega)) rfl ?_ | refine U_pure E rfl rfl ?_ | with_reducible refine T_skip ?_ | with_reducible refine T_block ?_ | with_reducible refine T_inBlock ?_ | refine T_exit rfl ?_ | refine T_condV rfl ?_ | with_reducible refine Cnd_t ?_ | with_reducible refine Cnd_f ?_ | with_reducible refine Cnd_not ?_ | with_reducible refine Cnd_some ?_ | with_reducible refine Cnd_none ?_ | refine U_guard rfl rfl ?_ | with_reducible refine Gd_nt ?_ | with_reducible refine Gd_nf ?_ | with_reducible refine Gd_some ?_ | with_reducible refine Gd_none ?_ | with_reducible refine Gd_want ?_ | ((with_reducible refine Gd_skipT ?_ ?_); exact rfl) | ((with_reducible refine Gd_skipF ?_ ?_); exact rfl))
        obtain ⟨f1, f2⟩ := fin (.inl hM0')
        exact T_ret1 Tryd.func41 rfl rfl ⟨_, rfl, rfl, f1, f2⟩
end Go.Proofs.YtoefhdaenaiomaaDoor
