/- Turn. -/
import Derived.Test.YtoefhdaenaiomaaDoorPd4
import Derived.Test.YtoefhdaenaiomaaDoorPd3
import Derived.Test.YtoefhdaenaiomaaDoorPd11
import Derived.Test.YtoefhdaenaiomaaDoorPd9
import Derived.Deep.Matrix
import Derived.Test.YtoefhdaenaiomaaDoorRows
import Derived.ChangeSame
import Derived.ChangeVars
import Derived.JoinedOf
import Derived.RowKitTokens
import Derived.LaidLaws
import Derived.LaidHandle
import Derived.Stop.Joined
set_option linter.unusedVariables false
set_option linter.unusedSimpArgs false
namespace Go.Proofs.YtoefhdaenaiomaaDoor
open Go
set_option maxRecDepth 20000

theorem turn_no (w : World) (F : Nat → Prop) (hb : Nat) (D : Dr) (i bit : Int) (mask : Int) (h : IsD w F hb D) (hno : ¬ ((0 ≤ i ∧ i < D.l.length) ∧ 0 ≤ bit ∧ bit < 2048)) :
    Calls Tryd.prog 41 [ptr hb, .int .i64 i, .int .i64 bit, .int .u32 mask].toArray w (Ret fun r w' => r = errV 7 ∧ w' = w) := by
  have hf := fits_c w F hb D i h
  refine calls_T Tryd.func41 rfl rfl rfl ?_
  unfold ptr at *
  repeat (first | (with_reducible first | apply T_seq | apply T_region | apply U_nil | apply T_skip | apply T_block | apply T_inBlock | apply Cnd_t | apply Cnd_f | apply Cnd_not | apply Cnd_some | apply Cnd_none | apply Gd_nt | apply Gd_nf | apply Gd_some | apply Gd_none | apply Gd_want) | refine U_ar rfl rfl rfl (wrap_i64 (by omega)) rfl ?_ | refine U_pure E rfl rfl ?_ | refine T_exit rfl ?_ | refine T_condV rfl ?_ | refine U_guard rfl rfl ?_ | ((with_reducible refine Gd_skipT ?_ ?_); exact rfl) | ((with_reducible refine Gd_skipF ?_ ?_); exact rfl))
  refine U_call rfl rfl (Tryd.call70 _) (ret_of hf) ?_
  rintro r w1 ⟨rfl, rfl⟩
  by_cases hi : 0 ≤ i ∧ i < D.l.length
  · rw [if_pos hi]
    unfold errV
    repeat (first | (with_reducible first | apply T_seq | apply T_region | apply U_nil | apply T_skip | apply T_block | apply T_inBlock | apply Cnd_t | apply Cnd_f | apply Cnd_not | apply Cnd_some | apply Cnd_none | apply Gd_nt | apply Gd_nf | apply Gd_some | apply Gd_none | apply Gd_want) | refine U_ar rfl rfl rfl (wrap_i64 (by omega)) rfl ?_ | refine U_pure E rfl rfl ?_ | refine T_exit rfl ?_ | refine T_condV rfl ?_ | refine U_guard rfl rfl ?_ | ((with_reducible refine Gd_skipT ?_ ?_); exact rfl) | ((with_reducible refine Gd_skipF ?_ ?_); exact rfl))
    refine Gd_p (fun hb1 => ?_) (fun hb1 => ?_)
    · repeat (first | (with_reducible first | apply T_seq | apply T_region | apply U_nil | apply T_skip | apply T_block | apply T_inBlock | apply Cnd_t | apply Cnd_f | apply Cnd_not | apply Cnd_some | apply Cnd_none | apply Gd_nt | apply Gd_nf | apply Gd_some | apply Gd_none | apply Gd_want) | refine U_ar rfl rfl rfl (wrap_i64 (by omega)) rfl ?_ | refine U_pure E rfl rfl ?_ | refine T_exit rfl ?_ | refine T_condV rfl ?_ | refine U_guard rfl rfl ?_ | ((with_reducible refine Gd_skipT ?_ ?_); exact rfl) | ((with_reducible refine Gd_skipF ?_ ?_); exact rfl))
      exact T_ret1 Tryd.func41 rfl rfl ⟨_, rfl, rfl, rfl⟩
    · repeat (first | (with_reducible first | apply T_seq | apply T_region | apply U_nil | apply T_skip | apply T_block | apply T_inBlock | apply Cnd_t | apply Cnd_f | apply Cnd_not | apply Cnd_some | apply Cnd_none | apply Gd_nt | apply Gd_nf | apply Gd_some | apply Gd_none | apply Gd_want) | refine U_ar rfl rfl rfl (wrap_i64 (by omega)) rfl ?_ | refine U_pure E rfl rfl ?_ | refine T_exit rfl ?_ | refine T_condV rfl ?_ | refine U_guard rfl rfl ?_ | ((with_reducible refine Gd_skipT ?_ ?_); exact rfl) | ((with_reducible refine Gd_skipF ?_ ?_); exact rfl))
      refine Cnd_p (fun hb2 => ?_) (fun hb2 => ?_)
      · repeat (first | (with_reducible first | apply T_seq | apply T_region | apply U_nil | apply T_skip | apply T_block | apply T_inBlock | apply Cnd_t | apply Cnd_f | apply Cnd_not | apply Cnd_some | apply Cnd_none | apply Gd_nt | apply Gd_nf | apply Gd_some | apply Gd_none | apply Gd_want) | refine U_ar rfl rfl rfl (wrap_i64 (by omega)) rfl ?_ | refine U_pure E rfl rfl ?_ | refine T_exit rfl ?_ | refine T_condV rfl ?_ | refine U_guard rfl rfl ?_ | ((with_reducible refine Gd_skipT ?_ ?_); exact rfl) | ((with_reducible refine Gd_skipF ?_ ?_); exact rfl))
        exact T_ret1 Tryd.func41 rfl rfl ⟨_, rfl, rfl, rfl⟩
      · exact absurd ⟨hi, by omega, by omega⟩ hno
  · rw [if_neg hi]
    unfold errV
    repeat (first | (with_reducible first | apply T_seq | apply T_region | apply U_nil | apply T_skip | apply T_block | apply T_inBlock | apply Cnd_t | apply Cnd_f | apply Cnd_not | apply Cnd_some | apply Cnd_none | apply Gd_nt | apply Gd_nf | apply Gd_some | apply Gd_none | apply Gd_want) | refine U_ar rfl rfl rfl (wrap_i64 (by omega)) rfl ?_ | refine U_pure E rfl rfl ?_ | refine T_exit rfl ?_ | refine T_condV rfl ?_ | refine U_guard rfl rfl ?_ | ((with_reducible refine Gd_skipT ?_ ?_); exact rfl) | ((with_reducible refine Gd_skipF ?_ ?_); exact rfl))
    exact T_ret1 Tryd.func41 rfl rfl ⟨_, rfl, rfl, rfl⟩

set_option maxHeartbeats 1000000 in
theorem turn_c (w : World) (F : Nat → Prop) (hb : Nat) (D : Dr) (i bit mask : Nat) (h : IsD w F hb D) (hm : mask < 4294967296) (hi : i < D.l.length) (hbit : bit < 2048) :
    Calls Tryd.prog 41 [ptr hb, .int .i64 i, .int .i64 bit, .int .u32 mask].toArray w (Ret fun r w' => r = errV 0 ∧ Kept F w w' ∧ ∃ s', s'.length = 256 ∧
      (∀ j, j < 2048 → bitAt s' j = (bitAt D.l[i] j ^^ (decide (bit ≤ j) && mask.testBit (j - bit)))) ∧ IsD w' F hb { D with l := D.l.set i s' }) := by
  have hf := fits_c w F hb D i h
  rw [if_pos (by omega)] at hf
  obtain ⟨h0, vl, vw, h1, h2, h3, h4⟩ := h
  have hn1 := h0.n1
  have hn2 := h0.n2
  have hsec := h0.secs
  obtain ⟨g, cap, pad, rfl, hg, hbg, hgl, hgc⟩ := h3.pos hn1
  have hl0 := hsec _ (List.getElem_mem hi)
  refine calls_T Tryd.func41 rfl rfl rfl ?_
  unfold ptr at *
  repeat (first | (with_reducible first | apply T_seq | apply T_region | apply U_nil | apply T_skip | apply T_block | apply T_inBlock | apply Cnd_t | apply Cnd_f | apply Cnd_not | apply Cnd_some | apply Cnd_none | apply Gd_nt | apply Gd_nf | apply Gd_some | apply Gd_none | apply Gd_want) | refine U_ar rfl rfl rfl (wrap_i64 (by omega)) rfl ?_ | refine U_pure E rfl rfl ?_ | refine T_exit rfl ?_ | refine T_condV rfl ?_ | refine U_guard rfl rfl ?_ | ((with_reducible refine Gd_skipT ?_ ?_); exact rfl) | ((with_reducible refine Gd_skipF ?_ ?_); exact rfl))
  refine U_call rfl rfl (Tryd.call70 _) (ret_of hf) ?_
  rintro r w1 ⟨rfl, rfl⟩
  unfold errV
  repeat (first | (with_reducible first | apply T_seq | apply T_region | apply U_nil | apply T_skip | apply T_block | apply T_inBlock | apply Cnd_t | apply Cnd_f | apply Cnd_not | apply Cnd_some | apply Cnd_none | apply Gd_nt | apply Gd_nf | apply Gd_some | apply Gd_none | apply Gd_want) | refine U_ar rfl rfl rfl (wrap_i64 (by omega)) rfl ?_ | refine U_pure E rfl rfl ?_ | refine T_exit rfl ?_ | refine T_condV rfl ?_ | refine U_guard rfl rfl ?_ | ((with_reducible refine Gd_skipT ?_ ?_); exact rfl) | ((with_reducible refine Gd_skipF ?_ ?_); exact rfl))
  refine Gd_p (fun hb1 => ?_) (fun hb1 => ?_)
  · exfalso; omega
  · repeat (first | (with_reducible first | apply T_seq | apply T_region | apply U_nil | apply T_skip | apply T_block | apply T_inBlock | apply Cnd_t | apply Cnd_f | apply Cnd_not | apply Cnd_some | apply Cnd_none | apply Gd_nt | apply Gd_nf | apply Gd_some | apply Gd_none | apply Gd_want) | refine U_ar rfl rfl rfl (wrap_i64 (by omega)) rfl ?_ | refine U_pure E rfl rfl ?_ | refine T_exit rfl ?_ | refine T_condV rfl ?_ | refine U_guard rfl rfl ?_ | ((with_reducible refine Gd_skipT ?_ ?_); exact rfl) | ((with_reducible refine Gd_skipF ?_ ?_); exact rfl))
    refine Cnd_p (fun hb2 => ?_) (fun hb2 => ?_)
    · exfalso; omega
    · repeat (first | (with_reducible first | apply T_seq | apply T_region | apply U_nil | apply T_skip | apply T_block | apply T_inBlock | apply Cnd_t | apply Cnd_f | apply Cnd_not | apply Cnd_some | apply Cnd_none | apply Gd_nt | apply Gd_nf | apply Gd_some | apply Gd_none | apply Gd_want) | refine U_ar rfl rfl rfl (wrap_i64 (by omega)) rfl ?_ | refine U_pure E rfl rfl ?_ | refine T_exit rfl ?_ | refine T_condV rfl ?_ | refine U_guard rfl rfl ?_ | ((with_reducible refine Gd_skipT ?_ ?_); exact rfl) | ((with_reducible refine Gd_skipF ?_ ?_); exact rfl))
      refine T_loop (α := Nat × World) (fun x => [(10, .int .i64 x.1), (3, .int .u32 ((mask / 2 ^ (x.1 - bit) : Nat) : Int)), (1, .int .i64 i), (0, .pointer (some ⟨hb, 0, none⟩))]) (fun x => x.2) (fun x => 2048 - x.1)
        (fun x => bit ≤ x.1 ∧ x.1 ≤ 2048 ∧ Kept (fun b => b = g) w1 x.2 ∧ ∃ s, s.length = 256 ∧ (∀ j, j < 2048 → bitAt s j = (bitAt D.l[i] j ^^ (decide (bit ≤ j ∧ j < x.1) && mask.testBit (j - bit)))) ∧ Blk x.2 g (((D.l.set i s).map encBs).flatten ++ pad) 101) (bit, w1)
        ⟨Nat.le_refl _, Nat.le_of_lt hbit, Kept.refl _ _, D.l[i], hl0, fun j _ => by
          have : ¬ (bit ≤ j ∧ j < bit) := by omega
          simp [this], by rw [List.set_getElem_self]; exact hbg⟩ ⟨rfl, by rw [Nat.sub_self, Nat.pow_zero, Nat.div_one]; rfl, rfl, rfl, trivial⟩ rfl ?_
      rintro ⟨k, w2⟩ ⟨hk1, hk2, hk, s, hs, hbits, hb2'⟩ ih
      dsimp only at hk1 hk2 hk hbits hb2' ⊢
      obtain ⟨M, hM⟩ : ∃ M, mask / 2 ^ (k - bit) = M := ⟨_, rfl⟩
      have hMlt : M < 2 ^ 32 := by rw [← hM]; exact Nat.lt_of_le_of_lt (Nat.div_le_self _ _) hm
      have h22 := h2.mv hk (fun e => hg.2 e.symm)
      have h42 := h4.mv hk (fun b _ hb e => hb.2.2 (by rw [e]; rfl))
      have fin : (M = 0 ∨ k = 2048) → Kept F w1 w2 ∧ ∃ s', s'.length = 256 ∧ (∀ j, j < 2048 → bitAt s' j = (bitAt D.l[i] j ^^ (decide (bit ≤ j) && mask.testBit (j - bit)))) ∧ IsD w2 F hb { D with l := D.l.set i s' } := by
        intro hx
        refine ⟨hk.mono (fun b _ e => by rw [e]; exact hg.1), s, hs, fun j hj => ?_, ?_⟩
        · rw [hbits j hj]
          congr 1
          by_cases hjk : j < k
          · simp [hjk]
          · rcases hx with hx | hx
            · have h5 : mask.testBit (j - bit) = false := by
                refine Nat.testBit_lt_two_pow (Nat.lt_of_lt_of_le (m := 2 ^ (k - bit)) ?_ (Nat.pow_le_pow_right (by decide) (by omega)))
                rw [hx] at hM
                rcases Nat.div_eq_zero_iff.1 hM with h6 | h6
                · have := Nat.pow_pos (n := k - bit) (show 0 < 2 by decide)
                  omega
                · exact h6
              simp [h5]
            · omega
        · refine ⟨⟨by dsimp only; rw [List.length_set]; exact h0.n1, by dsimp only; rw [List.length_set]; exact h0.n2, fun x hx => ?_, fun p hp => by dsimp only; rw [List.length_set]; exact h0.waits p hp, h0.wn, h0.left1, h0.left2⟩, _, _, h1, h22, ?_, h42⟩
          · rcases List.mem_or_eq_of_mem_set hx with h5 | h5
            · exact hsec x h5
            · rw [h5]; exact hs
          · have hss : ∀ x ∈ D.l.set i s, x.length = 256 := fun x hx => by
              rcases List.mem_or_eq_of_mem_set hx with h5 | h5
              · exact hsec x h5
              · rw [h5]; exact hs
            refine ⟨?_, .inr ⟨g, cap, pad, by dsimp only; rw [List.length_set], hg, hb2', ?_, by dsimp only; rw [List.length_set]; exact hgc⟩⟩
            · rw [flat_len (sz := 256) _ (encSegs hss), List.length_map]
            · rw [List.length_append, flat_len (sz := 256) _ (encSegs hss), List.length_map, List.length_set, ← hgl, List.length_append, flat_len (sz := 256) _ (encSegs hsec), List.length_map]
      rw [hM]
      repeat (first | (with_reducible first | apply T_seq | apply T_region | apply U_nil | apply T_skip | apply T_block | apply T_inBlock | apply Cnd_t | apply Cnd_f | apply Cnd_not | apply Cnd_some | apply Cnd_none | apply Gd_nt | apply Gd_nf | apply Gd_some | apply Gd_none | apply Gd_want) | refine U_ar rfl rfl rfl (wrap_i64 (by omega)) rfl ?_ | refine U_pure E rfl rfl ?_ | refine T_exit rfl ?_ | refine T_condV rfl ?_ | refine U_guard rfl rfl ?_ | ((with_reducible refine Gd_skipT ?_ ?_); exact rfl) | ((with_reducible refine Gd_skipF ?_ ?_); exact rfl))
      refine Gd_p (fun hM0 => ?_) (fun hM0 => ?_)
      · repeat (first | (with_reducible first | apply T_seq | apply T_region | apply U_nil | apply T_skip | apply T_block | apply T_inBlock | apply Cnd_t | apply Cnd_f | apply Cnd_not | apply Cnd_some | apply Cnd_none | apply Gd_nt | apply Gd_nf | apply Gd_some | apply Gd_none | apply Gd_want) | refine U_ar rfl rfl rfl (wrap_i64 (by omega)) rfl ?_ | refine U_pure E rfl rfl ?_ | refine T_exit rfl ?_ | refine T_condV rfl ?_ | refine U_guard rfl rfl ?_ | ((with_reducible refine Gd_skipT ?_ ?_); exact rfl) | ((with_reducible refine Gd_skipF ?_ ?_); exact rfl))
        refine Cnd_p (fun hk3 => ?_) (fun hk3 => ?_)
        · have hk3' : k < 2048 := by omega
          have hq : k / 8 < s.length := by omega
          have hil : i < (D.l.set i s).length := by rw [List.length_set]; exact hi
          have hss : ∀ x ∈ D.l.set i s, x.length = 256 := fun x hx => by
            rcases List.mem_or_eq_of_mem_set hx with h5 | h5
            · exact hsec x h5
            · rw [h5]; exact hs
          have hsegs := encSegs hss
          repeat (first | (with_reducible first | apply T_seq | apply T_region | apply U_nil | apply T_skip | apply T_block | apply T_inBlock | apply Cnd_t | apply Cnd_f | apply Cnd_not | apply Cnd_some | apply Cnd_none | apply Gd_nt | apply Gd_nf | apply Gd_some | apply Gd_none | apply Gd_want) | refine U_ar rfl rfl rfl (wrap_i64 (by omega)) rfl ?_ | refine U_pure E rfl rfl ?_ | refine T_exit rfl ?_ | refine T_condV rfl ?_ | refine U_guard rfl rfl ?_ | ((with_reducible refine Gd_skipT ?_ ?_); exact rfl) | ((with_reducible refine Gd_skipF ?_ ?_); exact rfl))
          refine T_tail 19 (by kernel_rfl) (by kernel_rfl) (fun w3 hd3 => ?_); simp only [List.take_succ_cons, List.take_zero, List.drop_succ_cons, List.drop_zero]; (repeat (first | refine V_ar rfl rfl rfl (wrap_i64 (by omega)) rfl ?_ | refine V_pure E rfl rfl ?_ | refine V_guard rfl rfl ?_ | with_reducible refine GdV_want ?_ | ((with_reducible refine GdV_skipT ?_ ?_); exact rfl) | ((with_reducible refine GdV_skipF ?_ ?_); exact rfl)))
          have h23 := h22.mv (hd3.kept none0) (fun x => x)
          have hb3 := hb2'.mv (hd3.kept none0) (fun x => x)
          have hseg : Seg w3 g (i * 256) (encBs s) := by
            have := hb3.seg (i * 256) 256
            rw [flat_part (sz := 256) _ i hsegs (by simpa using hil)] at this
            simpa using this
          have hcell : w3.cell? ⟨g, i * 256 + k / 8, none⟩ = some (.int .u8 s[k / 8].toNat) := hseg (k / 8) _ (get_enc hq)
          have hA : M &&& 1 < 2 := by rw [Nat.and_one_is_mod]; omega
          have h2p : 2 ^ (k % 8) ≤ 2 ^ 7 := Nat.pow_le_pow_right (by decide) (by omega)
          have hsh : (M &&& 1) * 2 ^ (k % 8) < 256 := by
            have : (M &&& 1) * 2 ^ (k % 8) ≤ 1 * 2 ^ 7 := Nat.mul_le_mul (by omega) h2p
            omega
          have hnew : s[k / 8].toNat ^^^ ((M &&& 1) * 2 ^ (k % 8)) < 2 ^ 8 := Nat.xor_lt_two_pow s[k / 8].toNat_lt hsh
          refine V_loadB E (by first | exact fun _ h => h.heap | (intro _ h; subst h; rfl)) (by assumption) rfl rfl rfl (by rfl) rfl ?_
          repeat (first | refine V_ar rfl rfl rfl (wrap_i64 (by omega)) rfl ?_ | refine V_pure E rfl rfl ?_ | refine V_guard rfl rfl ?_ | with_reducible refine GdV_want ?_ | ((with_reducible refine GdV_skipT ?_ ?_); exact rfl) | ((with_reducible refine GdV_skipF ?_ ?_); exact rfl))
          refine V_run rfl rfl rfl (fun a ha w' _ => ro_bin (k' := .i64) (p := (k : Int)) (q := ((8 : Nat) : Int)) (r := .int .i64 (k / 8 : Nat)) rfl rfl (run_quo (by decide) (wrap_i64 (by omega))) a ha) ?_
          refine V_indexS E rfl rfl rfl rfl (by omega) (by omega) (by rw [Int.toNat_natCast, Nat.zero_add]) rfl ?_
          refine V_run rfl rfl rfl (fun a ha w' _ => ro_indexA (o' := i * 256 + k / 8) E rfl rfl rfl rfl (by omega) (by omega) (by rw [Int.toNat_natCast, Nat.mul_one]) a ha) ?_
          refine V_load E rfl rfl rfl (fun w' hw' => (by first | (rw [hw'.cell]; exact hcell) | (subst hw'; exact hcell))) rfl ?_
          repeat (first | refine V_ar rfl rfl rfl (wrap_i64 (by omega)) rfl ?_ | refine V_pure E rfl rfl ?_ | refine V_guard rfl rfl ?_ | with_reducible refine GdV_want ?_ | ((with_reducible refine GdV_skipT ?_ ?_); exact rfl) | ((with_reducible refine GdV_skipF ?_ ?_); exact rfl))
          refine V_run rfl rfl rfl (fun a ha w' _ => ro_bin (k' := .u32) (p := (M : Int)) (q := ((1 : Nat) : Int)) (r := .int .u32 (M &&& 1 : Nat)) rfl rfl (run_and rfl hMlt (by decide)) a ha) ?_
          repeat (first | refine V_ar rfl rfl rfl (wrap_i64 (by omega)) rfl ?_ | refine V_pure E rfl rfl ?_ | refine V_guard rfl rfl ?_ | with_reducible refine GdV_want ?_ | ((with_reducible refine GdV_skipT ?_ ?_); exact rfl) | ((with_reducible refine GdV_skipF ?_ ?_); exact rfl))
          refine V_run rfl rfl rfl (fun a ha w' _ => ro_bin (k' := .i64) (p := (k : Int)) (q := ((8 : Nat) : Int)) (r := .int .i64 (k % 8 : Nat)) rfl rfl (run_rem (by decide)) a ha) ?_
          refine V_run rfl rfl rfl (fun a ha w' _ => ro_bin (k' := .i64) (p := IntKind.u8.wrap ((M &&& 1 : Nat) : Int)) (q := ((k % 8 : Nat) : Int)) (r := .int .u8 ((M &&& 1) * 2 ^ (k % 8) : Nat)) rfl rfl (by rw [wrap_nat rfl (Nat.lt_trans hA (by decide))]; exact run_shl .i64 rfl (by show k % 8 ≤ 8; omega) hsh) a ha) ?_
          refine V_run rfl rfl rfl (fun a ha w' _ => ro_bin (k' := .u8) (p := (s[k / 8].toNat : Int)) (q := (((M &&& 1) * 2 ^ (k % 8) : Nat) : Int)) (r := .int .u8 (s[k / 8].toNat ^^^ ((M &&& 1) * 2 ^ (k % 8)) : Nat)) rfl rfl (run_xor rfl s[k / 8].toNat_lt hsh) a ha) ?_
          refine V_indexS E rfl rfl rfl rfl (by omega) (by omega) (by rw [Int.toNat_natCast, Nat.zero_add]) rfl ?_
          refine V_run rfl rfl rfl (fun a ha w' _ => ro_indexA (o' := i * 256 + k / 8) E rfl rfl rfl rfl (by omega) (by omega) (by rw [Int.toNat_natCast, Nat.mul_one]) a ha) ?_
          refine V_nilT ?_
          have hfit : i * 256 + k / 8 < (((D.l.set i s).map encBs).flatten ++ pad).length := by
            have : (i + 1) * 256 ≤ D.l.length * 256 := Nat.mul_le_mul_right _ hi
            rw [List.length_append, flat_len (sz := 256) _ hsegs, List.length_map, List.length_set]
            omega
          refine U_store E (hb3) rfl rfl rfl (hfit) rfl ?_
          intro w4 hu4
          have hb4 := hu4.blk
          rw [flat_cell (sz := 256) _ i (k / 8) _ pad hsegs (by simpa using hil) (by omega)] at hb4
          have hnb : Value.int .u8 (s[k / 8].toNat ^^^ ((M &&& 1) * 2 ^ (k % 8)) : Nat) = encB (UInt8.ofNat (s[k / 8].toNat ^^^ ((M &&& 1) * 2 ^ (k % 8)))) := by
            rw [encB, UInt8.toNat_ofNat', Nat.mod_eq_of_lt hnew]
          have hgi : ((D.l.set i s).map encBs)[i]'(by simpa using hil) = encBs s := by simp
          rw [hgi, hnb, ← encBs_set, ← List.map_set, List.set_set] at hb4
          repeat (first | (with_reducible first | apply T_seq | apply T_region | apply U_nil | apply T_skip | apply T_block | apply T_inBlock | apply Cnd_t | apply Cnd_f | apply Cnd_not | apply Cnd_some | apply Cnd_none | apply Gd_nt | apply Gd_nf | apply Gd_some | apply Gd_none | apply Gd_want) | refine U_ar rfl rfl rfl (wrap_i64 (by omega)) rfl ?_ | refine U_pure E rfl rfl ?_ | refine T_exit rfl ?_ | refine T_condV rfl ?_ | refine U_guard rfl rfl ?_ | ((with_reducible refine Gd_skipT ?_ ?_); exact rfl) | ((with_reducible refine Gd_skipF ?_ ?_); exact rfl))
          refine U_run rfl rfl rfl (ro_bin (k' := .u64) (p := (M : Int)) (q := ((1 : Nat) : Int)) (r := .int .u32 (M / 2 ^ 1 : Nat)) rfl rfl (run_shr .u64 (by decide))) ?_
          repeat (first | (with_reducible first | apply T_seq | apply T_region | apply U_nil | apply T_skip | apply T_block | apply T_inBlock | apply Cnd_t | apply Cnd_f | apply Cnd_not | apply Cnd_some | apply Cnd_none | apply Gd_nt | apply Gd_nf | apply Gd_some | apply Gd_none | apply Gd_want) | refine U_ar rfl rfl rfl (wrap_i64 (by omega)) rfl ?_ | refine U_pure E rfl rfl ?_ | refine T_exit rfl ?_ | refine T_condV rfl ?_ | refine U_guard rfl rfl ?_ | ((with_reducible refine Gd_skipT ?_ ?_); exact rfl) | ((with_reducible refine Gd_skipF ?_ ?_); exact rfl))
          refine T.less ?_ (ih (k + 1, w4) ?_ ?_)
          · have e1 : mask / 2 ^ (k + 1 - bit) = M / 2 ^ 1 := by
              rw [← hM, Nat.div_div_eq_div_mul, ← Nat.pow_succ, show k + 1 - bit = k - bit + 1 by omega]
            dsimp only
            rw [e1]
            exact ⟨rfl, rfl, rfl, rfl, trivial⟩
          · refine ⟨by dsimp only; omega, by dsimp only; omega, (hk.tr (hd3.kept none0) (fun _ _ x => x.elim)).tr hu4.kept (fun j _ e => e), _, by rw [List.length_set]; exact hs, fun j hj => ?_, hb4⟩
            have hM0' : M.testBit 0 = mask.testBit (k - bit) := by rw [← hM, Nat.testBit_div_two_pow, Nat.zero_add]
            rw [bit_step hq, hbits j hj, hM0', Bool.xor_assoc]
            congr 1
            by_cases hjk : j = k
            · subst hjk
              simp [hk1]
            · have e2 : (bit ≤ j ∧ j < k + 1) ↔ (bit ≤ j ∧ j < k) := by omega
              simp [hjk, e2]
          · dsimp only
            omega
        · repeat (first | (with_reducible first | apply T_seq | apply T_region | apply U_nil | apply T_skip | apply T_block | apply T_inBlock | apply Cnd_t | apply Cnd_f | apply Cnd_not | apply Cnd_some | apply Cnd_none | apply Gd_nt | apply Gd_nf | apply Gd_some | apply Gd_none | apply Gd_want) | refine U_ar rfl rfl rfl (wrap_i64 (by omega)) rfl ?_ | refine U_pure E rfl rfl ?_ | refine T_exit rfl ?_ | refine T_condV rfl ?_ | refine U_guard rfl rfl ?_ | ((with_reducible refine Gd_skipT ?_ ?_); exact rfl) | ((with_reducible refine Gd_skipF ?_ ?_); exact rfl))
          obtain ⟨f1, f2⟩ := fin (.inr (by omega))
          exact T_ret1 Tryd.func41 rfl rfl ⟨_, rfl, rfl, f1, f2⟩
      · have hM0' : M = 0 := by omega
        repeat (first | (with_reducible first | apply T_seq | apply T_region | apply U_nil | apply T_skip | apply T_block | apply T_inBlock | apply Cnd_t | apply Cnd_f | apply Cnd_not | apply Cnd_some | apply Cnd_none | apply Gd_nt | apply Gd_nf | apply Gd_some | apply Gd_none | apply Gd_want) | refine U_ar rfl rfl rfl (wrap_i64 (by omega)) rfl ?_ | refine U_pure E rfl rfl ?_ | refine T_exit rfl ?_ | refine T_condV rfl ?_ | refine U_guard rfl rfl ?_ | ((with_reducible refine Gd_skipT ?_ ?_); exact rfl) | ((with_reducible refine Gd_skipF ?_ ?_); exact rfl))
        obtain ⟨f1, f2⟩ := fin (.inl hM0')
        exact T_ret1 Tryd.func41 rfl rfl ⟨_, rfl, rfl, f1, f2⟩
end Go.Proofs.YtoefhdaenaiomaaDoor

/- DrumPlays: an act on the drum. -/
namespace Go.Proofs.YtoefhdaenaiomaaDoor
open Go
set_option maxRecDepth 20000

set_option maxHeartbeats 4000000 in
theorem lplay_c {w : World} {F : Nat → Prop} {hb : Nat} {D : Dr} (h : Dm w F hb D) (a : XAct) (hn : a.n ≤ 9223372036854775807) (hm : a.mask < 4294967296) (hp : BS w (fun b => ¬ F b) a.vp a.p) (hk : Sl w (fun b => ¬ F b) a.vk 1 a.keep.length (encBools a.keep)) (hwn : D.wait.length < 1000000) :
    Calls Tryd.prog 32 [ptr hb, .agg a.cells.toArray].toArray w (Ret fun r w' => ∃ e hb' F' D', r = .tuple #[ptr hb', errV e] ∧ Own F w F' w' ∧ Dm w' F' hb' D' ∧ Step D a e D') := by
  obtain ⟨Ap, cp, hvp⟩ := hp.len
  have cvp : a.cells[0 + 2]? = some (.slice Ap a.p.length cp) := by rw [← hvp]; rfl
  obtain ⟨Ak, ck, hvk⟩ := hk.len
  have cvk : a.cells[0 + 3]? = some (.slice Ak a.keep.length ck) := by rw [← hvk]; rfl
  refine calls_T Tryd.func32 rfl rfl rfl ?_
  refine T_seq ?_
  refine T_region ?_
  refine U_box E rfl rfl rfl ?_
  intro ba w1 hn1
  have hba : Blk w1 ba a.cells 49 := hn1.blk
  have hD1 := h.same hn1.kept
  have hp1 := hp.mv hn1.kept (fun _ _ _ x => x)
  have hk1 := hk.mv hn1.kept (fun _ _ _ x => x)
  rw [hvp] at hp1
  rw [hvk] at hk1
  have o1 : Own F w F w1 := Own.same h.lt hn1.kept
  unfold ptr at *
  repeat (first | (with_reducible first | apply T_seq | apply T_region | apply U_nil | apply T_skip | apply T_block | apply T_inBlock | apply Cnd_t | apply Cnd_f | apply Cnd_not | apply Cnd_some | apply Cnd_none | apply Gd_nt | apply Gd_nf | apply Gd_some | apply Gd_none | apply Gd_want) | refine U_ar rfl rfl rfl (wrap_k (by simp only [wrapOk]; omega)) rfl ?_ | refine U_cv E rfl rfl rfl (wrap_k (by simp only [wrapOk]; omega)) rfl ?_ | refine U_pure E rfl rfl ?_ | refine T_exit rfl ?_ | refine T_condV rfl ?_ | refine U_guard rfl rfl ?_ | ((with_reducible refine Gd_skipT ?_ ?_); exact rfl) | ((with_reducible refine Gd_skipF ?_ ?_); exact rfl))
  refine U_loadB E hba rfl rfl rfl rfl rfl ?_
  repeat (first | (with_reducible first | apply T_seq | apply T_region | apply U_nil | apply T_skip | apply T_block | apply T_inBlock | apply Cnd_t | apply Cnd_f | apply Cnd_not | apply Cnd_some | apply Cnd_none | apply Gd_nt | apply Gd_nf | apply Gd_some | apply Gd_none | apply Gd_want) | refine U_ar rfl rfl rfl (wrap_k (by simp only [wrapOk]; omega)) rfl ?_ | refine U_cv E rfl rfl rfl (wrap_k (by simp only [wrapOk]; omega)) rfl ?_ | refine U_pure E rfl rfl ?_ | refine T_exit rfl ?_ | refine T_condV rfl ?_ | refine U_guard rfl rfl ?_ | ((with_reducible refine Gd_skipT ?_ ?_); exact rfl) | ((with_reducible refine Gd_skipF ?_ ?_); exact rfl))
  refine U_run rfl rfl rfl (ro_bin (r := .int .u8 (a.d % 7 : Nat)) rfl rfl (by exact run_rem (y := 7) (by decide))) ?_
  repeat (first | (with_reducible first | apply T_seq | apply T_region | apply U_nil | apply T_skip | apply T_block | apply T_inBlock | apply Cnd_t | apply Cnd_f | apply Cnd_not | apply Cnd_some | apply Cnd_none | apply Gd_nt | apply Gd_nf | apply Gd_some | apply Gd_none | apply Gd_want) | refine U_ar rfl rfl rfl (wrap_k (by simp only [wrapOk]; omega)) rfl ?_ | refine U_cv E rfl rfl rfl (wrap_k (by simp only [wrapOk]; omega)) rfl ?_ | refine U_pure E rfl rfl ?_ | refine T_exit rfl ?_ | refine T_condV rfl ?_ | refine U_guard rfl rfl ?_ | ((with_reducible refine Gd_skipT ?_ ?_); exact rfl) | ((with_reducible refine Gd_skipF ?_ ?_); exact rfl))
  refine Cnd_p (fun h3 => ?_) (fun h3 => ?_)
  · have hf := dw_flush w1 F hb D hD1
    unfold ptr at *
    repeat (first | (with_reducible first | apply T_seq | apply T_region | apply U_nil | apply T_skip | apply T_block | apply T_inBlock | apply Cnd_t | apply Cnd_f | apply Cnd_not | apply Cnd_some | apply Cnd_none | apply Gd_nt | apply Gd_nf | apply Gd_some | apply Gd_none | apply Gd_want) | refine U_ar rfl rfl rfl (wrap_k (by simp only [wrapOk]; omega)) rfl ?_ | refine U_cv E rfl rfl rfl (wrap_k (by simp only [wrapOk]; omega)) rfl ?_ | refine U_pure E rfl rfl ?_ | refine T_exit rfl ?_ | refine T_condV rfl ?_ | refine U_guard rfl rfl ?_ | ((with_reducible refine Gd_skipT ?_ ?_); exact rfl) | ((with_reducible refine Gd_skipF ?_ ?_); exact rfl))
    refine U_call rfl rfl (Tryd.call26 _) (hf) ?_
    rintro r w2 ⟨rfl, F', o2, hD2⟩
    repeat (first | (with_reducible first | apply T_seq | apply T_region | apply U_nil | apply T_skip | apply T_block | apply T_inBlock | apply Cnd_t | apply Cnd_f | apply Cnd_not | apply Cnd_some | apply Cnd_none | apply Gd_nt | apply Gd_nf | apply Gd_some | apply Gd_none | apply Gd_want) | refine U_ar rfl rfl rfl (wrap_k (by simp only [wrapOk]; omega)) rfl ?_ | refine U_cv E rfl rfl rfl (wrap_k (by simp only [wrapOk]; omega)) rfl ?_ | refine U_pure E rfl rfl ?_ | refine T_exit rfl ?_ | refine T_condV rfl ?_ | refine U_guard rfl rfl ?_ | ((with_reducible refine Gd_skipT ?_ ?_); exact rfl) | ((with_reducible refine Gd_skipF ?_ ?_); exact rfl))
    refine T_ret2 Tryd.func32 rfl rfl rfl ⟨_, rfl, flErr D, hb, F', flDr D, rfl, o1.tr o2, hD2, ?_⟩
    unfold Step
    rw [if_pos (by omega)]
    exact ⟨rfl, rfl⟩
  repeat (first | (with_reducible first | apply T_seq | apply T_region | apply U_nil | apply T_skip | apply T_block | apply T_inBlock | apply Cnd_t | apply Cnd_f | apply Cnd_not | apply Cnd_some | apply Cnd_none | apply Gd_nt | apply Gd_nf | apply Gd_some | apply Gd_none | apply Gd_want) | refine U_ar rfl rfl rfl (wrap_k (by simp only [wrapOk]; omega)) rfl ?_ | refine U_cv E rfl rfl rfl (wrap_k (by simp only [wrapOk]; omega)) rfl ?_ | refine U_pure E rfl rfl ?_ | refine T_exit rfl ?_ | refine T_condV rfl ?_ | refine U_guard rfl rfl ?_ | ((with_reducible refine Gd_skipT ?_ ?_); exact rfl) | ((with_reducible refine Gd_skipF ?_ ?_); exact rfl))
  refine Cnd_p (fun h4 => ?_) (fun h4 => ?_)
  · repeat (first | (with_reducible first | apply T_seq | apply T_region | apply U_nil | apply T_skip | apply T_block | apply T_inBlock | apply Cnd_t | apply Cnd_f | apply Cnd_not | apply Cnd_some | apply Cnd_none | apply Gd_nt | apply Gd_nf | apply Gd_some | apply Gd_none | apply Gd_want) | refine U_ar rfl rfl rfl (wrap_k (by simp only [wrapOk]; omega)) rfl ?_ | refine U_cv E rfl rfl rfl (wrap_k (by simp only [wrapOk]; omega)) rfl ?_ | refine U_pure E rfl rfl ?_ | refine T_exit rfl ?_ | refine T_condV rfl ?_ | refine U_guard rfl rfl ?_ | ((with_reducible refine Gd_skipT ?_ ?_); exact rfl) | ((with_reducible refine Gd_skipF ?_ ?_); exact rfl))
    refine U_loadB E hba rfl rfl rfl cvk rfl ?_
    repeat (first | (with_reducible first | apply T_seq | apply T_region | apply U_nil | apply T_skip | apply T_block | apply T_inBlock | apply Cnd_t | apply Cnd_f | apply Cnd_not | apply Cnd_some | apply Cnd_none | apply Gd_nt | apply Gd_nf | apply Gd_some | apply Gd_none | apply Gd_want) | refine U_ar rfl rfl rfl (wrap_k (by simp only [wrapOk]; omega)) rfl ?_ | refine U_cv E rfl rfl rfl (wrap_k (by simp only [wrapOk]; omega)) rfl ?_ | refine U_pure E rfl rfl ?_ | refine T_exit rfl ?_ | refine T_condV rfl ?_ | refine U_guard rfl rfl ?_ | ((with_reducible refine Gd_skipT ?_ ?_); exact rfl) | ((with_reducible refine Gd_skipF ?_ ?_); exact rfl))
    refine U_loadB E hba rfl rfl rfl rfl rfl ?_
    have hf := fall_c w1 F hb D _ _ a.keep a.n hD1.isD hk1
    unfold ptr at *
    refine U_call rfl rfl (Tryd.call29 _) (hf) ?_
    rintro r w2 ⟨k2, hb', rfl, hD2⟩
    repeat (first | (with_reducible first | apply T_seq | apply T_region | apply U_nil | apply T_skip | apply T_block | apply T_inBlock | apply Cnd_t | apply Cnd_f | apply Cnd_not | apply Cnd_some | apply Cnd_none | apply Gd_nt | apply Gd_nf | apply Gd_some | apply Gd_none | apply Gd_want) | refine U_ar rfl rfl rfl (wrap_k (by simp only [wrapOk]; omega)) rfl ?_ | refine U_cv E rfl rfl rfl (wrap_k (by simp only [wrapOk]; omega)) rfl ?_ | refine U_pure E rfl rfl ?_ | refine T_exit rfl ?_ | refine T_condV rfl ?_ | refine U_guard rfl rfl ?_ | ((with_reducible refine Gd_skipT ?_ ?_); exact rfl) | ((with_reducible refine Gd_skipF ?_ ?_); exact rfl))
    refine T_ret2 Tryd.func32 rfl rfl rfl ⟨_, rfl, 0, hb', fun b => w1.heap.size ≤ b ∧ b < w2.heap.size, drFall D a.keep a.n, rfl, o1.tr ⟨k2.mono (fun _ _ x => x.elim), fun b e => .inr e.1, fun b e => e.2⟩, ⟨hD2.mono (fun b hb e => ⟨e, hb⟩), fun b e => e.2⟩, ?_⟩
    unfold Step
    rw [if_neg (by omega), if_pos (by omega)]
    exact ⟨rfl, rfl⟩
  repeat (first | (with_reducible first | apply T_seq | apply T_region | apply U_nil | apply T_skip | apply T_block | apply T_inBlock | apply Cnd_t | apply Cnd_f | apply Cnd_not | apply Cnd_some | apply Cnd_none | apply Gd_nt | apply Gd_nf | apply Gd_some | apply Gd_none | apply Gd_want) | refine U_ar rfl rfl rfl (wrap_k (by simp only [wrapOk]; omega)) rfl ?_ | refine U_cv E rfl rfl rfl (wrap_k (by simp only [wrapOk]; omega)) rfl ?_ | refine U_pure E rfl rfl ?_ | refine T_exit rfl ?_ | refine T_condV rfl ?_ | refine U_guard rfl rfl ?_ | ((with_reducible refine Gd_skipT ?_ ?_); exact rfl) | ((with_reducible refine Gd_skipF ?_ ?_); exact rfl))
  refine Cnd_p (fun h5 => ?_) (fun h5 => ?_)
  · by_cases hok : (0 ≤ a.at_ ∧ a.at_ < D.l.length) ∧ 0 ≤ a.n ∧ a.n < 2048
    · obtain ⟨A, hA⟩ := Int.eq_ofNat_of_zero_le hok.1.1
      obtain ⟨N, hN⟩ := Int.eq_ofNat_of_zero_le hok.2.1
      have hAl : A < D.l.length := by omega
      have c1 : a.cells[0 + 1]? = some (.int .i64 (A : Int)) := by rw [← hA]; rfl
      have c4 : a.cells[0 + 4]? = some (.int .i64 (N : Int)) := by rw [← hN]; rfl
      repeat (first | (with_reducible first | apply T_seq | apply T_region | apply U_nil | apply T_skip | apply T_block | apply T_inBlock | apply Cnd_t | apply Cnd_f | apply Cnd_not | apply Cnd_some | apply Cnd_none | apply Gd_nt | apply Gd_nf | apply Gd_some | apply Gd_none | apply Gd_want) | refine U_ar rfl rfl rfl (wrap_k (by simp only [wrapOk]; omega)) rfl ?_ | refine U_cv E rfl rfl rfl (wrap_k (by simp only [wrapOk]; omega)) rfl ?_ | refine U_pure E rfl rfl ?_ | refine T_exit rfl ?_ | refine T_condV rfl ?_ | refine U_guard rfl rfl ?_ | ((with_reducible refine Gd_skipT ?_ ?_); exact rfl) | ((with_reducible refine Gd_skipF ?_ ?_); exact rfl))
      refine U_loadB E hba rfl rfl rfl c1 rfl ?_
      repeat (first | (with_reducible first | apply T_seq | apply T_region | apply U_nil | apply T_skip | apply T_block | apply T_inBlock | apply Cnd_t | apply Cnd_f | apply Cnd_not | apply Cnd_some | apply Cnd_none | apply Gd_nt | apply Gd_nf | apply Gd_some | apply Gd_none | apply Gd_want) | refine U_ar rfl rfl rfl (wrap_k (by simp only [wrapOk]; omega)) rfl ?_ | refine U_cv E rfl rfl rfl (wrap_k (by simp only [wrapOk]; omega)) rfl ?_ | refine U_pure E rfl rfl ?_ | refine T_exit rfl ?_ | refine T_condV rfl ?_ | refine U_guard rfl rfl ?_ | ((with_reducible refine Gd_skipT ?_ ?_); exact rfl) | ((with_reducible refine Gd_skipF ?_ ?_); exact rfl))
      refine U_loadB E hba rfl rfl rfl c4 rfl ?_
      repeat (first | (with_reducible first | apply T_seq | apply T_region | apply U_nil | apply T_skip | apply T_block | apply T_inBlock | apply Cnd_t | apply Cnd_f | apply Cnd_not | apply Cnd_some | apply Cnd_none | apply Gd_nt | apply Gd_nf | apply Gd_some | apply Gd_none | apply Gd_want) | refine U_ar rfl rfl rfl (wrap_k (by simp only [wrapOk]; omega)) rfl ?_ | refine U_cv E rfl rfl rfl (wrap_k (by simp only [wrapOk]; omega)) rfl ?_ | refine U_pure E rfl rfl ?_ | refine T_exit rfl ?_ | refine T_condV rfl ?_ | refine U_guard rfl rfl ?_ | ((with_reducible refine Gd_skipT ?_ ?_); exact rfl) | ((with_reducible refine Gd_skipF ?_ ?_); exact rfl))
      refine U_loadB E hba rfl rfl rfl rfl rfl ?_
      have ht := turn_c w1 F hb D A N a.mask hD1.isD hm hAl (by omega)
      unfold ptr at *
      refine U_call rfl rfl (Tryd.call41 _) (ht) ?_
      rintro r w2 ⟨rfl, k2, s', hs1, hs2, hD2⟩
      repeat (first | (with_reducible first | apply T_seq | apply T_region | apply U_nil | apply T_skip | apply T_block | apply T_inBlock | apply Cnd_t | apply Cnd_f | apply Cnd_not | apply Cnd_some | apply Cnd_none | apply Gd_nt | apply Gd_nf | apply Gd_some | apply Gd_none | apply Gd_want) | refine U_ar rfl rfl rfl (wrap_k (by simp only [wrapOk]; omega)) rfl ?_ | refine U_cv E rfl rfl rfl (wrap_k (by simp only [wrapOk]; omega)) rfl ?_ | refine U_pure E rfl rfl ?_ | refine T_exit rfl ?_ | refine T_condV rfl ?_ | refine U_guard rfl rfl ?_ | ((with_reducible refine Gd_skipT ?_ ?_); exact rfl) | ((with_reducible refine Gd_skipF ?_ ?_); exact rfl))
      refine T_ret2 Tryd.func32 rfl rfl rfl ⟨_, rfl, 0, hb, F, _, rfl, o1.tr (Own.upd hD1.lt k2 (fun _ _ e => e)), ⟨hD2, fun b e => Nat.lt_of_lt_of_le (hD1.lt b e) k2.size⟩, ?_⟩
      unfold Step
      rw [if_neg (by omega), if_neg (by omega), if_pos (by omega), if_pos hok]
      refine ⟨rfl, s', hs1, ?_, by rw [hA, Int.toNat_natCast]⟩
      rw [hA, hN, Int.toNat_natCast, Int.toNat_natCast, List.getD_eq_getElem?_getD, List.getElem?_eq_getElem hAl, Option.getD_some]
      exact hs2
    · repeat (first | (with_reducible first | apply T_seq | apply T_region | apply U_nil | apply T_skip | apply T_block | apply T_inBlock | apply Cnd_t | apply Cnd_f | apply Cnd_not | apply Cnd_some | apply Cnd_none | apply Gd_nt | apply Gd_nf | apply Gd_some | apply Gd_none | apply Gd_want) | refine U_ar rfl rfl rfl (wrap_k (by simp only [wrapOk]; omega)) rfl ?_ | refine U_cv E rfl rfl rfl (wrap_k (by simp only [wrapOk]; omega)) rfl ?_ | refine U_pure E rfl rfl ?_ | refine T_exit rfl ?_ | refine T_condV rfl ?_ | refine U_guard rfl rfl ?_ | ((with_reducible refine Gd_skipT ?_ ?_); exact rfl) | ((with_reducible refine Gd_skipF ?_ ?_); exact rfl))
      refine U_loadB E hba rfl rfl rfl rfl rfl ?_
      repeat (first | (with_reducible first | apply T_seq | apply T_region | apply U_nil | apply T_skip | apply T_block | apply T_inBlock | apply Cnd_t | apply Cnd_f | apply Cnd_not | apply Cnd_some | apply Cnd_none | apply Gd_nt | apply Gd_nf | apply Gd_some | apply Gd_none | apply Gd_want) | refine U_ar rfl rfl rfl (wrap_k (by simp only [wrapOk]; omega)) rfl ?_ | refine U_cv E rfl rfl rfl (wrap_k (by simp only [wrapOk]; omega)) rfl ?_ | refine U_pure E rfl rfl ?_ | refine T_exit rfl ?_ | refine T_condV rfl ?_ | refine U_guard rfl rfl ?_ | ((with_reducible refine Gd_skipT ?_ ?_); exact rfl) | ((with_reducible refine Gd_skipF ?_ ?_); exact rfl))
      refine U_loadB E hba rfl rfl rfl rfl rfl ?_
      repeat (first | (with_reducible first | apply T_seq | apply T_region | apply U_nil | apply T_skip | apply T_block | apply T_inBlock | apply Cnd_t | apply Cnd_f | apply Cnd_not | apply Cnd_some | apply Cnd_none | apply Gd_nt | apply Gd_nf | apply Gd_some | apply Gd_none | apply Gd_want) | refine U_ar rfl rfl rfl (wrap_k (by simp only [wrapOk]; omega)) rfl ?_ | refine U_cv E rfl rfl rfl (wrap_k (by simp only [wrapOk]; omega)) rfl ?_ | refine U_pure E rfl rfl ?_ | refine T_exit rfl ?_ | refine T_condV rfl ?_ | refine U_guard rfl rfl ?_ | ((with_reducible refine Gd_skipT ?_ ?_); exact rfl) | ((with_reducible refine Gd_skipF ?_ ?_); exact rfl))
      refine U_loadB E hba rfl rfl rfl rfl rfl ?_
      have ht := turn_no w1 F hb D a.at_ a.n a.mask hD1.isD hok
      unfold ptr at *
      refine U_call rfl rfl (Tryd.call41 _) (ht) ?_
      rintro r w2 ⟨rfl, rfl⟩
      repeat (first | (with_reducible first | apply T_seq | apply T_region | apply U_nil | apply T_skip | apply T_block | apply T_inBlock | apply Cnd_t | apply Cnd_f | apply Cnd_not | apply Cnd_some | apply Cnd_none | apply Gd_nt | apply Gd_nf | apply Gd_some | apply Gd_none | apply Gd_want) | refine U_ar rfl rfl rfl (wrap_k (by simp only [wrapOk]; omega)) rfl ?_ | refine U_cv E rfl rfl rfl (wrap_k (by simp only [wrapOk]; omega)) rfl ?_ | refine U_pure E rfl rfl ?_ | refine T_exit rfl ?_ | refine T_condV rfl ?_ | refine U_guard rfl rfl ?_ | ((with_reducible refine Gd_skipT ?_ ?_); exact rfl) | ((with_reducible refine Gd_skipF ?_ ?_); exact rfl))
      refine T_ret2 Tryd.func32 rfl rfl rfl ⟨_, rfl, 7, hb, F, D, rfl, o1, hD1, ?_⟩
      unfold Step
      rw [if_neg (by omega), if_neg (by omega), if_pos (by omega), if_neg hok]
      exact ⟨rfl, rfl⟩
  repeat (first | (with_reducible first | apply T_seq | apply T_region | apply U_nil | apply T_skip | apply T_block | apply T_inBlock | apply Cnd_t | apply Cnd_f | apply Cnd_not | apply Cnd_some | apply Cnd_none | apply Gd_nt | apply Gd_nf | apply Gd_some | apply Gd_none | apply Gd_want) | refine U_ar rfl rfl rfl (wrap_k (by simp only [wrapOk]; omega)) rfl ?_ | refine U_cv E rfl rfl rfl (wrap_k (by simp only [wrapOk]; omega)) rfl ?_ | refine U_pure E rfl rfl ?_ | refine T_exit rfl ?_ | refine T_condV rfl ?_ | refine U_guard rfl rfl ?_ | ((with_reducible refine Gd_skipT ?_ ?_); exact rfl) | ((with_reducible refine Gd_skipF ?_ ?_); exact rfl))
  refine Cnd_p (fun h6 => ?_) (fun h6 => ?_)
  · repeat (first | (with_reducible first | apply T_seq | apply T_region | apply U_nil | apply T_skip | apply T_block | apply T_inBlock | apply Cnd_t | apply Cnd_f | apply Cnd_not | apply Cnd_some | apply Cnd_none | apply Gd_nt | apply Gd_nf | apply Gd_some | apply Gd_none | apply Gd_want) | refine U_ar rfl rfl rfl (wrap_k (by simp only [wrapOk]; omega)) rfl ?_ | refine U_cv E rfl rfl rfl (wrap_k (by simp only [wrapOk]; omega)) rfl ?_ | refine U_pure E rfl rfl ?_ | refine T_exit rfl ?_ | refine T_condV rfl ?_ | refine U_guard rfl rfl ?_ | ((with_reducible refine Gd_skipT ?_ ?_); exact rfl) | ((with_reducible refine Gd_skipF ?_ ?_); exact rfl))
    refine U_loadB E hba rfl rfl rfl rfl rfl ?_
    have ha := arm_c w1 F hb D a.n hD1.isD hn
    unfold ptr at *
    refine U_call rfl rfl (Tryd.call25 _) (ha) ?_
    rintro r w2 ⟨rfl, k2, s2, hD2⟩
    have hmem := hD1.isD.mem
    repeat (first | (with_reducible first | apply T_seq | apply T_region | apply U_nil | apply T_skip | apply T_block | apply T_inBlock | apply Cnd_t | apply Cnd_f | apply Cnd_not | apply Cnd_some | apply Cnd_none | apply Gd_nt | apply Gd_nf | apply Gd_some | apply Gd_none | apply Gd_want) | refine U_ar rfl rfl rfl (wrap_k (by simp only [wrapOk]; omega)) rfl ?_ | refine U_cv E rfl rfl rfl (wrap_k (by simp only [wrapOk]; omega)) rfl ?_ | refine U_pure E rfl rfl ?_ | refine T_exit rfl ?_ | refine T_condV rfl ?_ | refine U_guard rfl rfl ?_ | ((with_reducible refine Gd_skipT ?_ ?_); exact rfl) | ((with_reducible refine Gd_skipF ?_ ?_); exact rfl))
    refine T_ret2 Tryd.func32 rfl rfl rfl ⟨_, rfl, 0, hb, F, _, rfl, o1.tr (Own.upd hD1.lt k2 (fun b _ (e : b = hb) => by rw [e]; exact hmem)), ⟨hD2, fun b e => Nat.lt_of_lt_of_le (hD1.lt b e) k2.size⟩, ?_⟩
    unfold Step
    rw [if_neg (by omega), if_neg (by omega), if_neg (by omega), if_pos (by omega)]
    exact ⟨rfl, rfl⟩
  · repeat (first | (with_reducible first | apply T_seq | apply T_region | apply U_nil | apply T_skip | apply T_block | apply T_inBlock | apply Cnd_t | apply Cnd_f | apply Cnd_not | apply Cnd_some | apply Cnd_none | apply Gd_nt | apply Gd_nf | apply Gd_some | apply Gd_none | apply Gd_want) | refine U_ar rfl rfl rfl (wrap_k (by simp only [wrapOk]; omega)) rfl ?_ | refine U_cv E rfl rfl rfl (wrap_k (by simp only [wrapOk]; omega)) rfl ?_ | refine U_pure E rfl rfl ?_ | refine T_exit rfl ?_ | refine T_condV rfl ?_ | refine U_guard rfl rfl ?_ | ((with_reducible refine Gd_skipT ?_ ?_); exact rfl) | ((with_reducible refine Gd_skipF ?_ ?_); exact rfl))
    refine U_loadB E hba rfl rfl rfl rfl rfl ?_
    repeat (first | (with_reducible first | apply T_seq | apply T_region | apply U_nil | apply T_skip | apply T_block | apply T_inBlock | apply Cnd_t | apply Cnd_f | apply Cnd_not | apply Cnd_some | apply Cnd_none | apply Gd_nt | apply Gd_nf | apply Gd_some | apply Gd_none | apply Gd_want) | refine U_ar rfl rfl rfl (wrap_k (by simp only [wrapOk]; omega)) rfl ?_ | refine U_cv E rfl rfl rfl (wrap_k (by simp only [wrapOk]; omega)) rfl ?_ | refine U_pure E rfl rfl ?_ | refine T_exit rfl ?_ | refine T_condV rfl ?_ | refine U_guard rfl rfl ?_ | ((with_reducible refine Gd_skipT ?_ ?_); exact rfl) | ((with_reducible refine Gd_skipF ?_ ?_); exact rfl))
    refine U_loadB E hba rfl rfl rfl cvp rfl ?_
    have hw := dw_write w1 F hb D _ _ a.at_ hD1 hp1 hwn
    unfold ptr at *
    refine U_call rfl rfl (Tryd.call27 _) (hw) ?_
    rintro r w2 ⟨rfl, F', o2, hD2⟩
    repeat (first | (with_reducible first | apply T_seq | apply T_region | apply U_nil | apply T_skip | apply T_block | apply T_inBlock | apply Cnd_t | apply Cnd_f | apply Cnd_not | apply Cnd_some | apply Cnd_none | apply Gd_nt | apply Gd_nf | apply Gd_some | apply Gd_none | apply Gd_want) | refine U_ar rfl rfl rfl (wrap_k (by simp only [wrapOk]; omega)) rfl ?_ | refine U_cv E rfl rfl rfl (wrap_k (by simp only [wrapOk]; omega)) rfl ?_ | refine U_pure E rfl rfl ?_ | refine T_exit rfl ?_ | refine T_condV rfl ?_ | refine U_guard rfl rfl ?_ | ((with_reducible refine Gd_skipT ?_ ?_); exact rfl) | ((with_reducible refine Gd_skipF ?_ ?_); exact rfl))
    refine T_ret2 Tryd.func32 rfl rfl rfl ⟨_, rfl, _, hb, F', _, rfl, o1.tr o2, hD2, ?_⟩
    unfold Step
    rw [if_neg (by omega), if_neg (by omega), if_neg (by omega), if_neg (by omega)]
    exact ⟨rfl, rfl⟩
end Go.Proofs.YtoefhdaenaiomaaDoor

/- DrumPlays: the walk. -/
namespace Go.Proofs.YtoefhdaenaiomaaDoor
open Go
set_option maxRecDepth 20000

def XAct.ok (w : World) (a : XAct) : Prop := a.n ≤ 9223372036854775807 ∧ a.mask < 4294967296 ∧ BS w (old w) a.vp a.p ∧ Sl w (old w) a.vk 1 a.keep.length (encBools a.keep)
instance : Inhabited XAct := ⟨⟨0, 0, .slice none 0 0, [], .slice none 0 0, [], 0, 0⟩⟩
theorem xact_get {α : Type} {f : α → List Value} (hf : ∀ a, (f a).length = 6) : ∀ (l : List α) (j : Nat), (l.flatMap f)[j]? = (l[j / 6]?).bind fun a => (f a)[j % 6]?
  | [], j => by simp
  | a :: l, j => by
    rw [List.flatMap_cons, List.getElem?_append, hf]
    by_cases h : j < 6
    · rw [if_pos h, Nat.div_eq_of_lt h, Nat.mod_eq_of_lt h]
      rfl
    · rw [if_neg h, xact_get hf l (j - 6)]
      rw [show j / 6 = (j - 6) / 6 + 1 by omega, show j % 6 = (j - 6) % 6 by omega, List.getElem?_cons_succ]
theorem xact_seg {α : Type} {f : α → List Value} (hf : ∀ a, (f a).length = 6) {w : World} {b o : Nat} {l : List α} (h : Seg w b o (l.flatMap f)) {i : Nat} (hi : i < l.length) : Seg w b (o + i * 6) (f l[i]) := fun q v hq => by
  have hq6 : q < 6 := by
    have := (List.getElem?_eq_some_iff.1 hq).1
    rw [hf] at this
    exact this
  have := h (i * 6 + q) v (by rw [xact_get hf, show (i * 6 + q) / 6 = i by omega, show (i * 6 + q) % 6 = q by omega, List.getElem?_eq_getElem hi]; exact hq)
  rwa [← Nat.add_assoc] at this

structure PI (w w' : World) (i : Nat) (F G : Nat → Prop) (hb xb : Nat) (D : Dr) (vf vd : Value) (X : XS) : Prop where
  k : Kept none0 w w'
  dm : Dm w' F hb D
  xm : XM w' G xb vf vd X
  nF : ∀ b, F b → w.heap.size ≤ b
  nG : ∀ b, G b → w.heap.size ≤ b ∧ b < w'.heap.size ∧ ¬ F b
  rel : Rel D X
  dn : X.deeds.length ≤ i
theorem PI.same {w w' w'' : World} {i : Nat} {F G : Nat → Prop} {hb xb : Nat} {D : Dr} {vf vd : Value} {X : XS} (h : PI w w' i F G hb xb D vf vd X) (k : Kept none0 w' w'') : PI w w'' i F G hb xb D vf vd X :=
  ⟨h.k.tr k (fun _ _ x => x), h.dm.same k, h.xm.same k, h.nF, fun b e => ⟨(h.nG b e).1, Nat.lt_of_lt_of_le (h.nG b e).2.1 k.size, (h.nG b e).2.2⟩, h.rel, h.dn⟩
theorem PI.step {w w3 w4 w5 : World} {i : Nat} {F F' G : Nat → Prop} {hb hb' xb xb' : Nat} {D D' : Dr} {vf vd vf' vd' : Value} {X X' : XS} (h : PI w w3 i F G hb xb D vf vd X) (o : Own F w3 F' w4) (hD : Dm w4 F' hb' D') (kx : Kept G w4 w5) (hX : XM w5 (fun b => G b ∨ w4.heap.size ≤ b) xb' vf' vd' X') (hR : Rel D' X') (hn : X'.deeds.length ≤ i + 1) :
    PI w w5 (i + 1) F' (fun b => (G b ∨ w4.heap.size ≤ b) ∧ b < w5.heap.size) hb' xb' D' vf' vd' X' := by
  have s1 := h.k.size
  have s2 := o.size
  refine ⟨(o.done h.k h.nF).tr kx (fun b hb e => by have := (h.nG b e).1; omega), hD.mv kx (fun b e eG => ?_), hX.mono (fun b hb e => ⟨e, hb⟩), o.newer s1 h.nF, fun b e => ⟨e.1.elim (fun e => (h.nG b e).1) (fun e => by omega), e.2, fun eF => ?_⟩, hR, hn⟩
  · rcases o.sub b e with e | e
    · exact (h.nG b eG).2.2 e
    · have := (h.nG b eG).2.1; omega
  · rcases e.1 with e1 | e1
    · exact o.out (h.nG b e1).2.1 (h.nG b e1).2.2 eF
    · have := o.lt b eF; omega

set_option maxHeartbeats 8000000 in
theorem plays_c (w : World) (Ga : Nat → Prop) (va : Value) (n : Nat) (acts : List XAct) (hn : n < 256) (ha : Sl w Ga va 6 acts.length (acts.flatMap XAct.cells)) (hok : ∀ a ∈ acts, a.ok w) (hL : Laid w) :
    Calls Tryd.prog 5 [.int .u8 n, va].toArray w (Ret fun r w' => r = .bool true ∧ Kept none0 w w') := by
  have hal := ha.1
  have ha0 := ha
  obtain ⟨A, c, rfl⟩ := ha.len
  refine calls_T Tryd.func5 rfl rfl rfl ?_
  repeat (first | (with_reducible first | apply T_seq | apply T_region | apply U_nil | apply T_skip | apply T_block | apply T_inBlock | apply Cnd_t | apply Cnd_f | apply Cnd_not | apply Cnd_some | apply Cnd_none | apply Gd_nt | apply Gd_nf | apply Gd_some | apply Gd_none | apply Gd_want) | refine U_ar rfl rfl rfl (wrap_k (by simp only [wrapOk]; omega)) rfl ?_ | refine U_cv E rfl rfl rfl (wrap_k (by simp only [wrapOk]; omega)) rfl ?_ | refine U_pure E rfl rfl ?_ | refine T_exit rfl ?_ | refine T_condV rfl ?_ | refine U_guard rfl rfl ?_ | ((with_reducible refine Gd_skipT ?_ ?_); exact rfl) | ((with_reducible refine Gd_skipF ?_ ?_); exact rfl))
  refine U_call rfl rfl (Tryd.call23 _) (awake_c w) ?_
  rintro r w1 ⟨rfl, k1⟩
  repeat (first | (with_reducible first | apply T_seq | apply T_region | apply U_nil | apply T_skip | apply T_block | apply T_inBlock | apply Cnd_t | apply Cnd_f | apply Cnd_not | apply Cnd_some | apply Cnd_none | apply Gd_nt | apply Gd_nf | apply Gd_some | apply Gd_none | apply Gd_want) | refine U_ar rfl rfl rfl (wrap_k (by simp only [wrapOk]; omega)) rfl ?_ | refine U_cv E rfl rfl rfl (wrap_k (by simp only [wrapOk]; omega)) rfl ?_ | refine U_pure E rfl rfl ?_ | refine T_exit rfl ?_ | refine T_condV rfl ?_ | refine U_guard rfl rfl ?_ | ((with_reducible refine Gd_skipT ?_ ?_); exact rfl) | ((with_reducible refine Gd_skipF ?_ ?_); exact rfl))
  refine U_run rfl rfl rfl (ro_bin (r := .int .u8 (n % 9 : Nat)) rfl rfl (by exact run_rem (y := 9) (by decide))) ?_
  repeat (first | (with_reducible first | apply T_seq | apply T_region | apply U_nil | apply T_skip | apply T_block | apply T_inBlock | apply Cnd_t | apply Cnd_f | apply Cnd_not | apply Cnd_some | apply Cnd_none | apply Gd_nt | apply Gd_nf | apply Gd_some | apply Gd_none | apply Gd_want) | refine U_ar rfl rfl rfl (wrap_k (by simp only [wrapOk]; omega)) rfl ?_ | refine U_cv E rfl rfl rfl (wrap_k (by simp only [wrapOk]; omega)) rfl ?_ | refine U_pure E rfl rfl ?_ | refine T_exit rfl ?_ | refine T_condV rfl ?_ | refine U_guard rfl rfl ?_ | ((with_reducible refine Gd_skipT ?_ ?_); exact rfl) | ((with_reducible refine Gd_skipF ?_ ?_); exact rfl))
  obtain ⟨S, hS⟩ : ∃ S : Nat, 1 + n % 9 = S := ⟨_, rfl⟩
  have hSi : (1 : Int) + ((n % 9 : Nat) : Int) = (S : Int) := by omega
  rw [hSi]
  refine U_call rfl rfl (Tryd.call24 _) (new_c w1 (S : Int) (by omega)) ?_
  rintro r w2 ⟨k2, hb, rfl, hD2⟩
  rw [Int.toNat_natCast] at hD2
  have hD2 : Dm w2 (fun b => fresh w1 b ∧ b < w2.heap.size) hb (drNew S) := ⟨hD2.mono (fun b hb e => ⟨e, hb⟩), fun b e => e.2⟩
  have hxn := xnew_c w2 S (by omega)
  unfold ptr at *
  repeat (first | (with_reducible first | apply T_seq | apply T_region | apply U_nil | apply T_skip | apply T_block | apply T_inBlock | apply Cnd_t | apply Cnd_f | apply Cnd_not | apply Cnd_some | apply Cnd_none | apply Gd_nt | apply Gd_nf | apply Gd_some | apply Gd_none | apply Gd_want) | refine U_ar rfl rfl rfl (wrap_k (by simp only [wrapOk]; omega)) rfl ?_ | refine U_cv E rfl rfl rfl (wrap_k (by simp only [wrapOk]; omega)) rfl ?_ | refine U_pure E rfl rfl ?_ | refine T_exit rfl ?_ | refine T_condV rfl ?_ | refine U_guard rfl rfl ?_ | ((with_reducible refine Gd_skipT ?_ ?_); exact rfl) | ((with_reducible refine Gd_skipF ?_ ?_); exact rfl))
  refine U_call rfl rfl (Tryd.call31 _) (hxn) ?_
  rintro r w3 ⟨k3, xb, vf, rfl, hX3⟩
  have s1 := k1.size
  have s2 := k2.size
  have hI3 : PI w w3 0 (fun b => fresh w1 b ∧ b < w2.heap.size) (fun b => fresh w2 b ∧ b < w3.heap.size) hb xb (drNew S) vf (.slice none 0 0) (XS.new S) := by
    refine ⟨(k1.tr k2 (fun _ _ x => x)).tr k3 (fun _ _ x => x), hD2.same k3, hX3.mono (fun b hb e => ⟨e, hb⟩), fun b e => by have := e.1; simp only [fresh] at this; omega, fun b e => ⟨by have := e.1; simp only [fresh] at this; omega, e.2, fun e2 => by have := e.1; have := e2.2; simp only [fresh] at *; omega⟩, ⟨rfl, by simp [XS.new, drNew], rfl, fun i _ => rfl⟩, by simp [XS.new]⟩
  unfold ptr at *
  repeat (first | (with_reducible first | apply T_seq | apply T_region | apply U_nil | apply T_skip | apply T_inBlock | apply Cnd_t | apply Cnd_f | apply Cnd_not | apply Cnd_some | apply Cnd_none | apply Gd_nt | apply Gd_nf | apply Gd_some | apply Gd_none | apply Gd_want) | refine U_ar rfl rfl rfl (wrap_k (by simp only [wrapOk]; omega)) rfl ?_ | refine U_cv E rfl rfl rfl (wrap_k (by simp only [wrapOk]; omega)) rfl ?_ | refine U_pure E rfl rfl ?_ | refine T_exit rfl ?_ | refine T_condV rfl ?_ | refine U_guard rfl rfl ?_ | ((with_reducible refine Gd_skipT ?_ ?_); exact rfl) | ((with_reducible refine Gd_skipF ?_ ?_); exact rfl))
  refine T_via (α := (Nat → Prop) × (Nat → Prop) × Nat × Nat × Dr × Value × Value × XS) (fun x => [(6, .pointer (some ⟨x.2.2.1, 0, none⟩)), (8, .pointer (some ⟨x.2.2.2.1, 0, none⟩))])
    (fun x w' => PI w w' 30 x.1 x.2.1 x.2.2.1 x.2.2.2.1 x.2.2.2.2.1 x.2.2.2.2.2.1 x.2.2.2.2.2.2.1 x.2.2.2.2.2.2.2) ?fin1 ?go1
  case go1 =>
    intro fin
    refine T_block ?_
    refine T_loop (α := Nat × ((Nat → Prop) × (Nat → Prop) × Nat × Nat × Dr × Value × Value × XS) × World) (fun x => [(30, .int .i64 x.1), (29, .int .i64 acts.length), (28, .slice A acts.length c), (6, .pointer (some ⟨x.2.1.2.2.1, 0, none⟩)), (8, .pointer (some ⟨x.2.1.2.2.2.1, 0, none⟩))]) (fun x => x.2.2) (fun x => acts.length - x.1)
      (fun x => x.1 ≤ acts.length ∧ x.1 ≤ 30 ∧ PI w x.2.2 x.1 x.2.1.1 x.2.1.2.1 x.2.1.2.2.1 x.2.1.2.2.2.1 x.2.1.2.2.2.2.1 x.2.1.2.2.2.2.2.1 x.2.1.2.2.2.2.2.2.1 x.2.1.2.2.2.2.2.2.2) (0, (_, _, hb, xb, _, vf, .slice none 0 0, _), w3) ⟨Nat.zero_le _, Nat.zero_le _, hI3⟩ ?hsub rfl ?_
    case hsub => exact ⟨rfl, rfl, rfl, rfl, rfl, trivial⟩
    clear hI3 hX3 hD2 hxn
    rintro ⟨i, ⟨F, G, hb, xb, D, vf, vd, X⟩, w4⟩ ⟨hi, hi30, hI⟩ ih
    dsimp only at hi hi30 hI ⊢
    repeat (first | (with_reducible first | apply T_seq | apply T_region | apply U_nil | apply T_skip | apply T_block | apply T_inBlock | apply Cnd_t | apply Cnd_f | apply Cnd_not | apply Cnd_some | apply Cnd_none | apply Gd_nt | apply Gd_nf | apply Gd_some | apply Gd_none | apply Gd_want) | refine U_ar rfl rfl rfl (wrap_k (by simp only [wrapOk]; omega)) rfl ?_ | refine U_cv E rfl rfl rfl (wrap_k (by simp only [wrapOk]; omega)) rfl ?_ | refine U_pure E rfl rfl ?_ | refine T_exit rfl ?_ | refine T_condV rfl ?_ | refine U_guard rfl rfl ?_ | ((with_reducible refine Gd_skipT ?_ ?_); exact rfl) | ((with_reducible refine Gd_skipF ?_ ?_); exact rfl))
    refine Cnd_p (fun hlt => ?_) (fun hlt => ?_)
    · have hl1 : i < acts.length := by omega
      obtain ⟨bA, oA, hAe, hseg⟩ : ∃ b o, A = some ⟨b, o, none⟩ ∧ Seg w b o (acts.flatMap XAct.cells) := by
        obtain ⟨_, _, A', c', e, _, h5⟩ := ha0
        injection e with e1 e2 e3
        subst e1
        rcases h5 with h | ⟨b, o, h1, _, _, h2⟩
        · omega
        · exact ⟨b, o, h1, h2⟩
      subst hAe
      have hseg4 := xact_seg (fun _ => rfl) (hseg.mv hI.k (fun x => x)) hl1
      obtain ⟨a, hae⟩ : ∃ a, acts[i] = a := ⟨_, rfl⟩
      rw [hae] at hseg4
      obtain ⟨han, ham, hap, hkp⟩ : a.ok w := by rw [← hae]; exact hok _ (List.getElem_mem hl1)
      obtain ⟨Ap, cp, hvp⟩ := hap.len
      obtain ⟨Ak, ck, hvk⟩ := hkp.len
      repeat (first | (with_reducible first | apply T_seq | apply T_region | apply U_nil | apply T_skip | apply T_block | apply T_inBlock | apply Cnd_t | apply Cnd_f | apply Cnd_not | apply Cnd_some | apply Cnd_none | apply Gd_nt | apply Gd_nf | apply Gd_some | apply Gd_none | apply Gd_want) | refine U_ar rfl rfl rfl (wrap_k (by simp only [wrapOk]; omega)) rfl ?_ | refine U_cv E rfl rfl rfl (wrap_k (by simp only [wrapOk]; omega)) rfl ?_ | refine U_pure E rfl rfl ?_ | refine T_exit rfl ?_ | refine T_condV rfl ?_ | refine U_guard rfl rfl ?_ | ((with_reducible refine Gd_skipT ?_ ?_); exact rfl) | ((with_reducible refine Gd_skipF ?_ ?_); exact rfl))
      refine U_indexS (o' := oA + i * 6) E rfl rfl rfl rfl (by omega) (by omega) (by rw [Int.toNat_natCast]) rfl ?_
      refine U_loadA E hseg4 rfl rfl rfl rfl rfl ?_
      refine U_alloc E rfl rfl rfl ?_
      intro bq w5 hn5
      repeat (first | (with_reducible first | apply T_seq | apply T_region | apply U_nil | apply T_skip | apply T_block | apply T_inBlock | apply Cnd_t | apply Cnd_f | apply Cnd_not | apply Cnd_some | apply Cnd_none | apply Gd_nt | apply Gd_nf | apply Gd_some | apply Gd_none | apply Gd_want) | refine U_ar rfl rfl rfl (wrap_k (by simp only [wrapOk]; omega)) rfl ?_ | refine U_cv E rfl rfl rfl (wrap_k (by simp only [wrapOk]; omega)) rfl ?_ | refine U_pure E rfl rfl ?_ | refine T_exit rfl ?_ | refine T_condV rfl ?_ | refine U_guard rfl rfl ?_ | ((with_reducible refine Gd_skipT ?_ ?_); exact rfl) | ((with_reducible refine Gd_skipF ?_ ?_); exact rfl))
      refine U_storeA E hn5.blk rfl rfl rfl rfl (by decide) (by intro u hu; simp only [XAct.cells, List.mem_cons, List.not_mem_nil, or_false] at hu; rcases hu with rfl | rfl | rfl | rfl | rfl | rfl <;> first | rfl | exact bs_one hap | (rw [hvk]; rfl)) ?_
      intro w6 hu6
      have hB6 : Blk w6 bq a.cells 49 := hu6.blk
      have e5 := hn5.at_
      have k46 : Kept none0 w4 w6 := hn5.kept.tr hu6.kept (fun j hj (e : j = bq) => by omega)
      have hI6 := hI.same k46
      repeat (first | (with_reducible first | apply T_seq | apply T_region | apply U_nil | apply T_skip | apply T_block | apply T_inBlock | apply Cnd_t | apply Cnd_f | apply Cnd_not | apply Cnd_some | apply Cnd_none | apply Gd_nt | apply Gd_nf | apply Gd_some | apply Gd_none | apply Gd_want) | refine U_ar rfl rfl rfl (wrap_k (by simp only [wrapOk]; omega)) rfl ?_ | refine U_cv E rfl rfl rfl (wrap_k (by simp only [wrapOk]; omega)) rfl ?_ | refine U_pure E rfl rfl ?_ | refine T_exit rfl ?_ | refine T_condV rfl ?_ | refine U_guard rfl rfl ?_ | ((with_reducible refine Gd_skipT ?_ ?_); exact rfl) | ((with_reducible refine Gd_skipF ?_ ?_); exact rfl))
      refine Cnd_p (fun h30 => ?_) (fun h30 => ?_)
      · have h30' : i = 30 := by omega
        subst h30'
        refine T_exit rfl ?_
        refine T.less ?_ (fin (F, G, hb, xb, D, vf, vd, X) w6 hI6)
        exact ⟨rfl, rfl, trivial⟩
      have cvp : a.cells[0 + 2]? = some (.slice Ap a.p.length cp) := by rw [← hvp]; rfl
      repeat (first | (with_reducible first | apply T_seq | apply T_region | apply U_nil | apply T_skip | apply T_block | apply T_inBlock | apply Cnd_t | apply Cnd_f | apply Cnd_not | apply Cnd_some | apply Cnd_none | apply Gd_nt | apply Gd_nf | apply Gd_some | apply Gd_none | apply Gd_want) | refine U_ar rfl rfl rfl (wrap_k (by simp only [wrapOk]; omega)) rfl ?_ | refine U_cv E rfl rfl rfl (wrap_k (by simp only [wrapOk]; omega)) rfl ?_ | refine U_pure E rfl rfl ?_ | refine T_exit rfl ?_ | refine T_condV rfl ?_ | refine U_guard rfl rfl ?_ | ((with_reducible refine Gd_skipT ?_ ?_); exact rfl) | ((with_reducible refine Gd_skipF ?_ ?_); exact rfl))
      refine U_loadB E hB6 rfl rfl rfl cvp rfl ?_
      have hap6 := hap.mv hI6.k (fun _ _ _ x => x)
      rw [hvp] at hap6
      refine U_call rfl rfl (Tryd.call19 _) (cut_c w6 _ _ _ 260 hap6 (by decide)) ?_
      rintro rc w7 ⟨k7, hrc⟩
      obtain ⟨P, hP⟩ : ∃ P, a.p.take (Int.toNat 260) = P := ⟨_, rfl⟩
      have lP : P.length ≤ 260 := by rw [← hP]; exact List.length_take_le _ _
      rw [hP] at hrc
      repeat (first | (with_reducible first | apply T_seq | apply T_region | apply U_nil | apply T_skip | apply T_block | apply T_inBlock | apply Cnd_t | apply Cnd_f | apply Cnd_not | apply Cnd_some | apply Cnd_none | apply Gd_nt | apply Gd_nf | apply Gd_some | apply Gd_none | apply Gd_want) | refine U_ar rfl rfl rfl (wrap_k (by simp only [wrapOk]; omega)) rfl ?_ | refine U_cv E rfl rfl rfl (wrap_k (by simp only [wrapOk]; omega)) rfl ?_ | refine U_pure E rfl rfl ?_ | refine T_exit rfl ?_ | refine T_condV rfl ?_ | refine U_guard rfl rfl ?_ | ((with_reducible refine Gd_skipT ?_ ?_); exact rfl) | ((with_reducible refine Gd_skipF ?_ ?_); exact rfl))
      refine U_store E (hB6.mv k7 (fun x => x)) rfl rfl rfl (by simp [XAct.cells]) (by obtain ⟨A', c', e'⟩ := hrc.val; rw [e']; rfl) ?_
      intro w8 hu8
      obtain ⟨a', ha'⟩ : ∃ a' : XAct, a' = { a with vp := rc, p := P } := ⟨_, rfl⟩
      have hB8 : Blk w8 bq a'.cells 49 := by
        have := hu8.blk
        rw [ha']
        exact this
      have k48 : Kept none0 w4 w8 := (k46.tr k7 (fun _ _ x => x)).tr hu8.kept (fun b hb (e : b = bq) => by omega)
      have hI8 := hI.same k48
      have s46 := k46.size
      have s48 := k48.size
      have sw4 := hI.k.size
      have hbl6 := hB6.lt
      have hwd := hI.rel.waits
      have hwd2 := wts_len X.deeds
      have hdn := hI.dn
      have hrc8 : BS w8 (fun b => w6.heap.size ≤ b) rc P := ((hrc.sl (by omega)).mv hu8.kept (fun b _ e (e2 : b = bq) => by simp only [fresh] at e; omega)).mono (fun b _ e => e)
      have hk8 := hkp.mv hI8.k (fun _ _ _ x => x)
      have hpF : BS w8 (fun b => ¬ F b) a'.vp a'.p := by
        rw [ha']
        exact hrc8.mono (fun b _ e e2 => by have := hI.dm.lt b e2; omega)
      have hkF : Sl w8 (fun b => ¬ F b) a'.vk 1 a'.keep.length (encBools a'.keep) := by
        rw [ha']
        exact hk8.mono (fun b _ e e2 => by have := hI.nF b e2; simp only [old] at e; omega)
      have hpG : BS w8 (fun b => (¬ F b ∧ ¬ G b) ∧ b < w8.heap.size) a'.vp a'.p := by
        rw [ha']
        exact hrc8.mono (fun b hb e => ⟨⟨fun e2 => by have := hI.dm.lt b e2; omega, fun e2 => by have := (hI.nG b e2).2.1; omega⟩, hb⟩)
      have hkG : Sl w8 (fun b => (¬ F b ∧ ¬ G b) ∧ b < w8.heap.size) a'.vk 1 a'.keep.length (encBools a'.keep) := by
        rw [ha']
        exact hk8.mono (fun b hb e => ⟨⟨fun e2 => by have := hI.nF b e2; simp only [old] at e; omega, fun e2 => by have := (hI.nG b e2).1; simp only [old] at e; omega⟩, hb⟩)
      have han' : a'.n ≤ 9223372036854775807 := by rw [ha']; exact han
      have ham' : a'.mask < 4294967296 := by rw [ha']; exact ham
      have lP' : a'.p.length ≤ 1000 := by rw [ha']; dsimp only; omega
      have hlp := lplay_c hI8.dm a' han' ham' hpF hkF (by omega)
      unfold ptr at *
      repeat (first | (with_reducible first | apply T_seq | apply T_region | apply U_nil | apply T_skip | apply T_block | apply T_inBlock | apply Cnd_t | apply Cnd_f | apply Cnd_not | apply Cnd_some | apply Cnd_none | apply Gd_nt | apply Gd_nf | apply Gd_some | apply Gd_none | apply Gd_want) | refine U_ar rfl rfl rfl (wrap_k (by simp only [wrapOk]; omega)) rfl ?_ | refine U_cv E rfl rfl rfl (wrap_k (by simp only [wrapOk]; omega)) rfl ?_ | refine U_pure E rfl rfl ?_ | refine T_exit rfl ?_ | refine T_condV rfl ?_ | refine U_guard rfl rfl ?_ | ((with_reducible refine Gd_skipT ?_ ?_); exact rfl) | ((with_reducible refine Gd_skipF ?_ ?_); exact rfl))
      refine U_loadA E hB8.whole rfl rfl rfl rfl rfl ?_
      refine U_call rfl rfl (Tryd.call32 _) (hlp) ?_
      rintro r w9 ⟨e, hb', F', D', rfl, o9, hD9, hS⟩
      have hB9 : Blk w9 bq a'.cells 49 := hB8.mv o9.kept (fun e => by have := hI.dm.lt bq e; omega)
      have hX9 := hI8.xm.mv o9.kept (fun b _ e => (hI8.nG b e).2.2)
      have hxp := xplay_c hX9 hI8.rel hI8.dm.isD.1 a' han' ham' ((hpG.mv o9.kept (fun b _ e e2 => e.1.1 e2)).mono (fun b _ e => e.1.2)) lP' ((hkG.mv o9.kept (fun b _ e e2 => e.1.1 e2)).mono (fun b _ e => e.1.2)) (by omega) hS
      unfold ptr at *
      repeat (first | (with_reducible first | apply T_seq | apply T_region | apply U_nil | apply T_skip | apply T_block | apply T_inBlock | apply Cnd_t | apply Cnd_f | apply Cnd_not | apply Cnd_some | apply Cnd_none | apply Gd_nt | apply Gd_nf | apply Gd_some | apply Gd_none | apply Gd_want) | refine U_ar rfl rfl rfl (wrap_k (by simp only [wrapOk]; omega)) rfl ?_ | refine U_cv E rfl rfl rfl (wrap_k (by simp only [wrapOk]; omega)) rfl ?_ | refine U_pure E rfl rfl ?_ | refine T_exit rfl ?_ | refine T_condV rfl ?_ | refine U_guard rfl rfl ?_ | ((with_reducible refine Gd_skipT ?_ ?_); exact rfl) | ((with_reducible refine Gd_skipF ?_ ?_); exact rfl))
      refine U_loadA E hB9.whole rfl rfl rfl rfl rfl ?_
      refine U_call rfl rfl (Tryd.call33 _) (hxp) ?_
      rintro r w10 ⟨X', hR', hn', xb', vf', vd', rfl, kx, hX10⟩
      have hI10 := hI8.step o9 hD9 kx hX10 hR' (by omega)
      unfold ptr at *
      repeat (first | (with_reducible first | apply T_seq | apply T_region | apply U_nil | apply T_skip | apply T_block | apply T_inBlock | apply Cnd_t | apply Cnd_f | apply Cnd_not | apply Cnd_some | apply Cnd_none | apply Gd_nt | apply Gd_nf | apply Gd_some | apply Gd_none | apply Gd_want) | refine U_ar rfl rfl rfl (wrap_k (by simp only [wrapOk]; omega)) rfl ?_ | refine U_cv E rfl rfl rfl (wrap_k (by simp only [wrapOk]; omega)) rfl ?_ | refine U_pure E rfl rfl ?_ | refine T_exit rfl ?_ | refine T_condV rfl ?_ | refine U_guard rfl rfl ?_ | ((with_reducible refine Gd_skipT ?_ ?_); exact rfl) | ((with_reducible refine Gd_skipF ?_ ?_); exact rfl))
      have hcd := code_c w10 e (hL.mv hI10.k (fun x => x))
      refine U_call rfl rfl (Tryd.call28 _) (hcd) ?_
      rintro r w11 ⟨rfl, k11⟩
      have hI11 := hI10.same k11
      have hlk := like_c hI11.dm hI11.xm hI11.rel.any
      unfold ptr at *
      repeat (first | (with_reducible first | apply T_seq | apply T_region | apply U_nil | apply T_skip | apply T_block | apply T_inBlock | apply Cnd_t | apply Cnd_f | apply Cnd_not | apply Cnd_some | apply Cnd_none | apply Gd_nt | apply Gd_nf | apply Gd_some | apply Gd_none | apply Gd_want) | refine U_ar rfl rfl rfl (wrap_k (by simp only [wrapOk]; omega)) rfl ?_ | refine U_cv E rfl rfl rfl (wrap_k (by simp only [wrapOk]; omega)) rfl ?_ | refine U_pure E rfl rfl ?_ | refine T_exit rfl ?_ | refine T_condV rfl ?_ | refine U_guard rfl rfl ?_ | ((with_reducible refine Gd_skipT ?_ ?_); exact rfl) | ((with_reducible refine Gd_skipF ?_ ?_); exact rfl))
      refine Gd_p (fun q => absurd rfl q) (fun _ => ?_)
      repeat (first | (with_reducible first | apply T_seq | apply T_region | apply U_nil | apply T_skip | apply T_block | apply T_inBlock | apply Cnd_t | apply Cnd_f | apply Cnd_not | apply Cnd_some | apply Cnd_none | apply Gd_nt | apply Gd_nf | apply Gd_some | apply Gd_none | apply Gd_want) | refine U_ar rfl rfl rfl (wrap_k (by simp only [wrapOk]; omega)) rfl ?_ | refine U_cv E rfl rfl rfl (wrap_k (by simp only [wrapOk]; omega)) rfl ?_ | refine U_pure E rfl rfl ?_ | refine T_exit rfl ?_ | refine T_condV rfl ?_ | refine U_guard rfl rfl ?_ | ((with_reducible refine Gd_skipT ?_ ?_); exact rfl) | ((with_reducible refine Gd_skipF ?_ ?_); exact rfl))
      refine U_call rfl rfl (Tryd.call34 _) (hlk) ?_
      rintro r w12 ⟨rfl, k12⟩
      have hI12 := hI11.same k12
      repeat (first | (with_reducible first | apply T_seq | apply T_region | apply U_nil | apply T_skip | apply T_block | apply T_inBlock | apply Cnd_t | apply Cnd_f | apply Cnd_not | apply Cnd_some | apply Cnd_none | apply Gd_nt | apply Gd_nf | apply Gd_some | apply Gd_none | apply Gd_want) | refine U_ar rfl rfl rfl (wrap_k (by simp only [wrapOk]; omega)) rfl ?_ | refine U_cv E rfl rfl rfl (wrap_k (by simp only [wrapOk]; omega)) rfl ?_ | refine U_pure E rfl rfl ?_ | refine T_exit rfl ?_ | refine T_condV rfl ?_ | refine U_guard rfl rfl ?_ | ((with_reducible refine Gd_skipT ?_ ?_); exact rfl) | ((with_reducible refine Gd_skipF ?_ ?_); exact rfl))
      refine T.less ?_ (ih (i + 1, (F', fun b => (G b ∨ w9.heap.size ≤ b) ∧ b < w10.heap.size, hb', xb', D', vf', vd', X'), w12) ⟨by omega, by omega, hI12⟩ (by dsimp only; omega))
      exact ⟨rfl, rfl, rfl, rfl, rfl, trivial⟩
    · refine T_exit rfl ?_
      refine T.less ?_ (fin (F, G, hb, xb, D, vf, vd, X) w4 ⟨hI.k, hI.dm, hI.xm, hI.nF, hI.nG, hI.rel, Nat.le_trans hI.dn hi30⟩)
      exact ⟨rfl, rfl, trivial⟩
  case fin1 =>
    rintro ⟨F, G, hb, xb, D, vf, vd, X⟩ w4 hI
    dsimp only at hI
    have hcp := copy_c w4 F hb D hI.dm.isD
    unfold ptr at *
    repeat (first | (with_reducible first | apply T_seq | apply T_region | apply U_nil | apply T_skip | apply T_block | apply T_inBlock | apply Cnd_t | apply Cnd_f | apply Cnd_not | apply Cnd_some | apply Cnd_none | apply Gd_nt | apply Gd_nf | apply Gd_some | apply Gd_none | apply Gd_want) | refine U_ar rfl rfl rfl (wrap_k (by simp only [wrapOk]; omega)) rfl ?_ | refine U_cv E rfl rfl rfl (wrap_k (by simp only [wrapOk]; omega)) rfl ?_ | refine U_pure E rfl rfl ?_ | refine T_exit rfl ?_ | refine T_condV rfl ?_ | refine U_guard rfl rfl ?_ | ((with_reducible refine Gd_skipT ?_ ?_); exact rfl) | ((with_reducible refine Gd_skipF ?_ ?_); exact rfl))
    refine U_call rfl rfl (Tryd.call30 _) (hcp) ?_
    rintro r w5 ⟨k5, hb', rfl, hD5⟩
    have hD5 : Dm w5 (fun b => fresh w4 b ∧ b < w5.heap.size) hb' { D with left := -1 } := ⟨hD5.mono (fun b hb e => ⟨e, hb⟩), fun b e => e.2⟩
    have hlk := like_c hD5 (hI.xm.same k5) hI.rel.any
    unfold ptr at *
    repeat (first | (with_reducible first | apply T_seq | apply T_region | apply U_nil | apply T_skip | apply T_block | apply T_inBlock | apply Cnd_t | apply Cnd_f | apply Cnd_not | apply Cnd_some | apply Cnd_none | apply Gd_nt | apply Gd_nf | apply Gd_some | apply Gd_none | apply Gd_want) | refine U_ar rfl rfl rfl (wrap_k (by simp only [wrapOk]; omega)) rfl ?_ | refine U_cv E rfl rfl rfl (wrap_k (by simp only [wrapOk]; omega)) rfl ?_ | refine U_pure E rfl rfl ?_ | refine T_exit rfl ?_ | refine T_condV rfl ?_ | refine U_guard rfl rfl ?_ | ((with_reducible refine Gd_skipT ?_ ?_); exact rfl) | ((with_reducible refine Gd_skipF ?_ ?_); exact rfl))
    refine U_call rfl rfl (Tryd.call34 _) (hlk) ?_
    rintro r w6 ⟨rfl, k6⟩
    repeat (first | (with_reducible first | apply T_seq | apply T_region | apply U_nil | apply T_skip | apply T_block | apply T_inBlock | apply Cnd_t | apply Cnd_f | apply Cnd_not | apply Cnd_some | apply Cnd_none | apply Gd_nt | apply Gd_nf | apply Gd_some | apply Gd_none | apply Gd_want) | refine U_ar rfl rfl rfl (wrap_k (by simp only [wrapOk]; omega)) rfl ?_ | refine U_cv E rfl rfl rfl (wrap_k (by simp only [wrapOk]; omega)) rfl ?_ | refine U_pure E rfl rfl ?_ | refine T_exit rfl ?_ | refine T_condV rfl ?_ | refine U_guard rfl rfl ?_ | ((with_reducible refine Gd_skipT ?_ ?_); exact rfl) | ((with_reducible refine Gd_skipF ?_ ?_); exact rfl))
    exact T_ret1 Tryd.func5 rfl rfl ⟨_, rfl, rfl, (hI.k.tr k5 (fun _ _ x => x)).tr k6 (fun _ _ x => x)⟩
end Go.Proofs.YtoefhdaenaiomaaDoor

/- A row's arguments, opened: slices of byte slices. -/
namespace Go.Proofs.YtoefhdaenaiomaaDoor
open Go Go.ChangeShapes Go.WideShapes Go.RowKit Go.Deep
set_option maxRecDepth 20000

theorem cell_spot {w : World} {a : Addr} {v : Value} (h : w.cell? a = some v) : a.spot = none ∧ a.block < w.heap.size := by
  refine ⟨?_, World.block_lt_of_cell? w a h⟩
  cases hs : a.spot with
  | none => rfl
  | some x =>
    unfold World.cell? at h
    split at h
    · simp [hs] at h
    · cases h

section
variable {H : Type} {enc : TypeId × Value → H} {P : Program} {w : World} {base : Nat} {held : Bool} {r : Reach} {b0 : Nat} {t e q : TypeId} {v : Value} {d : DataW H} {ps : List MemPlace}

theorem row_bytes {A : Option Addr} {L C : Nat} {Z : List Int} (hl : L ≤ C) (hm : C ≤ maxLen) (hz : Z.length = C) (hw : ∀ n ∈ Z, (Lit.int .u8 n).wf = true) (hn : A = none → C = 0) (hc : ∀ a', A = some a' → ∀ c, c < C → w.cell? (a'.add c) = some (.int .u8 (Z.getD c 0))) :
    BS w (old w) (.slice A L C) ((Z.take L).map fun z => UInt8.ofNat z.toNat) := by
  have hln : ((Z.take L).map fun z => UInt8.ofNat z.toNat).length = L := by simp; omega
  unfold BS
  rw [hln]
  refine ⟨by unfold maxLen at hm; omega, by rw [encBs_len, hln, Nat.mul_one], A, C, rfl, hl, ?_⟩
  by_cases h0 : L = 0
  · exact .inl h0
  · right
    cases A with
    | none => have := hn rfl; omega
    | some a =>
      have h1 := hc a rfl 0 (by omega)
      rw [show a.add 0 = a from rfl] at h1
      obtain ⟨h2, h3⟩ := cell_spot h1
      refine ⟨a.block, a.off, by cases a; simp only at h2; rw [h2], h3, h3, ?_⟩
      intro j u hj
      rw [encBs, List.map_map, List.getElem?_map] at hj
      cases hq : (Z.take L)[j]? with
      | none => rw [hq] at hj; cases hj
      | some z =>
        rw [hq, Option.map_some] at hj
        injection hj with hj
        subst hj
        have hjz : Z[j]? = some z := by
          rw [List.getElem?_take] at hq
          split at hq
          · exact hq
          · cases hq
        have hlt := (List.getElem?_eq_some_iff.1 hjz).1
        have h4 := hc a rfl j (by omega)
        rw [cell_add a h2, List.getD_eq_getElem?_getD, hjz, Option.getD_some] at h4
        rw [h4]
        exact congrArg some (encB_of (hw z (List.mem_of_getElem? hjz))).symm

theorem open_rows (ht : P.underlying t = some (.slice e)) (he : P.underlying e = some (.slice q)) (hq : P.underlying q = some (.int .u8)) (ce : P.cellsOf e = 1) (cq : P.cellsOf q = 1) (hval : Value.okWide P w r b0 t v) (hd : DataW.Trod enc P w base (fun _ => true) held t v d ps) :
    ∃ (vs : List Value) (ls : List (List UInt8)), vs.length = ls.length ∧ Sl w (old w) v 1 vs.length vs ∧ ∀ (i : Nat) u l, vs[i]? = some u → ls[i]? = some l → BS w (old w) u l := by
  obtain ⟨A, n, c, rfl⟩ := okWide_slice ht hval
  obtain ⟨fuel, hf⟩ := hd
  rcases open_int_rows ht he hq ce cq hf with ⟨h1, _⟩ | ⟨a, len, cap, A', L, C, Z, h1, _, hl, hm, _, hr⟩
  · simp only [Value.cells, List.cons.injEq, Value.slice.injEq, and_true] at h1
    obtain ⟨rfl, rfl, rfl⟩ := h1
    exact ⟨[], [], rfl, ⟨by decide, rfl, none, 0, rfl, Nat.le_refl _, .inl rfl⟩, fun i u l h => by simp at h⟩
  · simp only [Value.cells, List.cons.injEq, Value.slice.injEq, and_true] at h1
    obtain ⟨rfl, rfl, rfl⟩ := h1
    obtain ⟨h2, h3⟩ := slice_has ht hval
    refine ⟨(List.range n).map fun i => .slice (A' i) (L i) (C i), (List.range n).map fun i => ((Z i).take (L i)).map fun z => UInt8.ofNat z.toNat, by simp, ?_, ?_⟩
    · have hln : ((List.range n).map fun i => Value.slice (A' i) (L i) (C i)).length = n := by simp
      rw [hln]
      refine ⟨by unfold maxLen at hm; omega, by rw [hln, Nat.mul_one], some a, c, rfl, hl, .inr ⟨a.block, a.off, by cases a; simp only at h2; rw [h2], h3, h3, ?_⟩⟩
      intro j u hj
      rw [List.getElem?_map] at hj
      cases hq : (List.range n)[j]? with
      | none => rw [hq] at hj; cases hj
      | some z =>
        rw [hq, Option.map_some] at hj
        injection hj with hj
        subst hj
        obtain ⟨hlt, hz⟩ := List.getElem?_eq_some_iff.1 hq
        simp only [List.length_range] at hlt
        simp only [List.getElem_range] at hz
        subst hz
        have h4 := (hr j (by omega)).1
        rw [cell_add a h2] at h4
        exact h4
    · intro i u l hu hl'
      rw [List.getElem?_map] at hu hl'
      cases hq : (List.range n)[i]? with
      | none => rw [hq] at hu; cases hu
      | some z =>
        rw [hq, Option.map_some] at hu hl'
        injection hu with hu
        injection hl' with hl'
        subst hu
        subst hl'
        obtain ⟨hlt, hz⟩ := List.getElem?_eq_some_iff.1 hq
        simp only [List.length_range] at hlt
        simp only [List.getElem_range] at hz
        subst hz
        obtain ⟨_, g1, g2, g3, g4, g5, g6⟩ := hr i (by omega)
        exact row_bytes g1 g2 g3 g4 g5 (fun a' e => (g6 a' e).2)
end
end Go.Proofs.YtoefhdaenaiomaaDoor

/- A row's arguments, opened: slices of structs of six cells. -/
namespace Go.Proofs.YtoefhdaenaiomaaDoor
open Go Go.ChangeShapes Go.WideShapes Go.RowKit Go.Deep
set_option maxRecDepth 20000

section
variable {H : Type} {enc : TypeId × Value → H} {P : Program} {w : World} {base : Nat} {held : Bool} {r : Reach} {b0 : Nat} {t e q : TypeId} {v : Value} {d : DataW H} {ps : List MemPlace}

theorem trod_bytes {fuel : Nat} {x : DataW H × List MemPlace} (ht : P.underlying t = some (.slice e)) (he : P.underlying e = some (.int .u8)) (hc : P.cellsOf e = 1) (h : DataW.trod enc P w base (fun _ => true) held fuel t [v] = some x) : ∃ l : List UInt8, BS w (old w) v l := by
  rcases open_ints ht he hc h with ⟨h1, _⟩ | ⟨a, len, cap, zs, h1, _, hl, hm, hz, _, hcell, hw⟩
  · injection h1 with h1
    subst h1
    exact ⟨[], by decide, rfl, none, 0, rfl, Nat.le_refl _, .inl rfl⟩
  · injection h1 with h1
    subst h1
    simp only [if_true] at hz
    exact ⟨_, row_bytes hl hm hz hw (fun h => by cases h) (fun a' e c hc => by
      injection e with e
      subst e
      exact hcell c (by omega))⟩

theorem trod_bits {fuel : Nat} {x : DataW H × List MemPlace} (ht : P.underlying t = some (.slice e)) (he : P.underlying e = some .bool) (hc : P.cellsOf e = 1) (h : DataW.trod enc P w base (fun _ => true) held fuel t [v] = some x) : ∃ l : List Bool, Sl w (old w) v 1 l.length (encBools l) := by
  rcases open_bools ht he hc h with ⟨h1, _⟩ | ⟨a, len, cap, B, h1, _, hl, hm, _, hcell⟩
  · injection h1 with h1
    subst h1
    exact ⟨[], by decide, rfl, none, 0, rfl, Nat.le_refl _, .inl rfl⟩
  · injection h1 with h1
    subst h1
    have hln : ((List.range len).map B).length = len := by simp
    refine ⟨(List.range len).map B, by rw [hln]; unfold maxLen at hm; omega, by simp [encBools], some a, cap, by rw [hln], by rw [hln]; exact hl, ?_⟩
    rw [hln]
    by_cases h0 : len = 0
    · exact .inl h0
    · right
      have h1 := hcell 0 (by omega)
      rw [show a.add 0 = a from rfl] at h1
      obtain ⟨h2, h3⟩ := cell_spot h1
      refine ⟨a.block, a.off, by cases a; simp only at h2; rw [h2], h3, h3, ?_⟩
      intro j u hj
      simp only [encBools, List.map_map, List.getElem?_map] at hj
      cases hq : (List.range len)[j]? with
      | none => rw [hq] at hj; cases hj
      | some z =>
        rw [hq, Option.map_some] at hj
        injection hj with hj
        subst hj
        obtain ⟨hlt, hz⟩ := List.getElem?_eq_some_iff.1 hq
        simp only [List.length_range] at hlt
        simp only [List.getElem_range] at hz
        subst hz
        have h4 := hcell j (by omega)
        rw [cell_add a h2] at h4
        exact h4

theorem trod_six {f0 f1 f2 f3 f4 f5 : Field} {fuel : Nat} {cs : List Value} {x : DataW H × List MemPlace} (ht : P.underlying t = some (.struct #[f0, f1, f2, f3, f4, f5])) (hc : P.cellsOf t = 6)
    (o0 : f0.offset = 0) (o1 : f1.offset = 1) (o2 : f2.offset = 2) (o3 : f3.offset = 3) (o4 : f4.offset = 4) (o5 : f5.offset = 5)
    (c0 : P.cellsOf f0.type = 1) (c1 : P.cellsOf f1.type = 1) (c2 : P.cellsOf f2.type = 1) (c3 : P.cellsOf f3.type = 1) (c4 : P.cellsOf f4.type = 1) (c5 : P.cellsOf f5.type = 1)
    (h : DataW.trod enc P w base (fun _ => true) held fuel t cs = some x) :
    ∃ v0 v1 v2 v3 v4 v5 n y0 y1 y2 y3 y4 y5, cs = [v0, v1, v2, v3, v4, v5] ∧ DataW.trod enc P w base (fun _ => true) held n f0.type [v0] = some y0 ∧ DataW.trod enc P w base (fun _ => true) held n f1.type [v1] = some y1 ∧ DataW.trod enc P w base (fun _ => true) held n f2.type [v2] = some y2 ∧
      DataW.trod enc P w base (fun _ => true) held n f3.type [v3] = some y3 ∧ DataW.trod enc P w base (fun _ => true) held n f4.type [v4] = some y4 ∧ DataW.trod enc P w base (fun _ => true) held n f5.type [v5] = some y5 := by
  obtain ⟨xs, n, _, rfl, hl, hlen, hf⟩ := DataW.trod_struct ht h
  rw [hc] at hl
  match cs, hl, xs, hlen with
  | [v0, v1, v2, v3, v4, v5], _, [y0, y1, y2, y3, y4, y5], _ =>
    have g0 := hf 0 f0 rfl
    have g1 := hf 1 f1 rfl
    have g2 := hf 2 f2 rfl
    have g3 := hf 3 f3 rfl
    have g4 := hf 4 f4 rfl
    have g5 := hf 5 f5 rfl
    rw [o0, c0] at g0
    rw [o1, c1] at g1
    rw [o2, c2] at g2
    rw [o3, c3] at g3
    rw [o4, c4] at g4
    rw [o5, c5] at g5
    exact ⟨v0, v1, v2, v3, v4, v5, n, y0, y1, y2, y3, y4, y5, rfl, g0, g1, g2, g3, g4, g5⟩

theorem flat_at {α : Type} {f : α → List Value} (hf : ∀ a, (f a).length = 6) : ∀ (l : List α) (j : Nat), (l.flatMap f)[j]? = (l[j / 6]?).bind fun a => (f a)[j % 6]?
  | [], j => by simp
  | a :: l, j => by
    rw [List.flatMap_cons, List.getElem?_append, hf]
    by_cases h : j < 6
    · rw [if_pos h, Nat.div_eq_of_lt h, Nat.mod_eq_of_lt h]
      rfl
    · rw [if_neg h, flat_at hf l (j - 6)]
      rw [show j / 6 = (j - 6) / 6 + 1 by omega, show j % 6 = (j - 6) % 6 by omega, List.getElem?_cons_succ]

theorem open_six {α : Type} [Inhabited α] (f : α → List Value) (ok : α → Prop) (hf : ∀ a, (f a).length = 6) (ht : P.underlying t = some (.slice e)) (hc : P.cellsOf e = 6) (hval : Value.okWide P w r b0 t v) (hd : DataW.Trod enc P w base (fun _ => true) held t v d ps)
    (he : ∀ n cs x, DataW.trod enc P w base (fun _ => true) held n e cs = some x → ∃ a, cs = f a ∧ ok a) : ∃ l : List α, Sl w (old w) v 6 l.length (l.flatMap f) ∧ ∀ a ∈ l, ok a := by
  obtain ⟨A, n, c, rfl⟩ := okWide_slice ht hval
  obtain ⟨fuel, h⟩ := hd
  rcases open_slice ht h with ⟨h1, _⟩ | ⟨a, len, cap, m, k, D, Pl, h1, hb, hl, hm, hmm, _, hx⟩
  · simp only [Value.cells, List.cons.injEq, Value.slice.injEq, and_true] at h1
    obtain ⟨rfl, rfl, rfl⟩ := h1
    exact ⟨[], ⟨Nat.zero_le _, rfl, none, 0, rfl, Nat.le_refl _, .inl rfl⟩, fun a h => by simp at h⟩
  · simp only [Value.cells, List.cons.injEq, Value.slice.injEq, and_true] at h1
    obtain ⟨rfl, rfl, rfl⟩ := h1
    simp only [if_true] at hmm
    subst hmm
    obtain ⟨h2, h3⟩ := slice_has ht hval
    have each : ∀ i, i < n → ∃ y : α, (∀ j, j < 6 → w.cell? ⟨a.block, a.off + (i * 6 + j), none⟩ = (f y)[j]?) ∧ ok y := by
      intro i hi
      obtain ⟨cs', g1, g2⟩ := hx i (by omega)
      obtain ⟨y, rfl, hy⟩ := he _ _ _ g2
      rw [hc] at g1
      obtain ⟨_, _, g3⟩ := World.cells?_some g1
      refine ⟨y, fun j hj => ?_, hy⟩
      have := g3 j (by omega)
      rw [cell_add a h2, addr_add, Nat.add_assoc] at this
      exact this
    obtain ⟨y, hy⟩ := choose_lt each
    have hln : ((List.range n).map y).length = n := by simp
    refine ⟨(List.range n).map y, ⟨by rw [hln]; unfold maxLen at hm; omega, ?_, some a, _, by rw [hln], by rw [hln]; exact hl, .inr ⟨a.block, a.off, by cases a; simp only at h2; rw [h2], h3, h3, ?_⟩⟩, fun b hb' => ?_⟩
    · have key : ∀ l : List α, (l.flatMap f).length = l.length * 6 := by
        intro l
        induction l with
        | nil => rfl
        | cons a l ih => rw [List.flatMap_cons, List.length_append, hf, ih, List.length_cons]; omega
      exact key _
    · intro j u hj
      rw [flat_at hf] at hj
      cases hq : ((List.range n).map y)[j / 6]? with
      | none => rw [hq] at hj; cases hj
      | some z =>
        rw [hq] at hj
        have hz := hq
        rw [List.getElem?_map] at hz
        cases hr : (List.range n)[j / 6]? with
        | none => rw [hr] at hz; cases hz
        | some i =>
          rw [hr] at hz
          injection hz with hz
          obtain ⟨hlt, hi⟩ := List.getElem?_eq_some_iff.1 hr
          simp only [List.length_range] at hlt
          simp only [List.getElem_range] at hi
          have := (hy (j / 6) hlt).1 (j % 6) (Nat.mod_lt _ (by decide))
          rw [show j / 6 * 6 + j % 6 = j by omega] at this
          rw [this]
          rw [hi, hz]
          exact hj
    · obtain ⟨i, hi, rfl⟩ := List.mem_map.1 hb'
      exact (hy i (List.mem_range.1 hi)).2
end
end Go.Proofs.YtoefhdaenaiomaaDoor

/- What a row's listed variable gives a walk; a world that meets the condition. -/
namespace Go.Proofs.YtoefhdaenaiomaaDoor
open Go Go.ChangeShapes Go.WideShapes Go.RowKit
set_option maxRecDepth 20000

theorem knob : ownKnob Tryd.prog.godebug = none := by kernel_rfl
theorem laidOut : laidOutB Tryd.prog = true := by kernel_rfl
theorem etAt : Tryd.prog.globalNamed "errors.errorType" = some 0 := by kernel_rfl
theorem rtAt : (Tryd.prog.cutTypes.find? (·.1 == "internal/reflectlite.rtype")).map (·.2) = some 166 := by kernel_rfl
theorem oneRow : ((List.range 209).filter fun t => Tryd.prog.rowNamed t [101, 114, 114, 111, 114]) = [28] := by kernel_rfl
theorem typesSize : Tryd.prog.types.size = 209 := by kernel_rfl

theorem handle_of_laid {W : World} (h : laidMetH Tryd.prog Rows.drumArmsRow.laid W) : Laid W := by
  have h' : laidMet Tryd.prog [] W ∧ handlesMet Tryd.prog Rows.drumArmsRow.laid W := h
  obtain ⟨name, u, ty, e1, e2, e3, e4, e5⟩ := h'.2 _ (List.mem_singleton.2 rfl)
  have en : name = [101, 114, 114, 111, 114] := (Option.some.inj e1).symm
  subst en
  obtain rfl := Option.some.inj (rtAt.symm.trans e2)
  have hm : ty ∈ (List.range 209).filter fun t => Tryd.prog.rowNamed t [101, 114, 114, 111, 114] := List.mem_filter.2 ⟨List.mem_range.2 (by rw [← typesSize]; exact e3), e4⟩
  rw [oneRow] at hm
  obtain rfl := List.mem_singleton.1 hm
  have hh : typeHandle Tryd.prog 28 = .pointer (some ⟨3, 28, none⟩) := by kernel_rfl
  rw [hh] at e5
  simpa [Laid] using World.var?_cell etAt e5 0

noncomputable def laidWorld (os : Os) : World :=
  let w0 := World.holding Tryd.prog os ⟨#[], #[], []⟩
  { w0 with heap := w0.heap.modify 0 fun
      | .cells _ t frozen => .cells #[.iface 166 (.agg #[.pointer (some ⟨3, 28, none⟩)])] t frozen
      | o => o }
theorem laidWorld_met (os : Os) (args : Array Value) : laidMetH Tryd.prog Rows.drumArmsRow.laid ((laidWorld os).forCall (fun _ _ => 0) ⟨#[], args, []⟩).memory :=
  laidMetH_of_parts (laidMet_nil _ _) (by kernel_rfl)
theorem u16_wf {z : Int} (h : (Lit.int .u16 z).wf = true) : 0 ≤ z ∧ z < 65536 := by
  simp [Lit.wf, IntKind.min, IntKind.max, IntKind.signed, IntKind.bits] at h
  omega
theorem u32_wf {z : Int} (h : (Lit.int .u32 z).wf = true) : 0 ≤ z ∧ z < 4294967296 := by
  simp [Lit.wf, IntKind.min, IntKind.max, IntKind.signed, IntKind.bits] at h
  omega
theorem int_wf {z : Int} (h : (Lit.int .i64 z).wf = true) : -9223372036854775808 ≤ z ∧ z ≤ 9223372036854775807 := by
  simp [Lit.wf, IntKind.min, IntKind.max, IntKind.signed, IntKind.bits] at h
  omega
end Go.Proofs.YtoefhdaenaiomaaDoor

/- DrumPlays' acts, opened. -/
namespace Go.Proofs.YtoefhdaenaiomaaDoor
open Go Go.ChangeShapes Go.WideShapes Go.RowKit Go.Deep
set_option maxRecDepth 20000

theorem xact_of {H : Type} {enc : TypeId × Value → H} {w : World} {base : Nat} {held : Bool} (n : Nat) (cs : List Value) (x : DataW H × List MemPlace) (h : DataW.trod enc Tryd.prog w base (fun _ => true) held n 49 cs = some x) : ∃ a : XAct, cs = a.cells ∧ a.ok w := by
  obtain ⟨v0, v1, v2, v3, v4, v5, m, y0, y1, y2, y3, y4, y5, rfl, g0, g1, g2, g3, g4, g5⟩ := trod_six Tryd.underlying49 (by kernel_rfl) rfl rfl rfl rfl rfl rfl (by kernel_rfl) (by kernel_rfl) (by kernel_rfl) (by kernel_rfl) (by kernel_rfl) (by kernel_rfl) h
  obtain ⟨z0, e0, _, w0⟩ := DataW.trod_int (t := 5) Tryd.underlying5 g0
  obtain ⟨z1, e1, _, w1⟩ := DataW.trod_int (t := 3) Tryd.underlying3 g1
  obtain ⟨p, hp⟩ := trod_bytes (t := 23) Tryd.underlying23 Tryd.underlying5 (by kernel_rfl) g2
  obtain ⟨kp, hk⟩ := trod_bits (t := 47) Tryd.underlying47 Tryd.underlying4 (by kernel_rfl) g3
  obtain ⟨z4, e4, _, w4⟩ := DataW.trod_int (t := 3) Tryd.underlying3 g4
  obtain ⟨z5, e5, _, w5⟩ := DataW.trod_int (t := 22) Tryd.underlying22 g5
  injection e0 with e0
  injection e1 with e1
  injection e4 with e4
  injection e5 with e5
  subst e0
  subst e1
  subst e4
  subst e5
  have w0' := u8_wf w0
  have w4' := int_wf w4
  have w5' := u32_wf w5
  obtain ⟨n0, rfl⟩ := Int.eq_ofNat_of_zero_le w0'.1
  obtain ⟨n5, rfl⟩ := Int.eq_ofNat_of_zero_le w5'.1
  exact ⟨⟨n0, z1, v2, p, v3, kp, z4, n5⟩, rfl, by dsimp only; omega, by dsimp only; omega, hp, hk⟩
end Go.Proofs.YtoefhdaenaiomaaDoor
