/- Write. -/
import Derived.Test.YtoefhdaenaiomaaDoorDrumC
namespace Go.Proofs.YtoefhdaenaiomaaDoor
open Go
set_option maxRecDepth 20000

/-- What Write answers. -/
def wrErr (D : Dr) (i : Int) (p : List UInt8) : Nat := if 0 ≤ i ∧ i < D.l.length then (if 256 < p.length then 4 else if D.left = 0 then 8 else 0) else 7
def wrDr (D : Dr) (i : Int) (p : List UInt8) : Dr := if wrErr D i p = 0 then { D with wait := D.wait ++ [(i.toNat, sec p)], left := dec D.left } else D

theorem errV_ne {k : Nat} (h : k ≠ 0) : ∃ j : Nat, k = j + 1 ∧ errV k = .iface 39 (.int .i64 (j + 1 : Nat)) := by
  cases k with
  | zero => exact absurd rfl h
  | succ j => exact ⟨j, rfl, rfl⟩

theorem write_no (w : World) (F : Nat → Prop) (hb : Nat) (D : Dr) (G : Nat → Prop) (v : Value) (p : List UInt8) (i : Int) (h : IsD w F hb D) (hp : BS w G v p) (hk : wrErr D i p ≠ 0) :
    Calls Tryd.prog 27 [ptr hb, .int .i64 i, v].toArray w (Ret fun r w' => r = errV (wrErr D i p) ∧ Kept (fun b => b = hb) w w' ∧ w'.heap.size = w.heap.size ∧ IsD w' F hb D) := by
  have hf := fits_c w F hb D i h
  have hc := act_c w F hb D h
  obtain ⟨A, c, rfl⟩ := hp.len
  refine calls_T Tryd.func27 rfl rfl rfl ?_
  unfold ptr at *
  repeat (first | with_reducible refine T_seq ?_ | with_reducible refine T_region ?_ | with_reducible refine U_nil ?_ | refine U_ar rfl rfl rfl (wrap_i64 (by omega)) rfl ?_ | refine U_pure E rfl rfl ?_ | with_reducible refine T_skip ?_ | with_reducible refine T_block ?_ | with_reducible refine T_inBlock ?_ | refine T_exit rfl ?_ | refine T_condV rfl ?_ | with_reducible refine Cnd_t ?_ | with_reducible refine Cnd_f ?_ | with_reducible refine Cnd_not ?_ | with_reducible refine Cnd_some ?_ | with_reducible refine Cnd_none ?_ | refine U_guard rfl rfl ?_ | with_reducible refine Gd_nt ?_ | with_reducible refine Gd_nf ?_ | with_reducible refine Gd_some ?_ | with_reducible refine Gd_none ?_ | with_reducible refine Gd_want ?_ | ((with_reducible refine Gd_skipT ?_ ?_); exact rfl) | ((with_reducible refine Gd_skipF ?_ ?_); exact rfl))
  refine U_call rfl rfl (Tryd.call70 _) (ret_of hf) ?_
  rintro r w1 ⟨rfl, rfl⟩
  by_cases hi : 0 ≤ i ∧ i < D.l.length
  · rw [if_pos hi]
    unfold errV
    repeat (first | with_reducible refine T_seq ?_ | with_reducible refine T_region ?_ | with_reducible refine U_nil ?_ | refine U_ar rfl rfl rfl (wrap_i64 (by omega)) rfl ?_ | refine U_pure E rfl rfl ?_ | with_reducible refine T_skip ?_ | with_reducible refine T_block ?_ | with_reducible refine T_inBlock ?_ | refine T_exit rfl ?_ | refine T_condV rfl ?_ | with_reducible refine Cnd_t ?_ | with_reducible refine Cnd_f ?_ | with_reducible refine Cnd_not ?_ | with_reducible refine Cnd_some ?_ | with_reducible refine Cnd_none ?_ | refine U_guard rfl rfl ?_ | with_reducible refine Gd_nt ?_ | with_reducible refine Gd_nf ?_ | with_reducible refine Gd_some ?_ | with_reducible refine Gd_none ?_ | with_reducible refine Gd_want ?_ | ((with_reducible refine Gd_skipT ?_ ?_); exact rfl) | ((with_reducible refine Gd_skipF ?_ ?_); exact rfl))
    have hlen := hp.1
    refine Cnd_p (fun hl => ?_) (fun hl => ?_)
    · repeat (first | with_reducible refine T_seq ?_ | with_reducible refine T_region ?_ | with_reducible refine U_nil ?_ | refine U_ar rfl rfl rfl (wrap_i64 (by omega)) rfl ?_ | refine U_pure E rfl rfl ?_ | with_reducible refine T_skip ?_ | with_reducible refine T_block ?_ | with_reducible refine T_inBlock ?_ | refine T_exit rfl ?_ | refine T_condV rfl ?_ | with_reducible refine Cnd_t ?_ | with_reducible refine Cnd_f ?_ | with_reducible refine Cnd_not ?_ | with_reducible refine Cnd_some ?_ | with_reducible refine Cnd_none ?_ | refine U_guard rfl rfl ?_ | with_reducible refine Gd_nt ?_ | with_reducible refine Gd_nf ?_ | with_reducible refine Gd_some ?_ | with_reducible refine Gd_none ?_ | with_reducible refine Gd_want ?_ | ((with_reducible refine Gd_skipT ?_ ?_); exact rfl) | ((with_reducible refine Gd_skipF ?_ ?_); exact rfl))
      refine T_ret1 Tryd.func27 rfl rfl ⟨_, rfl, ?_, Kept.refl _ _, rfl, h⟩
      rw [wrErr, if_pos hi, if_pos (by omega)]
      try rfl
    · have hz : D.left = 0 := Classical.byContradiction fun e => hk (by rw [wrErr, if_pos hi, if_neg (by omega), if_neg e])
      rw [if_pos hz, if_pos hz] at hc
      repeat (first | with_reducible refine T_seq ?_ | with_reducible refine T_region ?_ | with_reducible refine U_nil ?_ | refine U_ar rfl rfl rfl (wrap_i64 (by omega)) rfl ?_ | refine U_pure E rfl rfl ?_ | with_reducible refine T_skip ?_ | with_reducible refine T_block ?_ | with_reducible refine T_inBlock ?_ | refine T_exit rfl ?_ | refine T_condV rfl ?_ | with_reducible refine Cnd_t ?_ | with_reducible refine Cnd_f ?_ | with_reducible refine Cnd_not ?_ | with_reducible refine Cnd_some ?_ | with_reducible refine Cnd_none ?_ | refine U_guard rfl rfl ?_ | with_reducible refine Gd_nt ?_ | with_reducible refine Gd_nf ?_ | with_reducible refine Gd_some ?_ | with_reducible refine Gd_none ?_ | with_reducible refine Gd_want ?_ | ((with_reducible refine Gd_skipT ?_ ?_); exact rfl) | ((with_reducible refine Gd_skipF ?_ ?_); exact rfl))
      refine U_call rfl rfl (Tryd.call69 _) (hc) ?_
      rintro r w1 ⟨rfl, hk1, hs1, hD⟩
      unfold errV
      repeat (first | with_reducible refine T_seq ?_ | with_reducible refine T_region ?_ | with_reducible refine U_nil ?_ | refine U_ar rfl rfl rfl (wrap_i64 (by omega)) rfl ?_ | refine U_pure E rfl rfl ?_ | with_reducible refine T_skip ?_ | with_reducible refine T_block ?_ | with_reducible refine T_inBlock ?_ | refine T_exit rfl ?_ | refine T_condV rfl ?_ | with_reducible refine Cnd_t ?_ | with_reducible refine Cnd_f ?_ | with_reducible refine Cnd_not ?_ | with_reducible refine Cnd_some ?_ | with_reducible refine Cnd_none ?_ | refine U_guard rfl rfl ?_ | with_reducible refine Gd_nt ?_ | with_reducible refine Gd_nf ?_ | with_reducible refine Gd_some ?_ | with_reducible refine Gd_none ?_ | with_reducible refine Gd_want ?_ | ((with_reducible refine Gd_skipT ?_ ?_); exact rfl) | ((with_reducible refine Gd_skipF ?_ ?_); exact rfl))
      refine T_ret1 Tryd.func27 rfl rfl ⟨_, rfl, ?_, hk1, hs1, hD⟩
      rw [wrErr, if_pos hi, if_neg (by omega), if_pos hz]
      try rfl
  · rw [if_neg hi]
    unfold errV
    repeat (first | with_reducible refine T_seq ?_ | with_reducible refine T_region ?_ | with_reducible refine U_nil ?_ | refine U_ar rfl rfl rfl (wrap_i64 (by omega)) rfl ?_ | refine U_pure E rfl rfl ?_ | with_reducible refine T_skip ?_ | with_reducible refine T_block ?_ | with_reducible refine T_inBlock ?_ | refine T_exit rfl ?_ | refine T_condV rfl ?_ | with_reducible refine Cnd_t ?_ | with_reducible refine Cnd_f ?_ | with_reducible refine Cnd_not ?_ | with_reducible refine Cnd_some ?_ | with_reducible refine Cnd_none ?_ | refine U_guard rfl rfl ?_ | with_reducible refine Gd_nt ?_ | with_reducible refine Gd_nf ?_ | with_reducible refine Gd_some ?_ | with_reducible refine Gd_none ?_ | with_reducible refine Gd_want ?_ | ((with_reducible refine Gd_skipT ?_ ?_); exact rfl) | ((with_reducible refine Gd_skipF ?_ ?_); exact rfl))
    refine T_ret1 Tryd.func27 rfl rfl ⟨_, rfl, ?_, Kept.refl _ _, rfl, h⟩
    rw [wrErr, if_neg hi]
    try rfl

theorem flat_snoc {α : Type} (l : List (List α)) (x : List α) : (l ++ [x]).flatten = l.flatten ++ x := by simp

theorem sec_splice (p : List UInt8) (h : p.length ≤ 256) (i : Nat) : ([Value.int IntKind.i64 i] ++ List.replicate 256 (Value.int IntKind.u8 0)).take 1 ++ (encBs p).take 256 ++ ([Value.int IntKind.i64 i] ++ List.replicate 256 (Value.int IntKind.u8 0)).drop (1 + ((encBs p).take 256).length) = encW (i, sec p) := by
  rw [List.take_of_length_le (l := encBs p) (by rw [encBs_len]; exact h), encBs_len, ← encBs_zeros, encW]
  simp only [List.cons_append, List.nil_append, List.take_succ_cons, List.take_zero, Nat.add_comm 1 p.length, List.drop_succ_cons, List.cons.injEq, true_and]
  rw [encBs, encBs, encBs, ← List.map_drop, ← List.map_append]
  congr 1
  simp only [sec]
  rw [List.take_append, List.take_of_length_le h]
  congr 1
  simp only [zeros]
  rw [List.drop_replicate, List.take_replicate]
  congr 1
  omega

theorem w_one (i : Int) : ∀ u ∈ [Value.int IntKind.i64 i] ++ List.replicate 256 (Value.int IntKind.u8 0), u.oneCell' = true := by
  intro u hu
  rcases List.mem_append.1 hu with h | h
  · rw [List.mem_singleton.1 h]; rfl
  · rw [(List.mem_replicate.1 h).2]; rfl

set_option maxHeartbeats 1000000 in
theorem write_ok (w : World) (F : Nat → Prop) (hb : Nat) (D : Dr) (G : Nat → Prop) (v : Value) (p : List UInt8) (i : Int) (h : IsD w F hb D) (hp : BS w G v p) (hd : ∀ b, G b → F b → False) (hk : wrErr D i p = 0) (hwn : D.wait.length < 1000000) :
    Calls Tryd.prog 27 [ptr hb, .int .i64 i, v].toArray w (Ret fun r w' => r = errV 0 ∧ Kept F w w' ∧ IsD w' (fun b => F b ∨ w.heap.size ≤ b) hb (wrDr D i p)) := by
  have hi : 0 ≤ i ∧ i < D.l.length := Classical.byContradiction fun e => by rw [wrErr, if_neg e] at hk; cases hk
  have hl : ¬ 256 < p.length := fun e => by rw [wrErr, if_pos hi, if_pos e] at hk; cases hk
  have hz : ¬ D.left = 0 := fun e => by rw [wrErr, if_pos hi, if_neg hl, if_pos e] at hk; cases hk
  have hf := fits_c w F hb D i h
  have hc := act_c w F hb D h
  have hF := h.mem
  rw [if_pos hi] at hf
  rw [if_neg hz, if_neg hz] at hc
  obtain ⟨I, rfl⟩ := Int.eq_ofNat_of_zero_le hi.1
  obtain ⟨A, c, rfl⟩ := hp.len
  have hlen := hp.1
  rw [wrDr, if_pos hk, Int.toNat_natCast]
  refine calls_T Tryd.func27 rfl rfl rfl ?_
  unfold ptr at *
  repeat (first | with_reducible refine T_seq ?_ | with_reducible refine T_region ?_ | with_reducible refine U_nil ?_ | refine U_ar rfl rfl rfl (wrap_i64 (by omega)) rfl ?_ | refine U_pure E rfl rfl ?_ | with_reducible refine T_skip ?_ | with_reducible refine T_block ?_ | with_reducible refine T_inBlock ?_ | refine T_exit rfl ?_ | refine T_condV rfl ?_ | with_reducible refine Cnd_t ?_ | with_reducible refine Cnd_f ?_ | with_reducible refine Cnd_not ?_ | with_reducible refine Cnd_some ?_ | with_reducible refine Cnd_none ?_ | refine U_guard rfl rfl ?_ | with_reducible refine Gd_nt ?_ | with_reducible refine Gd_nf ?_ | with_reducible refine Gd_some ?_ | with_reducible refine Gd_none ?_ | with_reducible refine Gd_want ?_ | ((with_reducible refine Gd_skipT ?_ ?_); exact rfl) | ((with_reducible refine Gd_skipF ?_ ?_); exact rfl))
  refine U_call rfl rfl (Tryd.call70 _) (ret_of hf) ?_
  rintro r w1 ⟨rfl, rfl⟩
  unfold errV
  repeat (first | with_reducible refine T_seq ?_ | with_reducible refine T_region ?_ | with_reducible refine U_nil ?_ | refine U_ar rfl rfl rfl (wrap_i64 (by omega)) rfl ?_ | refine U_pure E rfl rfl ?_ | with_reducible refine T_skip ?_ | with_reducible refine T_block ?_ | with_reducible refine T_inBlock ?_ | refine T_exit rfl ?_ | refine T_condV rfl ?_ | with_reducible refine Cnd_t ?_ | with_reducible refine Cnd_f ?_ | with_reducible refine Cnd_not ?_ | with_reducible refine Cnd_some ?_ | with_reducible refine Cnd_none ?_ | refine U_guard rfl rfl ?_ | with_reducible refine Gd_nt ?_ | with_reducible refine Gd_nf ?_ | with_reducible refine Gd_some ?_ | with_reducible refine Gd_none ?_ | with_reducible refine Gd_want ?_ | ((with_reducible refine Gd_skipT ?_ ?_); exact rfl) | ((with_reducible refine Gd_skipF ?_ ?_); exact rfl))
  refine Cnd_p (fun hl2 => ?_) (fun hl2 => ?_)
  · exfalso; omega
  · repeat (first | with_reducible refine T_seq ?_ | with_reducible refine T_region ?_ | with_reducible refine U_nil ?_ | refine U_ar rfl rfl rfl (wrap_i64 (by omega)) rfl ?_ | refine U_pure E rfl rfl ?_ | with_reducible refine T_skip ?_ | with_reducible refine T_block ?_ | with_reducible refine T_inBlock ?_ | refine T_exit rfl ?_ | refine T_condV rfl ?_ | with_reducible refine Cnd_t ?_ | with_reducible refine Cnd_f ?_ | with_reducible refine Cnd_not ?_ | with_reducible refine Cnd_some ?_ | with_reducible refine Cnd_none ?_ | refine U_guard rfl rfl ?_ | with_reducible refine Gd_nt ?_ | with_reducible refine Gd_nf ?_ | with_reducible refine Gd_some ?_ | with_reducible refine Gd_none ?_ | with_reducible refine Gd_want ?_ | ((with_reducible refine Gd_skipT ?_ ?_); exact rfl) | ((with_reducible refine Gd_skipF ?_ ?_); exact rfl))
    refine U_call rfl rfl (Tryd.call69 _) (hc) ?_
    rintro r w1 ⟨rfl, hk1, hs1, h0, vl, vw, h1, h2, h3, h4⟩
    unfold errV
    dsimp only at h2 h3 h4
    obtain ⟨g, cap, pad, rfl, hg, hbg, hgl, hgc⟩ := h3.pos h0.n1
    have hp1 := hp.mv hk1 (fun b _ hG e => hd b hG (by rw [e]; exact hF))
    repeat (first | with_reducible refine T_seq ?_ | with_reducible refine T_region ?_ | with_reducible refine U_nil ?_ | refine U_ar rfl rfl rfl (wrap_i64 (by omega)) rfl ?_ | refine U_pure E rfl rfl ?_ | with_reducible refine T_skip ?_ | with_reducible refine T_block ?_ | with_reducible refine T_inBlock ?_ | refine T_exit rfl ?_ | refine T_condV rfl ?_ | with_reducible refine Cnd_t ?_ | with_reducible refine Cnd_f ?_ | with_reducible refine Cnd_not ?_ | with_reducible refine Cnd_some ?_ | with_reducible refine Cnd_none ?_ | refine U_guard rfl rfl ?_ | with_reducible refine Gd_nt ?_ | with_reducible refine Gd_nf ?_ | with_reducible refine Gd_some ?_ | with_reducible refine Gd_none ?_ | with_reducible refine Gd_want ?_ | ((with_reducible refine Gd_skipT ?_ ?_); exact rfl) | ((with_reducible refine Gd_skipF ?_ ?_); exact rfl))
    refine U_build (cells := [Value.int IntKind.i64 I] ++ List.replicate 256 (Value.int IntKind.u8 0)) rfl (by kernel_rfl) rfl ?_
    refine U_alloc E rfl rfl rfl ?_
    intro b9 w2 hn2
    have hfit : 0 + 257 ≤ ([Value.int IntKind.i64 0] ++ List.replicate 256 (Value.int IntKind.u8 0)).length := zw_fit
    refine U_storeA E hn2.blk rfl rfl rfl (by rw [List.length_append, List.length_replicate]; rfl) hfit (w_one _) ?_
    intro w3 hu3
    have hb9 := hu3.blk
    rw [show (257 : Nat) = ([Value.int IntKind.i64 I] ++ List.replicate 256 (Value.int IntKind.u8 0)).length by rw [List.length_append, List.length_replicate]; rfl, splice_all _ _ (by rw [zw_len, List.length_append, List.length_replicate]; rfl)] at hb9
    have hn2a := hn2.at_
    have hn2s := hn2.size
    have hk13 : Kept none0 w1 w3 := hn2.kept.tr hu3.kept (fun j hj (e : j = b9) => by omega)
    have h2a := h2.mv hk13 (fun x => x)
    have hp3 := hp1.mv hk13 (fun _ _ _ x => x)
    have h4a := h4.mv hk13 (fun _ _ _ x => x)
    repeat (first | with_reducible refine T_seq ?_ | with_reducible refine T_region ?_ | with_reducible refine U_nil ?_ | refine U_ar rfl rfl rfl (wrap_i64 (by omega)) rfl ?_ | refine U_pure E rfl rfl ?_ | with_reducible refine T_skip ?_ | with_reducible refine T_block ?_ | with_reducible refine T_inBlock ?_ | refine T_exit rfl ?_ | refine T_condV rfl ?_ | with_reducible refine Cnd_t ?_ | with_reducible refine Cnd_f ?_ | with_reducible refine Cnd_not ?_ | with_reducible refine Cnd_some ?_ | with_reducible refine Cnd_none ?_ | refine U_guard rfl rfl ?_ | with_reducible refine Gd_nt ?_ | with_reducible refine Gd_nf ?_ | with_reducible refine Gd_some ?_ | with_reducible refine Gd_none ?_ | with_reducible refine Gd_want ?_ | ((with_reducible refine Gd_skipT ?_ ?_); exact rfl) | ((with_reducible refine Gd_skipF ?_ ?_); exact rfl))
    refine U_run rfl rfl rfl (ro_sliceArr E rfl rfl rfl rfl) ?_
    repeat (first | with_reducible refine T_seq ?_ | with_reducible refine T_region ?_ | with_reducible refine U_nil ?_ | refine U_ar rfl rfl rfl (wrap_i64 (by omega)) rfl ?_ | refine U_pure E rfl rfl ?_ | with_reducible refine T_skip ?_ | with_reducible refine T_block ?_ | with_reducible refine T_inBlock ?_ | refine T_exit rfl ?_ | refine T_condV rfl ?_ | with_reducible refine Cnd_t ?_ | with_reducible refine Cnd_f ?_ | with_reducible refine Cnd_not ?_ | with_reducible refine Cnd_some ?_ | with_reducible refine Cnd_none ?_ | refine U_guard rfl rfl ?_ | with_reducible refine Gd_nt ?_ | with_reducible refine Gd_nf ?_ | with_reducible refine Gd_some ?_ | with_reducible refine Gd_none ?_ | with_reducible refine Gd_want ?_ | ((with_reducible refine Gd_skipT ?_ ?_); exact rfl) | ((with_reducible refine Gd_skipF ?_ ?_); exact rfl))
    refine U_copy E hb9 hp3 (encBs_one p) rfl rfl rfl rfl (by rw [List.length_append, List.length_replicate]; exact Nat.le_refl 257) rfl ?_
    intro w4 hu4
    have hb9' := hu4.blk
    simp only [Nat.zero_add] at hb9'
    rw [sec_splice p (by omega) I] at hb9'
    have hk14 : Kept none0 w1 w4 := hk13.tr hu4.kept (fun j hj (e : j = b9) => by omega)
    have h2b := h2.mv hk14 (fun x => x)
    have h4b := h4.mv hk14 (fun _ _ _ x => x)
    have hs4 : w4.heap.size = w1.heap.size + 1 := by rw [hu4.size, hu3.size, hn2.size]
    repeat (first | with_reducible refine T_seq ?_ | with_reducible refine T_region ?_ | with_reducible refine U_nil ?_ | refine U_ar rfl rfl rfl (wrap_i64 (by omega)) rfl ?_ | refine U_pure E rfl rfl ?_ | with_reducible refine T_skip ?_ | with_reducible refine T_block ?_ | with_reducible refine T_inBlock ?_ | refine T_exit rfl ?_ | refine T_condV rfl ?_ | with_reducible refine Cnd_t ?_ | with_reducible refine Cnd_f ?_ | with_reducible refine Cnd_not ?_ | with_reducible refine Cnd_some ?_ | with_reducible refine Cnd_none ?_ | refine U_guard rfl rfl ?_ | with_reducible refine Gd_nt ?_ | with_reducible refine Gd_nf ?_ | with_reducible refine Gd_some ?_ | with_reducible refine Gd_none ?_ | with_reducible refine Gd_want ?_ | ((with_reducible refine Gd_skipT ?_ ?_); exact rfl) | ((with_reducible refine Gd_skipF ?_ ?_); exact rfl))
    refine L_begin (fun W => Blk W hb [.slice (some ⟨g, 0, none⟩) D.l.length cap, vw, .int .i64 (dec D.left)] 99 ∧ Blk W b9 (encW (I, sec p)) 103) 10 (by kernel_rfl) rfl (fun w5 hd5 => ?_)
    have hS5 : Blk w5 hb [.slice (some ⟨g, 0, none⟩) D.l.length cap, vw, .int .i64 (dec D.left)] 99 ∧ Blk w5 b9 (encW (I, sec p)) 103 := ⟨h2b.mv (hd5.kept none0) (fun x => x), hb9'.mv (hd5.kept none0) (fun x => x)⟩
    refine L_take 0 rfl (by kernel_rfl) (by kernel_rfl) (by kernel_rfl) (by kernel_rfl) hS5 rfl rfl rfl (fun a ha w' _ => run_pv E ha rfl _ _ _ _ _) ?_
    refine L_take 1 rfl (by kernel_rfl) (by kernel_rfl) (by kernel_rfl) (by kernel_rfl) hS5 rfl rfl rfl (fun a ha w' _ => run_pv E ha rfl _ _ _ _ _) ?_
    refine L_take 2 rfl (by kernel_rfl) (by kernel_rfl) (by kernel_rfl) (by kernel_rfl) hS5 rfl rfl rfl (fun a ha w' _ => run_pv E ha rfl _ _ _ _ _) ?_
    refine L_take 3 rfl (by kernel_rfl) (by kernel_rfl) (by kernel_rfl) (by kernel_rfl) hS5 rfl rfl rfl (fun a ha w' _ => run_pv E ha rfl _ _ _ _ _) ?_
    refine L_take 4 rfl (by kernel_rfl) (by kernel_rfl) (by kernel_rfl) (by kernel_rfl) hS5 rfl rfl rfl (fun a ha w' hS => ro_loadB E hS.1 rfl rfl rfl rfl a ha) ?_
    refine L_take 5 rfl (by kernel_rfl) (by kernel_rfl) (by kernel_rfl) (by kernel_rfl) hS5 rfl rfl rfl (fun a ha w' hS => ro_loadA E hS.2.whole rfl rfl rfl (by rw [encW_len, sec_len]) a ha) ?_
    have h4c := h4b.mv (hd5.kept none0) (fun _ _ _ x => x)
    have hs5 : w5.heap.size = w1.heap.size + 1 := by rw [← hs4, hd5.heap]
    have hk15 := hk14.tr (hd5.kept none0) (fun _ _ x => x)
    have hlthb := hS5.1.lt
    have hltb9 := hS5.2.lt
    refine L_op 6 (by kernel_rfl) rfl (fun hcl => ?_)
    refine U_buildSlice E rfl rfl rfl rfl rfl rfl rfl rfl (segs := [encW (I, sec p)]) rfl (by intro s hs; rw [List.mem_singleton.1 hs, encW_len, sec_len]) rfl ?_
    intro b6 w6 hn6
    have hb6 := hn6.at_
    have hS6 : Blk w6 hb [.slice (some ⟨g, 0, none⟩) D.l.length cap, vw, .int .i64 (dec D.left)] 99 ∧ Blk w6 b9 (encW (I, sec p)) 103 := ⟨hS5.1.mv hn6.kept (fun x => x), hS5.2.mv hn6.kept (fun x => x)⟩
    have h4d := h4c.mv hn6.kept (fun _ _ _ x => x)
    have hk16 := hk15.tr hn6.kept (fun _ _ x => x)
    refine U_nilL hcl (fun _ => hS6) ?_
    refine L_op 7 (by kernel_rfl) rfl (fun hcl7 => ?_)
    have hlit : Sl w6 (fun x => x = b6) (.slice (some ⟨b6, 0, none⟩) 1 1) 257 1 (encW (I, sec p)) := by
      refine ⟨by omega, by rw [encW_len, sec_len], _, 1, rfl, Nat.le_refl _, .inr ⟨b6, 0, rfl, rfl, hn6.blk.lt, ?_⟩⟩
      have := hn6.blk.whole
      simpa using this
    refine U_append E h4d hlit (encW_one _) rfl rfl rfl rfl rfl (by omega) (by omega) rfl ?_
    intro vw' w7 hr7 hk7 _ hob
    obtain ⟨A7, c7, rfl⟩ := hr7.val
    have hown := h4d.own
    have hS7 : Blk w7 hb [.slice (some ⟨g, 0, none⟩) D.l.length cap, vw, .int .i64 (dec D.left)] 99 ∧ Blk w7 b9 (encW (I, sec p)) 103 := by
      refine ⟨hS6.1.mv hk7 (fun e => (hown _ e).1.2.1 rfl), hS6.2.mv hk7 (fun e => ?_)⟩
      have := h4.own b9 e
      have := this.2
      omega
    refine U_nilL hcl7 (fun _ => hS7) ?_
    refine L_take 8 rfl (by kernel_rfl) (by kernel_rfl) (by kernel_rfl) (by kernel_rfl) hS7 rfl rfl rfl (fun a ha w' _ => run_pv E ha rfl _ _ _ _ _) ?_
    refine L_take 9 rfl (by kernel_rfl) (by kernel_rfl) (by kernel_rfl) (by kernel_rfl) hS7 rfl rfl rfl (fun a ha w' _ => run_pv E ha rfl _ _ _ _ _) ?_
    refine L_op 10 (by kernel_rfl) rfl (fun hcl10 => ?_)
    refine U_store E (hS7.1) rfl rfl rfl (by simp) rfl ?_
    intro w8 hu8
    refine U_nilL hcl10 (fun e => absurd rfl e) ?_
    refine L_done (by kernel_rfl) ?_
    repeat (first | with_reducible refine T_seq ?_ | with_reducible refine T_region ?_ | with_reducible refine U_nil ?_ | refine U_ar rfl rfl rfl (wrap_i64 (by omega)) rfl ?_ | refine U_pure E rfl rfl ?_ | with_reducible refine T_skip ?_ | with_reducible refine T_block ?_ | with_reducible refine T_inBlock ?_ | refine T_exit rfl ?_ | refine T_condV rfl ?_ | with_reducible refine Cnd_t ?_ | with_reducible refine Cnd_f ?_ | with_reducible refine Cnd_not ?_ | with_reducible refine Cnd_some ?_ | with_reducible refine Cnd_none ?_ | refine U_guard rfl rfl ?_ | with_reducible refine Gd_nt ?_ | with_reducible refine Gd_nf ?_ | with_reducible refine Gd_some ?_ | with_reducible refine Gd_none ?_ | with_reducible refine Gd_want ?_ | ((with_reducible refine Gd_skipT ?_ ?_); exact rfl) | ((with_reducible refine Gd_skipF ?_ ?_); exact rfl))
    have hn6s := hn6.size
    have hs7 := hk7.size
    have hk17 : Kept F w1 w7 := (hk16.mono (fun _ _ x => x.elim)).tr hk7 (fun j hj e => (h4.own j e).1.1)
    have hk18 : Kept F w1 w8 := hk17.tr hu8.kept (fun j hj e => by rw [e]; exact hF)
    refine T_ret1 Tryd.func27 rfl rfl ⟨_, rfl, rfl, (hk1.mono (fun j _ e => by rw [e]; exact hF)).tr hk18 (fun _ _ x => x), ?_, .slice (some ⟨g, 0, none⟩) D.l.length cap, .slice A7 (D.wait.length + 1) c7, .inl h1, ?_, ?_, ?_⟩
    · refine ⟨h0.n1, h0.n2, h0.secs, ?_, ?_, h0.left1, h0.left2⟩
      · intro q hq
        rcases List.mem_append.1 hq with hq | hq
        · exact h0.waits q hq
        · rw [List.mem_singleton.1 hq]
          exact ⟨by dsimp only; omega, sec_len p⟩
      · dsimp only
        simp only [List.length_append, List.length_cons, List.length_nil]
        omega
    · simpa using hu8.blk
    · have hkr : Kept (fun b => b = hb ∨ vw.ownBlock = some b) w1 w8 := ((hk16.mono (fun _ _ x => x.elim)).tr hk7 (fun j _ e => .inr e)).tr hu8.kept (fun j _ e => .inl e)
      have hgw : ∀ j, vw.ownBlock = some j → j ≠ g := fun j e e2 => (h4.own j e).1.2.2 (by rw [e2]; rfl)
      have hbg8 := hbg.mv hkr (fun e => e.elim (fun e => hg.2 e) (fun e => hgw g e rfl))
      exact ⟨h3.1, .inr ⟨g, cap, pad, rfl, ⟨.inl hg.1, hg.2⟩, hbg8, hgl, hgc⟩⟩
    · have hr8 := hr7.mv (G := fun b => (F b ∧ b ≠ hb ∧ (Value.slice (some { block := g, off := 0 }) D.l.length cap).ownBlock ≠ some b) ∨ w6.heap.size ≤ b) (F := fun x => x = hb) hu8.kept (fun j _ e e2 => by
        subst e2
        rcases e with e | e
        · exact e.2.1 rfl
        · omega)
      have he : (List.map encW (D.wait ++ [(I, sec p)])).flatten = (List.map encW D.wait).flatten ++ encW (I, sec p) := by
        rw [List.map_append, List.map_cons, List.map_nil, flat_snoc]
      have hlw : (D.wait ++ [(I, sec p)]).length = D.wait.length + 1 := by simp
      rw [he, hlw]
      refine hr8.mono (fun j _ e => ?_)
      rcases e with e | e
      · exact ⟨.inl e.1, e.2.1, e.2.2⟩
      · refine ⟨.inr (by omega), by omega, fun e2 => ?_⟩
        simp only [Value.ownBlock] at e2
        injection e2 with e2
        have hltg := hbg.lt
        omega
end Go.Proofs.YtoefhdaenaiomaaDoor
