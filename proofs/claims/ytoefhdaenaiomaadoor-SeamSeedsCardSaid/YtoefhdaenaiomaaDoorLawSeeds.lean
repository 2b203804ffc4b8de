/- SeamSeeds: the walk. -/
import Derived.Test.YtoefhdaenaiomaaDoorSeamF
namespace Go.Proofs.YtoefhdaenaiomaaDoor
open Go
set_option maxRecDepth 20000

theorem frm_take0 (s : Nat) (p : List UInt8) : (frm s p).take (p.length + 4) = le4 p.length ++ p := by
  have := frm_take s p []
  rwa [List.append_nil] at this
theorem nErr_frm0 (s t : Nat) (p : List UInt8) (hp : p.length ≤ 100000) : nErr t (frm s p) = 3 ∨ nErr t (frm s p) = if chk s (le4 p.length ++ p) = chk t (le4 p.length ++ p) then 0 else 5 := by
  by_cases hz : zz (frm s p)
  · left; rw [nErr, if_pos hz]
  · right
    have := nErr_frm s t p [] hp (by rwa [List.append_nil])
    rwa [List.append_nil] at this

set_option maxHeartbeats 2000000 in
theorem seeds_c (w : World) (a b : Nat) (vp : Value) (p : List UInt8) (G : Nat → Prop) (ha : a < 4294967296) (hb : b < 4294967296) (h1 : BS w G vp p) :
    Calls Tryd.prog 3 [.int .u32 a, .int .u32 b, vp].toArray w (Ret fun r w' => r = .bool true ∧ Kept none0 w w') := by
  refine calls_T Tryd.func3 rfl rfl rfl ?_
  repeat (first | with_reducible refine T_seq ?_ | with_reducible refine T_region ?_ | with_reducible refine U_nil ?_ | refine U_ar rfl rfl rfl (by first | exact wrap_i64 (by omega) | exact wrap_u64 (by omega) | exact wrap_u32 (by omega) | exact wrap_u8 (by omega)) rfl ?_ | refine U_cv E rfl rfl rfl (by first | exact wrap_i64 (by omega) | exact wrap_u64 (by omega) | exact wrap_u32 (by omega) | exact wrap_u8 (by omega)) rfl ?_ | refine U_pure E rfl rfl ?_ | with_reducible refine T_skip ?_ | with_reducible refine T_block ?_ | with_reducible refine T_inBlock ?_ | refine T_exit rfl ?_ | refine T_condV rfl ?_ | with_reducible refine Cnd_t ?_ | with_reducible refine Cnd_f ?_ | with_reducible refine Cnd_not ?_ | with_reducible refine Cnd_some ?_ | with_reducible refine Cnd_none ?_ | refine U_guard rfl rfl ?_ | with_reducible refine Gd_nt ?_ | with_reducible refine Gd_nf ?_ | with_reducible refine Gd_some ?_ | with_reducible refine Gd_none ?_ | with_reducible refine Gd_want ?_ | ((with_reducible refine Gd_skipT ?_ ?_); exact rfl) | ((with_reducible refine Gd_skipF ?_ ?_); exact rfl))
  refine U_call rfl rfl (Tryd.call18 _) (sawake_c w) ?_
  rintro r w1 ⟨rfl, k1⟩
  repeat (first | with_reducible refine T_seq ?_ | with_reducible refine T_region ?_ | with_reducible refine U_nil ?_ | refine U_ar rfl rfl rfl (by first | exact wrap_i64 (by omega) | exact wrap_u64 (by omega) | exact wrap_u32 (by omega) | exact wrap_u8 (by omega)) rfl ?_ | refine U_cv E rfl rfl rfl (by first | exact wrap_i64 (by omega) | exact wrap_u64 (by omega) | exact wrap_u32 (by omega) | exact wrap_u8 (by omega)) rfl ?_ | refine U_pure E rfl rfl ?_ | with_reducible refine T_skip ?_ | with_reducible refine T_block ?_ | with_reducible refine T_inBlock ?_ | refine T_exit rfl ?_ | refine T_condV rfl ?_ | with_reducible refine Cnd_t ?_ | with_reducible refine Cnd_f ?_ | with_reducible refine Cnd_not ?_ | with_reducible refine Cnd_some ?_ | with_reducible refine Cnd_none ?_ | refine U_guard rfl rfl ?_ | with_reducible refine Gd_nt ?_ | with_reducible refine Gd_nf ?_ | with_reducible refine Gd_some ?_ | with_reducible refine Gd_none ?_ | with_reducible refine Gd_want ?_ | ((with_reducible refine Gd_skipT ?_ ?_); exact rfl) | ((with_reducible refine Gd_skipF ?_ ?_); exact rfl))
  refine U_call rfl rfl (Tryd.call19 _) (cut_c w1 _ vp p 100 (h1.mv k1 (fun _ _ _ x => x)) (by decide)) ?_
  rintro rp w2 ⟨k2, hrp⟩
  have k2' : Kept none0 w w2 := k1.tr k2 (fun _ _ x => x)
  obtain ⟨P, hP⟩ : ∃ P, p.take (Int.toNat 100) = P := ⟨_, rfl⟩
  have lP : P.length ≤ 100 := by rw [← hP, List.length_take]; omega
  rw [hP] at hrp
  have hp2 : BS w2 (fun _ => True) rp P := (hrp.sl (by omega)).mono (fun _ _ _ => trivial)
  clear hrp
  repeat (first | with_reducible refine T_seq ?_ | with_reducible refine T_region ?_ | with_reducible refine U_nil ?_ | refine U_ar rfl rfl rfl (by first | exact wrap_i64 (by omega) | exact wrap_u64 (by omega) | exact wrap_u32 (by omega) | exact wrap_u8 (by omega)) rfl ?_ | refine U_cv E rfl rfl rfl (by first | exact wrap_i64 (by omega) | exact wrap_u64 (by omega) | exact wrap_u32 (by omega) | exact wrap_u8 (by omega)) rfl ?_ | refine U_pure E rfl rfl ?_ | with_reducible refine T_skip ?_ | with_reducible refine T_block ?_ | with_reducible refine T_inBlock ?_ | refine T_exit rfl ?_ | refine T_condV rfl ?_ | with_reducible refine Cnd_t ?_ | with_reducible refine Cnd_f ?_ | with_reducible refine Cnd_not ?_ | with_reducible refine Cnd_some ?_ | with_reducible refine Cnd_none ?_ | refine U_guard rfl rfl ?_ | with_reducible refine Gd_nt ?_ | with_reducible refine Gd_nf ?_ | with_reducible refine Gd_some ?_ | with_reducible refine Gd_none ?_ | with_reducible refine Gd_want ?_ | ((with_reducible refine Gd_skipT ?_ ?_); exact rfl) | ((with_reducible refine Gd_skipF ?_ ?_); exact rfl))
  refine U_call rfl rfl (Tryd.call20 _) (frame_c w2 _ rp P a ha hp2 (by omega)) ?_
  rintro x w3 ⟨k3, hx3⟩
  repeat (first | with_reducible refine T_seq ?_ | with_reducible refine T_region ?_ | with_reducible refine U_nil ?_ | refine U_ar rfl rfl rfl (by first | exact wrap_i64 (by omega) | exact wrap_u64 (by omega) | exact wrap_u32 (by omega) | exact wrap_u8 (by omega)) rfl ?_ | refine U_cv E rfl rfl rfl (by first | exact wrap_i64 (by omega) | exact wrap_u64 (by omega) | exact wrap_u32 (by omega) | exact wrap_u8 (by omega)) rfl ?_ | refine U_pure E rfl rfl ?_ | with_reducible refine T_skip ?_ | with_reducible refine T_block ?_ | with_reducible refine T_inBlock ?_ | refine T_exit rfl ?_ | refine T_condV rfl ?_ | with_reducible refine Cnd_t ?_ | with_reducible refine Cnd_f ?_ | with_reducible refine Cnd_not ?_ | with_reducible refine Cnd_some ?_ | with_reducible refine Cnd_none ?_ | refine U_guard rfl rfl ?_ | with_reducible refine Gd_nt ?_ | with_reducible refine Gd_nf ?_ | with_reducible refine Gd_some ?_ | with_reducible refine Gd_none ?_ | with_reducible refine Gd_want ?_ | ((with_reducible refine Gd_skipT ?_ ?_); exact rfl) | ((with_reducible refine Gd_skipF ?_ ?_); exact rfl))
  refine U_call rfl rfl (Tryd.call20 _) (frame_c w3 _ rp P b hb (hp2.mv k3 (fun _ _ _ x => x)) (by omega)) ?_
  rintro y w4 ⟨k4, hy4⟩
  have hx4 : BS w4 (fun _ => True) x (frm a P) := (hx3.mv k4 (fun _ _ _ x => x)).mono (fun _ _ _ => trivial)
  have hy4 : BS w4 (fun _ => True) y (frm b P) := hy4.mono (fun _ _ _ => trivial)
  have k4' : Kept none0 w w4 := (k2'.tr k3 (fun _ _ x => x)).tr k4 (fun _ _ x => x)
  have lx := frm_len a P
  have ly := frm_len b P
  repeat (first | with_reducible refine T_seq ?_ | with_reducible refine T_region ?_ | with_reducible refine U_nil ?_ | refine U_ar rfl rfl rfl (by first | exact wrap_i64 (by omega) | exact wrap_u64 (by omega) | exact wrap_u32 (by omega) | exact wrap_u8 (by omega)) rfl ?_ | refine U_cv E rfl rfl rfl (by first | exact wrap_i64 (by omega) | exact wrap_u64 (by omega) | exact wrap_u32 (by omega) | exact wrap_u8 (by omega)) rfl ?_ | refine U_pure E rfl rfl ?_ | with_reducible refine T_skip ?_ | with_reducible refine T_block ?_ | with_reducible refine T_inBlock ?_ | refine T_exit rfl ?_ | refine T_condV rfl ?_ | with_reducible refine Cnd_t ?_ | with_reducible refine Cnd_f ?_ | with_reducible refine Cnd_not ?_ | with_reducible refine Cnd_some ?_ | with_reducible refine Cnd_none ?_ | refine U_guard rfl rfl ?_ | with_reducible refine Gd_nt ?_ | with_reducible refine Gd_nf ?_ | with_reducible refine Gd_some ?_ | with_reducible refine Gd_none ?_ | with_reducible refine Gd_want ?_ | ((with_reducible refine Gd_skipT ?_ ?_); exact rfl) | ((with_reducible refine Gd_skipF ?_ ?_); exact rfl))
  refine U_call rfl rfl (Tryd.call21 _) (next_c w4 _ x (frm a P) b hb hx4 (by omega)) ?_
  rintro r w5 ⟨k5, u, rfl, hu⟩
  have hx5 := hx4.mv k5 (fun _ _ _ x => x)
  have hy5 := hy4.mv k5 (fun _ _ _ x => x)
  have k5' : Kept none0 w w5 := k4'.tr k5 (fun _ _ x => x)
  clear hu hx4 hy4 hx3 hp2
  repeat (first | with_reducible refine T_seq ?_ | with_reducible refine T_region ?_ | with_reducible refine U_nil ?_ | refine U_ar rfl rfl rfl (by first | exact wrap_i64 (by omega) | exact wrap_u64 (by omega) | exact wrap_u32 (by omega) | exact wrap_u8 (by omega)) rfl ?_ | refine U_cv E rfl rfl rfl (by first | exact wrap_i64 (by omega) | exact wrap_u64 (by omega) | exact wrap_u32 (by omega) | exact wrap_u8 (by omega)) rfl ?_ | refine U_pure E rfl rfl ?_ | with_reducible refine T_skip ?_ | with_reducible refine T_block ?_ | with_reducible refine T_inBlock ?_ | refine T_exit rfl ?_ | refine T_condV rfl ?_ | with_reducible refine Cnd_t ?_ | with_reducible refine Cnd_f ?_ | with_reducible refine Cnd_not ?_ | with_reducible refine Cnd_some ?_ | with_reducible refine Cnd_none ?_ | refine U_guard rfl rfl ?_ | with_reducible refine Gd_nt ?_ | with_reducible refine Gd_nf ?_ | with_reducible refine Gd_some ?_ | with_reducible refine Gd_none ?_ | with_reducible refine Gd_want ?_ | ((with_reducible refine Gd_skipT ?_ ?_); exact rfl) | ((with_reducible refine Gd_skipF ?_ ?_); exact rfl))
  refine Cnd_p (fun hab => ?_) (fun hab => ?_)
  · have hab' : a = b := by omega
    subst hab'
    repeat (first | with_reducible refine T_seq ?_ | with_reducible refine T_region ?_ | with_reducible refine U_nil ?_ | refine U_ar rfl rfl rfl (by first | exact wrap_i64 (by omega) | exact wrap_u64 (by omega) | exact wrap_u32 (by omega) | exact wrap_u8 (by omega)) rfl ?_ | refine U_cv E rfl rfl rfl (by first | exact wrap_i64 (by omega) | exact wrap_u64 (by omega) | exact wrap_u32 (by omega) | exact wrap_u8 (by omega)) rfl ?_ | refine U_pure E rfl rfl ?_ | with_reducible refine T_skip ?_ | with_reducible refine T_block ?_ | with_reducible refine T_inBlock ?_ | refine T_exit rfl ?_ | refine T_condV rfl ?_ | with_reducible refine Cnd_t ?_ | with_reducible refine Cnd_f ?_ | with_reducible refine Cnd_not ?_ | with_reducible refine Cnd_some ?_ | with_reducible refine Cnd_none ?_ | refine U_guard rfl rfl ?_ | with_reducible refine Gd_nt ?_ | with_reducible refine Gd_nf ?_ | with_reducible refine Gd_some ?_ | with_reducible refine Gd_none ?_ | with_reducible refine Gd_want ?_ | ((with_reducible refine Gd_skipT ?_ ?_); exact rfl) | ((with_reducible refine Gd_skipF ?_ ?_); exact rfl))
    have hc := same_c w5 _ _ x y (frm a P) (frm a P) hx5 hy5
    rw [decide_eq_true rfl] at hc
    refine U_call rfl rfl (Tryd.call22 _) (ret_of hc) ?_
    rintro r w6 ⟨rfl, hd6⟩
    repeat (first | with_reducible refine T_seq ?_ | with_reducible refine T_region ?_ | with_reducible refine U_nil ?_ | refine U_ar rfl rfl rfl (by first | exact wrap_i64 (by omega) | exact wrap_u64 (by omega) | exact wrap_u32 (by omega) | exact wrap_u8 (by omega)) rfl ?_ | refine U_cv E rfl rfl rfl (by first | exact wrap_i64 (by omega) | exact wrap_u64 (by omega) | exact wrap_u32 (by omega) | exact wrap_u8 (by omega)) rfl ?_ | refine U_pure E rfl rfl ?_ | with_reducible refine T_skip ?_ | with_reducible refine T_block ?_ | with_reducible refine T_inBlock ?_ | refine T_exit rfl ?_ | refine T_condV rfl ?_ | with_reducible refine Cnd_t ?_ | with_reducible refine Cnd_f ?_ | with_reducible refine Cnd_not ?_ | with_reducible refine Cnd_some ?_ | with_reducible refine Cnd_none ?_ | refine U_guard rfl rfl ?_ | with_reducible refine Gd_nt ?_ | with_reducible refine Gd_nf ?_ | with_reducible refine Gd_some ?_ | with_reducible refine Gd_none ?_ | with_reducible refine Gd_want ?_ | ((with_reducible refine Gd_skipT ?_ ?_); exact rfl) | ((with_reducible refine Gd_skipF ?_ ?_); exact rfl))
    exact T_ret1 Tryd.func3 rfl rfl ⟨_, rfl, rfl, k5'.tr (hd6.kept none0) (fun _ _ x => x)⟩
  · have hab' : a ≠ b := by omega
    have hne : chk a (le4 P.length ++ P) ≠ chk b (le4 P.length ++ P) := fun e => hab' (chk_seed ha hb e)
    have he : ∃ k, nErr b (frm a P) = k + 1 := by
      rcases nErr_frm0 a b P (by omega) with e | e
      · exact ⟨2, e⟩
      · rw [if_neg hne] at e
        exact ⟨4, e⟩
    obtain ⟨k, hk⟩ := he
    have hfn : frm a P ≠ frm b P := by
      intro e
      have h1 := frm_drop a P []
      have h2 := frm_drop b P []
      rw [List.append_nil, List.append_nil] at h1 h2
      rw [e, h2] at h1
      have h3 := congrArg val4 h1
      rw [val4_le4 _ (chk_lt _ _), val4_le4 _ (chk_lt _ _)] at h3
      exact hne h3.symm
    rw [hk]
    obtain ⟨A, c, rfl⟩ := hx5.len
    obtain ⟨B, d, rfl⟩ := hy5.len
    obtain ⟨ra, sa, fa⟩ := bs_part (P := Tryd.prog) hx5 0 (P.length + 4) (by omega) (by omega)
    obtain ⟨rb, sb, fb⟩ := bs_part (P := Tryd.prog) hy5 0 (P.length + 4) (by omega) (by omega)
    rw [List.drop_zero, Nat.sub_zero, frm_take0] at sa sb
    repeat (first | with_reducible refine T_seq ?_ | with_reducible refine T_region ?_ | with_reducible refine U_nil ?_ | refine U_ar rfl rfl rfl (by first | exact wrap_i64 (by omega) | exact wrap_u64 (by omega) | exact wrap_u32 (by omega) | exact wrap_u8 (by omega)) rfl ?_ | refine U_cv E rfl rfl rfl (by first | exact wrap_i64 (by omega) | exact wrap_u64 (by omega) | exact wrap_u32 (by omega) | exact wrap_u8 (by omega)) rfl ?_ | refine U_pure E rfl rfl ?_ | with_reducible refine T_skip ?_ | with_reducible refine T_block ?_ | with_reducible refine T_inBlock ?_ | refine T_exit rfl ?_ | refine T_condV rfl ?_ | with_reducible refine Cnd_t ?_ | with_reducible refine Cnd_f ?_ | with_reducible refine Cnd_not ?_ | with_reducible refine Cnd_some ?_ | with_reducible refine Cnd_none ?_ | refine U_guard rfl rfl ?_ | with_reducible refine Gd_nt ?_ | with_reducible refine Gd_nf ?_ | with_reducible refine Gd_some ?_ | with_reducible refine Gd_none ?_ | with_reducible refine Gd_want ?_ | ((with_reducible refine Gd_skipT ?_ ?_); exact rfl) | ((with_reducible refine Gd_skipF ?_ ?_); exact rfl))
    refine L_begin (fun _ => True) 22 (by kernel_rfl) (N := 22) rfl (fun w6 hd6 => ?_)
    have hx6 := hx5.mv (hd6.kept none0) (fun _ _ _ x => x)
    have hy6 := hy5.mv (hd6.kept none0) (fun _ _ _ x => x)
    have sa6 := sa.mv (hd6.kept none0) (fun _ _ _ x => x)
    have sb6 := sb.mv (hd6.kept none0) (fun _ _ _ x => x)
    have k6 : Kept none0 w w6 := k5'.tr (hd6.kept none0) (fun _ _ x => x)
    unfold errV
    refine L_take 0 rfl (by kernel_rfl) (by kernel_rfl) (by kernel_rfl) (by kernel_rfl) trivial rfl rfl rfl (fun a ha w' _ => run_pv E ha rfl _ _ _ _ _) ?_; refine L_take 1 rfl (by kernel_rfl) (by kernel_rfl) (by kernel_rfl) (by kernel_rfl) trivial rfl rfl rfl (fun a ha w' _ => run_pv E ha rfl _ _ _ _ _) ?_; refine L_take 2 rfl (by kernel_rfl) (by kernel_rfl) (by kernel_rfl) (by kernel_rfl) trivial rfl rfl rfl (fun a ha w' _ => run_pv E ha rfl _ _ _ _ _) ?_
    refine L_takeG 3 rfl (by kernel_rfl) (by kernel_rfl) (by kernel_rfl) (by kernel_rfl) trivial rfl rfl rfl rfl rfl (fun a ha w' _ => run_pv E ha rfl _ _ _ _ _) ?_; refine L_takeG 4 rfl (by kernel_rfl) (by kernel_rfl) (by kernel_rfl) (by kernel_rfl) trivial rfl rfl rfl rfl rfl (fun a ha w' _ => run_pv E ha rfl _ _ _ _ _) ?_; refine L_takeG 5 rfl (by kernel_rfl) (by kernel_rfl) (by kernel_rfl) (by kernel_rfl) trivial rfl rfl rfl rfl rfl (fun a ha w' _ => run_pv E ha rfl _ _ _ _ _) ?_
    refine L_takeG 6 rfl (by kernel_rfl) (by kernel_rfl) (by kernel_rfl) (by kernel_rfl) trivial rfl rfl rfl rfl rfl (fun a ha w' _ => ro_ar rfl rfl rfl (by first | exact wrap_i64 (by omega) | exact wrap_u64 (by omega) | exact wrap_u32 (by omega) | exact wrap_u8 (by omega)) a ha) ?_
    refine L_takeG 7 rfl (by kernel_rfl) (by kernel_rfl) (by kernel_rfl) (by kernel_rfl) trivial rfl rfl rfl rfl rfl (fun a ha w' _ => ro_slB E rfl rfl rfl fa (by first | rfl | (simp only [List.length_take, List.length_drop, List.length_append] <;> omega) | (dsimp only; omega) | exact ⟨_, rfl⟩ | exact ⟨_, congrArg (fun z => some (Value.int _ z)) (by omega)⟩) (by first | rfl | (simp only [List.length_take, List.length_drop, List.length_append] <;> omega) | (dsimp only; omega) | exact ⟨_, rfl⟩ | exact ⟨_, congrArg (fun z => some (Value.int _ z)) (by omega)⟩) a ha) ?_
    refine L_takeG 8 rfl (by kernel_rfl) (by kernel_rfl) (by kernel_rfl) (by kernel_rfl) trivial rfl rfl rfl rfl rfl (fun a ha w' _ => run_pv E ha rfl _ _ _ _ _) ?_; refine L_takeG 9 rfl (by kernel_rfl) (by kernel_rfl) (by kernel_rfl) (by kernel_rfl) trivial rfl rfl rfl rfl rfl (fun a ha w' _ => run_pv E ha rfl _ _ _ _ _) ?_; refine L_takeG 10 rfl (by kernel_rfl) (by kernel_rfl) (by kernel_rfl) (by kernel_rfl) trivial rfl rfl rfl rfl rfl (fun a ha w' _ => run_pv E ha rfl _ _ _ _ _) ?_
    refine L_takeG 11 rfl (by kernel_rfl) (by kernel_rfl) (by kernel_rfl) (by kernel_rfl) trivial rfl rfl rfl rfl rfl (fun a ha w' _ => ro_ar rfl rfl rfl (by first | exact wrap_i64 (by omega) | exact wrap_u64 (by omega) | exact wrap_u32 (by omega) | exact wrap_u8 (by omega)) a ha) ?_
    refine L_takeG 12 rfl (by kernel_rfl) (by kernel_rfl) (by kernel_rfl) (by kernel_rfl) trivial rfl rfl rfl rfl rfl (fun a ha w' _ => ro_slB E rfl rfl rfl fb (by first | rfl | (simp only [List.length_take, List.length_drop, List.length_append] <;> omega) | (dsimp only; omega) | exact ⟨_, rfl⟩ | exact ⟨_, congrArg (fun z => some (Value.int _ z)) (by omega)⟩) (by first | rfl | (simp only [List.length_take, List.length_drop, List.length_append] <;> omega) | (dsimp only; omega) | exact ⟨_, rfl⟩ | exact ⟨_, congrArg (fun z => some (Value.int _ z)) (by omega)⟩) a ha) ?_
    refine L_op 13 (by kernel_rfl) rfl (fun hc13 => ?_)
    refine U_guard rfl rfl ?_; refine Gd_want ?_
    have hc := same_c w6 _ _ ra rb _ _ sa6 sb6
    rw [decide_eq_true rfl] at hc
    refine U_call rfl rfl (Tryd.call22 _) (ret_of hc) ?_
    rintro r w7 ⟨rfl, hd7⟩
    refine U_nilL hc13 (fun _ => trivial) ?_
    refine L_take 14 rfl (by kernel_rfl) (by kernel_rfl) (by kernel_rfl) (by kernel_rfl) trivial rfl rfl rfl (fun a ha w' _ => run_pv E ha rfl _ _ _ _ _) ?_; refine L_take 15 rfl (by kernel_rfl) (by kernel_rfl) (by kernel_rfl) (by kernel_rfl) trivial rfl rfl rfl (fun a ha w' _ => run_pv E ha rfl _ _ _ _ _) ?_
    refine L_takeG 16 rfl (by kernel_rfl) (by kernel_rfl) (by kernel_rfl) (by kernel_rfl) trivial rfl rfl rfl rfl rfl (fun a ha w' _ => run_pv E ha rfl _ _ _ _ _) ?_; refine L_takeG 17 rfl (by kernel_rfl) (by kernel_rfl) (by kernel_rfl) (by kernel_rfl) trivial rfl rfl rfl rfl rfl (fun a ha w' _ => run_pv E ha rfl _ _ _ _ _) ?_
    refine L_op 18 (by kernel_rfl) rfl (fun hc18 => ?_)
    refine U_guard rfl rfl ?_; refine Gd_want ?_
    have hc2 := same_c w7 _ _ _ _ (frm a P) (frm b P) (hx6.mv (hd7.kept none0) (fun _ _ _ x => x)) (hy6.mv (hd7.kept none0) (fun _ _ _ x => x))
    rw [decide_eq_false hfn] at hc2
    refine U_call rfl rfl (Tryd.call22 _) (ret_of hc2) ?_
    rintro r w8 ⟨rfl, hd8⟩
    refine U_nilL hc18 (fun _ => trivial) ?_
    refine L_takeG 19 rfl (by kernel_rfl) (by kernel_rfl) (by kernel_rfl) (by kernel_rfl) trivial rfl rfl rfl rfl rfl (fun a ha w' _ => run_pv E ha rfl _ _ _ _ _) ?_
    refine L_take 20 rfl (by kernel_rfl) (by kernel_rfl) (by kernel_rfl) (by kernel_rfl) trivial rfl rfl rfl (fun a ha w' _ => run_pv E ha rfl _ _ _ _ _) ?_; refine L_take 21 rfl (by kernel_rfl) (by kernel_rfl) (by kernel_rfl) (by kernel_rfl) trivial rfl rfl rfl (fun a ha w' _ => run_pv E ha rfl _ _ _ _ _) ?_
    refine L_done (by kernel_rfl) ?_
    repeat (first | with_reducible refine T_seq ?_ | with_reducible refine T_region ?_ | with_reducible refine U_nil ?_ | refine U_ar rfl rfl rfl (by first | exact wrap_i64 (by omega) | exact wrap_u64 (by omega) | exact wrap_u32 (by omega) | exact wrap_u8 (by omega)) rfl ?_ | refine U_cv E rfl rfl rfl (by first | exact wrap_i64 (by omega) | exact wrap_u64 (by omega) | exact wrap_u32 (by omega) | exact wrap_u8 (by omega)) rfl ?_ | refine U_pure E rfl rfl ?_ | with_reducible refine T_skip ?_ | with_reducible refine T_block ?_ | with_reducible refine T_inBlock ?_ | refine T_exit rfl ?_ | refine T_condV rfl ?_ | with_reducible refine Cnd_t ?_ | with_reducible refine Cnd_f ?_ | with_reducible refine Cnd_not ?_ | with_reducible refine Cnd_some ?_ | with_reducible refine Cnd_none ?_ | refine U_guard rfl rfl ?_ | with_reducible refine Gd_nt ?_ | with_reducible refine Gd_nf ?_ | with_reducible refine Gd_some ?_ | with_reducible refine Gd_none ?_ | with_reducible refine Gd_want ?_ | ((with_reducible refine Gd_skipT ?_ ?_); exact rfl) | ((with_reducible refine Gd_skipF ?_ ?_); exact rfl))
    exact T_ret1 Tryd.func3 rfl rfl ⟨_, rfl, rfl, (k6.tr (hd7.kept none0) (fun _ _ x => x)).tr (hd8.kept none0) (fun _ _ x => x)⟩
end Go.Proofs.YtoefhdaenaiomaaDoor
