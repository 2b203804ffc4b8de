/- SeamFrames: the walk. -/
import Derived.Test.YtoefhdaenaiomaaDoorSeamG
import Derived.Test.YtoefhdaenaiomaaDoorCodeC
namespace Go.Proofs.YtoefhdaenaiomaaDoor
open Go
set_option maxRecDepth 20000

theorem zz_zeros {J : List UInt8} {N : Nat} (h : J.length = N) : zz J ↔ J = zeros N := by
  constructor
  · intro hz
    exact List.eq_replicate_iff.2 ⟨h, hz⟩
  · intro e x hx
    rw [e] at hx
    exact (List.mem_replicate.1 hx).2
theorem frm_head (s : Nat) (p : List UInt8) : (frm s p).take 4 = le4 p.length := by
  rw [frm, List.append_assoc]
  exact List.take_left' (le4_len _)
theorem zeros_new {w w' : World} {b N : Nat} (h : New w w' b (List.replicate N [Value.int IntKind.u8 0]).flatten 5) (hN : N ≤ 1000000) : BS w' (fun _ => True) (.slice (some ⟨b, 0, none⟩) N N) (zeros N) := by
  rw [flat_single, ← encBs_zeros] at h
  exact h.bs (zeros_len N) hN _ trivial

set_option maxHeartbeats 4000000 in
theorem frames_c (w : World) (s : Nat) (vp vm : Value) (p m0 : List UInt8) (G H : Nat → Prop) (hs : s < 4294967296) (h1 : BS w G vp p) (h2 : BS w H vm m0) (hL : Laid w) :
    Calls Tryd.prog 8 [.int .u32 s, vp, vm].toArray w (Ret fun r w' => r = .bool true ∧ Kept none0 w w') := by
  refine calls_T Tryd.func8 rfl rfl rfl ?_
  repeat (first | with_reducible refine T_seq ?_ | with_reducible refine T_region ?_ | with_reducible refine U_nil ?_ | refine U_ar rfl rfl rfl (by first | exact wrap_i64 (by omega) | exact wrap_u64 (by omega) | exact wrap_u32 (by omega) | exact wrap_u8 (by omega)) rfl ?_ | refine U_cv E rfl rfl rfl (by first | exact wrap_i64 (by omega) | exact wrap_u64 (by omega) | exact wrap_u32 (by omega) | exact wrap_u8 (by omega)) rfl ?_ | refine U_pure E rfl rfl ?_ | with_reducible refine T_skip ?_ | with_reducible refine T_block ?_ | with_reducible refine T_inBlock ?_ | refine T_exit rfl ?_ | refine T_condV rfl ?_ | with_reducible refine Cnd_t ?_ | with_reducible refine Cnd_f ?_ | with_reducible refine Cnd_not ?_ | with_reducible refine Cnd_some ?_ | with_reducible refine Cnd_none ?_ | refine U_guard rfl rfl ?_ | with_reducible refine Gd_nt ?_ | with_reducible refine Gd_nf ?_ | with_reducible refine Gd_some ?_ | with_reducible refine Gd_none ?_ | with_reducible refine Gd_want ?_ | ((with_reducible refine Gd_skipT ?_ ?_); exact rfl) | ((with_reducible refine Gd_skipF ?_ ?_); exact rfl))
  refine U_call rfl rfl (Tryd.call18 _) (sawake_c w) ?_
  rintro r w1 ⟨rfl, k1⟩
  repeat (first | with_reducible refine T_seq ?_ | with_reducible refine T_region ?_ | with_reducible refine U_nil ?_ | refine U_ar rfl rfl rfl (by first | exact wrap_i64 (by omega) | exact wrap_u64 (by omega) | exact wrap_u32 (by omega) | exact wrap_u8 (by omega)) rfl ?_ | refine U_cv E rfl rfl rfl (by first | exact wrap_i64 (by omega) | exact wrap_u64 (by omega) | exact wrap_u32 (by omega) | exact wrap_u8 (by omega)) rfl ?_ | refine U_pure E rfl rfl ?_ | with_reducible refine T_skip ?_ | with_reducible refine T_block ?_ | with_reducible refine T_inBlock ?_ | refine T_exit rfl ?_ | refine T_condV rfl ?_ | with_reducible refine Cnd_t ?_ | with_reducible refine Cnd_f ?_ | with_reducible refine Cnd_not ?_ | with_reducible refine Cnd_some ?_ | with_reducible refine Cnd_none ?_ | refine U_guard rfl rfl ?_ | with_reducible refine Gd_nt ?_ | with_reducible refine Gd_nf ?_ | with_reducible refine Gd_some ?_ | with_reducible refine Gd_none ?_ | with_reducible refine Gd_want ?_ | ((with_reducible refine Gd_skipT ?_ ?_); exact rfl) | ((with_reducible refine Gd_skipF ?_ ?_); exact rfl))
  refine U_call rfl rfl (Tryd.call19 _) (cut_c w1 _ vp p 200 (h1.mv k1 (fun _ _ _ x => x)) (by decide)) ?_
  rintro rp w2 ⟨k2, hrp⟩
  have k2' : Kept none0 w w2 := k1.tr k2 (fun _ _ x => x)
  obtain ⟨P, hP⟩ : ∃ P, p.take (Int.toNat 200) = P := ⟨_, rfl⟩
  have lP : P.length ≤ 200 := by rw [← hP, List.length_take]; omega
  rw [hP] at hrp
  have hp2 : BS w2 (fun _ => True) rp P := (hrp.sl (by omega)).mono (fun _ _ _ => trivial)
  clear hrp
  repeat (first | with_reducible refine T_seq ?_ | with_reducible refine T_region ?_ | with_reducible refine U_nil ?_ | refine U_ar rfl rfl rfl (by first | exact wrap_i64 (by omega) | exact wrap_u64 (by omega) | exact wrap_u32 (by omega) | exact wrap_u8 (by omega)) rfl ?_ | refine U_cv E rfl rfl rfl (by first | exact wrap_i64 (by omega) | exact wrap_u64 (by omega) | exact wrap_u32 (by omega) | exact wrap_u8 (by omega)) rfl ?_ | refine U_pure E rfl rfl ?_ | with_reducible refine T_skip ?_ | with_reducible refine T_block ?_ | with_reducible refine T_inBlock ?_ | refine T_exit rfl ?_ | refine T_condV rfl ?_ | with_reducible refine Cnd_t ?_ | with_reducible refine Cnd_f ?_ | with_reducible refine Cnd_not ?_ | with_reducible refine Cnd_some ?_ | with_reducible refine Cnd_none ?_ | refine U_guard rfl rfl ?_ | with_reducible refine Gd_nt ?_ | with_reducible refine Gd_nf ?_ | with_reducible refine Gd_some ?_ | with_reducible refine Gd_none ?_ | with_reducible refine Gd_want ?_ | ((with_reducible refine Gd_skipT ?_ ?_); exact rfl) | ((with_reducible refine Gd_skipF ?_ ?_); exact rfl))
  refine U_call rfl rfl (Tryd.call19 _) (cut_c w2 _ vm m0 20 (h2.mv k2' (fun _ _ _ x => x)) (by decide)) ?_
  rintro rm w3 ⟨k3, hrm⟩
  have k3' : Kept none0 w w3 := k2'.tr k3 (fun _ _ x => x)
  obtain ⟨M, hM⟩ : ∃ M, m0.take (Int.toNat 20) = M := ⟨_, rfl⟩
  have lM : M.length ≤ 20 := by rw [← hM, List.length_take]; omega
  rw [hM] at hrm
  have hm3 : BS w3 (fun _ => True) rm M := (hrm.sl (by omega)).mono (fun _ _ _ => trivial)
  clear hrm
  have hp3 := hp2.mv k3 (fun _ _ _ x => x)
  repeat (first | with_reducible refine T_seq ?_ | with_reducible refine T_region ?_ | with_reducible refine U_nil ?_ | refine U_ar rfl rfl rfl (by first | exact wrap_i64 (by omega) | exact wrap_u64 (by omega) | exact wrap_u32 (by omega) | exact wrap_u8 (by omega)) rfl ?_ | refine U_cv E rfl rfl rfl (by first | exact wrap_i64 (by omega) | exact wrap_u64 (by omega) | exact wrap_u32 (by omega) | exact wrap_u8 (by omega)) rfl ?_ | refine U_pure E rfl rfl ?_ | with_reducible refine T_skip ?_ | with_reducible refine T_block ?_ | with_reducible refine T_inBlock ?_ | refine T_exit rfl ?_ | refine T_condV rfl ?_ | with_reducible refine Cnd_t ?_ | with_reducible refine Cnd_f ?_ | with_reducible refine Cnd_not ?_ | with_reducible refine Cnd_some ?_ | with_reducible refine Cnd_none ?_ | refine U_guard rfl rfl ?_ | with_reducible refine Gd_nt ?_ | with_reducible refine Gd_nf ?_ | with_reducible refine Gd_some ?_ | with_reducible refine Gd_none ?_ | with_reducible refine Gd_want ?_ | ((with_reducible refine Gd_skipT ?_ ?_); exact rfl) | ((with_reducible refine Gd_skipF ?_ ?_); exact rfl))
  refine U_call rfl rfl (Tryd.call20 _) (frame_c w3 _ rp P s hs hp3 (by omega)) ?_
  rintro x w4 ⟨k4, hx4⟩
  have hx4 : BS w4 (fun _ => True) x (frm s P) := hx4.mono (fun _ _ _ => trivial)
  have hm4 := hm3.mv k4 (fun _ _ _ x => x)
  have hp4 := hp3.mv k4 (fun _ _ _ x => x)
  have lx := frm_len s P
  have lJ : (frm s P ++ M).length = P.length + 8 + M.length := by rw [List.length_append, lx]
  obtain ⟨AP, cP, rfl⟩ := hp4.len
  obtain ⟨AM, cM, rfl⟩ := hm4.len
  obtain ⟨AX, cX, rfl⟩ := hx4.len
  have hJf : ([frm s P, M] : List (List UInt8)).flatten = frm s P ++ M := by simp
  repeat (first | with_reducible refine T_seq ?_ | with_reducible refine T_region ?_ | with_reducible refine U_nil ?_ | refine U_ar rfl rfl rfl (by first | exact wrap_i64 (by omega) | exact wrap_u64 (by omega) | exact wrap_u32 (by omega) | exact wrap_u8 (by omega)) rfl ?_ | refine U_cv E rfl rfl rfl (by first | exact wrap_i64 (by omega) | exact wrap_u64 (by omega) | exact wrap_u32 (by omega) | exact wrap_u8 (by omega)) rfl ?_ | refine U_pure E rfl rfl ?_ | with_reducible refine T_skip ?_ | with_reducible refine T_block ?_ | with_reducible refine T_inBlock ?_ | refine T_exit rfl ?_ | refine T_condV rfl ?_ | with_reducible refine Cnd_t ?_ | with_reducible refine Cnd_f ?_ | with_reducible refine Cnd_not ?_ | with_reducible refine Cnd_some ?_ | with_reducible refine Cnd_none ?_ | refine U_guard rfl rfl ?_ | with_reducible refine Gd_nt ?_ | with_reducible refine Gd_nf ?_ | with_reducible refine Gd_some ?_ | with_reducible refine Gd_none ?_ | with_reducible refine Gd_want ?_ | ((with_reducible refine Gd_skipT ?_ ?_); exact rfl) | ((with_reducible refine Gd_skipF ?_ ?_); exact rfl))
  refine U_buildSlice (sz := 1) E rfl rfl rfl rfl rfl rfl rfl rfl (segs := [[.slice AX (frm s P).length cX], [.slice AM M.length cM]]) rfl (by simp) rfl ?_
  intro b5 w5 hn5
  have hj := join_c w5 _ _ _ _ [frm s P, M] (two_sl hn5.blk) rfl (two_bs (hx4.mv hn5.kept (fun _ _ _ x => x)) (hm4.mv hn5.kept (fun _ _ _ x => x))) (by rw [hJf]; omega)
  rw [hJf] at hj
  refine U_call rfl rfl (Tryd.call35 _) (hj) ?_
  rintro rj w6 ⟨k6, hrj⟩
  refine U_call rfl rfl (Tryd.call21 _) (next_c w6 _ rj _ s hs (hrj.sl (by omega)) (by omega)) ?_
  rintro r w7 ⟨k7, u, rfl, hu⟩
  have k47 : Kept none0 w4 w7 := (hn5.kept.tr k6 (fun _ _ x => x)).tr k7 (fun _ _ x => x)
  have hx7 := hx4.mv k47 (fun _ _ _ x => x)
  have hm7 := hm4.mv k47 (fun _ _ _ x => x)
  have hp7 := hp4.mv k47 (fun _ _ _ x => x)
  have hu7 : BS w7 (fun _ => True) u (nRec s (frm s P ++ M)) := hu.mono (fun _ _ _ => trivial)
  have k7' : Kept none0 w w7 := (k3'.tr k4 (fun _ _ x => x)).tr k47 (fun _ _ x => x)
  clear hu hj hrj hx4 hm4 hp4 hm3 hp3 hp2
  repeat (first | with_reducible refine T_seq ?_ | with_reducible refine T_region ?_ | with_reducible refine U_nil ?_ | refine U_ar rfl rfl rfl (by first | exact wrap_i64 (by omega) | exact wrap_u64 (by omega) | exact wrap_u32 (by omega) | exact wrap_u8 (by omega)) rfl ?_ | refine U_cv E rfl rfl rfl (by first | exact wrap_i64 (by omega) | exact wrap_u64 (by omega) | exact wrap_u32 (by omega) | exact wrap_u8 (by omega)) rfl ?_ | refine U_pure E rfl rfl ?_ | with_reducible refine T_skip ?_ | with_reducible refine T_inBlock ?_ | refine T_exit rfl ?_ | refine T_condV rfl ?_ | with_reducible refine Cnd_t ?_ | with_reducible refine Cnd_f ?_ | with_reducible refine Cnd_not ?_ | with_reducible refine Cnd_some ?_ | with_reducible refine Cnd_none ?_ | refine U_guard rfl rfl ?_ | with_reducible refine Gd_nt ?_ | with_reducible refine Gd_nf ?_ | with_reducible refine Gd_some ?_ | with_reducible refine Gd_none ?_ | with_reducible refine Gd_want ?_ | ((with_reducible refine Gd_skipT ?_ ?_); exact rfl) | ((with_reducible refine Gd_skipF ?_ ?_); exact rfl))
  refine T_cut (α := Bool) (fun B => [(50, .bool B), (0, .int .u32 s), (1, .slice AP P.length cP), (7, .slice AX (frm s P).length cX), (8, u), (9, .int .i64 (nLen s (frm s P ++ M) : Nat)), (10, errV (nErr s (frm s P ++ M)))])
    (fun B w' => Kept none0 w7 w' ∧ (B = true ↔ zz (frm s P ++ M))) ?fin ?go
  case fin =>
    rintro B w8 ⟨k8, hB⟩
    have k8' : Kept none0 w w8 := k7'.tr k8 (fun _ _ x => x)
    have hx8 := hx7.mv k8 (fun _ _ _ x => x)
    have hp8 := hp7.mv k8 (fun _ _ _ x => x)
    have hu8 := hu7.mv k8 (fun _ _ _ x => x)
    repeat (first | with_reducible refine T_seq ?_ | with_reducible refine T_region ?_ | with_reducible refine U_nil ?_ | refine U_ar rfl rfl rfl (by first | exact wrap_i64 (by omega) | exact wrap_u64 (by omega) | exact wrap_u32 (by omega) | exact wrap_u8 (by omega)) rfl ?_ | refine U_cv E rfl rfl rfl (by first | exact wrap_i64 (by omega) | exact wrap_u64 (by omega) | exact wrap_u32 (by omega) | exact wrap_u8 (by omega)) rfl ?_ | refine U_pure E rfl rfl ?_ | with_reducible refine T_skip ?_ | with_reducible refine T_block ?_ | with_reducible refine T_inBlock ?_ | refine T_exit rfl ?_ | refine T_condV rfl ?_ | with_reducible refine Cnd_t ?_ | with_reducible refine Cnd_f ?_ | with_reducible refine Cnd_not ?_ | with_reducible refine Cnd_some ?_ | with_reducible refine Cnd_none ?_ | refine U_guard rfl rfl ?_ | with_reducible refine Gd_nt ?_ | with_reducible refine Gd_nf ?_ | with_reducible refine Gd_some ?_ | with_reducible refine Gd_none ?_ | with_reducible refine Gd_want ?_ | ((with_reducible refine Gd_skipT ?_ ?_); exact rfl) | ((with_reducible refine Gd_skipF ?_ ?_); exact rfl))
    refine Cnd_b (fun hb => ?_) (fun hb => ?_)
    · have e0 : nErr s (frm s P ++ M) = 3 := by rw [nErr, if_pos (hB.1 hb)]
      rw [e0]
      unfold errV
      repeat (first | with_reducible refine T_seq ?_ | with_reducible refine T_region ?_ | with_reducible refine U_nil ?_ | refine U_ar rfl rfl rfl (by first | exact wrap_i64 (by omega) | exact wrap_u64 (by omega) | exact wrap_u32 (by omega) | exact wrap_u8 (by omega)) rfl ?_ | refine U_cv E rfl rfl rfl (by first | exact wrap_i64 (by omega) | exact wrap_u64 (by omega) | exact wrap_u32 (by omega) | exact wrap_u8 (by omega)) rfl ?_ | refine U_pure E rfl rfl ?_ | with_reducible refine T_skip ?_ | with_reducible refine T_block ?_ | with_reducible refine T_inBlock ?_ | refine T_exit rfl ?_ | refine T_condV rfl ?_ | with_reducible refine Cnd_t ?_ | with_reducible refine Cnd_f ?_ | with_reducible refine Cnd_not ?_ | with_reducible refine Cnd_some ?_ | with_reducible refine Cnd_none ?_ | refine U_guard rfl rfl ?_ | with_reducible refine Gd_nt ?_ | with_reducible refine Gd_nf ?_ | with_reducible refine Gd_some ?_ | with_reducible refine Gd_none ?_ | with_reducible refine Gd_want ?_ | ((with_reducible refine Gd_skipT ?_ ?_); exact rfl) | ((with_reducible refine Gd_skipF ?_ ?_); exact rfl))
      refine U_call rfl rfl (Tryd.call28 _) (code_err w8 3 (hL.mv k8' (fun x => x))) ?_
      rintro r w9 ⟨rfl, k9⟩
      repeat (first | with_reducible refine T_seq ?_ | with_reducible refine T_region ?_ | with_reducible refine U_nil ?_ | refine U_ar rfl rfl rfl (by first | exact wrap_i64 (by omega) | exact wrap_u64 (by omega) | exact wrap_u32 (by omega) | exact wrap_u8 (by omega)) rfl ?_ | refine U_cv E rfl rfl rfl (by first | exact wrap_i64 (by omega) | exact wrap_u64 (by omega) | exact wrap_u32 (by omega) | exact wrap_u8 (by omega)) rfl ?_ | refine U_pure E rfl rfl ?_ | with_reducible refine T_skip ?_ | with_reducible refine T_block ?_ | with_reducible refine T_inBlock ?_ | refine T_exit rfl ?_ | refine T_condV rfl ?_ | with_reducible refine Cnd_t ?_ | with_reducible refine Cnd_f ?_ | with_reducible refine Cnd_not ?_ | with_reducible refine Cnd_some ?_ | with_reducible refine Cnd_none ?_ | refine U_guard rfl rfl ?_ | with_reducible refine Gd_nt ?_ | with_reducible refine Gd_nf ?_ | with_reducible refine Gd_some ?_ | with_reducible refine Gd_none ?_ | with_reducible refine Gd_want ?_ | ((with_reducible refine Gd_skipT ?_ ?_); exact rfl) | ((with_reducible refine Gd_skipF ?_ ?_); exact rfl))
      exact T_ret1 Tryd.func8 rfl rfl ⟨_, rfl, rfl, k8'.tr k9 (fun _ _ x => x)⟩
    · have hz : ¬ zz (frm s P ++ M) := fun e => by rw [hB.2 e] at hb; cases hb
      have e0 : nErr s (frm s P ++ M) = 0 := by rw [nErr_frm s s P M (by omega) hz, if_pos rfl]
      have e1 : nLen s (frm s P ++ M) = (frm s P).length := by rw [nLen, if_pos e0, frm_val s P M (by omega), lx]
      have e2 : nRec s (frm s P ++ M) = P := by rw [nRec, if_pos e0, frm_val s P M (by omega), frm_body]
      rw [e0, e1]
      rw [e2] at hu8
      unfold errV
      repeat (first | with_reducible refine T_seq ?_ | with_reducible refine T_region ?_ | with_reducible refine U_nil ?_ | refine U_ar rfl rfl rfl (by first | exact wrap_i64 (by omega) | exact wrap_u64 (by omega) | exact wrap_u32 (by omega) | exact wrap_u8 (by omega)) rfl ?_ | refine U_cv E rfl rfl rfl (by first | exact wrap_i64 (by omega) | exact wrap_u64 (by omega) | exact wrap_u32 (by omega) | exact wrap_u8 (by omega)) rfl ?_ | refine U_pure E rfl rfl ?_ | with_reducible refine T_skip ?_ | with_reducible refine T_block ?_ | with_reducible refine T_inBlock ?_ | refine T_exit rfl ?_ | refine T_condV rfl ?_ | with_reducible refine Cnd_t ?_ | with_reducible refine Cnd_f ?_ | with_reducible refine Cnd_not ?_ | with_reducible refine Cnd_some ?_ | with_reducible refine Cnd_none ?_ | refine U_guard rfl rfl ?_ | with_reducible refine Gd_nt ?_ | with_reducible refine Gd_nf ?_ | with_reducible refine Gd_some ?_ | with_reducible refine Gd_none ?_ | with_reducible refine Gd_want ?_ | ((with_reducible refine Gd_skipT ?_ ?_); exact rfl) | ((with_reducible refine Gd_skipF ?_ ?_); exact rfl))
      refine U_call rfl rfl (Tryd.call44 _) (rframe_c w8 _ _ P s hs hp8 (by omega)) ?_
      rintro rf w9 ⟨k9, hf9⟩
      repeat (first | with_reducible refine T_seq ?_ | with_reducible refine T_region ?_ | with_reducible refine U_nil ?_ | refine U_ar rfl rfl rfl (by first | exact wrap_i64 (by omega) | exact wrap_u64 (by omega) | exact wrap_u32 (by omega) | exact wrap_u8 (by omega)) rfl ?_ | refine U_cv E rfl rfl rfl (by first | exact wrap_i64 (by omega) | exact wrap_u64 (by omega) | exact wrap_u32 (by omega) | exact wrap_u8 (by omega)) rfl ?_ | refine U_pure E rfl rfl ?_ | with_reducible refine T_skip ?_ | with_reducible refine T_block ?_ | with_reducible refine T_inBlock ?_ | refine T_exit rfl ?_ | refine T_condV rfl ?_ | with_reducible refine Cnd_t ?_ | with_reducible refine Cnd_f ?_ | with_reducible refine Cnd_not ?_ | with_reducible refine Cnd_some ?_ | with_reducible refine Cnd_none ?_ | refine U_guard rfl rfl ?_ | with_reducible refine Gd_nt ?_ | with_reducible refine Gd_nf ?_ | with_reducible refine Gd_some ?_ | with_reducible refine Gd_none ?_ | with_reducible refine Gd_want ?_ | ((with_reducible refine Gd_skipT ?_ ?_); exact rfl) | ((with_reducible refine Gd_skipF ?_ ?_); exact rfl))
      have hc := same_c w9 _ _ _ rf (frm s P) (frm s P) (hx8.mv k9 (fun _ _ _ x => x)) hf9
      rw [decide_eq_true rfl] at hc
      refine U_call rfl rfl (Tryd.call22 _) (ret_of hc) ?_
      rintro r w10 ⟨rfl, hd10⟩
      have k10 : Kept none0 w8 w10 := k9.tr (hd10.kept none0) (fun _ _ x => x)
      repeat (first | with_reducible refine T_seq ?_ | with_reducible refine T_region ?_ | with_reducible refine U_nil ?_ | refine U_ar rfl rfl rfl (by first | exact wrap_i64 (by omega) | exact wrap_u64 (by omega) | exact wrap_u32 (by omega) | exact wrap_u8 (by omega)) rfl ?_ | refine U_cv E rfl rfl rfl (by first | exact wrap_i64 (by omega) | exact wrap_u64 (by omega) | exact wrap_u32 (by omega) | exact wrap_u8 (by omega)) rfl ?_ | refine U_pure E rfl rfl ?_ | with_reducible refine T_skip ?_ | with_reducible refine T_block ?_ | with_reducible refine T_inBlock ?_ | refine T_exit rfl ?_ | refine T_condV rfl ?_ | with_reducible refine Cnd_t ?_ | with_reducible refine Cnd_f ?_ | with_reducible refine Cnd_not ?_ | with_reducible refine Cnd_some ?_ | with_reducible refine Cnd_none ?_ | refine U_guard rfl rfl ?_ | with_reducible refine Gd_nt ?_ | with_reducible refine Gd_nf ?_ | with_reducible refine Gd_some ?_ | with_reducible refine Gd_none ?_ | with_reducible refine Gd_want ?_ | ((with_reducible refine Gd_skipT ?_ ?_); exact rfl) | ((with_reducible refine Gd_skipF ?_ ?_); exact rfl))
      refine U_call rfl rfl (Tryd.call43 _) (check_c w10 _ _ P s hs (hp8.mv k10 (fun _ _ _ x => x))) ?_
      rintro r w11 ⟨rfl, k11⟩
      have k11' : Kept none0 w8 w11 := k10.tr k11 (fun _ _ x => x)
      repeat (first | with_reducible refine T_seq ?_ | with_reducible refine T_region ?_ | with_reducible refine U_nil ?_ | refine U_ar rfl rfl rfl (by first | exact wrap_i64 (by omega) | exact wrap_u64 (by omega) | exact wrap_u32 (by omega) | exact wrap_u8 (by omega)) rfl ?_ | refine U_cv E rfl rfl rfl (by first | exact wrap_i64 (by omega) | exact wrap_u64 (by omega) | exact wrap_u32 (by omega) | exact wrap_u8 (by omega)) rfl ?_ | refine U_pure E rfl rfl ?_ | with_reducible refine T_skip ?_ | with_reducible refine T_block ?_ | with_reducible refine T_inBlock ?_ | refine T_exit rfl ?_ | refine T_condV rfl ?_ | with_reducible refine Cnd_t ?_ | with_reducible refine Cnd_f ?_ | with_reducible refine Cnd_not ?_ | with_reducible refine Cnd_some ?_ | with_reducible refine Cnd_none ?_ | refine U_guard rfl rfl ?_ | with_reducible refine Gd_nt ?_ | with_reducible refine Gd_nf ?_ | with_reducible refine Gd_some ?_ | with_reducible refine Gd_none ?_ | with_reducible refine Gd_want ?_ | ((with_reducible refine Gd_skipT ?_ ?_); exact rfl) | ((with_reducible refine Gd_skipF ?_ ?_); exact rfl))
      refine U_call rfl rfl (Tryd.call45 _) (rcheck_c w11 _ _ P s hs (hp8.mv k11' (fun _ _ _ x => x)) (by omega)) ?_
      rintro r w12 ⟨rfl, k12⟩
      have k12' : Kept none0 w8 w12 := k11'.tr k12 (fun _ _ x => x)
      repeat (first | with_reducible refine T_seq ?_ | with_reducible refine T_region ?_ | with_reducible refine U_nil ?_ | refine U_ar rfl rfl rfl (by first | exact wrap_i64 (by omega) | exact wrap_u64 (by omega) | exact wrap_u32 (by omega) | exact wrap_u8 (by omega)) rfl ?_ | refine U_cv E rfl rfl rfl (by first | exact wrap_i64 (by omega) | exact wrap_u64 (by omega) | exact wrap_u32 (by omega) | exact wrap_u8 (by omega)) rfl ?_ | refine U_pure E rfl rfl ?_ | with_reducible refine T_skip ?_ | with_reducible refine T_block ?_ | with_reducible refine T_inBlock ?_ | refine T_exit rfl ?_ | refine T_condV rfl ?_ | with_reducible refine Cnd_t ?_ | with_reducible refine Cnd_f ?_ | with_reducible refine Cnd_not ?_ | with_reducible refine Cnd_some ?_ | with_reducible refine Cnd_none ?_ | refine U_guard rfl rfl ?_ | with_reducible refine Gd_nt ?_ | with_reducible refine Gd_nf ?_ | with_reducible refine Gd_some ?_ | with_reducible refine Gd_none ?_ | with_reducible refine Gd_want ?_ | ((with_reducible refine Gd_skipT ?_ ?_); exact rfl) | ((with_reducible refine Gd_skipF ?_ ?_); exact rfl))
      refine Gd_b (fun _ => ?_) (fun e => absurd (of_decide_eq_false e) (fun x => x rfl))
      repeat (first | with_reducible refine T_seq ?_ | with_reducible refine T_region ?_ | with_reducible refine U_nil ?_ | refine U_ar rfl rfl rfl (by first | exact wrap_i64 (by omega) | exact wrap_u64 (by omega) | exact wrap_u32 (by omega) | exact wrap_u8 (by omega)) rfl ?_ | refine U_cv E rfl rfl rfl (by first | exact wrap_i64 (by omega) | exact wrap_u64 (by omega) | exact wrap_u32 (by omega) | exact wrap_u8 (by omega)) rfl ?_ | refine U_pure E rfl rfl ?_ | with_reducible refine T_skip ?_ | with_reducible refine T_block ?_ | with_reducible refine T_inBlock ?_ | refine T_exit rfl ?_ | refine T_condV rfl ?_ | with_reducible refine Cnd_t ?_ | with_reducible refine Cnd_f ?_ | with_reducible refine Cnd_not ?_ | with_reducible refine Cnd_some ?_ | with_reducible refine Cnd_none ?_ | refine U_guard rfl rfl ?_ | with_reducible refine Gd_nt ?_ | with_reducible refine Gd_nf ?_ | with_reducible refine Gd_some ?_ | with_reducible refine Gd_none ?_ | with_reducible refine Gd_want ?_ | ((with_reducible refine Gd_skipT ?_ ?_); exact rfl) | ((with_reducible refine Gd_skipF ?_ ?_); exact rfl))
      refine Gd_b (fun _ => ?_) (fun e => absurd (of_decide_eq_false e) (fun x => x rfl))
      repeat (first | with_reducible refine T_seq ?_ | with_reducible refine T_region ?_ | with_reducible refine U_nil ?_ | refine U_ar rfl rfl rfl (by first | exact wrap_i64 (by omega) | exact wrap_u64 (by omega) | exact wrap_u32 (by omega) | exact wrap_u8 (by omega)) rfl ?_ | refine U_cv E rfl rfl rfl (by first | exact wrap_i64 (by omega) | exact wrap_u64 (by omega) | exact wrap_u32 (by omega) | exact wrap_u8 (by omega)) rfl ?_ | refine U_pure E rfl rfl ?_ | with_reducible refine T_skip ?_ | with_reducible refine T_block ?_ | with_reducible refine T_inBlock ?_ | refine T_exit rfl ?_ | refine T_condV rfl ?_ | with_reducible refine Cnd_t ?_ | with_reducible refine Cnd_f ?_ | with_reducible refine Cnd_not ?_ | with_reducible refine Cnd_some ?_ | with_reducible refine Cnd_none ?_ | refine U_guard rfl rfl ?_ | with_reducible refine Gd_nt ?_ | with_reducible refine Gd_nf ?_ | with_reducible refine Gd_some ?_ | with_reducible refine Gd_none ?_ | with_reducible refine Gd_want ?_ | ((with_reducible refine Gd_skipT ?_ ?_); exact rfl) | ((with_reducible refine Gd_skipF ?_ ?_); exact rfl))
      have hsz := size_c w12 (P.length : Int) (by omega)
      rw [if_neg (by omega)] at hsz
      refine U_call rfl rfl (Tryd.call46 _) (hsz) ?_
      rintro r w13 ⟨rfl, rfl⟩
      repeat (first | with_reducible refine T_seq ?_ | with_reducible refine T_region ?_ | with_reducible refine U_nil ?_ | refine U_ar rfl rfl rfl (by first | exact wrap_i64 (by omega) | exact wrap_u64 (by omega) | exact wrap_u32 (by omega) | exact wrap_u8 (by omega)) rfl ?_ | refine U_cv E rfl rfl rfl (by first | exact wrap_i64 (by omega) | exact wrap_u64 (by omega) | exact wrap_u32 (by omega) | exact wrap_u8 (by omega)) rfl ?_ | refine U_pure E rfl rfl ?_ | with_reducible refine T_skip ?_ | with_reducible refine T_block ?_ | with_reducible refine T_inBlock ?_ | refine T_exit rfl ?_ | refine T_condV rfl ?_ | with_reducible refine Cnd_t ?_ | with_reducible refine Cnd_f ?_ | with_reducible refine Cnd_not ?_ | with_reducible refine Cnd_some ?_ | with_reducible refine Cnd_none ?_ | refine U_guard rfl rfl ?_ | with_reducible refine Gd_nt ?_ | with_reducible refine Gd_nf ?_ | with_reducible refine Gd_some ?_ | with_reducible refine Gd_none ?_ | with_reducible refine Gd_want ?_ | ((with_reducible refine Gd_skipT ?_ ?_); exact rfl) | ((with_reducible refine Gd_skipF ?_ ?_); exact rfl))
      refine Gd_b (fun _ => ?_) (fun e => absurd (of_decide_eq_false e) (fun x => x (by omega)))
      repeat (first | with_reducible refine T_seq ?_ | with_reducible refine T_region ?_ | with_reducible refine U_nil ?_ | refine U_ar rfl rfl rfl (by first | exact wrap_i64 (by omega) | exact wrap_u64 (by omega) | exact wrap_u32 (by omega) | exact wrap_u8 (by omega)) rfl ?_ | refine U_cv E rfl rfl rfl (by first | exact wrap_i64 (by omega) | exact wrap_u64 (by omega) | exact wrap_u32 (by omega) | exact wrap_u8 (by omega)) rfl ?_ | refine U_pure E rfl rfl ?_ | with_reducible refine T_skip ?_ | with_reducible refine T_block ?_ | with_reducible refine T_inBlock ?_ | refine T_exit rfl ?_ | refine T_condV rfl ?_ | with_reducible refine Cnd_t ?_ | with_reducible refine Cnd_f ?_ | with_reducible refine Cnd_not ?_ | with_reducible refine Cnd_some ?_ | with_reducible refine Cnd_none ?_ | refine U_guard rfl rfl ?_ | with_reducible refine Gd_nt ?_ | with_reducible refine Gd_nf ?_ | with_reducible refine Gd_some ?_ | with_reducible refine Gd_none ?_ | with_reducible refine Gd_want ?_ | ((with_reducible refine Gd_skipT ?_ ?_); exact rfl) | ((with_reducible refine Gd_skipF ?_ ?_); exact rfl))
      have hc2 := same_c w13 _ _ u _ P P (hu8.mv k12' (fun _ _ _ x => x)) (hp8.mv k12' (fun _ _ _ x => x))
      rw [decide_eq_true rfl] at hc2
      refine U_call rfl rfl (Tryd.call22 _) (ret_of hc2) ?_
      rintro r w14 ⟨rfl, hd14⟩
      repeat (first | with_reducible refine T_seq ?_ | with_reducible refine T_region ?_ | with_reducible refine U_nil ?_ | refine U_ar rfl rfl rfl (by first | exact wrap_i64 (by omega) | exact wrap_u64 (by omega) | exact wrap_u32 (by omega) | exact wrap_u8 (by omega)) rfl ?_ | refine U_cv E rfl rfl rfl (by first | exact wrap_i64 (by omega) | exact wrap_u64 (by omega) | exact wrap_u32 (by omega) | exact wrap_u8 (by omega)) rfl ?_ | refine U_pure E rfl rfl ?_ | with_reducible refine T_skip ?_ | with_reducible refine T_block ?_ | with_reducible refine T_inBlock ?_ | refine T_exit rfl ?_ | refine T_condV rfl ?_ | with_reducible refine Cnd_t ?_ | with_reducible refine Cnd_f ?_ | with_reducible refine Cnd_not ?_ | with_reducible refine Cnd_some ?_ | with_reducible refine Cnd_none ?_ | refine U_guard rfl rfl ?_ | with_reducible refine Gd_nt ?_ | with_reducible refine Gd_nf ?_ | with_reducible refine Gd_some ?_ | with_reducible refine Gd_none ?_ | with_reducible refine Gd_want ?_ | ((with_reducible refine Gd_skipT ?_ ?_); exact rfl) | ((with_reducible refine Gd_skipF ?_ ?_); exact rfl))
      exact T_ret1 Tryd.func8 rfl rfl ⟨_, rfl, rfl, (k8'.tr k12' (fun _ _ x => x)).tr (hd14.kept none0) (fun _ _ x => x)⟩
  case go =>
    intro fin
    refine L_begin (fun _ => True) 21 (by kernel_rfl) (N := 21) rfl (fun w8 hd8 => ?_)
    have hx8 := hx7.mv (hd8.kept none0) (fun _ _ _ x => x)
    have hm8 := hm7.mv (hd8.kept none0) (fun _ _ _ x => x)
    refine L_take 0 rfl (by kernel_rfl) (by kernel_rfl) (by kernel_rfl) (by kernel_rfl) trivial rfl rfl rfl (fun a ha w' _ => run_pv E ha rfl _ _ _ _ _) ?_; refine L_take 1 rfl (by kernel_rfl) (by kernel_rfl) (by kernel_rfl) (by kernel_rfl) trivial rfl rfl rfl (fun a ha w' _ => run_pv E ha rfl _ _ _ _ _) ?_; refine L_take 2 rfl (by kernel_rfl) (by kernel_rfl) (by kernel_rfl) (by kernel_rfl) trivial rfl rfl rfl (fun a ha w' _ => run_pv E ha rfl _ _ _ _ _) ?_; refine L_take 3 rfl (by kernel_rfl) (by kernel_rfl) (by kernel_rfl) (by kernel_rfl) trivial rfl rfl rfl (fun a ha w' _ => run_pv E ha rfl _ _ _ _ _) ?_
    refine L_splitB (g := 33) rfl (fun hp0 => ?_) (fun hp0 => ?_)
    · have hP0 : P = [] := List.eq_nil_of_length_eq_zero (by have := of_decide_eq_true hp0; omega)
      have hh : (frm s P).take 4 = le4 0 := by rw [frm_head, hP0]; rfl
      obtain ⟨ra, sa, fa⟩ := bs_part (P := Tryd.prog) hx8 0 4 (by omega) (by omega)
      rw [List.drop_zero, Nat.sub_zero, hh] at sa
      refine L_takeG 4 rfl (by kernel_rfl) (by kernel_rfl) (by kernel_rfl) (by kernel_rfl) trivial rfl rfl rfl rfl rfl (fun a ha w' _ => run_pv E ha rfl _ _ _ _ _) ?_; refine L_takeG 5 rfl (by kernel_rfl) (by kernel_rfl) (by kernel_rfl) (by kernel_rfl) trivial rfl rfl rfl rfl rfl (fun a ha w' _ => run_pv E ha rfl _ _ _ _ _) ?_
      refine L_takeG 6 rfl (by kernel_rfl) (by kernel_rfl) (by kernel_rfl) (by kernel_rfl) trivial rfl rfl rfl rfl rfl (fun a ha w' _ => ro_slB E rfl rfl rfl fa (by first | rfl | (simp only [List.length_take, List.length_drop, List.length_append] <;> omega) | (dsimp only; omega) | exact ⟨_, rfl⟩ | exact ⟨_, congrArg (fun z => some (Value.int _ z)) (by omega)⟩) (by first | rfl | (simp only [List.length_take, List.length_drop, List.length_append] <;> omega) | (dsimp only; omega) | exact ⟨_, rfl⟩ | exact ⟨_, congrArg (fun z => some (Value.int _ z)) (by omega)⟩) a ha) ?_
      refine L_op 7 (by kernel_rfl) rfl (fun hc7 => ?_)
      refine U_guard rfl rfl ?_; refine Gd_want ?_
      refine U_call rfl rfl (Tryd.call43 _) (check_c w8 _ ra (le4 0) s hs sa) ?_
      rintro r w9 ⟨rfl, k9⟩
      have k79 : Kept none0 w7 w9 := (hd8.kept none0).tr k9 (fun _ _ x => x)
      have hx9 := hx8.mv k9 (fun _ _ _ x => x)
      have hm9 := hm8.mv k9 (fun _ _ _ x => x)
      refine U_nilL hc7 (fun _ => trivial) ?_
      refine L_takeG 8 rfl (by kernel_rfl) (by kernel_rfl) (by kernel_rfl) (by kernel_rfl) trivial rfl rfl rfl rfl rfl (fun a ha w' _ => run_pv E ha rfl _ _ _ _ _) ?_
      refine L_take 9 rfl (by kernel_rfl) (by kernel_rfl) (by kernel_rfl) (by kernel_rfl) trivial rfl rfl rfl (fun a ha w' _ => run_pv E ha rfl _ _ _ _ _) ?_; refine L_take 10 rfl (by kernel_rfl) (by kernel_rfl) (by kernel_rfl) (by kernel_rfl) trivial rfl rfl rfl (fun a ha w' _ => run_pv E ha rfl _ _ _ _ _) ?_
      have lJ8 : (frm s P ++ M).length = 8 + M.length := by have := congrArg List.length hP0; rw [List.length_nil] at this; omega
      refine L_splitB (g := 40) rfl (fun hc0 => ?_) (fun hc0 => ?_)
      · refine L_takeG 11 rfl (by kernel_rfl) (by kernel_rfl) (by kernel_rfl) (by kernel_rfl) trivial rfl rfl rfl rfl rfl (fun a ha w' _ => run_pv E ha rfl _ _ _ _ _) ?_; refine L_takeG 12 rfl (by kernel_rfl) (by kernel_rfl) (by kernel_rfl) (by kernel_rfl) trivial rfl rfl rfl rfl rfl (fun a ha w' _ => run_pv E ha rfl _ _ _ _ _) ?_; refine L_takeG 15 rfl (by kernel_rfl) (by kernel_rfl) (by kernel_rfl) (by kernel_rfl) trivial rfl rfl rfl rfl rfl (fun a ha w' _ => run_pv E ha rfl _ _ _ _ _) ?_; refine L_takeG 16 rfl (by kernel_rfl) (by kernel_rfl) (by kernel_rfl) (by kernel_rfl) trivial rfl rfl rfl rfl rfl (fun a ha w' _ => run_pv E ha rfl _ _ _ _ _) ?_
        refine L_takeG 17 rfl (by kernel_rfl) (by kernel_rfl) (by kernel_rfl) (by kernel_rfl) trivial rfl rfl rfl rfl rfl (fun a ha w' _ => ro_ar rfl rfl rfl (by first | exact wrap_i64 (by omega) | exact wrap_u64 (by omega) | exact wrap_u32 (by omega) | exact wrap_u8 (by omega)) a ha) ?_
        refine L_op2 13 18 (by kernel_rfl) rfl rfl (fun hc => ?_) (fun hc => ?_)
        · refine U_guard rfl rfl ?_; refine Gd_want ?_
          refine U_buildSlice (sz := 1) E rfl rfl rfl rfl rfl rfl rfl rfl (segs := [[.slice AX (frm s P).length cX], [.slice AM M.length cM]]) rfl (by simp) rfl ?_
          intro b10 w10 hn10
          refine U_nilL hc (fun _ => trivial) ?_
          have hx10 := hx9.mv hn10.kept (fun _ _ _ x => x)
          have hm10 := hm9.mv hn10.kept (fun _ _ _ x => x)
          refine L_op2 14 18 (by kernel_rfl) rfl rfl (fun hc => ?_) (fun hc => ?_)
          · refine U_guard rfl rfl ?_; refine Gd_want ?_
            have hj := join_c w10 _ _ _ _ [frm s P, M] (two_sl hn10.blk) rfl (two_bs hx10 hm10) (by rw [hJf]; omega)
            rw [hJf] at hj
            refine U_call rfl rfl (Tryd.call35 _) (hj) ?_
            rintro rj w11 ⟨k11, hrj⟩
            refine U_nilL hc (fun _ => trivial) ?_
            refine L_op 18 (by kernel_rfl) rfl (fun hc => ?_)
            refine U_guard rfl rfl ?_; refine Gd_want ?_
            refine U_make E rfl rfl (zs := [.int .u8 0]) rfl (N := 8 + M.length) (congrArg (fun z => some (Value.int .i64 z)) (by omega)) (congrArg (fun z => some (Value.int .i64 z)) (by omega)) (by omega) (by omega) rfl rfl rfl ?_
            intro b12 w12 hn12
            have hz := zeros_new hn12 (by omega)
            have hJ := (hrj.sl (by omega)).mv hn12.kept (fun _ _ _ x => x)
            have k12 : Kept none0 w7 w12 := ((k79.tr hn10.kept (fun _ _ x => x)).tr k11 (fun _ _ x => x)).tr hn12.kept (fun _ _ x => x)
            refine U_nilL hc (fun _ => trivial) ?_
            refine L_op 19 (by kernel_rfl) rfl (fun hc => ?_)
            refine U_guard rfl rfl ?_; refine Gd_want ?_
            have hsm := same_c w12 _ _ rj _ _ _ hJ hz
            refine U_call rfl rfl (Tryd.call22 _) (ret_of hsm) ?_
            rintro r w13 ⟨rfl, hd13⟩
            refine U_nilL hc (fun _ => trivial) ?_
            refine L_take 20 rfl (by kernel_rfl) (by kernel_rfl) (by kernel_rfl) (by kernel_rfl) trivial rfl rfl rfl (fun a ha w' _ => run_pv E ha rfl _ _ _ _ _) ?_
            refine L_done (by kernel_rfl) (T.less ?_ (fin (decide (frm s P ++ M = zeros (8 + M.length))) w13 ⟨k12.tr (hd13.kept none0) (fun _ _ x => x), by rw [decide_eq_true_iff]; exact (zz_zeros lJ8).symm⟩))
            exact ⟨rfl, rfl, rfl, rfl, rfl, rfl, rfl, trivial⟩
          · refine U_guard rfl rfl ?_; refine Gd_want ?_
            refine U_make E rfl rfl (zs := [.int .u8 0]) rfl (N := 8 + M.length) (congrArg (fun z => some (Value.int .i64 z)) (by omega)) (congrArg (fun z => some (Value.int .i64 z)) (by omega)) (by omega) (by omega) rfl rfl rfl ?_
            intro b12 w12 hn12
            have hz := zeros_new hn12 (by omega)
            refine U_nilL hc (fun _ => trivial) ?_
            refine L_op 14 (by kernel_rfl) rfl (fun hc => ?_)
            refine U_guard rfl rfl ?_; refine Gd_want ?_
            have hj := join_c w12 _ _ _ _ [frm s P, M] (two_sl (hn10.blk.mv hn12.kept (fun x => x))) rfl (two_bs (hx10.mv hn12.kept (fun _ _ _ x => x)) (hm10.mv hn12.kept (fun _ _ _ x => x))) (by rw [hJf]; omega)
            rw [hJf] at hj
            refine U_call rfl rfl (Tryd.call35 _) (hj) ?_
            rintro rj w11 ⟨k11, hrj⟩
            have k12 : Kept none0 w7 w11 := ((k79.tr hn10.kept (fun _ _ x => x)).tr hn12.kept (fun _ _ x => x)).tr k11 (fun _ _ x => x)
            refine U_nilL hc (fun _ => trivial) ?_
            refine L_op 19 (by kernel_rfl) rfl (fun hc => ?_)
            refine U_guard rfl rfl ?_; refine Gd_want ?_
            have hsm := same_c w11 _ _ rj _ _ _ (hrj.sl (by omega)) (hz.mv k11 (fun _ _ _ x => x))
            refine U_call rfl rfl (Tryd.call22 _) (ret_of hsm) ?_
            rintro r w13 ⟨rfl, hd13⟩
            refine U_nilL hc (fun _ => trivial) ?_
            refine L_take 20 rfl (by kernel_rfl) (by kernel_rfl) (by kernel_rfl) (by kernel_rfl) trivial rfl rfl rfl (fun a ha w' _ => run_pv E ha rfl _ _ _ _ _) ?_
            refine L_done (by kernel_rfl) (T.less ?_ (fin (decide (frm s P ++ M = zeros (8 + M.length))) w13 ⟨k12.tr (hd13.kept none0) (fun _ _ x => x), by rw [decide_eq_true_iff]; exact (zz_zeros lJ8).symm⟩))
            exact ⟨rfl, rfl, rfl, rfl, rfl, rfl, rfl, trivial⟩
        · refine U_guard rfl rfl ?_; refine Gd_want ?_
          refine U_make E rfl rfl (zs := [.int .u8 0]) rfl (N := 8 + M.length) (congrArg (fun z => some (Value.int .i64 z)) (by omega)) (congrArg (fun z => some (Value.int .i64 z)) (by omega)) (by omega) (by omega) rfl rfl rfl ?_
          intro b12 w12 hn12
          have hz := zeros_new hn12 (by omega)
          refine U_nilL hc (fun _ => trivial) ?_
          refine L_op 13 (by kernel_rfl) rfl (fun hc => ?_)
          refine U_guard rfl rfl ?_; refine Gd_want ?_
          refine U_buildSlice (sz := 1) E rfl rfl rfl rfl rfl rfl rfl rfl (segs := [[.slice AX (frm s P).length cX], [.slice AM M.length cM]]) rfl (by simp) rfl ?_
          intro b10 w10 hn10
          have hz := hz.mv hn10.kept (fun _ _ _ x => x)
          have hx10 := (hx9.mv hn12.kept (fun _ _ _ x => x)).mv hn10.kept (fun _ _ _ x => x)
          have hm10 := (hm9.mv hn12.kept (fun _ _ _ x => x)).mv hn10.kept (fun _ _ _ x => x)
          refine U_nilL hc (fun _ => trivial) ?_
          refine L_op 14 (by kernel_rfl) rfl (fun hc => ?_)
          refine U_guard rfl rfl ?_; refine Gd_want ?_
          have hj := join_c w10 _ _ _ _ [frm s P, M] (two_sl hn10.blk) rfl (two_bs hx10 hm10) (by rw [hJf]; omega)
          rw [hJf] at hj
          refine U_call rfl rfl (Tryd.call35 _) (hj) ?_
          rintro rj w11 ⟨k11, hrj⟩
          have k12 : Kept none0 w7 w11 := ((k79.tr hn12.kept (fun _ _ x => x)).tr hn10.kept (fun _ _ x => x)).tr k11 (fun _ _ x => x)
          refine U_nilL hc (fun _ => trivial) ?_
          refine L_op 19 (by kernel_rfl) rfl (fun hc => ?_)
          refine U_guard rfl rfl ?_; refine Gd_want ?_
          have hsm := same_c w11 _ _ rj _ _ _ (hrj.sl (by omega)) (hz.mv k11 (fun _ _ _ x => x))
          refine U_call rfl rfl (Tryd.call22 _) (ret_of hsm) ?_
          rintro r w13 ⟨rfl, hd13⟩
          refine U_nilL hc (fun _ => trivial) ?_
          refine L_take 20 rfl (by kernel_rfl) (by kernel_rfl) (by kernel_rfl) (by kernel_rfl) trivial rfl rfl rfl (fun a ha w' _ => run_pv E ha rfl _ _ _ _ _) ?_
          refine L_done (by kernel_rfl) (T.less ?_ (fin (decide (frm s P ++ M = zeros (8 + M.length))) w13 ⟨k12.tr (hd13.kept none0) (fun _ _ x => x), by rw [decide_eq_true_iff]; exact (zz_zeros lJ8).symm⟩))
          exact ⟨rfl, rfl, rfl, rfl, rfl, rfl, rfl, trivial⟩
      · refine L_skipG 11 rfl (by kernel_rfl) (by kernel_rfl) (by kernel_rfl) (by kernel_rfl) trivial rfl rfl rfl rfl rfl rfl ?_; refine L_skipG 12 rfl (by kernel_rfl) (by kernel_rfl) (by kernel_rfl) (by kernel_rfl) trivial rfl rfl rfl rfl rfl rfl ?_; refine L_skipG 15 rfl (by kernel_rfl) (by kernel_rfl) (by kernel_rfl) (by kernel_rfl) trivial rfl rfl rfl rfl rfl rfl ?_; refine L_skipG 16 rfl (by kernel_rfl) (by kernel_rfl) (by kernel_rfl) (by kernel_rfl) trivial rfl rfl rfl rfl rfl rfl ?_; refine L_skipG 17 rfl (by kernel_rfl) (by kernel_rfl) (by kernel_rfl) (by kernel_rfl) trivial rfl rfl rfl rfl rfl rfl ?_; refine L_skipG 18 rfl (by kernel_rfl) (by kernel_rfl) (by kernel_rfl) (by kernel_rfl) trivial rfl rfl rfl rfl rfl rfl ?_; refine L_skipG 13 rfl (by kernel_rfl) (by kernel_rfl) (by kernel_rfl) (by kernel_rfl) trivial rfl rfl rfl rfl rfl rfl ?_; refine L_skipG 14 rfl (by kernel_rfl) (by kernel_rfl) (by kernel_rfl) (by kernel_rfl) trivial rfl rfl rfl rfl rfl rfl ?_; refine L_skipG 19 rfl (by kernel_rfl) (by kernel_rfl) (by kernel_rfl) (by kernel_rfl) trivial rfl rfl rfl rfl rfl rfl ?_
        refine L_take 20 rfl (by kernel_rfl) (by kernel_rfl) (by kernel_rfl) (by kernel_rfl) trivial rfl rfl rfl (fun a ha w' _ => run_pv E ha rfl _ _ _ _ _) ?_
        have hnz : ¬ zz (frm s P ++ M) := fun e => by
          have h1 := (zz_frm (by omega) (zz_app.1 e).1).2
          have h2 := of_decide_eq_false hc0
          exact h2 (by rw [h1]; rfl)
        refine L_done (by kernel_rfl) (T.less ?_ (fin false w9 ⟨k79, by constructor <;> intro e; cases e; exact absurd e hnz⟩))
        exact ⟨rfl, rfl, rfl, rfl, rfl, rfl, rfl, trivial⟩
    · refine L_skipG 4 rfl (by kernel_rfl) (by kernel_rfl) (by kernel_rfl) (by kernel_rfl) trivial rfl rfl rfl rfl rfl rfl ?_; refine L_skipG 5 rfl (by kernel_rfl) (by kernel_rfl) (by kernel_rfl) (by kernel_rfl) trivial rfl rfl rfl rfl rfl rfl ?_; refine L_skipG 6 rfl (by kernel_rfl) (by kernel_rfl) (by kernel_rfl) (by kernel_rfl) trivial rfl rfl rfl rfl rfl rfl ?_; refine L_skipG 7 rfl (by kernel_rfl) (by kernel_rfl) (by kernel_rfl) (by kernel_rfl) trivial rfl rfl rfl rfl rfl rfl ?_; refine L_skipG 8 rfl (by kernel_rfl) (by kernel_rfl) (by kernel_rfl) (by kernel_rfl) trivial rfl rfl rfl rfl rfl rfl ?_
      refine L_take 9 rfl (by kernel_rfl) (by kernel_rfl) (by kernel_rfl) (by kernel_rfl) trivial rfl rfl rfl (fun a ha w' _ => run_pv E ha rfl _ _ _ _ _) ?_; refine L_take 10 rfl (by kernel_rfl) (by kernel_rfl) (by kernel_rfl) (by kernel_rfl) trivial rfl rfl rfl (fun a ha w' _ => run_pv E ha rfl _ _ _ _ _) ?_
      refine L_skipG 11 rfl (by kernel_rfl) (by kernel_rfl) (by kernel_rfl) (by kernel_rfl) trivial rfl rfl rfl rfl rfl rfl ?_; refine L_skipG 12 rfl (by kernel_rfl) (by kernel_rfl) (by kernel_rfl) (by kernel_rfl) trivial rfl rfl rfl rfl rfl rfl ?_; refine L_skipG 15 rfl (by kernel_rfl) (by kernel_rfl) (by kernel_rfl) (by kernel_rfl) trivial rfl rfl rfl rfl rfl rfl ?_; refine L_skipG 16 rfl (by kernel_rfl) (by kernel_rfl) (by kernel_rfl) (by kernel_rfl) trivial rfl rfl rfl rfl rfl rfl ?_; refine L_skipG 17 rfl (by kernel_rfl) (by kernel_rfl) (by kernel_rfl) (by kernel_rfl) trivial rfl rfl rfl rfl rfl rfl ?_; refine L_skipG 18 rfl (by kernel_rfl) (by kernel_rfl) (by kernel_rfl) (by kernel_rfl) trivial rfl rfl rfl rfl rfl rfl ?_; refine L_skipG 13 rfl (by kernel_rfl) (by kernel_rfl) (by kernel_rfl) (by kernel_rfl) trivial rfl rfl rfl rfl rfl rfl ?_; refine L_skipG 14 rfl (by kernel_rfl) (by kernel_rfl) (by kernel_rfl) (by kernel_rfl) trivial rfl rfl rfl rfl rfl rfl ?_; refine L_skipG 19 rfl (by kernel_rfl) (by kernel_rfl) (by kernel_rfl) (by kernel_rfl) trivial rfl rfl rfl rfl rfl rfl ?_
      refine L_take 20 rfl (by kernel_rfl) (by kernel_rfl) (by kernel_rfl) (by kernel_rfl) trivial rfl rfl rfl (fun a ha w' _ => run_pv E ha rfl _ _ _ _ _) ?_
      have hnz : ¬ zz (frm s P ++ M) := fun e => by
        have h1 := (zz_frm (by omega) (zz_app.1 e).1).1
        have h2 := of_decide_eq_false hp0
        exact h2 (by rw [h1]; rfl)
      refine L_done (by kernel_rfl) (T.less ?_ (fin false w8 ⟨hd8.kept none0, by constructor <;> intro e; cases e; exact absurd e hnz⟩))
      exact ⟨rfl, rfl, rfl, rfl, rfl, rfl, rfl, trivial⟩
end Go.Proofs.YtoefhdaenaiomaaDoor
