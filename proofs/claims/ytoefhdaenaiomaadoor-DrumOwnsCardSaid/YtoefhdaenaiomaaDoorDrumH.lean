/- Read. -/
import Derived.Test.YtoefhdaenaiomaaDoorDrumG
namespace Go.Proofs.YtoefhdaenaiomaaDoor
open Go
set_option maxRecDepth 20000

theorem blk_bs {w : World} {G : Nat → Prop} {b : Nat} {s : List UInt8} {t : TypeId} (h : Blk w b (encBs s) t) (hs : s.length = 256) (hg : G b) : BS w G (.slice (some ⟨b, 0, none⟩) 256 256) s := by
  refine ⟨by omega, by rw [encBs_len, Nat.mul_one], some ⟨b, 0, none⟩, 256, by rw [hs], by omega, .inr ⟨b, 0, rfl, hg, h.lt, h.whole⟩⟩

theorem read_c (w : World) (F : Nat → Prop) (hb : Nat) (D : Dr) (i : Nat) (h : IsD w F hb D) (hi : i < D.l.length) :
    Calls Tryd.prog 36 [ptr hb, .int .i64 i].toArray w (Ret fun r w' => ∃ b, r = .tuple #[.slice (some ⟨b, 0, none⟩) 256 256, .nilIface] ∧ w.heap.size ≤ b ∧ Blk w' b (encBs (nowS D.l D.wait i)) 101 ∧ Kept none0 w w') := by
  have hf := fits_c w F hb D i h
  rw [if_pos (by omega)] at hf
  have hn := now_c w F hb D i h hi
  have hln := nowS_len D.l D.wait i h.1.secs (fun p hp => (h.1.waits p hp).2) hi
  refine calls_T Tryd.func36 rfl rfl rfl ?_
  unfold ptr at *
  repeat (first | with_reducible refine T_seq ?_ | with_reducible refine T_region ?_ | with_reducible refine U_nil ?_ | refine U_ar rfl rfl rfl (wrap_i64 (by omega)) rfl ?_ | refine U_pure E rfl rfl ?_ | with_reducible refine T_skip ?_ | with_reducible refine T_block ?_ | with_reducible refine T_inBlock ?_ | refine T_exit rfl ?_ | refine T_condV rfl ?_ | with_reducible refine Cnd_t ?_ | with_reducible refine Cnd_f ?_ | with_reducible refine Cnd_not ?_ | with_reducible refine Cnd_some ?_ | with_reducible refine Cnd_none ?_ | refine U_guard rfl rfl ?_ | with_reducible refine Gd_nt ?_ | with_reducible refine Gd_nf ?_ | with_reducible refine Gd_some ?_ | with_reducible refine Gd_none ?_ | with_reducible refine Gd_want ?_ | ((with_reducible refine Gd_skipT ?_ ?_); exact rfl) | ((with_reducible refine Gd_skipF ?_ ?_); exact rfl))
  refine U_call rfl rfl (Tryd.call70 _) (ret_of hf) ?_
  rintro r w1 ⟨rfl, rfl⟩
  unfold errV
  repeat (first | with_reducible refine T_seq ?_ | with_reducible refine T_region ?_ | with_reducible refine U_nil ?_ | refine U_ar rfl rfl rfl (wrap_i64 (by omega)) rfl ?_ | refine U_pure E rfl rfl ?_ | with_reducible refine T_skip ?_ | with_reducible refine T_block ?_ | with_reducible refine T_inBlock ?_ | refine T_exit rfl ?_ | refine T_condV rfl ?_ | with_reducible refine Cnd_t ?_ | with_reducible refine Cnd_f ?_ | with_reducible refine Cnd_not ?_ | with_reducible refine Cnd_some ?_ | with_reducible refine Cnd_none ?_ | refine U_guard rfl rfl ?_ | with_reducible refine Gd_nt ?_ | with_reducible refine Gd_nf ?_ | with_reducible refine Gd_some ?_ | with_reducible refine Gd_none ?_ | with_reducible refine Gd_want ?_ | ((with_reducible refine Gd_skipT ?_ ?_); exact rfl) | ((with_reducible refine Gd_skipF ?_ ?_); exact rfl))
  refine U_call rfl rfl (Tryd.call79 _) (hn) ?_
  rintro r w2 ⟨rfl, hk2⟩
  refine U_alloc E rfl rfl rfl ?_
  intro b w3 hn3
  refine U_storeA E (hn3.blk) rfl rfl rfl (by rw [encBs_len, hln]) (by rw [List.length_replicate]; exact Nat.le_refl 256) (encBs_one _) ?_
  intro w4 hu4
  have hb4 := hu4.blk
  rw [show 256 = (encBs (nowS D.l D.wait i)).length by rw [encBs_len, hln], splice_all _ _ (by rw [encBs_len, hln, List.length_replicate])] at hb4
  have e3 := hn3.at_
  have s2 := hk2.size
  repeat (first | with_reducible refine T_seq ?_ | with_reducible refine T_region ?_ | with_reducible refine U_nil ?_ | refine U_ar rfl rfl rfl (wrap_i64 (by omega)) rfl ?_ | refine U_pure E rfl rfl ?_ | with_reducible refine T_skip ?_ | with_reducible refine T_block ?_ | with_reducible refine T_inBlock ?_ | refine T_exit rfl ?_ | refine T_condV rfl ?_ | with_reducible refine Cnd_t ?_ | with_reducible refine Cnd_f ?_ | with_reducible refine Cnd_not ?_ | with_reducible refine Cnd_some ?_ | with_reducible refine Cnd_none ?_ | refine U_guard rfl rfl ?_ | with_reducible refine Gd_nt ?_ | with_reducible refine Gd_nf ?_ | with_reducible refine Gd_some ?_ | with_reducible refine Gd_none ?_ | with_reducible refine Gd_want ?_ | ((with_reducible refine Gd_skipT ?_ ?_); exact rfl) | ((with_reducible refine Gd_skipF ?_ ?_); exact rfl))
  refine U_run rfl rfl rfl (ro_sliceArr E rfl rfl rfl rfl) ?_
  repeat (first | with_reducible refine T_seq ?_ | with_reducible refine T_region ?_ | with_reducible refine U_nil ?_ | refine U_ar rfl rfl rfl (wrap_i64 (by omega)) rfl ?_ | refine U_pure E rfl rfl ?_ | with_reducible refine T_skip ?_ | with_reducible refine T_block ?_ | with_reducible refine T_inBlock ?_ | refine T_exit rfl ?_ | refine T_condV rfl ?_ | with_reducible refine Cnd_t ?_ | with_reducible refine Cnd_f ?_ | with_reducible refine Cnd_not ?_ | with_reducible refine Cnd_some ?_ | with_reducible refine Cnd_none ?_ | refine U_guard rfl rfl ?_ | with_reducible refine Gd_nt ?_ | with_reducible refine Gd_nf ?_ | with_reducible refine Gd_some ?_ | with_reducible refine Gd_none ?_ | with_reducible refine Gd_want ?_ | ((with_reducible refine Gd_skipT ?_ ?_); exact rfl) | ((with_reducible refine Gd_skipF ?_ ?_); exact rfl))
  exact T_ret2 Tryd.func36 rfl rfl rfl ⟨_, rfl, b, rfl, by omega, hb4, (hk2.tr hn3.kept (fun _ _ x => x)).tr hu4.kept (fun j hj (e : j = b) => by omega)⟩

theorem read_no (w : World) (F : Nat → Prop) (hb : Nat) (D : Dr) (i : Int) (h : IsD w F hb D) (hi : ¬ (0 ≤ i ∧ i < D.l.length)) :
    Calls Tryd.prog 36 [ptr hb, .int .i64 i].toArray w (Ret fun r w' => r = .tuple #[.slice none 0 0, errV 7] ∧ w' = w) := by
  have hf := fits_c w F hb D i h
  rw [if_neg hi] at hf
  refine calls_T Tryd.func36 rfl rfl rfl ?_
  unfold ptr at *
  repeat (first | with_reducible refine T_seq ?_ | with_reducible refine T_region ?_ | with_reducible refine U_nil ?_ | refine U_ar rfl rfl rfl (wrap_i64 (by omega)) rfl ?_ | refine U_pure E rfl rfl ?_ | with_reducible refine T_skip ?_ | with_reducible refine T_block ?_ | with_reducible refine T_inBlock ?_ | refine T_exit rfl ?_ | refine T_condV rfl ?_ | with_reducible refine Cnd_t ?_ | with_reducible refine Cnd_f ?_ | with_reducible refine Cnd_not ?_ | with_reducible refine Cnd_some ?_ | with_reducible refine Cnd_none ?_ | refine U_guard rfl rfl ?_ | with_reducible refine Gd_nt ?_ | with_reducible refine Gd_nf ?_ | with_reducible refine Gd_some ?_ | with_reducible refine Gd_none ?_ | with_reducible refine Gd_want ?_ | ((with_reducible refine Gd_skipT ?_ ?_); exact rfl) | ((with_reducible refine Gd_skipF ?_ ?_); exact rfl))
  refine U_call rfl rfl (Tryd.call70 _) (ret_of hf) ?_
  rintro r w1 ⟨rfl, rfl⟩
  unfold errV
  repeat (first | with_reducible refine T_seq ?_ | with_reducible refine T_region ?_ | with_reducible refine U_nil ?_ | refine U_ar rfl rfl rfl (wrap_i64 (by omega)) rfl ?_ | refine U_pure E rfl rfl ?_ | with_reducible refine T_skip ?_ | with_reducible refine T_block ?_ | with_reducible refine T_inBlock ?_ | refine T_exit rfl ?_ | refine T_condV rfl ?_ | with_reducible refine Cnd_t ?_ | with_reducible refine Cnd_f ?_ | with_reducible refine Cnd_not ?_ | with_reducible refine Cnd_some ?_ | with_reducible refine Cnd_none ?_ | refine U_guard rfl rfl ?_ | with_reducible refine Gd_nt ?_ | with_reducible refine Gd_nf ?_ | with_reducible refine Gd_some ?_ | with_reducible refine Gd_none ?_ | with_reducible refine Gd_want ?_ | ((with_reducible refine Gd_skipT ?_ ?_); exact rfl) | ((with_reducible refine Gd_skipF ?_ ?_); exact rfl))
  exact T_ret2 Tryd.func36 rfl rfl rfl ⟨_, rfl, rfl, rfl⟩
end Go.Proofs.YtoefhdaenaiomaaDoor
