/- Flush, where it goes well. -/
import Derived.Test.YtoefhdaenaiomaaDoorDrumB
namespace Go.Proofs.YtoefhdaenaiomaaDoor
open Go
set_option maxRecDepth 20000

theorem zw_len : ([Value.int IntKind.i64 0] ++ List.replicate 256 (Value.int IntKind.u8 0)).length = 257 := by
  rw [List.length_append, List.length_replicate]
  rfl
theorem zw_fit : 0 + 257 ≤ ([Value.int IntKind.i64 0] ++ List.replicate 256 (Value.int IntKind.u8 0)).length := by rw [zw_len]; decide

theorem encW_one (p : Nat × List UInt8) : ∀ u ∈ encW p, u.oneCell' = true := by
  intro u hu
  rcases List.mem_cons.1 hu with rfl | hu
  · rfl
  · exact encBs_one _ u hu

/-- An element of a row of writes. -/
theorem wait_seg {w : World} {F : Nat → Prop} {n : Nat} {ws : List (Nat × List UInt8)} {A : Option Addr} {c : Nat} (hw : ∀ p ∈ ws, p.2.length = 256) (h : Row w F (.slice A n c) 257 n (ws.map encW).flatten 103) (hn : n = ws.length) {i : Nat} (hi : i < ws.length) :
    ∃ g, A = some ⟨g, 0, none⟩ ∧ F g ∧ Seg w g (i * 257) (encW ws[i]) := by
  obtain ⟨g, cap, pad, e, hF, hb, _, _⟩ := h.pos (by omega)
  injection e with e1
  refine ⟨g, e1, hF, ?_⟩
  have := hb.seg (i * 257) 257
  rw [flat_part (sz := 257) _ i (encWs hw) (by simpa using hi)] at this
  simpa using this

theorem flush_ok (w : World) (F : Nat → Prop) (hb : Nat) (D : Dr) (h : IsD w F hb D) (hl : D.left ≠ 0) :
    Calls Tryd.prog 26 [ptr hb].toArray w (Ret fun r w' => r = errV 0 ∧ Kept F w w' ∧ IsD w' F hb ⟨applyW D.l D.wait, [], dec D.left⟩) := by
  have hc := act_c w F hb D h
  rw [if_neg hl, if_neg hl] at hc
  have hF := h.mem
  refine calls_T Tryd.func26 rfl rfl rfl ?_
  unfold ptr at *
  repeat (first | with_reducible refine T_seq ?_ | with_reducible refine T_region ?_ | with_reducible refine U_nil ?_ | refine U_ar rfl rfl rfl (wrap_i64 (by omega)) rfl ?_ | refine U_pure E rfl rfl ?_ | with_reducible refine T_skip ?_ | with_reducible refine T_block ?_ | with_reducible refine T_inBlock ?_ | refine T_exit rfl ?_ | refine T_condV rfl ?_ | with_reducible refine Cnd_t ?_ | with_reducible refine Cnd_f ?_ | with_reducible refine Cnd_not ?_ | with_reducible refine Cnd_some ?_ | with_reducible refine Cnd_none ?_ | refine U_guard rfl rfl ?_ | with_reducible refine Gd_nt ?_ | with_reducible refine Gd_nf ?_ | with_reducible refine Gd_some ?_ | with_reducible refine Gd_none ?_ | with_reducible refine Gd_want ?_ | ((with_reducible refine Gd_skipT ?_ ?_); exact rfl) | ((with_reducible refine Gd_skipF ?_ ?_); exact rfl))
  refine U_call rfl rfl (Tryd.call69 _) (hc) ?_
  rintro r w1 ⟨rfl, hk1, hs1, h0, vl, vw, h1, h2, h3, h4⟩
  unfold errV
  dsimp only at h2 h3 h4
  have hn1 := h0.n1
  have hwn := h0.wn
  have hws := fun p hp => (h0.waits p hp).2
  dsimp only at hn1 hwn hws
  obtain ⟨A, c, rfl⟩ := h4.val
  obtain ⟨g, cap, pad, rfl, hg, hbg, hgl, hgc⟩ := h3.pos hn1
  repeat (first | with_reducible refine T_seq ?_ | with_reducible refine T_region ?_ | with_reducible refine U_nil ?_ | refine U_ar rfl rfl rfl (wrap_i64 (by omega)) rfl ?_ | refine U_pure E rfl rfl ?_ | with_reducible refine T_skip ?_ | with_reducible refine T_block ?_ | with_reducible refine T_inBlock ?_ | refine T_exit rfl ?_ | refine T_condV rfl ?_ | with_reducible refine Cnd_t ?_ | with_reducible refine Cnd_f ?_ | with_reducible refine Cnd_not ?_ | with_reducible refine Cnd_some ?_ | with_reducible refine Cnd_none ?_ | refine U_guard rfl rfl ?_ | with_reducible refine Gd_nt ?_ | with_reducible refine Gd_nf ?_ | with_reducible refine Gd_some ?_ | with_reducible refine Gd_none ?_ | with_reducible refine Gd_want ?_ | ((with_reducible refine Gd_skipT ?_ ?_); exact rfl) | ((with_reducible refine Gd_skipF ?_ ?_); exact rfl))
  refine U_loadB E (by assumption) rfl rfl rfl (by rfl) rfl ?_
  repeat (first | with_reducible refine T_seq ?_ | with_reducible refine T_region ?_ | with_reducible refine U_nil ?_ | refine U_ar rfl rfl rfl (wrap_i64 (by omega)) rfl ?_ | refine U_pure E rfl rfl ?_ | with_reducible refine T_skip ?_ | with_reducible refine T_block ?_ | with_reducible refine T_inBlock ?_ | refine T_exit rfl ?_ | refine T_condV rfl ?_ | with_reducible refine Cnd_t ?_ | with_reducible refine Cnd_f ?_ | with_reducible refine Cnd_not ?_ | with_reducible refine Cnd_some ?_ | with_reducible refine Cnd_none ?_ | refine U_guard rfl rfl ?_ | with_reducible refine Gd_nt ?_ | with_reducible refine Gd_nf ?_ | with_reducible refine Gd_some ?_ | with_reducible refine Gd_none ?_ | with_reducible refine Gd_want ?_ | ((with_reducible refine Gd_skipT ?_ ?_); exact rfl) | ((with_reducible refine Gd_skipF ?_ ?_); exact rfl))
  refine T_loop (α := Nat × World) (fun x => [(19, .int .i64 x.1), (18, .int .i64 D.wait.length), (17, .slice A D.wait.length c), (0, .pointer (some ⟨hb, 0, none⟩))]) (fun x => x.2) (fun x => D.wait.length - x.1)
    (fun x => x.1 ≤ D.wait.length ∧ Kept (fun b => b = g) w1 x.2 ∧ Blk x.2 g (((applyW D.l (D.wait.take x.1)).map encBs).flatten ++ pad) 101) (0, w1) ⟨Nat.zero_le _, Kept.refl _ _, hbg⟩ ⟨rfl, rfl, rfl, rfl, trivial⟩ rfl ?_
  rintro ⟨i, w2⟩ ⟨hi, hk, hb2⟩ ih
  dsimp only at hi hk hb2 ⊢
  repeat (first | with_reducible refine T_seq ?_ | with_reducible refine T_region ?_ | with_reducible refine U_nil ?_ | refine U_ar rfl rfl rfl (wrap_i64 (by omega)) rfl ?_ | refine U_pure E rfl rfl ?_ | with_reducible refine T_skip ?_ | with_reducible refine T_block ?_ | with_reducible refine T_inBlock ?_ | refine T_exit rfl ?_ | refine T_condV rfl ?_ | with_reducible refine Cnd_t ?_ | with_reducible refine Cnd_f ?_ | with_reducible refine Cnd_not ?_ | with_reducible refine Cnd_some ?_ | with_reducible refine Cnd_none ?_ | refine U_guard rfl rfl ?_ | with_reducible refine Gd_nt ?_ | with_reducible refine Gd_nf ?_ | with_reducible refine Gd_some ?_ | with_reducible refine Gd_none ?_ | with_reducible refine Gd_want ?_ | ((with_reducible refine Gd_skipT ?_ ?_); exact rfl) | ((with_reducible refine Gd_skipF ?_ ?_); exact rfl))
  refine Cnd_p (fun hlt => ?_) (fun hlt => ?_)
  · have hlt' : i < D.wait.length := by omega
    have h4' := h4.mv hk (fun b _ hb e => hb.2.2 (by rw [e]; rfl))
    have h2' := h2.mv hk (fun e => hg.2 e.symm)
    obtain ⟨gw, rfl, hgw, hseg⟩ := wait_seg hws h4' rfl hlt'
    have hat := (h0.waits _ (List.getElem_mem hlt')).1
    have hln := (h0.waits _ (List.getElem_mem hlt')).2
    dsimp only at hat hln
    repeat (first | with_reducible refine T_seq ?_ | with_reducible refine T_region ?_ | with_reducible refine U_nil ?_ | refine U_ar rfl rfl rfl (wrap_i64 (by omega)) rfl ?_ | refine U_pure E rfl rfl ?_ | with_reducible refine T_skip ?_ | with_reducible refine T_block ?_ | with_reducible refine T_inBlock ?_ | refine T_exit rfl ?_ | refine T_condV rfl ?_ | with_reducible refine Cnd_t ?_ | with_reducible refine Cnd_f ?_ | with_reducible refine Cnd_not ?_ | with_reducible refine Cnd_some ?_ | with_reducible refine Cnd_none ?_ | refine U_guard rfl rfl ?_ | with_reducible refine Gd_nt ?_ | with_reducible refine Gd_nf ?_ | with_reducible refine Gd_some ?_ | with_reducible refine Gd_none ?_ | with_reducible refine Gd_want ?_ | ((with_reducible refine Gd_skipT ?_ ?_); exact rfl) | ((with_reducible refine Gd_skipF ?_ ?_); exact rfl))
    refine U_indexS E rfl rfl rfl rfl (by omega) (by omega) (by rw [Int.toNat_natCast, Nat.zero_add]) rfl ?_
    refine U_loadA E (hseg) rfl rfl rfl (by rw [encW_len, hln]) rfl ?_
    refine U_alloc E rfl rfl rfl ?_
    intro b5 w3 hn3
    refine U_storeA E (hn3.blk) rfl rfl rfl (by rw [encW_len, hln]) (zw_fit) (encW_one _) ?_
    intro w4 hu4
    have hb5 := hu4.blk
    rw [show 257 = (encW D.wait[i]).length by rw [encW_len, hln], splice_all _ _ (by rw [encW_len, hln, zw_len])] at hb5
    have hlt2 := h2'.lt
    have hltg := hb2.lt
    have hb5n := hn3.at_
    have h2a := (h2'.mv hn3.kept (fun x => x)).mv hu4.kept (fun (e : hb = b5) => by omega)
    have hb2a := (hb2.mv hn3.kept (fun x => x)).mv hu4.kept (fun (e : g = b5) => by omega)
    repeat (first | with_reducible refine T_seq ?_ | with_reducible refine T_region ?_ | with_reducible refine U_nil ?_ | refine U_ar rfl rfl rfl (wrap_i64 (by omega)) rfl ?_ | refine U_pure E rfl rfl ?_ | with_reducible refine T_skip ?_ | with_reducible refine T_block ?_ | with_reducible refine T_inBlock ?_ | refine T_exit rfl ?_ | refine T_condV rfl ?_ | with_reducible refine Cnd_t ?_ | with_reducible refine Cnd_f ?_ | with_reducible refine Cnd_not ?_ | with_reducible refine Cnd_some ?_ | with_reducible refine Cnd_none ?_ | refine U_guard rfl rfl ?_ | with_reducible refine Gd_nt ?_ | with_reducible refine Gd_nf ?_ | with_reducible refine Gd_some ?_ | with_reducible refine Gd_none ?_ | with_reducible refine Gd_want ?_ | ((with_reducible refine Gd_skipT ?_ ?_); exact rfl) | ((with_reducible refine Gd_skipF ?_ ?_); exact rfl))
    refine T_tail 9 (by kernel_rfl) (by kernel_rfl) (fun w5 hd5 => ?_); simp only [List.take_succ_cons, List.take_zero, List.drop_succ_cons, List.drop_zero]; (repeat (first | refine V_ar rfl rfl rfl (wrap_i64 (by omega)) rfl ?_ | refine V_pure E rfl rfl ?_ | refine V_guard rfl rfl ?_ | with_reducible refine GdV_want ?_ | ((with_reducible refine GdV_skipT ?_ ?_); exact rfl) | ((with_reducible refine GdV_skipF ?_ ?_); exact rfl)))
    have h2b := h2a.mv (hd5.kept none0) (fun x => x)
    have hb2b := hb2a.mv (hd5.kept none0) (fun x => x)
    have hb5b := hb5.mv (hd5.kept none0) (fun x => x)
    refine V_loadB E (by first | exact fun _ h => h.heap | (intro _ h; subst h; rfl)) (by assumption) rfl rfl rfl (by rfl) rfl ?_
    repeat (first | refine V_ar rfl rfl rfl (wrap_i64 (by omega)) rfl ?_ | refine V_pure E rfl rfl ?_ | refine V_guard rfl rfl ?_ | with_reducible refine GdV_want ?_ | ((with_reducible refine GdV_skipT ?_ ?_); exact rfl) | ((with_reducible refine GdV_skipF ?_ ?_); exact rfl))
    refine V_loadB E (by first | exact fun _ h => h.heap | (intro _ h; subst h; rfl)) (by assumption) rfl rfl rfl (by rfl) rfl ?_
    repeat (first | refine V_ar rfl rfl rfl (wrap_i64 (by omega)) rfl ?_ | refine V_pure E rfl rfl ?_ | refine V_guard rfl rfl ?_ | with_reducible refine GdV_want ?_ | ((with_reducible refine GdV_skipT ?_ ?_); exact rfl) | ((with_reducible refine GdV_skipF ?_ ?_); exact rfl))
    have hs5 : Seg w5 b5 1 (encBs D.wait[i].2) := by
      have := hb5b.whole.drop 1
      simpa [encW] using this
    refine V_loadA E (by first | exact fun _ h => h.heap | (intro _ h; subst h; rfl)) (hs5) rfl rfl rfl (by rw [encBs_len, hln]) rfl ?_
    refine V_indexS E rfl rfl rfl rfl (by omega) (by omega) (by rw [Int.toNat_natCast, Nat.zero_add]) rfl ?_
    refine V_nilT ?_
    have hlen : (applyW D.l (D.wait.take i)).length = D.l.length := applyW_len _ _
    have hsegs := encSegs (applyW_secs (D.wait.take i) D.l h0.secs (fun p hp => hws p (List.mem_of_mem_take hp)))
    have hfl := flat_len (sz := 256) _ hsegs
    have hfit : D.wait[i].1 * 256 + 256 ≤ (((applyW D.l (D.wait.take i)).map encBs).flatten ++ pad).length := by
      have : (D.wait[i].1 + 1) * 256 ≤ D.l.length * 256 := Nat.mul_le_mul_right _ hat
      rw [List.length_append, hfl, List.length_map, hlen]
      omega
    refine U_storeA E (hb2b) rfl rfl rfl (by rw [encBs_len, hln]) (hfit) (encBs_one _) ?_
    intro w6 hu6
    have hb6 := hu6.blk
    rw [flat_set (sz := 256) _ _ _ hsegs (by rw [List.length_map, hlen]; exact hat), ← List.map_set, ← applyW_snoc, ← take_snoc _ _ hlt'] at hb6
    repeat (first | with_reducible refine T_seq ?_ | with_reducible refine T_region ?_ | with_reducible refine U_nil ?_ | refine U_ar rfl rfl rfl (wrap_i64 (by omega)) rfl ?_ | refine U_pure E rfl rfl ?_ | with_reducible refine T_skip ?_ | with_reducible refine T_block ?_ | with_reducible refine T_inBlock ?_ | refine T_exit rfl ?_ | refine T_condV rfl ?_ | with_reducible refine Cnd_t ?_ | with_reducible refine Cnd_f ?_ | with_reducible refine Cnd_not ?_ | with_reducible refine Cnd_some ?_ | with_reducible refine Cnd_none ?_ | refine U_guard rfl rfl ?_ | with_reducible refine Gd_nt ?_ | with_reducible refine Gd_nf ?_ | with_reducible refine Gd_some ?_ | with_reducible refine Gd_none ?_ | with_reducible refine Gd_want ?_ | ((with_reducible refine Gd_skipT ?_ ?_); exact rfl) | ((with_reducible refine Gd_skipF ?_ ?_); exact rfl))
    refine T.less ?_ (ih (i + 1, w6) ?_ ?_)
    · exact ⟨rfl, rfl, rfl, rfl, trivial⟩
    · refine ⟨hlt', ?_, hb6⟩
      have hkk := hk.size
      refine (((hk.tr hn3.kept (fun _ _ x => x.elim)).tr hu4.kept (fun j hj e => ?_)).tr (hd5.kept none0) (fun _ _ x => x.elim)).tr hu6.kept (fun j _ e => e)
      subst e
      omega
    · dsimp only
      omega
  · have hiE : i = D.wait.length := by omega
    subst hiE
    rw [List.take_length] at hb2
    have h2' := h2.mv hk (fun e => hg.2 e.symm)
    repeat (first | with_reducible refine T_seq ?_ | with_reducible refine T_region ?_ | with_reducible refine U_nil ?_ | refine U_ar rfl rfl rfl (wrap_i64 (by omega)) rfl ?_ | refine U_pure E rfl rfl ?_ | with_reducible refine T_skip ?_ | with_reducible refine T_block ?_ | with_reducible refine T_inBlock ?_ | refine T_exit rfl ?_ | refine T_condV rfl ?_ | with_reducible refine Cnd_t ?_ | with_reducible refine Cnd_f ?_ | with_reducible refine Cnd_not ?_ | with_reducible refine Cnd_some ?_ | with_reducible refine Cnd_none ?_ | refine U_guard rfl rfl ?_ | with_reducible refine Gd_nt ?_ | with_reducible refine Gd_nf ?_ | with_reducible refine Gd_some ?_ | with_reducible refine Gd_none ?_ | with_reducible refine Gd_want ?_ | ((with_reducible refine Gd_skipT ?_ ?_); exact rfl) | ((with_reducible refine Gd_skipF ?_ ?_); exact rfl))
    refine U_store E (h2') rfl rfl rfl (by simp) rfl ?_
    intro w3 hu3
    repeat (first | with_reducible refine T_seq ?_ | with_reducible refine T_region ?_ | with_reducible refine U_nil ?_ | refine U_ar rfl rfl rfl (wrap_i64 (by omega)) rfl ?_ | refine U_pure E rfl rfl ?_ | with_reducible refine T_skip ?_ | with_reducible refine T_block ?_ | with_reducible refine T_inBlock ?_ | refine T_exit rfl ?_ | refine T_condV rfl ?_ | with_reducible refine Cnd_t ?_ | with_reducible refine Cnd_f ?_ | with_reducible refine Cnd_not ?_ | with_reducible refine Cnd_some ?_ | with_reducible refine Cnd_none ?_ | refine U_guard rfl rfl ?_ | with_reducible refine Gd_nt ?_ | with_reducible refine Gd_nf ?_ | with_reducible refine Gd_some ?_ | with_reducible refine Gd_none ?_ | with_reducible refine Gd_want ?_ | ((with_reducible refine Gd_skipT ?_ ?_); exact rfl) | ((with_reducible refine Gd_skipF ?_ ?_); exact rfl))
    refine T_ret1 Tryd.func26 rfl rfl ⟨_, rfl, rfl, ?_, ?_, .slice (some ⟨g, 0, none⟩) D.l.length cap, .slice none 0 0, h1, ?_, ?_, Row.nil _ _ _ _⟩
    · exact ((hk1.mono (G := F) (fun j _ e => by rw [e]; exact hF)).tr hk (fun j _ e => by rw [e]; exact hg.1)).tr hu3.kept (fun j _ e => by rw [e]; exact hF)
    · have hln := applyW_len D.wait D.l
      exact ⟨by dsimp only; omega, by have := h0.n2; dsimp only at this ⊢; omega, applyW_secs _ _ h0.secs hws, fun p hp => (by cases hp), Nat.zero_le _, h0.left1, h0.left2⟩
    · simpa using hu3.blk
    · have hln := applyW_len D.wait D.l
      refine ⟨?_, .inr ⟨g, cap, pad, by rw [hln], hg, hb2.mv hu3.kept (fun e => hg.2 e), ?_, by rw [hln]; exact hgc⟩⟩
      · rw [flat_len (sz := 256) _ (encSegs (applyW_secs _ _ h0.secs hws)), List.length_map]
      · rw [List.length_append, flat_len (sz := 256) _ (encSegs (applyW_secs _ _ h0.secs hws)), List.length_map, hln, ← hgl, List.length_append, flat_len (sz := 256) _ (encSegs h0.secs), List.length_map]
end Go.Proofs.YtoefhdaenaiomaaDoor
