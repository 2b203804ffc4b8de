/- Flush, where it goes well. -/
import Derived.Test.YtoefhdaenaiomaaDoorPd2
import Derived.Test.YtoefhdaenaiomaaDoorPd1
set_option linter.unusedVariables false
set_option linter.unusedSimpArgs false
namespace Go.Proofs.YtoefhdaenaiomaaDoor
open Go
set_option maxRecDepth 20000

theorem zw_len : ([Value.int IntKind.i64 0] ++ List.replicate 256 (Value.int IntKind.u8 0)).length = 257 := by
  rw [List.length_append, List.length_replicate]
  rfl
theorem zw_fit : 0 + 257 ≤ ([Value.int IntKind.i64 0] ++ List.replicate 256 (Value.int IntKind.u8 0)).length := by rw [zw_len]; decide

theorem encW_one (p : Nat × List UInt8) : ∀ u ∈ encW p, u.oneCell' = true := by
  intro u hu
  rcases List.mem_cons.1 hu with rfl | hu
  · rfl
  · exact encBs_one _ u hu

/-- An element of a row of writes. -/
theorem wait_seg {w : World} {F : Nat → Prop} {n : Nat} {ws : List (Nat × List UInt8)} {A : Option Addr} {c : Nat} (hw : ∀ p ∈ ws, p.2.length = 256) (h : Row w F (.slice A n c) 257 n (ws.map encW).flatten 103) (hn : n = ws.length) {i : Nat} (hi : i < ws.length) :
    ∃ g, A = some ⟨g, 0, none⟩ ∧ F g ∧ Seg w g (i * 257) (encW ws[i]) := by
  obtain ⟨g, cap, pad, e, hF, hb, _, _⟩ := h.pos (by omega)
  injection e with e1
  refine ⟨g, e1, hF, ?_⟩
  have := hb.seg (i * 257) 257
  rw [flat_part (sz := 257) _ i (encWs hw) (by simpa using hi)] at this
  simpa using this

theorem flush_ok (w : World) (F : Nat → Prop) (hb : Nat) (D : Dr) (h : IsD w F hb D) (hl : D.left ≠ 0) :
    Calls Tryd.prog 26 [ptr hb].toArray w (Ret fun r w' => r = errV 0 ∧ Kept F w w' ∧ IsD w' F hb ⟨applyW D.l D.wait, [], dec D.left⟩) := by
  have hc := act_c w F hb D h
  rw [if_neg hl, if_neg hl] at hc
  have hF := h.mem
  refine calls_T Tryd.func26 rfl rfl rfl ?_
  unfold ptr at *
  repeat (first | (with_reducible first | apply T_seq | apply T_region | apply U_nil | apply T_skip | apply T_block | apply T_inBlock | apply Cnd_t | apply Cnd_f | apply Cnd_not | apply Cnd_some | apply Cnd_none | apply Gd_nt | apply Gd_nf | apply Gd_some | apply Gd_none | apply Gd_want) | refine U_ar rfl rfl rfl (wrap_i64 (by omega)) rfl ?_ | refine U_pure E rfl rfl ?_ | refine T_exit rfl ?_ | refine T_condV rfl ?_ | refine U_guard rfl rfl ?_ | ((with_reducible refine Gd_skipT ?_ ?_); exact rfl) | ((with_reducible refine Gd_skipF ?_ ?_); exact rfl))
  refine U_call rfl rfl (Tryd.call69 _) (hc) ?_
  rintro r w1 ⟨rfl, hk1, hs1, h0, vl, vw, h1, h2, h3, h4⟩
  unfold errV
  dsimp only at h2 h3 h4
  have hn1 := h0.n1
  have hwn := h0.wn
  have hws := fun p hp => (h0.waits p hp).2
  dsimp only at hn1 hwn hws
  obtain ⟨A, c, rfl⟩ := h4.val
  obtain ⟨g, cap, pad, rfl, hg, hbg, hgl, hgc⟩ := h3.pos hn1
  repeat (first | (with_reducible first | apply T_seq | apply T_region | apply U_nil | apply T_skip | apply T_block | apply T_inBlock | apply Cnd_t | apply Cnd_f | apply Cnd_not | apply Cnd_some | apply Cnd_none | apply Gd_nt | apply Gd_nf | apply Gd_some | apply Gd_none | apply Gd_want) | refine U_ar rfl rfl rfl (wrap_i64 (by omega)) rfl ?_ | refine U_pure E rfl rfl ?_ | refine T_exit rfl ?_ | refine T_condV rfl ?_ | refine U_guard rfl rfl ?_ | ((with_reducible refine Gd_skipT ?_ ?_); exact rfl) | ((with_reducible refine Gd_skipF ?_ ?_); exact rfl))
  refine U_loadB E (by assumption) rfl rfl rfl (by rfl) rfl ?_
  repeat (first | (with_reducible first | apply T_seq | apply T_region | apply U_nil | apply T_skip | apply T_block | apply T_inBlock | apply Cnd_t | apply Cnd_f | apply Cnd_not | apply Cnd_some | apply Cnd_none | apply Gd_nt | apply Gd_nf | apply Gd_some | apply Gd_none | apply Gd_want) | refine U_ar rfl rfl rfl (wrap_i64 (by omega)) rfl ?_ | refine U_pure E rfl rfl ?_ | refine T_exit rfl ?_ | refine T_condV rfl ?_ | refine U_guard rfl rfl ?_ | ((with_reducible refine Gd_skipT ?_ ?_); exact rfl) | ((with_reducible refine Gd_skipF ?_ ?_); exact rfl))
  refine T_loop (α := Nat × World) (fun x => [(19, .int .i64 x.1), (18, .int .i64 D.wait.length), (17, .slice A D.wait.length c), (0, .pointer (some ⟨hb, 0, none⟩))]) (fun x => x.2) (fun x => D.wait.length - x.1)
    (fun x => x.1 ≤ D.wait.length ∧ Kept (fun b => b = g) w1 x.2 ∧ Blk x.2 g (((applyW D.l (D.wait.take x.1)).map encBs).flatten ++ pad) 101) (0, w1) ⟨Nat.zero_le _, Kept.refl _ _, hbg⟩ ⟨rfl, rfl, rfl, rfl, trivial⟩ rfl ?_
  rintro ⟨i, w2⟩ ⟨hi, hk, hb2⟩ ih
  dsimp only at hi hk hb2 ⊢
  repeat (first | (with_reducible first | apply T_seq | apply T_region | apply U_nil | apply T_skip | apply T_block | apply T_inBlock | apply Cnd_t | apply Cnd_f | apply Cnd_not | apply Cnd_some | apply Cnd_none | apply Gd_nt | apply Gd_nf | apply Gd_some | apply Gd_none | apply Gd_want) | refine U_ar rfl rfl rfl (wrap_i64 (by omega)) rfl ?_ | refine U_pure E rfl rfl ?_ | refine T_exit rfl ?_ | refine T_condV rfl ?_ | refine U_guard rfl rfl ?_ | ((with_reducible refine Gd_skipT ?_ ?_); exact rfl) | ((with_reducible refine Gd_skipF ?_ ?_); exact rfl))
  refine Cnd_p (fun hlt => ?_) (fun hlt => ?_)
  · have hlt' : i < D.wait.length := by omega
    have h4' := h4.mv hk (fun b _ hb e => hb.2.2 (by rw [e]; rfl))
    have h2' := h2.mv hk (fun e => hg.2 e.symm)
    obtain ⟨gw, rfl, hgw, hseg⟩ := wait_seg hws h4' rfl hlt'
    have hat := (h0.waits _ (List.getElem_mem hlt')).1
    have hln := (h0.waits _ (List.getElem_mem hlt')).2
    dsimp only at hat hln
    repeat (first | (with_reducible first | apply T_seq | apply T_region | apply U_nil | apply T_skip | apply T_block | apply T_inBlock | apply Cnd_t | apply Cnd_f | apply Cnd_not | apply Cnd_some | apply Cnd_none | apply Gd_nt | apply Gd_nf | apply Gd_some | apply Gd_none | apply Gd_want) | refine U_ar rfl rfl rfl (wrap_i64 (by omega)) rfl ?_ | refine U_pure E rfl rfl ?_ | refine T_exit rfl ?_ | refine T_condV rfl ?_ | refine U_guard rfl rfl ?_ | ((with_reducible refine Gd_skipT ?_ ?_); exact rfl) | ((with_reducible refine Gd_skipF ?_ ?_); exact rfl))
    refine U_indexS E rfl rfl rfl rfl (by omega) (by omega) (by rw [Int.toNat_natCast, Nat.zero_add]) rfl ?_
    refine U_loadA E (hseg) rfl rfl rfl (by rw [encW_len, hln]) rfl ?_
    refine U_alloc E rfl rfl rfl ?_
    intro b5 w3 hn3
    refine U_storeA E (hn3.blk) rfl rfl rfl (by rw [encW_len, hln]) (zw_fit) (encW_one _) ?_
    intro w4 hu4
    have hb5 := hu4.blk
    rw [show 257 = (encW D.wait[i]).length by rw [encW_len, hln], splice_all _ _ (by rw [encW_len, hln, zw_len])] at hb5
    have hlt2 := h2'.lt
    have hltg := hb2.lt
    have hb5n := hn3.at_
    have h2a := (h2'.mv hn3.kept (fun x => x)).mv hu4.kept (fun (e : hb = b5) => by omega)
    have hb2a := (hb2.mv hn3.kept (fun x => x)).mv hu4.kept (fun (e : g = b5) => by omega)
    repeat (first | (with_reducible first | apply T_seq | apply T_region | apply U_nil | apply T_skip | apply T_block | apply T_inBlock | apply Cnd_t | apply Cnd_f | apply Cnd_not | apply Cnd_some | apply Cnd_none | apply Gd_nt | apply Gd_nf | apply Gd_some | apply Gd_none | apply Gd_want) | refine U_ar rfl rfl rfl (wrap_i64 (by omega)) rfl ?_ | refine U_pure E rfl rfl ?_ | refine T_exit rfl ?_ | refine T_condV rfl ?_ | refine U_guard rfl rfl ?_ | ((with_reducible refine Gd_skipT ?_ ?_); exact rfl) | ((with_reducible refine Gd_skipF ?_ ?_); exact rfl))
    refine T_tail 9 (by kernel_rfl) (by kernel_rfl) (fun w5 hd5 => ?_); simp only [List.take_succ_cons, List.take_zero, List.drop_succ_cons, List.drop_zero]; (repeat (first | refine V_ar rfl rfl rfl (wrap_i64 (by omega)) rfl ?_ | refine V_pure E rfl rfl ?_ | refine V_guard rfl rfl ?_ | with_reducible refine GdV_want ?_ | ((with_reducible refine GdV_skipT ?_ ?_); exact rfl) | ((with_reducible refine GdV_skipF ?_ ?_); exact rfl)))
    have h2b := h2a.mv (hd5.kept none0) (fun x => x)
    have hb2b := hb2a.mv (hd5.kept none0) (fun x => x)
    have hb5b := hb5.mv (hd5.kept none0) (fun x => x)
    refine V_loadB E (by first | exact fun _ h => h.heap | (intro _ h; subst h; rfl)) (by assumption) rfl rfl rfl (by rfl) rfl ?_
    repeat (first | refine V_ar rfl rfl rfl (wrap_i64 (by omega)) rfl ?_ | refine V_pure E rfl rfl ?_ | refine V_guard rfl rfl ?_ | with_reducible refine GdV_want ?_ | ((with_reducible refine GdV_skipT ?_ ?_); exact rfl) | ((with_reducible refine GdV_skipF ?_ ?_); exact rfl))
    refine V_loadB E (by first | exact fun _ h => h.heap | (intro _ h; subst h; rfl)) (by assumption) rfl rfl rfl (by rfl) rfl ?_
    repeat (first | refine V_ar rfl rfl rfl (wrap_i64 (by omega)) rfl ?_ | refine V_pure E rfl rfl ?_ | refine V_guard rfl rfl ?_ | with_reducible refine GdV_want ?_ | ((with_reducible refine GdV_skipT ?_ ?_); exact rfl) | ((with_reducible refine GdV_skipF ?_ ?_); exact rfl))
    have hs5 : Seg w5 b5 1 (encBs D.wait[i].2) := by
      have := hb5b.whole.drop 1
      simpa [encW] using this
    refine V_loadA E (by first | exact fun _ h => h.heap | (intro _ h; subst h; rfl)) (hs5) rfl rfl rfl (by rw [encBs_len, hln]) rfl ?_
    refine V_indexS E rfl rfl rfl rfl (by omega) (by omega) (by rw [Int.toNat_natCast, Nat.zero_add]) rfl ?_
    refine V_nilT ?_
    have hlen : (applyW D.l (D.wait.take i)).length = D.l.length := applyW_len _ _
    have hsegs := encSegs (applyW_secs (D.wait.take i) D.l h0.secs (fun p hp => hws p (List.mem_of_mem_take hp)))
    have hfl := flat_len (sz := 256) _ hsegs
    have hfit : D.wait[i].1 * 256 + 256 ≤ (((applyW D.l (D.wait.take i)).map encBs).flatten ++ pad).length := by
      have : (D.wait[i].1 + 1) * 256 ≤ D.l.length * 256 := Nat.mul_le_mul_right _ hat
      rw [List.length_append, hfl, List.length_map, hlen]
      omega
    refine U_storeA E (hb2b) rfl rfl rfl (by rw [encBs_len, hln]) (hfit) (encBs_one _) ?_
    intro w6 hu6
    have hb6 := hu6.blk
    rw [flat_set (sz := 256) _ _ _ hsegs (by rw [List.length_map, hlen]; exact hat), ← List.map_set, ← applyW_snoc, ← take_snoc _ _ hlt'] at hb6
    repeat (first | (with_reducible first | apply T_seq | apply T_region | apply U_nil | apply T_skip | apply T_block | apply T_inBlock | apply Cnd_t | apply Cnd_f | apply Cnd_not | apply Cnd_some | apply Cnd_none | apply Gd_nt | apply Gd_nf | apply Gd_some | apply Gd_none | apply Gd_want) | refine U_ar rfl rfl rfl (wrap_i64 (by omega)) rfl ?_ | refine U_pure E rfl rfl ?_ | refine T_exit rfl ?_ | refine T_condV rfl ?_ | refine U_guard rfl rfl ?_ | ((with_reducible refine Gd_skipT ?_ ?_); exact rfl) | ((with_reducible refine Gd_skipF ?_ ?_); exact rfl))
    refine T.less ?_ (ih (i + 1, w6) ?_ ?_)
    · exact ⟨rfl, rfl, rfl, rfl, trivial⟩
    · refine ⟨hlt', ?_, hb6⟩
      have hkk := hk.size
      refine (((hk.tr hn3.kept (fun _ _ x => x.elim)).tr hu4.kept (fun j hj e => ?_)).tr (hd5.kept none0) (fun _ _ x => x.elim)).tr hu6.kept (fun j _ e => e)
      subst e
      omega
    · dsimp only
      omega
  · have hiE : i = D.wait.length := by omega
    subst hiE
    rw [List.take_length] at hb2
    have h2' := h2.mv hk (fun e => hg.2 e.symm)
    repeat (first | (with_reducible first | apply T_seq | apply T_region | apply U_nil | apply T_skip | apply T_block | apply T_inBlock | apply Cnd_t | apply Cnd_f | apply Cnd_not | apply Cnd_some | apply Cnd_none | apply Gd_nt | apply Gd_nf | apply Gd_some | apply Gd_none | apply Gd_want) | refine U_ar rfl rfl rfl (wrap_i64 (by omega)) rfl ?_ | refine U_pure E rfl rfl ?_ | refine T_exit rfl ?_ | refine T_condV rfl ?_ | refine U_guard rfl rfl ?_ | ((with_reducible refine Gd_skipT ?_ ?_); exact rfl) | ((with_reducible refine Gd_skipF ?_ ?_); exact rfl))
    refine U_store E (h2') rfl rfl rfl (by simp) rfl ?_
    intro w3 hu3
    repeat (first | (with_reducible first | apply T_seq | apply T_region | apply U_nil | apply T_skip | apply T_block | apply T_inBlock | apply Cnd_t | apply Cnd_f | apply Cnd_not | apply Cnd_some | apply Cnd_none | apply Gd_nt | apply Gd_nf | apply Gd_some | apply Gd_none | apply Gd_want) | refine U_ar rfl rfl rfl (wrap_i64 (by omega)) rfl ?_ | refine U_pure E rfl rfl ?_ | refine T_exit rfl ?_ | refine T_condV rfl ?_ | refine U_guard rfl rfl ?_ | ((with_reducible refine Gd_skipT ?_ ?_); exact rfl) | ((with_reducible refine Gd_skipF ?_ ?_); exact rfl))
    refine T_ret1 Tryd.func26 rfl rfl ⟨_, rfl, rfl, ?_, ?_, .slice (some ⟨g, 0, none⟩) D.l.length cap, .slice none 0 0, h1, ?_, ?_, Row.nil _ _ _ _⟩
    · exact ((hk1.mono (G := F) (fun j _ e => by rw [e]; exact hF)).tr hk (fun j _ e => by rw [e]; exact hg.1)).tr hu3.kept (fun j _ e => by rw [e]; exact hF)
    · have hln := applyW_len D.wait D.l
      exact ⟨by dsimp only; omega, by have := h0.n2; dsimp only at this ⊢; omega, applyW_secs _ _ h0.secs hws, fun p hp => (by cases hp), Nat.zero_le _, h0.left1, h0.left2⟩
    · simpa using hu3.blk
    · have hln := applyW_len D.wait D.l
      refine ⟨?_, .inr ⟨g, cap, pad, by rw [hln], hg, hb2.mv hu3.kept (fun e => hg.2 e), ?_, by rw [hln]; exact hgc⟩⟩
      · rw [flat_len (sz := 256) _ (encSegs (applyW_secs _ _ h0.secs hws)), List.length_map]
      · rw [List.length_append, flat_len (sz := 256) _ (encSegs (applyW_secs _ _ h0.secs hws)), List.length_map, hln, ← hgl, List.length_append, flat_len (sz := 256) _ (encSegs h0.secs), List.length_map]
end Go.Proofs.YtoefhdaenaiomaaDoor

/- Write. -/
namespace Go.Proofs.YtoefhdaenaiomaaDoor
open Go
set_option maxRecDepth 20000

/-- What Write answers. -/
def wrErr (D : Dr) (i : Int) (p : List UInt8) : Nat := if 0 ≤ i ∧ i < D.l.length then (if 256 < p.length then 4 else if D.left = 0 then 8 else 0) else 7
def wrDr (D : Dr) (i : Int) (p : List UInt8) : Dr := if wrErr D i p = 0 then { D with wait := D.wait ++ [(i.toNat, sec p)], left := dec D.left } else D

theorem errV_ne {k : Nat} (h : k ≠ 0) : ∃ j : Nat, k = j + 1 ∧ errV k = .iface 39 (.int .i64 (j + 1 : Nat)) := by
  cases k with
  | zero => exact absurd rfl h
  | succ j => exact ⟨j, rfl, rfl⟩

theorem write_no (w : World) (F : Nat → Prop) (hb : Nat) (D : Dr) (G : Nat → Prop) (v : Value) (p : List UInt8) (i : Int) (h : IsD w F hb D) (hp : BS w G v p) (hk : wrErr D i p ≠ 0) :
    Calls Tryd.prog 27 [ptr hb, .int .i64 i, v].toArray w (Ret fun r w' => r = errV (wrErr D i p) ∧ Kept (fun b => b = hb) w w' ∧ w'.heap.size = w.heap.size ∧ IsD w' F hb D) := by
  have hf := fits_c w F hb D i h
  have hc := act_c w F hb D h
  obtain ⟨A, c, rfl⟩ := hp.len
  refine calls_T Tryd.func27 rfl rfl rfl ?_
  unfold ptr at *
  repeat (first | (with_reducible first | apply T_seq | apply T_region | apply U_nil | apply T_skip | apply T_block | apply T_inBlock | apply Cnd_t | apply Cnd_f | apply Cnd_not | apply Cnd_some | apply Cnd_none | apply Gd_nt | apply Gd_nf | apply Gd_some | apply Gd_none | apply Gd_want) | refine U_ar rfl rfl rfl (wrap_i64 (by omega)) rfl ?_ | refine U_pure E rfl rfl ?_ | refine T_exit rfl ?_ | refine T_condV rfl ?_ | refine U_guard rfl rfl ?_ | ((with_reducible refine Gd_skipT ?_ ?_); exact rfl) | ((with_reducible refine Gd_skipF ?_ ?_); exact rfl))
  refine U_call rfl rfl (Tryd.call70 _) (ret_of hf) ?_
  rintro r w1 ⟨rfl, rfl⟩
  by_cases hi : 0 ≤ i ∧ i < D.l.length
  · rw [if_pos hi]
    unfold errV
    repeat (first | (with_reducible first | apply T_seq | apply T_region | apply U_nil | apply T_skip | apply T_block | apply T_inBlock | apply Cnd_t | apply Cnd_f | apply Cnd_not | apply Cnd_some | apply Cnd_none | apply Gd_nt | apply Gd_nf | apply Gd_some | apply Gd_none | apply Gd_want) | refine U_ar rfl rfl rfl (wrap_i64 (by omega)) rfl ?_ | refine U_pure E rfl rfl ?_ | refine T_exit rfl ?_ | refine T_condV rfl ?_ | refine U_guard rfl rfl ?_ | ((with_reducible refine Gd_skipT ?_ ?_); exact rfl) | ((with_reducible refine Gd_skipF ?_ ?_); exact rfl))
    have hlen := hp.1
    refine Cnd_p (fun hl => ?_) (fun hl => ?_)
    · repeat (first | (with_reducible first | apply T_seq | apply T_region | apply U_nil | apply T_skip | apply T_block | apply T_inBlock | apply Cnd_t | apply Cnd_f | apply Cnd_not | apply Cnd_some | apply Cnd_none | apply Gd_nt | apply Gd_nf | apply Gd_some | apply Gd_none | apply Gd_want) | refine U_ar rfl rfl rfl (wrap_i64 (by omega)) rfl ?_ | refine U_pure E rfl rfl ?_ | refine T_exit rfl ?_ | refine T_condV rfl ?_ | refine U_guard rfl rfl ?_ | ((with_reducible refine Gd_skipT ?_ ?_); exact rfl) | ((with_reducible refine Gd_skipF ?_ ?_); exact rfl))
      refine T_ret1 Tryd.func27 rfl rfl ⟨_, rfl, ?_, Kept.refl _ _, rfl, h⟩
      rw [wrErr, if_pos hi, if_pos (by omega)]
      try rfl
    · have hz : D.left = 0 := Classical.byContradiction fun e => hk (by rw [wrErr, if_pos hi, if_neg (by omega), if_neg e])
      rw [if_pos hz, if_pos hz] at hc
      repeat (first | (with_reducible first | apply T_seq | apply T_region | apply U_nil | apply T_skip | apply T_block | apply T_inBlock | apply Cnd_t | apply Cnd_f | apply Cnd_not | apply Cnd_some | apply Cnd_none | apply Gd_nt | apply Gd_nf | apply Gd_some | apply Gd_none | apply Gd_want) | refine U_ar rfl rfl rfl (wrap_i64 (by omega)) rfl ?_ | refine U_pure E rfl rfl ?_ | refine T_exit rfl ?_ | refine T_condV rfl ?_ | refine U_guard rfl rfl ?_ | ((with_reducible refine Gd_skipT ?_ ?_); exact rfl) | ((with_reducible refine Gd_skipF ?_ ?_); exact rfl))
      refine U_call rfl rfl (Tryd.call69 _) (hc) ?_
      rintro r w1 ⟨rfl, hk1, hs1, hD⟩
      unfold errV
      repeat (first | (with_reducible first | apply T_seq | apply T_region | apply U_nil | apply T_skip | apply T_block | apply T_inBlock | apply Cnd_t | apply Cnd_f | apply Cnd_not | apply Cnd_some | apply Cnd_none | apply Gd_nt | apply Gd_nf | apply Gd_some | apply Gd_none | apply Gd_want) | refine U_ar rfl rfl rfl (wrap_i64 (by omega)) rfl ?_ | refine U_pure E rfl rfl ?_ | refine T_exit rfl ?_ | refine T_condV rfl ?_ | refine U_guard rfl rfl ?_ | ((with_reducible refine Gd_skipT ?_ ?_); exact rfl) | ((with_reducible refine Gd_skipF ?_ ?_); exact rfl))
      refine T_ret1 Tryd.func27 rfl rfl ⟨_, rfl, ?_, hk1, hs1, hD⟩
      rw [wrErr, if_pos hi, if_neg (by omega), if_pos hz]
      try rfl
  · rw [if_neg hi]
    unfold errV
    repeat (first | (with_reducible first | apply T_seq | apply T_region | apply U_nil | apply T_skip | apply T_block | apply T_inBlock | apply Cnd_t | apply Cnd_f | apply Cnd_not | apply Cnd_some | apply Cnd_none | apply Gd_nt | apply Gd_nf | apply Gd_some | apply Gd_none | apply Gd_want) | refine U_ar rfl rfl rfl (wrap_i64 (by omega)) rfl ?_ | refine U_pure E rfl rfl ?_ | refine T_exit rfl ?_ | refine T_condV rfl ?_ | refine U_guard rfl rfl ?_ | ((with_reducible refine Gd_skipT ?_ ?_); exact rfl) | ((with_reducible refine Gd_skipF ?_ ?_); exact rfl))
    refine T_ret1 Tryd.func27 rfl rfl ⟨_, rfl, ?_, Kept.refl _ _, rfl, h⟩
    rw [wrErr, if_neg hi]
    try rfl

theorem flat_snoc {α : Type} (l : List (List α)) (x : List α) : (l ++ [x]).flatten = l.flatten ++ x := by simp

theorem sec_splice (p : List UInt8) (h : p.length ≤ 256) (i : Nat) : ([Value.int IntKind.i64 i] ++ List.replicate 256 (Value.int IntKind.u8 0)).take 1 ++ (encBs p).take 256 ++ ([Value.int IntKind.i64 i] ++ List.replicate 256 (Value.int IntKind.u8 0)).drop (1 + ((encBs p).take 256).length) = encW (i, sec p) := by
  rw [List.take_of_length_le (l := encBs p) (by rw [encBs_len]; exact h), encBs_len, ← encBs_zeros, encW]
  simp only [List.cons_append, List.nil_append, List.take_succ_cons, List.take_zero, Nat.add_comm 1 p.length, List.drop_succ_cons, List.cons.injEq, true_and]
  rw [encBs, encBs, encBs, ← List.map_drop, ← List.map_append]
  congr 1
  simp only [sec]
  rw [List.take_append, List.take_of_length_le h]
  congr 1
  simp only [zeros]
  rw [List.drop_replicate, List.take_replicate]
  congr 1
  omega

theorem w_one (i : Int) : ∀ u ∈ [Value.int IntKind.i64 i] ++ List.replicate 256 (Value.int IntKind.u8 0), u.oneCell' = true := by
  intro u hu
  rcases List.mem_append.1 hu with h | h
  · rw [List.mem_singleton.1 h]; rfl
  · rw [(List.mem_replicate.1 h).2]; rfl

set_option maxHeartbeats 1000000 in
theorem write_ok (w : World) (F : Nat → Prop) (hb : Nat) (D : Dr) (G : Nat → Prop) (v : Value) (p : List UInt8) (i : Int) (h : IsD w F hb D) (hp : BS w G v p) (hd : ∀ b, G b → F b → False) (hk : wrErr D i p = 0) (hwn : D.wait.length < 1000000) :
    Calls Tryd.prog 27 [ptr hb, .int .i64 i, v].toArray w (Ret fun r w' => r = errV 0 ∧ Kept F w w' ∧ IsD w' (fun b => F b ∨ w.heap.size ≤ b) hb (wrDr D i p)) := by
  have hi : 0 ≤ i ∧ i < D.l.length := Classical.byContradiction fun e => by rw [wrErr, if_neg e] at hk; cases hk
  have hl : ¬ 256 < p.length := fun e => by rw [wrErr, if_pos hi, if_pos e] at hk; cases hk
  have hz : ¬ D.left = 0 := fun e => by rw [wrErr, if_pos hi, if_neg hl, if_pos e] at hk; cases hk
  have hf := fits_c w F hb D i h
  have hc := act_c w F hb D h
  have hF := h.mem
  rw [if_pos hi] at hf
  rw [if_neg hz, if_neg hz] at hc
  obtain ⟨I, rfl⟩ := Int.eq_ofNat_of_zero_le hi.1
  obtain ⟨A, c, rfl⟩ := hp.len
  have hlen := hp.1
  rw [wrDr, if_pos hk, Int.toNat_natCast]
  refine calls_T Tryd.func27 rfl rfl rfl ?_
  unfold ptr at *
  repeat (first | (with_reducible first | apply T_seq | apply T_region | apply U_nil | apply T_skip | apply T_block | apply T_inBlock | apply Cnd_t | apply Cnd_f | apply Cnd_not | apply Cnd_some | apply Cnd_none | apply Gd_nt | apply Gd_nf | apply Gd_some | apply Gd_none | apply Gd_want) | refine U_ar rfl rfl rfl (wrap_i64 (by omega)) rfl ?_ | refine U_pure E rfl rfl ?_ | refine T_exit rfl ?_ | refine T_condV rfl ?_ | refine U_guard rfl rfl ?_ | ((with_reducible refine Gd_skipT ?_ ?_); exact rfl) | ((with_reducible refine Gd_skipF ?_ ?_); exact rfl))
  refine U_call rfl rfl (Tryd.call70 _) (ret_of hf) ?_
  rintro r w1 ⟨rfl, rfl⟩
  unfold errV
  repeat (first | (with_reducible first | apply T_seq | apply T_region | apply U_nil | apply T_skip | apply T_block | apply T_inBlock | apply Cnd_t | apply Cnd_f | apply Cnd_not | apply Cnd_some | apply Cnd_none | apply Gd_nt | apply Gd_nf | apply Gd_some | apply Gd_none | apply Gd_want) | refine U_ar rfl rfl rfl (wrap_i64 (by omega)) rfl ?_ | refine U_pure E rfl rfl ?_ | refine T_exit rfl ?_ | refine T_condV rfl ?_ | refine U_guard rfl rfl ?_ | ((with_reducible refine Gd_skipT ?_ ?_); exact rfl) | ((with_reducible refine Gd_skipF ?_ ?_); exact rfl))
  refine Cnd_p (fun hl2 => ?_) (fun hl2 => ?_)
  · exfalso; omega
  · repeat (first | (with_reducible first | apply T_seq | apply T_region | apply U_nil | apply T_skip | apply T_block | apply T_inBlock | apply Cnd_t | apply Cnd_f | apply Cnd_not | apply Cnd_some | apply Cnd_none | apply Gd_nt | apply Gd_nf | apply Gd_some | apply Gd_none | apply Gd_want) | refine U_ar rfl rfl rfl (wrap_i64 (by omega)) rfl ?_ | refine U_pure E rfl rfl ?_ | refine T_exit rfl ?_ | refine T_condV rfl ?_ | refine U_guard rfl rfl ?_ | ((with_reducible refine Gd_skipT ?_ ?_); exact rfl) | ((with_reducible refine Gd_skipF ?_ ?_); exact rfl))
    refine U_call rfl rfl (Tryd.call69 _) (hc) ?_
    rintro r w1 ⟨rfl, hk1, hs1, h0, vl, vw, h1, h2, h3, h4⟩
    unfold errV
    dsimp only at h2 h3 h4
    obtain ⟨g, cap, pad, rfl, hg, hbg, hgl, hgc⟩ := h3.pos h0.n1
    have hp1 := hp.mv hk1 (fun b _ hG e => hd b hG (by rw [e]; exact hF))
    repeat (first | (with_reducible first | apply T_seq | apply T_region | apply U_nil | apply T_skip | apply T_block | apply T_inBlock | apply Cnd_t | apply Cnd_f | apply Cnd_not | apply Cnd_some | apply Cnd_none | apply Gd_nt | apply Gd_nf | apply Gd_some | apply Gd_none | apply Gd_want) | refine U_ar rfl rfl rfl (wrap_i64 (by omega)) rfl ?_ | refine U_pure E rfl rfl ?_ | refine T_exit rfl ?_ | refine T_condV rfl ?_ | refine U_guard rfl rfl ?_ | ((with_reducible refine Gd_skipT ?_ ?_); exact rfl) | ((with_reducible refine Gd_skipF ?_ ?_); exact rfl))
    refine U_build (cells := [Value.int IntKind.i64 I] ++ List.replicate 256 (Value.int IntKind.u8 0)) rfl (by kernel_rfl) rfl ?_
    refine U_alloc E rfl rfl rfl ?_
    intro b9 w2 hn2
    have hfit : 0 + 257 ≤ ([Value.int IntKind.i64 0] ++ List.replicate 256 (Value.int IntKind.u8 0)).length := zw_fit
    refine U_storeA E hn2.blk rfl rfl rfl (by rw [List.length_append, List.length_replicate]; rfl) hfit (w_one _) ?_
    intro w3 hu3
    have hb9 := hu3.blk
    rw [show (257 : Nat) = ([Value.int IntKind.i64 I] ++ List.replicate 256 (Value.int IntKind.u8 0)).length by rw [List.length_append, List.length_replicate]; rfl, splice_all _ _ (by rw [zw_len, List.length_append, List.length_replicate]; rfl)] at hb9
    have hn2a := hn2.at_
    have hn2s := hn2.size
    have hk13 : Kept none0 w1 w3 := hn2.kept.tr hu3.kept (fun j hj (e : j = b9) => by omega)
    have h2a := h2.mv hk13 (fun x => x)
    have hp3 := hp1.mv hk13 (fun _ _ _ x => x)
    have h4a := h4.mv hk13 (fun _ _ _ x => x)
    repeat (first | (with_reducible first | apply T_seq | apply T_region | apply U_nil | apply T_skip | apply T_block | apply T_inBlock | apply Cnd_t | apply Cnd_f | apply Cnd_not | apply Cnd_some | apply Cnd_none | apply Gd_nt | apply Gd_nf | apply Gd_some | apply Gd_none | apply Gd_want) | refine U_ar rfl rfl rfl (wrap_i64 (by omega)) rfl ?_ | refine U_pure E rfl rfl ?_ | refine T_exit rfl ?_ | refine T_condV rfl ?_ | refine U_guard rfl rfl ?_ | ((with_reducible refine Gd_skipT ?_ ?_); exact rfl) | ((with_reducible refine Gd_skipF ?_ ?_); exact rfl))
    refine U_run rfl rfl rfl (ro_sliceArr E rfl rfl rfl rfl) ?_
    repeat (first | (with_reducible first | apply T_seq | apply T_region | apply U_nil | apply T_skip | apply T_block | apply T_inBlock | apply Cnd_t | apply Cnd_f | apply Cnd_not | apply Cnd_some | apply Cnd_none | apply Gd_nt | apply Gd_nf | apply Gd_some | apply Gd_none | apply Gd_want) | refine U_ar rfl rfl rfl (wrap_i64 (by omega)) rfl ?_ | refine U_pure E rfl rfl ?_ | refine T_exit rfl ?_ | refine T_condV rfl ?_ | refine U_guard rfl rfl ?_ | ((with_reducible refine Gd_skipT ?_ ?_); exact rfl) | ((with_reducible refine Gd_skipF ?_ ?_); exact rfl))
    refine U_copy E hb9 hp3 (encBs_one p) rfl rfl rfl rfl (by rw [List.length_append, List.length_replicate]; exact Nat.le_refl 257) rfl ?_
    intro w4 hu4
    have hb9' := hu4.blk
    simp only [Nat.zero_add] at hb9'
    rw [sec_splice p (by omega) I] at hb9'
    have hk14 : Kept none0 w1 w4 := hk13.tr hu4.kept (fun j hj (e : j = b9) => by omega)
    have h2b := h2.mv hk14 (fun x => x)
    have h4b := h4.mv hk14 (fun _ _ _ x => x)
    have hs4 : w4.heap.size = w1.heap.size + 1 := by rw [hu4.size, hu3.size, hn2.size]
    repeat (first | (with_reducible first | apply T_seq | apply T_region | apply U_nil | apply T_skip | apply T_block | apply T_inBlock | apply Cnd_t | apply Cnd_f | apply Cnd_not | apply Cnd_some | apply Cnd_none | apply Gd_nt | apply Gd_nf | apply Gd_some | apply Gd_none | apply Gd_want) | refine U_ar rfl rfl rfl (wrap_i64 (by omega)) rfl ?_ | refine U_pure E rfl rfl ?_ | refine T_exit rfl ?_ | refine T_condV rfl ?_ | refine U_guard rfl rfl ?_ | ((with_reducible refine Gd_skipT ?_ ?_); exact rfl) | ((with_reducible refine Gd_skipF ?_ ?_); exact rfl))
    refine L_begin (fun W => Blk W hb [.slice (some ⟨g, 0, none⟩) D.l.length cap, vw, .int .i64 (dec D.left)] 99 ∧ Blk W b9 (encW (I, sec p)) 103) 10 (by kernel_rfl) rfl (fun w5 hd5 => ?_)
    have hS5 : Blk w5 hb [.slice (some ⟨g, 0, none⟩) D.l.length cap, vw, .int .i64 (dec D.left)] 99 ∧ Blk w5 b9 (encW (I, sec p)) 103 := ⟨h2b.mv (hd5.kept none0) (fun x => x), hb9'.mv (hd5.kept none0) (fun x => x)⟩
    refine L_take 0 rfl (by kernel_rfl) (by kernel_rfl) (by kernel_rfl) (by kernel_rfl) hS5 rfl rfl rfl (fun a ha w' _ => run_pv E ha rfl _ _ _ _ _) ?_
    refine L_take 1 rfl (by kernel_rfl) (by kernel_rfl) (by kernel_rfl) (by kernel_rfl) hS5 rfl rfl rfl (fun a ha w' _ => run_pv E ha rfl _ _ _ _ _) ?_
    refine L_take 2 rfl (by kernel_rfl) (by kernel_rfl) (by kernel_rfl) (by kernel_rfl) hS5 rfl rfl rfl (fun a ha w' _ => run_pv E ha rfl _ _ _ _ _) ?_
    refine L_take 3 rfl (by kernel_rfl) (by kernel_rfl) (by kernel_rfl) (by kernel_rfl) hS5 rfl rfl rfl (fun a ha w' _ => run_pv E ha rfl _ _ _ _ _) ?_
    refine L_take 4 rfl (by kernel_rfl) (by kernel_rfl) (by kernel_rfl) (by kernel_rfl) hS5 rfl rfl rfl (fun a ha w' hS => ro_loadB E hS.1 rfl rfl rfl rfl a ha) ?_
    refine L_take 5 rfl (by kernel_rfl) (by kernel_rfl) (by kernel_rfl) (by kernel_rfl) hS5 rfl rfl rfl (fun a ha w' hS => ro_loadA E hS.2.whole rfl rfl rfl (by rw [encW_len, sec_len]) a ha) ?_
    have h4c := h4b.mv (hd5.kept none0) (fun _ _ _ x => x)
    have hs5 : w5.heap.size = w1.heap.size + 1 := by rw [← hs4, hd5.heap]
    have hk15 := hk14.tr (hd5.kept none0) (fun _ _ x => x)
    have hlthb := hS5.1.lt
    have hltb9 := hS5.2.lt
    refine L_op 6 (by kernel_rfl) rfl (fun hcl => ?_)
    refine U_buildSlice E rfl rfl rfl rfl rfl rfl rfl rfl (segs := [encW (I, sec p)]) rfl (by intro s hs; rw [List.mem_singleton.1 hs, encW_len, sec_len]) rfl ?_
    intro b6 w6 hn6
    have hb6 := hn6.at_
    have hS6 : Blk w6 hb [.slice (some ⟨g, 0, none⟩) D.l.length cap, vw, .int .i64 (dec D.left)] 99 ∧ Blk w6 b9 (encW (I, sec p)) 103 := ⟨hS5.1.mv hn6.kept (fun x => x), hS5.2.mv hn6.kept (fun x => x)⟩
    have h4d := h4c.mv hn6.kept (fun _ _ _ x => x)
    have hk16 := hk15.tr hn6.kept (fun _ _ x => x)
    refine U_nilL hcl (fun _ => hS6) ?_
    refine L_op 7 (by kernel_rfl) rfl (fun hcl7 => ?_)
    have hlit : Sl w6 (fun x => x = b6) (.slice (some ⟨b6, 0, none⟩) 1 1) 257 1 (encW (I, sec p)) := by
      refine ⟨by omega, by rw [encW_len, sec_len], _, 1, rfl, Nat.le_refl _, .inr ⟨b6, 0, rfl, rfl, hn6.blk.lt, ?_⟩⟩
      have := hn6.blk.whole
      simpa using this
    refine U_append E h4d hlit (encW_one _) rfl rfl rfl rfl rfl (by omega) (by omega) rfl ?_
    intro vw' w7 hr7 hk7 _ hob
    obtain ⟨A7, c7, rfl⟩ := hr7.val
    have hown := h4d.own
    have hS7 : Blk w7 hb [.slice (some ⟨g, 0, none⟩) D.l.length cap, vw, .int .i64 (dec D.left)] 99 ∧ Blk w7 b9 (encW (I, sec p)) 103 := by
      refine ⟨hS6.1.mv hk7 (fun e => (hown _ e).1.2.1 rfl), hS6.2.mv hk7 (fun e => ?_)⟩
      have := h4.own b9 e
      have := this.2
      omega
    refine U_nilL hcl7 (fun _ => hS7) ?_
    refine L_take 8 rfl (by kernel_rfl) (by kernel_rfl) (by kernel_rfl) (by kernel_rfl) hS7 rfl rfl rfl (fun a ha w' _ => run_pv E ha rfl _ _ _ _ _) ?_
    refine L_take 9 rfl (by kernel_rfl) (by kernel_rfl) (by kernel_rfl) (by kernel_rfl) hS7 rfl rfl rfl (fun a ha w' _ => run_pv E ha rfl _ _ _ _ _) ?_
    refine L_op 10 (by kernel_rfl) rfl (fun hcl10 => ?_)
    refine U_store E (hS7.1) rfl rfl rfl (by simp) rfl ?_
    intro w8 hu8
    refine U_nilL hcl10 (fun e => absurd rfl e) ?_
    refine L_done (by kernel_rfl) ?_
    repeat (first | (with_reducible first | apply T_seq | apply T_region | apply U_nil | apply T_skip | apply T_block | apply T_inBlock | apply Cnd_t | apply Cnd_f | apply Cnd_not | apply Cnd_some | apply Cnd_none | apply Gd_nt | apply Gd_nf | apply Gd_some | apply Gd_none | apply Gd_want) | refine U_ar rfl rfl rfl (wrap_i64 (by omega)) rfl ?_ | refine U_pure E rfl rfl ?_ | refine T_exit rfl ?_ | refine T_condV rfl ?_ | refine U_guard rfl rfl ?_ | ((with_reducible refine Gd_skipT ?_ ?_); exact rfl) | ((with_reducible refine Gd_skipF ?_ ?_); exact rfl))
    have hn6s := hn6.size
    have hs7 := hk7.size
    have hk17 : Kept F w1 w7 := (hk16.mono (fun _ _ x => x.elim)).tr hk7 (fun j hj e => (h4.own j e).1.1)
    have hk18 : Kept F w1 w8 := hk17.tr hu8.kept (fun j hj e => by rw [e]; exact hF)
    refine T_ret1 Tryd.func27 rfl rfl ⟨_, rfl, rfl, (hk1.mono (fun j _ e => by rw [e]; exact hF)).tr hk18 (fun _ _ x => x), ?_, .slice (some ⟨g, 0, none⟩) D.l.length cap, .slice A7 (D.wait.length + 1) c7, .inl h1, ?_, ?_, ?_⟩
    · refine ⟨h0.n1, h0.n2, h0.secs, ?_, ?_, h0.left1, h0.left2⟩
      · intro q hq
        rcases List.mem_append.1 hq with hq | hq
        · exact h0.waits q hq
        · rw [List.mem_singleton.1 hq]
          exact ⟨by dsimp only; omega, sec_len p⟩
      · dsimp only
        simp only [List.length_append, List.length_cons, List.length_nil]
        omega
    · simpa using hu8.blk
    · have hkr : Kept (fun b => b = hb ∨ vw.ownBlock = some b) w1 w8 := ((hk16.mono (fun _ _ x => x.elim)).tr hk7 (fun j _ e => .inr e)).tr hu8.kept (fun j _ e => .inl e)
      have hgw : ∀ j, vw.ownBlock = some j → j ≠ g := fun j e e2 => (h4.own j e).1.2.2 (by rw [e2]; rfl)
      have hbg8 := hbg.mv hkr (fun e => e.elim (fun e => hg.2 e) (fun e => hgw g e rfl))
      exact ⟨h3.1, .inr ⟨g, cap, pad, rfl, ⟨.inl hg.1, hg.2⟩, hbg8, hgl, hgc⟩⟩
    · have hr8 := hr7.mv (G := fun b => (F b ∧ b ≠ hb ∧ (Value.slice (some { block := g, off := 0 }) D.l.length cap).ownBlock ≠ some b) ∨ w6.heap.size ≤ b) (F := fun x => x = hb) hu8.kept (fun j _ e e2 => by
        subst e2
        rcases e with e | e
        · exact e.2.1 rfl
        · omega)
      have he : (List.map encW (D.wait ++ [(I, sec p)])).flatten = (List.map encW D.wait).flatten ++ encW (I, sec p) := by
        rw [List.map_append, List.map_cons, List.map_nil, flat_snoc]
      have hlw : (D.wait ++ [(I, sec p)]).length = D.wait.length + 1 := by simp
      rw [he, hlw]
      refine hr8.mono (fun j _ e => ?_)
      rcases e with e | e
      · exact ⟨.inl e.1, e.2.1, e.2.2⟩
      · refine ⟨.inr (by omega), by omega, fun e2 => ?_⟩
        simp only [Value.ownBlock] at e2
        injection e2 with e2
        have hltg := hbg.lt
        omega
end Go.Proofs.YtoefhdaenaiomaaDoor

/- Clone, Fall. -/
namespace Go.Proofs.YtoefhdaenaiomaaDoor
open Go
set_option maxRecDepth 20000

theorem clone_c (w : World) (F : Nat → Prop) (v : Value) (n : Nat) (cs : List Value) (h : Row w F v 256 n cs 101) (hn : 0 < n) (hm : n ≤ 8192) (h1 : ∀ u ∈ cs, u.oneCell' = true) :
    Calls Tryd.prog 72 [v].toArray w (Ret fun r w' => Kept none0 w w' ∧ Row w' (fresh w) r 256 n cs 101) := by
  obtain ⟨g, cap, pad, rfl, hF, hb, hl, hc⟩ := h.pos hn
  refine calls_T Tryd.func72 rfl rfl rfl ?_
  repeat (first | (with_reducible first | apply T_seq | apply T_region | apply U_nil | apply T_skip | apply T_block | apply T_inBlock | apply Cnd_t | apply Cnd_f | apply Cnd_not | apply Cnd_some | apply Cnd_none | apply Gd_nt | apply Gd_nf | apply Gd_some | apply Gd_none | apply Gd_want) | refine U_ar rfl rfl rfl (wrap_i64 (by omega)) rfl ?_ | refine U_pure E rfl rfl ?_ | refine T_exit rfl ?_ | refine T_condV rfl ?_ | refine U_guard rfl rfl ?_ | ((with_reducible refine Gd_skipT ?_ ?_); exact rfl) | ((with_reducible refine Gd_skipF ?_ ?_); exact rfl))
  refine U_buildSlice0 E rfl rfl rfl ?_
  intro b w1 hn1
  have hs := (h.mv hn1.kept (fun _ _ _ x => x)).sl (by omega)
  have hr0 : Row w1 (fresh w) (.slice (some ⟨b, 0, none⟩) 0 0) 256 0 [] 101 :=
    ⟨by simp, .inr ⟨b, 0, [], rfl, by have := hn1.at_; simp only [fresh]; omega, hn1.blk, rfl, Nat.le_refl _⟩⟩
  repeat (first | (with_reducible first | apply T_seq | apply T_region | apply U_nil | apply T_skip | apply T_block | apply T_inBlock | apply Cnd_t | apply Cnd_f | apply Cnd_not | apply Cnd_some | apply Cnd_none | apply Gd_nt | apply Gd_nf | apply Gd_some | apply Gd_none | apply Gd_want) | refine U_ar rfl rfl rfl (wrap_i64 (by omega)) rfl ?_ | refine U_pure E rfl rfl ?_ | refine T_exit rfl ?_ | refine T_condV rfl ?_ | refine U_guard rfl rfl ?_ | ((with_reducible refine Gd_skipT ?_ ?_); exact rfl) | ((with_reducible refine Gd_skipF ?_ ?_); exact rfl))
  refine U_append E hr0 hs h1 rfl rfl rfl rfl rfl (by omega) (by omega) rfl ?_
  intro v' w2 hr hk hz hob
  repeat (first | (with_reducible first | apply T_seq | apply T_region | apply U_nil | apply T_skip | apply T_block | apply T_inBlock | apply Cnd_t | apply Cnd_f | apply Cnd_not | apply Cnd_some | apply Cnd_none | apply Gd_nt | apply Gd_nf | apply Gd_some | apply Gd_none | apply Gd_want) | refine U_ar rfl rfl rfl (wrap_i64 (by omega)) rfl ?_ | refine U_pure E rfl rfl ?_ | refine T_exit rfl ?_ | refine T_condV rfl ?_ | refine U_guard rfl rfl ?_ | ((with_reducible refine Gd_skipT ?_ ?_); exact rfl) | ((with_reducible refine Gd_skipF ?_ ?_); exact rfl))
  refine T_ret1 Tryd.func72 rfl rfl ⟨_, rfl, hn1.kept.tr hk (fun j hj e => ?_), ?_⟩
  · have := hr0.own j e
    have := this.1
    simp only [fresh] at this
    omega
  · have := hr.mono (G := fresh w) (fun j _ e => e.elim (fun x => x) (fun x => Nat.le_trans hn1.kept.size x))
    simpa using this

/-! ### What a fall leaves -/
structure FS where
  l : List (List UInt8)
  last : Int
  old : List UInt8
def fstep (keep : List Bool) (s : FS) (x : (Nat × List UInt8) × Nat) : FS := if keep[x.2]? = some true then ⟨s.l.set x.1.1 x.1.2, x.2, s.l.getD x.1.1 []⟩ else s
def fgo (keep : List Bool) (l : List (List UInt8)) (ws : List (Nat × List UInt8)) : FS := (ws.zipIdx 0).foldl (fstep keep) ⟨l, -1, zeros 256⟩
theorem fgo_snoc (keep : List Bool) (l : List (List UInt8)) (ws : List (Nat × List UInt8)) (p : Nat × List UInt8) : fgo keep l (ws ++ [p]) = fstep keep (fgo keep l ws) (p, ws.length) := by
  simp [fgo, List.zipIdx_append]

/-- The sectors and writes are well formed. -/
structure FOk (n : Nat) (ws : List (Nat × List UInt8)) (k : Nat) (s : FS) : Prop where
  len : s.l.length = n
  secs : ∀ x ∈ s.l, x.length = 256
  old : s.old.length = 256
  last1 : -1 ≤ s.last
  last2 : s.last < k
theorem fgo_ok (keep : List Bool) (l : List (List UInt8)) (ws : List (Nat × List UInt8)) (hl : ∀ x ∈ l, x.length = 256) (h : ∀ p ∈ ws, p.1 < l.length ∧ p.2.length = 256) : ∀ k, k ≤ ws.length → FOk l.length ws k (fgo keep l (ws.take k)) := by
  intro k
  induction k with
  | zero => intro _; exact ⟨rfl, hl, zeros_len 256, Int.le_refl _, by simp [fgo]⟩
  | succ k ih =>
    intro hk
    have ih := ih (by omega)
    have hp := h _ (List.getElem_mem (show k < ws.length by omega))
    rw [take_snoc ws k (by omega), fgo_snoc, fstep]
    have hlk : (ws.take k).length = k := by simp; omega
    dsimp only
    rw [hlk]
    split
    · refine ⟨by simp [ih.len], fun x hx => ?_, ?_, ?_, ?_⟩
      · rcases List.mem_or_eq_of_mem_set hx with h1 | h1
        · exact ih.secs x h1
        · rw [h1]; exact hp.2
      · dsimp only
        rw [List.getD_eq_getElem?_getD, List.getElem?_eq_getElem (by rw [ih.len]; exact hp.1), Option.getD_some]
        exact ih.secs _ (List.getElem_mem _)
      · dsimp only; omega
      · dsimp only; omega
    · have h2 := ih.last2
      exact ⟨ih.len, ih.secs, ih.old, ih.last1, by omega⟩

def drFall (D : Dr) (keep : List Bool) (torn : Int) : Dr :=
  let s := fgo keep D.l D.wait
  let at_ := (D.wait.getD s.last.toNat (0, [])).1
  ⟨if 0 ≤ s.last ∧ 0 ≤ torn ∧ torn < 256 then s.l.set at_ ((s.l.getD at_ []).take torn.toNat ++ s.old.drop torn.toNat) else s.l, [], -1⟩

def encBools (l : List Bool) : List Value := l.map .bool

theorem sec_of (l : List (List UInt8)) (h : ∀ x ∈ l, x.length = 256) (k : Nat) (hk : k < l.length) : (l.getD k []).length = 256 := by
  rw [List.getD_eq_getElem?_getD, List.getElem?_eq_getElem hk, Option.getD_some]
  exact h _ (List.getElem_mem _)

set_option maxHeartbeats 1000000 in
theorem fall_c (w : World) (F : Nat → Prop) (hb : Nat) (D : Dr) (G : Nat → Prop) (v : Value) (keep : List Bool) (torn : Int) (h : IsD w F hb D) (hp : Sl w G v 1 keep.length (encBools keep)) :
    Calls Tryd.prog 29 [ptr hb, v, .int .i64 torn].toArray w (Ret fun r w' => Kept none0 w w' ∧ ∃ hb', r = ptr hb' ∧ IsD w' (fresh w) hb' (drFall D keep torn)) := by
  obtain ⟨h0, vl, vw, h1, h2, h3, h4⟩ := h
  have hn1 := h0.n1
  have hn2 := h0.n2
  have hwn := h0.wn
  have hws := fun p hp => (h0.waits p hp).2
  obtain ⟨A, c, rfl⟩ := h4.val
  obtain ⟨A2, c2, rfl⟩ := h3.val
  obtain ⟨K, ck, rfl⟩ := hp.len
  have hkl := hp.1
  have hone : ∀ u ∈ (D.l.map encBs).flatten, u.oneCell' = true := by
    intro u hu
    obtain ⟨s, hs, hu⟩ := List.mem_flatten.1 hu
    obtain ⟨x, _, rfl⟩ := List.mem_map.1 hs
    exact encBs_one x u hu
  have hcl := clone_c w _ _ _ _ h3 hn1 hn2 hone
  refine calls_T Tryd.func29 rfl rfl rfl ?_
  unfold ptr at *
  repeat (first | (with_reducible first | apply T_seq | apply T_region | apply U_nil | apply T_skip | apply T_block | apply T_inBlock | apply Cnd_t | apply Cnd_f | apply Cnd_not | apply Cnd_some | apply Cnd_none | apply Gd_nt | apply Gd_nf | apply Gd_some | apply Gd_none | apply Gd_want) | refine U_ar rfl rfl rfl (wrap_i64 (by omega)) rfl ?_ | refine U_pure E rfl rfl ?_ | refine T_exit rfl ?_ | refine T_condV rfl ?_ | refine U_guard rfl rfl ?_ | ((with_reducible refine Gd_skipT ?_ ?_); exact rfl) | ((with_reducible refine Gd_skipF ?_ ?_); exact rfl))
  refine U_loadB E (by assumption) rfl rfl rfl (by rfl) rfl ?_
  refine U_call rfl rfl (Tryd.call72 _) (hcl) ?_
  rintro r w1 ⟨hk1, hr1⟩
  obtain ⟨g, cap, pad, rfl, hg, hbg, hgl, hgc⟩ := hr1.pos hn1
  refine U_build (cells := [.slice (some ⟨g, 0, none⟩) D.l.length cap, .slice none 0 0, .int .i64 (-1)]) rfl (by kernel_rfl) rfl ?_
  refine U_box E rfl rfl rfl ?_
  intro ho w2 hn2'
  repeat (first | (with_reducible first | apply T_seq | apply T_region | apply U_nil | apply T_skip | apply T_block | apply T_inBlock | apply Cnd_t | apply Cnd_f | apply Cnd_not | apply Cnd_some | apply Cnd_none | apply Gd_nt | apply Gd_nf | apply Gd_some | apply Gd_none | apply Gd_want) | refine U_ar rfl rfl rfl (wrap_i64 (by omega)) rfl ?_ | refine U_pure E rfl rfl ?_ | refine T_exit rfl ?_ | refine T_condV rfl ?_ | refine U_guard rfl rfl ?_ | ((with_reducible refine Gd_skipT ?_ ?_); exact rfl) | ((with_reducible refine Gd_skipF ?_ ?_); exact rfl))
  refine U_alloc E rfl rfl rfl ?_
  intro b9 w3 hn3
  have hho := hn2'.at_
  have hb9 := hn3.at_
  have hs2 := hn2'.size
  have hs3 := hn3.size
  have hltg := hbg.lt
  have hk13 : Kept none0 w1 w3 := hn2'.kept.tr hn3.kept (fun _ _ x => x)
  have hk3 : Kept none0 w w3 := hk1.tr hk13 (fun _ _ x => x)
  have hh3 := hn2'.blk.mv hn3.kept (fun x => x)
  have hg3 := hbg.mv hk13 (fun x => x)
  have hs0 := hk1.size
  have h23 := h2.mv hk3 (fun x => x)
  have hlthb := h2.lt
  simp only [fresh] at hg
  repeat (first | (with_reducible first | apply T_seq | apply T_region | apply U_nil | apply T_skip | apply T_block | apply T_inBlock | apply Cnd_t | apply Cnd_f | apply Cnd_not | apply Cnd_some | apply Cnd_none | apply Gd_nt | apply Gd_nf | apply Gd_some | apply Gd_none | apply Gd_want) | refine U_ar rfl rfl rfl (wrap_i64 (by omega)) rfl ?_ | refine U_pure E rfl rfl ?_ | refine T_exit rfl ?_ | refine T_condV rfl ?_ | refine U_guard rfl rfl ?_ | ((with_reducible refine Gd_skipT ?_ ?_); exact rfl) | ((with_reducible refine Gd_skipF ?_ ?_); exact rfl))
  refine U_loadB E h23 rfl rfl rfl (by rfl) rfl ?_
  repeat (first | (with_reducible first | apply T_seq | apply T_region | apply U_nil | apply T_skip | apply T_block | apply T_inBlock | apply Cnd_t | apply Cnd_f | apply Cnd_not | apply Cnd_some | apply Cnd_none | apply Gd_nt | apply Gd_nf | apply Gd_some | apply Gd_none | apply Gd_want) | refine U_ar rfl rfl rfl (wrap_i64 (by omega)) rfl ?_ | refine U_pure E rfl rfl ?_ | refine T_exit rfl ?_ | refine T_condV rfl ?_ | refine U_guard rfl rfl ?_ | ((with_reducible refine Gd_skipT ?_ ?_); exact rfl) | ((with_reducible refine Gd_skipF ?_ ?_); exact rfl))
  refine T_loop (α := Nat × World) (fun x => [(26, .int .i64 x.1), (25, .int .i64 D.wait.length), (24, .slice A D.wait.length c), (0, .pointer (some ⟨hb, 0, none⟩)), (1, .slice K keep.length ck), (2, .int .i64 torn), (7, .pointer (some ⟨ho, 0, none⟩)), (8, .int .i64 (fgo keep D.l (D.wait.take x.1)).last), (9, .pointer (some ⟨b9, 0, none⟩))]) (fun x => x.2) (fun x => D.wait.length - x.1)
    (fun x => x.1 ≤ D.wait.length ∧ Kept (fun b => b = g ∨ b = b9) w3 x.2 ∧ Blk x.2 g (((fgo keep D.l (D.wait.take x.1)).l.map encBs).flatten ++ pad) 101 ∧ Blk x.2 b9 (encBs (fgo keep D.l (D.wait.take x.1)).old) 101) (0, w3)
    ⟨Nat.zero_le _, Kept.refl _ _, hg3, by have := hn3.blk; simp only [List.take_zero, fgo, List.zipIdx_nil, List.foldl_nil]; rw [encBs_zeros]; exact this⟩ ⟨rfl, rfl, rfl, rfl, rfl, rfl, rfl, rfl, rfl, trivial⟩ rfl ?_
  rintro ⟨i, w4⟩ ⟨hi, hk, hbg4, hb94⟩ ih
  dsimp only at hi hk hbg4 hb94 ⊢
  have ok := fgo_ok keep D.l D.wait h0.secs h0.waits i hi
  obtain ⟨st, hst⟩ : ∃ st, fgo keep D.l (D.wait.take i) = st := ⟨_, rfl⟩
  rw [hst] at hbg4 hb94 ok ⊢
  have hlast1 := ok.last1
  have hlast2 := ok.last2
  have hk4 : Kept none0 w w4 := hk3.tr hk (fun j hj e => by rcases e with e | e <;> omega)
  have hh4 := hh3.mv hk (fun e => by rcases e with e | e <;> omega)
  have h24 := h2.mv hk4 (fun x => x)
  have h44 := h4.mv hk4 (fun _ _ _ x => x)
  repeat (first | (with_reducible first | apply T_seq | apply T_region | apply U_nil | apply T_skip | apply T_block | apply T_inBlock | apply Cnd_t | apply Cnd_f | apply Cnd_not | apply Cnd_some | apply Cnd_none | apply Gd_nt | apply Gd_nf | apply Gd_some | apply Gd_none | apply Gd_want) | refine U_ar rfl rfl rfl (wrap_i64 (by omega)) rfl ?_ | refine U_pure E rfl rfl ?_ | refine T_exit rfl ?_ | refine T_condV rfl ?_ | refine U_guard rfl rfl ?_ | ((with_reducible refine Gd_skipT ?_ ?_); exact rfl) | ((with_reducible refine Gd_skipF ?_ ?_); exact rfl))
  refine Cnd_p (fun hlt => ?_) (fun hlt => ?_)
  · have hlt' : i < D.wait.length := by omega
    obtain ⟨gw, rfl, hgw, hseg⟩ := wait_seg hws h44 rfl hlt'
    have hat := (h0.waits _ (List.getElem_mem hlt')).1
    have hln := (h0.waits _ (List.getElem_mem hlt')).2
    have hsn : fgo keep D.l (D.wait.take (i + 1)) = fstep keep st (D.wait[i], i) := by
      rw [take_snoc D.wait i hlt', fgo_snoc, hst]
      congr 2
      simp; omega
    repeat (first | (with_reducible first | apply T_seq | apply T_region | apply U_nil | apply T_skip | apply T_block | apply T_inBlock | apply Cnd_t | apply Cnd_f | apply Cnd_not | apply Cnd_some | apply Cnd_none | apply Gd_nt | apply Gd_nf | apply Gd_some | apply Gd_none | apply Gd_want) | refine U_ar rfl rfl rfl (wrap_i64 (by omega)) rfl ?_ | refine U_pure E rfl rfl ?_ | refine T_exit rfl ?_ | refine T_condV rfl ?_ | refine U_guard rfl rfl ?_ | ((with_reducible refine Gd_skipT ?_ ?_); exact rfl) | ((with_reducible refine Gd_skipF ?_ ?_); exact rfl))
    refine U_indexS E rfl rfl rfl rfl (by omega) (by omega) (by rw [Int.toNat_natCast, Nat.zero_add]) rfl ?_
    refine U_loadA E (hseg) rfl rfl rfl (by rw [encW_len, hln]) rfl ?_
    refine U_alloc E rfl rfl rfl ?_
    intro b5 w5 hn5
    repeat (first | (with_reducible first | apply T_seq | apply T_region | apply U_nil | apply T_skip | apply T_block | apply T_inBlock | apply Cnd_t | apply Cnd_f | apply Cnd_not | apply Cnd_some | apply Cnd_none | apply Gd_nt | apply Gd_nf | apply Gd_some | apply Gd_none | apply Gd_want) | refine U_ar rfl rfl rfl (wrap_i64 (by omega)) rfl ?_ | refine U_pure E rfl rfl ?_ | refine T_exit rfl ?_ | refine T_condV rfl ?_ | refine U_guard rfl rfl ?_ | ((with_reducible refine Gd_skipT ?_ ?_); exact rfl) | ((with_reducible refine Gd_skipF ?_ ?_); exact rfl))
    refine U_storeA E (hn5.blk) rfl rfl rfl (by rw [encW_len, hln]) (zw_fit) (encW_one _) ?_
    intro w6 hu6
    have hb5 := hu6.blk
    rw [show 257 = (encW D.wait[i]).length by rw [encW_len, hln], splice_all _ _ (by rw [encW_len, hln, zw_len])] at hb5
    have hb5n := hn5.at_
    have hk46 : Kept none0 w4 w6 := hn5.kept.tr hu6.kept (fun j hj (e : j = b5) => by omega)
    have hk6 : Kept none0 w w6 := hk4.tr hk46 (fun _ _ x => x)
    have hh6 := hh4.mv hk46 (fun x => x)
    have hbg6 := hbg4.mv hk46 (fun x => x)
    have hb96 := hb94.mv hk46 (fun x => x)
    have hp6 := hp.mv hk6 (fun _ _ _ x => x)
    have hsz4 := hk.size
    repeat (first | (with_reducible first | apply T_seq | apply T_region | apply U_nil | apply T_skip | apply T_block | apply T_inBlock | apply Cnd_t | apply Cnd_f | apply Cnd_not | apply Cnd_some | apply Cnd_none | apply Gd_nt | apply Gd_nf | apply Gd_some | apply Gd_none | apply Gd_want) | refine U_ar rfl rfl rfl (wrap_i64 (by omega)) rfl ?_ | refine U_pure E rfl rfl ?_ | refine T_exit rfl ?_ | refine T_condV rfl ?_ | refine U_guard rfl rfl ?_ | ((with_reducible refine Gd_skipT ?_ ?_); exact rfl) | ((with_reducible refine Gd_skipF ?_ ?_); exact rfl))
    refine Gd_p (fun hkk => ?_) (fun hkk => ?_)
    · have hik : i < keep.length := by omega
      repeat (first | (with_reducible first | apply T_seq | apply T_region | apply U_nil | apply T_skip | apply T_block | apply T_inBlock | apply Cnd_t | apply Cnd_f | apply Cnd_not | apply Cnd_some | apply Cnd_none | apply Gd_nt | apply Gd_nf | apply Gd_some | apply Gd_none | apply Gd_want) | refine U_ar rfl rfl rfl (wrap_i64 (by omega)) rfl ?_ | refine U_pure E rfl rfl ?_ | refine T_exit rfl ?_ | refine T_condV rfl ?_ | refine U_guard rfl rfl ?_ | ((with_reducible refine Gd_skipT ?_ ?_); exact rfl) | ((with_reducible refine Gd_skipF ?_ ?_); exact rfl))
      refine U_idx E (hp6) rfl rfl rfl rfl (by omega) (by omega) ((show (encBools keep)[(i : Int).toNat]? = some (.bool keep[i]) by rw [Int.toNat_natCast]; simp [encBools, hik])) rfl (fun q hq => ?_)
      repeat (first | (with_reducible first | apply T_seq | apply T_region | apply U_nil | apply T_skip | apply T_block | apply T_inBlock | apply Cnd_t | apply Cnd_f | apply Cnd_not | apply Cnd_some | apply Cnd_none | apply Gd_nt | apply Gd_nf | apply Gd_some | apply Gd_none | apply Gd_want) | refine U_ar rfl rfl rfl (wrap_i64 (by omega)) rfl ?_ | refine U_pure E rfl rfl ?_ | refine T_exit rfl ?_ | refine T_condV rfl ?_ | refine U_guard rfl rfl ?_ | ((with_reducible refine Gd_skipT ?_ ?_); exact rfl) | ((with_reducible refine Gd_skipF ?_ ?_); exact rfl))
      refine U_load E rfl rfl rfl hq rfl ?_
      repeat (first | (with_reducible first | apply T_seq | apply T_region | apply U_nil | apply T_skip | apply T_block | apply T_inBlock | apply Cnd_t | apply Cnd_f | apply Cnd_not | apply Cnd_some | apply Cnd_none | apply Gd_nt | apply Gd_nf | apply Gd_some | apply Gd_none | apply Gd_want) | refine U_ar rfl rfl rfl (wrap_i64 (by omega)) rfl ?_ | refine U_pure E rfl rfl ?_ | refine T_exit rfl ?_ | refine T_condV rfl ?_ | refine U_guard rfl rfl ?_ | ((with_reducible refine Gd_skipT ?_ ?_); exact rfl) | ((with_reducible refine Gd_skipF ?_ ?_); exact rfl))
      refine Cnd_b (fun hkb => ?_) (fun hkb => ?_)
      · have hki : keep[i]? = some true := by rw [List.getElem?_eq_getElem hik, hkb]
        have hsn1 : fgo keep D.l (D.wait.take (i + 1)) = ⟨st.l.set D.wait[i].1 D.wait[i].2, i, st.l.getD D.wait[i].1 []⟩ := by rw [hsn, fstep, if_pos hki]
        have hatl : D.wait[i].1 < st.l.length := by rw [ok.len]; exact hat
        have hsegs := encSegs ok.secs
        have hfl := flat_len (sz := 256) _ hsegs
        have hold : st.l.getD D.wait[i].1 [] = st.l[D.wait[i].1] := by rw [List.getD_eq_getElem?_getD, List.getElem?_eq_getElem hatl, Option.getD_some]
        have hol := ok.secs _ (List.getElem_mem hatl)
        repeat (first | (with_reducible first | apply T_seq | apply T_region | apply U_nil | apply T_skip | apply T_block | apply T_inBlock | apply Cnd_t | apply Cnd_f | apply Cnd_not | apply Cnd_some | apply Cnd_none | apply Gd_nt | apply Gd_nf | apply Gd_some | apply Gd_none | apply Gd_want) | refine U_ar rfl rfl rfl (wrap_i64 (by omega)) rfl ?_ | refine U_pure E rfl rfl ?_ | refine T_exit rfl ?_ | refine T_condV rfl ?_ | refine U_guard rfl rfl ?_ | ((with_reducible refine Gd_skipT ?_ ?_); exact rfl) | ((with_reducible refine Gd_skipF ?_ ?_); exact rfl))
        refine T_tail 10 (by kernel_rfl) (by kernel_rfl) (fun w7 hd7 => ?_); simp only [List.take_succ_cons, List.take_zero, List.drop_succ_cons, List.drop_zero]; (repeat (first | refine V_ar rfl rfl rfl (wrap_i64 (by omega)) rfl ?_ | refine V_pure E rfl rfl ?_ | refine V_guard rfl rfl ?_ | with_reducible refine GdV_want ?_ | ((with_reducible refine GdV_skipT ?_ ?_); exact rfl) | ((with_reducible refine GdV_skipF ?_ ?_); exact rfl)))
        have hh7 := hh6.mv (hd7.kept none0) (fun x => x)
        have hbg7 := hbg6.mv (hd7.kept none0) (fun x => x)
        have hb97 := hb96.mv (hd7.kept none0) (fun x => x)
        have hb57 := hb5.mv (hd7.kept none0) (fun x => x)
        refine V_loadB E (by first | exact fun _ h => h.heap | (intro _ h; subst h; rfl)) (by assumption) rfl rfl rfl (by rfl) rfl ?_
        repeat (first | refine V_ar rfl rfl rfl (wrap_i64 (by omega)) rfl ?_ | refine V_pure E rfl rfl ?_ | refine V_guard rfl rfl ?_ | with_reducible refine GdV_want ?_ | ((with_reducible refine GdV_skipT ?_ ?_); exact rfl) | ((with_reducible refine GdV_skipF ?_ ?_); exact rfl))
        refine V_loadB E (by first | exact fun _ h => h.heap | (intro _ h; subst h; rfl)) (by assumption) rfl rfl rfl (by rfl) rfl ?_
        repeat (first | refine V_ar rfl rfl rfl (wrap_i64 (by omega)) rfl ?_ | refine V_pure E rfl rfl ?_ | refine V_guard rfl rfl ?_ | with_reducible refine GdV_want ?_ | ((with_reducible refine GdV_skipT ?_ ?_); exact rfl) | ((with_reducible refine GdV_skipF ?_ ?_); exact rfl))
        refine V_indexS E rfl rfl rfl rfl (by omega) (by omega) (by rw [Int.toNat_natCast, Nat.zero_add]) rfl ?_
        have hsg : Seg w7 g (D.wait[i].1 * 256) (encBs st.l[D.wait[i].1]) := by
          have := hbg7.seg (D.wait[i].1 * 256) 256
          rw [flat_part (sz := 256) _ _ hsegs (by simpa using hatl)] at this
          simpa using this
        refine V_loadA E (by first | exact fun _ h => h.heap | (intro _ h; subst h; rfl)) (hsg) rfl rfl rfl (by rw [encBs_len, hol]) rfl ?_
        repeat (first | refine V_ar rfl rfl rfl (wrap_i64 (by omega)) rfl ?_ | refine V_pure E rfl rfl ?_ | refine V_guard rfl rfl ?_ | with_reducible refine GdV_want ?_ | ((with_reducible refine GdV_skipT ?_ ?_); exact rfl) | ((with_reducible refine GdV_skipF ?_ ?_); exact rfl))
        refine V_nilT ?_
        refine U_storeA E (hb97) rfl rfl rfl (by rw [encBs_len, hol]) (by rw [encBs_len, ok.old]; exact Nat.le_refl 256) (encBs_one _) ?_
        intro w8 hu8
        have hb98 := hu8.blk
        rw [show 256 = (encBs st.l[D.wait[i].1]).length by rw [encBs_len, hol], splice_all _ _ (by rw [encBs_len, encBs_len, hol, ok.old])] at hb98
        have hne9 : ∀ j, j = b9 → j ≠ g := fun j e e2 => by omega
        have hh8 := hh7.mv hu8.kept (fun (e : ho = b9) => by omega)
        have hbg8 := hbg7.mv hu8.kept (fun (e : g = b9) => by omega)
        have hb58 := hb57.mv hu8.kept (fun (e : b5 = b9) => by omega)
        repeat (first | (with_reducible first | apply T_seq | apply T_region | apply U_nil | apply T_skip | apply T_block | apply T_inBlock | apply Cnd_t | apply Cnd_f | apply Cnd_not | apply Cnd_some | apply Cnd_none | apply Gd_nt | apply Gd_nf | apply Gd_some | apply Gd_none | apply Gd_want) | refine U_ar rfl rfl rfl (wrap_i64 (by omega)) rfl ?_ | refine U_pure E rfl rfl ?_ | refine T_exit rfl ?_ | refine T_condV rfl ?_ | refine U_guard rfl rfl ?_ | ((with_reducible refine Gd_skipT ?_ ?_); exact rfl) | ((with_reducible refine Gd_skipF ?_ ?_); exact rfl))
        refine T_tail 9 (by kernel_rfl) (by kernel_rfl) (fun w9 hd9 => ?_); simp only [List.take_succ_cons, List.take_zero, List.drop_succ_cons, List.drop_zero]; (repeat (first | refine V_ar rfl rfl rfl (wrap_i64 (by omega)) rfl ?_ | refine V_pure E rfl rfl ?_ | refine V_guard rfl rfl ?_ | with_reducible refine GdV_want ?_ | ((with_reducible refine GdV_skipT ?_ ?_); exact rfl) | ((with_reducible refine GdV_skipF ?_ ?_); exact rfl)))
        have hh9 := hh8.mv (hd9.kept none0) (fun x => x)
        have hbg9 := hbg8.mv (hd9.kept none0) (fun x => x)
        have hb99 := hb98.mv (hd9.kept none0) (fun x => x)
        have hb59 := hb58.mv (hd9.kept none0) (fun x => x)
        refine V_loadB E (by first | exact fun _ h => h.heap | (intro _ h; subst h; rfl)) (by assumption) rfl rfl rfl (by rfl) rfl ?_
        repeat (first | refine V_ar rfl rfl rfl (wrap_i64 (by omega)) rfl ?_ | refine V_pure E rfl rfl ?_ | refine V_guard rfl rfl ?_ | with_reducible refine GdV_want ?_ | ((with_reducible refine GdV_skipT ?_ ?_); exact rfl) | ((with_reducible refine GdV_skipF ?_ ?_); exact rfl))
        refine V_loadB E (by first | exact fun _ h => h.heap | (intro _ h; subst h; rfl)) (by assumption) rfl rfl rfl (by rfl) rfl ?_
        repeat (first | refine V_ar rfl rfl rfl (wrap_i64 (by omega)) rfl ?_ | refine V_pure E rfl rfl ?_ | refine V_guard rfl rfl ?_ | with_reducible refine GdV_want ?_ | ((with_reducible refine GdV_skipT ?_ ?_); exact rfl) | ((with_reducible refine GdV_skipF ?_ ?_); exact rfl))
        have hs5 : Seg w9 b5 1 (encBs D.wait[i].2) := by
          have := hb59.whole.drop 1
          simpa [encW] using this
        refine V_loadA E (by first | exact fun _ h => h.heap | (intro _ h; subst h; rfl)) (hs5) rfl rfl rfl (by rw [encBs_len, hln]) rfl ?_
        refine V_indexS E rfl rfl rfl rfl (by omega) (by omega) (by rw [Int.toNat_natCast, Nat.zero_add]) rfl ?_
        refine V_nilT ?_
        have hfit : D.wait[i].1 * 256 + 256 ≤ ((st.l.map encBs).flatten ++ pad).length := by
          have : (D.wait[i].1 + 1) * 256 ≤ st.l.length * 256 := Nat.mul_le_mul_right _ hatl
          rw [List.length_append, hfl, List.length_map]
          omega
        refine U_storeA E (hbg9) rfl rfl rfl (by rw [encBs_len, hln]) (hfit) (encBs_one _) ?_
        intro w10 hu10
        have hbg10 := hu10.blk
        rw [flat_set (sz := 256) _ _ _ hsegs (by simpa using hatl), ← List.map_set] at hbg10
        have hb910 := hb99.mv hu10.kept (fun (e : b9 = g) => by omega)
        repeat (first | (with_reducible first | apply T_seq | apply T_region | apply U_nil | apply T_skip | apply T_block | apply T_inBlock | apply Cnd_t | apply Cnd_f | apply Cnd_not | apply Cnd_some | apply Cnd_none | apply Gd_nt | apply Gd_nf | apply Gd_some | apply Gd_none | apply Gd_want) | refine U_ar rfl rfl rfl (wrap_i64 (by omega)) rfl ?_ | refine U_pure E rfl rfl ?_ | refine T_exit rfl ?_ | refine T_condV rfl ?_ | refine U_guard rfl rfl ?_ | ((with_reducible refine Gd_skipT ?_ ?_); exact rfl) | ((with_reducible refine Gd_skipF ?_ ?_); exact rfl))
        refine T.less ?_ (ih (i + 1, w10) ?_ ?_)
        · dsimp only
          rw [hsn1]
          exact ⟨rfl, rfl, rfl, rfl, rfl, rfl, rfl, rfl, rfl, trivial⟩
        · dsimp only
          rw [hsn1]
          refine ⟨hlt', ?_, hbg10, by dsimp only; rw [hold]; exact hb910⟩
          have hk6a : Kept (fun b => b = g ∨ b = b9) w3 w6 := hk.tr hk46 (fun _ _ x => x.elim)
          exact (((hk6a.tr (hd7.kept none0) (fun _ _ x => x.elim)).tr hu8.kept (fun j _ e => .inr e)).tr (hd9.kept none0) (fun _ _ x => x.elim)).tr hu10.kept (fun j _ e => .inl e)
        · dsimp only
          omega
      · have hki : ¬ keep[i]? = some true := by rw [List.getElem?_eq_getElem hik, hkb]; simp
        have hsn1 : fgo keep D.l (D.wait.take (i + 1)) = st := by rw [hsn, fstep, if_neg hki]
        repeat (first | (with_reducible first | apply T_seq | apply T_region | apply U_nil | apply T_skip | apply T_block | apply T_inBlock | apply Cnd_t | apply Cnd_f | apply Cnd_not | apply Cnd_some | apply Cnd_none | apply Gd_nt | apply Gd_nf | apply Gd_some | apply Gd_none | apply Gd_want) | refine U_ar rfl rfl rfl (wrap_i64 (by omega)) rfl ?_ | refine U_pure E rfl rfl ?_ | refine T_exit rfl ?_ | refine T_condV rfl ?_ | refine U_guard rfl rfl ?_ | ((with_reducible refine Gd_skipT ?_ ?_); exact rfl) | ((with_reducible refine Gd_skipF ?_ ?_); exact rfl))
        refine T.less ?_ (ih (i + 1, w6) ?_ ?_)
        · dsimp only
          rw [hsn1]
          exact ⟨rfl, rfl, rfl, rfl, rfl, rfl, rfl, rfl, rfl, trivial⟩
        · dsimp only
          rw [hsn1]
          exact ⟨hlt', hk.tr hk46 (fun _ _ x => x.elim), hbg6, hb96⟩
        · dsimp only
          omega
    · have hki : ¬ keep[i]? = some true := by rw [List.getElem?_eq_none (by omega)]; simp
      have hsn1 : fgo keep D.l (D.wait.take (i + 1)) = st := by rw [hsn, fstep, if_neg hki]
      repeat (first | (with_reducible first | apply T_seq | apply T_region | apply U_nil | apply T_skip | apply T_block | apply T_inBlock | apply Cnd_t | apply Cnd_f | apply Cnd_not | apply Cnd_some | apply Cnd_none | apply Gd_nt | apply Gd_nf | apply Gd_some | apply Gd_none | apply Gd_want) | refine U_ar rfl rfl rfl (wrap_i64 (by omega)) rfl ?_ | refine U_pure E rfl rfl ?_ | refine T_exit rfl ?_ | refine T_condV rfl ?_ | refine U_guard rfl rfl ?_ | ((with_reducible refine Gd_skipT ?_ ?_); exact rfl) | ((with_reducible refine Gd_skipF ?_ ?_); exact rfl))
      refine T.less ?_ (ih (i + 1, w6) ?_ ?_)
      · dsimp only
        rw [hsn1]
        exact ⟨rfl, rfl, rfl, rfl, rfl, rfl, rfl, rfl, rfl, trivial⟩
      · dsimp only
        rw [hsn1]
        exact ⟨hlt', hk.tr hk46 (fun _ _ x => x.elim), hbg6, hb96⟩
      · dsimp only
        omega
  · have hiE : i = D.wait.length := by omega
    subst hiE
    rw [List.take_length] at hst
    have fin : ∀ (w' : World) (l' : List (List UInt8)), l'.length = D.l.length → (∀ x ∈ l', x.length = 256) → Kept none0 w w' → Blk w' ho [.slice (some ⟨g, 0, none⟩) D.l.length cap, .slice none 0 0, .int .i64 (-1)] 99 → Blk w' g ((l'.map encBs).flatten ++ pad) 101 → IsD w' (fresh w) ho ⟨l', [], -1⟩ := by
      intro w' l' e1 e2 _ e3 e4
      refine ⟨⟨by dsimp only; omega, by dsimp only; omega, e2, fun p hp => (by cases hp), Nat.zero_le _, Int.le_refl _, by dsimp only; omega⟩, _, _, ?_, e3, ?_, Row.nil _ _ _ _⟩
      · simp only [fresh]; omega
      · refine ⟨?_, .inr ⟨g, cap, pad, by dsimp only; rw [e1], ⟨hg, by omega⟩, e4, ?_, by dsimp only; omega⟩⟩
        · rw [flat_len (sz := 256) _ (encSegs e2), List.length_map]
        · rw [List.length_append, flat_len (sz := 256) _ (encSegs e2), List.length_map, e1, ← hgl, List.length_append, flat_len (sz := 256) _ (encSegs h0.secs), List.length_map]
    have same : ¬ (0 ≤ st.last ∧ 0 ≤ torn ∧ torn < 256) → drFall D keep torn = ⟨st.l, [], -1⟩ := by
      intro hno
      simp only [drFall, hst]
      rw [if_neg hno]
    repeat (first | (with_reducible first | apply T_seq | apply T_region | apply U_nil | apply T_skip | apply T_block | apply T_inBlock | apply Cnd_t | apply Cnd_f | apply Cnd_not | apply Cnd_some | apply Cnd_none | apply Gd_nt | apply Gd_nf | apply Gd_some | apply Gd_none | apply Gd_want) | refine U_ar rfl rfl rfl (wrap_i64 (by omega)) rfl ?_ | refine U_pure E rfl rfl ?_ | refine T_exit rfl ?_ | refine T_condV rfl ?_ | refine U_guard rfl rfl ?_ | ((with_reducible refine Gd_skipT ?_ ?_); exact rfl) | ((with_reducible refine Gd_skipF ?_ ?_); exact rfl))
    refine Gd_p (fun hz1 => ?_) (fun hz1 => ?_)
    · repeat (first | (with_reducible first | apply T_seq | apply T_region | apply U_nil | apply T_skip | apply T_block | apply T_inBlock | apply Cnd_t | apply Cnd_f | apply Cnd_not | apply Cnd_some | apply Cnd_none | apply Gd_nt | apply Gd_nf | apply Gd_some | apply Gd_none | apply Gd_want) | refine U_ar rfl rfl rfl (wrap_i64 (by omega)) rfl ?_ | refine U_pure E rfl rfl ?_ | refine T_exit rfl ?_ | refine T_condV rfl ?_ | refine U_guard rfl rfl ?_ | ((with_reducible refine Gd_skipT ?_ ?_); exact rfl) | ((with_reducible refine Gd_skipF ?_ ?_); exact rfl))
      refine Gd_p (fun hz2 => ?_) (fun hz2 => ?_)
      · repeat (first | (with_reducible first | apply T_seq | apply T_region | apply U_nil | apply T_skip | apply T_block | apply T_inBlock | apply Cnd_t | apply Cnd_f | apply Cnd_not | apply Cnd_some | apply Cnd_none | apply Gd_nt | apply Gd_nf | apply Gd_some | apply Gd_none | apply Gd_want) | refine U_ar rfl rfl rfl (wrap_i64 (by omega)) rfl ?_ | refine U_pure E rfl rfl ?_ | refine T_exit rfl ?_ | refine T_condV rfl ?_ | refine U_guard rfl rfl ?_ | ((with_reducible refine Gd_skipT ?_ ?_); exact rfl) | ((with_reducible refine Gd_skipF ?_ ?_); exact rfl))
        refine Cnd_p (fun hz3 => ?_) (fun hz3 => ?_)
        · obtain ⟨tn, rfl⟩ := Int.eq_ofNat_of_zero_le hz2
          obtain ⟨lst, hls⟩ := Int.eq_ofNat_of_zero_le hz1
          have hlst : lst < D.wait.length := by omega
          obtain ⟨gw, rfl, hgw, hseg⟩ := wait_seg hws h44 rfl hlst
          have hat := (h0.waits _ (List.getElem_mem hlst)).1
          have hatl : D.wait[lst].1 < st.l.length := by rw [ok.len]; exact hat
          have hsegs := encSegs ok.secs
          have hfl := flat_len (sz := 256) _ hsegs
          have hol := ok.secs _ (List.getElem_mem hatl)
          have hoo := ok.old
          rw [hls]
          repeat (first | (with_reducible first | apply T_seq | apply T_region | apply U_nil | apply T_skip | apply T_block | apply T_inBlock | apply Cnd_t | apply Cnd_f | apply Cnd_not | apply Cnd_some | apply Cnd_none | apply Gd_nt | apply Gd_nf | apply Gd_some | apply Gd_none | apply Gd_want) | refine U_ar rfl rfl rfl (wrap_i64 (by omega)) rfl ?_ | refine U_pure E rfl rfl ?_ | refine T_exit rfl ?_ | refine T_condV rfl ?_ | refine U_guard rfl rfl ?_ | ((with_reducible refine Gd_skipT ?_ ?_); exact rfl) | ((with_reducible refine Gd_skipF ?_ ?_); exact rfl))
          refine T_tail 17 (by kernel_rfl) (by kernel_rfl) (fun w7 hd7 => ?_); simp only [List.take_succ_cons, List.take_zero, List.drop_succ_cons, List.drop_zero]; (repeat (first | refine V_ar rfl rfl rfl (wrap_i64 (by omega)) rfl ?_ | refine V_pure E rfl rfl ?_ | refine V_guard rfl rfl ?_ | with_reducible refine GdV_want ?_ | ((with_reducible refine GdV_skipT ?_ ?_); exact rfl) | ((with_reducible refine GdV_skipF ?_ ?_); exact rfl)))
          have hh7 := hh4.mv (hd7.kept none0) (fun x => x)
          have hbg7 := hbg4.mv (hd7.kept none0) (fun x => x)
          have hb97 := hb94.mv (hd7.kept none0) (fun x => x)
          have h27 := h24.mv (hd7.kept none0) (fun x => x)
          have hseg7 := hseg.mv (hd7.kept none0) (fun x => x)
          refine V_loadB E (by first | exact fun _ h => h.heap | (intro _ h; subst h; rfl)) (by assumption) rfl rfl rfl (by rfl) rfl ?_
          repeat (first | refine V_ar rfl rfl rfl (wrap_i64 (by omega)) rfl ?_ | refine V_pure E rfl rfl ?_ | refine V_guard rfl rfl ?_ | with_reducible refine GdV_want ?_ | ((with_reducible refine GdV_skipT ?_ ?_); exact rfl) | ((with_reducible refine GdV_skipF ?_ ?_); exact rfl))
          refine V_loadB E (by first | exact fun _ h => h.heap | (intro _ h; subst h; rfl)) (by assumption) rfl rfl rfl (by rfl) rfl ?_
          repeat (first | refine V_ar rfl rfl rfl (wrap_i64 (by omega)) rfl ?_ | refine V_pure E rfl rfl ?_ | refine V_guard rfl rfl ?_ | with_reducible refine GdV_want ?_ | ((with_reducible refine GdV_skipT ?_ ?_); exact rfl) | ((with_reducible refine GdV_skipF ?_ ?_); exact rfl))
          refine V_indexS E rfl rfl rfl rfl (by omega) (by omega) (by rw [Int.toNat_natCast, Nat.zero_add]) rfl ?_
          repeat (first | refine V_ar rfl rfl rfl (wrap_i64 (by omega)) rfl ?_ | refine V_pure E rfl rfl ?_ | refine V_guard rfl rfl ?_ | with_reducible refine GdV_want ?_ | ((with_reducible refine GdV_skipT ?_ ?_); exact rfl) | ((with_reducible refine GdV_skipF ?_ ?_); exact rfl))
          have hcell : w7.cell? ⟨gw, lst * 257 + 0, none⟩ = some (.int .i64 D.wait[lst].1) := hseg7 0 _ rfl
          refine V_load E rfl rfl rfl (fun w' hw' => (by first | (rw [hw'.cell]; exact hcell) | (subst hw'; exact hcell))) rfl ?_
          repeat (first | refine V_ar rfl rfl rfl (wrap_i64 (by omega)) rfl ?_ | refine V_pure E rfl rfl ?_ | refine V_guard rfl rfl ?_ | with_reducible refine GdV_want ?_ | ((with_reducible refine GdV_skipT ?_ ?_); exact rfl) | ((with_reducible refine GdV_skipF ?_ ?_); exact rfl))
          refine V_indexS E rfl rfl rfl rfl (by omega) (by omega) (by rw [Int.toNat_natCast, Nat.zero_add]) rfl ?_
          repeat (first | refine V_ar rfl rfl rfl (wrap_i64 (by omega)) rfl ?_ | refine V_pure E rfl rfl ?_ | refine V_guard rfl rfl ?_ | with_reducible refine GdV_want ?_ | ((with_reducible refine GdV_skipT ?_ ?_); exact rfl) | ((with_reducible refine GdV_skipF ?_ ?_); exact rfl))
          refine V_run rfl rfl rfl (fun a ha w' _ => ro_sliceArrFrom (s := 1) (l := tn) E rfl rfl rfl rfl (by omega) a ha) ?_
          repeat (first | refine V_ar rfl rfl rfl (wrap_i64 (by omega)) rfl ?_ | refine V_pure E rfl rfl ?_ | refine V_guard rfl rfl ?_ | with_reducible refine GdV_want ?_ | ((with_reducible refine GdV_skipT ?_ ?_); exact rfl) | ((with_reducible refine GdV_skipF ?_ ?_); exact rfl))
          refine V_run rfl rfl rfl (fun a ha w' _ => ro_sliceArrFrom (s := 1) (l := tn) E rfl rfl rfl rfl (by omega) a ha) ?_
          refine V_nilT ?_
          simp only [Nat.mul_one, Nat.zero_add]
          have hsrc : Sl w7 (fun _ => True) (.slice (some ⟨b9, tn, none⟩) (256 - tn) (256 - tn)) 1 (256 - tn) (encBs (st.old.drop tn)) := by
            refine ⟨by omega, by rw [encBs_len, List.length_drop, hoo, Nat.mul_one], _, _, rfl, Nat.le_refl _, .inr ⟨b9, tn, rfl, trivial, hb97.lt, ?_⟩⟩
            have := hb97.whole.drop tn
            rw [Nat.zero_add] at this
            rw [encBs, List.map_drop]
            exact this
          have hxl : (encBs (st.old.drop tn)).length = 256 - tn := by rw [encBs_len, List.length_drop, hoo]
          refine U_copy E hbg7 hsrc (encBs_one _) rfl rfl rfl rfl ?_ rfl ?_
          · have : (D.wait[lst].1 + 1) * 256 ≤ st.l.length * 256 := Nat.mul_le_mul_right _ hatl
            rw [List.length_append, hfl, List.length_map]
            omega
          intro w8 hu8
          have hbg8 := hu8.blk
          rw [List.take_of_length_le (l := encBs (st.old.drop tn)) (by omega), flat_sub (sz := 256) _ _ _ _ hsegs (by simpa using hatl) (by omega)] at hbg8
          have hse : (List.map encBs st.l)[D.wait[lst].1]'(by simpa using hatl) = encBs st.l[D.wait[lst].1] := by simp
          have hsm : (encBs st.l[D.wait[lst].1]).take tn ++ encBs (st.old.drop tn) = encBs (st.l[D.wait[lst].1].take tn ++ st.old.drop tn) := by
            simp [encBs]
          rw [hse, hsm, ← List.map_set] at hbg8
          have hh8 := hh7.mv hu8.kept (fun (e : ho = g) => by omega)
          have hk8 : Kept none0 w w8 := (hk4.tr (hd7.kept none0) (fun _ _ x => x)).tr hu8.kept (fun j hj (e : j = g) => by omega)
          repeat (first | (with_reducible first | apply T_seq | apply T_region | apply U_nil | apply T_skip | apply T_block | apply T_inBlock | apply Cnd_t | apply Cnd_f | apply Cnd_not | apply Cnd_some | apply Cnd_none | apply Gd_nt | apply Gd_nf | apply Gd_some | apply Gd_none | apply Gd_want) | refine U_ar rfl rfl rfl (wrap_i64 (by omega)) rfl ?_ | refine U_pure E rfl rfl ?_ | refine T_exit rfl ?_ | refine T_condV rfl ?_ | refine U_guard rfl rfl ?_ | ((with_reducible refine Gd_skipT ?_ ?_); exact rfl) | ((with_reducible refine Gd_skipF ?_ ?_); exact rfl))
          refine T_ret1 Tryd.func29 rfl rfl ⟨_, rfl, hk8, ho, rfl, ?_⟩
          have hdf : drFall D keep (tn : Int) = ⟨st.l.set D.wait[lst].1 (st.l[D.wait[lst].1].take tn ++ st.old.drop tn), [], -1⟩ := by
            simp only [drFall, hst]
            rw [if_pos (by omega), hls, Int.toNat_natCast, Int.toNat_natCast, List.getD_eq_getElem?_getD (l := D.wait), List.getElem?_eq_getElem hlst, Option.getD_some, List.getD_eq_getElem?_getD, List.getElem?_eq_getElem hatl, Option.getD_some]
          rw [hdf]
          refine fin _ _ (by rw [List.length_set, ok.len]) (fun x hx => ?_) hk8 hh8 hbg8
          rcases List.mem_or_eq_of_mem_set hx with h1 | h1
          · exact ok.secs x h1
          · rw [h1, List.length_append, List.length_take, List.length_drop, hol, hoo]
            omega
        · repeat (first | (with_reducible first | apply T_seq | apply T_region | apply U_nil | apply T_skip | apply T_block | apply T_inBlock | apply Cnd_t | apply Cnd_f | apply Cnd_not | apply Cnd_some | apply Cnd_none | apply Gd_nt | apply Gd_nf | apply Gd_some | apply Gd_none | apply Gd_want) | refine U_ar rfl rfl rfl (wrap_i64 (by omega)) rfl ?_ | refine U_pure E rfl rfl ?_ | refine T_exit rfl ?_ | refine T_condV rfl ?_ | refine U_guard rfl rfl ?_ | ((with_reducible refine Gd_skipT ?_ ?_); exact rfl) | ((with_reducible refine Gd_skipF ?_ ?_); exact rfl))
          refine T_ret1 Tryd.func29 rfl rfl ⟨_, rfl, hk4, ho, rfl, ?_⟩
          rw [same (by omega)]
          exact fin _ _ ok.len ok.secs hk4 hh4 hbg4
      · repeat (first | (with_reducible first | apply T_seq | apply T_region | apply U_nil | apply T_skip | apply T_block | apply T_inBlock | apply Cnd_t | apply Cnd_f | apply Cnd_not | apply Cnd_some | apply Cnd_none | apply Gd_nt | apply Gd_nf | apply Gd_some | apply Gd_none | apply Gd_want) | refine U_ar rfl rfl rfl (wrap_i64 (by omega)) rfl ?_ | refine U_pure E rfl rfl ?_ | refine T_exit rfl ?_ | refine T_condV rfl ?_ | refine U_guard rfl rfl ?_ | ((with_reducible refine Gd_skipT ?_ ?_); exact rfl) | ((with_reducible refine Gd_skipF ?_ ?_); exact rfl))
        refine T_ret1 Tryd.func29 rfl rfl ⟨_, rfl, hk4, ho, rfl, ?_⟩
        rw [same (by omega)]
        exact fin _ _ ok.len ok.secs hk4 hh4 hbg4
    · repeat (first | (with_reducible first | apply T_seq | apply T_region | apply U_nil | apply T_skip | apply T_block | apply T_inBlock | apply Cnd_t | apply Cnd_f | apply Cnd_not | apply Cnd_some | apply Cnd_none | apply Gd_nt | apply Gd_nf | apply Gd_some | apply Gd_none | apply Gd_want) | refine U_ar rfl rfl rfl (wrap_i64 (by omega)) rfl ?_ | refine U_pure E rfl rfl ?_ | refine T_exit rfl ?_ | refine T_condV rfl ?_ | refine U_guard rfl rfl ?_ | ((with_reducible refine Gd_skipT ?_ ?_); exact rfl) | ((with_reducible refine Gd_skipF ?_ ?_); exact rfl))
      refine T_ret1 Tryd.func29 rfl rfl ⟨_, rfl, hk4, ho, rfl, ?_⟩
      rw [same (by omega)]
      exact fin _ _ ok.len ok.secs hk4 hh4 hbg4
end Go.Proofs.YtoefhdaenaiomaaDoor

/- Bits of unsigned numbers, as the operations have them. -/
namespace Go.Proofs.YtoefhdaenaiomaaDoor
open Go
set_option maxRecDepth 20000

section
variable {P : Program} {w : World} {t : TypeId} {k : IntKind} {x y : Nat}

theorem wrap_nat (hs : k.signed = false) (h : x < 2 ^ k.bits) : k.wrap (x : Int) = x := by
  simp only [IntKind.wrap, hs, Bool.false_and, Bool.false_eq_true, if_false]
  exact Int.emod_eq_of_lt (by omega) (by exact_mod_cast h)

theorem ofInt_nat (n x : Nat) : BitVec.ofInt n (x : Int) = BitVec.ofNat n x := by
  apply BitVec.eq_of_toNat_eq
  simp [BitVec.toNat_ofInt]

theorem run_and (hs : k.signed = false) (hx : x < 2 ^ k.bits) (hy : y < 2 ^ k.bits) : (binOp .and t (.int k x) (.int k y)).run P w = .ok (.int k (x &&& y : Nat)) w := by
  have hlt : x &&& y < 2 ^ k.bits := Nat.and_lt_two_pow x hy
  simp [binOp, Op.intBits, ofInt_nat, Nat.mod_eq_of_lt hx, Nat.mod_eq_of_lt hy, wrap_nat hs hlt]
theorem run_xor (hs : k.signed = false) (hx : x < 2 ^ k.bits) (hy : y < 2 ^ k.bits) : (binOp .xor t (.int k x) (.int k y)).run P w = .ok (.int k (x ^^^ y : Nat)) w := by
  have hlt : x ^^^ y < 2 ^ k.bits := Nat.xor_lt_two_pow hx hy
  simp [binOp, Op.intBits, ofInt_nat, Nat.mod_eq_of_lt hx, Nat.mod_eq_of_lt hy, wrap_nat hs hlt]
theorem run_or (hs : k.signed = false) (hx : x < 2 ^ k.bits) (hy : y < 2 ^ k.bits) : (binOp .or t (.int k x) (.int k y)).run P w = .ok (.int k (x ||| y : Nat)) w := by
  have hlt : x ||| y < 2 ^ k.bits := Nat.or_lt_two_pow hx hy
  simp [binOp, Op.intBits, ofInt_nat, Nat.mod_eq_of_lt hx, Nat.mod_eq_of_lt hy, wrap_nat hs hlt]
theorem run_shr (kd : IntKind) (h : y ≤ k.bits) : (binOp .shr t (.int k x) (.int kd y)).run P w = .ok (.int k (x / 2 ^ y : Nat)) w := by
  have h0 : ¬ ((y : Int) < 0) := by omega
  have h1 : (x : Int).fdiv (2 ^ y) = ((x / 2 ^ y : Nat) : Int) := by
    rw [Int.fdiv_eq_ediv_of_nonneg _ (by exact_mod_cast Nat.zero_le _)]
    simp
  simp [binOp, Op.shift, h0, Nat.min_eq_left h, h1]
theorem run_shl (kd : IntKind) (hs : k.signed = false) (h : y ≤ k.bits) (hf : x * 2 ^ y < 2 ^ k.bits) : (binOp .shl t (.int k x) (.int kd y)).run P w = .ok (.int k (x * 2 ^ y : Nat)) w := by
  have h0 : ¬ ((y : Int) < 0) := by omega
  have h1 : k.wrap ((x : Int) * 2 ^ y) = ((x * 2 ^ y : Nat) : Int) := by
    have := wrap_nat (k := k) hs hf
    rw [← this]
    simp
  simp [binOp, Op.shift, h0, Nat.min_eq_left h, h1]
theorem run_quo (hy : 0 < y) (hw : k.wrap ((x / y : Nat) : Int) = (x / y : Nat)) : (binOp .quo t (.int k x) (.int k y)).run P w = .ok (.int k (x / y : Nat)) w := by
  have h0 : ¬ ((y : Int) = 0) := by omega
  have h1 : (x : Int).tdiv y = ((x / y : Nat) : Int) := Int.ofNat_tdiv ..
  have : (binOp .quo t (.int k x) (.int k y)) = Op.intDiv .quo k x y := by simp [binOp]
  rw [this, Op.intDiv, if_neg h0, h1, hw]
  rfl
theorem run_rem (hy : 0 < y) : (binOp .rem t (.int k x) (.int k y)).run P w = .ok (.int k (x % y : Nat)) w := by
  have h0 : ¬ ((y : Int) = 0) := by omega
  have h1 : (x : Int).tmod y = ((x % y : Nat) : Int) := Int.ofNat_tmod ..
  have : (binOp .rem t (.int k x) (.int k y)) = Op.intDiv .rem k x y := by simp [binOp]
  rw [this, Op.intDiv, if_neg h0, h1]
  rfl

variable {m : Fm} {n : Nat} {ty t2 : TypeId} {ps : String} {af : Array Edge}
/-- A binary operation on two numbers, its run known. -/
theorem ro_bin {bop : BinOp} {u v : Operand} {k' : IntKind} {p q : Int} {r : Value} (hx : ev m u = some (.int k p)) (hy : ev m v = some (.int k' q)) (hr : (binOp bop t (.int k p) (.int k' q)).run P w = .ok r w) {dst : Option Tmp} {gd : Option (Nat × Bool)} :
    ∀ a, Fits a n m → (execOp a.eval { dst := dst, op := .binOp bop t u v t2, type := ty, pos := ps, after := af, guard := gd }).run P w = .ok (.value r) w := by
  intro a ha
  simp [execOp, ha.eval hx, ha.eval hy, eqGuard_int, hr]

theorem run_indexAt_arr {t e : TypeId} {i : Int} {kd : IntKind} {b o N s : Nat} (hu : P.underlying t = some (.array N e)) (hs : (P.info? e).map (·.size) = some s) (h0 : 0 ≤ i) (hl : i < N) :
    (Instr.indexAt t (.pointer (some ⟨b, o, none⟩)) (.int kd i)).run P w = .ok (.pointer (some ⟨b, o + i.toNat * s, none⟩)) w := by
  cases hq : P.info? e with
  | none => simp [hq] at hs
  | some j =>
    have : j.size = s := by simpa [hq] using hs
    simp [Instr.indexAt, Instr.sureAddr, asIntOf, run_underlying hu, h0, hl, sizeOf, typeInfo, hq, this, addr_add]
theorem ro_indexA (E : Env P) {t e : TypeId} {x y : Operand} {b o N s sa o' : Nat} {i : Int} {kd : IntKind} {de : TypeDesc} (hu : E.ty t = some (.array N e, sa)) (he : E.ty e = some (de, s)) (hx : ev m x = some (.pointer (some ⟨b, o, none⟩))) (hy : ev m y = some (.int kd i)) (h0 : 0 ≤ i) (hl : i < N) (ho : o + i.toNat * s = o') {dst : Option Tmp} {gd : Option (Nat × Bool)} :
    ∀ a, Fits a n m → (execOp a.eval { dst := dst, op := .indexAddr t x y, type := ty, pos := ps, after := af, guard := gd }).run P w = .ok (.value (.pointer (some ⟨b, o', none⟩))) w := by
  intro a ha
  have hr := run_indexAt_arr (P := P) (w := w) (kd := kd) (b := b) (o := o) (E.ok _ _ _ hu).1 (E.ok _ _ _ he).2 h0 hl
  rw [ho] at hr
  simp only [execOp, ha.eval hx, ha.eval hy, Sem.run_bind, hr, Result.andThen_ok, Sem.run_pure]
end

/-! ### A sector's bits -/
def bitAt (s : List UInt8) (j : Nat) : Bool := (s.getD (j / 8) 0).toNat.testBit (j % 8)
theorem bits_ext {s s' : List UInt8} {n : Nat} (h : s.length = n) (h' : s'.length = n) (hb : ∀ j, j < n * 8 → bitAt s j = bitAt s' j) : s = s' := by
  apply List.ext_getElem (by omega)
  intro i h1 h2
  apply UInt8.toNat_inj.1
  apply Nat.eq_of_testBit_eq
  intro r
  by_cases hr : r < 8
  · have := hb (i * 8 + r) (by omega)
    have e1 : (i * 8 + r) / 8 = i := by omega
    have e2 : (i * 8 + r) % 8 = r := by omega
    simp only [bitAt, e1, e2, List.getD_eq_getElem?_getD, List.getElem?_eq_getElem h1, List.getElem?_eq_getElem h2, Option.getD_some] at this
    exact this
  · have l1 : s[i].toNat < 2 ^ r := Nat.lt_of_lt_of_le s[i].toNat_lt (Nat.pow_le_pow_right (by decide) (by omega))
    have l2 : s'[i].toNat < 2 ^ r := Nat.lt_of_lt_of_le s'[i].toNat_lt (Nat.pow_le_pow_right (by decide) (by omega))
    rw [Nat.testBit_lt_two_pow l1, Nat.testBit_lt_two_pow l2]
theorem bit_step {s : List UInt8} {k M : Nat} (hk : k / 8 < s.length) (j : Nat) :
    bitAt (s.set (k / 8) (UInt8.ofNat (s[k / 8].toNat ^^^ ((M &&& 1) * 2 ^ (k % 8))))) j = (bitAt s j ^^ (decide (j = k) && M.testBit 0)) := by
  have hM : M &&& 1 < 2 := by rw [Nat.and_one_is_mod]; omega
  have h2 : (M &&& 1) * 2 ^ (k % 8) < 256 := by
    have h3 : 2 ^ (k % 8) ≤ 2 ^ 7 := Nat.pow_le_pow_right (by decide) (by omega)
    have : (M &&& 1) * 2 ^ (k % 8) ≤ 1 * 2 ^ 7 := Nat.mul_le_mul (by omega) h3
    omega
  have hx : s[k / 8].toNat ^^^ ((M &&& 1) * 2 ^ (k % 8)) < 2 ^ 8 := Nat.xor_lt_two_pow s[k / 8].toNat_lt h2
  simp only [bitAt, List.getD_eq_getElem?_getD]
  by_cases hj : k / 8 = j / 8
  · rw [← hj, List.getElem?_set_self hk, Option.getD_some, UInt8.toNat_ofNat', Nat.mod_eq_of_lt hx, Nat.testBit_xor, List.getElem?_eq_getElem hk, Option.getD_some]
    congr 1
    rw [← Nat.shiftLeft_eq, Nat.testBit_shiftLeft]
    by_cases hjk : j = k
    · subst hjk
      simp only [ge_iff_le, Nat.le_refl, decide_true, Bool.true_and, Nat.sub_self, Nat.testBit_and]
      simp
    · have hne : j % 8 ≠ k % 8 := by omega
      simp only [hjk, decide_false, Bool.false_and]
      by_cases hlt : k % 8 ≤ j % 8
      · have : (M &&& 1).testBit (j % 8 - k % 8) = false := Nat.testBit_lt_two_pow (Nat.lt_of_lt_of_le hM (by
          have : 2 ^ 1 ≤ 2 ^ (j % 8 - k % 8) := Nat.pow_le_pow_right (by decide) (by omega)
          simpa using this))
        rw [this, Bool.and_false]
      · simp [hlt]
  · rw [List.getElem?_set_ne hj]
    have : j ≠ k := fun e => hj (by rw [e])
    simp [this]
/-- One cell of a row of rows is set. -/
theorem flat_cell {α : Type} {sz : Nat} : ∀ (segs : List (List α)) (k q : Nat) (v : α) (pad : List α), (∀ s ∈ segs, s.length = sz) → (hk : k < segs.length) → q < sz → (segs.flatten ++ pad).set (k * sz + q) v = (segs.set k (segs[k].set q v)).flatten ++ pad
  | s :: segs, 0, q, v, pad, h, hk, hq => by
    have hs : s.length = sz := h s (by simp)
    simp only [List.flatten_cons, List.set_cons_zero, List.getElem_cons_zero, Nat.zero_mul, Nat.zero_add, List.append_assoc]
    rw [List.set_append_left _ _ (by omega)]
  | s :: segs, k + 1, q, v, pad, h, hk, hq => by
    have hs : s.length = sz := h s (by simp)
    have ih := flat_cell segs k q v pad (fun x hx => h x (by simp [hx])) (by simpa using hk) hq
    simp only [List.flatten_cons, List.set_cons_succ, List.getElem_cons_succ, List.append_assoc]
    rw [List.set_append_right _ _ (by rw [hs, Nat.succ_mul]; omega), hs, show (k + 1) * sz + q - sz = k * sz + q by rw [Nat.succ_mul]; omega, ih]
end Go.Proofs.YtoefhdaenaiomaaDoor
