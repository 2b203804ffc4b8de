/- The document's drum: the power fails; the walk. -/
import Derived.Test.YtoefhdaenaiomaaDoorPd10
import Derived.Test.YtoefhdaenaiomaaDoorPd6
set_option linter.unusedVariables false
set_option linter.unusedSimpArgs false
namespace Go.Proofs.YtoefhdaenaiomaaDoor
open Go
set_option maxRecDepth 20000

set_option maxHeartbeats 16000000 in
theorem xfall_c {w : World} {G : Nat → Prop} {xb : Nat} {vf vd : Value} {X : XS} {D : Dr} (h0 : XM w G xb vf vd X) (hR : Rel D X) (hD : D.Ok) (a : XAct) (hd : a.d % 7 = 4) (hk : Sl w (fun b => ¬ G b) a.vk 1 a.keep.length (encBools a.keep)) (hwn : D.wait.length ≤ 100000) :
    Calls Tryd.prog 33 [ptr xb, .agg a.cells.toArray].toArray w (Ret fun r w' => XR w G xb 0 ⟨(drFall D a.keep a.n).l, [], -1⟩ r w') := by
  have h := h0.mono (G' := fun b => G b ∧ b < w.heap.size) (fun b hb e => ⟨e, hb⟩)
  have h256 : ∀ i, i < X.first.length → (X.safe i).length = 256 := fun i hi => by rw [hR.safe i (by rw [← hR.len]; exact hi)]; exact sec_of _ hD.secs i (by rw [← hR.len]; exact hi)
  obtain ⟨Ak, ck, hvk⟩ := hk.len
  have cvk : a.cells[0 + 3]? = some (.slice Ak a.keep.length ck) := by rw [← hvk]; rfl
  have hkl := hk.1
  have hn1 := hD.n1
  have hrl := hR.len
  obtain ⟨nn, hnn⟩ : ∃ nn, X.first.length = nn := ⟨_, rfl⟩
  clear hn1
  refine calls_T Tryd.func33 rfl rfl rfl ?_; refine T_seq ?_; refine T_region ?_; refine U_box E rfl rfl rfl ?_; intro ba w1 hn1; have eb1 := hn1.at_; have hba1 : Blk w1 ba a.cells 49 := hn1.blk; have s1 := hn1.size; have hX1 := h.same hn1.kept; have hB1 := hX1.blk; have hlen := h.len; obtain ⟨fs0, f01, f02, f03⟩ := h.fst; obtain ⟨B0, cb0, rfl⟩ := f02.val; unfold ptr at *; (repeat (first | (with_reducible first | apply T_seq | apply T_region | apply U_nil | apply T_skip | apply T_block | apply T_inBlock | apply Cnd_t | apply Cnd_f | apply Cnd_not | apply Cnd_some | apply Cnd_none | apply Gd_nt | apply Gd_nf | apply Gd_some | apply Gd_none | apply Gd_want) | refine U_ar rfl rfl rfl (wrap_k (by simp only [wrapOk]; omega)) rfl ?_ | refine U_cv E rfl rfl rfl (wrap_k (by simp only [wrapOk]; omega)) rfl ?_ | refine U_pure E rfl rfl ?_ | refine T_exit rfl ?_ | refine T_condV rfl ?_ | refine U_guard rfl rfl ?_ | ((with_reducible refine Gd_skipT ?_ ?_); exact rfl) | ((with_reducible refine Gd_skipF ?_ ?_); exact rfl))); refine T_viaK (α := Bool) (fun b => [(6, .bool b), (3, .pointer (some ⟨ba, 0, none⟩)), (0, .pointer (some ⟨xb, 0, none⟩))]) (fun b w' => b = thr a X ∧ Kept none0 w1 w') ?fin ?go; (case go => (intro k0 g0; refine L_begin (fun W => Blk W ba a.cells 49 ∧ Blk W xb [.slice B0 fs0.length cb0, vd, .int .i64 X.left] 111) 14 (by kernel_rfl) (N := 14) rfl (fun w2 hd2 => ?_); have k2 : Kept none0 w1 w2 := hd2.kept none0; have hS : Blk w2 ba a.cells 49 ∧ Blk w2 xb [.slice B0 fs0.length cb0, vd, .int .i64 X.left] 111 := ⟨hba1.mv k2 (fun x => x), hB1.mv k2 (fun x => x)⟩; refine L_take 0 rfl (by kernel_rfl) (by kernel_rfl) (by kernel_rfl) (by kernel_rfl) hS rfl rfl rfl (fun a ha w' _ => run_pv E ha rfl _ _ _ _ _) ?_; refine L_take 1 rfl (by kernel_rfl) (by kernel_rfl) (by kernel_rfl) (by kernel_rfl) hS rfl rfl rfl (fun a ha w' hS => ro_loadB E hS.1 rfl rfl rfl rfl a ha) ?_; refine L_take 2 rfl (by kernel_rfl) (by kernel_rfl) (by kernel_rfl) (by kernel_rfl) hS rfl rfl rfl (fun a ha w' _ => run_pv E ha rfl _ _ _ _ _) ?_; refine L_take 3 rfl (by kernel_rfl) (by kernel_rfl) (by kernel_rfl) (by kernel_rfl) hS rfl rfl rfl (fun a ha w' _ => run_pv E ha rfl _ _ _ _ _) ?_; refine L_splitB (g := 16) rfl (fun hp => ?tru) (fun hp => ?fls); (case tru => (refine L_takeG 4 rfl (by kernel_rfl) (by kernel_rfl) (by kernel_rfl) (by kernel_rfl) hS rfl rfl rfl rfl rfl (fun a ha w' _ => run_pv E ha rfl _ _ _ _ _) ?_; refine L_takeG 5 rfl (by kernel_rfl) (by kernel_rfl) (by kernel_rfl) (by kernel_rfl) hS rfl rfl rfl rfl rfl (fun a ha w' hS => ro_loadB E hS.1 rfl rfl rfl rfl a ha) ?_; refine L_takeG 6 rfl (by kernel_rfl) (by kernel_rfl) (by kernel_rfl) (by kernel_rfl) hS rfl rfl rfl rfl rfl (fun a ha w' _ => run_pv E ha rfl _ _ _ _ _) ?_; refine L_takeG 7 rfl (by kernel_rfl) (by kernel_rfl) (by kernel_rfl) (by kernel_rfl) hS rfl rfl rfl rfl rfl (fun a ha w' _ => run_pv E ha rfl _ _ _ _ _) ?_; refine L_takeG 8 rfl (by kernel_rfl) (by kernel_rfl) (by kernel_rfl) (by kernel_rfl) hS rfl rfl rfl rfl rfl (fun a ha w' _ => run_pv E ha rfl _ _ _ _ _) ?_; refine L_takeG 9 rfl (by kernel_rfl) (by kernel_rfl) (by kernel_rfl) (by kernel_rfl) hS rfl rfl rfl rfl rfl (fun a ha w' hS => ro_loadB E hS.2 rfl rfl rfl rfl a ha) ?_; refine L_takeG 10 rfl (by kernel_rfl) (by kernel_rfl) (by kernel_rfl) (by kernel_rfl) hS rfl rfl rfl rfl rfl (fun a ha w' _ => run_pv E ha rfl _ _ _ _ _) ?_; refine L_takeG 11 rfl (by kernel_rfl) (by kernel_rfl) (by kernel_rfl) (by kernel_rfl) hS rfl rfl rfl rfl rfl (fun a ha w' _ => run_pv E ha rfl _ _ _ _ _) ?_; refine L_take 12 rfl (by kernel_rfl) (by kernel_rfl) (by kernel_rfl) (by kernel_rfl) hS rfl rfl rfl (fun a ha w' _ => run_pv E ha rfl _ _ _ _ _) ?_; refine L_take 13 rfl (by kernel_rfl) (by kernel_rfl) (by kernel_rfl) (by kernel_rfl) hS rfl rfl rfl (fun a ha w' _ => run_pv E ha rfl _ _ _ _ _) ?_; refine L_done (by kernel_rfl) ?_; refine T.less ?_ (g0 (thr a X) w2 ⟨rfl, k2⟩); exact ⟨by rw [thr_t hp f01]; rfl, rfl, rfl, trivial⟩)); (case fls => (refine L_skipG 4 rfl (by kernel_rfl) (by kernel_rfl) (by kernel_rfl) (by kernel_rfl) hS rfl rfl rfl rfl rfl rfl ?_; refine L_skipG 5 rfl (by kernel_rfl) (by kernel_rfl) (by kernel_rfl) (by kernel_rfl) hS rfl rfl rfl rfl rfl rfl ?_; refine L_skipG 6 rfl (by kernel_rfl) (by kernel_rfl) (by kernel_rfl) (by kernel_rfl) hS rfl rfl rfl rfl rfl rfl ?_; refine L_skipG 7 rfl (by kernel_rfl) (by kernel_rfl) (by kernel_rfl) (by kernel_rfl) hS rfl rfl rfl rfl rfl rfl ?_; refine L_skipG 8 rfl (by kernel_rfl) (by kernel_rfl) (by kernel_rfl) (by kernel_rfl) hS rfl rfl rfl rfl rfl rfl ?_; refine L_skipG 9 rfl (by kernel_rfl) (by kernel_rfl) (by kernel_rfl) (by kernel_rfl) hS rfl rfl rfl rfl rfl rfl ?_; refine L_skipG 10 rfl (by kernel_rfl) (by kernel_rfl) (by kernel_rfl) (by kernel_rfl) hS rfl rfl rfl rfl rfl rfl ?_; refine L_skipG 11 rfl (by kernel_rfl) (by kernel_rfl) (by kernel_rfl) (by kernel_rfl) hS rfl rfl rfl rfl rfl rfl ?_; refine L_take 12 rfl (by kernel_rfl) (by kernel_rfl) (by kernel_rfl) (by kernel_rfl) hS rfl rfl rfl (fun a ha w' _ => run_pv E ha rfl _ _ _ _ _) ?_; refine L_take 13 rfl (by kernel_rfl) (by kernel_rfl) (by kernel_rfl) (by kernel_rfl) hS rfl rfl rfl (fun a ha w' _ => run_pv E ha rfl _ _ _ _ _) ?_; refine L_done (by kernel_rfl) ?_; refine T.less ?_ (g0 (thr a X) w2 ⟨rfl, k2⟩); exact ⟨by rw [thr_f hp]; rfl, rfl, rfl, trivial⟩)))); (case' fin => (rintro tb w2 ⟨htb, k2⟩; have k02 : Kept none0 w w2 := hn1.kept.tr k2 (fun _ _ x => x); have s2 := k2.size; have hba : Blk w2 ba a.cells 49 := hba1.mv k2 (fun x => x); have hX2 := h.same k02; have hB := hX2.blk; (repeat (first | (with_reducible first | apply T_seq | apply T_region | apply U_nil | apply T_skip | apply T_block | apply T_inBlock | apply Cnd_t | apply Cnd_f | apply Cnd_not | apply Cnd_some | apply Cnd_none | apply Gd_nt | apply Gd_nf | apply Gd_some | apply Gd_none | apply Gd_want) | refine U_ar rfl rfl rfl (wrap_k (by simp only [wrapOk]; omega)) rfl ?_ | refine U_cv E rfl rfl rfl (wrap_k (by simp only [wrapOk]; omega)) rfl ?_ | refine U_pure E rfl rfl ?_ | refine T_exit rfl ?_ | refine T_condV rfl ?_ | refine U_guard rfl rfl ?_ | ((with_reducible refine Gd_skipT ?_ ?_); exact rfl) | ((with_reducible refine Gd_skipF ?_ ?_); exact rfl))); refine U_loadB E hba rfl rfl rfl rfl rfl ?_; (repeat (first | (with_reducible first | apply T_seq | apply T_region | apply U_nil | apply T_skip | apply T_block | apply T_inBlock | apply Cnd_t | apply Cnd_f | apply Cnd_not | apply Cnd_some | apply Cnd_none | apply Gd_nt | apply Gd_nf | apply Gd_some | apply Gd_none | apply Gd_want) | refine U_ar rfl rfl rfl (wrap_k (by simp only [wrapOk]; omega)) rfl ?_ | refine U_cv E rfl rfl rfl (wrap_k (by simp only [wrapOk]; omega)) rfl ?_ | refine U_pure E rfl rfl ?_ | refine T_exit rfl ?_ | refine T_condV rfl ?_ | refine U_guard rfl rfl ?_ | ((with_reducible refine Gd_skipT ?_ ?_); exact rfl) | ((with_reducible refine Gd_skipF ?_ ?_); exact rfl))); (refine U_run rfl rfl rfl (ro_bin (r := .int .u8 (a.d % 7 : Nat)) rfl rfl (by exact run_rem (y := 7) (by decide))) ?_); (repeat (first | (with_reducible first | apply T_seq | apply T_region | apply U_nil | apply T_skip | apply T_block | apply T_inBlock | apply Cnd_t | apply Cnd_f | apply Cnd_not | apply Cnd_some | apply Cnd_none | apply Gd_nt | apply Gd_nf | apply Gd_some | apply Gd_none | apply Gd_want) | refine U_ar rfl rfl rfl (wrap_k (by simp only [wrapOk]; omega)) rfl ?_ | refine U_cv E rfl rfl rfl (wrap_k (by simp only [wrapOk]; omega)) rfl ?_ | refine U_pure E rfl rfl ?_ | refine T_exit rfl ?_ | refine T_condV rfl ?_ | refine U_guard rfl rfl ?_ | ((with_reducible refine Gd_skipT ?_ ?_); exact rfl) | ((with_reducible refine Gd_skipF ?_ ?_); exact rfl)))))
  have hnp : 1 ≤ nn := by have := hD.n1; omega
  have hfsn : fs0.length = nn := by omega
  refine Cnd_p (fun q => absurd q (by omega)) (fun _ => ?_)
  repeat (first | (with_reducible first | apply T_seq | apply T_region | apply U_nil | apply T_skip | apply T_block | apply T_inBlock | apply Cnd_t | apply Cnd_f | apply Cnd_not | apply Cnd_some | apply Cnd_none | apply Gd_nt | apply Gd_nf | apply Gd_some | apply Gd_none | apply Gd_want) | refine U_ar rfl rfl rfl (wrap_k (by simp only [wrapOk]; omega)) rfl ?_ | refine U_cv E rfl rfl rfl (wrap_k (by simp only [wrapOk]; omega)) rfl ?_ | refine U_pure E rfl rfl ?_ | refine T_exit rfl ?_ | refine T_condV rfl ?_ | refine U_guard rfl rfl ?_ | ((with_reducible refine Gd_skipT ?_ ?_); exact rfl) | ((with_reducible refine Gd_skipF ?_ ?_); exact rfl))
  refine Cnd_p (fun _ => ?_) (fun q => absurd (by omega) q)
  repeat (first | (with_reducible first | apply T_seq | apply T_region | apply U_nil | apply T_skip | apply T_block | apply T_inBlock | apply Cnd_t | apply Cnd_f | apply Cnd_not | apply Cnd_some | apply Cnd_none | apply Gd_nt | apply Gd_nf | apply Gd_some | apply Gd_none | apply Gd_want) | refine U_ar rfl rfl rfl (wrap_k (by simp only [wrapOk]; omega)) rfl ?_ | refine U_cv E rfl rfl rfl (wrap_k (by simp only [wrapOk]; omega)) rfl ?_ | refine U_pure E rfl rfl ?_ | refine T_exit rfl ?_ | refine T_condV rfl ?_ | refine U_guard rfl rfl ?_ | ((with_reducible refine Gd_skipT ?_ ?_); exact rfl) | ((with_reducible refine Gd_skipF ?_ ?_); exact rfl))
  refine U_loadB E hB rfl rfl rfl rfl rfl ?_
  repeat (first | (with_reducible first | apply T_seq | apply T_region | apply U_nil | apply T_skip | apply T_block | apply T_inBlock | apply Cnd_t | apply Cnd_f | apply Cnd_not | apply Cnd_some | apply Cnd_none | apply Gd_nt | apply Gd_nf | apply Gd_some | apply Gd_none | apply Gd_want) | refine U_ar rfl rfl rfl (wrap_k (by simp only [wrapOk]; omega)) rfl ?_ | refine U_cv E rfl rfl rfl (wrap_k (by simp only [wrapOk]; omega)) rfl ?_ | refine U_pure E rfl rfl ?_ | refine T_exit rfl ?_ | refine T_condV rfl ?_ | refine U_guard rfl rfl ?_ | ((with_reducible refine Gd_skipT ?_ ?_); exact rfl) | ((with_reducible refine Gd_skipF ?_ ?_); exact rfl))
  have hnw := xnew_c w2 nn (by omega)
  rw [← hfsn] at hnw
  refine U_call rfl rfl (Tryd.call31 _) (hnw) ?_
  rintro r w3 ⟨k3, yb, vy, rfl, hY⟩
  rw [hfsn] at hY
  obtain ⟨fs, f1, f2, f3⟩ := hY.fst
  have hfl : fs.length = nn := by rw [f1]; simp [XS.new]
  obtain ⟨g, cap, pad, rfl, hgF, hbg, hcl, hcn⟩ := f2.pos (by omega)
  have hyl := hY.blk.lt
  have hym : w2.heap.size ≤ yb := hY.mem
  have hgw : w2.heap.size ≤ g := hgF.1
  have s02 := k02.size
  have hyb3 := hY.blk
  rw [hfl] at hyb3
  have hFl3 : Fl w w3 (fun b => Hx (fun b => G b ∧ b < w.heap.size) xb (.slice B0 fs0.length cb0) vd b ∨ (w.heap.size ≤ b ∧ b ≠ yb ∧ b ≠ g)) yb g nn cap (cpL X 0) := by
    refine ⟨k02.tr k3 (fun _ _ x => x), hyb3, ⟨fs, pad, hbg, hfl, by rw [cpL_len]; exact hnn, hcl, by omega, fun j u p hu hp => ?_⟩, by omega, by omega, hgF.2, fun e => e.elim (fun e => by have := e.1.2; omega) (fun e => e.2.2 rfl), fun e => e.elim (fun e => by have := e.1.2; omega) (fun e => e.2.1 rfl)⟩
    rw [cpL_zero, hnn] at hp
    exact (f3 j u p hu hp).mono (fun b _ e => .inr ⟨by have := e.1; simp only [fresh] at this; omega, e.2.1, fun e2 => e.2.2.1 (by rw [e2]; rfl)⟩)
  have hgl := hbg.lt
  unfold ptr at *
  repeat (first | (with_reducible first | apply T_seq | apply T_region | apply U_nil | apply T_skip | apply T_block | apply T_inBlock | apply Cnd_t | apply Cnd_f | apply Cnd_not | apply Cnd_some | apply Cnd_none | apply Gd_nt | apply Gd_nf | apply Gd_some | apply Gd_none | apply Gd_want) | refine U_ar rfl rfl rfl (wrap_k (by simp only [wrapOk]; omega)) rfl ?_ | refine U_cv E rfl rfl rfl (wrap_k (by simp only [wrapOk]; omega)) rfl ?_ | refine U_pure E rfl rfl ?_ | refine T_exit rfl ?_ | refine T_condV rfl ?_ | refine U_guard rfl rfl ?_ | ((with_reducible refine Gd_skipT ?_ ?_); exact rfl) | ((with_reducible refine Gd_skipF ?_ ?_); exact rfl))
  refine U_loadB E hyb3 rfl rfl rfl rfl rfl ?_
  repeat (first | (with_reducible first | apply T_seq | apply T_region | apply U_nil | apply T_skip | apply T_inBlock | apply Cnd_t | apply Cnd_f | apply Cnd_not | apply Cnd_some | apply Cnd_none | apply Gd_nt | apply Gd_nf | apply Gd_some | apply Gd_none | apply Gd_want) | refine U_ar rfl rfl rfl (wrap_k (by simp only [wrapOk]; omega)) rfl ?_ | refine U_cv E rfl rfl rfl (wrap_k (by simp only [wrapOk]; omega)) rfl ?_ | refine U_pure E rfl rfl ?_ | refine T_exit rfl ?_ | refine T_condV rfl ?_ | refine U_guard rfl rfl ?_ | ((with_reducible refine Gd_skipT ?_ ?_); exact rfl) | ((with_reducible refine Gd_skipF ?_ ?_); exact rfl))
  refine T_via (α := Unit) (fun _ => [(7, .pointer (some ⟨yb, 0, none⟩)), (3, .pointer (some ⟨ba, 0, none⟩)), (0, .pointer (some ⟨xb, 0, none⟩))])
    (fun _ w' => Kept none0 w2 w' ∧ Fl w w' (fun b => Hx (fun b => G b ∧ b < w.heap.size) xb (.slice B0 fs0.length cb0) vd b ∨ (w.heap.size ≤ b ∧ b ≠ yb ∧ b ≠ g)) yb g nn cap D.l) ?fin1 ?go1
  case go1 =>
    intro fin
    refine T_block ?_
    refine T_loop (α := Nat × World) (fun x => [(83, .int .i64 x.1), (82, .int .i64 nn), (7, .pointer (some ⟨yb, 0, none⟩)), (3, .pointer (some ⟨ba, 0, none⟩)), (0, .pointer (some ⟨xb, 0, none⟩))]) (fun x => x.2) (fun x => nn - x.1)
      (fun x => x.1 ≤ nn ∧ Kept none0 w2 x.2 ∧ w3.heap.size ≤ x.2.heap.size ∧ Fl w x.2 (fun b => Hx (fun b => G b ∧ b < w.heap.size) xb (.slice B0 fs0.length cb0) vd b ∨ (w.heap.size ≤ b ∧ b ≠ yb ∧ b ≠ g)) yb g nn cap (cpL X x.1)) (0, w3) ⟨Nat.zero_le _, k3, Nat.le_refl _, hFl3⟩ ?hsub rfl ?_
    case hsub => exact ⟨rfl, rfl, rfl, rfl, rfl, trivial⟩
    rintro ⟨i, w4⟩ ⟨hi, k4, s4, hF⟩ ih
    dsimp only at hi k4 s4 hF ⊢
    repeat (first | (with_reducible first | apply T_seq | apply T_region | apply U_nil | apply T_skip | apply T_block | apply T_inBlock | apply Cnd_t | apply Cnd_f | apply Cnd_not | apply Cnd_some | apply Cnd_none | apply Gd_nt | apply Gd_nf | apply Gd_some | apply Gd_none | apply Gd_want) | refine U_ar rfl rfl rfl (wrap_k (by simp only [wrapOk]; omega)) rfl ?_ | refine U_cv E rfl rfl rfl (wrap_k (by simp only [wrapOk]; omega)) rfl ?_ | refine U_pure E rfl rfl ?_ | refine T_exit rfl ?_ | refine T_condV rfl ?_ | refine U_guard rfl rfl ?_ | ((with_reducible refine Gd_skipT ?_ ?_); exact rfl) | ((with_reducible refine Gd_skipF ?_ ?_); exact rfl))
    refine Cnd_p (fun hlt => ?_) (fun hlt => ?_)
    · have hin : i < X.first.length := by omega
      have hX4 := hX2.same k4
      obtain ⟨fs, pad, q1, q2, q3, q4, q5, q6⟩ := hF.fs
      have hyb4 := hF.blk
      repeat (first | (with_reducible first | apply T_seq | apply T_region | apply U_nil | apply T_skip | apply T_block | apply T_inBlock | apply Cnd_t | apply Cnd_f | apply Cnd_not | apply Cnd_some | apply Cnd_none | apply Gd_nt | apply Gd_nf | apply Gd_some | apply Gd_none | apply Gd_want) | refine U_ar rfl rfl rfl (wrap_k (by simp only [wrapOk]; omega)) rfl ?_ | refine U_cv E rfl rfl rfl (wrap_k (by simp only [wrapOk]; omega)) rfl ?_ | refine U_pure E rfl rfl ?_ | refine T_exit rfl ?_ | refine T_condV rfl ?_ | refine U_guard rfl rfl ?_ | ((with_reducible refine Gd_skipT ?_ ?_); exact rfl) | ((with_reducible refine Gd_skipF ?_ ?_); exact rfl))
      refine L_begin (fun W => Blk W yb [.slice (some ⟨g, 0, none⟩) nn cap, .slice none 0 0, .int .i64 (-1)] 111) 10 (by kernel_rfl) (N := 11) rfl (fun w5 hd5 => ?_)
      have k5 : Kept none0 w4 w5 := hd5.kept none0
      have hB5 := hyb4.mv k5 (fun x => x)
      have hsf := xsafe_c (hX4.same k5) i hin
      unfold ptr at *
      refine L_take 0 rfl (by kernel_rfl) (by kernel_rfl) (by kernel_rfl) (by kernel_rfl) hB5 rfl rfl rfl (fun a ha w' _ => run_pv E ha rfl _ _ _ _ _) ?_; refine L_take 1 rfl (by kernel_rfl) (by kernel_rfl) (by kernel_rfl) (by kernel_rfl) hB5 rfl rfl rfl (fun a ha w' _ => run_pv E ha rfl _ _ _ _ _) ?_; refine L_take 2 rfl (by kernel_rfl) (by kernel_rfl) (by kernel_rfl) (by kernel_rfl) hB5 rfl rfl rfl (fun a ha w' _ => run_pv E ha rfl _ _ _ _ _) ?_
      refine L_take 3 rfl (by kernel_rfl) (by kernel_rfl) (by kernel_rfl) (by kernel_rfl) hB5 rfl rfl rfl (fun a ha w' hS => ro_loadB E hS rfl rfl rfl rfl a ha) ?_
      refine L_take 4 rfl (by kernel_rfl) (by kernel_rfl) (by kernel_rfl) (by kernel_rfl) hB5 rfl rfl rfl (fun a ha w' _ => run_pv E ha rfl _ _ _ _ _) ?_; refine L_take 5 rfl (by kernel_rfl) (by kernel_rfl) (by kernel_rfl) (by kernel_rfl) hB5 rfl rfl rfl (fun a ha w' _ => run_pv E ha rfl _ _ _ _ _) ?_; refine L_take 6 rfl (by kernel_rfl) (by kernel_rfl) (by kernel_rfl) (by kernel_rfl) hB5 rfl rfl rfl (fun a ha w' _ => run_pv E ha rfl _ _ _ _ _) ?_
      refine L_op 7 (by kernel_rfl) rfl (fun hc => ?_)
      refine U_call rfl rfl (Tryd.call75 _) (hsf) ?_
      rintro rs w6 ⟨k6, hrs⟩
      have hB6 := hB5.mv k6 (fun x => x)
      refine U_nilL hc (fun _ => hB6) ?_
      refine L_op 8 (by kernel_rfl) rfl (fun hc => ?_)
      refine U_call rfl rfl (Tryd.call19 _) (cut_c w6 _ rs (X.safe i) 256 hrs (by decide)) ?_
      rintro rc w7 ⟨k7, hrc⟩
      have h2 := h256 i hin
      have htk : (X.safe i).take (256 : Int).toNat = X.safe i := List.take_of_length_le (by omega)
      rw [htk] at hrc
      have hB7 := hB6.mv k7 (fun x => x)
      refine U_nilL hc (fun _ => hB7) ?_
      refine L_take 9 rfl (by kernel_rfl) (by kernel_rfl) (by kernel_rfl) (by kernel_rfl) hB7 rfl rfl rfl (fun a ha w' hS => ro_indexS (o' := i) E rfl rfl rfl rfl (by omega) (by omega) (idx1 _) a ha) ?_
      have k47 : Kept none0 w4 w7 := (k5.tr k6 (fun _ _ x => x)).tr k7 (fun _ _ x => x)
      have s46 := (k5.tr k6 (fun _ _ x => x)).size
      have hF7 := hF.same k47
      have q17 := q1.mv k47 (fun x => x)
      refine L_op 10 (by kernel_rfl) rfl (fun hc => ?_)
      refine U_store E q17 rfl rfl rfl (by rw [List.length_append]; omega) (by obtain ⟨A', c', e'⟩ := hrc.val; rw [e']; rfl) ?_
      intro w8 hu8
      refine U_nilL hc (fun e => absurd rfl e) ?_
      refine L_done (by kernel_rfl) ?_
      have hF8 := hF7.set (u := rc) (p := X.safe i) q2 q3 q4 q5 (fun j u p hu hp => (q6 j u p hu hp).mv k47 (fun _ _ _ x => x)) (by omega) ((hrc.sl (by omega)).mono (fun b _ e => .inr ⟨by simp only [fresh] at e; omega, by simp only [fresh] at e; omega, by simp only [fresh] at e; omega⟩)) hu8
      rw [cpL_set X i hin] at hF8
      have k28 : Kept none0 w2 w8 := (k4.tr k47 (fun _ _ x => x)).tr hu8.kept (fun b hb (e : b = g) => by omega)
      have s7 := k47.size
      have s8 := hu8.size
      repeat (first | (with_reducible first | apply T_seq | apply T_region | apply U_nil | apply T_skip | apply T_block | apply T_inBlock | apply Cnd_t | apply Cnd_f | apply Cnd_not | apply Cnd_some | apply Cnd_none | apply Gd_nt | apply Gd_nf | apply Gd_some | apply Gd_none | apply Gd_want) | refine U_ar rfl rfl rfl (wrap_k (by simp only [wrapOk]; omega)) rfl ?_ | refine U_cv E rfl rfl rfl (wrap_k (by simp only [wrapOk]; omega)) rfl ?_ | refine U_pure E rfl rfl ?_ | refine T_exit rfl ?_ | refine T_condV rfl ?_ | refine U_guard rfl rfl ?_ | ((with_reducible refine Gd_skipT ?_ ?_); exact rfl) | ((with_reducible refine Gd_skipF ?_ ?_); exact rfl))
      refine T.less ?_ (ih (i + 1, w8) ⟨by omega, k28, by dsimp only; omega, hF8⟩ (by dsimp only; omega))
      exact ⟨rfl, rfl, rfl, rfl, rfl, trivial⟩
    · have hin : i = nn := by omega
      subst hin
      have hsl : cpL X i = D.l := by rw [← hR.safes, XS.safes, hnn]
      rw [hsl] at hF
      refine T_exit rfl ?_
      refine T.less ?_ (fin () w4 ⟨k4, hF⟩)
      exact ⟨rfl, rfl, rfl, trivial⟩
  case fin1 =>
    rintro ⟨⟩ w4 ⟨k4, hF4⟩
    have hX4 := hX2.same k4
    have hwt := waits_c hX4
    have hwl : (wts X.deeds).length = D.wait.length := hR.waits
    unfold ptr at *
    repeat (first | (with_reducible first | apply T_seq | apply T_region | apply U_nil | apply T_skip | apply T_block | apply T_inBlock | apply Cnd_t | apply Cnd_f | apply Cnd_not | apply Cnd_some | apply Cnd_none | apply Gd_nt | apply Gd_nf | apply Gd_some | apply Gd_none | apply Gd_want) | refine U_ar rfl rfl rfl (wrap_k (by simp only [wrapOk]; omega)) rfl ?_ | refine U_cv E rfl rfl rfl (wrap_k (by simp only [wrapOk]; omega)) rfl ?_ | refine U_pure E rfl rfl ?_ | refine T_exit rfl ?_ | refine T_condV rfl ?_ | refine U_guard rfl rfl ?_ | ((with_reducible refine Gd_skipT ?_ ?_); exact rfl) | ((with_reducible refine Gd_skipF ?_ ?_); exact rfl))
    refine U_call rfl rfl (Tryd.call76 _) (hwt) ?_
    rintro vw w5 ⟨k5, hW5⟩
    have hF5 := hF4.same k5
    have s24 := k4.size
    obtain ⟨ds, d1, d2, d3⟩ := hW5
    obtain ⟨Aw, cw, rfl⟩ := d2.val
    have hdn : ds.length = D.wait.length := by omega
    have k05 : Kept none0 w w5 := (k02.tr k4 (fun _ _ x => x)).tr k5 (fun _ _ x => x)
    have hg4 : g < w4.heap.size := by
      obtain ⟨_, _, q, _⟩ := hF4.fs
      exact q.lt
    have hbl := hba.lt
    have hfg0 : (fgo a.keep D.l (D.wait.take 0)) = ⟨D.l, -1, zeros 256⟩ := rfl
    repeat (first | (with_reducible first | apply T_seq | apply T_region | apply U_nil | apply T_skip | apply T_inBlock | apply Cnd_t | apply Cnd_f | apply Cnd_not | apply Cnd_some | apply Cnd_none | apply Gd_nt | apply Gd_nf | apply Gd_some | apply Gd_none | apply Gd_want) | refine U_ar rfl rfl rfl (wrap_k (by simp only [wrapOk]; omega)) rfl ?_ | refine U_cv E rfl rfl rfl (wrap_k (by simp only [wrapOk]; omega)) rfl ?_ | refine U_pure E rfl rfl ?_ | refine T_exit rfl ?_ | refine T_condV rfl ?_ | refine U_guard rfl rfl ?_ | ((with_reducible refine Gd_skipT ?_ ?_); exact rfl) | ((with_reducible refine Gd_skipF ?_ ?_); exact rfl))
    refine T_via (α := Value) (fun v => [(10, v), (9, .int .i64 (lastA D (fgo a.keep D.l D.wait))), (7, .pointer (some ⟨yb, 0, none⟩)), (3, .pointer (some ⟨ba, 0, none⟩)), (0, .pointer (some ⟨xb, 0, none⟩))])
      (fun v w' => Kept none0 w2 w' ∧ Fl w w' (fun b => Hx (fun b => G b ∧ b < w.heap.size) xb (.slice B0 fs0.length cb0) vd b ∨ (w.heap.size ≤ b ∧ b ≠ yb ∧ b ≠ g)) yb g nn cap (fgo a.keep D.l D.wait).l ∧ ((fgo a.keep D.l D.wait).last = -1 ∨ BS w' (fun b => Hx (fun b => G b ∧ b < w.heap.size) xb (.slice B0 fs0.length cb0) vd b ∨ (w.heap.size ≤ b ∧ b ≠ yb ∧ b ≠ g)) v (fgo a.keep D.l D.wait).old)) ?fin2 ?go2
    case go2 =>
      intro fin
      refine T_block ?_
      refine T_loop (α := Nat × Value × World) (fun x => [(100, .int .i64 x.1), (99, .int .i64 ds.length), (98, .slice Aw ds.length cw), (10, x.2.1), (9, .int .i64 (lastA D (fgo a.keep D.l (D.wait.take x.1)))), (7, .pointer (some ⟨yb, 0, none⟩)), (3, .pointer (some ⟨ba, 0, none⟩)), (0, .pointer (some ⟨xb, 0, none⟩))]) (fun x => x.2.2) (fun x => ds.length - x.1)
        (fun x => x.1 ≤ ds.length ∧ Kept (fun b => b = g) w5 x.2.2 ∧ Fl w x.2.2 (fun b => Hx (fun b => G b ∧ b < w.heap.size) xb (.slice B0 fs0.length cb0) vd b ∨ (w.heap.size ≤ b ∧ b ≠ yb ∧ b ≠ g)) yb g nn cap (fgo a.keep D.l (D.wait.take x.1)).l ∧ ((fgo a.keep D.l (D.wait.take x.1)).last = -1 ∨ BS x.2.2 (fun b => Hx (fun b => G b ∧ b < w.heap.size) xb (.slice B0 fs0.length cb0) vd b ∨ (w.heap.size ≤ b ∧ b ≠ yb ∧ b ≠ g)) x.2.1 (fgo a.keep D.l (D.wait.take x.1)).old))
        (0, .slice none 0 0, w5) ⟨Nat.zero_le _, Kept.refl _ _, by dsimp only; rw [hfg0]; exact hF5, .inl rfl⟩ ?hsub2 rfl ?_
      case hsub2 => exact ⟨rfl, rfl, rfl, rfl, rfl, rfl, rfl, rfl, trivial⟩
      rintro ⟨i, va, w6⟩ ⟨hi, k6, hF6, hO6⟩ ih
      dsimp only at hi k6 hF6 hO6 ⊢
      have ok := fgo_ok a.keep D.l D.wait hD.secs hD.waits i (by omega)
      obtain ⟨st, hst⟩ : ∃ st, fgo a.keep D.l (D.wait.take i) = st := ⟨_, rfl⟩
      rw [hst] at hF6 hO6 ok ⊢
      repeat (first | (with_reducible first | apply T_seq | apply T_region | apply U_nil | apply T_skip | apply T_block | apply T_inBlock | apply Cnd_t | apply Cnd_f | apply Cnd_not | apply Cnd_some | apply Cnd_none | apply Gd_nt | apply Gd_nf | apply Gd_some | apply Gd_none | apply Gd_want) | refine U_ar rfl rfl rfl (wrap_k (by simp only [wrapOk]; omega)) rfl ?_ | refine U_cv E rfl rfl rfl (wrap_k (by simp only [wrapOk]; omega)) rfl ?_ | refine U_pure E rfl rfl ?_ | refine T_exit rfl ?_ | refine T_condV rfl ?_ | refine U_guard rfl rfl ?_ | ((with_reducible refine Gd_skipT ?_ ?_); exact rfl) | ((with_reducible refine Gd_skipF ?_ ?_); exact rfl))
      refine Cnd_p (fun hlt => ?_) (fun hlt => ?_)
      · have hl1 : i < ds.length := by omega
        have hl2 : i < D.wait.length := by omega
        obtain ⟨gd, cd, hv, hgd, hgdl, hcd, hsegs⟩ := ds_seg d2 hl1
        injection hv with hv1 hv2 hv3
        subst hv1
        have hseg := hsegs i hl1
        rw [List.getD_eq_getElem?_getD, List.getElem?_eq_getElem hl1, Option.getD_some] at hseg
        obtain ⟨⟨A, P⟩, hAP⟩ : ∃ q, D.wait[i] = q := ⟨_, rfl⟩
        have he : (wts X.deeds)[i]? = some ((A : Int), P) := by rw [hR.wait, List.getElem?_map, List.getElem?_eq_getElem hl2, hAP]; rfl
        have hel := d3 i _ _ (List.getElem?_eq_getElem hl1) he
        obtain ⟨⟨dn, dv⟩, hdv⟩ : ∃ q, ds[i] = q := ⟨_, rfl⟩
        rw [hdv] at hseg hel
        obtain ⟨hel1, hel2⟩ := hel
        dsimp only at hel1 hel2
        subst hel1
        have hwA := hD.waits _ (List.getElem_mem hl2)
        rw [hAP] at hwA
        dsimp only at hwA
        have hsn : fgo a.keep D.l (D.wait.take (i + 1)) = fstep a.keep st ((A, P), i) := by
          rw [take_snoc D.wait i hl2, fgo_snoc, hst, hAP]
          congr 2
          simp; omega
        have hseg1 := hseg.mv k6 (fun e => by simp only [fresh] at hgd; omega)
        have hel3 : BS w6 (fun b => Hx (fun b => G b ∧ b < w.heap.size) xb (.slice B0 fs0.length cb0) vd b ∨ (w.heap.size ≤ b ∧ b ≠ yb ∧ b ≠ g)) dv P := ((hel2.mono (fun b _ e => .inl e.1)).mv k6 (fun b _ e e2 => by rw [e2] at e; exact hF4.Hg e))
        repeat (first | (with_reducible first | apply T_seq | apply T_region | apply U_nil | apply T_skip | apply T_block | apply T_inBlock | apply Cnd_t | apply Cnd_f | apply Cnd_not | apply Cnd_some | apply Cnd_none | apply Gd_nt | apply Gd_nf | apply Gd_some | apply Gd_none | apply Gd_want) | refine U_ar rfl rfl rfl (wrap_k (by simp only [wrapOk]; omega)) rfl ?_ | refine U_cv E rfl rfl rfl (wrap_k (by simp only [wrapOk]; omega)) rfl ?_ | refine U_pure E rfl rfl ?_ | refine T_exit rfl ?_ | refine T_condV rfl ?_ | refine U_guard rfl rfl ?_ | ((with_reducible refine Gd_skipT ?_ ?_); exact rfl) | ((with_reducible refine Gd_skipF ?_ ?_); exact rfl))
        refine U_indexS (o' := i * 2) E rfl rfl rfl rfl (by omega) (by omega) (by rw [Int.toNat_natCast, Nat.zero_add]) rfl ?_
        refine U_loadA E hseg1 rfl rfl rfl rfl rfl ?_
        refine U_alloc E rfl rfl rfl ?_
        intro b7 w7 hn7
        repeat (first | (with_reducible first | apply T_seq | apply T_region | apply U_nil | apply T_skip | apply T_block | apply T_inBlock | apply Cnd_t | apply Cnd_f | apply Cnd_not | apply Cnd_some | apply Cnd_none | apply Gd_nt | apply Gd_nf | apply Gd_some | apply Gd_none | apply Gd_want) | refine U_ar rfl rfl rfl (wrap_k (by simp only [wrapOk]; omega)) rfl ?_ | refine U_cv E rfl rfl rfl (wrap_k (by simp only [wrapOk]; omega)) rfl ?_ | refine U_pure E rfl rfl ?_ | refine T_exit rfl ?_ | refine T_condV rfl ?_ | refine U_guard rfl rfl ?_ | ((with_reducible refine Gd_skipT ?_ ?_); exact rfl) | ((with_reducible refine Gd_skipF ?_ ?_); exact rfl))
        refine U_storeA E hn7.blk rfl rfl rfl rfl (by decide) (dcells_one hel3) ?_
        intro w8 hu8
        have hb8 : Blk w8 b7 (dcells ((A : Int), dv)) 114 := by
          have := hu8.blk
          simpa [dcells] using this
        have e7 := hn7.at_
        have k68 : Kept none0 w6 w8 := hn7.kept.tr hu8.kept (fun j hj (e : j = b7) => by omega)
        have k58 : Kept (fun b => b = g) w5 w8 := k6.tr k68 (fun _ _ x => x.elim)
        have hF8 := hF6.same k68
        have hel8 := hel3.mv k68 (fun _ _ _ x => x)
        have hO8 := hO6.imp (fun x => x) (fun x => x.mv k68 (fun _ _ _ x => x))
        have hba8 : Blk w8 ba a.cells 49 := ((hba.mv k4 (fun x => x)).mv k5 (fun x => x)).mv k58 (fun e => by omega)
        have hk8 := ((hk.mono (G := fun b => b < w.heap.size) (fun b hb _ => hb)).mv k05 (fun _ _ _ x => x)).mv k58 (fun b _ e e2 => by omega)
        rw [hvk] at hk8
        have s68 := k68.size
        have hnot : ¬ a.keep[i]? = some true → fgo a.keep D.l (D.wait.take (i + 1)) = st := fun e => by rw [hsn, fstep, if_neg e]
        repeat (first | (with_reducible first | apply T_seq | apply T_region | apply U_nil | apply T_skip | apply T_block | apply T_inBlock | apply Cnd_t | apply Cnd_f | apply Cnd_not | apply Cnd_some | apply Cnd_none | apply Gd_nt | apply Gd_nf | apply Gd_some | apply Gd_none | apply Gd_want) | refine U_ar rfl rfl rfl (wrap_k (by simp only [wrapOk]; omega)) rfl ?_ | refine U_cv E rfl rfl rfl (wrap_k (by simp only [wrapOk]; omega)) rfl ?_ | refine U_pure E rfl rfl ?_ | refine T_exit rfl ?_ | refine T_condV rfl ?_ | refine U_guard rfl rfl ?_ | ((with_reducible refine Gd_skipT ?_ ?_); exact rfl) | ((with_reducible refine Gd_skipF ?_ ?_); exact rfl))
        refine U_loadB E hba8 rfl rfl rfl cvk rfl ?_
        repeat (first | (with_reducible first | apply T_seq | apply T_region | apply U_nil | apply T_skip | apply T_block | apply T_inBlock | apply Cnd_t | apply Cnd_f | apply Cnd_not | apply Cnd_some | apply Cnd_none | apply Gd_nt | apply Gd_nf | apply Gd_some | apply Gd_none | apply Gd_want) | refine U_ar rfl rfl rfl (wrap_k (by simp only [wrapOk]; omega)) rfl ?_ | refine U_cv E rfl rfl rfl (wrap_k (by simp only [wrapOk]; omega)) rfl ?_ | refine U_pure E rfl rfl ?_ | refine T_exit rfl ?_ | refine T_condV rfl ?_ | refine U_guard rfl rfl ?_ | ((with_reducible refine Gd_skipT ?_ ?_); exact rfl) | ((with_reducible refine Gd_skipF ?_ ?_); exact rfl))
        refine Gd_p (fun hkk => ?_) (fun hkk => ?_)
        · have hik : i < a.keep.length := by omega
          repeat (first | (with_reducible first | apply T_seq | apply T_region | apply U_nil | apply T_skip | apply T_block | apply T_inBlock | apply Cnd_t | apply Cnd_f | apply Cnd_not | apply Cnd_some | apply Cnd_none | apply Gd_nt | apply Gd_nf | apply Gd_some | apply Gd_none | apply Gd_want) | refine U_ar rfl rfl rfl (wrap_k (by simp only [wrapOk]; omega)) rfl ?_ | refine U_cv E rfl rfl rfl (wrap_k (by simp only [wrapOk]; omega)) rfl ?_ | refine U_pure E rfl rfl ?_ | refine T_exit rfl ?_ | refine T_condV rfl ?_ | refine U_guard rfl rfl ?_ | ((with_reducible refine Gd_skipT ?_ ?_); exact rfl) | ((with_reducible refine Gd_skipF ?_ ?_); exact rfl))
          refine U_loadB E hba8 rfl rfl rfl cvk rfl ?_
          repeat (first | (with_reducible first | apply T_seq | apply T_region | apply U_nil | apply T_skip | apply T_block | apply T_inBlock | apply Cnd_t | apply Cnd_f | apply Cnd_not | apply Cnd_some | apply Cnd_none | apply Gd_nt | apply Gd_nf | apply Gd_some | apply Gd_none | apply Gd_want) | refine U_ar rfl rfl rfl (wrap_k (by simp only [wrapOk]; omega)) rfl ?_ | refine U_cv E rfl rfl rfl (wrap_k (by simp only [wrapOk]; omega)) rfl ?_ | refine U_pure E rfl rfl ?_ | refine T_exit rfl ?_ | refine T_condV rfl ?_ | refine U_guard rfl rfl ?_ | ((with_reducible refine Gd_skipT ?_ ?_); exact rfl) | ((with_reducible refine Gd_skipF ?_ ?_); exact rfl))
          refine U_idx E (hk8) rfl rfl rfl rfl (by omega) (by omega) ((show (encBools a.keep)[(i : Int).toNat]? = some (.bool a.keep[i]) by rw [Int.toNat_natCast]; simp [encBools, hik])) rfl (fun q hq => ?_)
          repeat (first | (with_reducible first | apply T_seq | apply T_region | apply U_nil | apply T_skip | apply T_block | apply T_inBlock | apply Cnd_t | apply Cnd_f | apply Cnd_not | apply Cnd_some | apply Cnd_none | apply Gd_nt | apply Gd_nf | apply Gd_some | apply Gd_none | apply Gd_want) | refine U_ar rfl rfl rfl (wrap_k (by simp only [wrapOk]; omega)) rfl ?_ | refine U_cv E rfl rfl rfl (wrap_k (by simp only [wrapOk]; omega)) rfl ?_ | refine U_pure E rfl rfl ?_ | refine T_exit rfl ?_ | refine T_condV rfl ?_ | refine U_guard rfl rfl ?_ | ((with_reducible refine Gd_skipT ?_ ?_); exact rfl) | ((with_reducible refine Gd_skipF ?_ ?_); exact rfl))
          refine U_load E rfl rfl rfl hq rfl ?_
          repeat (first | (with_reducible first | apply T_seq | apply T_region | apply U_nil | apply T_skip | apply T_block | apply T_inBlock | apply Cnd_t | apply Cnd_f | apply Cnd_not | apply Cnd_some | apply Cnd_none | apply Gd_nt | apply Gd_nf | apply Gd_some | apply Gd_none | apply Gd_want) | refine U_ar rfl rfl rfl (wrap_k (by simp only [wrapOk]; omega)) rfl ?_ | refine U_cv E rfl rfl rfl (wrap_k (by simp only [wrapOk]; omega)) rfl ?_ | refine U_pure E rfl rfl ?_ | refine T_exit rfl ?_ | refine T_condV rfl ?_ | refine U_guard rfl rfl ?_ | ((with_reducible refine Gd_skipT ?_ ?_); exact rfl) | ((with_reducible refine Gd_skipF ?_ ?_); exact rfl))
          refine Cnd_b (fun hkb => ?_) (fun hkb => ?_)
          · have hki : a.keep[i]? = some true := by rw [List.getElem?_eq_getElem hik, hkb]
            have hsn1 : fgo a.keep D.l (D.wait.take (i + 1)) = ⟨st.l.set A P, i, st.l.getD A []⟩ := by rw [hsn, fstep, if_pos hki]
            have hAn : A < nn := by omega
            obtain ⟨fs, pad, q1, q2, q3, q4, q5, q6⟩ := hF8.fs
            have hgA : (fs ++ pad)[A]? = some (fs[A]'(by omega)) := by rw [List.getElem?_append_left (by omega), List.getElem?_eq_getElem (by omega)]
            have hold := q6 A _ _ (List.getElem?_eq_getElem (by omega)) (List.getElem?_eq_getElem (by omega))
            obtain ⟨uA, huA⟩ : ∃ u, fs[A]'(by omega) = u := ⟨_, rfl⟩
            rw [huA] at hgA hold
            obtain ⟨AuA, cuA, huv⟩ := hold.len
            have hS8 : Blk w8 b7 (dcells ((A : Int), dv)) 114 ∧ Blk w8 yb [.slice (some ⟨g, 0, none⟩) nn cap, .slice none 0 0, .int .i64 (-1)] 111 ∧ Blk w8 g (fs ++ pad) 23 := ⟨hb8, hF8.blk, q1⟩
            repeat (first | (with_reducible first | apply T_seq | apply T_region | apply U_nil | apply T_skip | apply T_block | apply T_inBlock | apply Cnd_t | apply Cnd_f | apply Cnd_not | apply Cnd_some | apply Cnd_none | apply Gd_nt | apply Gd_nf | apply Gd_some | apply Gd_none | apply Gd_want) | refine U_ar rfl rfl rfl (wrap_k (by simp only [wrapOk]; omega)) rfl ?_ | refine U_cv E rfl rfl rfl (wrap_k (by simp only [wrapOk]; omega)) rfl ?_ | refine U_pure E rfl rfl ?_ | refine T_exit rfl ?_ | refine T_condV rfl ?_ | refine U_guard rfl rfl ?_ | ((with_reducible refine Gd_skipT ?_ ?_); exact rfl) | ((with_reducible refine Gd_skipF ?_ ?_); exact rfl))
            refine L_begin (fun W => Blk W b7 (dcells ((A : Int), dv)) 114 ∧ Blk W yb [.slice (some ⟨g, 0, none⟩) nn cap, .slice none 0 0, .int .i64 (-1)] 111 ∧ Blk W g (fs ++ pad) 23) 12 (by kernel_rfl) (N := 12) rfl (fun w9 hd9 => ?_)
            have k9 : Kept none0 w8 w9 := hd9.kept none0
            have hS9 : Blk w9 b7 (dcells ((A : Int), dv)) 114 ∧ Blk w9 yb [.slice (some ⟨g, 0, none⟩) nn cap, .slice none 0 0, .int .i64 (-1)] 111 ∧ Blk w9 g (fs ++ pad) 23 := ⟨hS8.1.mv k9 (fun x => x), hS8.2.1.mv k9 (fun x => x), hS8.2.2.mv k9 (fun x => x)⟩
            refine L_take 0 rfl (by kernel_rfl) (by kernel_rfl) (by kernel_rfl) (by kernel_rfl) hS9 rfl rfl rfl (fun a ha w' _ => run_pv E ha rfl _ _ _ _ _) ?_
            refine L_take 1 rfl (by kernel_rfl) (by kernel_rfl) (by kernel_rfl) (by kernel_rfl) hS9 rfl rfl rfl (fun a ha w' hS => ro_loadB E hS.1 rfl rfl rfl rfl a ha) ?_
            refine L_take 2 rfl (by kernel_rfl) (by kernel_rfl) (by kernel_rfl) (by kernel_rfl) hS9 rfl rfl rfl (fun a ha w' _ => run_pv E ha rfl _ _ _ _ _) ?_; refine L_take 3 rfl (by kernel_rfl) (by kernel_rfl) (by kernel_rfl) (by kernel_rfl) hS9 rfl rfl rfl (fun a ha w' _ => run_pv E ha rfl _ _ _ _ _) ?_; refine L_take 4 rfl (by kernel_rfl) (by kernel_rfl) (by kernel_rfl) (by kernel_rfl) hS9 rfl rfl rfl (fun a ha w' _ => run_pv E ha rfl _ _ _ _ _) ?_
            refine L_take 5 rfl (by kernel_rfl) (by kernel_rfl) (by kernel_rfl) (by kernel_rfl) hS9 rfl rfl rfl (fun a ha w' hS => ro_loadB E hS.2.1 rfl rfl rfl rfl a ha) ?_
            refine L_take 6 rfl (by kernel_rfl) (by kernel_rfl) (by kernel_rfl) (by kernel_rfl) hS9 rfl rfl rfl (fun a ha w' _ => run_pv E ha rfl _ _ _ _ _) ?_
            refine L_take 7 rfl (by kernel_rfl) (by kernel_rfl) (by kernel_rfl) (by kernel_rfl) hS9 rfl rfl rfl (fun a ha w' hS => ro_loadB E hS.1 rfl rfl rfl rfl a ha) ?_
            refine L_take 8 rfl (by kernel_rfl) (by kernel_rfl) (by kernel_rfl) (by kernel_rfl) hS9 rfl rfl rfl (fun a ha w' hS => ro_indexS (o' := A) E rfl rfl rfl rfl (by omega) (by omega) (idx1 _) a ha) ?_
            refine L_take 9 rfl (by kernel_rfl) (by kernel_rfl) (by kernel_rfl) (by kernel_rfl) hS9 rfl rfl rfl (fun a ha w' hS => ro_loadB E hS.2.2 rfl rfl rfl hgA a ha) ?_
            refine L_take 10 rfl (by kernel_rfl) (by kernel_rfl) (by kernel_rfl) (by kernel_rfl) hS9 rfl rfl rfl (fun a ha w' _ => run_pv E ha rfl _ _ _ _ _) ?_; refine L_take 11 rfl (by kernel_rfl) (by kernel_rfl) (by kernel_rfl) (by kernel_rfl) hS9 rfl rfl rfl (fun a ha w' _ => run_pv E ha rfl _ _ _ _ _) ?_
            refine L_done (by kernel_rfl) ?_
            repeat (first | (with_reducible first | apply T_seq | apply T_region | apply U_nil | apply T_skip | apply T_block | apply T_inBlock | apply Cnd_t | apply Cnd_f | apply Cnd_not | apply Cnd_some | apply Cnd_none | apply Gd_nt | apply Gd_nf | apply Gd_some | apply Gd_none | apply Gd_want) | refine U_ar rfl rfl rfl (wrap_k (by simp only [wrapOk]; omega)) rfl ?_ | refine U_cv E rfl rfl rfl (wrap_k (by simp only [wrapOk]; omega)) rfl ?_ | refine U_pure E rfl rfl ?_ | refine T_exit rfl ?_ | refine T_condV rfl ?_ | refine U_guard rfl rfl ?_ | ((with_reducible refine Gd_skipT ?_ ?_); exact rfl) | ((with_reducible refine Gd_skipF ?_ ?_); exact rfl))
            refine L_begin (fun W => Blk W b7 (dcells ((A : Int), dv)) 114 ∧ Blk W yb [.slice (some ⟨g, 0, none⟩) nn cap, .slice none 0 0, .int .i64 (-1)] 111 ∧ Blk W g (fs ++ pad) 23) 9 (by kernel_rfl) (N := 10) rfl (fun w10 hd10 => ?_)
            have k10 : Kept none0 w9 w10 := hd10.kept none0
            have hS10 : Blk w10 b7 (dcells ((A : Int), dv)) 114 ∧ Blk w10 yb [.slice (some ⟨g, 0, none⟩) nn cap, .slice none 0 0, .int .i64 (-1)] 111 ∧ Blk w10 g (fs ++ pad) 23 := ⟨hS9.1.mv k10 (fun x => x), hS9.2.1.mv k10 (fun x => x), hS9.2.2.mv k10 (fun x => x)⟩
            refine L_take 0 rfl (by kernel_rfl) (by kernel_rfl) (by kernel_rfl) (by kernel_rfl) hS10 rfl rfl rfl (fun a ha w' _ => run_pv E ha rfl _ _ _ _ _) ?_; refine L_take 1 rfl (by kernel_rfl) (by kernel_rfl) (by kernel_rfl) (by kernel_rfl) hS10 rfl rfl rfl (fun a ha w' _ => run_pv E ha rfl _ _ _ _ _) ?_; refine L_take 2 rfl (by kernel_rfl) (by kernel_rfl) (by kernel_rfl) (by kernel_rfl) hS10 rfl rfl rfl (fun a ha w' _ => run_pv E ha rfl _ _ _ _ _) ?_
            refine L_take 3 rfl (by kernel_rfl) (by kernel_rfl) (by kernel_rfl) (by kernel_rfl) hS10 rfl rfl rfl (fun a ha w' hS => ro_loadB E hS.2.1 rfl rfl rfl rfl a ha) ?_
            refine L_take 4 rfl (by kernel_rfl) (by kernel_rfl) (by kernel_rfl) (by kernel_rfl) hS10 rfl rfl rfl (fun a ha w' _ => run_pv E ha rfl _ _ _ _ _) ?_
            refine L_take 5 rfl (by kernel_rfl) (by kernel_rfl) (by kernel_rfl) (by kernel_rfl) hS10 rfl rfl rfl (fun a ha w' hS => ro_loadB E hS.1 rfl rfl rfl rfl a ha) ?_
            refine L_take 6 rfl (by kernel_rfl) (by kernel_rfl) (by kernel_rfl) (by kernel_rfl) hS10 rfl rfl rfl (fun a ha w' _ => run_pv E ha rfl _ _ _ _ _) ?_
            refine L_take 7 rfl (by kernel_rfl) (by kernel_rfl) (by kernel_rfl) (by kernel_rfl) hS10 rfl rfl rfl (fun a ha w' hS => ro_loadB E hS.1 rfl rfl rfl rfl a ha) ?_
            refine L_take 8 rfl (by kernel_rfl) (by kernel_rfl) (by kernel_rfl) (by kernel_rfl) hS10 rfl rfl rfl (fun a ha w' hS => ro_indexS (o' := A) E rfl rfl rfl rfl (by omega) (by omega) (idx1 _) a ha) ?_
            refine L_op 9 (by kernel_rfl) rfl (fun hc => ?_)
            refine U_store E hS10.2.2 rfl rfl rfl (by rw [List.length_append]; omega) (bs_one hel8) ?_
            intro w11 hu11
            refine U_nilL hc (fun e => absurd rfl e) ?_
            refine L_done (by kernel_rfl) ?_
            have k810 : Kept none0 w8 w10 := k9.tr k10 (fun _ _ x => x)
            have hF11 := (hF8.same k810).set (u := dv) (p := P) q2 q3 q4 q5 (fun j u p hu hp => (q6 j u p hu hp).mv k810 (fun _ _ _ x => x)) hAn (hel8.mv k810 (fun _ _ _ x => x)) hu11
            have hOb : BS w11 (fun b => Hx (fun b => G b ∧ b < w.heap.size) xb (.slice B0 fs0.length cb0) vd b ∨ (w.heap.size ≤ b ∧ b ≠ yb ∧ b ≠ g)) uA (st.l.getD A []) := by
              rw [List.getD_eq_getElem?_getD, List.getElem?_eq_getElem (by omega), Option.getD_some]
              exact (hold.mv k810 (fun _ _ _ x => x)).mv hu11.kept (fun b _ e e2 => by rw [e2] at e; exact hF8.Hg e)
            have hla : lastA D ⟨st.l.set A P, i, st.l.getD A []⟩ = (A : Int) := by
              rw [lastA, if_pos (by dsimp only; omega)]
              dsimp only
              rw [Int.toNat_natCast, List.getD_eq_getElem?_getD, List.getElem?_eq_getElem hl2, Option.getD_some, hAP]
            have k511 : Kept (fun b => b = g) w5 w11 := (k58.tr k810 (fun _ _ x => x.elim)).tr hu11.kept (fun b hb e => e)
            repeat (first | (with_reducible first | apply T_seq | apply T_region | apply U_nil | apply T_skip | apply T_block | apply T_inBlock | apply Cnd_t | apply Cnd_f | apply Cnd_not | apply Cnd_some | apply Cnd_none | apply Gd_nt | apply Gd_nf | apply Gd_some | apply Gd_none | apply Gd_want) | refine U_ar rfl rfl rfl (wrap_k (by simp only [wrapOk]; omega)) rfl ?_ | refine U_cv E rfl rfl rfl (wrap_k (by simp only [wrapOk]; omega)) rfl ?_ | refine U_pure E rfl rfl ?_ | refine T_exit rfl ?_ | refine T_condV rfl ?_ | refine U_guard rfl rfl ?_ | ((with_reducible refine Gd_skipT ?_ ?_); exact rfl) | ((with_reducible refine Gd_skipF ?_ ?_); exact rfl))
            refine T.less ?_ (ih (i + 1, uA, w11) ⟨by omega, k511, by dsimp only; rw [hsn1]; exact hF11, by dsimp only; rw [hsn1]; exact .inr hOb⟩ (by dsimp only; omega))
            dsimp only
            rw [hsn1, hla]
            exact ⟨rfl, rfl, rfl, rfl, rfl, rfl, rfl, rfl, trivial⟩
          · have hki := hnot (by rw [List.getElem?_eq_getElem hik, hkb]; simp)
            repeat (first | (with_reducible first | apply T_seq | apply T_region | apply U_nil | apply T_skip | apply T_block | apply T_inBlock | apply Cnd_t | apply Cnd_f | apply Cnd_not | apply Cnd_some | apply Cnd_none | apply Gd_nt | apply Gd_nf | apply Gd_some | apply Gd_none | apply Gd_want) | refine U_ar rfl rfl rfl (wrap_k (by simp only [wrapOk]; omega)) rfl ?_ | refine U_cv E rfl rfl rfl (wrap_k (by simp only [wrapOk]; omega)) rfl ?_ | refine U_pure E rfl rfl ?_ | refine T_exit rfl ?_ | refine T_condV rfl ?_ | refine U_guard rfl rfl ?_ | ((with_reducible refine Gd_skipT ?_ ?_); exact rfl) | ((with_reducible refine Gd_skipF ?_ ?_); exact rfl))
            refine T.less ?_ (ih (i + 1, va, w8) ⟨by omega, k58, by dsimp only; rw [hki]; exact hF8, by dsimp only; rw [hki]; exact hO8⟩ (by dsimp only; omega))
            dsimp only
            rw [hki]
            exact ⟨rfl, rfl, rfl, rfl, rfl, rfl, rfl, rfl, trivial⟩
        · have hki := hnot (by rw [List.getElem?_eq_none (by omega)]; simp)
          repeat (first | (with_reducible first | apply T_seq | apply T_region | apply U_nil | apply T_skip | apply T_block | apply T_inBlock | apply Cnd_t | apply Cnd_f | apply Cnd_not | apply Cnd_some | apply Cnd_none | apply Gd_nt | apply Gd_nf | apply Gd_some | apply Gd_none | apply Gd_want) | refine U_ar rfl rfl rfl (wrap_k (by simp only [wrapOk]; omega)) rfl ?_ | refine U_cv E rfl rfl rfl (wrap_k (by simp only [wrapOk]; omega)) rfl ?_ | refine U_pure E rfl rfl ?_ | refine T_exit rfl ?_ | refine T_condV rfl ?_ | refine U_guard rfl rfl ?_ | ((with_reducible refine Gd_skipT ?_ ?_); exact rfl) | ((with_reducible refine Gd_skipF ?_ ?_); exact rfl))
          refine T.less ?_ (ih (i + 1, va, w8) ⟨by omega, k58, by dsimp only; rw [hki]; exact hF8, by dsimp only; rw [hki]; exact hO8⟩ (by dsimp only; omega))
          dsimp only
          rw [hki]
          exact ⟨rfl, rfl, rfl, rfl, rfl, rfl, rfl, rfl, trivial⟩
      · have hin : i = D.wait.length := by omega
        subst hin
        rw [List.take_length] at hst
        subst hst
        refine T_exit rfl ?_
        refine T.less ?_ (fin va w6 ⟨(k4.tr k5 (fun _ _ x => x)).tr k6 (fun b hb e => by omega), hF6, hO6⟩)
        exact ⟨rfl, rfl, rfl, rfl, rfl, trivial⟩
    case fin2 =>
      rintro va w6 ⟨k6, hF6, hO6⟩
      have ok := fgo_ok a.keep D.l D.wait hD.secs hD.waits D.wait.length (Nat.le_refl _)
      have hdf : (drFall D a.keep a.n).l = if 0 ≤ (fgo a.keep D.l D.wait).last ∧ 0 ≤ a.n ∧ a.n < 256 then (fgo a.keep D.l D.wait).l.set (D.wait.getD (fgo a.keep D.l D.wait).last.toNat (0, [])).1 (((fgo a.keep D.l D.wait).l.getD (D.wait.getD (fgo a.keep D.l D.wait).last.toNat (0, [])).1 []).take a.n.toNat ++ (fgo a.keep D.l D.wait).old.drop a.n.toNat) else (fgo a.keep D.l D.wait).l := rfl
      rw [List.take_length] at ok
      obtain ⟨st, hst⟩ : ∃ st, fgo a.keep D.l D.wait = st := ⟨_, rfl⟩
      rw [hst] at hF6 hO6 ok hdf ⊢
      have hba6 : Blk w6 ba a.cells 49 := hba.mv k6 (fun x => x)
      have hend : ∀ w' l, Fl w w' (fun b => Hx (fun b => G b ∧ b < w.heap.size) xb (.slice B0 fs0.length cb0) vd b ∨ (w.heap.size ≤ b ∧ b ≠ yb ∧ b ≠ g)) yb g nn cap l → XR w G xb 0 ⟨l, [], -1⟩ (.tuple #[.pointer (some ⟨yb, 0, none⟩), .int .i64 (0 : Nat)]) w' := fun w' l hF =>
        ⟨yb, _, _, rfl, hF.k.mono (fun _ _ x => x.elim), hF.xm (G := G) (by omega) (fun b e => e.elim (fun e => .inl e.1.1) (fun e => .inr e.1))⟩
      have hlo : 0 ≤ lastA D st ↔ 0 ≤ st.last := by
        rw [lastA]
        split
        · omega
        · omega
      repeat (first | (with_reducible first | apply T_seq | apply T_region | apply U_nil | apply T_skip | apply T_block | apply T_inBlock | apply Cnd_t | apply Cnd_f | apply Cnd_not | apply Cnd_some | apply Cnd_none | apply Gd_nt | apply Gd_nf | apply Gd_some | apply Gd_none | apply Gd_want) | refine U_ar rfl rfl rfl (wrap_k (by simp only [wrapOk]; omega)) rfl ?_ | refine U_cv E rfl rfl rfl (wrap_k (by simp only [wrapOk]; omega)) rfl ?_ | refine U_pure E rfl rfl ?_ | refine T_exit rfl ?_ | refine T_condV rfl ?_ | refine U_guard rfl rfl ?_ | ((with_reducible refine Gd_skipT ?_ ?_); exact rfl) | ((with_reducible refine Gd_skipF ?_ ?_); exact rfl))
      refine Gd_p (fun hl => ?_) (fun hl => ?_)
      · have hst0 : 0 ≤ st.last := hlo.1 hl
        obtain ⟨j, hj⟩ : ∃ j : Nat, st.last = j := ⟨st.last.toNat, by omega⟩
        have hjl : j < D.wait.length := by have := ok.last2; omega
        obtain ⟨A, hA⟩ : ∃ A, (D.wait.getD j (0, [])).1 = A := ⟨_, rfl⟩
        have hAn : A < nn := by
          rw [List.getD_eq_getElem?_getD, List.getElem?_eq_getElem hjl, Option.getD_some] at hA
          have := (hD.waits _ (List.getElem_mem hjl)).1
          omega
        have hla : lastA D st = (A : Int) := by rw [lastA, if_pos hst0, hj, Int.toNat_natCast, hA]
        rw [hj, Int.toNat_natCast, hA] at hdf
        rw [hla]
        repeat (first | (with_reducible first | apply T_seq | apply T_region | apply U_nil | apply T_skip | apply T_block | apply T_inBlock | apply Cnd_t | apply Cnd_f | apply Cnd_not | apply Cnd_some | apply Cnd_none | apply Gd_nt | apply Gd_nf | apply Gd_some | apply Gd_none | apply Gd_want) | refine U_ar rfl rfl rfl (wrap_k (by simp only [wrapOk]; omega)) rfl ?_ | refine U_cv E rfl rfl rfl (wrap_k (by simp only [wrapOk]; omega)) rfl ?_ | refine U_pure E rfl rfl ?_ | refine T_exit rfl ?_ | refine T_condV rfl ?_ | refine U_guard rfl rfl ?_ | ((with_reducible refine Gd_skipT ?_ ?_); exact rfl) | ((with_reducible refine Gd_skipF ?_ ?_); exact rfl))
        refine U_loadB E hba6 rfl rfl rfl rfl rfl ?_
        repeat (first | (with_reducible first | apply T_seq | apply T_region | apply U_nil | apply T_skip | apply T_block | apply T_inBlock | apply Cnd_t | apply Cnd_f | apply Cnd_not | apply Cnd_some | apply Cnd_none | apply Gd_nt | apply Gd_nf | apply Gd_some | apply Gd_none | apply Gd_want) | refine U_ar rfl rfl rfl (wrap_k (by simp only [wrapOk]; omega)) rfl ?_ | refine U_cv E rfl rfl rfl (wrap_k (by simp only [wrapOk]; omega)) rfl ?_ | refine U_pure E rfl rfl ?_ | refine T_exit rfl ?_ | refine T_condV rfl ?_ | refine U_guard rfl rfl ?_ | ((with_reducible refine Gd_skipT ?_ ?_); exact rfl) | ((with_reducible refine Gd_skipF ?_ ?_); exact rfl))
        refine Gd_p (fun hn0 => ?_) (fun hn0 => ?_)
        · repeat (first | (with_reducible first | apply T_seq | apply T_region | apply U_nil | apply T_skip | apply T_block | apply T_inBlock | apply Cnd_t | apply Cnd_f | apply Cnd_not | apply Cnd_some | apply Cnd_none | apply Gd_nt | apply Gd_nf | apply Gd_some | apply Gd_none | apply Gd_want) | refine U_ar rfl rfl rfl (wrap_k (by simp only [wrapOk]; omega)) rfl ?_ | refine U_cv E rfl rfl rfl (wrap_k (by simp only [wrapOk]; omega)) rfl ?_ | refine U_pure E rfl rfl ?_ | refine T_exit rfl ?_ | refine T_condV rfl ?_ | refine U_guard rfl rfl ?_ | ((with_reducible refine Gd_skipT ?_ ?_); exact rfl) | ((with_reducible refine Gd_skipF ?_ ?_); exact rfl))
          refine U_loadB E hba6 rfl rfl rfl rfl rfl ?_
          repeat (first | (with_reducible first | apply T_seq | apply T_region | apply U_nil | apply T_skip | apply T_block | apply T_inBlock | apply Cnd_t | apply Cnd_f | apply Cnd_not | apply Cnd_some | apply Cnd_none | apply Gd_nt | apply Gd_nf | apply Gd_some | apply Gd_none | apply Gd_want) | refine U_ar rfl rfl rfl (wrap_k (by simp only [wrapOk]; omega)) rfl ?_ | refine U_cv E rfl rfl rfl (wrap_k (by simp only [wrapOk]; omega)) rfl ?_ | refine U_pure E rfl rfl ?_ | refine T_exit rfl ?_ | refine T_condV rfl ?_ | refine U_guard rfl rfl ?_ | ((with_reducible refine Gd_skipT ?_ ?_); exact rfl) | ((with_reducible refine Gd_skipF ?_ ?_); exact rfl))
          refine Cnd_p (fun hn1 => ?_) (fun hn1 => ?_)
          · obtain ⟨N, hN⟩ : ∃ N : Nat, a.n = N := ⟨a.n.toNat, by omega⟩
            rw [if_pos (by omega), hN, Int.toNat_natCast] at hdf
            have c4 : a.cells[0 + 4]? = some (.int .i64 (N : Int)) := by rw [← hN]; rfl
            obtain ⟨fs, pad, q1, q2, q3, q4, q5, q6⟩ := hF6.fs
            have hgA : (fs ++ pad)[A]? = some (fs[A]'(by omega)) := by rw [List.getElem?_append_left (by omega), List.getElem?_eq_getElem (by omega)]
            have hcur := q6 A _ _ (List.getElem?_eq_getElem (by omega)) (List.getElem?_eq_getElem (by omega))
            obtain ⟨uA, huA⟩ : ∃ u, fs[A]'(by omega) = u := ⟨_, rfl⟩
            rw [huA] at hgA hcur
            have hcl : st.l[A]'(by omega) = st.l.getD A [] := by rw [List.getD_eq_getElem?_getD, List.getElem?_eq_getElem (by omega), Option.getD_some]
            rw [hcl] at hcur
            have l1 : (st.l.getD A []).length = 256 := sec_of _ ok.secs A (by omega)
            have l2 := ok.old
            have hold := hO6.resolve_left (by omega)
            have hS6 : Blk w6 ba a.cells 49 ∧ Blk w6 yb [.slice (some ⟨g, 0, none⟩) nn cap, .slice none 0 0, .int .i64 (-1)] 111 ∧ Blk w6 g (fs ++ pad) 23 := ⟨hba6, hF6.blk, q1⟩
            repeat (first | (with_reducible first | apply T_seq | apply T_region | apply U_nil | apply T_skip | apply T_block | apply T_inBlock | apply Cnd_t | apply Cnd_f | apply Cnd_not | apply Cnd_some | apply Cnd_none | apply Gd_nt | apply Gd_nf | apply Gd_some | apply Gd_none | apply Gd_want) | refine U_ar rfl rfl rfl (wrap_k (by simp only [wrapOk]; omega)) rfl ?_ | refine U_cv E rfl rfl rfl (wrap_k (by simp only [wrapOk]; omega)) rfl ?_ | refine U_pure E rfl rfl ?_ | refine T_exit rfl ?_ | refine T_condV rfl ?_ | refine U_guard rfl rfl ?_ | ((with_reducible refine Gd_skipT ?_ ?_); exact rfl) | ((with_reducible refine Gd_skipF ?_ ?_); exact rfl))
            refine L_begin (fun W => Blk W ba a.cells 49 ∧ Blk W yb [.slice (some ⟨g, 0, none⟩) nn cap, .slice none 0 0, .int .i64 (-1)] 111 ∧ Blk W g (fs ++ pad) 23) 22 (by kernel_rfl) (N := 23) rfl (fun w7 hd7 => ?_)
            have k7 : Kept none0 w6 w7 := hd7.kept none0
            have hS7 : Blk w7 ba a.cells 49 ∧ Blk w7 yb [.slice (some ⟨g, 0, none⟩) nn cap, .slice none 0 0, .int .i64 (-1)] 111 ∧ Blk w7 g (fs ++ pad) 23 := ⟨hS6.1.mv k7 (fun x => x), hS6.2.1.mv k7 (fun x => x), hS6.2.2.mv k7 (fun x => x)⟩
            obtain ⟨ra, hra, fa⟩ := bs_part (P := Tryd.prog) (hcur.mv k7 (fun _ _ _ x => x)) 0 N (by omega) (by omega)
            obtain ⟨rb, hrb, fb⟩ := bs_part (P := Tryd.prog) (hold.mv k7 (fun _ _ _ x => x)) N st.old.length (by omega) (Nat.le_refl _)
            rw [List.drop_zero, Nat.sub_zero] at hra
            rw [List.take_of_length_le (by rw [List.length_drop]; exact Nat.le_refl _)] at hrb
            obtain ⟨P1, hP1⟩ : ∃ P, (st.l.getD A []).take N = P := ⟨_, rfl⟩
            obtain ⟨P2, hP2⟩ : ∃ P, st.old.drop N = P := ⟨_, rfl⟩
            have lP1 : P1.length = N := by rw [← hP1, List.length_take]; omega
            have lP2 : P2.length = 256 - N := by rw [← hP2, List.length_drop]; omega
            rw [hP1] at hra hdf
            rw [hP2] at hrb hdf
            obtain ⟨Aa, ca, rfl⟩ := hra.len
            obtain ⟨Ab, cb, rfl⟩ := hrb.len
            refine L_take 0 rfl (by kernel_rfl) (by kernel_rfl) (by kernel_rfl) (by kernel_rfl) hS7 rfl rfl rfl (fun a ha w' _ => run_pv E ha rfl _ _ _ _ _) ?_; refine L_take 1 rfl (by kernel_rfl) (by kernel_rfl) (by kernel_rfl) (by kernel_rfl) hS7 rfl rfl rfl (fun a ha w' _ => run_pv E ha rfl _ _ _ _ _) ?_; refine L_take 2 rfl (by kernel_rfl) (by kernel_rfl) (by kernel_rfl) (by kernel_rfl) hS7 rfl rfl rfl (fun a ha w' _ => run_pv E ha rfl _ _ _ _ _) ?_
            refine L_take 3 rfl (by kernel_rfl) (by kernel_rfl) (by kernel_rfl) (by kernel_rfl) hS7 rfl rfl rfl (fun a ha w' hS => ro_loadB E hS.2.1 rfl rfl rfl rfl a ha) ?_
            refine L_take 4 rfl (by kernel_rfl) (by kernel_rfl) (by kernel_rfl) (by kernel_rfl) hS7 rfl rfl rfl (fun a ha w' _ => run_pv E ha rfl _ _ _ _ _) ?_; refine L_take 5 rfl (by kernel_rfl) (by kernel_rfl) (by kernel_rfl) (by kernel_rfl) hS7 rfl rfl rfl (fun a ha w' _ => run_pv E ha rfl _ _ _ _ _) ?_; refine L_take 6 rfl (by kernel_rfl) (by kernel_rfl) (by kernel_rfl) (by kernel_rfl) hS7 rfl rfl rfl (fun a ha w' _ => run_pv E ha rfl _ _ _ _ _) ?_; refine L_take 7 rfl (by kernel_rfl) (by kernel_rfl) (by kernel_rfl) (by kernel_rfl) hS7 rfl rfl rfl (fun a ha w' _ => run_pv E ha rfl _ _ _ _ _) ?_
            refine L_take 8 rfl (by kernel_rfl) (by kernel_rfl) (by kernel_rfl) (by kernel_rfl) hS7 rfl rfl rfl (fun a ha w' hS => ro_loadB E hS.2.1 rfl rfl rfl rfl a ha) ?_
            refine L_take 9 rfl (by kernel_rfl) (by kernel_rfl) (by kernel_rfl) (by kernel_rfl) hS7 rfl rfl rfl (fun a ha w' _ => run_pv E ha rfl _ _ _ _ _) ?_
            refine L_take 10 rfl (by kernel_rfl) (by kernel_rfl) (by kernel_rfl) (by kernel_rfl) hS7 rfl rfl rfl (fun a ha w' hS => ro_indexS (o' := A) E rfl rfl rfl rfl (by omega) (by omega) (idx1 _) a ha) ?_
            refine L_take 11 rfl (by kernel_rfl) (by kernel_rfl) (by kernel_rfl) (by kernel_rfl) hS7 rfl rfl rfl (fun a ha w' hS => ro_loadB E hS.2.2 rfl rfl rfl hgA a ha) ?_
            refine L_take 12 rfl (by kernel_rfl) (by kernel_rfl) (by kernel_rfl) (by kernel_rfl) hS7 rfl rfl rfl (fun a ha w' _ => run_pv E ha rfl _ _ _ _ _) ?_
            refine L_take 13 rfl (by kernel_rfl) (by kernel_rfl) (by kernel_rfl) (by kernel_rfl) hS7 rfl rfl rfl (fun a ha w' hS => ro_loadB E hS.1 rfl rfl rfl c4 a ha) ?_
            refine L_take 14 rfl (by kernel_rfl) (by kernel_rfl) (by kernel_rfl) (by kernel_rfl) hS7 rfl rfl rfl (fun a ha w' _ => ro_slB E rfl rfl rfl fa (by first | rfl | (simp only [List.length_take, List.length_drop, List.length_append] <;> omega) | (dsimp only; omega) | exact ⟨_, rfl⟩ | exact ⟨_, congrArg (fun z => some (Value.int _ z)) (by omega)⟩) (by first | rfl | (simp only [List.length_take, List.length_drop, List.length_append] <;> omega) | (dsimp only; omega) | exact ⟨_, rfl⟩ | exact ⟨_, congrArg (fun z => some (Value.int _ z)) (by omega)⟩) a ha) ?_
            refine L_take 15 rfl (by kernel_rfl) (by kernel_rfl) (by kernel_rfl) (by kernel_rfl) hS7 rfl rfl rfl (fun a ha w' _ => run_pv E ha rfl _ _ _ _ _) ?_; refine L_take 16 rfl (by kernel_rfl) (by kernel_rfl) (by kernel_rfl) (by kernel_rfl) hS7 rfl rfl rfl (fun a ha w' _ => run_pv E ha rfl _ _ _ _ _) ?_
            refine L_take 17 rfl (by kernel_rfl) (by kernel_rfl) (by kernel_rfl) (by kernel_rfl) hS7 rfl rfl rfl (fun a ha w' hS => ro_loadB E hS.1 rfl rfl rfl c4 a ha) ?_
            refine L_take 18 rfl (by kernel_rfl) (by kernel_rfl) (by kernel_rfl) (by kernel_rfl) hS7 rfl rfl rfl (fun a ha w' _ => ro_slB E rfl rfl rfl fb (by first | rfl | (simp only [List.length_take, List.length_drop, List.length_append] <;> omega) | (dsimp only; omega) | exact ⟨_, rfl⟩ | exact ⟨_, congrArg (fun z => some (Value.int _ z)) (by omega)⟩) (by first | rfl | (simp only [List.length_take, List.length_drop, List.length_append] <;> omega) | (dsimp only; omega) | exact ⟨_, rfl⟩ | exact ⟨_, congrArg (fun z => some (Value.int _ z)) (by omega)⟩) a ha) ?_
            refine L_op 19 (by kernel_rfl) rfl (fun hc => ?_)
            refine U_buildSlice (sz := 1) E rfl rfl rfl rfl rfl rfl rfl rfl (segs := [[.slice Aa P1.length ca], [.slice Ab P2.length cb]]) rfl (by simp) rfl ?_
            intro b8 w8 hn8
            have hS8 : Blk w8 ba a.cells 49 ∧ Blk w8 yb [.slice (some ⟨g, 0, none⟩) nn cap, .slice none 0 0, .int .i64 (-1)] 111 ∧ Blk w8 g (fs ++ pad) 23 := ⟨hS7.1.mv hn8.kept (fun x => x), hS7.2.1.mv hn8.kept (fun x => x), hS7.2.2.mv hn8.kept (fun x => x)⟩
            refine U_nilL hc (fun _ => hS8) ?_
            have hone : Sl w8 (fun x => x = b8) (.slice (some ⟨b8, 0, none⟩) 2 2) 1 [Value.slice Aa P1.length ca, Value.slice Ab P2.length cb].length [Value.slice Aa P1.length ca, Value.slice Ab P2.length cb] := ⟨by simp, rfl, _, 2, rfl, Nat.le_refl _, .inr ⟨b8, 0, rfl, rfl, hn8.blk.lt, hn8.blk.whole⟩⟩
            have hra8 := hra.mv hn8.kept (fun _ _ _ x => x)
            have hrb8 := hrb.mv hn8.kept (fun _ _ _ x => x)
            have hjn := join_c w8 _ _ _ _ [P1, P2] hone rfl (fun i x q hx hq => by
              match i with
              | 0 => injection hx with hx; injection hq with hq; subst hx; subst hq; exact hra8
              | 1 => injection hx with hx; injection hq with hq; subst hx; subst hq; exact hrb8
              | i + 2 => simp at hx) (by simp; omega)
            rw [show ([P1, P2] : List (List UInt8)).flatten = P1 ++ P2 by simp] at hjn
            refine L_op 20 (by kernel_rfl) rfl (fun hc => ?_)
            refine U_call rfl rfl (Tryd.call35 _) (hjn) ?_
            rintro rj w9 ⟨k9, hrj⟩
            have hS9 : Blk w9 ba a.cells 49 ∧ Blk w9 yb [.slice (some ⟨g, 0, none⟩) nn cap, .slice none 0 0, .int .i64 (-1)] 111 ∧ Blk w9 g (fs ++ pad) 23 := ⟨hS8.1.mv k9 (fun x => x), hS8.2.1.mv k9 (fun x => x), hS8.2.2.mv k9 (fun x => x)⟩
            refine U_nilL hc (fun _ => hS9) ?_
            refine L_take 21 rfl (by kernel_rfl) (by kernel_rfl) (by kernel_rfl) (by kernel_rfl) hS9 rfl rfl rfl (fun a ha w' hS => ro_indexS (o' := A) E rfl rfl rfl rfl (by omega) (by omega) (idx1 _) a ha) ?_
            refine L_op 22 (by kernel_rfl) rfl (fun hc => ?_)
            refine U_store E hS9.2.2 rfl rfl rfl (by rw [List.length_append]; omega) (by obtain ⟨A', c', e'⟩ := hrj.val; rw [e']; rfl) ?_
            intro w10 hu10
            refine U_nilL hc (fun e => absurd rfl e) ?_
            refine L_done (by kernel_rfl) ?_
            have k69 : Kept none0 w6 w9 := (k7.tr hn8.kept (fun _ _ x => x)).tr k9 (fun _ _ x => x)
            have s68 := (k7.tr hn8.kept (fun _ _ x => x)).size
            have s26 := k6.size
            have hy6 := hF6.blk.lt
            have hg6 := q1.lt
            have hF10 := (hF6.same k69).set (u := rj) (p := P1 ++ P2) q2 q3 q4 q5 (fun j u p hu hp => (q6 j u p hu hp).mv k69 (fun _ _ _ x => x)) hAn ((hrj.sl (by rw [List.length_append]; omega)).mono (fun b _ e => .inr ⟨by simp only [fresh] at e; omega, by simp only [fresh] at e; omega, by simp only [fresh] at e; omega⟩)) hu10
            repeat (first | (with_reducible first | apply T_seq | apply T_region | apply U_nil | apply T_skip | apply T_block | apply T_inBlock | apply Cnd_t | apply Cnd_f | apply Cnd_not | apply Cnd_some | apply Cnd_none | apply Gd_nt | apply Gd_nf | apply Gd_some | apply Gd_none | apply Gd_want) | refine U_ar rfl rfl rfl (wrap_k (by simp only [wrapOk]; omega)) rfl ?_ | refine U_cv E rfl rfl rfl (wrap_k (by simp only [wrapOk]; omega)) rfl ?_ | refine U_pure E rfl rfl ?_ | refine T_exit rfl ?_ | refine T_condV rfl ?_ | refine U_guard rfl rfl ?_ | ((with_reducible refine Gd_skipT ?_ ?_); exact rfl) | ((with_reducible refine Gd_skipF ?_ ?_); exact rfl))
            rw [hN, hdf]
            exact T_ret2 Tryd.func33 rfl rfl rfl ⟨_, rfl, hend _ _ hF10⟩
          · rw [if_neg (by omega)] at hdf
            repeat (first | (with_reducible first | apply T_seq | apply T_region | apply U_nil | apply T_skip | apply T_block | apply T_inBlock | apply Cnd_t | apply Cnd_f | apply Cnd_not | apply Cnd_some | apply Cnd_none | apply Gd_nt | apply Gd_nf | apply Gd_some | apply Gd_none | apply Gd_want) | refine U_ar rfl rfl rfl (wrap_k (by simp only [wrapOk]; omega)) rfl ?_ | refine U_cv E rfl rfl rfl (wrap_k (by simp only [wrapOk]; omega)) rfl ?_ | refine U_pure E rfl rfl ?_ | refine T_exit rfl ?_ | refine T_condV rfl ?_ | refine U_guard rfl rfl ?_ | ((with_reducible refine Gd_skipT ?_ ?_); exact rfl) | ((with_reducible refine Gd_skipF ?_ ?_); exact rfl))
            rw [hdf]
            exact T_ret2 Tryd.func33 rfl rfl rfl ⟨_, rfl, hend _ _ hF6⟩
        · rw [if_neg (by omega)] at hdf
          repeat (first | (with_reducible first | apply T_seq | apply T_region | apply U_nil | apply T_skip | apply T_block | apply T_inBlock | apply Cnd_t | apply Cnd_f | apply Cnd_not | apply Cnd_some | apply Cnd_none | apply Gd_nt | apply Gd_nf | apply Gd_some | apply Gd_none | apply Gd_want) | refine U_ar rfl rfl rfl (wrap_k (by simp only [wrapOk]; omega)) rfl ?_ | refine U_cv E rfl rfl rfl (wrap_k (by simp only [wrapOk]; omega)) rfl ?_ | refine U_pure E rfl rfl ?_ | refine T_exit rfl ?_ | refine T_condV rfl ?_ | refine U_guard rfl rfl ?_ | ((with_reducible refine Gd_skipT ?_ ?_); exact rfl) | ((with_reducible refine Gd_skipF ?_ ?_); exact rfl))
          rw [hdf]
          exact T_ret2 Tryd.func33 rfl rfl rfl ⟨_, rfl, hend _ _ hF6⟩
      · rw [if_neg (by omega)] at hdf
        repeat (first | (with_reducible first | apply T_seq | apply T_region | apply U_nil | apply T_skip | apply T_block | apply T_inBlock | apply Cnd_t | apply Cnd_f | apply Cnd_not | apply Cnd_some | apply Cnd_none | apply Gd_nt | apply Gd_nf | apply Gd_some | apply Gd_none | apply Gd_want) | refine U_ar rfl rfl rfl (wrap_k (by simp only [wrapOk]; omega)) rfl ?_ | refine U_cv E rfl rfl rfl (wrap_k (by simp only [wrapOk]; omega)) rfl ?_ | refine U_pure E rfl rfl ?_ | refine T_exit rfl ?_ | refine T_condV rfl ?_ | refine U_guard rfl rfl ?_ | ((with_reducible refine Gd_skipT ?_ ?_); exact rfl) | ((with_reducible refine Gd_skipF ?_ ?_); exact rfl))
        rw [hdf]
        exact T_ret2 Tryd.func33 rfl rfl rfl ⟨_, rfl, hend _ _ hF6⟩
end Go.Proofs.YtoefhdaenaiomaaDoor

/- DrumPlays: what an act does to a drum, in plain terms; the relation stays. -/
namespace Go.Proofs.YtoefhdaenaiomaaDoor
open Go
set_option maxRecDepth 20000

/-- What the law's act does. -/
def Step (D : Dr) (a : XAct) (e : Nat) (D' : Dr) : Prop :=
  if a.d % 7 = 3 then e = flErr D ∧ D' = flDr D
  else if a.d % 7 = 4 then e = 0 ∧ D' = drFall D a.keep a.n
  else if a.d % 7 = 5 then
    (if (0 ≤ a.at_ ∧ a.at_ < D.l.length) ∧ 0 ≤ a.n ∧ a.n < 2048 then e = 0 ∧ ∃ s', s'.length = 256 ∧ (∀ j, j < 2048 → bitAt s' j = (bitAt (D.l.getD a.at_.toNat []) j ^^ (decide (a.n.toNat ≤ j) && a.mask.testBit (j - a.n.toNat)))) ∧ D' = { D with l := D.l.set a.at_.toNat s' }
     else e = 7 ∧ D' = D)
  else if a.d % 7 = 6 then e = 0 ∧ D' = { D with left := max a.n (-1) }
  else e = wrErr D a.at_ a.p ∧ D' = wrDr D a.at_ a.p

theorem nowS_same (l l' : List (List UInt8)) (ws : List (Nat × List UInt8)) (i : Nat) (h : l.getD i [] = l'.getD i []) : nowS l ws i = nowS l' ws i := by rw [nowS, nowS, h]
theorem applyW_now : ∀ (n : Nat) (ws : List (Nat × List UInt8)) (l : List (List UInt8)) (i : Nat), ws.length = n → (∀ p ∈ ws, p.1 < l.length) → (applyW l ws).getD i [] = nowS l ws i
  | 0, ws, l, i, hn, _ => by rw [List.eq_nil_of_length_eq_zero hn]; rfl
  | n + 1, ws, l, i, hn, h => by
    have e : ws = ws.take n ++ [ws[n]] := by rw [← take_snoc ws n (by omega), List.take_of_length_le (by omega)]
    have hp := h _ (List.getElem_mem (show n < ws.length by omega))
    generalize ws[n] = q at e hp
    have ih := applyW_now n (ws.take n) l i (by rw [List.length_take]; omega) (fun p hp => h p (List.mem_of_mem_take hp))
    rw [e, applyW_snoc, nowS_snoc, ← ih, List.getD_eq_getElem?_getD, List.getD_eq_getElem?_getD, List.getElem?_set]
    by_cases hi : q.1 = i
    · rw [if_pos hi, if_pos hi, if_pos (by rw [applyW_len]; omega)]
      rfl
    · rw [if_neg hi, if_neg hi]
theorem wts_now : ∀ (n : Nat) (ws : List (Nat × List UInt8)), ws.length = n → wts (ws.map (fun p => ((p.1 : Int), p.2))) = ws.map (fun p => ((p.1 : Int), p.2))
  | 0, ws, hn => by rw [List.eq_nil_of_length_eq_zero hn]; rfl
  | n + 1, ws, hn => by
    have e : ws = ws.take n ++ [ws[n]] := by rw [← take_snoc ws n (by omega), List.take_of_length_le (by omega)]
    generalize ws[n] = q at e
    have ih := wts_now n (ws.take n) (by rw [List.length_take]; omega)
    rw [e, List.map_append, List.map_cons, List.map_nil, wts_snoc, ih, if_neg (by dsimp only; omega)]

theorem Rel.flush {D : Dr} {X : XS} (h : Rel D X) (hD : D.Ok) (hl : -1 ≤ X.left) (h0 : ¬ D.left = 0) : Rel ⟨applyW D.l D.wait, [], dec D.left⟩ ⟨X.first, X.deeds ++ [(-1, [])], X.offX.left⟩ := by
  have hw : wts (X.deeds ++ [((-1 : Int), ([] : List UInt8))]) = [] := by rw [wts_snoc, if_pos (by decide)]
  refine ⟨?_, by dsimp only; rw [applyW_len]; exact h.len, hw, fun i hi => ?_⟩
  · have := h.left
    dsimp only
    rw [XS.offX, dec]
    split <;> split <;> (try dsimp only) <;> omega
  · dsimp only at hi ⊢
    rw [applyW_len] at hi
    rw [applyW_now _ _ _ _ rfl (fun p hp => (hD.waits p hp).1), ← h.read hi, XS.safe]
    dsimp only
    rw [hw, List.length_nil, Nat.sub_zero, List.take_length, lastW_snoc, if_neg (by dsimp only; omega)]
    rfl
theorem Rel.fall (l : List (List UInt8)) : Rel ⟨l, [], -1⟩ ⟨l, [], -1⟩ := ⟨rfl, rfl, rfl, fun i _ => rfl⟩
theorem Rel.arm {D : Dr} {X : XS} (h : Rel D X) (n : Int) : Rel { D with left := n } { X with left := n } := ⟨rfl, h.len, h.wait, h.safe⟩
theorem Rel.turn {D : Dr} {X : XS} (h : Rel D X) (A : Nat) (s : List UInt8) : Rel { D with l := D.l.set A s } ⟨X.safes.set A s, wts X.deeds, X.left⟩ := by
  have hw : wts (wts X.deeds) = wts X.deeds := by rw [h.wait, wts_now _ _ rfl]
  refine ⟨h.left, by rw [h.safes], by dsimp only; rw [hw]; exact h.wait, fun i _ => ?_⟩
  rw [XS.safe]
  dsimp only
  rw [hw, Nat.sub_self, List.take_zero, h.safes]
  rfl
theorem Rel.write {D : Dr} {X : XS} (h : Rel D X) (hl : -1 ≤ X.left) (h0 : ¬ D.left = 0) (at_ : Int) (ha : 0 ≤ at_) (s : List UInt8) : Rel { D with wait := D.wait ++ [(at_.toNat, s)], left := dec D.left } ⟨X.first, X.deeds ++ [(at_, s)], X.offX.left⟩ := by
  have hw : wts (X.deeds ++ [(at_, s)]) = wts X.deeds ++ [(at_, s)] := by rw [wts_snoc, if_neg (by dsimp only; omega)]
  refine ⟨?_, h.len, ?_, fun i hi => ?_⟩
  · have := h.left
    dsimp only
    rw [XS.offX, dec]
    split <;> split <;> (try dsimp only) <;> omega
  · dsimp only
    rw [hw, h.wait, List.map_append]
    simp only [List.map_cons, List.map_nil]
    rw [Int.toNat_of_nonneg ha]
  · have := h.safe i hi
    rw [← this, XS.safe, XS.safe]
    dsimp only
    rw [hw, List.length_append, List.length_append, List.length_cons, List.length_nil, List.take_append_of_le_length (by omega)]
    congr 2
    omega
end Go.Proofs.YtoefhdaenaiomaaDoor

/- DrumPlays: an act, on both sides. -/
namespace Go.Proofs.YtoefhdaenaiomaaDoor
open Go
set_option maxRecDepth 20000

theorem xplay_c {w : World} {G : Nat → Prop} {xb : Nat} {vf vd : Value} {X : XS} {D D' : Dr} {e : Nat} (h : XM w G xb vf vd X) (hR : Rel D X) (hD : D.Ok) (a : XAct) (hn : a.n ≤ 9223372036854775807) (hm : a.mask < 4294967296) (hp : BS w (fun b => ¬ G b) a.vp a.p) (hpl : a.p.length ≤ 1000)
    (hk : Sl w (fun b => ¬ G b) a.vk 1 a.keep.length (encBools a.keep)) (hdn : X.deeds.length < 100000) (hS : Step D a e D') :
    Calls Tryd.prog 33 [ptr xb, .agg a.cells.toArray].toArray w (Ret fun r w' => ∃ X', Rel D' X' ∧ X'.deeds.length ≤ X.deeds.length + 1 ∧ XR w G xb e X' r w') := by
  have hll := hR.left
  have hl1 := h.left
  have hwl := hR.waits
  have hw2 := wts_len X.deeds
  unfold Step at hS
  by_cases h3 : a.d % 7 = 3
  · rw [if_pos h3] at hS
    obtain ⟨rfl, rfl⟩ := hS
    refine (xflush_c h a h3 hdn).mono ?_
    rintro e w' ⟨r, rfl, hx⟩
    by_cases h0 : D.left = 0
    · rw [if_pos (by omega), if_pos (by omega)] at hx
      rw [flErr, flDr, if_pos h0, if_pos h0]
      exact ⟨_, rfl, X, hR, by omega, hx⟩
    · rw [if_neg (by omega), if_neg (by omega)] at hx
      rw [flErr, flDr, if_neg h0, if_neg h0]
      exact ⟨_, rfl, _, hR.flush hD hl1.1 h0, by dsimp only; rw [List.length_append]; exact Nat.le_refl _, hx⟩
  rw [if_neg h3] at hS
  by_cases h4 : a.d % 7 = 4
  · rw [if_pos h4] at hS
    obtain ⟨rfl, rfl⟩ := hS
    refine (xfall_c h hR hD a h4 hk (by omega)).mono ?_
    rintro e w' ⟨r, rfl, hx⟩
    exact ⟨_, rfl, _, Rel.fall _, by dsimp only; simp, hx⟩
  rw [if_neg h4] at hS
  by_cases h5 : a.d % 7 = 5
  · rw [if_pos h5] at hS
    by_cases hok : (0 ≤ a.at_ ∧ a.at_ < D.l.length) ∧ 0 ≤ a.n ∧ a.n < 2048
    · rw [if_pos hok] at hS
      obtain ⟨rfl, s', hs1, hs2, rfl⟩ := hS
      obtain ⟨A, hA⟩ := Int.eq_ofNat_of_zero_le hok.1.1
      obtain ⟨N, hN⟩ := Int.eq_ofNat_of_zero_le hok.2.1
      have hrl := hR.len
      have hAl : A < D.l.length := by omega
      have h256 : ∀ i, i < X.first.length → (X.safe i).length = 256 := fun i hi => by rw [hR.safe i (by omega)]; exact sec_of _ hD.secs i (by omega)
      refine (xturn_c h a h5 A N hA (by omega) hN (by omega) hm h256).mono ?_
      rintro e w' ⟨r, rfl, s, ht, hx⟩
      have hse : s = s' := by
        have l1 := h256 A (by omega)
        have l2 := ht.1
        refine bits_ext (n := 256) (by omega) hs1 (fun j hj => ?_)
        rw [ht.2 j (by omega), hs2 j (by omega), hR.safe A hAl, hA, hN, Int.toNat_natCast, Int.toNat_natCast]
        congr 1
        by_cases hlt : j < N + 32
        · rw [decide_eq_decide.2 (show (N ≤ j ∧ j < N + 32) ↔ N ≤ j by omega)]
        · rw [decide_eq_false (by omega), Nat.testBit_lt_two_pow (Nat.lt_of_lt_of_le hm (by
            rw [show 4294967296 = 2 ^ 32 from rfl]
            exact Nat.pow_le_pow_right (by decide) (by omega)))]
          simp
      rw [hse] at hx
      rw [hA, Int.toNat_natCast]
      exact ⟨_, rfl, _, hR.turn A s', by dsimp only; omega, hx⟩
    · rw [if_neg hok] at hS
      obtain ⟨rfl, rfl⟩ := hS
      refine (xturn_no h a h5 (fun hq => hok ?_)).mono ?_
      · rw [thr_iff, hR.len] at hq
        exact hq
      · rintro e w' ⟨r, rfl, hx⟩
        exact ⟨_, rfl, X, hR, by omega, hx⟩
  rw [if_neg h5] at hS
  by_cases h6 : a.d % 7 = 6
  · rw [if_pos h6] at hS
    obtain ⟨rfl, rfl⟩ := hS
    refine (xarm_c h a h6 hn).mono ?_
    rintro e w' ⟨r, rfl, hx⟩
    exact ⟨_, rfl, _, hR.arm _, by dsimp only; omega, hx⟩
  rw [if_neg h6] at hS
  obtain ⟨rfl, rfl⟩ := hS
  have he : xwErr a X = wrErr D a.at_ a.p := by
    rw [xwErr, wrErr, ← hR.left, ← hR.len]
    by_cases ht : 0 ≤ a.at_ ∧ a.at_ < X.first.length
    · rw [if_pos (thr_iff.2 ht), if_pos ht]
    · rw [if_neg (fun q => ht (thr_iff.1 q)), if_neg ht]
  refine (xwrite_c h a h3 h4 h5 h6 hdn hp hpl).mono ?_
  rintro e w' ⟨r, rfl, hx⟩
  rw [he] at hx
  by_cases h0 : wrErr D a.at_ a.p = 0
  · rw [if_pos h0] at hx
    rw [wrDr, if_pos h0]
    have hat : 0 ≤ a.at_ := Classical.byContradiction fun q => by rw [wrErr, if_neg (by omega)] at h0; cases h0
    have hl0 : ¬ D.left = 0 := fun q => by
      unfold wrErr at h0
      rw [if_pos q] at h0
      by_cases u1 : 0 ≤ a.at_ ∧ a.at_ < D.l.length
      · rw [if_pos u1] at h0
        by_cases u2 : 256 < a.p.length
        · rw [if_pos u2] at h0; cases h0
        · rw [if_neg u2] at h0; cases h0
      · rw [if_neg u1] at h0; cases h0
    exact ⟨_, rfl, _, hR.write hl1.1 hl0 a.at_ hat (sec a.p), by dsimp only; rw [List.length_append]; exact Nat.le_refl _, hx⟩
  · rw [if_neg h0] at hx
    rw [wrDr, if_neg h0]
    exact ⟨_, rfl, X, hR, by omega, hx⟩
end Go.Proofs.YtoefhdaenaiomaaDoor
