/- Arm, Copy. -/
import Derived.Test.YtoefhdaenaiomaaDoorWrC
namespace Go.Proofs.YtoefhdaenaiomaaDoor
open Go
set_option maxRecDepth 20000

section
variable {P : Program} {w : World} {m : Fm} {n : Nat} {ty : TypeId} {ps : String} {af : Array Edge}
theorem ro_max {ats : Array TypeId} {u v : Operand} {kx ky : IntKind} {p q r : Int} (hx : ev m u = some (.int kx p)) (hy : ev m v = some (.int ky q)) (hr : (if q > p then q else p) = r) {dst : Option Tmp} {gd : Option (Nat × Bool)} :
    ∀ a, Fits a n m → (execOp a.eval { dst := dst, op := .call { callee := .builtin .max, args := #[u, v], argTypes := ats }, type := ty, pos := ps, after := af, guard := gd }).run P w = .ok (.value (.int kx r)) w := by
  intro a ha
  simp only [execOp, resolve, invoke, builtin, Sem.run_bind, Sem.run_pure, Result.andThen_ok, List.map_toArray, List.map_cons, List.map_nil, ha.eval hx, ha.eval hy, run_max_int2, hr]
end

theorem arm_c (w : World) (F : Nat → Prop) (hb : Nat) (D : Dr) (n : Int) (h : IsD w F hb D) (hn : n ≤ 9223372036854775807) :
    Calls Tryd.prog 25 [ptr hb, .int .i64 n].toArray w (Ret fun r w' => r = .tuple #[] ∧ Kept (fun b => b = hb) w w' ∧ w'.heap.size = w.heap.size ∧ IsD w' F hb { D with left := max n (-1) }) := by
  obtain ⟨h0, vl, vw, h1, h2, h3, h4⟩ := h
  refine calls_T Tryd.func25 rfl rfl rfl ?_
  unfold ptr
  repeat (first | with_reducible refine T_seq ?_ | with_reducible refine T_region ?_ | with_reducible refine U_nil ?_ | refine U_ar rfl rfl rfl (wrap_i64 (by omega)) rfl ?_ | refine U_pure E rfl rfl ?_ | with_reducible refine T_skip ?_ | with_reducible refine T_block ?_ | with_reducible refine T_inBlock ?_ | refine T_exit rfl ?_ | refine T_condV rfl ?_ | with_reducible refine Cnd_t ?_ | with_reducible refine Cnd_f ?_ | with_reducible refine Cnd_not ?_ | with_reducible refine Cnd_some ?_ | with_reducible refine Cnd_none ?_ | refine U_guard rfl rfl ?_ | with_reducible refine Gd_nt ?_ | with_reducible refine Gd_nf ?_ | with_reducible refine Gd_some ?_ | with_reducible refine Gd_none ?_ | with_reducible refine Gd_want ?_ | ((with_reducible refine Gd_skipT ?_ ?_); exact rfl) | ((with_reducible refine Gd_skipF ?_ ?_); exact rfl))
  refine U_run rfl rfl rfl (ro_max (r := max n (-1)) rfl rfl (by split <;> omega)) ?_
  repeat (first | with_reducible refine T_seq ?_ | with_reducible refine T_region ?_ | with_reducible refine U_nil ?_ | refine U_ar rfl rfl rfl (wrap_i64 (by omega)) rfl ?_ | refine U_pure E rfl rfl ?_ | with_reducible refine T_skip ?_ | with_reducible refine T_block ?_ | with_reducible refine T_inBlock ?_ | refine T_exit rfl ?_ | refine T_condV rfl ?_ | with_reducible refine Cnd_t ?_ | with_reducible refine Cnd_f ?_ | with_reducible refine Cnd_not ?_ | with_reducible refine Cnd_some ?_ | with_reducible refine Cnd_none ?_ | refine U_guard rfl rfl ?_ | with_reducible refine Gd_nt ?_ | with_reducible refine Gd_nf ?_ | with_reducible refine Gd_some ?_ | with_reducible refine Gd_none ?_ | with_reducible refine Gd_want ?_ | ((with_reducible refine Gd_skipT ?_ ?_); exact rfl) | ((with_reducible refine Gd_skipF ?_ ?_); exact rfl))
  refine U_store E (h2) rfl rfl rfl (by simp) rfl ?_
  intro w1 hu
  repeat (first | with_reducible refine T_seq ?_ | with_reducible refine T_region ?_ | with_reducible refine U_nil ?_ | refine U_ar rfl rfl rfl (wrap_i64 (by omega)) rfl ?_ | refine U_pure E rfl rfl ?_ | with_reducible refine T_skip ?_ | with_reducible refine T_block ?_ | with_reducible refine T_inBlock ?_ | refine T_exit rfl ?_ | refine T_condV rfl ?_ | with_reducible refine Cnd_t ?_ | with_reducible refine Cnd_f ?_ | with_reducible refine Cnd_not ?_ | with_reducible refine Cnd_some ?_ | with_reducible refine Cnd_none ?_ | refine U_guard rfl rfl ?_ | with_reducible refine Gd_nt ?_ | with_reducible refine Gd_nf ?_ | with_reducible refine Gd_some ?_ | with_reducible refine Gd_none ?_ | with_reducible refine Gd_want ?_ | ((with_reducible refine Gd_skipT ?_ ?_); exact rfl) | ((with_reducible refine Gd_skipF ?_ ?_); exact rfl))
  refine T_end0 Tryd.func25 rfl ⟨_, rfl, rfl, hu.kept, hu.size, ⟨h0.n1, h0.n2, h0.secs, h0.waits, h0.wn, ?_, ?_⟩, vl, vw, h1, ?_, h3.mv hu.kept (fun b _ h => h.2), h4.mv hu.kept (fun b _ h => h.2.1)⟩
  · dsimp only; omega
  · dsimp only; omega
  · simpa using hu.blk

theorem clonew_c (w : World) (F : Nat → Prop) (v : Value) (n : Nat) (cs : List Value) (h : Row w F v 257 n cs 103) (hm : n ≤ 1000000) (h1 : ∀ u ∈ cs, u.oneCell' = true) :
    Calls Tryd.prog 73 [v].toArray w (Ret fun r w' => Kept none0 w w' ∧ Row w' (fresh w) r 257 n cs 103) := by
  have hsl := h.sl (by omega)
  have hr := h
  obtain ⟨hl, h⟩ := h
  rcases h with ⟨rfl, rfl⟩ | ⟨g, cap, pad, rfl, hF, hb, hl2, hc⟩
  · refine calls_T Tryd.func73 rfl rfl rfl ?_
    repeat (first | with_reducible refine T_seq ?_ | with_reducible refine T_region ?_ | with_reducible refine U_nil ?_ | refine U_ar rfl rfl rfl (wrap_i64 (by omega)) rfl ?_ | refine U_pure E rfl rfl ?_ | with_reducible refine T_skip ?_ | with_reducible refine T_block ?_ | with_reducible refine T_inBlock ?_ | refine T_exit rfl ?_ | refine T_condV rfl ?_ | with_reducible refine Cnd_t ?_ | with_reducible refine Cnd_f ?_ | with_reducible refine Cnd_not ?_ | with_reducible refine Cnd_some ?_ | with_reducible refine Cnd_none ?_ | refine U_guard rfl rfl ?_ | with_reducible refine Gd_nt ?_ | with_reducible refine Gd_nf ?_ | with_reducible refine Gd_some ?_ | with_reducible refine Gd_none ?_ | with_reducible refine Gd_want ?_ | ((with_reducible refine Gd_skipT ?_ ?_); exact rfl) | ((with_reducible refine Gd_skipF ?_ ?_); exact rfl))
    have hcs : cs = [] := List.eq_nil_of_length_eq_zero (by simpa using hl)
    subst hcs
    exact T_ret1 Tryd.func73 rfl rfl ⟨_, rfl, Kept.refl _ _, Row.nil _ _ _ _⟩
  · refine calls_T Tryd.func73 rfl rfl rfl ?_
    repeat (first | with_reducible refine T_seq ?_ | with_reducible refine T_region ?_ | with_reducible refine U_nil ?_ | refine U_ar rfl rfl rfl (wrap_i64 (by omega)) rfl ?_ | refine U_pure E rfl rfl ?_ | with_reducible refine T_skip ?_ | with_reducible refine T_block ?_ | with_reducible refine T_inBlock ?_ | refine T_exit rfl ?_ | refine T_condV rfl ?_ | with_reducible refine Cnd_t ?_ | with_reducible refine Cnd_f ?_ | with_reducible refine Cnd_not ?_ | with_reducible refine Cnd_some ?_ | with_reducible refine Cnd_none ?_ | refine U_guard rfl rfl ?_ | with_reducible refine Gd_nt ?_ | with_reducible refine Gd_nf ?_ | with_reducible refine Gd_some ?_ | with_reducible refine Gd_none ?_ | with_reducible refine Gd_want ?_ | ((with_reducible refine Gd_skipT ?_ ?_); exact rfl) | ((with_reducible refine Gd_skipF ?_ ?_); exact rfl))
    refine U_buildSlice0 E rfl rfl rfl ?_
    intro b w1 hn1
    have hs := hsl.mv hn1.kept (fun _ _ _ x => x)
    have hr0 : Row w1 (fresh w) (.slice (some ⟨b, 0, none⟩) 0 0) 257 0 [] 103 :=
      ⟨by simp, .inr ⟨b, 0, [], rfl, by have := hn1.at_; simp only [fresh]; omega, hn1.blk, rfl, Nat.le_refl _⟩⟩
    repeat (first | with_reducible refine T_seq ?_ | with_reducible refine T_region ?_ | with_reducible refine U_nil ?_ | refine U_ar rfl rfl rfl (wrap_i64 (by omega)) rfl ?_ | refine U_pure E rfl rfl ?_ | with_reducible refine T_skip ?_ | with_reducible refine T_block ?_ | with_reducible refine T_inBlock ?_ | refine T_exit rfl ?_ | refine T_condV rfl ?_ | with_reducible refine Cnd_t ?_ | with_reducible refine Cnd_f ?_ | with_reducible refine Cnd_not ?_ | with_reducible refine Cnd_some ?_ | with_reducible refine Cnd_none ?_ | refine U_guard rfl rfl ?_ | with_reducible refine Gd_nt ?_ | with_reducible refine Gd_nf ?_ | with_reducible refine Gd_some ?_ | with_reducible refine Gd_none ?_ | with_reducible refine Gd_want ?_ | ((with_reducible refine Gd_skipT ?_ ?_); exact rfl) | ((with_reducible refine Gd_skipF ?_ ?_); exact rfl))
    refine U_append E hr0 hs h1 rfl rfl rfl rfl rfl (by omega) (by omega) rfl ?_
    intro v' w2 hr2 hk hz hob
    repeat (first | with_reducible refine T_seq ?_ | with_reducible refine T_region ?_ | with_reducible refine U_nil ?_ | refine U_ar rfl rfl rfl (wrap_i64 (by omega)) rfl ?_ | refine U_pure E rfl rfl ?_ | with_reducible refine T_skip ?_ | with_reducible refine T_block ?_ | with_reducible refine T_inBlock ?_ | refine T_exit rfl ?_ | refine T_condV rfl ?_ | with_reducible refine Cnd_t ?_ | with_reducible refine Cnd_f ?_ | with_reducible refine Cnd_not ?_ | with_reducible refine Cnd_some ?_ | with_reducible refine Cnd_none ?_ | refine U_guard rfl rfl ?_ | with_reducible refine Gd_nt ?_ | with_reducible refine Gd_nf ?_ | with_reducible refine Gd_some ?_ | with_reducible refine Gd_none ?_ | with_reducible refine Gd_want ?_ | ((with_reducible refine Gd_skipT ?_ ?_); exact rfl) | ((with_reducible refine Gd_skipF ?_ ?_); exact rfl))
    refine T_ret1 Tryd.func73 rfl rfl ⟨_, rfl, hn1.kept.tr hk (fun j hj e => ?_), ?_⟩
    · have := hr0.own j e
      have := this.1
      simp only [fresh] at this
      omega
    · have := hr2.mono (G := fresh w) (fun j _ e => e.elim (fun x => x) (fun x => Nat.le_trans hn1.kept.size x))
      simpa using this

theorem copy_c (w : World) (F : Nat → Prop) (hb : Nat) (D : Dr) (h : IsD w F hb D) :
    Calls Tryd.prog 30 [ptr hb].toArray w (Ret fun r w' => Kept none0 w w' ∧ ∃ hb', r = ptr hb' ∧ IsD w' (fresh w) hb' { D with left := -1 }) := by
  obtain ⟨h0, vl, vw, h1, h2, h3, h4⟩ := h
  have hn1 := h0.n1
  have hn2 := h0.n2
  have hwn := h0.wn
  have hone : ∀ u ∈ (D.l.map encBs).flatten, u.oneCell' = true := by
    intro u hu
    obtain ⟨s, hs, hu⟩ := List.mem_flatten.1 hu
    obtain ⟨x, _, rfl⟩ := List.mem_map.1 hs
    exact encBs_one x u hu
  have honew : ∀ u ∈ (D.wait.map encW).flatten, u.oneCell' = true := by
    intro u hu
    obtain ⟨s, hs, hu⟩ := List.mem_flatten.1 hu
    obtain ⟨x, _, rfl⟩ := List.mem_map.1 hs
    exact encW_one x u hu
  refine calls_T Tryd.func30 rfl rfl rfl ?_
  unfold ptr at *
  repeat (first | with_reducible refine T_seq ?_ | with_reducible refine T_region ?_ | with_reducible refine U_nil ?_ | refine U_ar rfl rfl rfl (wrap_i64 (by omega)) rfl ?_ | refine U_pure E rfl rfl ?_ | with_reducible refine T_skip ?_ | with_reducible refine T_block ?_ | with_reducible refine T_inBlock ?_ | refine T_exit rfl ?_ | refine T_condV rfl ?_ | with_reducible refine Cnd_t ?_ | with_reducible refine Cnd_f ?_ | with_reducible refine Cnd_not ?_ | with_reducible refine Cnd_some ?_ | with_reducible refine Cnd_none ?_ | refine U_guard rfl rfl ?_ | with_reducible refine Gd_nt ?_ | with_reducible refine Gd_nf ?_ | with_reducible refine Gd_some ?_ | with_reducible refine Gd_none ?_ | with_reducible refine Gd_want ?_ | ((with_reducible refine Gd_skipT ?_ ?_); exact rfl) | ((with_reducible refine Gd_skipF ?_ ?_); exact rfl))
  refine L_begin (fun w' => Blk w' hb [vl, vw, .int .i64 D.left] 99) 13 (by kernel_rfl) (N := 13) rfl (fun w1 hd1 => ?_)
  have hk1 := hd1.kept none0
  have h21 := h2.mv hk1 (fun x => x)
  refine L_take 0 rfl (by kernel_rfl) (by kernel_rfl) (by kernel_rfl) (by kernel_rfl) h21 rfl rfl rfl (fun a ha w' _ => run_pv E ha rfl _ _ _ _ _) ?_
  refine L_take 1 rfl (by kernel_rfl) (by kernel_rfl) (by kernel_rfl) (by kernel_rfl) h21 rfl rfl rfl (fun a ha w' _ => run_pv E ha rfl _ _ _ _ _) ?_
  refine L_take 2 rfl (by kernel_rfl) (by kernel_rfl) (by kernel_rfl) (by kernel_rfl) h21 rfl rfl rfl (fun a ha w' _ => run_pv E ha rfl _ _ _ _ _) ?_
  refine L_take 3 rfl (by kernel_rfl) (by kernel_rfl) (by kernel_rfl) (by kernel_rfl) h21 rfl rfl rfl (fun a ha w' hw => ro_loadB (o := 0) E hw rfl rfl rfl rfl a ha) ?_
  refine L_take 5 rfl (by kernel_rfl) (by kernel_rfl) (by kernel_rfl) (by kernel_rfl) h21 rfl rfl rfl (fun a ha w' _ => run_pv E ha rfl _ _ _ _ _) ?_
  refine L_take 6 rfl (by kernel_rfl) (by kernel_rfl) (by kernel_rfl) (by kernel_rfl) h21 rfl rfl rfl (fun a ha w' _ => run_pv E ha rfl _ _ _ _ _) ?_
  refine L_take 7 rfl (by kernel_rfl) (by kernel_rfl) (by kernel_rfl) (by kernel_rfl) h21 rfl rfl rfl (fun a ha w' _ => run_pv E ha rfl _ _ _ _ _) ?_
  refine L_take 8 rfl (by kernel_rfl) (by kernel_rfl) (by kernel_rfl) (by kernel_rfl) h21 rfl rfl rfl (fun a ha w' hw => ro_loadB (o := 1) E hw rfl rfl rfl rfl a ha) ?_
  refine L_op 4 (by kernel_rfl) rfl (fun hc4 => ?_)
  refine U_call rfl rfl (Tryd.call72 _) (clone_c w1 _ _ _ _ (h3.mv hk1 (fun _ _ _ x => x)) hn1 hn2 hone) ?_
  rintro r1 w2 ⟨hk2, hr1⟩
  have hr1 := hr1.mono (G := fun j => w1.heap.size ≤ j ∧ j < w2.heap.size) (fun b hb h => ⟨h, hb⟩)
  have hk12 : Kept none0 w w2 := hk1.tr hk2 (fun _ _ x => x)
  have h22 := h21.mv hk2 (fun x => x)
  refine U_nilL hc4 (fun _ => h22) ?_
  refine L_op 9 (by kernel_rfl) rfl (fun hc9 => ?_)
  refine U_call rfl rfl (Tryd.call73 _) (clonew_c w2 _ _ _ _ (h4.mv hk12 (fun _ _ _ x => x)) hwn honew) ?_
  rintro r2 w3 ⟨hk3, hr2⟩
  have hr2 := hr2.mono (G := fun j => w2.heap.size ≤ j ∧ j < w3.heap.size) (fun b hb h => ⟨h, hb⟩)
  have hk13 : Kept none0 w w3 := hk12.tr hk3 (fun _ _ x => x)
  have h23 := h22.mv hk3 (fun x => x)
  refine U_nilL hc9 (fun _ => h23) ?_
  have hr1' := hr1.mv hk3 (fun _ _ _ x => x)
  obtain ⟨A1, c1, rfl⟩ := hr1.val
  obtain ⟨A2, c2, rfl⟩ := hr2.val
  refine L_op 10 (by kernel_rfl) rfl (fun hc10 => ?_)
  refine U_build (cells := [.slice A1 D.l.length c1, .slice A2 D.wait.length c2, .int .i64 (-1)]) rfl (by kernel_rfl) rfl ?_
  refine U_nilL hc10 (fun _ => h23) ?_
  refine L_op 11 (by kernel_rfl) rfl (fun hc11 => ?_)
  refine U_box E rfl rfl rfl ?_
  intro ho w4 hn4
  have h24 := h23.mv hn4.kept (fun x => x)
  have e4 := hn4.at_
  have s12 := hk12.size
  have s13 := hk13.size
  have s3 := hk3.size
  have s1 := hk1.size
  refine U_nilL hc11 (fun _ => h24) ?_
  refine L_take 12 rfl (by kernel_rfl) (by kernel_rfl) (by kernel_rfl) (by kernel_rfl) h24 rfl rfl rfl (fun a ha w' _ => run_pv E ha rfl _ _ _ _ _) ?_
  refine L_done (by kernel_rfl) ?_
  repeat (first | with_reducible refine T_seq ?_ | with_reducible refine T_region ?_ | with_reducible refine U_nil ?_ | refine U_ar rfl rfl rfl (wrap_i64 (by omega)) rfl ?_ | refine U_pure E rfl rfl ?_ | with_reducible refine T_skip ?_ | with_reducible refine T_block ?_ | with_reducible refine T_inBlock ?_ | refine T_exit rfl ?_ | refine T_condV rfl ?_ | with_reducible refine Cnd_t ?_ | with_reducible refine Cnd_f ?_ | with_reducible refine Cnd_not ?_ | with_reducible refine Cnd_some ?_ | with_reducible refine Cnd_none ?_ | refine U_guard rfl rfl ?_ | with_reducible refine Gd_nt ?_ | with_reducible refine Gd_nf ?_ | with_reducible refine Gd_some ?_ | with_reducible refine Gd_none ?_ | with_reducible refine Gd_want ?_ | ((with_reducible refine Gd_skipT ?_ ?_); exact rfl) | ((with_reducible refine Gd_skipF ?_ ?_); exact rfl))
  refine T_ret1 Tryd.func30 rfl rfl ⟨_, rfl, hk13.tr hn4.kept (fun _ _ x => x), ho, rfl, ⟨h0.n1, h0.n2, h0.secs, h0.waits, h0.wn, by dsimp only; omega, by dsimp only; omega⟩, _, _, ?_, hn4.blk, ?_, ?_⟩
  · simp only [fresh]; omega
  · exact (hr1'.mv hn4.kept (fun _ _ _ x => x)).mono (fun b hb' h => ⟨by simp only [fresh]; omega, fun e => by omega⟩)
  · exact (hr2.mv hn4.kept (fun _ _ _ x => x)).mono (fun b hb' h => ⟨by simp only [fresh]; omega, fun e => by omega, fun e => by have := (hr1.own b e).1; omega⟩)
end Go.Proofs.YtoefhdaenaiomaaDoor
