/- Clean. -/
import Derived.Test.YtoefhdaenaiomaaDrumH
import Derived.Stop.BytesEq
namespace Go.Proofs.Ytoefhdaenaiomaa
open Go

section
variable {P : Program} {m : Fm} {n : Nat} {w : World} {ty t2 : TypeId} {ps : String} {af : Array Edge}
theorem ro_eqArr (E : Env P) {t e : TypeId} {N sa : Nat} {u v : Operand} {xs ys : List UInt8} (ht : E.ty t = some (.array N e, sa)) (he : E.ty e = some (.int .u8, 1)) (hg : P.eqGuardType P.depth t = false) (hx : ev m u = some (.agg (encBs xs).toArray)) (hy : ev m v = some (.agg (encBs ys).toArray)) (lx : xs.length = N) (ly : ys.length = N) {dst : Option Tmp} {gd : Option (Nat × Bool)} :
    ∀ a, Fits a n m → (execOp a.eval { dst := dst, op := .binOp .eql t u v t2, type := ty, pos := ps, after := af, guard := gd }).run P w = .ok (.value (.bool (xs == ys))) w := by
  intro a ha
  have hsz : ∀ w, (sizeOf e).run P w = .ok 1 w := by
    intro w
    have := (E.ok _ _ _ he).2
    cases hq : P.info? e with
    | none => simp [hq] at this
    | some i =>
      have h1 : i.size = 1 := by simpa [hq] using this
      rw [r_size hq, h1]
  have hr := run_eql_bytes (P := P) w t e N (E.ok _ _ _ ht).1 (E.ok _ _ _ he).1 hsz xs ys lx ly
  have hr' : (binOp .eql t (.agg (encBs xs).toArray) (.agg (encBs ys).toArray)).run P w = .ok (.bool (xs == ys)) w := hr
  simp only [execOp, ha.eval hx, ha.eval hy, Sem.run_bind, run_eqGuard_agg _ _ _ _ _ _ _ hg, hr', Result.andThen_ok, Sem.run_pure]
end

set_option maxRecDepth 4000 in
theorem clean_c (w : World) (F : Nat → Prop) (hb : Nat) (D : Dr) (i : Nat) (h : IsD w F hb D) (hi : i < D.l.length) :
    Calls Try.prog 17 [ptr hb, .int .i64 i].toArray w (Ret fun r w' => r = .bool (nowS D.l D.wait i == zeros 256) ∧ Kept none0 w w') := by
  have hf := fits_c w F hb D i h
  rw [if_pos (by omega)] at hf
  have hn := now_c w F hb D i h hi
  have hln := nowS_len D.l D.wait i h.1.secs (fun p hp => (h.1.waits p hp).2) hi
  refine calls_T Try.func17 rfl rfl rfl ?_
  unfold ptr at *
  repeat (first | with_reducible refine T_seq ?_ | with_reducible refine T_region ?_ | with_reducible refine U_nil ?_ | refine U_ar rfl rfl rfl (wrap_i64 (by omega)) rfl ?_ | refine U_pure E rfl rfl ?_ | with_reducible refine T_skip ?_ | with_reducible refine T_block ?_ | with_reducible refine T_inBlock ?_ | refine T_exit rfl ?_ | refine T_condV rfl ?_ | with_reducible refine Cnd_t ?_ | with_reducible refine Cnd_f ?_ | with_reducible refine Cnd_not ?_ | with_reducible refine Cnd_some ?_ | with_reducible refine Cnd_none ?_ | refine U_guard rfl rfl ?_ | with_reducible refine Gd_nt ?_ | with_reducible refine Gd_nf ?_ | with_reducible refine Gd_some ?_ | with_reducible refine Gd_none ?_ | with_reducible refine Gd_want ?_ | ((with_reducible refine Gd_skipT ?_ ?_); exact rfl) | ((with_reducible refine Gd_skipF ?_ ?_); exact rfl))
  refine U_call rfl rfl (Try.call19 _) (ret_of hf) ?_
  rintro r w1 ⟨rfl, rfl⟩
  unfold errV
  repeat (first | with_reducible refine T_seq ?_ | with_reducible refine T_region ?_ | with_reducible refine U_nil ?_ | refine U_ar rfl rfl rfl (wrap_i64 (by omega)) rfl ?_ | refine U_pure E rfl rfl ?_ | with_reducible refine T_skip ?_ | with_reducible refine T_block ?_ | with_reducible refine T_inBlock ?_ | refine T_exit rfl ?_ | refine T_condV rfl ?_ | with_reducible refine Cnd_t ?_ | with_reducible refine Cnd_f ?_ | with_reducible refine Cnd_not ?_ | with_reducible refine Cnd_some ?_ | with_reducible refine Cnd_none ?_ | refine U_guard rfl rfl ?_ | with_reducible refine Gd_nt ?_ | with_reducible refine Gd_nf ?_ | with_reducible refine Gd_some ?_ | with_reducible refine Gd_none ?_ | with_reducible refine Gd_want ?_ | ((with_reducible refine Gd_skipT ?_ ?_); exact rfl) | ((with_reducible refine Gd_skipF ?_ ?_); exact rfl))
  refine U_call rfl rfl (Try.call22 _) (hn) ?_
  rintro r w2 ⟨rfl, hk2⟩
  repeat (first | with_reducible refine T_seq ?_ | with_reducible refine T_region ?_ | with_reducible refine U_nil ?_ | refine U_ar rfl rfl rfl (wrap_i64 (by omega)) rfl ?_ | refine U_pure E rfl rfl ?_ | with_reducible refine T_skip ?_ | with_reducible refine T_block ?_ | with_reducible refine T_inBlock ?_ | refine T_exit rfl ?_ | refine T_condV rfl ?_ | with_reducible refine Cnd_t ?_ | with_reducible refine Cnd_f ?_ | with_reducible refine Cnd_not ?_ | with_reducible refine Cnd_some ?_ | with_reducible refine Cnd_none ?_ | refine U_guard rfl rfl ?_ | with_reducible refine Gd_nt ?_ | with_reducible refine Gd_nf ?_ | with_reducible refine Gd_some ?_ | with_reducible refine Gd_none ?_ | with_reducible refine Gd_want ?_ | ((with_reducible refine Gd_skipT ?_ ?_); exact rfl) | ((with_reducible refine Gd_skipF ?_ ?_); exact rfl))
  refine U_build (cells := encBs (zeros 256)) rfl (by kernel_rfl) rfl ?_
  repeat (first | with_reducible refine T_seq ?_ | with_reducible refine T_region ?_ | with_reducible refine U_nil ?_ | refine U_ar rfl rfl rfl (wrap_i64 (by omega)) rfl ?_ | refine U_pure E rfl rfl ?_ | with_reducible refine T_skip ?_ | with_reducible refine T_block ?_ | with_reducible refine T_inBlock ?_ | refine T_exit rfl ?_ | refine T_condV rfl ?_ | with_reducible refine Cnd_t ?_ | with_reducible refine Cnd_f ?_ | with_reducible refine Cnd_not ?_ | with_reducible refine Cnd_some ?_ | with_reducible refine Cnd_none ?_ | refine U_guard rfl rfl ?_ | with_reducible refine Gd_nt ?_ | with_reducible refine Gd_nf ?_ | with_reducible refine Gd_some ?_ | with_reducible refine Gd_none ?_ | with_reducible refine Gd_want ?_ | ((with_reducible refine Gd_skipT ?_ ?_); exact rfl) | ((with_reducible refine Gd_skipF ?_ ?_); exact rfl))
  refine U_run rfl rfl rfl (ro_eqArr E rfl rfl (by kernel_rfl) rfl rfl hln (zeros_len 256)) ?_
  repeat (first | with_reducible refine T_seq ?_ | with_reducible refine T_region ?_ | with_reducible refine U_nil ?_ | refine U_ar rfl rfl rfl (wrap_i64 (by omega)) rfl ?_ | refine U_pure E rfl rfl ?_ | with_reducible refine T_skip ?_ | with_reducible refine T_block ?_ | with_reducible refine T_inBlock ?_ | refine T_exit rfl ?_ | refine T_condV rfl ?_ | with_reducible refine Cnd_t ?_ | with_reducible refine Cnd_f ?_ | with_reducible refine Cnd_not ?_ | with_reducible refine Cnd_some ?_ | with_reducible refine Cnd_none ?_ | refine U_guard rfl rfl ?_ | with_reducible refine Gd_nt ?_ | with_reducible refine Gd_nf ?_ | with_reducible refine Gd_some ?_ | with_reducible refine Gd_none ?_ | with_reducible refine Gd_want ?_ | ((with_reducible refine Gd_skipT ?_ ?_); exact rfl) | ((with_reducible refine Gd_skipF ?_ ?_); exact rfl))
  exact T_ret1 Try.func17 rfl rfl ⟨_, rfl, rfl, hk2⟩

theorem clean_no (w : World) (F : Nat → Prop) (hb : Nat) (D : Dr) (i : Int) (h : IsD w F hb D) (hi : ¬ (0 ≤ i ∧ i < D.l.length)) :
    Calls Try.prog 17 [ptr hb, .int .i64 i].toArray w (Ret fun r w' => r = .bool false ∧ w' = w) := by
  have hf := fits_c w F hb D i h
  rw [if_neg hi] at hf
  refine calls_T Try.func17 rfl rfl rfl ?_
  unfold ptr at *
  repeat (first | with_reducible refine T_seq ?_ | with_reducible refine T_region ?_ | with_reducible refine U_nil ?_ | refine U_ar rfl rfl rfl (wrap_i64 (by omega)) rfl ?_ | refine U_pure E rfl rfl ?_ | with_reducible refine T_skip ?_ | with_reducible refine T_block ?_ | with_reducible refine T_inBlock ?_ | refine T_exit rfl ?_ | refine T_condV rfl ?_ | with_reducible refine Cnd_t ?_ | with_reducible refine Cnd_f ?_ | with_reducible refine Cnd_not ?_ | with_reducible refine Cnd_some ?_ | with_reducible refine Cnd_none ?_ | refine U_guard rfl rfl ?_ | with_reducible refine Gd_nt ?_ | with_reducible refine Gd_nf ?_ | with_reducible refine Gd_some ?_ | with_reducible refine Gd_none ?_ | with_reducible refine Gd_want ?_ | ((with_reducible refine Gd_skipT ?_ ?_); exact rfl) | ((with_reducible refine Gd_skipF ?_ ?_); exact rfl))
  refine U_call rfl rfl (Try.call19 _) (ret_of hf) ?_
  rintro r w1 ⟨rfl, rfl⟩
  unfold errV
  repeat (first | with_reducible refine T_seq ?_ | with_reducible refine T_region ?_ | with_reducible refine U_nil ?_ | refine U_ar rfl rfl rfl (wrap_i64 (by omega)) rfl ?_ | refine U_pure E rfl rfl ?_ | with_reducible refine T_skip ?_ | with_reducible refine T_block ?_ | with_reducible refine T_inBlock ?_ | refine T_exit rfl ?_ | refine T_condV rfl ?_ | with_reducible refine Cnd_t ?_ | with_reducible refine Cnd_f ?_ | with_reducible refine Cnd_not ?_ | with_reducible refine Cnd_some ?_ | with_reducible refine Cnd_none ?_ | refine U_guard rfl rfl ?_ | with_reducible refine Gd_nt ?_ | with_reducible refine Gd_nf ?_ | with_reducible refine Gd_some ?_ | with_reducible refine Gd_none ?_ | with_reducible refine Gd_want ?_ | ((with_reducible refine Gd_skipT ?_ ?_); exact rfl) | ((with_reducible refine Gd_skipF ?_ ?_); exact rfl))
  exact T_ret1 Try.func17 rfl rfl ⟨_, rfl, rfl, rfl⟩
end Go.Proofs.Ytoefhdaenaiomaa
