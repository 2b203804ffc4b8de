/- api.Code of an error number, of nil. -/
import Derived.Test.YtoefhdaenaiomaaDoorAsE
import Derived.Test.YtoefhdaenaiomaaDoorDrumA
namespace Go.Proofs.YtoefhdaenaiomaaDoor
open Go
set_option maxRecDepth 20000

/-- errors.errorType stands as the program's text lays it. -/
def Laid (w : World) : Prop := w.cell? ⟨0, 0, none⟩ = some (.iface 166 (.agg #[.pointer (some ⟨3, 28, none⟩)]))
theorem Laid.mv {F : Nat → Prop} {w w' : World} (h : Laid w) (k : Kept F w w') (hF : ¬ F 0) : Laid w' := by
  have hlt : 0 < w.heap.size := World.block_lt_of_cell? w ⟨0, 0, none⟩ h
  unfold Laid
  rw [World.cell?_of_block (w := w) (w' := w') (a := ⟨0, 0, none⟩) (k.same 0 hlt hF)]
  exact h
theorem Laid.lt {w : World} (h : Laid w) : 0 < w.heap.size := World.block_lt_of_cell? w ⟨0, 0, none⟩ h

theorem Upd.setCell {w : World} {b o : Nat} {cs : List Value} {t : TypeId} (h : Blk w b cs t) (v : Value) : Upd w (w.setCell ⟨b, o, none⟩ v) b (cs.set o v) t := by
  have hb : w.heap[b]? = some (.cells cs.toArray t (0, 0)) := h
  refine ⟨?_, ⟨rfl, rfl, rfl, by simp [World.setCell], fun i _ hn => ?_⟩, by simp [World.setCell]⟩
  · simp [Blk, World.setCell, Array.getElem?_modify, hb]
  · simp only [World.setCell, Array.getElem?_modify]
    rw [if_neg (fun e => hn e.symm)]

theorem as_c (w : World) (b : Nat) (old : Value) (k : Int) (hg : Laid w) (hb : Blk w b [old] 39) :
    Calls Tryd.prog 71 [.iface 39 (.int .i64 k), .iface 106 (.pointer (some ⟨b, 0, none⟩))].toArray w (Ret fun r w' => r = .bool true ∧ Kept (fun j => j = b) w w' ∧ Blk w' b [.int .i64 k] 39) := by
  have hbb : w.heap[b]? = some (.cells #[old] 39 (0, 0)) := hb
  refine (as_hit k ⟨b, 0, none⟩ old w hg (by rw [hb.cell]; rfl) (by simp [World.frozen?, hbb])).mono ?_
  rintro e w' ⟨rfl, rfl⟩
  refine ⟨_, rfl, rfl, ?_⟩
  have alloc : ∀ (u : World) (cs : Array Value) (t : TypeId), Kept none0 u (u.alloc (.cells cs t)) := fun u cs t => (New.alloc u cs.toList t).kept
  have hk : Kept none0 w ((((w.alloc (.cells #[.pointer (some ⟨b, 0, none⟩)] 106)).alloc (.cells #[.pointer (some ⟨3, 106, none⟩), .pointer (some ⟨w.heap.size, 0, none⟩), .int .u64 150] 145)).alloc (.cells #[.pointer (some ⟨3, 106, none⟩), .pointer (some ⟨w.heap.size, 0, none⟩), .int .u64 150] 145)).alloc (.cells #[.int .i64 k] 39)) :=
    (((alloc _ _ _).tr (alloc _ _ _) (fun _ _ x => x)).tr (alloc _ _ _) (fun _ _ x => x)).tr (alloc _ _ _) (fun _ _ x => x)
  have hu := Upd.setCell (o := 0) (hb.mv hk (fun x => x)) (.int .i64 k)
  exact ⟨hk.mono (fun _ _ x => x.elim) |>.tr hu.kept (fun _ _ x => x), hu.blk⟩

theorem code_nil (w : World) : Calls Tryd.prog 28 [.nilIface].toArray w (Ret fun r w' => r = .int .i64 0 ∧ w' = w) := by
  refine calls_T Tryd.func28 rfl rfl rfl ?_
  repeat (first | with_reducible refine T_seq ?_ | with_reducible refine T_region ?_ | with_reducible refine U_nil ?_ | refine U_ar rfl rfl rfl (wrap_i64 (by omega)) rfl ?_ | refine U_pure E rfl rfl ?_ | with_reducible refine T_skip ?_ | with_reducible refine T_block ?_ | with_reducible refine T_inBlock ?_ | refine T_exit rfl ?_ | refine T_condV rfl ?_ | with_reducible refine Cnd_t ?_ | with_reducible refine Cnd_f ?_ | with_reducible refine Cnd_not ?_ | with_reducible refine Cnd_some ?_ | with_reducible refine Cnd_none ?_ | refine U_guard rfl rfl ?_ | with_reducible refine Gd_nt ?_ | with_reducible refine Gd_nf ?_ | with_reducible refine Gd_some ?_ | with_reducible refine Gd_none ?_ | with_reducible refine Gd_want ?_ | ((with_reducible refine Gd_skipT ?_ ?_); exact rfl) | ((with_reducible refine Gd_skipF ?_ ?_); exact rfl))
  exact T_ret1 Tryd.func28 rfl rfl ⟨_, rfl, rfl, rfl⟩

theorem code_err (w : World) (k : Int) (hg : Laid w) : Calls Tryd.prog 28 [.iface 39 (.int .i64 k)].toArray w (Ret fun r w' => r = .int .i64 k ∧ Kept none0 w w') := by
  refine calls_T Tryd.func28 rfl rfl rfl ?_
  repeat (first | with_reducible refine T_seq ?_ | with_reducible refine T_region ?_ | with_reducible refine U_nil ?_ | refine U_ar rfl rfl rfl (wrap_i64 (by omega)) rfl ?_ | refine U_pure E rfl rfl ?_ | with_reducible refine T_skip ?_ | with_reducible refine T_block ?_ | with_reducible refine T_inBlock ?_ | refine T_exit rfl ?_ | refine T_condV rfl ?_ | with_reducible refine Cnd_t ?_ | with_reducible refine Cnd_f ?_ | with_reducible refine Cnd_not ?_ | with_reducible refine Cnd_some ?_ | with_reducible refine Cnd_none ?_ | refine U_guard rfl rfl ?_ | with_reducible refine Gd_nt ?_ | with_reducible refine Gd_nf ?_ | with_reducible refine Gd_some ?_ | with_reducible refine Gd_none ?_ | with_reducible refine Gd_want ?_ | ((with_reducible refine Gd_skipT ?_ ?_); exact rfl) | ((with_reducible refine Gd_skipF ?_ ?_); exact rfl))
  refine U_alloc E rfl rfl rfl ?_
  intro b w1 hn
  have hl := hg.lt
  have e1 := hn.at_
  repeat (first | with_reducible refine T_seq ?_ | with_reducible refine T_region ?_ | with_reducible refine U_nil ?_ | refine U_ar rfl rfl rfl (wrap_i64 (by omega)) rfl ?_ | refine U_pure E rfl rfl ?_ | with_reducible refine T_skip ?_ | with_reducible refine T_block ?_ | with_reducible refine T_inBlock ?_ | refine T_exit rfl ?_ | refine T_condV rfl ?_ | with_reducible refine Cnd_t ?_ | with_reducible refine Cnd_f ?_ | with_reducible refine Cnd_not ?_ | with_reducible refine Cnd_some ?_ | with_reducible refine Cnd_none ?_ | refine U_guard rfl rfl ?_ | with_reducible refine Gd_nt ?_ | with_reducible refine Gd_nf ?_ | with_reducible refine Gd_some ?_ | with_reducible refine Gd_none ?_ | with_reducible refine Gd_want ?_ | ((with_reducible refine Gd_skipT ?_ ?_); exact rfl) | ((with_reducible refine Gd_skipF ?_ ?_); exact rfl))
  have hc := as_c w1 b (.int .i64 0) k (hg.mv hn.kept (fun x => x)) hn.blk
  refine U_call rfl rfl (Tryd.call71 _) (hc) ?_
  rintro r w2 ⟨rfl, hk2, hb2⟩
  have hk : Kept none0 w w2 := hn.kept.tr hk2 (fun j hj (e : j = b) => by omega)
  repeat (first | with_reducible refine T_seq ?_ | with_reducible refine T_region ?_ | with_reducible refine U_nil ?_ | refine U_ar rfl rfl rfl (wrap_i64 (by omega)) rfl ?_ | refine U_pure E rfl rfl ?_ | with_reducible refine T_skip ?_ | with_reducible refine T_block ?_ | with_reducible refine T_inBlock ?_ | refine T_exit rfl ?_ | refine T_condV rfl ?_ | with_reducible refine Cnd_t ?_ | with_reducible refine Cnd_f ?_ | with_reducible refine Cnd_not ?_ | with_reducible refine Cnd_some ?_ | with_reducible refine Cnd_none ?_ | refine U_guard rfl rfl ?_ | with_reducible refine Gd_nt ?_ | with_reducible refine Gd_nf ?_ | with_reducible refine Gd_some ?_ | with_reducible refine Gd_none ?_ | with_reducible refine Gd_want ?_ | ((with_reducible refine Gd_skipT ?_ ?_); exact rfl) | ((with_reducible refine Gd_skipF ?_ ?_); exact rfl))
  refine U_loadB E hb2 rfl rfl rfl (by rfl) rfl ?_
  repeat (first | with_reducible refine T_seq ?_ | with_reducible refine T_region ?_ | with_reducible refine U_nil ?_ | refine U_ar rfl rfl rfl (wrap_i64 (by omega)) rfl ?_ | refine U_pure E rfl rfl ?_ | with_reducible refine T_skip ?_ | with_reducible refine T_block ?_ | with_reducible refine T_inBlock ?_ | refine T_exit rfl ?_ | refine T_condV rfl ?_ | with_reducible refine Cnd_t ?_ | with_reducible refine Cnd_f ?_ | with_reducible refine Cnd_not ?_ | with_reducible refine Cnd_some ?_ | with_reducible refine Cnd_none ?_ | refine U_guard rfl rfl ?_ | with_reducible refine Gd_nt ?_ | with_reducible refine Gd_nf ?_ | with_reducible refine Gd_some ?_ | with_reducible refine Gd_none ?_ | with_reducible refine Gd_want ?_ | ((with_reducible refine Gd_skipT ?_ ?_); exact rfl) | ((with_reducible refine Gd_skipF ?_ ?_); exact rfl))
  exact T_ret1 Tryd.func28 rfl rfl ⟨_, rfl, rfl, hk⟩

/-- Code of what the drum's functions answer. -/
theorem code_c (w : World) (k : Nat) (hg : Laid w) : Calls Tryd.prog 28 [errV k].toArray w (Ret fun r w' => r = .int .i64 k ∧ Kept none0 w w') := by
  cases k with
  | zero =>
    refine (code_nil w).mono ?_
    rintro e w' ⟨r, rfl, rfl, rfl⟩
    exact ⟨_, rfl, rfl, Kept.refl _ _⟩
  | succ j => exact code_err w (j + 1 : Nat) hg
end Go.Proofs.YtoefhdaenaiomaaDoor
