/- Join. -/
import Derived.Test.YtoefhdaenaiomaaDoorBytes
namespace Go.Proofs.YtoefhdaenaiomaaDoor
open Go
set_option maxRecDepth 20000

theorem join_c (w : World) (G H : Nat → Prop) (vl : Value) (vs : List Value) (ls : List (List UInt8)) (h : Sl w G vl 1 vs.length vs) (hl : vs.length = ls.length) (hs : ∀ (i : Nat) v l, vs[i]? = some v → ls[i]? = some l → BS w H v l) (hN : ls.flatten.length ≤ 1000000) :
    Calls Tryd.prog 35 [vl].toArray w (Ret fun r w' => Kept none0 w w' ∧ BR w' (fresh w) r ls.flatten) := by
  refine calls_T Tryd.func35 rfl rfl rfl ?_
  obtain ⟨A, c, rfl⟩ := h.len
  have hlen := h.1
  repeat (first | with_reducible refine T_seq ?_ | with_reducible refine T_region ?_ | with_reducible refine U_nil ?_ | refine U_ar rfl rfl rfl (wrap_i64 (by omega)) rfl ?_ | refine U_pure E rfl rfl ?_ | with_reducible refine T_skip ?_ | with_reducible refine T_block ?_ | with_reducible refine T_inBlock ?_ | refine T_exit rfl ?_ | refine T_condV rfl ?_ | with_reducible refine Cnd_t ?_ | with_reducible refine Cnd_f ?_ | with_reducible refine Cnd_not ?_ | with_reducible refine Cnd_some ?_ | with_reducible refine Cnd_none ?_ | refine U_guard rfl rfl ?_ | with_reducible refine Gd_nt ?_ | with_reducible refine Gd_nf ?_ | with_reducible refine Gd_some ?_ | with_reducible refine Gd_none ?_ | with_reducible refine Gd_want ?_ | ((with_reducible refine Gd_skipT ?_ ?_); exact rfl) | ((with_reducible refine Gd_skipF ?_ ?_); exact rfl))
  refine T_loop (α := Nat × Value × World) (fun x => [(8, .int .i64 x.1), (7, .int .i64 vs.length), (6, .slice A vs.length c), (3, x.2.1)]) (fun x => x.2.2) (fun x => vs.length - x.1)
    (fun x => x.1 ≤ vs.length ∧ Kept none0 w x.2.2 ∧ BR x.2.2 (fresh w) x.2.1 (ls.take x.1).flatten) (0, .slice none 0 0, w) ⟨Nat.zero_le _, Kept.refl _ _, by simp only [List.take_zero, List.flatten_nil]; exact BR.nil w _⟩ ⟨rfl, rfl, rfl, rfl, trivial⟩ rfl ?_
  rintro ⟨i, v, w1⟩ ⟨hi, hk, hr⟩ ih
  dsimp only at hi hk hr ⊢
  repeat (first | with_reducible refine T_seq ?_ | with_reducible refine T_region ?_ | with_reducible refine U_nil ?_ | refine U_ar rfl rfl rfl (wrap_i64 (by omega)) rfl ?_ | refine U_pure E rfl rfl ?_ | with_reducible refine T_skip ?_ | with_reducible refine T_block ?_ | with_reducible refine T_inBlock ?_ | refine T_exit rfl ?_ | refine T_condV rfl ?_ | with_reducible refine Cnd_t ?_ | with_reducible refine Cnd_f ?_ | with_reducible refine Cnd_not ?_ | with_reducible refine Cnd_some ?_ | with_reducible refine Cnd_none ?_ | refine U_guard rfl rfl ?_ | with_reducible refine Gd_nt ?_ | with_reducible refine Gd_nf ?_ | with_reducible refine Gd_some ?_ | with_reducible refine Gd_none ?_ | with_reducible refine Gd_want ?_ | ((with_reducible refine Gd_skipT ?_ ?_); exact rfl) | ((with_reducible refine Gd_skipF ?_ ?_); exact rfl))
  refine Cnd_p (fun hlt => ?_) (fun hlt => ?_)
  · have hlt' : i < vs.length := by omega
    have hg : vs[(i : Int).toNat]? = some vs[i] := by rw [Int.toNat_natCast, List.getElem?_eq_getElem hlt']
    have hli : i < ls.length := by omega
    have hvi := hs i _ _ (List.getElem?_eq_getElem hlt') (List.getElem?_eq_getElem hli)
    have htot : ((ls.take i).flatten ++ ls[i]).length ≤ 1000000 := by
      have e : ls = ls.take i ++ ls[i] :: ls.drop (i + 1) := by simp
      have : ls.flatten.length = (ls.take i).flatten.length + (ls[i].length + (ls.drop (i + 1)).flatten.length) := by
        conv => lhs; rw [e]
        simp only [List.flatten_append, List.length_append, List.flatten_cons]
      rw [List.length_append]
      omega
    rw [List.length_append] at htot
    repeat (first | with_reducible refine T_seq ?_ | with_reducible refine T_region ?_ | with_reducible refine U_nil ?_ | refine U_ar rfl rfl rfl (wrap_i64 (by omega)) rfl ?_ | refine U_pure E rfl rfl ?_ | with_reducible refine T_skip ?_ | with_reducible refine T_block ?_ | with_reducible refine T_inBlock ?_ | refine T_exit rfl ?_ | refine T_condV rfl ?_ | with_reducible refine Cnd_t ?_ | with_reducible refine Cnd_f ?_ | with_reducible refine Cnd_not ?_ | with_reducible refine Cnd_some ?_ | with_reducible refine Cnd_none ?_ | refine U_guard rfl rfl ?_ | with_reducible refine Gd_nt ?_ | with_reducible refine Gd_nf ?_ | with_reducible refine Gd_some ?_ | with_reducible refine Gd_none ?_ | with_reducible refine Gd_want ?_ | ((with_reducible refine Gd_skipT ?_ ?_); exact rfl) | ((with_reducible refine Gd_skipF ?_ ?_); exact rfl))
    refine U_idx E (h.mv hk (fun _ _ _ x => x)) rfl rfl rfl rfl (by omega) (by omega) (hg) rfl (fun p hp => ?_)
    refine U_load E rfl rfl rfl hp rfl ?_
    repeat (first | with_reducible refine T_seq ?_ | with_reducible refine T_region ?_ | with_reducible refine U_nil ?_ | refine U_ar rfl rfl rfl (wrap_i64 (by omega)) rfl ?_ | refine U_pure E rfl rfl ?_ | with_reducible refine T_skip ?_ | with_reducible refine T_block ?_ | with_reducible refine T_inBlock ?_ | refine T_exit rfl ?_ | refine T_condV rfl ?_ | with_reducible refine Cnd_t ?_ | with_reducible refine Cnd_f ?_ | with_reducible refine Cnd_not ?_ | with_reducible refine Cnd_some ?_ | with_reducible refine Cnd_none ?_ | refine U_guard rfl rfl ?_ | with_reducible refine Gd_nt ?_ | with_reducible refine Gd_nf ?_ | with_reducible refine Gd_some ?_ | with_reducible refine Gd_none ?_ | with_reducible refine Gd_want ?_ | ((with_reducible refine Gd_skipT ?_ ?_); exact rfl) | ((with_reducible refine Gd_skipF ?_ ?_); exact rfl))
    refine U_append E hr (hvi.mv hk (fun _ _ _ x => x)) (encBs_one _) rfl rfl rfl rfl rfl (by omega) (by omega) rfl ?_
    intro v' w3 hr3 hk3 _ hob
    have hk3' : Kept none0 w w3 := hk.tr hk3 (fun j hj hv => by have := (hr.own j hv).1; simp only [fresh] at this; omega)
    repeat (first | with_reducible refine T_seq ?_ | with_reducible refine T_region ?_ | with_reducible refine U_nil ?_ | refine U_ar rfl rfl rfl (wrap_i64 (by omega)) rfl ?_ | refine U_pure E rfl rfl ?_ | with_reducible refine T_skip ?_ | with_reducible refine T_block ?_ | with_reducible refine T_inBlock ?_ | refine T_exit rfl ?_ | refine T_condV rfl ?_ | with_reducible refine Cnd_t ?_ | with_reducible refine Cnd_f ?_ | with_reducible refine Cnd_not ?_ | with_reducible refine Cnd_some ?_ | with_reducible refine Cnd_none ?_ | refine U_guard rfl rfl ?_ | with_reducible refine Gd_nt ?_ | with_reducible refine Gd_nf ?_ | with_reducible refine Gd_some ?_ | with_reducible refine Gd_none ?_ | with_reducible refine Gd_want ?_ | ((with_reducible refine Gd_skipT ?_ ?_); exact rfl) | ((with_reducible refine Gd_skipF ?_ ?_); exact rfl))
    refine T.less ?_ (ih (i + 1, v', w3) ?_ ?_)
    · exact ⟨rfl, rfl, rfl, rfl, trivial⟩
    · refine ⟨hlt', hk3', ?_⟩
      dsimp only
      have hsz := hk.size
      rw [take_snoc ls i hli, List.flatten_append]
      have := hr3.mono (G := fresh w) (fun j _ hj => hj.elim (fun x => x) (fun x => Nat.le_trans hsz x))
      simpa [BR, encBs] using this
    · dsimp only
      omega
  · repeat (first | with_reducible refine T_seq ?_ | with_reducible refine T_region ?_ | with_reducible refine U_nil ?_ | refine U_ar rfl rfl rfl (wrap_i64 (by omega)) rfl ?_ | refine U_pure E rfl rfl ?_ | with_reducible refine T_skip ?_ | with_reducible refine T_block ?_ | with_reducible refine T_inBlock ?_ | refine T_exit rfl ?_ | refine T_condV rfl ?_ | with_reducible refine Cnd_t ?_ | with_reducible refine Cnd_f ?_ | with_reducible refine Cnd_not ?_ | with_reducible refine Cnd_some ?_ | with_reducible refine Cnd_none ?_ | refine U_guard rfl rfl ?_ | with_reducible refine Gd_nt ?_ | with_reducible refine Gd_nf ?_ | with_reducible refine Gd_some ?_ | with_reducible refine Gd_none ?_ | with_reducible refine Gd_want ?_ | ((with_reducible refine Gd_skipT ?_ ?_); exact rfl) | ((with_reducible refine Gd_skipF ?_ ?_); exact rfl))
    refine T_ret1 Tryd.func35 rfl rfl ⟨_, rfl, hk, ?_⟩
    have : i = ls.length := by omega
    subst this
    simpa using hr

end Go.Proofs.YtoefhdaenaiomaaDoor
