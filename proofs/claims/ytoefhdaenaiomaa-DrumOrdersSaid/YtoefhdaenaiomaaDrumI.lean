/- Join, half. -/
import Derived.Test.YtoefhdaenaiomaaDrumH
namespace Go.Proofs.Ytoefhdaenaiomaa
open Go

theorem join_c (w : World) (G H : Nat → Prop) (vl : Value) (vs : List Value) (ls : List (List UInt8)) (h : Sl w G vl 1 vs.length vs) (hl : vs.length = ls.length) (hs : ∀ (i : Nat) v l, vs[i]? = some v → ls[i]? = some l → BS w H v l) (hN : ls.flatten.length ≤ 1000000) :
    Calls Try.prog 23 [vl].toArray w (Ret fun r w' => Kept none0 w w' ∧ BR w' (fresh w) r ls.flatten) := by
  refine calls_T Try.func23 rfl rfl rfl ?_
  obtain ⟨A, c, rfl⟩ := h.len
  have hlen := h.1
  repeat (first | with_reducible refine T_seq ?_ | with_reducible refine T_region ?_ | with_reducible refine U_nil ?_ | refine U_ar rfl rfl rfl (wrap_i64 (by omega)) rfl ?_ | refine U_pure E rfl rfl ?_ | with_reducible refine T_skip ?_ | with_reducible refine T_block ?_ | with_reducible refine T_inBlock ?_ | refine T_exit rfl ?_ | refine T_condV rfl ?_ | with_reducible refine Cnd_t ?_ | with_reducible refine Cnd_f ?_ | with_reducible refine Cnd_not ?_ | with_reducible refine Cnd_some ?_ | with_reducible refine Cnd_none ?_ | refine U_guard rfl rfl ?_ | with_reducible refine Gd_nt ?_ | with_reducible refine Gd_nf ?_ | with_reducible refine Gd_some ?_ | with_reducible refine Gd_none ?_ | with_reducible refine Gd_want ?_ | ((with_reducible refine Gd_skipT ?_ ?_); exact rfl) | ((with_reducible refine Gd_skipF ?_ ?_); exact rfl))
  refine T_loop (α := Nat × Value × World) (fun x => [(8, .int .i64 x.1), (7, .int .i64 vs.length), (6, .slice A vs.length c), (3, x.2.1)]) (fun x => x.2.2) (fun x => vs.length - x.1)
    (fun x => x.1 ≤ vs.length ∧ Kept none0 w x.2.2 ∧ BR x.2.2 (fresh w) x.2.1 (ls.take x.1).flatten) (0, .slice none 0 0, w) ⟨Nat.zero_le _, Kept.refl _ _, by simp only [List.take_zero, List.flatten_nil]; exact BR.nil w _⟩ ⟨rfl, rfl, rfl, rfl, trivial⟩ rfl ?_
  rintro ⟨i, v, w1⟩ ⟨hi, hk, hr⟩ ih
  dsimp only at hi hk hr ⊢
  repeat (first | with_reducible refine T_seq ?_ | with_reducible refine T_region ?_ | with_reducible refine U_nil ?_ | refine U_ar rfl rfl rfl (wrap_i64 (by omega)) rfl ?_ | refine U_pure E rfl rfl ?_ | with_reducible refine T_skip ?_ | with_reducible refine T_block ?_ | with_reducible refine T_inBlock ?_ | refine T_exit rfl ?_ | refine T_condV rfl ?_ | with_reducible refine Cnd_t ?_ | with_reducible refine Cnd_f ?_ | with_reducible refine Cnd_not ?_ | with_reducible refine Cnd_some ?_ | with_reducible refine Cnd_none ?_ | refine U_guard rfl rfl ?_ | with_reducible refine Gd_nt ?_ | with_reducible refine Gd_nf ?_ | with_reducible refine Gd_some ?_ | with_reducible refine Gd_none ?_ | with_reducible refine Gd_want ?_ | ((with_reducible refine Gd_skipT ?_ ?_); exact rfl) | ((with_reducible refine Gd_skipF ?_ ?_); exact rfl))
  refine Cnd_p (fun hlt => ?_) (fun hlt => ?_)
  · have hlt' : i < vs.length := by omega
    have hg : vs[(i : Int).toNat]? = some vs[i] := by rw [Int.toNat_natCast, List.getElem?_eq_getElem hlt']
    have hli : i < ls.length := by omega
    have hvi := hs i _ _ (List.getElem?_eq_getElem hlt') (List.getElem?_eq_getElem hli)
    have htot : ((ls.take i).flatten ++ ls[i]).length ≤ 1000000 := by
      have e : ls = ls.take i ++ ls[i] :: ls.drop (i + 1) := by simp
      have : ls.flatten.length = (ls.take i).flatten.length + (ls[i].length + (ls.drop (i + 1)).flatten.length) := by
        conv => lhs; rw [e]
        simp only [List.flatten_append, List.length_append, List.flatten_cons]
      rw [List.length_append]
      omega
    rw [List.length_append] at htot
    repeat (first | with_reducible refine T_seq ?_ | with_reducible refine T_region ?_ | with_reducible refine U_nil ?_ | refine U_ar rfl rfl rfl (wrap_i64 (by omega)) rfl ?_ | refine U_pure E rfl rfl ?_ | with_reducible refine T_skip ?_ | with_reducible refine T_block ?_ | with_reducible refine T_inBlock ?_ | refine T_exit rfl ?_ | refine T_condV rfl ?_ | with_reducible refine Cnd_t ?_ | with_reducible refine Cnd_f ?_ | with_reducible refine Cnd_not ?_ | with_reducible refine Cnd_some ?_ | with_reducible refine Cnd_none ?_ | refine U_guard rfl rfl ?_ | with_reducible refine Gd_nt ?_ | with_reducible refine Gd_nf ?_ | with_reducible refine Gd_some ?_ | with_reducible refine Gd_none ?_ | with_reducible refine Gd_want ?_ | ((with_reducible refine Gd_skipT ?_ ?_); exact rfl) | ((with_reducible refine Gd_skipF ?_ ?_); exact rfl))
    refine U_idx E (h.mv hk (fun _ _ _ x => x)) rfl rfl rfl rfl (by omega) (by omega) (hg) rfl (fun p hp => ?_)
    refine U_load E rfl rfl rfl hp rfl ?_
    repeat (first | with_reducible refine T_seq ?_ | with_reducible refine T_region ?_ | with_reducible refine U_nil ?_ | refine U_ar rfl rfl rfl (wrap_i64 (by omega)) rfl ?_ | refine U_pure E rfl rfl ?_ | with_reducible refine T_skip ?_ | with_reducible refine T_block ?_ | with_reducible refine T_inBlock ?_ | refine T_exit rfl ?_ | refine T_condV rfl ?_ | with_reducible refine Cnd_t ?_ | with_reducible refine Cnd_f ?_ | with_reducible refine Cnd_not ?_ | with_reducible refine Cnd_some ?_ | with_reducible refine Cnd_none ?_ | refine U_guard rfl rfl ?_ | with_reducible refine Gd_nt ?_ | with_reducible refine Gd_nf ?_ | with_reducible refine Gd_some ?_ | with_reducible refine Gd_none ?_ | with_reducible refine Gd_want ?_ | ((with_reducible refine Gd_skipT ?_ ?_); exact rfl) | ((with_reducible refine Gd_skipF ?_ ?_); exact rfl))
    refine U_append E hr (hvi.mv hk (fun _ _ _ x => x)) (encBs_one _) rfl rfl rfl rfl rfl (by omega) (by omega) rfl ?_
    intro v' w3 hr3 hk3 _ hob
    have hk3' : Kept none0 w w3 := hk.tr hk3 (fun j hj hv => by have := (hr.own j hv).1; simp only [fresh] at this; omega)
    repeat (first | with_reducible refine T_seq ?_ | with_reducible refine T_region ?_ | with_reducible refine U_nil ?_ | refine U_ar rfl rfl rfl (wrap_i64 (by omega)) rfl ?_ | refine U_pure E rfl rfl ?_ | with_reducible refine T_skip ?_ | with_reducible refine T_block ?_ | with_reducible refine T_inBlock ?_ | refine T_exit rfl ?_ | refine T_condV rfl ?_ | with_reducible refine Cnd_t ?_ | with_reducible refine Cnd_f ?_ | with_reducible refine Cnd_not ?_ | with_reducible refine Cnd_some ?_ | with_reducible refine Cnd_none ?_ | refine U_guard rfl rfl ?_ | with_reducible refine Gd_nt ?_ | with_reducible refine Gd_nf ?_ | with_reducible refine Gd_some ?_ | with_reducible refine Gd_none ?_ | with_reducible refine Gd_want ?_ | ((with_reducible refine Gd_skipT ?_ ?_); exact rfl) | ((with_reducible refine Gd_skipF ?_ ?_); exact rfl))
    refine T.less ?_ (ih (i + 1, v', w3) ?_ ?_)
    · exact ⟨rfl, rfl, rfl, rfl, trivial⟩
    · refine ⟨hlt', hk3', ?_⟩
      dsimp only
      have hsz := hk.size
      rw [take_snoc ls i hli, List.flatten_append]
      have := hr3.mono (G := fresh w) (fun j _ hj => hj.elim (fun x => x) (fun x => Nat.le_trans hsz x))
      simpa [BR, encBs] using this
    · dsimp only
      omega
  · repeat (first | with_reducible refine T_seq ?_ | with_reducible refine T_region ?_ | with_reducible refine U_nil ?_ | refine U_ar rfl rfl rfl (wrap_i64 (by omega)) rfl ?_ | refine U_pure E rfl rfl ?_ | with_reducible refine T_skip ?_ | with_reducible refine T_block ?_ | with_reducible refine T_inBlock ?_ | refine T_exit rfl ?_ | refine T_condV rfl ?_ | with_reducible refine Cnd_t ?_ | with_reducible refine Cnd_f ?_ | with_reducible refine Cnd_not ?_ | with_reducible refine Cnd_some ?_ | with_reducible refine Cnd_none ?_ | refine U_guard rfl rfl ?_ | with_reducible refine Gd_nt ?_ | with_reducible refine Gd_nf ?_ | with_reducible refine Gd_some ?_ | with_reducible refine Gd_none ?_ | with_reducible refine Gd_want ?_ | ((with_reducible refine Gd_skipT ?_ ?_); exact rfl) | ((with_reducible refine Gd_skipF ?_ ?_); exact rfl))
    refine T_ret1 Try.func23 rfl rfl ⟨_, rfl, hk, ?_⟩
    have : i = ls.length := by omega
    subst this
    simpa using hr

theorem half_t (w : World) (G1 G2 G3 : Nat → Prop) (vg vw vi : Value) (lg lw li : List UInt8) (h1 : BS w G1 vg lg) (h2 : BS w G2 vw lw) (h3 : BS w G3 vi li) (e2 : lw.length = 256) (e3 : li.length = 256) (k0 : Nat) (hk0 : k0 ≤ 256) (hg : lg = li.take k0 ++ lw.drop k0) :
    Calls Try.prog 15 [vg, vw, vi].toArray w (Ret fun r w' => r = .bool true ∧ Kept none0 w w') := by
  refine calls_T Try.func15 rfl rfl rfl ?_
  repeat (first | with_reducible refine T_seq ?_ | with_reducible refine T_region ?_ | with_reducible refine U_nil ?_ | refine U_ar rfl rfl rfl (wrap_i64 (by omega)) rfl ?_ | refine U_pure E rfl rfl ?_ | with_reducible refine T_skip ?_ | with_reducible refine T_block ?_ | with_reducible refine T_inBlock ?_ | refine T_exit rfl ?_ | refine T_condV rfl ?_ | with_reducible refine Cnd_t ?_ | with_reducible refine Cnd_f ?_ | with_reducible refine Cnd_not ?_ | with_reducible refine Cnd_some ?_ | with_reducible refine Cnd_none ?_ | refine U_guard rfl rfl ?_ | with_reducible refine Gd_nt ?_ | with_reducible refine Gd_nf ?_ | with_reducible refine Gd_some ?_ | with_reducible refine Gd_none ?_ | with_reducible refine Gd_want ?_ | ((with_reducible refine Gd_skipT ?_ ?_); exact rfl) | ((with_reducible refine Gd_skipF ?_ ?_); exact rfl))
  refine T_loop (α := Nat × World) (fun x => [(7, .int .i64 x.1), (0, vg), (1, vw), (2, vi)]) (fun x => x.2) (fun x => 257 - x.1)
    (fun x => x.1 ≤ k0 ∧ Kept none0 w x.2) (0, w) ⟨Nat.zero_le _, Kept.refl _ _⟩ ⟨rfl, rfl, rfl, rfl, trivial⟩ rfl ?_
  rintro ⟨i, w1⟩ ⟨hi, hk⟩ ih
  dsimp only at hi hk ⊢
  repeat (first | with_reducible refine T_seq ?_ | with_reducible refine T_region ?_ | with_reducible refine U_nil ?_ | refine U_ar rfl rfl rfl (wrap_i64 (by omega)) rfl ?_ | refine U_pure E rfl rfl ?_ | with_reducible refine T_skip ?_ | with_reducible refine T_block ?_ | with_reducible refine T_inBlock ?_ | refine T_exit rfl ?_ | refine T_condV rfl ?_ | with_reducible refine Cnd_t ?_ | with_reducible refine Cnd_f ?_ | with_reducible refine Cnd_not ?_ | with_reducible refine Cnd_some ?_ | with_reducible refine Cnd_none ?_ | refine U_guard rfl rfl ?_ | with_reducible refine Gd_nt ?_ | with_reducible refine Gd_nf ?_ | with_reducible refine Gd_some ?_ | with_reducible refine Gd_none ?_ | with_reducible refine Gd_want ?_ | ((with_reducible refine Gd_skipT ?_ ?_); exact rfl) | ((with_reducible refine Gd_skipF ?_ ?_); exact rfl))
  refine Cnd_p (fun hlt => ?_) (fun hlt => ?_)
  · have h11 := h1.mv hk (fun _ _ _ x => x)
    have h21 := h2.mv hk (fun _ _ _ x => x)
    have h31 := h3.mv hk (fun _ _ _ x => x)
    obtain ⟨ra, sa, fa⟩ := slice_sl (P := Try.prog) h31 0 i (by omega) (by omega)
    obtain ⟨rb, sb, fb⟩ := slice_sl (P := Try.prog) h21 i lw.length (by omega) (by omega)
    rw [show (encBs li).drop (0 * 1) = encBs li by simp, Nat.mul_one, Nat.sub_zero] at sa
    rw [Nat.mul_one, Nat.mul_one, List.take_of_length_le (by rw [List.length_drop, encBs_len]; exact Nat.le_refl _)] at sb
    have sa' : BS w1 G3 ra (li.take i) := by
      have e : (li.take i).length = i := by rw [List.length_take]; omega
      unfold BS
      rw [e, encBs, List.map_take]
      exact sa
    have sb' : BS w1 G2 rb (lw.drop i) := by
      unfold BS
      rw [List.length_drop, encBs, List.map_drop]
      exact sb
    repeat (first | with_reducible refine T_seq ?_ | with_reducible refine T_region ?_ | with_reducible refine U_nil ?_ | refine U_ar rfl rfl rfl (wrap_i64 (by omega)) rfl ?_ | refine U_pure E rfl rfl ?_ | with_reducible refine T_skip ?_ | with_reducible refine T_block ?_ | with_reducible refine T_inBlock ?_ | refine T_exit rfl ?_ | refine T_condV rfl ?_ | with_reducible refine Cnd_t ?_ | with_reducible refine Cnd_f ?_ | with_reducible refine Cnd_not ?_ | with_reducible refine Cnd_some ?_ | with_reducible refine Cnd_none ?_ | refine U_guard rfl rfl ?_ | with_reducible refine Gd_nt ?_ | with_reducible refine Gd_nf ?_ | with_reducible refine Gd_some ?_ | with_reducible refine Gd_none ?_ | with_reducible refine Gd_want ?_ | ((with_reducible refine Gd_skipT ?_ ?_); exact rfl) | ((with_reducible refine Gd_skipF ?_ ?_); exact rfl))
    refine L_begin (fun _ => True) 10 (by kernel_rfl) (N := 10) rfl (fun w2 hd2 => ?_)
    refine L_take 0 rfl (by kernel_rfl) (by kernel_rfl) (by kernel_rfl) (by kernel_rfl) trivial rfl rfl rfl (fun a ha w' _ => run_pv E ha rfl _ _ _ _ _) ?_
    refine L_take 1 rfl (by kernel_rfl) (by kernel_rfl) (by kernel_rfl) (by kernel_rfl) trivial rfl rfl rfl (fun a ha w' _ => run_pv E ha rfl _ _ _ _ _) ?_
    refine L_take 2 rfl (by kernel_rfl) (by kernel_rfl) (by kernel_rfl) (by kernel_rfl) trivial rfl rfl rfl (fun a ha w' _ => run_pv E ha rfl _ _ _ _ _) ?_
    refine L_take 3 rfl (by kernel_rfl) (by kernel_rfl) (by kernel_rfl) (by kernel_rfl) trivial rfl rfl rfl (fun a ha w' _ => ro_sliceS (L := none) (H := some (.tmp 14)) E (lv := none) (hv := some (.int .i64 i)) rfl rfl rfl rfl ⟨_, rfl, rfl⟩ (fun ht he => fa w' _ _ _ _ ht he rfl ⟨_, rfl⟩) a ha) ?_
    refine L_take 4 rfl (by kernel_rfl) (by kernel_rfl) (by kernel_rfl) (by kernel_rfl) trivial rfl rfl rfl (fun a ha w' _ => run_pv E ha rfl _ _ _ _ _) ?_
    refine L_take 5 rfl (by kernel_rfl) (by kernel_rfl) (by kernel_rfl) (by kernel_rfl) trivial rfl rfl rfl (fun a ha w' _ => run_pv E ha rfl _ _ _ _ _) ?_
    refine L_take 6 rfl (by kernel_rfl) (by kernel_rfl) (by kernel_rfl) (by kernel_rfl) trivial rfl rfl rfl (fun a ha w' _ => ro_sliceS (L := some (.tmp 17)) (H := none) E (lv := some (.int .i64 i)) (hv := none) rfl rfl rfl ⟨_, rfl, rfl⟩ rfl (fun ht he => fb w' _ _ _ _ ht he ⟨_, rfl⟩ rfl) a ha) ?_
    refine L_op 7 (by kernel_rfl) rfl (fun hc7 => ?_)
    refine U_buildSlice (sz := 1) E rfl rfl rfl rfl rfl rfl rfl rfl (segs := [[ra], [rb]]) (by obtain ⟨_, _, rfl⟩ := sa.len; obtain ⟨_, _, rfl⟩ := sb.len; rfl) (by simp) rfl ?_
    intro b w3 hn
    have hk3 : Kept none0 w1 w3 := (hd2.kept none0).tr hn.kept (fun _ _ x => x)
    refine U_nilL hc7 (fun _ => trivial) ?_
    refine L_op 8 (by kernel_rfl) rfl (fun hc8 => ?_)
    have hj := join_c w3 (fun x => x = b) (fun _ => True) (.slice (some ⟨b, 0, none⟩) 2 2) [ra, rb] [li.take i, lw.drop i] ⟨by simp, rfl, _, 2, rfl, Nat.le_refl _, .inr ⟨b, 0, rfl, rfl, hn.blk.lt, hn.blk.whole⟩⟩ rfl ?hs ?hN
    case hs =>
      intro j v l hv hl
      match j with
      | 0 => injection hv with hv; injection hl with hl; subst hv; subst hl; exact (sa'.mv hk3 (fun _ _ _ x => x)).mono (fun _ _ _ => trivial)
      | 1 => injection hv with hv; injection hl with hl; subst hv; subst hl; exact (sb'.mv hk3 (fun _ _ _ x => x)).mono (fun _ _ _ => trivial)
      | j + 2 => simp at hv
    case hN => simp only [List.flatten_cons, List.flatten_nil, List.append_nil, List.length_append, List.length_take, List.length_drop]; omega
    refine U_call rfl rfl (Try.call23 _) (hj) ?_
    rintro r w4 ⟨hk4, hr4⟩
    simp only [List.flatten_cons, List.flatten_nil, List.append_nil] at hr4
    have hk4' : Kept none0 w1 w4 := hk3.tr hk4 (fun _ _ x => x)
    refine U_nilL hc8 (fun _ => trivial) ?_
    refine L_op 9 (by kernel_rfl) rfl (fun hc9 => ?_)
    have hl4 : (li.take i ++ lw.drop i).length = 256 := by simp only [List.length_append, List.length_take, List.length_drop]; omega
    have hsm := same_c w4 G1 (fresh w3) vg r lg (li.take i ++ lw.drop i) (h11.mv hk4' (fun _ _ _ x => x)) (hr4.sl (by omega))
    refine U_call rfl rfl (Try.call14 _) (ret_of hsm) ?_
    rintro r2 w5 ⟨rfl, hd5⟩
    have hk5 : Kept none0 w w5 := (hk.tr hk4' (fun _ _ x => x)).tr (hd5.kept none0) (fun _ _ x => x)
    refine U_nilL hc9 (fun _ => trivial) ?_
    refine L_done (by kernel_rfl) ?_
    repeat (first | with_reducible refine T_seq ?_ | with_reducible refine T_region ?_ | with_reducible refine U_nil ?_ | refine U_ar rfl rfl rfl (wrap_i64 (by omega)) rfl ?_ | refine U_pure E rfl rfl ?_ | with_reducible refine T_skip ?_ | with_reducible refine T_block ?_ | with_reducible refine T_inBlock ?_ | refine T_exit rfl ?_ | refine T_condV rfl ?_ | with_reducible refine Cnd_t ?_ | with_reducible refine Cnd_f ?_ | with_reducible refine Cnd_not ?_ | with_reducible refine Cnd_some ?_ | with_reducible refine Cnd_none ?_ | refine U_guard rfl rfl ?_ | with_reducible refine Gd_nt ?_ | with_reducible refine Gd_nf ?_ | with_reducible refine Gd_some ?_ | with_reducible refine Gd_none ?_ | with_reducible refine Gd_want ?_ | ((with_reducible refine Gd_skipT ?_ ?_); exact rfl) | ((with_reducible refine Gd_skipF ?_ ?_); exact rfl))
    refine Cnd_p (fun he => ?_) (fun he => ?_)
    · repeat (first | with_reducible refine T_seq ?_ | with_reducible refine T_region ?_ | with_reducible refine U_nil ?_ | refine U_ar rfl rfl rfl (wrap_i64 (by omega)) rfl ?_ | refine U_pure E rfl rfl ?_ | with_reducible refine T_skip ?_ | with_reducible refine T_block ?_ | with_reducible refine T_inBlock ?_ | refine T_exit rfl ?_ | refine T_condV rfl ?_ | with_reducible refine Cnd_t ?_ | with_reducible refine Cnd_f ?_ | with_reducible refine Cnd_not ?_ | with_reducible refine Cnd_some ?_ | with_reducible refine Cnd_none ?_ | refine U_guard rfl rfl ?_ | with_reducible refine Gd_nt ?_ | with_reducible refine Gd_nf ?_ | with_reducible refine Gd_some ?_ | with_reducible refine Gd_none ?_ | with_reducible refine Gd_want ?_ | ((with_reducible refine Gd_skipT ?_ ?_); exact rfl) | ((with_reducible refine Gd_skipF ?_ ?_); exact rfl))
      exact T_ret1 Try.func15 rfl rfl ⟨_, rfl, rfl, hk5⟩
    · have hne : i ≠ k0 := fun e => he (by rw [e]; exact hg)
      repeat (first | with_reducible refine T_seq ?_ | with_reducible refine T_region ?_ | with_reducible refine U_nil ?_ | refine U_ar rfl rfl rfl (wrap_i64 (by omega)) rfl ?_ | refine U_pure E rfl rfl ?_ | with_reducible refine T_skip ?_ | with_reducible refine T_block ?_ | with_reducible refine T_inBlock ?_ | refine T_exit rfl ?_ | refine T_condV rfl ?_ | with_reducible refine Cnd_t ?_ | with_reducible refine Cnd_f ?_ | with_reducible refine Cnd_not ?_ | with_reducible refine Cnd_some ?_ | with_reducible refine Cnd_none ?_ | refine U_guard rfl rfl ?_ | with_reducible refine Gd_nt ?_ | with_reducible refine Gd_nf ?_ | with_reducible refine Gd_some ?_ | with_reducible refine Gd_none ?_ | with_reducible refine Gd_want ?_ | ((with_reducible refine Gd_skipT ?_ ?_); exact rfl) | ((with_reducible refine Gd_skipF ?_ ?_); exact rfl))
      refine T.less ?_ (ih (i + 1, w5) ?_ ?_)
      · exact ⟨rfl, rfl, rfl, rfl, trivial⟩
      · exact ⟨by dsimp only; omega, hk5⟩
      · dsimp only
        omega
  · exfalso
    omega
end Go.Proofs.Ytoefhdaenaiomaa
