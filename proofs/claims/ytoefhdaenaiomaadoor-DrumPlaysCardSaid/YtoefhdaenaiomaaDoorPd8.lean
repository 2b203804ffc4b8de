/- The document's drum: read; as it is flushed; one act less. -/
import Derived.Test.YtoefhdaenaiomaaDoorPd7
set_option linter.unusedVariables false
set_option linter.unusedSimpArgs false
namespace Go.Proofs.YtoefhdaenaiomaaDoor
open Go
set_option maxRecDepth 20000

def XS.offX (X : XS) : XS := if 0 < X.left then { X with left := X.left - 1 } else X

set_option maxHeartbeats 2000000 in
theorem off_c {w : World} {G : Nat → Prop} {xb : Nat} {vf vd : Value} {X : XS} (h : XM w G xb vf vd X) :
    Calls Tryd.prog 74 [ptr xb].toArray w (Ret fun r w' => r = .bool (decide (X.left = 0)) ∧ Kept (fun b => b = xb) w w' ∧ w'.heap.size = w.heap.size ∧ XM w' G xb vf vd X.offX) := by
  have hB := h.blk
  have hle := h.left
  refine calls_T Tryd.func74 rfl rfl rfl ?_
  unfold ptr at *
  repeat (first | (with_reducible first | apply T_seq | apply T_region | apply U_nil | apply T_skip | apply T_block | apply T_inBlock | apply Cnd_t | apply Cnd_f | apply Cnd_not | apply Cnd_some | apply Cnd_none | apply Gd_nt | apply Gd_nf | apply Gd_some | apply Gd_none | apply Gd_want) | refine U_ar rfl rfl rfl (wrap_k (by simp only [wrapOk]; omega)) rfl ?_ | refine U_cv E rfl rfl rfl (wrap_k (by simp only [wrapOk]; omega)) rfl ?_ | refine U_pure E rfl rfl ?_ | refine T_exit rfl ?_ | refine T_condV rfl ?_ | refine U_guard rfl rfl ?_ | ((with_reducible refine Gd_skipT ?_ ?_); exact rfl) | ((with_reducible refine Gd_skipF ?_ ?_); exact rfl))
  refine U_loadB E (by assumption) rfl rfl rfl (by rfl) rfl ?_
  repeat (first | (with_reducible first | apply T_seq | apply T_region | apply U_nil | apply T_skip | apply T_block | apply T_inBlock | apply Cnd_t | apply Cnd_f | apply Cnd_not | apply Cnd_some | apply Cnd_none | apply Gd_nt | apply Gd_nf | apply Gd_some | apply Gd_none | apply Gd_want) | refine U_ar rfl rfl rfl (wrap_k (by simp only [wrapOk]; omega)) rfl ?_ | refine U_cv E rfl rfl rfl (wrap_k (by simp only [wrapOk]; omega)) rfl ?_ | refine U_pure E rfl rfl ?_ | refine T_exit rfl ?_ | refine T_condV rfl ?_ | refine U_guard rfl rfl ?_ | ((with_reducible refine Gd_skipT ?_ ?_); exact rfl) | ((with_reducible refine Gd_skipF ?_ ?_); exact rfl))
  refine Cnd_p (fun h0 => ?_) (fun h0 => ?_)
  · repeat (first | (with_reducible first | apply T_seq | apply T_region | apply U_nil | apply T_skip | apply T_block | apply T_inBlock | apply Cnd_t | apply Cnd_f | apply Cnd_not | apply Cnd_some | apply Cnd_none | apply Gd_nt | apply Gd_nf | apply Gd_some | apply Gd_none | apply Gd_want) | refine U_ar rfl rfl rfl (wrap_k (by simp only [wrapOk]; omega)) rfl ?_ | refine U_cv E rfl rfl rfl (wrap_k (by simp only [wrapOk]; omega)) rfl ?_ | refine U_pure E rfl rfl ?_ | refine T_exit rfl ?_ | refine T_condV rfl ?_ | refine U_guard rfl rfl ?_ | ((with_reducible refine Gd_skipT ?_ ?_); exact rfl) | ((with_reducible refine Gd_skipF ?_ ?_); exact rfl))
    refine T_ret1 Tryd.func74 rfl rfl ⟨_, rfl, by rw [decide_eq_true h0], Kept.refl _ _, rfl, ?_⟩
    rw [XS.offX, if_neg (by omega)]
    exact h
  · repeat (first | (with_reducible first | apply T_seq | apply T_region | apply U_nil | apply T_skip | apply T_block | apply T_inBlock | apply Cnd_t | apply Cnd_f | apply Cnd_not | apply Cnd_some | apply Cnd_none | apply Gd_nt | apply Gd_nf | apply Gd_some | apply Gd_none | apply Gd_want) | refine U_ar rfl rfl rfl (wrap_k (by simp only [wrapOk]; omega)) rfl ?_ | refine U_cv E rfl rfl rfl (wrap_k (by simp only [wrapOk]; omega)) rfl ?_ | refine U_pure E rfl rfl ?_ | refine T_exit rfl ?_ | refine T_condV rfl ?_ | refine U_guard rfl rfl ?_ | ((with_reducible refine Gd_skipT ?_ ?_); exact rfl) | ((with_reducible refine Gd_skipF ?_ ?_); exact rfl))
    refine U_loadB E (by assumption) rfl rfl rfl (by rfl) rfl ?_
    repeat (first | (with_reducible first | apply T_seq | apply T_region | apply U_nil | apply T_skip | apply T_block | apply T_inBlock | apply Cnd_t | apply Cnd_f | apply Cnd_not | apply Cnd_some | apply Cnd_none | apply Gd_nt | apply Gd_nf | apply Gd_some | apply Gd_none | apply Gd_want) | refine U_ar rfl rfl rfl (wrap_k (by simp only [wrapOk]; omega)) rfl ?_ | refine U_cv E rfl rfl rfl (wrap_k (by simp only [wrapOk]; omega)) rfl ?_ | refine U_pure E rfl rfl ?_ | refine T_exit rfl ?_ | refine T_condV rfl ?_ | refine U_guard rfl rfl ?_ | ((with_reducible refine Gd_skipT ?_ ?_); exact rfl) | ((with_reducible refine Gd_skipF ?_ ?_); exact rfl))
    refine Cnd_p (fun h1 => ?_) (fun h1 => ?_)
    · repeat (first | (with_reducible first | apply T_seq | apply T_region | apply U_nil | apply T_skip | apply T_block | apply T_inBlock | apply Cnd_t | apply Cnd_f | apply Cnd_not | apply Cnd_some | apply Cnd_none | apply Gd_nt | apply Gd_nf | apply Gd_some | apply Gd_none | apply Gd_want) | refine U_ar rfl rfl rfl (wrap_k (by simp only [wrapOk]; omega)) rfl ?_ | refine U_cv E rfl rfl rfl (wrap_k (by simp only [wrapOk]; omega)) rfl ?_ | refine U_pure E rfl rfl ?_ | refine T_exit rfl ?_ | refine T_condV rfl ?_ | refine U_guard rfl rfl ?_ | ((with_reducible refine Gd_skipT ?_ ?_); exact rfl) | ((with_reducible refine Gd_skipF ?_ ?_); exact rfl))
      refine U_loadB E (by assumption) rfl rfl rfl (by rfl) rfl ?_
      repeat (first | (with_reducible first | apply T_seq | apply T_region | apply U_nil | apply T_skip | apply T_block | apply T_inBlock | apply Cnd_t | apply Cnd_f | apply Cnd_not | apply Cnd_some | apply Cnd_none | apply Gd_nt | apply Gd_nf | apply Gd_some | apply Gd_none | apply Gd_want) | refine U_ar rfl rfl rfl (wrap_k (by simp only [wrapOk]; omega)) rfl ?_ | refine U_cv E rfl rfl rfl (wrap_k (by simp only [wrapOk]; omega)) rfl ?_ | refine U_pure E rfl rfl ?_ | refine T_exit rfl ?_ | refine T_condV rfl ?_ | refine U_guard rfl rfl ?_ | ((with_reducible refine Gd_skipT ?_ ?_); exact rfl) | ((with_reducible refine Gd_skipF ?_ ?_); exact rfl))
      refine U_store E (hB) rfl rfl rfl (by simp) rfl ?_
      intro w2 hu
      repeat (first | (with_reducible first | apply T_seq | apply T_region | apply U_nil | apply T_skip | apply T_block | apply T_inBlock | apply Cnd_t | apply Cnd_f | apply Cnd_not | apply Cnd_some | apply Cnd_none | apply Gd_nt | apply Gd_nf | apply Gd_some | apply Gd_none | apply Gd_want) | refine U_ar rfl rfl rfl (wrap_k (by simp only [wrapOk]; omega)) rfl ?_ | refine U_cv E rfl rfl rfl (wrap_k (by simp only [wrapOk]; omega)) rfl ?_ | refine U_pure E rfl rfl ?_ | refine T_exit rfl ?_ | refine T_condV rfl ?_ | refine U_guard rfl rfl ?_ | ((with_reducible refine Gd_skipT ?_ ?_); exact rfl) | ((with_reducible refine Gd_skipF ?_ ?_); exact rfl))
      refine T_ret1 Tryd.func74 rfl rfl ⟨_, rfl, by rw [decide_eq_false h0], hu.kept, hu.size, ?_⟩
      rw [XS.offX, if_pos h1]
      refine ⟨h.mem, hu.blk, h.fst.mv hu.kept (fun b _ e (e2 : b = xb) => e.2 e2) (fun b _ e (e2 : b = xb) => e.2.1 e2), h.dds.mv hu.kept (fun b _ e (e2 : b = xb) => e.2.1 e2) (fun b _ e (e2 : b = xb) => e.2.1 e2), h.len, by dsimp only; omega⟩
    · repeat (first | (with_reducible first | apply T_seq | apply T_region | apply U_nil | apply T_skip | apply T_block | apply T_inBlock | apply Cnd_t | apply Cnd_f | apply Cnd_not | apply Cnd_some | apply Cnd_none | apply Gd_nt | apply Gd_nf | apply Gd_some | apply Gd_none | apply Gd_want) | refine U_ar rfl rfl rfl (wrap_k (by simp only [wrapOk]; omega)) rfl ?_ | refine U_cv E rfl rfl rfl (wrap_k (by simp only [wrapOk]; omega)) rfl ?_ | refine U_pure E rfl rfl ?_ | refine T_exit rfl ?_ | refine T_condV rfl ?_ | refine U_guard rfl rfl ?_ | ((with_reducible refine Gd_skipT ?_ ?_); exact rfl) | ((with_reducible refine Gd_skipF ?_ ?_); exact rfl))
      refine T_ret1 Tryd.func74 rfl rfl ⟨_, rfl, by rw [decide_eq_false h0], Kept.refl _ _, rfl, ?_⟩
      rw [XS.offX, if_neg h1]
      exact h

theorem dcs_take (ds : List (Int × Value)) (n : Nat) : dcs (ds.take n) = (dcs ds).take (n * 2) := by
  induction n generalizing ds with
  | zero => simp [dcs]
  | succ n ih =>
    cases ds with
    | nil => simp [dcs]
    | cons d ds =>
      rw [List.take_succ_cons]
      have e1 : dcs (d :: ds.take n) = dcells d ++ dcs (ds.take n) := rfl
      have e2 : dcs (d :: ds) = dcells d ++ dcs ds := rfl
      rw [e1, e2, ih, List.take_append, show (n + 1) * 2 - (dcells d).length = n * 2 by simp [dcells]; omega, List.take_of_length_le (l := dcells d) (by simp [dcells]; omega)]
theorem dsl_seg {w : World} {F : Nat → Prop} {v : Value} {ds : List (Int × Value)} (h : Sl w F v 2 ds.length (dcs ds)) {i : Nat} (hi : i < ds.length) : ∃ g o cap, v = .slice (some ⟨g, o, none⟩) ds.length cap ∧ F g ∧ Seg w g (o + i * 2) (dcells ds[i]) := by
  obtain ⟨_, _, A, c, rfl, _, h5⟩ := h
  rcases h5 with h5 | ⟨g, o, rfl, hF, _, hs⟩
  · omega
  · refine ⟨g, o, c, rfl, hF, fun q v hq => ?_⟩
    have hq2 : q < 2 := (List.getElem?_eq_some_iff.1 hq).1
    have := hs (i * 2 + q) v (by
      rw [dcs, flat_get (by decide : 0 < 2) _ (fun s hs => by obtain ⟨d, _, rfl⟩ := List.mem_map.1 hs; rfl), show (i * 2 + q) / 2 = i by omega, show (i * 2 + q) % 2 = q by omega, List.getElem?_map, List.getElem?_eq_getElem hi]
      exact hq)
    rwa [← Nat.add_assoc] at this

set_option maxHeartbeats 2000000 in
theorem xread_c {w : World} {G : Nat → Prop} {xb : Nat} {vf vd : Value} {X : XS} (h : XM w G xb vf vd X) (i : Nat) (hi : i < X.first.length) :
    Calls Tryd.prog 78 [ptr xb, .int .i64 i].toArray w (Ret fun r w' => Kept none0 w w' ∧ BS w' (Hx G xb vf vd) r (X.read i)) := by
  have hB := h.blk
  have hlen := h.len
  obtain ⟨fs, f1, f2, f3⟩ := h.fst
  obtain ⟨ds, d1, d2, d3⟩ := h.dds
  have hfs := f2.sl (by omega)
  have hds := d2.sl (by omega)
  obtain ⟨B, cb, rfl⟩ := f2.val
  obtain ⟨A, c, rfl⟩ := d2.val
  have hfi := f3 i _ _ (List.getElem?_eq_getElem (by omega)) (List.getElem?_eq_getElem hi)
  have hgi : fs[(i : Int).toNat]? = some (fs[i]'(by omega)) := by rw [Int.toNat_natCast, List.getElem?_eq_getElem (by omega)]
  refine calls_T Tryd.func78 rfl rfl rfl ?_
  unfold ptr at *
  repeat (first | (with_reducible first | apply T_seq | apply T_region | apply U_nil | apply T_skip | apply T_block | apply T_inBlock | apply Cnd_t | apply Cnd_f | apply Cnd_not | apply Cnd_some | apply Cnd_none | apply Gd_nt | apply Gd_nf | apply Gd_some | apply Gd_none | apply Gd_want) | refine U_ar rfl rfl rfl (wrap_k (by simp only [wrapOk]; omega)) rfl ?_ | refine U_cv E rfl rfl rfl (wrap_k (by simp only [wrapOk]; omega)) rfl ?_ | refine U_pure E rfl rfl ?_ | refine T_exit rfl ?_ | refine T_condV rfl ?_ | refine U_guard rfl rfl ?_ | ((with_reducible refine Gd_skipT ?_ ?_); exact rfl) | ((with_reducible refine Gd_skipF ?_ ?_); exact rfl))
  refine U_loadB E (by assumption) rfl rfl rfl (by rfl) rfl ?_
  repeat (first | (with_reducible first | apply T_seq | apply T_region | apply U_nil | apply T_skip | apply T_block | apply T_inBlock | apply Cnd_t | apply Cnd_f | apply Cnd_not | apply Cnd_some | apply Cnd_none | apply Gd_nt | apply Gd_nf | apply Gd_some | apply Gd_none | apply Gd_want) | refine U_ar rfl rfl rfl (wrap_k (by simp only [wrapOk]; omega)) rfl ?_ | refine U_cv E rfl rfl rfl (wrap_k (by simp only [wrapOk]; omega)) rfl ?_ | refine U_pure E rfl rfl ?_ | refine T_exit rfl ?_ | refine T_condV rfl ?_ | refine U_guard rfl rfl ?_ | ((with_reducible refine Gd_skipT ?_ ?_); exact rfl) | ((with_reducible refine Gd_skipF ?_ ?_); exact rfl))
  refine U_idx E (hfs) rfl rfl rfl rfl (by omega) (by omega) (hgi) rfl (fun p hp => ?_)
  refine U_load E rfl rfl rfl hp rfl ?_
  repeat (first | (with_reducible first | apply T_seq | apply T_region | apply U_nil | apply T_skip | apply T_block | apply T_inBlock | apply Cnd_t | apply Cnd_f | apply Cnd_not | apply Cnd_some | apply Cnd_none | apply Gd_nt | apply Gd_nf | apply Gd_some | apply Gd_none | apply Gd_want) | refine U_ar rfl rfl rfl (wrap_k (by simp only [wrapOk]; omega)) rfl ?_ | refine U_cv E rfl rfl rfl (wrap_k (by simp only [wrapOk]; omega)) rfl ?_ | refine U_pure E rfl rfl ?_ | refine T_exit rfl ?_ | refine T_condV rfl ?_ | refine U_guard rfl rfl ?_ | ((with_reducible refine Gd_skipT ?_ ?_); exact rfl) | ((with_reducible refine Gd_skipF ?_ ?_); exact rfl))
  refine U_loadB E (by assumption) rfl rfl rfl (by rfl) rfl ?_
  repeat (first | (with_reducible first | apply T_seq | apply T_region | apply U_nil | apply T_skip | apply T_block | apply T_inBlock | apply Cnd_t | apply Cnd_f | apply Cnd_not | apply Cnd_some | apply Cnd_none | apply Gd_nt | apply Gd_nf | apply Gd_some | apply Gd_none | apply Gd_want) | refine U_ar rfl rfl rfl (wrap_k (by simp only [wrapOk]; omega)) rfl ?_ | refine U_cv E rfl rfl rfl (wrap_k (by simp only [wrapOk]; omega)) rfl ?_ | refine U_pure E rfl rfl ?_ | refine T_exit rfl ?_ | refine T_condV rfl ?_ | refine U_guard rfl rfl ?_ | ((with_reducible refine Gd_skipT ?_ ?_); exact rfl) | ((with_reducible refine Gd_skipF ?_ ?_); exact rfl))
  refine T_loop (α := Nat × Value × World) (fun x => [(20, .int .i64 x.1), (19, .int .i64 ds.length), (18, .slice A ds.length c), (5, x.2.1), (1, .int .i64 i)]) (fun x => x.2.2) (fun x => ds.length - x.1)
    (fun x => x.1 ≤ ds.length ∧ Kept none0 w x.2.2 ∧ BS x.2.2 (Hx G xb (.slice B fs.length cb) (.slice A ds.length c)) x.2.1 (lastW (X.deeds.take x.1) i (X.first.getD i []))) (0, fs[i]'(by omega), w) ⟨Nat.zero_le _, Kept.refl _ _, ?h0⟩ ?hsub rfl ?_
  case h0 =>
    dsimp only
    rw [List.take_zero, List.getD_eq_getElem?_getD, List.getElem?_eq_getElem hi]
    exact hfi
  case hsub => exact ⟨rfl, rfl, rfl, rfl, rfl, trivial⟩
  rintro ⟨k, vo, w1⟩ ⟨hk, k1, hO⟩ ih
  dsimp only at hk k1 hO ⊢
  repeat (first | (with_reducible first | apply T_seq | apply T_region | apply U_nil | apply T_skip | apply T_block | apply T_inBlock | apply Cnd_t | apply Cnd_f | apply Cnd_not | apply Cnd_some | apply Cnd_none | apply Gd_nt | apply Gd_nf | apply Gd_some | apply Gd_none | apply Gd_want) | refine U_ar rfl rfl rfl (wrap_k (by simp only [wrapOk]; omega)) rfl ?_ | refine U_cv E rfl rfl rfl (wrap_k (by simp only [wrapOk]; omega)) rfl ?_ | refine U_pure E rfl rfl ?_ | refine T_exit rfl ?_ | refine T_condV rfl ?_ | refine U_guard rfl rfl ?_ | ((with_reducible refine Gd_skipT ?_ ?_); exact rfl) | ((with_reducible refine Gd_skipF ?_ ?_); exact rfl))
  refine Cnd_p (fun hlt => ?_) (fun hlt => ?_)
  · have hl1 : k < ds.length := by omega
    have hl2 : k < X.deeds.length := by omega
    obtain ⟨g, o, cap, hv, hg, hseg⟩ := dsl_seg hds hl1
    injection hv with hv1 hv2 hv3
    subst hv1
    obtain ⟨d, hd⟩ : ∃ d, ds[k] = d := ⟨_, rfl⟩
    obtain ⟨e, he⟩ : ∃ e, X.deeds[k] = e := ⟨_, rfl⟩
    have hel := d3 k _ _ (List.getElem?_eq_getElem hl1) (List.getElem?_eq_getElem hl2)
    rw [hd] at hseg hel
    rw [he] at hel
    have hseg1 := hseg.mv k1 (fun x => x)
    have hel1 := hel.2.mv k1 (fun _ _ _ x => x)
    have htk : lastW (X.deeds.take (k + 1)) i (X.first.getD i []) = if e.1 = (i : Int) then e.2 else lastW (X.deeds.take k) i (X.first.getD i []) := by rw [take_snoc X.deeds k hl2, lastW_snoc, he]
    repeat (first | (with_reducible first | apply T_seq | apply T_region | apply U_nil | apply T_skip | apply T_block | apply T_inBlock | apply Cnd_t | apply Cnd_f | apply Cnd_not | apply Cnd_some | apply Cnd_none | apply Gd_nt | apply Gd_nf | apply Gd_some | apply Gd_none | apply Gd_want) | refine U_ar rfl rfl rfl (wrap_k (by simp only [wrapOk]; omega)) rfl ?_ | refine U_cv E rfl rfl rfl (wrap_k (by simp only [wrapOk]; omega)) rfl ?_ | refine U_pure E rfl rfl ?_ | refine T_exit rfl ?_ | refine T_condV rfl ?_ | refine U_guard rfl rfl ?_ | ((with_reducible refine Gd_skipT ?_ ?_); exact rfl) | ((with_reducible refine Gd_skipF ?_ ?_); exact rfl))
    refine U_indexS (o' := o + k * 2) E rfl rfl rfl rfl (by omega) (by omega) (by rw [Int.toNat_natCast]) rfl ?_
    refine U_loadA E hseg1 rfl rfl rfl rfl rfl ?_
    refine U_alloc E rfl rfl rfl ?_
    intro b2 w2 hn2
    refine U_storeA E hn2.blk rfl rfl rfl rfl (by decide) (dcells_one hel1) ?_
    intro w3 hu3
    have hB3 : Blk w3 b2 (dcells d) 114 := by
      have := hu3.blk
      simpa [dcells] using this
    have e2 := hn2.at_
    have k13 : Kept none0 w1 w3 := hn2.kept.tr hu3.kept (fun j hj (e : j = b2) => by omega)
    repeat (first | (with_reducible first | apply T_seq | apply T_region | apply U_nil | apply T_skip | apply T_block | apply T_inBlock | apply Cnd_t | apply Cnd_f | apply Cnd_not | apply Cnd_some | apply Cnd_none | apply Gd_nt | apply Gd_nf | apply Gd_some | apply Gd_none | apply Gd_want) | refine U_ar rfl rfl rfl (wrap_k (by simp only [wrapOk]; omega)) rfl ?_ | refine U_cv E rfl rfl rfl (wrap_k (by simp only [wrapOk]; omega)) rfl ?_ | refine U_pure E rfl rfl ?_ | refine T_exit rfl ?_ | refine T_condV rfl ?_ | refine U_guard rfl rfl ?_ | ((with_reducible refine Gd_skipT ?_ ?_); exact rfl) | ((with_reducible refine Gd_skipF ?_ ?_); exact rfl))
    refine U_loadB E hB3 rfl rfl rfl rfl rfl ?_
    repeat (first | (with_reducible first | apply T_seq | apply T_region | apply U_nil | apply T_skip | apply T_block | apply T_inBlock | apply Cnd_t | apply Cnd_f | apply Cnd_not | apply Cnd_some | apply Cnd_none | apply Gd_nt | apply Gd_nf | apply Gd_some | apply Gd_none | apply Gd_want) | refine U_ar rfl rfl rfl (wrap_k (by simp only [wrapOk]; omega)) rfl ?_ | refine U_cv E rfl rfl rfl (wrap_k (by simp only [wrapOk]; omega)) rfl ?_ | refine U_pure E rfl rfl ?_ | refine T_exit rfl ?_ | refine T_condV rfl ?_ | refine U_guard rfl rfl ?_ | ((with_reducible refine Gd_skipT ?_ ?_); exact rfl) | ((with_reducible refine Gd_skipF ?_ ?_); exact rfl))
    refine Cnd_p (fun heq => ?_) (fun heq => ?_)
    · rw [if_pos (by rw [← hel.1]; exact heq)] at htk
      repeat (first | (with_reducible first | apply T_seq | apply T_region | apply U_nil | apply T_skip | apply T_block | apply T_inBlock | apply Cnd_t | apply Cnd_f | apply Cnd_not | apply Cnd_some | apply Cnd_none | apply Gd_nt | apply Gd_nf | apply Gd_some | apply Gd_none | apply Gd_want) | refine U_ar rfl rfl rfl (wrap_k (by simp only [wrapOk]; omega)) rfl ?_ | refine U_cv E rfl rfl rfl (wrap_k (by simp only [wrapOk]; omega)) rfl ?_ | refine U_pure E rfl rfl ?_ | refine T_exit rfl ?_ | refine T_condV rfl ?_ | refine U_guard rfl rfl ?_ | ((with_reducible refine Gd_skipT ?_ ?_); exact rfl) | ((with_reducible refine Gd_skipF ?_ ?_); exact rfl))
      refine U_loadB E hB3 rfl rfl rfl rfl rfl ?_
      repeat (first | (with_reducible first | apply T_seq | apply T_region | apply U_nil | apply T_skip | apply T_block | apply T_inBlock | apply Cnd_t | apply Cnd_f | apply Cnd_not | apply Cnd_some | apply Cnd_none | apply Gd_nt | apply Gd_nf | apply Gd_some | apply Gd_none | apply Gd_want) | refine U_ar rfl rfl rfl (wrap_k (by simp only [wrapOk]; omega)) rfl ?_ | refine U_cv E rfl rfl rfl (wrap_k (by simp only [wrapOk]; omega)) rfl ?_ | refine U_pure E rfl rfl ?_ | refine T_exit rfl ?_ | refine T_condV rfl ?_ | refine U_guard rfl rfl ?_ | ((with_reducible refine Gd_skipT ?_ ?_); exact rfl) | ((with_reducible refine Gd_skipF ?_ ?_); exact rfl))
      refine T.less ?_ (ih (k + 1, d.2, w3) ⟨by omega, k1.tr k13 (fun _ _ x => x), by dsimp only; rw [htk]; exact hel1.mv k13 (fun _ _ _ x => x)⟩ (by dsimp only; omega))
      exact ⟨rfl, rfl, rfl, rfl, rfl, trivial⟩
    · rw [if_neg (by rw [← hel.1]; exact heq)] at htk
      repeat (first | (with_reducible first | apply T_seq | apply T_region | apply U_nil | apply T_skip | apply T_block | apply T_inBlock | apply Cnd_t | apply Cnd_f | apply Cnd_not | apply Cnd_some | apply Cnd_none | apply Gd_nt | apply Gd_nf | apply Gd_some | apply Gd_none | apply Gd_want) | refine U_ar rfl rfl rfl (wrap_k (by simp only [wrapOk]; omega)) rfl ?_ | refine U_cv E rfl rfl rfl (wrap_k (by simp only [wrapOk]; omega)) rfl ?_ | refine U_pure E rfl rfl ?_ | refine T_exit rfl ?_ | refine T_condV rfl ?_ | refine U_guard rfl rfl ?_ | ((with_reducible refine Gd_skipT ?_ ?_); exact rfl) | ((with_reducible refine Gd_skipF ?_ ?_); exact rfl))
      refine T.less ?_ (ih (k + 1, vo, w3) ⟨by omega, k1.tr k13 (fun _ _ x => x), by dsimp only; rw [htk]; exact hO.mv k13 (fun _ _ _ x => x)⟩ (by dsimp only; omega))
      exact ⟨rfl, rfl, rfl, rfl, rfl, trivial⟩
  · have hie : k = ds.length := by omega
    subst hie
    rw [show X.deeds.take ds.length = X.deeds by rw [d1, List.take_length]] at hO
    repeat (first | (with_reducible first | apply T_seq | apply T_region | apply U_nil | apply T_skip | apply T_block | apply T_inBlock | apply Cnd_t | apply Cnd_f | apply Cnd_not | apply Cnd_some | apply Cnd_none | apply Gd_nt | apply Gd_nf | apply Gd_some | apply Gd_none | apply Gd_want) | refine U_ar rfl rfl rfl (wrap_k (by simp only [wrapOk]; omega)) rfl ?_ | refine U_cv E rfl rfl rfl (wrap_k (by simp only [wrapOk]; omega)) rfl ?_ | refine U_pure E rfl rfl ?_ | refine T_exit rfl ?_ | refine T_condV rfl ?_ | refine U_guard rfl rfl ?_ | ((with_reducible refine Gd_skipT ?_ ?_); exact rfl) | ((with_reducible refine Gd_skipF ?_ ?_); exact rfl))
    exact T_ret1 Tryd.func78 rfl rfl ⟨_, rfl, k1, hO⟩

set_option maxHeartbeats 4000000 in
theorem xsafe_c {w : World} {G : Nat → Prop} {xb : Nat} {vf vd : Value} {X : XS} (h : XM w G xb vf vd X) (i : Nat) (hi : i < X.first.length) :
    Calls Tryd.prog 75 [ptr xb, .int .i64 i].toArray w (Ret fun r w' => Kept none0 w w' ∧ BS w' (Hx G xb vf vd) r (X.safe i)) := by
  have h0 := h
  have hB := h.blk
  have hlen := h.len
  have hwl := wts_len X.deeds
  obtain ⟨fs, f1, f2, f3⟩ := h.fst
  obtain ⟨ds, d1, d2, d3⟩ := h.dds
  have hfs := f2.sl (by omega)
  have hds := d2.sl (by omega)
  obtain ⟨B, cb, rfl⟩ := f2.val
  obtain ⟨A, c, rfl⟩ := d2.val
  have hfi := f3 i _ _ (List.getElem?_eq_getElem (by omega)) (List.getElem?_eq_getElem hi)
  have hgi : fs[(i : Int).toNat]? = some (fs[i]'(by omega)) := by rw [Int.toNat_natCast, List.getElem?_eq_getElem (by omega)]
  obtain ⟨N, hN⟩ : ∃ N, X.deeds.length - (wts X.deeds).length = N := ⟨_, rfl⟩
  refine calls_T Tryd.func75 rfl rfl rfl ?_
  unfold ptr at *
  repeat (first | (with_reducible first | apply T_seq | apply T_region | apply U_nil | apply T_skip | apply T_block | apply T_inBlock | apply Cnd_t | apply Cnd_f | apply Cnd_not | apply Cnd_some | apply Cnd_none | apply Gd_nt | apply Gd_nf | apply Gd_some | apply Gd_none | apply Gd_want) | refine U_ar rfl rfl rfl (wrap_k (by simp only [wrapOk]; omega)) rfl ?_ | refine U_cv E rfl rfl rfl (wrap_k (by simp only [wrapOk]; omega)) rfl ?_ | refine U_pure E rfl rfl ?_ | refine T_exit rfl ?_ | refine T_condV rfl ?_ | refine U_guard rfl rfl ?_ | ((with_reducible refine Gd_skipT ?_ ?_); exact rfl) | ((with_reducible refine Gd_skipF ?_ ?_); exact rfl))
  refine L_begin (fun W => Blk W xb [.slice B fs.length cb, .slice A ds.length c, .int .i64 X.left] 111) 10 (by kernel_rfl) (N := 10) rfl (fun w1 hd1 => ?_)
  have hB1 := hB.mv (hd1.kept none0) (fun x => x)
  have h1 := h0.same (hd1.kept none0)
  have hwt := waits_c h1
  unfold ptr at *
  refine L_take 0 rfl (by kernel_rfl) (by kernel_rfl) (by kernel_rfl) (by kernel_rfl) hB1 rfl rfl rfl (fun a ha w' _ => run_pv E ha rfl _ _ _ _ _) ?_; refine L_take 1 rfl (by kernel_rfl) (by kernel_rfl) (by kernel_rfl) (by kernel_rfl) hB1 rfl rfl rfl (fun a ha w' _ => run_pv E ha rfl _ _ _ _ _) ?_; refine L_take 2 rfl (by kernel_rfl) (by kernel_rfl) (by kernel_rfl) (by kernel_rfl) hB1 rfl rfl rfl (fun a ha w' _ => run_pv E ha rfl _ _ _ _ _) ?_
  refine L_take 3 rfl (by kernel_rfl) (by kernel_rfl) (by kernel_rfl) (by kernel_rfl) hB1 rfl rfl rfl (fun a ha w' hS => ro_loadB E hS rfl rfl rfl rfl a ha) ?_
  refine L_take 4 rfl (by kernel_rfl) (by kernel_rfl) (by kernel_rfl) (by kernel_rfl) hB1 rfl rfl rfl (fun a ha w' _ => run_pv E ha rfl _ _ _ _ _) ?_; refine L_take 5 rfl (by kernel_rfl) (by kernel_rfl) (by kernel_rfl) (by kernel_rfl) hB1 rfl rfl rfl (fun a ha w' _ => run_pv E ha rfl _ _ _ _ _) ?_
  refine L_op 6 (by kernel_rfl) rfl (fun hc => ?_)
  refine U_call rfl rfl (Tryd.call76 _) (hwt) ?_
  rintro r w2 ⟨k2, es, e1, e2, e3⟩
  obtain ⟨Ae, ce, rfl⟩ := e2.val
  have k02 : Kept none0 w w2 := (hd1.kept none0).tr k2 (fun _ _ x => x)
  have hB2 := hB.mv k02 (fun x => x)
  refine U_nilL hc (fun _ => hB2) ?_
  refine L_take 7 rfl (by kernel_rfl) (by kernel_rfl) (by kernel_rfl) (by kernel_rfl) hB2 rfl rfl rfl (fun a ha w' _ => run_pv E ha rfl _ _ _ _ _) ?_
  refine L_take 8 rfl (by kernel_rfl) (by kernel_rfl) (by kernel_rfl) (by kernel_rfl) hB2 rfl rfl rfl (fun a ha w' _ => ro_ar rfl rfl rfl (wrap_k (by simp only [wrapOk]; omega)) a ha) ?_
  refine L_take 9 rfl (by kernel_rfl) (by kernel_rfl) (by kernel_rfl) (by kernel_rfl) hB2 rfl rfl rfl (fun a ha w' _ => run_pv E ha rfl _ _ _ _ _) ?_
  refine L_done (by kernel_rfl) ?_
  repeat (first | (with_reducible first | apply T_seq | apply T_region | apply U_nil | apply T_skip | apply T_block | apply T_inBlock | apply Cnd_t | apply Cnd_f | apply Cnd_not | apply Cnd_some | apply Cnd_none | apply Gd_nt | apply Gd_nf | apply Gd_some | apply Gd_none | apply Gd_want) | refine U_ar rfl rfl rfl (wrap_k (by simp only [wrapOk]; omega)) rfl ?_ | refine U_cv E rfl rfl rfl (wrap_k (by simp only [wrapOk]; omega)) rfl ?_ | refine U_pure E rfl rfl ?_ | refine T_exit rfl ?_ | refine T_condV rfl ?_ | refine U_guard rfl rfl ?_ | ((with_reducible refine Gd_skipT ?_ ?_); exact rfl) | ((with_reducible refine Gd_skipF ?_ ?_); exact rfl))
  refine U_loadB E hB2 rfl rfl rfl rfl rfl ?_
  repeat (first | (with_reducible first | apply T_seq | apply T_region | apply U_nil | apply T_skip | apply T_block | apply T_inBlock | apply Cnd_t | apply Cnd_f | apply Cnd_not | apply Cnd_some | apply Cnd_none | apply Gd_nt | apply Gd_nf | apply Gd_some | apply Gd_none | apply Gd_want) | refine U_ar rfl rfl rfl (wrap_k (by simp only [wrapOk]; omega)) rfl ?_ | refine U_cv E rfl rfl rfl (wrap_k (by simp only [wrapOk]; omega)) rfl ?_ | refine U_pure E rfl rfl ?_ | refine T_exit rfl ?_ | refine T_condV rfl ?_ | refine U_guard rfl rfl ?_ | ((with_reducible refine Gd_skipT ?_ ?_); exact rfl) | ((with_reducible refine Gd_skipF ?_ ?_); exact rfl))
  refine U_idx E (hfs.mv k02 (fun _ _ _ x => x)) rfl rfl rfl rfl (by omega) (by omega) (hgi) rfl (fun p hp => ?_)
  refine U_load E rfl rfl rfl hp rfl ?_
  repeat (first | (with_reducible first | apply T_seq | apply T_region | apply U_nil | apply T_skip | apply T_block | apply T_inBlock | apply Cnd_t | apply Cnd_f | apply Cnd_not | apply Cnd_some | apply Cnd_none | apply Gd_nt | apply Gd_nf | apply Gd_some | apply Gd_none | apply Gd_want) | refine U_ar rfl rfl rfl (wrap_k (by simp only [wrapOk]; omega)) rfl ?_ | refine U_cv E rfl rfl rfl (wrap_k (by simp only [wrapOk]; omega)) rfl ?_ | refine U_pure E rfl rfl ?_ | refine T_exit rfl ?_ | refine T_condV rfl ?_ | refine U_guard rfl rfl ?_ | ((with_reducible refine Gd_skipT ?_ ?_); exact rfl) | ((with_reducible refine Gd_skipF ?_ ?_); exact rfl))
  refine U_loadB E hB2 rfl rfl rfl rfl rfl ?_
  repeat (first | (with_reducible first | apply T_seq | apply T_region | apply U_nil | apply T_skip | apply T_block | apply T_inBlock | apply Cnd_t | apply Cnd_f | apply Cnd_not | apply Cnd_some | apply Cnd_none | apply Gd_nt | apply Gd_nf | apply Gd_some | apply Gd_none | apply Gd_want) | refine U_ar rfl rfl rfl (wrap_k (by simp only [wrapOk]; omega)) rfl ?_ | refine U_cv E rfl rfl rfl (wrap_k (by simp only [wrapOk]; omega)) rfl ?_ | refine U_pure E rfl rfl ?_ | refine T_exit rfl ?_ | refine T_condV rfl ?_ | refine U_guard rfl rfl ?_ | ((with_reducible refine Gd_skipT ?_ ?_); exact rfl) | ((with_reducible refine Gd_skipF ?_ ?_); exact rfl))
  obtain ⟨rs, hr1, hr2⟩ := slice_sl (P := Tryd.prog) (hds.mv k02 (fun _ _ _ x => x)) 0 N (Nat.zero_le _) (by omega)
  simp only [Nat.zero_mul, List.drop_zero, Nat.sub_zero] at hr1
  rw [← dcs_take] at hr1
  have htl : (ds.take N).length = N := by rw [List.length_take]; omega
  have hr1 : Sl w2 (fun b => G b ∧ b ≠ xb ∧ (Value.slice B fs.length cb).ownBlock ≠ some b) rs 2 (ds.take N).length (dcs (ds.take N)) := by rw [htl]; exact hr1
  have hNI : (ds.length : Int) - es.length = (N : Int) := by omega
  rw [hNI]
  refine U_run rfl rfl rfl (ro_sliceS (L := none) (H := some (.tmp 29)) (lv := none) (hv := some (.int .i64 N)) E rfl rfl rfl rfl ⟨_, rfl, rfl⟩ (fun ht hi => hr2 _ _ _ none (some (.int .i64 N)) ht hi rfl ⟨_, rfl⟩)) ?_
  obtain ⟨Ar, cr, hre⟩ := hr1.len
  subst hre
  repeat (first | (with_reducible first | apply T_seq | apply T_region | apply U_nil | apply T_skip | apply T_block | apply T_inBlock | apply Cnd_t | apply Cnd_f | apply Cnd_not | apply Cnd_some | apply Cnd_none | apply Gd_nt | apply Gd_nf | apply Gd_some | apply Gd_none | apply Gd_want) | refine U_ar rfl rfl rfl (wrap_k (by simp only [wrapOk]; omega)) rfl ?_ | refine U_cv E rfl rfl rfl (wrap_k (by simp only [wrapOk]; omega)) rfl ?_ | refine U_pure E rfl rfl ?_ | refine T_exit rfl ?_ | refine T_condV rfl ?_ | refine U_guard rfl rfl ?_ | ((with_reducible refine Gd_skipT ?_ ?_); exact rfl) | ((with_reducible refine Gd_skipF ?_ ?_); exact rfl))
  refine T_loop (α := Nat × Value × World) (fun x => [(32, .int .i64 x.1), (31, .int .i64 (ds.take N).length), (30, .slice Ar (ds.take N).length cr), (6, x.2.1), (1, .int .i64 i)]) (fun x => x.2.2) (fun x => N - x.1)
    (fun x => x.1 ≤ N ∧ Kept none0 w2 x.2.2 ∧ BS x.2.2 (Hx G xb (.slice B fs.length cb) (.slice A ds.length c)) x.2.1 (lastW (X.deeds.take x.1) i (X.first.getD i []))) (0, fs[i]'(by omega), w2) ⟨Nat.zero_le _, Kept.refl _ _, ?h0⟩ ?hsub rfl ?_
  case h0 =>
    dsimp only
    rw [List.take_zero, List.getD_eq_getElem?_getD, List.getElem?_eq_getElem hi]
    exact hfi.mv k02 (fun _ _ _ x => x)
  case hsub => exact ⟨rfl, rfl, rfl, rfl, rfl, trivial⟩
  rintro ⟨k, vo, w3⟩ ⟨hk, k3, hO⟩ ih
  dsimp only at hk k3 hO ⊢
  repeat (first | (with_reducible first | apply T_seq | apply T_region | apply U_nil | apply T_skip | apply T_block | apply T_inBlock | apply Cnd_t | apply Cnd_f | apply Cnd_not | apply Cnd_some | apply Cnd_none | apply Gd_nt | apply Gd_nf | apply Gd_some | apply Gd_none | apply Gd_want) | refine U_ar rfl rfl rfl (wrap_k (by simp only [wrapOk]; omega)) rfl ?_ | refine U_cv E rfl rfl rfl (wrap_k (by simp only [wrapOk]; omega)) rfl ?_ | refine U_pure E rfl rfl ?_ | refine T_exit rfl ?_ | refine T_condV rfl ?_ | refine U_guard rfl rfl ?_ | ((with_reducible refine Gd_skipT ?_ ?_); exact rfl) | ((with_reducible refine Gd_skipF ?_ ?_); exact rfl))
  refine Cnd_p (fun hlt => ?_) (fun hlt => ?_)
  · have hl1 : k < ds.length := by omega
    have hl2 : k < X.deeds.length := by omega
    have hl3 : k < (ds.take N).length := by omega
    obtain ⟨g, o, cap, hv, hg, hseg⟩ := dsl_seg hr1 hl3
    injection hv with hv1 hv2 hv3
    subst hv1
    obtain ⟨d, hd⟩ : ∃ d, ds[k] = d := ⟨_, rfl⟩
    obtain ⟨e, he⟩ : ∃ e, X.deeds[k] = e := ⟨_, rfl⟩
    have hel := d3 k _ _ (List.getElem?_eq_getElem hl1) (List.getElem?_eq_getElem hl2)
    rw [List.getElem_take, hd] at hseg
    rw [hd] at hel
    rw [he] at hel
    have hseg1 := hseg.mv k3 (fun x => x)
    have hel1 := (hel.2.mv k02 (fun _ _ _ x => x)).mv k3 (fun _ _ _ x => x)
    have htk : lastW (X.deeds.take (k + 1)) i (X.first.getD i []) = if e.1 = (i : Int) then e.2 else lastW (X.deeds.take k) i (X.first.getD i []) := by rw [take_snoc X.deeds k hl2, lastW_snoc, he]
    repeat (first | (with_reducible first | apply T_seq | apply T_region | apply U_nil | apply T_skip | apply T_block | apply T_inBlock | apply Cnd_t | apply Cnd_f | apply Cnd_not | apply Cnd_some | apply Cnd_none | apply Gd_nt | apply Gd_nf | apply Gd_some | apply Gd_none | apply Gd_want) | refine U_ar rfl rfl rfl (wrap_k (by simp only [wrapOk]; omega)) rfl ?_ | refine U_cv E rfl rfl rfl (wrap_k (by simp only [wrapOk]; omega)) rfl ?_ | refine U_pure E rfl rfl ?_ | refine T_exit rfl ?_ | refine T_condV rfl ?_ | refine U_guard rfl rfl ?_ | ((with_reducible refine Gd_skipT ?_ ?_); exact rfl) | ((with_reducible refine Gd_skipF ?_ ?_); exact rfl))
    refine U_indexS (o' := o + k * 2) E rfl rfl rfl rfl (by omega) (by omega) (by rw [Int.toNat_natCast]) rfl ?_
    refine U_loadA E hseg1 rfl rfl rfl rfl rfl ?_
    refine U_alloc E rfl rfl rfl ?_
    intro b4 w4 hn4
    refine U_storeA E hn4.blk rfl rfl rfl rfl (by decide) (dcells_one hel1) ?_
    intro w5 hu5
    have hB5 : Blk w5 b4 (dcells d) 114 := by
      have := hu5.blk
      simpa [dcells] using this
    have e4 := hn4.at_
    have k35 : Kept none0 w3 w5 := hn4.kept.tr hu5.kept (fun j hj (e : j = b4) => by omega)
    repeat (first | (with_reducible first | apply T_seq | apply T_region | apply U_nil | apply T_skip | apply T_block | apply T_inBlock | apply Cnd_t | apply Cnd_f | apply Cnd_not | apply Cnd_some | apply Cnd_none | apply Gd_nt | apply Gd_nf | apply Gd_some | apply Gd_none | apply Gd_want) | refine U_ar rfl rfl rfl (wrap_k (by simp only [wrapOk]; omega)) rfl ?_ | refine U_cv E rfl rfl rfl (wrap_k (by simp only [wrapOk]; omega)) rfl ?_ | refine U_pure E rfl rfl ?_ | refine T_exit rfl ?_ | refine T_condV rfl ?_ | refine U_guard rfl rfl ?_ | ((with_reducible refine Gd_skipT ?_ ?_); exact rfl) | ((with_reducible refine Gd_skipF ?_ ?_); exact rfl))
    refine U_loadB E hB5 rfl rfl rfl rfl rfl ?_
    repeat (first | (with_reducible first | apply T_seq | apply T_region | apply U_nil | apply T_skip | apply T_block | apply T_inBlock | apply Cnd_t | apply Cnd_f | apply Cnd_not | apply Cnd_some | apply Cnd_none | apply Gd_nt | apply Gd_nf | apply Gd_some | apply Gd_none | apply Gd_want) | refine U_ar rfl rfl rfl (wrap_k (by simp only [wrapOk]; omega)) rfl ?_ | refine U_cv E rfl rfl rfl (wrap_k (by simp only [wrapOk]; omega)) rfl ?_ | refine U_pure E rfl rfl ?_ | refine T_exit rfl ?_ | refine T_condV rfl ?_ | refine U_guard rfl rfl ?_ | ((with_reducible refine Gd_skipT ?_ ?_); exact rfl) | ((with_reducible refine Gd_skipF ?_ ?_); exact rfl))
    refine Cnd_p (fun heq => ?_) (fun heq => ?_)
    · rw [if_pos (by rw [← hel.1]; exact heq)] at htk
      repeat (first | (with_reducible first | apply T_seq | apply T_region | apply U_nil | apply T_skip | apply T_block | apply T_inBlock | apply Cnd_t | apply Cnd_f | apply Cnd_not | apply Cnd_some | apply Cnd_none | apply Gd_nt | apply Gd_nf | apply Gd_some | apply Gd_none | apply Gd_want) | refine U_ar rfl rfl rfl (wrap_k (by simp only [wrapOk]; omega)) rfl ?_ | refine U_cv E rfl rfl rfl (wrap_k (by simp only [wrapOk]; omega)) rfl ?_ | refine U_pure E rfl rfl ?_ | refine T_exit rfl ?_ | refine T_condV rfl ?_ | refine U_guard rfl rfl ?_ | ((with_reducible refine Gd_skipT ?_ ?_); exact rfl) | ((with_reducible refine Gd_skipF ?_ ?_); exact rfl))
      refine U_loadB E hB5 rfl rfl rfl rfl rfl ?_
      repeat (first | (with_reducible first | apply T_seq | apply T_region | apply U_nil | apply T_skip | apply T_block | apply T_inBlock | apply Cnd_t | apply Cnd_f | apply Cnd_not | apply Cnd_some | apply Cnd_none | apply Gd_nt | apply Gd_nf | apply Gd_some | apply Gd_none | apply Gd_want) | refine U_ar rfl rfl rfl (wrap_k (by simp only [wrapOk]; omega)) rfl ?_ | refine U_cv E rfl rfl rfl (wrap_k (by simp only [wrapOk]; omega)) rfl ?_ | refine U_pure E rfl rfl ?_ | refine T_exit rfl ?_ | refine T_condV rfl ?_ | refine U_guard rfl rfl ?_ | ((with_reducible refine Gd_skipT ?_ ?_); exact rfl) | ((with_reducible refine Gd_skipF ?_ ?_); exact rfl))
      refine T.less ?_ (ih (k + 1, d.2, w5) ⟨by omega, k3.tr k35 (fun _ _ x => x), by dsimp only; rw [htk]; exact hel1.mv k35 (fun _ _ _ x => x)⟩ (by dsimp only; omega))
      exact ⟨rfl, rfl, rfl, rfl, rfl, trivial⟩
    · rw [if_neg (by rw [← hel.1]; exact heq)] at htk
      repeat (first | (with_reducible first | apply T_seq | apply T_region | apply U_nil | apply T_skip | apply T_block | apply T_inBlock | apply Cnd_t | apply Cnd_f | apply Cnd_not | apply Cnd_some | apply Cnd_none | apply Gd_nt | apply Gd_nf | apply Gd_some | apply Gd_none | apply Gd_want) | refine U_ar rfl rfl rfl (wrap_k (by simp only [wrapOk]; omega)) rfl ?_ | refine U_cv E rfl rfl rfl (wrap_k (by simp only [wrapOk]; omega)) rfl ?_ | refine U_pure E rfl rfl ?_ | refine T_exit rfl ?_ | refine T_condV rfl ?_ | refine U_guard rfl rfl ?_ | ((with_reducible refine Gd_skipT ?_ ?_); exact rfl) | ((with_reducible refine Gd_skipF ?_ ?_); exact rfl))
      refine T.less ?_ (ih (k + 1, vo, w5) ⟨by omega, k3.tr k35 (fun _ _ x => x), by dsimp only; rw [htk]; exact hO.mv k35 (fun _ _ _ x => x)⟩ (by dsimp only; omega))
      exact ⟨rfl, rfl, rfl, rfl, rfl, trivial⟩
  · have hie : k = N := by omega
    subst hie
    repeat (first | (with_reducible first | apply T_seq | apply T_region | apply U_nil | apply T_skip | apply T_block | apply T_inBlock | apply Cnd_t | apply Cnd_f | apply Cnd_not | apply Cnd_some | apply Cnd_none | apply Gd_nt | apply Gd_nf | apply Gd_some | apply Gd_none | apply Gd_want) | refine U_ar rfl rfl rfl (wrap_k (by simp only [wrapOk]; omega)) rfl ?_ | refine U_cv E rfl rfl rfl (wrap_k (by simp only [wrapOk]; omega)) rfl ?_ | refine U_pure E rfl rfl ?_ | refine T_exit rfl ?_ | refine T_condV rfl ?_ | refine U_guard rfl rfl ?_ | ((with_reducible refine Gd_skipT ?_ ?_); exact rfl) | ((with_reducible refine Gd_skipF ?_ ?_); exact rfl))
    refine T_ret1 Tryd.func75 rfl rfl ⟨_, rfl, k02.tr k3 (fun _ _ x => x), ?_⟩
    rw [XS.safe, hN]
    exact hO
end Go.Proofs.YtoefhdaenaiomaaDoor

/- The document's drum: a new one; sectors set. -/
namespace Go.Proofs.YtoefhdaenaiomaaDoor
open Go
set_option maxRecDepth 20000

theorem FSl.snoc {F H : Nat → Prop} {w w1 w2 : World} {vo vo' : Value} {us : List Value} {l : List (List UInt8)} {v : Value} {p : List UInt8} (hF : ∀ b, w1.heap.size ≤ b → F b) (h1 : us.length = l.length)
    (h3 : ∀ (j : Nat) u q, us[j]? = some u → l[j]? = some q → BS w H u q) (hp : BS w H v p) (hH : ∀ b, b < w.heap.size → H b → vo.ownBlock ≠ some b) (k : Kept (fun b => vo.ownBlock = some b) w w2)
    (hr : Row w2 (fun b => F b ∨ w1.heap.size ≤ b) vo' 1 (us.length + 1) (us ++ [v]) 23) : FSl w2 F H vo' (l ++ [p]) := by
  refine ⟨us ++ [v], by rw [List.length_append, List.length_append, h1]; rfl, ?_, fun j u q hu hq => ?_⟩
  · rw [List.length_append]
    exact hr.mono (fun b _ e => e.elim (fun x => x) (hF b))
  · rcases Nat.lt_or_ge j us.length with hj | hj
    · rw [List.getElem?_append_left hj] at hu
      rw [List.getElem?_append_left (by omega)] at hq
      exact (h3 j u q hu hq).mv k hH
    · rw [List.getElem?_append_right hj] at hu
      rw [List.getElem?_append_right (by omega), ← h1] at hq
      have h0 : j - us.length = 0 := by
        have := (List.getElem?_eq_some_iff.1 hu).1
        simp at this
        omega
      rw [h0] at hu hq
      injection hu with hu
      injection hq with hq
      subst hu
      subst hq
      exact hp.mv k hH

def XS.new (n : Nat) : XS := ⟨List.replicate n (zeros 256), [], -1⟩

set_option maxHeartbeats 4000000 in
theorem xnew_c (w : World) (n : Nat) (hn : n ≤ 9000) :
    Calls Tryd.prog 31 [.int .i64 n].toArray w (Ret fun r w' => Kept none0 w w' ∧ ∃ xb vf, r = ptr xb ∧ XM w' (fresh w) xb vf (.slice none 0 0) (XS.new n)) := by
  refine calls_T Tryd.func31 rfl rfl rfl ?_
  repeat (first | (with_reducible first | apply T_seq | apply T_region | apply U_nil | apply T_skip | apply T_block | apply T_inBlock | apply Cnd_t | apply Cnd_f | apply Cnd_not | apply Cnd_some | apply Cnd_none | apply Gd_nt | apply Gd_nf | apply Gd_some | apply Gd_none | apply Gd_want) | refine U_ar rfl rfl rfl (wrap_k (by simp only [wrapOk]; omega)) rfl ?_ | refine U_cv E rfl rfl rfl (wrap_k (by simp only [wrapOk]; omega)) rfl ?_ | refine U_pure E rfl rfl ?_ | refine T_exit rfl ?_ | refine T_condV rfl ?_ | refine U_guard rfl rfl ?_ | ((with_reducible refine Gd_skipT ?_ ?_); exact rfl) | ((with_reducible refine Gd_skipF ?_ ?_); exact rfl))
  refine U_build (cells := [.slice none 0 0, .slice none 0 0, .int .i64 (-1)]) rfl (by kernel_rfl) rfl ?_
  refine U_box E rfl rfl rfl ?_
  intro xb w1 hn1
  have e1 := hn1.at_
  repeat (first | (with_reducible first | apply T_seq | apply T_region | apply U_nil | apply T_skip | apply T_block | apply T_inBlock | apply Cnd_t | apply Cnd_f | apply Cnd_not | apply Cnd_some | apply Cnd_none | apply Gd_nt | apply Gd_nf | apply Gd_some | apply Gd_none | apply Gd_want) | refine U_ar rfl rfl rfl (wrap_k (by simp only [wrapOk]; omega)) rfl ?_ | refine U_cv E rfl rfl rfl (wrap_k (by simp only [wrapOk]; omega)) rfl ?_ | refine U_pure E rfl rfl ?_ | refine T_exit rfl ?_ | refine T_condV rfl ?_ | refine U_guard rfl rfl ?_ | ((with_reducible refine Gd_skipT ?_ ?_); exact rfl) | ((with_reducible refine Gd_skipF ?_ ?_); exact rfl))
  refine T_loop (α := Nat × Value × World) (fun x => [(4, .int .i64 x.1), (3, .pointer (some ⟨xb, 0, none⟩)), (0, .int .i64 n)]) (fun x => x.2.2) (fun x => n - x.1)
    (fun x => x.1 ≤ n ∧ Kept none0 w x.2.2 ∧ XM x.2.2 (fresh w) xb x.2.1 (.slice none 0 0) (XS.new x.1)) (0, .slice none 0 0, w1) ⟨Nat.zero_le _, hn1.kept, ?h0⟩ ?hsub rfl ?_
  case h0 =>
    exact ⟨by simp only [fresh]; omega, hn1.blk, ⟨[], rfl, Row.nil _ _ _ _, fun j u p h => by simp at h⟩, DS.nil _ _ _, ⟨by simp [XS.new], by simp [XS.new]⟩, by simp [XS.new]⟩
  case hsub => exact ⟨rfl, rfl, rfl, trivial⟩
  rintro ⟨i, vf, w2⟩ ⟨hi, k2, hX⟩ ih
  dsimp only at hi k2 hX ⊢
  repeat (first | (with_reducible first | apply T_seq | apply T_region | apply U_nil | apply T_skip | apply T_block | apply T_inBlock | apply Cnd_t | apply Cnd_f | apply Cnd_not | apply Cnd_some | apply Cnd_none | apply Gd_nt | apply Gd_nf | apply Gd_some | apply Gd_none | apply Gd_want) | refine U_ar rfl rfl rfl (wrap_k (by simp only [wrapOk]; omega)) rfl ?_ | refine U_cv E rfl rfl rfl (wrap_k (by simp only [wrapOk]; omega)) rfl ?_ | refine U_pure E rfl rfl ?_ | refine T_exit rfl ?_ | refine T_condV rfl ?_ | refine U_guard rfl rfl ?_ | ((with_reducible refine Gd_skipT ?_ ?_); exact rfl) | ((with_reducible refine Gd_skipF ?_ ?_); exact rfl))
  refine Cnd_p (fun hlt => ?_) (fun hlt => ?_)
  · have hB := hX.blk
    obtain ⟨fs, f1, f2, f3⟩ := hX.fst
    have hfl : fs.length = i := by rw [f1]; simp [XS.new]
    have hown := f2.own
    repeat (first | (with_reducible first | apply T_seq | apply T_region | apply U_nil | apply T_skip | apply T_block | apply T_inBlock | apply Cnd_t | apply Cnd_f | apply Cnd_not | apply Cnd_some | apply Cnd_none | apply Gd_nt | apply Gd_nf | apply Gd_some | apply Gd_none | apply Gd_want) | refine U_ar rfl rfl rfl (wrap_k (by simp only [wrapOk]; omega)) rfl ?_ | refine U_cv E rfl rfl rfl (wrap_k (by simp only [wrapOk]; omega)) rfl ?_ | refine U_pure E rfl rfl ?_ | refine T_exit rfl ?_ | refine T_condV rfl ?_ | refine U_guard rfl rfl ?_ | ((with_reducible refine Gd_skipT ?_ ?_); exact rfl) | ((with_reducible refine Gd_skipF ?_ ?_); exact rfl))
    refine L_begin (fun W => Blk W xb [vf, .slice none 0 0, .int .i64 (-1)] 111) 10 (by kernel_rfl) (N := 11) rfl (fun w3 hd3 => ?_)
    have k3 : Kept none0 w2 w3 := hd3.kept none0
    have hB3 : Blk w3 xb [vf, .slice none 0 0, .int .i64 (-1)] 111 := hB.mv k3 (fun x => x)
    refine L_take 0 rfl (by kernel_rfl) (by kernel_rfl) (by kernel_rfl) (by kernel_rfl) hB3 rfl rfl rfl (fun a ha w' _ => run_pv E ha rfl _ _ _ _ _) ?_; refine L_take 1 rfl (by kernel_rfl) (by kernel_rfl) (by kernel_rfl) (by kernel_rfl) hB3 rfl rfl rfl (fun a ha w' _ => run_pv E ha rfl _ _ _ _ _) ?_; refine L_take 2 rfl (by kernel_rfl) (by kernel_rfl) (by kernel_rfl) (by kernel_rfl) hB3 rfl rfl rfl (fun a ha w' _ => run_pv E ha rfl _ _ _ _ _) ?_; refine L_take 3 rfl (by kernel_rfl) (by kernel_rfl) (by kernel_rfl) (by kernel_rfl) hB3 rfl rfl rfl (fun a ha w' _ => run_pv E ha rfl _ _ _ _ _) ?_
    refine L_take 4 rfl (by kernel_rfl) (by kernel_rfl) (by kernel_rfl) (by kernel_rfl) hB3 rfl rfl rfl (fun a ha w' hS => ro_loadB E hS rfl rfl rfl rfl a ha) ?_
    refine L_op 5 (by kernel_rfl) rfl (fun hc => ?_)
    refine U_make E rfl rfl (zs := [.int .u8 0]) rfl (N := 256) rfl rfl (by decide) (by decide) rfl rfl rfl ?_
    intro b4 w4 hn4
    rw [flat_single, ← encBs_zeros] at hn4
    have hB4 := hB3.mv hn4.kept (fun x => x)
    refine U_nilL hc (fun _ => hB4) ?_
    refine L_op 6 (by kernel_rfl) rfl (fun hc => ?_)
    refine U_buildSlice (sz := 1) E rfl rfl rfl rfl rfl rfl rfl rfl (segs := [[.slice (some ⟨b4, 0, none⟩) 256 256]]) rfl (by simp) rfl ?_
    intro b5 w5 hn5
    have hB5 := hB4.mv hn5.kept (fun x => x)
    refine U_nilL hc (fun _ => hB5) ?_
    have k25 : Kept none0 w2 w5 := (k3.tr hn4.kept (fun _ _ x => x)).tr hn5.kept (fun _ _ x => x)
    have e4 := hn4.at_
    have e5 := hn5.at_
    have s3 := k3.size
    have s4 := hn4.size
    have s5 := hn5.size
    have s2 := k2.size
    have hxlt := hX.blk.lt
    refine L_op 7 (by kernel_rfl) rfl (fun hc => ?_)
    refine U_append E (f2.mv k25 (fun _ _ _ x => x)) (one_sl hn5.blk) (by intro u hu; rw [List.mem_singleton.1 hu]; rfl) rfl rfl rfl rfl rfl (by omega) (by omega) rfl ?_
    intro vf' w6 hr6 k6 _ hob
    have hxo : vf.ownBlock ≠ some xb := fun e => (hown xb e).1.2 rfl
    have hB6 := hB5.mv k6 hxo
    refine U_nilL hc (fun _ => hB6) ?_
    refine L_take 8 rfl (by kernel_rfl) (by kernel_rfl) (by kernel_rfl) (by kernel_rfl) hB6 rfl rfl rfl (fun a ha w' _ => run_pv E ha rfl _ _ _ _ _) ?_; refine L_take 9 rfl (by kernel_rfl) (by kernel_rfl) (by kernel_rfl) (by kernel_rfl) hB6 rfl rfl rfl (fun a ha w' _ => run_pv E ha rfl _ _ _ _ _) ?_
    refine L_op 10 (by kernel_rfl) rfl (fun hc => ?_)
    refine U_store E hB6 rfl rfl rfl (by simp) (by obtain ⟨A', c', e'⟩ := hr6.val; rw [e']; rfl) ?_
    intro w7 hu7
    refine U_nilL hc (fun e => absurd rfl e) ?_
    refine L_done (by kernel_rfl) ?_
    have k57 : Kept (fun b => vf.ownBlock = some b ∨ b = xb) w5 w7 := (k6.mono (fun b _ e => .inl e)).tr hu7.kept (fun b _ e => .inr e)
    have k27 : Kept (fun b => vf.ownBlock = some b ∨ b = xb) w2 w7 := (k25.mono (fun _ _ x => x.elim)).tr k57 (fun _ _ x => x)
    have k07 : Kept none0 w w7 := k2.tr k27 (fun b hb e => by
      rcases e with e | e
      · have := (hown b e).1.1; simp only [fresh] at this; omega
      · have := hX.mem; simp only [fresh] at this; omega)
    have hvf' : ∀ b, vf'.ownBlock = some b → b ≠ xb ∧ w.heap.size ≤ b := fun b e => by
      rcases hob b e with e | e
      · exact ⟨(hown b e).1.2, by have := (hown b e).1.1; simp only [fresh] at this; exact this⟩
      · exact ⟨by have := hX.blk.lt; omega, by omega⟩
    have hX7 : XM w7 (fresh w) xb vf' (.slice none 0 0) (XS.new (i + 1)) := by
      have hnew : XS.new (i + 1) = ⟨(XS.new i).first ++ [zeros 256], [], -1⟩ := by simp [XS.new, List.replicate_succ']
      rw [hnew]
      refine ⟨hX.mem, hu7.blk, ?_, DS.nil _ _ _, ⟨by simp [XS.new]; omega, by simp⟩, by dsimp only; omega⟩
      have hz : BS w5 (fun b => Hx (fresh w) xb vf (.slice none 0 0) b ∧ b < w5.heap.size) (.slice (some ⟨b4, 0, none⟩) 256 256) (zeros 256) := by
        have hb := (hn4.blk.mv hn5.kept (fun x => x))
        exact ⟨by rw [zeros_len]; decide, by rw [encBs_len, zeros_len], _, 256, by rw [zeros_len], by rw [zeros_len]; exact Nat.le_refl _, .inr ⟨b4, 0, rfl, ⟨⟨by simp only [fresh]; omega, by have := hX.blk.lt; omega, fun e => by have := (hown b4 e).2; omega, by simp [Value.ownBlock]⟩, hb.lt⟩, hb.lt, hb.whole⟩⟩
      have hsn := FSl.snoc (F := fun b => fresh w b ∧ b ≠ xb) (H := fun b => Hx (fresh w) xb vf (.slice none 0 0) b ∧ b < w5.heap.size) (w := w5) (w1 := w5) (w2 := w6) (fun b e => ⟨by simp only [fresh]; omega, by have := hX.blk.lt; omega⟩) f1
        (fun j u q hu hq => (((f3 j u q hu hq).mv k25 (fun _ _ _ x => x)).mono (fun b hb e => ⟨e, hb⟩))) hz (fun b _ e => e.1.2.2.1) k6 hr6
      refine (hsn.mv hu7.kept (fun b _ e (e2 : b = xb) => e.2 e2) (fun b _ e (e2 : b = xb) => e.1.2.1 e2)).mono (fun b _ e => e) (fun b _ e => ⟨e.1.1, e.1.2.1, fun e2 => ?_, e.1.2.2.2⟩)
      rcases hob b e2 with e3 | e3
      · exact e.1.2.2.1 e3
      · have := e.2; omega
    repeat (first | (with_reducible first | apply T_seq | apply T_region | apply U_nil | apply T_skip | apply T_block | apply T_inBlock | apply Cnd_t | apply Cnd_f | apply Cnd_not | apply Cnd_some | apply Cnd_none | apply Gd_nt | apply Gd_nf | apply Gd_some | apply Gd_none | apply Gd_want) | refine U_ar rfl rfl rfl (wrap_k (by simp only [wrapOk]; omega)) rfl ?_ | refine U_cv E rfl rfl rfl (wrap_k (by simp only [wrapOk]; omega)) rfl ?_ | refine U_pure E rfl rfl ?_ | refine T_exit rfl ?_ | refine T_condV rfl ?_ | refine U_guard rfl rfl ?_ | ((with_reducible refine Gd_skipT ?_ ?_); exact rfl) | ((with_reducible refine Gd_skipF ?_ ?_); exact rfl))
    refine T.less ?_ (ih (i + 1, vf', w7) ⟨by omega, k07, hX7⟩ (by dsimp only; omega))
    exact ⟨rfl, rfl, rfl, trivial⟩
  · have hie : i = n := by omega
    subst hie
    repeat (first | (with_reducible first | apply T_seq | apply T_region | apply U_nil | apply T_skip | apply T_block | apply T_inBlock | apply Cnd_t | apply Cnd_f | apply Cnd_not | apply Cnd_some | apply Cnd_none | apply Gd_nt | apply Gd_nf | apply Gd_some | apply Gd_none | apply Gd_want) | refine U_ar rfl rfl rfl (wrap_k (by simp only [wrapOk]; omega)) rfl ?_ | refine U_cv E rfl rfl rfl (wrap_k (by simp only [wrapOk]; omega)) rfl ?_ | refine U_pure E rfl rfl ?_ | refine T_exit rfl ?_ | refine T_condV rfl ?_ | refine U_guard rfl rfl ?_ | ((with_reducible refine Gd_skipT ?_ ?_); exact rfl) | ((with_reducible refine Gd_skipF ?_ ?_); exact rfl))
    exact T_ret1 Tryd.func31 rfl rfl ⟨_, rfl, k2, xb, vf, rfl, hX⟩
end Go.Proofs.YtoefhdaenaiomaaDoor

/- Is a drum the document's? -/
namespace Go.Proofs.YtoefhdaenaiomaaDoor
open Go
set_option maxRecDepth 20000

/-- A drum is the document's. -/
structure Rel (D : Dr) (X : XS) : Prop where
  left : X.left = D.left
  len : X.first.length = D.l.length
  wait : wts X.deeds = D.wait.map (fun p => ((p.1 : Int), p.2))
  safe : ∀ i, i < D.l.length → X.safe i = D.l.getD i []
theorem lastW_now : ∀ (ws : List (Nat × List UInt8)) (i : Nat) (s : List UInt8), lastW (ws.map (fun p => ((p.1 : Int), p.2))) i s = ws.foldl (fun s p => if p.1 = i then p.2 else s) s
  | [], _, _ => rfl
  | p :: ws, i, s => by
    have ih := lastW_now ws i (if p.1 = i then p.2 else s)
    show lastW (ws.map _) i (if ((p.1 : Int)) = (i : Int) then p.2 else s) = ws.foldl _ (if p.1 = i then p.2 else s)
    rw [← ih]
    congr 1
    by_cases h : p.1 = i
    · rw [if_pos h, if_pos (by omega)]
    · rw [if_neg h, if_neg (by omega)]
theorem Rel.read {D : Dr} {X : XS} (h : Rel D X) {i : Nat} (hi : i < D.l.length) : X.read i = nowS D.l D.wait i := by
  rw [XS.read_safe, h.wait, lastW_now, h.safe i hi]
  rfl
theorem Rel.any {D : Dr} {X : XS} (h : Rel D X) : Rel ⟨D.l, D.wait, X.left⟩ X := ⟨rfl, h.len, h.wait, h.safe⟩
theorem Rel.waits {D : Dr} {X : XS} (h : Rel D X) : (wts X.deeds).length = D.wait.length := by rw [h.wait, List.length_map]

set_option maxHeartbeats 8000000 in
theorem like_c {w : World} {F G : Nat → Prop} {hb xb : Nat} {D : Dr} {vf vd : Value} {X : XS} (hD : Dm w F hb D) (hX : XM w G xb vf vd X) (hR0 : Rel ⟨D.l, D.wait, X.left⟩ X) :
    Calls Tryd.prog 34 [ptr hb, ptr xb].toArray w (Ret fun r w' => r = .bool true ∧ Kept none0 w w') := by
  have hX0 := hX
  have hB := hX.blk
  have hlen := hX.len
  have hrl : X.first.length = D.l.length := hR0.len
  have hn2 := hD.isD.1.n2
  obtain ⟨fs, f1, f2, f3⟩ := hX.fst
  obtain ⟨B, cb, rfl⟩ := f2.val
  refine calls_T Tryd.func34 rfl rfl rfl ?_
  unfold ptr at *
  repeat (first | (with_reducible first | apply T_seq | apply T_region | apply U_nil | apply T_skip | apply T_block | apply T_inBlock | apply Cnd_t | apply Cnd_f | apply Cnd_not | apply Cnd_some | apply Cnd_none | apply Gd_nt | apply Gd_nf | apply Gd_some | apply Gd_none | apply Gd_want) | refine U_ar rfl rfl rfl (wrap_k (by simp only [wrapOk]; omega)) rfl ?_ | refine U_cv E rfl rfl rfl (wrap_k (by simp only [wrapOk]; omega)) rfl ?_ | refine U_pure E rfl rfl ?_ | refine T_exit rfl ?_ | refine T_condV rfl ?_ | refine U_guard rfl rfl ?_ | ((with_reducible refine Gd_skipT ?_ ?_); exact rfl) | ((with_reducible refine Gd_skipF ?_ ?_); exact rfl))
  refine L_begin (fun W => Blk W xb [.slice B fs.length cb, vd, .int .i64 X.left] 111) 16 (by kernel_rfl) (N := 16) rfl (fun w1 hd1 => ?_)
  have k1 : Kept none0 w w1 := hd1.kept none0
  have hB1 := hB.mv k1 (fun x => x)
  have hD1 := hD.same k1
  have hX1 := hX0.same k1
  have hsz := dsize_c w1 F hb D hD1.isD
  have hdt := dirty_c w1 F hb D hD1.isD
  have hwt := waits_c hX1
  unfold ptr at *
  refine L_take 0 rfl (by kernel_rfl) (by kernel_rfl) (by kernel_rfl) (by kernel_rfl) hB1 rfl rfl rfl (fun a ha w' _ => run_pv E ha rfl _ _ _ _ _) ?_; refine L_take 2 rfl (by kernel_rfl) (by kernel_rfl) (by kernel_rfl) (by kernel_rfl) hB1 rfl rfl rfl (fun a ha w' _ => run_pv E ha rfl _ _ _ _ _) ?_; refine L_take 3 rfl (by kernel_rfl) (by kernel_rfl) (by kernel_rfl) (by kernel_rfl) hB1 rfl rfl rfl (fun a ha w' _ => run_pv E ha rfl _ _ _ _ _) ?_; refine L_take 4 rfl (by kernel_rfl) (by kernel_rfl) (by kernel_rfl) (by kernel_rfl) hB1 rfl rfl rfl (fun a ha w' _ => run_pv E ha rfl _ _ _ _ _) ?_
  refine L_take 5 rfl (by kernel_rfl) (by kernel_rfl) (by kernel_rfl) (by kernel_rfl) hB1 rfl rfl rfl (fun a ha w' hS => ro_loadB E hS rfl rfl rfl rfl a ha) ?_
  refine L_take 6 rfl (by kernel_rfl) (by kernel_rfl) (by kernel_rfl) (by kernel_rfl) hB1 rfl rfl rfl (fun a ha w' _ => run_pv E ha rfl _ _ _ _ _) ?_
  refine L_op 1 (by kernel_rfl) rfl (fun hc => ?_)
  refine U_call rfl rfl (Tryd.call38 _) (hsz) ?_
  rintro r w2 ⟨rfl, rfl⟩
  refine U_nilL hc (fun _ => hB1) ?_
  refine L_take 7 rfl (by kernel_rfl) (by kernel_rfl) (by kernel_rfl) (by kernel_rfl) hB1 rfl rfl rfl (fun a ha w' _ => run_pv E ha rfl _ _ _ _ _) ?_; refine L_take 8 rfl (by kernel_rfl) (by kernel_rfl) (by kernel_rfl) (by kernel_rfl) hB1 rfl rfl rfl (fun a ha w' _ => run_pv E ha rfl _ _ _ _ _) ?_
  refine L_splitB (g := 17) rfl (fun e => absurd (of_decide_eq_true e) (fun h => h (by omega))) (fun _ => ?_)
  refine L_takeG 9 rfl (by kernel_rfl) (by kernel_rfl) (by kernel_rfl) (by kernel_rfl) hB1 rfl rfl rfl rfl rfl (fun a ha w' _ => run_pv E ha rfl _ _ _ _ _) ?_; refine L_takeG 11 rfl (by kernel_rfl) (by kernel_rfl) (by kernel_rfl) (by kernel_rfl) hB1 rfl rfl rfl rfl rfl (fun a ha w' _ => run_pv E ha rfl _ _ _ _ _) ?_
  refine L_op 10 (by kernel_rfl) rfl (fun hc => ?_)
  refine U_guard rfl rfl ?_; refine Gd_want ?_
  refine U_call rfl rfl (Tryd.call39 _) (ret_of hdt) ?_
  rintro r w3 ⟨rfl, rfl⟩
  refine U_nilL hc (fun _ => hB1) ?_
  refine L_op 12 (by kernel_rfl) rfl (fun hc => ?_)
  refine U_guard rfl rfl ?_; refine Gd_want ?_
  refine U_call rfl rfl (Tryd.call76 _) (hwt) ?_
  rintro r w4 ⟨k4, es, e1, e2, e3⟩
  obtain ⟨Ae, ce, rfl⟩ := e2.val
  have hB4 := hB1.mv k4 (fun x => x)
  refine U_nilL hc (fun _ => hB4) ?_
  refine L_takeG 13 rfl (by kernel_rfl) (by kernel_rfl) (by kernel_rfl) (by kernel_rfl) hB4 rfl rfl rfl rfl rfl (fun a ha w' _ => run_pv E ha rfl _ _ _ _ _) ?_; refine L_takeG 14 rfl (by kernel_rfl) (by kernel_rfl) (by kernel_rfl) (by kernel_rfl) hB4 rfl rfl rfl rfl rfl (fun a ha w' _ => run_pv E ha rfl _ _ _ _ _) ?_
  refine L_take 15 rfl (by kernel_rfl) (by kernel_rfl) (by kernel_rfl) (by kernel_rfl) hB4 rfl rfl rfl (fun a ha w' _ => run_pv E ha rfl _ _ _ _ _) ?_
  refine L_done (by kernel_rfl) ?_
  have hrw : (wts X.deeds).length = D.wait.length := hR0.waits
  have k04 : Kept none0 w w4 := k1.tr k4 (fun _ _ x => x)
  repeat (first | (with_reducible first | apply T_seq | apply T_region | apply U_nil | apply T_skip | apply T_block | apply T_inBlock | apply Cnd_t | apply Cnd_f | apply Cnd_not | apply Cnd_some | apply Cnd_none | apply Gd_nt | apply Gd_nf | apply Gd_some | apply Gd_none | apply Gd_want) | refine U_ar rfl rfl rfl (wrap_k (by simp only [wrapOk]; omega)) rfl ?_ | refine U_cv E rfl rfl rfl (wrap_k (by simp only [wrapOk]; omega)) rfl ?_ | refine U_pure E rfl rfl ?_ | refine T_exit rfl ?_ | refine T_condV rfl ?_ | refine U_guard rfl rfl ?_ | ((with_reducible refine Gd_skipT ?_ ?_); exact rfl) | ((with_reducible refine Gd_skipF ?_ ?_); exact rfl))
  refine Cnd_p (fun hne => ?_) (fun hne => ?_)
  · exact absurd (by omega) hne
  · repeat (first | (with_reducible first | apply T_seq | apply T_region | apply U_nil | apply T_skip | apply T_block | apply T_inBlock | apply Cnd_t | apply Cnd_f | apply Cnd_not | apply Cnd_some | apply Cnd_none | apply Gd_nt | apply Gd_nf | apply Gd_some | apply Gd_none | apply Gd_want) | refine U_ar rfl rfl rfl (wrap_k (by simp only [wrapOk]; omega)) rfl ?_ | refine U_cv E rfl rfl rfl (wrap_k (by simp only [wrapOk]; omega)) rfl ?_ | refine U_pure E rfl rfl ?_ | refine T_exit rfl ?_ | refine T_condV rfl ?_ | refine U_guard rfl rfl ?_ | ((with_reducible refine Gd_skipT ?_ ?_); exact rfl) | ((with_reducible refine Gd_skipF ?_ ?_); exact rfl))
    refine U_loadB E hB4 rfl rfl rfl rfl rfl ?_
    repeat (first | (with_reducible first | apply T_seq | apply T_region | apply U_nil | apply T_skip | apply T_block | apply T_inBlock | apply Cnd_t | apply Cnd_f | apply Cnd_not | apply Cnd_some | apply Cnd_none | apply Gd_nt | apply Gd_nf | apply Gd_some | apply Gd_none | apply Gd_want) | refine U_ar rfl rfl rfl (wrap_k (by simp only [wrapOk]; omega)) rfl ?_ | refine U_cv E rfl rfl rfl (wrap_k (by simp only [wrapOk]; omega)) rfl ?_ | refine U_pure E rfl rfl ?_ | refine T_exit rfl ?_ | refine T_condV rfl ?_ | refine U_guard rfl rfl ?_ | ((with_reducible refine Gd_skipT ?_ ?_); exact rfl) | ((with_reducible refine Gd_skipF ?_ ?_); exact rfl))
    refine T_loop (α := Nat × World) (fun x => [(30, .int .i64 x.1), (29, .int .i64 fs.length), (0, .pointer (some ⟨hb, 0, none⟩)), (1, .pointer (some ⟨xb, 0, none⟩))]) (fun x => x.2) (fun x => fs.length - x.1)
      (fun x => x.1 ≤ fs.length ∧ Kept none0 w x.2) (0, w4) ⟨Nat.zero_le _, k04⟩ ?hsub rfl ?_
    case hsub => exact ⟨rfl, rfl, rfl, rfl, trivial⟩
    rintro ⟨i, w5⟩ ⟨hi, k5⟩ ih
    dsimp only at hi k5 ⊢
    repeat (first | (with_reducible first | apply T_seq | apply T_region | apply U_nil | apply T_skip | apply T_block | apply T_inBlock | apply Cnd_t | apply Cnd_f | apply Cnd_not | apply Cnd_some | apply Cnd_none | apply Gd_nt | apply Gd_nf | apply Gd_some | apply Gd_none | apply Gd_want) | refine U_ar rfl rfl rfl (wrap_k (by simp only [wrapOk]; omega)) rfl ?_ | refine U_cv E rfl rfl rfl (wrap_k (by simp only [wrapOk]; omega)) rfl ?_ | refine U_pure E rfl rfl ?_ | refine T_exit rfl ?_ | refine T_condV rfl ?_ | refine U_guard rfl rfl ?_ | ((with_reducible refine Gd_skipT ?_ ?_); exact rfl) | ((with_reducible refine Gd_skipF ?_ ?_); exact rfl))
    refine Cnd_p (fun hlt => ?_) (fun hlt => ?_)
    · have hil : i < D.l.length := by omega
      have hil2 : i < X.first.length := by omega
      have hD5 := hD.same k5
      have hX5 := hX0.same k5
      have hrd := read_c w5 F hb D i hD5.isD hil
      have hread : X.read i = nowS D.l D.wait i := hR0.read hil
      obtain ⟨P, hP⟩ : ∃ P, nowS D.l D.wait i = P := ⟨_, rfl⟩
      have hPl : P.length = 256 := by rw [← hP]; exact nowS_len _ _ _ hD.isD.1.secs (fun q hq => (hD.isD.1.waits q hq).2) hil
      rw [hP] at hrd hread
      unfold ptr at *
      repeat (first | (with_reducible first | apply T_seq | apply T_region | apply U_nil | apply T_skip | apply T_block | apply T_inBlock | apply Cnd_t | apply Cnd_f | apply Cnd_not | apply Cnd_some | apply Cnd_none | apply Gd_nt | apply Gd_nf | apply Gd_some | apply Gd_none | apply Gd_want) | refine U_ar rfl rfl rfl (wrap_k (by simp only [wrapOk]; omega)) rfl ?_ | refine U_cv E rfl rfl rfl (wrap_k (by simp only [wrapOk]; omega)) rfl ?_ | refine U_pure E rfl rfl ?_ | refine T_exit rfl ?_ | refine T_condV rfl ?_ | refine U_guard rfl rfl ?_ | ((with_reducible refine Gd_skipT ?_ ?_); exact rfl) | ((with_reducible refine Gd_skipF ?_ ?_); exact rfl))
      refine U_call rfl rfl (Tryd.call36 _) (hrd) ?_
      rintro r w6 ⟨b6, rfl, hb6, hbl6, k6⟩
      have hp6 := blk_bs (G := fun _ => True) hbl6 hPl trivial
      have hX6 := hX5.same k6
      have hxr := xread_c hX6 i hil2
      rw [hread] at hxr
      unfold ptr at *
      repeat (first | (with_reducible first | apply T_seq | apply T_region | apply U_nil | apply T_skip | apply T_block | apply T_inBlock | apply Cnd_t | apply Cnd_f | apply Cnd_not | apply Cnd_some | apply Cnd_none | apply Gd_nt | apply Gd_nf | apply Gd_some | apply Gd_none | apply Gd_want) | refine U_ar rfl rfl rfl (wrap_k (by simp only [wrapOk]; omega)) rfl ?_ | refine U_cv E rfl rfl rfl (wrap_k (by simp only [wrapOk]; omega)) rfl ?_ | refine U_pure E rfl rfl ?_ | refine T_exit rfl ?_ | refine T_condV rfl ?_ | refine U_guard rfl rfl ?_ | ((with_reducible refine Gd_skipT ?_ ?_); exact rfl) | ((with_reducible refine Gd_skipF ?_ ?_); exact rfl))
      refine U_call rfl rfl (Tryd.call78 _) (hxr) ?_
      rintro rq w7 ⟨k7, hq7⟩
      have hp7 := hp6.mv k7 (fun _ _ _ x => x)
      have k57 : Kept none0 w5 w7 := k6.tr k7 (fun _ _ x => x)
      obtain ⟨bz, hz1, hz2⟩ : ∃ bz, decide (cleanD D (i : Int)) = bz ∧ decide (P = zeros 256) = bz := by
        refine ⟨_, rfl, decide_eq_decide.2 ?_⟩
        constructor
        · intro e
          exact ⟨⟨by omega, by omega⟩, by rw [Int.toNat_natCast, hP]; exact e⟩
        · intro e
          have := e.2
          rw [Int.toNat_natCast, hP] at this
          exact this
      repeat (first | refine U_ar rfl rfl rfl (wrap_k (by simp only [wrapOk]; omega)) rfl ?_ | refine U_cv E rfl rfl rfl (wrap_k (by simp only [wrapOk]; omega)) rfl ?_ | refine U_pure E rfl rfl ?_)
      refine U_nil ?_
      (repeat (with_reducible refine T_seq ?_))
      refine L_begin (fun _ => True) 17 (by kernel_rfl) (N := 17) rfl (fun w8 hd8 => ?_)
      have k8 : Kept none0 w7 w8 := hd8.kept none0
      have hsm := ret_of (same_c w8 _ _ _ _ _ _ (hp7.mv k8 (fun _ _ _ x => x)) (hq7.mv k8 (fun _ _ _ x => x)))
      rw [decide_eq_true rfl] at hsm
      refine L_take 0 rfl (by kernel_rfl) (by kernel_rfl) (by kernel_rfl) (by kernel_rfl) trivial rfl rfl rfl (fun a ha w' _ => run_pv E ha rfl _ _ _ _ _) ?_; refine L_take 1 rfl (by kernel_rfl) (by kernel_rfl) (by kernel_rfl) (by kernel_rfl) trivial rfl rfl rfl (fun a ha w' _ => run_pv E ha rfl _ _ _ _ _) ?_; refine L_take 2 rfl (by kernel_rfl) (by kernel_rfl) (by kernel_rfl) (by kernel_rfl) trivial rfl rfl rfl (fun a ha w' _ => run_pv E ha rfl _ _ _ _ _) ?_
      refine L_takeG 3 rfl (by kernel_rfl) (by kernel_rfl) (by kernel_rfl) (by kernel_rfl) trivial rfl rfl rfl rfl rfl (fun a ha w' _ => run_pv E ha rfl _ _ _ _ _) ?_; refine L_takeG 4 rfl (by kernel_rfl) (by kernel_rfl) (by kernel_rfl) (by kernel_rfl) trivial rfl rfl rfl rfl rfl (fun a ha w' _ => run_pv E ha rfl _ _ _ _ _) ?_
      refine L_op 5 (by kernel_rfl) rfl (fun hc => ?_)
      refine U_guard rfl rfl ?_; refine Gd_want ?_
      refine U_call rfl rfl (Tryd.call22 _) (hsm) ?_
      rintro r w9 ⟨rfl, d9⟩
      refine U_nilL hc (fun _ => trivial) ?_
      have k59 : Kept none0 w5 w9 := (k57.tr k8 (fun _ _ x => x)).tr (d9.kept none0) (fun _ _ x => x)
      have k79 : Kept none0 w7 w9 := k8.tr (d9.kept none0) (fun _ _ x => x)
      refine L_takeG 6 rfl (by kernel_rfl) (by kernel_rfl) (by kernel_rfl) (by kernel_rfl) trivial rfl rfl rfl rfl rfl (fun a ha w' _ => run_pv E ha rfl _ _ _ _ _) ?_
      refine L_take 7 rfl (by kernel_rfl) (by kernel_rfl) (by kernel_rfl) (by kernel_rfl) trivial rfl rfl rfl (fun a ha w' _ => run_pv E ha rfl _ _ _ _ _) ?_; refine L_take 8 rfl (by kernel_rfl) (by kernel_rfl) (by kernel_rfl) (by kernel_rfl) trivial rfl rfl rfl (fun a ha w' _ => run_pv E ha rfl _ _ _ _ _) ?_
      refine L_takeG 9 rfl (by kernel_rfl) (by kernel_rfl) (by kernel_rfl) (by kernel_rfl) trivial rfl rfl rfl rfl rfl (fun a ha w' _ => run_pv E ha rfl _ _ _ _ _) ?_; refine L_takeG 10 rfl (by kernel_rfl) (by kernel_rfl) (by kernel_rfl) (by kernel_rfl) trivial rfl rfl rfl rfl rfl (fun a ha w' _ => run_pv E ha rfl _ _ _ _ _) ?_; refine L_takeG 12 rfl (by kernel_rfl) (by kernel_rfl) (by kernel_rfl) (by kernel_rfl) trivial rfl rfl rfl rfl rfl (fun a ha w' _ => run_pv E ha rfl _ _ _ _ _) ?_
      have cln : ∀ W, Kept none0 w5 W → Calls Tryd.prog 40 [.pointer (some ⟨hb, 0, none⟩), .int .i64 i].toArray W (Ret fun r w' => r = .bool bz ∧ Kept none0 W w') := fun W k => by
        have := clean_c W F hb D (i : Int) (hD5.same k).isD
        rw [hz1] at this
        exact this
      have smc : ∀ W W2 b, Kept none0 w7 W → New W W2 b (encBs (zeros 256)) 5 → ∀ W3, Kept none0 W2 W3 → Calls Tryd.prog 22 [rq, .slice (some ⟨b, 0, none⟩) 256 256].toArray W3 (Ret fun r w' => r = .bool bz ∧ Kept none0 W3 w') := fun W W2 b k hn W3 k3 => by
        have hz : BS W3 (fun _ => True) (.slice (some ⟨b, 0, none⟩) 256 256) (zeros 256) := by
          have hb := hn.blk.mv k3 (fun x => x)
          exact ⟨by rw [zeros_len]; decide, by rw [encBs_len, zeros_len], _, 256, by rw [zeros_len], by rw [zeros_len]; exact Nat.le_refl _, .inr ⟨b, 0, rfl, trivial, hb.lt, hb.whole⟩⟩
        have := ret_of (same_c W3 _ _ _ _ _ _ (((hq7.mv k (fun _ _ _ x => x)).mv hn.kept (fun _ _ _ x => x)).mv k3 (fun _ _ _ x => x)) hz)
        rw [hz2] at this
        refine this.mono ?_
        rintro e w' ⟨r, rfl, rfl, d⟩
        exact ⟨_, rfl, rfl, d.kept none0⟩
      refine L_op2 11 13 (by kernel_rfl) rfl rfl (fun hc => ?_) (fun hc => ?_)
      · refine U_guard rfl rfl ?_; refine Gd_want ?_
        refine U_call rfl rfl (Tryd.call40 _) (cln w9 k59) ?_
        rintro r w10 ⟨rfl, k10⟩
        refine U_nilL hc (fun _ => trivial) ?_
        refine L_op 13 (by kernel_rfl) rfl (fun hc => ?_)
        refine U_guard rfl rfl ?_; refine Gd_want ?_
        refine U_make E rfl rfl (zs := [.int .u8 0]) rfl (N := 256) rfl rfl (by decide) (by decide) rfl rfl rfl ?_
        intro b11 w11 hn11
        rw [flat_single, ← encBs_zeros] at hn11
        refine U_nilL hc (fun _ => trivial) ?_
        refine L_op 14 (by kernel_rfl) rfl (fun hc => ?_)
        refine U_guard rfl rfl ?_; refine Gd_want ?_
        refine U_call rfl rfl (Tryd.call22 _) (smc w10 w11 b11 (k79.tr k10 (fun _ _ x => x)) hn11 w11 (Kept.refl _ _)) ?_
        rintro r w12 ⟨rfl, k12⟩
        refine U_nilL hc (fun _ => trivial) ?_
        refine L_takeG 15 rfl (by kernel_rfl) (by kernel_rfl) (by kernel_rfl) (by kernel_rfl) trivial rfl rfl rfl rfl rfl (fun a ha w' _ => run_pv E ha rfl _ _ _ _ _) ?_
        refine L_take 16 rfl (by kernel_rfl) (by kernel_rfl) (by kernel_rfl) (by kernel_rfl) trivial rfl rfl rfl (fun a ha w' _ => run_pv E ha rfl _ _ _ _ _) ?_
        refine L_done (by kernel_rfl) ?_
        repeat (first | (with_reducible first | apply T_seq | apply T_region | apply U_nil | apply T_skip | apply T_block | apply T_inBlock | apply Cnd_t | apply Cnd_f | apply Cnd_not | apply Cnd_some | apply Cnd_none | apply Gd_nt | apply Gd_nf | apply Gd_some | apply Gd_none | apply Gd_want) | refine U_ar rfl rfl rfl (wrap_k (by simp only [wrapOk]; omega)) rfl ?_ | refine U_cv E rfl rfl rfl (wrap_k (by simp only [wrapOk]; omega)) rfl ?_ | refine U_pure E rfl rfl ?_ | refine T_exit rfl ?_ | refine T_condV rfl ?_ | refine U_guard rfl rfl ?_ | ((with_reducible refine Gd_skipT ?_ ?_); exact rfl) | ((with_reducible refine Gd_skipF ?_ ?_); exact rfl))
        refine Cnd_p (fun hbz => ?_) (fun hbz => ?_)
        · repeat (first | (with_reducible first | apply T_seq | apply T_region | apply U_nil | apply T_skip | apply T_block | apply T_inBlock | apply Cnd_t | apply Cnd_f | apply Cnd_not | apply Cnd_some | apply Cnd_none | apply Gd_nt | apply Gd_nf | apply Gd_some | apply Gd_none | apply Gd_want) | refine U_ar rfl rfl rfl (wrap_k (by simp only [wrapOk]; omega)) rfl ?_ | refine U_cv E rfl rfl rfl (wrap_k (by simp only [wrapOk]; omega)) rfl ?_ | refine U_pure E rfl rfl ?_ | refine T_exit rfl ?_ | refine T_condV rfl ?_ | refine U_guard rfl rfl ?_ | ((with_reducible refine Gd_skipT ?_ ?_); exact rfl) | ((with_reducible refine Gd_skipF ?_ ?_); exact rfl))
          refine T.less ?_ (ih (i + 1, w12) ⟨by omega, (((k5.tr k59 (fun _ _ x => x)).tr k10 (fun _ _ x => x)).tr hn11.kept (fun _ _ x => x)).tr k12 (fun _ _ x => x)⟩ (by dsimp only; omega))
          exact ⟨rfl, rfl, rfl, rfl, trivial⟩
        · exact absurd rfl hbz
      · refine U_guard rfl rfl ?_; refine Gd_want ?_
        refine U_make E rfl rfl (zs := [.int .u8 0]) rfl (N := 256) rfl rfl (by decide) (by decide) rfl rfl rfl ?_
        intro b10 w10 hn10
        rw [flat_single, ← encBs_zeros] at hn10
        refine U_nilL hc (fun _ => trivial) ?_
        refine L_op 11 (by kernel_rfl) rfl (fun hc => ?_)
        refine U_guard rfl rfl ?_; refine Gd_want ?_
        refine U_call rfl rfl (Tryd.call40 _) (cln w10 (k59.tr hn10.kept (fun _ _ x => x))) ?_
        rintro r w11 ⟨rfl, k11⟩
        refine U_nilL hc (fun _ => trivial) ?_
        refine L_op 14 (by kernel_rfl) rfl (fun hc => ?_)
        refine U_guard rfl rfl ?_; refine Gd_want ?_
        refine U_call rfl rfl (Tryd.call22 _) (smc w9 w10 b10 k79 hn10 w11 k11) ?_
        rintro r w12 ⟨rfl, k12⟩
        refine U_nilL hc (fun _ => trivial) ?_
        refine L_takeG 15 rfl (by kernel_rfl) (by kernel_rfl) (by kernel_rfl) (by kernel_rfl) trivial rfl rfl rfl rfl rfl (fun a ha w' _ => run_pv E ha rfl _ _ _ _ _) ?_
        refine L_take 16 rfl (by kernel_rfl) (by kernel_rfl) (by kernel_rfl) (by kernel_rfl) trivial rfl rfl rfl (fun a ha w' _ => run_pv E ha rfl _ _ _ _ _) ?_
        refine L_done (by kernel_rfl) ?_
        repeat (first | (with_reducible first | apply T_seq | apply T_region | apply U_nil | apply T_skip | apply T_block | apply T_inBlock | apply Cnd_t | apply Cnd_f | apply Cnd_not | apply Cnd_some | apply Cnd_none | apply Gd_nt | apply Gd_nf | apply Gd_some | apply Gd_none | apply Gd_want) | refine U_ar rfl rfl rfl (wrap_k (by simp only [wrapOk]; omega)) rfl ?_ | refine U_cv E rfl rfl rfl (wrap_k (by simp only [wrapOk]; omega)) rfl ?_ | refine U_pure E rfl rfl ?_ | refine T_exit rfl ?_ | refine T_condV rfl ?_ | refine U_guard rfl rfl ?_ | ((with_reducible refine Gd_skipT ?_ ?_); exact rfl) | ((with_reducible refine Gd_skipF ?_ ?_); exact rfl))
        refine Cnd_p (fun hbz => ?_) (fun hbz => ?_)
        · repeat (first | (with_reducible first | apply T_seq | apply T_region | apply U_nil | apply T_skip | apply T_block | apply T_inBlock | apply Cnd_t | apply Cnd_f | apply Cnd_not | apply Cnd_some | apply Cnd_none | apply Gd_nt | apply Gd_nf | apply Gd_some | apply Gd_none | apply Gd_want) | refine U_ar rfl rfl rfl (wrap_k (by simp only [wrapOk]; omega)) rfl ?_ | refine U_cv E rfl rfl rfl (wrap_k (by simp only [wrapOk]; omega)) rfl ?_ | refine U_pure E rfl rfl ?_ | refine T_exit rfl ?_ | refine T_condV rfl ?_ | refine U_guard rfl rfl ?_ | ((with_reducible refine Gd_skipT ?_ ?_); exact rfl) | ((with_reducible refine Gd_skipF ?_ ?_); exact rfl))
          refine T.less ?_ (ih (i + 1, w12) ⟨by omega, (((k5.tr k59 (fun _ _ x => x)).tr hn10.kept (fun _ _ x => x)).tr k11 (fun _ _ x => x)).tr k12 (fun _ _ x => x)⟩ (by dsimp only; omega))
          exact ⟨rfl, rfl, rfl, rfl, trivial⟩
        · exact absurd rfl hbz
    · repeat (first | (with_reducible first | apply T_seq | apply T_region | apply U_nil | apply T_skip | apply T_block | apply T_inBlock | apply Cnd_t | apply Cnd_f | apply Cnd_not | apply Cnd_some | apply Cnd_none | apply Gd_nt | apply Gd_nf | apply Gd_some | apply Gd_none | apply Gd_want) | refine U_ar rfl rfl rfl (wrap_k (by simp only [wrapOk]; omega)) rfl ?_ | refine U_cv E rfl rfl rfl (wrap_k (by simp only [wrapOk]; omega)) rfl ?_ | refine U_pure E rfl rfl ?_ | refine T_exit rfl ?_ | refine T_condV rfl ?_ | refine U_guard rfl rfl ?_ | ((with_reducible refine Gd_skipT ?_ ?_); exact rfl) | ((with_reducible refine Gd_skipF ?_ ?_); exact rfl))
      exact T_ret1 Tryd.func34 rfl rfl ⟨_, rfl, rfl, k5⟩
end Go.Proofs.YtoefhdaenaiomaaDoor

/- The document's drum: bits are turned. -/
namespace Go.Proofs.YtoefhdaenaiomaaDoor
open Go
set_option maxRecDepth 20000

/-- An act, as its cells hold it. -/
structure XAct where
  d : Nat
  at_ : Int
  vp : Value
  p : List UInt8
  vk : Value
  keep : List Bool
  n : Int
  mask : Nat
def XAct.cells (a : XAct) : List Value := [.int .u8 a.d, .int .i64 a.at_, a.vp, a.vk, .int .i64 a.n, .int .u32 a.mask]

/-- Sectors, each of which stands by itself in what H says of it. -/
def FSj (w : World) (F : Nat → Prop) (H : Nat → Nat → Prop) (v : Value) (fs : List Value) (l : List (List UInt8)) : Prop := fs.length = l.length ∧ Row w F v 1 fs.length fs 23 ∧ ∀ (j : Nat) u p, fs[j]? = some u → l[j]? = some p → BS w (H j) u p
theorem FSj.mv {w w' : World} {F K : Nat → Prop} {H : Nat → Nat → Prop} {v : Value} {fs : List Value} {l : List (List UInt8)} (h : FSj w F H v fs l) (k : Kept K w w') (h1 : ∀ b, b < w.heap.size → F b → ¬ K b) (h2 : ∀ j b, b < w.heap.size → H j b → ¬ K b) : FSj w' F H v fs l :=
  ⟨h.1, h.2.1.mv k h1, fun j u p hu hp => (h.2.2 j u p hu hp).mv k (h2 j)⟩
/-- One is set. -/
theorem FSj.set {w w' : World} {F : Nat → Prop} {H : Nat → Nat → Prop} {fs pad : List Value} {l : List (List UInt8)} {g cap i : Nat} {u : Value} {p : List UInt8} (h1 : fs.length = l.length) (h3 : ∀ (j : Nat) u p, fs[j]? = some u → l[j]? = some p → BS w (H j) u p) (hF : F g) (hc : (fs ++ pad).length = cap * 1) (hn : fs.length ≤ cap)
    (hu : Upd w w' g ((fs ++ pad).set i u) 23) (hi : i < fs.length) (hp : BS w (H i) u p) (hH : ∀ j b, b < w.heap.size → H j b → b ≠ g) : FSj w' F H (.slice (some ⟨g, 0, none⟩) fs.length cap) (fs.set i u) (l.set i p) := by
  have hset : (fs ++ pad).set i u = fs.set i u ++ pad := by rw [List.set_append_left _ _ hi]
  rw [hset] at hu
  refine ⟨by rw [List.length_set, List.length_set, h1], ?_, fun j v q hv hq => ?_⟩
  · rw [List.length_set]
    exact ⟨by rw [List.length_set, Nat.mul_one], .inr ⟨g, cap, pad, rfl, hF, hu.blk, by rw [List.length_append, List.length_set, ← List.length_append]; exact hc, hn⟩⟩
  · rw [List.getElem?_set] at hv hq
    by_cases e : i = j
    · subst e
      rw [if_pos rfl, if_pos hi] at hv
      rw [if_pos rfl, if_pos (by omega)] at hq
      injection hv with hv
      injection hq with hq
      subst hv
      subst hq
      exact hp.mv hu.kept (fun b hb e => hH i b hb e)
    · rw [if_neg e] at hv hq
      exact (h3 j v q hv hq).mv hu.kept (fun b hb e => hH j b hb e)

/-- What the loop of New's sectors holds, set one by one to what is safe. -/
def cpL (X : XS) (i : Nat) : List (List UInt8) := (List.range X.first.length).map fun j => if j < i then X.safe j else zeros 256
theorem cpL_len (X : XS) (i : Nat) : (cpL X i).length = X.first.length := by simp [cpL]
theorem cpL_zero (X : XS) : cpL X 0 = List.replicate X.first.length (zeros 256) := by
  apply List.ext_getElem?
  intro j
  simp only [cpL, List.getElem?_map, List.getElem?_replicate, Nat.not_lt_zero, if_false]
  by_cases h : j < X.first.length
  · rw [List.getElem?_range h, if_pos h]; rfl
  · rw [List.getElem?_eq_none (by simp; omega), if_neg h]; rfl
theorem cpL_set (X : XS) (i : Nat) (h : i < X.first.length) : (cpL X i).set i (X.safe i) = cpL X (i + 1) := by
  apply List.ext_getElem?
  intro j
  rw [List.getElem?_set, cpL_len]
  by_cases e : i = j
  · subst e
    rw [if_pos rfl, if_pos h]
    simp only [cpL, List.getElem?_map, List.getElem?_range h, Option.map_some]
    rw [if_pos (by omega)]
  · rw [if_neg e]
    simp only [cpL, List.getElem?_map]
    by_cases hj : j < X.first.length
    · rw [List.getElem?_range hj]
      simp only [Option.map_some]
      by_cases h1 : j < i
      · rw [if_pos h1, if_pos (by omega)]
      · rw [if_neg h1, if_neg (by omega)]
    · rw [List.getElem?_eq_none (by simp; omega)]
      rfl
theorem cpL_get (X : XS) (i j : Nat) (h : j < X.first.length) : (cpL X i)[j]? = some (if j < i then X.safe j else zeros 256) := by
  simp only [cpL, List.getElem?_map, List.getElem?_range h, Option.map_some]

theorem bs_and {w : World} {F G K : Nat → Prop} {v : Value} {sz n : Nat} {cs : List Value} (h1 : Sl w F v sz n cs) (h2 : Sl w G v sz n cs) (hK : ∀ b, F b → G b → K b) : Sl w K v sz n cs := by
  obtain ⟨a1, a2, A, c, rfl, a3, a4⟩ := h1
  obtain ⟨_, _, A', c', e, _, b4⟩ := h2
  injection e with e1 e2 e3
  subst e1
  refine ⟨a1, a2, A, c, rfl, a3, ?_⟩
  rcases a4 with a4 | ⟨b, o, rfl, f1, f2, f3⟩
  · exact .inl a4
  · rcases b4 with b4 | ⟨b', o', e', g1, g2, g3⟩
    · exact .inl b4
    · have e5 := Option.some.inj e'
      injection e5 with e6 e7
      subst e6
      exact .inr ⟨b, o, rfl, hK b f1 g1, f2, f3⟩

/-- The sectors as they are flushed, in a new drum: 'for i := range x.First { x.First[i] = Cut(safe(d, i), 256) }' from its region on. -/
structure Cpy (w0 w : World) (G : Nat → Prop) (yb : Nat) (vy : Value) (fs : List Value) (X : XS) (A : Nat) (va : Value) (i : Nat) : Prop where
  k : Kept none0 w0 w
  blk : Blk w yb [vy, .slice none 0 0, .int .i64 (-1)] 111
  yn : w0.heap.size ≤ yb
  fsj : FSj w (fun b => fresh w0 b ∧ b ≠ yb) (fun j b => fresh w0 b ∧ b ≠ yb ∧ vy.ownBlock ≠ some b ∧ (j ≠ A → va.ownBlock ≠ some b)) vy fs (cpL X i)
  one : A < i → fs[A]? = some va ∧ BR w (fun b => fresh w0 b ∧ b ≠ yb ∧ vy.ownBlock ≠ some b) va (X.safe A)
  non : i ≤ A → va = .slice none 0 0
theorem Cpy.same {w0 w w' : World} {G : Nat → Prop} {yb : Nat} {vy va : Value} {fs : List Value} {X : XS} {A i : Nat} (h : Cpy w0 w G yb vy fs X A va i) (k : Kept none0 w w') : Cpy w0 w' G yb vy fs X A va i :=
  ⟨h.k.tr k (fun _ _ x => x), h.blk.mv k (fun x => x), h.yn, h.fsj.mv k (fun _ _ _ x => x) (fun _ _ _ _ x => x), fun e => ⟨(h.one e).1, (h.one e).2.mv k (fun _ _ _ x => x)⟩, h.non⟩
theorem Cpy.start {w0 w : World} {G : Nat → Prop} {yb : Nat} {vy : Value} {X : XS} {A : Nat} (k : Kept none0 w0 w) (h : XM w (fresh w0) yb vy (.slice none 0 0) (XS.new X.first.length)) : ∃ fs, Cpy w0 w G yb vy fs X A (.slice none 0 0) 0 := by
  obtain ⟨fs, f1, f2, f3⟩ := h.fst
  refine ⟨fs, k, h.blk, h.mem, ⟨by rw [f1, cpL_len]; simp [XS.new], f2, fun j u p hu hp => ?_⟩, fun e => by omega, fun _ => rfl⟩
  rw [cpL_zero] at hp
  exact (f3 j u p hu hp).mono (fun b _ e => ⟨e.1, e.2.1, e.2.2.1, fun _ => by simp [Value.ownBlock]⟩)
/-- The next sector is set. -/
theorem Cpy.next {w0 w w' : World} {G : Nat → Prop} {yb g cap : Nat} {fs pad : List Value} {X : XS} {A : Nat} {va : Value} {i : Nat} {u : Value} {q : List UInt8} (h : Cpy w0 w G yb (.slice (some ⟨g, 0, none⟩) fs.length cap) fs X A va i) (hi : i < X.first.length) {lo : Nat} (hlo : w0.heap.size ≤ lo) (hgl : g < lo) (hyl : yb < lo)
    (hva : ∀ b, va.ownBlock = some b → b < lo) (hfl : ∀ (j : Nat) v p, fs[j]? = some v → (cpL X i)[j]? = some p → BS w (fun b => b < lo) v p) (hq : q = X.safe i) (hql : q.length ≤ 9000) (hr : BR w (fun b => lo ≤ b) u q) (hb : Blk w g (fs ++ pad) 23) (hc : (fs ++ pad).length = cap * 1) (hn : fs.length ≤ cap)
    (hu : Upd w w' g ((fs ++ pad).set i u) 23) : Cpy w0 w' G yb (.slice (some ⟨g, 0, none⟩) fs.length cap) (fs.set i u) X A (if i = A then u else va) (i + 1) := by
  subst hq
  obtain ⟨f1, f2, f3⟩ := h.fsj
  have hlen : fs.length = X.first.length := by rw [f1, cpL_len]
  have hgF := (f2.own g rfl).1
  have huo : ∀ b, u.ownBlock = some b → lo ≤ b := fun b e => (hr.own b e).1
  have hqs : BS w (fun b => lo ≤ b) u (X.safe i) := hr.sl (by omega)
  refine ⟨h.k.tr hu.kept (fun b hb e => ?_), h.blk.mv hu.kept (fun e => ?_), h.yn, ?_, fun e => ?_, fun e => ?_⟩
  · have := hgF.1; simp only [fresh] at this; omega
  · exact hgF.2 e.symm
  · rw [← cpL_set X i hi]
    refine FSj.set f1 (fun j v p hv hp => ?_) hgF hc hn hu (by omega) ?_ (fun j b _ e e2 => e.2.2.1 (by rw [e2]; rfl))
    · have h1 := f3 j v p hv hp
      have h2 := hfl j v p hv hp
      exact bs_and h1 h2 (fun b e1 e2 => ⟨e1.1, e1.2.1, e1.2.2.1, fun hj => by
        by_cases hA : i = A
        · rw [if_pos hA]
          intro e
          have := huo b e
          omega
        · rw [if_neg hA]
          exact e1.2.2.2 hj⟩)
    · exact hqs.mono (fun b _ e => ⟨by simp only [fresh]; omega, by omega, fun e2 => by have := Option.some.inj (show some g = some b from e2); omega, fun hj => by
        by_cases hA : i = A
        · exact absurd hA hj
        · rw [if_neg hA]
          intro e2
          have := hva b e2
          omega⟩)
  · by_cases hA : i = A
    · subst hA
      rw [if_pos rfl]
      refine ⟨by rw [List.getElem?_set, if_pos rfl, if_pos (by omega)], (hr.mono (fun b _ e => ⟨by simp only [fresh]; omega, by omega, fun e2 => by have := Option.some.inj (show some g = some b from e2); omega⟩)).mv hu.kept (fun b _ e (e2 : b = g) => e.2.2 (by rw [e2]; rfl))⟩
    · rw [if_neg hA]
      obtain ⟨o1, o2⟩ := h.one (by omega)
      exact ⟨by rw [List.getElem?_set, if_neg hA]; exact o1, o2.mv hu.kept (fun b _ e (e2 : b = g) => e.2.2 (by rw [e2]; rfl))⟩
  · rw [if_neg (by omega)]
    exact h.non (by omega)
end Go.Proofs.YtoefhdaenaiomaaDoor
