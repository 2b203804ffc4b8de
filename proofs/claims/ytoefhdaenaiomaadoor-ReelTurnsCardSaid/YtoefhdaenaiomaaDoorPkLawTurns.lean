/- ReelTurns: the walk. -/
import Derived.Test.YtoefhdaenaiomaaDoorPk14
set_option linter.unusedVariables false
set_option linter.unusedSimpArgs false
namespace Go.Proofs.YtoefhdaenaiomaaDoor
open Go
set_option maxRecDepth 20000

theorem pgs_take (p : List UInt8) : pgs (p.take 200).length = 1 := by
  have : (p.take 200).length ≤ 200 := List.length_take_le _ _
  unfold pgs
  omega

set_option maxHeartbeats 8000000 in
theorem turns15_c (w : World) (G H : Nat → Prop) (vl vf : Value) (l fill : List (List UInt8)) (a : Nat) (hl : RS w G vl l) (hf : RS w H vf fill) (ha : a < 256) :
    Calls Tryd.prog 14 [.int .u8 a, vl, vf].toArray w (Ret fun r w' => r = .bool true ∧ Kept none0 w w') := by
  obtain ⟨vs, a1, a2, a3⟩ := hl
  obtain ⟨us, b1, b2, b3⟩ := hf
  obtain ⟨A, c, rfl⟩ := a2.len
  obtain ⟨B, cb, rfl⟩ := b2.len
  have hul := b2.1
  have hvl := a2.1
  refine calls_T Tryd.func14 rfl rfl rfl ?_
  repeat (first | (with_reducible first | apply T_seq | apply T_region | apply U_nil | apply T_skip | apply T_block | apply T_inBlock | apply Cnd_t | apply Cnd_f | apply Cnd_not | apply Cnd_some | apply Cnd_none | apply Gd_nt | apply Gd_nf | apply Gd_some | apply Gd_none | apply Gd_want) | refine U_ar rfl rfl rfl (wrap_k (by simp only [wrapOk]; omega)) rfl ?_ | refine U_cv E rfl rfl rfl (wrap_k (by simp only [wrapOk]; omega)) rfl ?_ | refine U_pure E rfl rfl ?_ | refine T_exit rfl ?_ | refine T_condV rfl ?_ | refine U_guard rfl rfl ?_ | ((with_reducible refine Gd_skipT ?_ ?_); exact rfl) | ((with_reducible refine Gd_skipF ?_ ?_); exact rfl))
  refine U_call rfl rfl (Tryd.call48 _) (awake15_c w) ?_
  rintro r w1 ⟨rfl, k1⟩
  repeat (first | (with_reducible first | apply T_seq | apply T_region | apply U_nil | apply T_skip | apply T_block | apply T_inBlock | apply Cnd_t | apply Cnd_f | apply Cnd_not | apply Cnd_some | apply Cnd_none | apply Gd_nt | apply Gd_nf | apply Gd_some | apply Gd_none | apply Gd_want) | refine U_ar rfl rfl rfl (wrap_k (by simp only [wrapOk]; omega)) rfl ?_ | refine U_cv E rfl rfl rfl (wrap_k (by simp only [wrapOk]; omega)) rfl ?_ | refine U_pure E rfl rfl ?_ | refine T_exit rfl ?_ | refine T_condV rfl ?_ | refine U_guard rfl rfl ?_ | ((with_reducible refine Gd_skipT ?_ ?_); exact rfl) | ((with_reducible refine Gd_skipF ?_ ?_); exact rfl))
  refine U_run rfl rfl rfl (ro_bin (r := .int .u8 (a % 20 : Nat)) rfl rfl (by exact run_rem (y := 20) (by decide))) ?_
  repeat (first | (with_reducible first | apply T_seq | apply T_region | apply U_nil | apply T_skip | apply T_block | apply T_inBlock | apply Cnd_t | apply Cnd_f | apply Cnd_not | apply Cnd_some | apply Cnd_none | apply Gd_nt | apply Gd_nf | apply Gd_some | apply Gd_none | apply Gd_want) | refine U_ar rfl rfl rfl (wrap_k (by simp only [wrapOk]; omega)) rfl ?_ | refine U_cv E rfl rfl rfl (wrap_k (by simp only [wrapOk]; omega)) rfl ?_ | refine U_pure E rfl rfl ?_ | refine T_exit rfl ?_ | refine T_condV rfl ?_ | refine U_guard rfl rfl ?_ | ((with_reducible refine Gd_skipT ?_ ?_); exact rfl) | ((with_reducible refine Gd_skipF ?_ ?_); exact rfl))
  obtain ⟨S, hS⟩ : ∃ S : Nat, 30 + a % 20 = S := ⟨_, rfl⟩
  refine U_call rfl rfl (Tryd.call24 _) (new_c w1 (30 + ((a % 20 : Nat) : Int)) (by omega)) ?_
  rintro r w2 ⟨k2, hdb, rfl, hD2⟩
  have hD2 := hD2.dm
  rw [show ((30 : Int) + ((a % 20 : Nat) : Int)).toNat = S by omega] at hD2
  have k02 : Kept none0 w w2 := k1.tr k2 (fun _ _ x => x)
  have hp0 : pgs ([] : List UInt8).length = 1 := rfl
  have hmk := make_on w2 _ hdb _ (.slice none 0 0) [] hD2 (drNew_on _) (by rw [drNew_len]; omega) (sl_nil _ _) (rec_ok (by decide) (by decide) (by decide)) (by rw [drNew_hsz]; omega) (by simp [drNew])
  unfold ptr at *
  repeat (first | (with_reducible first | apply T_seq | apply T_region | apply U_nil | apply T_skip | apply T_block | apply T_inBlock | apply Cnd_t | apply Cnd_f | apply Cnd_not | apply Cnd_some | apply Cnd_none | apply Gd_nt | apply Gd_nf | apply Gd_some | apply Gd_none | apply Gd_want) | refine U_ar rfl rfl rfl (wrap_k (by simp only [wrapOk]; omega)) rfl ?_ | refine U_cv E rfl rfl rfl (wrap_k (by simp only [wrapOk]; omega)) rfl ?_ | refine U_pure E rfl rfl ?_ | refine T_exit rfl ?_ | refine T_condV rfl ?_ | refine U_guard rfl rfl ?_ | ((with_reducible refine Gd_skipT ?_ ?_); exact rfl) | ((with_reducible refine Gd_skipF ?_ ?_); exact rfl))
  refine U_call rfl rfl (Tryd.call49 _) (hmk) ?_
  rintro r w3 ⟨F3, Fr3, rb, D3, rfl, o3, h3, hFr3, l3, q3, _⟩
  rw [drNew_len] at l3
  have k03 : Kept none0 w w3 := o3.done k02 (fun b e => by have := k1.size; have := e.1; omega)
  have hn3 : ∀ b, uni F3 Fr3 b → w.heap.size ≤ b := by
    intro b e
    have := k02.size
    rcases e with e | e
    · exact (o3.newer (w0 := w) (by omega) (fun b e => by have := k1.size; have := e.1; omega)) b e
    · have := hFr3 b e
      omega
  repeat (first | (with_reducible first | apply T_seq | apply T_region | apply U_nil | apply T_skip | apply T_block | apply T_inBlock | apply Cnd_t | apply Cnd_f | apply Cnd_not | apply Cnd_some | apply Cnd_none | apply Gd_nt | apply Gd_nf | apply Gd_some | apply Gd_none | apply Gd_want) | refine U_ar rfl rfl rfl (wrap_k (by simp only [wrapOk]; omega)) rfl ?_ | refine U_cv E rfl rfl rfl (wrap_k (by simp only [wrapOk]; omega)) rfl ?_ | refine U_pure E rfl rfl ?_ | refine T_exit rfl ?_ | refine T_condV rfl ?_ | refine U_guard rfl rfl ?_ | ((with_reducible refine Gd_skipT ?_ ?_); exact rfl) | ((with_reducible refine Gd_skipF ?_ ?_); exact rfl))
  refine T_loop (α := Nat × ((Nat → Prop) × (Nat → Prop) × Dr × List UInt8) × World) (fun x => [(36, .int .i64 x.1), (35, .int .i64 vs.length), (34, .slice A vs.length c), (9, .pointer (some ⟨rb, 0, none⟩)), (7, .pointer (some ⟨hdb, 0, none⟩)), (2, .slice B us.length cb)]) (fun x => x.2.2) (fun x => vs.length - x.1)
    (fun x => x.1 ≤ vs.length ∧ x.1 ≤ 8 ∧ Kept none0 w x.2.2 ∧ (∀ b, uni x.2.1.1 x.2.1.2.1 b → w.heap.size ≤ b) ∧ RD x.2.2 x.2.1.1 x.2.1.2.1 hdb rb x.2.1.2.2.1 (x.1 + 1) [x.2.1.2.2.2] ∧ x.2.1.2.2.2.length ≤ 200 ∧ x.2.1.2.2.1.l.length = S ∧ x.2.1.2.2.1.wait = [])
    (0, (F3, Fr3, D3, []), w3) ⟨Nat.zero_le _, Nat.zero_le _, k03, hn3, h3, Nat.zero_le _, l3, q3⟩ ?hsub rfl ?_
  case hsub => exact ⟨rfl, rfl, rfl, rfl, rfl, rfl, trivial⟩
  rintro ⟨i, ⟨F, Fr, D, p0⟩, w5⟩ ⟨hi, hi8, k5, hn5, h5, hp0l, l5, q5⟩ ih
  dsimp only at hi hi8 k5 hn5 h5 hp0l l5 q5 ⊢
  have hz5 : hsz D = (S - 2) / 2 := by rw [hsz, l5]
  repeat (first | (with_reducible first | apply T_seq | apply T_region | apply U_nil | apply T_skip | apply T_block | apply T_inBlock | apply Cnd_t | apply Cnd_f | apply Cnd_not | apply Cnd_some | apply Cnd_none | apply Gd_nt | apply Gd_nf | apply Gd_some | apply Gd_none | apply Gd_want) | refine U_ar rfl rfl rfl (wrap_k (by simp only [wrapOk]; omega)) rfl ?_ | refine U_cv E rfl rfl rfl (wrap_k (by simp only [wrapOk]; omega)) rfl ?_ | refine U_pure E rfl rfl ?_ | refine T_exit rfl ?_ | refine T_condV rfl ?_ | refine U_guard rfl rfl ?_ | ((with_reducible refine Gd_skipT ?_ ?_); exact rfl) | ((with_reducible refine Gd_skipF ?_ ?_); exact rfl))
  refine Cnd_p (fun hlt => ?_) (fun hlt => ?_)
  · have hl1 : i < vs.length := by omega
    have hl2 : i < l.length := by omega
    have hg1 : vs[(i : Int).toNat]? = some vs[i] := by rw [Int.toNat_natCast, List.getElem?_eq_getElem hl1]
    have hap := a3 i _ _ (List.getElem?_eq_getElem hl1) (List.getElem?_eq_getElem hl2)
    repeat (first | (with_reducible first | apply T_seq | apply T_region | apply U_nil | apply T_skip | apply T_block | apply T_inBlock | apply Cnd_t | apply Cnd_f | apply Cnd_not | apply Cnd_some | apply Cnd_none | apply Gd_nt | apply Gd_nf | apply Gd_some | apply Gd_none | apply Gd_want) | refine U_ar rfl rfl rfl (wrap_k (by simp only [wrapOk]; omega)) rfl ?_ | refine U_cv E rfl rfl rfl (wrap_k (by simp only [wrapOk]; omega)) rfl ?_ | refine U_pure E rfl rfl ?_ | refine T_exit rfl ?_ | refine T_condV rfl ?_ | refine U_guard rfl rfl ?_ | ((with_reducible refine Gd_skipT ?_ ?_); exact rfl) | ((with_reducible refine Gd_skipF ?_ ?_); exact rfl))
    refine U_idx E ((a2.mv k5 (fun _ _ _ x => x))) rfl rfl rfl rfl (by omega) (by omega) (hg1) rfl (fun pp hpp => ?_)
    refine U_load E rfl rfl rfl hpp rfl ?_
    repeat (first | (with_reducible first | apply T_seq | apply T_region | apply U_nil | apply T_skip | apply T_block | apply T_inBlock | apply Cnd_t | apply Cnd_f | apply Cnd_not | apply Cnd_some | apply Cnd_none | apply Gd_nt | apply Gd_nf | apply Gd_some | apply Gd_none | apply Gd_want) | refine U_ar rfl rfl rfl (wrap_k (by simp only [wrapOk]; omega)) rfl ?_ | refine U_cv E rfl rfl rfl (wrap_k (by simp only [wrapOk]; omega)) rfl ?_ | refine U_pure E rfl rfl ?_ | refine T_exit rfl ?_ | refine T_condV rfl ?_ | refine U_guard rfl rfl ?_ | ((with_reducible refine Gd_skipT ?_ ?_); exact rfl) | ((with_reducible refine Gd_skipF ?_ ?_); exact rfl))
    refine Cnd_p (fun h8 => ?_) (fun h8 => ?_)
    · repeat (first | (with_reducible first | apply T_seq | apply T_region | apply U_nil | apply T_skip | apply T_block | apply T_inBlock | apply Cnd_t | apply Cnd_f | apply Cnd_not | apply Cnd_some | apply Cnd_none | apply Gd_nt | apply Gd_nf | apply Gd_some | apply Gd_none | apply Gd_want) | refine U_ar rfl rfl rfl (wrap_k (by simp only [wrapOk]; omega)) rfl ?_ | refine U_cv E rfl rfl rfl (wrap_k (by simp only [wrapOk]; omega)) rfl ?_ | refine U_pure E rfl rfl ?_ | refine T_exit rfl ?_ | refine T_condV rfl ?_ | refine U_guard rfl rfl ?_ | ((with_reducible refine Gd_skipT ?_ ?_); exact rfl) | ((with_reducible refine Gd_skipF ?_ ?_); exact rfl))
      exact T_ret1 Tryd.func14 rfl rfl ⟨_, rfl, rfl, k5⟩
    · repeat (first | (with_reducible first | apply T_seq | apply T_region | apply U_nil | apply T_skip | apply T_inBlock | apply Cnd_t | apply Cnd_f | apply Cnd_not | apply Cnd_some | apply Cnd_none | apply Gd_nt | apply Gd_nf | apply Gd_some | apply Gd_none | apply Gd_want) | refine U_ar rfl rfl rfl (wrap_k (by simp only [wrapOk]; omega)) rfl ?_ | refine U_cv E rfl rfl rfl (wrap_k (by simp only [wrapOk]; omega)) rfl ?_ | refine U_pure E rfl rfl ?_ | refine T_exit rfl ?_ | refine T_condV rfl ?_ | refine U_guard rfl rfl ?_ | ((with_reducible refine Gd_skipT ?_ ?_); exact rfl) | ((with_reducible refine Gd_skipF ?_ ?_); exact rfl))
      -- the fill
      refine T_viaK (α := (Nat → Prop) × (Nat → Prop) × Dr × List (List UInt8)) (fun x => [(12, vs[i]), (11, .int .i64 i), (36, .int .i64 i), (35, .int .i64 vs.length), (34, .slice A vs.length c), (9, .pointer (some ⟨rb, 0, none⟩)), (7, .pointer (some ⟨hdb, 0, none⟩)), (2, .slice B us.length cb)])
        (fun x w' => Kept none0 w w' ∧ (∀ b, uni x.1 x.2.1 b → w.heap.size ≤ b) ∧ RD w' x.1 x.2.1 hdb rb x.2.2.1 (i + 1) x.2.2.2 ∧ x.2.2.1.l.length = S ∧ x.2.2.1.wait.length ≤ 2000) ?fin1 ?go1
      case go1 =>
        intro kk fin
        refine T_block ?_
        refine T_loop (α := Nat × ((Nat → Prop) × (Nat → Prop) × Dr × List (List UInt8)) × World) (fun x => [(45, .int .i64 x.1), (44, .int .i64 us.length), (43, .slice B us.length cb), (12, vs[i]), (11, .int .i64 i), (36, .int .i64 i), (35, .int .i64 vs.length), (34, .slice A vs.length c), (9, .pointer (some ⟨rb, 0, none⟩)), (7, .pointer (some ⟨hdb, 0, none⟩)), (2, .slice B us.length cb)]) (fun x => x.2.2) (fun x => us.length - x.1)
          (fun x => x.1 ≤ us.length ∧ Kept none0 w x.2.2 ∧ (∀ b, uni x.2.1.1 x.2.1.2.1 b → w.heap.size ≤ b) ∧ RD x.2.2 x.2.1.1 x.2.1.2.1 hdb rb x.2.1.2.2.1 (i + 1) x.2.1.2.2.2 ∧ x.2.1.2.2.1.l.length = S ∧ x.2.1.2.2.2.length ≤ 1 + min 4 x.1 ∧ (allP (i + 1) 0 x.2.1.2.2.2).length ≤ 1 + min 4 x.1 ∧ x.2.1.2.2.1.wait.length ≤ 300 * min 4 x.1)
          (0, (F, Fr, D, [p0]), w5) ⟨Nat.zero_le _, k5, hn5, h5, l5, Nat.le_refl _, ?hpg, by dsimp only; rw [q5]; exact Nat.zero_le _⟩ ?hsub2 rfl ?_
        case hpg =>
          have : pgs p0.length = 1 := by unfold pgs; omega
          simp [allP, lay_len, this]
        case hsub2 => exact ⟨rfl, rfl, rfl, rfl, rfl, rfl, rfl, rfl, rfl, rfl, rfl, trivial⟩
        rintro ⟨k, ⟨F6, Fr6, D6, L⟩, w6⟩ ⟨hk, k6, hn6, h6, l6, c6, g6, q6⟩ ih2
        dsimp only at hk k6 hn6 h6 l6 c6 g6 q6 ⊢
        have hz6 : hsz D6 = (S - 2) / 2 := by rw [hsz, l6]
        repeat (first | (with_reducible first | apply T_seq | apply T_region | apply U_nil | apply T_skip | apply T_block | apply T_inBlock | apply Cnd_t | apply Cnd_f | apply Cnd_not | apply Cnd_some | apply Cnd_none | apply Gd_nt | apply Gd_nf | apply Gd_some | apply Gd_none | apply Gd_want) | refine U_ar rfl rfl rfl (wrap_k (by simp only [wrapOk]; omega)) rfl ?_ | refine U_cv E rfl rfl rfl (wrap_k (by simp only [wrapOk]; omega)) rfl ?_ | refine U_pure E rfl rfl ?_ | refine T_exit rfl ?_ | refine T_condV rfl ?_ | refine U_guard rfl rfl ?_ | ((with_reducible refine Gd_skipT ?_ ?_); exact rfl) | ((with_reducible refine Gd_skipF ?_ ?_); exact rfl))
        refine Cnd_p (fun hklt => ?_) (fun hklt => ?_)
        · have hk1 : k < us.length := by omega
          have hk2 : k < fill.length := by omega
          have hgk : us[(k : Int).toNat]? = some us[k] := by rw [Int.toNat_natCast, List.getElem?_eq_getElem hk1]
          have hqp := b3 k _ _ (List.getElem?_eq_getElem hk1) (List.getElem?_eq_getElem hk2)
          repeat (first | (with_reducible first | apply T_seq | apply T_region | apply U_nil | apply T_skip | apply T_block | apply T_inBlock | apply Cnd_t | apply Cnd_f | apply Cnd_not | apply Cnd_some | apply Cnd_none | apply Gd_nt | apply Gd_nf | apply Gd_some | apply Gd_none | apply Gd_want) | refine U_ar rfl rfl rfl (wrap_k (by simp only [wrapOk]; omega)) rfl ?_ | refine U_cv E rfl rfl rfl (wrap_k (by simp only [wrapOk]; omega)) rfl ?_ | refine U_pure E rfl rfl ?_ | refine T_exit rfl ?_ | refine T_condV rfl ?_ | refine U_guard rfl rfl ?_ | ((with_reducible refine Gd_skipT ?_ ?_); exact rfl) | ((with_reducible refine Gd_skipF ?_ ?_); exact rfl))
          refine U_idx E ((b2.mv k6 (fun _ _ _ x => x))) rfl rfl rfl rfl (by omega) (by omega) (hgk) rfl (fun qq hqq => ?_)
          refine U_load E rfl rfl rfl hqq rfl ?_
          repeat (first | (with_reducible first | apply T_seq | apply T_region | apply U_nil | apply T_skip | apply T_block | apply T_inBlock | apply Cnd_t | apply Cnd_f | apply Cnd_not | apply Cnd_some | apply Cnd_none | apply Gd_nt | apply Gd_nf | apply Gd_some | apply Gd_none | apply Gd_want) | refine U_ar rfl rfl rfl (wrap_k (by simp only [wrapOk]; omega)) rfl ?_ | refine U_cv E rfl rfl rfl (wrap_k (by simp only [wrapOk]; omega)) rfl ?_ | refine U_pure E rfl rfl ?_ | refine T_exit rfl ?_ | refine T_condV rfl ?_ | refine U_guard rfl rfl ?_ | ((with_reducible refine Gd_skipT ?_ ?_); exact rfl) | ((with_reducible refine Gd_skipF ?_ ?_); exact rfl))
          refine Cnd_p (fun h4 => ?_) (fun h4 => ?_)
          · have h4' : k < 4 := by omega
            repeat (first | (with_reducible first | apply T_seq | apply T_region | apply U_nil | apply T_skip | apply T_block | apply T_inBlock | apply Cnd_t | apply Cnd_f | apply Cnd_not | apply Cnd_some | apply Cnd_none | apply Gd_nt | apply Gd_nf | apply Gd_some | apply Gd_none | apply Gd_want) | refine U_ar rfl rfl rfl (wrap_k (by simp only [wrapOk]; omega)) rfl ?_ | refine U_cv E rfl rfl rfl (wrap_k (by simp only [wrapOk]; omega)) rfl ?_ | refine U_pure E rfl rfl ?_ | refine T_exit rfl ?_ | refine T_condV rfl ?_ | refine U_guard rfl rfl ?_ | ((with_reducible refine Gd_skipT ?_ ?_); exact rfl) | ((with_reducible refine Gd_skipF ?_ ?_); exact rfl))
            refine U_call rfl rfl (Tryd.call19 _) (cut_c w6 _ us[k] fill[k] 200 (hqp.mv k6 (fun _ _ _ x => x)) (by decide)) ?_
            rintro rq w7 ⟨k7, hq7⟩
            have hql : (fill[k].take (200 : Int).toNat).length ≤ 200 := List.length_take_le _ _
            have hqg : pgs (fill[k].take (200 : Int).toNat).length = 1 := pgs_take _
            have hq7' : BS w7 (fun b => ¬ uni F6 Fr6 b) rq (fill[k].take (200 : Int).toNat) := (hq7.sl (by omega)).mono (fun b _ e e2 => by have := h6.lt b e2; simp only [fresh] at e; omega)
            have hap7 := append_on rq _ (h6.same k7) hq7' (rec_ok (by omega) (by omega) (by omega)) (by omega) (by omega)
            unfold ptr at *
            repeat (first | (with_reducible first | apply T_seq | apply T_region | apply U_nil | apply T_skip | apply T_block | apply T_inBlock | apply Cnd_t | apply Cnd_f | apply Cnd_not | apply Cnd_some | apply Cnd_none | apply Gd_nt | apply Gd_nf | apply Gd_some | apply Gd_none | apply Gd_want) | refine U_ar rfl rfl rfl (wrap_k (by simp only [wrapOk]; omega)) rfl ?_ | refine U_cv E rfl rfl rfl (wrap_k (by simp only [wrapOk]; omega)) rfl ?_ | refine U_pure E rfl rfl ?_ | refine T_exit rfl ?_ | refine T_condV rfl ?_ | refine U_guard rfl rfl ?_ | ((with_reducible refine Gd_skipT ?_ ?_); exact rfl) | ((with_reducible refine Gd_skipF ?_ ?_); exact rfl))
            refine U_call rfl rfl (Tryd.call53 _) (hap7) ?_
            rintro r w8 ⟨rfl, F8, Fr8, D8, o8, h8, l8, q8⟩
            have k06 := k6.tr k7 (fun _ _ x => x)
            repeat (first | (with_reducible first | apply T_seq | apply T_region | apply U_nil | apply T_skip | apply T_block | apply T_inBlock | apply Cnd_t | apply Cnd_f | apply Cnd_not | apply Cnd_some | apply Cnd_none | apply Gd_nt | apply Gd_nf | apply Gd_some | apply Gd_none | apply Gd_want) | refine U_ar rfl rfl rfl (wrap_k (by simp only [wrapOk]; omega)) rfl ?_ | refine U_cv E rfl rfl rfl (wrap_k (by simp only [wrapOk]; omega)) rfl ?_ | refine U_pure E rfl rfl ?_ | refine T_exit rfl ?_ | refine T_condV rfl ?_ | refine U_guard rfl rfl ?_ | ((with_reducible refine Gd_skipT ?_ ?_); exact rfl) | ((with_reducible refine Gd_skipF ?_ ?_); exact rfl))
            refine T.less ?_ (ih2 (k + 1, (F8, Fr8, D8, L ++ [fill[k].take (200 : Int).toNat]), w8) ⟨by omega, o8.done k06 hn6, o8.newer k06.size hn6, h8, by dsimp only; rw [l8]; exact l6, by dsimp only; rw [List.length_append, List.length_singleton]; omega, by dsimp only; rw [allP_snoc, List.length_append, lay_len]; omega, by dsimp only; omega⟩ (by dsimp only; omega))
            exact ⟨rfl, rfl, rfl, rfl, rfl, rfl, rfl, rfl, rfl, rfl, rfl, trivial⟩
          · repeat (first | (with_reducible first | apply T_seq | apply T_region | apply U_nil | apply T_skip | apply T_block | apply T_inBlock | apply Cnd_t | apply Cnd_f | apply Cnd_not | apply Cnd_some | apply Cnd_none | apply Gd_nt | apply Gd_nf | apply Gd_some | apply Gd_none | apply Gd_want) | refine U_ar rfl rfl rfl (wrap_k (by simp only [wrapOk]; omega)) rfl ?_ | refine U_cv E rfl rfl rfl (wrap_k (by simp only [wrapOk]; omega)) rfl ?_ | refine U_pure E rfl rfl ?_ | refine T_exit rfl ?_ | refine T_condV rfl ?_ | refine U_guard rfl rfl ?_ | ((with_reducible refine Gd_skipT ?_ ?_); exact rfl) | ((with_reducible refine Gd_skipF ?_ ?_); exact rfl))
            refine T.less ?_ (ih2 (k + 1, (F6, Fr6, D6, L), w6) ⟨by omega, k6, hn6, h6, l6, by dsimp only; omega, by dsimp only; omega, by dsimp only; omega⟩ (by dsimp only; omega))
            exact ⟨rfl, rfl, rfl, rfl, rfl, rfl, rfl, rfl, rfl, rfl, rfl, trivial⟩
        · refine T_exit rfl ?_
          refine T.less ?_ (fin (F6, Fr6, D6, L) w6 ⟨k6, hn6, h6, l6, by dsimp only; omega⟩)
          exact ⟨rfl, rfl, rfl, rfl, rfl, rfl, rfl, rfl, trivial⟩
      case fin1 =>
        rintro ⟨F6, Fr6, D6, L⟩ w6 ⟨k6, hn6, h6, l6, q6⟩
        dsimp only at hn6 h6 l6 q6 ⊢
        have hz6 : hsz D6 = (S - 2) / 2 := by rw [hsz, l6]
        repeat (first | (with_reducible first | apply T_seq | apply T_region | apply U_nil | apply T_skip | apply T_block | apply T_inBlock | apply Cnd_t | apply Cnd_f | apply Cnd_not | apply Cnd_some | apply Cnd_none | apply Gd_nt | apply Gd_nf | apply Gd_some | apply Gd_none | apply Gd_want) | refine U_ar rfl rfl rfl (wrap_k (by simp only [wrapOk]; omega)) rfl ?_ | refine U_cv E rfl rfl rfl (wrap_k (by simp only [wrapOk]; omega)) rfl ?_ | refine U_pure E rfl rfl ?_ | refine T_exit rfl ?_ | refine T_condV rfl ?_ | refine U_guard rfl rfl ?_ | ((with_reducible refine Gd_skipT ?_ ?_); exact rfl) | ((with_reducible refine Gd_skipF ?_ ?_); exact rfl))
        refine U_call rfl rfl (Tryd.call19 _) (cut_c w6 _ vs[i] l[i] 200 (hap.mv k6 (fun _ _ _ x => x)) (by decide)) ?_
        rintro rp w7 ⟨k7, hp7⟩
        obtain ⟨p, hpe⟩ : ∃ p, l[i].take (200 : Int).toNat = p := ⟨_, rfl⟩
        have hpl : p.length ≤ 200 := by rw [← hpe]; exact List.length_take_le _ _
        have hpg : pgs p.length = 1 := by rw [← hpe]; exact pgs_take _
        rw [hpe] at hp7
        have hp7' : BS w7 (fun b => w6.heap.size ≤ b ∧ b < w7.heap.size) rp p := (hp7.sl (by omega)).mono (fun b hb e => ⟨e, hb⟩)
        have hlt6 := h6.lt
        have h7 := h6.same k7
        have k07 := k6.tr k7 (fun _ _ x => x)
        have htn := turn_on rp p h7 (hp7'.mono (fun b _ e e2 => by have := hlt6 b e2; omega)) (by omega) (rec_ok (by omega) (by decide) (by omega)) (by omega) (by omega)
        unfold ptr at *
        repeat (first | (with_reducible first | apply T_seq | apply T_region | apply U_nil | apply T_skip | apply T_block | apply T_inBlock | apply Cnd_t | apply Cnd_f | apply Cnd_not | apply Cnd_some | apply Cnd_none | apply Gd_nt | apply Gd_nf | apply Gd_some | apply Gd_none | apply Gd_want) | refine U_ar rfl rfl rfl (wrap_k (by simp only [wrapOk]; omega)) rfl ?_ | refine U_cv E rfl rfl rfl (wrap_k (by simp only [wrapOk]; omega)) rfl ?_ | refine U_pure E rfl rfl ?_ | refine T_exit rfl ?_ | refine T_condV rfl ?_ | refine U_guard rfl rfl ?_ | ((with_reducible refine Gd_skipT ?_ ?_); exact rfl) | ((with_reducible refine Gd_skipF ?_ ?_); exact rfl))
        refine U_call rfl rfl (Tryd.call57 _) (htn) ?_
        rintro r w8 ⟨rfl, F8, Fr8, D8, o8, h8, l8, q8, v8⟩
        have k08 : Kept none0 w w8 := o8.done k07 hn6
        have hn8 := o8.newer k07.size hn6
        have hp8 : BS w8 (fun b => ¬ uni F8 Fr8 b) rp p := o8.sl (hp7'.mono (fun b _ e e2 => by have := hlt6 b e2; omega))
        have hg8 := gen_c h8.rl
        unfold ptr at *
        repeat (first | (with_reducible first | apply T_seq | apply T_region | apply U_nil | apply T_skip | apply T_block | apply T_inBlock | apply Cnd_t | apply Cnd_f | apply Cnd_not | apply Cnd_some | apply Cnd_none | apply Gd_nt | apply Gd_nf | apply Gd_some | apply Gd_none | apply Gd_want) | refine U_ar rfl rfl rfl (wrap_k (by simp only [wrapOk]; omega)) rfl ?_ | refine U_cv E rfl rfl rfl (wrap_k (by simp only [wrapOk]; omega)) rfl ?_ | refine U_pure E rfl rfl ?_ | refine T_exit rfl ?_ | refine T_condV rfl ?_ | refine U_guard rfl rfl ?_ | refine U_guardU rfl rfl rfl ?_ | ((with_reducible refine Gd_skipT ?_ ?_); exact rfl) | ((with_reducible refine Gd_skipF ?_ ?_); exact rfl))
        refine U_call rfl rfl (Tryd.call56 _) (hg8) ?_
        rintro r w9 ⟨rfl, rfl⟩
        repeat (first | (with_reducible first | apply T_seq | apply T_region | apply U_nil | apply T_skip | apply T_block | apply T_inBlock | apply Cnd_t | apply Cnd_f | apply Cnd_not | apply Cnd_some | apply Cnd_none | apply Gd_nt | apply Gd_nf | apply Gd_some | apply Gd_none | apply Gd_want) | refine U_ar rfl rfl rfl (wrap_k (by simp only [wrapOk]; omega)) rfl ?_ | refine U_cv E rfl rfl rfl (wrap_k (by simp only [wrapOk]; omega)) rfl ?_ | refine U_pure E rfl rfl ?_ | refine T_exit rfl ?_ | refine T_condV rfl ?_ | refine U_guard rfl rfl ?_ | refine U_guardU rfl rfl rfl ?_ | ((with_reducible refine Gd_skipT ?_ ?_); exact rfl) | ((with_reducible refine Gd_skipF ?_ ?_); exact rfl))
        refine Gd_p (fun hne => ?_) (fun hne => ?_)
        · exfalso
          omega
        · have hrc := records_c h8.rl
          unfold ptr at *
          repeat (first | (with_reducible first | apply T_seq | apply T_region | apply U_nil | apply T_skip | apply T_block | apply T_inBlock | apply Cnd_t | apply Cnd_f | apply Cnd_not | apply Cnd_some | apply Cnd_none | apply Gd_nt | apply Gd_nf | apply Gd_some | apply Gd_none | apply Gd_want) | refine U_ar rfl rfl rfl (wrap_k (by simp only [wrapOk]; omega)) rfl ?_ | refine U_cv E rfl rfl rfl (wrap_k (by simp only [wrapOk]; omega)) rfl ?_ | refine U_pure E rfl rfl ?_ | refine T_exit rfl ?_ | refine T_condV rfl ?_ | refine U_guard rfl rfl ?_ | refine U_guardU rfl rfl rfl ?_ | ((with_reducible refine Gd_skipT ?_ ?_); exact rfl) | ((with_reducible refine Gd_skipF ?_ ?_); exact rfl))
          refine U_call rfl rfl (Tryd.call55 _) (hrc) ?_
          rintro r w10 ⟨k10, hs10⟩
          have hp10 := hp8.mv k10 (fun _ _ _ x => x)
          repeat (first | (with_reducible first | apply T_seq | apply T_region | apply U_nil | apply T_skip | apply T_block | apply T_inBlock | apply Cnd_t | apply Cnd_f | apply Cnd_not | apply Cnd_some | apply Cnd_none | apply Gd_nt | apply Gd_nf | apply Gd_some | apply Gd_none | apply Gd_want) | refine U_ar rfl rfl rfl (wrap_k (by simp only [wrapOk]; omega)) rfl ?_ | refine U_cv E rfl rfl rfl (wrap_k (by simp only [wrapOk]; omega)) rfl ?_ | refine U_pure E rfl rfl ?_ | refine T_exit rfl ?_ | refine T_condV rfl ?_ | refine U_guard rfl rfl ?_ | refine U_guardU rfl rfl rfl ?_ | ((with_reducible refine Gd_skipT ?_ ?_); exact rfl) | ((with_reducible refine Gd_skipF ?_ ?_); exact rfl))
          refine U_buildSlice (sz := 1) E rfl rfl rfl rfl rfl rfl rfl rfl (segs := [[rp]]) (by rw [List.map_cons, List.map_cons, bs_cells hp10]; rfl) (by simp) rfl ?_
          intro b11 w11 hn11
          have hS11 := rsame_c w11 _ _ _ _ [p] [p] (hs10.mv hn11.kept (fun _ _ _ x => x)) (RS.one hn11 hp10)
          rw [decide_eq_true rfl] at hS11
          repeat (first | (with_reducible first | apply T_seq | apply T_region | apply U_nil | apply T_skip | apply T_block | apply T_inBlock | apply Cnd_t | apply Cnd_f | apply Cnd_not | apply Cnd_some | apply Cnd_none | apply Gd_nt | apply Gd_nf | apply Gd_some | apply Gd_none | apply Gd_want) | refine U_ar rfl rfl rfl (wrap_k (by simp only [wrapOk]; omega)) rfl ?_ | refine U_cv E rfl rfl rfl (wrap_k (by simp only [wrapOk]; omega)) rfl ?_ | refine U_pure E rfl rfl ?_ | refine T_exit rfl ?_ | refine T_condV rfl ?_ | refine U_guard rfl rfl ?_ | refine U_guardU rfl rfl rfl ?_ | ((with_reducible refine Gd_skipT ?_ ?_); exact rfl) | ((with_reducible refine Gd_skipF ?_ ?_); exact rfl))
          refine U_call rfl rfl (Tryd.call54 _) (hS11) ?_
          rintro r w12 ⟨rfl, k12⟩
          have k812 : Kept none0 w9 w12 := (k10.tr hn11.kept (fun _ _ x => x)).tr k12 (fun _ _ x => x)
          have h12 := h8.same k812
          have hp12 := hp8.mv k812 (fun _ _ _ x => x)
          have hfall := fall_c w12 F8 hdb D8 (fun _ => True) (.slice none 0 0) [] (-1) h12.dm.isD (nil_bits _)
          unfold ptr at *
          repeat (first | (with_reducible first | apply T_seq | apply T_region | apply U_nil | apply T_skip | apply T_block | apply T_inBlock | apply Cnd_t | apply Cnd_f | apply Cnd_not | apply Cnd_some | apply Cnd_none | apply Gd_nt | apply Gd_nf | apply Gd_some | apply Gd_none | apply Gd_want) | refine U_ar rfl rfl rfl (wrap_k (by simp only [wrapOk]; omega)) rfl ?_ | refine U_cv E rfl rfl rfl (wrap_k (by simp only [wrapOk]; omega)) rfl ?_ | refine U_pure E rfl rfl ?_ | refine T_exit rfl ?_ | refine T_condV rfl ?_ | refine U_guard rfl rfl ?_ | refine U_guardU rfl rfl rfl ?_ | ((with_reducible refine Gd_skipT ?_ ?_); exact rfl) | ((with_reducible refine Gd_skipF ?_ ?_); exact rfl))
          refine U_call rfl rfl (Tryd.call29 _) (hfall) ?_
          rintro r w13 ⟨k13, hb2, rfl, hD13⟩
          have hD13 := hD13.dm
          obtain ⟨f1, f2, f3⟩ := fall_on D8
          have hop := open_on w13 _ hb2 _ (i + 1 + 1) [p] hD13 f1 (h8.ri.fall v8) (by rw [fall_none]; exact (by decide : (0 : Nat) + 400000 < 1000000))
          unfold ptr at *
          repeat (first | (with_reducible first | apply T_seq | apply T_region | apply U_nil | apply T_skip | apply T_block | apply T_inBlock | apply Cnd_t | apply Cnd_f | apply Cnd_not | apply Cnd_some | apply Cnd_none | apply Gd_nt | apply Gd_nf | apply Gd_some | apply Gd_none | apply Gd_want) | refine U_ar rfl rfl rfl (wrap_k (by simp only [wrapOk]; omega)) rfl ?_ | refine U_cv E rfl rfl rfl (wrap_k (by simp only [wrapOk]; omega)) rfl ?_ | refine U_pure E rfl rfl ?_ | refine T_exit rfl ?_ | refine T_condV rfl ?_ | refine U_guard rfl rfl ?_ | refine U_guardU rfl rfl rfl ?_ | ((with_reducible refine Gd_skipT ?_ ?_); exact rfl) | ((with_reducible refine Gd_skipF ?_ ?_); exact rfl))
          refine U_call rfl rfl (Tryd.call52 _) (hop) ?_
          rintro r w14 ⟨F14, Fr14, rb2, rfl, o14, h14, hFr14⟩
          have h14' := (h12.same k13).mv o14.kept (fun b e e2 => by have := h12.lt b e; have := e2.1; omega)
          have hp14 := (hp12.mv k13 (fun _ _ _ x => x)).mono (G := fun b => b < w13.heap.size) (fun b hb _ => hb)
          have k014 : Kept none0 w9 w14 := o14.done (k812.tr k13 (fun _ _ x => x)) (fun b e => by have := e.1; have := k812.size; omega)
          have hp14 := hp8.mv k014 (fun _ _ _ x => x)
          have hg14 := gen_c h14.rl
          have hg14' := gen_c h14'.rl
          unfold ptr at *
          repeat (first | (with_reducible first | apply T_seq | apply T_region | apply U_nil | apply T_skip | apply T_block | apply T_inBlock | apply Cnd_t | apply Cnd_f | apply Cnd_not | apply Cnd_some | apply Cnd_none | apply Gd_nt | apply Gd_nf | apply Gd_some | apply Gd_none | apply Gd_want) | refine U_ar rfl rfl rfl (wrap_k (by simp only [wrapOk]; omega)) rfl ?_ | refine U_cv E rfl rfl rfl (wrap_k (by simp only [wrapOk]; omega)) rfl ?_ | refine U_pure E rfl rfl ?_ | refine T_exit rfl ?_ | refine T_condV rfl ?_ | refine U_guard rfl rfl ?_ | refine U_guardU rfl rfl rfl ?_ | ((with_reducible refine Gd_skipT ?_ ?_); exact rfl) | ((with_reducible refine Gd_skipF ?_ ?_); exact rfl))
          refine U_call rfl rfl (Tryd.call56 _) (hg14) ?_
          rintro r w15 ⟨rfl, rfl⟩
          repeat (first | (with_reducible first | apply T_seq | apply T_region | apply U_nil | apply T_skip | apply T_block | apply T_inBlock | apply Cnd_t | apply Cnd_f | apply Cnd_not | apply Cnd_some | apply Cnd_none | apply Gd_nt | apply Gd_nf | apply Gd_some | apply Gd_none | apply Gd_want) | refine U_ar rfl rfl rfl (wrap_k (by simp only [wrapOk]; omega)) rfl ?_ | refine U_cv E rfl rfl rfl (wrap_k (by simp only [wrapOk]; omega)) rfl ?_ | refine U_pure E rfl rfl ?_ | refine T_exit rfl ?_ | refine T_condV rfl ?_ | refine U_guard rfl rfl ?_ | refine U_guardU rfl rfl rfl ?_ | ((with_reducible refine Gd_skipT ?_ ?_); exact rfl) | ((with_reducible refine Gd_skipF ?_ ?_); exact rfl))
          refine U_call rfl rfl (Tryd.call56 _) (hg14') ?_
          rintro r w15 ⟨rfl, rfl⟩
          repeat (first | (with_reducible first | apply T_seq | apply T_region | apply U_nil | apply T_skip | apply T_block | apply T_inBlock | apply Cnd_t | apply Cnd_f | apply Cnd_not | apply Cnd_some | apply Cnd_none | apply Gd_nt | apply Gd_nf | apply Gd_some | apply Gd_none | apply Gd_want) | refine U_ar rfl rfl rfl (wrap_k (by simp only [wrapOk]; omega)) rfl ?_ | refine U_cv E rfl rfl rfl (wrap_k (by simp only [wrapOk]; omega)) rfl ?_ | refine U_pure E rfl rfl ?_ | refine T_exit rfl ?_ | refine T_condV rfl ?_ | refine U_guard rfl rfl ?_ | refine U_guardU rfl rfl rfl ?_ | ((with_reducible refine Gd_skipT ?_ ?_); exact rfl) | ((with_reducible refine Gd_skipF ?_ ?_); exact rfl))
          refine Gd_p (fun hne2 => ?_) (fun hne2 => ?_)
          · exact (hne2 rfl).elim
          · have hrc := records_c h14.rl
            unfold ptr at *
            repeat (first | (with_reducible first | apply T_seq | apply T_region | apply U_nil | apply T_skip | apply T_block | apply T_inBlock | apply Cnd_t | apply Cnd_f | apply Cnd_not | apply Cnd_some | apply Cnd_none | apply Gd_nt | apply Gd_nf | apply Gd_some | apply Gd_none | apply Gd_want) | refine U_ar rfl rfl rfl (wrap_k (by simp only [wrapOk]; omega)) rfl ?_ | refine U_cv E rfl rfl rfl (wrap_k (by simp only [wrapOk]; omega)) rfl ?_ | refine U_pure E rfl rfl ?_ | refine T_exit rfl ?_ | refine T_condV rfl ?_ | refine U_guard rfl rfl ?_ | refine U_guardU rfl rfl rfl ?_ | ((with_reducible refine Gd_skipT ?_ ?_); exact rfl) | ((with_reducible refine Gd_skipF ?_ ?_); exact rfl))
            refine U_call rfl rfl (Tryd.call55 _) (hrc) ?_
            rintro r w16 ⟨k16, hs16⟩
            have hp16 := hp14.mv k16 (fun _ _ _ x => x)
            repeat (first | (with_reducible first | apply T_seq | apply T_region | apply U_nil | apply T_skip | apply T_block | apply T_inBlock | apply Cnd_t | apply Cnd_f | apply Cnd_not | apply Cnd_some | apply Cnd_none | apply Gd_nt | apply Gd_nf | apply Gd_some | apply Gd_none | apply Gd_want) | refine U_ar rfl rfl rfl (wrap_k (by simp only [wrapOk]; omega)) rfl ?_ | refine U_cv E rfl rfl rfl (wrap_k (by simp only [wrapOk]; omega)) rfl ?_ | refine U_pure E rfl rfl ?_ | refine T_exit rfl ?_ | refine T_condV rfl ?_ | refine U_guard rfl rfl ?_ | refine U_guardU rfl rfl rfl ?_ | ((with_reducible refine Gd_skipT ?_ ?_); exact rfl) | ((with_reducible refine Gd_skipF ?_ ?_); exact rfl))
            refine U_buildSlice (sz := 1) E rfl rfl rfl rfl rfl rfl rfl rfl (segs := [[rp]]) (by rw [List.map_cons, List.map_cons, bs_cells hp16]; rfl) (by simp) rfl ?_
            intro b17 w17 hn17
            have hS17 := rsame_c w17 _ _ _ _ [p] [p] (hs16.mv hn17.kept (fun _ _ _ x => x)) (RS.one hn17 hp16)
            rw [decide_eq_true rfl] at hS17
            repeat (first | (with_reducible first | apply T_seq | apply T_region | apply U_nil | apply T_skip | apply T_block | apply T_inBlock | apply Cnd_t | apply Cnd_f | apply Cnd_not | apply Cnd_some | apply Cnd_none | apply Gd_nt | apply Gd_nf | apply Gd_some | apply Gd_none | apply Gd_want) | refine U_ar rfl rfl rfl (wrap_k (by simp only [wrapOk]; omega)) rfl ?_ | refine U_cv E rfl rfl rfl (wrap_k (by simp only [wrapOk]; omega)) rfl ?_ | refine U_pure E rfl rfl ?_ | refine T_exit rfl ?_ | refine T_condV rfl ?_ | refine U_guard rfl rfl ?_ | refine U_guardU rfl rfl rfl ?_ | ((with_reducible refine Gd_skipT ?_ ?_); exact rfl) | ((with_reducible refine Gd_skipF ?_ ?_); exact rfl))
            refine U_call rfl rfl (Tryd.call54 _) (hS17) ?_
            rintro r w18 ⟨rfl, k18⟩
            have k1418 := (k16.tr hn17.kept (fun _ _ x => x)).tr k18 (fun _ _ x => x)
            have h18 := h14.same k1418
            have h18' := h14'.same k1418
            have hr18 := room_c h18.rl h18.dm (by rw [f2, l8]; omega)
            have hzf : hsz (drFall D8 [] (-1)) = hsz D8 := by rw [hsz, f2, hsz]
            rw [hzf] at hr18
            unfold ptr at *
            repeat (first | (with_reducible first | apply T_seq | apply T_region | apply U_nil | apply T_skip | apply T_block | apply T_inBlock | apply Cnd_t | apply Cnd_f | apply Cnd_not | apply Cnd_some | apply Cnd_none | apply Gd_nt | apply Gd_nf | apply Gd_some | apply Gd_none | apply Gd_want) | refine U_ar rfl rfl rfl (wrap_k (by simp only [wrapOk]; omega)) rfl ?_ | refine U_cv E rfl rfl rfl (wrap_k (by simp only [wrapOk]; omega)) rfl ?_ | refine U_pure E rfl rfl ?_ | refine T_exit rfl ?_ | refine T_condV rfl ?_ | refine U_guard rfl rfl ?_ | refine U_guardU rfl rfl rfl ?_ | ((with_reducible refine Gd_skipT ?_ ?_); exact rfl) | ((with_reducible refine Gd_skipF ?_ ?_); exact rfl))
            refine U_call rfl rfl (Tryd.call60 _) (hr18) ?_
            rintro r w19 ⟨rfl, k19⟩
            have h19' := h18'.same k19
            have hr19 := room_c h19'.rl h19'.dm (by rw [l8]; omega)
            unfold ptr at *
            repeat (first | (with_reducible first | apply T_seq | apply T_region | apply U_nil | apply T_skip | apply T_block | apply T_inBlock | apply Cnd_t | apply Cnd_f | apply Cnd_not | apply Cnd_some | apply Cnd_none | apply Gd_nt | apply Gd_nf | apply Gd_some | apply Gd_none | apply Gd_want) | refine U_ar rfl rfl rfl (wrap_k (by simp only [wrapOk]; omega)) rfl ?_ | refine U_cv E rfl rfl rfl (wrap_k (by simp only [wrapOk]; omega)) rfl ?_ | refine U_pure E rfl rfl ?_ | refine T_exit rfl ?_ | refine T_condV rfl ?_ | refine U_guard rfl rfl ?_ | refine U_guardU rfl rfl rfl ?_ | ((with_reducible refine Gd_skipT ?_ ?_); exact rfl) | ((with_reducible refine Gd_skipF ?_ ?_); exact rfl))
            refine U_call rfl rfl (Tryd.call60 _) (hr19) ?_
            rintro r w20 ⟨rfl, k20⟩
            have h20 := h19'.same k20
            have k020 : Kept none0 w w20 := (((k08.tr k014 (fun _ _ x => x)).tr k1418 (fun _ _ x => x)).tr k19 (fun _ _ x => x)).tr k20 (fun _ _ x => x)
            repeat (first | (with_reducible first | apply T_seq | apply T_region | apply U_nil | apply T_skip | apply T_block | apply T_inBlock | apply Cnd_t | apply Cnd_f | apply Cnd_not | apply Cnd_some | apply Cnd_none | apply Gd_nt | apply Gd_nf | apply Gd_some | apply Gd_none | apply Gd_want) | refine U_ar rfl rfl rfl (wrap_k (by simp only [wrapOk]; omega)) rfl ?_ | refine U_cv E rfl rfl rfl (wrap_k (by simp only [wrapOk]; omega)) rfl ?_ | refine U_pure E rfl rfl ?_ | refine T_exit rfl ?_ | refine T_condV rfl ?_ | refine U_guard rfl rfl ?_ | refine U_guardU rfl rfl rfl ?_ | ((with_reducible refine Gd_skipT ?_ ?_); exact rfl) | ((with_reducible refine Gd_skipF ?_ ?_); exact rfl))
            refine Cnd_p (fun hne3 => ?_) (fun hne3 => ?_)
            · exact (hne3 rfl).elim
            · repeat (first | (with_reducible first | apply T_seq | apply T_region | apply U_nil | apply T_skip | apply T_block | apply T_inBlock | apply Cnd_t | apply Cnd_f | apply Cnd_not | apply Cnd_some | apply Cnd_none | apply Gd_nt | apply Gd_nf | apply Gd_some | apply Gd_none | apply Gd_want) | refine U_ar rfl rfl rfl (wrap_k (by simp only [wrapOk]; omega)) rfl ?_ | refine U_cv E rfl rfl rfl (wrap_k (by simp only [wrapOk]; omega)) rfl ?_ | refine U_pure E rfl rfl ?_ | refine T_exit rfl ?_ | refine T_condV rfl ?_ | refine U_guard rfl rfl ?_ | refine U_guardU rfl rfl rfl ?_ | ((with_reducible refine Gd_skipT ?_ ?_); exact rfl) | ((with_reducible refine Gd_skipF ?_ ?_); exact rfl))
              refine T.less ?_ (ih (i + 1, (F8, Fr8, D8, p), w20) ⟨by omega, by omega, k020, hn8, h20, hpl, by dsimp only; rw [l8]; exact l6, q8⟩ (by dsimp only; omega))
              exact ⟨rfl, rfl, rfl, rfl, rfl, rfl, trivial⟩
  · repeat (first | (with_reducible first | apply T_seq | apply T_region | apply U_nil | apply T_skip | apply T_block | apply T_inBlock | apply Cnd_t | apply Cnd_f | apply Cnd_not | apply Cnd_some | apply Cnd_none | apply Gd_nt | apply Gd_nf | apply Gd_some | apply Gd_none | apply Gd_want) | refine U_ar rfl rfl rfl (wrap_k (by simp only [wrapOk]; omega)) rfl ?_ | refine U_cv E rfl rfl rfl (wrap_k (by simp only [wrapOk]; omega)) rfl ?_ | refine U_pure E rfl rfl ?_ | refine T_exit rfl ?_ | refine T_condV rfl ?_ | refine U_guard rfl rfl ?_ | ((with_reducible refine Gd_skipT ?_ ?_); exact rfl) | ((with_reducible refine Gd_skipF ?_ ?_); exact rfl))
    exact T_ret1 Tryd.func14 rfl rfl ⟨_, rfl, rfl, k5⟩
end Go.Proofs.YtoefhdaenaiomaaDoor
