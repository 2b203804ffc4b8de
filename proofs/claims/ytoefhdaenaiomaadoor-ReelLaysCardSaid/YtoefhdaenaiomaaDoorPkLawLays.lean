/- ReelLays: the walk. -/
import Derived.Test.YtoefhdaenaiomaaDoorPk14
set_option linter.unusedVariables false
set_option linter.unusedSimpArgs false
namespace Go.Proofs.YtoefhdaenaiomaaDoor
open Go
set_option maxRecDepth 20000

theorem page_len (f : List UInt8) (j : Nat) : (page f j).length = 256 := mrk_len _ _
theorem allP_secs (g : Nat) : ∀ (l : List (List UInt8)) (i : Nat), ∀ s ∈ allP g i l, s.length = 256
  | [], i, s, h => by simp [allP] at h
  | p :: l, i, s, h => by
    rw [allP] at h
    rcases List.mem_append.1 h with h | h
    · rw [lay] at h
      obtain ⟨j, _, rfl⟩ := List.mem_map.1 h
      exact page_len _ _
    · exact allP_secs g l (i + 1) s h

set_option maxHeartbeats 8000000 in
theorem lays_c (w : World) (G H : Nat → Prop) (vl vb : Value) (l : List (List UInt8)) (bs : List Bool) (a : Nat) (tb : Bool) (hl : RS w G vl l) (hb : Sl w H vb 1 bs.length (encBools bs)) (ha : a < 256) :
    Calls Tryd.prog 13 [.int .u8 a, vl, vb, .bool tb].toArray w (Ret fun r w' => r = .bool true ∧ Kept none0 w w') := by
  obtain ⟨vs, a1, a2, a3⟩ := hl
  obtain ⟨A, c, rfl⟩ := a2.len
  obtain ⟨B, cb, rfl⟩ := hb.len
  have hvl := a2.1
  refine calls_T Tryd.func13 rfl rfl rfl ?_
  repeat (first | (with_reducible first | apply T_seq | apply T_region | apply U_nil | apply T_skip | apply T_block | apply T_inBlock | apply Cnd_t | apply Cnd_f | apply Cnd_not | apply Cnd_some | apply Cnd_none | apply Gd_nt | apply Gd_nf | apply Gd_some | apply Gd_none | apply Gd_want) | refine U_ar rfl rfl rfl (wrap_k (by simp only [wrapOk]; omega)) rfl ?_ | refine U_cv E rfl rfl rfl (wrap_k (by simp only [wrapOk]; omega)) rfl ?_ | refine U_pure E rfl rfl ?_ | refine T_exit rfl ?_ | refine T_condV rfl ?_ | refine U_guard rfl rfl ?_ | ((with_reducible refine Gd_skipT ?_ ?_); exact rfl) | ((with_reducible refine Gd_skipF ?_ ?_); exact rfl))
  refine U_call rfl rfl (Tryd.call48 _) (awake15_c w) ?_
  rintro r w1 ⟨rfl, k1⟩
  repeat (first | (with_reducible first | apply T_seq | apply T_region | apply U_nil | apply T_skip | apply T_block | apply T_inBlock | apply Cnd_t | apply Cnd_f | apply Cnd_not | apply Cnd_some | apply Cnd_none | apply Gd_nt | apply Gd_nf | apply Gd_some | apply Gd_none | apply Gd_want) | refine U_ar rfl rfl rfl (wrap_k (by simp only [wrapOk]; omega)) rfl ?_ | refine U_cv E rfl rfl rfl (wrap_k (by simp only [wrapOk]; omega)) rfl ?_ | refine U_pure E rfl rfl ?_ | refine T_exit rfl ?_ | refine T_condV rfl ?_ | refine U_guard rfl rfl ?_ | ((with_reducible refine Gd_skipT ?_ ?_); exact rfl) | ((with_reducible refine Gd_skipF ?_ ?_); exact rfl))
  refine U_run rfl rfl rfl (ro_bin (r := .int .u8 (a % 30 : Nat)) rfl rfl (by exact run_rem (y := 30) (by decide))) ?_
  repeat (first | (with_reducible first | apply T_seq | apply T_region | apply U_nil | apply T_skip | apply T_block | apply T_inBlock | apply Cnd_t | apply Cnd_f | apply Cnd_not | apply Cnd_some | apply Cnd_none | apply Gd_nt | apply Gd_nf | apply Gd_some | apply Gd_none | apply Gd_want) | refine U_ar rfl rfl rfl (wrap_k (by simp only [wrapOk]; omega)) rfl ?_ | refine U_cv E rfl rfl rfl (wrap_k (by simp only [wrapOk]; omega)) rfl ?_ | refine U_pure E rfl rfl ?_ | refine T_exit rfl ?_ | refine T_condV rfl ?_ | refine U_guard rfl rfl ?_ | ((with_reducible refine Gd_skipT ?_ ?_); exact rfl) | ((with_reducible refine Gd_skipF ?_ ?_); exact rfl))
  obtain ⟨S, hS⟩ : ∃ S : Nat, 20 + a % 30 = S := ⟨_, rfl⟩
  obtain ⟨Hf, hHf⟩ : ∃ Hf : Nat, (S - 2) / 2 = Hf := ⟨_, rfl⟩
  refine U_run rfl rfl rfl (ro_bin (r := .int .i64 (Hf : Nat)) rfl rfl (by rw [show (20 : Int) + ((a % 30 : Nat) : Int) - 2 = ((S - 2 : Nat) : Int) by omega, ← hHf]; exact run_quo (y := 2) (by decide) (wrap_i64 (by omega)))) ?_
  repeat (first | (with_reducible first | apply T_seq | apply T_region | apply U_nil | apply T_skip | apply T_block | apply T_inBlock | apply Cnd_t | apply Cnd_f | apply Cnd_not | apply Cnd_some | apply Cnd_none | apply Gd_nt | apply Gd_nf | apply Gd_some | apply Gd_none | apply Gd_want) | refine U_ar rfl rfl rfl (wrap_k (by simp only [wrapOk]; omega)) rfl ?_ | refine U_cv E rfl rfl rfl (wrap_k (by simp only [wrapOk]; omega)) rfl ?_ | refine U_pure E rfl rfl ?_ | refine T_exit rfl ?_ | refine T_condV rfl ?_ | refine U_guard rfl rfl ?_ | ((with_reducible refine Gd_skipT ?_ ?_); exact rfl) | ((with_reducible refine Gd_skipF ?_ ?_); exact rfl))
  refine U_call rfl rfl (Tryd.call24 _) (new_c w1 (20 + ((a % 30 : Nat) : Int)) (by omega)) ?_
  rintro r w2 ⟨k2, hdb, rfl, hD2⟩
  have hD2 := hD2.dm
  rw [show ((20 : Int) + ((a % 30 : Nat) : Int)).toNat = S by omega] at hD2
  have k02 : Kept none0 w w2 := k1.tr k2 (fun _ _ x => x)
  have hp0 : pgs ([] : List UInt8).length = 1 := rfl
  have hmk := make_on w2 _ hdb _ (.slice none 0 0) [] hD2 (drNew_on _) (by rw [drNew_len]; omega) (sl_nil _ _) (rec_ok (by decide) (by decide) (by decide)) (by rw [drNew_hsz]; omega) (by simp [drNew])
  unfold ptr at *
  repeat (first | (with_reducible first | apply T_seq | apply T_region | apply U_nil | apply T_skip | apply T_block | apply T_inBlock | apply Cnd_t | apply Cnd_f | apply Cnd_not | apply Cnd_some | apply Cnd_none | apply Gd_nt | apply Gd_nf | apply Gd_some | apply Gd_none | apply Gd_want) | refine U_ar rfl rfl rfl (wrap_k (by simp only [wrapOk]; omega)) rfl ?_ | refine U_cv E rfl rfl rfl (wrap_k (by simp only [wrapOk]; omega)) rfl ?_ | refine U_pure E rfl rfl ?_ | refine T_exit rfl ?_ | refine T_condV rfl ?_ | refine U_guard rfl rfl ?_ | ((with_reducible refine Gd_skipT ?_ ?_); exact rfl) | ((with_reducible refine Gd_skipF ?_ ?_); exact rfl))
  refine U_call rfl rfl (Tryd.call49 _) (hmk) ?_
  rintro r w3 ⟨F3, Fr3, rb, D3, rfl, o3, h3, hFr3, l3, q3, _⟩
  rw [drNew_len] at l3
  have k03 : Kept none0 w w3 := o3.done k02 (fun b e => by have := k1.size; have := e.1; omega)
  have hn3 : ∀ b, uni F3 Fr3 b → w.heap.size ≤ b := by
    intro b e
    have := k02.size
    rcases e with e | e
    · exact (o3.newer (w0 := w) (by omega) (fun b e => by have := k1.size; have := e.1; omega)) b e
    · have := hFr3 b e
      omega
  repeat (first | (with_reducible first | apply T_seq | apply T_region | apply U_nil | apply T_skip | apply T_block | apply T_inBlock | apply Gd_nt | apply Gd_nf | apply Gd_some | apply Gd_none | apply Gd_want) | refine U_ar rfl rfl rfl (wrap_k (by simp only [wrapOk]; omega)) rfl ?_ | refine U_cv E rfl rfl rfl (wrap_k (by simp only [wrapOk]; omega)) rfl ?_ | refine U_pure E rfl rfl ?_ | refine T_exit rfl ?_ | refine U_guard rfl rfl ?_ | ((with_reducible refine Gd_skipT ?_ ?_); exact rfl) | ((with_reducible refine Gd_skipF ?_ ?_); exact rfl))
  refine T_condV rfl ?_
  refine Cnd_not ?_
  refine Cnd_t ?_
  repeat (first | (with_reducible first | apply T_seq | apply T_region | apply U_nil | apply T_skip | apply T_block | apply T_inBlock | apply Gd_nt | apply Gd_nf | apply Gd_some | apply Gd_none | apply Gd_want) | refine U_ar rfl rfl rfl (wrap_k (by simp only [wrapOk]; omega)) rfl ?_ | refine U_cv E rfl rfl rfl (wrap_k (by simp only [wrapOk]; omega)) rfl ?_ | refine U_pure E rfl rfl ?_ | refine T_exit rfl ?_ | refine U_guard rfl rfl ?_ | ((with_reducible refine Gd_skipT ?_ ?_); exact rfl) | ((with_reducible refine Gd_skipF ?_ ?_); exact rfl))
  (repeat (with_reducible refine T_seq ?_))
  refine T_viaK (α := (Nat → Prop) × (Nat → Prop) × Dr × Nat × List UInt8) (fun x => [(15, .int .u32 (x.2.2.2.1 : Nat)), (13, .pointer (some ⟨rb, 0, none⟩)), (11, .pointer (some ⟨hdb, 0, none⟩)), (10, .int .i64 (Hf : Nat)), (1, .slice A vs.length c), (2, .slice B bs.length cb)])
    (fun x w' => Kept none0 w w' ∧ (∀ b, uni x.1 x.2.1 b → w.heap.size ≤ b) ∧ RD w' x.1 x.2.1 hdb rb x.2.2.1 x.2.2.2.1 [x.2.2.2.2] ∧ (x.2.2.2.1 = 1 ∨ x.2.2.2.1 = 2) ∧ x.2.2.2.2.length ≤ 1 ∧ x.2.2.1.l.length = S ∧ x.2.2.1.wait = []) ?fin1 ?go1
  case go1 =>
    intro kk f1
    refine T_condV rfl ?_
    refine Cnd_b (fun htb => ?_) (fun htb => ?_)
    · repeat (first | (with_reducible first | apply T_seq | apply T_region | apply U_nil | apply T_skip | apply T_block | apply T_inBlock | apply Cnd_t | apply Cnd_f | apply Cnd_not | apply Cnd_some | apply Cnd_none | apply Gd_nt | apply Gd_nf | apply Gd_some | apply Gd_none | apply Gd_want) | refine U_ar rfl rfl rfl (wrap_k (by simp only [wrapOk]; omega)) rfl ?_ | refine U_cv E rfl rfl rfl (wrap_k (by simp only [wrapOk]; omega)) rfl ?_ | refine U_pure E rfl rfl ?_ | refine T_exit rfl ?_ | refine T_condV rfl ?_ | refine U_guard rfl rfl ?_ | ((with_reducible refine Gd_skipT ?_ ?_); exact rfl) | ((with_reducible refine Gd_skipF ?_ ?_); exact rfl))
      refine U_buildSlice (sz := 1) E rfl rfl rfl rfl rfl rfl rfl rfl (segs := [[.int .u8 116]]) rfl (by simp) rfl ?_
      intro b5 w5 hn5
      repeat (first | (with_reducible first | apply T_seq | apply T_region | apply U_nil | apply T_skip | apply T_block | apply T_inBlock | apply Cnd_t | apply Cnd_f | apply Cnd_not | apply Cnd_some | apply Cnd_none | apply Gd_nt | apply Gd_nf | apply Gd_some | apply Gd_none | apply Gd_want) | refine U_ar rfl rfl rfl (wrap_k (by simp only [wrapOk]; omega)) rfl ?_ | refine U_cv E rfl rfl rfl (wrap_k (by simp only [wrapOk]; omega)) rfl ?_ | refine U_pure E rfl rfl ?_ | refine T_exit rfl ?_ | refine T_condV rfl ?_ | refine U_guard rfl rfl ?_ | ((with_reducible refine Gd_skipT ?_ ?_); exact rfl) | ((with_reducible refine Gd_skipF ?_ ?_); exact rfl))
      refine U_convBytes E hn5.blk rfl (by decide) rfl rfl rfl rfl ?_
      intro w6 k6 s6 hs6
      have e5 := hn5.at_
      have s5 := hn5.size
      have k46 : Kept none0 w3 w6 := hn5.kept.tr k6 (fun j hj (e : j = b5) => by omega)
      have h6 := h3.same k46
      have hlt3 := h3.lt
      have k06 := k03.tr k46 (fun _ _ x => x)
      have htn := turn_on (.slice (some ⟨b5, 0, none⟩) 1 1) [116] h6 (byte_bs hs6 (fun e => by have := hlt3 _ e; omega)) (by decide) (rec_ok (by decide) (by decide) (by simp)) (by rw [hsz, l3]; exact (show pgs 1 ≤ (S - 2) / 2 by have : pgs 1 = 1 := rfl; omega)) (by rw [q3]; decide)
      unfold ptr at *
      repeat (first | (with_reducible first | apply T_seq | apply T_region | apply U_nil | apply T_skip | apply T_block | apply T_inBlock | apply Cnd_t | apply Cnd_f | apply Cnd_not | apply Cnd_some | apply Cnd_none | apply Gd_nt | apply Gd_nf | apply Gd_some | apply Gd_none | apply Gd_want) | refine U_ar rfl rfl rfl (wrap_k (by simp only [wrapOk]; omega)) rfl ?_ | refine U_cv E rfl rfl rfl (wrap_k (by simp only [wrapOk]; omega)) rfl ?_ | refine U_pure E rfl rfl ?_ | refine T_exit rfl ?_ | refine T_condV rfl ?_ | refine U_guard rfl rfl ?_ | ((with_reducible refine Gd_skipT ?_ ?_); exact rfl) | ((with_reducible refine Gd_skipF ?_ ?_); exact rfl))
      refine U_call rfl rfl (Tryd.call57 _) (htn) ?_
      rintro r w7 ⟨rfl, F7, Fr7, D7, o7, h7, l7, q7, v7⟩
      repeat (first | (with_reducible first | apply T_seq | apply T_region | apply U_nil | apply T_skip | apply T_block | apply T_inBlock | apply Cnd_t | apply Cnd_f | apply Cnd_not | apply Cnd_some | apply Cnd_none | apply Gd_nt | apply Gd_nf | apply Gd_some | apply Gd_none | apply Gd_want) | refine U_ar rfl rfl rfl (wrap_k (by simp only [wrapOk]; omega)) rfl ?_ | refine U_cv E rfl rfl rfl (wrap_k (by simp only [wrapOk]; omega)) rfl ?_ | refine U_pure E rfl rfl ?_ | refine T_exit rfl ?_ | refine T_condV rfl ?_ | refine U_guard rfl rfl ?_ | ((with_reducible refine Gd_skipT ?_ ?_); exact rfl) | ((with_reducible refine Gd_skipF ?_ ?_); exact rfl))
      refine T.less ?_ (f1 (F7, Fr7, D7, 2, [116]) w7 ⟨o7.done k06 hn3, o7.newer k06.size hn3, h7, .inr rfl, Nat.le_refl _, by dsimp only; rw [l7]; exact l3, q7⟩)
      exact ⟨rfl, rfl, rfl, rfl, rfl, rfl, trivial⟩
    · repeat (first | (with_reducible first | apply T_seq | apply T_region | apply U_nil | apply T_skip | apply T_block | apply T_inBlock | apply Cnd_t | apply Cnd_f | apply Cnd_not | apply Cnd_some | apply Cnd_none | apply Gd_nt | apply Gd_nf | apply Gd_some | apply Gd_none | apply Gd_want) | refine U_ar rfl rfl rfl (wrap_k (by simp only [wrapOk]; omega)) rfl ?_ | refine U_cv E rfl rfl rfl (wrap_k (by simp only [wrapOk]; omega)) rfl ?_ | refine U_pure E rfl rfl ?_ | refine T_exit rfl ?_ | refine T_condV rfl ?_ | refine U_guard rfl rfl ?_ | ((with_reducible refine Gd_skipT ?_ ?_); exact rfl) | ((with_reducible refine Gd_skipF ?_ ?_); exact rfl))
      refine T.less ?_ (f1 (F3, Fr3, D3, 1, []) w3 ⟨k03, hn3, h3, .inl rfl, Nat.zero_le _, l3, q3⟩)
      exact ⟨rfl, rfl, rfl, rfl, rfl, rfl, trivial⟩
  case fin1 =>
    rintro ⟨F4, Fr4, D4, g, p0⟩ w4 ⟨k4, hn4, h4, hg, hp0l, l4, q4⟩
    dsimp only at hn4 h4 hg hp0l l4 q4 ⊢
    have hg12 : 1 ≤ g ∧ g ≤ 2 := by omega
    have hrc := records_o h4.rl
    unfold ptr at *
    repeat (first | (with_reducible first | apply T_seq | apply T_region | apply U_nil | apply T_skip | apply T_block | apply T_inBlock | apply Cnd_t | apply Cnd_f | apply Cnd_not | apply Cnd_some | apply Cnd_none | apply Gd_nt | apply Gd_nf | apply Gd_some | apply Gd_none | apply Gd_want) | refine U_ar rfl rfl rfl (wrap_k (by simp only [wrapOk]; omega)) rfl ?_ | refine U_cv E rfl rfl rfl (wrap_k (by simp only [wrapOk]; omega)) rfl ?_ | refine U_pure E rfl rfl ?_ | refine T_exit rfl ?_ | refine T_condV rfl ?_ | refine U_guard rfl rfl ?_ | ((with_reducible refine Gd_skipT ?_ ?_); exact rfl) | ((with_reducible refine Gd_skipF ?_ ?_); exact rfl))
    refine U_call rfl rfl (Tryd.call55 _) (hrc) ?_
    rintro r w5 ⟨k5, hO5⟩
    have hlt4 := h4.lt
    have k05 := k4.tr k5 (fun _ _ x => x)
    have hO5' : OS w5 (fun b => fresh w b ∧ ¬ uni F4 Fr4 b) r [p0] := hO5.mono (fun b _ e => ⟨by have := k4.size; simp only [fresh] at *; omega, fun e2 => by have := hlt4 b e2; simp only [fresh] at e; omega⟩)
    repeat (first | (with_reducible first | apply T_seq | apply T_region | apply U_nil | apply T_skip | apply T_inBlock | apply Cnd_t | apply Cnd_f | apply Cnd_not | apply Cnd_some | apply Cnd_none | apply Gd_nt | apply Gd_nf | apply Gd_some | apply Gd_none | apply Gd_want) | refine U_ar rfl rfl rfl (wrap_k (by simp only [wrapOk]; omega)) rfl ?_ | refine U_cv E rfl rfl rfl (wrap_k (by simp only [wrapOk]; omega)) rfl ?_ | refine U_pure E rfl rfl ?_ | refine T_exit rfl ?_ | refine T_condV rfl ?_ | refine U_guard rfl rfl ?_ | ((with_reducible refine Gd_skipT ?_ ?_); exact rfl) | ((with_reducible refine Gd_skipF ?_ ?_); exact rfl))
    (repeat (with_reducible refine T_seq ?_))
    refine T_via (α := (Nat → Prop) × (Nat → Prop) × Dr × Value × List (List UInt8)) (fun x => [(16, x.2.2.2.1), (15, .int .u32 g), (13, .pointer (some ⟨rb, 0, none⟩)), (11, .pointer (some ⟨hdb, 0, none⟩)), (10, .int .i64 (Hf : Nat))])
      (fun x w' => Kept none0 w w' ∧ RD w' x.1 x.2.1 hdb rb x.2.2.1 g x.2.2.2.2 ∧ x.2.2.1.l.length = S ∧ x.2.2.2.2.length ≤ 10 ∧ OS w' (fun b => fresh w b ∧ ¬ uni x.1 x.2.1 b) x.2.2.2.1 x.2.2.2.2) ?fin2 ?go2
    case go2 =>
      intro fin
      refine T_block ?_
      refine T_loop (α := Nat × ((Nat → Prop) × (Nat → Prop) × Dr × Value × List (List UInt8)) × World) (fun x => [(56, .int .i64 x.1), (55, .int .i64 vs.length), (54, .slice A vs.length c), (2, .slice B bs.length cb), (16, x.2.1.2.2.2.1), (15, .int .u32 g), (13, .pointer (some ⟨rb, 0, none⟩)), (11, .pointer (some ⟨hdb, 0, none⟩)), (10, .int .i64 (Hf : Nat))]) (fun x => x.2.2) (fun x => vs.length - x.1)
        (fun x => x.1 ≤ vs.length ∧ Kept none0 w x.2.2 ∧ (∀ b, uni x.2.1.1 x.2.1.2.1 b → w.heap.size ≤ b) ∧ RD x.2.2 x.2.1.1 x.2.1.2.1 hdb rb x.2.1.2.2.1 g x.2.1.2.2.2.2 ∧ x.2.1.2.2.1.l.length = S ∧ x.2.1.2.2.1.wait.length ≤ 1000 * min 9 x.1 ∧ x.2.1.2.2.2.2.length ≤ 1 + min 9 x.1 ∧ OS x.2.2 (fun b => fresh w b ∧ ¬ uni x.2.1.1 x.2.1.2.1 b) x.2.1.2.2.2.1 x.2.1.2.2.2.2)
        (0, (F4, Fr4, D4, r, [p0]), w5) ⟨Nat.zero_le _, k05, hn4, h4.same k5, l4, by dsimp only; rw [q4]; exact Nat.zero_le _, Nat.le_refl _, hO5'⟩ ?hsub rfl ?_
      case hsub => exact ⟨rfl, rfl, rfl, rfl, rfl, rfl, rfl, rfl, rfl, trivial⟩
      rintro ⟨i, ⟨F, Fr, D, vo, L⟩, w6⟩ ⟨hi, k6, hn6, h6, l6, q6, c6, hO6⟩ ih
      dsimp only at hi k6 hn6 h6 l6 q6 c6 hO6 ⊢
      have hz6 : hsz D = Hf := by rw [hsz, l6]; exact hHf
      repeat (first | (with_reducible first | apply T_seq | apply T_region | apply U_nil | apply T_skip | apply T_block | apply T_inBlock | apply Cnd_t | apply Cnd_f | apply Cnd_not | apply Cnd_some | apply Cnd_none | apply Gd_nt | apply Gd_nf | apply Gd_some | apply Gd_none | apply Gd_want) | refine U_ar rfl rfl rfl (wrap_k (by simp only [wrapOk]; omega)) rfl ?_ | refine U_cv E rfl rfl rfl (wrap_k (by simp only [wrapOk]; omega)) rfl ?_ | refine U_pure E rfl rfl ?_ | refine T_exit rfl ?_ | refine T_condV rfl ?_ | refine U_guard rfl rfl ?_ | ((with_reducible refine Gd_skipT ?_ ?_); exact rfl) | ((with_reducible refine Gd_skipF ?_ ?_); exact rfl))
      refine Cnd_p (fun hlt => ?_) (fun hlt => ?_)
      · have hl1 : i < vs.length := by omega
        have hl2 : i < l.length := by omega
        have hg1 : vs[(i : Int).toNat]? = some vs[i] := by rw [Int.toNat_natCast, List.getElem?_eq_getElem hl1]
        have hap := a3 i _ _ (List.getElem?_eq_getElem hl1) (List.getElem?_eq_getElem hl2)
        have hap6 := hap.mv k6 (fun _ _ _ x => x)
        have hpl : l[i].length ≤ 9223372036854775807 := hap.1
        have hlt6 := h6.lt
        repeat (first | (with_reducible first | apply T_seq | apply T_region | apply U_nil | apply T_skip | apply T_block | apply T_inBlock | apply Cnd_t | apply Cnd_f | apply Cnd_not | apply Cnd_some | apply Cnd_none | apply Gd_nt | apply Gd_nf | apply Gd_some | apply Gd_none | apply Gd_want) | refine U_ar rfl rfl rfl (wrap_k (by simp only [wrapOk]; omega)) rfl ?_ | refine U_cv E rfl rfl rfl (wrap_k (by simp only [wrapOk]; omega)) rfl ?_ | refine U_pure E rfl rfl ?_ | refine T_exit rfl ?_ | refine T_condV rfl ?_ | refine U_guard rfl rfl ?_ | ((with_reducible refine Gd_skipT ?_ ?_); exact rfl) | ((with_reducible refine Gd_skipF ?_ ?_); exact rfl))
        refine U_idx E ((a2.mv k6 (fun _ _ _ x => x))) rfl rfl rfl rfl (by omega) (by omega) (hg1) rfl (fun pp hpp => ?_)
        refine U_load E rfl rfl rfl hpp rfl ?_
        repeat (first | refine U_ar rfl rfl rfl (wrap_k (by simp only [wrapOk]; omega)) rfl ?_ | refine U_cv E rfl rfl rfl (wrap_k (by simp only [wrapOk]; omega)) rfl ?_ | refine U_pure E rfl rfl ?_)
        refine U_nil ?_
        (repeat (with_reducible refine T_seq ?_))
        refine T_viaK (α := Value × Bool) (fun v => [(18, v.1), (17, .int .i64 i), (56, .int .i64 i), (55, .int .i64 vs.length), (54, .slice A vs.length c), (2, .slice B bs.length cb), (16, vo), (15, .int .u32 g), (13, .pointer (some ⟨rb, 0, none⟩)), (11, .pointer (some ⟨hdb, 0, none⟩)), (10, .int .i64 (Hf : Nat))])
          (fun v w' => Kept none0 w6 w' ∧ BS w' (fresh w6) v.1 (cutP l[i] v.2)) ?fin3 ?go3
        case go3 =>
          intro kk f1
          repeat (first | (with_reducible first | apply T_seq | apply T_region | apply U_nil | apply T_skip | apply T_block | apply T_inBlock | apply Gd_nt | apply Gd_nf | apply Gd_some | apply Gd_none | apply Gd_want) | refine U_ar rfl rfl rfl (wrap_k (by simp only [wrapOk]; omega)) rfl ?_ | refine U_cv E rfl rfl rfl (wrap_k (by simp only [wrapOk]; omega)) rfl ?_ | refine U_pure E rfl rfl ?_ | refine T_exit rfl ?_ | refine U_guard rfl rfl ?_ | ((with_reducible refine Gd_skipT ?_ ?_); exact rfl) | ((with_reducible refine Gd_skipF ?_ ?_); exact rfl))
          refine Gd_p (fun hik => ?_) (fun hik => ?_)
          · have hik : i < bs.length := by omega
            repeat (first | (with_reducible first | apply T_seq | apply T_region | apply U_nil | apply T_skip | apply T_block | apply T_inBlock | apply Gd_nt | apply Gd_nf | apply Gd_some | apply Gd_none | apply Gd_want) | refine U_ar rfl rfl rfl (wrap_k (by simp only [wrapOk]; omega)) rfl ?_ | refine U_cv E rfl rfl rfl (wrap_k (by simp only [wrapOk]; omega)) rfl ?_ | refine U_pure E rfl rfl ?_ | refine T_exit rfl ?_ | refine U_guard rfl rfl ?_ | ((with_reducible refine Gd_skipT ?_ ?_); exact rfl) | ((with_reducible refine Gd_skipF ?_ ?_); exact rfl))
            refine U_idx E (hb.mv k6 (fun _ _ _ x => x)) rfl rfl rfl rfl (by omega) (by omega) ((show (encBools bs)[(i : Int).toNat]? = some (.bool bs[i]) by rw [Int.toNat_natCast]; simp [encBools, hik])) rfl (fun q hq => ?_)
            repeat (first | (with_reducible first | apply T_seq | apply T_region | apply U_nil | apply T_skip | apply T_block | apply T_inBlock | apply Gd_nt | apply Gd_nf | apply Gd_some | apply Gd_none | apply Gd_want) | refine U_ar rfl rfl rfl (wrap_k (by simp only [wrapOk]; omega)) rfl ?_ | refine U_cv E rfl rfl rfl (wrap_k (by simp only [wrapOk]; omega)) rfl ?_ | refine U_pure E rfl rfl ?_ | refine T_exit rfl ?_ | refine U_guard rfl rfl ?_ | ((with_reducible refine Gd_skipT ?_ ?_); exact rfl) | ((with_reducible refine Gd_skipF ?_ ?_); exact rfl))
            refine U_load E rfl rfl rfl hq rfl ?_
            repeat (first | (with_reducible first | apply T_seq | apply T_region | apply U_nil | apply T_skip | apply T_block | apply T_inBlock | apply Gd_nt | apply Gd_nf | apply Gd_some | apply Gd_none | apply Gd_want) | refine U_ar rfl rfl rfl (wrap_k (by simp only [wrapOk]; omega)) rfl ?_ | refine U_cv E rfl rfl rfl (wrap_k (by simp only [wrapOk]; omega)) rfl ?_ | refine U_pure E rfl rfl ?_ | refine T_exit rfl ?_ | refine U_guard rfl rfl ?_ | ((with_reducible refine Gd_skipT ?_ ?_); exact rfl) | ((with_reducible refine Gd_skipF ?_ ?_); exact rfl))
            refine U_call rfl rfl (Tryd.call50 _) (cut15_c w6 G vs[i] l[i] bs[i] hap6 hpl) ?_
            rintro r w7 ⟨k7, h7⟩
            repeat (first | refine U_ar rfl rfl rfl (wrap_k (by simp only [wrapOk]; omega)) rfl ?_ | refine U_cv E rfl rfl rfl (wrap_k (by simp only [wrapOk]; omega)) rfl ?_ | refine U_pure E rfl rfl ?_)
            refine U_nil ?_
            refine T.less ?_ (f1 (r, bs[i]) w7 ⟨k7, h7⟩)
            exact ⟨rfl, rfl, rfl, rfl, rfl, rfl, rfl, rfl, rfl, rfl, rfl, trivial⟩
          · repeat (first | (with_reducible first | apply T_seq | apply T_region | apply U_nil | apply T_skip | apply T_block | apply T_inBlock | apply Gd_nt | apply Gd_nf | apply Gd_some | apply Gd_none | apply Gd_want) | refine U_ar rfl rfl rfl (wrap_k (by simp only [wrapOk]; omega)) rfl ?_ | refine U_cv E rfl rfl rfl (wrap_k (by simp only [wrapOk]; omega)) rfl ?_ | refine U_pure E rfl rfl ?_ | refine T_exit rfl ?_ | refine U_guard rfl rfl ?_ | ((with_reducible refine Gd_skipT ?_ ?_); exact rfl) | ((with_reducible refine Gd_skipF ?_ ?_); exact rfl))
            refine U_call rfl rfl (Tryd.call50 _) (cut15_c w6 G vs[i] l[i] false hap6 hpl) ?_
            rintro r w7 ⟨k7, h7⟩
            repeat (first | refine U_ar rfl rfl rfl (wrap_k (by simp only [wrapOk]; omega)) rfl ?_ | refine U_cv E rfl rfl rfl (wrap_k (by simp only [wrapOk]; omega)) rfl ?_ | refine U_pure E rfl rfl ?_)
            refine U_nil ?_
            refine T.less ?_ (f1 (r, false) w7 ⟨k7, h7⟩)
            exact ⟨rfl, rfl, rfl, rfl, rfl, rfl, rfl, rfl, rfl, rfl, rfl, trivial⟩
        case fin3 =>
          rintro ⟨vp, bb⟩ w7 ⟨k7, hp7⟩
          obtain ⟨p, hpe⟩ : ∃ p, cutP l[i] bb = p := ⟨_, rfl⟩
          have hpl7 : p.length ≤ 700 := by rw [← hpe]; exact cutP_len _ _
          dsimp only at hp7 ⊢
          rw [hpe] at hp7
          have h7 := h6.same k7
          have hO7 := hO6.mv k7
          have k07 := k6.tr k7 (fun _ _ x => x)
          have s7 := k7.size
          have s6 := k6.size
          have hp7' : BS w7 (fun b => fresh w6 b ∧ ¬ uni F Fr b) vp p := hp7.mono (fun b _ e => ⟨e, fun e2 => by have := hlt6 b e2; simp only [fresh] at e; omega⟩)
          repeat (first | (with_reducible first | apply T_seq | apply T_region | apply U_nil | apply T_skip | apply T_block | apply T_inBlock | apply Cnd_t | apply Cnd_f | apply Cnd_not | apply Cnd_some | apply Cnd_none | apply Gd_nt | apply Gd_nf | apply Gd_some | apply Gd_none | apply Gd_want) | refine U_ar rfl rfl rfl (wrap_k (by simp only [wrapOk]; omega)) rfl ?_ | refine U_cv E rfl rfl rfl (wrap_k (by simp only [wrapOk]; omega)) rfl ?_ | refine U_pure E rfl rfl ?_ | refine T_exit rfl ?_ | refine T_condV rfl ?_ | refine U_guard rfl rfl ?_ | ((with_reducible refine Gd_skipT ?_ ?_); exact rfl) | ((with_reducible refine Gd_skipF ?_ ?_); exact rfl))
          refine Gd_p (fun h9 => ?_) (fun h9 => ?_)
          · by_cases hfit : (allP g 0 L).length + pgs p.length ≤ hsz D
            · have hap8 := append_on vp p h7 (hp7'.mono (fun b _ e => e.2)) (rec_ok (by omega) (by omega) (by omega)) hfit (by omega)
              unfold ptr at *
              repeat (first | (with_reducible first | apply T_seq | apply T_region | apply U_nil | apply T_skip | apply T_block | apply T_inBlock | apply Cnd_t | apply Cnd_f | apply Cnd_not | apply Cnd_some | apply Cnd_none | apply Gd_nt | apply Gd_nf | apply Gd_some | apply Gd_none | apply Gd_want) | refine U_ar rfl rfl rfl (wrap_k (by simp only [wrapOk]; omega)) rfl ?_ | refine U_cv E rfl rfl rfl (wrap_k (by simp only [wrapOk]; omega)) rfl ?_ | refine U_pure E rfl rfl ?_ | refine T_exit rfl ?_ | refine T_condV rfl ?_ | refine U_guard rfl rfl ?_ | ((with_reducible refine Gd_skipT ?_ ?_); exact rfl) | ((with_reducible refine Gd_skipF ?_ ?_); exact rfl))
              refine U_call rfl rfl (Tryd.call53 _) (hap8) ?_
              rintro r w9 ⟨rfl, F9, Fr9, D9, o9, h9, l9, q9⟩
              have k9 : Kept none0 w w9 := o9.done k07 hn6
              have hn9 := o9.newer k07.size hn6
              have hO9 : OS w9 (fun b => fresh w b ∧ ¬ uni F9 Fr9 b) vo L := (o9.osK hO7).mono (fun b _ e => ⟨e.1.1, e.2⟩)
              have hp9 : BS w9 (fun b => fresh w6 b ∧ ¬ uni F9 Fr9 b) vp p := (o9.slK hp7').mono (fun b _ e => ⟨e.1.1, e.2⟩)
              have hlt9 := h9.lt
              have hown5 := hO6.own
              obtain ⟨us, o1, o2, o3⟩ := hO9
              have hown := o2.own
              have s9 := k9.size
              repeat (first | (with_reducible first | apply T_seq | apply T_region | apply U_nil | apply T_skip | apply T_block | apply T_inBlock | apply Cnd_t | apply Cnd_f | apply Cnd_not | apply Cnd_some | apply Cnd_none | apply Gd_nt | apply Gd_nf | apply Gd_some | apply Gd_none | apply Gd_want) | refine U_ar rfl rfl rfl (wrap_k (by simp only [wrapOk]; omega)) rfl ?_ | refine U_cv E rfl rfl rfl (wrap_k (by simp only [wrapOk]; omega)) rfl ?_ | refine U_pure E rfl rfl ?_ | refine T_exit rfl ?_ | refine T_condV rfl ?_ | refine U_guard rfl rfl ?_ | ((with_reducible refine Gd_skipT ?_ ?_); exact rfl) | ((with_reducible refine Gd_skipF ?_ ?_); exact rfl))
              refine U_buildSlice (sz := 1) E rfl rfl rfl rfl rfl rfl rfl rfl (segs := [[vp]]) (by rw [List.map_cons, List.map_cons, bs_cells hp9]; rfl) (by simp) rfl ?_
              intro b10 w10 hn10
              refine U_append E (o2.mv hn10.kept (fun _ _ _ x => x)) (one_sl hn10.blk) (by intro u hu; rw [List.mem_singleton.1 hu]; exact bs_one hp9) rfl rfl rfl rfl rfl (by omega) (by omega) rfl ?_
              intro vo' w11 hr11 k11 _ hob
              have hO11 := OS.snoc (G := fun b => fresh w b ∧ ¬ uni F9 Fr9 b) (fun b e => ⟨by simp only [fresh]; omega, fun e2 => by have := hlt9 b e2; omega⟩) o1 o3 (hp9.mono (fun b _ e => ⟨⟨by have := e.1; simp only [fresh] at *; omega, e.2⟩, fun e2 => by have := hown5 b e2; have := e.1; simp only [fresh] at *; omega⟩)) hn10 hr11 k11 hob
              have h11 := (h9.same hn10.kept).mv k11 (fun b e e2 => (hown b e2).1.2 e)
              have k011 : Kept none0 w w11 := (k9.tr hn10.kept (fun _ _ x => x)).tr k11 (fun b hb e => by have := (hown b e).1.1; simp only [fresh] at this; omega)
              repeat (first | (with_reducible first | apply T_seq | apply T_region | apply U_nil | apply T_skip | apply T_block | apply T_inBlock | apply Cnd_t | apply Cnd_f | apply Cnd_not | apply Cnd_some | apply Cnd_none | apply Gd_nt | apply Gd_nf | apply Gd_some | apply Gd_none | apply Gd_want) | refine U_ar rfl rfl rfl (wrap_k (by simp only [wrapOk]; omega)) rfl ?_ | refine U_cv E rfl rfl rfl (wrap_k (by simp only [wrapOk]; omega)) rfl ?_ | refine U_pure E rfl rfl ?_ | refine T_exit rfl ?_ | refine T_condV rfl ?_ | refine U_guard rfl rfl ?_ | ((with_reducible refine Gd_skipT ?_ ?_); exact rfl) | ((with_reducible refine Gd_skipF ?_ ?_); exact rfl))
              refine T.less ?_ (ih (i + 1, (F9, Fr9, D9, vo', L ++ [p]), w11) ⟨by omega, k011, hn9, h11, by dsimp only; rw [l9]; exact l6, by dsimp only; omega, by dsimp only; rw [List.length_append, List.length_singleton]; omega, hO11⟩ (by dsimp only; omega))
              exact ⟨rfl, rfl, rfl, rfl, rfl, rfl, rfl, rfl, rfl, trivial⟩
            · have hap8 := append_no vp p h7 (hp7'.mono (fun b _ e => e.2)) (by omega) (by omega) (by omega)
              unfold ptr errV at *
              repeat (first | (with_reducible first | apply T_seq | apply T_region | apply U_nil | apply T_skip | apply T_block | apply T_inBlock | apply Cnd_t | apply Cnd_f | apply Cnd_not | apply Cnd_some | apply Cnd_none | apply Gd_nt | apply Gd_nf | apply Gd_some | apply Gd_none | apply Gd_want) | refine U_ar rfl rfl rfl (wrap_k (by simp only [wrapOk]; omega)) rfl ?_ | refine U_cv E rfl rfl rfl (wrap_k (by simp only [wrapOk]; omega)) rfl ?_ | refine U_pure E rfl rfl ?_ | refine T_exit rfl ?_ | refine T_condV rfl ?_ | refine U_guard rfl rfl ?_ | ((with_reducible refine Gd_skipT ?_ ?_); exact rfl) | ((with_reducible refine Gd_skipF ?_ ?_); exact rfl))
              refine U_call rfl rfl (Tryd.call53 _) (hap8) ?_
              rintro r w9 ⟨rfl, F9, Fr9, o9, h9⟩
              have k9 : Kept none0 w w9 := o9.done k07 hn6
              have hn9 := o9.newer k07.size hn6
              have hO9 : OS w9 (fun b => fresh w b ∧ ¬ uni F9 Fr9 b) vo L := (o9.osK hO7).mono (fun b _ e => ⟨e.1.1, e.2⟩)
              repeat (first | (with_reducible first | apply T_seq | apply T_region | apply U_nil | apply T_skip | apply T_block | apply T_inBlock | apply Cnd_t | apply Cnd_f | apply Cnd_not | apply Cnd_some | apply Cnd_none | apply Gd_nt | apply Gd_nf | apply Gd_some | apply Gd_none | apply Gd_want) | refine U_ar rfl rfl rfl (wrap_k (by simp only [wrapOk]; omega)) rfl ?_ | refine U_cv E rfl rfl rfl (wrap_k (by simp only [wrapOk]; omega)) rfl ?_ | refine U_pure E rfl rfl ?_ | refine T_exit rfl ?_ | refine T_condV rfl ?_ | refine U_guard rfl rfl ?_ | ((with_reducible refine Gd_skipT ?_ ?_); exact rfl) | ((with_reducible refine Gd_skipF ?_ ?_); exact rfl))
              refine T.less ?_ (ih (i + 1, (F9, Fr9, D, vo, L), w9) ⟨by omega, k9, hn9, h9, l6, by dsimp only; omega, by dsimp only; omega, hO9⟩ (by dsimp only; omega))
              exact ⟨rfl, rfl, rfl, rfl, rfl, rfl, rfl, rfl, rfl, trivial⟩
          · repeat (first | (with_reducible first | apply T_seq | apply T_region | apply U_nil | apply T_skip | apply T_block | apply T_inBlock | apply Cnd_t | apply Cnd_f | apply Cnd_not | apply Cnd_some | apply Cnd_none | apply Gd_nt | apply Gd_nf | apply Gd_some | apply Gd_none | apply Gd_want) | refine U_ar rfl rfl rfl (wrap_k (by simp only [wrapOk]; omega)) rfl ?_ | refine U_cv E rfl rfl rfl (wrap_k (by simp only [wrapOk]; omega)) rfl ?_ | refine U_pure E rfl rfl ?_ | refine T_exit rfl ?_ | refine T_condV rfl ?_ | refine U_guard rfl rfl ?_ | ((with_reducible refine Gd_skipT ?_ ?_); exact rfl) | ((with_reducible refine Gd_skipF ?_ ?_); exact rfl))
            refine T.less ?_ (ih (i + 1, (F, Fr, D, vo, L), w7) ⟨by omega, k07, hn6, h7, l6, by dsimp only; omega, by dsimp only; omega, hO7⟩ (by dsimp only; omega))
            exact ⟨rfl, rfl, rfl, rfl, rfl, rfl, rfl, rfl, rfl, trivial⟩
      · refine T_exit rfl ?_
        refine T.less ?_ (fin (F, Fr, D, vo, L) w6 ⟨k6, h6, l6, by dsimp only; omega, hO6⟩)
        exact ⟨rfl, rfl, rfl, rfl, rfl, trivial⟩
    case fin2 =>
      rintro ⟨F, Fr, D, vo, L⟩ w6 ⟨k6, h6, l6, c6, hO6⟩
      dsimp only at h6 l6 c6 hO6 ⊢
      have hz6 : hsz D = Hf := by rw [hsz, l6]; exact hHf
      have hri := h6.ri
      have hfits := hri.fits
      have hRS6 := hO6.rs (by omega)
      have hL6 := hO6
      obtain ⟨xs, x1, x2, x3⟩ := hO6
      obtain ⟨A6, c6', hvo⟩ := x2.val
      subst hvo
      have hal := rall_c w6 _ g _ L (by omega) hRS6 (by omega) (fun p hp => h6.rl.recs p hp)
      repeat (first | (with_reducible first | apply T_seq | apply T_region | apply U_nil | apply T_skip | apply T_block | apply T_inBlock | apply Cnd_t | apply Cnd_f | apply Cnd_not | apply Cnd_some | apply Cnd_none | apply Gd_nt | apply Gd_nf | apply Gd_some | apply Gd_none | apply Gd_want) | refine U_ar rfl rfl rfl (wrap_k (by simp only [wrapOk]; omega)) rfl ?_ | refine U_cv E rfl rfl rfl (wrap_k (by simp only [wrapOk]; omega)) rfl ?_ | refine U_pure E rfl rfl ?_ | refine T_exit rfl ?_ | refine T_condV rfl ?_ | refine U_guard rfl rfl ?_ | ((with_reducible refine Gd_skipT ?_ ?_); exact rfl) | ((with_reducible refine Gd_skipF ?_ ?_); exact rfl))
      refine U_call rfl rfl (Tryd.call58 _) (hal) ?_
      rintro r w7 ⟨k7, ys, y1, y2, y3⟩
      have hyl : ys.length = (allP g 0 L).length := y1
      have hysl := y2.sl (by omega)
      obtain ⟨A7, c7, rfl⟩ := y2.val
      have h7 := h6.same k7
      have k07 := k6.tr k7 (fun _ _ x => x)
      obtain ⟨Bs, hBs⟩ : ∃ Bs : Nat, 2 + g % 2 * Hf = Bs := ⟨_, rfl⟩
      have hbase : base D g = Bs := by rw [base, hz6]; exact hBs
      have hbh := base_hsz D g (by omega)
      have hmulI : ((g % 2 : Nat) : Int) * (Hf : Int) = ((g % 2 * Hf : Nat) : Int) := by rw [Int.natCast_mul]
      have hm9 : g % 2 * Hf ≤ 9000 := by rcases hg with rfl | rfl <;> simp <;> omega
      repeat (first | (with_reducible first | apply T_seq | apply T_region | apply U_nil | apply T_skip | apply T_block | apply T_inBlock | apply Cnd_t | apply Cnd_f | apply Cnd_not | apply Cnd_some | apply Cnd_none | apply Gd_nt | apply Gd_nf | apply Gd_some | apply Gd_none | apply Gd_want) | refine U_ar rfl rfl rfl (wrap_k (by simp only [wrapOk]; omega)) rfl ?_ | refine U_cv E rfl rfl rfl (wrap_k (by simp only [wrapOk]; omega)) rfl ?_ | refine U_pure E rfl rfl ?_ | refine T_exit rfl ?_ | refine T_condV rfl ?_ | refine U_guard rfl rfl ?_ | ((with_reducible refine Gd_skipT ?_ ?_); exact rfl) | ((with_reducible refine Gd_skipF ?_ ?_); exact rfl))
      refine T_loop (α := Nat × World) (fun x => [(90, .int .i64 x.1), (89, .int .i64 (Hf : Nat)), (19, .slice A7 ys.length c7), (16, .slice A6 xs.length c6'), (15, .int .u32 g), (13, .pointer (some ⟨rb, 0, none⟩)), (11, .pointer (some ⟨hdb, 0, none⟩)), (10, .int .i64 (Hf : Nat))]) (fun x => x.2) (fun x => Hf - x.1)
        (fun x => x.1 ≤ Hf ∧ Kept none0 w7 x.2) (0, w7) ⟨Nat.zero_le _, Kept.refl _ _⟩ ?hsub2 rfl ?_
      case hsub2 => exact ⟨rfl, rfl, rfl, rfl, rfl, rfl, rfl, rfl, trivial⟩
      rintro ⟨i, w8⟩ ⟨hi, k8⟩ ih
      dsimp only at hi k8 ⊢
      have h8 := h7.same k8
      have k08 := k07.tr k8 (fun _ _ x => x)
      repeat (first | (with_reducible first | apply T_seq | apply T_region | apply U_nil | apply T_skip | apply T_block | apply T_inBlock | apply Cnd_t | apply Cnd_f | apply Cnd_not | apply Cnd_some | apply Cnd_none | apply Gd_nt | apply Gd_nf | apply Gd_some | apply Gd_none | apply Gd_want) | refine U_ar rfl rfl rfl (wrap_k (by simp only [wrapOk]; omega)) rfl ?_ | refine U_cv E rfl rfl rfl (wrap_k (by simp only [wrapOk]; omega)) rfl ?_ | refine U_pure E rfl rfl ?_ | refine T_exit rfl ?_ | refine T_condV rfl ?_ | refine U_guard rfl rfl ?_ | ((with_reducible refine Gd_skipT ?_ ?_); exact rfl) | ((with_reducible refine Gd_skipF ?_ ?_); exact rfl))
      refine Cnd_p (fun hlt => ?_) (fun hlt => ?_)
      · repeat (first | (with_reducible first | apply T_seq | apply T_region | apply U_nil | apply T_skip | apply T_block | apply T_inBlock | apply Cnd_t | apply Cnd_f | apply Cnd_not | apply Cnd_some | apply Cnd_none | apply Gd_nt | apply Gd_nf | apply Gd_some | apply Gd_none | apply Gd_want) | refine U_ar rfl rfl rfl (wrap_k (by simp only [wrapOk]; omega)) rfl ?_ | refine U_cv E rfl rfl rfl (wrap_k (by simp only [wrapOk]; omega)) rfl ?_ | refine U_pure E rfl rfl ?_ | refine T_exit rfl ?_ | refine T_condV rfl ?_ | refine U_guard rfl rfl ?_ | ((with_reducible refine Gd_skipT ?_ ?_); exact rfl) | ((with_reducible refine Gd_skipF ?_ ?_); exact rfl))
        refine U_run rfl rfl rfl (ro_bin (r := .int .u32 (g % 2 : Nat)) rfl rfl (by exact run_rem (y := 2) (by decide))) ?_
        refine U_cv E rfl rfl rfl (wrap_k (by simp only [wrapOk]; omega)) rfl ?_
        refine U_pure E rfl rfl ?_
        refine U_ar rfl rfl rfl (wrap_i64 (by rw [hmulI]; omega)) rfl ?_
        rw [hmulI]
        repeat (first | (with_reducible first | apply T_seq | apply T_region | apply U_nil | apply T_skip | apply T_block | apply T_inBlock | apply Cnd_t | apply Cnd_f | apply Cnd_not | apply Cnd_some | apply Cnd_none | apply Gd_nt | apply Gd_nf | apply Gd_some | apply Gd_none | apply Gd_want) | refine U_ar rfl rfl rfl (wrap_k (by simp only [wrapOk]; omega)) rfl ?_ | refine U_cv E rfl rfl rfl (wrap_k (by simp only [wrapOk]; omega)) rfl ?_ | refine U_pure E rfl rfl ?_ | refine T_exit rfl ?_ | refine T_condV rfl ?_ | refine U_guard rfl rfl ?_ | ((with_reducible refine Gd_skipT ?_ ?_); exact rfl) | ((with_reducible refine Gd_skipF ?_ ?_); exact rfl))
        have hrd := read_c w8 F hdb D (Bs + i) h8.dm.isD (by omega)
        rw [show ((Bs + i : Nat) : Int) = 2 + ((g % 2 * Hf : Nat) : Int) + (i : Int) by omega] at hrd
        unfold ptr at *
        refine U_call rfl rfl (Tryd.call36 _) (hrd) ?_
        rintro r w9 ⟨b9, rfl, hb9, hbl9, k9⟩
        have hvw : nowS D.l D.wait (Bs + i) = vw D (Bs + i) := rfl
        rw [hvw] at hbl9
        repeat (first | (with_reducible first | apply T_seq | apply T_region | apply U_nil | apply T_skip | apply T_block | apply T_inBlock | apply Cnd_t | apply Cnd_f | apply Cnd_not | apply Cnd_some | apply Cnd_none | apply Gd_nt | apply Gd_nf | apply Gd_some | apply Gd_none | apply Gd_want) | refine U_ar rfl rfl rfl (wrap_k (by simp only [wrapOk]; omega)) rfl ?_ | refine U_cv E rfl rfl rfl (wrap_k (by simp only [wrapOk]; omega)) rfl ?_ | refine U_pure E rfl rfl ?_ | refine T_exit rfl ?_ | refine T_condV rfl ?_ | refine U_guard rfl rfl ?_ | ((with_reducible refine Gd_skipT ?_ ?_); exact rfl) | ((with_reducible refine Gd_skipF ?_ ?_); exact rfl))
        refine Gd_p (fun hin => ?_) (fun hin => ?_)
        · have hin' : i < ys.length := by omega
          have hgi : ys[(i : Int).toNat]? = some ys[i] := by rw [Int.toNat_natCast, List.getElem?_eq_getElem hin']
          have hin2 : i < (allP g 0 L).length := by omega
          have hpage := hri.pages i _ (List.getElem?_eq_getElem hin2)
          rw [hbase] at hpage
          have hs256 := allP_secs g L 0 _ (List.getElem_mem hin2)
          have hyi := y3 i _ _ (List.getElem?_eq_getElem hin') (List.getElem?_eq_getElem hin2)
          have hbs9 := blk_bs (G := fun _ => True) hbl9 (by rw [hpage]; exact hs256) trivial
          have hyi9 := (hyi.mv k8 (fun _ _ _ x => x)).mv k9 (fun _ _ _ x => x)
          repeat (first | (with_reducible first | apply T_seq | apply T_region | apply U_nil | apply T_skip | apply T_block | apply T_inBlock | apply Cnd_t | apply Cnd_f | apply Cnd_not | apply Cnd_some | apply Cnd_none | apply Gd_nt | apply Gd_nf | apply Gd_some | apply Gd_none | apply Gd_want) | refine U_ar rfl rfl rfl (wrap_k (by simp only [wrapOk]; omega)) rfl ?_ | refine U_cv E rfl rfl rfl (wrap_k (by simp only [wrapOk]; omega)) rfl ?_ | refine U_pure E rfl rfl ?_ | refine T_exit rfl ?_ | refine T_condV rfl ?_ | refine U_guard rfl rfl ?_ | ((with_reducible refine Gd_skipT ?_ ?_); exact rfl) | ((with_reducible refine Gd_skipF ?_ ?_); exact rfl))
          refine U_idx E (((hysl.mv k8 (fun _ _ _ x => x)).mv k9 (fun _ _ _ x => x))) rfl rfl rfl rfl (by omega) (by omega) (hgi) rfl (fun qq hqq => ?_)
          repeat (first | (with_reducible first | apply T_seq | apply T_region | apply U_nil | apply T_skip | apply T_block | apply T_inBlock | apply Cnd_t | apply Cnd_f | apply Cnd_not | apply Cnd_some | apply Cnd_none | apply Gd_nt | apply Gd_nf | apply Gd_some | apply Gd_none | apply Gd_want) | refine U_ar rfl rfl rfl (wrap_k (by simp only [wrapOk]; omega)) rfl ?_ | refine U_cv E rfl rfl rfl (wrap_k (by simp only [wrapOk]; omega)) rfl ?_ | refine U_pure E rfl rfl ?_ | refine T_exit rfl ?_ | refine T_condV rfl ?_ | refine U_guard rfl rfl ?_ | ((with_reducible refine Gd_skipT ?_ ?_); exact rfl) | ((with_reducible refine Gd_skipF ?_ ?_); exact rfl))
          obtain ⟨Ay, cy, hye⟩ := hyi9.len
          rw [hye] at hqq hyi9
          refine U_load E rfl rfl rfl hqq rfl ?_
          have hsm := ret_of (same_c w9 _ _ _ _ _ _ hbs9 hyi9)
          rw [decide_eq_true hpage] at hsm
          repeat (first | (with_reducible first | apply T_seq | apply T_region | apply U_nil | apply T_skip | apply T_block | apply T_inBlock | apply Cnd_t | apply Cnd_f | apply Cnd_not | apply Cnd_some | apply Cnd_none | apply Gd_nt | apply Gd_nf | apply Gd_some | apply Gd_none | apply Gd_want) | refine U_ar rfl rfl rfl (wrap_k (by simp only [wrapOk]; omega)) rfl ?_ | refine U_cv E rfl rfl rfl (wrap_k (by simp only [wrapOk]; omega)) rfl ?_ | refine U_pure E rfl rfl ?_ | refine T_exit rfl ?_ | refine T_condV rfl ?_ | refine U_guard rfl rfl ?_ | ((with_reducible refine Gd_skipT ?_ ?_); exact rfl) | ((with_reducible refine Gd_skipF ?_ ?_); exact rfl))
          refine U_call rfl rfl (Tryd.call22 _) (hsm) ?_
          rintro r w10 ⟨rfl, d10⟩
          repeat (first | (with_reducible first | apply T_seq | apply T_region | apply U_nil | apply T_skip | apply T_block | apply T_inBlock | apply Cnd_t | apply Cnd_f | apply Cnd_not | apply Cnd_some | apply Cnd_none | apply Gd_nt | apply Gd_nf | apply Gd_some | apply Gd_none | apply Gd_want) | refine U_ar rfl rfl rfl (wrap_k (by simp only [wrapOk]; omega)) rfl ?_ | refine U_cv E rfl rfl rfl (wrap_k (by simp only [wrapOk]; omega)) rfl ?_ | refine U_pure E rfl rfl ?_ | refine T_exit rfl ?_ | refine T_condV rfl ?_ | refine U_guard rfl rfl ?_ | refine U_guardU rfl rfl rfl ?_ | ((with_reducible refine Gd_skipT ?_ ?_); exact rfl) | ((with_reducible refine Gd_skipF ?_ ?_); exact rfl))
          refine Gd_p (fun hge => ?_) (fun hge => ?_)
          · exfalso; omega
          · repeat (first | (with_reducible first | apply T_seq | apply T_region | apply U_nil | apply T_skip | apply T_block | apply T_inBlock | apply Cnd_t | apply Cnd_f | apply Cnd_not | apply Cnd_some | apply Cnd_none | apply Gd_nt | apply Gd_nf | apply Gd_some | apply Gd_none | apply Gd_want) | refine U_ar rfl rfl rfl (wrap_k (by simp only [wrapOk]; omega)) rfl ?_ | refine U_cv E rfl rfl rfl (wrap_k (by simp only [wrapOk]; omega)) rfl ?_ | refine U_pure E rfl rfl ?_ | refine T_exit rfl ?_ | refine T_condV rfl ?_ | refine U_guard rfl rfl ?_ | refine U_guardU rfl rfl rfl ?_ | ((with_reducible refine Gd_skipT ?_ ?_); exact rfl) | ((with_reducible refine Gd_skipF ?_ ?_); exact rfl))
            refine T.less ?_ (ih (i + 1, w10) ⟨by omega, (k8.tr k9 (fun _ _ x => x)).tr (d10.kept none0) (fun _ _ x => x)⟩ (by dsimp only; omega))
            exact ⟨rfl, rfl, rfl, rfl, rfl, rfl, rfl, rfl, trivial⟩
        · repeat (first | (with_reducible first | apply T_seq | apply T_region | apply U_nil | apply T_skip | apply T_block | apply T_inBlock | apply Cnd_t | apply Cnd_f | apply Cnd_not | apply Cnd_some | apply Cnd_none | apply Gd_nt | apply Gd_nf | apply Gd_some | apply Gd_none | apply Gd_want) | refine U_ar rfl rfl rfl (wrap_k (by simp only [wrapOk]; omega)) rfl ?_ | refine U_cv E rfl rfl rfl (wrap_k (by simp only [wrapOk]; omega)) rfl ?_ | refine U_pure E rfl rfl ?_ | refine T_exit rfl ?_ | refine T_condV rfl ?_ | refine U_guard rfl rfl ?_ | refine U_guardU rfl rfl rfl ?_ | ((with_reducible refine Gd_skipT ?_ ?_); exact rfl) | ((with_reducible refine Gd_skipF ?_ ?_); exact rfl))
          refine Gd_p (fun hge => ?_) (fun hge => ?_)
          · have hcl := hri.clean i (by omega) (by omega)
            rw [hbase] at hcl
            have h9 := h8.same k9
            have hcc := clean_c w9 F hdb D ((Bs + i : Nat) : Int) h9.dm.isD
            rw [decide_eq_true (show cleanD D ((Bs + i : Nat) : Int) from ⟨⟨by omega, by omega⟩, by rw [Int.toNat_natCast]; exact hcl⟩)] at hcc
            rw [show ((Bs + i : Nat) : Int) = 2 + ((g % 2 * Hf : Nat) : Int) + (i : Int) by omega] at hcc
            unfold ptr at *
            repeat (first | (with_reducible first | apply T_seq | apply T_region | apply U_nil | apply T_skip | apply T_block | apply T_inBlock | apply Cnd_t | apply Cnd_f | apply Cnd_not | apply Cnd_some | apply Cnd_none | apply Gd_nt | apply Gd_nf | apply Gd_some | apply Gd_none | apply Gd_want) | refine U_ar rfl rfl rfl (wrap_k (by simp only [wrapOk]; omega)) rfl ?_ | refine U_cv E rfl rfl rfl (wrap_k (by simp only [wrapOk]; omega)) rfl ?_ | refine U_pure E rfl rfl ?_ | refine T_exit rfl ?_ | refine T_condV rfl ?_ | refine U_guard rfl rfl ?_ | refine U_guardU rfl rfl rfl ?_ | ((with_reducible refine Gd_skipT ?_ ?_); exact rfl) | ((with_reducible refine Gd_skipF ?_ ?_); exact rfl))
            refine U_run rfl rfl rfl (ro_bin (r := .int .u32 (g % 2 : Nat)) rfl rfl (by exact run_rem (y := 2) (by decide))) ?_
            refine U_guard rfl rfl ?_; refine Gd_want ?_
            refine U_cv E rfl rfl rfl (wrap_k (by simp only [wrapOk]; omega)) rfl ?_
            refine U_guard rfl rfl ?_; refine Gd_want ?_
            refine U_pure E rfl rfl ?_
            refine U_guard rfl rfl ?_; refine Gd_want ?_
            refine U_ar rfl rfl rfl (wrap_i64 (by rw [hmulI]; omega)) rfl ?_
            rw [hmulI]
            repeat (first | (with_reducible first | apply T_seq | apply T_region | apply U_nil | apply T_skip | apply T_block | apply T_inBlock | apply Cnd_t | apply Cnd_f | apply Cnd_not | apply Cnd_some | apply Cnd_none | apply Gd_nt | apply Gd_nf | apply Gd_some | apply Gd_none | apply Gd_want) | refine U_ar rfl rfl rfl (wrap_k (by simp only [wrapOk]; omega)) rfl ?_ | refine U_cv E rfl rfl rfl (wrap_k (by simp only [wrapOk]; omega)) rfl ?_ | refine U_pure E rfl rfl ?_ | refine T_exit rfl ?_ | refine T_condV rfl ?_ | refine U_guard rfl rfl ?_ | refine U_guardU rfl rfl rfl ?_ | ((with_reducible refine Gd_skipT ?_ ?_); exact rfl) | ((with_reducible refine Gd_skipF ?_ ?_); exact rfl))
            refine U_call rfl rfl (Tryd.call40 _) (hcc) ?_
            rintro r w10 ⟨rfl, k10⟩
            repeat (first | (with_reducible first | apply T_seq | apply T_region | apply U_nil | apply T_skip | apply T_block | apply T_inBlock | apply Cnd_t | apply Cnd_f | apply Cnd_not | apply Cnd_some | apply Cnd_none | apply Gd_nt | apply Gd_nf | apply Gd_some | apply Gd_none | apply Gd_want) | refine U_ar rfl rfl rfl (wrap_k (by simp only [wrapOk]; omega)) rfl ?_ | refine U_cv E rfl rfl rfl (wrap_k (by simp only [wrapOk]; omega)) rfl ?_ | refine U_pure E rfl rfl ?_ | refine T_exit rfl ?_ | refine T_condV rfl ?_ | refine U_guard rfl rfl ?_ | refine U_guardU rfl rfl rfl ?_ | ((with_reducible refine Gd_skipT ?_ ?_); exact rfl) | ((with_reducible refine Gd_skipF ?_ ?_); exact rfl))
            refine T.less ?_ (ih (i + 1, w10) ⟨by omega, (k8.tr k9 (fun _ _ x => x)).tr k10 (fun _ _ x => x)⟩ (by dsimp only; omega))
            exact ⟨rfl, rfl, rfl, rfl, rfl, rfl, rfl, rfl, trivial⟩
          · exfalso; omega
      · repeat (first | (with_reducible first | apply T_seq | apply T_region | apply U_nil | apply T_skip | apply T_block | apply T_inBlock | apply Cnd_t | apply Cnd_f | apply Cnd_not | apply Cnd_some | apply Cnd_none | apply Gd_nt | apply Gd_nf | apply Gd_some | apply Gd_none | apply Gd_want) | refine U_ar rfl rfl rfl (wrap_k (by simp only [wrapOk]; omega)) rfl ?_ | refine U_cv E rfl rfl rfl (wrap_k (by simp only [wrapOk]; omega)) rfl ?_ | refine U_pure E rfl rfl ?_ | refine T_exit rfl ?_ | refine T_condV rfl ?_ | refine U_guard rfl rfl ?_ | ((with_reducible refine Gd_skipT ?_ ?_); exact rfl) | ((with_reducible refine Gd_skipF ?_ ?_); exact rfl))
        refine U_run rfl rfl rfl (ro_bin (r := .int .u32 (g % 2 : Nat)) rfl rfl (by exact run_rem (y := 2) (by decide))) ?_
        repeat (first | (with_reducible first | apply T_seq | apply T_region | apply U_nil | apply T_skip | apply T_block | apply T_inBlock | apply Cnd_t | apply Cnd_f | apply Cnd_not | apply Cnd_some | apply Cnd_none | apply Gd_nt | apply Gd_nf | apply Gd_some | apply Gd_none | apply Gd_want) | refine U_ar rfl rfl rfl (wrap_k (by simp only [wrapOk]; omega)) rfl ?_ | refine U_cv E rfl rfl rfl (wrap_k (by simp only [wrapOk]; omega)) rfl ?_ | refine U_pure E rfl rfl ?_ | refine T_exit rfl ?_ | refine T_condV rfl ?_ | refine U_guard rfl rfl ?_ | ((with_reducible refine Gd_skipT ?_ ?_); exact rfl) | ((with_reducible refine Gd_skipF ?_ ?_); exact rfl))
        have hrd := read_c w8 F hdb D (g % 2) h8.dm.isD (by omega)
        unfold ptr at *
        refine U_call rfl rfl (Tryd.call36 _) (hrd) ?_
        rintro r w9 ⟨b9, rfl, hb9, hbl9, k9⟩
        have hvw : nowS D.l D.wait (g % 2) = hdS g := hri.head
        rw [hvw] at hbl9
        have hbs9 := blk_bs (G := fun _ => True) hbl9 (by rw [hdS]; exact mrk_len _ _) trivial
        repeat (first | (with_reducible first | apply T_seq | apply T_region | apply U_nil | apply T_skip | apply T_block | apply T_inBlock | apply Cnd_t | apply Cnd_f | apply Cnd_not | apply Cnd_some | apply Cnd_none | apply Gd_nt | apply Gd_nf | apply Gd_some | apply Gd_none | apply Gd_want) | refine U_ar rfl rfl rfl (wrap_k (by simp only [wrapOk]; omega)) rfl ?_ | refine U_cv E rfl rfl rfl (wrap_k (by simp only [wrapOk]; omega)) rfl ?_ | refine U_pure E rfl rfl ?_ | refine T_exit rfl ?_ | refine T_condV rfl ?_ | refine U_guard rfl rfl ?_ | ((with_reducible refine Gd_skipT ?_ ?_); exact rfl) | ((with_reducible refine Gd_skipF ?_ ?_); exact rfl))
        refine U_call rfl rfl (Tryd.call59 _) (rhead_c w9 g (by omega)) ?_
        rintro r w10 ⟨k10, hh10⟩
        have hsm := ret_of (same_c w10 _ _ _ _ _ _ (hbs9.mv k10 (fun _ _ _ x => x)) hh10)
        rw [decide_eq_true rfl] at hsm
        repeat (first | (with_reducible first | apply T_seq | apply T_region | apply U_nil | apply T_skip | apply T_block | apply T_inBlock | apply Cnd_t | apply Cnd_f | apply Cnd_not | apply Cnd_some | apply Cnd_none | apply Gd_nt | apply Gd_nf | apply Gd_some | apply Gd_none | apply Gd_want) | refine U_ar rfl rfl rfl (wrap_k (by simp only [wrapOk]; omega)) rfl ?_ | refine U_cv E rfl rfl rfl (wrap_k (by simp only [wrapOk]; omega)) rfl ?_ | refine U_pure E rfl rfl ?_ | refine T_exit rfl ?_ | refine T_condV rfl ?_ | refine U_guard rfl rfl ?_ | ((with_reducible refine Gd_skipT ?_ ?_); exact rfl) | ((with_reducible refine Gd_skipF ?_ ?_); exact rfl))
        refine U_call rfl rfl (Tryd.call22 _) (hsm) ?_
        rintro r w11 ⟨rfl, d11⟩
        have k811 := (k9.tr k10 (fun _ _ x => x)).tr (d11.kept none0) (fun _ _ x => x)
        have h11 := h8.same k811
        have hrm := room_c h11.rl h11.dm (by omega)
        rw [hz6] at hrm
        unfold ptr at *
        repeat (first | (with_reducible first | apply T_seq | apply T_region | apply U_nil | apply T_skip | apply T_block | apply T_inBlock | apply Cnd_t | apply Cnd_f | apply Cnd_not | apply Cnd_some | apply Cnd_none | apply Gd_nt | apply Gd_nf | apply Gd_some | apply Gd_none | apply Gd_want) | refine U_ar rfl rfl rfl (wrap_k (by simp only [wrapOk]; omega)) rfl ?_ | refine U_cv E rfl rfl rfl (wrap_k (by simp only [wrapOk]; omega)) rfl ?_ | refine U_pure E rfl rfl ?_ | refine T_exit rfl ?_ | refine T_condV rfl ?_ | refine U_guard rfl rfl ?_ | refine U_guardU rfl rfl rfl ?_ | ((with_reducible refine Gd_skipT ?_ ?_); exact rfl) | ((with_reducible refine Gd_skipF ?_ ?_); exact rfl))
        refine U_call rfl rfl (Tryd.call60 _) (hrm) ?_
        rintro r w12 ⟨rfl, k12⟩
        repeat (first | (with_reducible first | apply T_seq | apply T_region | apply U_nil | apply T_skip | apply T_block | apply T_inBlock | apply Cnd_t | apply Cnd_f | apply Cnd_not | apply Cnd_some | apply Cnd_none | apply Gd_nt | apply Gd_nf | apply Gd_some | apply Gd_none | apply Gd_want) | refine U_ar rfl rfl rfl (wrap_k (by simp only [wrapOk]; omega)) rfl ?_ | refine U_cv E rfl rfl rfl (wrap_k (by simp only [wrapOk]; omega)) rfl ?_ | refine U_pure E rfl rfl ?_ | refine T_exit rfl ?_ | refine T_condV rfl ?_ | refine U_guard rfl rfl ?_ | refine U_guardU rfl rfl rfl ?_ | ((with_reducible refine Gd_skipT ?_ ?_); exact rfl) | ((with_reducible refine Gd_skipF ?_ ?_); exact rfl))
        refine Gd_p (fun hrr => ?_) (fun hrr => ?_)
        · have h12 := h11.same k12
          have hct := count_c h12.rl
          rw [← x1] at hct
          unfold ptr at *
          repeat (first | (with_reducible first | apply T_seq | apply T_region | apply U_nil | apply T_skip | apply T_block | apply T_inBlock | apply Cnd_t | apply Cnd_f | apply Cnd_not | apply Cnd_some | apply Cnd_none | apply Gd_nt | apply Gd_nf | apply Gd_some | apply Gd_none | apply Gd_want) | refine U_ar rfl rfl rfl (wrap_k (by simp only [wrapOk]; omega)) rfl ?_ | refine U_cv E rfl rfl rfl (wrap_k (by simp only [wrapOk]; omega)) rfl ?_ | refine U_pure E rfl rfl ?_ | refine T_exit rfl ?_ | refine T_condV rfl ?_ | refine U_guard rfl rfl ?_ | refine U_guardU rfl rfl rfl ?_ | ((with_reducible refine Gd_skipT ?_ ?_); exact rfl) | ((with_reducible refine Gd_skipF ?_ ?_); exact rfl))
          refine U_call rfl rfl (Tryd.call61 _) (hct) ?_
          rintro r w13 ⟨rfl, rfl⟩
          repeat (first | (with_reducible first | apply T_seq | apply T_region | apply U_nil | apply T_skip | apply T_block | apply T_inBlock | apply Cnd_t | apply Cnd_f | apply Cnd_not | apply Cnd_some | apply Cnd_none | apply Gd_nt | apply Gd_nf | apply Gd_some | apply Gd_none | apply Gd_want) | refine U_ar rfl rfl rfl (wrap_k (by simp only [wrapOk]; omega)) rfl ?_ | refine U_cv E rfl rfl rfl (wrap_k (by simp only [wrapOk]; omega)) rfl ?_ | refine U_pure E rfl rfl ?_ | refine T_exit rfl ?_ | refine T_condV rfl ?_ | refine U_guard rfl rfl ?_ | refine U_guardU rfl rfl rfl ?_ | ((with_reducible refine Gd_skipT ?_ ?_); exact rfl) | ((with_reducible refine Gd_skipF ?_ ?_); exact rfl))
          exact T_ret1 Tryd.func13 rfl rfl ⟨_, rfl, by simp, (k08.tr k811 (fun _ _ x => x)).tr k12 (fun _ _ x => x)⟩
        · exfalso
          apply hrr
          omega
end Go.Proofs.YtoefhdaenaiomaaDoor
