/- ReelGoes: the walk. -/
import Derived.Test.YtoefhdaenaiomaaDoorPk14
set_option linter.unusedVariables false
set_option linter.unusedSimpArgs false
namespace Go.Proofs.YtoefhdaenaiomaaDoor
open Go
set_option maxRecDepth 20000

theorem pgs_cut (p : List UInt8) (b : Bool) : pgs (cutP p b).length ≤ 3 := by
  have := cutP_len p b
  unfold pgs
  omega
/-- What the loop has appended. -/
def goesL (l : List (List UInt8)) (bs : List Bool) : Nat → List (List UInt8)
  | 0 => [[]]
  | n + 1 => goesL l bs n ++ [cutP (l.getD n []) (bs.getD n false)]
theorem goesL_len (l : List (List UInt8)) (bs : List Bool) : ∀ n, (goesL l bs n).length = n + 1
  | 0 => rfl
  | n + 1 => by rw [goesL, List.length_append, goesL_len l bs n]; rfl
theorem goesL_pages (l : List (List UInt8)) (bs : List Bool) : ∀ n, (allP 1 0 (goesL l bs n)).length ≤ 1 + 3 * n
  | 0 => by simp [goesL, allP, lay_len, pgs]
  | n + 1 => by
    have := goesL_pages l bs n
    have := pgs_cut (l.getD n []) (bs.getD n false)
    rw [goesL, allP_snoc, List.length_append, lay_len]
    omega

set_option maxHeartbeats 8000000 in
theorem goes_c (w : World) (G H : Nat → Prop) (vl vb : Value) (l : List (List UInt8)) (bs : List Bool) (a : Nat) (hl : RS w G vl l) (hb : Sl w H vb 1 bs.length (encBools bs)) (ha : a < 256) :
    Calls Tryd.prog 12 [vl, vb, .int .u8 a].toArray w (Ret fun r w' => r = .bool true ∧ Kept none0 w w') := by
  obtain ⟨vs, a1, a2, a3⟩ := hl
  obtain ⟨A, c, rfl⟩ := a2.len
  obtain ⟨B, cb, rfl⟩ := hb.len
  refine calls_T Tryd.func12 rfl rfl rfl ?_
  repeat (first | (with_reducible first | apply T_seq | apply T_region | apply U_nil | apply T_skip | apply T_block | apply T_inBlock | apply Cnd_t | apply Cnd_f | apply Cnd_not | apply Cnd_some | apply Cnd_none | apply Gd_nt | apply Gd_nf | apply Gd_some | apply Gd_none | apply Gd_want) | refine U_ar rfl rfl rfl (wrap_k (by simp only [wrapOk]; omega)) rfl ?_ | refine U_cv E rfl rfl rfl (wrap_k (by simp only [wrapOk]; omega)) rfl ?_ | refine U_pure E rfl rfl ?_ | refine T_exit rfl ?_ | refine T_condV rfl ?_ | refine U_guard rfl rfl ?_ | ((with_reducible refine Gd_skipT ?_ ?_); exact rfl) | ((with_reducible refine Gd_skipF ?_ ?_); exact rfl))
  refine U_call rfl rfl (Tryd.call48 _) (awake15_c w) ?_
  rintro r w1 ⟨rfl, k1⟩
  repeat (first | (with_reducible first | apply T_seq | apply T_region | apply U_nil | apply T_skip | apply T_block | apply T_inBlock | apply Cnd_t | apply Cnd_f | apply Cnd_not | apply Cnd_some | apply Cnd_none | apply Gd_nt | apply Gd_nf | apply Gd_some | apply Gd_none | apply Gd_want) | refine U_ar rfl rfl rfl (wrap_k (by simp only [wrapOk]; omega)) rfl ?_ | refine U_cv E rfl rfl rfl (wrap_k (by simp only [wrapOk]; omega)) rfl ?_ | refine U_pure E rfl rfl ?_ | refine T_exit rfl ?_ | refine T_condV rfl ?_ | refine U_guard rfl rfl ?_ | ((with_reducible refine Gd_skipT ?_ ?_); exact rfl) | ((with_reducible refine Gd_skipF ?_ ?_); exact rfl))
  refine U_call rfl rfl (Tryd.call24 _) (new_c w1 120 (by decide)) ?_
  rintro r w2 ⟨k2, hdb, rfl, hD2⟩
  have hD2 := hD2.dm
  have k02 : Kept none0 w w2 := k1.tr k2 (fun _ _ x => x)
  have hmk := make_on w2 _ hdb _ (.slice none 0 0) [] hD2 (drNew_on _) (by rw [drNew_len]; decide) (sl_nil _ _) (rec_ok (by decide) (by decide) (by decide)) (by rw [drNew_hsz]; decide) (by simp [drNew])
  unfold ptr at *
  repeat (first | (with_reducible first | apply T_seq | apply T_region | apply U_nil | apply T_skip | apply T_block | apply T_inBlock | apply Cnd_t | apply Cnd_f | apply Cnd_not | apply Cnd_some | apply Cnd_none | apply Gd_nt | apply Gd_nf | apply Gd_some | apply Gd_none | apply Gd_want) | refine U_ar rfl rfl rfl (wrap_k (by simp only [wrapOk]; omega)) rfl ?_ | refine U_cv E rfl rfl rfl (wrap_k (by simp only [wrapOk]; omega)) rfl ?_ | refine U_pure E rfl rfl ?_ | refine T_exit rfl ?_ | refine T_condV rfl ?_ | refine U_guard rfl rfl ?_ | ((with_reducible refine Gd_skipT ?_ ?_); exact rfl) | ((with_reducible refine Gd_skipF ?_ ?_); exact rfl))
  refine U_call rfl rfl (Tryd.call49 _) (hmk) ?_
  rintro r w3 ⟨F3, Fr3, rb, D3, rfl, o3, h3, hFr3, l3, q3, _⟩
  rw [drNew_len] at l3
  have hz3 : hsz D3 = 59 := by rw [hsz, l3]; rfl
  have k03 : Kept none0 w w3 := o3.done k02 (fun b e => by have := k1.size; have := e.1; omega)
  have hn3 : ∀ b, uni F3 Fr3 b → w.heap.size ≤ b := by
    intro b e
    have := k02.size
    rcases e with e | e
    · exact (o3.newer (w0 := w) (by omega) (fun b e => by have := k1.size; have := e.1; omega)) b e
    · have := hFr3 b e
      omega
  repeat (first | (with_reducible first | apply T_seq | apply T_region | apply U_nil | apply T_skip | apply T_block | apply T_inBlock | apply Cnd_t | apply Cnd_f | apply Cnd_not | apply Cnd_some | apply Cnd_none | apply Gd_nt | apply Gd_nf | apply Gd_some | apply Gd_none | apply Gd_want) | refine U_ar rfl rfl rfl (wrap_k (by simp only [wrapOk]; omega)) rfl ?_ | refine U_cv E rfl rfl rfl (wrap_k (by simp only [wrapOk]; omega)) rfl ?_ | refine U_pure E rfl rfl ?_ | refine T_exit rfl ?_ | refine T_condV rfl ?_ | refine U_guard rfl rfl ?_ | ((with_reducible refine Gd_skipT ?_ ?_); exact rfl) | ((with_reducible refine Gd_skipF ?_ ?_); exact rfl))
  refine U_buildSlice (sz := 1) E rfl rfl rfl rfl rfl rfl rfl rfl (segs := [[.slice none 0 0]]) rfl (by simp) rfl ?_
  intro b4 w4 hn4
  have e4 := hn4.at_
  have h4 := h3.same hn4.kept
  have hlt3 := h3.lt
  have s03 := k03.size
  have hO4 : OS w4 (fun b => fresh w b ∧ ¬ uni F3 Fr3 b) (.slice (some ⟨b4, 0, none⟩) 1 1) [[]] := by
    refine ⟨[.slice none 0 0], rfl, ⟨rfl, .inr ⟨b4, 1, [], rfl, ⟨by simp only [fresh]; omega, fun e => by have := hlt3 b4 e; omega⟩, hn4.blk, rfl, Nat.le_refl _⟩⟩, fun j u p hu hp => ?_⟩
    match j with
    | 0 =>
      injection hu with hu
      injection hp with hp
      subst hu
      subst hp
      exact sl_nil _ _
    | j + 1 => simp at hu
  repeat (first | (with_reducible first | apply T_seq | apply T_region | apply U_nil | apply T_skip | apply T_inBlock | apply Cnd_t | apply Cnd_f | apply Cnd_not | apply Cnd_some | apply Cnd_none | apply Gd_nt | apply Gd_nf | apply Gd_some | apply Gd_none | apply Gd_want) | refine U_ar rfl rfl rfl (wrap_k (by simp only [wrapOk]; omega)) rfl ?_ | refine U_cv E rfl rfl rfl (wrap_k (by simp only [wrapOk]; omega)) rfl ?_ | refine U_pure E rfl rfl ?_ | refine T_exit rfl ?_ | refine T_condV rfl ?_ | refine U_guard rfl rfl ?_ | ((with_reducible refine Gd_skipT ?_ ?_); exact rfl) | ((with_reducible refine Gd_skipF ?_ ?_); exact rfl))
  refine T_via (α := (Nat → Prop) × (Nat → Prop) × Nat × Dr × Value × List (List UInt8)) (fun x => [(9, .pointer (some ⟨x.2.2.1, 0, none⟩)), (11, x.2.2.2.2.1), (7, .pointer (some ⟨hdb, 0, none⟩))])
    (fun x w' => Kept none0 w w' ∧ (∀ b, uni x.1 x.2.1 b → w.heap.size ≤ b) ∧ RD w' x.1 x.2.1 hdb x.2.2.1 x.2.2.2.1 1 x.2.2.2.2.2 ∧ x.2.2.2.1.wait.length + 400000 < 1000000 ∧ x.2.2.2.2.2.length ≤ 20 ∧ OS w' (fun b => fresh w b ∧ ¬ uni x.1 x.2.1 b) x.2.2.2.2.1 x.2.2.2.2.2) ?fin ?go
  case go =>
    intro fin
    repeat (first | (with_reducible first | apply T_seq | apply T_region | apply U_nil | apply T_skip | apply T_block | apply T_inBlock | apply Cnd_t | apply Cnd_f | apply Cnd_not | apply Cnd_some | apply Cnd_none | apply Gd_nt | apply Gd_nf | apply Gd_some | apply Gd_none | apply Gd_want) | refine U_ar rfl rfl rfl (wrap_k (by simp only [wrapOk]; omega)) rfl ?_ | refine U_cv E rfl rfl rfl (wrap_k (by simp only [wrapOk]; omega)) rfl ?_ | refine U_pure E rfl rfl ?_ | refine T_exit rfl ?_ | refine T_condV rfl ?_ | refine U_guard rfl rfl ?_ | ((with_reducible refine Gd_skipT ?_ ?_); exact rfl) | ((with_reducible refine Gd_skipF ?_ ?_); exact rfl))
    refine T_loop (α := Nat × ((Nat → Prop) × (Nat → Prop) × Nat × Dr × Value) × World) (fun x => [(32, .int .i64 x.1), (9, .pointer (some ⟨x.2.1.2.2.1, 0, none⟩)), (11, x.2.1.2.2.2.2), (7, .pointer (some ⟨hdb, 0, none⟩)), (31, .int .i64 vs.length), (30, .slice A vs.length c), (1, .slice B bs.length cb), (2, .int .u8 a)]) (fun x => x.2.2) (fun x => vs.length - x.1)
      (fun x => x.1 ≤ vs.length ∧ x.1 ≤ 12 ∧ Kept none0 w x.2.2 ∧ (∀ b, uni x.2.1.1 x.2.1.2.1 b → w.heap.size ≤ b) ∧ RD x.2.2 x.2.1.1 x.2.1.2.1 hdb x.2.1.2.2.1 x.2.1.2.2.2.1 1 (goesL l bs x.1) ∧ x.2.1.2.2.2.1.l.length = 120 ∧ x.2.1.2.2.2.1.wait.length ≤ 1000 * x.1 ∧ OS x.2.2 (fun b => fresh w b ∧ ¬ uni x.2.1.1 x.2.1.2.1 b) x.2.1.2.2.2.2 (goesL l bs x.1))
      (0, (F3, Fr3, rb, D3, .slice (some ⟨b4, 0, none⟩) 1 1), w4) ⟨Nat.zero_le _, Nat.zero_le _, k03.tr hn4.kept (fun _ _ x => x), hn3, h4, l3, by rw [q3]; exact Nat.zero_le _, hO4⟩ ?hsub rfl ?_
    case hsub => exact ⟨rfl, rfl, rfl, rfl, rfl, rfl, rfl, rfl, trivial⟩
    rintro ⟨i, ⟨F, Fr, rb, D, vo⟩, w5⟩ ⟨hi, hi12, k5, hn5, h5, l5, q5, hO5⟩ ih
    dsimp only at hi hi12 k5 hn5 h5 l5 q5 hO5 ⊢
    have hgl := goesL_len l bs i
    have hout := fin (F, Fr, rb, D, vo, goesL l bs i) w5 ⟨k5, hn5, h5, by dsimp only; omega, by dsimp only; omega, hO5⟩
    repeat (first | (with_reducible first | apply T_seq | apply T_region | apply U_nil | apply T_skip | apply T_block | apply T_inBlock | apply Cnd_t | apply Cnd_f | apply Cnd_not | apply Cnd_some | apply Cnd_none | apply Gd_nt | apply Gd_nf | apply Gd_some | apply Gd_none | apply Gd_want) | refine U_ar rfl rfl rfl (wrap_k (by simp only [wrapOk]; omega)) rfl ?_ | refine U_cv E rfl rfl rfl (wrap_k (by simp only [wrapOk]; omega)) rfl ?_ | refine U_pure E rfl rfl ?_ | refine T_exit rfl ?_ | refine T_condV rfl ?_ | refine U_guard rfl rfl ?_ | ((with_reducible refine Gd_skipT ?_ ?_); exact rfl) | ((with_reducible refine Gd_skipF ?_ ?_); exact rfl))
    refine Cnd_p (fun hlt => ?_) (fun hlt => ?_)
    · have hl1 : i < vs.length := by omega
      have hg1 : vs[(i : Int).toNat]? = some vs[i] := by rw [Int.toNat_natCast, List.getElem?_eq_getElem hl1]
      repeat (first | (with_reducible first | apply T_seq | apply T_region | apply U_nil | apply T_skip | apply T_block | apply T_inBlock | apply Cnd_t | apply Cnd_f | apply Cnd_not | apply Cnd_some | apply Cnd_none | apply Gd_nt | apply Gd_nf | apply Gd_some | apply Gd_none | apply Gd_want) | refine U_ar rfl rfl rfl (wrap_k (by simp only [wrapOk]; omega)) rfl ?_ | refine U_cv E rfl rfl rfl (wrap_k (by simp only [wrapOk]; omega)) rfl ?_ | refine U_pure E rfl rfl ?_ | refine T_exit rfl ?_ | refine T_condV rfl ?_ | refine U_guard rfl rfl ?_ | ((with_reducible refine Gd_skipT ?_ ?_); exact rfl) | ((with_reducible refine Gd_skipF ?_ ?_); exact rfl))
      refine U_idx E ((a2.mv k5 (fun _ _ _ x => x))) rfl rfl rfl rfl (by omega) (by omega) (hg1) rfl (fun p hp => ?_)
      refine U_load E rfl rfl rfl hp rfl ?_
      repeat (first | (with_reducible first | apply T_seq | apply T_region | apply U_nil | apply T_skip | apply T_block | apply T_inBlock | apply Cnd_t | apply Cnd_f | apply Cnd_not | apply Cnd_some | apply Cnd_none | apply Gd_nt | apply Gd_nf | apply Gd_some | apply Gd_none | apply Gd_want) | refine U_ar rfl rfl rfl (wrap_k (by simp only [wrapOk]; omega)) rfl ?_ | refine U_cv E rfl rfl rfl (wrap_k (by simp only [wrapOk]; omega)) rfl ?_ | refine U_pure E rfl rfl ?_ | refine T_exit rfl ?_ | refine T_condV rfl ?_ | refine U_guard rfl rfl ?_ | ((with_reducible refine Gd_skipT ?_ ?_); exact rfl) | ((with_reducible refine Gd_skipF ?_ ?_); exact rfl))
      refine Cnd_p (fun h12 => ?_) (fun h12 => ?_)
      · refine T_exit rfl ?_
        refine T.less ?_ hout
        exact ⟨rfl, rfl, rfl, trivial⟩
      · (repeat (first | with_reducible refine T_skip ?_ | with_reducible refine T_seq ?_))
        have hl2 : i < l.length := by omega
        have e1 : l.getD i [] = l[i] := by rw [List.getD_eq_getElem?_getD, List.getElem?_eq_getElem hl2, Option.getD_some]
        have hap := a3 i _ _ (List.getElem?_eq_getElem hl1) (List.getElem?_eq_getElem hl2)
        have hap5 := hap.mv k5 (fun _ _ _ x => x)
        have hpl : l[i].length ≤ 9223372036854775807 := hap.1
        have s5 := k5.size
        have hlt5 := h5.lt
        refine T_viaK (α := Value) (fun v => [(13, v), (12, .int .i64 i), (11, vo), (9, .pointer (some ⟨rb, 0, none⟩)), (7, .pointer (some ⟨hdb, 0, none⟩)), (32, .int .i64 i), (31, .int .i64 vs.length), (30, .slice A vs.length c), (1, .slice B bs.length cb), (2, .int .u8 a)])
          (fun v w' => Kept none0 w5 w' ∧ BS w' (fresh w5) v (cutP (l.getD i []) (bs.getD i false))) ?fin1 ?go1
        case go1 =>
          intro kk f1
          rw [e1] at f1
          repeat (first | (with_reducible first | apply T_seq | apply T_region | apply U_nil | apply T_skip | apply T_block | apply T_inBlock | apply Gd_nt | apply Gd_nf | apply Gd_some | apply Gd_none | apply Gd_want) | refine U_ar rfl rfl rfl (wrap_k (by simp only [wrapOk]; omega)) rfl ?_ | refine U_cv E rfl rfl rfl (wrap_k (by simp only [wrapOk]; omega)) rfl ?_ | refine U_pure E rfl rfl ?_ | refine T_exit rfl ?_ | refine U_guard rfl rfl ?_ | ((with_reducible refine Gd_skipT ?_ ?_); exact rfl) | ((with_reducible refine Gd_skipF ?_ ?_); exact rfl))
          refine Gd_p (fun hik => ?_) (fun hik => ?_)
          · have hik : i < bs.length := by omega
            repeat (first | (with_reducible first | apply T_seq | apply T_region | apply U_nil | apply T_skip | apply T_block | apply T_inBlock | apply Gd_nt | apply Gd_nf | apply Gd_some | apply Gd_none | apply Gd_want) | refine U_ar rfl rfl rfl (wrap_k (by simp only [wrapOk]; omega)) rfl ?_ | refine U_cv E rfl rfl rfl (wrap_k (by simp only [wrapOk]; omega)) rfl ?_ | refine U_pure E rfl rfl ?_ | refine T_exit rfl ?_ | refine U_guard rfl rfl ?_ | ((with_reducible refine Gd_skipT ?_ ?_); exact rfl) | ((with_reducible refine Gd_skipF ?_ ?_); exact rfl))
            refine U_idx E (hb.mv k5 (fun _ _ _ x => x)) rfl rfl rfl rfl (by omega) (by omega) ((show (encBools bs)[(i : Int).toNat]? = some (.bool bs[i]) by rw [Int.toNat_natCast]; simp [encBools, hik])) rfl (fun q hq => ?_)
            repeat (first | (with_reducible first | apply T_seq | apply T_region | apply U_nil | apply T_skip | apply T_block | apply T_inBlock | apply Gd_nt | apply Gd_nf | apply Gd_some | apply Gd_none | apply Gd_want) | refine U_ar rfl rfl rfl (wrap_k (by simp only [wrapOk]; omega)) rfl ?_ | refine U_cv E rfl rfl rfl (wrap_k (by simp only [wrapOk]; omega)) rfl ?_ | refine U_pure E rfl rfl ?_ | refine T_exit rfl ?_ | refine U_guard rfl rfl ?_ | ((with_reducible refine Gd_skipT ?_ ?_); exact rfl) | ((with_reducible refine Gd_skipF ?_ ?_); exact rfl))
            refine U_load E rfl rfl rfl hq rfl ?_
            repeat (first | (with_reducible first | apply T_seq | apply T_region | apply U_nil | apply T_skip | apply T_block | apply T_inBlock | apply Gd_nt | apply Gd_nf | apply Gd_some | apply Gd_none | apply Gd_want) | refine U_ar rfl rfl rfl (wrap_k (by simp only [wrapOk]; omega)) rfl ?_ | refine U_cv E rfl rfl rfl (wrap_k (by simp only [wrapOk]; omega)) rfl ?_ | refine U_pure E rfl rfl ?_ | refine T_exit rfl ?_ | refine U_guard rfl rfl ?_ | ((with_reducible refine Gd_skipT ?_ ?_); exact rfl) | ((with_reducible refine Gd_skipF ?_ ?_); exact rfl))
            refine U_call rfl rfl (Tryd.call50 _) (cut15_c w5 G vs[i] l[i] bs[i] hap5 hpl) ?_
            rintro r w6 ⟨k6, h6⟩
            repeat (first | refine U_ar rfl rfl rfl (wrap_k (by simp only [wrapOk]; omega)) rfl ?_ | refine U_cv E rfl rfl rfl (wrap_k (by simp only [wrapOk]; omega)) rfl ?_ | refine U_pure E rfl rfl ?_)
            refine U_nil ?_
            refine T.less ?_ (f1 r w6 ⟨k6, by rw [List.getD_eq_getElem?_getD, List.getElem?_eq_getElem hik, Option.getD_some]; exact h6⟩)
            exact ⟨rfl, rfl, rfl, rfl, rfl, rfl, rfl, rfl, rfl, rfl, trivial⟩
          · repeat (first | (with_reducible first | apply T_seq | apply T_region | apply U_nil | apply T_skip | apply T_block | apply T_inBlock | apply Gd_nt | apply Gd_nf | apply Gd_some | apply Gd_none | apply Gd_want) | refine U_ar rfl rfl rfl (wrap_k (by simp only [wrapOk]; omega)) rfl ?_ | refine U_cv E rfl rfl rfl (wrap_k (by simp only [wrapOk]; omega)) rfl ?_ | refine U_pure E rfl rfl ?_ | refine T_exit rfl ?_ | refine U_guard rfl rfl ?_ | ((with_reducible refine Gd_skipT ?_ ?_); exact rfl) | ((with_reducible refine Gd_skipF ?_ ?_); exact rfl))
            refine U_call rfl rfl (Tryd.call50 _) (cut15_c w5 G vs[i] l[i] false hap5 hpl) ?_
            rintro r w6 ⟨k6, h6⟩
            repeat (first | refine U_ar rfl rfl rfl (wrap_k (by simp only [wrapOk]; omega)) rfl ?_ | refine U_cv E rfl rfl rfl (wrap_k (by simp only [wrapOk]; omega)) rfl ?_ | refine U_pure E rfl rfl ?_)
            refine U_nil ?_
            refine T.less ?_ (f1 r w6 ⟨k6, by rw [List.getD_eq_getElem?_getD, List.getElem?_eq_none (by omega), Option.getD_none]; exact h6⟩)
            exact ⟨rfl, rfl, rfl, rfl, rfl, rfl, rfl, rfl, rfl, rfl, trivial⟩
        case fin1 =>
          rintro vp w6 ⟨k6, hp6⟩
          (try dsimp only at hp6 ⊢)
          obtain ⟨p, hpe⟩ : ∃ p, cutP (l.getD i []) (bs.getD i false) = p := ⟨_, rfl⟩
          have hpl7 : p.length ≤ 700 := by rw [← hpe]; exact cutP_len _ _
          rw [hpe] at hp6
          have h6 := h5.same k6
          have hO6 := hO5.mv k6
          have k06 := k5.tr k6 (fun _ _ x => x)
          have s6 := k6.size
          have hp6' : BS w6 (fun b => fresh w5 b ∧ ¬ uni F Fr b) vp p := hp6.mono (fun b _ e => ⟨e, fun e2 => by have := hlt5 b e2; simp only [fresh] at e; omega⟩)
          repeat (first | (with_reducible first | apply T_seq | apply T_region | apply U_nil | apply T_skip | apply T_block | apply T_inBlock | apply Gd_nt | apply Gd_nf | apply Gd_some | apply Gd_none | apply Gd_want) | refine U_ar rfl rfl rfl (wrap_k (by simp only [wrapOk]; omega)) rfl ?_ | refine U_cv E rfl rfl rfl (wrap_k (by simp only [wrapOk]; omega)) rfl ?_ | refine U_pure E rfl rfl ?_ | refine T_exit rfl ?_ | refine U_guard rfl rfl ?_ | ((with_reducible refine Gd_skipT ?_ ?_); exact rfl) | ((with_reducible refine Gd_skipF ?_ ?_); exact rfl))
          refine U_run rfl rfl rfl (ro_bin (r := .int .u8 (a % 12 : Nat)) rfl rfl (by exact run_rem (y := 12) (by decide))) ?_
          repeat (first | (with_reducible first | apply T_seq | apply T_region | apply U_nil | apply T_skip | apply T_block | apply T_inBlock | apply Gd_nt | apply Gd_nf | apply Gd_some | apply Gd_none | apply Gd_want) | refine U_ar rfl rfl rfl (wrap_k (by simp only [wrapOk]; omega)) rfl ?_ | refine U_cv E rfl rfl rfl (wrap_k (by simp only [wrapOk]; omega)) rfl ?_ | refine U_pure E rfl rfl ?_ | refine T_exit rfl ?_ | refine U_guard rfl rfl ?_ | ((with_reducible refine Gd_skipT ?_ ?_); exact rfl) | ((with_reducible refine Gd_skipF ?_ ?_); exact rfl))
          (repeat (with_reducible refine T_seq ?_))
          refine T_viaK (α := (Nat → Prop) × (Nat → Prop) × Nat × Dr) (fun x => [(9, .pointer (some ⟨x.2.2.1, 0, none⟩)), (13, vp), (11, vo), (7, .pointer (some ⟨hdb, 0, none⟩)), (32, .int .i64 i), (31, .int .i64 vs.length), (30, .slice A vs.length c), (1, .slice B bs.length cb), (2, .int .u8 a)])
            (fun x w' => Kept none0 w w' ∧ (∀ b, uni x.1 x.2.1 b → w.heap.size ≤ b) ∧ RD w' x.1 x.2.1 hdb x.2.2.1 x.2.2.2 1 (goesL l bs i) ∧ x.2.2.2.l.length = 120 ∧ x.2.2.2.wait.length ≤ 1000 * i ∧ OS w' (fun b => fresh w b ∧ ¬ uni x.1 x.2.1 b) vo (goesL l bs i) ∧ BS w' (fun b => fresh w5 b ∧ ¬ uni x.1 x.2.1 b) vp p) ?fin2 ?go2
          case go2 =>
            intro kk f2
            refine T_condV rfl ?_
            refine Cnd_p (fun hag => ?_) (fun hag => ?_)
            · have hfs := flush_on h6
              unfold ptr at *
              repeat (first | (with_reducible first | apply T_seq | apply T_region | apply U_nil | apply T_skip | apply T_block | apply T_inBlock | apply Gd_nt | apply Gd_nf | apply Gd_some | apply Gd_none | apply Gd_want) | refine U_ar rfl rfl rfl (wrap_k (by simp only [wrapOk]; omega)) rfl ?_ | refine U_cv E rfl rfl rfl (wrap_k (by simp only [wrapOk]; omega)) rfl ?_ | refine U_pure E rfl rfl ?_ | refine T_exit rfl ?_ | refine U_guard rfl rfl ?_ | ((with_reducible refine Gd_skipT ?_ ?_); exact rfl) | ((with_reducible refine Gd_skipF ?_ ?_); exact rfl))
              refine U_call rfl rfl (Tryd.call51 _) (hfs) ?_
              rintro r w7 ⟨rfl, F7, D7, o7, h7, l7, q7, d7, v7⟩
              have k07 : Kept none0 w w7 := o7.done k06 hn5
              have hn7 := o7.newer k06.size hn5
              have hO7 := o7.osK hO6
              have hp7 := o7.slK hp6'
              have hop := open_on w7 F7 hdb D7 1 (goesL l bs i) h7.dm h7.on h7.ri (by rw [q7]; decide)
              unfold ptr at *
              repeat (first | (with_reducible first | apply T_seq | apply T_region | apply U_nil | apply T_skip | apply T_block | apply T_inBlock | apply Cnd_t | apply Cnd_f | apply Cnd_not | apply Cnd_some | apply Cnd_none | apply Gd_nt | apply Gd_nf | apply Gd_some | apply Gd_none | apply Gd_want) | refine U_ar rfl rfl rfl (wrap_k (by simp only [wrapOk]; omega)) rfl ?_ | refine U_cv E rfl rfl rfl (wrap_k (by simp only [wrapOk]; omega)) rfl ?_ | refine U_pure E rfl rfl ?_ | refine T_exit rfl ?_ | refine T_condV rfl ?_ | refine U_guard rfl rfl ?_ | ((with_reducible refine Gd_skipT ?_ ?_); exact rfl) | ((with_reducible refine Gd_skipF ?_ ?_); exact rfl))
              refine U_call rfl rfl (Tryd.call52 _) (hop) ?_
              rintro r w8 ⟨F8, Fr8, rb8, rfl, o8, h8, hFr8⟩
              have k08 : Kept none0 w w8 := o8.done k07 (fun b e => hn7 b (.inl e))
              have hn8 : ∀ b, uni F8 Fr8 b → w.heap.size ≤ b := fun b e => e.elim (o8.newer k07.size (fun b e => hn7 b (.inl e)) b) (fun e => Nat.le_trans k07.size (hFr8 b e))
              have hO8 : OS w8 (fun b => fresh w b ∧ ¬ uni F8 Fr8 b) vo (goesL l bs i) := (o8.osK (G := fresh w) (hO7.mono (fun b _ e => ⟨e.1.1, fun e2 => e.2 (.inl e2)⟩))).mono (fun b _ e => ⟨e.1.1, fun e2 => e2.elim e.2 (fun e3 => by have := hFr8 b e3; have := e.1.2; omega)⟩)
              have hp8 : BS w8 (fun b => fresh w5 b ∧ ¬ uni F8 Fr8 b) vp p := (o8.slK (G := fresh w5) (hp7.mono (fun b _ e => ⟨e.1.1, fun e2 => e.2 (.inl e2)⟩))).mono (fun b _ e => ⟨e.1.1, fun e2 => e2.elim e.2 (fun e3 => by have := hFr8 b e3; have := e.1.2; omega)⟩)
              repeat (first | (with_reducible first | apply T_seq | apply T_region | apply U_nil | apply T_skip | apply T_block | apply T_inBlock | apply Cnd_t | apply Cnd_f | apply Cnd_not | apply Cnd_some | apply Cnd_none | apply Gd_nt | apply Gd_nf | apply Gd_some | apply Gd_none | apply Gd_want) | refine U_ar rfl rfl rfl (wrap_k (by simp only [wrapOk]; omega)) rfl ?_ | refine U_cv E rfl rfl rfl (wrap_k (by simp only [wrapOk]; omega)) rfl ?_ | refine U_pure E rfl rfl ?_ | refine T_exit rfl ?_ | refine T_condV rfl ?_ | refine U_guard rfl rfl ?_ | ((with_reducible refine Gd_skipT ?_ ?_); exact rfl) | ((with_reducible refine Gd_skipF ?_ ?_); exact rfl))
              refine T.less ?_ (f2 (F8, Fr8, rb8, D7) w8 ⟨k08, hn8, h8, by dsimp only; omega, by dsimp only; rw [q7]; exact Nat.zero_le _, hO8, hp8⟩)
              exact ⟨rfl, rfl, rfl, rfl, rfl, rfl, rfl, rfl, rfl, trivial⟩
            · repeat (first | (with_reducible first | apply T_seq | apply T_region | apply U_nil | apply T_skip | apply T_block | apply T_inBlock | apply Gd_nt | apply Gd_nf | apply Gd_some | apply Gd_none | apply Gd_want) | refine U_ar rfl rfl rfl (wrap_k (by simp only [wrapOk]; omega)) rfl ?_ | refine U_cv E rfl rfl rfl (wrap_k (by simp only [wrapOk]; omega)) rfl ?_ | refine U_pure E rfl rfl ?_ | refine T_exit rfl ?_ | refine U_guard rfl rfl ?_ | ((with_reducible refine Gd_skipT ?_ ?_); exact rfl) | ((with_reducible refine Gd_skipF ?_ ?_); exact rfl))
              refine T.less ?_ (f2 (F, Fr, rb, D) w6 ⟨k06, hn5, h6, l5, q5, hO6, hp6'⟩)
              exact ⟨rfl, rfl, rfl, rfl, rfl, rfl, rfl, rfl, rfl, trivial⟩
          case fin2 =>
            rintro ⟨F8, Fr8, rb8, D8⟩ w8 ⟨k8, hn8, h8, l8, q8, hO8, hp8⟩
            dsimp only at hn8 h8 l8 q8 hO8 hp8 ⊢
            have hpg := goesL_pages l bs i
            have hz8 : hsz D8 = 59 := by rw [hsz, l8]
            have hp3 : pgs p.length ≤ 3 := by rw [← hpe]; exact pgs_cut _ _
            have hap8 := append_on vp p h8 (hp8.mono (fun b _ e => e.2)) (rec_ok (by decide) (by omega) (by omega)) (by omega) (by omega)
            unfold ptr at *
            repeat (first | (with_reducible first | apply T_seq | apply T_region | apply U_nil | apply T_skip | apply T_block | apply T_inBlock | apply Cnd_t | apply Cnd_f | apply Cnd_not | apply Cnd_some | apply Cnd_none | apply Gd_nt | apply Gd_nf | apply Gd_some | apply Gd_none | apply Gd_want) | refine U_ar rfl rfl rfl (wrap_k (by simp only [wrapOk]; omega)) rfl ?_ | refine U_cv E rfl rfl rfl (wrap_k (by simp only [wrapOk]; omega)) rfl ?_ | refine U_pure E rfl rfl ?_ | refine T_exit rfl ?_ | refine T_condV rfl ?_ | refine U_guard rfl rfl ?_ | ((with_reducible refine Gd_skipT ?_ ?_); exact rfl) | ((with_reducible refine Gd_skipF ?_ ?_); exact rfl))
            refine U_call rfl rfl (Tryd.call53 _) (hap8) ?_
            rintro r w9 ⟨rfl, F9, Fr9, D9, o9, h9, l9, q9⟩
            have k9 : Kept none0 w w9 := o9.done k8 hn8
            have hn9 := o9.newer k8.size hn8
            have hO9 : OS w9 (fun b => fresh w b ∧ ¬ uni F9 Fr9 b) vo (goesL l bs i) := (o9.osK hO8).mono (fun b _ e => ⟨e.1.1, e.2⟩)
            have hp9 : BS w9 (fun b => fresh w5 b ∧ ¬ uni F9 Fr9 b) vp p := (o9.slK hp8).mono (fun b _ e => ⟨e.1.1, e.2⟩)
            have hlt9 := h9.lt
            obtain ⟨us, o1, o2, o3⟩ := hO9
            have hown := o2.own
            have hown5 := hO5.own
            have s9 := k9.size
            repeat (first | (with_reducible first | apply T_seq | apply T_region | apply U_nil | apply T_skip | apply T_block | apply T_inBlock | apply Cnd_t | apply Cnd_f | apply Cnd_not | apply Cnd_some | apply Cnd_none | apply Gd_nt | apply Gd_nf | apply Gd_some | apply Gd_none | apply Gd_want) | refine U_ar rfl rfl rfl (wrap_k (by simp only [wrapOk]; omega)) rfl ?_ | refine U_cv E rfl rfl rfl (wrap_k (by simp only [wrapOk]; omega)) rfl ?_ | refine U_pure E rfl rfl ?_ | refine T_exit rfl ?_ | refine T_condV rfl ?_ | refine U_guard rfl rfl ?_ | ((with_reducible refine Gd_skipT ?_ ?_); exact rfl) | ((with_reducible refine Gd_skipF ?_ ?_); exact rfl))
            refine U_buildSlice (sz := 1) E rfl rfl rfl rfl rfl rfl rfl rfl (segs := [[vp]]) (by rw [List.map_cons, List.map_cons, bs_cells hp9]; rfl) (by simp) rfl ?_
            intro b10 w10 hn10
            refine U_append E (o2.mv hn10.kept (fun _ _ _ x => x)) (one_sl hn10.blk) (by intro u hu; rw [List.mem_singleton.1 hu]; exact bs_one hp9) rfl rfl rfl rfl rfl (by omega) (by omega) rfl ?_
            intro vo' w11 hr11 k11 _ hob
            have hO11 := OS.snoc (G := fun b => fresh w b ∧ ¬ uni F9 Fr9 b) (fun b e => ⟨by simp only [fresh]; omega, fun e2 => by have := hlt9 b e2; omega⟩) o1 o3 (hp9.mono (fun b _ e => ⟨⟨by have := e.1; simp only [fresh] at *; omega, e.2⟩, fun e2 => by have := hown5 b e2; have := e.1; simp only [fresh] at *; omega⟩)) hn10 hr11 k11 hob
            have h11 := (h9.same hn10.kept).mv k11 (fun b e e2 => (hown b e2).1.2 e)
            have k011 : Kept none0 w w11 := (k9.tr hn10.kept (fun _ _ x => x)).tr k11 (fun b hb e => by have := (hown b e).1.1; simp only [fresh] at this; omega)
            repeat (first | (with_reducible first | apply T_seq | apply T_region | apply U_nil | apply T_skip | apply T_block | apply T_inBlock | apply Cnd_t | apply Cnd_f | apply Cnd_not | apply Cnd_some | apply Cnd_none | apply Gd_nt | apply Gd_nf | apply Gd_some | apply Gd_none | apply Gd_want) | refine U_ar rfl rfl rfl (wrap_k (by simp only [wrapOk]; omega)) rfl ?_ | refine U_cv E rfl rfl rfl (wrap_k (by simp only [wrapOk]; omega)) rfl ?_ | refine U_pure E rfl rfl ?_ | refine T_exit rfl ?_ | refine T_condV rfl ?_ | refine U_guard rfl rfl ?_ | ((with_reducible refine Gd_skipT ?_ ?_); exact rfl) | ((with_reducible refine Gd_skipF ?_ ?_); exact rfl))
            refine T.less ?_ (ih (i + 1, (F9, Fr9, rb8, D9, vo'), w11) ⟨by omega, by omega, k011, hn9, by dsimp only; rw [goesL, hpe]; exact h11, by dsimp only; rw [l9]; exact l8, by dsimp only; omega, by dsimp only; rw [goesL, hpe]; exact hO11⟩ (by dsimp only; omega))
            exact ⟨rfl, rfl, rfl, rfl, rfl, rfl, rfl, rfl, trivial⟩
    · refine T_exit rfl ?_
      refine T.less ?_ hout
      exact ⟨rfl, rfl, rfl, trivial⟩
  case fin =>
    rintro ⟨F, Fr, rb, D, vo, L⟩ w5 ⟨k5, hn5, h5, hw5, hL, hO5⟩
    dsimp only at hn5 h5 hw5 hL hO5 ⊢
    have hop := open_on w5 F hdb D 1 L h5.dm h5.on h5.ri hw5
    unfold ptr at *
    repeat (first | (with_reducible first | apply T_seq | apply T_region | apply U_nil | apply T_skip | apply T_block | apply T_inBlock | apply Cnd_t | apply Cnd_f | apply Cnd_not | apply Cnd_some | apply Cnd_none | apply Gd_nt | apply Gd_nf | apply Gd_some | apply Gd_none | apply Gd_want) | refine U_ar rfl rfl rfl (wrap_k (by simp only [wrapOk]; omega)) rfl ?_ | refine U_cv E rfl rfl rfl (wrap_k (by simp only [wrapOk]; omega)) rfl ?_ | refine U_pure E rfl rfl ?_ | refine T_exit rfl ?_ | refine T_condV rfl ?_ | refine U_guard rfl rfl ?_ | refine U_guardU rfl rfl rfl ?_ | ((with_reducible refine Gd_skipT ?_ ?_); exact rfl) | ((with_reducible refine Gd_skipF ?_ ?_); exact rfl))
    refine U_call rfl rfl (Tryd.call52 _) (hop) ?_
    rintro r w6 ⟨F6, Fr6, rb6, rfl, o6, h6, hFr6⟩
    have hR6 := h5.rl.drum o6
    have k6 : Kept none0 w w6 := o6.done k5 (fun b e => hn5 b (.inl e))
    have hO6 := (o6.both h5.rl.lt).os hO5
    have hrc := records_c hR6
    unfold ptr at *
    repeat (first | (with_reducible first | apply T_seq | apply T_region | apply U_nil | apply T_skip | apply T_block | apply T_inBlock | apply Cnd_t | apply Cnd_f | apply Cnd_not | apply Cnd_some | apply Cnd_none | apply Gd_nt | apply Gd_nf | apply Gd_some | apply Gd_none | apply Gd_want) | refine U_ar rfl rfl rfl (wrap_k (by simp only [wrapOk]; omega)) rfl ?_ | refine U_cv E rfl rfl rfl (wrap_k (by simp only [wrapOk]; omega)) rfl ?_ | refine U_pure E rfl rfl ?_ | refine T_exit rfl ?_ | refine T_condV rfl ?_ | refine U_guard rfl rfl ?_ | refine U_guardU rfl rfl rfl ?_ | ((with_reducible refine Gd_skipT ?_ ?_); exact rfl) | ((with_reducible refine Gd_skipF ?_ ?_); exact rfl))
    refine U_call rfl rfl (Tryd.call55 _) (hrc) ?_
    rintro r w7 ⟨k7, hs7⟩
    have hS := fun W k => rsame_c W _ _ _ _ L L (hs7.mv (w' := W) (K := none0) k (fun _ _ _ x => x)) ((hO6.mv k7).mv (w' := W) k |>.rs (by omega))
    have hS7 := hS w7 (Kept.refl _ _)
    rw [decide_eq_true rfl] at hS7
    repeat (first | (with_reducible first | apply T_seq | apply T_region | apply U_nil | apply T_skip | apply T_block | apply T_inBlock | apply Cnd_t | apply Cnd_f | apply Cnd_not | apply Cnd_some | apply Cnd_none | apply Gd_nt | apply Gd_nf | apply Gd_some | apply Gd_none | apply Gd_want) | refine U_ar rfl rfl rfl (wrap_k (by simp only [wrapOk]; omega)) rfl ?_ | refine U_cv E rfl rfl rfl (wrap_k (by simp only [wrapOk]; omega)) rfl ?_ | refine U_pure E rfl rfl ?_ | refine T_exit rfl ?_ | refine T_condV rfl ?_ | refine U_guard rfl rfl ?_ | refine U_guardU rfl rfl rfl ?_ | ((with_reducible refine Gd_skipT ?_ ?_); exact rfl) | ((with_reducible refine Gd_skipF ?_ ?_); exact rfl))
    refine U_call rfl rfl (Tryd.call54 _) (hS7) ?_
    rintro r w8 ⟨rfl, k8⟩
    have h8 := (h6.same k7).same k8
    have hrc8 := records_c h8.rl
    unfold ptr at *
    repeat (first | (with_reducible first | apply T_seq | apply T_region | apply U_nil | apply T_skip | apply T_block | apply T_inBlock | apply Cnd_t | apply Cnd_f | apply Cnd_not | apply Cnd_some | apply Cnd_none | apply Gd_nt | apply Gd_nf | apply Gd_some | apply Gd_none | apply Gd_want) | refine U_ar rfl rfl rfl (wrap_k (by simp only [wrapOk]; omega)) rfl ?_ | refine U_cv E rfl rfl rfl (wrap_k (by simp only [wrapOk]; omega)) rfl ?_ | refine U_pure E rfl rfl ?_ | refine T_exit rfl ?_ | refine T_condV rfl ?_ | refine U_guard rfl rfl ?_ | refine U_guardU rfl rfl rfl ?_ | ((with_reducible refine Gd_skipT ?_ ?_); exact rfl) | ((with_reducible refine Gd_skipF ?_ ?_); exact rfl))
    refine U_call rfl rfl (Tryd.call55 _) (hrc8) ?_
    rintro r w9 ⟨k9, hs9⟩
    have hS9 := rsame_c w9 _ _ _ _ L L hs9 ((((hO6.mv k7).mv k8).mv k9).rs (by omega))
    rw [decide_eq_true rfl] at hS9
    repeat (first | (with_reducible first | apply T_seq | apply T_region | apply U_nil | apply T_skip | apply T_block | apply T_inBlock | apply Cnd_t | apply Cnd_f | apply Cnd_not | apply Cnd_some | apply Cnd_none | apply Gd_nt | apply Gd_nf | apply Gd_some | apply Gd_none | apply Gd_want) | refine U_ar rfl rfl rfl (wrap_k (by simp only [wrapOk]; omega)) rfl ?_ | refine U_cv E rfl rfl rfl (wrap_k (by simp only [wrapOk]; omega)) rfl ?_ | refine U_pure E rfl rfl ?_ | refine T_exit rfl ?_ | refine T_condV rfl ?_ | refine U_guard rfl rfl ?_ | refine U_guardU rfl rfl rfl ?_ | ((with_reducible refine Gd_skipT ?_ ?_); exact rfl) | ((with_reducible refine Gd_skipF ?_ ?_); exact rfl))
    refine U_call rfl rfl (Tryd.call54 _) (hS9) ?_
    rintro r w10 ⟨rfl, k10⟩
    have hg10 := gen_c ((h8.same k9).same k10).rl
    unfold ptr at *
    repeat (first | (with_reducible first | apply T_seq | apply T_region | apply U_nil | apply T_skip | apply T_block | apply T_inBlock | apply Cnd_t | apply Cnd_f | apply Cnd_not | apply Cnd_some | apply Cnd_none | apply Gd_nt | apply Gd_nf | apply Gd_some | apply Gd_none | apply Gd_want) | refine U_ar rfl rfl rfl (wrap_k (by simp only [wrapOk]; omega)) rfl ?_ | refine U_cv E rfl rfl rfl (wrap_k (by simp only [wrapOk]; omega)) rfl ?_ | refine U_pure E rfl rfl ?_ | refine T_exit rfl ?_ | refine T_condV rfl ?_ | refine U_guard rfl rfl ?_ | refine U_guardU rfl rfl rfl ?_ | ((with_reducible refine Gd_skipT ?_ ?_); exact rfl) | ((with_reducible refine Gd_skipF ?_ ?_); exact rfl))
    refine U_call rfl rfl (Tryd.call56 _) (hg10) ?_
    rintro r w11 ⟨rfl, rfl⟩
    repeat (first | (with_reducible first | apply T_seq | apply T_region | apply U_nil | apply T_skip | apply T_block | apply T_inBlock | apply Cnd_t | apply Cnd_f | apply Cnd_not | apply Cnd_some | apply Cnd_none | apply Gd_nt | apply Gd_nf | apply Gd_some | apply Gd_none | apply Gd_want) | refine U_ar rfl rfl rfl (wrap_k (by simp only [wrapOk]; omega)) rfl ?_ | refine U_cv E rfl rfl rfl (wrap_k (by simp only [wrapOk]; omega)) rfl ?_ | refine U_pure E rfl rfl ?_ | refine T_exit rfl ?_ | refine T_condV rfl ?_ | refine U_guard rfl rfl ?_ | refine U_guardU rfl rfl rfl ?_ | ((with_reducible refine Gd_skipT ?_ ?_); exact rfl) | ((with_reducible refine Gd_skipF ?_ ?_); exact rfl))
    exact T_ret1 Tryd.func12 rfl rfl ⟨_, rfl, rfl, (((k6.tr k7 (fun _ _ x => x)).tr k8 (fun _ _ x => x)).tr k9 (fun _ _ x => x)).tr k10 (fun _ _ x => x)⟩
end Go.Proofs.YtoefhdaenaiomaaDoor
