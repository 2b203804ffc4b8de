/- ReelFull: the walk. -/
import Derived.Test.YtoefhdaenaiomaaDoorPk14
set_option linter.unusedVariables false
set_option linter.unusedSimpArgs false
namespace Go.Proofs.YtoefhdaenaiomaaDoor
open Go
set_option maxRecDepth 20000

theorem allP_rep (g : Nat) (p : List UInt8) : ∀ (n i : Nat), (allP g i (List.replicate n p)).length = n * pgs p.length
  | 0, i => by simp [allP]
  | n + 1, i => by rw [List.replicate_succ, allP, List.length_append, lay_len, allP_rep g p n (i + 1), Nat.succ_mul, Nat.add_comm]
theorem rep_snoc {α : Type} (n : Nat) (p : α) : List.replicate n p ++ [p] = List.replicate (n + 1) p := by
  rw [List.replicate_succ']
theorem enc_fill (i N : Nat) (b : UInt8) (h : i < N) : (encBs (List.replicate i b ++ zeros (N - i))).set i (encB b) = encBs (List.replicate (i + 1) b ++ zeros (N - (i + 1))) := by
  rw [← encBs_set]
  congr 1
  rw [List.set_append_right _ _ (by simp), List.length_replicate, Nat.sub_self]
  obtain ⟨d, hd⟩ : ∃ d, N - i = d + 1 := ⟨N - i - 1, by omega⟩
  rw [hd, show N - (i + 1) = d by omega, List.replicate_succ', List.append_assoc]
  rfl

set_option maxHeartbeats 8000000 in
theorem full_law (w : World) (a sz b : Nat) (ha : a < 256) (hsz0 : sz < 65536) (hb : b < 256) (hL : Laid w) :
    Calls Tryd.prog 17 [.int .u8 a, .int .u16 sz, .int .u8 b].toArray w (Ret fun r w' => r = .bool true ∧ Kept none0 w w') := by
  obtain ⟨bb, hbb⟩ : ∃ bb : UInt8, Value.int .u8 (b : Int) = encB bb := ⟨UInt8.ofNat b, by simp [encB, Nat.mod_eq_of_lt hb]⟩
  rw [hbb]
  obtain ⟨Hf, hHf⟩ : ∃ Hf : Nat, 2 + a % 10 = Hf := ⟨_, rfl⟩
  obtain ⟨N, hN⟩ : ∃ N : Nat, sz % 900 = N := ⟨_, rfl⟩
  refine calls_T Tryd.func17 rfl rfl rfl ?_
  repeat (first | (with_reducible first | apply T_seq | apply T_region | apply U_nil | apply T_skip | apply T_block | apply T_inBlock | apply Cnd_t | apply Cnd_f | apply Cnd_not | apply Cnd_some | apply Cnd_none | apply Gd_nt | apply Gd_nf | apply Gd_some | apply Gd_none | apply Gd_want) | refine U_ar rfl rfl rfl (wrap_k (by simp only [wrapOk]; omega)) rfl ?_ | refine U_cv E rfl rfl rfl (wrap_k (by simp only [wrapOk]; omega)) rfl ?_ | refine U_pure E rfl rfl ?_ | refine T_exit rfl ?_ | refine T_condV rfl ?_ | refine U_guard rfl rfl ?_ | ((with_reducible refine Gd_skipT ?_ ?_); exact rfl) | ((with_reducible refine Gd_skipF ?_ ?_); exact rfl))
  refine U_call rfl rfl (Tryd.call48 _) (awake15_c w) ?_
  rintro r w1 ⟨rfl, k1⟩
  repeat (first | (with_reducible first | apply T_seq | apply T_region | apply U_nil | apply T_skip | apply T_block | apply T_inBlock | apply Cnd_t | apply Cnd_f | apply Cnd_not | apply Cnd_some | apply Cnd_none | apply Gd_nt | apply Gd_nf | apply Gd_some | apply Gd_none | apply Gd_want) | refine U_ar rfl rfl rfl (wrap_k (by simp only [wrapOk]; omega)) rfl ?_ | refine U_cv E rfl rfl rfl (wrap_k (by simp only [wrapOk]; omega)) rfl ?_ | refine U_pure E rfl rfl ?_ | refine T_exit rfl ?_ | refine T_condV rfl ?_ | refine U_guard rfl rfl ?_ | ((with_reducible refine Gd_skipT ?_ ?_); exact rfl) | ((with_reducible refine Gd_skipF ?_ ?_); exact rfl))
  refine U_run rfl rfl rfl (ro_bin (r := .int .u8 (a % 10 : Nat)) rfl rfl (by exact run_rem (y := 10) (by decide))) ?_
  repeat (first | (with_reducible first | apply T_seq | apply T_region | apply U_nil | apply T_skip | apply T_block | apply T_inBlock | apply Cnd_t | apply Cnd_f | apply Cnd_not | apply Cnd_some | apply Cnd_none | apply Gd_nt | apply Gd_nf | apply Gd_some | apply Gd_none | apply Gd_want) | refine U_ar rfl rfl rfl (wrap_k (by simp only [wrapOk]; omega)) rfl ?_ | refine U_cv E rfl rfl rfl (wrap_k (by simp only [wrapOk]; omega)) rfl ?_ | refine U_pure E rfl rfl ?_ | refine T_exit rfl ?_ | refine T_condV rfl ?_ | refine U_guard rfl rfl ?_ | ((with_reducible refine Gd_skipT ?_ ?_); exact rfl) | ((with_reducible refine Gd_skipF ?_ ?_); exact rfl))
  refine U_call rfl rfl (Tryd.call24 _) (new_c w1 (2 + 2 * (2 + ((a % 10 : Nat) : Int))) (by omega)) ?_
  rintro r w2 ⟨k2, hdb, rfl, hD2⟩
  have hD2 := hD2.dm
  rw [show ((2 : Int) + 2 * (2 + ((a % 10 : Nat) : Int))).toNat = 2 + 2 * Hf by omega] at hD2
  have k02 : Kept none0 w w2 := k1.tr k2 (fun _ _ x => x)
  unfold ptr at *
  repeat (first | (with_reducible first | apply T_seq | apply T_region | apply U_nil | apply T_skip | apply T_block | apply T_inBlock | apply Cnd_t | apply Cnd_f | apply Cnd_not | apply Cnd_some | apply Cnd_none | apply Gd_nt | apply Gd_nf | apply Gd_some | apply Gd_none | apply Gd_want) | refine U_ar rfl rfl rfl (wrap_k (by simp only [wrapOk]; omega)) rfl ?_ | refine U_cv E rfl rfl rfl (wrap_k (by simp only [wrapOk]; omega)) rfl ?_ | refine U_pure E rfl rfl ?_ | refine T_exit rfl ?_ | refine T_condV rfl ?_ | refine U_guard rfl rfl ?_ | ((with_reducible refine Gd_skipT ?_ ?_); exact rfl) | ((with_reducible refine Gd_skipF ?_ ?_); exact rfl))
  refine U_run rfl rfl rfl (ro_bin (r := .int .u16 (N : Nat)) rfl rfl (by rw [← hN]; exact run_rem (y := 900) (by decide))) ?_
  repeat (first | (with_reducible first | apply T_seq | apply T_region | apply U_nil | apply T_skip | apply T_block | apply T_inBlock | apply Cnd_t | apply Cnd_f | apply Cnd_not | apply Cnd_some | apply Cnd_none | apply Gd_nt | apply Gd_nf | apply Gd_some | apply Gd_none | apply Gd_want) | refine U_ar rfl rfl rfl (wrap_k (by simp only [wrapOk]; omega)) rfl ?_ | refine U_cv E rfl rfl rfl (wrap_k (by simp only [wrapOk]; omega)) rfl ?_ | refine U_pure E rfl rfl ?_ | refine T_exit rfl ?_ | refine T_condV rfl ?_ | refine U_guard rfl rfl ?_ | ((with_reducible refine Gd_skipT ?_ ?_); exact rfl) | ((with_reducible refine Gd_skipF ?_ ?_); exact rfl))
  refine U_make E (N := N) rfl rfl (zs := [.int .u8 0]) rfl rfl rfl (by omega) (by omega) rfl rfl rfl ?_
  intro bm w3 hn3
  rw [flat_single, ← encBs_zeros] at hn3
  have hbm := hn3.at_
  have k03 : Kept none0 w w3 := k02.tr hn3.kept (fun _ _ x => x)
  have s02 := k02.size
  repeat (first | (with_reducible first | apply T_seq | apply T_region | apply U_nil | apply T_skip | apply T_block | apply T_inBlock | apply Cnd_t | apply Cnd_f | apply Cnd_not | apply Cnd_some | apply Cnd_none | apply Gd_nt | apply Gd_nf | apply Gd_some | apply Gd_none | apply Gd_want) | refine U_ar rfl rfl rfl (wrap_k (by simp only [wrapOk]; omega)) rfl ?_ | refine U_cv E rfl rfl rfl (wrap_k (by simp only [wrapOk]; omega)) rfl ?_ | refine U_pure E rfl rfl ?_ | refine T_exit rfl ?_ | refine T_condV rfl ?_ | refine U_guard rfl rfl ?_ | ((with_reducible refine Gd_skipT ?_ ?_); exact rfl) | ((with_reducible refine Gd_skipF ?_ ?_); exact rfl))
  refine T_loop (α := Nat × World) (fun x => [(34, .int .i64 x.1), (33, .int .i64 N), (10, .slice (some ⟨bm, 0, none⟩) N N), (2, encB bb), (7, .int .i64 (2 + ((a % 10 : Nat) : Int))), (8, .pointer (some ⟨hdb, 0, none⟩))]) (fun x => x.2) (fun x => N - x.1)
    (fun x => x.1 ≤ N ∧ Kept (fun j => j = bm) w3 x.2 ∧ Blk x.2 bm (encBs (List.replicate x.1 bb ++ zeros (N - x.1))) 5) (0, w3) ⟨Nat.zero_le _, Kept.refl _ _, hn3.blk⟩ ?hsub rfl ?_
  case hsub => exact ⟨rfl, rfl, rfl, rfl, rfl, rfl, trivial⟩
  rintro ⟨i, w4⟩ ⟨hi, k4, hbl⟩ ih
  dsimp only at hi k4 hbl ⊢
  repeat (first | (with_reducible first | apply T_seq | apply T_region | apply U_nil | apply T_skip | apply T_block | apply T_inBlock | apply Cnd_t | apply Cnd_f | apply Cnd_not | apply Cnd_some | apply Cnd_none | apply Gd_nt | apply Gd_nf | apply Gd_some | apply Gd_none | apply Gd_want) | refine U_ar rfl rfl rfl (wrap_k (by simp only [wrapOk]; omega)) rfl ?_ | refine U_cv E rfl rfl rfl (wrap_k (by simp only [wrapOk]; omega)) rfl ?_ | refine U_pure E rfl rfl ?_ | refine T_exit rfl ?_ | refine T_condV rfl ?_ | refine U_guard rfl rfl ?_ | ((with_reducible refine Gd_skipT ?_ ?_); exact rfl) | ((with_reducible refine Gd_skipF ?_ ?_); exact rfl))
  refine Cnd_p (fun hlt => ?_) (fun hlt => ?_)
  · repeat (first | (with_reducible first | apply T_seq | apply T_region | apply U_nil | apply T_skip | apply T_block | apply T_inBlock | apply Cnd_t | apply Cnd_f | apply Cnd_not | apply Cnd_some | apply Cnd_none | apply Gd_nt | apply Gd_nf | apply Gd_some | apply Gd_none | apply Gd_want) | refine U_ar rfl rfl rfl (wrap_k (by simp only [wrapOk]; omega)) rfl ?_ | refine U_cv E rfl rfl rfl (wrap_k (by simp only [wrapOk]; omega)) rfl ?_ | refine U_pure E rfl rfl ?_ | refine T_exit rfl ?_ | refine T_condV rfl ?_ | refine U_guard rfl rfl ?_ | ((with_reducible refine Gd_skipT ?_ ?_); exact rfl) | ((with_reducible refine Gd_skipF ?_ ?_); exact rfl))
    refine U_indexS E rfl rfl rfl rfl (by omega) (by omega) (idx1 _) rfl ?_
    refine U_store E (hbl) rfl rfl rfl (by rw [encBs_len, List.length_append, List.length_replicate, zeros_len]; omega) rfl ?_
    intro w5 hu
    have hu := hu
    rw [enc_fill i N bb (by omega)] at hu
    repeat (first | (with_reducible first | apply T_seq | apply T_region | apply U_nil | apply T_skip | apply T_block | apply T_inBlock | apply Cnd_t | apply Cnd_f | apply Cnd_not | apply Cnd_some | apply Cnd_none | apply Gd_nt | apply Gd_nf | apply Gd_some | apply Gd_none | apply Gd_want) | refine U_ar rfl rfl rfl (wrap_k (by simp only [wrapOk]; omega)) rfl ?_ | refine U_cv E rfl rfl rfl (wrap_k (by simp only [wrapOk]; omega)) rfl ?_ | refine U_pure E rfl rfl ?_ | refine T_exit rfl ?_ | refine T_condV rfl ?_ | refine U_guard rfl rfl ?_ | ((with_reducible refine Gd_skipT ?_ ?_); exact rfl) | ((with_reducible refine Gd_skipF ?_ ?_); exact rfl))
    refine T.less ?_ (ih (i + 1, w5) ⟨by omega, k4.tr hu.kept (fun _ _ x => x), hu.blk⟩ (by dsimp only; omega))
    exact ⟨rfl, rfl, rfl, rfl, rfl, rfl, trivial⟩
  · have hiN : i = N := by omega
    subst hiN
    clear ih
    rw [Nat.sub_self, show zeros 0 = [] from rfl, List.append_nil] at hbl
    obtain ⟨P, hP⟩ : ∃ P, List.replicate i bb = P := ⟨_, rfl⟩
    have hPl : P.length = i := by rw [← hP, List.length_replicate]
    rw [hP] at hbl
    have k04 : Kept none0 w w4 := k03.tr k4 (fun j hj (e : j = bm) => by omega)
    have hD4 := (hD2.same hn3.kept).mv k4 (fun b e (e2 : b = bm) => by have := e.2; omega)
    have hbs : BS w4 (fun j => j = bm) (.slice (some ⟨bm, 0, none⟩) i i) P := ⟨by rw [hPl]; omega, by rw [encBs_len]; omega, _, i, by rw [hPl], by omega, .inr ⟨bm, 0, rfl, rfl, hbl.lt, hbl.whole⟩⟩
    obtain ⟨k, hk⟩ : ∃ k, pgs P.length = k := ⟨_, rfl⟩
    have hk1 : 1 ≤ k := by rw [← hk]; exact pgs_pos _
    have hk4 : k ≤ 4 := by rw [← hk]; unfold pgs; omega
    have hpg := rpages_c w4 i (by omega)
    rw [show pgs i = k by rw [← hPl, hk]] at hpg
    have hzD : hsz (drNew (2 + 2 * Hf)) = Hf := by rw [drNew_hsz]; omega
    repeat (first | (with_reducible first | apply T_seq | apply T_region | apply U_nil | apply T_skip | apply T_block | apply T_inBlock | apply Cnd_t | apply Cnd_f | apply Cnd_not | apply Cnd_some | apply Cnd_none | apply Gd_nt | apply Gd_nf | apply Gd_some | apply Gd_none | apply Gd_want) | refine U_ar rfl rfl rfl (wrap_k (by simp only [wrapOk]; omega)) rfl ?_ | refine U_cv E rfl rfl rfl (wrap_k (by simp only [wrapOk]; omega)) rfl ?_ | refine U_pure E rfl rfl ?_ | refine T_exit rfl ?_ | refine T_condV rfl ?_ | refine U_guard rfl rfl ?_ | ((with_reducible refine Gd_skipT ?_ ?_); exact rfl) | ((with_reducible refine Gd_skipF ?_ ?_); exact rfl))
    refine U_call rfl rfl (Tryd.call63 _) (hpg) ?_
    rintro r w5 ⟨rfl, rfl⟩
    have hLaid := hL.mv k04 (fun x => x)
    by_cases hfit : k ≤ Hf
    · obtain ⟨q, hq⟩ : ∃ q, Hf / k = q := ⟨_, rfl⟩
      have hqk : q * k ≤ Hf ∧ Hf < q * k + k ∧ Hf % k = Hf - q * k ∧ 1 ≤ q ∧ q ≤ Hf := by
        rcases (show k = 1 ∨ k = 2 ∨ k = 3 ∨ k = 4 by omega) with h | h | h | h <;> subst h <;> omega
      have hmk := make_on w5 _ hdb _ (.slice (some ⟨bm, 0, none⟩) i i) P hD4 (drNew_on _) (by rw [drNew_len]; omega) (hbs.mono (fun b _ (e : b = bm) e2 => by have := e2.2; omega)) (rec_ok (by decide) (by decide) (by omega)) (by rw [hk, hzD]; exact hfit) (by simp [drNew])
      unfold ptr at *
      repeat (first | (with_reducible first | apply T_seq | apply T_region | apply U_nil | apply T_skip | apply T_block | apply T_inBlock | apply Cnd_t | apply Cnd_f | apply Cnd_not | apply Cnd_some | apply Cnd_none | apply Gd_nt | apply Gd_nf | apply Gd_some | apply Gd_none | apply Gd_want) | refine U_ar rfl rfl rfl (wrap_k (by simp only [wrapOk]; omega)) rfl ?_ | refine U_cv E rfl rfl rfl (wrap_k (by simp only [wrapOk]; omega)) rfl ?_ | refine U_pure E rfl rfl ?_ | refine T_exit rfl ?_ | refine T_condV rfl ?_ | refine U_guard rfl rfl ?_ | ((with_reducible refine Gd_skipT ?_ ?_); exact rfl) | ((with_reducible refine Gd_skipF ?_ ?_); exact rfl))
      refine U_call rfl rfl (Tryd.call49 _) (hmk) ?_
      rintro r w6 ⟨F6, Fr6, rb, D6, rfl, o6, h6, hFr6, l6, q6, v6⟩
      rw [drNew_len] at l6
      have hF0 : ∀ b, (w1.heap.size ≤ b ∧ b < w2.heap.size) → w.heap.size ≤ b := fun b e => by have := k1.size; have := e.1; omega
      have k06 : Kept none0 w w6 := o6.done k04 hF0
      have hn6 : ∀ b, uni F6 Fr6 b → w.heap.size ≤ b := fun b e => e.elim (o6.newer k04.size hF0 b) (fun e => Nat.le_trans k04.size (hFr6 b e))
      have hbs6 : BS w6 (fun b => ¬ uni F6 Fr6 b) (.slice (some ⟨bm, 0, none⟩) i i) P := ((o6.slK (G := fun _ => True) (hbs.mono (fun b _ (e : b = bm) => ⟨trivial, fun e2 => by have := e2.2; omega⟩))).mono (fun b _ e e2 => e2.elim e.2 (fun e3 => by have := hFr6 b e3; have := e.1.2; omega)))
      repeat (first | (with_reducible first | apply T_seq | apply T_region | apply U_nil | apply T_skip | apply T_block | apply T_inBlock | apply Cnd_t | apply Cnd_f | apply Cnd_not | apply Cnd_some | apply Cnd_none | apply Gd_nt | apply Gd_nf | apply Gd_some | apply Gd_none | apply Gd_want) | refine U_ar rfl rfl rfl (wrap_k (by simp only [wrapOk]; omega)) rfl ?_ | refine U_cv E rfl rfl rfl (wrap_k (by simp only [wrapOk]; omega)) rfl ?_ | refine U_pure E rfl rfl ?_ | refine T_exit rfl ?_ | refine T_condV rfl ?_ | refine U_guard rfl rfl ?_ | ((with_reducible refine Gd_skipT ?_ ?_); exact rfl) | ((with_reducible refine Gd_skipF ?_ ?_); exact rfl))
      refine Cnd_p (fun hgt => ?_) (fun hgt => ?_)
      · exfalso; omega
      · repeat (first | (with_reducible first | apply T_seq | apply T_region | apply U_nil | apply T_skip | apply T_block | apply T_inBlock | apply Cnd_t | apply Cnd_f | apply Cnd_not | apply Cnd_some | apply Cnd_none | apply Gd_nt | apply Gd_nf | apply Gd_some | apply Gd_none | apply Gd_want) | refine U_ar rfl rfl rfl (wrap_k (by simp only [wrapOk]; omega)) rfl ?_ | refine U_cv E rfl rfl rfl (wrap_k (by simp only [wrapOk]; omega)) rfl ?_ | refine U_pure E rfl rfl ?_ | refine T_exit rfl ?_ | refine T_condV rfl ?_ | refine U_guard rfl rfl ?_ | ((with_reducible refine Gd_skipT ?_ ?_); exact rfl) | ((with_reducible refine Gd_skipF ?_ ?_); exact rfl))
        refine U_run rfl rfl rfl (ro_bin (r := .int .i64 (q : Nat)) rfl rfl (by rw [show (2 : Int) + ((a % 10 : Nat) : Int) = (Hf : Int) by omega, ← hq]; exact run_quo (y := k) (by omega) (wrap_i64 (by omega)))) ?_
        repeat (first | (with_reducible first | apply T_seq | apply T_region | apply U_nil | apply T_skip | apply T_block | apply T_inBlock | apply Cnd_t | apply Cnd_f | apply Cnd_not | apply Cnd_some | apply Cnd_none | apply Gd_nt | apply Gd_nf | apply Gd_some | apply Gd_none | apply Gd_want) | refine U_ar rfl rfl rfl (wrap_k (by simp only [wrapOk]; omega)) rfl ?_ | refine U_cv E rfl rfl rfl (wrap_k (by simp only [wrapOk]; omega)) rfl ?_ | refine U_pure E rfl rfl ?_ | refine T_exit rfl ?_ | refine T_condV rfl ?_ | refine U_guard rfl rfl ?_ | ((with_reducible refine Gd_skipT ?_ ?_); exact rfl) | ((with_reducible refine Gd_skipF ?_ ?_); exact rfl))
        refine T_loop (α := Nat × ((Nat → Prop) × (Nat → Prop) × Dr) × World) (fun x => [(72, .int .i64 x.1), (71, .int .i64 ((q : Int) - 1)), (13, .pointer (some ⟨rb, 0, none⟩)), (10, .slice (some ⟨bm, 0, none⟩) i i), (8, .pointer (some ⟨hdb, 0, none⟩)), (7, .int .i64 (2 + ((a % 10 : Nat) : Int))), (12, .int .i64 (k : Nat))]) (fun x => x.2.2) (fun x => q - x.1)
          (fun x => x.1 + 1 ≤ q ∧ Kept none0 w x.2.2 ∧ (∀ b, uni x.2.1.1 x.2.1.2.1 b → w.heap.size ≤ b) ∧ RD x.2.2 x.2.1.1 x.2.1.2.1 hdb rb x.2.1.2.2 1 (List.replicate (x.1 + 1) P) ∧ x.2.1.2.2.l.length = 2 + 2 * Hf ∧ x.2.1.2.2.wait.length ≤ 1000 * x.1 ∧ BS x.2.2 (fun b => ¬ uni x.2.1.1 x.2.1.2.1 b) (.slice (some ⟨bm, 0, none⟩) i i) P)
          (0, (F6, Fr6, D6), w6) ⟨by omega, k06, hn6, h6, l6, by rw [q6]; exact Nat.zero_le _, hbs6⟩ ?hsub2 rfl ?_
        case hsub2 => exact ⟨rfl, rfl, rfl, rfl, rfl, rfl, rfl, trivial⟩
        rintro ⟨j, ⟨F7, Fr7, D7⟩, w7⟩ ⟨hj, k7, hn7, h7, l7, q7, hbs7⟩ ih
        dsimp only at hj k7 hn7 h7 l7 q7 hbs7 ⊢
        have hz7 : hsz D7 = Hf := by rw [hsz, l7]; omega
        have hA7 : (allP 1 0 (List.replicate (j + 1) P)).length = (j + 1) * k := by rw [allP_rep, hk]
        have hL7 : (List.replicate (j + 1) P).length = j + 1 := List.length_replicate
        repeat (first | (with_reducible first | apply T_seq | apply T_region | apply U_nil | apply T_skip | apply T_block | apply T_inBlock | apply Cnd_t | apply Cnd_f | apply Cnd_not | apply Cnd_some | apply Cnd_none | apply Gd_nt | apply Gd_nf | apply Gd_some | apply Gd_none | apply Gd_want) | refine U_ar rfl rfl rfl (wrap_k (by simp only [wrapOk]; omega)) rfl ?_ | refine U_cv E rfl rfl rfl (wrap_k (by simp only [wrapOk]; omega)) rfl ?_ | refine U_pure E rfl rfl ?_ | refine T_exit rfl ?_ | refine T_condV rfl ?_ | refine U_guard rfl rfl ?_ | ((with_reducible refine Gd_skipT ?_ ?_); exact rfl) | ((with_reducible refine Gd_skipF ?_ ?_); exact rfl))
        refine Cnd_p (fun hjlt => ?_) (fun hjlt => ?_)
        · have hroom : (j + 1) * k + k ≤ Hf := by
            rcases (show k = 1 ∨ k = 2 ∨ k = 3 ∨ k = 4 by omega) with h | h | h | h <;> rw [h] at hqk ⊢ <;> omega
          have hap := append_on _ P h7 hbs7 (rec_ok (by decide) (by omega) (by omega)) (by omega) (by omega)
          rw [rep_snoc] at hap
          unfold ptr at *
          repeat (first | (with_reducible first | apply T_seq | apply T_region | apply U_nil | apply T_skip | apply T_block | apply T_inBlock | apply Cnd_t | apply Cnd_f | apply Cnd_not | apply Cnd_some | apply Cnd_none | apply Gd_nt | apply Gd_nf | apply Gd_some | apply Gd_none | apply Gd_want) | refine U_ar rfl rfl rfl (wrap_k (by simp only [wrapOk]; omega)) rfl ?_ | refine U_cv E rfl rfl rfl (wrap_k (by simp only [wrapOk]; omega)) rfl ?_ | refine U_pure E rfl rfl ?_ | refine T_exit rfl ?_ | refine T_condV rfl ?_ | refine U_guard rfl rfl ?_ | ((with_reducible refine Gd_skipT ?_ ?_); exact rfl) | ((with_reducible refine Gd_skipF ?_ ?_); exact rfl))
          refine U_call rfl rfl (Tryd.call53 _) (hap) ?_
          rintro r w8 ⟨rfl, F8, Fr8, D8, o8, h8, l8, q8⟩
          repeat (first | (with_reducible first | apply T_seq | apply T_region | apply U_nil | apply T_skip | apply T_block | apply T_inBlock | apply Cnd_t | apply Cnd_f | apply Cnd_not | apply Cnd_some | apply Cnd_none | apply Gd_nt | apply Gd_nf | apply Gd_some | apply Gd_none | apply Gd_want) | refine U_ar rfl rfl rfl (wrap_k (by simp only [wrapOk]; omega)) rfl ?_ | refine U_cv E rfl rfl rfl (wrap_k (by simp only [wrapOk]; omega)) rfl ?_ | refine U_pure E rfl rfl ?_ | refine T_exit rfl ?_ | refine T_condV rfl ?_ | refine U_guard rfl rfl ?_ | ((with_reducible refine Gd_skipT ?_ ?_); exact rfl) | ((with_reducible refine Gd_skipF ?_ ?_); exact rfl))
          refine T.less ?_ (ih (j + 1, (F8, Fr8, D8), w8) ⟨by omega, o8.done k7 hn7, o8.newer k7.size hn7, h8, by dsimp only; rw [l8]; exact l7, by dsimp only; omega, o8.sl hbs7⟩ (by dsimp only; omega))
          exact ⟨rfl, rfl, rfl, rfl, rfl, rfl, rfl, trivial⟩
        · have hjq : j + 1 = q := by omega
          rw [hjq] at hA7 hL7 h7
          clear ih
          repeat (first | (with_reducible first | apply T_seq | apply T_region | apply U_nil | apply T_skip | apply T_block | apply T_inBlock | apply Cnd_t | apply Cnd_f | apply Cnd_not | apply Cnd_some | apply Cnd_none | apply Gd_nt | apply Gd_nf | apply Gd_some | apply Gd_none | apply Gd_want) | refine U_ar rfl rfl rfl (wrap_k (by simp only [wrapOk]; omega)) rfl ?_ | refine U_cv E rfl rfl rfl (wrap_k (by simp only [wrapOk]; omega)) rfl ?_ | refine U_pure E rfl rfl ?_ | refine T_exit rfl ?_ | refine T_condV rfl ?_ | refine U_guard rfl rfl ?_ | ((with_reducible refine Gd_skipT ?_ ?_); exact rfl) | ((with_reducible refine Gd_skipF ?_ ?_); exact rfl))
          refine U_call rfl rfl (Tryd.call39 _) (ret_of (dirty_c w7 F7 hdb D7 h7.dm.isD)) ?_
          rintro r w8 ⟨rfl, rfl⟩
          repeat (first | (with_reducible first | apply T_seq | apply T_region | apply U_nil | apply T_skip | apply T_block | apply T_inBlock | apply Cnd_t | apply Cnd_f | apply Cnd_not | apply Cnd_some | apply Cnd_none | apply Gd_nt | apply Gd_nf | apply Gd_some | apply Gd_none | apply Gd_want) | refine U_ar rfl rfl rfl (wrap_k (by simp only [wrapOk]; omega)) rfl ?_ | refine U_cv E rfl rfl rfl (wrap_k (by simp only [wrapOk]; omega)) rfl ?_ | refine U_pure E rfl rfl ?_ | refine T_exit rfl ?_ | refine T_condV rfl ?_ | refine U_guard rfl rfl ?_ | ((with_reducible refine Gd_skipT ?_ ?_); exact rfl) | ((with_reducible refine Gd_skipF ?_ ?_); exact rfl))
          refine L_begin (fun _ => True) 34 (by kernel_rfl) (N := 34) rfl (fun w9 hd9 => ?_)
          have h9 := h7.same (hd9.kept none0)
          have hbs9 := hbs7.mv (hd9.kept none0) (fun _ _ _ x => x)
          have k9 : Kept none0 w w9 := k7.tr (hd9.kept none0) (fun _ _ x => x)
          have hno := append_no _ P h9 hbs9 (by omega) (by omega) (by omega)
          unfold ptr at *
          refine L_take 0 rfl (by kernel_rfl) (by kernel_rfl) (by kernel_rfl) (by kernel_rfl) trivial rfl rfl rfl (fun a ha w' _ => run_pv E ha rfl _ _ _ _ _) ?_; refine L_take 1 rfl (by kernel_rfl) (by kernel_rfl) (by kernel_rfl) (by kernel_rfl) trivial rfl rfl rfl (fun a ha w' _ => run_pv E ha rfl _ _ _ _ _) ?_
          refine L_op 2 (by kernel_rfl) rfl (fun hc => ?_)
          refine U_call rfl rfl (Tryd.call53 _) (hno) ?_
          rintro r w10 ⟨rfl, F10, Fr10, o10, h10⟩
          have k10 : Kept none0 w w10 := o10.done k9 hn7
          have hn10 := o10.newer k9.size hn7
          have hbs10 := o10.sl hbs9
          refine U_nilL hc (fun _ => trivial) ?_
          refine L_op 3 (by kernel_rfl) rfl (fun hc => ?_)
          refine U_call rfl rfl (Tryd.call28 _) (code_c w10 6 (hL.mv k10 (fun x => x))) ?_
          rintro r w11 ⟨rfl, k11⟩
          refine U_nilL hc (fun _ => trivial) ?_
          have h11 := h10.same k11
          have hbs11 := hbs10.mv k11 (fun _ _ _ x => x)
          have k011 : Kept none0 w w11 := k10.tr k11 (fun _ _ x => x)
          refine L_take 4 rfl (by kernel_rfl) (by kernel_rfl) (by kernel_rfl) (by kernel_rfl) trivial rfl rfl rfl (fun a ha w' _ => run_pv E ha rfl _ _ _ _ _) ?_; refine L_take 5 rfl (by kernel_rfl) (by kernel_rfl) (by kernel_rfl) (by kernel_rfl) trivial rfl rfl rfl (fun a ha w' _ => run_pv E ha rfl _ _ _ _ _) ?_
          refine L_takeG 6 rfl (by kernel_rfl) (by kernel_rfl) (by kernel_rfl) (by kernel_rfl) trivial rfl rfl rfl rfl rfl (fun a ha w' _ => run_pv E ha rfl _ _ _ _ _) ?_; refine L_takeG 8 rfl (by kernel_rfl) (by kernel_rfl) (by kernel_rfl) (by kernel_rfl) trivial rfl rfl rfl rfl rfl (fun a ha w' _ => run_pv E ha rfl _ _ _ _ _) ?_
          have hdt := dirty_c w11 F10 hdb D7 h11.dm.isD
          unfold ptr at *
          refine L_op 7 (by kernel_rfl) rfl (fun hc => ?_)
          refine U_guard rfl rfl ?_; refine Gd_want ?_
          refine U_call rfl rfl (Tryd.call39 _) (ret_of hdt) ?_
          rintro r w12 ⟨rfl, rfl⟩
          refine U_nilL hc (fun _ => trivial) ?_
          refine L_takeG 9 rfl (by kernel_rfl) (by kernel_rfl) (by kernel_rfl) (by kernel_rfl) trivial rfl rfl rfl rfl rfl (fun a ha w' _ => run_pv E ha rfl _ _ _ _ _) ?_
          refine L_take 10 rfl (by kernel_rfl) (by kernel_rfl) (by kernel_rfl) (by kernel_rfl) trivial rfl rfl rfl (fun a ha w' _ => run_pv E ha rfl _ _ _ _ _) ?_; refine L_take 11 rfl (by kernel_rfl) (by kernel_rfl) (by kernel_rfl) (by kernel_rfl) trivial rfl rfl rfl (fun a ha w' _ => run_pv E ha rfl _ _ _ _ _) ?_
          refine L_splitB (g := 92) rfl (fun e => absurd (of_decide_eq_true e) (fun h => h rfl)) (fun _ => ?_)
          refine L_takeG 12 rfl (by kernel_rfl) (by kernel_rfl) (by kernel_rfl) (by kernel_rfl) trivial rfl rfl rfl rfl rfl (fun a ha w' _ => run_pv E ha rfl _ _ _ _ _) ?_; refine L_takeG 14 rfl (by kernel_rfl) (by kernel_rfl) (by kernel_rfl) (by kernel_rfl) trivial rfl rfl rfl rfl rfl (fun a ha w' _ => run_pv E ha rfl _ _ _ _ _) ?_; refine L_takeG 15 rfl (by kernel_rfl) (by kernel_rfl) (by kernel_rfl) (by kernel_rfl) trivial rfl rfl rfl rfl rfl (fun a ha w' _ => run_pv E ha rfl _ _ _ _ _) ?_
          refine L_takeG 16 rfl (by kernel_rfl) (by kernel_rfl) (by kernel_rfl) (by kernel_rfl) trivial rfl rfl rfl rfl rfl (fun a1 ha1 w' _ => ro_bin (r := .int .i64 (q : Nat)) rfl rfl (by rw [show (2 : Int) + ((a % 10 : Nat) : Int) = (Hf : Int) by omega, ← hq]; exact run_quo (y := k) (by omega) (wrap_i64 (by omega))) a1 ha1) ?_
          have hct := count_c h11.rl
          rw [hL7] at hct
          unfold ptr at *
          refine L_op 13 (by kernel_rfl) rfl (fun hc => ?_)
          refine U_guard rfl rfl ?_; refine Gd_want ?_
          refine U_call rfl rfl (Tryd.call61 _) (hct) ?_
          rintro r w12 ⟨rfl, rfl⟩
          refine U_nilL hc (fun _ => trivial) ?_
          refine L_takeG 17 rfl (by kernel_rfl) (by kernel_rfl) (by kernel_rfl) (by kernel_rfl) trivial rfl rfl rfl rfl rfl (fun a ha w' _ => run_pv E ha rfl _ _ _ _ _) ?_
          refine L_take 18 rfl (by kernel_rfl) (by kernel_rfl) (by kernel_rfl) (by kernel_rfl) trivial rfl rfl rfl (fun a ha w' _ => run_pv E ha rfl _ _ _ _ _) ?_; refine L_take 19 rfl (by kernel_rfl) (by kernel_rfl) (by kernel_rfl) (by kernel_rfl) trivial rfl rfl rfl (fun a ha w' _ => run_pv E ha rfl _ _ _ _ _) ?_
          refine L_splitB (g := 100) rfl (fun e => absurd (of_decide_eq_true e) (fun h => h rfl)) (fun _ => ?_)
          refine L_takeG 20 rfl (by kernel_rfl) (by kernel_rfl) (by kernel_rfl) (by kernel_rfl) trivial rfl rfl rfl rfl rfl (fun a ha w' _ => run_pv E ha rfl _ _ _ _ _) ?_; refine L_takeG 22 rfl (by kernel_rfl) (by kernel_rfl) (by kernel_rfl) (by kernel_rfl) trivial rfl rfl rfl rfl rfl (fun a ha w' _ => run_pv E ha rfl _ _ _ _ _) ?_; refine L_takeG 23 rfl (by kernel_rfl) (by kernel_rfl) (by kernel_rfl) (by kernel_rfl) trivial rfl rfl rfl rfl rfl (fun a ha w' _ => run_pv E ha rfl _ _ _ _ _) ?_
          refine L_takeG 24 rfl (by kernel_rfl) (by kernel_rfl) (by kernel_rfl) (by kernel_rfl) trivial rfl rfl rfl rfl rfl (fun a1 ha1 w' _ => ro_bin (r := .int .i64 (Hf % k : Nat)) rfl rfl (by rw [show (2 : Int) + ((a % 10 : Nat) : Int) = (Hf : Int) by omega]; exact run_rem (y := k) (by omega)) a1 ha1) ?_
          have hrm := room_c h11.rl h11.dm (by omega)
          rw [hz7, hA7] at hrm
          unfold ptr at *
          refine L_op 21 (by kernel_rfl) rfl (fun hc => ?_)
          refine U_guard rfl rfl ?_; refine Gd_want ?_
          refine U_call rfl rfl (Tryd.call60 _) (hrm) ?_
          rintro r w12 ⟨rfl, k12⟩
          refine U_nilL hc (fun _ => trivial) ?_
          refine L_takeG 25 rfl (by kernel_rfl) (by kernel_rfl) (by kernel_rfl) (by kernel_rfl) trivial rfl rfl rfl rfl rfl (fun a ha w' _ => run_pv E ha rfl _ _ _ _ _) ?_
          refine L_take 26 rfl (by kernel_rfl) (by kernel_rfl) (by kernel_rfl) (by kernel_rfl) trivial rfl rfl rfl (fun a ha w' _ => run_pv E ha rfl _ _ _ _ _) ?_; refine L_take 27 rfl (by kernel_rfl) (by kernel_rfl) (by kernel_rfl) (by kernel_rfl) trivial rfl rfl rfl (fun a ha w' _ => run_pv E ha rfl _ _ _ _ _) ?_
          refine L_splitB (g := 108) rfl (fun e => absurd (of_decide_eq_true e) (fun h => h (by omega))) (fun _ => ?_)
          refine L_takeG 28 rfl (by kernel_rfl) (by kernel_rfl) (by kernel_rfl) (by kernel_rfl) trivial rfl rfl rfl rfl rfl (fun a ha w' _ => run_pv E ha rfl _ _ _ _ _) ?_; refine L_takeG 29 rfl (by kernel_rfl) (by kernel_rfl) (by kernel_rfl) (by kernel_rfl) trivial rfl rfl rfl rfl rfl (fun a ha w' _ => run_pv E ha rfl _ _ _ _ _) ?_; refine L_takeG 31 rfl (by kernel_rfl) (by kernel_rfl) (by kernel_rfl) (by kernel_rfl) trivial rfl rfl rfl rfl rfl (fun a ha w' _ => run_pv E ha rfl _ _ _ _ _) ?_
          have hpg2 := pages_c w12 i (by omega)
          rw [← hPl, hk, hPl] at hpg2
          refine L_op 30 (by kernel_rfl) rfl (fun hc => ?_)
          refine U_guard rfl rfl ?_; refine Gd_want ?_
          refine U_call rfl rfl (Tryd.call64 _) (hpg2) ?_
          rintro r w13 ⟨rfl, rfl⟩
          refine U_nilL hc (fun _ => trivial) ?_
          refine L_takeG 32 rfl (by kernel_rfl) (by kernel_rfl) (by kernel_rfl) (by kernel_rfl) trivial rfl rfl rfl rfl rfl (fun a ha w' _ => run_pv E ha rfl _ _ _ _ _) ?_
          refine L_take 33 rfl (by kernel_rfl) (by kernel_rfl) (by kernel_rfl) (by kernel_rfl) trivial rfl rfl rfl (fun a ha w' _ => run_pv E ha rfl _ _ _ _ _) ?_
          refine L_done (by kernel_rfl) ?_
          repeat (first | (with_reducible first | apply T_seq | apply T_region | apply U_nil | apply T_skip | apply T_block | apply T_inBlock | apply Cnd_t | apply Cnd_f | apply Cnd_not | apply Cnd_some | apply Cnd_none | apply Gd_nt | apply Gd_nf | apply Gd_some | apply Gd_none | apply Gd_want) | refine U_ar rfl rfl rfl (wrap_k (by simp only [wrapOk]; omega)) rfl ?_ | refine U_cv E rfl rfl rfl (wrap_k (by simp only [wrapOk]; omega)) rfl ?_ | refine U_pure E rfl rfl ?_ | refine T_exit rfl ?_ | refine T_condV rfl ?_ | refine U_guard rfl rfl ?_ | ((with_reducible refine Gd_skipT ?_ ?_); exact rfl) | ((with_reducible refine Gd_skipF ?_ ?_); exact rfl))
          refine Cnd_p (fun hne => ?_) (fun hne => ?_)
          · exact (hne rfl).elim
          · have h12 := h11.same k12
            have hbs12 := hbs11.mv k12 (fun _ _ _ x => x)
            have k012 : Kept none0 w w13 := k011.tr k12 (fun _ _ x => x)
            have htn := turn_on _ P h12 hbs12 (by decide) (rec_ok (by decide) (by decide) (by omega)) (by omega) (by omega)
            unfold ptr at *
            repeat (first | (with_reducible first | apply T_seq | apply T_region | apply U_nil | apply T_skip | apply T_block | apply T_inBlock | apply Cnd_t | apply Cnd_f | apply Cnd_not | apply Cnd_some | apply Cnd_none | apply Gd_nt | apply Gd_nf | apply Gd_some | apply Gd_none | apply Gd_want) | refine U_ar rfl rfl rfl (wrap_k (by simp only [wrapOk]; omega)) rfl ?_ | refine U_cv E rfl rfl rfl (wrap_k (by simp only [wrapOk]; omega)) rfl ?_ | refine U_pure E rfl rfl ?_ | refine T_exit rfl ?_ | refine T_condV rfl ?_ | refine U_guard rfl rfl ?_ | ((with_reducible refine Gd_skipT ?_ ?_); exact rfl) | ((with_reducible refine Gd_skipF ?_ ?_); exact rfl))
            refine U_call rfl rfl (Tryd.call57 _) (htn) ?_
            rintro r w14 ⟨rfl, F14, Fr14, D14, o14, h14, l14, q14, v14⟩
            have k014 := o14.done k012 hn10
            have hct := count_c h14.rl
            unfold ptr at *
            repeat (first | (with_reducible first | apply T_seq | apply T_region | apply U_nil | apply T_skip | apply T_block | apply T_inBlock | apply Cnd_t | apply Cnd_f | apply Cnd_not | apply Cnd_some | apply Cnd_none | apply Gd_nt | apply Gd_nf | apply Gd_some | apply Gd_none | apply Gd_want) | refine U_ar rfl rfl rfl (wrap_k (by simp only [wrapOk]; omega)) rfl ?_ | refine U_cv E rfl rfl rfl (wrap_k (by simp only [wrapOk]; omega)) rfl ?_ | refine U_pure E rfl rfl ?_ | refine T_exit rfl ?_ | refine T_condV rfl ?_ | refine U_guard rfl rfl ?_ | refine U_guardU rfl rfl rfl ?_ | ((with_reducible refine Gd_skipT ?_ ?_); exact rfl) | ((with_reducible refine Gd_skipF ?_ ?_); exact rfl))
            refine U_call rfl rfl (Tryd.call61 _) (hct) ?_
            rintro r w15 ⟨rfl, rfl⟩
            repeat (first | (with_reducible first | apply T_seq | apply T_region | apply U_nil | apply T_skip | apply T_block | apply T_inBlock | apply Cnd_t | apply Cnd_f | apply Cnd_not | apply Cnd_some | apply Cnd_none | apply Gd_nt | apply Gd_nf | apply Gd_some | apply Gd_none | apply Gd_want) | refine U_ar rfl rfl rfl (wrap_k (by simp only [wrapOk]; omega)) rfl ?_ | refine U_cv E rfl rfl rfl (wrap_k (by simp only [wrapOk]; omega)) rfl ?_ | refine U_pure E rfl rfl ?_ | refine T_exit rfl ?_ | refine T_condV rfl ?_ | refine U_guard rfl rfl ?_ | refine U_guardU rfl rfl rfl ?_ | ((with_reducible refine Gd_skipT ?_ ?_); exact rfl) | ((with_reducible refine Gd_skipF ?_ ?_); exact rfl))
            refine Gd_b (fun _ => ?_) (fun e => absurd e (by simp))
            have hrm := room_c h14.rl h14.dm (by omega)
            have hA14 : (allP (1 + 1) 0 [P]).length = k := by simp [allP, lay_len, hk]
            have hz14 : hsz D14 = Hf := by rw [hsz, l14, l7]; omega
            rw [hz14, hA14] at hrm
            unfold ptr at *
            repeat (first | (with_reducible first | apply T_seq | apply T_region | apply U_nil | apply T_skip | apply T_block | apply T_inBlock | apply Cnd_t | apply Cnd_f | apply Cnd_not | apply Cnd_some | apply Cnd_none | apply Gd_nt | apply Gd_nf | apply Gd_some | apply Gd_none | apply Gd_want) | refine U_ar rfl rfl rfl (wrap_k (by simp only [wrapOk]; omega)) rfl ?_ | refine U_cv E rfl rfl rfl (wrap_k (by simp only [wrapOk]; omega)) rfl ?_ | refine U_pure E rfl rfl ?_ | refine T_exit rfl ?_ | refine T_condV rfl ?_ | refine U_guard rfl rfl ?_ | refine U_guardU rfl rfl rfl ?_ | ((with_reducible refine Gd_skipT ?_ ?_); exact rfl) | ((with_reducible refine Gd_skipF ?_ ?_); exact rfl))
            refine U_call rfl rfl (Tryd.call60 _) (hrm) ?_
            rintro r w16 ⟨rfl, k16⟩
            repeat (first | (with_reducible first | apply T_seq | apply T_region | apply U_nil | apply T_skip | apply T_block | apply T_inBlock | apply Cnd_t | apply Cnd_f | apply Cnd_not | apply Cnd_some | apply Cnd_none | apply Gd_nt | apply Gd_nf | apply Gd_some | apply Gd_none | apply Gd_want) | refine U_ar rfl rfl rfl (wrap_k (by simp only [wrapOk]; omega)) rfl ?_ | refine U_cv E rfl rfl rfl (wrap_k (by simp only [wrapOk]; omega)) rfl ?_ | refine U_pure E rfl rfl ?_ | refine T_exit rfl ?_ | refine T_condV rfl ?_ | refine U_guard rfl rfl ?_ | refine U_guardU rfl rfl rfl ?_ | ((with_reducible refine Gd_skipT ?_ ?_); exact rfl) | ((with_reducible refine Gd_skipF ?_ ?_); exact rfl))
            refine Gd_p (fun hrr => ?_) (fun hrr => ?_)
            · have h16 := h14.same k16
              have hg16 := gen_c h16.rl
              unfold ptr at *
              repeat (first | (with_reducible first | apply T_seq | apply T_region | apply U_nil | apply T_skip | apply T_block | apply T_inBlock | apply Cnd_t | apply Cnd_f | apply Cnd_not | apply Cnd_some | apply Cnd_none | apply Gd_nt | apply Gd_nf | apply Gd_some | apply Gd_none | apply Gd_want) | refine U_ar rfl rfl rfl (wrap_k (by simp only [wrapOk]; omega)) rfl ?_ | refine U_cv E rfl rfl rfl (wrap_k (by simp only [wrapOk]; omega)) rfl ?_ | refine U_pure E rfl rfl ?_ | refine T_exit rfl ?_ | refine T_condV rfl ?_ | refine U_guard rfl rfl ?_ | refine U_guardU rfl rfl rfl ?_ | ((with_reducible refine Gd_skipT ?_ ?_); exact rfl) | ((with_reducible refine Gd_skipF ?_ ?_); exact rfl))
              refine U_call rfl rfl (Tryd.call56 _) (hg16) ?_
              rintro r w17 ⟨rfl, rfl⟩
              repeat (first | (with_reducible first | apply T_seq | apply T_region | apply U_nil | apply T_skip | apply T_block | apply T_inBlock | apply Cnd_t | apply Cnd_f | apply Cnd_not | apply Cnd_some | apply Cnd_none | apply Gd_nt | apply Gd_nf | apply Gd_some | apply Gd_none | apply Gd_want) | refine U_ar rfl rfl rfl (wrap_k (by simp only [wrapOk]; omega)) rfl ?_ | refine U_cv E rfl rfl rfl (wrap_k (by simp only [wrapOk]; omega)) rfl ?_ | refine U_pure E rfl rfl ?_ | refine T_exit rfl ?_ | refine T_condV rfl ?_ | refine U_guard rfl rfl ?_ | refine U_guardU rfl rfl rfl ?_ | ((with_reducible refine Gd_skipT ?_ ?_); exact rfl) | ((with_reducible refine Gd_skipF ?_ ?_); exact rfl))
              exact T_ret1 Tryd.func17 rfl rfl ⟨_, rfl, rfl, k014.tr k16 (fun _ _ x => x)⟩
            · exfalso
              apply hrr
              omega
    · have hM : mkF (drNew (2 + 2 * Hf)) P = (6, drNew (2 + 2 * Hf)) := by
        rw [mkF, if_neg (by rw [drNew_len]; omega), rfErr_full (by omega) (by rw [hzD, hk]; omega), if_pos (by decide)]
      have hmk := make_rc w5 _ hdb _ (.slice (some ⟨bm, 0, none⟩) i i) P hD4 (hbs.mono (fun b _ (e : b = bm) e2 => by have := e2.2; omega)) (by omega) (by simp [drNew])
      rw [hM] at hmk
      unfold ptr at *
      repeat (first | (with_reducible first | apply T_seq | apply T_region | apply U_nil | apply T_skip | apply T_block | apply T_inBlock | apply Cnd_t | apply Cnd_f | apply Cnd_not | apply Cnd_some | apply Cnd_none | apply Gd_nt | apply Gd_nf | apply Gd_some | apply Gd_none | apply Gd_want) | refine U_ar rfl rfl rfl (wrap_k (by simp only [wrapOk]; omega)) rfl ?_ | refine U_cv E rfl rfl rfl (wrap_k (by simp only [wrapOk]; omega)) rfl ?_ | refine U_pure E rfl rfl ?_ | refine T_exit rfl ?_ | refine T_condV rfl ?_ | refine U_guard rfl rfl ?_ | ((with_reducible refine Gd_skipT ?_ ?_); exact rfl) | ((with_reducible refine Gd_skipF ?_ ?_); exact rfl))
      refine U_call rfl rfl (Tryd.call49 _) (hmk) ?_
      rintro r w6 ⟨F6, o6, h6, hcase⟩
      have k06 : Kept none0 w w6 := o6.done k04 (fun b e => by have := k1.size; have := e.1; omega)
      rcases hcase with ⟨_, rfl⟩ | ⟨e, _⟩
      · repeat (first | (with_reducible first | apply T_seq | apply T_region | apply U_nil | apply T_skip | apply T_block | apply T_inBlock | apply Cnd_t | apply Cnd_f | apply Cnd_not | apply Cnd_some | apply Cnd_none | apply Gd_nt | apply Gd_nf | apply Gd_some | apply Gd_none | apply Gd_want) | refine U_ar rfl rfl rfl (wrap_k (by simp only [wrapOk]; omega)) rfl ?_ | refine U_cv E rfl rfl rfl (wrap_k (by simp only [wrapOk]; omega)) rfl ?_ | refine U_pure E rfl rfl ?_ | refine T_exit rfl ?_ | refine T_condV rfl ?_ | refine U_guard rfl rfl ?_ | ((with_reducible refine Gd_skipT ?_ ?_); exact rfl) | ((with_reducible refine Gd_skipF ?_ ?_); exact rfl))
        refine Cnd_p (fun hgt => ?_) (fun hgt => ?_)
        · repeat (first | (with_reducible first | apply T_seq | apply T_region | apply U_nil | apply T_skip | apply T_block | apply T_inBlock | apply Cnd_t | apply Cnd_f | apply Cnd_not | apply Cnd_some | apply Cnd_none | apply Gd_nt | apply Gd_nf | apply Gd_some | apply Gd_none | apply Gd_want) | refine U_ar rfl rfl rfl (wrap_k (by simp only [wrapOk]; omega)) rfl ?_ | refine U_cv E rfl rfl rfl (wrap_k (by simp only [wrapOk]; omega)) rfl ?_ | refine U_pure E rfl rfl ?_ | refine T_exit rfl ?_ | refine T_condV rfl ?_ | refine U_guard rfl rfl ?_ | refine U_guardU rfl rfl rfl ?_ | ((with_reducible refine Gd_skipT ?_ ?_); exact rfl) | ((with_reducible refine Gd_skipF ?_ ?_); exact rfl))
          refine U_call rfl rfl (Tryd.call28 _) (code_c w6 6 (hL.mv k06 (fun x => x))) ?_
          rintro r w7 ⟨rfl, k7⟩
          have hdt := dirty_c w7 F6 hdb _ (h6.same k7).isD
          unfold ptr at *
          repeat (first | (with_reducible first | apply T_seq | apply T_region | apply U_nil | apply T_skip | apply T_block | apply T_inBlock | apply Cnd_t | apply Cnd_f | apply Cnd_not | apply Cnd_some | apply Cnd_none | apply Gd_nt | apply Gd_nf | apply Gd_some | apply Gd_none | apply Gd_want) | refine U_ar rfl rfl rfl (wrap_k (by simp only [wrapOk]; omega)) rfl ?_ | refine U_cv E rfl rfl rfl (wrap_k (by simp only [wrapOk]; omega)) rfl ?_ | refine U_pure E rfl rfl ?_ | refine T_exit rfl ?_ | refine T_condV rfl ?_ | refine U_guard rfl rfl ?_ | refine U_guardU rfl rfl rfl ?_ | ((with_reducible refine Gd_skipT ?_ ?_); exact rfl) | ((with_reducible refine Gd_skipF ?_ ?_); exact rfl))
          refine Gd_b (fun _ => ?_) (fun e => absurd e (by decide))
          repeat (first | (with_reducible first | apply T_seq | apply T_region | apply U_nil | apply T_skip | apply T_block | apply T_inBlock | apply Cnd_t | apply Cnd_f | apply Cnd_not | apply Cnd_some | apply Cnd_none | apply Gd_nt | apply Gd_nf | apply Gd_some | apply Gd_none | apply Gd_want) | refine U_ar rfl rfl rfl (wrap_k (by simp only [wrapOk]; omega)) rfl ?_ | refine U_cv E rfl rfl rfl (wrap_k (by simp only [wrapOk]; omega)) rfl ?_ | refine U_pure E rfl rfl ?_ | refine T_exit rfl ?_ | refine T_condV rfl ?_ | refine U_guard rfl rfl ?_ | refine U_guardU rfl rfl rfl ?_ | ((with_reducible refine Gd_skipT ?_ ?_); exact rfl) | ((with_reducible refine Gd_skipF ?_ ?_); exact rfl))
          refine U_call rfl rfl (Tryd.call39 _) (ret_of hdt) ?_
          rintro r w8 ⟨rfl, rfl⟩
          repeat (first | (with_reducible first | apply T_seq | apply T_region | apply U_nil | apply T_skip | apply T_block | apply T_inBlock | apply Cnd_t | apply Cnd_f | apply Cnd_not | apply Cnd_some | apply Cnd_none | apply Gd_nt | apply Gd_nf | apply Gd_some | apply Gd_none | apply Gd_want) | refine U_ar rfl rfl rfl (wrap_k (by simp only [wrapOk]; omega)) rfl ?_ | refine U_cv E rfl rfl rfl (wrap_k (by simp only [wrapOk]; omega)) rfl ?_ | refine U_pure E rfl rfl ?_ | refine T_exit rfl ?_ | refine T_condV rfl ?_ | refine U_guard rfl rfl ?_ | refine U_guardU rfl rfl rfl ?_ | ((with_reducible refine Gd_skipT ?_ ?_); exact rfl) | ((with_reducible refine Gd_skipF ?_ ?_); exact rfl))
          exact T_ret1 Tryd.func17 rfl rfl ⟨_, rfl, rfl, k06.tr k7 (fun _ _ x => x)⟩
        · exfalso
          omega
      · exact absurd e (fun e => by injection e)
end Go.Proofs.YtoefhdaenaiomaaDoor
