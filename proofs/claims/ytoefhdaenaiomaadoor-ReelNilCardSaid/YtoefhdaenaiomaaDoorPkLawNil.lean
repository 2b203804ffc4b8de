/- ReelNil: the walk. -/
import Derived.Test.YtoefhdaenaiomaaDoorPkReelS
set_option linter.unusedVariables false
set_option linter.unusedSimpArgs false
namespace Go.Proofs.YtoefhdaenaiomaaDoor
open Go
set_option maxRecDepth 20000

set_option maxHeartbeats 8000000 in
theorem nil15_c (w : World) (G Hp : Nat → Prop) (vl vp : Value) (l : List (List UInt8)) (p : List UInt8) (n : Nat) (hl : RS w G vl l) (hp : BS w Hp vp p) (ha : n < 256) (hL : Laid w) :
    Calls Tryd.prog 16 [.int .u8 n, vp, vl].toArray w (Ret fun r w' => r = .bool true ∧ Kept none0 w w') := by
  obtain ⟨vs, a1, a2, a3⟩ := hl
  obtain ⟨A, c, rfl⟩ := a2.len
  have hvl := a2.1
  refine calls_T Tryd.func16 rfl rfl rfl ?_
  repeat (first | (with_reducible first | apply T_seq | apply T_region | apply U_nil | apply T_skip | apply T_block | apply T_inBlock | apply Cnd_t | apply Cnd_f | apply Cnd_not | apply Cnd_some | apply Cnd_none | apply Gd_nt | apply Gd_nf | apply Gd_some | apply Gd_none | apply Gd_want) | refine U_ar rfl rfl rfl (wrap_k (by simp only [wrapOk]; omega)) rfl ?_ | refine U_cv E rfl rfl rfl (wrap_k (by simp only [wrapOk]; omega)) rfl ?_ | refine U_pure E rfl rfl ?_ | refine T_exit rfl ?_ | refine T_condV rfl ?_ | refine U_guard rfl rfl ?_ | ((with_reducible refine Gd_skipT ?_ ?_); exact rfl) | ((with_reducible refine Gd_skipF ?_ ?_); exact rfl))
  refine U_call rfl rfl (Tryd.call48 _) (awake15_c w) ?_
  rintro r w1 ⟨rfl, k1⟩
  repeat (first | (with_reducible first | apply T_seq | apply T_region | apply U_nil | apply T_skip | apply T_block | apply T_inBlock | apply Cnd_t | apply Cnd_f | apply Cnd_not | apply Cnd_some | apply Cnd_none | apply Gd_nt | apply Gd_nf | apply Gd_some | apply Gd_none | apply Gd_want) | refine U_ar rfl rfl rfl (wrap_k (by simp only [wrapOk]; omega)) rfl ?_ | refine U_cv E rfl rfl rfl (wrap_k (by simp only [wrapOk]; omega)) rfl ?_ | refine U_pure E rfl rfl ?_ | refine T_exit rfl ?_ | refine T_condV rfl ?_ | refine U_guard rfl rfl ?_ | ((with_reducible refine Gd_skipT ?_ ?_); exact rfl) | ((with_reducible refine Gd_skipF ?_ ?_); exact rfl))
  refine U_call rfl rfl (Tryd.call19 _) (cut_c w1 _ vp p 100 (hp.mv k1 (fun _ _ _ x => x)) (by decide)) ?_
  rintro rp w2 ⟨k2, hrp⟩
  obtain ⟨P, hP⟩ : ∃ P, p.take (Int.toNat 100) = P := ⟨_, rfl⟩
  have lP : P.length ≤ 100 := by rw [← hP]; exact List.length_take_le _ _
  rw [hP] at hrp
  have hp2 : BS w2 (fun b => b < w2.heap.size) rp P := (hrp.sl (by omega)).mono (fun b h _ => h)
  have k02' : Kept none0 w w2 := k1.tr k2 (fun _ _ x => x)
  repeat (first | (with_reducible first | apply T_seq | apply T_region | apply U_nil | apply T_skip | apply T_block | apply T_inBlock | apply Cnd_t | apply Cnd_f | apply Cnd_not | apply Cnd_some | apply Cnd_none | apply Gd_nt | apply Gd_nf | apply Gd_some | apply Gd_none | apply Gd_want) | refine U_ar rfl rfl rfl (wrap_k (by simp only [wrapOk]; omega)) rfl ?_ | refine U_cv E rfl rfl rfl (wrap_k (by simp only [wrapOk]; omega)) rfl ?_ | refine U_pure E rfl rfl ?_ | refine T_exit rfl ?_ | refine T_condV rfl ?_ | refine U_guard rfl rfl ?_ | ((with_reducible refine Gd_skipT ?_ ?_); exact rfl) | ((with_reducible refine Gd_skipF ?_ ?_); exact rfl))
  refine U_run rfl rfl rfl (ro_bin (r := .int .u8 (n % 20 : Nat)) rfl rfl (by exact run_rem (y := 20) (by decide))) ?_
  repeat (first | (with_reducible first | apply T_seq | apply T_region | apply U_nil | apply T_skip | apply T_block | apply T_inBlock | apply Cnd_t | apply Cnd_f | apply Cnd_not | apply Cnd_some | apply Cnd_none | apply Gd_nt | apply Gd_nf | apply Gd_some | apply Gd_none | apply Gd_want) | refine U_ar rfl rfl rfl (wrap_k (by simp only [wrapOk]; omega)) rfl ?_ | refine U_cv E rfl rfl rfl (wrap_k (by simp only [wrapOk]; omega)) rfl ?_ | refine U_pure E rfl rfl ?_ | refine T_exit rfl ?_ | refine T_condV rfl ?_ | refine U_guard rfl rfl ?_ | ((with_reducible refine Gd_skipT ?_ ?_); exact rfl) | ((with_reducible refine Gd_skipF ?_ ?_); exact rfl))
  obtain ⟨S, hS⟩ : ∃ S : Nat, 1 + n % 20 = S := ⟨_, rfl⟩
  refine U_call rfl rfl (Tryd.call24 _) (new_c w2 (1 + ((n % 20 : Nat) : Int)) (by omega)) ?_
  rintro r w3 ⟨k3, hdb, rfl, hD3⟩
  have hD3 := hD3.dm
  rw [show ((1 : Int) + ((n % 20 : Nat) : Int)).toNat = S by omega] at hD3
  have k03 : Kept none0 w w3 := k02'.tr k3 (fun _ _ x => x)
  have s2 := k02'.size
  have hp3 := hp2.mv k3 (fun _ _ _ x => x)
  unfold ptr at *
  repeat (first | (with_reducible first | apply T_seq | apply T_region | apply U_nil | apply T_skip | apply T_inBlock | apply Cnd_t | apply Cnd_f | apply Cnd_not | apply Cnd_some | apply Cnd_none | apply Gd_nt | apply Gd_nf | apply Gd_some | apply Gd_none | apply Gd_want) | refine U_ar rfl rfl rfl (wrap_k (by simp only [wrapOk]; omega)) rfl ?_ | refine U_cv E rfl rfl rfl (wrap_k (by simp only [wrapOk]; omega)) rfl ?_ | refine U_pure E rfl rfl ?_ | refine T_exit rfl ?_ | refine T_condV rfl ?_ | refine U_guard rfl rfl ?_ | ((with_reducible refine Gd_skipT ?_ ?_); exact rfl) | ((with_reducible refine Gd_skipF ?_ ?_); exact rfl))
  refine T_via (α := (Nat → Prop) × Dr) (fun x => [(8, .pointer (some ⟨hdb, 0, none⟩)), (7, .int .i64 (1 + ((n % 20 : Nat) : Int))), (1, rp)])
    (fun x w' => Kept none0 w w' ∧ (∀ b, x.1 b → w2.heap.size ≤ b) ∧ Dm w' x.1 hdb x.2 ∧ On x.2 ∧ x.2.l.length = S ∧ x.2.wait.length ≤ 20 ∧ BS w' (fun b => b < w2.heap.size) rp P ∧ w2.heap.size ≤ w'.heap.size) ?fin ?go
  case go =>
    intro fin
    refine T_block ?_
    refine T_loop (α := Nat × ((Nat → Prop) × Dr) × World) (fun x => [(41, .int .i64 x.1), (40, .int .i64 vs.length), (39, .slice A vs.length c), (8, .pointer (some ⟨hdb, 0, none⟩)), (7, .int .i64 (1 + ((n % 20 : Nat) : Int))), (1, rp)]) (fun x => x.2.2) (fun x => vs.length - x.1)
      (fun x => x.1 ≤ vs.length ∧ Kept none0 w x.2.2 ∧ (∀ b, x.2.1.1 b → w2.heap.size ≤ b) ∧ Dm x.2.2 x.2.1.1 hdb x.2.1.2 ∧ On x.2.1.2 ∧ x.2.1.2.l.length = S ∧ x.2.1.2.wait.length ≤ min S x.1 ∧ BS x.2.2 (fun b => b < w2.heap.size) rp P ∧ w2.heap.size ≤ x.2.2.heap.size)
      (0, ((fun j => w2.heap.size ≤ j ∧ j < w3.heap.size), drNew S), w3) ⟨Nat.zero_le _, k03, fun b e => e.1, hD3, drNew_on _, drNew_len _, Nat.zero_le _, hp3, k3.size⟩ ?hsub rfl ?_
    case hsub => exact ⟨rfl, rfl, rfl, rfl, rfl, rfl, trivial⟩
    rintro ⟨i, ⟨F, D⟩, w5⟩ ⟨hi, k5, hn5, h5, ho5, l5, q5, hp5, s5⟩ ih
    dsimp only at hi k5 hn5 h5 ho5 l5 q5 hp5 s5 ⊢
    repeat (first | (with_reducible first | apply T_seq | apply T_region | apply U_nil | apply T_skip | apply T_block | apply T_inBlock | apply Cnd_t | apply Cnd_f | apply Cnd_not | apply Cnd_some | apply Cnd_none | apply Gd_nt | apply Gd_nf | apply Gd_some | apply Gd_none | apply Gd_want) | refine U_ar rfl rfl rfl (wrap_k (by simp only [wrapOk]; omega)) rfl ?_ | refine U_cv E rfl rfl rfl (wrap_k (by simp only [wrapOk]; omega)) rfl ?_ | refine U_pure E rfl rfl ?_ | refine T_exit rfl ?_ | refine T_condV rfl ?_ | refine U_guard rfl rfl ?_ | ((with_reducible refine Gd_skipT ?_ ?_); exact rfl) | ((with_reducible refine Gd_skipF ?_ ?_); exact rfl))
    refine Cnd_p (fun hlt => ?_) (fun hlt => ?_)
    · have hl1 : i < vs.length := by omega
      have hl2 : i < l.length := by omega
      have hg1 : vs[(i : Int).toNat]? = some vs[i] := by rw [Int.toNat_natCast, List.getElem?_eq_getElem hl1]
      have hap := a3 i _ _ (List.getElem?_eq_getElem hl1) (List.getElem?_eq_getElem hl2)
      have hap5 := hap.mv k5 (fun _ _ _ x => x)
      have hlt5 := h5.lt
      repeat (first | (with_reducible first | apply T_seq | apply T_region | apply U_nil | apply T_skip | apply T_block | apply T_inBlock | apply Cnd_t | apply Cnd_f | apply Cnd_not | apply Cnd_some | apply Cnd_none | apply Gd_nt | apply Gd_nf | apply Gd_some | apply Gd_none | apply Gd_want) | refine U_ar rfl rfl rfl (wrap_k (by simp only [wrapOk]; omega)) rfl ?_ | refine U_cv E rfl rfl rfl (wrap_k (by simp only [wrapOk]; omega)) rfl ?_ | refine U_pure E rfl rfl ?_ | refine T_exit rfl ?_ | refine T_condV rfl ?_ | refine U_guard rfl rfl ?_ | ((with_reducible refine Gd_skipT ?_ ?_); exact rfl) | ((with_reducible refine Gd_skipF ?_ ?_); exact rfl))
      refine U_idx E ((a2.mv k5 (fun _ _ _ x => x))) rfl rfl rfl rfl (by omega) (by omega) (hg1) rfl (fun pp hpp => ?_)
      refine U_load E rfl rfl rfl hpp rfl ?_
      repeat (first | (with_reducible first | apply T_seq | apply T_region | apply U_nil | apply T_skip | apply T_block | apply T_inBlock | apply Cnd_t | apply Cnd_f | apply Cnd_not | apply Cnd_some | apply Cnd_none | apply Gd_nt | apply Gd_nf | apply Gd_some | apply Gd_none | apply Gd_want) | refine U_ar rfl rfl rfl (wrap_k (by simp only [wrapOk]; omega)) rfl ?_ | refine U_cv E rfl rfl rfl (wrap_k (by simp only [wrapOk]; omega)) rfl ?_ | refine U_pure E rfl rfl ?_ | refine T_exit rfl ?_ | refine T_condV rfl ?_ | refine U_guard rfl rfl ?_ | ((with_reducible refine Gd_skipT ?_ ?_); exact rfl) | ((with_reducible refine Gd_skipF ?_ ?_); exact rfl))
      refine Cnd_p (fun h8 => ?_) (fun h8 => ?_)
      · repeat (first | (with_reducible first | apply T_seq | apply T_region | apply U_nil | apply T_skip | apply T_block | apply T_inBlock | apply Cnd_t | apply Cnd_f | apply Cnd_not | apply Cnd_some | apply Cnd_none | apply Gd_nt | apply Gd_nf | apply Gd_some | apply Gd_none | apply Gd_want) | refine U_ar rfl rfl rfl (wrap_k (by simp only [wrapOk]; omega)) rfl ?_ | refine U_cv E rfl rfl rfl (wrap_k (by simp only [wrapOk]; omega)) rfl ?_ | refine U_pure E rfl rfl ?_ | refine T_exit rfl ?_ | refine T_condV rfl ?_ | refine U_guard rfl rfl ?_ | ((with_reducible refine Gd_skipT ?_ ?_); exact rfl) | ((with_reducible refine Gd_skipF ?_ ?_); exact rfl))
        refine U_call rfl rfl (Tryd.call19 _) (cut_c w5 _ vs[i] l[i] 256 hap5 (by decide)) ?_
        rintro rq w6 ⟨k6, hq6⟩
        have hql : (l[i].take (256 : Int).toNat).length ≤ 256 := List.length_take_le _ _
        have hq6' : BS w6 (fun b => ¬ F b) rq (l[i].take (256 : Int).toNat) := (hq6.sl (by omega)).mono (fun b _ e e2 => by have := hlt5 b e2; simp only [fresh] at e; omega)
        have h6 := h5.same k6
        have k06 := k5.tr k6 (fun _ _ x => x)
        have hwr := dw_write w6 F hdb D rq _ (i : Int) h6 hq6' (by omega)
        obtain ⟨e0, e1, e2, e3⟩ := wr_on (i := i) (p := l[i].take (256 : Int).toNat) ho5 (by omega) hql
        have e4 := wrDr_wait D (i : Int) (l[i].take (256 : Int).toNat)
        unfold ptr at *
        repeat (first | (with_reducible first | apply T_seq | apply T_region | apply U_nil | apply T_skip | apply T_block | apply T_inBlock | apply Cnd_t | apply Cnd_f | apply Cnd_not | apply Cnd_some | apply Cnd_none | apply Gd_nt | apply Gd_nf | apply Gd_some | apply Gd_none | apply Gd_want) | refine U_ar rfl rfl rfl (wrap_k (by simp only [wrapOk]; omega)) rfl ?_ | refine U_cv E rfl rfl rfl (wrap_k (by simp only [wrapOk]; omega)) rfl ?_ | refine U_pure E rfl rfl ?_ | refine T_exit rfl ?_ | refine T_condV rfl ?_ | refine U_guard rfl rfl ?_ | ((with_reducible refine Gd_skipT ?_ ?_); exact rfl) | ((with_reducible refine Gd_skipF ?_ ?_); exact rfl))
        refine U_call rfl rfl (Tryd.call27 _) (hwr) ?_
        rintro r w7 ⟨rfl, F7, o7, h7⟩
        have s6 := k6.size
        repeat (first | (with_reducible first | apply T_seq | apply T_region | apply U_nil | apply T_skip | apply T_block | apply T_inBlock | apply Cnd_t | apply Cnd_f | apply Cnd_not | apply Cnd_some | apply Cnd_none | apply Gd_nt | apply Gd_nf | apply Gd_some | apply Gd_none | apply Gd_want) | refine U_ar rfl rfl rfl (wrap_k (by simp only [wrapOk]; omega)) rfl ?_ | refine U_cv E rfl rfl rfl (wrap_k (by simp only [wrapOk]; omega)) rfl ?_ | refine U_pure E rfl rfl ?_ | refine T_exit rfl ?_ | refine T_condV rfl ?_ | refine U_guard rfl rfl ?_ | ((with_reducible refine Gd_skipT ?_ ?_); exact rfl) | ((with_reducible refine Gd_skipF ?_ ?_); exact rfl))
        refine T.less ?_ (ih (i + 1, (F7, wrDr D (i : Int) (l[i].take (256 : Int).toNat)), w7) ⟨by omega, o7.done k06 (fun b e => by have := hn5 b e; omega), o7.newer (by omega) hn5, h7, e1, by dsimp only; rw [e2]; exact l5, by dsimp only; omega, (hp5.mv k6 (fun _ _ _ x => x)).mv o7.kept (fun b _ e e2 => by have := hn5 b e2; omega), by have := o7.size; dsimp only; omega⟩ (by dsimp only; omega))
        exact ⟨rfl, rfl, rfl, rfl, rfl, rfl, trivial⟩
      · repeat (first | (with_reducible first | apply T_seq | apply T_region | apply U_nil | apply T_skip | apply T_block | apply T_inBlock | apply Cnd_t | apply Cnd_f | apply Cnd_not | apply Cnd_some | apply Cnd_none | apply Gd_nt | apply Gd_nf | apply Gd_some | apply Gd_none | apply Gd_want) | refine U_ar rfl rfl rfl (wrap_k (by simp only [wrapOk]; omega)) rfl ?_ | refine U_cv E rfl rfl rfl (wrap_k (by simp only [wrapOk]; omega)) rfl ?_ | refine U_pure E rfl rfl ?_ | refine T_exit rfl ?_ | refine T_condV rfl ?_ | refine U_guard rfl rfl ?_ | ((with_reducible refine Gd_skipT ?_ ?_); exact rfl) | ((with_reducible refine Gd_skipF ?_ ?_); exact rfl))
        refine T.less ?_ (ih (i + 1, (F, D), w5) ⟨by omega, k5, hn5, h5, ho5, l5, by dsimp only; omega, hp5, s5⟩ (by dsimp only; omega))
        exact ⟨rfl, rfl, rfl, rfl, rfl, rfl, trivial⟩
    · refine T_exit rfl ?_
      refine T.less ?_ (fin (F, D) w5 ⟨k5, hn5, h5, ho5, l5, by dsimp only; omega, hp5, s5⟩)
      exact ⟨rfl, rfl, rfl, trivial⟩
  case fin =>
    rintro ⟨F, D⟩ w5 ⟨k5, hn5, h5, ho5, l5, q5, hp5, s5⟩
    dsimp only at hn5 h5 ho5 l5 q5 hp5 s5 ⊢
    (repeat (with_reducible refine T_seq ?_))
    refine T_viaK (α := (Nat → Prop) × (Nat → Prop) × Dr × Nat × Value × Value) (fun x => [(12, x.2.2.2.2.1), (13, x.2.2.2.2.2), (8, .pointer (some ⟨hdb, 0, none⟩)), (7, .int .i64 (1 + ((n % 20 : Nat) : Int))), (1, rp)])
      (fun x w' => Kept none0 w w' ∧ (∀ b, uni x.1 x.2.1 b → w2.heap.size ≤ b) ∧ BS w' (fun b => b < w2.heap.size) rp P ∧ w2.heap.size ≤ w'.heap.size ∧ x.2.2.1.l.length = S ∧
        ((S < 6 ∧ Dm w' x.1 hdb x.2.2.1 ∧ x.2.2.1.wait.length ≤ 20 ∧ x.2.2.2.2.1 = .pointer none ∧ x.2.2.2.2.2 = errV 1) ∨
         (6 ≤ S ∧ RD w' x.1 x.2.1 hdb x.2.2.2.1 x.2.2.1 1 [P] ∧ (∀ j, dv x.2.2.1 j = vw x.2.2.1 j) ∧ x.2.2.2.2.1 = .pointer (some ⟨x.2.2.2.1, 0, none⟩) ∧ x.2.2.2.2.2 = .nilIface))) ?fin1 ?go1
    case go1 =>
      intro kk f1
      by_cases h6 : S < 6
      · have hM : mkF D P = (1, D) := by rw [mkF, if_pos (by omega)]
        have hmk := make_rc w5 F hdb D rp P h5 (hp5.mono (fun b _ e e2 => by have := hn5 b e2; omega)) (by omega) (by omega)
        rw [hM] at hmk
        unfold ptr at *
        repeat (first | (with_reducible first | apply T_seq | apply T_region | apply U_nil | apply T_skip | apply T_block | apply T_inBlock | apply Cnd_t | apply Cnd_f | apply Cnd_not | apply Cnd_some | apply Cnd_none | apply Gd_nt | apply Gd_nf | apply Gd_some | apply Gd_none | apply Gd_want) | refine U_ar rfl rfl rfl (wrap_k (by simp only [wrapOk]; omega)) rfl ?_ | refine U_cv E rfl rfl rfl (wrap_k (by simp only [wrapOk]; omega)) rfl ?_ | refine U_pure E rfl rfl ?_ | refine T_exit rfl ?_ | refine T_condV rfl ?_ | refine U_guard rfl rfl ?_ | ((with_reducible refine Gd_skipT ?_ ?_); exact rfl) | ((with_reducible refine Gd_skipF ?_ ?_); exact rfl))
        refine U_call rfl rfl (Tryd.call49 _) (hmk) ?_
        rintro r w6 ⟨F6, o6, h6', hcase⟩
        rcases hcase with ⟨_, rfl⟩ | ⟨e, _⟩
        · repeat (first | refine U_ar rfl rfl rfl (wrap_k (by simp only [wrapOk]; omega)) rfl ?_ | refine U_cv E rfl rfl rfl (wrap_k (by simp only [wrapOk]; omega)) rfl ?_ | refine U_pure E rfl rfl ?_)
          refine U_nil ?_
          refine T.less ?_ (f1 (F6, (fun _ => False), D, 0, .pointer none, errV 1) w6 ⟨o6.done k5 (fun b e => by have := hn5 b e; omega), fun b e => e.elim (o6.newer s5 hn5 b) (fun x => x.elim), hp5.mv o6.kept (fun b _ e e2 => by have := hn5 b e2; omega), by have := o6.size; omega, l5, .inl ⟨h6, h6', q5, rfl, rfl⟩⟩)
          exact ⟨rfl, rfl, rfl, rfl, rfl, trivial⟩
        · exact absurd e (fun e => by injection e)
      · have hmk := make_on w5 F hdb D rp P h5 ho5 (by omega) (hp5.mono (fun b _ e e2 => by have := hn5 b e2; omega)) (rec_ok (by decide) (by decide) (by omega)) (by rw [hsz]; have : pgs P.length = 1 := (by unfold pgs; omega); omega) (by omega)
        unfold ptr at *
        repeat (first | (with_reducible first | apply T_seq | apply T_region | apply U_nil | apply T_skip | apply T_block | apply T_inBlock | apply Cnd_t | apply Cnd_f | apply Cnd_not | apply Cnd_some | apply Cnd_none | apply Gd_nt | apply Gd_nf | apply Gd_some | apply Gd_none | apply Gd_want) | refine U_ar rfl rfl rfl (wrap_k (by simp only [wrapOk]; omega)) rfl ?_ | refine U_cv E rfl rfl rfl (wrap_k (by simp only [wrapOk]; omega)) rfl ?_ | refine U_pure E rfl rfl ?_ | refine T_exit rfl ?_ | refine T_condV rfl ?_ | refine U_guard rfl rfl ?_ | ((with_reducible refine Gd_skipT ?_ ?_); exact rfl) | ((with_reducible refine Gd_skipF ?_ ?_); exact rfl))
        refine U_call rfl rfl (Tryd.call49 _) (hmk) ?_
        rintro r w6 ⟨F6, Fr6, rb, D6, rfl, o6, h6', hFr6, l6, q6, v6⟩
        repeat (first | refine U_ar rfl rfl rfl (wrap_k (by simp only [wrapOk]; omega)) rfl ?_ | refine U_cv E rfl rfl rfl (wrap_k (by simp only [wrapOk]; omega)) rfl ?_ | refine U_pure E rfl rfl ?_)
        refine U_nil ?_
        refine T.less ?_ (f1 (F6, Fr6, D6, rb, .pointer (some ⟨rb, 0, none⟩), .nilIface) w6 ⟨o6.done k5 (fun b e => by have := hn5 b e; omega), fun b e => e.elim (o6.newer s5 hn5 b) (fun e => by have := hFr6 b e; omega), hp5.mv o6.kept (fun b _ e e2 => by have := hn5 b e2; omega), by have := o6.size; omega, by dsimp only; rw [l6]; exact l5, .inr ⟨by omega, h6', v6, rfl, rfl⟩⟩)
        exact ⟨rfl, rfl, rfl, rfl, rfl, trivial⟩
    case fin1 =>
      rintro ⟨F6, Fr6, D6, rb, v12, v13⟩ w6 ⟨k6, hn6, hp6, s6, l6, hcase⟩
      dsimp only at hn6 hp6 s6 l6 hcase ⊢
      repeat (first | (with_reducible first | apply T_seq | apply T_region | apply U_nil | apply T_skip | apply T_block | apply T_inBlock | apply Cnd_t | apply Cnd_f | apply Cnd_not | apply Cnd_some | apply Cnd_none | apply Gd_nt | apply Gd_nf | apply Gd_some | apply Gd_none | apply Gd_want) | refine U_ar rfl rfl rfl (wrap_k (by simp only [wrapOk]; omega)) rfl ?_ | refine U_cv E rfl rfl rfl (wrap_k (by simp only [wrapOk]; omega)) rfl ?_ | refine U_pure E rfl rfl ?_ | refine T_exit rfl ?_ | refine T_condV rfl ?_ | refine U_guard rfl rfl ?_ | ((with_reducible refine Gd_skipT ?_ ?_); exact rfl) | ((with_reducible refine Gd_skipF ?_ ?_); exact rfl))
      refine U_call rfl rfl (Tryd.call49 _) (make_nil w6 rp) ?_
      rintro r w7 ⟨rfl, rfl⟩
      unfold errV
      repeat (first | (with_reducible first | apply T_seq | apply T_region | apply U_nil | apply T_skip | apply T_block | apply T_inBlock | apply Cnd_t | apply Cnd_f | apply Cnd_not | apply Cnd_some | apply Cnd_none | apply Gd_nt | apply Gd_nf | apply Gd_some | apply Gd_none | apply Gd_want) | refine U_ar rfl rfl rfl (wrap_k (by simp only [wrapOk]; omega)) rfl ?_ | refine U_cv E rfl rfl rfl (wrap_k (by simp only [wrapOk]; omega)) rfl ?_ | refine U_pure E rfl rfl ?_ | refine T_exit rfl ?_ | refine T_condV rfl ?_ | refine U_guard rfl rfl ?_ | ((with_reducible refine Gd_skipT ?_ ?_); exact rfl) | ((with_reducible refine Gd_skipF ?_ ?_); exact rfl))
      refine U_call rfl rfl (Tryd.call52 _) (open_nil w7) ?_
      rintro r w8 ⟨rfl, rfl⟩
      unfold errV
      repeat (first | (with_reducible first | apply T_seq | apply T_region | apply U_nil | apply T_skip | apply T_block | apply T_inBlock | apply Cnd_t | apply Cnd_f | apply Cnd_not | apply Cnd_some | apply Cnd_none | apply Gd_nt | apply Gd_nf | apply Gd_some | apply Gd_none | apply Gd_want) | refine U_ar rfl rfl rfl (wrap_k (by simp only [wrapOk]; omega)) rfl ?_ | refine U_cv E rfl rfl rfl (wrap_k (by simp only [wrapOk]; omega)) rfl ?_ | refine U_pure E rfl rfl ?_ | refine T_exit rfl ?_ | refine T_condV rfl ?_ | refine U_guard rfl rfl ?_ | ((with_reducible refine Gd_skipT ?_ ?_); exact rfl) | ((with_reducible refine Gd_skipF ?_ ?_); exact rfl))
      refine U_call rfl rfl (Tryd.call28 _) (code_err w8 3 (hL.mv k6 (fun x => x))) ?_
      rintro r w9 ⟨rfl, k9⟩
      have k09 := k6.tr k9 (fun _ _ x => x)
      repeat (first | (with_reducible first | apply T_seq | apply T_region | apply U_nil | apply T_skip | apply T_block | apply T_inBlock | apply Cnd_t | apply Cnd_f | apply Cnd_not | apply Cnd_some | apply Cnd_none | apply Gd_nt | apply Gd_nf | apply Gd_some | apply Gd_none | apply Gd_want) | refine U_ar rfl rfl rfl (wrap_k (by simp only [wrapOk]; omega)) rfl ?_ | refine U_cv E rfl rfl rfl (wrap_k (by simp only [wrapOk]; omega)) rfl ?_ | refine U_pure E rfl rfl ?_ | refine T_exit rfl ?_ | refine T_condV rfl ?_ | refine U_guard rfl rfl ?_ | refine U_guardU rfl rfl rfl ?_ | ((with_reducible refine Gd_skipT ?_ ?_); exact rfl) | ((with_reducible refine Gd_skipF ?_ ?_); exact rfl))
      refine Gd_b (fun e => absurd e (by decide)) (fun _ => ?_)
      repeat (first | (with_reducible first | apply T_seq | apply T_region | apply U_nil | apply T_skip | apply T_block | apply T_inBlock | apply Cnd_t | apply Cnd_f | apply Cnd_not | apply Cnd_some | apply Cnd_none | apply Gd_nt | apply Gd_nf | apply Gd_some | apply Gd_none | apply Gd_want) | refine U_ar rfl rfl rfl (wrap_k (by simp only [wrapOk]; omega)) rfl ?_ | refine U_cv E rfl rfl rfl (wrap_k (by simp only [wrapOk]; omega)) rfl ?_ | refine U_pure E rfl rfl ?_ | refine T_exit rfl ?_ | refine T_condV rfl ?_ | refine U_guard rfl rfl ?_ | refine U_guardU rfl rfl rfl ?_ | ((with_reducible refine Gd_skipT ?_ ?_); exact rfl) | ((with_reducible refine Gd_skipF ?_ ?_); exact rfl))
      refine U_call rfl rfl (Tryd.call28 _) (code_err w9 3 (hL.mv k09 (fun x => x))) ?_
      rintro r w10 ⟨rfl, k10⟩
      have k010 := k09.tr k10 (fun _ _ x => x)
      repeat (first | (with_reducible first | apply T_seq | apply T_region | apply U_nil | apply T_skip | apply T_block | apply T_inBlock | apply Cnd_t | apply Cnd_f | apply Cnd_not | apply Cnd_some | apply Cnd_none | apply Gd_nt | apply Gd_nf | apply Gd_some | apply Gd_none | apply Gd_want) | refine U_ar rfl rfl rfl (wrap_k (by simp only [wrapOk]; omega)) rfl ?_ | refine U_cv E rfl rfl rfl (wrap_k (by simp only [wrapOk]; omega)) rfl ?_ | refine U_pure E rfl rfl ?_ | refine T_exit rfl ?_ | refine T_condV rfl ?_ | refine U_guard rfl rfl ?_ | refine U_guardU rfl rfl rfl ?_ | ((with_reducible refine Gd_skipT ?_ ?_); exact rfl) | ((with_reducible refine Gd_skipF ?_ ?_); exact rfl))
      refine Gd_b (fun e => absurd e (by decide)) (fun _ => ?_)
      repeat (first | (with_reducible first | apply T_seq | apply T_region | apply U_nil | apply T_skip | apply T_block | apply T_inBlock | apply Cnd_t | apply Cnd_f | apply Cnd_not | apply Cnd_some | apply Cnd_none | apply Gd_nt | apply Gd_nf | apply Gd_some | apply Gd_none | apply Gd_want) | refine U_ar rfl rfl rfl (wrap_k (by simp only [wrapOk]; omega)) rfl ?_ | refine U_cv E rfl rfl rfl (wrap_k (by simp only [wrapOk]; omega)) rfl ?_ | refine U_pure E rfl rfl ?_ | refine T_exit rfl ?_ | refine T_condV rfl ?_ | refine U_guard rfl rfl ?_ | refine U_guardU rfl rfl rfl ?_ | ((with_reducible refine Gd_skipT ?_ ?_); exact rfl) | ((with_reducible refine Gd_skipF ?_ ?_); exact rfl))
      refine U_call rfl rfl (Tryd.call53 _) (append_nil w10 rp) ?_
      rintro r w11 ⟨rfl, rfl⟩
      unfold errV
      repeat (first | (with_reducible first | apply T_seq | apply T_region | apply U_nil | apply T_skip | apply T_block | apply T_inBlock | apply Cnd_t | apply Cnd_f | apply Cnd_not | apply Cnd_some | apply Cnd_none | apply Gd_nt | apply Gd_nf | apply Gd_some | apply Gd_none | apply Gd_want) | refine U_ar rfl rfl rfl (wrap_k (by simp only [wrapOk]; omega)) rfl ?_ | refine U_cv E rfl rfl rfl (wrap_k (by simp only [wrapOk]; omega)) rfl ?_ | refine U_pure E rfl rfl ?_ | refine T_exit rfl ?_ | refine T_condV rfl ?_ | refine U_guard rfl rfl ?_ | refine U_guardU rfl rfl rfl ?_ | ((with_reducible refine Gd_skipT ?_ ?_); exact rfl) | ((with_reducible refine Gd_skipF ?_ ?_); exact rfl))
      refine U_call rfl rfl (Tryd.call28 _) (code_err w11 3 (hL.mv k010 (fun x => x))) ?_
      rintro r w12 ⟨rfl, k12⟩
      have k012 := k010.tr k12 (fun _ _ x => x)
      repeat (first | (with_reducible first | apply T_seq | apply T_region | apply U_nil | apply T_skip | apply T_block | apply T_inBlock | apply Cnd_t | apply Cnd_f | apply Cnd_not | apply Cnd_some | apply Cnd_none | apply Gd_nt | apply Gd_nf | apply Gd_some | apply Gd_none | apply Gd_want) | refine U_ar rfl rfl rfl (wrap_k (by simp only [wrapOk]; omega)) rfl ?_ | refine U_cv E rfl rfl rfl (wrap_k (by simp only [wrapOk]; omega)) rfl ?_ | refine U_pure E rfl rfl ?_ | refine T_exit rfl ?_ | refine T_condV rfl ?_ | refine U_guard rfl rfl ?_ | refine U_guardU rfl rfl rfl ?_ | ((with_reducible refine Gd_skipT ?_ ?_); exact rfl) | ((with_reducible refine Gd_skipF ?_ ?_); exact rfl))
      refine Gd_b (fun e => absurd e (by decide)) (fun _ => ?_)
      repeat (first | (with_reducible first | apply T_seq | apply T_region | apply U_nil | apply T_skip | apply T_block | apply T_inBlock | apply Cnd_t | apply Cnd_f | apply Cnd_not | apply Cnd_some | apply Cnd_none | apply Gd_nt | apply Gd_nf | apply Gd_some | apply Gd_none | apply Gd_want) | refine U_ar rfl rfl rfl (wrap_k (by simp only [wrapOk]; omega)) rfl ?_ | refine U_cv E rfl rfl rfl (wrap_k (by simp only [wrapOk]; omega)) rfl ?_ | refine U_pure E rfl rfl ?_ | refine T_exit rfl ?_ | refine T_condV rfl ?_ | refine U_guard rfl rfl ?_ | refine U_guardU rfl rfl rfl ?_ | ((with_reducible refine Gd_skipT ?_ ?_); exact rfl) | ((with_reducible refine Gd_skipF ?_ ?_); exact rfl))
      refine U_call rfl rfl (Tryd.call51 _) (rflush_nil w12) ?_
      rintro r w13 ⟨rfl, rfl⟩
      unfold errV
      repeat (first | (with_reducible first | apply T_seq | apply T_region | apply U_nil | apply T_skip | apply T_block | apply T_inBlock | apply Cnd_t | apply Cnd_f | apply Cnd_not | apply Cnd_some | apply Cnd_none | apply Gd_nt | apply Gd_nf | apply Gd_some | apply Gd_none | apply Gd_want) | refine U_ar rfl rfl rfl (wrap_k (by simp only [wrapOk]; omega)) rfl ?_ | refine U_cv E rfl rfl rfl (wrap_k (by simp only [wrapOk]; omega)) rfl ?_ | refine U_pure E rfl rfl ?_ | refine T_exit rfl ?_ | refine T_condV rfl ?_ | refine U_guard rfl rfl ?_ | refine U_guardU rfl rfl rfl ?_ | ((with_reducible refine Gd_skipT ?_ ?_); exact rfl) | ((with_reducible refine Gd_skipF ?_ ?_); exact rfl))
      refine U_call rfl rfl (Tryd.call28 _) (code_err w13 3 (hL.mv k012 (fun x => x))) ?_
      rintro r w14 ⟨rfl, k14⟩
      have k014 := k012.tr k14 (fun _ _ x => x)
      repeat (first | (with_reducible first | apply T_seq | apply T_region | apply U_nil | apply T_skip | apply T_block | apply T_inBlock | apply Cnd_t | apply Cnd_f | apply Cnd_not | apply Cnd_some | apply Cnd_none | apply Gd_nt | apply Gd_nf | apply Gd_some | apply Gd_none | apply Gd_want) | refine U_ar rfl rfl rfl (wrap_k (by simp only [wrapOk]; omega)) rfl ?_ | refine U_cv E rfl rfl rfl (wrap_k (by simp only [wrapOk]; omega)) rfl ?_ | refine U_pure E rfl rfl ?_ | refine T_exit rfl ?_ | refine T_condV rfl ?_ | refine U_guard rfl rfl ?_ | refine U_guardU rfl rfl rfl ?_ | ((with_reducible refine Gd_skipT ?_ ?_); exact rfl) | ((with_reducible refine Gd_skipF ?_ ?_); exact rfl))
      refine Gd_b (fun e => absurd e (by decide)) (fun _ => ?_)
      repeat (first | (with_reducible first | apply T_seq | apply T_region | apply U_nil | apply T_skip | apply T_block | apply T_inBlock | apply Cnd_t | apply Cnd_f | apply Cnd_not | apply Cnd_some | apply Cnd_none | apply Gd_nt | apply Gd_nf | apply Gd_some | apply Gd_none | apply Gd_want) | refine U_ar rfl rfl rfl (wrap_k (by simp only [wrapOk]; omega)) rfl ?_ | refine U_cv E rfl rfl rfl (wrap_k (by simp only [wrapOk]; omega)) rfl ?_ | refine U_pure E rfl rfl ?_ | refine T_exit rfl ?_ | refine T_condV rfl ?_ | refine U_guard rfl rfl ?_ | refine U_guardU rfl rfl rfl ?_ | ((with_reducible refine Gd_skipT ?_ ?_); exact rfl) | ((with_reducible refine Gd_skipF ?_ ?_); exact rfl))
      refine U_call rfl rfl (Tryd.call57 _) (rturn_nil w14 rp) ?_
      rintro r w15 ⟨rfl, rfl⟩
      unfold errV
      repeat (first | (with_reducible first | apply T_seq | apply T_region | apply U_nil | apply T_skip | apply T_block | apply T_inBlock | apply Cnd_t | apply Cnd_f | apply Cnd_not | apply Cnd_some | apply Cnd_none | apply Gd_nt | apply Gd_nf | apply Gd_some | apply Gd_none | apply Gd_want) | refine U_ar rfl rfl rfl (wrap_k (by simp only [wrapOk]; omega)) rfl ?_ | refine U_cv E rfl rfl rfl (wrap_k (by simp only [wrapOk]; omega)) rfl ?_ | refine U_pure E rfl rfl ?_ | refine T_exit rfl ?_ | refine T_condV rfl ?_ | refine U_guard rfl rfl ?_ | refine U_guardU rfl rfl rfl ?_ | ((with_reducible refine Gd_skipT ?_ ?_); exact rfl) | ((with_reducible refine Gd_skipF ?_ ?_); exact rfl))
      refine U_call rfl rfl (Tryd.call28 _) (code_err w15 3 (hL.mv k014 (fun x => x))) ?_
      rintro r w16 ⟨rfl, k16⟩
      have k016 := k014.tr k16 (fun _ _ x => x)
      have k616 := (((k9.tr k10 (fun _ _ x => x)).tr k12 (fun _ _ x => x)).tr k14 (fun _ _ x => x)).tr k16 (fun _ _ x => x)
      repeat (first | (with_reducible first | apply T_seq | apply T_region | apply U_nil | apply T_skip | apply T_block | apply T_inBlock | apply Cnd_t | apply Cnd_f | apply Cnd_not | apply Cnd_some | apply Cnd_none | apply Gd_nt | apply Gd_nf | apply Gd_some | apply Gd_none | apply Gd_want) | refine U_ar rfl rfl rfl (wrap_k (by simp only [wrapOk]; omega)) rfl ?_ | refine U_cv E rfl rfl rfl (wrap_k (by simp only [wrapOk]; omega)) rfl ?_ | refine U_pure E rfl rfl ?_ | refine T_exit rfl ?_ | refine T_condV rfl ?_ | refine U_guard rfl rfl ?_ | refine U_guardU rfl rfl rfl ?_ | ((with_reducible refine Gd_skipT ?_ ?_); exact rfl) | ((with_reducible refine Gd_skipF ?_ ?_); exact rfl))
      refine Gd_b (fun e => absurd e (by decide)) (fun _ => ?_)
      repeat (first | (with_reducible first | apply T_seq | apply T_region | apply U_nil | apply T_skip | apply T_block | apply T_inBlock | apply Cnd_t | apply Cnd_f | apply Cnd_not | apply Cnd_some | apply Cnd_none | apply Gd_nt | apply Gd_nf | apply Gd_some | apply Gd_none | apply Gd_want) | refine U_ar rfl rfl rfl (wrap_k (by simp only [wrapOk]; omega)) rfl ?_ | refine U_cv E rfl rfl rfl (wrap_k (by simp only [wrapOk]; omega)) rfl ?_ | refine U_pure E rfl rfl ?_ | refine T_exit rfl ?_ | refine T_condV rfl ?_ | refine U_guard rfl rfl ?_ | refine U_guardU rfl rfl rfl ?_ | ((with_reducible refine Gd_skipT ?_ ?_); exact rfl) | ((with_reducible refine Gd_skipF ?_ ?_); exact rfl))
      refine U_call rfl rfl (Tryd.call55 _) (records_nil w16) ?_
      rintro r w17 ⟨rfl, rfl⟩
      repeat (first | (with_reducible first | apply T_seq | apply T_region | apply U_nil | apply T_skip | apply T_block | apply T_inBlock | apply Cnd_t | apply Cnd_f | apply Cnd_not | apply Cnd_some | apply Cnd_none | apply Gd_nt | apply Gd_nf | apply Gd_some | apply Gd_none | apply Gd_want) | refine U_ar rfl rfl rfl (wrap_k (by simp only [wrapOk]; omega)) rfl ?_ | refine U_cv E rfl rfl rfl (wrap_k (by simp only [wrapOk]; omega)) rfl ?_ | refine U_pure E rfl rfl ?_ | refine T_exit rfl ?_ | refine T_condV rfl ?_ | refine U_guard rfl rfl ?_ | refine U_guardU rfl rfl rfl ?_ | ((with_reducible refine Gd_skipT ?_ ?_); exact rfl) | ((with_reducible refine Gd_skipF ?_ ?_); exact rfl))
      refine U_call rfl rfl (Tryd.call61 _) (count_nil w17) ?_
      rintro r w18 ⟨rfl, rfl⟩
      repeat (first | (with_reducible first | apply T_seq | apply T_region | apply U_nil | apply T_skip | apply T_block | apply T_inBlock | apply Cnd_t | apply Cnd_f | apply Cnd_not | apply Cnd_some | apply Cnd_none | apply Gd_nt | apply Gd_nf | apply Gd_some | apply Gd_none | apply Gd_want) | refine U_ar rfl rfl rfl (wrap_k (by simp only [wrapOk]; omega)) rfl ?_ | refine U_cv E rfl rfl rfl (wrap_k (by simp only [wrapOk]; omega)) rfl ?_ | refine U_pure E rfl rfl ?_ | refine T_exit rfl ?_ | refine T_condV rfl ?_ | refine U_guard rfl rfl ?_ | refine U_guardU rfl rfl rfl ?_ | ((with_reducible refine Gd_skipT ?_ ?_); exact rfl) | ((with_reducible refine Gd_skipF ?_ ?_); exact rfl))
      refine U_call rfl rfl (Tryd.call56 _) (gen_nil w18) ?_
      rintro r w19 ⟨rfl, rfl⟩
      repeat (first | (with_reducible first | apply T_seq | apply T_region | apply U_nil | apply T_skip | apply T_block | apply T_inBlock | apply Cnd_t | apply Cnd_f | apply Cnd_not | apply Cnd_some | apply Cnd_none | apply Gd_nt | apply Gd_nf | apply Gd_some | apply Gd_none | apply Gd_want) | refine U_ar rfl rfl rfl (wrap_k (by simp only [wrapOk]; omega)) rfl ?_ | refine U_cv E rfl rfl rfl (wrap_k (by simp only [wrapOk]; omega)) rfl ?_ | refine U_pure E rfl rfl ?_ | refine T_exit rfl ?_ | refine T_condV rfl ?_ | refine U_guard rfl rfl ?_ | refine U_guardU rfl rfl rfl ?_ | ((with_reducible refine Gd_skipT ?_ ?_); exact rfl) | ((with_reducible refine Gd_skipF ?_ ?_); exact rfl))
      refine U_call rfl rfl (Tryd.call60 _) (room_nil w19) ?_
      rintro r w20 ⟨rfl, rfl⟩
      repeat (first | (with_reducible first | apply T_seq | apply T_region | apply U_nil | apply T_skip | apply T_block | apply T_inBlock | apply Cnd_t | apply Cnd_f | apply Cnd_not | apply Cnd_some | apply Cnd_none | apply Gd_nt | apply Gd_nf | apply Gd_some | apply Gd_none | apply Gd_want) | refine U_ar rfl rfl rfl (wrap_k (by simp only [wrapOk]; omega)) rfl ?_ | refine U_cv E rfl rfl rfl (wrap_k (by simp only [wrapOk]; omega)) rfl ?_ | refine U_pure E rfl rfl ?_ | refine T_exit rfl ?_ | refine T_condV rfl ?_ | refine U_guard rfl rfl ?_ | refine U_guardU rfl rfl rfl ?_ | ((with_reducible refine Gd_skipT ?_ ?_); exact rfl) | ((with_reducible refine Gd_skipF ?_ ?_); exact rfl))
      refine Cnd_b (fun e => absurd e (by decide)) (fun _ => ?_)
      have hp20 := hp6.mv k616 (fun _ _ _ x => x)
      repeat (first | (with_reducible first | apply T_seq | apply T_region | apply U_nil | apply T_skip | apply T_block | apply T_inBlock | apply Cnd_t | apply Cnd_f | apply Cnd_not | apply Cnd_some | apply Cnd_none | apply Gd_nt | apply Gd_nf | apply Gd_some | apply Gd_none | apply Gd_want) | refine U_ar rfl rfl rfl (wrap_k (by simp only [wrapOk]; omega)) rfl ?_ | refine U_cv E rfl rfl rfl (wrap_k (by simp only [wrapOk]; omega)) rfl ?_ | refine U_pure E rfl rfl ?_ | refine T_exit rfl ?_ | refine T_condV rfl ?_ | refine U_guard rfl rfl ?_ | refine U_guardU rfl rfl rfl ?_ | ((with_reducible refine Gd_skipT ?_ ?_); exact rfl) | ((with_reducible refine Gd_skipF ?_ ?_); exact rfl))
      refine Cnd_p (fun h6 => ?_) (fun h6 => ?_)
      · rcases hcase with ⟨_, hD6, q6, rfl, rfl⟩ | ⟨e, _⟩
        · have hop := open_rc w20 F6 hdb D6 (hD6.same k616) (by omega) (by omega)
          rw [show opF D6 = (1, D6) by rw [opF, if_pos (by omega)]] at hop
          unfold ptr errV at *
          repeat (first | (with_reducible first | apply T_seq | apply T_region | apply U_nil | apply T_skip | apply T_block | apply T_inBlock | apply Cnd_t | apply Cnd_f | apply Cnd_not | apply Cnd_some | apply Cnd_none | apply Gd_nt | apply Gd_nf | apply Gd_some | apply Gd_none | apply Gd_want) | refine U_ar rfl rfl rfl (wrap_k (by simp only [wrapOk]; omega)) rfl ?_ | refine U_cv E rfl rfl rfl (wrap_k (by simp only [wrapOk]; omega)) rfl ?_ | refine U_pure E rfl rfl ?_ | refine T_exit rfl ?_ | refine T_condV rfl ?_ | refine U_guard rfl rfl ?_ | refine U_guardU rfl rfl rfl ?_ | ((with_reducible refine Gd_skipT ?_ ?_); exact rfl) | ((with_reducible refine Gd_skipF ?_ ?_); exact rfl))
          refine U_call rfl rfl (Tryd.call52 _) (hop) ?_
          rintro r w21 ⟨F21, o21, h21, hcase⟩
          have k021 := o21.done k016 (fun b e => by have := hn6 b (.inl e); omega)
          rcases hcase with ⟨_, rfl⟩ | ⟨e, _⟩
          · repeat (first | (with_reducible first | apply T_seq | apply T_region | apply U_nil | apply T_skip | apply T_block | apply T_inBlock | apply Cnd_t | apply Cnd_f | apply Cnd_not | apply Cnd_some | apply Cnd_none | apply Gd_nt | apply Gd_nf | apply Gd_some | apply Gd_none | apply Gd_want) | refine U_ar rfl rfl rfl (wrap_k (by simp only [wrapOk]; omega)) rfl ?_ | refine U_cv E rfl rfl rfl (wrap_k (by simp only [wrapOk]; omega)) rfl ?_ | refine U_pure E rfl rfl ?_ | refine T_exit rfl ?_ | refine T_condV rfl ?_ | refine U_guard rfl rfl ?_ | refine U_guardU rfl rfl rfl ?_ | ((with_reducible refine Gd_skipT ?_ ?_); exact rfl) | ((with_reducible refine Gd_skipF ?_ ?_); exact rfl))
            refine U_call rfl rfl (Tryd.call28 _) (code_err w21 1 (hL.mv k021 (fun x => x))) ?_
            rintro r w22 ⟨rfl, k22⟩
            have k022 := k021.tr k22 (fun _ _ x => x)
            repeat (first | (with_reducible first | apply T_seq | apply T_region | apply U_nil | apply T_skip | apply T_block | apply T_inBlock | apply Cnd_t | apply Cnd_f | apply Cnd_not | apply Cnd_some | apply Cnd_none | apply Gd_nt | apply Gd_nf | apply Gd_some | apply Gd_none | apply Gd_want) | refine U_ar rfl rfl rfl (wrap_k (by simp only [wrapOk]; omega)) rfl ?_ | refine U_cv E rfl rfl rfl (wrap_k (by simp only [wrapOk]; omega)) rfl ?_ | refine U_pure E rfl rfl ?_ | refine T_exit rfl ?_ | refine T_condV rfl ?_ | refine U_guard rfl rfl ?_ | refine U_guardU rfl rfl rfl ?_ | ((with_reducible refine Gd_skipT ?_ ?_); exact rfl) | ((with_reducible refine Gd_skipF ?_ ?_); exact rfl))
            refine Gd_b (fun _ => ?_) (fun e => absurd e (by decide))
            repeat (first | (with_reducible first | apply T_seq | apply T_region | apply U_nil | apply T_skip | apply T_block | apply T_inBlock | apply Cnd_t | apply Cnd_f | apply Cnd_not | apply Cnd_some | apply Cnd_none | apply Gd_nt | apply Gd_nf | apply Gd_some | apply Gd_none | apply Gd_want) | refine U_ar rfl rfl rfl (wrap_k (by simp only [wrapOk]; omega)) rfl ?_ | refine U_cv E rfl rfl rfl (wrap_k (by simp only [wrapOk]; omega)) rfl ?_ | refine U_pure E rfl rfl ?_ | refine T_exit rfl ?_ | refine T_condV rfl ?_ | refine U_guard rfl rfl ?_ | refine U_guardU rfl rfl rfl ?_ | ((with_reducible refine Gd_skipT ?_ ?_); exact rfl) | ((with_reducible refine Gd_skipF ?_ ?_); exact rfl))
            refine U_call rfl rfl (Tryd.call28 _) (code_err w22 1 (hL.mv k022 (fun x => x))) ?_
            rintro r w23 ⟨rfl, k23⟩
            repeat (first | (with_reducible first | apply T_seq | apply T_region | apply U_nil | apply T_skip | apply T_block | apply T_inBlock | apply Cnd_t | apply Cnd_f | apply Cnd_not | apply Cnd_some | apply Cnd_none | apply Gd_nt | apply Gd_nf | apply Gd_some | apply Gd_none | apply Gd_want) | refine U_ar rfl rfl rfl (wrap_k (by simp only [wrapOk]; omega)) rfl ?_ | refine U_cv E rfl rfl rfl (wrap_k (by simp only [wrapOk]; omega)) rfl ?_ | refine U_pure E rfl rfl ?_ | refine T_exit rfl ?_ | refine T_condV rfl ?_ | refine U_guard rfl rfl ?_ | refine U_guardU rfl rfl rfl ?_ | ((with_reducible refine Gd_skipT ?_ ?_); exact rfl) | ((with_reducible refine Gd_skipF ?_ ?_); exact rfl))
            refine Gd_b (fun _ => ?_) (fun e => absurd e (by decide))
            repeat (first | (with_reducible first | apply T_seq | apply T_region | apply U_nil | apply T_skip | apply T_block | apply T_inBlock | apply Cnd_t | apply Cnd_f | apply Cnd_not | apply Cnd_some | apply Cnd_none | apply Gd_nt | apply Gd_nf | apply Gd_some | apply Gd_none | apply Gd_want) | refine U_ar rfl rfl rfl (wrap_k (by simp only [wrapOk]; omega)) rfl ?_ | refine U_cv E rfl rfl rfl (wrap_k (by simp only [wrapOk]; omega)) rfl ?_ | refine U_pure E rfl rfl ?_ | refine T_exit rfl ?_ | refine T_condV rfl ?_ | refine U_guard rfl rfl ?_ | refine U_guardU rfl rfl rfl ?_ | ((with_reducible refine Gd_skipT ?_ ?_); exact rfl) | ((with_reducible refine Gd_skipF ?_ ?_); exact rfl))
            exact T_ret1 Tryd.func16 rfl rfl ⟨_, rfl, rfl, k022.tr k23 (fun _ _ x => x)⟩
          · exact absurd e (fun e => by injection e)
        · exfalso; omega
      · rcases hcase with ⟨e, _⟩ | ⟨h6S, hR6, v6, rfl, rfl⟩
        · exfalso; omega
        · have hR20 := hR6.same k616
          have hrc := records_r hR20.rl
          have hlt20 := hR20.lt
          unfold ptr at *
          repeat (first | (with_reducible first | apply T_seq | apply T_region | apply U_nil | apply T_skip | apply T_block | apply T_inBlock | apply Cnd_t | apply Cnd_f | apply Cnd_not | apply Cnd_some | apply Cnd_none | apply Gd_nt | apply Gd_nf | apply Gd_some | apply Gd_none | apply Gd_want) | refine U_ar rfl rfl rfl (wrap_k (by simp only [wrapOk]; omega)) rfl ?_ | refine U_cv E rfl rfl rfl (wrap_k (by simp only [wrapOk]; omega)) rfl ?_ | refine U_pure E rfl rfl ?_ | refine T_exit rfl ?_ | refine T_condV rfl ?_ | refine U_guard rfl rfl ?_ | refine U_guardU rfl rfl rfl ?_ | ((with_reducible refine Gd_skipT ?_ ?_); exact rfl) | ((with_reducible refine Gd_skipF ?_ ?_); exact rfl))
          refine U_call rfl rfl (Tryd.call55 _) (hrc) ?_
          rintro rv w21 ⟨k21, us, u1, u2, u3⟩
          have hul : us.length = 1 := u1
          have hu0 := u3 0 us[0] P (List.getElem?_eq_getElem (by omega)) rfl
          have husl := u2.sl (by omega)
          obtain ⟨Au, cu, rfl⟩ := u2.val
          have hR21 := hR20.same k21
          have hp21 := hp20.mv k21 (fun _ _ _ x => x)
          have s20 := k016.size
          have s620 := k616.size
          repeat (first | (with_reducible first | apply T_seq | apply T_region | apply U_nil | apply T_skip | apply T_inBlock | apply Cnd_t | apply Cnd_f | apply Cnd_not | apply Cnd_some | apply Cnd_none | apply Gd_nt | apply Gd_nf | apply Gd_some | apply Gd_none | apply Gd_want) | refine U_ar rfl rfl rfl (wrap_k (by simp only [wrapOk]; omega)) rfl ?_ | refine U_cv E rfl rfl rfl (wrap_k (by simp only [wrapOk]; omega)) rfl ?_ | refine U_pure E rfl rfl ?_ | refine T_exit rfl ?_ | refine T_condV rfl ?_ | refine U_guard rfl rfl ?_ | refine U_guardU rfl rfl rfl ?_ | ((with_reducible refine Gd_skipT ?_ ?_); exact rfl) | ((with_reducible refine Gd_skipF ?_ ?_); exact rfl))
          refine T_via (α := Unit) (fun _ => [(12, .pointer (some ⟨rb, 0, none⟩)), (13, .nilIface), (8, .pointer (some ⟨hdb, 0, none⟩)), (1, rp)])
            (fun _ w' => Kept (fresh w20) w21 w') ?fin2 ?go2
          case go2 =>
            intro fin
            refine T_block ?_
            refine T_loop (α := Nat × World) (fun x => [(136, .int .i64 x.1), (135, .int .i64 us.length), (134, .slice Au us.length cu), (12, .pointer (some ⟨rb, 0, none⟩)), (13, .nilIface), (8, .pointer (some ⟨hdb, 0, none⟩)), (1, rp)]) (fun x => x.2) (fun x => us.length - x.1)
              (fun x => x.1 ≤ us.length ∧ Kept (fresh w20) w21 x.2 ∧ (x.1 = 0 → x.2 = w21)) (0, w21) ⟨Nat.zero_le _, Kept.refl _ _, fun _ => rfl⟩ ?hsub2 rfl ?_
            case hsub2 => exact ⟨rfl, rfl, rfl, rfl, rfl, rfl, rfl, trivial⟩
            rintro ⟨i, w22⟩ ⟨hi, k22, e22⟩ ih
            dsimp only at hi k22 e22 ⊢
            repeat (first | (with_reducible first | apply T_seq | apply T_region | apply U_nil | apply T_skip | apply T_block | apply T_inBlock | apply Cnd_t | apply Cnd_f | apply Cnd_not | apply Cnd_some | apply Cnd_none | apply Gd_nt | apply Gd_nf | apply Gd_some | apply Gd_none | apply Gd_want) | refine U_ar rfl rfl rfl (wrap_k (by simp only [wrapOk]; omega)) rfl ?_ | refine U_cv E rfl rfl rfl (wrap_k (by simp only [wrapOk]; omega)) rfl ?_ | refine U_pure E rfl rfl ?_ | refine T_exit rfl ?_ | refine T_condV rfl ?_ | refine U_guard rfl rfl ?_ | ((with_reducible refine Gd_skipT ?_ ?_); exact rfl) | ((with_reducible refine Gd_skipF ?_ ?_); exact rfl))
            refine Cnd_p (fun hlt => ?_) (fun hlt => ?_)
            · have hi0 : i = 0 := by omega
              subst hi0
              have e22 := e22 rfl
              subst e22
              repeat (first | (with_reducible first | apply T_seq | apply T_region | apply U_nil | apply T_skip | apply T_block | apply T_inBlock | apply Cnd_t | apply Cnd_f | apply Cnd_not | apply Cnd_some | apply Cnd_none | apply Gd_nt | apply Gd_nf | apply Gd_some | apply Gd_none | apply Gd_want) | refine U_ar rfl rfl rfl (wrap_k (by simp only [wrapOk]; omega)) rfl ?_ | refine U_cv E rfl rfl rfl (wrap_k (by simp only [wrapOk]; omega)) rfl ?_ | refine U_pure E rfl rfl ?_ | refine T_exit rfl ?_ | refine T_condV rfl ?_ | refine U_guard rfl rfl ?_ | ((with_reducible refine Gd_skipT ?_ ?_); exact rfl) | ((with_reducible refine Gd_skipF ?_ ?_); exact rfl))
              refine U_idx E (husl) rfl rfl rfl rfl (by omega) (by omega) ((show us[((0 : Nat) : Int).toNat]? = some us[0] from List.getElem?_eq_getElem (by omega))) rfl (fun qq hqq => ?_)
              obtain ⟨Aq, cq, hqe⟩ := hu0.val
              rw [hqe] at hqq hu0
              repeat (first | (with_reducible first | apply T_seq | apply T_region | apply U_nil | apply T_skip | apply T_block | apply T_inBlock | apply Cnd_t | apply Cnd_f | apply Cnd_not | apply Cnd_some | apply Cnd_none | apply Gd_nt | apply Gd_nf | apply Gd_some | apply Gd_none | apply Gd_want) | refine U_ar rfl rfl rfl (wrap_k (by simp only [wrapOk]; omega)) rfl ?_ | refine U_cv E rfl rfl rfl (wrap_k (by simp only [wrapOk]; omega)) rfl ?_ | refine U_pure E rfl rfl ?_ | refine T_exit rfl ?_ | refine T_condV rfl ?_ | refine U_guard rfl rfl ?_ | ((with_reducible refine Gd_skipT ?_ ?_); exact rfl) | ((with_reducible refine Gd_skipF ?_ ?_); exact rfl))
              refine U_load E rfl rfl rfl hqq rfl ?_
              repeat (first | (with_reducible first | apply T_seq | apply T_region | apply U_nil | apply T_skip | apply T_block | apply T_inBlock | apply Cnd_t | apply Cnd_f | apply Cnd_not | apply Cnd_some | apply Cnd_none | apply Gd_nt | apply Gd_nf | apply Gd_some | apply Gd_none | apply Gd_want) | refine U_ar rfl rfl rfl (wrap_k (by simp only [wrapOk]; omega)) rfl ?_ | refine U_cv E rfl rfl rfl (wrap_k (by simp only [wrapOk]; omega)) rfl ?_ | refine U_pure E rfl rfl ?_ | refine T_exit rfl ?_ | refine T_condV rfl ?_ | refine U_guard rfl rfl ?_ | ((with_reducible refine Gd_skipT ?_ ?_); exact rfl) | ((with_reducible refine Gd_skipF ?_ ?_); exact rfl))
              refine T_loop (α := Nat × World) (fun x => [(142, .int .i64 x.1), (141, .int .i64 P.length), (22, .slice Aq P.length cq), (136, .int .i64 (0 : Nat)), (135, .int .i64 us.length), (134, .slice Au us.length cu), (12, .pointer (some ⟨rb, 0, none⟩)), (13, .nilIface), (8, .pointer (some ⟨hdb, 0, none⟩)), (1, rp)]) (fun x => x.2) (fun x => P.length - x.1)
                (fun x => x.1 ≤ P.length ∧ Kept (fresh w20) w22 x.2 ∧ (P.length = 0 ∨ ∃ g, Aq = some ⟨g, 0, none⟩ ∧ w20.heap.size ≤ g ∧ IntsN x.2 g P.length)) (0, w22)
                ⟨Nat.zero_le _, Kept.refl _ _, ?_⟩ ?hsub3 rfl ?_
              case hsub3 => exact ⟨rfl, rfl, rfl, rfl, rfl, rfl, rfl, rfl, rfl, rfl, trivial⟩
              · rcases Nat.eq_zero_or_pos P.length with h0 | h0
                · exact .inl h0
                · obtain ⟨g, cap, pad, e, hg, hbl, _, _⟩ := hu0.pos h0
                  injection e with e1 e2 e3
                  exact .inr ⟨g, e1, hg.1, IntsN.of_bs hbl rfl⟩
              · rintro ⟨k, w23⟩ ⟨hk, k23, hI⟩ ih2
                dsimp only at hk k23 hI ⊢
                repeat (first | (with_reducible first | apply T_seq | apply T_region | apply U_nil | apply T_skip | apply T_block | apply T_inBlock | apply Cnd_t | apply Cnd_f | apply Cnd_not | apply Cnd_some | apply Cnd_none | apply Gd_nt | apply Gd_nf | apply Gd_some | apply Gd_none | apply Gd_want) | refine U_ar rfl rfl rfl (wrap_k (by simp only [wrapOk]; omega)) rfl ?_ | refine U_cv E rfl rfl rfl (wrap_k (by simp only [wrapOk]; omega)) rfl ?_ | refine U_pure E rfl rfl ?_ | refine T_exit rfl ?_ | refine T_condV rfl ?_ | refine U_guard rfl rfl ?_ | ((with_reducible refine Gd_skipT ?_ ?_); exact rfl) | ((with_reducible refine Gd_skipF ?_ ?_); exact rfl))
                refine Cnd_p (fun hklt => ?_) (fun hklt => ?_)
                · obtain ⟨g, rfl, hg1, cs, t, hbl, hcl, hc⟩ := hI.resolve_left (by omega)
                  obtain ⟨z, hz⟩ := hc k (by omega)
                  repeat (first | (with_reducible first | apply T_seq | apply T_region | apply U_nil | apply T_skip | apply T_block | apply T_inBlock | apply Cnd_t | apply Cnd_f | apply Cnd_not | apply Cnd_some | apply Cnd_none | apply Gd_nt | apply Gd_nf | apply Gd_some | apply Gd_none | apply Gd_want) | refine U_ar rfl rfl rfl (wrap_k (by simp only [wrapOk]; omega)) rfl ?_ | refine U_cv E rfl rfl rfl (wrap_k (by simp only [wrapOk]; omega)) rfl ?_ | refine U_pure E rfl rfl ?_ | refine T_exit rfl ?_ | refine T_condV rfl ?_ | refine U_guard rfl rfl ?_ | ((with_reducible refine Gd_skipT ?_ ?_); exact rfl) | ((with_reducible refine Gd_skipF ?_ ?_); exact rfl))
                  refine U_indexS E rfl rfl rfl rfl (by omega) (by omega) (idx1 _) rfl ?_
                  refine U_loadB E hbl rfl rfl rfl hz rfl ?_
                  refine U_pure E rfl rfl ?_
                  repeat (first | (with_reducible first | apply T_seq | apply T_region | apply U_nil | apply T_skip | apply T_block | apply T_inBlock | apply Cnd_t | apply Cnd_f | apply Cnd_not | apply Cnd_some | apply Cnd_none | apply Gd_nt | apply Gd_nf | apply Gd_some | apply Gd_none | apply Gd_want) | refine U_ar rfl rfl rfl (wrap_k (by simp only [wrapOk]; omega)) rfl ?_ | refine U_cv E rfl rfl rfl (wrap_k (by simp only [wrapOk]; omega)) rfl ?_ | refine U_pure E rfl rfl ?_ | refine T_exit rfl ?_ | refine T_condV rfl ?_ | refine U_guard rfl rfl ?_ | ((with_reducible refine Gd_skipT ?_ ?_); exact rfl) | ((with_reducible refine Gd_skipF ?_ ?_); exact rfl))
                  refine U_indexS E rfl rfl rfl rfl (by omega) (by omega) (idx1 _) rfl ?_
                  refine U_store E (hbl) rfl rfl rfl (by omega) rfl ?_
                  intro w24 hu
                  repeat (first | (with_reducible first | apply T_seq | apply T_region | apply U_nil | apply T_skip | apply T_block | apply T_inBlock | apply Cnd_t | apply Cnd_f | apply Cnd_not | apply Cnd_some | apply Cnd_none | apply Gd_nt | apply Gd_nf | apply Gd_some | apply Gd_none | apply Gd_want) | refine U_ar rfl rfl rfl (wrap_k (by simp only [wrapOk]; omega)) rfl ?_ | refine U_cv E rfl rfl rfl (wrap_k (by simp only [wrapOk]; omega)) rfl ?_ | refine U_pure E rfl rfl ?_ | refine T_exit rfl ?_ | refine T_condV rfl ?_ | refine U_guard rfl rfl ?_ | ((with_reducible refine Gd_skipT ?_ ?_); exact rfl) | ((with_reducible refine Gd_skipF ?_ ?_); exact rfl))
                  refine T.less ?_ (ih2 (k + 1, w24) ⟨by omega, k23.tr hu.kept (fun j _ (e : j = g) => by simp only [fresh]; omega), .inr ⟨g, rfl, hg1, IntsN.set hu hcl hc⟩⟩ (by dsimp only; omega))
                  exact ⟨rfl, rfl, rfl, rfl, rfl, rfl, rfl, rfl, rfl, rfl, trivial⟩
                · repeat (first | (with_reducible first | apply T_seq | apply T_region | apply U_nil | apply T_skip | apply T_block | apply T_inBlock | apply Cnd_t | apply Cnd_f | apply Cnd_not | apply Cnd_some | apply Cnd_none | apply Gd_nt | apply Gd_nf | apply Gd_some | apply Gd_none | apply Gd_want) | refine U_ar rfl rfl rfl (wrap_k (by simp only [wrapOk]; omega)) rfl ?_ | refine U_cv E rfl rfl rfl (wrap_k (by simp only [wrapOk]; omega)) rfl ?_ | refine U_pure E rfl rfl ?_ | refine T_exit rfl ?_ | refine T_condV rfl ?_ | refine U_guard rfl rfl ?_ | ((with_reducible refine Gd_skipT ?_ ?_); exact rfl) | ((with_reducible refine Gd_skipF ?_ ?_); exact rfl))
                  refine T.less ?_ (ih (0 + 1, w23) ⟨by omega, k23, fun e => by omega⟩ (by dsimp only; omega))
                  exact ⟨rfl, rfl, rfl, rfl, rfl, rfl, rfl, trivial⟩
            · refine T_exit rfl ?_
              refine T.less ?_ (fin () w22 k22)
              exact ⟨rfl, rfl, rfl, rfl, trivial⟩
          case fin2 =>
            rintro ⟨⟩ w22 k22
            have hR22 := hR21.mv k22 (fun b e e2 => by have := hlt20 b e; simp only [fresh] at e2; omega)
            have hp22 := hp21.mv k22 (fun b _ e e2 => by simp only [fresh] at e2; omega)
            have k022 : Kept none0 w w22 := (k016.tr k21 (fun _ _ x => x)).tr k22 (fun j hj e => by simp only [fresh] at e; omega)
            have hfall := fall_c w22 F6 hdb D6 (fun _ => True) (.slice none 0 0) [] (-1) hR22.dm.isD (nil_bits _)
            unfold ptr at *
            repeat (first | (with_reducible first | apply T_seq | apply T_region | apply U_nil | apply T_skip | apply T_block | apply T_inBlock | apply Cnd_t | apply Cnd_f | apply Cnd_not | apply Cnd_some | apply Cnd_none | apply Gd_nt | apply Gd_nf | apply Gd_some | apply Gd_none | apply Gd_want) | refine U_ar rfl rfl rfl (wrap_k (by simp only [wrapOk]; omega)) rfl ?_ | refine U_cv E rfl rfl rfl (wrap_k (by simp only [wrapOk]; omega)) rfl ?_ | refine U_pure E rfl rfl ?_ | refine T_exit rfl ?_ | refine T_condV rfl ?_ | refine U_guard rfl rfl ?_ | ((with_reducible refine Gd_skipT ?_ ?_); exact rfl) | ((with_reducible refine Gd_skipF ?_ ?_); exact rfl))
            refine U_call rfl rfl (Tryd.call29 _) (hfall) ?_
            rintro r w23 ⟨k23, hb2, rfl, hD23⟩
            have hD23 := hD23.dm
            obtain ⟨f1, f2, f3⟩ := fall_on D6
            have hop := open_on w23 _ hb2 _ 1 [P] hD23 f1 (hR22.ri.fall v6) (by rw [fall_none]; exact (by decide : (0 : Nat) + 400000 < 1000000))
            unfold ptr at *
            repeat (first | (with_reducible first | apply T_seq | apply T_region | apply U_nil | apply T_skip | apply T_block | apply T_inBlock | apply Cnd_t | apply Cnd_f | apply Cnd_not | apply Cnd_some | apply Cnd_none | apply Gd_nt | apply Gd_nf | apply Gd_some | apply Gd_none | apply Gd_want) | refine U_ar rfl rfl rfl (wrap_k (by simp only [wrapOk]; omega)) rfl ?_ | refine U_cv E rfl rfl rfl (wrap_k (by simp only [wrapOk]; omega)) rfl ?_ | refine U_pure E rfl rfl ?_ | refine T_exit rfl ?_ | refine T_condV rfl ?_ | refine U_guard rfl rfl ?_ | ((with_reducible refine Gd_skipT ?_ ?_); exact rfl) | ((with_reducible refine Gd_skipF ?_ ?_); exact rfl))
            refine U_call rfl rfl (Tryd.call52 _) (hop) ?_
            rintro r w24 ⟨F24, Fr24, rb2, rfl, o24, h24, hFr24⟩
            have hR24 := (hR22.same k23).mv o24.kept (fun b e e2 => by have := hR22.lt b e; have := e2.1; omega)
            have k2224 : Kept none0 w22 w24 := o24.done k23 (fun b e => e.1)
            have hp24 := hp22.mv k2224 (fun _ _ _ x => x)
            have hrc := records_c h24.rl
            unfold ptr at *
            repeat (first | (with_reducible first | apply T_seq | apply T_region | apply U_nil | apply T_skip | apply T_block | apply T_inBlock | apply Cnd_t | apply Cnd_f | apply Cnd_not | apply Cnd_some | apply Cnd_none | apply Gd_nt | apply Gd_nf | apply Gd_some | apply Gd_none | apply Gd_want) | refine U_ar rfl rfl rfl (wrap_k (by simp only [wrapOk]; omega)) rfl ?_ | refine U_cv E rfl rfl rfl (wrap_k (by simp only [wrapOk]; omega)) rfl ?_ | refine U_pure E rfl rfl ?_ | refine T_exit rfl ?_ | refine T_condV rfl ?_ | refine U_guard rfl rfl ?_ | refine U_guardU rfl rfl rfl ?_ | ((with_reducible refine Gd_skipT ?_ ?_); exact rfl) | ((with_reducible refine Gd_skipF ?_ ?_); exact rfl))
            refine U_call rfl rfl (Tryd.call55 _) (hrc) ?_
            rintro r w25 ⟨k25, hs25⟩
            have hp25 := hp24.mv k25 (fun _ _ _ x => x)
            repeat (first | (with_reducible first | apply T_seq | apply T_region | apply U_nil | apply T_skip | apply T_block | apply T_inBlock | apply Cnd_t | apply Cnd_f | apply Cnd_not | apply Cnd_some | apply Cnd_none | apply Gd_nt | apply Gd_nf | apply Gd_some | apply Gd_none | apply Gd_want) | refine U_ar rfl rfl rfl (wrap_k (by simp only [wrapOk]; omega)) rfl ?_ | refine U_cv E rfl rfl rfl (wrap_k (by simp only [wrapOk]; omega)) rfl ?_ | refine U_pure E rfl rfl ?_ | refine T_exit rfl ?_ | refine T_condV rfl ?_ | refine U_guard rfl rfl ?_ | refine U_guardU rfl rfl rfl ?_ | ((with_reducible refine Gd_skipT ?_ ?_); exact rfl) | ((with_reducible refine Gd_skipF ?_ ?_); exact rfl))
            refine U_buildSlice (sz := 1) E rfl rfl rfl rfl rfl rfl rfl rfl (segs := [[rp]]) (by rw [List.map_cons, List.map_cons, bs_cells hp25]; rfl) (by simp) rfl ?_
            intro b26 w26 hn26
            have hS26 := rsame_c w26 _ _ _ _ [P] [P] (hs25.mv hn26.kept (fun _ _ _ x => x)) (RS.one hn26 hp25)
            rw [decide_eq_true rfl] at hS26
            repeat (first | (with_reducible first | apply T_seq | apply T_region | apply U_nil | apply T_skip | apply T_block | apply T_inBlock | apply Cnd_t | apply Cnd_f | apply Cnd_not | apply Cnd_some | apply Cnd_none | apply Gd_nt | apply Gd_nf | apply Gd_some | apply Gd_none | apply Gd_want) | refine U_ar rfl rfl rfl (wrap_k (by simp only [wrapOk]; omega)) rfl ?_ | refine U_cv E rfl rfl rfl (wrap_k (by simp only [wrapOk]; omega)) rfl ?_ | refine U_pure E rfl rfl ?_ | refine T_exit rfl ?_ | refine T_condV rfl ?_ | refine U_guard rfl rfl ?_ | refine U_guardU rfl rfl rfl ?_ | ((with_reducible refine Gd_skipT ?_ ?_); exact rfl) | ((with_reducible refine Gd_skipF ?_ ?_); exact rfl))
            refine U_call rfl rfl (Tryd.call54 _) (hS26) ?_
            rintro r w27 ⟨rfl, k27⟩
            have k2427 := (k25.tr hn26.kept (fun _ _ x => x)).tr k27 (fun _ _ x => x)
            have hR27 := hR24.same k2427
            have hp27 := hp24.mv k2427 (fun _ _ _ x => x)
            have hrc2 := records_c hR27.rl
            unfold ptr at *
            repeat (first | (with_reducible first | apply T_seq | apply T_region | apply U_nil | apply T_skip | apply T_block | apply T_inBlock | apply Cnd_t | apply Cnd_f | apply Cnd_not | apply Cnd_some | apply Cnd_none | apply Gd_nt | apply Gd_nf | apply Gd_some | apply Gd_none | apply Gd_want) | refine U_ar rfl rfl rfl (wrap_k (by simp only [wrapOk]; omega)) rfl ?_ | refine U_cv E rfl rfl rfl (wrap_k (by simp only [wrapOk]; omega)) rfl ?_ | refine U_pure E rfl rfl ?_ | refine T_exit rfl ?_ | refine T_condV rfl ?_ | refine U_guard rfl rfl ?_ | refine U_guardU rfl rfl rfl ?_ | ((with_reducible refine Gd_skipT ?_ ?_); exact rfl) | ((with_reducible refine Gd_skipF ?_ ?_); exact rfl))
            refine U_call rfl rfl (Tryd.call55 _) (hrc2) ?_
            rintro r w28 ⟨k28, hs28⟩
            have hp28 := hp27.mv k28 (fun _ _ _ x => x)
            repeat (first | (with_reducible first | apply T_seq | apply T_region | apply U_nil | apply T_skip | apply T_block | apply T_inBlock | apply Cnd_t | apply Cnd_f | apply Cnd_not | apply Cnd_some | apply Cnd_none | apply Gd_nt | apply Gd_nf | apply Gd_some | apply Gd_none | apply Gd_want) | refine U_ar rfl rfl rfl (wrap_k (by simp only [wrapOk]; omega)) rfl ?_ | refine U_cv E rfl rfl rfl (wrap_k (by simp only [wrapOk]; omega)) rfl ?_ | refine U_pure E rfl rfl ?_ | refine T_exit rfl ?_ | refine T_condV rfl ?_ | refine U_guard rfl rfl ?_ | refine U_guardU rfl rfl rfl ?_ | ((with_reducible refine Gd_skipT ?_ ?_); exact rfl) | ((with_reducible refine Gd_skipF ?_ ?_); exact rfl))
            refine U_buildSlice (sz := 1) E rfl rfl rfl rfl rfl rfl rfl rfl (segs := [[rp]]) (by rw [List.map_cons, List.map_cons, bs_cells hp28]; rfl) (by simp) rfl ?_
            intro b29 w29 hn29
            have hS29 := rsame_c w29 _ _ _ _ [P] [P] (hs28.mv hn29.kept (fun _ _ _ x => x)) (RS.one hn29 hp28)
            rw [decide_eq_true rfl] at hS29
            repeat (first | (with_reducible first | apply T_seq | apply T_region | apply U_nil | apply T_skip | apply T_block | apply T_inBlock | apply Cnd_t | apply Cnd_f | apply Cnd_not | apply Cnd_some | apply Cnd_none | apply Gd_nt | apply Gd_nf | apply Gd_some | apply Gd_none | apply Gd_want) | refine U_ar rfl rfl rfl (wrap_k (by simp only [wrapOk]; omega)) rfl ?_ | refine U_cv E rfl rfl rfl (wrap_k (by simp only [wrapOk]; omega)) rfl ?_ | refine U_pure E rfl rfl ?_ | refine T_exit rfl ?_ | refine T_condV rfl ?_ | refine U_guard rfl rfl ?_ | refine U_guardU rfl rfl rfl ?_ | ((with_reducible refine Gd_skipT ?_ ?_); exact rfl) | ((with_reducible refine Gd_skipF ?_ ?_); exact rfl))
            refine U_call rfl rfl (Tryd.call54 _) (hS29) ?_
            rintro r w30 ⟨rfl, k30⟩
            repeat (first | (with_reducible first | apply T_seq | apply T_region | apply U_nil | apply T_skip | apply T_block | apply T_inBlock | apply Cnd_t | apply Cnd_f | apply Cnd_not | apply Cnd_some | apply Cnd_none | apply Gd_nt | apply Gd_nf | apply Gd_some | apply Gd_none | apply Gd_want) | refine U_ar rfl rfl rfl (wrap_k (by simp only [wrapOk]; omega)) rfl ?_ | refine U_cv E rfl rfl rfl (wrap_k (by simp only [wrapOk]; omega)) rfl ?_ | refine U_pure E rfl rfl ?_ | refine T_exit rfl ?_ | refine T_condV rfl ?_ | refine U_guard rfl rfl ?_ | refine U_guardU rfl rfl rfl ?_ | ((with_reducible refine Gd_skipT ?_ ?_); exact rfl) | ((with_reducible refine Gd_skipF ?_ ?_); exact rfl))
            exact T_ret1 Tryd.func16 rfl rfl ⟨_, rfl, rfl, ((((k022.tr k2224 (fun _ _ x => x)).tr k2427 (fun _ _ x => x)).tr k28 (fun _ _ x => x)).tr hn29.kept (fun _ _ x => x)).tr k30 (fun _ _ x => x)⟩
end Go.Proofs.YtoefhdaenaiomaaDoor
