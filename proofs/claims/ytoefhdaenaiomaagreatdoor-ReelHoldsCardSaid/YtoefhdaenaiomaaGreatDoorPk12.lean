/- The reference's records: All, Same, Begins; a record that isn't too long. -/
import Derived.Test.YtoefhdaenaiomaaGreatDoorPk11
set_option linter.unusedVariables false
set_option linter.unusedSimpArgs false
namespace Go.Proofs.YtoefhdaenaiomaaGreatDoor
open Go
set_option maxRecDepth 20000

theorem take_inj_snoc {l l' : List (List UInt8)} {i : Nat} (h : i < l.length) (h' : i < l'.length) (e : l.take i = l'.take i) (he : l[i] = l'[i]) : l.take (i + 1) = l'.take (i + 1) := by
  rw [take_snoc l i h, take_snoc l' i h', e, he]

set_option maxHeartbeats 2000000 in
theorem rsame_c (w : World) (G H : Nat → Prop) (v u : Value) (l l' : List (List UInt8)) (h : RS w G v l) (h' : RS w H u l') :
    Calls Tryz.prog 17 [v, u].toArray w (Ret fun r w' => r = .bool (decide (l = l')) ∧ Kept none0 w w') := by
  obtain ⟨vs, a1, a2, a3⟩ := h
  obtain ⟨us, b1, b2, b3⟩ := h'
  obtain ⟨A, c, rfl⟩ := a2.len
  obtain ⟨B, d, rfl⟩ := b2.len
  have la := a2.1
  have lb := b2.1
  refine calls_T Tryz.func17 rfl rfl rfl ?_
  repeat (first | (with_reducible first | apply T_seq | apply T_region | apply U_nil | apply T_skip | apply T_block | apply T_inBlock | apply Cnd_t | apply Cnd_f | apply Cnd_not | apply Cnd_some | apply Cnd_none | apply Gd_nt | apply Gd_nf | apply Gd_some | apply Gd_none | apply Gd_want) | refine U_ar rfl rfl rfl (wrap_k (by simp only [wrapOk]; omega)) rfl ?_ | refine U_cv E rfl rfl rfl (wrap_k (by simp only [wrapOk]; omega)) rfl ?_ | refine U_pure E rfl rfl ?_ | refine T_exit rfl ?_ | refine T_condV rfl ?_ | refine U_guard rfl rfl ?_ | ((with_reducible refine Gd_skipT ?_ ?_); exact rfl) | ((with_reducible refine Gd_skipF ?_ ?_); exact rfl))
  refine Cnd_p (fun hne => ?_) (fun hne => ?_)
  · have : ¬ l = l' := fun e => hne (by rw [a1, b1, e])
    rw [decide_eq_false this]
    repeat (first | (with_reducible first | apply T_seq | apply T_region | apply U_nil | apply T_skip | apply T_block | apply T_inBlock | apply Cnd_t | apply Cnd_f | apply Cnd_not | apply Cnd_some | apply Cnd_none | apply Gd_nt | apply Gd_nf | apply Gd_some | apply Gd_none | apply Gd_want) | refine U_ar rfl rfl rfl (wrap_k (by simp only [wrapOk]; omega)) rfl ?_ | refine U_cv E rfl rfl rfl (wrap_k (by simp only [wrapOk]; omega)) rfl ?_ | refine U_pure E rfl rfl ?_ | refine T_exit rfl ?_ | refine T_condV rfl ?_ | refine U_guard rfl rfl ?_ | ((with_reducible refine Gd_skipT ?_ ?_); exact rfl) | ((with_reducible refine Gd_skipF ?_ ?_); exact rfl))
    exact T_ret1 Tryz.func17 rfl rfl ⟨_, rfl, rfl, Kept.refl _ _⟩
  · have hlen : l.length = l'.length := by omega
    repeat (first | (with_reducible first | apply T_seq | apply T_region | apply U_nil | apply T_skip | apply T_block | apply T_inBlock | apply Cnd_t | apply Cnd_f | apply Cnd_not | apply Cnd_some | apply Cnd_none | apply Gd_nt | apply Gd_nf | apply Gd_some | apply Gd_none | apply Gd_want) | refine U_ar rfl rfl rfl (wrap_k (by simp only [wrapOk]; omega)) rfl ?_ | refine U_cv E rfl rfl rfl (wrap_k (by simp only [wrapOk]; omega)) rfl ?_ | refine U_pure E rfl rfl ?_ | refine T_exit rfl ?_ | refine T_condV rfl ?_ | refine U_guard rfl rfl ?_ | ((with_reducible refine Gd_skipT ?_ ?_); exact rfl) | ((with_reducible refine Gd_skipF ?_ ?_); exact rfl))
    refine T_loop (α := Nat × World) (fun x => [(13, .int .i64 x.1), (12, .int .i64 vs.length), (0, .slice A vs.length c), (1, .slice B us.length d)]) (fun x => x.2) (fun x => vs.length - x.1)
      (fun x => x.1 ≤ vs.length ∧ Kept none0 w x.2 ∧ l.take x.1 = l'.take x.1) (0, w) ⟨Nat.zero_le _, Kept.refl _ _, rfl⟩ ⟨rfl, rfl, rfl, rfl, trivial⟩ rfl ?_
    rintro ⟨i, w1⟩ ⟨hi, k1, he⟩ ih
    dsimp only at hi k1 he ⊢
    repeat (first | (with_reducible first | apply T_seq | apply T_region | apply U_nil | apply T_skip | apply T_block | apply T_inBlock | apply Cnd_t | apply Cnd_f | apply Cnd_not | apply Cnd_some | apply Cnd_none | apply Gd_nt | apply Gd_nf | apply Gd_some | apply Gd_none | apply Gd_want) | refine U_ar rfl rfl rfl (wrap_k (by simp only [wrapOk]; omega)) rfl ?_ | refine U_cv E rfl rfl rfl (wrap_k (by simp only [wrapOk]; omega)) rfl ?_ | refine U_pure E rfl rfl ?_ | refine T_exit rfl ?_ | refine T_condV rfl ?_ | refine U_guard rfl rfl ?_ | ((with_reducible refine Gd_skipT ?_ ?_); exact rfl) | ((with_reducible refine Gd_skipF ?_ ?_); exact rfl))
    refine Cnd_p (fun hlt => ?_) (fun hlt => ?_)
    · have hl1 : i < vs.length := by omega
      have hl2 : i < us.length := by omega
      have hg1 : vs[(i : Int).toNat]? = some vs[i] := by rw [Int.toNat_natCast, List.getElem?_eq_getElem hl1]
      have hg2 : us[(i : Int).toNat]? = some us[i] := by rw [Int.toNat_natCast, List.getElem?_eq_getElem hl2]
      have ha := a3 i _ _ (List.getElem?_eq_getElem hl1) (List.getElem?_eq_getElem (show i < l.length by omega))
      have hb := b3 i _ _ (List.getElem?_eq_getElem hl2) (List.getElem?_eq_getElem (show i < l'.length by omega))
      repeat (first | (with_reducible first | apply T_seq | apply T_region | apply U_nil | apply T_skip | apply T_block | apply T_inBlock | apply Cnd_t | apply Cnd_f | apply Cnd_not | apply Cnd_some | apply Cnd_none | apply Gd_nt | apply Gd_nf | apply Gd_some | apply Gd_none | apply Gd_want) | refine U_ar rfl rfl rfl (wrap_k (by simp only [wrapOk]; omega)) rfl ?_ | refine U_cv E rfl rfl rfl (wrap_k (by simp only [wrapOk]; omega)) rfl ?_ | refine U_pure E rfl rfl ?_ | refine T_exit rfl ?_ | refine T_condV rfl ?_ | refine U_guard rfl rfl ?_ | ((with_reducible refine Gd_skipT ?_ ?_); exact rfl) | ((with_reducible refine Gd_skipF ?_ ?_); exact rfl))
      refine T_quiet (by kernel_rfl) (by kernel_rfl) ?_; (repeat (first | refine V_ar rfl rfl rfl (wrap_k (by simp only [wrapOk]; omega)) rfl ?_ | refine V_cv E rfl rfl rfl (wrap_k (by simp only [wrapOk]; omega)) rfl ?_ | refine V_pure E rfl rfl ?_ | refine V_guard rfl rfl ?_ | with_reducible refine GdV_want ?_ | ((with_reducible refine GdV_skipT ?_ ?_); exact rfl) | ((with_reducible refine GdV_skipF ?_ ?_); exact rfl)))
      refine V_idx E ((a2.mv k1 (fun _ _ _ x => x))) rfl rfl rfl rfl (by omega) (by omega) (hg1) rfl (fun p hp => ?_)
      refine V_load E rfl rfl rfl (fun w' hw' => (by first | (rw [hw'.cell]; exact hp) | (subst hw'; exact hp))) rfl ?_
      repeat (first | refine V_ar rfl rfl rfl (wrap_k (by simp only [wrapOk]; omega)) rfl ?_ | refine V_cv E rfl rfl rfl (wrap_k (by simp only [wrapOk]; omega)) rfl ?_ | refine V_pure E rfl rfl ?_ | refine V_guard rfl rfl ?_ | with_reducible refine GdV_want ?_ | ((with_reducible refine GdV_skipT ?_ ?_); exact rfl) | ((with_reducible refine GdV_skipF ?_ ?_); exact rfl))
      refine V_idx E ((b2.mv k1 (fun _ _ _ x => x))) rfl rfl rfl rfl (by omega) (by omega) (hg2) rfl (fun q hq => ?_)
      refine V_load E rfl rfl rfl (fun w' hw' => (by first | (rw [hw'.cell]; exact hq) | (subst hw'; exact hq))) rfl ?_
      refine V_call rfl rfl (Tryz.call39 _) (fun w2 hd2 => same_c w2 _ _ _ _ _ _ ((ha.mv k1 (fun _ _ _ x => x)).mv (hd2.kept none0) (fun _ _ _ x => x)) ((hb.mv k1 (fun _ _ _ x => x)).mv (hd2.kept none0) (fun _ _ _ x => x))) ?_
      repeat (first | refine V_ar rfl rfl rfl (wrap_k (by simp only [wrapOk]; omega)) rfl ?_ | refine V_cv E rfl rfl rfl (wrap_k (by simp only [wrapOk]; omega)) rfl ?_ | refine V_pure E rfl rfl ?_ | refine V_guard rfl rfl ?_ | with_reducible refine GdV_want ?_ | ((with_reducible refine GdV_skipT ?_ ?_); exact rfl) | ((with_reducible refine GdV_skipF ?_ ?_); exact rfl))
      refine V_nilQ fun w2 hd2 => ?_
      have k2 : Kept none0 w w2 := k1.tr (hd2.kept none0) (fun _ _ x => x)
      repeat (first | (with_reducible first | apply T_seq | apply T_region | apply U_nil | apply T_skip | apply T_block | apply T_inBlock | apply Cnd_t | apply Cnd_f | apply Cnd_not | apply Cnd_some | apply Cnd_none | apply Gd_nt | apply Gd_nf | apply Gd_some | apply Gd_none | apply Gd_want) | refine U_ar rfl rfl rfl (wrap_k (by simp only [wrapOk]; omega)) rfl ?_ | refine U_cv E rfl rfl rfl (wrap_k (by simp only [wrapOk]; omega)) rfl ?_ | refine U_pure E rfl rfl ?_ | refine T_exit rfl ?_ | refine T_condV rfl ?_ | refine U_guard rfl rfl ?_ | ((with_reducible refine Gd_skipT ?_ ?_); exact rfl) | ((with_reducible refine Gd_skipF ?_ ?_); exact rfl))
      by_cases hp2 : l[i]'(by omega) = l'[i]'(by omega)
      · rw [decide_eq_true hp2]
        repeat (first | (with_reducible first | apply T_seq | apply T_region | apply U_nil | apply T_skip | apply T_block | apply T_inBlock | apply Cnd_t | apply Cnd_f | apply Cnd_not | apply Cnd_some | apply Cnd_none | apply Gd_nt | apply Gd_nf | apply Gd_some | apply Gd_none | apply Gd_want) | refine U_ar rfl rfl rfl (wrap_k (by simp only [wrapOk]; omega)) rfl ?_ | refine U_cv E rfl rfl rfl (wrap_k (by simp only [wrapOk]; omega)) rfl ?_ | refine U_pure E rfl rfl ?_ | refine T_exit rfl ?_ | refine T_condV rfl ?_ | refine U_guard rfl rfl ?_ | ((with_reducible refine Gd_skipT ?_ ?_); exact rfl) | ((with_reducible refine Gd_skipF ?_ ?_); exact rfl))
        refine T.less ?_ (ih (i + 1, w2) ⟨hl1, k2, take_inj_snoc (by omega) (by omega) he hp2⟩ (by dsimp only; omega))
        exact ⟨rfl, rfl, rfl, rfl, trivial⟩
      · rw [decide_eq_false hp2]
        have hne2 : ¬ l = l' := fun e => hp2 (by subst e; rfl)
        rw [decide_eq_false hne2]
        repeat (first | (with_reducible first | apply T_seq | apply T_region | apply U_nil | apply T_skip | apply T_block | apply T_inBlock | apply Cnd_t | apply Cnd_f | apply Cnd_not | apply Cnd_some | apply Cnd_none | apply Gd_nt | apply Gd_nf | apply Gd_some | apply Gd_none | apply Gd_want) | refine U_ar rfl rfl rfl (wrap_k (by simp only [wrapOk]; omega)) rfl ?_ | refine U_cv E rfl rfl rfl (wrap_k (by simp only [wrapOk]; omega)) rfl ?_ | refine U_pure E rfl rfl ?_ | refine T_exit rfl ?_ | refine T_condV rfl ?_ | refine U_guard rfl rfl ?_ | ((with_reducible refine Gd_skipT ?_ ?_); exact rfl) | ((with_reducible refine Gd_skipF ?_ ?_); exact rfl))
        exact T_ret1 Tryz.func17 rfl rfl ⟨_, rfl, rfl, k2⟩
    · have : i = vs.length := by omega
      subst this
      have hll : l = l' := by
        rw [a1, List.take_length] at he
        rw [he, List.take_of_length_le (by omega)]
      rw [decide_eq_true hll]
      repeat (first | (with_reducible first | apply T_seq | apply T_region | apply U_nil | apply T_skip | apply T_block | apply T_inBlock | apply Cnd_t | apply Cnd_f | apply Cnd_not | apply Cnd_some | apply Cnd_none | apply Gd_nt | apply Gd_nf | apply Gd_some | apply Gd_none | apply Gd_want) | refine U_ar rfl rfl rfl (wrap_k (by simp only [wrapOk]; omega)) rfl ?_ | refine U_cv E rfl rfl rfl (wrap_k (by simp only [wrapOk]; omega)) rfl ?_ | refine U_pure E rfl rfl ?_ | refine T_exit rfl ?_ | refine T_condV rfl ?_ | refine U_guard rfl rfl ?_ | ((with_reducible refine Gd_skipT ?_ ?_); exact rfl) | ((with_reducible refine Gd_skipF ?_ ?_); exact rfl))
      exact T_ret1 Tryz.func17 rfl rfl ⟨_, rfl, rfl, k1⟩

theorem allP_take (g : Nat) (l : List (List UInt8)) (i : Nat) (hi : i < l.length) : allP g 0 (l.take (i + 1)) = allP g 0 (l.take i) ++ lay g i l[i] := by
  rw [take_snoc l i hi, allP_snoc, List.length_take, Nat.min_eq_left (by omega), Nat.zero_add]

set_option maxHeartbeats 2000000 in
theorem rall_c (w : World) (G : Nat → Prop) (g : Nat) (v : Value) (l : List (List UInt8)) (hg : g < 4294967296) (h : RS w G v l) (hl : l.length ≤ 1000) (hp : ∀ p ∈ l, p.length ≤ 100000) :
    Calls Tryz.prog 21 [.int .u32 g, v].toArray w (Ret fun r w' => Kept none0 w w' ∧ OS w' (fresh w) r (allP g 0 l)) := by
  obtain ⟨vs, a1, a2, a3⟩ := h
  obtain ⟨A, c, rfl⟩ := a2.len
  refine calls_T Tryz.func21 rfl rfl rfl ?_
  repeat (first | (with_reducible first | apply T_seq | apply T_region | apply U_nil | apply T_skip | apply T_block | apply T_inBlock | apply Cnd_t | apply Cnd_f | apply Cnd_not | apply Cnd_some | apply Cnd_none | apply Gd_nt | apply Gd_nf | apply Gd_some | apply Gd_none | apply Gd_want) | refine U_ar rfl rfl rfl (wrap_k (by simp only [wrapOk]; omega)) rfl ?_ | refine U_cv E rfl rfl rfl (wrap_k (by simp only [wrapOk]; omega)) rfl ?_ | refine U_pure E rfl rfl ?_ | refine T_exit rfl ?_ | refine T_condV rfl ?_ | refine U_guard rfl rfl ?_ | ((with_reducible refine Gd_skipT ?_ ?_); exact rfl) | ((with_reducible refine Gd_skipF ?_ ?_); exact rfl))
  refine T_loop (α := Nat × Value × World) (fun x => [(10, .int .i64 x.1), (9, .int .i64 vs.length), (8, .slice A vs.length c), (5, x.2.1), (0, .int .u32 g)]) (fun x => x.2.2) (fun x => vs.length - x.1)
    (fun x => x.1 ≤ vs.length ∧ Kept none0 w x.2.2 ∧ (allP g 0 (l.take x.1)).length ≤ 400 * x.1 ∧ OS x.2.2 (fresh w) x.2.1 (allP g 0 (l.take x.1))) (0, .slice none 0 0, w) ⟨Nat.zero_le _, Kept.refl _ _, Nat.le_refl _, OS.nil _ _⟩ ⟨rfl, rfl, rfl, rfl, rfl, trivial⟩ rfl ?_
  rintro ⟨i, vo, w1⟩ ⟨hi, k1, hb, ho⟩ ih
  dsimp only at hi k1 hb ho ⊢
  repeat (first | (with_reducible first | apply T_seq | apply T_region | apply U_nil | apply T_skip | apply T_block | apply T_inBlock | apply Cnd_t | apply Cnd_f | apply Cnd_not | apply Cnd_some | apply Cnd_none | apply Gd_nt | apply Gd_nf | apply Gd_some | apply Gd_none | apply Gd_want) | refine U_ar rfl rfl rfl (wrap_k (by simp only [wrapOk]; omega)) rfl ?_ | refine U_cv E rfl rfl rfl (wrap_k (by simp only [wrapOk]; omega)) rfl ?_ | refine U_pure E rfl rfl ?_ | refine T_exit rfl ?_ | refine T_condV rfl ?_ | refine U_guard rfl rfl ?_ | ((with_reducible refine Gd_skipT ?_ ?_); exact rfl) | ((with_reducible refine Gd_skipF ?_ ?_); exact rfl))
  refine Cnd_p (fun hlt => ?_) (fun hlt => ?_)
  · have hl1 : i < vs.length := by omega
    have hl2 : i < l.length := by omega
    have hg1 : vs[(i : Int).toNat]? = some vs[i] := by rw [Int.toNat_natCast, List.getElem?_eq_getElem hl1]
    have ha := a3 i _ _ (List.getElem?_eq_getElem hl1) (List.getElem?_eq_getElem hl2)
    have hpl := hp _ (List.getElem_mem hl2)
    have hly := rlay_c w1 _ g i vs[i] l[i] hg (by omega) (ha.mv k1 (fun _ _ _ x => x)) hpl
    have hpg : pgs l[i].length = (l[i].length + 8 + 253) / 254 := rfl
    repeat (first | (with_reducible first | apply T_seq | apply T_region | apply U_nil | apply T_skip | apply T_block | apply T_inBlock | apply Cnd_t | apply Cnd_f | apply Cnd_not | apply Cnd_some | apply Cnd_none | apply Gd_nt | apply Gd_nf | apply Gd_some | apply Gd_none | apply Gd_want) | refine U_ar rfl rfl rfl (wrap_k (by simp only [wrapOk]; omega)) rfl ?_ | refine U_cv E rfl rfl rfl (wrap_k (by simp only [wrapOk]; omega)) rfl ?_ | refine U_pure E rfl rfl ?_ | refine T_exit rfl ?_ | refine T_condV rfl ?_ | refine U_guard rfl rfl ?_ | ((with_reducible refine Gd_skipT ?_ ?_); exact rfl) | ((with_reducible refine Gd_skipF ?_ ?_); exact rfl))
    refine U_idx E ((a2.mv k1 (fun _ _ _ x => x))) rfl rfl rfl rfl (by omega) (by omega) (hg1) rfl (fun p hp => ?_)
    refine U_load E rfl rfl rfl hp rfl ?_
    repeat (first | (with_reducible first | apply T_seq | apply T_region | apply U_nil | apply T_skip | apply T_block | apply T_inBlock | apply Cnd_t | apply Cnd_f | apply Cnd_not | apply Cnd_some | apply Cnd_none | apply Gd_nt | apply Gd_nf | apply Gd_some | apply Gd_none | apply Gd_want) | refine U_ar rfl rfl rfl (wrap_k (by simp only [wrapOk]; omega)) rfl ?_ | refine U_cv E rfl rfl rfl (wrap_k (by simp only [wrapOk]; omega)) rfl ?_ | refine U_pure E rfl rfl ?_ | refine T_exit rfl ?_ | refine T_condV rfl ?_ | refine U_guard rfl rfl ?_ | ((with_reducible refine Gd_skipT ?_ ?_); exact rfl) | ((with_reducible refine Gd_skipF ?_ ?_); exact rfl))
    refine U_call rfl rfl (Tryz.call41 _) (hly) ?_
    rintro r w2 ⟨k2, ns, n1, n2, n3⟩
    obtain ⟨us, o1, o2, o3⟩ := ho
    have hown := o2.own
    have k12 := k1.tr k2 (fun _ _ x => x)
    have nsl : ns.length = pgs l[i].length := by rw [n1, lay_len]
    have s1 := k1.size
    repeat (first | (with_reducible first | apply T_seq | apply T_region | apply U_nil | apply T_skip | apply T_block | apply T_inBlock | apply Cnd_t | apply Cnd_f | apply Cnd_not | apply Cnd_some | apply Cnd_none | apply Gd_nt | apply Gd_nf | apply Gd_some | apply Gd_none | apply Gd_want) | refine U_ar rfl rfl rfl (wrap_k (by simp only [wrapOk]; omega)) rfl ?_ | refine U_cv E rfl rfl rfl (wrap_k (by simp only [wrapOk]; omega)) rfl ?_ | refine U_pure E rfl rfl ?_ | refine T_exit rfl ?_ | refine T_condV rfl ?_ | refine U_guard rfl rfl ?_ | ((with_reducible refine Gd_skipT ?_ ?_); exact rfl) | ((with_reducible refine Gd_skipF ?_ ?_); exact rfl))
    refine U_append E (o2.mv k2 (fun _ _ _ x => x)) (n2.sl (by omega)) ?hone rfl rfl rfl rfl rfl (by omega) (by omega) rfl ?_
    case hone =>
      intro u hu
      obtain ⟨j, hj, rfl⟩ := List.getElem_of_mem hu
      obtain ⟨A', c', e'⟩ := (n3 j _ _ (List.getElem?_eq_getElem hj) (List.getElem?_eq_getElem (by omega))).len
      rw [e']
      rfl
    intro vo' w3 hr3 k3 _ hob
    have hO := OS.app (l := allP g 0 (l.take i)) (l' := lay g i l[i]) k12.size o1 (fun j u q hu hq => (o3 j u q hu hq).mv k2 (fun _ _ _ x => x)) n1 (fun j u q hu hq => (n3 j u q hu hq).mono (fun b _ e => ⟨by have := e.1; simp only [fresh] at *; omega, fun e2 => by have := (hown b e2).2; have := e.1; simp only [fresh] at *; omega⟩)) hr3 k3 hob
    rw [← allP_take g l i hl2] at hO
    repeat (first | (with_reducible first | apply T_seq | apply T_region | apply U_nil | apply T_skip | apply T_block | apply T_inBlock | apply Cnd_t | apply Cnd_f | apply Cnd_not | apply Cnd_some | apply Cnd_none | apply Gd_nt | apply Gd_nf | apply Gd_some | apply Gd_none | apply Gd_want) | refine U_ar rfl rfl rfl (wrap_k (by simp only [wrapOk]; omega)) rfl ?_ | refine U_cv E rfl rfl rfl (wrap_k (by simp only [wrapOk]; omega)) rfl ?_ | refine U_pure E rfl rfl ?_ | refine T_exit rfl ?_ | refine T_condV rfl ?_ | refine U_guard rfl rfl ?_ | ((with_reducible refine Gd_skipT ?_ ?_); exact rfl) | ((with_reducible refine Gd_skipF ?_ ?_); exact rfl))
    refine T.less ?_ (ih (i + 1, vo', w3) ⟨hl1, k12.tr k3 (fun b hb e => by have := (hown b e).1; simp only [fresh] at this; omega), ?_, hO⟩ (by dsimp only; omega))
    · exact ⟨rfl, rfl, rfl, rfl, rfl, trivial⟩
    · dsimp only
      rw [allP_take g l i hl2, List.length_append, lay_len]
      omega
  · have : i = vs.length := by omega
    subst this
    rw [List.take_of_length_le (by omega)] at ho
    repeat (first | (with_reducible first | apply T_seq | apply T_region | apply U_nil | apply T_skip | apply T_block | apply T_inBlock | apply Cnd_t | apply Cnd_f | apply Cnd_not | apply Cnd_some | apply Cnd_none | apply Gd_nt | apply Gd_nf | apply Gd_some | apply Gd_none | apply Gd_want) | refine U_ar rfl rfl rfl (wrap_k (by simp only [wrapOk]; omega)) rfl ?_ | refine U_cv E rfl rfl rfl (wrap_k (by simp only [wrapOk]; omega)) rfl ?_ | refine U_pure E rfl rfl ?_ | refine T_exit rfl ?_ | refine T_condV rfl ?_ | refine U_guard rfl rfl ?_ | ((with_reducible refine Gd_skipT ?_ ?_); exact rfl) | ((with_reducible refine Gd_skipF ?_ ?_); exact rfl))
    exact T_ret1 Tryz.func21 rfl rfl ⟨_, rfl, k1, ho⟩

theorem three_sl {w : World} {b : Nat} {t : TypeId} {u v x : Value} (h : Blk w b [u, v, x] t) : Sl w (fun x => x = b) (.slice (some ⟨b, 0, none⟩) 3 3) 1 [u, v, x].length [u, v, x] :=
  ⟨by simp, rfl, _, 3, rfl, Nat.le_refl _, .inr ⟨b, 0, rfl, rfl, h.lt, h.whole⟩⟩
theorem three_bs {w : World} {H : Nat → Prop} {u v y : Value} {p q r : List UInt8} (hu : BS w H u p) (hv : BS w H v q) (hy : BS w H y r) : ∀ (i : Nat) x l, [u, v, y][i]? = some x → [p, q, r][i]? = some l → BS w H x l := by
  intro j x l hx hl
  match j with
  | 0 => injection hx with hx; injection hl with hl; subst hx; subst hl; exact hu
  | 1 => injection hx with hx; injection hl with hl; subst hx; subst hl; exact hv
  | 2 => injection hx with hx; injection hl with hl; subst hx; subst hl; exact hy
  | j + 3 => simp at hx

def cutP (p : List UInt8) (b : Bool) : List UInt8 := if b then p.take 200 ++ zeros 300 ++ p.take 200 else p.take 200
theorem cutP_len (p : List UInt8) (b : Bool) : (cutP p b).length ≤ 700 := by
  unfold cutP zeros
  split <;> simp <;> omega

set_option maxHeartbeats 2000000 in
theorem cut15_c (w : World) (G : Nat → Prop) (v : Value) (p : List UInt8) (b : Bool) (h : BS w G v p) (hp : p.length ≤ 9223372036854775807) :
    Calls Tryz.prog 8 [v, .bool b].toArray w (Ret fun r w' => Kept none0 w w' ∧ BS w' (fresh w) r (cutP p b)) := by
  refine calls_T Tryz.func8 rfl rfl rfl ?_
  repeat (first | (with_reducible first | apply T_seq | apply T_region | apply U_nil | apply T_skip | apply T_block | apply T_inBlock | apply Cnd_t | apply Cnd_f | apply Cnd_not | apply Cnd_some | apply Cnd_none | apply Gd_nt | apply Gd_nf | apply Gd_some | apply Gd_none | apply Gd_want) | refine U_ar rfl rfl rfl (wrap_k (by simp only [wrapOk]; omega)) rfl ?_ | refine U_cv E rfl rfl rfl (wrap_k (by simp only [wrapOk]; omega)) rfl ?_ | refine U_pure E rfl rfl ?_ | refine T_exit rfl ?_ | refine T_condV rfl ?_ | refine U_guard rfl rfl ?_ | ((with_reducible refine Gd_skipT ?_ ?_); exact rfl) | ((with_reducible refine Gd_skipF ?_ ?_); exact rfl))
  refine U_call rfl rfl (Tryz.call5 _) (cut_c w G v p 200 h (by decide)) ?_
  rintro r w1 ⟨k1, hr1⟩
  have hb1 : BS w1 (fresh w) r (p.take 200) := hr1.sl (by simp; omega)
  obtain ⟨Ar, cr, rfl⟩ := hb1.len
  cases b with
  | false =>
    repeat (first | (with_reducible first | apply T_seq | apply T_region | apply U_nil | apply T_skip | apply T_block | apply T_inBlock | apply Cnd_t | apply Cnd_f | apply Cnd_not | apply Cnd_some | apply Cnd_none | apply Gd_nt | apply Gd_nf | apply Gd_some | apply Gd_none | apply Gd_want) | refine U_ar rfl rfl rfl (wrap_k (by simp only [wrapOk]; omega)) rfl ?_ | refine U_cv E rfl rfl rfl (wrap_k (by simp only [wrapOk]; omega)) rfl ?_ | refine U_pure E rfl rfl ?_ | refine T_exit rfl ?_ | refine T_condV rfl ?_ | refine U_guard rfl rfl ?_ | ((with_reducible refine Gd_skipT ?_ ?_); exact rfl) | ((with_reducible refine Gd_skipF ?_ ?_); exact rfl))
    exact T_ret1 Tryz.func8 rfl rfl ⟨_, rfl, k1, hb1⟩
  | true =>
    repeat (first | (with_reducible first | apply T_seq | apply T_region | apply U_nil | apply T_skip | apply T_block | apply T_inBlock | apply Cnd_t | apply Cnd_f | apply Cnd_not | apply Cnd_some | apply Cnd_none | apply Gd_nt | apply Gd_nf | apply Gd_some | apply Gd_none | apply Gd_want) | refine U_ar rfl rfl rfl (wrap_k (by simp only [wrapOk]; omega)) rfl ?_ | refine U_cv E rfl rfl rfl (wrap_k (by simp only [wrapOk]; omega)) rfl ?_ | refine U_pure E rfl rfl ?_ | refine T_exit rfl ?_ | refine T_condV rfl ?_ | refine U_guard rfl rfl ?_ | ((with_reducible refine Gd_skipT ?_ ?_); exact rfl) | ((with_reducible refine Gd_skipF ?_ ?_); exact rfl))
    refine U_make E rfl rfl (zs := [.int .u8 0]) rfl (N := 300) rfl rfl (by decide) (by decide) rfl rfl rfl ?_
    intro b2 w2 hn2
    have hz2 : BS w2 (fun _ => True) (.slice (some ⟨b2, 0, none⟩) 300 300) (zeros 300) := New.bs (l := zeros 300) (by rw [encBs_zeros]; have := hn2; rw [flat_single] at this; exact this) (by simp [zeros]) (by decide) _ trivial
    repeat (first | (with_reducible first | apply T_seq | apply T_region | apply U_nil | apply T_skip | apply T_block | apply T_inBlock | apply Cnd_t | apply Cnd_f | apply Cnd_not | apply Cnd_some | apply Cnd_none | apply Gd_nt | apply Gd_nf | apply Gd_some | apply Gd_none | apply Gd_want) | refine U_ar rfl rfl rfl (wrap_k (by simp only [wrapOk]; omega)) rfl ?_ | refine U_cv E rfl rfl rfl (wrap_k (by simp only [wrapOk]; omega)) rfl ?_ | refine U_pure E rfl rfl ?_ | refine T_exit rfl ?_ | refine T_condV rfl ?_ | refine U_guard rfl rfl ?_ | ((with_reducible refine Gd_skipT ?_ ?_); exact rfl) | ((with_reducible refine Gd_skipF ?_ ?_); exact rfl))
    refine U_buildSlice (sz := 1) E rfl rfl rfl rfl rfl rfl rfl rfl (segs := [[.slice Ar _ cr], [.slice (some ⟨b2, 0, none⟩) 300 300], [.slice Ar _ cr]]) rfl (by simp) rfl ?_
    intro b3 w3 hn3
    have hb3 : BS w3 (fun _ => True) (.slice Ar (p.take 200).length cr) (p.take 200) := ((hb1.mv hn2.kept (fun _ _ _ x => x)).mv hn3.kept (fun _ _ _ x => x)).mono (fun _ _ _ => trivial)
    have hj := join_c w3 _ (fun _ => True) _ _ _ (three_sl hn3.blk) rfl (three_bs hb3 (hz2.mv hn3.kept (fun _ _ _ x => x)) hb3) (by simp [zeros]; omega)
    have e3 : [p.take 200, zeros 300, p.take 200].flatten = cutP p true := by simp [cutP]
    rw [e3] at hj
    repeat (first | (with_reducible first | apply T_seq | apply T_region | apply U_nil | apply T_skip | apply T_block | apply T_inBlock | apply Cnd_t | apply Cnd_f | apply Cnd_not | apply Cnd_some | apply Cnd_none | apply Gd_nt | apply Gd_nf | apply Gd_some | apply Gd_none | apply Gd_want) | refine U_ar rfl rfl rfl (wrap_k (by simp only [wrapOk]; omega)) rfl ?_ | refine U_cv E rfl rfl rfl (wrap_k (by simp only [wrapOk]; omega)) rfl ?_ | refine U_pure E rfl rfl ?_ | refine T_exit rfl ?_ | refine T_condV rfl ?_ | refine U_guard rfl rfl ?_ | ((with_reducible refine Gd_skipT ?_ ?_); exact rfl) | ((with_reducible refine Gd_skipF ?_ ?_); exact rfl))
    refine U_call rfl rfl (Tryz.call32 _) (hj) ?_
    rintro r w4 ⟨k4, hr4⟩
    have k13 := (k1.tr hn2.kept (fun _ _ x => x)).tr hn3.kept (fun _ _ x => x)
    have s3 := k13.size
    have hl := cutP_len p true
    repeat (first | (with_reducible first | apply T_seq | apply T_region | apply U_nil | apply T_skip | apply T_block | apply T_inBlock | apply Cnd_t | apply Cnd_f | apply Cnd_not | apply Cnd_some | apply Cnd_none | apply Gd_nt | apply Gd_nf | apply Gd_some | apply Gd_none | apply Gd_want) | refine U_ar rfl rfl rfl (wrap_k (by simp only [wrapOk]; omega)) rfl ?_ | refine U_cv E rfl rfl rfl (wrap_k (by simp only [wrapOk]; omega)) rfl ?_ | refine U_pure E rfl rfl ?_ | refine T_exit rfl ?_ | refine T_condV rfl ?_ | refine U_guard rfl rfl ?_ | ((with_reducible refine Gd_skipT ?_ ?_); exact rfl) | ((with_reducible refine Gd_skipF ?_ ?_); exact rfl))
    exact T_ret1 Tryz.func8 rfl rfl ⟨_, rfl, k13.tr k4 (fun _ _ x => x), (hr4.sl (by omega)).mono (fun b _ e => by simp only [fresh] at *; omega)⟩
end Go.Proofs.YtoefhdaenaiomaaGreatDoor

/- What Open finds: the plain law. -/
namespace Go.Proofs.YtoefhdaenaiomaaGreatDoor
open Go
set_option maxRecDepth 20000

theorem nOk2 (s : Nat) (p more : List UInt8) (hp : p.length ≤ 100000) (hz : ¬ zz (frm s p)) : nErr s (frm s p ++ more) = 0 ∧ nRec s (frm s p ++ more) = p := by
  have h0 : nErr s (frm s p ++ more) = 0 := by
    rw [nErr_frm s s p more hp (fun e => hz (fun x hx => e x (List.mem_append_left _ hx))), if_pos rfl]
  exact ⟨h0, by rw [nRec, if_pos h0, frm_val s p more (by omega), frm_body]⟩
theorem frm_zz {s : Nat} {p : List UInt8} (hl : p.length < 4294967296) (h : 0 < p.length ∨ chk s (le4 0) ≠ 0) : ¬ zz (frm s p) := by
  intro e
  have hv : val4 (frm s p) = p.length := by rw [frm, List.append_assoc, val4_le4_append _ hl]
  have hz0 : ∀ i, at8 (frm s p) i = 0 := by
    intro i
    unfold at8
    rw [List.getD_eq_getElem?_getD]
    cases hc : (frm s p)[i]? with
    | none => rfl
    | some x => rw [Option.getD_some, e x (List.mem_of_getElem? hc)]; rfl
  have h0 : p.length = 0 := by rw [← hv]; unfold val4; rw [hz0, hz0, hz0, hz0]
  rcases h with h | h
  · omega
  · have hp : p = [] := List.length_eq_zero_iff.1 h0
    subst hp
    apply h
    have h2 : val4 ((frm s []).drop 4) = chk s (le4 0) := by
      have : (frm s []).drop 4 = le4 (chk s (le4 0)) := by
        rw [frm]
        simp [le4]
      rw [this, val4_le4 _ (chk_lt _ _)]
    rw [← h2]
    have hz4 : ∀ i, at8 ((frm s []).drop 4) i = 0 := by
      intro i
      have := hz0 (4 + i)
      unfold at8 at this ⊢
      rw [List.getD_eq_getElem?_getD] at this ⊢
      rw [List.getElem?_drop]
      exact this
    unfold val4
    rw [hz4, hz4, hz4, hz4]

def vw (D : Dr) (i : Nat) : List UInt8 := nowS D.l D.wait i

theorem mrk_mid (m : UInt8) (p : List UInt8) : ((mrk m p).drop 1).take 254 = (p ++ zeros 254).take 254 := by
  unfold mrk
  rw [List.drop_succ_cons, List.drop_zero, List.take_append_of_le_length (by simp [zeros]), List.take_of_length_le (by simp; omega)]
theorem mrk_0 (m : UInt8) (p : List UInt8) : (mrk m p)[0]? = some m := rfl
theorem mrk_255 (m : UInt8) (p : List UInt8) : (mrk m p)[255]? = some m := by
  unfold mrk
  rw [List.getElem?_cons_succ, List.getElem?_append_right (by simp [zeros])]
  have : ((p ++ zeros 254).take 254).length = 254 := by simp [zeros]
  rw [this]
  rfl

theorem bare_mrk {D : Dr} {i : Nat} {m : UInt8} {q : List UInt8} (hi : i < D.l.length) (h : vw D i = mrk m q) : bareD D (i : Int) m = some ((q ++ zeros 254).take 254) := by
  unfold vw at h
  simp only [bareD, Int.toNat_natCast, h]
  rw [if_pos ⟨⟨by omega, by omega⟩, mrk_0 m q, mrk_255 m q⟩, mrk_mid]
theorem bare_zero {D : Dr} {i : Nat} (h : vw D i = zeros 256) : bareD D (i : Int) 165 = none := by
  unfold vw at h
  simp only [bareD, Int.toNat_natCast, h]
  rw [if_neg (fun e => absurd e.2.1 (by decide))]

theorem frm_take_val {s : Nat} {p : List UInt8} {n : Nat} (hn : 4 ≤ n) (hp : p.length < 4294967296) : val4 ((frm s p).take n) = p.length := by
  rw [frm, List.append_assoc]
  obtain ⟨R, hR⟩ : ∃ R, p ++ le4 (chk s (le4 p.length ++ p)) = R := ⟨_, rfl⟩
  rw [hR, List.take_append, List.take_of_length_le (by rw [le4_len]; exact hn), val4_le4_append _ hp]

theorem recR_page {D : Dr} {g n at_ : Nat} {p : List UInt8} (hs : at_ + pgs p.length ≤ hsz D) (hb : base D g + at_ + pgs p.length ≤ D.l.length) (hp : p.length ≤ 100000) (hz : ¬ zz (frm (sdr g n) p))
    (hv : ∀ j, j < pgs p.length → vw D (base D g + at_ + j) = page (frm (sdr g n) p) j) :
    ∀ (d f k : Nat) (all : List UInt8), 1 ≤ k → k + d = pgs p.length → d < f → all = (frm (sdr g n) p).take (254 * (k - 1)) → recR D g n at_ f k all = some (p, pgs p.length) := by
  have hX : (frm (sdr g n) p).length = p.length + 8 := frm_len _ _
  have hP : pgs p.length = (p.length + 8 + 253) / 254 := rfl
  obtain ⟨X, hXe⟩ : ∃ X, frm (sdr g n) p = X := ⟨_, rfl⟩
  intro d
  induction d with
  | zero =>
    intro f k all hk hd hf hall
    obtain ⟨f, rfl⟩ : ∃ f', f = f' + 1 := ⟨f - 1, by omega⟩
    have hbr := bare_mrk (D := D) (i := base D g + at_ + (k - 1)) (by omega) (hv (k - 1) (by omega))
    rw [recR, if_pos (by omega), show ((base D g + at_ + k : Nat) : Int) - 1 = ((base D g + at_ + (k - 1) : Nat) : Int) by omega, hbr]
    dsimp only
    have hcat : all ++ ((((frm (sdr g n) p).drop (254 * (k - 1))).take 254) ++ zeros 254).take 254 = frm (sdr g n) p ++ zeros (254 * k - (p.length + 8)) := by
      rw [hall]
      rw [List.take_of_length_le (l := (frm (sdr g n) p).drop (254 * (k - 1))) (by rw [List.length_drop]; omega)]
      rw [List.take_append, List.take_of_length_le (l := (frm (sdr g n) p).drop (254 * (k - 1))) (by rw [List.length_drop]; omega), ← List.append_assoc, List.take_append_drop]
      congr 1
      rw [zeros, List.take_replicate, List.length_drop, hX, zeros]
      congr 1
      omega
    rw [hcat]
    have hval : val4 (frm (sdr g n) p ++ zeros (254 * k - (p.length + 8))) = p.length := by
      rw [frm_val _ _ _ (by omega)]
    obtain ⟨n1, n2⟩ := nOk2 (sdr g n) p (zeros (254 * k - (p.length + 8))) hp hz
    rw [hval, if_neg (by omega), if_pos n1, n2]
    congr 2
  | succ d ih =>
    intro f k all hk hd hf hall
    obtain ⟨f, rfl⟩ : ∃ f', f = f' + 1 := ⟨f - 1, by omega⟩
    have hbr := bare_mrk (D := D) (i := base D g + at_ + (k - 1)) (by omega) (hv (k - 1) (by omega))
    rw [recR, if_pos (by omega), show ((base D g + at_ + k : Nat) : Int) - 1 = ((base D g + at_ + (k - 1) : Nat) : Int) by omega, hbr]
    dsimp only
    have hcat : all ++ ((((frm (sdr g n) p).drop (254 * (k - 1))).take 254) ++ zeros 254).take 254 = (frm (sdr g n) p).take (254 * (k + 1 - 1)) := by
      rw [hall, List.take_append_of_le_length (by rw [List.length_take, List.length_drop]; omega), List.take_of_length_le (l := ((frm (sdr g n) p).drop (254 * (k - 1))).take 254) (by rw [List.length_take]; omega)]
      rw [show 254 * (k + 1 - 1) = 254 * (k - 1) + 254 by omega, List.take_add]
    rw [hcat, frm_take_val (by omega) (by omega), if_pos (.inr (by omega))]
    exact ih f (k + 1) _ (by omega) (by omega) (by omega) rfl

theorem recD_none {D : Dr} {g n at_ : Nat} (h : at_ < hsz D → vw D (base D g + at_) = zeros 256) : recD D g n at_ = none := by
  rw [recD, recR]
  by_cases h1 : at_ + 1 ≤ hsz D
  · rw [if_pos h1, show ((base D g + at_ + 1 : Nat) : Int) - 1 = ((base D g + at_ : Nat) : Int) by omega, bare_zero (h (by omega))]
  · rw [if_neg h1]

/-- A reel that stands on a drum as it is now. -/
structure Ri (D : Dr) (g : Nat) (l : List (List UInt8)) : Prop where
  size : 6 ≤ D.l.length ∧ D.l.length ≤ 7000
  gen : 1 ≤ g ∧ g < 4294967296
  ne : 0 < l.length
  head : vw D (g % 2) = hdS g
  other : headS (vw D ((g + 1) % 2)) ((g + 1) % 2) < g
  fits : (allP g 0 l).length ≤ hsz D
  pages : ∀ j s, (allP g 0 l)[j]? = some s → vw D (base D g + j) = s
  clean : ∀ j, (allP g 0 l).length ≤ j → j < hsz D → vw D (base D g + j) = zeros 256
  recs : ∀ i p, l[i]? = some p → p.length ≤ 100000 ∧ ¬ zz (frm (sdr g i) p)

theorem base_hsz (D : Dr) (g : Nat) (h : 2 ≤ D.l.length) : base D g + hsz D ≤ D.l.length := by
  unfold base
  have : g % 2 * hsz D ≤ 1 * hsz D := Nat.mul_le_mul_right _ (by omega)
  unfold hsz at *
  omega

theorem headS_hdS {g : Nat} (h : 1 ≤ g) (hg : g < 4294967296) : headS (hdS g) (g % 2) = g := by
  have hm : ((hdS g).drop 1).take 254 = frm 0 (le4 g) ++ zeros 242 := by
    rw [hdS, mrk_mid, List.take_append, List.take_of_length_le (by rw [frm_len, le4_len]; decide), frm_len, le4_len]
    rfl
  obtain ⟨n1, n2⟩ := nOk2 0 (le4 g) (zeros 242) (by rw [le4_len]; decide) (frm_zz (by rw [le4_len]; decide) (.inl (by rw [le4_len]; decide)))
  unfold headS
  rw [hm, n1, n2, val4_le4 g hg]
  rw [if_pos]
  exact ⟨by rw [hdS, mrk_0, mrk_255], rfl, le4_len g, rfl, by rw [hdS, mrk_0]⟩

theorem ri_gen {D : Dr} {g : Nat} {l : List (List UInt8)} (h : Ri D g l) : opG D = g := by
  have h1 := headS_hdS h.gen.1 h.gen.2
  have h2 := h.head
  have h3 := h.other
  unfold opG headD
  unfold vw at h2 h3
  rcases Nat.mod_two_eq_zero_or_one g with e | e
  · have e' : (g + 1) % 2 = 1 := by omega
    rw [e] at h1 h2
    rw [e'] at h3
    rw [h2, h1, if_neg (by omega)]
  · have e' : (g + 1) % 2 = 0 := by omega
    rw [e] at h1 h2
    rw [e'] at h3
    rw [h2, h1, if_pos (by omega)]

theorem allP_get {g : Nat} {l1 l2 : List (List UInt8)} {p : List UInt8} {j : Nat} (hj : j < pgs p.length) : (allP g 0 (l1 ++ p :: l2))[(allP g 0 l1).length + j]? = some (page (frm (sdr g l1.length) p) j) := by
  have e : l1 ++ p :: l2 = (l1 ++ [p]) ++ l2 := by simp
  have key : ∀ (a b : List (List UInt8)) (i : Nat), allP g i (a ++ b) = allP g i a ++ allP g (i + a.length) b := by
    intro a
    induction a with
    | nil => intro b i; simp [allP]
    | cons q a ih => intro b i; rw [List.cons_append, allP, ih, allP, List.append_assoc, List.length_cons, show i + 1 + a.length = i + (a.length + 1) by omega]
  rw [e, key, allP_snoc, List.append_assoc, List.getElem?_append_right (by omega), Nat.add_sub_cancel_left, List.getElem?_append_left (by rw [lay_len]; exact hj), lay, Nat.zero_add, List.getElem?_map, List.getElem?_range hj]
  rfl

theorem allP_app (g : Nat) : ∀ (a b : List (List UInt8)) (i : Nat), allP g i (a ++ b) = allP g i a ++ allP g (i + a.length) b := by
  intro a
  induction a with
  | nil => intro b i; simp [allP]
  | cons q a ih => intro b i; rw [List.cons_append, allP, ih, allP, List.append_assoc, List.length_cons, show i + 1 + a.length = i + (a.length + 1) by omega]
theorem pgs_pos (n : Nat) : 1 ≤ pgs n := by unfold pgs; omega
theorem allP_ge (g : Nat) : ∀ (l : List (List UInt8)) (i : Nat), l.length ≤ (allP g i l).length
  | [], i => by simp [allP]
  | p :: l, i => by
    have := allP_ge g l (i + 1)
    have := pgs_pos p.length
    rw [allP, List.length_append, lay_len, List.length_cons]
    omega

theorem ri_scan {D : Dr} {g : Nat} {l : List (List UInt8)} (h : Ri D g l) : ∀ (l2 l1 : List (List UInt8)) (f : Nat), l = l1 ++ l2 → l2.length < f → scanR D g f l1 (allP g 0 l1).length = (l, (allP g 0 l).length)
  | [], l1, f, e, hf => by
    obtain ⟨f, rfl⟩ : ∃ f', f = f' + 1 := ⟨f - 1, by omega⟩
    rw [List.append_nil] at e
    subst e
    rw [scanR, recD_none (fun hlt => h.clean _ (Nat.le_refl _) hlt)]
  | p :: l2, l1, f, e, hf => by
    obtain ⟨f, rfl⟩ : ∃ f', f = f' + 1 := ⟨f - 1, by omega⟩
    have hfit := h.fits
    have hbh := base_hsz D g (by have := h.size; omega)
    have hlen : (allP g 0 l).length = (allP g 0 l1).length + (pgs p.length + (allP g (0 + l1.length + 1) l2).length) := by
      rw [e, allP_app, List.length_append, allP, List.length_append, lay_len]
    have hr := h.recs l1.length p (by rw [e, List.getElem?_append_right (Nat.le_refl _), Nat.sub_self]; rfl)
    have hrec : recD D g l1.length (allP g 0 l1).length = some (p, pgs p.length) := by
      have hpp := pgs_pos p.length
      refine recR_page (by omega) (by omega) hr.1 hr.2 (fun j hj => ?_) (pgs p.length - 1) (hsz D + 1) 1 [] (Nat.le_refl 1) (by omega) (by omega) (by simp)
      rw [Nat.add_assoc]
      exact h.pages _ _ (by rw [e]; exact allP_get hj)
    rw [scanR, hrec]
    dsimp only
    have := ri_scan h l2 (l1 ++ [p]) f (by rw [e]; simp) (by simp at hf; omega)
    rw [allP_snoc, Nat.zero_add, List.length_append, lay_len] at this
    exact this

theorem wipe_clean {D : Dr} : ∀ (n i : Nat) (s : Bool), (∀ j, j < n → cleanD D ((i + j : Nat) : Int)) → wipeR n i s D = (s, 0, D)
  | 0, _, _, _ => rfl
  | n + 1, i, s, h => by
    have h0 := h 0 (by omega)
    rw [Nat.add_zero] at h0
    rw [wipeR, if_pos h0]
    exact wipe_clean n (i + 1) s (fun j hj => by rw [show i + 1 + j = i + (j + 1) by omega]; exact h (j + 1) (by omega))

theorem ri_open {D : Dr} {g : Nat} {l : List (List UInt8)} (h : Ri D g l) : opG D = g ∧ opS D = (l, (allP g 0 l).length) ∧ opF D = (0, D) := by
  have hg := ri_gen h
  have hge := allP_ge g l 0
  have hfit := h.fits
  have hsz6 := h.size
  have hbh := base_hsz D g (by omega)
  have hS : opS D = (l, (allP g 0 l).length) := by
    rw [opS, hg]
    exact ri_scan h l [] (hsz D + 1) rfl (by omega)
  refine ⟨hg, hS, ?_⟩
  have h1 := h.gen
  have h2 := h.ne
  rw [opF, if_neg (by omega), hg, if_neg (by omega), hS, if_neg (show ¬ l.length = 0 by omega), wipe_clean _ _ _ (fun j hj => ⟨⟨by omega, by omega⟩, ?_⟩)]
  · rw [tidF, if_neg (fun e => absurd e.2 Bool.false_ne_true)]
  · rw [Int.toNat_natCast, Nat.add_assoc]
    exact h.clean _ (by omega) (by omega)
end Go.Proofs.YtoefhdaenaiomaaGreatDoor

/- What the acts do to what stands on a drum that is on: the plain law. -/
namespace Go.Proofs.YtoefhdaenaiomaaGreatDoor
open Go
set_option maxRecDepth 20000

/-- A drum that stays on. -/
structure On (D : Dr) : Prop where
  left : D.left = -1
  waits : ∀ p ∈ D.wait, p.1 < D.l.length
def dv (D : Dr) (i : Nat) : List UInt8 := D.l.getD i []

theorem sec_id {s : List UInt8} (h : s.length = 256) : sec s = s := by
  unfold sec
  rw [List.take_append_of_le_length (by omega), List.take_of_length_le (by omega)]

theorem wr_on {D : Dr} {i : Nat} {p : List UInt8} (h : On D) (hi : i < D.l.length) (hp : p.length ≤ 256) :
    wrErr D (i : Int) p = 0 ∧ On (wrDr D (i : Int) p) ∧ (wrDr D (i : Int) p).l = D.l ∧ ∀ j, vw (wrDr D (i : Int) p) j = if i = j then sec p else vw D j := by
  have h0 : wrErr D (i : Int) p = 0 := by
    rw [wrErr, if_pos ⟨by omega, by omega⟩, if_neg (by omega), if_neg (by rw [h.left]; decide)]
  have h1 : wrDr D (i : Int) p = { D with wait := D.wait ++ [(i, sec p)], left := -1 } := by
    rw [wrDr, if_pos h0, h.left, Int.toNat_natCast]
    rfl
  rw [h1]
  refine ⟨h0, ⟨rfl, fun q hq => ?_⟩, rfl, fun j => ?_⟩
  · rcases List.mem_append.1 hq with hq | hq
    · exact h.waits q hq
    · rw [List.mem_singleton.1 hq]
      exact hi
  · unfold vw
    rw [nowS_snoc]

theorem applyW_get : ∀ (ws : List (Nat × List UInt8)) (l : List (List UInt8)) (i : Nat), (∀ p ∈ ws, p.1 < l.length) → (applyW l ws).getD i [] = nowS l ws i
  | [], l, i, _ => rfl
  | p :: ws, l, i, h => by
    have ih := applyW_get ws (l.set p.1 p.2) i (fun q hq => by rw [List.length_set]; exact h q (by simp [hq]))
    have e1 : applyW l (p :: ws) = applyW (l.set p.1 p.2) ws := rfl
    have e2 : nowS l (p :: ws) i = ws.foldl (fun s p => if p.1 = i then p.2 else s) (if p.1 = i then p.2 else l.getD i []) := rfl
    rw [e1, ih, e2, nowS]
    congr 1
    have hp := h p (by simp)
    rw [List.getD_eq_getElem?_getD, List.getElem?_set]
    by_cases hi : p.1 = i
    · rw [if_pos hi, if_pos hi, if_pos hp]; rfl
    · rw [if_neg hi, if_neg hi, List.getD_eq_getElem?_getD]

theorem fl_on {D : Dr} (h : On D) : flErr D = 0 ∧ On (flDr D) ∧ (flDr D).l.length = D.l.length ∧ (flDr D).wait = [] ∧ (∀ j, vw (flDr D) j = vw D j) ∧ ∀ j, dv (flDr D) j = vw D j := by
  have h0 : flErr D = 0 := by rw [flErr, if_neg (by rw [h.left]; decide)]
  have h1 : flDr D = ⟨applyW D.l D.wait, [], -1⟩ := by rw [flDr, if_neg (by rw [h.left]; decide), h.left]; rfl
  rw [h1]
  exact ⟨h0, ⟨rfl, fun q hq => by simp at hq⟩, applyW_len _ _, rfl, fun j => applyW_get _ _ _ h.waits, fun j => applyW_get _ _ _ h.waits⟩

def cg (n : Nat) : Nat := (n + 253) / 254
theorem page_drop (f : List UInt8) (j : Nat) : page (f.drop 254) j = page f (j + 1) := by
  unfold page
  rw [List.drop_drop, show 254 + 254 * j = 254 * (j + 1) by omega]

theorem putR_on : ∀ (N pos : Nat) (f : List UInt8) (D : Dr), On D → pos + cg f.length ≤ D.l.length → cg f.length ≤ N →
    (putR N pos f D).1 = 0 ∧ On (putR N pos f D).2 ∧ (putR N pos f D).2.l = D.l ∧ ∀ j, vw (putR N pos f D).2 j = if pos ≤ j ∧ j < pos + cg f.length then page f (j - pos) else vw D j
  | 0, pos, f, D, h, _, hN => ⟨rfl, h, rfl, fun j => by rw [if_neg (by omega)]; rfl⟩
  | N + 1, pos, f, D, h, hl, hN => by
    rw [putR]
    by_cases h1 : f = []
    · subst h1
      rw [if_pos rfl]
      exact ⟨rfl, h, rfl, fun j => by rw [if_neg (by have : cg ([] : List UInt8).length = 0 := rfl; omega)]⟩
    · have hlen : 0 < f.length := Nat.pos_of_ne_zero (fun e => h1 (List.length_eq_zero_iff.1 e))
      have hc : cg f.length = cg (f.drop 254).length + 1 := by
        rw [List.length_drop]
        unfold cg
        omega
      obtain ⟨e0, e1, e2, e3⟩ := wr_on (p := mrk 165 (f.take 254)) h (show pos < D.l.length by omega) (by rw [mrk_len]; exact Nat.le_refl _)
      rw [if_neg h1, if_pos e0]
      obtain ⟨i0, i1, i2, i3⟩ := putR_on N (pos + 1) (f.drop 254) (wrDr D (pos : Int) (mrk 165 (f.take 254))) e1 (by rw [e2]; omega) (by omega)
      refine ⟨i0, i1, i2.trans e2, fun j => ?_⟩
      rw [i3 j]
      by_cases hj : pos = j
      · subst hj
        rw [if_neg (by omega), if_pos ⟨Nat.le_refl _, by omega⟩, e3, if_pos rfl, sec_id (mrk_len _ _), Nat.sub_self]
        rfl
      · by_cases hj2 : pos + 1 ≤ j ∧ j < pos + 1 + cg (f.drop 254).length
        · rw [if_pos hj2, if_pos ⟨by omega, by omega⟩, page_drop, show j - (pos + 1) + 1 = j - pos by omega]
        · rw [if_neg hj2, if_neg (by omega), e3, if_neg hj]

theorem cg_frm (s : Nat) (p : List UInt8) : cg (frm s p).length = pgs p.length := by rw [frm_len]; rfl

theorem putF_on {D : Dr} (g at_ i : Nat) (p : List UInt8) (h : On D) (hl : base D g + at_ + pgs p.length ≤ D.l.length) :
    (putF D g at_ i p).1 = 0 ∧ On (putF D g at_ i p).2 ∧ (putF D g at_ i p).2.l = D.l ∧ ∀ j, vw (putF D g at_ i p).2 j = if base D g + at_ ≤ j ∧ j < base D g + at_ + pgs p.length then page (frm (sdr g i) p) (j - (base D g + at_)) else vw D j := by
  have := putR_on (p.length + 8) (base D g + at_) (frm (sdr g i) p) D h (by rw [cg_frm]; exact hl) (by rw [cg_frm]; unfold pgs; omega)
  rw [cg_frm] at this
  exact this

theorem zeros_of_clean {D : Dr} {i : Nat} (h : cleanD D (i : Int)) : vw D i = zeros 256 := by
  have := h.2
  rw [Int.toNat_natCast] at this
  exact this

theorem wipe_on : ∀ (n i : Nat) (s : Bool) (D : Dr), On D → i + n ≤ D.l.length →
    (wipeR n i s D).2.1 = 0 ∧ On (wipeR n i s D).2.2 ∧ (wipeR n i s D).2.2.l = D.l ∧ ∀ j, vw (wipeR n i s D).2.2 j = if i ≤ j ∧ j < i + n then zeros 256 else vw D j
  | 0, i, s, D, h, _ => ⟨rfl, h, rfl, fun j => by rw [if_neg (by omega)]; rfl⟩
  | n + 1, i, s, D, h, hl => by
    rw [wipeR]
    by_cases h1 : cleanD D i
    · rw [if_pos h1]
      obtain ⟨a, b, c, d⟩ := wipe_on n (i + 1) s D h (by omega)
      refine ⟨a, b, c, fun j => ?_⟩
      rw [d j]
      by_cases hj : i = j
      · subst hj
        rw [if_neg (by omega), if_pos ⟨Nat.le_refl _, by omega⟩]
        exact zeros_of_clean h1
      · by_cases hj2 : i + 1 ≤ j ∧ j < i + 1 + n
        · rw [if_pos hj2, if_pos ⟨by omega, by omega⟩]
        · rw [if_neg hj2, if_neg (by omega)]
    · obtain ⟨e0, e1, e2, e3⟩ := wr_on (p := []) h (show i < D.l.length by omega) (by simp)
      rw [if_neg h1, if_pos e0]
      obtain ⟨a, b, c, d⟩ := wipe_on n (i + 1) true (wrDr D (i : Int) []) e1 (by rw [e2]; omega)
      refine ⟨a, b, c.trans e2, fun j => ?_⟩
      rw [d j, e3]
      by_cases hj : i = j
      · subst hj
        rw [if_neg (by omega), if_pos rfl, if_pos ⟨Nat.le_refl _, by omega⟩, sec_nil]
      · rw [if_neg hj]
        by_cases hj2 : i + 1 ≤ j ∧ j < i + 1 + n
        · rw [if_pos hj2, if_pos ⟨by omega, by omega⟩]
        · rw [if_neg hj2, if_neg (by omega)]

theorem begF_on {D : Dr} (g : Nat) (p : List UInt8) (h : On D) (h2 : 2 ≤ D.l.length) (hl : base D g + pgs p.length ≤ D.l.length) :
    (begF D g p).1 = 0 ∧ On (begF D g p).2 ∧ (begF D g p).2.l.length = D.l.length ∧ (begF D g p).2.wait = [] ∧ (∀ j, dv (begF D g p).2 j = vw (begF D g p).2 j) ∧
      ∀ j, vw (begF D g p).2 j = if g % 2 = j then hdS g else if base D g ≤ j ∧ j < base D g + pgs p.length then page (frm (sdr g 0) p) (j - base D g) else vw D j := by
  obtain ⟨a0, a1, a2, a3⟩ := putF_on g 0 0 p h (by omega)
  obtain ⟨P, hP⟩ : ∃ P, putF D g 0 0 p = P := ⟨_, rfl⟩
  rw [hP] at a0 a1 a2 a3
  obtain ⟨b0, b1, b2, b3, b4, b5⟩ := fl_on a1
  obtain ⟨c0, c1, c2, c3⟩ := wr_on (i := g % 2) (p := hdS g) b1 (by rw [b2, a2]; omega) (by rw [hdS, mrk_len]; exact Nat.le_refl _)
  obtain ⟨d0, d1, d2, d3, d4, d5⟩ := fl_on c1
  have hB : begF D g p = (0, flDr (wrDr (flDr P.2) (g % 2 : Nat) (hdS g))) := by
    rw [begF, hP, if_neg (fun e => e a0), if_neg (fun e => e b0), if_neg (fun e => e c0), d0]
  rw [hB]
  refine ⟨rfl, d1, by rw [d2, c2, b2, a2], d3, fun j => by rw [d5, d4], fun j => ?_⟩
  rw [d4, c3]
  by_cases hj : g % 2 = j
  · rw [if_pos hj, if_pos hj]
    exact sec_id (by rw [hdS, mrk_len])
  · rw [if_neg hj, if_neg hj, b4, a3]
    simp only [Nat.add_zero]

theorem headS_zero (i : Nat) : headS (zeros 256) i = 0 := by
  unfold headS
  rw [if_neg]
  intro e
  have h : nErr 0 (((zeros 256).drop 1).take 254) = 3 := by
    rw [nErr, if_pos]
    intro x hx
    exact List.eq_of_mem_replicate (List.mem_of_mem_drop (List.mem_of_mem_take hx))
  rw [h] at e
  exact absurd e.2.1 (by decide)

theorem lay_page {g i : Nat} {p : List UInt8} {j : Nat} {s : List UInt8} (h : (lay g i p)[j]? = some s) : j < pgs p.length ∧ s = page (frm (sdr g i) p) j := by
  have hj : j < pgs p.length := by
    have := (List.getElem?_eq_some_iff.1 h).1
    rwa [lay_len] at this
  refine ⟨hj, ?_⟩
  rw [lay, List.getElem?_map, List.getElem?_range hj] at h
  injection h with h
  exact h.symm

/-- A reel behind a new beginning. -/
theorem ri_begin {D D' : Dr} {g : Nat} {p : List UInt8} (h6 : 6 ≤ D.l.length ∧ D.l.length ≤ 7000) (hg : 1 ≤ g ∧ g < 4294967296) (hl : D'.l.length = D.l.length) (hfit : pgs p.length ≤ hsz D) (hp : p.length ≤ 100000 ∧ ¬ zz (frm (sdr g 0) p))
    (hw : ∀ j, base D g ≤ j → j < base D g + hsz D → vw D j = zeros 256) (ho : headS (vw D ((g + 1) % 2)) ((g + 1) % 2) < g)
    (hv : ∀ j, vw D' j = if g % 2 = j then hdS g else if base D g ≤ j ∧ j < base D g + pgs p.length then page (frm (sdr g 0) p) (j - base D g) else vw D j) : Ri D' g [p] := by
  have hb : 2 ≤ base D g := by unfold base; omega
  have hA : allP g 0 [p] = lay g 0 p := by simp [allP]
  have hAl : (allP g 0 [p]).length = pgs p.length := by rw [hA, lay_len]
  refine ⟨by rw [hl]; exact h6, hg, Nat.succ_pos 0, by rw [hv, if_pos rfl], ?_, by rw [hAl, hsz_len hl]; exact hfit, ?_, ?_, ?_⟩
  · rw [hv, if_neg (by omega), if_neg (by omega)]
    exact ho
  · intro j s hs
    rw [hA] at hs
    obtain ⟨hj, rfl⟩ := lay_page hs
    rw [base_len hl, hv, if_neg (by omega), if_pos ⟨by omega, by omega⟩, Nat.add_sub_cancel_left]
  · intro j h1 h2
    rw [hAl] at h1
    rw [hsz_len hl] at h2
    rw [base_len hl, hv, if_neg (by omega), if_neg (by omega)]
    exact hw _ (by omega) (by omega)
  · intro i q hq
    match i with
    | 0 => injection hq with hq; subst hq; exact hp
    | i + 1 => simp at hq

theorem rfErr_fit {n : Nat} {left : Int} (h1 : n ≤ 100000) (h2 : (pgs n : Int) ≤ left) : rfErr n left = 0 := by
  rw [rfErr, if_neg (by omega), if_neg (by omega)]
theorem rfErr_full {n : Nat} {left : Int} (h1 : n ≤ 100000) (h2 : left < (pgs n : Int)) : rfErr n left = 6 := by
  rw [rfErr, if_neg (by omega), if_pos h2]

theorem mkF_on {D : Dr} {p : List UInt8} (h : On D) (h6 : 6 ≤ D.l.length ∧ D.l.length ≤ 7000) (hp : p.length ≤ 100000 ∧ ¬ zz (frm (sdr 1 0) p)) (hfit : pgs p.length ≤ hsz D) :
    (mkF D p).1 = 0 ∧ On (mkF D p).2 ∧ (mkF D p).2.l.length = D.l.length ∧ (mkF D p).2.wait = [] ∧ (∀ j, dv (mkF D p).2 j = vw (mkF D p).2 j) ∧ Ri (mkF D p).2 1 [p] := by
  obtain ⟨a0, a1, a2, a3⟩ := wipe_on D.l.length 0 false D h (by omega)
  obtain ⟨W, hW⟩ : ∃ W, wipeR D.l.length 0 false D = W := ⟨_, rfl⟩
  rw [hW] at a0 a1 a2 a3
  obtain ⟨b0, b1, b2, b3, b4, b5⟩ := fl_on a1
  have hlen : (flDr W.2.2).l.length = D.l.length := by rw [b2, a2]
  have hbh := base_hsz D 1 (by omega)
  obtain ⟨c0, c1, c2, c3, c4, c5⟩ := begF_on (D := flDr W.2.2) 1 p b1 (by omega) (by rw [base_len hlen, hlen]; omega)
  have hM : mkF D p = begF (flDr W.2.2) 1 p := by
    rw [mkF, if_neg (by omega), rfErr_fit hp.1 (by omega), if_neg (fun e => e rfl), hW, if_neg (fun e => e a0), if_neg (fun e => e b0)]
  have hz : ∀ j, j < D.l.length → vw (flDr W.2.2) j = zeros 256 := fun j hj => by rw [b4, a3, if_pos ⟨Nat.zero_le _, by omega⟩]
  rw [hM]
  refine ⟨c0, c1, by rw [c2, hlen], c3, c4, ri_begin (D := flDr W.2.2) (by rw [hlen]; exact h6) ⟨by decide, by decide⟩ c2 (by rw [hsz_len hlen]; exact hfit) hp (fun j h1 h2 => hz j ?_) ?_ c5⟩
  · rw [base_len hlen, hsz_len hlen] at h2
    omega
  · rw [hz _ (by omega), headS_zero]
    decide

theorem trF_on {D : Dr} {g : Nat} {l : List (List UInt8)} {p : List UInt8} (h : On D) (hr : Ri D g l) (hg : g < 2147483648) (hp : p.length ≤ 100000 ∧ ¬ zz (frm (sdr (g + 1) 0) p)) (hfit : pgs p.length ≤ hsz D) :
    (trF D g p).1 = 0 ∧ On (trF D g p).2 ∧ (trF D g p).2.l.length = D.l.length ∧ (trF D g p).2.wait = [] ∧ (∀ j, dv (trF D g p).2 j = vw (trF D g p).2 j) ∧ Ri (trF D g p).2 (g + 1) [p] := by
  have h6 := hr.size
  have hbh := base_hsz D (g + 1) (by omega)
  have hb : 2 ≤ base D (g + 1) := by unfold base; omega
  obtain ⟨a0, a1, a2, a3⟩ := wipe_on (hsz D) (base D (g + 1)) false D h (by omega)
  obtain ⟨W, hW⟩ : ∃ W, wipeR (hsz D) (base D (g + 1)) false D = W := ⟨_, rfl⟩
  rw [hW] at a0 a1 a2 a3
  have hlen : W.2.2.l.length = D.l.length := by rw [a2]
  obtain ⟨c0, c1, c2, c3, c4, c5⟩ := begF_on (D := W.2.2) (g + 1) p a1 (by omega) (by rw [base_len hlen, hlen]; omega)
  have hM : trF D g p = begF W.2.2 (g + 1) p := by
    rw [trF, rfErr_fit hp.1 (by omega), if_neg (fun e => e rfl), if_neg (by omega), hW, if_neg (fun e => e a0)]
  rw [hM]
  refine ⟨c0, c1, by rw [c2, hlen], c3, c4, ri_begin (D := W.2.2) (by rw [hlen]; exact h6) ⟨by omega, by omega⟩ c2 (by rw [hsz_len hlen]; exact hfit) hp (fun j h1 h2 => ?_) ?_ c5⟩
  · rw [base_len hlen] at h1 h2
    rw [hsz_len hlen] at h2
    rw [a3, if_pos ⟨h1, h2⟩]
  · rw [show (g + 1 + 1) % 2 = g % 2 by omega, a3, if_neg (by omega), hr.head, headS_hdS hr.gen.1 hr.gen.2]
    omega

theorem app_on {D : Dr} {g : Nat} {l : List (List UInt8)} {p : List UInt8} (h : On D) (hr : Ri D g l) (hp : p.length ≤ 100000 ∧ ¬ zz (frm (sdr g l.length) p)) (hfit : (allP g 0 l).length + pgs p.length ≤ hsz D) :
    appE D g l.length (allP g 0 l).length p = 0 ∧ On (appD D g l.length (allP g 0 l).length p) ∧ (appD D g l.length (allP g 0 l).length p).l = D.l ∧ Ri (appD D g l.length (allP g 0 l).length p) g (l ++ [p]) := by
  have h6 := hr.size
  have hbh := base_hsz D g (by omega)
  have hb : 2 ≤ base D g := by unfold base; omega
  obtain ⟨a0, a1, a2, a3⟩ := putF_on g (allP g 0 l).length l.length p h (by omega)
  have he := rfErr_fit (left := (hsz D : Int) - (allP g 0 l).length) hp.1 (by omega)
  rw [appE, appD, he, if_neg (fun e => e rfl), if_neg (fun e => e rfl)]
  obtain ⟨P, hP⟩ : ∃ P, putF D g (allP g 0 l).length l.length p = P := ⟨_, rfl⟩
  rw [hP] at a0 a1 a2 a3 ⊢
  have hA : allP g 0 (l ++ [p]) = allP g 0 l ++ lay g l.length p := by rw [allP_snoc, Nat.zero_add]
  have hAl : (allP g 0 (l ++ [p])).length = (allP g 0 l).length + pgs p.length := by rw [hA, List.length_append, lay_len]
  have hlen : P.2.l.length = D.l.length := by rw [a2]
  refine ⟨a0, a1, a2, ⟨by rw [hlen]; exact h6, hr.gen, by simp, ?_, ?_, by rw [hAl, hsz_len hlen]; exact hfit, ?_, ?_, ?_⟩⟩
  · rw [a3, if_neg (by omega)]; exact hr.head
  · rw [a3, if_neg (by omega)]; exact hr.other
  · intro j s hs
    rw [base_len hlen, a3]
    rw [hA] at hs
    rcases Nat.lt_or_ge j (allP g 0 l).length with hj | hj
    · rw [List.getElem?_append_left hj] at hs
      rw [if_neg (by omega)]
      exact hr.pages j s hs
    · rw [List.getElem?_append_right hj] at hs
      obtain ⟨hj2, rfl⟩ := lay_page hs
      rw [if_pos ⟨by omega, by omega⟩, show base D g + j - (base D g + (allP g 0 l).length) = j - (allP g 0 l).length by omega]
  · intro j h1 h2
    rw [hAl] at h1
    rw [hsz_len hlen] at h2
    rw [base_len hlen, a3, if_neg (by omega)]
    exact hr.clean j (by omega) h2
  · intro i q hq
    rcases Nat.lt_or_ge i l.length with hi | hi
    · rw [List.getElem?_append_left hi] at hq
      exact hr.recs i q hq
    · rw [List.getElem?_append_right hi] at hq
      have : i - l.length = 0 := by
        have := (List.getElem?_eq_some_iff.1 hq).1
        simp at this
        omega
      rw [this] at hq
      injection hq with hq
      subst hq
      rw [show i = l.length by omega]
      exact hp

theorem app_full {D : Dr} {g n at_ : Nat} {p : List UInt8} (hp : p.length ≤ 100000) (hfit : hsz D < at_ + pgs p.length) : appE D g n at_ p = 6 ∧ appD D g n at_ p = D := by
  have he := rfErr_full (left := (hsz D : Int) - at_) hp (by omega)
  rw [appE, appD, he]
  exact ⟨rfl, rfl⟩

/-- What is seen alike is the same reel. -/
theorem Ri.same {D D' : Dr} {g : Nat} {l : List (List UInt8)} (h : Ri D g l) (hl : D'.l.length = D.l.length) (hv : ∀ j, vw D' j = vw D j) : Ri D' g l :=
  ⟨by rw [hl]; exact h.size, h.gen, h.ne, by rw [hv]; exact h.head, by rw [hv]; exact h.other, by rw [hsz_len hl]; exact h.fits, fun j s hs => by rw [base_len hl, hv]; exact h.pages j s hs, fun j h1 h2 => by rw [base_len hl, hv]; exact h.clean j h1 (by rw [← hsz_len hl]; exact h2), h.recs⟩

theorem fstep_none : ∀ (xs : List ((Nat × List UInt8) × Nat)) (s : FS), xs.foldl (fstep []) s = s
  | [], s => rfl
  | x :: xs, s => by
    rw [List.foldl_cons, fstep, if_neg (by simp), fstep_none xs s]
theorem fall_none (D : Dr) : drFall D [] (-1) = ⟨D.l, [], -1⟩ := by
  have h1 : fgo [] D.l D.wait = ⟨D.l, -1, zeros 256⟩ := fstep_none _ _
  unfold drFall
  rw [h1]
  dsimp only
  rw [if_neg (by decide)]
theorem fall_on (D : Dr) : On (drFall D [] (-1)) ∧ (drFall D [] (-1)).l = D.l ∧ ∀ j, vw (drFall D [] (-1)) j = dv D j := by
  rw [fall_none]
  exact ⟨⟨rfl, fun p hp => by simp at hp⟩, rfl, fun j => rfl⟩
end Go.Proofs.YtoefhdaenaiomaaGreatDoor

/- No frame of few generations and records is noughts. -/
namespace Go.Proofs.YtoefhdaenaiomaaGreatDoor
open Go
set_option maxRecDepth 20000

def okAll (n m : Nat) : Bool := (List.range n).all fun g => (List.range m).all fun i => !(chk (sdr g i) [0, 0, 0, 0] == 0)
theorem ok_all : okAll 30 30 = true := by kernel_rfl
theorem sdr_ok {g i : Nat} (hg : g < 30) (hi : i < 30) : chk (sdr g i) (le4 0) ≠ 0 := by
  have h := ok_all
  unfold okAll at h
  rw [List.all_eq_true] at h
  have h1 := h g (List.mem_range.2 hg)
  rw [List.all_eq_true] at h1
  have h2 := h1 i (List.mem_range.2 hi)
  intro e
  have e' : chk (sdr g i) [0, 0, 0, 0] = 0 := e
  rw [e'] at h2
  exact absurd h2 (by decide)
theorem rec_ok {g i : Nat} {p : List UInt8} (hg : g < 30) (hi : i < 30) (hp : p.length ≤ 100000) : p.length ≤ 100000 ∧ ¬ zz (frm (sdr g i) p) := ⟨hp, frm_zz (by omega) (.inr (sdr_ok hg hi))⟩
end Go.Proofs.YtoefhdaenaiomaaGreatDoor

/- A reel on a drum that is on: what its methods answer. -/
namespace Go.Proofs.YtoefhdaenaiomaaGreatDoor
open Go
set_option maxRecDepth 20000

theorem drNew_on (n : Nat) : On (drNew n) := ⟨rfl, fun p hp => by simp [drNew] at hp⟩
theorem drNew_len (n : Nat) : (drNew n).l.length = n := by simp [drNew]
theorem drNew_hsz (n : Nat) : hsz (drNew n) = (n - 2) / 2 := by rw [hsz, drNew_len]
theorem IsD.dm {w w' : World} {hb : Nat} {D : Dr} (h : IsD w' (fresh w) hb D) : Dm w' (fun j => w.heap.size ≤ j ∧ j < w'.heap.size) hb D := ⟨h.mono (fun b hb h => ⟨h, hb⟩), fun b h => h.2⟩

/-- A reel and its drum, that is on. -/
structure RD (w : World) (F Fr : Nat → Prop) (hb rb : Nat) (D : Dr) (g : Nat) (l : List (List UInt8)) : Prop where
  dm : Dm w F hb D
  rl : Rl w F Fr hb rb g l (allP g 0 l).length
  on : On D
  ri : Ri D g l
theorem RD.same {w w' : World} {F Fr : Nat → Prop} {hb rb g : Nat} {D : Dr} {l : List (List UInt8)} (h : RD w F Fr hb rb D g l) (k : Kept none0 w w') : RD w' F Fr hb rb D g l := ⟨h.dm.same k, h.rl.same h.dm.lt k, h.on, h.ri⟩
/-- The law's own blocks are turned. -/
theorem RD.mv {w w' : World} {F Fr K : Nat → Prop} {hb rb g : Nat} {D : Dr} {l : List (List UInt8)} (h : RD w F Fr hb rb D g l) (k : Kept K w w') (hK : ∀ b, uni F Fr b → ¬ K b) : RD w' F Fr hb rb D g l :=
  ⟨h.dm.mv k (fun b e => hK b (.inl e)), h.rl.mv k (fun b e => hK b (.inr e)), h.on, h.ri⟩
theorem RD.lt {w : World} {F Fr : Nat → Prop} {hb rb g : Nat} {D : Dr} {l : List (List UInt8)} (h : RD w F Fr hb rb D g l) : ∀ b, uni F Fr b → b < w.heap.size := h.rl.lt2 h.dm.lt

/-- An own slice beside what is owned. -/
theorem Own.os {F F' : Nat → Prop} {w w' : World} (o : Own F w F' w') {G : Nat → Prop} {v : Value} {l : List (List UInt8)} (h : OS w (fun b => G b ∧ ¬ F b) v l) : OS w' (fun b => G b ∧ ¬ F' b) v l := by
  obtain ⟨vs, h1, h2, h3⟩ := h
  refine ⟨vs, h1, ((h2.mono (G := fun b => (G b ∧ ¬ F b) ∧ b < w.heap.size) (fun _ hb h => ⟨h, hb⟩)).mv o.kept (fun _ _ h e => h.1.2 e)).mono (fun b _ h => ⟨h.1.1, fun e => o.out h.2 h.1.2 e⟩), fun j u p hu hp => ?_⟩
  exact (((h3 j u p hu hp).mono (G := fun b => ((G b ∧ ¬ F b) ∧ v.ownBlock ≠ some b) ∧ b < w.heap.size) (fun _ hb h => ⟨h, hb⟩)).mv o.kept (fun _ _ h e => h.1.1.2 e)).mono (fun b _ h => ⟨⟨h.1.1.1, fun e => o.out h.2 h.1.1.2 e⟩, h.1.2⟩)

theorem flDr_wait0 {D : Dr} (h : On D) : (flDr D).wait = [] := (fl_on h).2.2.2.1

theorem make_on (w : World) (F : Nat → Prop) (hb : Nat) (D : Dr) (v : Value) (p : List UInt8) (h : Dm w F hb D) (ho : On D) (h6 : 6 ≤ D.l.length ∧ D.l.length ≤ 7000) (hv : BS w (fun b => ¬ F b) v p) (hp : p.length ≤ 100000 ∧ ¬ zz (frm (sdr 1 0) p)) (hfit : pgs p.length ≤ hsz D) (hwn : D.wait.length + 400000 < 1000000) :
    Calls Tryz.prog 7 [ptr hb, v].toArray w (Ret fun r w' => ∃ F' Fr rb D', r = .tuple #[ptr rb, .nilIface] ∧ Own F w F' w' ∧ RD w' F' Fr hb rb D' 1 [p] ∧ (∀ b, Fr b → w.heap.size ≤ b) ∧ D'.l.length = D.l.length ∧ D'.wait = [] ∧ ∀ j, dv D' j = vw D' j) := by
  obtain ⟨m0, m1, m2, m3, m4, m5⟩ := mkF_on ho h6 hp hfit
  refine (make_rc w F hb D v p h hv (by omega) hwn).mono ?_
  rintro e w' ⟨r, rfl, F', o, hD, hc⟩
  rcases hc with ⟨e, _⟩ | ⟨_, rb, Fr, rfl, hR, hFr⟩
  · exact absurd m0 e
  · have : (allP 1 0 [p]).length = pgs p.length := by simp [allP, lay_len]
    exact ⟨_, rfl, F', Fr, rb, _, rfl, o, ⟨hD, by rw [this]; exact hR, m1, m5⟩, hFr, m2, m3, m4⟩

theorem append_on {w : World} {F Fr : Nat → Prop} {hb rb g : Nat} {D : Dr} {l : List (List UInt8)} (v : Value) (p : List UInt8) (h : RD w F Fr hb rb D g l) (hv : BS w (fun b => ¬ uni F Fr b) v p) (hp : p.length ≤ 100000 ∧ ¬ zz (frm (sdr g l.length) p)) (hfit : (allP g 0 l).length + pgs p.length ≤ hsz D) (hwn : D.wait.length + 200000 < 1000000) :
    Calls Tryz.prog 20 [ptr rb, v].toArray w (Ret fun r w' => r = .nilIface ∧ ∃ F' Fr' D', Own (uni F Fr) w (uni F' Fr') w' ∧ RD w' F' Fr' hb rb D' g (l ++ [p]) ∧ D'.l = D.l ∧ D'.wait.length ≤ D.wait.length + (p.length + 8)) := by
  have h6 := h.ri.size
  have hge := allP_ge g l 0
  have hfi := h.ri.fits
  have hz : hsz D ≤ 3500 := by unfold hsz; omega
  obtain ⟨a0, a1, a2, a3⟩ := app_on h.on h.ri hp hfit
  have hc := append_rc v p h.rl h.dm (by omega) hv (by omega) (by omega) hwn
  rw [if_pos a0, if_pos a0, a0, errV0] at hc
  refine hc.mono ?_
  rintro e w' ⟨r, rfl, rfl, F', Fr', o, hD, hR⟩
  refine ⟨_, rfl, rfl, F', Fr', _, o, ⟨hD, ?_, a1, a3⟩, a2, ?_⟩
  · rw [allP_snoc, List.length_append, lay_len]
    exact hR
  · rw [appD]
    split
    · omega
    · exact putF_wait _ _ _ _ _

theorem append_no {w : World} {F Fr : Nat → Prop} {hb rb g : Nat} {D : Dr} {l : List (List UInt8)} (v : Value) (p : List UInt8) (h : RD w F Fr hb rb D g l) (hv : BS w (fun b => ¬ uni F Fr b) v p) (hp : p.length ≤ 100000) (hfit : hsz D < (allP g 0 l).length + pgs p.length) (hwn : D.wait.length + 200000 < 1000000) :
    Calls Tryz.prog 20 [ptr rb, v].toArray w (Ret fun r w' => r = errV 6 ∧ ∃ F' Fr', Own (uni F Fr) w (uni F' Fr') w' ∧ RD w' F' Fr' hb rb D g l) := by
  have h6 := h.ri.size
  have hge := allP_ge g l 0
  have hfi := h.ri.fits
  have hz : hsz D ≤ 3500 := by unfold hsz; omega
  obtain ⟨a0, a1⟩ := app_full (D := D) (g := g) (n := l.length) (at_ := (allP g 0 l).length) hp hfit
  have hc := append_rc v p h.rl h.dm (by omega) hv (by omega) (by omega) hwn
  rw [a0, a1, if_neg (by decide), if_neg (by decide)] at hc
  refine hc.mono ?_
  rintro e w' ⟨r, rfl, rfl, F', Fr', o, hD, hR⟩
  exact ⟨_, rfl, rfl, F', Fr', o, hD, hR, h.on, h.ri⟩

theorem flush_on {w : World} {F Fr : Nat → Prop} {hb rb g : Nat} {D : Dr} {l : List (List UInt8)} (h : RD w F Fr hb rb D g l) :
    Calls Tryz.prog 9 [ptr rb].toArray w (Ret fun r w' => r = .nilIface ∧ ∃ F' D', Own (uni F Fr) w (uni F' Fr) w' ∧ RD w' F' Fr hb rb D' g l ∧ D'.l.length = D.l.length ∧ D'.wait = [] ∧ (∀ j, dv D' j = vw D' j) ∧ ∀ j, vw D' j = vw D j) := by
  obtain ⟨f0, f1, f2, f3, f4, f5⟩ := fl_on h.on
  have hc := rflush_c h.rl h.dm
  rw [f0, errV0] at hc
  refine hc.mono ?_
  rintro e w' ⟨r, rfl, rfl, F', o, hD, hR⟩
  exact ⟨_, rfl, rfl, F', _, o.both h.rl.lt, ⟨hD, hR, f1, h.ri.same f2 f4⟩, f2, f3, fun j => by rw [f5, f4], f4⟩

theorem turn_on {w : World} {F Fr : Nat → Prop} {hb rb g : Nat} {D : Dr} {l : List (List UInt8)} (v : Value) (p : List UInt8) (h : RD w F Fr hb rb D g l) (hv : BS w (fun b => ¬ uni F Fr b) v p) (hg : g < 1000000) (hp : p.length ≤ 100000 ∧ ¬ zz (frm (sdr (g + 1) 0) p)) (hfit : pgs p.length ≤ hsz D) (hwn : D.wait.length + 400000 < 1000000) :
    Calls Tryz.prog 10 [ptr rb, v].toArray w (Ret fun r w' => r = .nilIface ∧ ∃ F' Fr' D', Own (uni F Fr) w (uni F' Fr') w' ∧ RD w' F' Fr' hb rb D' (g + 1) [p] ∧ D'.l.length = D.l.length ∧ D'.wait = [] ∧ ∀ j, dv D' j = vw D' j) := by
  have h6 := h.ri.size
  obtain ⟨t0, t1, t2, t3, t4, t5⟩ := trF_on h.on h.ri (by omega) hp hfit
  have hc := rturn_c v p h.rl h.dm (by omega) hv (by omega) hwn
  rw [if_pos t0, if_pos t0, if_pos t0, t0, errV0] at hc
  refine hc.mono ?_
  rintro e w' ⟨r, rfl, rfl, F', Fr', o, hD, hR⟩
  have : (allP (g + 1) 0 [p]).length = pgs p.length := by simp [allP, lay_len]
  exact ⟨_, rfl, rfl, F', Fr', _, o, ⟨hD, by rw [this]; exact hR, t1, t5⟩, t2, t3, t4⟩

/-- What stands on a drum is found. -/
theorem open_on (w : World) (F : Nat → Prop) (hb : Nat) (D : Dr) (g : Nat) (l : List (List UInt8)) (h : Dm w F hb D) (ho : On D) (hr : Ri D g l) (hwn : D.wait.length + 400000 < 1000000) :
    Calls Tryz.prog 14 [ptr hb].toArray w (Ret fun r w' => ∃ F' Fr rb, r = .tuple #[ptr rb, .nilIface] ∧ Own F w F' w' ∧ RD w' F' Fr hb rb D g l ∧ ∀ b, Fr b → w.heap.size ≤ b) := by
  obtain ⟨e1, e2, e3⟩ := ri_open hr
  have hc := open_rc w F hb D h hr.size.2 hwn
  rw [e1, e2, e3] at hc
  refine hc.mono ?_
  rintro e w' ⟨r, rfl, F', o, hD, hcase⟩
  rcases hcase with ⟨e, _⟩ | ⟨_, rb, Fr, rfl, hR, hFr⟩
  · exact absurd rfl e
  · exact ⟨_, rfl, F', Fr, rb, rfl, o, ⟨hD, hR, ho, hr⟩, hFr⟩
/-- A fall, that keeps nothing: what is flushed is found. -/
theorem Ri.fall {D : Dr} {g : Nat} {l : List (List UInt8)} (h : Ri D g l) (hv : ∀ j, dv D j = vw D j) : Ri (drFall D [] (-1)) g l := by
  obtain ⟨f1, f2, f3⟩ := fall_on D
  exact h.same (by rw [f2]) (fun j => by rw [f3, hv])
end Go.Proofs.YtoefhdaenaiomaaGreatDoor

/- Open on anything: what it found it finds again. The plain law. -/
namespace Go.Proofs.YtoefhdaenaiomaaGreatDoor
open Go
set_option maxRecDepth 20000

theorem bareD_congr {D D' : Dr} {i : Int} {m : UInt8} (hl : D'.l.length = D.l.length) (h : vw D' i.toNat = vw D i.toNat) : bareD D' i m = bareD D i m := by
  unfold vw at h
  unfold bareD
  rw [hl, h]
theorem recR_congr {D D' : Dr} {g n a : Nat} (hl : D'.l.length = D.l.length) : ∀ (f k : Nat) (all p : List UInt8) (q : Nat), 1 ≤ k → recR D g n a f k all = some (p, q) → (∀ j, a ≤ j → j < a + q → vw D' (base D g + j) = vw D (base D g + j)) → recR D' g n a f k all = some (p, q)
  | 0, _, _, _, _, _, h, _ => by rw [recR] at h; cases h
  | f + 1, k, all, p, q, hk, h, hv => by
    have hkq := (recR_some _ _ _ _ _ h).1
    rw [recR] at h ⊢
    rw [hsz_len hl, base_len hl]
    rw [bareD_congr hl (show vw D' (((base D g + a + k : Nat) : Int) - 1).toNat = vw D (((base D g + a + k : Nat) : Int) - 1).toNat by
      rw [show (((base D g + a + k : Nat) : Int) - 1).toNat = base D g + (a + k - 1) by omega]
      exact hv _ (by omega) (by omega))]
    by_cases h1 : a + k ≤ hsz D
    · rw [if_pos h1] at h ⊢
      cases hb : bareD D ((base D g + a + k : Nat) - 1 : Int) 165 with
      | none => rw [hb] at h; cases h
      | some b =>
        rw [hb] at h
        dsimp only at h ⊢
        by_cases h2 : 100000 < val4 (all ++ b) ∨ k < pgs (val4 (all ++ b))
        · rw [if_pos h2] at h ⊢
          exact recR_congr hl f (k + 1) (all ++ b) p q (by omega) h hv
        · rw [if_neg h2] at h ⊢
          exact h
    · rw [if_neg h1] at h; cases h
theorem recD_congr {D D' : Dr} {g n a : Nat} (hl : D'.l.length = D.l.length) {p : List UInt8} {q : Nat} (h : recD D g n a = some (p, q)) (hv : ∀ j, a ≤ j → j < a + q → vw D' (base D g + j) = vw D (base D g + j)) : recD D' g n a = some (p, q) := by
  rw [recD] at h ⊢
  rw [hsz_len hl]
  exact recR_congr hl _ _ _ _ _ (Nat.le_refl _) h hv
theorem scanR_ge {D : Dr} {g : Nat} : ∀ (f : Nat) (l : List (List UInt8)) (a : Nat), a ≤ (scanR D g f l a).2
  | 0, _, _ => Nat.le_refl _
  | f + 1, l, a => by
    rw [scanR]
    cases h : recD D g l.length a with
    | none => exact Nat.le_refl _
    | some x =>
      obtain ⟨p, q⟩ := x
      have := scanR_ge (D := D) (g := g) f (l ++ [p]) (a + q)
      dsimp only
      omega
theorem scanR_le {D : Dr} {g : Nat} : ∀ (f : Nat) (l : List (List UInt8)) (a : Nat), a ≤ hsz D → (scanR D g f l a).2 ≤ hsz D
  | 0, _, _, h => h
  | f + 1, l, a, h => by
    rw [scanR]
    cases hr : recD D g l.length a with
    | none => exact h
    | some x =>
      obtain ⟨p, q⟩ := x
      exact scanR_le f (l ++ [p]) (a + q) (recD_some hr).2.1
theorem scan_again {D D' : Dr} {g : Nat} (hl : D'.l.length = D.l.length) : ∀ (f : Nat) (l : List (List UInt8)) (a : Nat), (∀ j, j < (scanR D g f l a).2 → vw D' (base D g + j) = vw D (base D g + j)) →
    recD D' g (scanR D g f l a).1.length (scanR D g f l a).2 = none → scanR D' g f l a = scanR D g f l a
  | 0, _, _, _, _ => rfl
  | f + 1, l, a, hv, hn => by
    rw [scanR] at hv hn
    rw [scanR, scanR]
    cases hr : recD D g l.length a with
    | none =>
      rw [hr] at hn
      dsimp only at hn
      rw [hn]
    | some x =>
      obtain ⟨p, q⟩ := x
      rw [hr] at hv hn
      dsimp only at hv hn
      have hge := scanR_ge (D := D) (g := g) f (l ++ [p]) (a + q)
      rw [recD_congr hl hr (fun j h1 h2 => hv j (by omega))]
      exact scan_again hl f (l ++ [p]) (a + q) hv hn

theorem opS_le (D : Dr) : (opS D).2 ≤ hsz D := scanR_le _ _ _ (Nat.zero_le _)

/-- Open has its errors. -/
theorem open_errs {D : Dr} (h : On D) (h6 : 6 ≤ D.l.length ∧ D.l.length ≤ 7000) : (opF D).1 = 0 ∨ (opF D).1 = 3 ∨ (opF D).1 = 5 ∨ (opF D).1 = 2 := by
  have hbh := base_hsz D (opG D) (by omega)
  have hle := opS_le D
  obtain ⟨a0, a1, a2, a3⟩ := wipe_on (hsz D - (opS D).2) (base D (opG D) + (opS D).2) false D h (by omega)
  obtain ⟨W, hW⟩ : ∃ W, wipeR (hsz D - (opS D).2) (base D (opG D) + (opS D).2) false D = W := ⟨_, rfl⟩
  rw [hW] at a0 a1
  rw [opF, if_neg (by omega)]
  by_cases h1 : opG D = 0
  · rw [if_pos h1]
    dsimp only
    split
    · exact .inr (.inl rfl)
    · exact .inr (.inr (.inl rfl))
  · rw [if_neg h1]
    by_cases h2 : (opS D).1.length = 0
    · rw [if_pos h2]; exact .inr (.inr (.inr rfl))
    · rw [if_neg h2, hW, tidF]
      left
      split
      · exact (fl_on a1).1
      · exact a0

/-- What Open leaves. -/
theorem open_leaves {D : Dr} (h : On D) (h6 : 6 ≤ D.l.length ∧ D.l.length ≤ 7000) (h0 : (opF D).1 = 0) :
    On (opF D).2 ∧ (opF D).2.l.length = D.l.length ∧ (opF D).2.wait.length ≤ D.wait.length + hsz D ∧ opG D ≠ 0 ∧ 0 < (opS D).1.length ∧
      ∀ j, vw (opF D).2 j = if base D (opG D) + (opS D).2 ≤ j ∧ j < base D (opG D) + hsz D then zeros 256 else vw D j := by
  have hbh := base_hsz D (opG D) (by omega)
  have hle := opS_le D
  obtain ⟨a0, a1, a2, a3⟩ := wipe_on (hsz D - (opS D).2) (base D (opG D) + (opS D).2) false D h (by omega)
  have hk := wipeR_keeps (hsz D - (opS D).2) (base D (opG D) + (opS D).2) false D
  obtain ⟨W, hW⟩ : ∃ W, wipeR (hsz D - (opS D).2) (base D (opG D) + (opS D).2) false D = W := ⟨_, rfl⟩
  rw [hW] at a0 a1 a2 a3 hk
  rw [opF, if_neg (by omega)] at h0 ⊢
  by_cases h1 : opG D = 0
  · rw [if_pos h1] at h0
    dsimp only at h0
    split at h0 <;> cases h0
  · rw [if_neg h1] at h0 ⊢
    by_cases h2 : (opS D).1.length = 0
    · rw [if_pos h2] at h0; cases h0
    · rw [if_neg h2, hW] at h0 ⊢
      obtain ⟨b0, b1, b2, b3, b4, b5⟩ := fl_on a1
      have hv : ∀ j, vw W.2.2 j = if base D (opG D) + (opS D).2 ≤ j ∧ j < base D (opG D) + hsz D then zeros 256 else vw D j := by
        intro j
        rw [a3]
        rw [show base D (opG D) + (opS D).2 + (hsz D - (opS D).2) = base D (opG D) + hsz D by omega]
      rw [tidF]
      split
      · exact ⟨b1, by dsimp only; rw [b2, a2], by dsimp only; rw [b3]; exact Nat.zero_le _, h1, by omega, fun j => by dsimp only; rw [b4, hv]⟩
      · exact ⟨a1, by rw [a2], by omega, h1, by omega, hv⟩

/-- It finds it again. -/
theorem open_again {D : Dr} (h : On D) (h6 : 6 ≤ D.l.length ∧ D.l.length ≤ 7000) (h0 : (opF D).1 = 0) :
    opG (opF D).2 = opG D ∧ opS (opF D).2 = opS D ∧ opF (opF D).2 = (0, (opF D).2) := by
  obtain ⟨c1, c2, c3, c4, c5, c6⟩ := open_leaves h h6 h0
  obtain ⟨D', hD'⟩ : ∃ D', (opF D).2 = D' := ⟨_, rfl⟩
  rw [hD'] at c1 c2 c3 c6 ⊢
  have hbh := base_hsz D (opG D) (by omega)
  have hle := opS_le D
  have hb2 : 2 ≤ base D (opG D) := by unfold base; omega
  have hG : opG D' = opG D := by
    have e0 : vw D' 0 = vw D 0 := by rw [c6, if_neg (by omega)]
    have e1 : vw D' 1 = vw D 1 := by rw [c6, if_neg (by omega)]
    unfold vw at e0 e1
    unfold opG headD
    rw [e0, e1]
  have hS : opS D' = opS D := by
    rw [opS, hG, hsz_len c2]
    refine scan_again c2 _ _ _ (fun j hj => ?_) (recD_none (fun hlt => ?_))
    · have hj : j < (opS D).2 := hj
      rw [c6, if_neg (by omega)]
    · have hlt : (opS D).2 < hsz D' := hlt
      have e : base D' (opG D) = base D (opG D) := base_len c2 _
      rw [hsz_len c2] at hlt
      rw [e]
      show vw D' (base D (opG D) + (opS D).2) = _
      rw [c6, if_pos ⟨Nat.le_refl _, by omega⟩]
  refine ⟨hG, hS, ?_⟩
  rw [opF, if_neg (by omega), hG, if_neg c4, hS, if_neg (by omega), wipe_clean _ _ _ (fun j hj => ⟨⟨by omega, ?_⟩, ?_⟩)]
  · rw [tidF, if_neg (fun e => absurd e.2 Bool.false_ne_true)]
  · rw [hsz_len c2] at hj
    rw [base_len c2, c2]
    omega
  · rw [Int.toNat_natCast]
    rw [hsz_len c2] at hj
    rw [base_len c2]
    show vw D' _ = _
    rw [c6, if_pos ⟨by omega, by omega⟩]
end Go.Proofs.YtoefhdaenaiomaaGreatDoor
