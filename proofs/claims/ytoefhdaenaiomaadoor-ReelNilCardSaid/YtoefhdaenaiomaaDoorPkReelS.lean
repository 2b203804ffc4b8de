/- Records, each in a row of its own. -/
import Derived.Test.YtoefhdaenaiomaaDoorPk14
set_option linter.unusedVariables false
set_option linter.unusedSimpArgs false
namespace Go.Proofs.YtoefhdaenaiomaaDoor
open Go
set_option maxRecDepth 20000

/-- Bytes in block g, whatever they are. -/
def IntsN (w : World) (g N : Nat) : Prop := ∃ cs t, Blk w g cs t ∧ N ≤ cs.length ∧ ∀ j, j < N → ∃ z, cs[j]? = some (.int .u8 z)
theorem IntsN.of_bs {w : World} {g N : Nat} {l : List UInt8} {pad : List Value} {t : TypeId} (h : Blk w g (encBs l ++ pad) t) (hl : l.length = N) : IntsN w g N := by
  refine ⟨_, t, h, by rw [List.length_append, encBs_len]; omega, fun j hj => ⟨(l[j]'(by omega)).toNat, ?_⟩⟩
  rw [List.getElem?_append_left (by rw [encBs_len]; omega)]
  exact get_enc (by omega)
theorem IntsN.set {w w' : World} {g N o : Nat} {cs : List Value} {t : TypeId} {z : Int} (hu : Upd w w' g (cs.set o (.int .u8 z)) t) (hl : N ≤ cs.length) (hc : ∀ j, j < N → ∃ z, cs[j]? = some (.int .u8 z)) : IntsN w' g N := by
  refine ⟨_, t, hu.blk, by rw [List.length_set]; exact hl, fun j hj => ?_⟩
  rw [List.getElem?_set]
  by_cases h : o = j
  · subst h
    exact ⟨z, by rw [if_pos rfl, if_pos (by omega)]⟩
  · rw [if_neg h]
    exact hc j hj

theorem bclone_r (w : World) (G : Nat → Prop) (v : Value) (l : List UInt8) (h : BS w G v l) (hN : l.length ≤ 1000000) :
    Calls Tryd.prog 68 [v].toArray w (Ret fun r w' => Kept none0 w w' ∧ BR w' (fresh w) r l) := by
  refine calls_T Tryd.func68 rfl rfl rfl ?_
  obtain ⟨A, c, rfl⟩ := h.len
  cases A with
  | none =>
    have hl0 : l = [] := by
      obtain ⟨_, _, A, c', e, _, h5⟩ := h
      rcases h5 with h5 | ⟨b, o, rfl, _⟩
      · exact List.eq_nil_of_length_eq_zero h5
      · cases e
    subst hl0
    repeat (first | (with_reducible first | apply T_seq | apply T_region | apply U_nil | apply T_skip | apply T_block | apply T_inBlock | apply Cnd_t | apply Cnd_f | apply Cnd_not | apply Cnd_some | apply Cnd_none | apply Gd_nt | apply Gd_nf | apply Gd_some | apply Gd_none | apply Gd_want) | refine U_ar rfl rfl rfl (wrap_i64 (by omega)) rfl ?_ | refine U_pure E rfl rfl ?_ | refine T_exit rfl ?_ | refine T_condV rfl ?_ | refine U_guard rfl rfl ?_ | ((with_reducible refine Gd_skipT ?_ ?_); exact rfl) | ((with_reducible refine Gd_skipF ?_ ?_); exact rfl))
    exact T_ret1 Tryd.func68 rfl rfl ⟨_, rfl, Kept.refl _ _, BR.nil _ _⟩
  | some a =>
    repeat (first | (with_reducible first | apply T_seq | apply T_region | apply U_nil | apply T_skip | apply T_block | apply T_inBlock | apply Cnd_t | apply Cnd_f | apply Cnd_not | apply Cnd_some | apply Cnd_none | apply Gd_nt | apply Gd_nf | apply Gd_some | apply Gd_none | apply Gd_want) | refine U_ar rfl rfl rfl (wrap_i64 (by omega)) rfl ?_ | refine U_pure E rfl rfl ?_ | refine T_exit rfl ?_ | refine T_condV rfl ?_ | refine U_guard rfl rfl ?_ | ((with_reducible refine Gd_skipT ?_ ?_); exact rfl) | ((with_reducible refine Gd_skipF ?_ ?_); exact rfl))
    refine U_buildSlice0 E rfl rfl rfl ?_
    intro b w1 hn
    repeat (first | (with_reducible first | apply T_seq | apply T_region | apply U_nil | apply T_skip | apply T_block | apply T_inBlock | apply Cnd_t | apply Cnd_f | apply Cnd_not | apply Cnd_some | apply Cnd_none | apply Gd_nt | apply Gd_nf | apply Gd_some | apply Gd_none | apply Gd_want) | refine U_ar rfl rfl rfl (wrap_i64 (by omega)) rfl ?_ | refine U_pure E rfl rfl ?_ | refine T_exit rfl ?_ | refine T_condV rfl ?_ | refine U_guard rfl rfl ?_ | ((with_reducible refine Gd_skipT ?_ ?_); exact rfl) | ((with_reducible refine Gd_skipF ?_ ?_); exact rfl))
    have hr0 : Row w1 (fun x => x = b) (.slice (some ⟨b, 0, none⟩) 0 0) 1 0 (encBs []) 5 := hn.row (l := []) rfl
    refine U_append E hr0 (h.mv hn.kept (fun _ _ _ x => x)) (encBs_one l) rfl rfl rfl rfl rfl (by omega) (by omega) rfl ?_
    intro v' w2 hr2 hk2 _ hob
    have e1 := hn.at_
    repeat (first | (with_reducible first | apply T_seq | apply T_region | apply U_nil | apply T_skip | apply T_block | apply T_inBlock | apply Cnd_t | apply Cnd_f | apply Cnd_not | apply Cnd_some | apply Cnd_none | apply Gd_nt | apply Gd_nf | apply Gd_some | apply Gd_none | apply Gd_want) | refine U_ar rfl rfl rfl (wrap_i64 (by omega)) rfl ?_ | refine U_pure E rfl rfl ?_ | refine T_exit rfl ?_ | refine T_condV rfl ?_ | refine U_guard rfl rfl ?_ | ((with_reducible refine Gd_skipT ?_ ?_); exact rfl) | ((with_reducible refine Gd_skipF ?_ ?_); exact rfl))
    refine T_ret1 Tryd.func68 rfl rfl ⟨_, rfl, hn.kept.tr hk2 (fun j hj (e : some b = some j) => by injection e; omega), ?_⟩
    have s1 := hn.size
    have := (hr2.mono (G := fresh w) (fun j _ hj => by simp only [fresh]; rcases hj with hj | hj <;> omega))
    rw [Nat.zero_add] at this
    exact this

/-- An own slice of own slices. -/
def OR (w : World) (G : Nat → Prop) (v : Value) (l : List (List UInt8)) : Prop := ∃ vs, vs.length = l.length ∧ Row w G v 1 vs.length vs 23 ∧ ∀ (j : Nat) u p, vs[j]? = some u → l[j]? = some p → BR w (fun b => G b ∧ v.ownBlock ≠ some b) u p

set_option maxHeartbeats 2000000 in
theorem records_r {w : World} {F Fr : Nat → Prop} {hb rb g at_ : Nat} {l : List (List UInt8)} (h : Rl w F Fr hb rb g l at_) : Calls Tryd.prog 55 [ptr rb].toArray w (Ret fun r w' => Kept none0 w w' ∧ OR w' (fresh w) r l) := by
  obtain ⟨vl, vs, h1, h2, h3, h4, h5⟩ := h.body
  have hll := h.len
  have hrc := h.recs
  have hsl := h4.sl (by omega)
  obtain ⟨A, c, rfl⟩ := h4.val
  refine calls_T Tryd.func55 rfl rfl rfl ?_
  unfold ptr at *
  repeat (first | (with_reducible first | apply T_seq | apply T_region | apply U_nil | apply T_skip | apply T_block | apply T_inBlock | apply Cnd_t | apply Cnd_f | apply Cnd_not | apply Cnd_some | apply Cnd_none | apply Gd_nt | apply Gd_nf | apply Gd_some | apply Gd_none | apply Gd_want) | refine U_ar rfl rfl rfl (wrap_k (by simp only [wrapOk]; omega)) rfl ?_ | refine U_cv E rfl rfl rfl (wrap_k (by simp only [wrapOk]; omega)) rfl ?_ | refine U_pure E rfl rfl ?_ | refine T_exit rfl ?_ | refine T_condV rfl ?_ | refine U_guard rfl rfl ?_ | ((with_reducible refine Gd_skipT ?_ ?_); exact rfl) | ((with_reducible refine Gd_skipF ?_ ?_); exact rfl))
  refine U_loadB E (by assumption) rfl rfl rfl (by rfl) rfl ?_
  repeat (first | (with_reducible first | apply T_seq | apply T_region | apply U_nil | apply T_skip | apply T_block | apply T_inBlock | apply Cnd_t | apply Cnd_f | apply Cnd_not | apply Cnd_some | apply Cnd_none | apply Gd_nt | apply Gd_nf | apply Gd_some | apply Gd_none | apply Gd_want) | refine U_ar rfl rfl rfl (wrap_k (by simp only [wrapOk]; omega)) rfl ?_ | refine U_cv E rfl rfl rfl (wrap_k (by simp only [wrapOk]; omega)) rfl ?_ | refine U_pure E rfl rfl ?_ | refine T_exit rfl ?_ | refine T_condV rfl ?_ | refine U_guard rfl rfl ?_ | ((with_reducible refine Gd_skipT ?_ ?_); exact rfl) | ((with_reducible refine Gd_skipF ?_ ?_); exact rfl))
  refine T_loop (α := Nat × Value × List Value × World) (fun x => [(13, .int .i64 x.1), (12, .int .i64 vs.length), (11, .slice A vs.length c), (3, x.2.1)]) (fun x => x.2.2.2) (fun x => vs.length - x.1)
    (fun x => x.1 ≤ vs.length ∧ Kept none0 w x.2.2.2 ∧ x.2.2.1.length = x.1 ∧ Row x.2.2.2 (fresh w) x.2.1 1 x.2.2.1.length x.2.2.1 23 ∧
      (∀ (j : Nat) u p, x.2.2.1[j]? = some u → l[j]? = some p → BR x.2.2.2 (fun b => fresh w b ∧ x.2.1.ownBlock ≠ some b) u p)) (0, .slice none 0 0, [], w) ⟨Nat.zero_le _, Kept.refl _ _, rfl, Row.nil _ _ _ _, fun j u p hu => by simp at hu⟩ ⟨rfl, rfl, rfl, rfl, trivial⟩ rfl ?_
  rintro ⟨i, vo, us, w1⟩ ⟨hi, k1, hus, hro, hu⟩ ih
  dsimp only at hi k1 hus hro hu ⊢
  repeat (first | (with_reducible first | apply T_seq | apply T_region | apply U_nil | apply T_skip | apply T_block | apply T_inBlock | apply Cnd_t | apply Cnd_f | apply Cnd_not | apply Cnd_some | apply Cnd_none | apply Gd_nt | apply Gd_nf | apply Gd_some | apply Gd_none | apply Gd_want) | refine U_ar rfl rfl rfl (wrap_k (by simp only [wrapOk]; omega)) rfl ?_ | refine U_cv E rfl rfl rfl (wrap_k (by simp only [wrapOk]; omega)) rfl ?_ | refine U_pure E rfl rfl ?_ | refine T_exit rfl ?_ | refine T_condV rfl ?_ | refine U_guard rfl rfl ?_ | ((with_reducible refine Gd_skipT ?_ ?_); exact rfl) | ((with_reducible refine Gd_skipF ?_ ?_); exact rfl))
  refine Cnd_p (fun hlt => ?_) (fun hlt => ?_)
  · have hlt' : i < vs.length := by omega
    have hlt2 : i < l.length := by omega
    have hg : vs[(i : Int).toNat]? = some vs[i] := by rw [Int.toNat_natCast, List.getElem?_eq_getElem hlt']
    have hvi := (h5 i _ _ (List.getElem?_eq_getElem hlt') (List.getElem?_eq_getElem hlt2)).mv k1 (fun _ _ _ x => x)
    have hpl := hrc _ (List.getElem_mem hlt2)
    have hown := hro.own
    repeat (first | (with_reducible first | apply T_seq | apply T_region | apply U_nil | apply T_skip | apply T_block | apply T_inBlock | apply Cnd_t | apply Cnd_f | apply Cnd_not | apply Cnd_some | apply Cnd_none | apply Gd_nt | apply Gd_nf | apply Gd_some | apply Gd_none | apply Gd_want) | refine U_ar rfl rfl rfl (wrap_k (by simp only [wrapOk]; omega)) rfl ?_ | refine U_cv E rfl rfl rfl (wrap_k (by simp only [wrapOk]; omega)) rfl ?_ | refine U_pure E rfl rfl ?_ | refine T_exit rfl ?_ | refine T_condV rfl ?_ | refine U_guard rfl rfl ?_ | ((with_reducible refine Gd_skipT ?_ ?_); exact rfl) | ((with_reducible refine Gd_skipF ?_ ?_); exact rfl))
    refine U_idx E (hsl.mv k1 (fun _ _ _ x => x)) rfl rfl rfl rfl (by omega) (by omega) (hg) rfl (fun q hq => ?_)
    refine U_load E rfl rfl rfl hq rfl ?_
    repeat (first | (with_reducible first | apply T_seq | apply T_region | apply U_nil | apply T_skip | apply T_block | apply T_inBlock | apply Cnd_t | apply Cnd_f | apply Cnd_not | apply Cnd_some | apply Cnd_none | apply Gd_nt | apply Gd_nf | apply Gd_some | apply Gd_none | apply Gd_want) | refine U_ar rfl rfl rfl (wrap_k (by simp only [wrapOk]; omega)) rfl ?_ | refine U_cv E rfl rfl rfl (wrap_k (by simp only [wrapOk]; omega)) rfl ?_ | refine U_pure E rfl rfl ?_ | refine T_exit rfl ?_ | refine T_condV rfl ?_ | refine U_guard rfl rfl ?_ | ((with_reducible refine Gd_skipT ?_ ?_); exact rfl) | ((with_reducible refine Gd_skipF ?_ ?_); exact rfl))
    refine U_call rfl rfl (Tryd.call68 _) (bclone_r w1 _ vs[i] l[i] hvi (by omega)) ?_
    rintro rc w2 ⟨k2, hc2⟩
    have hc2' : BR w2 (fun b => fresh w b ∧ vo.ownBlock ≠ some b) rc l[i] := hc2.mono (fun b _ hx => ⟨by have := k1.size; simp only [fresh] at *; omega, fun e => by have := (hown b e).2; simp only [fresh] at hx; omega⟩)
    have k2' : Kept none0 w w2 := k1.tr k2 (fun _ _ x => x)
    obtain ⟨Ac, cc, rfl⟩ := hc2'.val
    repeat (first | (with_reducible first | apply T_seq | apply T_region | apply U_nil | apply T_skip | apply T_block | apply T_inBlock | apply Cnd_t | apply Cnd_f | apply Cnd_not | apply Cnd_some | apply Cnd_none | apply Gd_nt | apply Gd_nf | apply Gd_some | apply Gd_none | apply Gd_want) | refine U_ar rfl rfl rfl (wrap_k (by simp only [wrapOk]; omega)) rfl ?_ | refine U_cv E rfl rfl rfl (wrap_k (by simp only [wrapOk]; omega)) rfl ?_ | refine U_pure E rfl rfl ?_ | refine T_exit rfl ?_ | refine T_condV rfl ?_ | refine U_guard rfl rfl ?_ | ((with_reducible refine Gd_skipT ?_ ?_); exact rfl) | ((with_reducible refine Gd_skipF ?_ ?_); exact rfl))
    refine U_buildSlice (sz := 1) E rfl rfl rfl rfl rfl rfl rfl rfl (segs := [[.slice Ac l[i].length cc]]) rfl (by simp) rfl ?_
    intro b3 w3 hn3
    have hlit : Sl w3 (fun x => x = b3) (.slice (some ⟨b3, 0, none⟩) 1 1) 1 1 [.slice Ac l[i].length cc] := ⟨by decide, rfl, _, 1, rfl, Nat.le_refl _, .inr ⟨b3, 0, rfl, rfl, hn3.blk.lt, hn3.blk.whole⟩⟩
    have k13 : Kept none0 w1 w3 := k2.tr hn3.kept (fun _ _ x => x)
    have hro3 := hro.mv k13 (fun _ _ _ x => x)
    refine U_append E hro3 hlit (by simp [Value.oneCell']) rfl rfl rfl rfl rfl (by omega) (by omega) rfl ?_
    intro vo' w4 hr4 k4 _ hob
    have k3' : Kept none0 w w3 := k2'.tr hn3.kept (fun _ _ x => x)
    have s3 := k3'.size
    have k4' : Kept none0 w w4 := k3'.tr k4 (fun j hj e => by have := (hown j e).1; simp only [fresh] at this; omega)
    have past : ∀ u p, BR w3 (fun b => fresh w b ∧ vo.ownBlock ≠ some b) u p → BR w4 (fun b => fresh w b ∧ vo'.ownBlock ≠ some b) u p := fun u p hx =>
      ((hx.mono (G := fun b => (fresh w b ∧ vo.ownBlock ≠ some b) ∧ b < w3.heap.size) (fun _ hb h => ⟨h, hb⟩)).mv k4 (fun _ _ h e => h.1.2 e)).mono (fun b _ h => ⟨h.1.1, fun e => (hob b e).elim h.1.2 (fun e => by omega)⟩)
    repeat (first | (with_reducible first | apply T_seq | apply T_region | apply U_nil | apply T_skip | apply T_block | apply T_inBlock | apply Cnd_t | apply Cnd_f | apply Cnd_not | apply Cnd_some | apply Cnd_none | apply Gd_nt | apply Gd_nf | apply Gd_some | apply Gd_none | apply Gd_want) | refine U_ar rfl rfl rfl (wrap_k (by simp only [wrapOk]; omega)) rfl ?_ | refine U_cv E rfl rfl rfl (wrap_k (by simp only [wrapOk]; omega)) rfl ?_ | refine U_pure E rfl rfl ?_ | refine T_exit rfl ?_ | refine T_condV rfl ?_ | refine U_guard rfl rfl ?_ | ((with_reducible refine Gd_skipT ?_ ?_); exact rfl) | ((with_reducible refine Gd_skipF ?_ ?_); exact rfl))
    refine T.less ?_ (ih (i + 1, vo', us ++ [.slice Ac l[i].length cc], w4) ⟨hlt', k4', by simp [hus], ?_, ?_⟩ (by dsimp only; omega))
    · exact ⟨rfl, rfl, rfl, rfl, trivial⟩
    · dsimp only
      rw [List.length_append]
      exact hr4.mono (fun j _ hj => hj.elim (fun x => x) (fun x => by simp only [fresh]; omega))
    · dsimp only
      intro j u p hju hjp
      rcases Nat.lt_or_ge j us.length with hj | hj
      · rw [List.getElem?_append_left hj] at hju
        exact past u p ((hu j u p hju hjp).mv k13 (fun _ _ _ x => x))
      · rw [List.getElem?_append_right hj] at hju
        have e0 : j = i := by
          have := (List.getElem?_eq_some_iff.1 hju).1
          simp at this
          omega
        subst e0
        rw [show j - us.length = 0 by omega] at hju
        injection hju with hju
        subst hju
        rw [List.getElem?_eq_getElem hlt2] at hjp
        injection hjp with hjp
        subst hjp
        exact past _ _ (hc2'.mv hn3.kept (fun _ _ _ x => x))
  · repeat (first | (with_reducible first | apply T_seq | apply T_region | apply U_nil | apply T_skip | apply T_block | apply T_inBlock | apply Cnd_t | apply Cnd_f | apply Cnd_not | apply Cnd_some | apply Cnd_none | apply Gd_nt | apply Gd_nf | apply Gd_some | apply Gd_none | apply Gd_want) | refine U_ar rfl rfl rfl (wrap_k (by simp only [wrapOk]; omega)) rfl ?_ | refine U_cv E rfl rfl rfl (wrap_k (by simp only [wrapOk]; omega)) rfl ?_ | refine U_pure E rfl rfl ?_ | refine T_exit rfl ?_ | refine T_condV rfl ?_ | refine U_guard rfl rfl ?_ | ((with_reducible refine Gd_skipT ?_ ?_); exact rfl) | ((with_reducible refine Gd_skipF ?_ ?_); exact rfl))
    have he : us.length = l.length := by omega
    refine T_ret1 Tryd.func55 rfl rfl ⟨_, rfl, k1, us, he, hro, hu⟩
end Go.Proofs.YtoefhdaenaiomaaDoor
