/- The document's example of the reel. -/
import Derived.Test.YtoefhdaenaiomaaDoorPk13
import Derived.Laws.IdiomStrings
import Derived.Test.YtoefhdaenaiomaaDoorPk7
set_option linter.unusedVariables false
set_option linter.unusedSimpArgs false
namespace Go.Proofs.YtoefhdaenaiomaaDoor
open Go
set_option maxRecDepth 20000

section
variable {P : Program} {w : World} {m : Fm} {n : Nat} {t ty t2 : TypeId} {ps : String} {af : Array Edge}
theorem ro_bytesStr (E : Env P) {s t e : TypeId} {x : Operand} {G : Nat → Prop} {v : Value} {l : List UInt8} {q q2 q3 : Nat} (hs : E.ty s = some (.slice e, q)) (he : E.ty e = some (.int .u8, q2)) (ht : E.ty t = some (.string, q3)) (hx : ev m x = some v) (hv : BS w G v l) (hl : 0 < l.length) {dst : Option Tmp} {gd : Option (Nat × Bool)} :
    ∀ a, Fits a n m → (execOp a.eval { dst := dst, op := .convert s t x, type := ty, pos := ps, after := af, guard := gd }).run P w = .ok (.value (.string ⟨l.toArray⟩)) w := by
  intro a ha
  obtain ⟨_, _, A, c, rfl, _, h5⟩ := hv
  rcases h5 with h5 | ⟨b, o, rfl, _, _, hseg⟩
  · omega
  · have hr := run_convert_bytes_back (P := P) w s t e ⟨b, o, none⟩ c l (E.ok _ _ _ hs).1 (E.ok _ _ _ he).1 (E.ok _ _ _ ht).1 (fun j hj => by
      rw [addr_add]
      exact hseg j _ (get_enc hj))
    simp only [execOp, ha.eval hx, Sem.run_bind, hr, Result.andThen_ok, Sem.run_pure]
end

/-- A byte's slice of its own. -/
theorem byte_bs {w' : World} {b : Nat} {x : UInt8} (h : Sl w' (fun j => j = b) (.slice (some ⟨b, 0, none⟩) 1 1) 1 1 [encB x]) {G : Nat → Prop} (hG : ¬ G b) : BS w' (fun j => ¬ G j) (.slice (some ⟨b, 0, none⟩) 1 1) [x] :=
  h.mono (fun _ _ e e2 => hG (by rw [← show _ = b from e]; exact e2))

set_option maxHeartbeats 8000000 in
theorem awake15_c (w : World) : Calls Tryd.prog 48 [].toArray w (Ret fun r w' => r = .bool true ∧ Kept none0 w w') := by
  have hfl : ∀ (g i : Nat) (b : UInt8), g < 30 → i < 30 → [b].length ≤ 100000 ∧ ¬ zz (frm (sdr g i) [b]) := fun g i b hg hi => rec_ok hg hi (by simp)
  refine calls_T Tryd.func48 rfl rfl rfl ?_
  repeat (first | (with_reducible first | apply T_seq | apply T_region | apply U_nil | apply T_skip | apply T_block | apply T_inBlock | apply Cnd_t | apply Cnd_f | apply Cnd_not | apply Cnd_some | apply Cnd_none | apply Gd_nt | apply Gd_nf | apply Gd_some | apply Gd_none | apply Gd_want) | refine U_ar rfl rfl rfl (wrap_k (by simp only [wrapOk]; omega)) rfl ?_ | refine U_cv E rfl rfl rfl (wrap_k (by simp only [wrapOk]; omega)) rfl ?_ | refine U_pure E rfl rfl ?_ | refine T_exit rfl ?_ | refine T_condV rfl ?_ | refine U_guard rfl rfl ?_ | ((with_reducible refine Gd_skipT ?_ ?_); exact rfl) | ((with_reducible refine Gd_skipF ?_ ?_); exact rfl))
  refine U_call rfl rfl (Tryd.call24 _) (new_c w 12 (by decide)) ?_
  rintro r w1 ⟨k1, hb, rfl, hD1⟩
  have hD1 := hD1.dm
  unfold ptr at *
  have s1 := k1.size
  repeat (first | (with_reducible first | apply T_seq | apply T_region | apply U_nil | apply T_skip | apply T_block | apply T_inBlock | apply Cnd_t | apply Cnd_f | apply Cnd_not | apply Cnd_some | apply Cnd_none | apply Gd_nt | apply Gd_nf | apply Gd_some | apply Gd_none | apply Gd_want) | refine U_ar rfl rfl rfl (wrap_k (by simp only [wrapOk]; omega)) rfl ?_ | refine U_cv E rfl rfl rfl (wrap_k (by simp only [wrapOk]; omega)) rfl ?_ | refine U_pure E rfl rfl ?_ | refine T_exit rfl ?_ | refine T_condV rfl ?_ | refine U_guard rfl rfl ?_ | ((with_reducible refine Gd_skipT ?_ ?_); exact rfl) | ((with_reducible refine Gd_skipF ?_ ?_); exact rfl))
  refine U_buildSlice (sz := 1) E rfl rfl rfl rfl rfl rfl rfl rfl (segs := [[.int .u8 102]]) rfl (by simp) rfl ?_
  intro b2 w2 hn2
  have e2 := hn2.at_
  have s2 := hn2.size
  repeat (first | (with_reducible first | apply T_seq | apply T_region | apply U_nil | apply T_skip | apply T_block | apply T_inBlock | apply Cnd_t | apply Cnd_f | apply Cnd_not | apply Cnd_some | apply Cnd_none | apply Gd_nt | apply Gd_nf | apply Gd_some | apply Gd_none | apply Gd_want) | refine U_ar rfl rfl rfl (wrap_k (by simp only [wrapOk]; omega)) rfl ?_ | refine U_cv E rfl rfl rfl (wrap_k (by simp only [wrapOk]; omega)) rfl ?_ | refine U_pure E rfl rfl ?_ | refine T_exit rfl ?_ | refine T_condV rfl ?_ | refine U_guard rfl rfl ?_ | ((with_reducible refine Gd_skipT ?_ ?_); exact rfl) | ((with_reducible refine Gd_skipF ?_ ?_); exact rfl))
  refine U_convBytes E hn2.blk rfl (by decide) rfl rfl rfl rfl ?_
  intro w3 k3 s3 hs3
  have k13 : Kept none0 w1 w3 := hn2.kept.tr k3 (fun j hj (e : j = b2) => by omega)
  have hD3 := hD1.same k13
  have hmk := make_on w3 _ hb _ (.slice (some ⟨b2, 0, none⟩) 1 1) [102] hD3 (drNew_on _) (by rw [drNew_len]; decide) (byte_bs hs3 (fun e => by have := e.2; omega)) (hfl 1 0 _ (by decide) (by decide)) (by rw [drNew_hsz]; decide) (by simp [drNew])
  unfold ptr at *
  repeat (first | (with_reducible first | apply T_seq | apply T_region | apply U_nil | apply T_skip | apply T_block | apply T_inBlock | apply Cnd_t | apply Cnd_f | apply Cnd_not | apply Cnd_some | apply Cnd_none | apply Gd_nt | apply Gd_nf | apply Gd_some | apply Gd_none | apply Gd_want) | refine U_ar rfl rfl rfl (wrap_k (by simp only [wrapOk]; omega)) rfl ?_ | refine U_cv E rfl rfl rfl (wrap_k (by simp only [wrapOk]; omega)) rfl ?_ | refine U_pure E rfl rfl ?_ | refine T_exit rfl ?_ | refine T_condV rfl ?_ | refine U_guard rfl rfl ?_ | ((with_reducible refine Gd_skipT ?_ ?_); exact rfl) | ((with_reducible refine Gd_skipF ?_ ?_); exact rfl))
  refine U_call rfl rfl (Tryd.call49 _) (hmk) ?_
  rintro r w4 ⟨F4, Fr4, rb, D4, rfl, o4, h4, hFr4, l4, q4, _⟩
  have hn4 : ∀ b, uni F4 Fr4 b → w.heap.size ≤ b := by
    intro b e
    rcases e with e | e
    · exact (o4.newer (w0 := w) (by have := k13.size; omega) (fun b e => e.1)) b e
    · have := hFr4 b e
      have := k13.size
      omega
  have k04 : Kept none0 w w4 := o4.done (k1.tr k13 (fun _ _ x => x)) (fun b e => e.1)
  rw [drNew_len] at l4
  have z4 : hsz D4 = 5 := by rw [hsz, l4]; rfl
  repeat (first | (with_reducible first | apply T_seq | apply T_region | apply U_nil | apply T_skip | apply T_block | apply T_inBlock | apply Cnd_t | apply Cnd_f | apply Cnd_not | apply Cnd_some | apply Cnd_none | apply Gd_nt | apply Gd_nf | apply Gd_some | apply Gd_none | apply Gd_want) | refine U_ar rfl rfl rfl (wrap_k (by simp only [wrapOk]; omega)) rfl ?_ | refine U_cv E rfl rfl rfl (wrap_k (by simp only [wrapOk]; omega)) rfl ?_ | refine U_pure E rfl rfl ?_ | refine T_exit rfl ?_ | refine T_condV rfl ?_ | refine U_guard rfl rfl ?_ | refine U_guardU rfl rfl rfl ?_ | ((with_reducible refine Gd_skipT ?_ ?_); exact rfl) | ((with_reducible refine Gd_skipF ?_ ?_); exact rfl))
  refine U_buildSlice (sz := 1) E rfl rfl rfl rfl rfl rfl rfl rfl (segs := [[.int .u8 97]]) rfl (by simp) rfl ?_
  intro b5 w5 hn5
  have e5 := hn5.at_
  have s5 := hn5.size
  repeat (first | (with_reducible first | apply T_seq | apply T_region | apply U_nil | apply T_skip | apply T_block | apply T_inBlock | apply Cnd_t | apply Cnd_f | apply Cnd_not | apply Cnd_some | apply Cnd_none | apply Gd_nt | apply Gd_nf | apply Gd_some | apply Gd_none | apply Gd_want) | refine U_ar rfl rfl rfl (wrap_k (by simp only [wrapOk]; omega)) rfl ?_ | refine U_cv E rfl rfl rfl (wrap_k (by simp only [wrapOk]; omega)) rfl ?_ | refine U_pure E rfl rfl ?_ | refine T_exit rfl ?_ | refine T_condV rfl ?_ | refine U_guard rfl rfl ?_ | refine U_guardU rfl rfl rfl ?_ | ((with_reducible refine Gd_skipT ?_ ?_); exact rfl) | ((with_reducible refine Gd_skipF ?_ ?_); exact rfl))
  refine U_convBytes E hn5.blk rfl (by decide) rfl rfl rfl rfl ?_
  intro w6 k6 s6 hs6
  have k46 : Kept none0 w4 w6 := hn5.kept.tr k6 (fun j hj (e : j = b5) => by omega)
  have h6 := h4.same k46
  have hap := append_on (.slice (some ⟨b5, 0, none⟩) 1 1) [97] h6 (byte_bs hs6 (fun e => by have := h4.lt _ e; omega)) (hfl 1 1 _ (by decide) (by decide)) (by rw [z4]; decide) (by rw [q4]; decide)
  unfold ptr at *
  repeat (first | (with_reducible first | apply T_seq | apply T_region | apply U_nil | apply T_skip | apply T_block | apply T_inBlock | apply Cnd_t | apply Cnd_f | apply Cnd_not | apply Cnd_some | apply Cnd_none | apply Gd_nt | apply Gd_nf | apply Gd_some | apply Gd_none | apply Gd_want) | refine U_ar rfl rfl rfl (wrap_k (by simp only [wrapOk]; omega)) rfl ?_ | refine U_cv E rfl rfl rfl (wrap_k (by simp only [wrapOk]; omega)) rfl ?_ | refine U_pure E rfl rfl ?_ | refine T_exit rfl ?_ | refine T_condV rfl ?_ | refine U_guard rfl rfl ?_ | refine U_guardU rfl rfl rfl ?_ | ((with_reducible refine Gd_skipT ?_ ?_); exact rfl) | ((with_reducible refine Gd_skipF ?_ ?_); exact rfl))
  refine U_call rfl rfl (Tryd.call53 _) (hap) ?_
  rintro r w7 ⟨rfl, F7, Fr7, D7, o7, h7, l7, _⟩
  have hfs := flush_on h7
  unfold ptr at *
  repeat (first | (with_reducible first | apply T_seq | apply T_region | apply U_nil | apply T_skip | apply T_block | apply T_inBlock | apply Cnd_t | apply Cnd_f | apply Cnd_not | apply Cnd_some | apply Cnd_none | apply Gd_nt | apply Gd_nf | apply Gd_some | apply Gd_none | apply Gd_want) | refine U_ar rfl rfl rfl (wrap_k (by simp only [wrapOk]; omega)) rfl ?_ | refine U_cv E rfl rfl rfl (wrap_k (by simp only [wrapOk]; omega)) rfl ?_ | refine U_pure E rfl rfl ?_ | refine T_exit rfl ?_ | refine T_condV rfl ?_ | refine U_guard rfl rfl ?_ | refine U_guardU rfl rfl rfl ?_ | ((with_reducible refine Gd_skipT ?_ ?_); exact rfl) | ((with_reducible refine Gd_skipF ?_ ?_); exact rfl))
  refine U_call rfl rfl (Tryd.call51 _) (hfs) ?_
  rintro r w8 ⟨rfl, F8, D8, o8, h8, l8, q8, d8, v8⟩
  have z8 : hsz D8 = 5 := by rw [hsz, l8, l7, l4]; rfl
  have o8' := ((Own.same h4.lt k46).tr o7).tr o8
  repeat (first | (with_reducible first | apply T_seq | apply T_region | apply U_nil | apply T_skip | apply T_block | apply T_inBlock | apply Cnd_t | apply Cnd_f | apply Cnd_not | apply Cnd_some | apply Cnd_none | apply Gd_nt | apply Gd_nf | apply Gd_some | apply Gd_none | apply Gd_want) | refine U_ar rfl rfl rfl (wrap_k (by simp only [wrapOk]; omega)) rfl ?_ | refine U_cv E rfl rfl rfl (wrap_k (by simp only [wrapOk]; omega)) rfl ?_ | refine U_pure E rfl rfl ?_ | refine T_exit rfl ?_ | refine T_condV rfl ?_ | refine U_guard rfl rfl ?_ | refine U_guardU rfl rfl rfl ?_ | ((with_reducible refine Gd_skipT ?_ ?_); exact rfl) | ((with_reducible refine Gd_skipF ?_ ?_); exact rfl))
  refine U_buildSlice (sz := 1) E rfl rfl rfl rfl rfl rfl rfl rfl (segs := [[.int .u8 98]]) rfl (by simp) rfl ?_
  intro b9 w9 hn9
  have e9 := hn9.at_
  have s9 := hn9.size
  repeat (first | (with_reducible first | apply T_seq | apply T_region | apply U_nil | apply T_skip | apply T_block | apply T_inBlock | apply Cnd_t | apply Cnd_f | apply Cnd_not | apply Cnd_some | apply Cnd_none | apply Gd_nt | apply Gd_nf | apply Gd_some | apply Gd_none | apply Gd_want) | refine U_ar rfl rfl rfl (wrap_k (by simp only [wrapOk]; omega)) rfl ?_ | refine U_cv E rfl rfl rfl (wrap_k (by simp only [wrapOk]; omega)) rfl ?_ | refine U_pure E rfl rfl ?_ | refine T_exit rfl ?_ | refine T_condV rfl ?_ | refine U_guard rfl rfl ?_ | refine U_guardU rfl rfl rfl ?_ | ((with_reducible refine Gd_skipT ?_ ?_); exact rfl) | ((with_reducible refine Gd_skipF ?_ ?_); exact rfl))
  refine U_convBytes E hn9.blk rfl (by decide) rfl rfl rfl rfl ?_
  intro w10 k10 s10 hs10
  have k810 : Kept none0 w8 w10 := hn9.kept.tr k10 (fun j hj (e : j = b9) => by omega)
  have h10 := h8.same k810
  have hap2 := append_on (.slice (some ⟨b9, 0, none⟩) 1 1) [98] h10 (byte_bs hs10 (fun e => by have := h8.lt _ e; omega)) (hfl 1 2 _ (by decide) (by decide)) (by rw [z8]; decide) (by rw [q8]; decide)
  unfold ptr at *
  repeat (first | (with_reducible first | apply T_seq | apply T_region | apply U_nil | apply T_skip | apply T_block | apply T_inBlock | apply Cnd_t | apply Cnd_f | apply Cnd_not | apply Cnd_some | apply Cnd_none | apply Gd_nt | apply Gd_nf | apply Gd_some | apply Gd_none | apply Gd_want) | refine U_ar rfl rfl rfl (wrap_k (by simp only [wrapOk]; omega)) rfl ?_ | refine U_cv E rfl rfl rfl (wrap_k (by simp only [wrapOk]; omega)) rfl ?_ | refine U_pure E rfl rfl ?_ | refine T_exit rfl ?_ | refine T_condV rfl ?_ | refine U_guard rfl rfl ?_ | refine U_guardU rfl rfl rfl ?_ | ((with_reducible refine Gd_skipT ?_ ?_); exact rfl) | ((with_reducible refine Gd_skipF ?_ ?_); exact rfl))
  refine U_call rfl rfl (Tryd.call53 _) (hap2) ?_
  rintro r w11 ⟨rfl, F11, Fr11, D11, o11, h11, l11, _⟩
  have o11' := (o8'.tr (Own.same h8.lt k810)).tr o11
  have k011 : Kept none0 w w11 := o11'.done k04 hn4
  have hfall := fall_c w11 F11 hb D11 (fun _ => True) (.slice none 0 0) [] (-1) h11.dm.isD ⟨by decide, rfl, _, _, rfl, Nat.le_refl _, .inl rfl⟩
  unfold ptr at *
  repeat (first | (with_reducible first | apply T_seq | apply T_region | apply U_nil | apply T_skip | apply T_block | apply T_inBlock | apply Cnd_t | apply Cnd_f | apply Cnd_not | apply Cnd_some | apply Cnd_none | apply Gd_nt | apply Gd_nf | apply Gd_some | apply Gd_none | apply Gd_want) | refine U_ar rfl rfl rfl (wrap_k (by simp only [wrapOk]; omega)) rfl ?_ | refine U_cv E rfl rfl rfl (wrap_k (by simp only [wrapOk]; omega)) rfl ?_ | refine U_pure E rfl rfl ?_ | refine T_exit rfl ?_ | refine T_condV rfl ?_ | refine U_guard rfl rfl ?_ | refine U_guardU rfl rfl rfl ?_ | ((with_reducible refine Gd_skipT ?_ ?_); exact rfl) | ((with_reducible refine Gd_skipF ?_ ?_); exact rfl))
  refine U_call rfl rfl (Tryd.call29 _) (hfall) ?_
  rintro r w12 ⟨k12, hb2, rfl, hD12⟩
  have hD12 := hD12.dm
  obtain ⟨f1, f2, f3⟩ := fall_on D11
  have hr12 : Ri (drFall D11 [] (-1)) 1 ([[102]] ++ [[97]]) := h8.ri.same (by rw [f2, l11]) (fun j => by rw [f3]; unfold dv; rw [l11]; exact d8 j)
  have hop := open_on w12 _ hb2 _ 1 _ hD12 f1 hr12 (by rw [fall_none]; exact (by decide : (0 : Nat) + 400000 < 1000000))
  unfold ptr at *
  repeat (first | (with_reducible first | apply T_seq | apply T_region | apply U_nil | apply T_skip | apply T_block | apply T_inBlock | apply Cnd_t | apply Cnd_f | apply Cnd_not | apply Cnd_some | apply Cnd_none | apply Gd_nt | apply Gd_nf | apply Gd_some | apply Gd_none | apply Gd_want) | refine U_ar rfl rfl rfl (wrap_k (by simp only [wrapOk]; omega)) rfl ?_ | refine U_cv E rfl rfl rfl (wrap_k (by simp only [wrapOk]; omega)) rfl ?_ | refine U_pure E rfl rfl ?_ | refine T_exit rfl ?_ | refine T_condV rfl ?_ | refine U_guard rfl rfl ?_ | refine U_guardU rfl rfl rfl ?_ | ((with_reducible refine Gd_skipT ?_ ?_); exact rfl) | ((with_reducible refine Gd_skipF ?_ ?_); exact rfl))
  refine U_call rfl rfl (Tryd.call52 _) (hop) ?_
  rintro r w13 ⟨F13, Fr13, rb2, rfl, o13, h13, hFr13⟩
  have k013 : Kept none0 w w13 := o13.done (k011.tr k12 (fun _ _ x => x)) (fun b e => by have := k011.size; have := e.1; omega)
  have hct := count_c h13.rl
  unfold ptr at *
  repeat (first | (with_reducible first | apply T_seq | apply T_region | apply U_nil | apply T_skip | apply T_block | apply T_inBlock | apply Cnd_t | apply Cnd_f | apply Cnd_not | apply Cnd_some | apply Cnd_none | apply Gd_nt | apply Gd_nf | apply Gd_some | apply Gd_none | apply Gd_want) | refine U_ar rfl rfl rfl (wrap_k (by simp only [wrapOk]; omega)) rfl ?_ | refine U_cv E rfl rfl rfl (wrap_k (by simp only [wrapOk]; omega)) rfl ?_ | refine U_pure E rfl rfl ?_ | refine T_exit rfl ?_ | refine T_condV rfl ?_ | refine U_guard rfl rfl ?_ | refine U_guardU rfl rfl rfl ?_ | ((with_reducible refine Gd_skipT ?_ ?_); exact rfl) | ((with_reducible refine Gd_skipF ?_ ?_); exact rfl))
  refine U_call rfl rfl (Tryd.call61 _) (hct) ?_
  rintro r w14 ⟨rfl, rfl⟩
  have hrc := records_c h13.rl
  unfold ptr at *
  repeat (first | (with_reducible first | apply T_seq | apply T_region | apply U_nil | apply T_skip | apply T_block | apply T_inBlock | apply Cnd_t | apply Cnd_f | apply Cnd_not | apply Cnd_some | apply Cnd_none | apply Gd_nt | apply Gd_nf | apply Gd_some | apply Gd_none | apply Gd_want) | refine U_ar rfl rfl rfl (wrap_k (by simp only [wrapOk]; omega)) rfl ?_ | refine U_cv E rfl rfl rfl (wrap_k (by simp only [wrapOk]; omega)) rfl ?_ | refine U_pure E rfl rfl ?_ | refine T_exit rfl ?_ | refine T_condV rfl ?_ | refine U_guard rfl rfl ?_ | refine U_guardU rfl rfl rfl ?_ | ((with_reducible refine Gd_skipT ?_ ?_); exact rfl) | ((with_reducible refine Gd_skipF ?_ ?_); exact rfl))
  refine Gd_b (fun _ => ?_) (fun e => absurd e (by decide))
  repeat (first | (with_reducible first | apply T_seq | apply T_region | apply U_nil | apply T_skip | apply T_block | apply T_inBlock | apply Cnd_t | apply Cnd_f | apply Cnd_not | apply Cnd_some | apply Cnd_none | apply Gd_nt | apply Gd_nf | apply Gd_some | apply Gd_none | apply Gd_want) | refine U_ar rfl rfl rfl (wrap_k (by simp only [wrapOk]; omega)) rfl ?_ | refine U_cv E rfl rfl rfl (wrap_k (by simp only [wrapOk]; omega)) rfl ?_ | refine U_pure E rfl rfl ?_ | refine T_exit rfl ?_ | refine T_condV rfl ?_ | refine U_guard rfl rfl ?_ | refine U_guardU rfl rfl rfl ?_ | ((with_reducible refine Gd_skipT ?_ ?_); exact rfl) | ((with_reducible refine Gd_skipF ?_ ?_); exact rfl))
  refine U_call rfl rfl (Tryd.call55 _) (hrc) ?_
  rintro r w15 ⟨k15, vs, v1, v2, v3⟩
  have v1' : vs.length = 2 := v1
  obtain ⟨A15, c15, rfl⟩ := v2.len
  have hg1 : vs[(1 : Int).toNat]? = some (vs[1]'(by omega)) := List.getElem?_eq_getElem (by omega)
  have hx := v3 1 _ [97] (List.getElem?_eq_getElem (by omega)) rfl
  repeat (first | (with_reducible first | apply T_seq | apply T_region | apply U_nil | apply T_skip | apply T_block | apply T_inBlock | apply Cnd_t | apply Cnd_f | apply Cnd_not | apply Cnd_some | apply Cnd_none | apply Gd_nt | apply Gd_nf | apply Gd_some | apply Gd_none | apply Gd_want) | refine U_ar rfl rfl rfl (wrap_k (by simp only [wrapOk]; omega)) rfl ?_ | refine U_cv E rfl rfl rfl (wrap_k (by simp only [wrapOk]; omega)) rfl ?_ | refine U_pure E rfl rfl ?_ | refine T_exit rfl ?_ | refine T_condV rfl ?_ | refine U_guard rfl rfl ?_ | refine U_guardU rfl rfl rfl ?_ | ((with_reducible refine Gd_skipT ?_ ?_); exact rfl) | ((with_reducible refine Gd_skipF ?_ ?_); exact rfl))
  refine U_idx E (v2) rfl rfl rfl rfl (by omega) (by omega) (hg1) rfl (fun p hp => ?_)
  repeat (first | (with_reducible first | apply T_seq | apply T_region | apply U_nil | apply T_skip | apply T_block | apply T_inBlock | apply Cnd_t | apply Cnd_f | apply Cnd_not | apply Cnd_some | apply Cnd_none | apply Gd_nt | apply Gd_nf | apply Gd_some | apply Gd_none | apply Gd_want) | refine U_ar rfl rfl rfl (wrap_k (by simp only [wrapOk]; omega)) rfl ?_ | refine U_cv E rfl rfl rfl (wrap_k (by simp only [wrapOk]; omega)) rfl ?_ | refine U_pure E rfl rfl ?_ | refine T_exit rfl ?_ | refine T_condV rfl ?_ | refine U_guard rfl rfl ?_ | refine U_guardU rfl rfl rfl ?_ | ((with_reducible refine Gd_skipT ?_ ?_); exact rfl) | ((with_reducible refine Gd_skipF ?_ ?_); exact rfl))
  obtain ⟨Ax, cx, hxe⟩ := hx.len
  rw [hxe] at hp hx
  repeat (first | (with_reducible first | apply T_seq | apply T_region | apply U_nil | apply T_skip | apply T_block | apply T_inBlock | apply Cnd_t | apply Cnd_f | apply Cnd_not | apply Cnd_some | apply Cnd_none | apply Gd_nt | apply Gd_nf | apply Gd_some | apply Gd_none | apply Gd_want) | refine U_ar rfl rfl rfl (wrap_k (by simp only [wrapOk]; omega)) rfl ?_ | refine U_cv E rfl rfl rfl (wrap_k (by simp only [wrapOk]; omega)) rfl ?_ | refine U_pure E rfl rfl ?_ | refine T_exit rfl ?_ | refine T_condV rfl ?_ | refine U_guard rfl rfl ?_ | refine U_guardU rfl rfl rfl ?_ | ((with_reducible refine Gd_skipT ?_ ?_); exact rfl) | ((with_reducible refine Gd_skipF ?_ ?_); exact rfl))
  refine U_load E rfl rfl rfl hp rfl ?_
  repeat (first | (with_reducible first | apply T_seq | apply T_region | apply U_nil | apply T_skip | apply T_block | apply T_inBlock | apply Cnd_t | apply Cnd_f | apply Cnd_not | apply Cnd_some | apply Cnd_none | apply Gd_nt | apply Gd_nf | apply Gd_some | apply Gd_none | apply Gd_want) | refine U_ar rfl rfl rfl (wrap_k (by simp only [wrapOk]; omega)) rfl ?_ | refine U_cv E rfl rfl rfl (wrap_k (by simp only [wrapOk]; omega)) rfl ?_ | refine U_pure E rfl rfl ?_ | refine T_exit rfl ?_ | refine T_condV rfl ?_ | refine U_guard rfl rfl ?_ | refine U_guardU rfl rfl rfl ?_ | ((with_reducible refine Gd_skipT ?_ ?_); exact rfl) | ((with_reducible refine Gd_skipF ?_ ?_); exact rfl))
  refine U_run rfl rfl rfl (ro_bytesStr E rfl rfl rfl rfl hx (by decide)) ?_
  repeat (first | (with_reducible first | apply T_seq | apply T_region | apply U_nil | apply T_skip | apply T_block | apply T_inBlock | apply Cnd_t | apply Cnd_f | apply Cnd_not | apply Cnd_some | apply Cnd_none | apply Gd_nt | apply Gd_nf | apply Gd_some | apply Gd_none | apply Gd_want) | refine U_ar rfl rfl rfl (wrap_k (by simp only [wrapOk]; omega)) rfl ?_ | refine U_cv E rfl rfl rfl (wrap_k (by simp only [wrapOk]; omega)) rfl ?_ | refine U_pure E rfl rfl ?_ | refine T_exit rfl ?_ | refine T_condV rfl ?_ | refine U_guard rfl rfl ?_ | refine U_guardU rfl rfl rfl ?_ | ((with_reducible refine Gd_skipT ?_ ?_); exact rfl) | ((with_reducible refine Gd_skipF ?_ ?_); exact rfl))
  refine U_run rfl rfl rfl (ro_strEq (b := true) rfl rfl (by kernel_rfl)) ?_
  repeat (first | (with_reducible first | apply T_seq | apply T_region | apply U_nil | apply T_skip | apply T_block | apply T_inBlock | apply Cnd_t | apply Cnd_f | apply Cnd_not | apply Cnd_some | apply Cnd_none | apply Gd_nt | apply Gd_nf | apply Gd_some | apply Gd_none | apply Gd_want) | refine U_ar rfl rfl rfl (wrap_k (by simp only [wrapOk]; omega)) rfl ?_ | refine U_cv E rfl rfl rfl (wrap_k (by simp only [wrapOk]; omega)) rfl ?_ | refine U_pure E rfl rfl ?_ | refine T_exit rfl ?_ | refine T_condV rfl ?_ | refine U_guard rfl rfl ?_ | refine U_guardU rfl rfl rfl ?_ | ((with_reducible refine Gd_skipT ?_ ?_); exact rfl) | ((with_reducible refine Gd_skipF ?_ ?_); exact rfl))
  exact T_ret1 Tryd.func48 rfl rfl ⟨_, rfl, rfl, k013.tr k15 (fun _ _ x => x)⟩
end Go.Proofs.YtoefhdaenaiomaaDoor

/- What a law keeps of its own beside a drum and a reel. -/
namespace Go.Proofs.YtoefhdaenaiomaaDoor
open Go
set_option maxRecDepth 20000

/-- What comes behind is walked once, and isn't seen here. -/
theorem T_viaK {P : Program} {f : FuncId} {R : Ending → World → Prop} {n : Nat} {k : List Item} {m : Fm} {w : World} {α : Type} {it : Item} (fm : α → Fm) (X : α → World → Prop) (fin : ∀ x w', X x w' → T P f R n k (fm x) w') (h : ∀ k', (∀ x w', X x w' → T P f R n k' (fm x) w') → T P f R n (it :: k') m w) : T P f R n (it :: k) m w := h k fin

theorem Own.slK {F F' : Nat → Prop} {w w' : World} (o : Own F w F' w') {G : Nat → Prop} {v : Value} {sz n : Nat} {cs : List Value} (h : Sl w (fun b => G b ∧ ¬ F b) v sz n cs) : Sl w' (fun b => (G b ∧ b < w.heap.size) ∧ ¬ F' b) v sz n cs :=
  ((h.mono (G := fun b => (G b ∧ ¬ F b) ∧ b < w.heap.size) (fun _ hb h => ⟨h, hb⟩)).mv o.kept (fun _ _ h e => h.1.2 e)).mono (fun b _ h => ⟨⟨h.1.1, h.2⟩, fun e => o.out h.2 h.1.2 e⟩)
theorem Own.osK {F F' : Nat → Prop} {w w' : World} (o : Own F w F' w') {G : Nat → Prop} {v : Value} {l : List (List UInt8)} (h : OS w (fun b => G b ∧ ¬ F b) v l) : OS w' (fun b => (G b ∧ b < w.heap.size) ∧ ¬ F' b) v l := by
  obtain ⟨vs, h1, h2, h3⟩ := h
  refine ⟨vs, h1, ((h2.mono (G := fun b => (G b ∧ ¬ F b) ∧ b < w.heap.size) (fun _ hb h => ⟨h, hb⟩)).mv o.kept (fun _ _ h e => h.1.2 e)).mono (fun b _ h => ⟨⟨h.1.1, h.2⟩, fun e => o.out h.2 h.1.2 e⟩), fun j u p hu hp => ?_⟩
  exact (((h3 j u p hu hp).mono (G := fun b => ((G b ∧ ¬ F b) ∧ v.ownBlock ≠ some b) ∧ b < w.heap.size) (fun _ hb h => ⟨h, hb⟩)).mv o.kept (fun _ _ h e => h.1.1.2 e)).mono (fun b _ h => ⟨⟨⟨h.1.1.1, h.2⟩, fun e => o.out h.2 h.1.1.2 e⟩, h.1.2⟩)
/-- Slices are appended, in any room. -/
theorem OS.appG {G : Nat → Prop} {w3 w4 : World} {vo vo' : Value} {vs ns : List Value} {l l' : List (List UInt8)} (hG : ∀ b, w3.heap.size ≤ b → G b) (h1 : vs.length = l.length)
    (h3 : ∀ (j : Nat) u p, vs[j]? = some u → l[j]? = some p → BS w3 (fun b => G b ∧ vo.ownBlock ≠ some b) u p) (n1 : ns.length = l'.length)
    (n3 : ∀ (j : Nat) u p, ns[j]? = some u → l'[j]? = some p → BS w3 (fun b => G b ∧ vo.ownBlock ≠ some b) u p)
    (hr : Row w4 (fun b => G b ∨ w3.heap.size ≤ b) vo' 1 (vs.length + ns.length) (vs ++ ns) 23) (k : Kept (fun b => vo.ownBlock = some b) w3 w4) (hob : ∀ b, vo'.ownBlock = some b → vo.ownBlock = some b ∨ w3.heap.size ≤ b) : OS w4 G vo' (l ++ l') := by
  have past : ∀ u p, BS w3 (fun b => G b ∧ vo.ownBlock ≠ some b) u p → BS w4 (fun b => G b ∧ vo'.ownBlock ≠ some b) u p := fun u p hx =>
    ((hx.mono (G := fun b => (G b ∧ vo.ownBlock ≠ some b) ∧ b < w3.heap.size) (fun _ hb h => ⟨h, hb⟩)).mv k (fun _ _ h e => h.1.2 e)).mono (fun b _ h => ⟨h.1.1, fun e => (hob b e).elim h.1.2 (fun e => by omega)⟩)
  refine ⟨vs ++ ns, by rw [List.length_append, List.length_append, h1, n1], ?_, fun j u p hu hp => ?_⟩
  · rw [List.length_append]
    exact hr.mono (fun b _ e => e.elim (fun x => x) (hG b))
  · rcases Nat.lt_or_ge j vs.length with hj | hj
    · rw [List.getElem?_append_left hj] at hu
      rw [List.getElem?_append_left (by omega)] at hp
      exact past u p (h3 j u p hu hp)
    · rw [List.getElem?_append_right hj] at hu
      rw [List.getElem?_append_right (by omega), ← h1] at hp
      exact past u p (n3 _ u p hu hp)
theorem OS.snoc {G : Nat → Prop} {w w1 w2 : World} {vo vo' vp : Value} {us : List Value} {b : Nat} {t : TypeId} {l : List (List UInt8)} {p : List UInt8} (hG : ∀ b, w.heap.size ≤ b → G b) (h1 : us.length = l.length)
    (h3 : ∀ (j : Nat) u q, us[j]? = some u → l[j]? = some q → BS w (fun b => G b ∧ vo.ownBlock ≠ some b) u q) (hp : BS w (fun b => G b ∧ vo.ownBlock ≠ some b) vp p) (hn : New w w1 b [vp] t)
    (hr : Row w2 (fun b => G b ∨ w1.heap.size ≤ b) vo' 1 (us.length + 1) (us ++ [vp]) 23) (k : Kept (fun b => vo.ownBlock = some b) w1 w2) (hob : ∀ b, vo'.ownBlock = some b → vo.ownBlock = some b ∨ w1.heap.size ≤ b) : OS w2 G vo' (l ++ [p]) :=
  OS.appG (ns := [vp]) (fun b e => hG b (Nat.le_trans hn.kept.size e)) h1 (fun j u q hu hq => (h3 j u q hu hq).mv hn.kept (fun _ _ _ x => x)) rfl (fun j u q hu hq => by
    match j with
    | 0 =>
      injection hu with hu
      injection hq with hq
      subst hu
      subst hq
      exact hp.mv hn.kept (fun _ _ _ x => x)
    | j + 1 => simp at hu) hr k hob
theorem OS.own {w : World} {G : Nat → Prop} {v : Value} {l : List (List UInt8)} (h : OS w G v l) : ∀ b, v.ownBlock = some b → b < w.heap.size := by
  obtain ⟨vs, h1, h2, h3⟩ := h
  exact fun b e => (h2.own b e).2
/-- A slice of one. -/
theorem one_sl {w : World} {b : Nat} {t : TypeId} {u : Value} (h : Blk w b [u] t) : Sl w (fun x => x = b) (.slice (some ⟨b, 0, none⟩) 1 1) 1 1 [u] :=
  ⟨by decide, rfl, _, 1, rfl, Nat.le_refl _, .inr ⟨b, 0, rfl, rfl, h.lt, h.whole⟩⟩
theorem bs_one {w : World} {G : Nat → Prop} {v : Value} {l : List UInt8} (h : BS w G v l) : v.oneCell' = true := by
  obtain ⟨A, c, rfl⟩ := h.len
  rfl
theorem bs_cells {w : World} {G : Nat → Prop} {v : Value} {l : List UInt8} (h : BS w G v l) : v.cells = #[v] := by
  obtain ⟨A, c, rfl⟩ := h.len
  rfl
/-- A slice of one record. -/
theorem RS.one {w w' : World} {b : Nat} {t : TypeId} {v : Value} {p : List UInt8} {H : Nat → Prop} (hn : New w w' b [v] t) (hp : BS w H v p) : RS w' (fun _ => True) (.slice (some ⟨b, 0, none⟩) 1 1) [p] :=
  ⟨[v], rfl, (one_sl hn.blk).mono (fun _ _ _ => trivial), fun j u q hu hq => by
    match j with
    | 0 =>
      injection hu with hu
      injection hq with hq
      subst hu
      subst hq
      exact (hp.mv hn.kept (fun _ _ _ x => x)).mono (fun _ _ _ => trivial)
    | j + 1 => simp at hu⟩
theorem nil_bits (w : World) : Sl w (fun _ => True) (.slice none 0 0) 1 ([] : List Bool).length (encBools []) := ⟨by decide, rfl, _, _, rfl, Nat.le_refl _, .inl rfl⟩
end Go.Proofs.YtoefhdaenaiomaaDoor
