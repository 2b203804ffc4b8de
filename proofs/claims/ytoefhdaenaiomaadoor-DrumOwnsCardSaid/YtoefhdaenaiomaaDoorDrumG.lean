/- A sector as the last write has it. -/
import Derived.Test.YtoefhdaenaiomaaDoorDrumF
namespace Go.Proofs.YtoefhdaenaiomaaDoor
open Go Go.RowKit
set_option maxRecDepth 20000

theorem Blk.grown {w w' : World} {b : Nat} {cs : List Value} {t : TypeId} {row : Option Nat} (h : Blk w b cs t) (hg : w.grownBy w' row) (hr : ∀ r, row = some r → ∃ o : Obj, w.heap[r]? = some o ∧ o.isCells = false) : Blk w' b cs t := by
  refine (hg.block b h.lt (fun e => ?_)).trans h
  obtain ⟨o, h1, h2⟩ := hr b e.symm
  rw [h] at h1
  cases h1
  cases h2
theorem Upd.keepsFrom {w w' : World} {b : Nat} {cs : List Value} {t : TypeId} {cs0 : List Value} {t0 : TypeId} (h : Upd w w' b cs t) (h0 : Blk w b cs0 t0) (B : Nat) : KeepsFrom B w w' :=
  ⟨h.kept.size, fun k o _ hk ho => by
    have hne : k ≠ b := fun e => by rw [e] at hk; rw [h0] at hk; cases hk; cases ho
    exact (h.kept.same k (Array.getElem?_eq_some_iff.1 hk).1 hne).trans hk⟩
theorem New.keepsFrom {w w' : World} {b : Nat} {cs : List Value} {t : TypeId} (h : New w w' b cs t) (B : Nat) : KeepsFrom B w w' :=
  ⟨h.kept.size, fun k o _ hk _ => (h.kept.same k (Array.getElem?_eq_some_iff.1 hk).1 (fun x => x)).trans hk⟩
theorem Kept.belowOf {B : Nat} {G : Nat → Prop} {w w' : World} (h : Kept G w w') (hB : B ≤ w.heap.size) (hg : ∀ b, G b → B ≤ b) : Below B w w' :=
  ⟨h.os, h.tape, h.output, h.size, fun b hb => h.same b (by omega) (fun x => by have := hg b x; omega)⟩

/-- The call's end, where a range over a function has left its mark: a result in a cell. -/
theorem leave_cell {nn : Nat} {P : Program} {fn : Func} {R : Ending → World → Prop} {a : Act} {n : Nat} {m : Fm} {E b : Nat} {W : World} {seg : List Value} {bt t : TypeId} {p : Tmp} {de : TypeDesc}
    (hr : fn.results = #[.cell p t]) (ha : FitsD a n m [{ target := .collected E, args := #[] }]) (hp : look m p = some (ptr b)) (hb : Blk W b seg bt) (hu : P.underlying t = some de) (hn : notAgg de = false) (hi : (P.info? t).map (·.size) = some seg.length)
    (hD : W.heap[E]? = some (.deferred (some []))) (hR : ∀ W', Kept (fun x => x = E) W W' → R (.returned (.agg seg.toArray)) W') : LeavesInM Fence.wide nn P fn a.tmps R a.defers .returning W := by
  rw [ha.defers]
  have hbE : b ≠ E := fun e => by rw [← e] at hD; rw [hb] at hD; cases hD
  refine ⟨by simp, .inl ⟨E, _, rfl, run_takeDeferred hD, ?_⟩⟩
  refine ⟨_, results_cell_row hr a.tmps _ b bt seg.toArray (0, 0) de ?_ ?_ hu (by cases de <;> simp [notAgg] at hn <;> rfl) (by simpa using hi), hR _ (Kept.of_grown (grownBy_putObj' W E _) |>.mono (fun j _ e => by injection e with e; exact e.symm))⟩
  · have h1 : a.tmps[p]? = some (ptr b) := ha.fits.get p _ hp
    simp [h1, ptr]
  · rw [World.putObj_heap_other hbE]
    exact hb

set_option maxHeartbeats 2000000 in
theorem now_c (w : World) (F : Nat → Prop) (hb : Nat) (D : Dr) (i : Nat) (h : IsD w F hb D) (hi : i < D.l.length) :
    Calls Tryd.prog 79 [ptr hb, .int .i64 i].toArray w (Ret fun r w' => r = .agg (encBs (nowS D.l D.wait i)).toArray ∧ Kept none0 w w') := by
  obtain ⟨h0, vl, vw, h1, h2, h3, h4⟩ := h
  have hws := fun p hp => (h0.waits p hp).2
  have hwn := h0.wn
  have hn2 := h0.n2
  obtain ⟨A, c, rfl⟩ := h4.val
  obtain ⟨g, cap, pad, rfl, hg, hbg, hgl, hgc⟩ := h3.pos h0.n1
  have hF : ∀ f, Fence.wide.fn f := fun _ => trivial
  refine (callsIn_wide (n := 3)).1 (callsIn_of_wp_marks Tryd.func79 rfl trivial ?_)
  refine (?_ : J Fence.wide 3 Tryd.prog _ Tryd.f79.ntmps [] _ _ w) _ (fits_args (vs := [ptr hb, .int .i64 i]) rfl rfl)
  unfold ptr at *
  repeat (first | with_reducible refine J_seq ?_ | with_reducible refine J_region ?_ | with_reducible refine JL_nil ?_ | with_reducible refine K_then ?_ | with_reducible refine K_block ?_ | with_reducible refine J_skip ?_ | with_reducible refine J_block ?_ | refine JL_ar hF rfl rfl rfl (wrap_i64 (by omega)) rfl ?_ | refine JL_pure E hF rfl (fun _ e => by cases e) rfl ?_)
  refine JL_box E hF rfl rfl rfl ?_
  intro b3 w1 hn1
  refine JL_alloc E hF rfl rfl rfl ?_
  intro b4 w2 hn2'
  have hk2 : Kept none0 w w2 := hn1.kept.tr hn2'.kept (fun _ _ x => x)
  have h22 := h2.mv hk2 (fun x => x)
  repeat (first | with_reducible refine J_seq ?_ | with_reducible refine J_region ?_ | with_reducible refine JL_nil ?_ | with_reducible refine K_then ?_ | with_reducible refine K_block ?_ | with_reducible refine J_skip ?_ | with_reducible refine J_block ?_ | refine JL_ar hF rfl rfl rfl (wrap_i64 (by omega)) rfl ?_ | refine JL_pure E hF rfl (fun _ e => by cases e) rfl ?_)
  refine JL_run hF (fun _ e => by cases e) rfl rfl rfl (ro_loadB E (h22) rfl rfl rfl (by rfl)) ?_
  refine JL_call rfl rfl (Tryd.call103 _) (back_c w2 _ rfl) ?_
  rintro r w3 ⟨bS, hn3, rfl⟩
  unfold ptr at *
  have hk3 : Kept none0 w w3 := hk2.tr hn3.kept (fun _ _ x => x)
  have e3 := hn1.at_
  have e4 := hn2'.at_
  have eS := hn3.at_
  have s1 := hn1.size
  have s2 := hn2'.size
  have s3 := hn3.size
  have hb33 : Blk w3 b3 [.int .i64 i] 3 := (hn1.blk.mv hn2'.kept (fun x => x)).mv hn3.kept (fun x => x)
  have hb43 : Blk w3 b4 (encBs (zeros 256)) 101 := by
    have := hn2'.blk.mv hn3.kept (fun x => x)
    rw [encBs_zeros]
    exact this
  repeat (first | with_reducible refine J_seq ?_ | with_reducible refine J_region ?_ | with_reducible refine JL_nil ?_ | with_reducible refine K_then ?_ | with_reducible refine K_block ?_ | with_reducible refine J_skip ?_ | with_reducible refine J_block ?_ | refine JL_ar hF rfl rfl rfl (wrap_i64 (by omega)) rfl ?_ | refine JL_pure E hF rfl (fun _ e => by cases e) rfl ?_)
  intro a ha
  have hev : a.eval (.tmp 11) = .func (.func 115) #[] #[.pointer (some ⟨bS, 0, none⟩)] := ha.fits.eval (x := .tmp 11) rfl
  refine wpIn_rangeFunc_ownH (α := Nat) rfl (by decide) hev (hF _) (fun args w => Tryd.call115 args w)
    (back1_stops Fence.wide hF rfl rfl 2 w3 bS A c D.wait _ hws hwn hn3.blk (h4.mv hk3 (fun _ _ _ x => x))) belowK_t (belowK_b (Nat.le_refl _)) (Below.refl _ _) (fun _ => rfl)
    (fun pre W => Kept none0 w W ∧ w3.heap.size ≤ W.heap.size ∧ Blk W b3 [.int .i64 i] 3 ∧ Blk W b4 (encBs (zeros 256)) 101 ∧ ∀ j ∈ pre, (at_ D.wait j).1 ≠ i)
    (fun cd pre W => cd = .ret ∧ Kept none0 w W ∧ w3.heap.size ≤ W.heap.size ∧ ∃ pre' x, pre = pre' ++ [x] ∧ (∀ j ∈ pre', (at_ D.wait j).1 ≠ i) ∧ (at_ D.wait x).1 = i ∧ Blk W b4 (encBs (at_ D.wait x).2) 101)
    ?hI ?hIx ?h0 (fun x a' W => ∃ b6, w3.heap.size ≤ b6 ∧ Blk W b6 (encW (at_ D.wait x)) 103 ∧ FitsD a' Tryd.f79.ntmps [(6, .pointer (some ⟨b6, 0, none⟩)), (3, .pointer (some ⟨b3, 0, none⟩)), (4, .pointer (some ⟨b4, 0, none⟩))] []) ?hAx ?assign ?body ?done ?stop
  case hI =>
    rintro s W W' row ⟨g1, g2, g3, g4, g5⟩ hgr hrow
    refine ⟨g1.tr (Kept.of_grown hgr) (fun j hj e => ?_), Nat.le_trans g2 hgr.size, g3.grown hgr (fun r e => (hrow r e).2), g4.grown hgr (fun r e => (hrow r e).2), g5⟩
    have := (hrow j e).1
    omega
  case hIx =>
    rintro cd s W W' row ⟨g0, g1, g2, pre', x, g3, g4, g5, g6⟩ hgr hrow
    refine ⟨g0, g1.tr (Kept.of_grown hgr) (fun j hj e => ?_), Nat.le_trans g2 hgr.size, pre', x, g3, g4, g5, g6.grown hgr (fun r e => (hrow r e).2)⟩
    have := (hrow j e).1
    omega
  case h0 => exact ⟨hk3, Nat.le_refl _, hb33, hb43, fun j hj => by cases hj⟩
  case hAx =>
    rintro x a' _ W W' row ⟨b6, g1, g2, g3⟩ hgr hrow
    exact ⟨b6, g1, g2.grown hgr (fun r e => (hrow r e).2), g3⟩
  case assign =>
    intro l pre x W KK ⟨g1, g2, g3, g4, g5⟩ hKK
    have hfit : FitsD { tmps := (#[12, 13].zip (encI D.wait x)).foldl (fun t (p, v) => t.setIfInBounds p v) a.tmps, defers := [] } Tryd.f79.ntmps [(13, .agg (encW (at_ D.wait x)).toArray), (3, .pointer (some ⟨b3, 0, none⟩)), (4, .pointer (some ⟨b4, 0, none⟩))] [] := by
      have e : (#[12, 13].zip (encI D.wait x)).foldl (fun t (p, v) => t.setIfInBounds p v) a.tmps = (a.tmps.setIfInBounds 12 (.int .i64 x)).setIfInBounds 13 (.agg (encW (at_ D.wait x)).toArray) := by simp [encI]
      rw [e]
      have ha0 : FitsD { a with defers := [] } _ _ [] := ⟨ha.fits, rfl⟩
      exact ((ha0.put (d := 12) (.int .i64 x) rfl).put (d := 13) (.agg (encW (at_ D.wait x)).toArray) rfl).less ⟨rfl, rfl, rfl, trivial⟩
    have hln := at_len hws x
    have hF : ∀ f, (Fence.wide.inRound l).fn f := fun _ => trivial
    refine (?_ : J (Fence.wide.inRound l) 1 Tryd.prog _ Tryd.f79.ntmps [] _ _ W) _ hfit
    refine J_region ?_
    refine JL_alloc E hF rfl rfl rfl ?_
    intro b6 W1 hN
    refine JL_storeA E hF hN.blk rfl rfl rfl (by rw [encW_len, hln]) zw_fit (encW_one _) ?_
    intro W2 hU
    have hb6 := hU.blk
    rw [show 257 = (encW (at_ D.wait x)).length by rw [encW_len, hln], splice_all _ _ (by rw [encW_len, hln, zw_len])] at hb6
    have eN := hN.at_
    have hkW : Kept none0 W W2 := hN.kept.tr hU.kept (fun j hj (e : j = b6) => by omega)
    refine JL_nil (fun a2 ha2 => ?_)
    show KK a2 W2
    refine hKK a2 W2 ((hN.keepsFrom _).trans (hU.keepsFrom hN.blk _)) (hkW.belowOf g2 (fun _ x => x.elim)) ⟨g1.tr hkW (fun _ _ x => x), Nat.le_trans g2 hkW.size, g3.mv hkW (fun x => x), g4.mv hkW (fun x => x), g5⟩ ⟨b6, by omega, hb6, ha2.less ⟨rfl, rfl, rfl, trivial⟩⟩
  case body =>
    rintro l pre x a' W _ _ ⟨g1, g2, g3, g4, g5⟩ ⟨b6, g6, g7, g8⟩ _
    have hln := at_len hws x
    have hF : ∀ f, (Fence.wide.inRound l).fn f := fun _ => trivial
    refine (?_ : J (Fence.wide.inRound l) 1 Tryd.prog _ Tryd.f79.ntmps [] _ _ W) _ g8
    repeat (first | with_reducible refine J_seq ?_ | with_reducible refine J_region ?_ | with_reducible refine JL_nil ?_ | with_reducible refine K_then ?_ | with_reducible refine K_block ?_ | with_reducible refine J_skip ?_ | with_reducible refine J_block ?_ | refine JL_ar hF rfl rfl rfl (wrap_i64 (by omega)) rfl ?_ | refine JL_pure E hF rfl (fun _ e => by cases e) rfl ?_)
    refine JL_run hF (fun _ e => by cases e) rfl rfl rfl (ro_loadB E (g7) rfl rfl rfl (by rfl)) ?_
    refine JL_run hF (fun _ e => by cases e) rfl rfl rfl (ro_loadB E (g3) rfl rfl rfl (by rfl)) ?_
    repeat (first | with_reducible refine J_seq ?_ | with_reducible refine J_region ?_ | with_reducible refine JL_nil ?_ | with_reducible refine K_then ?_ | with_reducible refine K_block ?_ | with_reducible refine J_skip ?_ | with_reducible refine J_block ?_ | refine JL_ar hF rfl rfl rfl (wrap_i64 (by omega)) rfl ?_ | refine JL_pure E hF rfl (fun _ e => by cases e) rfl ?_)
    by_cases he : (at_ D.wait x).1 = i
    · refine J_cond rfl (fun _ => ?_) (fun h => absurd (of_decide_eq_false h) (by omega))
      repeat (first | with_reducible refine J_seq ?_ | with_reducible refine J_region ?_ | with_reducible refine JL_nil ?_ | with_reducible refine K_then ?_ | with_reducible refine K_block ?_ | with_reducible refine J_skip ?_ | with_reducible refine J_block ?_ | refine JL_ar hF rfl rfl rfl (wrap_i64 (by omega)) rfl ?_ | refine JL_pure E hF rfl (fun _ e => by cases e) rfl ?_)
      have hs6 : Seg W b6 1 (encBs (at_ D.wait x).2) := by
        have := g7.whole.drop 1
        simpa [encW] using this
      refine JL_run hF (fun _ e => by cases e) rfl rfl rfl (ro_loadA E (hs6) rfl rfl rfl (by rw [encBs_len, hln])) ?_
      refine JL_storeA E hF g4 rfl rfl rfl (by rw [encBs_len, hln]) (by rw [encBs_len, zeros_len]; exact Nat.le_refl 256) (encBs_one _) ?_
      intro W2 hU
      have hb4 := hU.blk
      rw [show 256 = (encBs (at_ D.wait x).2).length by rw [encBs_len, hln], splice_all _ _ (by rw [encBs_len, encBs_len, hln, zeros_len])] at hb4
      repeat (first | with_reducible refine J_seq ?_ | with_reducible refine J_region ?_ | with_reducible refine JL_nil ?_ | with_reducible refine K_then ?_ | with_reducible refine K_block ?_ | with_reducible refine J_skip ?_ | with_reducible refine J_block ?_ | refine JL_ar hF rfl rfl rfl (wrap_i64 (by omega)) rfl ?_ | refine JL_pure E hF rfl (fun _ e => by cases e) rfl ?_)
      refine J_ret (fun a2 ha2 => ?_)
      simp only [Exit.then, Exit.inBlock, ownPostG]
      exact ⟨hU.keepsFrom g4 _, trivial, g1.tr hU.kept (fun j hj (e : j = b4) => by omega), Nat.le_trans g2 hU.kept.size, pre, x, rfl, g5, he, hb4⟩
    · refine J_cond rfl (fun h => absurd (of_decide_eq_true h) (by omega)) (fun _ => ?_)
      repeat (first | with_reducible refine J_seq ?_ | with_reducible refine J_region ?_ | with_reducible refine JL_nil ?_ | with_reducible refine K_then ?_ | with_reducible refine K_block ?_ | with_reducible refine J_skip ?_ | with_reducible refine J_block ?_ | refine JL_ar hF rfl rfl rfl (wrap_i64 (by omega)) rfl ?_ | refine JL_pure E hF rfl (fun _ e => by cases e) rfl ?_)
      intro a2 ha2
      simp only [Exit.then, Exit.inBlock, ownPostG]
      refine ⟨KeepsFrom.refl _ _, Below.refl _ _, g1, g2, g3, g4, fun j hj => ?_⟩
      rcases List.mem_append.1 hj with hj | hj
      · exact g5 j hj
      · rw [List.mem_singleton.1 hj]; exact he
  case done =>
    rintro Dd xs W hE rfl ⟨g1, g2, g3, g4, g5⟩ hDf
    have hnone : nowS D.l D.wait i = D.l.getD i [] := nowS_none _ _ _ (fun j hj => g5 j (by
      simp only [desc, List.mem_map, List.mem_range]
      exact ⟨D.wait.length - 1 - j, by omega, by omega⟩))
    have haD : FitsD { a with defers := { target := .collected Dd, args := #[] } :: a.defers } _ _ [{ target := .collected Dd, args := #[] }] := ⟨ha.fits, by rw [ha.defers]⟩
    simp only [Exit.then, Exit.inBlock]
    refine (?_ : J Fence.wide 3 Tryd.prog _ Tryd.f79.ntmps _ _ _ W) _ haD
    refine J_seq ?_
    refine J_tail 7 (by kernel_rfl) (by kernel_rfl) (fun w5 hd5 => ?_)
    simp only [List.take_succ_cons, List.take_zero, List.drop_succ_cons, List.drop_zero]
    have hk5 := g1.tr (hd5.kept none0) (fun _ _ x => x)
    have h25 := h2.mv hk5 (fun x => x)
    have hb35 := g3.mv (hd5.kept none0) (fun x => x)
    have hb45 := g4.mv (hd5.kept none0) (fun x => x)
    have hg5 := hbg.mv hk5 (fun x => x)
    have hsegs := encSegs h0.secs
    have hsec := h0.secs _ (List.getElem_mem hi)
    have hsg : Seg w5 g (i * 256) (encBs D.l[i]) := by
      have := hg5.seg (i * 256) 256
      rw [flat_part (sz := 256) _ _ hsegs (by simpa using hi)] at this
      simpa using this
    (repeat (first | refine V_ar rfl rfl rfl (wrap_i64 (by omega)) rfl ?_ | refine V_pure E rfl rfl ?_ | refine V_guard rfl rfl ?_ | with_reducible refine GdV_want ?_ | ((with_reducible refine GdV_skipT ?_ ?_); exact rfl) | ((with_reducible refine GdV_skipF ?_ ?_); exact rfl)))
    refine V_loadB E (by first | exact fun _ h => h.heap | (intro _ h; subst h; rfl)) (by assumption) rfl rfl rfl (by rfl) rfl ?_
    (repeat (first | refine V_ar rfl rfl rfl (wrap_i64 (by omega)) rfl ?_ | refine V_pure E rfl rfl ?_ | refine V_guard rfl rfl ?_ | with_reducible refine GdV_want ?_ | ((with_reducible refine GdV_skipT ?_ ?_); exact rfl) | ((with_reducible refine GdV_skipF ?_ ?_); exact rfl)))
    refine V_loadB E (by first | exact fun _ h => h.heap | (intro _ h; subst h; rfl)) (by assumption) rfl rfl rfl (by rfl) rfl ?_
    (repeat (first | refine V_ar rfl rfl rfl (wrap_i64 (by omega)) rfl ?_ | refine V_pure E rfl rfl ?_ | refine V_guard rfl rfl ?_ | with_reducible refine GdV_want ?_ | ((with_reducible refine GdV_skipT ?_ ?_); exact rfl) | ((with_reducible refine GdV_skipF ?_ ?_); exact rfl)))
    refine V_indexS E rfl rfl rfl rfl (by omega) (by omega) (by rw [Int.toNat_natCast, Nat.zero_add]) rfl ?_
    refine V_loadA E (by first | exact fun _ h => h.heap | (intro _ h; subst h; rfl)) (hsg) rfl rfl rfl (by rw [encBs_len, hsec]) rfl ?_
    refine V_nilStore E hb45 rfl rfl rfl (by rw [encBs_len, hsec]) (by rw [encBs_len, zeros_len]; exact Nat.le_refl 256) (encBs_one _) (fun w6 hu6 => ?_)
    have hb46 := hu6.blk
    rw [show 256 = (encBs D.l[i]).length by rw [encBs_len, hsec], splice_all _ _ (by rw [encBs_len, encBs_len, hsec, zeros_len])] at hb46
    have hD6 : w6.heap[Dd]? = some (.deferred (some [])) := by
      have hne : Dd ≠ b4 := fun e => by rw [e] at hDf; rw [g4] at hDf; cases hDf
      have h5 : w5.heap[Dd]? = some (.deferred (some [])) := by rw [hd5.heap]; exact hDf
      exact (hu6.kept.same Dd (Array.getElem?_eq_some_iff.1 h5).1 hne).trans h5
    refine K_then (J_ret (fun a2 ha2 => ?_))
    refine leave_cell rfl ha2 (b := b4) rfl hb46 (E.ok _ _ _ rfl).1 rfl (by rw [encBs_len, hsec]; exact (E.ok _ _ _ rfl).2) hD6 (fun W' hkW => ⟨_, rfl, ?_, ?_⟩)
    · rw [hnone, List.getD_eq_getElem?_getD, List.getElem?_eq_getElem hi, Option.getD_some]
    · exact (hk5.tr hu6.kept (fun j hj (e : j = b4) => by omega)).tr hkW (fun j hj (e : j = Dd) => by omega)
  case stop =>
    rintro Dd cd pre W hE ⟨k, hk, rfl⟩ ⟨rfl, g1, g2, pre', x, g3, g4, g5, g6⟩ hDf
    rw [desc_succ] at g3
    obtain ⟨e1, e2⟩ := List.append_inj' g3 rfl
    have ex : x = D.wait.length - 1 - k := by injection e2 with e2; exact e2.symm
    subst e1
    subst ex
    have hsome : nowS D.l D.wait i = (at_ D.wait (D.wait.length - 1 - k)).2 := nowS_some _ _ _ _ (by omega) g5 (fun j hj hjl => g4 j (by
      simp only [desc, List.mem_map, List.mem_range]
      exact ⟨D.wait.length - 1 - j, by omega, by omega⟩))
    have haD : FitsD { a with defers := { target := .collected Dd, args := #[] } :: a.defers } _ _ [{ target := .collected Dd, args := #[] }] := ⟨ha.fits, by rw [ha.defers]⟩
    refine wpIn_ret ?_
    simp only [Exit.then, Exit.inBlock]
    refine leave_cell rfl haD (b := b4) rfl g6 (E.ok _ _ _ rfl).1 rfl (by rw [encBs_len, at_len hws]; exact (E.ok _ _ _ rfl).2) hDf (fun W' hkW => ⟨_, rfl, ?_, ?_⟩)
    · rw [hsome]
    · exact g1.tr hkW (fun j hj (e : j = Dd) => by omega)
end Go.Proofs.YtoefhdaenaiomaaDoor
