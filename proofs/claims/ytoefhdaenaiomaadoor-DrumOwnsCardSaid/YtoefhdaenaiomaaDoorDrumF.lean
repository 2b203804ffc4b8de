/- slices.Backward over the writes; the iterator. -/
import Derived.Test.YtoefhdaenaiomaaDoorDrumE
import Derived.Test.YtoefhdaenaiomaaDoorFence
namespace Go.Proofs.YtoefhdaenaiomaaDoor
open Go Go.RowKit
set_option maxRecDepth 20000

/-- A sector as the last write has it. -/
def nowS (l : List (List UInt8)) (ws : List (Nat × List UInt8)) (i : Nat) : List UInt8 := ws.foldl (fun s p => if p.1 = i then p.2 else s) (l.getD i [])
theorem nowS_snoc (l : List (List UInt8)) (ws : List (Nat × List UInt8)) (p : Nat × List UInt8) (i : Nat) : nowS l (ws ++ [p]) i = if p.1 = i then p.2 else nowS l ws i := by
  simp [nowS]
def at_ (ws : List (Nat × List UInt8)) (j : Nat) : Nat × List UInt8 := ws.getD j (0, zeros 256)
theorem at_get {ws : List (Nat × List UInt8)} {j : Nat} (h : j < ws.length) : at_ ws j = ws[j] := by
  rw [at_, List.getD_eq_getElem?_getD, List.getElem?_eq_getElem h, Option.getD_some]
theorem nowS_take (l : List (List UInt8)) (ws : List (Nat × List UInt8)) (i : Nat) : ∀ d k, ws.length - k = d → k ≤ ws.length → (∀ j, k ≤ j → j < ws.length → (at_ ws j).1 ≠ i) → nowS l ws i = nowS l (ws.take k) i := by
  intro d
  induction d with
  | zero =>
    intro k hd hk _
    rw [List.take_of_length_le (by omega)]
  | succ d ih =>
    intro k hd hk h
    have hk' : k < ws.length := by omega
    rw [ih (k + 1) (by omega) (by omega) (fun j hj hl => h j (by omega) hl), take_snoc ws k hk', nowS_snoc, if_neg]
    have := h k (Nat.le_refl _) hk'
    rwa [at_get hk'] at this
theorem nowS_none (l : List (List UInt8)) (ws : List (Nat × List UInt8)) (i : Nat) (h : ∀ j, j < ws.length → (at_ ws j).1 ≠ i) : nowS l ws i = l.getD i [] := by
  rw [nowS_take l ws i _ 0 rfl (Nat.zero_le _) (fun j _ hl => h j hl), List.take_zero]
  rfl
theorem nowS_some (l : List (List UInt8)) (ws : List (Nat × List UInt8)) (i k : Nat) (hk : k < ws.length) (he : (at_ ws k).1 = i) (h : ∀ j, k < j → j < ws.length → (at_ ws j).1 ≠ i) : nowS l ws i = (at_ ws k).2 := by
  rw [nowS_take l ws i _ (k + 1) rfl (by omega) (fun j hj hl => h j (by omega) hl), take_snoc ws k hk, nowS_snoc, ← at_get hk, if_pos he]
theorem nowS_len (l : List (List UInt8)) (ws : List (Nat × List UInt8)) (i : Nat) (hl : ∀ x ∈ l, x.length = 256) (hw : ∀ p ∈ ws, p.2.length = 256) (hi : i < l.length) : (nowS l ws i).length = 256 := by
  have key : ∀ (ws : List (Nat × List UInt8)) (s : List UInt8), s.length = 256 → (∀ p ∈ ws, p.2.length = 256) → (ws.foldl (fun s p => if p.1 = i then p.2 else s) s).length = 256 := by
    intro ws
    induction ws with
    | nil => intro s hs _; exact hs
    | cons p ws ih =>
      intro s hs hw
      refine ih _ ?_ (fun q hq => hw q (by simp [hq]))
      dsimp only
      split
      · exact hw p (by simp)
      · exact hs
  exact key ws _ (sec_of l hl i hi) hw

theorem at_len {ws : List (Nat × List UInt8)} (hw : ∀ p ∈ ws, p.2.length = 256) (j : Nat) : (at_ ws j).2.length = 256 := by
  by_cases h : j < ws.length
  · rw [at_get h]; exact hw _ (List.getElem_mem h)
  · rw [at_, List.getD_eq_getElem?_getD, List.getElem?_eq_none (by omega), Option.getD_none]; exact zeros_len 256

/-- What has come when k rounds are over. -/
def desc (N k : Nat) : List Nat := (List.range k).map fun i => N - 1 - i
theorem desc_succ (N k : Nat) : desc N (k + 1) = desc N k ++ [N - 1 - k] := by simp [desc, List.range_succ]
theorem desc_len (N k : Nat) : (desc N k).length = k := by simp [desc]
theorem desc_mem {N k j : Nat} (h : j ∈ desc N k) : ∃ i, i < k ∧ j = N - 1 - i := by
  simp only [desc, List.mem_map, List.mem_range] at h
  obtain ⟨i, h1, h2⟩ := h
  exact ⟨i, h1, h2.symm⟩

theorem back_c (w : World) (v : Value) (h1 : v.oneCell' = true) :
    Calls Tryd.prog 103 [v].toArray w (Ret fun r w' => ∃ b, New w w' b [v] 97 ∧ r = .func (.func 115) #[] #[ptr b]) := by
  refine calls_T Tryd.func103 rfl rfl rfl ?_
  repeat (first | with_reducible refine T_seq ?_ | with_reducible refine T_region ?_ | with_reducible refine U_nil ?_ | refine U_ar rfl rfl rfl (wrap_i64 (by omega)) rfl ?_ | refine U_pure E rfl rfl ?_ | with_reducible refine T_skip ?_ | with_reducible refine T_block ?_ | with_reducible refine T_inBlock ?_ | refine T_exit rfl ?_ | refine T_condV rfl ?_ | with_reducible refine Cnd_t ?_ | with_reducible refine Cnd_f ?_ | with_reducible refine Cnd_not ?_ | with_reducible refine Cnd_some ?_ | with_reducible refine Cnd_none ?_ | refine U_guard rfl rfl ?_ | with_reducible refine Gd_nt ?_ | with_reducible refine Gd_nf ?_ | with_reducible refine Gd_some ?_ | with_reducible refine Gd_none ?_ | with_reducible refine Gd_want ?_ | ((with_reducible refine Gd_skipT ?_ ?_); exact rfl) | ((with_reducible refine Gd_skipF ?_ ?_); exact rfl))
  refine U_box E (cs := [v]) rfl (by cases v <;> simp [Value.oneCell'] at h1 <;> rfl) rfl ?_
  intro b w1 hn
  repeat (first | with_reducible refine T_seq ?_ | with_reducible refine T_region ?_ | with_reducible refine U_nil ?_ | refine U_ar rfl rfl rfl (wrap_i64 (by omega)) rfl ?_ | refine U_pure E rfl rfl ?_ | with_reducible refine T_skip ?_ | with_reducible refine T_block ?_ | with_reducible refine T_inBlock ?_ | refine T_exit rfl ?_ | refine T_condV rfl ?_ | with_reducible refine Cnd_t ?_ | with_reducible refine Cnd_f ?_ | with_reducible refine Cnd_not ?_ | with_reducible refine Cnd_some ?_ | with_reducible refine Cnd_none ?_ | refine U_guard rfl rfl ?_ | with_reducible refine Gd_nt ?_ | with_reducible refine Gd_nf ?_ | with_reducible refine Gd_some ?_ | with_reducible refine Gd_none ?_ | with_reducible refine Gd_want ?_ | ((with_reducible refine Gd_skipT ?_ ?_); exact rfl) | ((with_reducible refine Gd_skipF ?_ ?_); exact rfl))
  refine U_same (v := .func (.func 115) #[] #[.pointer (some ⟨b, 0, none⟩)]) (fun a ha => ?_) rfl ?_
  · have := ha.get 1 _ rfl
    simp [execOp, Instr.makeFunc, Act.eval, this]
  · repeat (first | with_reducible refine T_seq ?_ | with_reducible refine T_region ?_ | with_reducible refine U_nil ?_ | refine U_ar rfl rfl rfl (wrap_i64 (by omega)) rfl ?_ | refine U_pure E rfl rfl ?_ | with_reducible refine T_skip ?_ | with_reducible refine T_block ?_ | with_reducible refine T_inBlock ?_ | refine T_exit rfl ?_ | refine T_condV rfl ?_ | with_reducible refine Cnd_t ?_ | with_reducible refine Cnd_f ?_ | with_reducible refine Cnd_not ?_ | with_reducible refine Cnd_some ?_ | with_reducible refine Cnd_none ?_ | refine U_guard rfl rfl ?_ | with_reducible refine Gd_nt ?_ | with_reducible refine Gd_nf ?_ | with_reducible refine Gd_some ?_ | with_reducible refine Gd_none ?_ | with_reducible refine Gd_want ?_ | ((with_reducible refine Gd_skipT ?_ ?_); exact rfl) | ((with_reducible refine Gd_skipF ?_ ?_); exact rfl))
    exact T_ret1 Tryd.func103 rfl rfl ⟨_, rfl, b, hn, rfl⟩

def encI (ws : List (Nat × List UInt8)) (j : Nat) : Array Value := #[.int .i64 j, .agg (encW (at_ ws j)).toArray]

set_option maxHeartbeats 1000000 in
theorem back1_stops (F : Fence) (hF : ∀ f, F.fn f) (hdp : F.depth = none) (hro : F.round = none) (nn : Nat) (w : World) (Bs : Nat) (A : Option Addr) (c : Nat) (ws : List (Nat × List UInt8)) (G : Nat → Prop) (hws : ∀ p ∈ ws, p.2.length = 256) (hwn : ws.length ≤ 1000000)
    (hBs : Blk w Bs [.slice A ws.length c] 97) (hr : Row w G (.slice A ws.length c) 257 ws.length (ws.map encW).flatten 103) :
    SeqStopsK F nn Tryd.prog 115 #[ptr Bs] (encI ws) (Below w.heap.size) (fun xs => xs = desc ws.length ws.length) (fun pre => ∃ k, k < ws.length ∧ pre = desc ws.length (k + 1)) ws.length w := by
  intro l JJ Jx W hW _ _ hY h0
  have hkW : Kept none0 w W := ⟨hW.os, hW.tape, hW.output, hW.size, fun b hb _ => hW.block b hb⟩
  refine callsIn_of_wp Tryd.func115 rfl (hF _) ?_ hro
  refine (?_ : J F nn Tryd.prog _ Tryd.f115.ntmps [] _ _ W) _ (fits_args (vs := [.func (.yield l) #[] #[], ptr Bs]) rfl rfl)
  unfold ptr at *
  have hB := hBs.mv hkW (fun x => x)
  repeat (first | with_reducible refine J_seq ?_ | with_reducible refine J_region ?_ | with_reducible refine JL_nil ?_ | with_reducible refine K_then ?_ | with_reducible refine K_block ?_ | with_reducible refine J_skip ?_ | with_reducible refine J_block ?_ | refine JL_ar hF rfl rfl rfl (wrap_i64 (by omega)) rfl ?_ | refine JL_pure E hF rfl (fun _ e => by cases e) rfl ?_)
  refine JL_run hF (fun _ e => by cases e) rfl rfl rfl (ro_loadB E (hB) rfl rfl rfl (by rfl)) ?_
  repeat (first | with_reducible refine J_seq ?_ | with_reducible refine J_region ?_ | with_reducible refine JL_nil ?_ | with_reducible refine K_then ?_ | with_reducible refine K_block ?_ | with_reducible refine J_skip ?_ | with_reducible refine J_block ?_ | refine JL_ar hF rfl rfl rfl (wrap_i64 (by omega)) rfl ?_ | refine JL_pure E hF rfl (fun _ e => by cases e) rfl ?_)
  refine J_loop (α := Nat) (fun k => [(3, .int .i64 ((ws.length : Int) - 1 - k)), (0, .func (.yield l) #[] #[]), (1, .pointer (some ⟨Bs, 0, none⟩))]) (fun k W1 => k ≤ ws.length ∧ JJ (desc ws.length k) W1 ∧ Below w.heap.size w W1)
    (fun a => (intOf (a.tmps.getD 3 undef) + 1).toNat) 0 ⟨Nat.zero_le _, h0, hW⟩ ⟨by simp [look], rfl, rfl, trivial⟩ ?_
  rintro k W1 ⟨hk, hJ, hb1⟩ a1 ha1
  have hmu : intOf (a1.tmps.getD 3 undef) = (ws.length : Int) - 1 - k := by
    have := ha1.fits.get 3 _ rfl
    simp [this, intOf]
  have hkW1 : Kept none0 w W1 := ⟨hb1.os, hb1.tape, hb1.output, hb1.size, fun b hb _ => hb1.block b hb⟩
  refine (?_ : J F nn Tryd.prog _ Tryd.f115.ntmps [] _ _ W1) a1 ha1
  repeat (first | with_reducible refine J_seq ?_ | with_reducible refine J_region ?_ | with_reducible refine JL_nil ?_ | with_reducible refine K_then ?_ | with_reducible refine K_block ?_ | with_reducible refine J_skip ?_ | with_reducible refine J_block ?_ | refine JL_ar hF rfl rfl rfl (wrap_i64 (by omega)) rfl ?_ | refine JL_pure E hF rfl (fun _ e => by cases e) rfl ?_)
  by_cases hlt : k < ws.length
  · refine J_cond rfl (fun _ => ?_) (fun h => absurd (of_decide_eq_false h) (by omega))
    have hj : ws.length - 1 - k < ws.length := by omega
    have hr1 := hr.mv hkW1 (fun _ _ _ x => x)
    have hB1 := hBs.mv hkW1 (fun x => x)
    obtain ⟨gw, rfl, _, hseg⟩ := wait_seg hws hr1 rfl hj
    have hln := hws _ (List.getElem_mem hj)
    repeat (first | with_reducible refine J_seq ?_ | with_reducible refine J_region ?_ | with_reducible refine JL_nil ?_ | with_reducible refine K_then ?_ | with_reducible refine K_block ?_ | with_reducible refine J_skip ?_ | with_reducible refine J_block ?_ | refine JL_ar hF rfl rfl rfl (wrap_i64 (by omega)) rfl ?_ | refine JL_pure E hF rfl (fun _ e => by cases e) rfl ?_)
    refine JL_run hF (fun _ e => by cases e) rfl rfl rfl (ro_loadB E (hB1) rfl rfl rfl (by rfl)) ?_
    repeat (first | with_reducible refine J_seq ?_ | with_reducible refine J_region ?_ | with_reducible refine JL_nil ?_ | with_reducible refine K_then ?_ | with_reducible refine K_block ?_ | with_reducible refine J_skip ?_ | with_reducible refine J_block ?_ | refine JL_ar hF rfl rfl rfl (wrap_i64 (by omega)) rfl ?_ | refine JL_pure E hF rfl (fun _ e => by cases e) rfl ?_)
    refine JL_run hF (fun _ e => by cases e) rfl rfl rfl (ro_indexS (o' := (ws.length - 1 - k) * 257) E rfl rfl rfl rfl (by omega) (by omega) (by rw [Nat.zero_add, show ((ws.length : Int) - 1 - k).toNat = ws.length - 1 - k by omega])) ?_
    refine JL_run hF (fun _ e => by cases e) rfl rfl rfl (ro_loadA E (hseg) rfl rfl rfl (by rw [encW_len, hln])) ?_
    have hy := hY (desc ws.length k) (ws.length - 1 - k) W1 hJ (by rw [desc_len]; exact hlt)
    refine JL_yield hF hdp (G := fun v W2 => (v = .bool true ∧ JJ (desc ws.length (k + 1)) W2 ∧ Below w.heap.size W1 W2) ∨ (v = .bool false ∧ Jx (desc ws.length (k + 1)) W2)) rfl (vs := [.int .i64 ((ws.length : Int) - 1 - k), .agg (encW ws[ws.length - 1 - k]).toArray]) rfl rfl ?_ ?_
    · obtain ⟨fn, tmps, assign, body, h1, h2⟩ := hy
      refine ⟨fn, tmps, assign, body, ?_, h2.mono ?_⟩
      · rw [← h1, encI, at_get hj, show ((ws.length - 1 - k : Nat) : Int) = (ws.length : Int) - 1 - k by omega]
      · rintro e W2 (⟨rfl, h3, h4⟩ | ⟨rfl, h3⟩)
        · exact ⟨_, rfl, .inl ⟨rfl, by rw [desc_succ]; exact h3, h4⟩⟩
        · exact ⟨_, rfl, .inr ⟨rfl, by rw [desc_succ]; exact h3⟩⟩
    rintro v W2 (⟨rfl, hJ2, hb2⟩ | ⟨rfl, hJ2⟩)
    · repeat (first | with_reducible refine J_seq ?_ | with_reducible refine J_region ?_ | with_reducible refine JL_nil ?_ | with_reducible refine K_then ?_ | with_reducible refine K_block ?_ | with_reducible refine J_skip ?_ | with_reducible refine J_block ?_ | refine JL_ar hF rfl rfl rfl (wrap_i64 (by omega)) rfl ?_ | refine JL_pure E hF rfl (fun _ e => by cases e) rfl ?_)
      refine J_cond rfl (fun h => by cases h) (fun _ => ?_)
      repeat (first | with_reducible refine J_seq ?_ | with_reducible refine J_region ?_ | with_reducible refine JL_nil ?_ | with_reducible refine K_then ?_ | with_reducible refine K_block ?_ | with_reducible refine J_skip ?_ | with_reducible refine J_block ?_ | refine JL_ar hF rfl rfl rfl (wrap_i64 (by omega)) rfl ?_ | refine JL_pure E hF rfl (fun _ e => by cases e) rfl ?_)
      intro a2 ha2
      show (∃ y, _) ∧ _
      refine ⟨⟨k + 1, ⟨hlt, hJ2, hb1.trans hb2⟩, ha2.less ?_⟩, ?_⟩
      · refine ⟨?_, rfl, rfl, trivial⟩
        have : (ws.length : Int) - 1 - ↑k - 1 = (ws.length : Int) - 1 - ↑(k + 1) := by omega
        show some (Value.int IntKind.i64 ((ws.length : Int) - 1 - ↑k - 1)) = _
        rw [this]
      · rw [hmu]
        have := ha2.fits.get 3 _ rfl
        have h2 : intOf (a2.tmps.getD 3 undef) = (ws.length : Int) - 1 - k - 1 := by
          simp [this, intOf]
        rw [h2]
        omega
    · repeat (first | with_reducible refine J_seq ?_ | with_reducible refine J_region ?_ | with_reducible refine JL_nil ?_ | with_reducible refine K_then ?_ | with_reducible refine K_block ?_ | with_reducible refine J_skip ?_ | with_reducible refine J_block ?_ | refine JL_ar hF rfl rfl rfl (wrap_i64 (by omega)) rfl ?_ | refine JL_pure E hF rfl (fun _ e => by cases e) rfl ?_)
      refine J_cond rfl (fun _ => ?_) (fun h => by cases h)
      refine J_ret (fun a2 ha2 => ?_)
      simp only [Exit.then, Exit.inBlock, ↓reduceIte]
      exact bodyPost_ret (results_none rfl _ _ _) ha2.defers ⟨⟨_, rfl⟩, .inr ⟨_, ⟨k, hlt, rfl⟩, hJ2⟩⟩
  · refine J_cond rfl (fun h => absurd (of_decide_eq_true h) (by omega)) (fun _ => ?_)
    refine J_exit (fun a2 ha2 => ?_)
    have : k = ws.length := by omega
    subst this
    simp only [Exit.then, Exit.inBlock, ↓reduceIte]
    exact bodyPost_end (results_none rfl _ _ _) ha2.defers ⟨⟨_, rfl⟩, .inl ⟨_, rfl, hJ⟩⟩
end Go.Proofs.YtoefhdaenaiomaaDoor
