/- DrumSafe: the walk. -/
import Derived.Test.YtoefhdaenaiomaaDrumJ
import Derived.Test.YtoefhdaenaiomaaArgs
namespace Go.Proofs.Ytoefhdaenaiomaa
open Go

section
variable {P : Program} {f : FuncId} {R : Ending → World → Prop} {n : Nat} {k : List Item} {m : Fm} {w : World}
/-- What comes behind a piece of code is walked once. -/
theorem T_via {α : Type} {it : Item} (fm : α → Fm) (X : α → World → Prop) (fin : ∀ x w', X x w' → T P f R n k (fm x) w') (h : (∀ x w', X x w' → T P f R n k (fm x) w') → T P f R n (it :: k) m w) : T P f R n (it :: k) m w := h fin
end

theorem old_fresh {w w' : World} (h : w.heap.size ≤ w'.heap.size) : ∀ b, b < w'.heap.size → old w b → ¬ fresh w b := fun b _ h1 h2 => by simp only [old, fresh] at *; omega

theorem wr_eq (l : List (List UInt8)) (ws : List (Nat × List UInt8)) (i : Nat) (p : List UInt8) (hi : i < l.length) (hp : p.length ≤ 256) : wrErr ⟨l, ws, -1⟩ i p = 0 ∧ wrDr ⟨l, ws, -1⟩ i p = ⟨l, ws ++ [(i, sec p)], -1⟩ := by
  have h : wrErr ⟨l, ws, -1⟩ i p = 0 := by
    rw [wrErr, if_pos (by dsimp only; omega), if_neg (by omega), if_neg (by dsimp only; omega)]
  refine ⟨h, ?_⟩
  rw [wrDr, if_pos h]
  rfl

/-- A write that goes well. -/
theorem wr_c (w0 w : World) (hb : Nat) (l : List (List UInt8)) (ws : List (Nat × List UInt8)) (v : Value) (p : List UInt8) (i : Int) (j : Nat) (e : i = j) (h0 : w0.heap.size ≤ w.heap.size) (h : IsD w (fresh w0) hb ⟨l, ws, -1⟩) (hp : BS w (old w0) v p) (hi : j < l.length) (hl : p.length ≤ 256) (hwn : ws.length < 1000000) :
    Calls Try.prog 9 [ptr hb, .int .i64 i, v].toArray w (Ret fun r w' => r = errV 0 ∧ Kept (fresh w0) w w' ∧ IsD w' (fresh w0) hb ⟨l, ws ++ [(j, sec p)], -1⟩) := by
  subst e
  obtain ⟨h1, h2⟩ := wr_eq l ws j p hi hl
  refine (write_ok w (fresh w0) hb _ (old w0) v p j h hp (fun b h1 h2 => by simp only [old, fresh] at *; omega) h1 hwn).mono ?_
  rintro e w' ⟨r, rfl, rfl, hk, hD⟩
  rw [h2] at hD
  exact ⟨_, rfl, rfl, hk, hD.mono (fun b _ h => h.elim (fun x => x) (fun x => Nat.le_trans h0 x))⟩

theorem drop_all {α : Type} (l : List α) (n : Nat) (h : l.length = n) : l.drop n = [] := List.drop_of_length_le (by omega)

/-- What a fall leaves of two flushed sectors and of two writes. -/
theorem fall_safe (A B Z : List UInt8) (hA : A.length = 256) (hB : B.length = 256) (hZ : Z = zeros 256) (keep : List Bool) (torn : Int) :
    ∃ b c k1 k2, drFall ⟨[A, A, Z], [(1, B), (2, B)], -1⟩ keep torn = ⟨[A, b, c], [], -1⟩ ∧ k1 ≤ 256 ∧ k2 ≤ 256 ∧ b = B.take k1 ++ A.drop k1 ∧ c = B.take k2 ++ Z.drop k2 := by
  have hZl : Z.length = 256 := by rw [hZ, zeros_len]
  have a0 : A = B.take 0 ++ A.drop 0 := by simp
  have z0 : Z = B.take 0 ++ Z.drop 0 := by simp
  have bA : B = B.take 256 ++ A.drop 256 := by rw [drop_all A 256 hA, List.take_of_length_le (by omega)]; simp
  have bZ : B = B.take 256 ++ Z.drop 256 := by rw [drop_all Z 256 hZl, List.take_of_length_le (by omega)]; simp
  have go : fgo keep [A, A, Z] [(1, B), (2, B)] = fstep keep (fstep keep ⟨[A, A, Z], -1, zeros 256⟩ ((1, B), 0)) ((2, B), 1) := rfl
  by_cases h0 : keep[0]? = some true <;> by_cases h1 : keep[1]? = some true
  · have e : fgo keep [A, A, Z] [(1, B), (2, B)] = ⟨[A, B, B], 1, Z⟩ := by rw [go]; simp only [fstep, h0, h1, if_true]; rfl
    by_cases ht : 0 ≤ torn ∧ torn < 256
    · refine ⟨B, B.take torn.toNat ++ Z.drop torn.toNat, 256, torn.toNat, ?_, Nat.le_refl _, by omega, bA, rfl⟩
      simp only [drFall, e]
      rw [if_pos (by omega)]
      rfl
    · refine ⟨B, B, 256, 256, ?_, Nat.le_refl _, Nat.le_refl _, bA, bZ⟩
      simp only [drFall, e]
      rw [if_neg (by omega)]
  · have e : fgo keep [A, A, Z] [(1, B), (2, B)] = ⟨[A, B, Z], 0, A⟩ := by rw [go]; simp only [fstep, h0, h1, if_true, if_false]; rfl
    by_cases ht : 0 ≤ torn ∧ torn < 256
    · refine ⟨B.take torn.toNat ++ A.drop torn.toNat, Z, torn.toNat, 0, ?_, by omega, Nat.zero_le _, rfl, z0⟩
      simp only [drFall, e]
      rw [if_pos (by omega)]
      rfl
    · refine ⟨B, Z, 256, 0, ?_, Nat.le_refl _, Nat.zero_le _, bA, z0⟩
      simp only [drFall, e]
      rw [if_neg (by omega)]
  · have e : fgo keep [A, A, Z] [(1, B), (2, B)] = ⟨[A, A, B], 1, Z⟩ := by rw [go]; simp only [fstep, h0, h1, if_true, if_false]; rfl
    by_cases ht : 0 ≤ torn ∧ torn < 256
    · refine ⟨A, B.take torn.toNat ++ Z.drop torn.toNat, 0, torn.toNat, ?_, Nat.zero_le _, by omega, a0, rfl⟩
      simp only [drFall, e]
      rw [if_pos (by omega)]
      rfl
    · refine ⟨A, B, 0, 256, ?_, Nat.zero_le _, Nat.le_refl _, a0, bZ⟩
      simp only [drFall, e]
      rw [if_neg (by omega)]
  · have e : fgo keep [A, A, Z] [(1, B), (2, B)] = ⟨[A, A, Z], -1, zeros 256⟩ := by rw [go]; simp only [fstep, h0, h1, if_false]
    refine ⟨A, Z, 0, 0, ?_, Nat.zero_le _, Nat.zero_le _, a0, z0⟩
    simp only [drFall, e]
    rw [if_neg (by omega)]

set_option maxRecDepth 4000 in
set_option maxHeartbeats 1000000 in
theorem safe_c (w : World) (vp vq vk : Value) (p q : List UInt8) (keep : List Bool) (torn : Int) (h1 : BS w (old w) vp p) (h2 : BS w (old w) vq q) (h3 : Sl w (old w) vk 1 keep.length (encBools keep)) :
    Calls Try.prog 3 [vp, vq, vk, .int .i64 torn].toArray w (Ret fun r w' => r = .bool true ∧ Kept none0 w w') := by
  refine calls_T Try.func3 rfl rfl rfl ?_
  repeat (first | with_reducible refine T_seq ?_ | with_reducible refine T_region ?_ | with_reducible refine U_nil ?_ | refine U_ar rfl rfl rfl (wrap_i64 (by omega)) rfl ?_ | refine U_pure E rfl rfl ?_ | with_reducible refine T_skip ?_ | with_reducible refine T_block ?_ | with_reducible refine T_inBlock ?_ | refine T_exit rfl ?_ | refine T_condV rfl ?_ | with_reducible refine Cnd_t ?_ | with_reducible refine Cnd_f ?_ | with_reducible refine Cnd_not ?_ | with_reducible refine Cnd_some ?_ | with_reducible refine Cnd_none ?_ | refine U_guard rfl rfl ?_ | with_reducible refine Gd_nt ?_ | with_reducible refine Gd_nf ?_ | with_reducible refine Gd_some ?_ | with_reducible refine Gd_none ?_ | with_reducible refine Gd_want ?_ | ((with_reducible refine Gd_skipT ?_ ?_); exact rfl) | ((with_reducible refine Gd_skipF ?_ ?_); exact rfl))
  refine U_call rfl rfl (Try.call6 _) (awake_c w) ?_
  rintro r w1 ⟨rfl, hk1⟩
  repeat (first | with_reducible refine T_seq ?_ | with_reducible refine T_region ?_ | with_reducible refine U_nil ?_ | refine U_ar rfl rfl rfl (wrap_i64 (by omega)) rfl ?_ | refine U_pure E rfl rfl ?_ | with_reducible refine T_skip ?_ | with_reducible refine T_block ?_ | with_reducible refine T_inBlock ?_ | refine T_exit rfl ?_ | refine T_condV rfl ?_ | with_reducible refine Cnd_t ?_ | with_reducible refine Cnd_f ?_ | with_reducible refine Cnd_not ?_ | with_reducible refine Cnd_some ?_ | with_reducible refine Cnd_none ?_ | refine U_guard rfl rfl ?_ | with_reducible refine Gd_nt ?_ | with_reducible refine Gd_nf ?_ | with_reducible refine Gd_some ?_ | with_reducible refine Gd_none ?_ | with_reducible refine Gd_want ?_ | ((with_reducible refine Gd_skipT ?_ ?_); exact rfl) | ((with_reducible refine Gd_skipF ?_ ?_); exact rfl))
  refine U_call rfl rfl (Try.call7 _) (cut_c w1 _ vp p 256 (h1.mv hk1 (fun _ _ _ x => x)) (by decide)) ?_
  rintro r1 w2 ⟨hk2, hr1⟩
  have hk2' : Kept none0 w w2 := hk1.tr hk2 (fun _ _ x => x)
  repeat (first | with_reducible refine T_seq ?_ | with_reducible refine T_region ?_ | with_reducible refine U_nil ?_ | refine U_ar rfl rfl rfl (wrap_i64 (by omega)) rfl ?_ | refine U_pure E rfl rfl ?_ | with_reducible refine T_skip ?_ | with_reducible refine T_block ?_ | with_reducible refine T_inBlock ?_ | refine T_exit rfl ?_ | refine T_condV rfl ?_ | with_reducible refine Cnd_t ?_ | with_reducible refine Cnd_f ?_ | with_reducible refine Cnd_not ?_ | with_reducible refine Cnd_some ?_ | with_reducible refine Cnd_none ?_ | refine U_guard rfl rfl ?_ | with_reducible refine Gd_nt ?_ | with_reducible refine Gd_nf ?_ | with_reducible refine Gd_some ?_ | with_reducible refine Gd_none ?_ | with_reducible refine Gd_want ?_ | ((with_reducible refine Gd_skipT ?_ ?_); exact rfl) | ((with_reducible refine Gd_skipF ?_ ?_); exact rfl))
  refine U_call rfl rfl (Try.call7 _) (cut_c w2 _ vq q 256 (h2.mv hk2' (fun _ _ _ x => x)) (by decide)) ?_
  rintro r2 w3 ⟨hk3, hr2⟩
  have hk3' : Kept none0 w w3 := hk2'.tr hk3 (fun _ _ x => x)
  obtain ⟨P, hP⟩ : ∃ P, p.take (Int.toNat 256) = P := ⟨_, rfl⟩
  obtain ⟨Q, hQ⟩ : ∃ Q, q.take (Int.toNat 256) = Q := ⟨_, rfl⟩
  have lP : P.length ≤ 256 := by rw [← hP, List.length_take]; omega
  have lQ : Q.length ≤ 256 := by rw [← hQ, List.length_take]; omega
  rw [hP] at hr1
  rw [hQ] at hr2
  have hp3 : BS w3 (old w3) r1 P := ((hr1.mv hk3 (fun _ _ _ x => x)).sl (by omega)).mono (fun b hb _ => hb)
  have hq3 : BS w3 (old w3) r2 Q := (hr2.sl (by omega)).mono (fun b hb _ => hb)
  repeat (first | with_reducible refine T_seq ?_ | with_reducible refine T_region ?_ | with_reducible refine U_nil ?_ | refine U_ar rfl rfl rfl (wrap_i64 (by omega)) rfl ?_ | refine U_pure E rfl rfl ?_ | with_reducible refine T_skip ?_ | with_reducible refine T_block ?_ | with_reducible refine T_inBlock ?_ | refine T_exit rfl ?_ | refine T_condV rfl ?_ | with_reducible refine Cnd_t ?_ | with_reducible refine Cnd_f ?_ | with_reducible refine Cnd_not ?_ | with_reducible refine Cnd_some ?_ | with_reducible refine Cnd_none ?_ | refine U_guard rfl rfl ?_ | with_reducible refine Gd_nt ?_ | with_reducible refine Gd_nf ?_ | with_reducible refine Gd_some ?_ | with_reducible refine Gd_none ?_ | with_reducible refine Gd_want ?_ | ((with_reducible refine Gd_skipT ?_ ?_); exact rfl) | ((with_reducible refine Gd_skipF ?_ ?_); exact rfl))
  refine U_call rfl rfl (Try.call8 _) (new_c w3 3 (by decide)) ?_
  rintro r w4 ⟨hk4, hb, rfl, hD4⟩
  have hD4 : IsD w4 (fresh w3) hb ⟨[zeros 256, zeros 256, zeros 256], [], -1⟩ := hD4
  have s4 := hk4.size
  (try unfold ptr at *)
  repeat (first | with_reducible refine T_seq ?_ | with_reducible refine T_region ?_ | with_reducible refine U_nil ?_ | refine U_ar rfl rfl rfl (wrap_i64 (by omega)) rfl ?_ | refine U_pure E rfl rfl ?_ | with_reducible refine T_skip ?_ | with_reducible refine T_block ?_ | with_reducible refine T_inBlock ?_ | refine T_exit rfl ?_ | refine T_condV rfl ?_ | with_reducible refine Cnd_t ?_ | with_reducible refine Cnd_f ?_ | with_reducible refine Cnd_not ?_ | with_reducible refine Cnd_some ?_ | with_reducible refine Cnd_none ?_ | refine U_guard rfl rfl ?_ | with_reducible refine Gd_nt ?_ | with_reducible refine Gd_nf ?_ | with_reducible refine Gd_some ?_ | with_reducible refine Gd_none ?_ | with_reducible refine Gd_want ?_ | ((with_reducible refine Gd_skipT ?_ ?_); exact rfl) | ((with_reducible refine Gd_skipF ?_ ?_); exact rfl))
  have hw5 := wr_c w3 w4 hb _ _ r1 P 0 0 rfl s4 hD4 (hp3.mv hk4 (fun _ _ _ x => x)) (by simp) lP (by simp)
  (try unfold ptr at *)
  refine U_call rfl rfl (Try.call9 _) (hw5) ?_
  rintro r w5 ⟨rfl, hk5, hD5⟩
  have hk35 : Kept (fresh w3) w3 w5 := (hk4.mono (fun _ _ x => x.elim)).tr hk5 (fun _ _ x => x)
  have hp5 := hp3.mv hk35 (old_fresh (Nat.le_refl _))
  unfold errV
  repeat (first | with_reducible refine T_seq ?_ | with_reducible refine T_region ?_ | with_reducible refine U_nil ?_ | refine U_ar rfl rfl rfl (wrap_i64 (by omega)) rfl ?_ | refine U_pure E rfl rfl ?_ | with_reducible refine T_skip ?_ | with_reducible refine T_block ?_ | with_reducible refine T_inBlock ?_ | refine T_exit rfl ?_ | refine T_condV rfl ?_ | with_reducible refine Cnd_t ?_ | with_reducible refine Cnd_f ?_ | with_reducible refine Cnd_not ?_ | with_reducible refine Cnd_some ?_ | with_reducible refine Cnd_none ?_ | refine U_guard rfl rfl ?_ | with_reducible refine Gd_nt ?_ | with_reducible refine Gd_nf ?_ | with_reducible refine Gd_some ?_ | with_reducible refine Gd_none ?_ | with_reducible refine Gd_want ?_ | ((with_reducible refine Gd_skipT ?_ ?_); exact rfl) | ((with_reducible refine Gd_skipF ?_ ?_); exact rfl))
  have hw6 := wr_c w3 w5 hb _ _ r1 P 1 1 rfl hk35.size hD5 hp5 (by simp) lP (by simp)
  (try unfold ptr at *)
  refine U_call rfl rfl (Try.call9 _) (hw6) ?_
  rintro r w6 ⟨rfl, hk6, hD6⟩
  have hk36 : Kept (fresh w3) w3 w6 := hk35.tr hk6 (fun _ _ x => x)
  unfold errV
  repeat (first | with_reducible refine T_seq ?_ | with_reducible refine T_region ?_ | with_reducible refine U_nil ?_ | refine U_ar rfl rfl rfl (wrap_i64 (by omega)) rfl ?_ | refine U_pure E rfl rfl ?_ | with_reducible refine T_skip ?_ | with_reducible refine T_block ?_ | with_reducible refine T_inBlock ?_ | refine T_exit rfl ?_ | refine T_condV rfl ?_ | with_reducible refine Cnd_t ?_ | with_reducible refine Cnd_f ?_ | with_reducible refine Cnd_not ?_ | with_reducible refine Cnd_some ?_ | with_reducible refine Cnd_none ?_ | refine U_guard rfl rfl ?_ | with_reducible refine Gd_nt ?_ | with_reducible refine Gd_nf ?_ | with_reducible refine Gd_some ?_ | with_reducible refine Gd_none ?_ | with_reducible refine Gd_want ?_ | ((with_reducible refine Gd_skipT ?_ ?_); exact rfl) | ((with_reducible refine Gd_skipF ?_ ?_); exact rfl))
  have hf7 := flush_ok w6 (fresh w3) hb _ hD6 (by simp)
  (try unfold ptr at *)
  refine U_call rfl rfl (Try.call10 _) (hf7) ?_
  rintro r w7 ⟨rfl, hk7, hD7⟩
  have hk37 : Kept (fresh w3) w3 w7 := hk36.tr hk7 (fun _ _ x => x)
  have hD7 : IsD w7 (fresh w3) hb ⟨[sec P, sec P, zeros 256], [], -1⟩ := hD7
  have hq7 := hq3.mv hk37 (old_fresh (Nat.le_refl _))
  unfold errV
  repeat (first | with_reducible refine T_seq ?_ | with_reducible refine T_region ?_ | with_reducible refine U_nil ?_ | refine U_ar rfl rfl rfl (wrap_i64 (by omega)) rfl ?_ | refine U_pure E rfl rfl ?_ | with_reducible refine T_skip ?_ | with_reducible refine T_block ?_ | with_reducible refine T_inBlock ?_ | refine T_exit rfl ?_ | refine T_condV rfl ?_ | with_reducible refine Cnd_t ?_ | with_reducible refine Cnd_f ?_ | with_reducible refine Cnd_not ?_ | with_reducible refine Cnd_some ?_ | with_reducible refine Cnd_none ?_ | refine U_guard rfl rfl ?_ | with_reducible refine Gd_nt ?_ | with_reducible refine Gd_nf ?_ | with_reducible refine Gd_some ?_ | with_reducible refine Gd_none ?_ | with_reducible refine Gd_want ?_ | ((with_reducible refine Gd_skipT ?_ ?_); exact rfl) | ((with_reducible refine Gd_skipF ?_ ?_); exact rfl))
  have hw8 := wr_c w3 w7 hb _ _ r2 Q 1 1 rfl hk37.size hD7 hq7 (by simp) lQ (by simp)
  (try unfold ptr at *)
  refine U_call rfl rfl (Try.call9 _) (hw8) ?_
  rintro r w8 ⟨rfl, hk8, hD8⟩
  have hk38 : Kept (fresh w3) w3 w8 := hk37.tr hk8 (fun _ _ x => x)
  have hq8 := hq3.mv hk38 (old_fresh (Nat.le_refl _))
  unfold errV
  repeat (first | with_reducible refine T_seq ?_ | with_reducible refine T_region ?_ | with_reducible refine U_nil ?_ | refine U_ar rfl rfl rfl (wrap_i64 (by omega)) rfl ?_ | refine U_pure E rfl rfl ?_ | with_reducible refine T_skip ?_ | with_reducible refine T_block ?_ | with_reducible refine T_inBlock ?_ | refine T_exit rfl ?_ | refine T_condV rfl ?_ | with_reducible refine Cnd_t ?_ | with_reducible refine Cnd_f ?_ | with_reducible refine Cnd_not ?_ | with_reducible refine Cnd_some ?_ | with_reducible refine Cnd_none ?_ | refine U_guard rfl rfl ?_ | with_reducible refine Gd_nt ?_ | with_reducible refine Gd_nf ?_ | with_reducible refine Gd_some ?_ | with_reducible refine Gd_none ?_ | with_reducible refine Gd_want ?_ | ((with_reducible refine Gd_skipT ?_ ?_); exact rfl) | ((with_reducible refine Gd_skipF ?_ ?_); exact rfl))
  have hw9 := wr_c w3 w8 hb _ _ r2 Q 2 2 rfl hk38.size hD8 hq8 (by simp) lQ (by simp)
  (try unfold ptr at *)
  refine U_call rfl rfl (Try.call9 _) (hw9) ?_
  rintro r w9 ⟨rfl, hk9, hD9⟩
  have hk39 : Kept (fresh w3) w3 w9 := hk38.tr hk9 (fun _ _ x => x)
  have hk9' : Kept none0 w w9 := hk3'.tr hk39 (fun j hj (e : w3.heap.size ≤ j) => by have := hk3'.size; omega)
  have hD9 : IsD w9 (fresh w3) hb ⟨[sec P, sec P, zeros 256], [(1, sec Q), (2, sec Q)], -1⟩ := hD9
  unfold errV
  repeat (first | with_reducible refine T_seq ?_ | with_reducible refine T_region ?_ | with_reducible refine U_nil ?_ | refine U_ar rfl rfl rfl (wrap_i64 (by omega)) rfl ?_ | refine U_pure E rfl rfl ?_ | with_reducible refine T_skip ?_ | with_reducible refine T_block ?_ | with_reducible refine T_inBlock ?_ | refine T_exit rfl ?_ | refine T_condV rfl ?_ | with_reducible refine Cnd_t ?_ | with_reducible refine Cnd_f ?_ | with_reducible refine Cnd_not ?_ | with_reducible refine Cnd_some ?_ | with_reducible refine Cnd_none ?_ | refine U_guard rfl rfl ?_ | with_reducible refine Gd_nt ?_ | with_reducible refine Gd_nf ?_ | with_reducible refine Gd_some ?_ | with_reducible refine Gd_none ?_ | with_reducible refine Gd_want ?_ | ((with_reducible refine Gd_skipT ?_ ?_); exact rfl) | ((with_reducible refine Gd_skipF ?_ ?_); exact rfl))
  have hfl := fall_c w9 (fresh w3) hb _ _ vk keep torn hD9 (h3.mv hk9' (fun _ _ _ x => x))
  obtain ⟨b, c, k1, k2, hfe, lk1, lk2, eb, ec⟩ := fall_safe (sec P) (sec Q) (zeros 256) (sec_len P) (sec_len Q) rfl keep torn
  rw [hfe] at hfl
  (try unfold ptr at *)
  refine U_call rfl rfl (Try.call11 _) (hfl) ?_
  rintro r w10 ⟨hk10, hx, rfl, hX10⟩
  (try unfold ptr at *)
  repeat (first | with_reducible refine T_seq ?_ | with_reducible refine T_region ?_ | with_reducible refine U_nil ?_ | refine U_ar rfl rfl rfl (wrap_i64 (by omega)) rfl ?_ | refine U_pure E rfl rfl ?_ | with_reducible refine T_skip ?_ | with_reducible refine T_block ?_ | with_reducible refine T_inBlock ?_ | refine T_exit rfl ?_ | refine T_condV rfl ?_ | with_reducible refine Cnd_t ?_ | with_reducible refine Cnd_f ?_ | with_reducible refine Cnd_not ?_ | with_reducible refine Cnd_some ?_ | with_reducible refine Cnd_none ?_ | refine U_guard rfl rfl ?_ | with_reducible refine Gd_nt ?_ | with_reducible refine Gd_nf ?_ | with_reducible refine Gd_some ?_ | with_reducible refine Gd_none ?_ | with_reducible refine Gd_want ?_ | ((with_reducible refine Gd_skipT ?_ ?_); exact rfl) | ((with_reducible refine Gd_skipF ?_ ?_); exact rfl))
  have hra := read_c w10 _ hx _ 0 hX10 (by simp)
  (try unfold ptr at *)
  refine U_call rfl rfl (Try.call12 _) (hra) ?_
  rintro r w11 ⟨ba, rfl, _, hba, hk11⟩
  have hX11 := hX10.mv hk11 (fun _ _ _ x => x)
  repeat (first | with_reducible refine T_seq ?_ | with_reducible refine T_region ?_ | with_reducible refine U_nil ?_ | refine U_ar rfl rfl rfl (wrap_i64 (by omega)) rfl ?_ | refine U_pure E rfl rfl ?_ | with_reducible refine T_skip ?_ | with_reducible refine T_block ?_ | with_reducible refine T_inBlock ?_ | refine T_exit rfl ?_ | refine T_condV rfl ?_ | with_reducible refine Cnd_t ?_ | with_reducible refine Cnd_f ?_ | with_reducible refine Cnd_not ?_ | with_reducible refine Cnd_some ?_ | with_reducible refine Cnd_none ?_ | refine U_guard rfl rfl ?_ | with_reducible refine Gd_nt ?_ | with_reducible refine Gd_nf ?_ | with_reducible refine Gd_some ?_ | with_reducible refine Gd_none ?_ | with_reducible refine Gd_want ?_ | ((with_reducible refine Gd_skipT ?_ ?_); exact rfl) | ((with_reducible refine Gd_skipF ?_ ?_); exact rfl))
  have hrb := read_c w11 _ hx _ 1 hX11 (by simp)
  (try unfold ptr at *)
  refine U_call rfl rfl (Try.call12 _) (hrb) ?_
  rintro r w12 ⟨bb, rfl, _, hbb, hk12⟩
  have hX12 := hX11.mv hk12 (fun _ _ _ x => x)
  repeat (first | with_reducible refine T_seq ?_ | with_reducible refine T_region ?_ | with_reducible refine U_nil ?_ | refine U_ar rfl rfl rfl (wrap_i64 (by omega)) rfl ?_ | refine U_pure E rfl rfl ?_ | with_reducible refine T_skip ?_ | with_reducible refine T_block ?_ | with_reducible refine T_inBlock ?_ | refine T_exit rfl ?_ | refine T_condV rfl ?_ | with_reducible refine Cnd_t ?_ | with_reducible refine Cnd_f ?_ | with_reducible refine Cnd_not ?_ | with_reducible refine Cnd_some ?_ | with_reducible refine Cnd_none ?_ | refine U_guard rfl rfl ?_ | with_reducible refine Gd_nt ?_ | with_reducible refine Gd_nf ?_ | with_reducible refine Gd_some ?_ | with_reducible refine Gd_none ?_ | with_reducible refine Gd_want ?_ | ((with_reducible refine Gd_skipT ?_ ?_); exact rfl) | ((with_reducible refine Gd_skipF ?_ ?_); exact rfl))
  have hrc := read_c w12 _ hx _ 2 hX12 (by simp)
  (try unfold ptr at *)
  refine U_call rfl rfl (Try.call12 _) (hrc) ?_
  rintro r w13 ⟨bc, rfl, _, hbc, hk13⟩
  have hX13 := hX12.mv hk13 (fun _ _ _ x => x)
  have hk911 : Kept none0 w9 w11 := hk10.tr hk11 (fun _ _ x => x)
  have hk913 : Kept none0 w9 w13 := (hk911.tr hk12 (fun _ _ x => x)).tr hk13 (fun _ _ x => x)
  have hk13' : Kept none0 w w13 := hk9'.tr hk913 (fun _ _ x => x)
  have hD13 := hD9.mv hk913 (fun _ _ _ x => x)
  have hp13 : BS w13 (old w3) r1 P := (hp3.mv hk39 (old_fresh (Nat.le_refl _))).mv hk913 (fun _ _ _ x => x)
  have hq13 : BS w13 (old w3) r2 Q := (hq3.mv hk39 (old_fresh (Nat.le_refl _))).mv hk913 (fun _ _ _ x => x)
  have hba13 : Blk w13 ba (encBs (sec P)) 55 := (hba.mv hk12 (fun x => x)).mv hk13 (fun x => x)
  have hbb13 : Blk w13 bb (encBs b) 55 := hbb.mv hk13 (fun x => x)
  have hbc13 : Blk w13 bc (encBs c) 55 := hbc
  repeat (first | with_reducible refine T_seq ?_ | with_reducible refine T_region ?_ | with_reducible refine U_nil ?_ | refine U_ar rfl rfl rfl (wrap_i64 (by omega)) rfl ?_ | refine U_pure E rfl rfl ?_ | with_reducible refine T_skip ?_ | with_reducible refine T_block ?_ | with_reducible refine T_inBlock ?_ | refine T_exit rfl ?_ | refine T_condV rfl ?_ | with_reducible refine Cnd_t ?_ | with_reducible refine Cnd_f ?_ | with_reducible refine Cnd_not ?_ | with_reducible refine Cnd_some ?_ | with_reducible refine Cnd_none ?_ | refine U_guard rfl rfl ?_ | with_reducible refine Gd_nt ?_ | with_reducible refine Gd_nf ?_ | with_reducible refine Gd_some ?_ | with_reducible refine Gd_none ?_ | with_reducible refine Gd_want ?_ | ((with_reducible refine Gd_skipT ?_ ?_); exact rfl) | ((with_reducible refine Gd_skipF ?_ ?_); exact rfl))
  refine T_via (α := Nat × Nat × Nat) (fun x => [(9, .pointer (some ⟨hb, 0, none⟩)), (11, .pointer (some ⟨hx, 0, none⟩)), (12, .slice (some ⟨ba, 0, none⟩) 256 256), (14, .slice (some ⟨bb, 0, none⟩) 256 256), (16, .slice (some ⟨bc, 0, none⟩) 256 256), (18, .slice (some ⟨x.1, 0, none⟩) 256 256), (19, .slice (some ⟨x.2.1, 0, none⟩) 256 256), (20, .slice (some ⟨x.2.2, 0, none⟩) 256 256)])
    (fun x w' => Kept none0 w13 w' ∧ Blk w' x.1 (encBs (sec P)) 5 ∧ Blk w' x.2.1 (encBs (sec Q)) 5 ∧ Blk w' x.2.2 (encBs (zeros 256)) 5) ?fin ?go
  case go =>
    intro fin
    refine L_begin (fun _ => True) 8 (by kernel_rfl) (N := 8) rfl (fun w14 hd14 => ?_)
    have hk14 := hd14.kept none0
    refine L_take 0 rfl (by kernel_rfl) (by kernel_rfl) (by kernel_rfl) (by kernel_rfl) trivial rfl rfl rfl (fun a ha w' _ => run_pv E ha rfl _ _ _ _ _) ?_
    refine L_take 2 rfl (by kernel_rfl) (by kernel_rfl) (by kernel_rfl) (by kernel_rfl) trivial rfl rfl rfl (fun a ha w' _ => run_pv E ha rfl _ _ _ _ _) ?_
    refine L_op2 1 4 (by kernel_rfl) rfl rfl (fun hc => ?_) (fun hc => ?_)
    · refine U_call rfl rfl (Try.call13 _) (full_c w14 _ r1 P (hp13.mv hk14 (fun _ _ _ x => x))) ?_
      rintro r w15 ⟨hk15, b1, _, rfl, hb1⟩
      have hkA : Kept none0 w13 w15 := hk14.tr hk15 (fun _ _ x => x)
      refine U_nilL hc (fun _ => trivial) ?_
      refine L_op2 3 4 (by kernel_rfl) rfl rfl (fun hc => ?_) (fun hc => ?_)
      · refine U_call rfl rfl (Try.call13 _) (full_c w15 _ r2 Q (hq13.mv hkA (fun _ _ _ x => x))) ?_
        rintro r w16 ⟨hk16, b2, _, rfl, hb2⟩
        refine U_nilL hc (fun _ => trivial) ?_
        refine L_take 5 rfl (by kernel_rfl) (by kernel_rfl) (by kernel_rfl) (by kernel_rfl) trivial rfl rfl rfl (fun a ha w' _ => run_pv E ha rfl _ _ _ _ _) ?_
        refine L_take 6 rfl (by kernel_rfl) (by kernel_rfl) (by kernel_rfl) (by kernel_rfl) trivial rfl rfl rfl (fun a ha w' _ => run_pv E ha rfl _ _ _ _ _) ?_
        refine L_op 4 (by kernel_rfl) rfl (fun hc => ?_)
        refine U_make E rfl rfl (zs := [.int .u8 0]) rfl (N := 256) rfl rfl (by decide) (by decide) rfl rfl rfl ?_
        intro b3 w17 hn
        refine U_nilL hc (fun _ => trivial) ?_
        refine L_take 7 rfl (by kernel_rfl) (by kernel_rfl) (by kernel_rfl) (by kernel_rfl) trivial rfl rfl rfl (fun a ha w' _ => run_pv E ha rfl _ _ _ _ _) ?_
        refine L_done (by kernel_rfl) (T.less ?_ (fin (b1, b2, b3) _ ⟨(hkA.tr hk16 (fun _ _ x => x)).tr hn.kept (fun _ _ x => x), (hb1.mv hk16 (fun x => x)).mv hn.kept (fun x => x), hb2.mv hn.kept (fun x => x), ?_⟩))
        · exact ⟨rfl, rfl, rfl, rfl, rfl, rfl, rfl, rfl, trivial⟩
        · have := hn.blk
          rw [flat_single, ← encBs_zeros] at this
          exact this
      · refine U_make E rfl rfl (zs := [.int .u8 0]) rfl (N := 256) rfl rfl (by decide) (by decide) rfl rfl rfl ?_
        intro b3 w17 hn
        have hb3 : Blk w17 b3 (encBs (zeros 256)) 5 := by
          have := hn.blk
          rw [flat_single, ← encBs_zeros] at this
          exact this
        refine U_nilL hc (fun _ => trivial) ?_
        refine L_op 3 (by kernel_rfl) rfl (fun hc => ?_)
        refine U_call rfl rfl (Try.call13 _) (full_c w17 _ r2 Q ((hq13.mv hkA (fun _ _ _ x => x)).mv hn.kept (fun _ _ _ x => x))) ?_
        rintro r w16 ⟨hk16, b2, _, rfl, hb2⟩
        refine U_nilL hc (fun _ => trivial) ?_
        refine L_take 5 rfl (by kernel_rfl) (by kernel_rfl) (by kernel_rfl) (by kernel_rfl) trivial rfl rfl rfl (fun a ha w' _ => run_pv E ha rfl _ _ _ _ _) ?_
        refine L_take 6 rfl (by kernel_rfl) (by kernel_rfl) (by kernel_rfl) (by kernel_rfl) trivial rfl rfl rfl (fun a ha w' _ => run_pv E ha rfl _ _ _ _ _) ?_
        refine L_take 7 rfl (by kernel_rfl) (by kernel_rfl) (by kernel_rfl) (by kernel_rfl) trivial rfl rfl rfl (fun a ha w' _ => run_pv E ha rfl _ _ _ _ _) ?_
        refine L_done (by kernel_rfl) (T.less ?_ (fin (b1, b2, b3) _ ⟨(hkA.tr hn.kept (fun _ _ x => x)).tr hk16 (fun _ _ x => x), (hb1.mv hn.kept (fun x => x)).mv hk16 (fun x => x), hb2, hb3.mv hk16 (fun x => x)⟩))
        exact ⟨rfl, rfl, rfl, rfl, rfl, rfl, rfl, rfl, trivial⟩
    · refine U_make E rfl rfl (zs := [.int .u8 0]) rfl (N := 256) rfl rfl (by decide) (by decide) rfl rfl rfl ?_
      intro b3 w17 hn
      have hb3 : Blk w17 b3 (encBs (zeros 256)) 5 := by
        have := hn.blk
        rw [flat_single, ← encBs_zeros] at this
        exact this
      have hkA : Kept none0 w13 w17 := hk14.tr hn.kept (fun _ _ x => x)
      refine U_nilL hc (fun _ => trivial) ?_
      refine L_op 1 (by kernel_rfl) rfl (fun hc => ?_)
      refine U_call rfl rfl (Try.call13 _) (full_c w17 _ r1 P (hp13.mv hkA (fun _ _ _ x => x))) ?_
      rintro r w15 ⟨hk15, b1, _, rfl, hb1⟩
      have hkB : Kept none0 w13 w15 := hkA.tr hk15 (fun _ _ x => x)
      refine U_nilL hc (fun _ => trivial) ?_
      refine L_op 3 (by kernel_rfl) rfl (fun hc => ?_)
      refine U_call rfl rfl (Try.call13 _) (full_c w15 _ r2 Q (hq13.mv hkB (fun _ _ _ x => x))) ?_
      rintro r w16 ⟨hk16, b2, _, rfl, hb2⟩
      refine U_nilL hc (fun _ => trivial) ?_
      refine L_take 5 rfl (by kernel_rfl) (by kernel_rfl) (by kernel_rfl) (by kernel_rfl) trivial rfl rfl rfl (fun a ha w' _ => run_pv E ha rfl _ _ _ _ _) ?_
      refine L_take 6 rfl (by kernel_rfl) (by kernel_rfl) (by kernel_rfl) (by kernel_rfl) trivial rfl rfl rfl (fun a ha w' _ => run_pv E ha rfl _ _ _ _ _) ?_
      refine L_take 7 rfl (by kernel_rfl) (by kernel_rfl) (by kernel_rfl) (by kernel_rfl) trivial rfl rfl rfl (fun a ha w' _ => run_pv E ha rfl _ _ _ _ _) ?_
      refine L_done (by kernel_rfl) (T.less ?_ (fin (b1, b2, b3) _ ⟨hkB.tr hk16 (fun _ _ x => x), hb1.mv hk16 (fun x => x), hb2, (hb3.mv hk15 (fun x => x)).mv hk16 (fun x => x)⟩))
      exact ⟨rfl, rfl, rfl, rfl, rfl, rfl, rfl, rfl, trivial⟩
  case fin =>
    rintro ⟨b1, b2, b3⟩ w14 ⟨hk14, hb1, hb2, hb3⟩
    dsimp only at hb1 hb2 hb3 ⊢
    have lb : b.length = 256 := by rw [eb, List.length_append, List.length_take, List.length_drop, sec_len, sec_len]; omega
    have lc : c.length = 256 := by rw [ec, List.length_append, List.length_take, List.length_drop, sec_len, zeros_len]; omega
    have sa : BS w14 (fun _ => True) (.slice (some ⟨ba, 0, none⟩) 256 256) (sec P) := blk_bs (hba13.mv hk14 (fun x => x)) (sec_len P) trivial
    have sb : BS w14 (fun _ => True) (.slice (some ⟨bb, 0, none⟩) 256 256) b := blk_bs (hbb13.mv hk14 (fun x => x)) lb trivial
    have sc : BS w14 (fun _ => True) (.slice (some ⟨bc, 0, none⟩) 256 256) c := blk_bs (hbc13.mv hk14 (fun x => x)) lc trivial
    have s1 : BS w14 (fun _ => True) (.slice (some ⟨b1, 0, none⟩) 256 256) (sec P) := blk_bs hb1 (sec_len P) trivial
    have s2 : BS w14 (fun _ => True) (.slice (some ⟨b2, 0, none⟩) 256 256) (sec Q) := blk_bs hb2 (sec_len Q) trivial
    have s3 : BS w14 (fun _ => True) (.slice (some ⟨b3, 0, none⟩) 256 256) (zeros 256) := blk_bs hb3 (zeros_len 256) trivial
    have hX14 := hX13.mv hk14 (fun _ _ _ x => x)
    have hD14 := hD13.mv hk14 (fun _ _ _ x => x)
    repeat (first | with_reducible refine T_seq ?_ | with_reducible refine T_region ?_ | with_reducible refine U_nil ?_ | refine U_ar rfl rfl rfl (wrap_i64 (by omega)) rfl ?_ | refine U_pure E rfl rfl ?_ | with_reducible refine T_skip ?_ | with_reducible refine T_block ?_ | with_reducible refine T_inBlock ?_ | refine T_exit rfl ?_ | refine T_condV rfl ?_ | with_reducible refine Cnd_t ?_ | with_reducible refine Cnd_f ?_ | with_reducible refine Cnd_not ?_ | with_reducible refine Cnd_some ?_ | with_reducible refine Cnd_none ?_ | refine U_guard rfl rfl ?_ | with_reducible refine Gd_nt ?_ | with_reducible refine Gd_nf ?_ | with_reducible refine Gd_some ?_ | with_reducible refine Gd_none ?_ | with_reducible refine Gd_want ?_ | ((with_reducible refine Gd_skipT ?_ ?_); exact rfl) | ((with_reducible refine Gd_skipF ?_ ?_); exact rfl))
    refine U_call rfl rfl (Try.call14 _) (ret_of (same_c w14 _ _ _ _ _ _ sa s1)) ?_
    rintro r w15 ⟨rfl, hd15⟩
    have hk15 := hd15.kept none0
    repeat (first | with_reducible refine T_seq ?_ | with_reducible refine T_region ?_ | with_reducible refine U_nil ?_ | refine U_ar rfl rfl rfl (wrap_i64 (by omega)) rfl ?_ | refine U_pure E rfl rfl ?_ | with_reducible refine T_skip ?_ | with_reducible refine T_block ?_ | with_reducible refine T_inBlock ?_ | refine T_exit rfl ?_ | refine T_condV rfl ?_ | with_reducible refine Cnd_t ?_ | with_reducible refine Cnd_f ?_ | with_reducible refine Cnd_not ?_ | with_reducible refine Cnd_some ?_ | with_reducible refine Cnd_none ?_ | refine U_guard rfl rfl ?_ | with_reducible refine Gd_nt ?_ | with_reducible refine Gd_nf ?_ | with_reducible refine Gd_some ?_ | with_reducible refine Gd_none ?_ | with_reducible refine Gd_want ?_ | ((with_reducible refine Gd_skipT ?_ ?_); exact rfl) | ((with_reducible refine Gd_skipF ?_ ?_); exact rfl))
    refine Gd_p (fun g1 => ?_) (fun g1 => ?_)
    · repeat (first | with_reducible refine T_seq ?_ | with_reducible refine T_region ?_ | with_reducible refine U_nil ?_ | refine U_ar rfl rfl rfl (wrap_i64 (by omega)) rfl ?_ | refine U_pure E rfl rfl ?_ | with_reducible refine T_skip ?_ | with_reducible refine T_block ?_ | with_reducible refine T_inBlock ?_ | refine T_exit rfl ?_ | refine T_condV rfl ?_ | with_reducible refine Cnd_t ?_ | with_reducible refine Cnd_f ?_ | with_reducible refine Cnd_not ?_ | with_reducible refine Cnd_some ?_ | with_reducible refine Cnd_none ?_ | refine U_guard rfl rfl ?_ | with_reducible refine Gd_nt ?_ | with_reducible refine Gd_nf ?_ | with_reducible refine Gd_some ?_ | with_reducible refine Gd_none ?_ | with_reducible refine Gd_want ?_ | ((with_reducible refine Gd_skipT ?_ ?_); exact rfl) | ((with_reducible refine Gd_skipF ?_ ?_); exact rfl))
      refine U_call rfl rfl (Try.call15 _) (half_t w15 _ _ _ _ _ _ _ _ _ (sb.mv hk15 (fun _ _ _ x => x)) (s1.mv hk15 (fun _ _ _ x => x)) (s2.mv hk15 (fun _ _ _ x => x)) (sec_len P) (sec_len Q) k1 lk1 eb) ?_
      rintro r w16 ⟨rfl, hk16⟩
      have hk16' : Kept none0 w14 w16 := hk15.tr hk16 (fun _ _ x => x)
      repeat (first | with_reducible refine T_seq ?_ | with_reducible refine T_region ?_ | with_reducible refine U_nil ?_ | refine U_ar rfl rfl rfl (wrap_i64 (by omega)) rfl ?_ | refine U_pure E rfl rfl ?_ | with_reducible refine T_skip ?_ | with_reducible refine T_block ?_ | with_reducible refine T_inBlock ?_ | refine T_exit rfl ?_ | refine T_condV rfl ?_ | with_reducible refine Cnd_t ?_ | with_reducible refine Cnd_f ?_ | with_reducible refine Cnd_not ?_ | with_reducible refine Cnd_some ?_ | with_reducible refine Cnd_none ?_ | refine U_guard rfl rfl ?_ | with_reducible refine Gd_nt ?_ | with_reducible refine Gd_nf ?_ | with_reducible refine Gd_some ?_ | with_reducible refine Gd_none ?_ | with_reducible refine Gd_want ?_ | ((with_reducible refine Gd_skipT ?_ ?_); exact rfl) | ((with_reducible refine Gd_skipF ?_ ?_); exact rfl))
      refine U_call rfl rfl (Try.call15 _) (half_t w16 _ _ _ _ _ _ _ _ _ (sc.mv hk16' (fun _ _ _ x => x)) (s3.mv hk16' (fun _ _ _ x => x)) (s2.mv hk16' (fun _ _ _ x => x)) (zeros_len 256) (sec_len Q) k2 lk2 ec) ?_
      rintro r w17 ⟨rfl, hk17⟩
      have hk17' : Kept none0 w14 w17 := hk16'.tr hk17 (fun _ _ x => x)
      have hdx := dirty_c w17 _ hx _ (hX14.mv hk17' (fun _ _ _ x => x))
      have hdd := dirty_c w17 _ hb _ (hD14.mv hk17' (fun _ _ _ x => x))
      (try unfold ptr at *)
      repeat (first | with_reducible refine T_seq ?_ | with_reducible refine T_region ?_ | with_reducible refine U_nil ?_ | refine U_ar rfl rfl rfl (wrap_i64 (by omega)) rfl ?_ | refine U_pure E rfl rfl ?_ | with_reducible refine T_skip ?_ | with_reducible refine T_block ?_ | with_reducible refine T_inBlock ?_ | refine T_exit rfl ?_ | refine T_condV rfl ?_ | with_reducible refine Cnd_t ?_ | with_reducible refine Cnd_f ?_ | with_reducible refine Cnd_not ?_ | with_reducible refine Cnd_some ?_ | with_reducible refine Cnd_none ?_ | refine U_guard rfl rfl ?_ | with_reducible refine Gd_nt ?_ | with_reducible refine Gd_nf ?_ | with_reducible refine Gd_some ?_ | with_reducible refine Gd_none ?_ | with_reducible refine Gd_want ?_ | ((with_reducible refine Gd_skipT ?_ ?_); exact rfl) | ((with_reducible refine Gd_skipF ?_ ?_); exact rfl))
      refine U_call rfl rfl (Try.call16 _) (ret_of hdx) ?_
      rintro r w18 ⟨rfl, rfl⟩
      repeat (first | with_reducible refine T_seq ?_ | with_reducible refine T_region ?_ | with_reducible refine U_nil ?_ | refine U_ar rfl rfl rfl (wrap_i64 (by omega)) rfl ?_ | refine U_pure E rfl rfl ?_ | with_reducible refine T_skip ?_ | with_reducible refine T_block ?_ | with_reducible refine T_inBlock ?_ | refine T_exit rfl ?_ | refine T_condV rfl ?_ | with_reducible refine Cnd_t ?_ | with_reducible refine Cnd_f ?_ | with_reducible refine Cnd_not ?_ | with_reducible refine Cnd_some ?_ | with_reducible refine Cnd_none ?_ | refine U_guard rfl rfl ?_ | with_reducible refine Gd_nt ?_ | with_reducible refine Gd_nf ?_ | with_reducible refine Gd_some ?_ | with_reducible refine Gd_none ?_ | with_reducible refine Gd_want ?_ | ((with_reducible refine Gd_skipT ?_ ?_); exact rfl) | ((with_reducible refine Gd_skipF ?_ ?_); exact rfl))
      refine Gd_p (fun g2 => ?_) (fun g2 => ?_)
      · repeat (first | with_reducible refine T_seq ?_ | with_reducible refine T_region ?_ | with_reducible refine U_nil ?_ | refine U_ar rfl rfl rfl (wrap_i64 (by omega)) rfl ?_ | refine U_pure E rfl rfl ?_ | with_reducible refine T_skip ?_ | with_reducible refine T_block ?_ | with_reducible refine T_inBlock ?_ | refine T_exit rfl ?_ | refine T_condV rfl ?_ | with_reducible refine Cnd_t ?_ | with_reducible refine Cnd_f ?_ | with_reducible refine Cnd_not ?_ | with_reducible refine Cnd_some ?_ | with_reducible refine Cnd_none ?_ | refine U_guard rfl rfl ?_ | with_reducible refine Gd_nt ?_ | with_reducible refine Gd_nf ?_ | with_reducible refine Gd_some ?_ | with_reducible refine Gd_none ?_ | with_reducible refine Gd_want ?_ | ((with_reducible refine Gd_skipT ?_ ?_); exact rfl) | ((with_reducible refine Gd_skipF ?_ ?_); exact rfl))
        refine U_call rfl rfl (Try.call16 _) (ret_of hdd) ?_
        rintro r w19 ⟨rfl, rfl⟩
        repeat (first | with_reducible refine T_seq ?_ | with_reducible refine T_region ?_ | with_reducible refine U_nil ?_ | refine U_ar rfl rfl rfl (wrap_i64 (by omega)) rfl ?_ | refine U_pure E rfl rfl ?_ | with_reducible refine T_skip ?_ | with_reducible refine T_block ?_ | with_reducible refine T_inBlock ?_ | refine T_exit rfl ?_ | refine T_condV rfl ?_ | with_reducible refine Cnd_t ?_ | with_reducible refine Cnd_f ?_ | with_reducible refine Cnd_not ?_ | with_reducible refine Cnd_some ?_ | with_reducible refine Cnd_none ?_ | refine U_guard rfl rfl ?_ | with_reducible refine Gd_nt ?_ | with_reducible refine Gd_nf ?_ | with_reducible refine Gd_some ?_ | with_reducible refine Gd_none ?_ | with_reducible refine Gd_want ?_ | ((with_reducible refine Gd_skipT ?_ ?_); exact rfl) | ((with_reducible refine Gd_skipF ?_ ?_); exact rfl))
        exact T_ret1 Try.func3 rfl rfl ⟨_, rfl, rfl, (hk13'.tr hk14 (fun _ _ x => x)).tr hk17' (fun _ _ x => x)⟩
      · exact absurd rfl g2
    · exact absurd rfl g1
end Go.Proofs.Ytoefhdaenaiomaa
