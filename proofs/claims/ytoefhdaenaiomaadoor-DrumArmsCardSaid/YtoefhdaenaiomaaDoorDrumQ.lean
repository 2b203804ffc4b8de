/- DrumArms: the walk. -/
import Derived.Test.YtoefhdaenaiomaaDoorDrumP
import Derived.Test.YtoefhdaenaiomaaDoorDrumL
import Derived.Test.YtoefhdaenaiomaaDoorCodeC
namespace Go.Proofs.YtoefhdaenaiomaaDoor
open Go
set_option maxRecDepth 20000

section
variable {P : Program} {w : World} {m : Fm} {n : Nat} {ty : TypeId} {ps : String} {af : Array Edge}
theorem ro_conv (E : Env P) {s t : TypeId} {x : Operand} {k : IntKind} {z : Int} {d : TypeDesc × Nat} {q : Nat} (hs : E.ty s = some d) (ht : E.ty t = some (.int .i64, q)) (hx : ev m x = some (.int k z)) (hz : -9223372036854775808 ≤ z ∧ z ≤ 9223372036854775807) {dst : Option Tmp} {gd : Option (Nat × Bool)} :
    ∀ a, Fits a n m → (execOp a.eval { dst := dst, op := .convert s t x, type := ty, pos := ps, after := af, guard := gd }).run P w = .ok (.value (.int .i64 z)) w := by
  intro a ha
  have := run_pv (v := .int .i64 (IntKind.i64.wrap z)) E ha (op := .convert s t x) (by simp [pv, hs, ht, hx]) dst ty ps af gd (w := w)
  rw [wrap_i64 hz] at this
  exact this
end

/-- One act of the law: what it answers; what stands then. -/
structure ArmSt (D : Dr) (k i : Nat) : Prop where
  len : D.l.length = 4
  left : D.left = ((k - i : Nat) : Int)
  wn : D.wait.length ≤ i

set_option maxHeartbeats 2000000 in
theorem arms_c (w : World) (n more : Nat) (vp : Value) (p : List UInt8) (hn : n < 256) (hmore : more < 256) (h1 : BS w (old w) vp p) (hL : Laid w) :
    Calls Tryd.prog 4 [.int .u8 n, .int .u8 more, vp].toArray w (Ret fun r w' => r = .bool true ∧ Kept none0 w w') := by
  refine calls_T Tryd.func4 rfl rfl rfl ?_
  repeat (first | with_reducible refine T_seq ?_ | with_reducible refine T_region ?_ | with_reducible refine U_nil ?_ | refine U_ar rfl rfl rfl (wrap_i64 (by omega)) rfl ?_ | refine U_pure E rfl rfl ?_ | with_reducible refine T_skip ?_ | with_reducible refine T_block ?_ | with_reducible refine T_inBlock ?_ | refine T_exit rfl ?_ | refine T_condV rfl ?_ | with_reducible refine Cnd_t ?_ | with_reducible refine Cnd_f ?_ | with_reducible refine Cnd_not ?_ | with_reducible refine Cnd_some ?_ | with_reducible refine Cnd_none ?_ | refine U_guard rfl rfl ?_ | with_reducible refine Gd_nt ?_ | with_reducible refine Gd_nf ?_ | with_reducible refine Gd_some ?_ | with_reducible refine Gd_none ?_ | with_reducible refine Gd_want ?_ | ((with_reducible refine Gd_skipT ?_ ?_); exact rfl) | ((with_reducible refine Gd_skipF ?_ ?_); exact rfl))
  refine U_call rfl rfl (Tryd.call23 _) (awake_c w) ?_
  rintro r w1 ⟨rfl, hk1⟩
  repeat (first | with_reducible refine T_seq ?_ | with_reducible refine T_region ?_ | with_reducible refine U_nil ?_ | refine U_ar rfl rfl rfl (wrap_i64 (by omega)) rfl ?_ | refine U_pure E rfl rfl ?_ | with_reducible refine T_skip ?_ | with_reducible refine T_block ?_ | with_reducible refine T_inBlock ?_ | refine T_exit rfl ?_ | refine T_condV rfl ?_ | with_reducible refine Cnd_t ?_ | with_reducible refine Cnd_f ?_ | with_reducible refine Cnd_not ?_ | with_reducible refine Cnd_some ?_ | with_reducible refine Cnd_none ?_ | refine U_guard rfl rfl ?_ | with_reducible refine Gd_nt ?_ | with_reducible refine Gd_nf ?_ | with_reducible refine Gd_some ?_ | with_reducible refine Gd_none ?_ | with_reducible refine Gd_want ?_ | ((with_reducible refine Gd_skipT ?_ ?_); exact rfl) | ((with_reducible refine Gd_skipF ?_ ?_); exact rfl))
  refine U_call rfl rfl (Tryd.call24 _) (new_c w1 4 (by decide)) ?_
  rintro r w2 ⟨hk2, hb, rfl, hD2⟩
  have hD2 : IsD w2 (fresh w1) hb ⟨[zeros 256, zeros 256, zeros 256, zeros 256], [], -1⟩ := hD2
  have hD2 := hD2.tight
  have hk2' : Kept none0 w w2 := hk1.tr hk2 (fun _ _ x => x)
  unfold ptr at *
  repeat (first | with_reducible refine T_seq ?_ | with_reducible refine T_region ?_ | with_reducible refine U_nil ?_ | refine U_ar rfl rfl rfl (wrap_i64 (by omega)) rfl ?_ | refine U_pure E rfl rfl ?_ | with_reducible refine T_skip ?_ | with_reducible refine T_block ?_ | with_reducible refine T_inBlock ?_ | refine T_exit rfl ?_ | refine T_condV rfl ?_ | with_reducible refine Cnd_t ?_ | with_reducible refine Cnd_f ?_ | with_reducible refine Cnd_not ?_ | with_reducible refine Cnd_some ?_ | with_reducible refine Cnd_none ?_ | refine U_guard rfl rfl ?_ | with_reducible refine Gd_nt ?_ | with_reducible refine Gd_nf ?_ | with_reducible refine Gd_some ?_ | with_reducible refine Gd_none ?_ | with_reducible refine Gd_want ?_ | ((with_reducible refine Gd_skipT ?_ ?_); exact rfl) | ((with_reducible refine Gd_skipF ?_ ?_); exact rfl))
  refine U_call rfl rfl (Tryd.call19 _) (cut_c w2 _ vp p 256 (h1.mv hk2' (fun _ _ _ x => x)) (by decide)) ?_
  rintro rp w3 ⟨hk3, hrp⟩
  have hk3' : Kept none0 w w3 := hk2'.tr hk3 (fun _ _ x => x)
  obtain ⟨P, hP⟩ : ∃ P, p.take (Int.toNat 256) = P := ⟨_, rfl⟩
  have lP : P.length ≤ 256 := by rw [← hP, List.length_take]; omega
  rw [hP] at hrp
  have hp3 : BS w3 (fun j => w2.heap.size ≤ j ∧ j < w3.heap.size) rp P := (hrp.sl (by omega)).mono (fun b hb h => ⟨h, hb⟩)
  have s1 := hk1.size
  have s2 := hk2.size
  have s3 := hk3.size
  obtain ⟨F, hF⟩ : ∃ F : Nat → Prop, F = fun j => w1.heap.size ≤ j ∧ ¬ (w2.heap.size ≤ j ∧ j < w3.heap.size) := ⟨_, rfl⟩
  have hD3 : IsD w3 F hb _ := (hD2.mv hk3 (fun _ _ _ x => x)).mono (fun b _ h => by rw [hF]; exact ⟨h.1, by have := h.2; omega⟩)
  have hFw : ∀ j, F j → w.heap.size ≤ j := fun j h => by rw [hF] at h; have := h.1; omega
  have hFG : ∀ b, (w2.heap.size ≤ b ∧ b < w3.heap.size) → F b → False := fun b h1 h2 => by rw [hF] at h2; exact h2.2 h1
  have hFn : ∀ (w' : World) b, w3.heap.size ≤ w'.heap.size → (F b ∨ w'.heap.size ≤ b) → F b := fun w' b hs h => h.elim (fun x => x) (fun x => by rw [hF]; exact ⟨by omega, by omega⟩)
  obtain ⟨k, hk⟩ : ∃ k, n % 20 = k := ⟨_, rfl⟩
  have hk20 : k < 20 := by omega
  repeat (first | with_reducible refine T_seq ?_ | with_reducible refine T_region ?_ | with_reducible refine U_nil ?_ | refine U_ar rfl rfl rfl (wrap_i64 (by omega)) rfl ?_ | refine U_pure E rfl rfl ?_ | with_reducible refine T_skip ?_ | with_reducible refine T_block ?_ | with_reducible refine T_inBlock ?_ | refine T_exit rfl ?_ | refine T_condV rfl ?_ | with_reducible refine Cnd_t ?_ | with_reducible refine Cnd_f ?_ | with_reducible refine Cnd_not ?_ | with_reducible refine Cnd_some ?_ | with_reducible refine Cnd_none ?_ | refine U_guard rfl rfl ?_ | with_reducible refine Gd_nt ?_ | with_reducible refine Gd_nf ?_ | with_reducible refine Gd_some ?_ | with_reducible refine Gd_none ?_ | with_reducible refine Gd_want ?_ | ((with_reducible refine Gd_skipT ?_ ?_); exact rfl) | ((with_reducible refine Gd_skipF ?_ ?_); exact rfl))
  refine U_run rfl rfl rfl (ro_bin (k' := .u8) (p := (n : Int)) (q := ((20 : Nat) : Int)) (r := .int .u8 (k : Nat)) rfl rfl (by rw [← hk]; exact run_rem (by decide))) ?_
  refine U_run rfl rfl rfl (ro_conv (z := (k : Int)) E rfl rfl rfl (by omega)) ?_
  have ha := arm_c w3 F hb _ (k : Int) hD3 (by omega)
  unfold ptr at *
  repeat (first | with_reducible refine T_seq ?_ | with_reducible refine T_region ?_ | with_reducible refine U_nil ?_ | refine U_ar rfl rfl rfl (wrap_i64 (by omega)) rfl ?_ | refine U_pure E rfl rfl ?_ | with_reducible refine T_skip ?_ | with_reducible refine T_block ?_ | with_reducible refine T_inBlock ?_ | refine T_exit rfl ?_ | refine T_condV rfl ?_ | with_reducible refine Cnd_t ?_ | with_reducible refine Cnd_f ?_ | with_reducible refine Cnd_not ?_ | with_reducible refine Cnd_some ?_ | with_reducible refine Cnd_none ?_ | refine U_guard rfl rfl ?_ | with_reducible refine Gd_nt ?_ | with_reducible refine Gd_nf ?_ | with_reducible refine Gd_some ?_ | with_reducible refine Gd_none ?_ | with_reducible refine Gd_want ?_ | ((with_reducible refine Gd_skipT ?_ ?_); exact rfl) | ((with_reducible refine Gd_skipF ?_ ?_); exact rfl))
  refine U_call rfl rfl (Tryd.call25 _) (ha) ?_
  rintro r w4 ⟨rfl, hk4, s4, hD4⟩
  have hFb := hD4.mem
  have hk4' : Kept none0 w w4 := hk3'.tr hk4 (fun j hj (e : j = hb) => by have := hFw hb hFb; omega)
  have hp4 : BS w4 (fun j => w2.heap.size ≤ j ∧ j < w3.heap.size) rp P := hp3.mv hk4 (fun b _ h (e : b = hb) => hFG b h (by rw [e]; exact hFb))
  have hst : ArmSt { l := [zeros 256, zeros 256, zeros 256, zeros 256], wait := [], left := max (k : Int) (-1) } k 0 := ⟨rfl, by dsimp only; omega, Nat.le_refl _⟩
  obtain ⟨M, hM⟩ : ∃ M, more % 5 = M := ⟨_, rfl⟩
  have hM5 : M < 5 := by omega
  repeat (first | with_reducible refine T_seq ?_ | with_reducible refine T_region ?_ | with_reducible refine U_nil ?_ | refine U_ar rfl rfl rfl (wrap_i64 (by omega)) rfl ?_ | refine U_pure E rfl rfl ?_ | with_reducible refine T_skip ?_ | with_reducible refine T_block ?_ | with_reducible refine T_inBlock ?_ | refine T_exit rfl ?_ | refine T_condV rfl ?_ | with_reducible refine Cnd_t ?_ | with_reducible refine Cnd_f ?_ | with_reducible refine Cnd_not ?_ | with_reducible refine Cnd_some ?_ | with_reducible refine Cnd_none ?_ | refine U_guard rfl rfl ?_ | with_reducible refine Gd_nt ?_ | with_reducible refine Gd_nf ?_ | with_reducible refine Gd_some ?_ | with_reducible refine Gd_none ?_ | with_reducible refine Gd_want ?_ | ((with_reducible refine Gd_skipT ?_ ?_); exact rfl) | ((with_reducible refine Gd_skipF ?_ ?_); exact rfl))
  refine U_run rfl rfl rfl (ro_bin (k' := .u8) (p := (more : Int)) (q := ((5 : Nat) : Int)) (r := .int .u8 (M : Nat)) rfl rfl (by rw [← hM]; exact run_rem (by decide))) ?_
  refine U_run rfl rfl rfl (ro_conv (z := (M : Int)) E rfl rfl rfl (by omega)) ?_
  repeat (first | with_reducible refine T_seq ?_ | with_reducible refine T_region ?_ | with_reducible refine U_nil ?_ | refine U_ar rfl rfl rfl (wrap_i64 (by omega)) rfl ?_ | refine U_pure E rfl rfl ?_ | with_reducible refine T_skip ?_ | with_reducible refine T_inBlock ?_ | refine T_exit rfl ?_ | refine U_guard rfl rfl ?_ | with_reducible refine Gd_nt ?_ | with_reducible refine Gd_nf ?_ | with_reducible refine Gd_some ?_ | with_reducible refine Gd_none ?_ | with_reducible refine Gd_want ?_ | ((with_reducible refine Gd_skipT ?_ ?_); exact rfl) | ((with_reducible refine Gd_skipF ?_ ?_); exact rfl))
  refine T_via (α := Unit) (fun _ => [(7, .pointer (some ⟨hb, 0, none⟩)), (2, rp)]) (fun _ w' => w3.heap.size ≤ w'.heap.size ∧ Kept none0 w w' ∧ BS w' (fun j => w2.heap.size ≤ j ∧ j < w3.heap.size) rp P ∧ ∃ D, D.l.length = 4 ∧ D.left = 0 ∧ D.wait.length ≤ 100 ∧ IsD w' F hb D) ?fin ?go
  case go =>
    intro fin
    refine T_block ?_
    refine T_loop (α := Nat × World) (fun x => [(35, .int .i64 x.1), (34, .int .i64 ((k : Int) + 1 + M)), (7, .pointer (some ⟨hb, 0, none⟩)), (9, .int .i64 k), (2, rp)]) (fun x => x.2) (fun x => k + 1 + M - x.1)
      (fun x => x.1 ≤ k + 1 + M ∧ w3.heap.size ≤ x.2.heap.size ∧ Kept none0 w x.2 ∧ BS x.2 (fun j => w2.heap.size ≤ j ∧ j < w3.heap.size) rp P ∧ ∃ D, ArmSt D k x.1 ∧ IsD x.2 F hb D) (0, w4)
      ⟨Nat.zero_le _, Nat.le_of_eq s4.symm, hk4', hp4, _, hst, hD4⟩ ⟨rfl, rfl, rfl, rfl, rfl, trivial⟩ rfl ?_
    rintro ⟨i, w5⟩ ⟨hi, s5, hk5, hp5, D, hS, hD5⟩ ih
    dsimp only at hi s5 hk5 hp5 hS hD5 ⊢
    have hlen := hS.len
    have hleft := hS.left
    have hwn := hS.wn
    repeat (first | with_reducible refine T_seq ?_ | with_reducible refine T_region ?_ | with_reducible refine U_nil ?_ | refine U_ar rfl rfl rfl (wrap_i64 (by omega)) rfl ?_ | refine U_pure E rfl rfl ?_ | with_reducible refine T_skip ?_ | with_reducible refine T_block ?_ | with_reducible refine T_inBlock ?_ | refine T_exit rfl ?_ | refine T_condV rfl ?_ | with_reducible refine Cnd_t ?_ | with_reducible refine Cnd_f ?_ | with_reducible refine Cnd_not ?_ | with_reducible refine Cnd_some ?_ | with_reducible refine Cnd_none ?_ | refine U_guard rfl rfl ?_ | with_reducible refine Gd_nt ?_ | with_reducible refine Gd_nf ?_ | with_reducible refine Gd_some ?_ | with_reducible refine Gd_none ?_ | with_reducible refine Gd_want ?_ | ((with_reducible refine Gd_skipT ?_ ?_); exact rfl) | ((with_reducible refine Gd_skipF ?_ ?_); exact rfl))
    refine Cnd_p (fun hlt => ?_) (fun hlt => ?_)
    · have hlt' : i < k + 1 + M := by omega
      repeat (first | with_reducible refine T_seq ?_ | with_reducible refine T_region ?_ | with_reducible refine U_nil ?_ | refine U_ar rfl rfl rfl (wrap_i64 (by omega)) rfl ?_ | refine U_pure E rfl rfl ?_ | with_reducible refine T_skip ?_ | with_reducible refine T_block ?_ | with_reducible refine T_inBlock ?_ | refine T_exit rfl ?_ | refine U_guard rfl rfl ?_ | with_reducible refine Gd_nt ?_ | with_reducible refine Gd_nf ?_ | with_reducible refine Gd_some ?_ | with_reducible refine Gd_none ?_ | with_reducible refine Gd_want ?_ | ((with_reducible refine Gd_skipT ?_ ?_); exact rfl) | ((with_reducible refine Gd_skipF ?_ ?_); exact rfl))
      refine U_run rfl rfl rfl (ro_bin (k' := .i64) (p := (i : Int)) (q := ((3 : Nat) : Int)) (r := .int .i64 (i % 3 : Nat)) rfl rfl (run_rem (by decide))) ?_
      repeat (first | with_reducible refine T_seq ?_ | with_reducible refine T_region ?_ | with_reducible refine U_nil ?_ | refine U_ar rfl rfl rfl (wrap_i64 (by omega)) rfl ?_ | refine U_pure E rfl rfl ?_ | with_reducible refine T_skip ?_ | with_reducible refine T_block ?_ | with_reducible refine T_inBlock ?_ | refine T_exit rfl ?_ | refine U_guard rfl rfl ?_ | with_reducible refine Gd_nt ?_ | with_reducible refine Gd_nf ?_ | with_reducible refine Gd_some ?_ | with_reducible refine Gd_none ?_ | with_reducible refine Gd_want ?_ | ((with_reducible refine Gd_skipT ?_ ?_); exact rfl) | ((with_reducible refine Gd_skipF ?_ ?_); exact rfl))
      refine T_via (α := Nat) (fun c => [(35, .int .i64 i), (34, .int .i64 ((k : Int) + 1 + M)), (7, .pointer (some ⟨hb, 0, none⟩)), (9, .int .i64 k), (2, rp), (10, .int .i64 i), (11, errV c)])
        (fun c w' => c = (if i < k then 0 else 8) ∧ w3.heap.size ≤ w'.heap.size ∧ Kept none0 w w' ∧ BS w' (fun j => w2.heap.size ≤ j ∧ j < w3.heap.size) rp P ∧ ∃ D, ArmSt D k (i + 1) ∧ IsD w' F hb D) ?fin2 ?go2
      case go2 =>
        intro fin2
        refine T_condV rfl ?_
        refine Cnd_p (fun hmod => ?_) (fun hmod => ?_)
        · refine T_region ?_
          repeat (first | refine U_ar rfl rfl rfl (wrap_i64 (by omega)) rfl ?_ | refine U_pure E rfl rfl ?_)
          by_cases hik : i < k
          · have hf := flush_ok w5 F hb D hD5 (by omega)
            (try unfold ptr at *)
            refine U_call rfl rfl (Tryd.call26 _) (hf) ?_
            rintro r w6 ⟨rfl, hk6, hD6⟩
            repeat (first | refine U_ar rfl rfl rfl (wrap_i64 (by omega)) rfl ?_ | refine U_pure E rfl rfl ?_)
            refine U_nil ?_
            refine T.less ?_ (fin2 0 w6 ⟨by rw [if_pos hik], by have := hk6.size; omega, hk5.tr hk6 (fun j hj e => by have := hFw j e; omega), hp5.mv hk6 (fun b _ g1 g2 => hFG b g1 g2), _, ⟨by rw [← hlen]; exact applyW_len _ _, by dsimp only; rw [dec, if_neg (by omega), hleft]; omega, Nat.zero_le _⟩, hD6⟩)
            exact ⟨rfl, rfl, rfl, rfl, rfl, rfl, rfl, trivial⟩
          · have hf := flush_off w5 F hb D hD5 (by omega)
            (try unfold ptr at *)
            refine U_call rfl rfl (Tryd.call26 _) (hf) ?_
            rintro r w6 ⟨rfl, hk6, s6, hD6⟩
            repeat (first | refine U_ar rfl rfl rfl (wrap_i64 (by omega)) rfl ?_ | refine U_pure E rfl rfl ?_)
            refine U_nil ?_
            refine T.less ?_ (fin2 8 w6 ⟨by rw [if_neg hik], by omega, hk5.tr hk6 (fun j hj (e : j = hb) => by have := hFw hb hFb; omega), hp5.mv hk6 (fun b _ g1 (g2 : b = hb) => hFG b g1 (by rw [g2]; exact hFb)), D, ⟨hlen, by omega, by omega⟩, hD6⟩)
            exact ⟨rfl, rfl, rfl, rfl, rfl, rfl, rfl, trivial⟩
        · refine T_region ?_
          repeat (first | refine U_ar rfl rfl rfl (wrap_i64 (by omega)) rfl ?_ | refine U_pure E rfl rfl ?_)
          refine U_run rfl rfl rfl (ro_bin (k' := .i64) (p := (i : Int)) (q := ((4 : Nat) : Int)) (r := .int .i64 (i % 4 : Nat)) rfl rfl (run_rem (by decide))) ?_
          repeat (first | refine U_ar rfl rfl rfl (wrap_i64 (by omega)) rfl ?_ | refine U_pure E rfl rfl ?_)
          by_cases hik : i < k
          · have he : wrErr D (i % 4 : Nat) P = 0 := by rw [wrErr, if_pos (by omega), if_neg (by omega), if_neg (by omega)]
            have hw := write_ok w5 F hb D _ rp P (i % 4 : Nat) hD5 hp5 (fun b g1 g2 => hFG b g1 g2) he (by omega)
            rw [wrDr, if_pos he] at hw
            (try unfold ptr at *)
            refine U_call rfl rfl (Tryd.call27 _) (hw) ?_
            rintro r w6 ⟨rfl, hk6, hD6⟩
            repeat (first | refine U_ar rfl rfl rfl (wrap_i64 (by omega)) rfl ?_ | refine U_pure E rfl rfl ?_)
            refine U_nil ?_
            refine T.less ?_ (fin2 0 w6 ⟨by rw [if_pos hik], by have := hk6.size; omega, hk5.tr hk6 (fun j hj e => by have := hFw j e; omega), hp5.mv hk6 (fun b _ g1 g2 => hFG b g1 g2), { D with wait := D.wait ++ [(((i % 4 : Nat) : Int).toNat, sec P)], left := dec D.left }, ⟨hlen, by dsimp only; rw [dec, if_neg (by omega), hleft]; omega, by simp; omega⟩, hD6.mono (fun b _ h => hFn w5 b s5 h)⟩)
            exact ⟨rfl, rfl, rfl, rfl, rfl, rfl, rfl, trivial⟩
          · have he : wrErr D (i % 4 : Nat) P = 8 := by rw [wrErr, if_pos (by omega), if_neg (by omega), if_pos (by omega)]
            have hw := write_no w5 F hb D _ rp P (i % 4 : Nat) hD5 hp5 (by rw [he]; decide)
            rw [he] at hw
            (try unfold ptr at *)
            refine U_call rfl rfl (Tryd.call27 _) (hw) ?_
            rintro r w6 ⟨rfl, hk6, s6, hD6⟩
            repeat (first | refine U_ar rfl rfl rfl (wrap_i64 (by omega)) rfl ?_ | refine U_pure E rfl rfl ?_)
            refine U_nil ?_
            refine T.less ?_ (fin2 8 w6 ⟨by rw [if_neg hik], by omega, hk5.tr hk6 (fun j hj (e : j = hb) => by have := hFw hb hFb; omega), hp5.mv hk6 (fun b _ g1 (g2 : b = hb) => hFG b g1 (by rw [g2]; exact hFb)), D, ⟨hlen, by omega, by omega⟩, hD6⟩)
            exact ⟨rfl, rfl, rfl, rfl, rfl, rfl, rfl, trivial⟩
      case fin2 =>
        rintro c w6 ⟨hc, s6, hk6, hp6, D', hS', hD6⟩
        have hcc := code_c w6 c (hL.mv hk6 (fun x => x))
        repeat (first | with_reducible refine T_seq ?_ | with_reducible refine T_region ?_ | with_reducible refine U_nil ?_ | refine U_ar rfl rfl rfl (wrap_i64 (by omega)) rfl ?_ | refine U_pure E rfl rfl ?_ | with_reducible refine T_skip ?_ | with_reducible refine T_block ?_ | with_reducible refine T_inBlock ?_ | refine T_exit rfl ?_ | refine T_condV rfl ?_ | with_reducible refine Cnd_t ?_ | with_reducible refine Cnd_f ?_ | with_reducible refine Cnd_not ?_ | with_reducible refine Cnd_some ?_ | with_reducible refine Cnd_none ?_ | refine U_guard rfl rfl ?_ | with_reducible refine Gd_nt ?_ | with_reducible refine Gd_nf ?_ | with_reducible refine Gd_some ?_ | with_reducible refine Gd_none ?_ | with_reducible refine Gd_want ?_ | ((with_reducible refine Gd_skipT ?_ ?_); exact rfl) | ((with_reducible refine Gd_skipF ?_ ?_); exact rfl))
        refine U_call rfl rfl (Tryd.call28 _) (hcc) ?_
        rintro r w7 ⟨rfl, hk7⟩
        have hih := ih (i + 1, w7) ⟨hlt', by have := hk7.size; dsimp only; omega, hk6.tr hk7 (fun _ _ x => x), hp6.mv hk7 (fun _ _ _ x => x), D', hS', hD6.mv hk7 (fun _ _ _ x => x)⟩ (by dsimp only; omega)
        repeat (first | with_reducible refine T_seq ?_ | with_reducible refine T_region ?_ | with_reducible refine U_nil ?_ | refine U_ar rfl rfl rfl (wrap_i64 (by omega)) rfl ?_ | refine U_pure E rfl rfl ?_ | with_reducible refine T_skip ?_ | with_reducible refine T_block ?_ | with_reducible refine T_inBlock ?_ | refine T_exit rfl ?_ | refine T_condV rfl ?_ | with_reducible refine Cnd_t ?_ | with_reducible refine Cnd_f ?_ | with_reducible refine Cnd_not ?_ | with_reducible refine Cnd_some ?_ | with_reducible refine Cnd_none ?_ | refine U_guard rfl rfl ?_ | with_reducible refine Gd_nt ?_ | with_reducible refine Gd_nf ?_ | with_reducible refine Gd_some ?_ | with_reducible refine Gd_none ?_ | with_reducible refine Gd_want ?_ | ((with_reducible refine Gd_skipT ?_ ?_); exact rfl) | ((with_reducible refine Gd_skipF ?_ ?_); exact rfl))
        by_cases hik : i < k
        · rw [if_pos hik] at hc
          subst hc
          refine Gd_b (fun hx => ?_) (fun hx => ?_)
          · exfalso
            have e1 : decide ((i : Int) < (k : Int)) = true := decide_eq_true (by omega)
            rw [e1] at hx
            exact absurd hx (by decide)
          · repeat (first | with_reducible refine T_seq ?_ | with_reducible refine T_region ?_ | with_reducible refine U_nil ?_ | refine U_ar rfl rfl rfl (wrap_i64 (by omega)) rfl ?_ | refine U_pure E rfl rfl ?_ | with_reducible refine T_skip ?_ | with_reducible refine T_block ?_ | with_reducible refine T_inBlock ?_ | refine T_exit rfl ?_ | refine T_condV rfl ?_ | with_reducible refine Cnd_t ?_ | with_reducible refine Cnd_f ?_ | with_reducible refine Cnd_not ?_ | with_reducible refine Cnd_some ?_ | with_reducible refine Cnd_none ?_ | refine U_guard rfl rfl ?_ | with_reducible refine Gd_nt ?_ | with_reducible refine Gd_nf ?_ | with_reducible refine Gd_some ?_ | with_reducible refine Gd_none ?_ | with_reducible refine Gd_want ?_ | ((with_reducible refine Gd_skipT ?_ ?_); exact rfl) | ((with_reducible refine Gd_skipF ?_ ?_); exact rfl))
            refine Gd_b (fun hy => ?_) (fun hy => ?_)
            · exact absurd hy (by decide)
            · repeat (first | with_reducible refine T_seq ?_ | with_reducible refine T_region ?_ | with_reducible refine U_nil ?_ | refine U_ar rfl rfl rfl (wrap_i64 (by omega)) rfl ?_ | refine U_pure E rfl rfl ?_ | with_reducible refine T_skip ?_ | with_reducible refine T_block ?_ | with_reducible refine T_inBlock ?_ | refine T_exit rfl ?_ | refine T_condV rfl ?_ | with_reducible refine Cnd_t ?_ | with_reducible refine Cnd_f ?_ | with_reducible refine Cnd_not ?_ | with_reducible refine Cnd_some ?_ | with_reducible refine Cnd_none ?_ | refine U_guard rfl rfl ?_ | with_reducible refine Gd_nt ?_ | with_reducible refine Gd_nf ?_ | with_reducible refine Gd_some ?_ | with_reducible refine Gd_none ?_ | with_reducible refine Gd_want ?_ | ((with_reducible refine Gd_skipT ?_ ?_); exact rfl) | ((with_reducible refine Gd_skipF ?_ ?_); exact rfl))
              refine T.less ?_ hih
              exact ⟨rfl, rfl, rfl, rfl, rfl, trivial⟩
        · rw [if_neg hik] at hc
          subst hc
          refine Gd_b (fun hx => ?_) (fun hx => ?_)
          · exfalso
            have e1 : decide ((i : Int) < (k : Int)) = false := decide_eq_false (by omega)
            rw [e1] at hx
            exact absurd hx (by decide)
          · repeat (first | with_reducible refine T_seq ?_ | with_reducible refine T_region ?_ | with_reducible refine U_nil ?_ | refine U_ar rfl rfl rfl (wrap_i64 (by omega)) rfl ?_ | refine U_pure E rfl rfl ?_ | with_reducible refine T_skip ?_ | with_reducible refine T_block ?_ | with_reducible refine T_inBlock ?_ | refine T_exit rfl ?_ | refine T_condV rfl ?_ | with_reducible refine Cnd_t ?_ | with_reducible refine Cnd_f ?_ | with_reducible refine Cnd_not ?_ | with_reducible refine Cnd_some ?_ | with_reducible refine Cnd_none ?_ | refine U_guard rfl rfl ?_ | with_reducible refine Gd_nt ?_ | with_reducible refine Gd_nf ?_ | with_reducible refine Gd_some ?_ | with_reducible refine Gd_none ?_ | with_reducible refine Gd_want ?_ | ((with_reducible refine Gd_skipT ?_ ?_); exact rfl) | ((with_reducible refine Gd_skipF ?_ ?_); exact rfl))
            refine Gd_b (fun hy => ?_) (fun hy => ?_)
            · repeat (first | with_reducible refine T_seq ?_ | with_reducible refine T_region ?_ | with_reducible refine U_nil ?_ | refine U_ar rfl rfl rfl (wrap_i64 (by omega)) rfl ?_ | refine U_pure E rfl rfl ?_ | with_reducible refine T_skip ?_ | with_reducible refine T_block ?_ | with_reducible refine T_inBlock ?_ | refine T_exit rfl ?_ | refine T_condV rfl ?_ | with_reducible refine Cnd_t ?_ | with_reducible refine Cnd_f ?_ | with_reducible refine Cnd_not ?_ | with_reducible refine Cnd_some ?_ | with_reducible refine Cnd_none ?_ | refine U_guard rfl rfl ?_ | with_reducible refine Gd_nt ?_ | with_reducible refine Gd_nf ?_ | with_reducible refine Gd_some ?_ | with_reducible refine Gd_none ?_ | with_reducible refine Gd_want ?_ | ((with_reducible refine Gd_skipT ?_ ?_); exact rfl) | ((with_reducible refine Gd_skipF ?_ ?_); exact rfl))
              refine Cnd_p (fun hz => ?_) (fun hz => ?_)
              · exact absurd rfl hz
              · repeat (first | with_reducible refine T_seq ?_ | with_reducible refine T_region ?_ | with_reducible refine U_nil ?_ | refine U_ar rfl rfl rfl (wrap_i64 (by omega)) rfl ?_ | refine U_pure E rfl rfl ?_ | with_reducible refine T_skip ?_ | with_reducible refine T_block ?_ | with_reducible refine T_inBlock ?_ | refine T_exit rfl ?_ | refine T_condV rfl ?_ | with_reducible refine Cnd_t ?_ | with_reducible refine Cnd_f ?_ | with_reducible refine Cnd_not ?_ | with_reducible refine Cnd_some ?_ | with_reducible refine Cnd_none ?_ | refine U_guard rfl rfl ?_ | with_reducible refine Gd_nt ?_ | with_reducible refine Gd_nf ?_ | with_reducible refine Gd_some ?_ | with_reducible refine Gd_none ?_ | with_reducible refine Gd_want ?_ | ((with_reducible refine Gd_skipT ?_ ?_); exact rfl) | ((with_reducible refine Gd_skipF ?_ ?_); exact rfl))
                refine T.less ?_ hih
                exact ⟨rfl, rfl, rfl, rfl, rfl, trivial⟩
            · exact absurd hy (by decide)
    · refine T_exit rfl ?_
      refine T.less ?_ (fin () w5 ⟨s5, hk5, hp5, D, hlen, by rw [hleft]; omega, by omega, hD5⟩)
      exact ⟨rfl, rfl, trivial⟩
  case fin =>
    rintro ⟨⟩ w5 ⟨s5, hk5, hp5, D, hlen, hleft, hwn, hD5⟩
    have hnil : Sl w5 (fun _ => True) (.slice none 0 0) 1 ([] : List Bool).length (encBools []) := ⟨by decide, rfl, none, 0, rfl, Nat.le_refl _, .inl rfl⟩
    have hfl := fall_c w5 F hb D _ _ [] (-1) hD5 hnil
    (try unfold ptr at *)
    repeat (first | with_reducible refine T_seq ?_ | with_reducible refine T_region ?_ | with_reducible refine U_nil ?_ | refine U_ar rfl rfl rfl (wrap_i64 (by omega)) rfl ?_ | refine U_pure E rfl rfl ?_ | with_reducible refine T_skip ?_ | with_reducible refine T_block ?_ | with_reducible refine T_inBlock ?_ | refine T_exit rfl ?_ | refine T_condV rfl ?_ | with_reducible refine Cnd_t ?_ | with_reducible refine Cnd_f ?_ | with_reducible refine Cnd_not ?_ | with_reducible refine Cnd_some ?_ | with_reducible refine Cnd_none ?_ | refine U_guard rfl rfl ?_ | with_reducible refine Gd_nt ?_ | with_reducible refine Gd_nf ?_ | with_reducible refine Gd_some ?_ | with_reducible refine Gd_none ?_ | with_reducible refine Gd_want ?_ | ((with_reducible refine Gd_skipT ?_ ?_); exact rfl) | ((with_reducible refine Gd_skipF ?_ ?_); exact rfl))
    refine U_call rfl rfl (Tryd.call29 _) (hfl) ?_
    rintro r w6 ⟨hk6, hx, rfl, hX6⟩
    have hX6 := hX6.tight
    have hD6 := hD5.mv hk6 (fun _ _ _ x => x)
    have s6 := hk6.size
    have hcp := copy_c w6 F hb D hD6
    (try unfold ptr at *)
    repeat (first | with_reducible refine T_seq ?_ | with_reducible refine T_region ?_ | with_reducible refine U_nil ?_ | refine U_ar rfl rfl rfl (wrap_i64 (by omega)) rfl ?_ | refine U_pure E rfl rfl ?_ | with_reducible refine T_skip ?_ | with_reducible refine T_block ?_ | with_reducible refine T_inBlock ?_ | refine T_exit rfl ?_ | refine T_condV rfl ?_ | with_reducible refine Cnd_t ?_ | with_reducible refine Cnd_f ?_ | with_reducible refine Cnd_not ?_ | with_reducible refine Cnd_some ?_ | with_reducible refine Cnd_none ?_ | refine U_guard rfl rfl ?_ | with_reducible refine Gd_nt ?_ | with_reducible refine Gd_nf ?_ | with_reducible refine Gd_some ?_ | with_reducible refine Gd_none ?_ | with_reducible refine Gd_want ?_ | ((with_reducible refine Gd_skipT ?_ ?_); exact rfl) | ((with_reducible refine Gd_skipF ?_ ?_); exact rfl))
    refine U_call rfl rfl (Tryd.call30 _) (hcp) ?_
    rintro r w7 ⟨hk7, hy, rfl, hY7⟩
    have hY7 := hY7.tight
    have s7 := hk7.size
    have hX7 := hX6.mv hk7 (fun _ _ _ x => x)
    have hD7 : IsD w7 (fun j => F j ∧ j < w5.heap.size) hb D := ((hD5.mono (G := fun j => F j ∧ j < w5.heap.size) (fun b hb h => ⟨h, hb⟩)).mv hk6 (fun _ _ _ x => x)).mv hk7 (fun _ _ _ x => x)
    have hp7 := (hp5.mv hk6 (fun _ _ _ x => x)).mv hk7 (fun _ _ _ x => x)
    have hk7' : Kept none0 w w7 := (hk5.tr hk6 (fun _ _ x => x)).tr hk7 (fun _ _ x => x)
    have sw5 := hk5.size
    have hlx : (drFall D [] (-1)).l.length = 4 := by
      have e : drFall D [] (-1) = ⟨(fgo [] D.l D.wait).l, [], -1⟩ := by
        simp only [drFall]
        rw [if_neg (by omega)]
      rw [e]
      have := (fgo_ok [] D.l D.wait hD5.1.secs hD5.1.waits D.wait.length (Nat.le_refl _)).len
      rw [List.take_length] at this
      dsimp only
      rw [this, hlen]
    have hx0 : wrErr (drFall D [] (-1)) 0 P = 0 := by rw [wrErr, if_pos (by omega), if_neg (by omega), if_neg (by simp [drFall])]
    have hw8 := write_ok w7 _ hx _ _ rp P 0 hX7 hp7 (fun b g1 g2 => by omega) hx0 (by simp [drFall])
    (try unfold ptr at *)
    repeat (first | with_reducible refine T_seq ?_ | with_reducible refine T_region ?_ | with_reducible refine U_nil ?_ | refine U_ar rfl rfl rfl (wrap_i64 (by omega)) rfl ?_ | refine U_pure E rfl rfl ?_ | with_reducible refine T_skip ?_ | with_reducible refine T_block ?_ | with_reducible refine T_inBlock ?_ | refine T_exit rfl ?_ | refine T_condV rfl ?_ | with_reducible refine Cnd_t ?_ | with_reducible refine Cnd_f ?_ | with_reducible refine Cnd_not ?_ | with_reducible refine Cnd_some ?_ | with_reducible refine Cnd_none ?_ | refine U_guard rfl rfl ?_ | with_reducible refine Gd_nt ?_ | with_reducible refine Gd_nf ?_ | with_reducible refine Gd_some ?_ | with_reducible refine Gd_none ?_ | with_reducible refine Gd_want ?_ | ((with_reducible refine Gd_skipT ?_ ?_); exact rfl) | ((with_reducible refine Gd_skipF ?_ ?_); exact rfl))
    refine U_call rfl rfl (Tryd.call27 _) (hw8) ?_
    rintro r w8 ⟨rfl, hk8, _⟩
    unfold errV
    have hk8' : Kept none0 w w8 := hk7'.tr hk8 (fun j hj e => by omega)
    have hp8 := hp7.mv hk8 (fun b _ g1 g2 => by omega)
    have hY8 := hY7.mv hk8 (fun b _ g1 g2 => by omega)
    have hD8 := hD7.mv hk8 (fun b _ g1 g2 => by omega)
    have s8 := hk8.size
    have hy0 : wrErr { D with left := -1 } 0 P = 0 := by rw [wrErr, if_pos (by dsimp only; omega), if_neg (by omega), if_neg (by dsimp only; omega)]
    have hw9 := write_ok w8 _ hy _ _ rp P 0 hY8 hp8 (fun b g1 g2 => by omega) hy0 (by dsimp only; omega)
    (try unfold ptr at *)
    repeat (first | with_reducible refine T_seq ?_ | with_reducible refine T_region ?_ | with_reducible refine U_nil ?_ | refine U_ar rfl rfl rfl (wrap_i64 (by omega)) rfl ?_ | refine U_pure E rfl rfl ?_ | with_reducible refine T_skip ?_ | with_reducible refine T_block ?_ | with_reducible refine T_inBlock ?_ | refine T_exit rfl ?_ | refine T_condV rfl ?_ | with_reducible refine Cnd_t ?_ | with_reducible refine Cnd_f ?_ | with_reducible refine Cnd_not ?_ | with_reducible refine Cnd_some ?_ | with_reducible refine Cnd_none ?_ | refine U_guard rfl rfl ?_ | with_reducible refine Gd_nt ?_ | with_reducible refine Gd_nf ?_ | with_reducible refine Gd_some ?_ | with_reducible refine Gd_none ?_ | with_reducible refine Gd_want ?_ | ((with_reducible refine Gd_skipT ?_ ?_); exact rfl) | ((with_reducible refine Gd_skipF ?_ ?_); exact rfl))
    refine U_call rfl rfl (Tryd.call27 _) (hw9) ?_
    rintro r w9 ⟨rfl, hk9, _⟩
    unfold errV
    have hk9' : Kept none0 w w9 := hk8'.tr hk9 (fun j hj e => by omega)
    have hp9 := hp8.mv hk9 (fun b _ g1 g2 => by omega)
    have hD9 := hD8.mv hk9 (fun b _ g1 g2 => by omega)
    have s9 := hk9.size
    have hd0 : wrErr D 0 P = 8 := by rw [wrErr, if_pos (by omega), if_neg (by omega), if_pos hleft]
    have hw10 := write_no w9 _ hb D _ rp P 0 hD9 hp9 (by rw [hd0]; decide)
    rw [hd0] at hw10
    have hFb9 := hD9.mem
    (try unfold ptr at *)
    repeat (first | with_reducible refine T_seq ?_ | with_reducible refine T_region ?_ | with_reducible refine U_nil ?_ | refine U_ar rfl rfl rfl (wrap_i64 (by omega)) rfl ?_ | refine U_pure E rfl rfl ?_ | with_reducible refine T_skip ?_ | with_reducible refine T_block ?_ | with_reducible refine T_inBlock ?_ | refine T_exit rfl ?_ | refine T_condV rfl ?_ | with_reducible refine Cnd_t ?_ | with_reducible refine Cnd_f ?_ | with_reducible refine Cnd_not ?_ | with_reducible refine Cnd_some ?_ | with_reducible refine Cnd_none ?_ | refine U_guard rfl rfl ?_ | with_reducible refine Gd_nt ?_ | with_reducible refine Gd_nf ?_ | with_reducible refine Gd_some ?_ | with_reducible refine Gd_none ?_ | with_reducible refine Gd_want ?_ | ((with_reducible refine Gd_skipT ?_ ?_); exact rfl) | ((with_reducible refine Gd_skipF ?_ ?_); exact rfl))
    refine U_call rfl rfl (Tryd.call27 _) (hw10) ?_
    rintro r w10 ⟨rfl, hk10, s10, hD10⟩
    have hbg : w.heap.size ≤ hb := hFw hb hFb9.1
    have hk10' : Kept none0 w w10 := hk9'.tr hk10 (fun j hj (e : j = hb) => by omega)
    have hp10 := hp9.mv hk10 (fun b _ g1 (g2 : b = hb) => hFG b g1 (by rw [g2]; exact hFb9.1))
    repeat (first | with_reducible refine T_seq ?_ | with_reducible refine T_region ?_ | with_reducible refine U_nil ?_ | refine U_ar rfl rfl rfl (wrap_i64 (by omega)) rfl ?_ | refine U_pure E rfl rfl ?_ | with_reducible refine T_skip ?_ | with_reducible refine T_block ?_ | with_reducible refine T_inBlock ?_ | refine T_exit rfl ?_ | refine T_condV rfl ?_ | with_reducible refine Cnd_t ?_ | with_reducible refine Cnd_f ?_ | with_reducible refine Cnd_not ?_ | with_reducible refine Cnd_some ?_ | with_reducible refine Cnd_none ?_ | refine U_guard rfl rfl ?_ | with_reducible refine Gd_nt ?_ | with_reducible refine Gd_nf ?_ | with_reducible refine Gd_some ?_ | with_reducible refine Gd_none ?_ | with_reducible refine Gd_want ?_ | ((with_reducible refine Gd_skipT ?_ ?_); exact rfl) | ((with_reducible refine Gd_skipF ?_ ?_); exact rfl))
    refine U_call rfl rfl (Tryd.call28 _) (code_c w10 8 (hL.mv hk10' (fun x => x))) ?_
    rintro r w11 ⟨rfl, hk11⟩
    have hk11' : Kept none0 w w11 := hk10'.tr hk11 (fun _ _ x => x)
    have hp11 := hp10.mv hk11 (fun _ _ _ x => x)
    have hD11 := hD10.mv hk11 (fun _ _ _ x => x)
    repeat (first | with_reducible refine T_seq ?_ | with_reducible refine T_region ?_ | with_reducible refine U_nil ?_ | refine U_ar rfl rfl rfl (wrap_i64 (by omega)) rfl ?_ | refine U_pure E rfl rfl ?_ | with_reducible refine T_skip ?_ | with_reducible refine T_block ?_ | with_reducible refine T_inBlock ?_ | refine T_exit rfl ?_ | refine T_condV rfl ?_ | with_reducible refine Cnd_t ?_ | with_reducible refine Cnd_f ?_ | with_reducible refine Cnd_not ?_ | with_reducible refine Cnd_some ?_ | with_reducible refine Cnd_none ?_ | refine U_guard rfl rfl ?_ | with_reducible refine Gd_nt ?_ | with_reducible refine Gd_nf ?_ | with_reducible refine Gd_some ?_ | with_reducible refine Gd_none ?_ | with_reducible refine Gd_want ?_ | ((with_reducible refine Gd_skipT ?_ ?_); exact rfl) | ((with_reducible refine Gd_skipF ?_ ?_); exact rfl))
    refine Gd_b (fun hz => absurd hz (by decide)) (fun _ => ?_)
    have hd9 : wrErr D 9 P = 7 := by rw [wrErr, if_neg (by omega)]
    have hw12 := write_no w11 _ hb D _ rp P 9 hD11 hp11 (by rw [hd9]; decide)
    rw [hd9] at hw12
    (try unfold ptr at *)
    repeat (first | with_reducible refine T_seq ?_ | with_reducible refine T_region ?_ | with_reducible refine U_nil ?_ | refine U_ar rfl rfl rfl (wrap_i64 (by omega)) rfl ?_ | refine U_pure E rfl rfl ?_ | with_reducible refine T_skip ?_ | with_reducible refine T_block ?_ | with_reducible refine T_inBlock ?_ | refine T_exit rfl ?_ | refine T_condV rfl ?_ | with_reducible refine Cnd_t ?_ | with_reducible refine Cnd_f ?_ | with_reducible refine Cnd_not ?_ | with_reducible refine Cnd_some ?_ | with_reducible refine Cnd_none ?_ | refine U_guard rfl rfl ?_ | with_reducible refine Gd_nt ?_ | with_reducible refine Gd_nf ?_ | with_reducible refine Gd_some ?_ | with_reducible refine Gd_none ?_ | with_reducible refine Gd_want ?_ | ((with_reducible refine Gd_skipT ?_ ?_); exact rfl) | ((with_reducible refine Gd_skipF ?_ ?_); exact rfl))
    refine U_call rfl rfl (Tryd.call27 _) (hw12) ?_
    rintro r w12 ⟨rfl, hk12, s12, hD12⟩
    have hk12' : Kept none0 w w12 := hk11'.tr hk12 (fun j hj (e : j = hb) => by omega)
    have hp12 := hp11.mv hk12 (fun b _ g1 (g2 : b = hb) => hFG b g1 (by rw [g2]; exact hFb9.1))
    repeat (first | with_reducible refine T_seq ?_ | with_reducible refine T_region ?_ | with_reducible refine U_nil ?_ | refine U_ar rfl rfl rfl (wrap_i64 (by omega)) rfl ?_ | refine U_pure E rfl rfl ?_ | with_reducible refine T_skip ?_ | with_reducible refine T_block ?_ | with_reducible refine T_inBlock ?_ | refine T_exit rfl ?_ | refine T_condV rfl ?_ | with_reducible refine Cnd_t ?_ | with_reducible refine Cnd_f ?_ | with_reducible refine Cnd_not ?_ | with_reducible refine Cnd_some ?_ | with_reducible refine Cnd_none ?_ | refine U_guard rfl rfl ?_ | with_reducible refine Gd_nt ?_ | with_reducible refine Gd_nf ?_ | with_reducible refine Gd_some ?_ | with_reducible refine Gd_none ?_ | with_reducible refine Gd_want ?_ | ((with_reducible refine Gd_skipT ?_ ?_); exact rfl) | ((with_reducible refine Gd_skipF ?_ ?_); exact rfl))
    refine U_call rfl rfl (Tryd.call28 _) (code_c w12 7 (hL.mv hk12' (fun x => x))) ?_
    rintro r w13 ⟨rfl, hk13⟩
    have hk13' : Kept none0 w w13 := hk12'.tr hk13 (fun _ _ x => x)
    have hp13 := hp12.mv hk13 (fun _ _ _ x => x)
    have hD13 := hD12.mv hk13 (fun _ _ _ x => x)
    repeat (first | with_reducible refine T_seq ?_ | with_reducible refine T_region ?_ | with_reducible refine U_nil ?_ | refine U_ar rfl rfl rfl (wrap_i64 (by omega)) rfl ?_ | refine U_pure E rfl rfl ?_ | with_reducible refine T_skip ?_ | with_reducible refine T_block ?_ | with_reducible refine T_inBlock ?_ | refine T_exit rfl ?_ | refine T_condV rfl ?_ | with_reducible refine Cnd_t ?_ | with_reducible refine Cnd_f ?_ | with_reducible refine Cnd_not ?_ | with_reducible refine Cnd_some ?_ | with_reducible refine Cnd_none ?_ | refine U_guard rfl rfl ?_ | with_reducible refine Gd_nt ?_ | with_reducible refine Gd_nf ?_ | with_reducible refine Gd_some ?_ | with_reducible refine Gd_none ?_ | with_reducible refine Gd_want ?_ | ((with_reducible refine Gd_skipT ?_ ?_); exact rfl) | ((with_reducible refine Gd_skipF ?_ ?_); exact rfl))
    refine Gd_b (fun hz => absurd hz (by decide)) (fun _ => ?_)
    repeat (first | with_reducible refine T_seq ?_ | with_reducible refine T_region ?_ | with_reducible refine U_nil ?_ | refine U_ar rfl rfl rfl (wrap_i64 (by omega)) rfl ?_ | refine U_pure E rfl rfl ?_ | with_reducible refine T_skip ?_ | with_reducible refine T_block ?_ | with_reducible refine T_inBlock ?_ | refine T_exit rfl ?_ | refine T_condV rfl ?_ | with_reducible refine Cnd_t ?_ | with_reducible refine Cnd_f ?_ | with_reducible refine Cnd_not ?_ | with_reducible refine Cnd_some ?_ | with_reducible refine Cnd_none ?_ | refine U_guard rfl rfl ?_ | with_reducible refine Gd_nt ?_ | with_reducible refine Gd_nf ?_ | with_reducible refine Gd_some ?_ | with_reducible refine Gd_none ?_ | with_reducible refine Gd_want ?_ | ((with_reducible refine Gd_skipT ?_ ?_); exact rfl) | ((with_reducible refine Gd_skipF ?_ ?_); exact rfl))
    refine U_make E rfl rfl (zs := [.int .u8 0]) rfl (N := 257) rfl rfl (by decide) (by decide) rfl rfl rfl ?_
    intro bz w14 hn14
    have hbz : Blk w14 bz (encBs (zeros 257)) 5 := by
      have := hn14.blk
      rw [flat_single, ← encBs_zeros] at this
      exact this
    have hz14 : BS w14 (fun _ => True) (.slice (some ⟨bz, 0, none⟩) 257 257) (zeros 257) := ⟨by rw [zeros_len]; decide, by rw [encBs_len, Nat.mul_one], some ⟨bz, 0, none⟩, 257, by rw [zeros_len], by rw [zeros_len]; exact Nat.le_refl _, .inr ⟨bz, 0, rfl, trivial, hbz.lt, hbz.whole⟩⟩
    have hk14' : Kept none0 w w14 := hk13'.tr hn14.kept (fun _ _ x => x)
    have hp14 := hp13.mv hn14.kept (fun _ _ _ x => x)
    have hD14 := hD13.mv hn14.kept (fun _ _ _ x => x)
    have hdl : wrErr D 0 (zeros 257) = 4 := by rw [wrErr, if_pos (by omega), if_pos (by rw [zeros_len]; decide)]
    have hw15 := write_no w14 _ hb D _ _ (zeros 257) 0 hD14 hz14 (by rw [hdl]; decide)
    rw [hdl] at hw15
    (try unfold ptr at *)
    repeat (first | with_reducible refine T_seq ?_ | with_reducible refine T_region ?_ | with_reducible refine U_nil ?_ | refine U_ar rfl rfl rfl (wrap_i64 (by omega)) rfl ?_ | refine U_pure E rfl rfl ?_ | with_reducible refine T_skip ?_ | with_reducible refine T_block ?_ | with_reducible refine T_inBlock ?_ | refine T_exit rfl ?_ | refine T_condV rfl ?_ | with_reducible refine Cnd_t ?_ | with_reducible refine Cnd_f ?_ | with_reducible refine Cnd_not ?_ | with_reducible refine Cnd_some ?_ | with_reducible refine Cnd_none ?_ | refine U_guard rfl rfl ?_ | with_reducible refine Gd_nt ?_ | with_reducible refine Gd_nf ?_ | with_reducible refine Gd_some ?_ | with_reducible refine Gd_none ?_ | with_reducible refine Gd_want ?_ | ((with_reducible refine Gd_skipT ?_ ?_); exact rfl) | ((with_reducible refine Gd_skipF ?_ ?_); exact rfl))
    refine U_call rfl rfl (Tryd.call27 _) (hw15) ?_
    rintro r w15 ⟨rfl, hk15, s15, hD15⟩
    have hk15' : Kept none0 w w15 := hk14'.tr hk15 (fun j hj (e : j = hb) => by omega)
    have hp15 := hp14.mv hk15 (fun b _ g1 (g2 : b = hb) => hFG b g1 (by rw [g2]; exact hFb9.1))
    repeat (first | with_reducible refine T_seq ?_ | with_reducible refine T_region ?_ | with_reducible refine U_nil ?_ | refine U_ar rfl rfl rfl (wrap_i64 (by omega)) rfl ?_ | refine U_pure E rfl rfl ?_ | with_reducible refine T_skip ?_ | with_reducible refine T_block ?_ | with_reducible refine T_inBlock ?_ | refine T_exit rfl ?_ | refine T_condV rfl ?_ | with_reducible refine Cnd_t ?_ | with_reducible refine Cnd_f ?_ | with_reducible refine Cnd_not ?_ | with_reducible refine Cnd_some ?_ | with_reducible refine Cnd_none ?_ | refine U_guard rfl rfl ?_ | with_reducible refine Gd_nt ?_ | with_reducible refine Gd_nf ?_ | with_reducible refine Gd_some ?_ | with_reducible refine Gd_none ?_ | with_reducible refine Gd_want ?_ | ((with_reducible refine Gd_skipT ?_ ?_); exact rfl) | ((with_reducible refine Gd_skipF ?_ ?_); exact rfl))
    refine U_call rfl rfl (Tryd.call28 _) (code_c w15 4 (hL.mv hk15' (fun x => x))) ?_
    rintro r w16 ⟨rfl, hk16⟩
    have hk16' : Kept none0 w w16 := hk15'.tr hk16 (fun _ _ x => x)
    have hp16 := hp15.mv hk16 (fun _ _ _ x => x)
    have hD16 := hD15.mv hk16 (fun _ _ _ x => x)
    repeat (first | with_reducible refine T_seq ?_ | with_reducible refine T_region ?_ | with_reducible refine U_nil ?_ | refine U_ar rfl rfl rfl (wrap_i64 (by omega)) rfl ?_ | refine U_pure E rfl rfl ?_ | with_reducible refine T_skip ?_ | with_reducible refine T_block ?_ | with_reducible refine T_inBlock ?_ | refine T_exit rfl ?_ | refine T_condV rfl ?_ | with_reducible refine Cnd_t ?_ | with_reducible refine Cnd_f ?_ | with_reducible refine Cnd_not ?_ | with_reducible refine Cnd_some ?_ | with_reducible refine Cnd_none ?_ | refine U_guard rfl rfl ?_ | with_reducible refine Gd_nt ?_ | with_reducible refine Gd_nf ?_ | with_reducible refine Gd_some ?_ | with_reducible refine Gd_none ?_ | with_reducible refine Gd_want ?_ | ((with_reducible refine Gd_skipT ?_ ?_); exact rfl) | ((with_reducible refine Gd_skipF ?_ ?_); exact rfl))
    refine Cnd_p (fun hzz => ?_) (fun hzz => ?_)
    · exact absurd rfl hzz
    · have harm := arm_c w16 _ hb D (-7) hD16 (by decide)
      (try unfold ptr at *)
      repeat (first | with_reducible refine T_seq ?_ | with_reducible refine T_region ?_ | with_reducible refine U_nil ?_ | refine U_ar rfl rfl rfl (wrap_i64 (by omega)) rfl ?_ | refine U_pure E rfl rfl ?_ | with_reducible refine T_skip ?_ | with_reducible refine T_block ?_ | with_reducible refine T_inBlock ?_ | refine T_exit rfl ?_ | refine T_condV rfl ?_ | with_reducible refine Cnd_t ?_ | with_reducible refine Cnd_f ?_ | with_reducible refine Cnd_not ?_ | with_reducible refine Cnd_some ?_ | with_reducible refine Cnd_none ?_ | refine U_guard rfl rfl ?_ | with_reducible refine Gd_nt ?_ | with_reducible refine Gd_nf ?_ | with_reducible refine Gd_some ?_ | with_reducible refine Gd_none ?_ | with_reducible refine Gd_want ?_ | ((with_reducible refine Gd_skipT ?_ ?_); exact rfl) | ((with_reducible refine Gd_skipF ?_ ?_); exact rfl))
      refine U_call rfl rfl (Tryd.call25 _) (harm) ?_
      rintro r w17 ⟨rfl, hk17, s17, hD17⟩
      have hk17' : Kept none0 w w17 := hk16'.tr hk17 (fun j hj (e : j = hb) => by omega)
      have hp17 := hp16.mv hk17 (fun b _ g1 (g2 : b = hb) => hFG b g1 (by rw [g2]; exact hFb9.1))
      have hD17 : IsD w17 (fun j => F j ∧ j < w5.heap.size) hb { D with left := -1 } := hD17
      have hw18 := write_ok w17 _ hb _ _ rp P 0 hD17 hp17 (fun b g1 g2 => hFG b g1 g2.1) hy0 (by dsimp only; omega)
      rw [wrDr, if_pos hy0] at hw18
      (try unfold ptr at *)
      repeat (first | with_reducible refine T_seq ?_ | with_reducible refine T_region ?_ | with_reducible refine U_nil ?_ | refine U_ar rfl rfl rfl (wrap_i64 (by omega)) rfl ?_ | refine U_pure E rfl rfl ?_ | with_reducible refine T_skip ?_ | with_reducible refine T_block ?_ | with_reducible refine T_inBlock ?_ | refine T_exit rfl ?_ | refine T_condV rfl ?_ | with_reducible refine Cnd_t ?_ | with_reducible refine Cnd_f ?_ | with_reducible refine Cnd_not ?_ | with_reducible refine Cnd_some ?_ | with_reducible refine Cnd_none ?_ | refine U_guard rfl rfl ?_ | with_reducible refine Gd_nt ?_ | with_reducible refine Gd_nf ?_ | with_reducible refine Gd_some ?_ | with_reducible refine Gd_none ?_ | with_reducible refine Gd_want ?_ | ((with_reducible refine Gd_skipT ?_ ?_); exact rfl) | ((with_reducible refine Gd_skipF ?_ ?_); exact rfl))
      refine U_call rfl rfl (Tryd.call27 _) (hw18) ?_
      rintro r w18 ⟨rfl, hk18, hD18⟩
      unfold errV
      have hk18' : Kept none0 w w18 := hk17'.tr hk18 (fun j hj e => by have := hFw j e.1; omega)
      have s18 := hk17'.size
      have hf19 := flush_ok w18 _ hb _ hD18 (show dec (-1) ≠ 0 by decide)
      (try unfold ptr at *)
      repeat (first | with_reducible refine T_seq ?_ | with_reducible refine T_region ?_ | with_reducible refine U_nil ?_ | refine U_ar rfl rfl rfl (wrap_i64 (by omega)) rfl ?_ | refine U_pure E rfl rfl ?_ | with_reducible refine T_skip ?_ | with_reducible refine T_block ?_ | with_reducible refine T_inBlock ?_ | refine T_exit rfl ?_ | refine T_condV rfl ?_ | with_reducible refine Cnd_t ?_ | with_reducible refine Cnd_f ?_ | with_reducible refine Cnd_not ?_ | with_reducible refine Cnd_some ?_ | with_reducible refine Cnd_none ?_ | refine U_guard rfl rfl ?_ | with_reducible refine Gd_nt ?_ | with_reducible refine Gd_nf ?_ | with_reducible refine Gd_some ?_ | with_reducible refine Gd_none ?_ | with_reducible refine Gd_want ?_ | ((with_reducible refine Gd_skipT ?_ ?_); exact rfl) | ((with_reducible refine Gd_skipF ?_ ?_); exact rfl))
      refine U_call rfl rfl (Tryd.call26 _) (hf19) ?_
      rintro r w19 ⟨rfl, hk19, _⟩
      unfold errV
      repeat (first | with_reducible refine T_seq ?_ | with_reducible refine T_region ?_ | with_reducible refine U_nil ?_ | refine U_ar rfl rfl rfl (wrap_i64 (by omega)) rfl ?_ | refine U_pure E rfl rfl ?_ | with_reducible refine T_skip ?_ | with_reducible refine T_block ?_ | with_reducible refine T_inBlock ?_ | refine T_exit rfl ?_ | refine T_condV rfl ?_ | with_reducible refine Cnd_t ?_ | with_reducible refine Cnd_f ?_ | with_reducible refine Cnd_not ?_ | with_reducible refine Cnd_some ?_ | with_reducible refine Cnd_none ?_ | refine U_guard rfl rfl ?_ | with_reducible refine Gd_nt ?_ | with_reducible refine Gd_nf ?_ | with_reducible refine Gd_some ?_ | with_reducible refine Gd_none ?_ | with_reducible refine Gd_want ?_ | ((with_reducible refine Gd_skipT ?_ ?_); exact rfl) | ((with_reducible refine Gd_skipF ?_ ?_); exact rfl))
      exact T_ret1 Tryd.func4 rfl rfl ⟨_, rfl, rfl, hk18'.tr hk19 (fun j hj e => e.elim (fun x => by have := hFw j x.1; omega) (fun x => by omega))⟩
end Go.Proofs.YtoefhdaenaiomaaDoor
