/- DrumTurns: the walk. -/
import Derived.Test.YtoefhdaenaiomaaDrumK
import Derived.Test.YtoefhdaenaiomaaDrumL
namespace Go.Proofs.Ytoefhdaenaiomaa
open Go

theorem sec_self {s : List UInt8} (h : s.length = 256) : sec s = s := by
  rw [sec, List.take_append_of_le_length (by omega), List.take_of_length_le (by omega)]

/-- Low bits that are not turned. -/
theorem lost_iff {S S1 : List UInt8} {k mask : Nat} (hS : S.length = 256) (h1 : S1.length = 256) (hm : mask < 4294967296) (hk : k < 2048) (hb : ∀ j, j < 2048 → bitAt S1 j = (bitAt S j ^^ (decide (k ≤ j) && mask.testBit (j - k)))) :
    S = S1 ↔ mask % 2 ^ (min 32 (2048 - k)) = 0 := by
  constructor
  · intro e
    apply Nat.eq_of_testBit_eq
    intro i
    rw [Nat.testBit_mod_two_pow, Nat.zero_testBit]
    by_cases hi : i < min 32 (2048 - k)
    · have := hb (k + i) (by omega)
      rw [← e] at this
      have h2 : k + i - k = i := by omega
      simp only [Nat.le_add_right, decide_true, Bool.true_and, h2] at this
      cases hq : mask.testBit i with
      | false => simp
      | true => rw [hq] at this; cases hx : bitAt S (k + i) <;> rw [hx] at this <;> cases this
    · simp [hi]
  · intro e
    refine bits_ext (n := 256) hS h1 (fun j hj => ?_)
    rw [hb j (by omega)]
    by_cases hkj : k ≤ j
    · have : mask.testBit (j - k) = false := by
        by_cases hi : j - k < min 32 (2048 - k)
        · have h3 := congrArg (fun x => x.testBit (j - k)) e
          simp only [Nat.testBit_mod_two_pow, hi, decide_true, Bool.true_and, Nat.zero_testBit] at h3
          exact h3
        · exact Nat.testBit_lt_two_pow (Nat.lt_of_lt_of_le (m := 2 ^ 32) hm (Nat.pow_le_pow_right (by decide) (by omega)))
      simp [this]
    · simp [hkj]

/-- The drum, as it is flushed or not. -/
def drT (fr : Bool) (S : List UInt8) : Dr := ⟨[zeros 256, if fr then zeros 256 else S], if fr then [(1, S)] else [], -1⟩
theorem drT_len (fr : Bool) (S : List UInt8) : (drT fr S).l.length = 2 := rfl

section
variable {P : Program} {w : World} {t : TypeId} {k : IntKind} {x y : Nat} {m : Fm} {n : Nat} {ty : TypeId} {ps : String} {af : Array Edge}
theorem run_shlw (kd : IntKind) (hs : k.signed = false) (h : y ≤ k.bits) : (binOp .shl t (.int k x) (.int kd y)).run P w = .ok (.int k (x * 2 ^ y % 2 ^ k.bits : Nat)) w := by
  have h0 : ¬ ((y : Int) < 0) := by omega
  have h1 : k.wrap ((x : Int) * 2 ^ y) = ((x * 2 ^ y % 2 ^ k.bits : Nat) : Int) := by
    simp [IntKind.wrap, hs]
  simp [binOp, Op.shift, h0, Nat.min_eq_left h, h1]
theorem ro_min {ats : Array TypeId} {u v : Operand} {kx ky : IntKind} {p q r : Int} (hx : ev m u = some (.int kx p)) (hy : ev m v = some (.int ky q)) (hr : (if q < p then q else p) = r) {dst : Option Tmp} {gd : Option (Nat × Bool)} :
    ∀ a, Fits a n m → (execOp a.eval { dst := dst, op := .call { callee := .builtin .min, args := #[u, v], argTypes := ats }, type := ty, pos := ps, after := af, guard := gd }).run P w = .ok (.value (.int kx r)) w := by
  intro a ha
  simp only [execOp, resolve, invoke, builtin, Sem.run_bind, Sem.run_pure, Result.andThen_ok, List.map_toArray, List.map_cons, List.map_nil, ha.eval hx, ha.eval hy, run_min_int2, hr]
end

set_option maxRecDepth 4000 in
set_option maxHeartbeats 1000000 in
theorem turns_c (w : World) (vp : Value) (p : List UInt8) (bit mask : Nat) (fr : Bool) (h1 : BS w (old w) vp p) (hbit : bit < 65536) (hmask : mask < 4294967296) :
    Calls Try.prog 5 [vp, .int .u16 bit, .int .u32 mask, .bool fr].toArray w (Ret fun r w' => r = .bool true ∧ Kept none0 w w') := by
  refine calls_T Try.func5 rfl rfl rfl ?_
  repeat (first | with_reducible refine T_seq ?_ | with_reducible refine T_region ?_ | with_reducible refine U_nil ?_ | refine U_ar rfl rfl rfl (wrap_i64 (by omega)) rfl ?_ | refine U_pure E rfl rfl ?_ | with_reducible refine T_skip ?_ | with_reducible refine T_block ?_ | with_reducible refine T_inBlock ?_ | refine T_exit rfl ?_ | refine T_condV rfl ?_ | with_reducible refine Cnd_t ?_ | with_reducible refine Cnd_f ?_ | with_reducible refine Cnd_not ?_ | with_reducible refine Cnd_some ?_ | with_reducible refine Cnd_none ?_ | refine U_guard rfl rfl ?_ | with_reducible refine Gd_nt ?_ | with_reducible refine Gd_nf ?_ | with_reducible refine Gd_some ?_ | with_reducible refine Gd_none ?_ | with_reducible refine Gd_want ?_ | ((with_reducible refine Gd_skipT ?_ ?_); exact rfl) | ((with_reducible refine Gd_skipF ?_ ?_); exact rfl))
  refine U_call rfl rfl (Try.call6 _) (awake_c w) ?_
  rintro r w1 ⟨rfl, hk1⟩
  repeat (first | with_reducible refine T_seq ?_ | with_reducible refine T_region ?_ | with_reducible refine U_nil ?_ | refine U_ar rfl rfl rfl (wrap_i64 (by omega)) rfl ?_ | refine U_pure E rfl rfl ?_ | with_reducible refine T_skip ?_ | with_reducible refine T_block ?_ | with_reducible refine T_inBlock ?_ | refine T_exit rfl ?_ | refine T_condV rfl ?_ | with_reducible refine Cnd_t ?_ | with_reducible refine Cnd_f ?_ | with_reducible refine Cnd_not ?_ | with_reducible refine Cnd_some ?_ | with_reducible refine Cnd_none ?_ | refine U_guard rfl rfl ?_ | with_reducible refine Gd_nt ?_ | with_reducible refine Gd_nf ?_ | with_reducible refine Gd_some ?_ | with_reducible refine Gd_none ?_ | with_reducible refine Gd_want ?_ | ((with_reducible refine Gd_skipT ?_ ?_); exact rfl) | ((with_reducible refine Gd_skipF ?_ ?_); exact rfl))
  refine U_call rfl rfl (Try.call7 _) (cut_c w1 _ vp p 256 (h1.mv hk1 (fun _ _ _ x => x)) (by decide)) ?_
  rintro r1 w2 ⟨hk2, hr1⟩
  have hk2' : Kept none0 w w2 := hk1.tr hk2 (fun _ _ x => x)
  obtain ⟨P, hP⟩ : ∃ P, p.take (Int.toNat 256) = P := ⟨_, rfl⟩
  have lP : P.length ≤ 256 := by rw [← hP, List.length_take]; omega
  rw [hP] at hr1
  repeat (first | with_reducible refine T_seq ?_ | with_reducible refine T_region ?_ | with_reducible refine U_nil ?_ | refine U_ar rfl rfl rfl (wrap_i64 (by omega)) rfl ?_ | refine U_pure E rfl rfl ?_ | with_reducible refine T_skip ?_ | with_reducible refine T_block ?_ | with_reducible refine T_inBlock ?_ | refine T_exit rfl ?_ | refine T_condV rfl ?_ | with_reducible refine Cnd_t ?_ | with_reducible refine Cnd_f ?_ | with_reducible refine Cnd_not ?_ | with_reducible refine Cnd_some ?_ | with_reducible refine Cnd_none ?_ | refine U_guard rfl rfl ?_ | with_reducible refine Gd_nt ?_ | with_reducible refine Gd_nf ?_ | with_reducible refine Gd_some ?_ | with_reducible refine Gd_none ?_ | with_reducible refine Gd_want ?_ | ((with_reducible refine Gd_skipT ?_ ?_); exact rfl) | ((with_reducible refine Gd_skipF ?_ ?_); exact rfl))
  refine U_call rfl rfl (Try.call13 _) (full_c w2 _ r1 P (hr1.sl (by omega))) ?_
  rintro r w3 ⟨hk3, b1, _, rfl, hb1⟩
  have hk3' : Kept none0 w w3 := hk2'.tr hk3 (fun _ _ x => x)
  obtain ⟨S, hS⟩ : ∃ S, sec P = S := ⟨_, rfl⟩
  rw [hS] at hb1
  have lS : S.length = 256 := by rw [← hS, sec_len]
  have hp3 : BS w3 (old w3) (.slice (some ⟨b1, 0, none⟩) 256 256) S := blk_bs hb1 lS hb1.lt
  repeat (first | with_reducible refine T_seq ?_ | with_reducible refine T_region ?_ | with_reducible refine U_nil ?_ | refine U_ar rfl rfl rfl (wrap_i64 (by omega)) rfl ?_ | refine U_pure E rfl rfl ?_ | with_reducible refine T_skip ?_ | with_reducible refine T_block ?_ | with_reducible refine T_inBlock ?_ | refine T_exit rfl ?_ | refine T_condV rfl ?_ | with_reducible refine Cnd_t ?_ | with_reducible refine Cnd_f ?_ | with_reducible refine Cnd_not ?_ | with_reducible refine Cnd_some ?_ | with_reducible refine Cnd_none ?_ | refine U_guard rfl rfl ?_ | with_reducible refine Gd_nt ?_ | with_reducible refine Gd_nf ?_ | with_reducible refine Gd_some ?_ | with_reducible refine Gd_none ?_ | with_reducible refine Gd_want ?_ | ((with_reducible refine Gd_skipT ?_ ?_); exact rfl) | ((with_reducible refine Gd_skipF ?_ ?_); exact rfl))
  refine U_call rfl rfl (Try.call8 _) (new_c w3 2 (by decide)) ?_
  rintro r w4 ⟨hk4, hb, rfl, hD4⟩
  have hD4 : IsD w4 (fresh w3) hb ⟨[zeros 256, zeros 256], [], -1⟩ := hD4
  have s4 := hk4.size
  unfold ptr at *
  repeat (first | with_reducible refine T_seq ?_ | with_reducible refine T_region ?_ | with_reducible refine U_nil ?_ | refine U_ar rfl rfl rfl (wrap_i64 (by omega)) rfl ?_ | refine U_pure E rfl rfl ?_ | with_reducible refine T_skip ?_ | with_reducible refine T_block ?_ | with_reducible refine T_inBlock ?_ | refine T_exit rfl ?_ | refine T_condV rfl ?_ | with_reducible refine Cnd_t ?_ | with_reducible refine Cnd_f ?_ | with_reducible refine Cnd_not ?_ | with_reducible refine Cnd_some ?_ | with_reducible refine Cnd_none ?_ | refine U_guard rfl rfl ?_ | with_reducible refine Gd_nt ?_ | with_reducible refine Gd_nf ?_ | with_reducible refine Gd_some ?_ | with_reducible refine Gd_none ?_ | with_reducible refine Gd_want ?_ | ((with_reducible refine Gd_skipT ?_ ?_); exact rfl) | ((with_reducible refine Gd_skipF ?_ ?_); exact rfl))
  have hw5 := wr_c w3 w4 hb _ _ _ S 1 1 rfl s4 hD4 (hp3.mv hk4 (fun _ _ _ x => x)) (by simp) (by omega) (by simp)
  (try unfold ptr at *)
  refine U_call rfl rfl (Try.call9 _) (hw5) ?_
  rintro r w5 ⟨rfl, hk5, hD5⟩
  have hD5 : IsD w5 (fresh w3) hb ⟨[zeros 256, zeros 256], [(1, sec S)], -1⟩ := hD5
  rw [sec_self lS] at hD5
  have hk35 : Kept (fresh w3) w3 w5 := (hk4.mono (fun _ _ x => x.elim)).tr hk5 (fun _ _ x => x)
  unfold errV
  repeat (first | with_reducible refine T_seq ?_ | with_reducible refine T_region ?_ | with_reducible refine U_nil ?_ | refine U_ar rfl rfl rfl (wrap_i64 (by omega)) rfl ?_ | refine U_pure E rfl rfl ?_ | with_reducible refine T_skip ?_ | with_reducible refine T_block ?_ | with_reducible refine T_inBlock ?_ | refine T_exit rfl ?_ | refine U_guard rfl rfl ?_ | with_reducible refine Gd_nt ?_ | with_reducible refine Gd_nf ?_ | with_reducible refine Gd_some ?_ | with_reducible refine Gd_none ?_ | with_reducible refine Gd_want ?_ | ((with_reducible refine Gd_skipT ?_ ?_); exact rfl) | ((with_reducible refine Gd_skipF ?_ ?_); exact rfl))
  refine T_via (α := Unit) (fun _ => [(9, .pointer (some ⟨hb, 0, none⟩)), (0, .slice (some ⟨b1, 0, none⟩) 256 256), (1, .int .u16 bit), (2, .int .u32 mask), (3, .bool fr)]) (fun _ w' => Kept (fresh w3) w3 w' ∧ IsD w' (fresh w3) hb (drT fr S)) ?fin ?go
  case go =>
    intro fin
    refine T_condV rfl ?_
    refine Cnd_not ?_
    refine Cnd_b (fun hf => ?_) (fun hf => ?_)
    · subst hf
      refine T_skip ?_
      refine T.less ?_ (fin () w5 ⟨hk35, hD5⟩)
      exact ⟨rfl, rfl, rfl, rfl, rfl, trivial⟩
    · subst hf
      refine T_region ?_
      repeat (first | refine U_ar rfl rfl rfl (wrap_i64 (by omega)) rfl ?_ | refine U_pure E rfl rfl ?_)
      have hf6 := flush_ok w5 (fresh w3) hb _ hD5 (by simp)
      (try unfold ptr at *)
      refine U_call rfl rfl (Try.call10 _) (hf6) ?_
      rintro r w6 ⟨rfl, hk6, hD6⟩
      refine U_nil ?_
      refine T.less ?_ (fin () w6 ⟨hk35.tr hk6 (fun _ _ x => x), hD6⟩)
      exact ⟨rfl, rfl, rfl, rfl, rfl, trivial⟩
  case fin =>
    rintro ⟨⟩ w6 ⟨hk6, hD6⟩
    obtain ⟨D, hD⟩ : ∃ D, drT fr S = D := ⟨_, rfl⟩
    rw [hD] at hD6
    have lD : D.l.length = 2 := by rw [← hD]; rfl
    have hil : 1 < D.l.length := by omega
    obtain ⟨k, hk⟩ : ∃ k, bit % 2048 = k := ⟨_, rfl⟩
    have hk20 : k < 2048 := by omega
    repeat (first | with_reducible refine T_seq ?_ | with_reducible refine T_region ?_ | with_reducible refine U_nil ?_ | refine U_ar rfl rfl rfl (wrap_i64 (by omega)) rfl ?_ | refine U_pure E rfl rfl ?_ | with_reducible refine T_skip ?_ | with_reducible refine T_block ?_ | with_reducible refine T_inBlock ?_ | refine T_exit rfl ?_ | refine T_condV rfl ?_ | with_reducible refine Cnd_t ?_ | with_reducible refine Cnd_f ?_ | with_reducible refine Cnd_not ?_ | with_reducible refine Cnd_some ?_ | with_reducible refine Cnd_none ?_ | refine U_guard rfl rfl ?_ | with_reducible refine Gd_nt ?_ | with_reducible refine Gd_nf ?_ | with_reducible refine Gd_some ?_ | with_reducible refine Gd_none ?_ | with_reducible refine Gd_want ?_ | ((with_reducible refine Gd_skipT ?_ ?_); exact rfl) | ((with_reducible refine Gd_skipF ?_ ?_); exact rfl))
    refine U_run rfl rfl rfl (ro_bin (k' := .i64) (p := IntKind.i64.wrap (bit : Int)) (q := ((2048 : Nat) : Int)) (r := .int .i64 (k : Nat)) rfl rfl (by rw [wrap_i64 (by omega), ← hk]; exact run_rem (by decide))) ?_
    have ht7 := turn_c w6 (fresh w3) hb D 1 k mask hD6 hmask hil hk20
    unfold ptr at *
    repeat (first | with_reducible refine T_seq ?_ | with_reducible refine T_region ?_ | with_reducible refine U_nil ?_ | refine U_ar rfl rfl rfl (wrap_i64 (by omega)) rfl ?_ | refine U_pure E rfl rfl ?_ | with_reducible refine T_skip ?_ | with_reducible refine T_block ?_ | with_reducible refine T_inBlock ?_ | refine T_exit rfl ?_ | refine T_condV rfl ?_ | with_reducible refine Cnd_t ?_ | with_reducible refine Cnd_f ?_ | with_reducible refine Cnd_not ?_ | with_reducible refine Cnd_some ?_ | with_reducible refine Cnd_none ?_ | refine U_guard rfl rfl ?_ | with_reducible refine Gd_nt ?_ | with_reducible refine Gd_nf ?_ | with_reducible refine Gd_some ?_ | with_reducible refine Gd_none ?_ | with_reducible refine Gd_want ?_ | ((with_reducible refine Gd_skipT ?_ ?_); exact rfl) | ((with_reducible refine Gd_skipF ?_ ?_); exact rfl))
    refine U_call rfl rfl (Try.call18 _) (ht7) ?_
    rintro r w7 ⟨rfl, hk7, s1, ls1, hb1', hD7⟩
    have hk37 : Kept (fresh w3) w3 w7 := hk6.tr hk7 (fun _ _ x => x)
    unfold errV
    have hil7 : 1 < (D.l.set 1 s1).length := by rw [List.length_set]; exact hil
    have hrd8 := read_c w7 (fresh w3) hb _ 1 hD7 hil7
    (try unfold ptr at *)
    repeat (first | with_reducible refine T_seq ?_ | with_reducible refine T_region ?_ | with_reducible refine U_nil ?_ | refine U_ar rfl rfl rfl (wrap_i64 (by omega)) rfl ?_ | refine U_pure E rfl rfl ?_ | with_reducible refine T_skip ?_ | with_reducible refine T_block ?_ | with_reducible refine T_inBlock ?_ | refine T_exit rfl ?_ | refine T_condV rfl ?_ | with_reducible refine Cnd_t ?_ | with_reducible refine Cnd_f ?_ | with_reducible refine Cnd_not ?_ | with_reducible refine Cnd_some ?_ | with_reducible refine Cnd_none ?_ | refine U_guard rfl rfl ?_ | with_reducible refine Gd_nt ?_ | with_reducible refine Gd_nf ?_ | with_reducible refine Gd_some ?_ | with_reducible refine Gd_none ?_ | with_reducible refine Gd_want ?_ | ((with_reducible refine Gd_skipT ?_ ?_); exact rfl) | ((with_reducible refine Gd_skipF ?_ ?_); exact rfl))
    refine U_call rfl rfl (Try.call12 _) (hrd8) ?_
    rintro r w8 ⟨b8, rfl, _, hb8, hk8⟩
    have hk38 : Kept (fresh w3) w3 w8 := hk37.tr hk8 (fun _ _ x => x.elim)
    have hD8 := hD7.mv hk8 (fun _ _ _ x => x)
    dsimp only at hb8
    obtain ⟨q, hq⟩ : ∃ q, nowS (D.l.set 1 s1) D.wait 1 = q := ⟨_, rfl⟩
    rw [hq] at hb8
    have lq : q.length = 256 := by
      rw [← hq]
      exact nowS_len _ _ 1 hD7.1.secs (fun p hp => (hD7.1.waits p hp).2) hil7
    have hsq : BS w8 (fun _ => True) (.slice (some ⟨b8, 0, none⟩) 256 256) q := blk_bs hb8 lq trivial
    have hp8 := hp3.mv hk38 (old_fresh (Nat.le_refl _))
    repeat (first | with_reducible refine T_seq ?_ | with_reducible refine T_region ?_ | with_reducible refine U_nil ?_ | refine U_ar rfl rfl rfl (wrap_i64 (by omega)) rfl ?_ | refine U_pure E rfl rfl ?_ | with_reducible refine T_skip ?_ | with_reducible refine T_block ?_ | with_reducible refine T_inBlock ?_ | refine T_exit rfl ?_ | refine T_condV rfl ?_ | with_reducible refine Cnd_t ?_ | with_reducible refine Cnd_f ?_ | with_reducible refine Cnd_not ?_ | with_reducible refine Cnd_some ?_ | with_reducible refine Cnd_none ?_ | refine U_guard rfl rfl ?_ | with_reducible refine Gd_nt ?_ | with_reducible refine Gd_nf ?_ | with_reducible refine Gd_some ?_ | with_reducible refine Gd_none ?_ | with_reducible refine Gd_want ?_ | ((with_reducible refine Gd_skipT ?_ ?_); exact rfl) | ((with_reducible refine Gd_skipF ?_ ?_); exact rfl))
    refine U_call rfl rfl (Try.call14 _) (ret_of (same_c w8 _ _ _ _ _ _ hp8 hsq)) ?_
    rintro r w9 ⟨rfl, hd9⟩
    have hk9 := hd9.kept none0
    have hD9 := hD8.mv hk9 (fun _ _ _ x => x)
    have hk39 : Kept (fresh w3) w3 w9 := hk38.tr hk9 (fun _ _ x => x.elim)
    have ht10 := turn_c w9 (fresh w3) hb _ 1 k mask hD9 hmask hil7 hk20
    (try unfold ptr at *)
    repeat (first | with_reducible refine T_seq ?_ | with_reducible refine T_region ?_ | with_reducible refine U_nil ?_ | refine U_ar rfl rfl rfl (wrap_i64 (by omega)) rfl ?_ | refine U_pure E rfl rfl ?_ | with_reducible refine T_skip ?_ | with_reducible refine T_block ?_ | with_reducible refine T_inBlock ?_ | refine T_exit rfl ?_ | refine T_condV rfl ?_ | with_reducible refine Cnd_t ?_ | with_reducible refine Cnd_f ?_ | with_reducible refine Cnd_not ?_ | with_reducible refine Cnd_some ?_ | with_reducible refine Cnd_none ?_ | refine U_guard rfl rfl ?_ | with_reducible refine Gd_nt ?_ | with_reducible refine Gd_nf ?_ | with_reducible refine Gd_some ?_ | with_reducible refine Gd_none ?_ | with_reducible refine Gd_want ?_ | ((with_reducible refine Gd_skipT ?_ ?_); exact rfl) | ((with_reducible refine Gd_skipF ?_ ?_); exact rfl))
    refine U_call rfl rfl (Try.call18 _) (ht10) ?_
    rintro r w10 ⟨rfl, hk10, s2, ls2, hb2', hD10⟩
    unfold errV
    have hsec1 : D.l[1].length = 256 := hD6.1.secs _ (List.getElem_mem hil)
    have e2 : s2 = D.l[1] := by
      refine bits_ext (n := 256) ls2 hsec1 (fun j hj => ?_)
      rw [hb2' j (by omega)]
      have : (D.l.set 1 s1)[1]'hil7 = s1 := by simp
      rw [this, hb1' j (by omega), Bool.xor_assoc, Bool.xor_self, Bool.xor_false]
    subst e2
    dsimp only at hD10
    rw [List.set_set, List.set_getElem_self] at hD10
    have hD10' : IsD w10 (fresh w3) hb D := hD10
    have hk310 : Kept (fresh w3) w3 w10 := hk39.tr hk10 (fun _ _ x => x)
    have hrd11 := read_c w10 (fresh w3) hb D 1 hD10' hil
    (try unfold ptr at *)
    repeat (first | with_reducible refine T_seq ?_ | with_reducible refine T_region ?_ | with_reducible refine U_nil ?_ | refine U_ar rfl rfl rfl (wrap_i64 (by omega)) rfl ?_ | refine U_pure E rfl rfl ?_ | with_reducible refine T_skip ?_ | with_reducible refine T_block ?_ | with_reducible refine T_inBlock ?_ | refine T_exit rfl ?_ | refine T_condV rfl ?_ | with_reducible refine Cnd_t ?_ | with_reducible refine Cnd_f ?_ | with_reducible refine Cnd_not ?_ | with_reducible refine Cnd_some ?_ | with_reducible refine Cnd_none ?_ | refine U_guard rfl rfl ?_ | with_reducible refine Gd_nt ?_ | with_reducible refine Gd_nf ?_ | with_reducible refine Gd_some ?_ | with_reducible refine Gd_none ?_ | with_reducible refine Gd_want ?_ | ((with_reducible refine Gd_skipT ?_ ?_); exact rfl) | ((with_reducible refine Gd_skipF ?_ ?_); exact rfl))
    refine U_call rfl rfl (Try.call12 _) (hrd11) ?_
    rintro r w11 ⟨b11, rfl, _, hb11, hk11⟩
    have hnow : nowS D.l D.wait 1 = S := by
      rw [← hD]
      cases fr <;> rfl
    rw [hnow] at hb11
    have hsr : BS w11 (fun _ => True) (.slice (some ⟨b11, 0, none⟩) 256 256) S := blk_bs hb11 lS trivial
    have hk311 : Kept (fresh w3) w3 w11 := hk310.tr hk11 (fun _ _ x => x.elim)
    have hp11 := hp3.mv hk311 (old_fresh (Nat.le_refl _))
    obtain ⟨c, hc⟩ : ∃ c, min 32 (2048 - k) = c := ⟨_, rfl⟩
    have hc32 : c ≤ 32 := by omega
    repeat (first | with_reducible refine T_seq ?_ | with_reducible refine T_region ?_ | with_reducible refine U_nil ?_ | refine U_ar rfl rfl rfl (wrap_i64 (by omega)) rfl ?_ | refine U_pure E rfl rfl ?_ | with_reducible refine T_skip ?_ | with_reducible refine T_block ?_ | with_reducible refine T_inBlock ?_ | refine T_exit rfl ?_ | refine T_condV rfl ?_ | with_reducible refine Cnd_t ?_ | with_reducible refine Cnd_f ?_ | with_reducible refine Cnd_not ?_ | with_reducible refine Cnd_some ?_ | with_reducible refine Cnd_none ?_ | refine U_guard rfl rfl ?_ | with_reducible refine Gd_nt ?_ | with_reducible refine Gd_nf ?_ | with_reducible refine Gd_some ?_ | with_reducible refine Gd_none ?_ | with_reducible refine Gd_want ?_ | ((with_reducible refine Gd_skipT ?_ ?_); exact rfl) | ((with_reducible refine Gd_skipF ?_ ?_); exact rfl))
    refine U_run rfl rfl rfl (ro_min (r := (c : Int)) rfl rfl (by split <;> omega)) ?_
    repeat (first | with_reducible refine T_seq ?_ | with_reducible refine T_region ?_ | with_reducible refine U_nil ?_ | refine U_ar rfl rfl rfl (wrap_i64 (by omega)) rfl ?_ | refine U_pure E rfl rfl ?_ | with_reducible refine T_skip ?_ | with_reducible refine T_block ?_ | with_reducible refine T_inBlock ?_ | refine T_exit rfl ?_ | refine T_condV rfl ?_ | with_reducible refine Cnd_t ?_ | with_reducible refine Cnd_f ?_ | with_reducible refine Cnd_not ?_ | with_reducible refine Cnd_some ?_ | with_reducible refine Cnd_none ?_ | refine U_guard rfl rfl ?_ | with_reducible refine Gd_nt ?_ | with_reducible refine Gd_nf ?_ | with_reducible refine Gd_some ?_ | with_reducible refine Gd_none ?_ | with_reducible refine Gd_want ?_ | ((with_reducible refine Gd_skipT ?_ ?_); exact rfl) | ((with_reducible refine Gd_skipF ?_ ?_); exact rfl))
    refine U_run rfl rfl rfl (ro_bin (k' := .i64) (p := (mask : Int)) (q := (32 : Int) - (c : Int)) (r := .int .u32 (mask * 2 ^ (32 - c) % 2 ^ 32 : Nat)) rfl rfl (by rw [show (32 : Int) - (c : Int) = ((32 - c : Nat) : Int) by omega]; exact run_shlw .i64 rfl (by show 32 - c ≤ 32; omega))) ?_
    repeat (first | with_reducible refine T_seq ?_ | with_reducible refine T_region ?_ | with_reducible refine U_nil ?_ | refine U_ar rfl rfl rfl (wrap_i64 (by omega)) rfl ?_ | refine U_pure E rfl rfl ?_ | with_reducible refine T_skip ?_ | with_reducible refine T_block ?_ | with_reducible refine T_inBlock ?_ | refine T_exit rfl ?_ | refine T_condV rfl ?_ | with_reducible refine Cnd_t ?_ | with_reducible refine Cnd_f ?_ | with_reducible refine Cnd_not ?_ | with_reducible refine Cnd_some ?_ | with_reducible refine Cnd_none ?_ | refine U_guard rfl rfl ?_ | with_reducible refine Gd_nt ?_ | with_reducible refine Gd_nf ?_ | with_reducible refine Gd_some ?_ | with_reducible refine Gd_none ?_ | with_reducible refine Gd_want ?_ | ((with_reducible refine Gd_skipT ?_ ?_); exact rfl) | ((with_reducible refine Gd_skipF ?_ ?_); exact rfl))
    refine U_run rfl rfl rfl (ro_min (r := (c : Int)) rfl rfl (by split <;> omega)) ?_
    repeat (first | with_reducible refine T_seq ?_ | with_reducible refine T_region ?_ | with_reducible refine U_nil ?_ | refine U_ar rfl rfl rfl (wrap_i64 (by omega)) rfl ?_ | refine U_pure E rfl rfl ?_ | with_reducible refine T_skip ?_ | with_reducible refine T_block ?_ | with_reducible refine T_inBlock ?_ | refine T_exit rfl ?_ | refine T_condV rfl ?_ | with_reducible refine Cnd_t ?_ | with_reducible refine Cnd_f ?_ | with_reducible refine Cnd_not ?_ | with_reducible refine Cnd_some ?_ | with_reducible refine Cnd_none ?_ | refine U_guard rfl rfl ?_ | with_reducible refine Gd_nt ?_ | with_reducible refine Gd_nf ?_ | with_reducible refine Gd_some ?_ | with_reducible refine Gd_none ?_ | with_reducible refine Gd_want ?_ | ((with_reducible refine Gd_skipT ?_ ?_); exact rfl) | ((with_reducible refine Gd_skipF ?_ ?_); exact rfl))
    refine U_run rfl rfl rfl (ro_bin (k' := .i64) (p := ((mask * 2 ^ (32 - c) % 2 ^ 32 : Nat) : Int)) (q := (32 : Int) - (c : Int)) (r := .int .u32 (mask * 2 ^ (32 - c) % 2 ^ 32 / 2 ^ (32 - c) : Nat)) rfl rfl (by rw [show (32 : Int) - (c : Int) = ((32 - c : Nat) : Int) by omega]; exact run_shr .i64 (by show 32 - c ≤ 32; omega))) ?_
    have hdiv : mask * 2 ^ (32 - c) % 2 ^ 32 / 2 ^ (32 - c) = mask % 2 ^ c := by
      rw [show 2 ^ 32 = 2 ^ c * 2 ^ (32 - c) by rw [← Nat.pow_add]; congr 1; omega, Nat.mul_mod_mul_right, Nat.mul_div_cancel _ (Nat.pow_pos (by decide))]
    rw [hdiv]
    have hlost : fr = false → (S = q ↔ mask % 2 ^ c = 0) := by
      intro hf
      have h5 : q = s1 := by rw [← hq, ← hD, hf]; rfl
      have h6 : D.l[1] = S := by subst hD; subst hf; rfl
      rw [h5, ← hc]
      refine lost_iff lS ls1 hmask hk20 (fun j hj => ?_)
      rw [hb1' j hj, h6]
    have hfresh : fr = true → q = S := by
      intro hf
      rw [← hq, ← hD, hf]
      rfl
    have hkend : Kept none0 w w11 := hk3'.tr hk311 (fun j hj (e : w3.heap.size ≤ j) => by have := hk3'.size; omega)
    repeat (first | with_reducible refine T_seq ?_ | with_reducible refine T_region ?_ | with_reducible refine U_nil ?_ | refine U_ar rfl rfl rfl (wrap_i64 (by omega)) rfl ?_ | refine U_pure E rfl rfl ?_ | with_reducible refine T_skip ?_ | with_reducible refine T_block ?_ | with_reducible refine T_inBlock ?_ | refine T_exit rfl ?_ | refine T_condV rfl ?_ | with_reducible refine Cnd_t ?_ | with_reducible refine Cnd_f ?_ | with_reducible refine Cnd_not ?_ | with_reducible refine Cnd_some ?_ | with_reducible refine Cnd_none ?_ | refine U_guard rfl rfl ?_ | with_reducible refine Gd_nt ?_ | with_reducible refine Gd_nf ?_ | with_reducible refine Gd_some ?_ | with_reducible refine Gd_none ?_ | with_reducible refine Gd_want ?_ | ((with_reducible refine Gd_skipT ?_ ?_); exact rfl) | ((with_reducible refine Gd_skipF ?_ ?_); exact rfl))
    refine U_call rfl rfl (Try.call14 _) (ret_of (same_c w11 _ _ _ _ _ _ hp11 hsr)) ?_
    rintro r w12 ⟨rfl, hd12⟩
    have hkend2 : Kept none0 w w12 := hkend.tr (hd12.kept none0) (fun _ _ x => x)
    repeat (first | with_reducible refine T_seq ?_ | with_reducible refine T_region ?_ | with_reducible refine U_nil ?_ | refine U_ar rfl rfl rfl (wrap_i64 (by omega)) rfl ?_ | refine U_pure E rfl rfl ?_ | with_reducible refine T_skip ?_ | with_reducible refine T_block ?_ | with_reducible refine T_inBlock ?_ | refine T_exit rfl ?_ | refine T_condV rfl ?_ | with_reducible refine Cnd_t ?_ | with_reducible refine Cnd_f ?_ | with_reducible refine Cnd_not ?_ | with_reducible refine Cnd_some ?_ | with_reducible refine Cnd_none ?_ | refine U_guard rfl rfl ?_ | with_reducible refine Gd_nt ?_ | with_reducible refine Gd_nf ?_ | with_reducible refine Gd_some ?_ | with_reducible refine Gd_none ?_ | with_reducible refine Gd_want ?_ | ((with_reducible refine Gd_skipT ?_ ?_); exact rfl) | ((with_reducible refine Gd_skipF ?_ ?_); exact rfl))
    refine Gd_p (fun g1 => ?_) (fun g1 => ?_)
    · cases fr with
      | true =>
        repeat (first | with_reducible refine T_seq ?_ | with_reducible refine T_region ?_ | with_reducible refine U_nil ?_ | refine U_ar rfl rfl rfl (wrap_i64 (by omega)) rfl ?_ | refine U_pure E rfl rfl ?_ | with_reducible refine T_skip ?_ | with_reducible refine T_block ?_ | with_reducible refine T_inBlock ?_ | refine T_exit rfl ?_ | refine T_condV rfl ?_ | with_reducible refine Cnd_t ?_ | with_reducible refine Cnd_f ?_ | with_reducible refine Cnd_not ?_ | with_reducible refine Cnd_some ?_ | with_reducible refine Cnd_none ?_ | refine U_guard rfl rfl ?_ | with_reducible refine Gd_nt ?_ | with_reducible refine Gd_nf ?_ | with_reducible refine Gd_some ?_ | with_reducible refine Gd_none ?_ | with_reducible refine Gd_want ?_ | ((with_reducible refine Gd_skipT ?_ ?_); exact rfl) | ((with_reducible refine Gd_skipF ?_ ?_); exact rfl))
        refine T_ret1 Try.func5 rfl rfl ⟨_, rfl, ?_, hkend2⟩
        simp [hfresh rfl]
      | false =>
        repeat (first | with_reducible refine T_seq ?_ | with_reducible refine T_region ?_ | with_reducible refine U_nil ?_ | refine U_ar rfl rfl rfl (wrap_i64 (by omega)) rfl ?_ | refine U_pure E rfl rfl ?_ | with_reducible refine T_skip ?_ | with_reducible refine T_block ?_ | with_reducible refine T_inBlock ?_ | refine T_exit rfl ?_ | refine T_condV rfl ?_ | with_reducible refine Cnd_t ?_ | with_reducible refine Cnd_f ?_ | with_reducible refine Cnd_not ?_ | with_reducible refine Cnd_some ?_ | with_reducible refine Cnd_none ?_ | refine U_guard rfl rfl ?_ | with_reducible refine Gd_nt ?_ | with_reducible refine Gd_nf ?_ | with_reducible refine Gd_some ?_ | with_reducible refine Gd_none ?_ | with_reducible refine Gd_want ?_ | ((with_reducible refine Gd_skipT ?_ ?_); exact rfl) | ((with_reducible refine Gd_skipF ?_ ?_); exact rfl))
        refine T_ret1 Try.func5 rfl rfl ⟨_, rfl, ?_, hkend2⟩
        have := hlost rfl
        by_cases hx : S = q
        · have h7 := this.1 hx
          simp [hx, h7]
        · have h7 : ¬ mask % 2 ^ c = 0 := fun e => hx (this.2 e)
          have h8 : ¬ ((mask % 2 ^ c : Nat) : Int) = 0 := by omega
          rw [decide_eq_false hx, decide_eq_false h8]
          rfl
    · exact absurd rfl g1
end Go.Proofs.Ytoefhdaenaiomaa
