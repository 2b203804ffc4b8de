/- The reel: the record that begins at a sector. -/
import Derived.Test.YtoefhdaenaiomaaGreatDoorPk8
import Derived.Test.YtoefhdaenaiomaaGreatDoorPk7
set_option linter.unusedVariables false
set_option linter.unusedSimpArgs false
namespace Go.Proofs.YtoefhdaenaiomaaGreatDoor
open Go
set_option maxRecDepth 20000

/-- From the k-th sector on; what is read till then: all. -/
def recR (D : Dr) (g n at_ : Nat) : Nat → Nat → List UInt8 → Option (List UInt8 × Nat)
  | 0, _, _ => none
  | f + 1, k, all => if at_ + k ≤ hsz D then match bareD D ((base D g + at_ + k : Nat) - 1 : Int) 165 with
      | none => none
      | some b => if 100000 < val4 (all ++ b) ∨ k < pgs (val4 (all ++ b)) then recR D g n at_ f (k + 1) (all ++ b) else if nErr (sdr g n) (all ++ b) = 0 then some (nRec (sdr g n) (all ++ b), k) else none
    else none
def recD (D : Dr) (g n at_ : Nat) : Option (List UInt8 × Nat) := recR D g n at_ (hsz D + 1) 1 []

theorem or8_val (l : List UInt8) : at8 l 0 ||| at8 l 1 * 2 ^ 8 ||| at8 l 2 * 2 ^ 16 ||| at8 l 3 * 2 ^ 24 = val4 l := or4_val l

set_option maxHeartbeats 8000000 in
theorem record_rc {w : World} {F Fr : Nat → Prop} {hb rb g at_ : Nat} {l : List (List UInt8)} {D : Dr} (h : Rl w F Fr hb rb g l at_) (hD : Dm w F hb D) (hl : 2 ≤ D.l.length) (hL : D.l.length ≤ 7000) :
    Calls Tryz.prog 38 [ptr rb].toArray w (Ret fun r w' => Kept none0 w w' ∧
      ((recD D g l.length at_ = none ∧ ∃ u k, r = .tuple #[u, .int .i64 k, .bool false]) ∨ ∃ u p k, recD D g l.length at_ = some (p, k) ∧ r = .tuple #[u, .int .i64 (k : Nat), .bool true] ∧ BS w' (fresh w) u p)) := by
  obtain ⟨vl, vs, h1, h2, h3, h4, h5⟩ := h.body
  have hat := h.at1
  have hg := h.gen
  have hll := h.len
  have hz : hsz D ≤ 3500 := by unfold hsz; omega
  have hbs : base D g ≤ 4000 := by
    unfold base
    have : g % 2 * hsz D ≤ 1 * 3500 := Nat.mul_le_mul (by omega) hz
    omega
  obtain ⟨A, c, rfl⟩ := h4.val
  obtain ⟨Q, hQ⟩ : ∃ Q, recD D g l.length at_ = Q := ⟨_, rfl⟩
  rw [hQ]
  have hQ0 : recR D g l.length at_ (hsz D + 1) 1 [] = Q := hQ
  refine calls_T Tryz.func38 rfl rfl rfl ?_
  unfold ptr at *
  repeat (first | (with_reducible first | apply T_seq | apply T_region | apply U_nil | apply T_skip | apply T_block | apply T_inBlock | apply Cnd_t | apply Cnd_f | apply Cnd_not | apply Cnd_some | apply Cnd_none | apply Gd_nt | apply Gd_nf | apply Gd_some | apply Gd_none | apply Gd_want) | refine U_ar rfl rfl rfl (wrap_k (by simp only [wrapOk]; omega)) rfl ?_ | refine U_cv E rfl rfl rfl (wrap_k (by simp only [wrapOk]; omega)) rfl ?_ | refine U_pure E rfl rfl ?_ | refine T_exit rfl ?_ | refine T_condV rfl ?_ | refine U_guard rfl rfl ?_ | ((with_reducible refine Gd_skipT ?_ ?_); exact rfl) | ((with_reducible refine Gd_skipF ?_ ?_); exact rfl))
  refine T_loop (α := Nat × Value × List UInt8 × World) (fun x => [(6, .int .i64 x.1), (5, x.2.1), (0, .pointer (some ⟨rb, 0, none⟩))]) (fun x => x.2.2.2) (fun x => hsz D + 2 - x.1)
    (fun x => 1 ≤ x.1 ∧ x.1 ≤ hsz D + 1 ∧ x.2.2.1.length = 254 * (x.1 - 1) ∧ Kept none0 w x.2.2.2 ∧ BR x.2.2.2 (fresh w) x.2.1 x.2.2.1 ∧ recR D g l.length at_ (hsz D + 1 - (x.1 - 1)) x.1 x.2.2.1 = Q)
    (1, .slice none 0 0, [], w) ⟨Nat.le_refl 1, by dsimp only; omega, rfl, Kept.refl _ _, BR.nil _ _, hQ0⟩ ⟨rfl, rfl, rfl, trivial⟩ rfl ?_
  rintro ⟨k, v, all, w1⟩ ⟨hk1, hk2, hal, k1, hall, he⟩ ih
  dsimp only at hk1 hk2 hal k1 hall he ⊢
  have hB1 := h2.mv k1 (fun x => x)
  have hD1 := hD.same k1
  have he : recR D g l.length at_ (hsz D + 1 - k + 1) k all = Q := by rw [← he]; congr 1; omega
  rw [recR] at he
  repeat (first | (with_reducible first | apply T_seq | apply T_region | apply U_nil | apply T_skip | apply T_block | apply T_inBlock | apply Cnd_t | apply Cnd_f | apply Cnd_not | apply Cnd_some | apply Cnd_none | apply Gd_nt | apply Gd_nf | apply Gd_some | apply Gd_none | apply Gd_want) | refine U_ar rfl rfl rfl (wrap_k (by simp only [wrapOk]; omega)) rfl ?_ | refine U_cv E rfl rfl rfl (wrap_k (by simp only [wrapOk]; omega)) rfl ?_ | refine U_pure E rfl rfl ?_ | refine T_exit rfl ?_ | refine T_condV rfl ?_ | refine U_guard rfl rfl ?_ | ((with_reducible refine Gd_skipT ?_ ?_); exact rfl) | ((with_reducible refine Gd_skipF ?_ ?_); exact rfl))
  refine L_begin (fun W => Blk W rb [.pointer (some ⟨hb, 0, none⟩), .int .u32 g, .slice A vs.length c, .int .i64 at_] 66) 12 (by kernel_rfl) (N := 12) rfl (fun w2 hd2 => ?_)
  have hB2 := hB1.mv (hd2.kept none0) (fun x => x)
  have hD2 := hD1.same (hd2.kept none0)
  have hs := size_rc w2 F hb D hD2.isD hl
  unfold ptr at *
  refine L_take 0 rfl (by kernel_rfl) (by kernel_rfl) (by kernel_rfl) (by kernel_rfl) hB2 rfl rfl rfl (fun a ha w' _ => run_pv E ha rfl _ _ _ _ _) ?_; refine L_take 1 rfl (by kernel_rfl) (by kernel_rfl) (by kernel_rfl) (by kernel_rfl) hB2 rfl rfl rfl (fun a ha w' _ => run_pv E ha rfl _ _ _ _ _) ?_; refine L_take 2 rfl (by kernel_rfl) (by kernel_rfl) (by kernel_rfl) (by kernel_rfl) hB2 rfl rfl rfl (fun a ha w' _ => run_pv E ha rfl _ _ _ _ _) ?_
  refine L_take 3 rfl (by kernel_rfl) (by kernel_rfl) (by kernel_rfl) (by kernel_rfl) hB2 rfl rfl rfl (fun a ha w' hS => ro_loadB E hS rfl rfl rfl rfl a ha) ?_
  refine L_take 4 rfl (by kernel_rfl) (by kernel_rfl) (by kernel_rfl) (by kernel_rfl) hB2 rfl rfl rfl (fun a ha w' _ => run_pv E ha rfl _ _ _ _ _) ?_
  refine L_take 5 rfl (by kernel_rfl) (by kernel_rfl) (by kernel_rfl) (by kernel_rfl) hB2 rfl rfl rfl (fun a ha w' _ => ro_ar rfl rfl rfl (wrap_k (by simp only [wrapOk]; omega)) a ha) ?_
  refine L_take 6 rfl (by kernel_rfl) (by kernel_rfl) (by kernel_rfl) (by kernel_rfl) hB2 rfl rfl rfl (fun a ha w' _ => run_pv E ha rfl _ _ _ _ _) ?_; refine L_take 7 rfl (by kernel_rfl) (by kernel_rfl) (by kernel_rfl) (by kernel_rfl) hB2 rfl rfl rfl (fun a ha w' _ => run_pv E ha rfl _ _ _ _ _) ?_; refine L_take 8 rfl (by kernel_rfl) (by kernel_rfl) (by kernel_rfl) (by kernel_rfl) hB2 rfl rfl rfl (fun a ha w' _ => run_pv E ha rfl _ _ _ _ _) ?_
  refine L_take 9 rfl (by kernel_rfl) (by kernel_rfl) (by kernel_rfl) (by kernel_rfl) hB2 rfl rfl rfl (fun a ha w' hS => ro_loadB E hS rfl rfl rfl rfl a ha) ?_
  refine L_op 10 (by kernel_rfl) rfl (fun hc => ?_)
  refine U_call rfl rfl (Tryz.call26 _) (hs) ?_
  rintro r w3 ⟨rfl, rfl⟩
  refine U_nilL hc (fun _ => hB2) ?_
  refine L_take 11 rfl (by kernel_rfl) (by kernel_rfl) (by kernel_rfl) (by kernel_rfl) hB2 rfl rfl rfl (fun a ha w' _ => run_pv E ha rfl _ _ _ _ _) ?_
  refine L_done (by kernel_rfl) ?_
  have k3 : Kept none0 w w3 := k1.tr (hd2.kept none0) (fun _ _ x => x)
  repeat (first | (with_reducible first | apply T_seq | apply T_region | apply U_nil | apply T_skip | apply T_block | apply T_inBlock | apply Cnd_t | apply Cnd_f | apply Cnd_not | apply Cnd_some | apply Cnd_none | apply Gd_nt | apply Gd_nf | apply Gd_some | apply Gd_none | apply Gd_want) | refine U_ar rfl rfl rfl (wrap_k (by simp only [wrapOk]; omega)) rfl ?_ | refine U_cv E rfl rfl rfl (wrap_k (by simp only [wrapOk]; omega)) rfl ?_ | refine U_pure E rfl rfl ?_ | refine T_exit rfl ?_ | refine T_condV rfl ?_ | refine U_guard rfl rfl ?_ | ((with_reducible refine Gd_skipT ?_ ?_); exact rfl) | ((with_reducible refine Gd_skipF ?_ ?_); exact rfl))
  refine Cnd_p (fun hin => ?_) (fun hin => ?_)
  · have hin' : at_ + k ≤ hsz D := by omega
    rw [if_pos hin'] at he
    repeat (first | (with_reducible first | apply T_seq | apply T_region | apply U_nil | apply T_skip | apply T_block | apply T_inBlock | apply Cnd_t | apply Cnd_f | apply Cnd_not | apply Cnd_some | apply Cnd_none | apply Gd_nt | apply Gd_nf | apply Gd_some | apply Gd_none | apply Gd_want) | refine U_ar rfl rfl rfl (wrap_k (by simp only [wrapOk]; omega)) rfl ?_ | refine U_cv E rfl rfl rfl (wrap_k (by simp only [wrapOk]; omega)) rfl ?_ | refine U_pure E rfl rfl ?_ | refine T_exit rfl ?_ | refine T_condV rfl ?_ | refine U_guard rfl rfl ?_ | ((with_reducible refine Gd_skipT ?_ ?_); exact rfl) | ((with_reducible refine Gd_skipF ?_ ?_); exact rfl))
    refine L_begin (fun W => Blk W rb [.pointer (some ⟨hb, 0, none⟩), .int .u32 g, .slice A vs.length c, .int .i64 at_] 66) 27 (by kernel_rfl) (N := 27) rfl (fun w4 hd4 => ?_)
    have hB4 := hB2.mv (hd4.kept none0) (fun x => x)
    have hD4 := hD2.same (hd4.kept none0)
    have hfr := from_rc w4 F hb D g hD4.isD hl hg
    have hbr := bare_rc w4 F hb D ((base D g + at_ + k : Nat) - 1 : Int) 165 hD4.isD
    unfold ptr at *
    unfold encB at hbr
    refine L_take 0 rfl (by kernel_rfl) (by kernel_rfl) (by kernel_rfl) (by kernel_rfl) hB4 rfl rfl rfl (fun a ha w' _ => run_pv E ha rfl _ _ _ _ _) ?_; refine L_take 1 rfl (by kernel_rfl) (by kernel_rfl) (by kernel_rfl) (by kernel_rfl) hB4 rfl rfl rfl (fun a ha w' _ => run_pv E ha rfl _ _ _ _ _) ?_; refine L_take 2 rfl (by kernel_rfl) (by kernel_rfl) (by kernel_rfl) (by kernel_rfl) hB4 rfl rfl rfl (fun a ha w' _ => run_pv E ha rfl _ _ _ _ _) ?_
    refine L_take 3 rfl (by kernel_rfl) (by kernel_rfl) (by kernel_rfl) (by kernel_rfl) hB4 rfl rfl rfl (fun a ha w' hS => ro_loadB E hS rfl rfl rfl rfl a ha) ?_
    refine L_take 4 rfl (by kernel_rfl) (by kernel_rfl) (by kernel_rfl) (by kernel_rfl) hB4 rfl rfl rfl (fun a ha w' _ => run_pv E ha rfl _ _ _ _ _) ?_; refine L_take 5 rfl (by kernel_rfl) (by kernel_rfl) (by kernel_rfl) (by kernel_rfl) hB4 rfl rfl rfl (fun a ha w' _ => run_pv E ha rfl _ _ _ _ _) ?_; refine L_take 6 rfl (by kernel_rfl) (by kernel_rfl) (by kernel_rfl) (by kernel_rfl) hB4 rfl rfl rfl (fun a ha w' _ => run_pv E ha rfl _ _ _ _ _) ?_
    refine L_take 7 rfl (by kernel_rfl) (by kernel_rfl) (by kernel_rfl) (by kernel_rfl) hB4 rfl rfl rfl (fun a ha w' hS => ro_loadB E hS rfl rfl rfl rfl a ha) ?_
    refine L_take 8 rfl (by kernel_rfl) (by kernel_rfl) (by kernel_rfl) (by kernel_rfl) hB4 rfl rfl rfl (fun a ha w' _ => run_pv E ha rfl _ _ _ _ _) ?_; refine L_take 9 rfl (by kernel_rfl) (by kernel_rfl) (by kernel_rfl) (by kernel_rfl) hB4 rfl rfl rfl (fun a ha w' _ => run_pv E ha rfl _ _ _ _ _) ?_; refine L_take 10 rfl (by kernel_rfl) (by kernel_rfl) (by kernel_rfl) (by kernel_rfl) hB4 rfl rfl rfl (fun a ha w' _ => run_pv E ha rfl _ _ _ _ _) ?_
    refine L_take 11 rfl (by kernel_rfl) (by kernel_rfl) (by kernel_rfl) (by kernel_rfl) hB4 rfl rfl rfl (fun a ha w' hS => ro_loadB E hS rfl rfl rfl rfl a ha) ?_
    refine L_take 13 rfl (by kernel_rfl) (by kernel_rfl) (by kernel_rfl) (by kernel_rfl) hB4 rfl rfl rfl (fun a ha w' _ => run_pv E ha rfl _ _ _ _ _) ?_; refine L_take 14 rfl (by kernel_rfl) (by kernel_rfl) (by kernel_rfl) (by kernel_rfl) hB4 rfl rfl rfl (fun a ha w' _ => run_pv E ha rfl _ _ _ _ _) ?_; refine L_take 15 rfl (by kernel_rfl) (by kernel_rfl) (by kernel_rfl) (by kernel_rfl) hB4 rfl rfl rfl (fun a ha w' _ => run_pv E ha rfl _ _ _ _ _) ?_
    refine L_take 16 rfl (by kernel_rfl) (by kernel_rfl) (by kernel_rfl) (by kernel_rfl) hB4 rfl rfl rfl (fun a ha w' hS => ro_loadB E hS rfl rfl rfl rfl a ha) ?_
    refine L_take 18 rfl (by kernel_rfl) (by kernel_rfl) (by kernel_rfl) (by kernel_rfl) hB4 rfl rfl rfl (fun a ha w' _ => run_pv E ha rfl _ _ _ _ _) ?_
    refine L_op 12 (by kernel_rfl) rfl (fun hc => ?_)
    refine U_call rfl rfl (Tryz.call33 _) (hfr) ?_
    rintro r w5 ⟨rfl, rfl⟩
    refine U_nilL hc (fun _ => hB4) ?_
    refine L_take 17 rfl (by kernel_rfl) (by kernel_rfl) (by kernel_rfl) (by kernel_rfl) hB4 rfl rfl rfl (fun a ha w' _ => ro_ar rfl rfl rfl (wrap_k (by simp only [wrapOk]; omega)) a ha) ?_
    refine L_take 19 rfl (by kernel_rfl) (by kernel_rfl) (by kernel_rfl) (by kernel_rfl) hB4 rfl rfl rfl (fun a ha w' _ => ro_ar rfl rfl rfl (wrap_k (by simp only [wrapOk]; omega)) a ha) ?_
    refine L_take 20 rfl (by kernel_rfl) (by kernel_rfl) (by kernel_rfl) (by kernel_rfl) hB4 rfl rfl rfl (fun a ha w' _ => ro_ar rfl rfl rfl (wrap_k (by simp only [wrapOk]; omega)) a ha) ?_
    rw [show (base D g : Int) + (at_ : Int) + (k : Int) = ((base D g + at_ + k : Nat) : Int) by omega]
    refine L_op 21 (by kernel_rfl) rfl (fun hc => ?_)
    refine U_call rfl rfl (Tryz.call51 _) (hbr) ?_
    rintro r w6 ⟨k6, hcase⟩
    have hB6 := hB4.mv k6 (fun x => x)
    refine U_nilL hc (fun _ => hB6) ?_
    have k6' : Kept none0 w w6 := (k3.tr (hd4.kept none0) (fun _ _ x => x)).tr k6 (fun _ _ x => x)
    rcases hcase with ⟨hn, rfl⟩ | ⟨vb, p, hp, hpl, rfl, hvb⟩
    · rw [hn] at he
      refine L_take 22 rfl (by kernel_rfl) (by kernel_rfl) (by kernel_rfl) (by kernel_rfl) hB6 rfl rfl rfl (fun a ha w' _ => run_pv E ha rfl _ _ _ _ _) ?_; refine L_take 23 rfl (by kernel_rfl) (by kernel_rfl) (by kernel_rfl) (by kernel_rfl) hB6 rfl rfl rfl (fun a ha w' _ => run_pv E ha rfl _ _ _ _ _) ?_; refine L_take 24 rfl (by kernel_rfl) (by kernel_rfl) (by kernel_rfl) (by kernel_rfl) hB6 rfl rfl rfl (fun a ha w' _ => run_pv E ha rfl _ _ _ _ _) ?_; refine L_take 25 rfl (by kernel_rfl) (by kernel_rfl) (by kernel_rfl) (by kernel_rfl) hB6 rfl rfl rfl (fun a ha w' _ => run_pv E ha rfl _ _ _ _ _) ?_; refine L_take 26 rfl (by kernel_rfl) (by kernel_rfl) (by kernel_rfl) (by kernel_rfl) hB6 rfl rfl rfl (fun a ha w' _ => run_pv E ha rfl _ _ _ _ _) ?_
      refine L_done (by kernel_rfl) ?_
      repeat (first | (with_reducible first | apply T_seq | apply T_region | apply U_nil | apply T_skip | apply T_block | apply T_inBlock | apply Cnd_t | apply Cnd_f | apply Cnd_not | apply Cnd_some | apply Cnd_none | apply Gd_nt | apply Gd_nf | apply Gd_some | apply Gd_none | apply Gd_want) | refine U_ar rfl rfl rfl (wrap_k (by simp only [wrapOk]; omega)) rfl ?_ | refine U_cv E rfl rfl rfl (wrap_k (by simp only [wrapOk]; omega)) rfl ?_ | refine U_pure E rfl rfl ?_ | refine T_exit rfl ?_ | refine T_condV rfl ?_ | refine U_guard rfl rfl ?_ | ((with_reducible refine Gd_skipT ?_ ?_); exact rfl) | ((with_reducible refine Gd_skipF ?_ ?_); exact rfl))
      exact T_ret3 Tryz.func38 rfl rfl rfl rfl ⟨_, rfl, k6', .inl ⟨he.symm, _, _, rfl⟩⟩
    · rw [hp] at he
      dsimp only at he
      refine L_take 22 rfl (by kernel_rfl) (by kernel_rfl) (by kernel_rfl) (by kernel_rfl) hB6 rfl rfl rfl (fun a ha w' _ => run_pv E ha rfl _ _ _ _ _) ?_; refine L_take 23 rfl (by kernel_rfl) (by kernel_rfl) (by kernel_rfl) (by kernel_rfl) hB6 rfl rfl rfl (fun a ha w' _ => run_pv E ha rfl _ _ _ _ _) ?_; refine L_take 24 rfl (by kernel_rfl) (by kernel_rfl) (by kernel_rfl) (by kernel_rfl) hB6 rfl rfl rfl (fun a ha w' _ => run_pv E ha rfl _ _ _ _ _) ?_; refine L_take 25 rfl (by kernel_rfl) (by kernel_rfl) (by kernel_rfl) (by kernel_rfl) hB6 rfl rfl rfl (fun a ha w' _ => run_pv E ha rfl _ _ _ _ _) ?_; refine L_take 26 rfl (by kernel_rfl) (by kernel_rfl) (by kernel_rfl) (by kernel_rfl) hB6 rfl rfl rfl (fun a ha w' _ => run_pv E ha rfl _ _ _ _ _) ?_
      refine L_done (by kernel_rfl) ?_
      have k36 : Kept none0 w1 w6 := ((hd2.kept none0).tr (hd4.kept none0) (fun _ _ x => x)).tr k6 (fun _ _ x => x)
      have hall6 := hall.mv k36 (fun _ _ _ x => x)
      have s6 := k6'.size
      repeat (first | (with_reducible first | apply T_seq | apply T_region | apply U_nil | apply T_skip | apply T_block | apply T_inBlock | apply Cnd_t | apply Cnd_f | apply Cnd_not | apply Cnd_some | apply Cnd_none | apply Gd_nt | apply Gd_nf | apply Gd_some | apply Gd_none | apply Gd_want) | refine U_ar rfl rfl rfl (wrap_k (by simp only [wrapOk]; omega)) rfl ?_ | refine U_cv E rfl rfl rfl (wrap_k (by simp only [wrapOk]; omega)) rfl ?_ | refine U_pure E rfl rfl ?_ | refine T_exit rfl ?_ | refine T_condV rfl ?_ | refine U_guard rfl rfl ?_ | ((with_reducible refine Gd_skipT ?_ ?_); exact rfl) | ((with_reducible refine Gd_skipF ?_ ?_); exact rfl))
      refine U_append E hall6 hvb (encBs_one p) rfl rfl rfl rfl rfl (by omega) (by omega) rfl ?_
      intro v7 w7 hr7 k7 _ hob
      have k7' : Kept none0 w w7 := k6'.tr k7 (fun j hj e => by have := (hall6.own j e).1; simp only [fresh] at this; omega)
      have hB7 := hB6.mv k7 (fun e => by have h8 := (hall6.own rb e).1; have h9 := h2.lt; simp only [fresh] at h8; omega)
      obtain ⟨Y, hY⟩ : ∃ Y, all ++ p = Y := ⟨_, rfl⟩
      have lY : Y.length = 254 * k := by rw [← hY, List.length_append, hpl, hal]; omega
      have hr7' : BR w7 (fresh w) v7 Y := by
        have := hr7.mono (G := fresh w) (fun j _ hj => hj.elim (fun x => x) (fun x => by simp only [fresh]; omega))
        rw [← encBs_app, hY] at this
        have e : all.length + p.length = Y.length := by rw [← hY, List.length_append]
        rw [e] at this
        exact this
      rw [hY] at he
      clear hr7 hall6 hall hvb
      have hs7 := hr7'.sl (by omega)
      have hqv := val4_lt Y
      have b0 := at8_lt Y 0
      have b1 := at8_lt Y 1
      have b2 := at8_lt Y 2
      have b3 := at8_lt Y 3
      have gq : ∀ (j : Nat) (hj : j < 4), (encBs Y)[(OfNat.ofNat j : Int).toNat]? = some (.int .u8 (at8 Y j : Nat)) := fun j hj => by
        rw [at8_get (by omega)]
        exact get_enc (show j < Y.length by omega)
      repeat (first | (with_reducible first | apply T_seq | apply T_region | apply U_nil | apply T_skip | apply T_block | apply T_inBlock | apply Cnd_t | apply Cnd_f | apply Cnd_not | apply Cnd_some | apply Cnd_none | apply Gd_nt | apply Gd_nf | apply Gd_some | apply Gd_none | apply Gd_want) | refine U_ar rfl rfl rfl (wrap_k (by simp only [wrapOk]; omega)) rfl ?_ | refine U_cv E rfl rfl rfl (wrap_k (by simp only [wrapOk]; omega)) rfl ?_ | refine U_pure E rfl rfl ?_ | refine T_exit rfl ?_ | refine T_condV rfl ?_ | refine U_guard rfl rfl ?_ | ((with_reducible refine Gd_skipT ?_ ?_); exact rfl) | ((with_reducible refine Gd_skipF ?_ ?_); exact rfl))
      refine T_quiet (by kernel_rfl) (by kernel_rfl) ?_; (repeat (first | refine V_ar rfl rfl rfl (wrap_k (by simp only [wrapOk]; omega)) rfl ?_ | refine V_cv E rfl rfl rfl (wrap_k (by simp only [wrapOk]; omega)) rfl ?_ | refine V_pure E rfl rfl ?_ | refine V_guard rfl rfl ?_ | with_reducible refine GdV_want ?_ | ((with_reducible refine GdV_skipT ?_ ?_); exact rfl) | ((with_reducible refine GdV_skipF ?_ ?_); exact rfl)))
      refine V_idx E (hs7) rfl rfl rfl rfl (by omega) (by omega) ((gq 0 (by decide))) rfl (fun p0 hp0 => ?_)
      refine V_load E rfl rfl rfl (fun w' hw' => (by first | (rw [hw'.cell]; exact hp0) | (subst hw'; exact hp0))) rfl ?_
      repeat (first | refine V_ar rfl rfl rfl (wrap_k (by simp only [wrapOk]; omega)) rfl ?_ | refine V_cv E rfl rfl rfl (wrap_k (by simp only [wrapOk]; omega)) rfl ?_ | refine V_pure E rfl rfl ?_ | refine V_guard rfl rfl ?_ | with_reducible refine GdV_want ?_ | ((with_reducible refine GdV_skipT ?_ ?_); exact rfl) | ((with_reducible refine GdV_skipF ?_ ?_); exact rfl))
      refine V_idx E (hs7) rfl rfl rfl rfl (by omega) (by omega) ((gq 1 (by decide))) rfl (fun p1 hp1 => ?_)
      refine V_load E rfl rfl rfl (fun w' hw' => (by first | (rw [hw'.cell]; exact hp1) | (subst hw'; exact hp1))) rfl ?_
      repeat (first | refine V_ar rfl rfl rfl (wrap_k (by simp only [wrapOk]; omega)) rfl ?_ | refine V_cv E rfl rfl rfl (wrap_k (by simp only [wrapOk]; omega)) rfl ?_ | refine V_pure E rfl rfl ?_ | refine V_guard rfl rfl ?_ | with_reducible refine GdV_want ?_ | ((with_reducible refine GdV_skipT ?_ ?_); exact rfl) | ((with_reducible refine GdV_skipF ?_ ?_); exact rfl))
      refine V_run rfl rfl rfl (fun a ha w' _ => ro_bin (r := .int .u64 (at8 Y 1 * 2 ^ 8 : Nat)) rfl rfl (by exact run_shl (y := 8) .u64 rfl (by decide) (by simp only [IntKind.bits]; omega)) a ha) ?_
      repeat (first | refine V_ar rfl rfl rfl (wrap_k (by simp only [wrapOk]; omega)) rfl ?_ | refine V_cv E rfl rfl rfl (wrap_k (by simp only [wrapOk]; omega)) rfl ?_ | refine V_pure E rfl rfl ?_ | refine V_guard rfl rfl ?_ | with_reducible refine GdV_want ?_ | ((with_reducible refine GdV_skipT ?_ ?_); exact rfl) | ((with_reducible refine GdV_skipF ?_ ?_); exact rfl))
      refine V_run rfl rfl rfl (fun a ha w' _ => ro_bin (r := .int .u64 (at8 Y 0 ||| at8 Y 1 * 2 ^ 8 : Nat)) rfl rfl (by exact run_or rfl (by simp only [IntKind.bits]; omega) (by simp only [IntKind.bits]; omega)) a ha) ?_
      repeat (first | refine V_ar rfl rfl rfl (wrap_k (by simp only [wrapOk]; omega)) rfl ?_ | refine V_cv E rfl rfl rfl (wrap_k (by simp only [wrapOk]; omega)) rfl ?_ | refine V_pure E rfl rfl ?_ | refine V_guard rfl rfl ?_ | with_reducible refine GdV_want ?_ | ((with_reducible refine GdV_skipT ?_ ?_); exact rfl) | ((with_reducible refine GdV_skipF ?_ ?_); exact rfl))
      refine V_idx E (hs7) rfl rfl rfl rfl (by omega) (by omega) ((gq 2 (by decide))) rfl (fun p2 hp2 => ?_)
      refine V_load E rfl rfl rfl (fun w' hw' => (by first | (rw [hw'.cell]; exact hp2) | (subst hw'; exact hp2))) rfl ?_
      repeat (first | refine V_ar rfl rfl rfl (wrap_k (by simp only [wrapOk]; omega)) rfl ?_ | refine V_cv E rfl rfl rfl (wrap_k (by simp only [wrapOk]; omega)) rfl ?_ | refine V_pure E rfl rfl ?_ | refine V_guard rfl rfl ?_ | with_reducible refine GdV_want ?_ | ((with_reducible refine GdV_skipT ?_ ?_); exact rfl) | ((with_reducible refine GdV_skipF ?_ ?_); exact rfl))
      refine V_run rfl rfl rfl (fun a ha w' _ => ro_bin (r := .int .u64 (at8 Y 2 * 2 ^ 16 : Nat)) rfl rfl (by exact run_shl (y := 16) .u64 rfl (by decide) (by simp only [IntKind.bits]; omega)) a ha) ?_
      repeat (first | refine V_ar rfl rfl rfl (wrap_k (by simp only [wrapOk]; omega)) rfl ?_ | refine V_cv E rfl rfl rfl (wrap_k (by simp only [wrapOk]; omega)) rfl ?_ | refine V_pure E rfl rfl ?_ | refine V_guard rfl rfl ?_ | with_reducible refine GdV_want ?_ | ((with_reducible refine GdV_skipT ?_ ?_); exact rfl) | ((with_reducible refine GdV_skipF ?_ ?_); exact rfl))
      refine V_run rfl rfl rfl (fun a ha w' _ => ro_bin (r := .int .u64 (at8 Y 0 ||| at8 Y 1 * 2 ^ 8 ||| at8 Y 2 * 2 ^ 16 : Nat)) rfl rfl (by exact run_or rfl (Nat.or_lt_two_pow (by simp only [IntKind.bits]; omega) (by simp only [IntKind.bits]; omega)) (by simp only [IntKind.bits]; omega)) a ha) ?_
      repeat (first | refine V_ar rfl rfl rfl (wrap_k (by simp only [wrapOk]; omega)) rfl ?_ | refine V_cv E rfl rfl rfl (wrap_k (by simp only [wrapOk]; omega)) rfl ?_ | refine V_pure E rfl rfl ?_ | refine V_guard rfl rfl ?_ | with_reducible refine GdV_want ?_ | ((with_reducible refine GdV_skipT ?_ ?_); exact rfl) | ((with_reducible refine GdV_skipF ?_ ?_); exact rfl))
      refine V_idx E (hs7) rfl rfl rfl rfl (by omega) (by omega) ((gq 3 (by decide))) rfl (fun p3 hp3 => ?_)
      refine V_load E rfl rfl rfl (fun w' hw' => (by first | (rw [hw'.cell]; exact hp3) | (subst hw'; exact hp3))) rfl ?_
      repeat (first | refine V_ar rfl rfl rfl (wrap_k (by simp only [wrapOk]; omega)) rfl ?_ | refine V_cv E rfl rfl rfl (wrap_k (by simp only [wrapOk]; omega)) rfl ?_ | refine V_pure E rfl rfl ?_ | refine V_guard rfl rfl ?_ | with_reducible refine GdV_want ?_ | ((with_reducible refine GdV_skipT ?_ ?_); exact rfl) | ((with_reducible refine GdV_skipF ?_ ?_); exact rfl))
      refine V_run rfl rfl rfl (fun a ha w' _ => ro_bin (r := .int .u64 (at8 Y 3 * 2 ^ 24 : Nat)) rfl rfl (by exact run_shl (y := 24) .u64 rfl (by decide) (by simp only [IntKind.bits]; omega)) a ha) ?_
      repeat (first | refine V_ar rfl rfl rfl (wrap_k (by simp only [wrapOk]; omega)) rfl ?_ | refine V_cv E rfl rfl rfl (wrap_k (by simp only [wrapOk]; omega)) rfl ?_ | refine V_pure E rfl rfl ?_ | refine V_guard rfl rfl ?_ | with_reducible refine GdV_want ?_ | ((with_reducible refine GdV_skipT ?_ ?_); exact rfl) | ((with_reducible refine GdV_skipF ?_ ?_); exact rfl))
      refine V_run rfl rfl rfl (fun a ha w' _ => ro_bin (r := .int .u64 (at8 Y 0 ||| at8 Y 1 * 2 ^ 8 ||| at8 Y 2 * 2 ^ 16 ||| at8 Y 3 * 2 ^ 24 : Nat)) rfl rfl (by exact run_or rfl (Nat.or_lt_two_pow (Nat.or_lt_two_pow (by simp only [IntKind.bits]; omega) (by simp only [IntKind.bits]; omega)) (by simp only [IntKind.bits]; omega)) (by simp only [IntKind.bits]; omega)) a ha) ?_
      rw [or4_val]
      repeat (first | refine V_ar rfl rfl rfl (wrap_k (by simp only [wrapOk]; omega)) rfl ?_ | refine V_cv E rfl rfl rfl (wrap_k (by simp only [wrapOk]; omega)) rfl ?_ | refine V_pure E rfl rfl ?_ | refine V_guard rfl rfl ?_ | with_reducible refine GdV_want ?_ | ((with_reducible refine GdV_skipT ?_ ?_); exact rfl) | ((with_reducible refine GdV_skipF ?_ ?_); exact rfl))
      refine V_nilQ fun w8 hd8 => ?_
      have hB8 := hB7.mv (hd8.kept none0) (fun x => x)
      have hr8 := hr7'.mv (hd8.kept none0) (fun _ _ _ x => x)
      have k8' : Kept none0 w w8 := k7'.tr (hd8.kept none0) (fun _ _ x => x)
      -- the next sector
      have goOn : ∀ w9, Drew w8 w9 → recR D g l.length at_ (hsz D + 1 - k) (k + 1) Y = Q → _ := fun w9 hd9 hq => ih (k + 1, v7, Y, w9) ⟨by omega, by dsimp only; omega, by dsimp only; omega, k8'.tr (hd9.kept none0) (fun _ _ x => x), hr8.mv (hd9.kept none0) (fun _ _ _ x => x), by dsimp only; rw [← hq]; congr 1⟩ (by dsimp only; omega)
      repeat (first | (with_reducible first | apply T_seq | apply T_region | apply U_nil | apply T_skip | apply T_block | apply T_inBlock | apply Cnd_t | apply Cnd_f | apply Cnd_not | apply Cnd_some | apply Cnd_none | apply Gd_nt | apply Gd_nf | apply Gd_some | apply Gd_none | apply Gd_want) | refine U_ar rfl rfl rfl (wrap_k (by simp only [wrapOk]; omega)) rfl ?_ | refine U_cv E rfl rfl rfl (wrap_k (by simp only [wrapOk]; omega)) rfl ?_ | refine U_pure E rfl rfl ?_ | refine T_exit rfl ?_ | refine T_condV rfl ?_ | refine U_guard rfl rfl ?_ | ((with_reducible refine Gd_skipT ?_ ?_); exact rfl) | ((with_reducible refine Gd_skipF ?_ ?_); exact rfl))
      refine Gd_p (fun hbig => ?_) (fun hbig => ?_)
      · rw [if_pos (.inl (by omega))] at he
        repeat (first | (with_reducible first | apply T_seq | apply T_region | apply U_nil | apply T_skip | apply T_block | apply T_inBlock | apply Cnd_t | apply Cnd_f | apply Cnd_not | apply Cnd_some | apply Cnd_none | apply Gd_nt | apply Gd_nf | apply Gd_some | apply Gd_none | apply Gd_want) | refine U_ar rfl rfl rfl (wrap_k (by simp only [wrapOk]; omega)) rfl ?_ | refine U_cv E rfl rfl rfl (wrap_k (by simp only [wrapOk]; omega)) rfl ?_ | refine U_pure E rfl rfl ?_ | refine T_exit rfl ?_ | refine T_condV rfl ?_ | refine U_guard rfl rfl ?_ | ((with_reducible refine Gd_skipT ?_ ?_); exact rfl) | ((with_reducible refine Gd_skipF ?_ ?_); exact rfl))
        refine T.less ?_ (goOn w8 (Drew.refl _) he)
        exact ⟨rfl, rfl, rfl, trivial⟩
      · have hpg := pages_c w8 (val4 Y) (by omega)
        repeat (first | (with_reducible first | apply T_seq | apply T_region | apply U_nil | apply T_skip | apply T_block | apply T_inBlock | apply Cnd_t | apply Cnd_f | apply Cnd_not | apply Cnd_some | apply Cnd_none | apply Gd_nt | apply Gd_nf | apply Gd_some | apply Gd_none | apply Gd_want) | refine U_ar rfl rfl rfl (wrap_k (by simp only [wrapOk]; omega)) rfl ?_ | refine U_cv E rfl rfl rfl (wrap_k (by simp only [wrapOk]; omega)) rfl ?_ | refine U_pure E rfl rfl ?_ | refine T_exit rfl ?_ | refine T_condV rfl ?_ | refine U_guard rfl rfl ?_ | ((with_reducible refine Gd_skipT ?_ ?_); exact rfl) | ((with_reducible refine Gd_skipF ?_ ?_); exact rfl))
        refine U_call rfl rfl (Tryz.call31 _) (hpg) ?_
        rintro r w9 ⟨rfl, rfl⟩
        repeat (first | (with_reducible first | apply T_seq | apply T_region | apply U_nil | apply T_skip | apply T_block | apply T_inBlock | apply Cnd_t | apply Cnd_f | apply Cnd_not | apply Cnd_some | apply Cnd_none | apply Gd_nt | apply Gd_nf | apply Gd_some | apply Gd_none | apply Gd_want) | refine U_ar rfl rfl rfl (wrap_k (by simp only [wrapOk]; omega)) rfl ?_ | refine U_cv E rfl rfl rfl (wrap_k (by simp only [wrapOk]; omega)) rfl ?_ | refine U_pure E rfl rfl ?_ | refine T_exit rfl ?_ | refine T_condV rfl ?_ | refine U_guard rfl rfl ?_ | ((with_reducible refine Gd_skipT ?_ ?_); exact rfl) | ((with_reducible refine Gd_skipF ?_ ?_); exact rfl))
        refine Cnd_p (fun hmore => ?_) (fun hmore => ?_)
        · rw [if_pos (.inr (by omega))] at he
          repeat (first | (with_reducible first | apply T_seq | apply T_region | apply U_nil | apply T_skip | apply T_block | apply T_inBlock | apply Cnd_t | apply Cnd_f | apply Cnd_not | apply Cnd_some | apply Cnd_none | apply Gd_nt | apply Gd_nf | apply Gd_some | apply Gd_none | apply Gd_want) | refine U_ar rfl rfl rfl (wrap_k (by simp only [wrapOk]; omega)) rfl ?_ | refine U_cv E rfl rfl rfl (wrap_k (by simp only [wrapOk]; omega)) rfl ?_ | refine U_pure E rfl rfl ?_ | refine T_exit rfl ?_ | refine T_condV rfl ?_ | refine U_guard rfl rfl ?_ | ((with_reducible refine Gd_skipT ?_ ?_); exact rfl) | ((with_reducible refine Gd_skipF ?_ ?_); exact rfl))
          refine T.less ?_ (goOn w9 (Drew.refl _) he)
          exact ⟨rfl, rfl, rfl, trivial⟩
        · rw [if_neg (by omega)] at he
          repeat (first | (with_reducible first | apply T_seq | apply T_region | apply U_nil | apply T_skip | apply T_block | apply T_inBlock | apply Cnd_t | apply Cnd_f | apply Cnd_not | apply Cnd_some | apply Cnd_none | apply Gd_nt | apply Gd_nf | apply Gd_some | apply Gd_none | apply Gd_want) | refine U_ar rfl rfl rfl (wrap_k (by simp only [wrapOk]; omega)) rfl ?_ | refine U_cv E rfl rfl rfl (wrap_k (by simp only [wrapOk]; omega)) rfl ?_ | refine U_pure E rfl rfl ?_ | refine T_exit rfl ?_ | refine T_condV rfl ?_ | refine U_guard rfl rfl ?_ | ((with_reducible refine Gd_skipT ?_ ?_); exact rfl) | ((with_reducible refine Gd_skipF ?_ ?_); exact rfl))
          refine L_begin (fun W => Blk W rb [.pointer (some ⟨hb, 0, none⟩), .int .u32 g, .slice A vs.length c, .int .i64 at_] 66) 19 (by kernel_rfl) (N := 19) rfl (fun w10 hd10 => ?_)
          have hB10 := hB8.mv (hd10.kept none0) (fun x => x)
          have hr10 := hr8.mv (hd10.kept none0) (fun _ _ _ x => x)
          refine L_take 0 rfl (by kernel_rfl) (by kernel_rfl) (by kernel_rfl) (by kernel_rfl) hB10 rfl rfl rfl (fun a ha w' _ => run_pv E ha rfl _ _ _ _ _) ?_; refine L_take 1 rfl (by kernel_rfl) (by kernel_rfl) (by kernel_rfl) (by kernel_rfl) hB10 rfl rfl rfl (fun a ha w' _ => run_pv E ha rfl _ _ _ _ _) ?_; refine L_take 2 rfl (by kernel_rfl) (by kernel_rfl) (by kernel_rfl) (by kernel_rfl) hB10 rfl rfl rfl (fun a ha w' _ => run_pv E ha rfl _ _ _ _ _) ?_
          refine L_take 3 rfl (by kernel_rfl) (by kernel_rfl) (by kernel_rfl) (by kernel_rfl) hB10 rfl rfl rfl (fun a ha w' hS => ro_loadB E hS rfl rfl rfl rfl a ha) ?_
          refine L_take 4 rfl (by kernel_rfl) (by kernel_rfl) (by kernel_rfl) (by kernel_rfl) hB10 rfl rfl rfl (fun a ha w' _ => run_pv E ha rfl _ _ _ _ _) ?_; refine L_take 5 rfl (by kernel_rfl) (by kernel_rfl) (by kernel_rfl) (by kernel_rfl) hB10 rfl rfl rfl (fun a ha w' _ => run_pv E ha rfl _ _ _ _ _) ?_; refine L_take 6 rfl (by kernel_rfl) (by kernel_rfl) (by kernel_rfl) (by kernel_rfl) hB10 rfl rfl rfl (fun a ha w' _ => run_pv E ha rfl _ _ _ _ _) ?_
          refine L_take 7 rfl (by kernel_rfl) (by kernel_rfl) (by kernel_rfl) (by kernel_rfl) hB10 rfl rfl rfl (fun a ha w' hS => ro_loadB E hS rfl rfl rfl rfl a ha) ?_
          refine L_take 8 rfl (by kernel_rfl) (by kernel_rfl) (by kernel_rfl) (by kernel_rfl) hB10 rfl rfl rfl (fun a ha w' _ => run_pv E ha rfl _ _ _ _ _) ?_; refine L_take 10 rfl (by kernel_rfl) (by kernel_rfl) (by kernel_rfl) (by kernel_rfl) hB10 rfl rfl rfl (fun a ha w' _ => run_pv E ha rfl _ _ _ _ _) ?_
          refine L_op 9 (by kernel_rfl) rfl (fun hc => ?_)
          refine U_call rfl rfl (Tryz.call55 _) (seed_rc w10 g vs.length hg (by omega)) ?_
          rintro r w11 ⟨rfl, k11⟩
          refine U_nilL hc (fun _ => hB10.mv k11 (fun x => x)) ?_
          refine L_op 11 (by kernel_rfl) rfl (fun hc => ?_)
          have hnx := next_c w11 _ v7 Y (sdr g vs.length) (sdr_lt _ _) ((hr10.mv k11 (fun _ _ _ x => x)).sl (by omega)) (by omega)
          refine U_call rfl rfl (Tryz.call52 _) (hnx) ?_
          rintro r w12 ⟨k12, u, rfl, hu⟩
          have hB12 := (hB10.mv k11 (fun x => x)).mv k12 (fun x => x)
          refine U_nilL hc (fun _ => hB12) ?_
          have k10 : Kept none0 w w11 := (k8'.tr (hd10.kept none0) (fun _ _ x => x)).tr k11 (fun _ _ x => x)
          have k12' : Kept none0 w w12 := k10.tr k12 (fun _ _ x => x)
          have s11 := k10.size
          have hsd : sdr g vs.length = sdr g l.length := by rw [h3]
          rw [hsd] at hu ⊢
          by_cases hne : nErr (sdr g l.length) Y = 0
          · rw [if_pos hne] at he
            rw [hne]
            refine L_take 12 rfl (by kernel_rfl) (by kernel_rfl) (by kernel_rfl) (by kernel_rfl) hB12 rfl rfl rfl (fun a ha w' _ => run_pv E ha rfl _ _ _ _ _) ?_; refine L_take 13 rfl (by kernel_rfl) (by kernel_rfl) (by kernel_rfl) (by kernel_rfl) hB12 rfl rfl rfl (fun a ha w' _ => run_pv E ha rfl _ _ _ _ _) ?_; refine L_take 14 rfl (by kernel_rfl) (by kernel_rfl) (by kernel_rfl) (by kernel_rfl) hB12 rfl rfl rfl (fun a ha w' _ => run_pv E ha rfl _ _ _ _ _) ?_; refine L_take 15 rfl (by kernel_rfl) (by kernel_rfl) (by kernel_rfl) (by kernel_rfl) hB12 rfl rfl rfl (fun a ha w' _ => run_pv E ha rfl _ _ _ _ _) ?_; refine L_take 16 rfl (by kernel_rfl) (by kernel_rfl) (by kernel_rfl) (by kernel_rfl) hB12 rfl rfl rfl (fun a ha w' _ => run_pv E ha rfl _ _ _ _ _) ?_; refine L_take 17 rfl (by kernel_rfl) (by kernel_rfl) (by kernel_rfl) (by kernel_rfl) hB12 rfl rfl rfl (fun a ha w' _ => run_pv E ha rfl _ _ _ _ _) ?_; refine L_take 18 rfl (by kernel_rfl) (by kernel_rfl) (by kernel_rfl) (by kernel_rfl) hB12 rfl rfl rfl (fun a ha w' _ => run_pv E ha rfl _ _ _ _ _) ?_
            refine L_done (by kernel_rfl) ?_
            rw [errV0]
            repeat (first | (with_reducible first | apply T_seq | apply T_region | apply U_nil | apply T_skip | apply T_block | apply T_inBlock | apply Cnd_t | apply Cnd_f | apply Cnd_not | apply Cnd_some | apply Cnd_none | apply Gd_nt | apply Gd_nf | apply Gd_some | apply Gd_none | apply Gd_want) | refine U_ar rfl rfl rfl (wrap_k (by simp only [wrapOk]; omega)) rfl ?_ | refine U_cv E rfl rfl rfl (wrap_k (by simp only [wrapOk]; omega)) rfl ?_ | refine U_pure E rfl rfl ?_ | refine T_exit rfl ?_ | refine T_condV rfl ?_ | refine U_guard rfl rfl ?_ | ((with_reducible refine Gd_skipT ?_ ?_); exact rfl) | ((with_reducible refine Gd_skipF ?_ ?_); exact rfl))
            refine L_begin (fun _ => True) 7 (by kernel_rfl) (N := 7) rfl (fun w13 hd13 => ?_)
            refine L_take 0 rfl (by kernel_rfl) (by kernel_rfl) (by kernel_rfl) (by kernel_rfl) trivial rfl rfl rfl (fun a ha w' _ => run_pv E ha rfl _ _ _ _ _) ?_; refine L_take 1 rfl (by kernel_rfl) (by kernel_rfl) (by kernel_rfl) (by kernel_rfl) trivial rfl rfl rfl (fun a ha w' _ => run_pv E ha rfl _ _ _ _ _) ?_; refine L_take 2 rfl (by kernel_rfl) (by kernel_rfl) (by kernel_rfl) (by kernel_rfl) trivial rfl rfl rfl (fun a ha w' _ => run_pv E ha rfl _ _ _ _ _) ?_; refine L_take 3 rfl (by kernel_rfl) (by kernel_rfl) (by kernel_rfl) (by kernel_rfl) trivial rfl rfl rfl (fun a ha w' _ => run_pv E ha rfl _ _ _ _ _) ?_; refine L_take 4 rfl (by kernel_rfl) (by kernel_rfl) (by kernel_rfl) (by kernel_rfl) trivial rfl rfl rfl (fun a ha w' _ => run_pv E ha rfl _ _ _ _ _) ?_; refine L_take 5 rfl (by kernel_rfl) (by kernel_rfl) (by kernel_rfl) (by kernel_rfl) trivial rfl rfl rfl (fun a ha w' _ => run_pv E ha rfl _ _ _ _ _) ?_; refine L_take 6 rfl (by kernel_rfl) (by kernel_rfl) (by kernel_rfl) (by kernel_rfl) trivial rfl rfl rfl (fun a ha w' _ => run_pv E ha rfl _ _ _ _ _) ?_
            refine L_done (by kernel_rfl) ?_
            refine T_ret3 Tryz.func38 rfl rfl rfl rfl ⟨_, rfl, k12'.tr (hd13.kept none0) (fun _ _ x => x), .inr ⟨u, _, k, he.symm, rfl, ?_⟩⟩
            exact (hu.mv (hd13.kept none0) (fun _ _ _ x => x)).mono (fun j _ hj => Nat.le_trans s11 hj)
          · rw [if_neg hne] at he
            obtain ⟨j, hj, hje⟩ := errV_ne hne
            rw [hje]
            refine L_take 12 rfl (by kernel_rfl) (by kernel_rfl) (by kernel_rfl) (by kernel_rfl) hB12 rfl rfl rfl (fun a ha w' _ => run_pv E ha rfl _ _ _ _ _) ?_; refine L_take 13 rfl (by kernel_rfl) (by kernel_rfl) (by kernel_rfl) (by kernel_rfl) hB12 rfl rfl rfl (fun a ha w' _ => run_pv E ha rfl _ _ _ _ _) ?_; refine L_take 14 rfl (by kernel_rfl) (by kernel_rfl) (by kernel_rfl) (by kernel_rfl) hB12 rfl rfl rfl (fun a ha w' _ => run_pv E ha rfl _ _ _ _ _) ?_; refine L_take 15 rfl (by kernel_rfl) (by kernel_rfl) (by kernel_rfl) (by kernel_rfl) hB12 rfl rfl rfl (fun a ha w' _ => run_pv E ha rfl _ _ _ _ _) ?_; refine L_take 16 rfl (by kernel_rfl) (by kernel_rfl) (by kernel_rfl) (by kernel_rfl) hB12 rfl rfl rfl (fun a ha w' _ => run_pv E ha rfl _ _ _ _ _) ?_; refine L_take 17 rfl (by kernel_rfl) (by kernel_rfl) (by kernel_rfl) (by kernel_rfl) hB12 rfl rfl rfl (fun a ha w' _ => run_pv E ha rfl _ _ _ _ _) ?_; refine L_take 18 rfl (by kernel_rfl) (by kernel_rfl) (by kernel_rfl) (by kernel_rfl) hB12 rfl rfl rfl (fun a ha w' _ => run_pv E ha rfl _ _ _ _ _) ?_
            refine L_done (by kernel_rfl) ?_
            repeat (first | (with_reducible first | apply T_seq | apply T_region | apply U_nil | apply T_skip | apply T_block | apply T_inBlock | apply Cnd_t | apply Cnd_f | apply Cnd_not | apply Cnd_some | apply Cnd_none | apply Gd_nt | apply Gd_nf | apply Gd_some | apply Gd_none | apply Gd_want) | refine U_ar rfl rfl rfl (wrap_k (by simp only [wrapOk]; omega)) rfl ?_ | refine U_cv E rfl rfl rfl (wrap_k (by simp only [wrapOk]; omega)) rfl ?_ | refine U_pure E rfl rfl ?_ | refine T_exit rfl ?_ | refine T_condV rfl ?_ | refine U_guard rfl rfl ?_ | ((with_reducible refine Gd_skipT ?_ ?_); exact rfl) | ((with_reducible refine Gd_skipF ?_ ?_); exact rfl))
            refine L_begin (fun _ => True) 7 (by kernel_rfl) (N := 7) rfl (fun w13 hd13 => ?_)
            refine L_take 0 rfl (by kernel_rfl) (by kernel_rfl) (by kernel_rfl) (by kernel_rfl) trivial rfl rfl rfl (fun a ha w' _ => run_pv E ha rfl _ _ _ _ _) ?_; refine L_take 1 rfl (by kernel_rfl) (by kernel_rfl) (by kernel_rfl) (by kernel_rfl) trivial rfl rfl rfl (fun a ha w' _ => run_pv E ha rfl _ _ _ _ _) ?_; refine L_take 2 rfl (by kernel_rfl) (by kernel_rfl) (by kernel_rfl) (by kernel_rfl) trivial rfl rfl rfl (fun a ha w' _ => run_pv E ha rfl _ _ _ _ _) ?_; refine L_take 3 rfl (by kernel_rfl) (by kernel_rfl) (by kernel_rfl) (by kernel_rfl) trivial rfl rfl rfl (fun a ha w' _ => run_pv E ha rfl _ _ _ _ _) ?_; refine L_take 4 rfl (by kernel_rfl) (by kernel_rfl) (by kernel_rfl) (by kernel_rfl) trivial rfl rfl rfl (fun a ha w' _ => run_pv E ha rfl _ _ _ _ _) ?_; refine L_take 5 rfl (by kernel_rfl) (by kernel_rfl) (by kernel_rfl) (by kernel_rfl) trivial rfl rfl rfl (fun a ha w' _ => run_pv E ha rfl _ _ _ _ _) ?_; refine L_take 6 rfl (by kernel_rfl) (by kernel_rfl) (by kernel_rfl) (by kernel_rfl) trivial rfl rfl rfl (fun a ha w' _ => run_pv E ha rfl _ _ _ _ _) ?_
            refine L_done (by kernel_rfl) ?_
            exact T_ret3 Tryz.func38 rfl rfl rfl rfl ⟨_, rfl, k12'.tr (hd13.kept none0) (fun _ _ x => x), .inl ⟨he.symm, _, _, rfl⟩⟩
  · rw [if_neg (by omega)] at he
    repeat (first | (with_reducible first | apply T_seq | apply T_region | apply U_nil | apply T_skip | apply T_block | apply T_inBlock | apply Cnd_t | apply Cnd_f | apply Cnd_not | apply Cnd_some | apply Cnd_none | apply Gd_nt | apply Gd_nf | apply Gd_some | apply Gd_none | apply Gd_want) | refine U_ar rfl rfl rfl (wrap_k (by simp only [wrapOk]; omega)) rfl ?_ | refine U_cv E rfl rfl rfl (wrap_k (by simp only [wrapOk]; omega)) rfl ?_ | refine U_pure E rfl rfl ?_ | refine T_exit rfl ?_ | refine T_condV rfl ?_ | refine U_guard rfl rfl ?_ | ((with_reducible refine Gd_skipT ?_ ?_); exact rfl) | ((with_reducible refine Gd_skipF ?_ ?_); exact rfl))
    exact T_ret3 Tryz.func38 rfl rfl rfl rfl ⟨_, rfl, k3, .inl ⟨he.symm, _, _, rfl⟩⟩
end Go.Proofs.YtoefhdaenaiomaaGreatDoor

/- Regions of open order with several late writes (ds): all that only reads has come up before. -/
namespace Go.Proofs.YtoefhdaenaiomaaGreatDoor
open Go
set_option maxRecDepth 20000

section
variable {P : Program} {ops : Array Oper} {Q : Exit → Act → World → Prop} {S0 : World → Prop} {d : List Nat}
/-- Whatever order is picked; S0 holds behind every operation but the late ones, ds. -/
def wpAnyM (P : Program) (ops : Array Oper) (Q : Exit → Act → World → Prop) (S0 : World → Prop) (d : List Nat) : Nat → Array Bool → Act → World → Prop
  | 0, listed, a, w => Region.ready .any ops listed = [] ∧ Q .normal a w
  | fuel + 1, listed, a, w =>
    (Region.ready .any ops listed = [] → Q .normal a w) ∧
    ∀ i ∈ Region.ready .any ops listed, wpOp P ops Q i (fun a' w' => (S0 w → i ∉ d → S0 w') ∧ wpAnyM P ops Q S0 d fuel (listed.setIfInBounds i true) a' w') a w

theorem wpAny_of_M : ∀ (fuel : Nat) (listed : Array Bool) (a : Act) (w : World), wpAnyM P ops Q S0 d fuel listed a w → wpAny P .any ops Q fuel listed a w
  | 0, _, _, _, h => h
  | fuel + 1, _, _, _, h => ⟨h.1, fun i hi => wpOp_mono (fun a' w' h' => wpAny_of_M fuel _ a' w' h'.2) (h.2 i hi)⟩

theorem wpAnyM_first {i : Nat} {oi : Oper} {v : Value} {fu : Nat} (hi : ops[i]? = some oi) (hsel : ∀ (j : Nat) (o : Oper) cs b, ops[j]? = some o → o.op ≠ .select cs b)
    (hQ : ∀ c a w, Q (.panic c) (a.put oi.dst v) w → Q (.panic c) a w) (hid : i ∉ d) (hwt : ∀ j ∈ d, j < ops.size → waitsB ops i fu j = true) :
    ∀ (fuel : Nat) (listed : Array Bool) (a : Act) (w : World), Closed ops listed →
      (∀ j oj, ops[j]? = some oj → j ≠ i → listed.getD j true = false → (∀ e ∈ oj.after, Region.binds .any e = true → e.on ≠ i) → oi.apart ops oj = true) →
      i ∈ Region.ready .any ops listed → YieldsIf P ops S0 oi v a → S0 w →
      wpAnyM P ops Q S0 d fuel (listed.setIfInBounds i true) (a.put oi.dst v) w → wpAnyM P ops Q S0 d (fuel + 1) listed a w := by
  intro fuel
  induction fuel with
  | zero =>
    intro listed a w _ _ hr hy hS H
    refine ⟨fun h => (by rw [h] at hr; cases hr), fun j hj => ?_⟩
    by_cases hji : j = i
    · subst hji; exact hy.wpOp hi hS ⟨fun h _ => h, H⟩
    · have := ready_mono hj hji
      rw [H.1] at this
      cases this
  | succ fuel ih =>
    intro listed a w hcl hfree hr hy hS H
    refine ⟨fun h => (by rw [h] at hr; cases hr), fun j hj => ?_⟩
    by_cases hji : j = i
    · subst hji; exact hy.wpOp hi hS ⟨fun h _ => h, H⟩
    · have h1 := H.2 j (ready_mono hj hji)
      obtain ⟨hjun, oj, hoj, hall⟩ := mem_ready.1 hj
      have hiun := (mem_ready.1 hr).1
      have hnot : ∀ e ∈ oj.after, Region.binds .any e = true → e.on ≠ i := fun e he hb heq => by
        have h1 := hall e he hb
        rw [heq] at h1
        rcases Nat.lt_or_ge i listed.size with h' | h'
        · simp [h'] at hiun h1; rw [hiun] at h1; cases h1
        · simp [Array.getElem?_eq_none h'] at h1
      have hjd : j ∉ d := fun e => waits_not_ready hcl (hwt j e (Array.getElem?_eq_some_iff.1 hoj).1) hiun hj
      have h2 := wpOp_putIf hoj (hfree j oj hoj hji hjun hnot) (fun cs b => hsel i oi cs b hi) (fun cs b => hsel j oj cs b hoj) hQ hy h1
      have hfree' : ∀ k ok, ops[k]? = some ok → k ≠ i → (listed.setIfInBounds j true).getD k true = false →
          (∀ e ∈ ok.after, Region.binds .any e = true → e.on ≠ i) → oi.apart ops ok = true := fun k ok hk hki hun hno => by
        refine hfree k ok hk hki ?_ hno
        by_cases hjk : j = k
        · subst hjk; exact hjun
        · rw [getD_set_ne true hjk] at hun; exact hun
      refine wpOp_mono (fun a' w' h3 => ⟨h3.2.1, ih (listed.setIfInBounds j true) a' w' (hcl.put hj) hfree' (ready_mono hr (Ne.symm hji)) h3.1 (h3.2.1 hS hjd) ?_⟩) h2
      rw [Array.setIfInBounds_comm _ _ hji]
      exact h3.2.2
theorem wpAnyM_pure {i : Nat} {oi : Oper} {v : Value} (hi : ops[i]? = some oi) (hsel : ∀ (j : Nat) (o : Oper) cs b, ops[j]? = some o → o.op ≠ .select cs b)
    (hQ : ∀ c a w, Q (.panic c) (a.put oi.dst v) w → Q (.panic c) a w) :
    ∀ (fuel : Nat) (listed : Array Bool) (a : Act) (w : World), Closed ops listed →
      (∀ j oj, ops[j]? = some oj → j ≠ i → listed.getD j true = false → (∀ e ∈ oj.after, Region.binds .any e = true → e.on ≠ i) → oi.apart ops oj = true) →
      i ∈ Region.ready .any ops listed → YieldsIf P ops (fun _ => True) oi v a →
      wpAnyM P ops Q S0 d fuel (listed.setIfInBounds i true) (a.put oi.dst v) w → wpAnyM P ops Q S0 d (fuel + 1) listed a w := by
  intro fuel
  induction fuel with
  | zero =>
    intro listed a w _ _ hr hy H
    refine ⟨fun h => (by rw [h] at hr; cases hr), fun j hj => ?_⟩
    by_cases hji : j = i
    · subst hji; exact hy.wpOp hi trivial ⟨fun h _ => h, H⟩
    · have := ready_mono hj hji
      rw [H.1] at this
      cases this
  | succ fuel ih =>
    intro listed a w hcl hfree hr hy H
    refine ⟨fun h => (by rw [h] at hr; cases hr), fun j hj => ?_⟩
    by_cases hji : j = i
    · subst hji; exact hy.wpOp hi trivial ⟨fun h _ => h, H⟩
    · have h1 := H.2 j (ready_mono hj hji)
      obtain ⟨hjun, oj, hoj, hall⟩ := mem_ready.1 hj
      have hiun := (mem_ready.1 hr).1
      have hnot : ∀ e ∈ oj.after, Region.binds .any e = true → e.on ≠ i := fun e he hb heq => by
        have h1 := hall e he hb
        rw [heq] at h1
        rcases Nat.lt_or_ge i listed.size with h' | h'
        · simp [h'] at hiun h1; rw [hiun] at h1; cases h1
        · simp [Array.getElem?_eq_none h'] at h1
      have h2 := wpOp_putIf hoj (hfree j oj hoj hji hjun hnot) (fun cs b => hsel i oi cs b hi) (fun cs b => hsel j oj cs b hoj) hQ hy h1
      have hfree' : ∀ k ok, ops[k]? = some ok → k ≠ i → (listed.setIfInBounds j true).getD k true = false →
          (∀ e ∈ ok.after, Region.binds .any e = true → e.on ≠ i) → oi.apart ops ok = true := fun k ok hk hki hun hno => by
        refine hfree k ok hk hki ?_ hno
        by_cases hjk : j = k
        · subst hjk; exact hjun
        · rw [getD_set_ne true hjk] at hun; exact hun
      refine wpOp_mono (fun a' w' h3 => ⟨h3.2.1, ih (listed.setIfInBounds j true) a' w' (hcl.put hj) hfree' (ready_mono hr (Ne.symm hji)) h3.1 ?_⟩) h2
      rw [Array.setIfInBounds_comm _ _ hji]
      exact h3.2.2
end

section
variable {P : Program} {f : FuncId} {R : Ending → World → Prop} {n : Nat} {k : List Item} {m : Fm} {ops : Array Oper} {w : World} {S0 : World → Prop} {d : List Nat} {fuel : Nat} {listed : Array Bool}

def M (P : Program) (f : FuncId) (R : Ending → World → Prop) (n : Nat) (k : List Item) (ops : Array Oper) (S0 : World → Prop) (d : List Nat) (fuel : Nat) (listed : Array Bool) (m : Fm) (w : World) : Prop :=
  Closed ops listed → ∀ a, Fits a n m → wpAnyM P ops (fun e a' w' => e = .normal ∧ S P f R k a' w') S0 d fuel listed a w

theorem M_begin {id N : Nat} {l : List Oper} (S0 : World → Prop) (d : List Nat) (hm : P.follows .mixedOrders = true) (hN : l.length = N) (h : ∀ w1, Drew w w1 → M P f R n k l.toArray S0 d N (Array.replicate N false) m w1) : T P f R n (.code (.region id l.toArray true) :: k) m w := by
  subst hN
  intro a ha
  refine S_of_wp (wp_region_any hm (wpAny_of_M (S0 := S0) (d := d) _ _ _ _ ?_))
  have := h { w with drawn := w.drawn + 1 } ⟨1, rfl⟩ (by simpa using Closed.start _) a ha
  simpa using this

theorem M_take (i : Nat) {o : Oper} {v : Value} {d' : Nat} (hi : ops[i]? = some o) (hs : Region.noSelect ops = true) (hf : Region.free .any ops listed i = true) (hr : (Region.ready .any ops listed).contains i = true)
    (hid : (d.contains i || !(d.all fun j => !decide (j < ops.size) || waitsB ops i ops.size j)) = false) (hS : S0 w) (hg : o.guard = none) (hdst : o.dst = some d') (hd : Nat.blt d' n = true)
    (hy : ∀ a, Fits a n m → ∀ w', S0 w' → (execOp a.eval o).run P w' = .ok (.value v) w') (h : M P f R n k ops S0 d fuel (listed.setIfInBounds i true) ((d', v) :: m) w) : M P f R n k ops S0 d (fuel + 1) listed m w := by
  intro hcl a ha
  simp only [Bool.or_eq_false_iff, Bool.not_eq_false', List.all_eq_true] at hid
  have hne : i ∉ d := fun e => by
    have := hid.1
    rw [List.contains_iff_mem.2 e] at this
    cases this
  have hrr : i ∈ Region.ready .any ops listed := by simpa using hr
  have := h (hcl.put hrr) _ (ha.put v hd)
  rw [← hdst] at this
  refine wpAnyM_first (fu := ops.size) hi (Region.noSelect_spec hs) (fun c a w h => by cases h.1) hne (fun j hj hlt => ?_) fuel listed a w hcl (Region.free_spec hi hf) hrr (.inl ⟨by simp [Region.wanted, hg], hy a ha⟩) hS this
  have h2 := hid.2 j hj
  simpa [hlt] using h2

/-- One that looks at no memory. -/
theorem M_takeP (i : Nat) {o : Oper} {v : Value} {d' : Nat} (hi : ops[i]? = some o) (hs : Region.noSelect ops = true) (hf : Region.free .any ops listed i = true) (hr : (Region.ready .any ops listed).contains i = true)
    (hg : o.guard = none) (hdst : o.dst = some d') (hd : Nat.blt d' n = true)
    (hy : ∀ a, Fits a n m → ∀ w', (execOp a.eval o).run P w' = .ok (.value v) w') (h : M P f R n k ops S0 d fuel (listed.setIfInBounds i true) ((d', v) :: m) w) : M P f R n k ops S0 d (fuel + 1) listed m w := by
  intro hcl a ha
  have hrr : i ∈ Region.ready .any ops listed := by simpa using hr
  have := h (hcl.put hrr) _ (ha.put v hd)
  rw [← hdst] at this
  exact wpAnyM_pure hi (Region.noSelect_spec hs) (fun c a w h => by cases h.1) fuel listed a w hcl (Region.free_spec hi hf) hrr (.inl ⟨by simp [Region.wanted, hg], fun w' _ => hy a ha w'⟩) this

/-- The one that comes up. -/
theorem M_run (i : Nat) {o : Oper} {v : Value} {w' : World} {d' : Nat} (hr : Region.ready .any ops listed = [i]) (hi : ops[i]? = some o) (hg : o.guard = none) (hdst : o.dst = some d') (hd : Nat.blt d' n = true)
    (hrun : ∀ a, Fits a n m → (execOp a.eval o).run P w = .ok (.value v) w') (hS : i ∉ d → S0 w') (h : M P f R n k ops S0 d fuel (listed.setIfInBounds i true) ((d', v) :: m) w') : M P f R n k ops S0 d (fuel + 1) listed m w := by
  intro hcl a ha
  refine ⟨fun h0 => (by rw [hr] at h0; cases h0), fun j hj => ?_⟩
  have hrr := hj
  rw [hr] at hj
  obtain rfl : j = i := by simpa using hj
  refine wpOp_mono (K := fun a' w' => (j ∉ d → S0 w') ∧ wpAnyM P ops (fun e a' w' => e = .normal ∧ S P f R k a' w') S0 d fuel (listed.setIfInBounds j true) a' w') (fun a' w' h => ⟨fun _ => h.1, h.2⟩) ?_
  unfold wpOp
  rw [hi]
  simp only
  rw [if_pos (by simp [Region.wanted, hg])]
  refine .inl ?_
  unfold Oper.wp
  rw [hrun a ha, Oper.upon_value]
  refine ⟨hS, ?_⟩
  rw [hdst]
  exact h (hcl.put hrr) _ (ha.put v hd)

theorem M_runNone (i : Nat) {o : Oper} {w' : World} (hr : Region.ready .any ops listed = [i]) (hi : ops[i]? = some o) (hg : o.guard = none) (hdst : o.dst = none)
    (hrun : ∀ a, Fits a n m → (execOp a.eval o).run P w = .ok .skip w') (hS : i ∉ d → S0 w') (h : M P f R n k ops S0 d fuel (listed.setIfInBounds i true) m w') : M P f R n k ops S0 d (fuel + 1) listed m w := by
  intro hcl a ha
  refine ⟨fun h0 => (by rw [hr] at h0; cases h0), fun j hj => ?_⟩
  have hrr := hj
  rw [hr] at hj
  obtain rfl : j = i := by simpa using hj
  refine wpOp_mono (K := fun a' w' => (j ∉ d → S0 w') ∧ wpAnyM P ops (fun e a' w' => e = .normal ∧ S P f R k a' w') S0 d fuel (listed.setIfInBounds j true) a' w') (fun a' w' h => ⟨fun _ => h.1, h.2⟩) ?_
  unfold wpOp
  rw [hi]
  simp only
  rw [if_pos (by simp [Region.wanted, hg])]
  refine .inl ?_
  unfold Oper.wp
  rw [hrun a ha, Oper.upon_skip]
  refine ⟨hS, ?_⟩
  rw [hdst]
  exact h (hcl.put hrr) _ (ha.put_none undef)

/-- The one that comes up, by the rules of the closed order. -/
def MZ (P : Program) (f : FuncId) (R : Ending → World → Prop) (k : List Item) (ops : Array Oper) (S0 : World → Prop) (d : List Nat) (fuel i : Nat) (listed : Array Bool) : Act → World → Prop := fun a w =>
  (i ∉ d → S0 w) ∧ wpAnyM P ops (fun e a' w' => e = .normal ∧ S P f R k a' w') S0 d fuel listed a w
theorem M_op (i : Nat) {o : Oper} (hr : Region.ready .any ops listed = [i]) (hi : ops[i]? = some o) (h : Closed ops (listed.setIfInBounds i true) → U P n (MZ P f R k ops S0 d fuel i (listed.setIfInBounds i true)) ops [o] m w) : M P f R n k ops S0 d (fuel + 1) listed m w := by
  intro hcl a ha
  refine ⟨fun h0 => (by rw [hr] at h0; cases h0), fun j hj => ?_⟩
  have hrr := hj
  rw [hr] at hj
  obtain rfl : j = i := by simpa using hj
  have := h (hcl.put hrr) a ha
  refine wpOp_mono (K := fun a' w' => (j ∉ d → S0 w') ∧ wpAnyM P ops (fun e a' w' => e = .normal ∧ S P f R k a' w') S0 d fuel (listed.setIfInBounds j true) a' w') (fun a' w' h => ⟨fun _ => h.1, h.2⟩) ?_
  unfold wpList at this
  unfold wpOp
  rw [hi]
  simp only
  split
  · rename_i hw
    rw [if_pos hw] at this
    rcases this with this | this
    · refine .inl ?_
      unfold Oper.wp at *
      generalize (execOp a.eval o).run P w = rs at *
      cases rs with
      | ok nx w' =>
        cases nx <;> simp only [Oper.upon] at this ⊢ <;>
          first
            | exact this.2
            | exact Calls.mono this (fun e w'' he => by cases e <;> first | exact he.2 | exact absurd he.1 (by intro h; cases h) | (obtain ⟨x, y, h⟩ := he; exact absurd h.1 (by intro h; cases h)))
            | exact Rows.mono this (fun _ _ he => he.2)
      | halt x w' => cases x <;> simp only [Oper.upon] at this ⊢ <;> first | exact this | exact absurd this.1 (by intro h; cases h)
    · obtain ⟨_, x, y, h⟩ := this
      exact absurd h.1 (by intro h; cases h)
  · rename_i hw
    rw [if_neg hw] at this
    exact this.2
theorem M_op2 (i j : Nat) {o o2 : Oper} (hr : Region.ready .any ops listed = [i, j]) (hi : ops[i]? = some o) (hj : ops[j]? = some o2) (h : Closed ops (listed.setIfInBounds i true) → U P n (MZ P f R k ops S0 d fuel i (listed.setIfInBounds i true)) ops [o] m w)
    (h2 : Closed ops (listed.setIfInBounds j true) → U P n (MZ P f R k ops S0 d fuel j (listed.setIfInBounds j true)) ops [o2] m w) : M P f R n k ops S0 d (fuel + 1) listed m w := by
  have one : ∀ (i : Nat) (o : Oper), ops[i]? = some o → (Closed ops (listed.setIfInBounds i true) → U P n (MZ P f R k ops S0 d fuel i (listed.setIfInBounds i true)) ops [o] m w) → i ∈ Region.ready .any ops listed →
      Closed ops listed → ∀ a, Fits a n m → wpOp P ops (fun e a' w' => e = .normal ∧ S P f R k a' w') i (fun a' w' => (i ∉ d → S0 w') ∧ wpAnyM P ops (fun e a' w' => e = .normal ∧ S P f R k a' w') S0 d fuel (listed.setIfInBounds i true) a' w') a w := by
    intro i o hi h hrr hcl a ha
    have := h (hcl.put hrr) a ha
    unfold wpList at this
    unfold wpOp
    rw [hi]
    simp only
    split
    · rename_i hw
      rw [if_pos hw] at this
      rcases this with this | this
      · refine .inl ?_
        unfold Oper.wp at *
        generalize (execOp a.eval o).run P w = rs at *
        cases rs with
        | ok nx w' =>
          cases nx <;> simp only [Oper.upon] at this ⊢ <;>
            first
              | exact this.2
              | exact Calls.mono this (fun e w'' he => by cases e <;> first | exact he.2 | exact absurd he.1 (by intro h; cases h) | (obtain ⟨x, y, h⟩ := he; exact absurd h.1 (by intro h; cases h)))
              | exact Rows.mono this (fun _ _ he => he.2)
        | halt x w' => cases x <;> simp only [Oper.upon] at this ⊢ <;> first | exact this | exact absurd this.1 (by intro h; cases h)
      · obtain ⟨_, x, y, h⟩ := this
        exact absurd h.1 (by intro h; cases h)
    · rename_i hw
      rw [if_neg hw] at this
      exact this.2
  intro hcl a ha
  refine ⟨fun h0 => (by rw [hr] at h0; cases h0), fun q hq => ?_⟩
  have hq2 := hq
  rw [hr] at hq
  simp only [List.mem_cons, List.not_mem_nil, or_false] at hq
  rcases hq with rfl | rfl
  · exact wpOp_mono (fun a' w' h => ⟨fun _ => h.1, h.2⟩) (one _ _ hi h hq2 hcl a ha)
  · exact wpOp_mono (fun a' w' h => ⟨fun _ => h.1, h.2⟩) (one _ _ hj h2 hq2 hcl a ha)
theorem U_nilM {i : Nat} (hcl : Closed ops listed) (hS : i ∉ d → S0 w) (h : M P f R n k ops S0 d fuel listed m w) : U P n (MZ P f R k ops S0 d fuel i listed) ops [] m w :=
  fun a ha => wpList_nil ⟨rfl, hS, h hcl a ha⟩

theorem M_done (hr : Region.ready .any ops listed = []) (h : T P f R n k m w) : M P f R n k ops S0 d fuel listed m w := by
  intro _ a ha
  cases fuel with
  | zero => exact ⟨hr, rfl, h a ha⟩
  | succ fu => exact ⟨fun _ => ⟨rfl, h a ha⟩, by rw [hr]; simp⟩
end
end Go.Proofs.YtoefhdaenaiomaaGreatDoor

/- The reel: Append. -/
namespace Go.Proofs.YtoefhdaenaiomaaGreatDoor
open Go
set_option maxRecDepth 20000

def appE (D : Dr) (g n at_ : Nat) (p : List UInt8) : Nat := if rfErr p.length ((hsz D : Int) - at_) ≠ 0 then rfErr p.length ((hsz D : Int) - at_) else (putF D g at_ n p).1
def appD (D : Dr) (g n at_ : Nat) (p : List UInt8) : Dr := if rfErr p.length ((hsz D : Int) - at_) ≠ 0 then D else (putF D g at_ n p).2
theorem rfErr_ok {n : Nat} {left : Int} (h : rfErr n left = 0) : n ≤ 100000 ∧ (pgs n : Int) ≤ left := by
  unfold rfErr at h
  by_cases h1 : 100000 < n
  · rw [if_pos h1] at h; cases h
  · rw [if_neg h1] at h
    by_cases h2 : left < (pgs n : Int)
    · rw [if_pos h2] at h; cases h
    · exact ⟨by omega, by omega⟩

/-- A list's values grow by one. -/
theorem snoc_bs {w : World} {G : Nat → Prop} {vs : List Value} {l : List (List UInt8)} {v : Value} {p : List UInt8} (hl : vs.length = l.length) (h : ∀ (j : Nat) u q, vs[j]? = some u → l[j]? = some q → BS w G u q) (hv : BS w G v p) :
    ∀ (j : Nat) u q, (vs ++ [v])[j]? = some u → (l ++ [p])[j]? = some q → BS w G u q := by
  intro j u q hu hq
  rcases Nat.lt_or_ge j vs.length with hj | hj
  · rw [List.getElem?_append_left hj] at hu
    rw [List.getElem?_append_left (by omega)] at hq
    exact h j u q hu hq
  · rw [List.getElem?_append_right hj] at hu
    rw [List.getElem?_append_right (by omega)] at hq
    have e0 : j - vs.length = 0 := by
      have := (List.getElem?_eq_some_iff.1 hu).1
      simp at this
      omega
    rw [e0] at hu
    rw [← hl, e0] at hq
    injection hu with hu
    injection hq with hq
    subst hu
    subst hq
    exact hv

set_option maxHeartbeats 8000000 in
theorem append_rc {w : World} {F Fr : Nat → Prop} {hb rb g at_ : Nat} {l : List (List UInt8)} {D : Dr} (v : Value) (p : List UInt8) (h : Rl w F Fr hb rb g l at_) (hD : Dm w F hb D) (hl : 2 ≤ D.l.length) (hp : BS w (fun b => ¬ uni F Fr b) v p) (hpl : p.length ≤ 1000000) (hn : l.length < 10000) (hwn : D.wait.length + 200000 < 1000000) :
    Calls Tryz.prog 20 [ptr rb, v].toArray w (Ret fun r w' => r = errV (appE D g l.length at_ p) ∧ ∃ F' Fr', Own (uni F Fr) w (uni F' Fr') w' ∧ Dm w' F' hb (appD D g l.length at_ p) ∧
      Rl w' F' Fr' hb rb g (if appE D g l.length at_ p = 0 then l ++ [p] else l) (if appE D g l.length at_ p = 0 then at_ + pgs p.length else at_)) := by
  have hn2 := hD.isD.1.n2
  have hat := h.at1
  have hg := h.gen
  have hrm := room_c h hD hl
  have hz : hsz D ≤ 8192 := by unfold hsz; omega
  refine calls_T Tryz.func20 rfl rfl rfl ?_
  unfold ptr at *
  repeat (first | (with_reducible first | apply T_seq | apply T_region | apply U_nil | apply T_skip | apply T_block | apply T_inBlock | apply Cnd_t | apply Cnd_f | apply Cnd_not | apply Cnd_some | apply Cnd_none | apply Gd_nt | apply Gd_nf | apply Gd_some | apply Gd_none | apply Gd_want) | refine U_ar rfl rfl rfl (wrap_k (by simp only [wrapOk]; omega)) rfl ?_ | refine U_cv E rfl rfl rfl (wrap_k (by simp only [wrapOk]; omega)) rfl ?_ | refine U_pure E rfl rfl ?_ | refine T_exit rfl ?_ | refine T_condV rfl ?_ | refine U_guard rfl rfl ?_ | ((with_reducible refine Gd_skipT ?_ ?_); exact rfl) | ((with_reducible refine Gd_skipF ?_ ?_); exact rfl))
  refine U_call rfl rfl (Tryz.call22 _) (hrm) ?_
  rintro r w1 ⟨rfl, k1⟩
  have h1 := h.same hD.lt k1
  have hD1 := hD.same k1
  have hp1 := hp.mv k1 (fun _ _ _ x => x)
  have o1 : Own (uni F Fr) w (uni F Fr) w1 := Own.same (h.lt2 hD.lt) k1
  repeat (first | (with_reducible first | apply T_seq | apply T_region | apply U_nil | apply T_skip | apply T_block | apply T_inBlock | apply Cnd_t | apply Cnd_f | apply Cnd_not | apply Cnd_some | apply Cnd_none | apply Gd_nt | apply Gd_nf | apply Gd_some | apply Gd_none | apply Gd_want) | refine U_ar rfl rfl rfl (wrap_k (by simp only [wrapOk]; omega)) rfl ?_ | refine U_cv E rfl rfl rfl (wrap_k (by simp only [wrapOk]; omega)) rfl ?_ | refine U_pure E rfl rfl ?_ | refine T_exit rfl ?_ | refine T_condV rfl ?_ | refine U_guard rfl rfl ?_ | ((with_reducible refine Gd_skipT ?_ ?_); exact rfl) | ((with_reducible refine Gd_skipF ?_ ?_); exact rfl))
  refine U_call rfl rfl (Tryz.call25 _) (rfits_c w1 _ v p _ hp1 (by omega)) ?_
  rintro r w2 ⟨rfl, rfl⟩
  by_cases he : rfErr p.length ((hsz D : Int) - at_) = 0
  · obtain ⟨hp5, hpg⟩ := rfErr_ok he
    have hE : appE D g l.length at_ p = (putF D g at_ l.length p).1 := by rw [appE, if_neg (fun e => e he)]
    have hDD : appD D g l.length at_ p = (putF D g at_ l.length p).2 := by rw [appD, if_neg (fun e => e he)]
    rw [hE, hDD, he]
    obtain ⟨vl, vs, g1, g2, g3, g4, g5⟩ := h1.body
    obtain ⟨A, c, rfl⟩ := g4.val
    unfold ptr at g2
    rw [errV0]
    repeat (first | (with_reducible first | apply T_seq | apply T_region | apply U_nil | apply T_skip | apply T_block | apply T_inBlock | apply Cnd_t | apply Cnd_f | apply Cnd_not | apply Cnd_some | apply Cnd_none | apply Gd_nt | apply Gd_nf | apply Gd_some | apply Gd_none | apply Gd_want) | refine U_ar rfl rfl rfl (wrap_k (by simp only [wrapOk]; omega)) rfl ?_ | refine U_cv E rfl rfl rfl (wrap_k (by simp only [wrapOk]; omega)) rfl ?_ | refine U_pure E rfl rfl ?_ | refine T_exit rfl ?_ | refine T_condV rfl ?_ | refine U_guard rfl rfl ?_ | ((with_reducible refine Gd_skipT ?_ ?_); exact rfl) | ((with_reducible refine Gd_skipF ?_ ?_); exact rfl))
    refine L_begin (fun W => Blk W rb [.pointer (some ⟨hb, 0, none⟩), .int .u32 g, .slice A vs.length c, .int .i64 at_] 66) 20 (by kernel_rfl) (N := 20) rfl (fun w3 hd3 => ?_)
    have hB3 := g2.mv (hd3.kept none0) (fun x => x)
    have h3 := h1.same hD1.lt (hd3.kept none0)
    have hD3 := hD1.same (hd3.kept none0)
    have hp3 := hp1.mv (hd3.kept none0) (fun _ _ _ x => x)
    have o3 := o1.then0 (hd3.kept none0)
    have hpc := put_rc w3 F hb D g at_ vs.length v p hD3 hl hg (by have := h.len; omega) (by omega) hp3.ofUni hp5 hwn
    have hpq : putF D g at_ vs.length p = putF D g at_ l.length p := by rw [g3]
    rw [hpq] at hpc
    unfold ptr at *
    refine L_take 0 rfl (by kernel_rfl) (by kernel_rfl) (by kernel_rfl) (by kernel_rfl) hB3 rfl rfl rfl (fun a ha w' _ => run_pv E ha rfl _ _ _ _ _) ?_; refine L_take 1 rfl (by kernel_rfl) (by kernel_rfl) (by kernel_rfl) (by kernel_rfl) hB3 rfl rfl rfl (fun a ha w' _ => run_pv E ha rfl _ _ _ _ _) ?_; refine L_take 2 rfl (by kernel_rfl) (by kernel_rfl) (by kernel_rfl) (by kernel_rfl) hB3 rfl rfl rfl (fun a ha w' _ => run_pv E ha rfl _ _ _ _ _) ?_
    refine L_take 3 rfl (by kernel_rfl) (by kernel_rfl) (by kernel_rfl) (by kernel_rfl) hB3 rfl rfl rfl (fun a ha w' hS => ro_loadB E hS rfl rfl rfl rfl a ha) ?_
    refine L_take 4 rfl (by kernel_rfl) (by kernel_rfl) (by kernel_rfl) (by kernel_rfl) hB3 rfl rfl rfl (fun a ha w' _ => run_pv E ha rfl _ _ _ _ _) ?_; refine L_take 5 rfl (by kernel_rfl) (by kernel_rfl) (by kernel_rfl) (by kernel_rfl) hB3 rfl rfl rfl (fun a ha w' _ => run_pv E ha rfl _ _ _ _ _) ?_; refine L_take 6 rfl (by kernel_rfl) (by kernel_rfl) (by kernel_rfl) (by kernel_rfl) hB3 rfl rfl rfl (fun a ha w' _ => run_pv E ha rfl _ _ _ _ _) ?_
    refine L_take 7 rfl (by kernel_rfl) (by kernel_rfl) (by kernel_rfl) (by kernel_rfl) hB3 rfl rfl rfl (fun a ha w' hS => ro_loadB E hS rfl rfl rfl rfl a ha) ?_
    refine L_take 8 rfl (by kernel_rfl) (by kernel_rfl) (by kernel_rfl) (by kernel_rfl) hB3 rfl rfl rfl (fun a ha w' _ => run_pv E ha rfl _ _ _ _ _) ?_; refine L_take 9 rfl (by kernel_rfl) (by kernel_rfl) (by kernel_rfl) (by kernel_rfl) hB3 rfl rfl rfl (fun a ha w' _ => run_pv E ha rfl _ _ _ _ _) ?_; refine L_take 10 rfl (by kernel_rfl) (by kernel_rfl) (by kernel_rfl) (by kernel_rfl) hB3 rfl rfl rfl (fun a ha w' _ => run_pv E ha rfl _ _ _ _ _) ?_
    refine L_take 11 rfl (by kernel_rfl) (by kernel_rfl) (by kernel_rfl) (by kernel_rfl) hB3 rfl rfl rfl (fun a ha w' hS => ro_loadB E hS rfl rfl rfl rfl a ha) ?_
    refine L_take 12 rfl (by kernel_rfl) (by kernel_rfl) (by kernel_rfl) (by kernel_rfl) hB3 rfl rfl rfl (fun a ha w' _ => run_pv E ha rfl _ _ _ _ _) ?_; refine L_take 13 rfl (by kernel_rfl) (by kernel_rfl) (by kernel_rfl) (by kernel_rfl) hB3 rfl rfl rfl (fun a ha w' _ => run_pv E ha rfl _ _ _ _ _) ?_; refine L_take 14 rfl (by kernel_rfl) (by kernel_rfl) (by kernel_rfl) (by kernel_rfl) hB3 rfl rfl rfl (fun a ha w' _ => run_pv E ha rfl _ _ _ _ _) ?_
    refine L_take 15 rfl (by kernel_rfl) (by kernel_rfl) (by kernel_rfl) (by kernel_rfl) hB3 rfl rfl rfl (fun a ha w' hS => ro_loadB E hS rfl rfl rfl rfl a ha) ?_
    refine L_take 16 rfl (by kernel_rfl) (by kernel_rfl) (by kernel_rfl) (by kernel_rfl) hB3 rfl rfl rfl (fun a ha w' _ => run_pv E ha rfl _ _ _ _ _) ?_; refine L_take 17 rfl (by kernel_rfl) (by kernel_rfl) (by kernel_rfl) (by kernel_rfl) hB3 rfl rfl rfl (fun a ha w' _ => run_pv E ha rfl _ _ _ _ _) ?_
    refine L_op 18 (by kernel_rfl) rfl (fun hc => ?_)
    refine U_call rfl rfl (Tryz.call40 _) (hpc) ?_
    rintro r w4 ⟨rfl, F4, o4, hD4⟩
    have hrbF : ¬ F rb := (h1.lt rb g1).2
    have hB4 := o4.blk hB3 hrbF
    refine U_nilL hc (fun _ => hB4) ?_
    refine L_take 19 rfl (by kernel_rfl) (by kernel_rfl) (by kernel_rfl) (by kernel_rfl) hB4 rfl rfl rfl (fun a ha w' _ => run_pv E ha rfl _ _ _ _ _) ?_
    refine L_done (by kernel_rfl) ?_
    have h4 := h3.drum o4
    have o4' := o3.tr (o4.both h3.lt)
    have hp4 : BS w4 (fun b => ¬ uni F4 Fr b) v p := (o4.both h3.lt).sl hp3
    by_cases hpe : (putF D g at_ l.length p).1 = 0
    · rw [if_pos hpe, if_pos hpe, hpe, errV0]
      clear g1 g2 g4 g5 hB3 hB4 h3 h1 hp3 hp1 hpc
      obtain ⟨vl, us, g1, g2, g3', g4, g5⟩ := h4.body
      obtain ⟨A', c', rfl⟩ := g4.val
      unfold ptr at g2
      obtain ⟨AP, cP, rfl⟩ := hp4.len
      have hll := h4.len
      repeat (first | (with_reducible first | apply T_seq | apply T_region | apply U_nil | apply T_skip | apply T_block | apply T_inBlock | apply Cnd_t | apply Cnd_f | apply Cnd_not | apply Cnd_some | apply Cnd_none | apply Gd_nt | apply Gd_nf | apply Gd_some | apply Gd_none | apply Gd_want) | refine U_ar rfl rfl rfl (wrap_k (by simp only [wrapOk]; omega)) rfl ?_ | refine U_cv E rfl rfl rfl (wrap_k (by simp only [wrapOk]; omega)) rfl ?_ | refine U_pure E rfl rfl ?_ | refine T_exit rfl ?_ | refine T_condV rfl ?_ | refine U_guard rfl rfl ?_ | ((with_reducible refine Gd_skipT ?_ ?_); exact rfl) | ((with_reducible refine Gd_skipF ?_ ?_); exact rfl))
      refine M_begin (fun W => Blk W rb [.pointer (some ⟨hb, 0, none⟩), .int .u32 g, .slice A' us.length c', .int .i64 at_] 66) [20, 21, 22, 23] (by kernel_rfl) (N := 24) rfl (fun w5 hd5 => ?_)
      have hB5 := g2.mv (hd5.kept none0) (fun x => x)
      refine M_takeP 0 rfl (by kernel_rfl) (by kernel_rfl) (by kernel_rfl) rfl rfl rfl (fun a ha w' => run_pv E ha rfl _ _ _ _ _) ?_; refine M_takeP 1 rfl (by kernel_rfl) (by kernel_rfl) (by kernel_rfl) rfl rfl rfl (fun a ha w' => run_pv E ha rfl _ _ _ _ _) ?_; refine M_takeP 2 rfl (by kernel_rfl) (by kernel_rfl) (by kernel_rfl) rfl rfl rfl (fun a ha w' => run_pv E ha rfl _ _ _ _ _) ?_; refine M_takeP 3 rfl (by kernel_rfl) (by kernel_rfl) (by kernel_rfl) rfl rfl rfl (fun a ha w' => run_pv E ha rfl _ _ _ _ _) ?_; refine M_takeP 4 rfl (by kernel_rfl) (by kernel_rfl) (by kernel_rfl) rfl rfl rfl (fun a ha w' => run_pv E ha rfl _ _ _ _ _) ?_
      refine M_take 5 rfl (by kernel_rfl) (by kernel_rfl) (by kernel_rfl) (by kernel_rfl) hB5 rfl rfl rfl (fun a ha w' hS => ro_loadB E hS rfl rfl rfl rfl a ha) ?_
      refine M_takeP 6 rfl (by kernel_rfl) (by kernel_rfl) (by kernel_rfl) rfl rfl rfl (fun a ha w' => run_pv E ha rfl _ _ _ _ _) ?_; refine M_takeP 10 rfl (by kernel_rfl) (by kernel_rfl) (by kernel_rfl) rfl rfl rfl (fun a ha w' => run_pv E ha rfl _ _ _ _ _) ?_; refine M_takeP 11 rfl (by kernel_rfl) (by kernel_rfl) (by kernel_rfl) rfl rfl rfl (fun a ha w' => run_pv E ha rfl _ _ _ _ _) ?_; refine M_takeP 12 rfl (by kernel_rfl) (by kernel_rfl) (by kernel_rfl) rfl rfl rfl (fun a ha w' => run_pv E ha rfl _ _ _ _ _) ?_
      refine M_take 13 rfl (by kernel_rfl) (by kernel_rfl) (by kernel_rfl) (by kernel_rfl) hB5 rfl rfl rfl (fun a ha w' hS => ro_loadB E hS rfl rfl rfl rfl a ha) ?_
      refine M_takeP 14 rfl (by kernel_rfl) (by kernel_rfl) (by kernel_rfl) rfl rfl rfl (fun a ha w' => run_pv E ha rfl _ _ _ _ _) ?_; refine M_takeP 15 rfl (by kernel_rfl) (by kernel_rfl) (by kernel_rfl) rfl rfl rfl (fun a ha w' => run_pv E ha rfl _ _ _ _ _) ?_
      have hp5' := hp4.mv (hd5.kept none0) (fun _ _ _ x => x)
      refine M_op 7 (by kernel_rfl) rfl (fun hc => ?_)
      refine U_call rfl rfl (Tryz.call30 _) (bclone_c w5 _ _ p hp5' (by omega)) ?_
      rintro rc w6 ⟨k6, hc6⟩
      have hB6 := hB5.mv k6 (fun x => x)
      obtain ⟨Ac, cc, rfl⟩ := hc6.len
      refine U_nilM hc (fun _ => hB6) ?_
      refine M_op 8 (by kernel_rfl) rfl (fun hc => ?_)
      refine U_buildSlice (sz := 1) E rfl rfl rfl rfl rfl rfl rfl rfl (segs := [[.slice Ac p.length cc]]) rfl (by simp) rfl ?_
      intro b7 w7 hn7
      have hB7 := hB6.mv hn7.kept (fun x => x)
      refine U_nilM hc (fun _ => hB7) ?_
      have k57 : Kept none0 w4 w7 := ((hd5.kept none0).tr k6 (fun _ _ x => x)).tr hn7.kept (fun _ _ x => x)
      have hlit : Sl w7 (fun x => x = b7) (.slice (some ⟨b7, 0, none⟩) 1 1) 1 1 [.slice Ac p.length cc] := ⟨by decide, rfl, _, 1, rfl, Nat.le_refl _, .inr ⟨b7, 0, rfl, rfl, hn7.blk.lt, hn7.blk.whole⟩⟩
      have g47 := g4.mv k57 (fun _ _ _ x => x)
      have hown := g4.own
      refine M_op 9 (by kernel_rfl) rfl (fun hc => ?_)
      refine U_append E g47 hlit (by simp [Value.oneCell']) rfl rfl rfl rfl rfl (by omega) (by omega) rfl ?_
      intro vo' w8 hr8 k8 _ hob
      have hB8 := hB7.mv k8 (fun e => (hown rb e).1.2 rfl)
      refine U_nilM hc (fun _ => hB8) ?_
      refine M_op 16 (by kernel_rfl) rfl (fun hc => ?_)
      refine U_call rfl rfl (Tryz.call31 _) (pages_c w8 p.length (by omega)) ?_
      rintro r w9 ⟨rfl, rfl⟩
      refine U_nilM hc (fun _ => hB8) ?_
      refine M_takeP 17 rfl (by kernel_rfl) (by kernel_rfl) (by kernel_rfl) rfl rfl rfl (fun a ha w' => ro_ar rfl rfl rfl (wrap_k (by simp only [wrapOk]; omega)) a ha) ?_
      refine M_takeP 18 rfl (by kernel_rfl) (by kernel_rfl) (by kernel_rfl) rfl rfl rfl (fun a ha w' => run_pv E ha rfl _ _ _ _ _) ?_; refine M_takeP 19 rfl (by kernel_rfl) (by kernel_rfl) (by kernel_rfl) rfl rfl rfl (fun a ha w' => run_pv E ha rfl _ _ _ _ _) ?_
      refine M_op 20 (by kernel_rfl) rfl (fun hc => ?_)
      obtain ⟨A8, c8, rfl⟩ := hr8.val
      refine U_store E (hB8) rfl rfl rfl (by simp) rfl ?_
      intro w10 hu10
      refine U_nilM hc (fun e => absurd (by decide) e) ?_
      refine M_op 21 (by kernel_rfl) rfl (fun hc => ?_)
      repeat (first | refine U_ar rfl rfl rfl (wrap_k (by simp only [wrapOk]; omega)) rfl ?_ | refine U_cv E rfl rfl rfl (wrap_k (by simp only [wrapOk]; omega)) rfl ?_ | refine U_pure E rfl rfl ?_)
      refine U_nilM hc (fun e => absurd (by decide) e) ?_
      refine M_op 22 (by kernel_rfl) rfl (fun hc => ?_)
      repeat (first | refine U_ar rfl rfl rfl (wrap_k (by simp only [wrapOk]; omega)) rfl ?_ | refine U_cv E rfl rfl rfl (wrap_k (by simp only [wrapOk]; omega)) rfl ?_ | refine U_pure E rfl rfl ?_)
      refine U_nilM hc (fun e => absurd (by decide) e) ?_
      refine M_op 23 (by kernel_rfl) rfl (fun hc => ?_)
      refine U_store E (hu10.blk) rfl rfl rfl (by simp) rfl ?_
      intro w11 hu11
      refine U_nilM hc (fun e => absurd (by decide) e) ?_
      refine M_done (by kernel_rfl) ?_
      have s57 := k57.size
      have s78 := k8.size
      have s8 := hu10.size
      have s9 := hu11.size
      have hrbl : rb < w4.heap.size := g2.lt
      have stay : ∀ u q, BS w7 (fun b => (Fr b ∨ w4.heap.size ≤ b) ∧ b ≠ rb ∧ (Value.slice A' us.length c').ownBlock ≠ some b) u q → BS w11 (fun b => ((Fr b ∨ w4.heap.size ≤ b) ∧ b < w11.heap.size) ∧ b ≠ rb ∧ (Value.slice A8 (us.length + 1) c8).ownBlock ≠ some b) u q := fun u q hx =>
        ((((hx.mono (G := fun b => ((Fr b ∨ w4.heap.size ≤ b) ∧ b ≠ rb ∧ (Value.slice A' us.length c').ownBlock ≠ some b) ∧ b < w7.heap.size) (fun _ hb h => ⟨h, hb⟩)).mv k8 (fun b _ h e => h.1.2.2 e)).mv hu10.kept (fun b _ h (e : b = rb) => h.1.2.1 e)).mv hu11.kept (fun b _ h (e : b = rb) => h.1.2.1 e)).mono
          (fun b _ h => ⟨⟨h.1.1, by omega⟩, h.1.2.1, fun e => (hob b e).elim h.1.2.2 (fun e => by omega)⟩)
      have hFl4 := hD4.lt
      have hFr4 := h4.lt
      repeat (first | (with_reducible first | apply T_seq | apply T_region | apply U_nil | apply T_skip | apply T_block | apply T_inBlock | apply Cnd_t | apply Cnd_f | apply Cnd_not | apply Cnd_some | apply Cnd_none | apply Gd_nt | apply Gd_nf | apply Gd_some | apply Gd_none | apply Gd_want) | refine U_ar rfl rfl rfl (wrap_k (by simp only [wrapOk]; omega)) rfl ?_ | refine U_cv E rfl rfl rfl (wrap_k (by simp only [wrapOk]; omega)) rfl ?_ | refine U_pure E rfl rfl ?_ | refine T_exit rfl ?_ | refine T_condV rfl ?_ | refine U_guard rfl rfl ?_ | ((with_reducible refine Gd_skipT ?_ ?_); exact rfl) | ((with_reducible refine Gd_skipF ?_ ?_); exact rfl))
      refine T_ret1 Tryz.func20 rfl rfl ⟨_, rfl, rfl, F4, fun b => (Fr b ∨ w4.heap.size ≤ b) ∧ b < w11.heap.size, o4'.tr ⟨?_, ?_, ?_⟩, ?_, ?_⟩
      · refine ((k57.mono (fun _ _ x => x.elim)).tr k8 (fun b _ e => .inr (hown b e).1.1)).tr hu10.kept (fun b _ (e : b = rb) => .inr (by rw [e]; exact g1)) |>.tr hu11.kept (fun b _ (e : b = rb) => .inr (by rw [e]; exact g1))
      · intro b e
        rcases e with e | e
        · exact .inl (.inl e)
        · exact e.1.elim (fun e => .inl (.inr e)) (fun e => .inr (by omega))
      · intro b e
        rcases e with e | e
        · have := hFl4 b e
          omega
        · exact e.2
      · have k711 : Kept (fun b => Fr b) w7 w11 := (k8.mono (fun b _ e => (hown b e).1.1)).tr hu10.kept (fun b _ (e : b = rb) => by rw [e]; exact g1) |>.tr hu11.kept (fun b _ (e : b = rb) => by rw [e]; exact g1)
        exact (hD4.same k57).mv k711 (fun b e e2 => (hFr4 b e2).2 e)
      · refine ⟨fun b e => ⟨e.2, fun e2 => ?_⟩, hg, by omega, by simp; omega, ?_, .slice A8 (us.length + 1) c8, us ++ [.slice Ac p.length cc], ⟨.inl g1, by omega⟩, ?_, by simp [g3'], ?_, ?_⟩
        · rcases e.1 with e1 | e1
          · exact (hFr4 b e1).2 e2
          · have := hFl4 b e2
            omega
        · intro q hq
          rcases List.mem_append.1 hq with hq | hq
          · exact h4.recs q hq
          · rw [List.mem_singleton.1 hq]
            exact hp5
        · have := hu11.blk
          unfold ptr
          rw [show ((at_ + pgs p.length : Nat) : Int) = (at_ : Int) + (pgs p.length : Int) by omega]
          simpa using this
        · have h1 := (hr8.mv hu10.kept (fun b _ e (e2 : b = rb) => by rcases e with e | e; exact e.2 e2; omega)).mv hu11.kept (fun b _ e (e2 : b = rb) => by rcases e with e | e; exact e.2 e2; omega)
          rw [List.length_append]
          exact h1.mono (fun b hb e => by rcases e with e | e; exact ⟨⟨.inl e.1, hb⟩, e.2⟩; exact ⟨⟨.inr (by omega), hb⟩, by omega⟩)
        · refine snoc_bs g3' (fun j u q hu hq => stay u q (((g5 j u q hu hq).mv k57 (fun _ _ _ x => x)).mono (fun b _ hx => ⟨.inl hx.1, hx.2⟩))) (stay _ _ ?_)
          refine (hc6.mv hn7.kept (fun _ _ _ x => x)).mono (fun b _ hx => ?_)
          have s5 := (hd5.kept none0).size
          simp only [fresh] at hx
          exact ⟨.inr (by omega), by omega, fun e => by have := (hown b e).2; omega⟩
    · rw [if_neg hpe, if_neg hpe]
      obtain ⟨j, hj, hje⟩ := errV_ne hpe
      rw [hje]
      repeat (first | (with_reducible first | apply T_seq | apply T_region | apply U_nil | apply T_skip | apply T_block | apply T_inBlock | apply Cnd_t | apply Cnd_f | apply Cnd_not | apply Cnd_some | apply Cnd_none | apply Gd_nt | apply Gd_nf | apply Gd_some | apply Gd_none | apply Gd_want) | refine U_ar rfl rfl rfl (wrap_k (by simp only [wrapOk]; omega)) rfl ?_ | refine U_cv E rfl rfl rfl (wrap_k (by simp only [wrapOk]; omega)) rfl ?_ | refine U_pure E rfl rfl ?_ | refine T_exit rfl ?_ | refine T_condV rfl ?_ | refine U_guard rfl rfl ?_ | ((with_reducible refine Gd_skipT ?_ ?_); exact rfl) | ((with_reducible refine Gd_skipF ?_ ?_); exact rfl))
      exact T_ret1 Tryz.func20 rfl rfl ⟨_, rfl, rfl, F4, Fr, o4', hD4, h4⟩
  · have hE : appE D g l.length at_ p = rfErr p.length ((hsz D : Int) - at_) := by rw [appE, if_pos he]
    have hDD : appD D g l.length at_ p = D := by rw [appD, if_pos he]
    rw [hE, hDD, if_neg he, if_neg he]
    obtain ⟨j, hj, hje⟩ := errV_ne he
    rw [hje]
    repeat (first | (with_reducible first | apply T_seq | apply T_region | apply U_nil | apply T_skip | apply T_block | apply T_inBlock | apply Cnd_t | apply Cnd_f | apply Cnd_not | apply Cnd_some | apply Cnd_none | apply Gd_nt | apply Gd_nf | apply Gd_some | apply Gd_none | apply Gd_want) | refine U_ar rfl rfl rfl (wrap_k (by simp only [wrapOk]; omega)) rfl ?_ | refine U_cv E rfl rfl rfl (wrap_k (by simp only [wrapOk]; omega)) rfl ?_ | refine U_pure E rfl rfl ?_ | refine T_exit rfl ?_ | refine T_condV rfl ?_ | refine U_guard rfl rfl ?_ | ((with_reducible refine Gd_skipT ?_ ?_); exact rfl) | ((with_reducible refine Gd_skipF ?_ ?_); exact rfl))
    exact T_ret1 Tryz.func20 rfl rfl ⟨_, rfl, rfl, F, Fr, o1, hD1, h1⟩
end Go.Proofs.YtoefhdaenaiomaaGreatDoor
