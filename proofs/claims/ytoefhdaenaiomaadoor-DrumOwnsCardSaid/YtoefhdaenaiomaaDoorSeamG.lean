/- Turned. -/
import Derived.Test.YtoefhdaenaiomaaDoorSeamF
namespace Go.Proofs.YtoefhdaenaiomaaDoor
open Go
set_option maxRecDepth 20000

theorem T_cut {P : Program} {f : FuncId} {R : Ending → World → Prop} {n : Nat} {k : List Item} {m : Fm} {w : World} {α : Type} {it : Item} (fm : α → Fm) (X : α → World → Prop) (fin : ∀ x w', X x w' → T P f R n k (fm x) w') (h : (∀ x w', X x w' → T P f R n k (fm x) w') → T P f R n (it :: k) m w) : T P f R n (it :: k) m w := h fin

def tbl8 : List Value := [.int .u8 1, .int .u8 2, .int .u8 4, .int .u8 8, .int .u8 16, .int .u8 32, .int .u8 64, .int .u8 128]
theorem tbl_get : ∀ r, r < 8 → tbl8[r]? = some (.int .u8 ((2 ^ r : Nat) : Int))
  | 0, _ => rfl
  | 1, _ => rfl
  | 2, _ => rfl
  | 3, _ => rfl
  | 4, _ => rfl
  | 5, _ => rfl
  | 6, _ => rfl
  | 7, _ => rfl
  | r + 8, h => by omega

/-- Bits from at on are turned where the mask says so, the first k of them. -/
def TurnedTo (l l' : List UInt8) (at_ k mask : Nat) : Prop := l'.length = l.length ∧ ∀ j, j < l.length * 8 → bitAt l' j = (bitAt l j ^^ (decide (at_ ≤ j ∧ j < at_ + k) && mask.testBit (j - at_)))
theorem TurnedTo.zero (l : List UInt8) (at_ mask : Nat) : TurnedTo l l at_ 0 mask := by
  refine ⟨rfl, fun j _ => ?_⟩
  rw [decide_eq_false (by omega)]
  simp
theorem TurnedTo.off {l l' : List UInt8} {at_ k mask : Nat} (h : TurnedTo l l' at_ k mask) (hb : l.length * 8 ≤ at_ + k ∨ mask.testBit k = false) : TurnedTo l l' at_ (k + 1) mask := by
  refine ⟨h.1, fun j hj => ?_⟩
  rw [h.2 j hj]
  congr 1
  by_cases hk : j = at_ + k
  · rcases hb with hb | hb
    · omega
    · rw [show j - at_ = k by omega, hb, Bool.and_false, Bool.and_false]
  · congr 1
    by_cases h1 : at_ ≤ j ∧ j < at_ + k
    · rw [decide_eq_true h1, decide_eq_true (by omega)]
    · rw [decide_eq_false h1, decide_eq_false (by omega)]
theorem TurnedTo.on {l l' : List UInt8} {at_ k mask : Nat} (h : TurnedTo l l' at_ k mask) (hb : mask.testBit k = true) (hi : (at_ + k) / 8 < l'.length) :
    TurnedTo l (l'.set ((at_ + k) / 8) (UInt8.ofNat (l'[(at_ + k) / 8].toNat ^^^ 2 ^ ((at_ + k) % 8)))) at_ (k + 1) mask := by
  refine ⟨by rw [List.length_set]; exact h.1, fun j hj => ?_⟩
  have := bit_step (s := l') (k := at_ + k) (M := 1) hi j
  rw [show (1 &&& 1) * 2 ^ ((at_ + k) % 8) = 2 ^ ((at_ + k) % 8) by simp] at this
  rw [this, h.2 j hj, Bool.xor_assoc]
  congr 1
  by_cases hk : j = at_ + k
  · rw [decide_eq_false (by omega), decide_eq_true hk, decide_eq_true (by omega), show j - at_ = k by omega, hb]
    rfl
  · rw [decide_eq_false hk, Bool.false_and, Bool.xor_false]
    congr 1
    by_cases h1 : at_ ≤ j ∧ j < at_ + k
    · rw [decide_eq_true h1, decide_eq_true (by omega)]
    · rw [decide_eq_false h1, decide_eq_false (by omega)]

theorem TurnedTo.onB {l l' : List UInt8} {at_ k mask B : Nat} (hB : at_ + k = B) (h : TurnedTo l l' at_ k mask) (hb : mask.testBit k = true) (hi : B / 8 < l'.length) :
    TurnedTo l (l'.set (B / 8) (UInt8.ofNat (l'[B / 8].toNat ^^^ 2 ^ (B % 8)))) at_ (k + 1) mask := by
  subst hB
  exact h.on hb hi

theorem idx1 (n : Nat) : 0 + ((n : Nat) : Int).toNat * 1 = n := by rw [Int.toNat_natCast, Nat.zero_add, Nat.mul_one]
theorem bit_of (mask k : Nat) : (mask / 2 ^ k) % 2 = 1 ↔ mask.testBit k = true := by
  rw [Nat.testBit_eq_decide_div_mod_eq, decide_eq_true_iff]

set_option maxHeartbeats 2000000 in
theorem turned_c (w : World) (G : Nat → Prop) (v : Value) (l : List UInt8) (at_ mask : Nat) (h : BS w G v l) (hl : l.length ≤ 100000) (hl0 : 0 < l.length) (hat : at_ ≤ 10000000) (hm : mask < 4294967296) :
    Calls Tryd.prog 47 [v, .int .i64 at_, .int .u32 mask].toArray w (Ret fun r w' => Kept none0 w w' ∧ ∃ l', TurnedTo l l' at_ 32 mask ∧ BS w' (fresh w) r l') := by
  refine calls_T Tryd.func47 rfl rfl rfl ?_
  obtain ⟨A, c, rfl⟩ := h.len
  repeat (first | with_reducible refine T_seq ?_ | with_reducible refine T_region ?_ | with_reducible refine U_nil ?_ | refine U_ar rfl rfl rfl (by first | exact wrap_i64 (by omega) | exact wrap_u64 (by omega) | exact wrap_u32 (by omega) | exact wrap_u8 (by omega)) rfl ?_ | refine U_cv E rfl rfl rfl (by first | exact wrap_i64 (by omega) | exact wrap_u64 (by omega) | exact wrap_u32 (by omega) | exact wrap_u8 (by omega)) rfl ?_ | refine U_pure E rfl rfl ?_ | with_reducible refine T_skip ?_ | with_reducible refine T_block ?_ | with_reducible refine T_inBlock ?_ | refine T_exit rfl ?_ | refine T_condV rfl ?_ | with_reducible refine Cnd_t ?_ | with_reducible refine Cnd_f ?_ | with_reducible refine Cnd_not ?_ | with_reducible refine Cnd_some ?_ | with_reducible refine Cnd_none ?_ | refine U_guard rfl rfl ?_ | with_reducible refine Gd_nt ?_ | with_reducible refine Gd_nf ?_ | with_reducible refine Gd_some ?_ | with_reducible refine Gd_none ?_ | with_reducible refine Gd_want ?_ | ((with_reducible refine Gd_skipT ?_ ?_); exact rfl) | ((with_reducible refine Gd_skipF ?_ ?_); exact rfl))
  refine U_buildSlice (sz := 1) E rfl rfl rfl rfl rfl rfl rfl rfl (segs := [[.slice A l.length c]]) rfl (by simp) rfl ?_
  intro b1 w1 hn1
  have hl1 := h.mv hn1.kept (fun _ _ _ x => x)
  have hone : Sl w1 (fun x => x = b1) (.slice (some ⟨b1, 0, none⟩) 1 1) 1 [Value.slice A l.length c].length [Value.slice A l.length c] := ⟨by simp, rfl, _, 1, rfl, Nat.le_refl _, .inr ⟨b1, 0, rfl, rfl, hn1.blk.lt, hn1.blk.whole⟩⟩
  have hj := join_c w1 _ G _ _ [l] hone rfl (fun i x q hx hq => by
    match i with
    | 0 => injection hx with hx; injection hq with hq; subst hx; subst hq; exact hl1
    | i + 1 => simp at hx) (by simp; omega)
  rw [show ([l] : List (List UInt8)).flatten = l by simp] at hj
  refine U_call rfl rfl (Tryd.call35 _) (hj) ?_
  rintro r w2 ⟨k2, hr2⟩
  obtain ⟨g, cap, pad, rfl, hg, hbg, hcl, hcap⟩ := hr2.pos hl0
  have k2' : Kept none0 w w2 := hn1.kept.tr k2 (fun _ _ x => x)
  have hgw : w.heap.size ≤ g := by have := hn1.kept.size; simp only [fresh] at hg; omega
  repeat (first | with_reducible refine T_seq ?_ | with_reducible refine T_region ?_ | with_reducible refine U_nil ?_ | refine U_ar rfl rfl rfl (by first | exact wrap_i64 (by omega) | exact wrap_u64 (by omega) | exact wrap_u32 (by omega) | exact wrap_u8 (by omega)) rfl ?_ | refine U_cv E rfl rfl rfl (by first | exact wrap_i64 (by omega) | exact wrap_u64 (by omega) | exact wrap_u32 (by omega) | exact wrap_u8 (by omega)) rfl ?_ | refine U_pure E rfl rfl ?_ | with_reducible refine T_skip ?_ | with_reducible refine T_block ?_ | with_reducible refine T_inBlock ?_ | refine T_exit rfl ?_ | refine T_condV rfl ?_ | with_reducible refine Cnd_t ?_ | with_reducible refine Cnd_f ?_ | with_reducible refine Cnd_not ?_ | with_reducible refine Cnd_some ?_ | with_reducible refine Cnd_none ?_ | refine U_guard rfl rfl ?_ | with_reducible refine Gd_nt ?_ | with_reducible refine Gd_nf ?_ | with_reducible refine Gd_some ?_ | with_reducible refine Gd_none ?_ | with_reducible refine Gd_want ?_ | ((with_reducible refine Gd_skipT ?_ ?_); exact rfl) | ((with_reducible refine Gd_skipF ?_ ?_); exact rfl))
  refine T_loop (α := Nat × List UInt8 × World) (fun x => [(8, .int .i64 x.1), (7, .slice (some ⟨g, 0, none⟩) l.length cap), (1, .int .i64 at_), (2, .int .u32 mask)]) (fun x => x.2.2) (fun x => 32 - x.1)
    (fun x => x.1 ≤ 32 ∧ Kept none0 w x.2.2 ∧ Blk x.2.2 g (encBs x.2.1 ++ pad) 5 ∧ TurnedTo l x.2.1 at_ x.1 mask) (0, l, w2) ⟨Nat.zero_le 32, k2', hbg, TurnedTo.zero l at_ mask⟩ ⟨rfl, rfl, rfl, rfl, trivial⟩ rfl ?_
  rintro ⟨k, q, w3⟩ ⟨hk, k3, hb3, ht⟩ ih
  dsimp only at hk k3 hb3 ht ⊢
  have hql := ht.1
  repeat (first | with_reducible refine T_seq ?_ | with_reducible refine T_region ?_ | with_reducible refine U_nil ?_ | refine U_ar rfl rfl rfl (by first | exact wrap_i64 (by omega) | exact wrap_u64 (by omega) | exact wrap_u32 (by omega) | exact wrap_u8 (by omega)) rfl ?_ | refine U_cv E rfl rfl rfl (by first | exact wrap_i64 (by omega) | exact wrap_u64 (by omega) | exact wrap_u32 (by omega) | exact wrap_u8 (by omega)) rfl ?_ | refine U_pure E rfl rfl ?_ | with_reducible refine T_skip ?_ | with_reducible refine T_block ?_ | with_reducible refine T_inBlock ?_ | refine T_exit rfl ?_ | refine T_condV rfl ?_ | with_reducible refine Cnd_t ?_ | with_reducible refine Cnd_f ?_ | with_reducible refine Cnd_not ?_ | with_reducible refine Cnd_some ?_ | with_reducible refine Cnd_none ?_ | refine U_guard rfl rfl ?_ | with_reducible refine Gd_nt ?_ | with_reducible refine Gd_nf ?_ | with_reducible refine Gd_some ?_ | with_reducible refine Gd_none ?_ | with_reducible refine Gd_want ?_ | ((with_reducible refine Gd_skipT ?_ ?_); exact rfl) | ((with_reducible refine Gd_skipF ?_ ?_); exact rfl))
  refine Cnd_p (fun h32 => ?_) (fun h32 => ?_)
  · have hk32 : k < 32 := by omega
    repeat (first | with_reducible refine T_seq ?_ | with_reducible refine T_region ?_ | with_reducible refine U_nil ?_ | refine U_ar rfl rfl rfl (by first | exact wrap_i64 (by omega) | exact wrap_u64 (by omega) | exact wrap_u32 (by omega) | exact wrap_u8 (by omega)) rfl ?_ | refine U_cv E rfl rfl rfl (by first | exact wrap_i64 (by omega) | exact wrap_u64 (by omega) | exact wrap_u32 (by omega) | exact wrap_u8 (by omega)) rfl ?_ | refine U_pure E rfl rfl ?_ | with_reducible refine T_skip ?_ | with_reducible refine T_block ?_ | with_reducible refine T_inBlock ?_ | refine T_exit rfl ?_ | refine T_condV rfl ?_ | with_reducible refine Cnd_t ?_ | with_reducible refine Cnd_f ?_ | with_reducible refine Cnd_not ?_ | with_reducible refine Cnd_some ?_ | with_reducible refine Cnd_none ?_ | refine U_guard rfl rfl ?_ | with_reducible refine Gd_nt ?_ | with_reducible refine Gd_nf ?_ | with_reducible refine Gd_some ?_ | with_reducible refine Gd_none ?_ | with_reducible refine Gd_want ?_ | ((with_reducible refine Gd_skipT ?_ ?_); exact rfl) | ((with_reducible refine Gd_skipF ?_ ?_); exact rfl))
    refine U_run rfl rfl rfl (ro_bin (r := .int .i64 ((at_ + k) / 8 : Nat)) rfl rfl (by rw [show (at_ : Int) + (k : Int) = ((at_ + k : Nat) : Int) by omega]; exact run_quo (y := 8) (by decide) (wrap_i64 (by omega)))) ?_
    repeat (first | with_reducible refine T_seq ?_ | with_reducible refine T_region ?_ | with_reducible refine U_nil ?_ | refine U_ar rfl rfl rfl (by first | exact wrap_i64 (by omega) | exact wrap_u64 (by omega) | exact wrap_u32 (by omega) | exact wrap_u8 (by omega)) rfl ?_ | refine U_cv E rfl rfl rfl (by first | exact wrap_i64 (by omega) | exact wrap_u64 (by omega) | exact wrap_u32 (by omega) | exact wrap_u8 (by omega)) rfl ?_ | refine U_pure E rfl rfl ?_ | with_reducible refine T_skip ?_ | with_reducible refine T_block ?_ | with_reducible refine T_inBlock ?_ | refine T_exit rfl ?_ | refine T_condV rfl ?_ | with_reducible refine Cnd_t ?_ | with_reducible refine Cnd_f ?_ | with_reducible refine Cnd_not ?_ | with_reducible refine Cnd_some ?_ | with_reducible refine Cnd_none ?_ | refine U_guard rfl rfl ?_ | with_reducible refine Gd_nt ?_ | with_reducible refine Gd_nf ?_ | with_reducible refine Gd_some ?_ | with_reducible refine Gd_none ?_ | with_reducible refine Gd_want ?_ | ((with_reducible refine Gd_skipT ?_ ?_); exact rfl) | ((with_reducible refine Gd_skipF ?_ ?_); exact rfl))
    refine Gd_p (fun hin => ?_) (fun hin => ?_)
    · have hin' : (at_ + k) / 8 < q.length := by omega
      repeat (first | with_reducible refine T_seq ?_ | with_reducible refine T_region ?_ | with_reducible refine U_nil ?_ | refine U_ar rfl rfl rfl (by first | exact wrap_i64 (by omega) | exact wrap_u64 (by omega) | exact wrap_u32 (by omega) | exact wrap_u8 (by omega)) rfl ?_ | refine U_cv E rfl rfl rfl (by first | exact wrap_i64 (by omega) | exact wrap_u64 (by omega) | exact wrap_u32 (by omega) | exact wrap_u8 (by omega)) rfl ?_ | refine U_pure E rfl rfl ?_ | with_reducible refine T_skip ?_ | with_reducible refine T_block ?_ | with_reducible refine T_inBlock ?_ | refine T_exit rfl ?_ | refine T_condV rfl ?_ | with_reducible refine Cnd_t ?_ | with_reducible refine Cnd_f ?_ | with_reducible refine Cnd_not ?_ | with_reducible refine Cnd_some ?_ | with_reducible refine Cnd_none ?_ | refine U_guard rfl rfl ?_ | with_reducible refine Gd_nt ?_ | with_reducible refine Gd_nf ?_ | with_reducible refine Gd_some ?_ | with_reducible refine Gd_none ?_ | with_reducible refine Gd_want ?_ | ((with_reducible refine Gd_skipT ?_ ?_); exact rfl) | ((with_reducible refine Gd_skipF ?_ ?_); exact rfl))
      refine U_run rfl rfl rfl (ro_bin (r := .int .u32 (mask / 2 ^ k : Nat)) rfl rfl (by exact run_shr (y := k) .i64 (by simp only [IntKind.bits]; omega))) ?_
      repeat (first | with_reducible refine T_seq ?_ | with_reducible refine T_region ?_ | with_reducible refine U_nil ?_ | refine U_ar rfl rfl rfl (by first | exact wrap_i64 (by omega) | exact wrap_u64 (by omega) | exact wrap_u32 (by omega) | exact wrap_u8 (by omega)) rfl ?_ | refine U_cv E rfl rfl rfl (by first | exact wrap_i64 (by omega) | exact wrap_u64 (by omega) | exact wrap_u32 (by omega) | exact wrap_u8 (by omega)) rfl ?_ | refine U_pure E rfl rfl ?_ | with_reducible refine T_skip ?_ | with_reducible refine T_block ?_ | with_reducible refine T_inBlock ?_ | refine T_exit rfl ?_ | refine T_condV rfl ?_ | with_reducible refine Cnd_t ?_ | with_reducible refine Cnd_f ?_ | with_reducible refine Cnd_not ?_ | with_reducible refine Cnd_some ?_ | with_reducible refine Cnd_none ?_ | refine U_guard rfl rfl ?_ | with_reducible refine Gd_nt ?_ | with_reducible refine Gd_nf ?_ | with_reducible refine Gd_some ?_ | with_reducible refine Gd_none ?_ | with_reducible refine Gd_want ?_ | ((with_reducible refine Gd_skipT ?_ ?_); exact rfl) | ((with_reducible refine Gd_skipF ?_ ?_); exact rfl))
      refine U_run rfl rfl rfl (ro_bin (r := .int .u32 (mask / 2 ^ k % 2 : Nat)) rfl rfl (by exact run_rem (y := 2) (by decide))) ?_
      repeat (first | with_reducible refine T_seq ?_ | with_reducible refine T_region ?_ | with_reducible refine U_nil ?_ | refine U_ar rfl rfl rfl (by first | exact wrap_i64 (by omega) | exact wrap_u64 (by omega) | exact wrap_u32 (by omega) | exact wrap_u8 (by omega)) rfl ?_ | refine U_cv E rfl rfl rfl (by first | exact wrap_i64 (by omega) | exact wrap_u64 (by omega) | exact wrap_u32 (by omega) | exact wrap_u8 (by omega)) rfl ?_ | refine U_pure E rfl rfl ?_ | with_reducible refine T_skip ?_ | with_reducible refine T_block ?_ | with_reducible refine T_inBlock ?_ | refine T_exit rfl ?_ | refine T_condV rfl ?_ | with_reducible refine Cnd_t ?_ | with_reducible refine Cnd_f ?_ | with_reducible refine Cnd_not ?_ | with_reducible refine Cnd_some ?_ | with_reducible refine Cnd_none ?_ | refine U_guard rfl rfl ?_ | with_reducible refine Gd_nt ?_ | with_reducible refine Gd_nf ?_ | with_reducible refine Gd_some ?_ | with_reducible refine Gd_none ?_ | with_reducible refine Gd_want ?_ | ((with_reducible refine Gd_skipT ?_ ?_); exact rfl) | ((with_reducible refine Gd_skipF ?_ ?_); exact rfl))
      refine Cnd_p (fun hbit => ?_) (fun hbit => ?_)
      · have hbit' : mask.testBit k = true := (bit_of mask k).1 (by omega)
        obtain ⟨B, hB⟩ : ∃ B, at_ + k = B := ⟨_, rfl⟩
        have hBi : (at_ : Int) + (k : Int) = (B : Int) := by omega
        rw [hB] at hin'
        have hto := ht.onB hB hbit' hin'
        rw [hBi]
        have hget : (encBs q ++ pad)[B / 8]? = some (encB q[B / 8]) := by
          rw [List.getElem?_append_left (by rw [encBs_len]; exact hin')]
          exact get_enc hin'
        have hq8 := b_lt q[B / 8]
        have hr8 : B % 8 < 8 := Nat.mod_lt _ (by decide)
        have hp8 : 2 ^ (B % 8) < 256 := by
          have h3 : 2 ^ (B % 8) ≤ 2 ^ 7 := Nat.pow_le_pow_right (by decide) (by omega)
          omega
        have hx8 : q[B / 8].toNat ^^^ 2 ^ (B % 8) < 256 := Nat.xor_lt_two_pow (n := 8) hq8 hp8
        repeat (first | with_reducible refine T_seq ?_ | with_reducible refine T_region ?_ | with_reducible refine U_nil ?_ | refine U_ar rfl rfl rfl (by first | exact wrap_i64 (by omega) | exact wrap_u64 (by omega) | exact wrap_u32 (by omega) | exact wrap_u8 (by omega)) rfl ?_ | refine U_cv E rfl rfl rfl (by first | exact wrap_i64 (by omega) | exact wrap_u64 (by omega) | exact wrap_u32 (by omega) | exact wrap_u8 (by omega)) rfl ?_ | refine U_pure E rfl rfl ?_ | with_reducible refine T_skip ?_ | with_reducible refine T_block ?_ | with_reducible refine T_inBlock ?_ | refine T_exit rfl ?_ | refine T_condV rfl ?_ | with_reducible refine Cnd_t ?_ | with_reducible refine Cnd_f ?_ | with_reducible refine Cnd_not ?_ | with_reducible refine Cnd_some ?_ | with_reducible refine Cnd_none ?_ | refine U_guard rfl rfl ?_ | with_reducible refine Gd_nt ?_ | with_reducible refine Gd_nf ?_ | with_reducible refine Gd_some ?_ | with_reducible refine Gd_none ?_ | with_reducible refine Gd_want ?_ | ((with_reducible refine Gd_skipT ?_ ?_); exact rfl) | ((with_reducible refine Gd_skipF ?_ ?_); exact rfl))
        refine L_begin (fun w' => Blk w' g (encBs q ++ pad) 5) 12 (by kernel_rfl) (N := 13) rfl (fun w4 hd4 => ?_)
        have hS4 := hb3.mv (hd4.kept none0) (fun x => x)
        refine L_take 0 rfl (by kernel_rfl) (by kernel_rfl) (by kernel_rfl) (by kernel_rfl) hS4 rfl rfl rfl (fun a ha w' _ => run_pv E ha rfl _ _ _ _ _) ?_; refine L_take 1 rfl (by kernel_rfl) (by kernel_rfl) (by kernel_rfl) (by kernel_rfl) hS4 rfl rfl rfl (fun a ha w' _ => run_pv E ha rfl _ _ _ _ _) ?_
        refine L_take 2 rfl (by kernel_rfl) (by kernel_rfl) (by kernel_rfl) (by kernel_rfl) hS4 rfl rfl rfl (fun a ha w' _ => ro_bin (r := .int .i64 (B / 8 : Nat)) rfl rfl (by exact run_quo (y := 8) (by decide) (wrap_i64 (by omega))) a ha) ?_
        refine L_take 3 rfl (by kernel_rfl) (by kernel_rfl) (by kernel_rfl) (by kernel_rfl) hS4 rfl rfl rfl (fun a ha w' hS => ro_indexS (o' := B / 8) E rfl rfl rfl rfl (by omega) (by omega) (idx1 _) a ha) ?_
        refine L_take 4 rfl (by kernel_rfl) (by kernel_rfl) (by kernel_rfl) (by kernel_rfl) hS4 rfl rfl rfl (fun a ha w' hS => ro_loadB E hS rfl rfl rfl hget a ha) ?_
        refine L_take 6 rfl (by kernel_rfl) (by kernel_rfl) (by kernel_rfl) (by kernel_rfl) hS4 rfl rfl rfl (fun a ha w' _ => run_pv E ha rfl _ _ _ _ _) ?_
        refine L_take 7 rfl (by kernel_rfl) (by kernel_rfl) (by kernel_rfl) (by kernel_rfl) hS4 rfl rfl rfl (fun a ha w' _ => ro_bin (r := .int .i64 (B % 8 : Nat)) rfl rfl (by exact run_rem (y := 8) (by decide)) a ha) ?_
        refine L_op 5 (by kernel_rfl) rfl (fun hc5 => ?_)
        refine U_buildSlice E rfl rfl rfl rfl rfl rfl rfl rfl (segs := tbl8.map ([·])) rfl (by intro s hs; obtain ⟨u, _, rfl⟩ := List.mem_map.1 hs; rfl) rfl ?_
        intro b5 w5 hn5
        have hS5 := hS4.mv hn5.kept (fun x => x)
        have hb5 : Blk w5 b5 tbl8 5 := hn5.blk
        have e5 := hn5.at_
        refine U_nilL hc5 (fun _ => hS5) ?_
        refine L_take 8 rfl (by kernel_rfl) (by kernel_rfl) (by kernel_rfl) (by kernel_rfl) hS5 rfl rfl rfl (fun a ha w' hS => ro_indexS (o' := B % 8) E rfl rfl rfl rfl (by omega) (by omega) (idx1 _) a ha) ?_
        refine L_op 9 (by kernel_rfl) rfl (fun hc9 => ?_)
        refine U_loadB E hb5 rfl rfl rfl (tbl_get _ hr8) rfl ?_
        refine U_nilL hc9 (fun _ => hS5) ?_
        refine L_op 10 (by kernel_rfl) rfl (fun hc10 => ?_)
        refine U_run rfl rfl rfl (ro_bin (r := .int .u8 (q[B / 8].toNat ^^^ 2 ^ (B % 8) : Nat)) rfl rfl (by exact run_xor (k := .u8) rfl hq8 hp8)) ?_
        refine U_nilL hc10 (fun _ => hS5) ?_
        refine L_take 11 rfl (by kernel_rfl) (by kernel_rfl) (by kernel_rfl) (by kernel_rfl) hS5 rfl rfl rfl (fun a ha w' hS => ro_indexS (o' := B / 8) E rfl rfl rfl rfl (by omega) (by omega) (idx1 _) a ha) ?_
        refine L_op 12 (by kernel_rfl) rfl (fun hc12 => ?_)
        refine U_store E (hS5) rfl rfl rfl (by rw [List.length_append, encBs_len]; omega) rfl ?_
        intro w6 hu6
        refine U_nilL hc12 (fun e => absurd rfl e) ?_
        refine L_done (by kernel_rfl) ?_
        repeat (first | with_reducible refine T_seq ?_ | with_reducible refine T_region ?_ | with_reducible refine U_nil ?_ | refine U_ar rfl rfl rfl (by first | exact wrap_i64 (by omega) | exact wrap_u64 (by omega) | exact wrap_u32 (by omega) | exact wrap_u8 (by omega)) rfl ?_ | refine U_cv E rfl rfl rfl (by first | exact wrap_i64 (by omega) | exact wrap_u64 (by omega) | exact wrap_u32 (by omega) | exact wrap_u8 (by omega)) rfl ?_ | refine U_pure E rfl rfl ?_ | with_reducible refine T_skip ?_ | with_reducible refine T_block ?_ | with_reducible refine T_inBlock ?_ | refine T_exit rfl ?_ | refine T_condV rfl ?_ | with_reducible refine Cnd_t ?_ | with_reducible refine Cnd_f ?_ | with_reducible refine Cnd_not ?_ | with_reducible refine Cnd_some ?_ | with_reducible refine Cnd_none ?_ | refine U_guard rfl rfl ?_ | with_reducible refine Gd_nt ?_ | with_reducible refine Gd_nf ?_ | with_reducible refine Gd_some ?_ | with_reducible refine Gd_none ?_ | with_reducible refine Gd_want ?_ | ((with_reducible refine Gd_skipT ?_ ?_); exact rfl) | ((with_reducible refine Gd_skipF ?_ ?_); exact rfl))
        refine T.less ?_ (ih (k + 1, q.set (B / 8) (UInt8.ofNat (q[B / 8].toNat ^^^ 2 ^ (B % 8))), w6) ⟨by omega, ?_, ?_, hto⟩ (by dsimp only; omega))
        · exact ⟨rfl, rfl, rfl, rfl, trivial⟩
        · have k4 : Kept none0 w w5 := (k3.tr (hd4.kept none0) (fun _ _ x => x)).tr hn5.kept (fun _ _ x => x)
          exact k4.tr hu6.kept (fun j hj (e : j = g) => by omega)
        · have := hu6.blk
          dsimp only
          rw [List.set_append_left _ _ (by rw [encBs_len]; exact hin')] at this
          rw [encBs_set]
          have e : encB (UInt8.ofNat (q[B / 8].toNat ^^^ 2 ^ (B % 8))) = .int .u8 ((q[B / 8].toNat ^^^ 2 ^ (B % 8) : Nat) : Int) := by
            simp only [encB]
            rw [UInt8.toNat_ofNat', Nat.mod_eq_of_lt hx8]
          rw [e]
          exact this
      · repeat (first | with_reducible refine T_seq ?_ | with_reducible refine T_region ?_ | with_reducible refine U_nil ?_ | refine U_ar rfl rfl rfl (by first | exact wrap_i64 (by omega) | exact wrap_u64 (by omega) | exact wrap_u32 (by omega) | exact wrap_u8 (by omega)) rfl ?_ | refine U_cv E rfl rfl rfl (by first | exact wrap_i64 (by omega) | exact wrap_u64 (by omega) | exact wrap_u32 (by omega) | exact wrap_u8 (by omega)) rfl ?_ | refine U_pure E rfl rfl ?_ | with_reducible refine T_skip ?_ | with_reducible refine T_block ?_ | with_reducible refine T_inBlock ?_ | refine T_exit rfl ?_ | refine T_condV rfl ?_ | with_reducible refine Cnd_t ?_ | with_reducible refine Cnd_f ?_ | with_reducible refine Cnd_not ?_ | with_reducible refine Cnd_some ?_ | with_reducible refine Cnd_none ?_ | refine U_guard rfl rfl ?_ | with_reducible refine Gd_nt ?_ | with_reducible refine Gd_nf ?_ | with_reducible refine Gd_some ?_ | with_reducible refine Gd_none ?_ | with_reducible refine Gd_want ?_ | ((with_reducible refine Gd_skipT ?_ ?_); exact rfl) | ((with_reducible refine Gd_skipF ?_ ?_); exact rfl))
        refine T.less ?_ (ih (k + 1, q, w3) ⟨by omega, k3, hb3, ht.off (.inr ?_)⟩ (by dsimp only; omega))
        · exact ⟨rfl, rfl, rfl, rfl, trivial⟩
        · cases hbb : mask.testBit k with
          | false => rfl
          | true => exact absurd (by have := (bit_of mask k).2 hbb; omega) hbit
    · repeat (first | with_reducible refine T_seq ?_ | with_reducible refine T_region ?_ | with_reducible refine U_nil ?_ | refine U_ar rfl rfl rfl (by first | exact wrap_i64 (by omega) | exact wrap_u64 (by omega) | exact wrap_u32 (by omega) | exact wrap_u8 (by omega)) rfl ?_ | refine U_cv E rfl rfl rfl (by first | exact wrap_i64 (by omega) | exact wrap_u64 (by omega) | exact wrap_u32 (by omega) | exact wrap_u8 (by omega)) rfl ?_ | refine U_pure E rfl rfl ?_ | with_reducible refine T_skip ?_ | with_reducible refine T_block ?_ | with_reducible refine T_inBlock ?_ | refine T_exit rfl ?_ | refine T_condV rfl ?_ | with_reducible refine Cnd_t ?_ | with_reducible refine Cnd_f ?_ | with_reducible refine Cnd_not ?_ | with_reducible refine Cnd_some ?_ | with_reducible refine Cnd_none ?_ | refine U_guard rfl rfl ?_ | with_reducible refine Gd_nt ?_ | with_reducible refine Gd_nf ?_ | with_reducible refine Gd_some ?_ | with_reducible refine Gd_none ?_ | with_reducible refine Gd_want ?_ | ((with_reducible refine Gd_skipT ?_ ?_); exact rfl) | ((with_reducible refine Gd_skipF ?_ ?_); exact rfl))
      refine T.less ?_ (ih (k + 1, q, w3) ⟨by omega, k3, hb3, ht.off (.inl ?_)⟩ (by dsimp only; omega))
      · exact ⟨rfl, rfl, rfl, rfl, trivial⟩
      · omega
  · have : k = 32 := by omega
    subst this
    repeat (first | with_reducible refine T_seq ?_ | with_reducible refine T_region ?_ | with_reducible refine U_nil ?_ | refine U_ar rfl rfl rfl (by first | exact wrap_i64 (by omega) | exact wrap_u64 (by omega) | exact wrap_u32 (by omega) | exact wrap_u8 (by omega)) rfl ?_ | refine U_cv E rfl rfl rfl (by first | exact wrap_i64 (by omega) | exact wrap_u64 (by omega) | exact wrap_u32 (by omega) | exact wrap_u8 (by omega)) rfl ?_ | refine U_pure E rfl rfl ?_ | with_reducible refine T_skip ?_ | with_reducible refine T_block ?_ | with_reducible refine T_inBlock ?_ | refine T_exit rfl ?_ | refine T_condV rfl ?_ | with_reducible refine Cnd_t ?_ | with_reducible refine Cnd_f ?_ | with_reducible refine Cnd_not ?_ | with_reducible refine Cnd_some ?_ | with_reducible refine Cnd_none ?_ | refine U_guard rfl rfl ?_ | with_reducible refine Gd_nt ?_ | with_reducible refine Gd_nf ?_ | with_reducible refine Gd_some ?_ | with_reducible refine Gd_none ?_ | with_reducible refine Gd_want ?_ | ((with_reducible refine Gd_skipT ?_ ?_); exact rfl) | ((with_reducible refine Gd_skipF ?_ ?_); exact rfl))
    refine T_ret1 Tryd.func47 rfl rfl ⟨_, rfl, k3, q, ht, ?_⟩
    refine ⟨by omega, by rw [encBs_len, Nat.mul_one], _, cap, by rw [hql], by rw [hql]; exact hcap, .inr ⟨g, 0, rfl, hgw, hb3.lt, ?_⟩⟩
    have := hb3.seg 0 (encBs q).length
    simp only [List.drop_zero, List.take_left] at this
    exact this
end Go.Proofs.YtoefhdaenaiomaaDoor
