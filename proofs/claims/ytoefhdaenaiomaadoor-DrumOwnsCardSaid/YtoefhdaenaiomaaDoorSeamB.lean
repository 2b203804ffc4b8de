/- Frames: Trim, Clone, Frame, Next. -/
import Derived.Test.YtoefhdaenaiomaaDoorSeamA
import Derived.Test.YtoefhdaenaiomaaDoorDrumA
namespace Go.Proofs.YtoefhdaenaiomaaDoor
open Go
set_option maxRecDepth 20000

section
variable {P : Program} {w : World} {m : Fm} {n : Nat} {t ty t2 : TypeId} {ps : String} {af : Array Edge}
theorem ro_strEq {u v : Operand} {s s' : ByteArray} {b : Bool} (hx : ev m u = some (.string s)) (hy : ev m v = some (.string s')) (hb : (s.toList == s'.toList) = b) {dst : Option Tmp} {gd : Option (Nat × Bool)} :
    ∀ a, Fits a n m → (execOp a.eval { dst := dst, op := .binOp .eql t u v t2, type := ty, pos := ps, after := af, guard := gd }).run P w = .ok (.value (.bool b)) w := by
  intro a ha
  subst hb
  simp [execOp, ha.eval hx, ha.eval hy, eqGuard, binOp, Op.stringOp]
theorem ro_strLen (E : Env P) {x : Operand} {s : ByteArray} {q : Nat} (ht : E.ty t = some (.string, q)) (hx : ev m x = some (.string s)) {dst : Option Tmp} {gd : Option (Nat × Bool)} :
    ∀ a, Fits a n m → (execOp a.eval { dst := dst, op := .call { callee := .builtin .len, args := #[x], argTypes := #[t] }, type := ty, pos := ps, after := af, guard := gd }).run P w = .ok (.value (.int .i64 (s.size : Nat))) w := by
  intro a ha
  simp [execOp, resolve, invoke, builtin, Builtin.len_, run_underlying (E.ok _ _ _ ht).1, ha.eval hx, goInt]
theorem ro_strIdx (E : Env P) {x y : Operand} {s : ByteArray} {b : UInt8} {i q : Nat} (ht : E.ty t = some (.string, q)) (hx : ev m x = some (.string s)) (hy : ev m y = some (.int .i64 (i : Int))) (hb : s[i]? = some b) {dst : Option Tmp} {gd : Option (Nat × Bool)} :
    ∀ a, Fits a n m → (execOp a.eval { dst := dst, op := .index t x y, type := ty, pos := ps, after := af, guard := gd }).run P w = .ok (.value (.int .u8 b.toNat)) w := by
  intro a ha
  simp [execOp, Instr.index, asIntOf, run_underlying (E.ok _ _ _ ht).1, ha.eval hx, ha.eval hy, hb]
end

theorem trimR_c (w : World) (G : Nat → Prop) (v : Value) (l : List UInt8) (h : BS w G v l) :
    Calls Tryd.prog 93 [v, .int .u8 0].toArray w (Ret fun r w' => w' = w ∧ ∃ n, n ≤ l.length ∧ BS w G r (l.take n) ∧ zz (l.drop n)) := by
  refine calls_T Tryd.func93 rfl rfl rfl ?_
  have hlen0 := h.1
  repeat (first | with_reducible refine T_seq ?_ | with_reducible refine T_region ?_ | with_reducible refine U_nil ?_ | refine U_ar rfl rfl rfl (wrap_i64 (by omega)) rfl ?_ | refine U_pure E rfl rfl ?_ | with_reducible refine T_skip ?_ | with_reducible refine T_block ?_ | with_reducible refine T_inBlock ?_ | refine T_exit rfl ?_ | refine T_condV rfl ?_ | with_reducible refine Cnd_t ?_ | with_reducible refine Cnd_f ?_ | with_reducible refine Cnd_not ?_ | with_reducible refine Cnd_some ?_ | with_reducible refine Cnd_none ?_ | refine U_guard rfl rfl ?_ | with_reducible refine Gd_nt ?_ | with_reducible refine Gd_nf ?_ | with_reducible refine Gd_some ?_ | with_reducible refine Gd_none ?_ | with_reducible refine Gd_want ?_ | ((with_reducible refine Gd_skipT ?_ ?_); exact rfl) | ((with_reducible refine Gd_skipF ?_ ?_); exact rfl))
  refine T_loop (α := Nat × Value) (fun x => [(0, x.2), (1, .int .u8 0)]) (fun x => w) (fun x => x.1)
    (fun x => x.1 ≤ l.length ∧ BS w G x.2 (l.take x.1) ∧ zz (l.drop x.1)) (l.length, v) ⟨Nat.le_refl _, by rw [List.take_length]; exact h, by rw [List.drop_length]; intro x hx; cases hx⟩ ⟨rfl, rfl, trivial⟩ rfl ?_
  rintro ⟨i, u⟩ ⟨hi, hu, hz⟩ ih
  dsimp only at hi hu hz ⊢
  have hli : (l.take i).length = i := by rw [List.length_take]; omega
  obtain ⟨A, c, rfl⟩ := hu.len
  rw [hli] at hu ⊢
  repeat (first | with_reducible refine T_seq ?_ | with_reducible refine T_region ?_ | with_reducible refine U_nil ?_ | refine U_ar rfl rfl rfl (wrap_i64 (by omega)) rfl ?_ | refine U_pure E rfl rfl ?_ | with_reducible refine T_skip ?_ | with_reducible refine T_block ?_ | with_reducible refine T_inBlock ?_ | refine T_exit rfl ?_ | refine T_condV rfl ?_ | with_reducible refine Cnd_t ?_ | with_reducible refine Cnd_f ?_ | with_reducible refine Cnd_not ?_ | with_reducible refine Cnd_some ?_ | with_reducible refine Cnd_none ?_ | refine U_guard rfl rfl ?_ | with_reducible refine Gd_nt ?_ | with_reducible refine Gd_nf ?_ | with_reducible refine Gd_some ?_ | with_reducible refine Gd_none ?_ | with_reducible refine Gd_want ?_ | ((with_reducible refine Gd_skipT ?_ ?_); exact rfl) | ((with_reducible refine Gd_skipF ?_ ?_); exact rfl))
  refine Gd_p (fun hp => ?_) (fun hp => ?_)
  · have hlt : i - 1 < l.length := by omega
    have hg : (encBs (l.take i))[((i : Int) - 1).toNat]? = some (encB l[i - 1]) := by
      rw [show ((i : Int) - 1).toNat = i - 1 by omega, encBs_get, List.getElem?_take, if_pos (by omega), List.getElem?_eq_getElem hlt]
      rfl
    repeat (first | with_reducible refine T_seq ?_ | with_reducible refine T_region ?_ | with_reducible refine U_nil ?_ | refine U_ar rfl rfl rfl (wrap_i64 (by omega)) rfl ?_ | refine U_pure E rfl rfl ?_ | with_reducible refine T_skip ?_ | with_reducible refine T_block ?_ | with_reducible refine T_inBlock ?_ | refine T_exit rfl ?_ | refine T_condV rfl ?_ | with_reducible refine Cnd_t ?_ | with_reducible refine Cnd_f ?_ | with_reducible refine Cnd_not ?_ | with_reducible refine Cnd_some ?_ | with_reducible refine Cnd_none ?_ | refine U_guard rfl rfl ?_ | with_reducible refine Gd_nt ?_ | with_reducible refine Gd_nf ?_ | with_reducible refine Gd_some ?_ | with_reducible refine Gd_none ?_ | with_reducible refine Gd_want ?_ | ((with_reducible refine Gd_skipT ?_ ?_); exact rfl) | ((with_reducible refine Gd_skipF ?_ ?_); exact rfl))
    have hu1 : Sl w G (.slice A i c) 1 i (encBs (l.take i)) := by have := hu; unfold BS at this; rw [hli] at this; exact this
    refine U_idx E (hu1) rfl rfl rfl rfl (by omega) (by omega) (hg) rfl (fun q hq => ?_)
    repeat (first | with_reducible refine T_seq ?_ | with_reducible refine T_region ?_ | with_reducible refine U_nil ?_ | refine U_ar rfl rfl rfl (wrap_i64 (by omega)) rfl ?_ | refine U_pure E rfl rfl ?_ | with_reducible refine T_skip ?_ | with_reducible refine T_block ?_ | with_reducible refine T_inBlock ?_ | refine T_exit rfl ?_ | refine T_condV rfl ?_ | with_reducible refine Cnd_t ?_ | with_reducible refine Cnd_f ?_ | with_reducible refine Cnd_not ?_ | with_reducible refine Cnd_some ?_ | with_reducible refine Cnd_none ?_ | refine U_guard rfl rfl ?_ | with_reducible refine Gd_nt ?_ | with_reducible refine Gd_nf ?_ | with_reducible refine Gd_some ?_ | with_reducible refine Gd_none ?_ | with_reducible refine Gd_want ?_ | ((with_reducible refine Gd_skipT ?_ ?_); exact rfl) | ((with_reducible refine Gd_skipF ?_ ?_); exact rfl))
    refine U_load E rfl rfl rfl hq rfl ?_
    repeat (first | with_reducible refine T_seq ?_ | with_reducible refine T_region ?_ | with_reducible refine U_nil ?_ | refine U_ar rfl rfl rfl (wrap_i64 (by omega)) rfl ?_ | refine U_pure E rfl rfl ?_ | with_reducible refine T_skip ?_ | with_reducible refine T_block ?_ | with_reducible refine T_inBlock ?_ | refine T_exit rfl ?_ | refine T_condV rfl ?_ | with_reducible refine Cnd_t ?_ | with_reducible refine Cnd_f ?_ | with_reducible refine Cnd_not ?_ | with_reducible refine Cnd_some ?_ | with_reducible refine Cnd_none ?_ | refine U_guard rfl rfl ?_ | with_reducible refine Gd_nt ?_ | with_reducible refine Gd_nf ?_ | with_reducible refine Gd_some ?_ | with_reducible refine Gd_none ?_ | with_reducible refine Gd_want ?_ | ((with_reducible refine Gd_skipT ?_ ?_); exact rfl) | ((with_reducible refine Gd_skipF ?_ ?_); exact rfl))
    refine Cnd_p (fun h0 => ?_) (fun h0 => ?_)
    · have h00 : l[i - 1] = 0 := by
        apply UInt8.toNat_inj.1
        have : ((l[i - 1].toNat : Nat) : Int) = 0 := h0
        have e : (0 : UInt8).toNat = 0 := rfl
        omega
      repeat (first | with_reducible refine T_seq ?_ | with_reducible refine T_region ?_ | with_reducible refine U_nil ?_ | refine U_ar rfl rfl rfl (wrap_i64 (by omega)) rfl ?_ | refine U_pure E rfl rfl ?_ | with_reducible refine T_skip ?_ | with_reducible refine T_block ?_ | with_reducible refine T_inBlock ?_ | refine T_exit rfl ?_ | refine T_condV rfl ?_ | with_reducible refine Cnd_t ?_ | with_reducible refine Cnd_f ?_ | with_reducible refine Cnd_not ?_ | with_reducible refine Cnd_some ?_ | with_reducible refine Cnd_none ?_ | refine U_guard rfl rfl ?_ | with_reducible refine Gd_nt ?_ | with_reducible refine Gd_nf ?_ | with_reducible refine Gd_some ?_ | with_reducible refine Gd_none ?_ | with_reducible refine Gd_want ?_ | ((with_reducible refine Gd_skipT ?_ ?_); exact rfl) | ((with_reducible refine Gd_skipF ?_ ?_); exact rfl))
      obtain ⟨r, hr, rf⟩ := bs_part (P := Tryd.prog) (hu) (0) (i - 1) (by omega) (by omega); refine U_run rfl rfl rfl (ro_slB E rfl rfl rfl rf (by first | rfl | (simp only [List.length_take, List.length_drop, List.length_append] <;> omega) | (dsimp only; omega) | exact ⟨_, rfl⟩ | exact ⟨_, congrArg (fun z => some (Value.int _ z)) (by omega)⟩) (by first | rfl | (simp only [List.length_take, List.length_drop, List.length_append] <;> omega) | (dsimp only; omega) | exact ⟨_, rfl⟩ | exact ⟨_, congrArg (fun z => some (Value.int _ z)) (by omega)⟩)) ?_
      repeat (first | with_reducible refine T_seq ?_ | with_reducible refine T_region ?_ | with_reducible refine U_nil ?_ | refine U_ar rfl rfl rfl (wrap_i64 (by omega)) rfl ?_ | refine U_pure E rfl rfl ?_ | with_reducible refine T_skip ?_ | with_reducible refine T_block ?_ | with_reducible refine T_inBlock ?_ | refine T_exit rfl ?_ | refine T_condV rfl ?_ | with_reducible refine Cnd_t ?_ | with_reducible refine Cnd_f ?_ | with_reducible refine Cnd_not ?_ | with_reducible refine Cnd_some ?_ | with_reducible refine Cnd_none ?_ | refine U_guard rfl rfl ?_ | with_reducible refine Gd_nt ?_ | with_reducible refine Gd_nf ?_ | with_reducible refine Gd_some ?_ | with_reducible refine Gd_none ?_ | with_reducible refine Gd_want ?_ | ((with_reducible refine Gd_skipT ?_ ?_); exact rfl) | ((with_reducible refine Gd_skipF ?_ ?_); exact rfl))
      refine T.less ?_ (ih (i - 1, r) ⟨by omega, ?_, ?_⟩ (by dsimp only; omega))
      · exact ⟨rfl, rfl, trivial⟩
      · dsimp only
        rw [List.drop_zero, Nat.sub_zero, List.take_take, Nat.min_eq_left (by omega)] at hr
        exact hr
      · dsimp only
        intro x hx
        rw [List.drop_eq_getElem_cons hlt] at hx
        rcases List.mem_cons.1 hx with hx | hx
        · rw [hx, h00]
        · exact hz x (by rw [show i - 1 + 1 = i by omega] at hx; exact hx)
    · repeat (first | with_reducible refine T_seq ?_ | with_reducible refine T_region ?_ | with_reducible refine U_nil ?_ | refine U_ar rfl rfl rfl (wrap_i64 (by omega)) rfl ?_ | refine U_pure E rfl rfl ?_ | with_reducible refine T_skip ?_ | with_reducible refine T_block ?_ | with_reducible refine T_inBlock ?_ | refine T_exit rfl ?_ | refine T_condV rfl ?_ | with_reducible refine Cnd_t ?_ | with_reducible refine Cnd_f ?_ | with_reducible refine Cnd_not ?_ | with_reducible refine Cnd_some ?_ | with_reducible refine Cnd_none ?_ | refine U_guard rfl rfl ?_ | with_reducible refine Gd_nt ?_ | with_reducible refine Gd_nf ?_ | with_reducible refine Gd_some ?_ | with_reducible refine Gd_none ?_ | with_reducible refine Gd_want ?_ | ((with_reducible refine Gd_skipT ?_ ?_); exact rfl) | ((with_reducible refine Gd_skipF ?_ ?_); exact rfl))
      exact T_ret1 Tryd.func93 rfl rfl ⟨_, rfl, rfl, i, hi, hu, hz⟩
  · repeat (first | with_reducible refine T_seq ?_ | with_reducible refine T_region ?_ | with_reducible refine U_nil ?_ | refine U_ar rfl rfl rfl (wrap_i64 (by omega)) rfl ?_ | refine U_pure E rfl rfl ?_ | with_reducible refine T_skip ?_ | with_reducible refine T_block ?_ | with_reducible refine T_inBlock ?_ | refine T_exit rfl ?_ | refine T_condV rfl ?_ | with_reducible refine Cnd_t ?_ | with_reducible refine Cnd_f ?_ | with_reducible refine Cnd_not ?_ | with_reducible refine Cnd_some ?_ | with_reducible refine Cnd_none ?_ | refine U_guard rfl rfl ?_ | with_reducible refine Gd_nt ?_ | with_reducible refine Gd_nf ?_ | with_reducible refine Gd_some ?_ | with_reducible refine Gd_none ?_ | with_reducible refine Gd_want ?_ | ((with_reducible refine Gd_skipT ?_ ?_); exact rfl) | ((with_reducible refine Gd_skipF ?_ ?_); exact rfl))
    exact T_ret1 Tryd.func93 rfl rfl ⟨_, rfl, rfl, i, hi, hu, hz⟩

theorem trimL_c (w : World) (G : Nat → Prop) (v : Value) (l : List UInt8) (h : BS w G v l) :
    Calls Tryd.prog 92 [v, .int .u8 0].toArray w (Ret fun r w' => w' = w ∧ ∃ A n c, r = .slice A n c ∧ (n = 0 ↔ zz l)) := by
  refine calls_T Tryd.func92 rfl rfl rfl ?_
  have hlen0 := h.1
  repeat (first | with_reducible refine T_seq ?_ | with_reducible refine T_region ?_ | with_reducible refine U_nil ?_ | refine U_ar rfl rfl rfl (wrap_i64 (by omega)) rfl ?_ | refine U_pure E rfl rfl ?_ | with_reducible refine T_skip ?_ | with_reducible refine T_block ?_ | with_reducible refine T_inBlock ?_ | refine T_exit rfl ?_ | refine T_condV rfl ?_ | with_reducible refine Cnd_t ?_ | with_reducible refine Cnd_f ?_ | with_reducible refine Cnd_not ?_ | with_reducible refine Cnd_some ?_ | with_reducible refine Cnd_none ?_ | refine U_guard rfl rfl ?_ | with_reducible refine Gd_nt ?_ | with_reducible refine Gd_nf ?_ | with_reducible refine Gd_some ?_ | with_reducible refine Gd_none ?_ | with_reducible refine Gd_want ?_ | ((with_reducible refine Gd_skipT ?_ ?_); exact rfl) | ((with_reducible refine Gd_skipF ?_ ?_); exact rfl))
  refine T_loop (α := Nat × Value) (fun x => [(0, x.2), (1, .int .u8 0)]) (fun x => w) (fun x => l.length - x.1)
    (fun x => x.1 ≤ l.length ∧ BS w G x.2 (l.drop x.1) ∧ zz (l.take x.1)) (0, v) ⟨Nat.zero_le _, h, by rw [List.take_zero]; intro x hx; cases hx⟩ ⟨rfl, rfl, trivial⟩ rfl ?_
  rintro ⟨i, u⟩ ⟨hi, hu, hz⟩ ih
  dsimp only at hi hu hz ⊢
  have hli : (l.drop i).length = l.length - i := List.length_drop ..
  obtain ⟨A, c, rfl⟩ := hu.len
  rw [hli] at hu ⊢
  repeat (first | with_reducible refine T_seq ?_ | with_reducible refine T_region ?_ | with_reducible refine U_nil ?_ | refine U_ar rfl rfl rfl (wrap_i64 (by omega)) rfl ?_ | refine U_pure E rfl rfl ?_ | with_reducible refine T_skip ?_ | with_reducible refine T_block ?_ | with_reducible refine T_inBlock ?_ | refine T_exit rfl ?_ | refine T_condV rfl ?_ | with_reducible refine Cnd_t ?_ | with_reducible refine Cnd_f ?_ | with_reducible refine Cnd_not ?_ | with_reducible refine Cnd_some ?_ | with_reducible refine Cnd_none ?_ | refine U_guard rfl rfl ?_ | with_reducible refine Gd_nt ?_ | with_reducible refine Gd_nf ?_ | with_reducible refine Gd_some ?_ | with_reducible refine Gd_none ?_ | with_reducible refine Gd_want ?_ | ((with_reducible refine Gd_skipT ?_ ?_); exact rfl) | ((with_reducible refine Gd_skipF ?_ ?_); exact rfl))
  refine Gd_p (fun hp => ?_) (fun hp => ?_)
  · have hlt : i < l.length := by omega
    have hg : (encBs (l.drop i))[(0 : Int).toNat]? = some (encB l[i]) := by
      show (encBs (l.drop i))[0]? = _
      rw [encBs_get, List.getElem?_drop, Nat.add_zero, List.getElem?_eq_getElem hlt]
      rfl
    repeat (first | with_reducible refine T_seq ?_ | with_reducible refine T_region ?_ | with_reducible refine U_nil ?_ | refine U_ar rfl rfl rfl (wrap_i64 (by omega)) rfl ?_ | refine U_pure E rfl rfl ?_ | with_reducible refine T_skip ?_ | with_reducible refine T_block ?_ | with_reducible refine T_inBlock ?_ | refine T_exit rfl ?_ | refine T_condV rfl ?_ | with_reducible refine Cnd_t ?_ | with_reducible refine Cnd_f ?_ | with_reducible refine Cnd_not ?_ | with_reducible refine Cnd_some ?_ | with_reducible refine Cnd_none ?_ | refine U_guard rfl rfl ?_ | with_reducible refine Gd_nt ?_ | with_reducible refine Gd_nf ?_ | with_reducible refine Gd_some ?_ | with_reducible refine Gd_none ?_ | with_reducible refine Gd_want ?_ | ((with_reducible refine Gd_skipT ?_ ?_); exact rfl) | ((with_reducible refine Gd_skipF ?_ ?_); exact rfl))
    have hu1 : Sl w G (.slice A (l.length - i) c) 1 (l.length - i) (encBs (l.drop i)) := by have := hu; unfold BS at this; rw [hli] at this; exact this
    refine U_idx E (hu1) rfl rfl rfl rfl (by omega) (by omega) (hg) rfl (fun q hq => ?_)
    repeat (first | with_reducible refine T_seq ?_ | with_reducible refine T_region ?_ | with_reducible refine U_nil ?_ | refine U_ar rfl rfl rfl (wrap_i64 (by omega)) rfl ?_ | refine U_pure E rfl rfl ?_ | with_reducible refine T_skip ?_ | with_reducible refine T_block ?_ | with_reducible refine T_inBlock ?_ | refine T_exit rfl ?_ | refine T_condV rfl ?_ | with_reducible refine Cnd_t ?_ | with_reducible refine Cnd_f ?_ | with_reducible refine Cnd_not ?_ | with_reducible refine Cnd_some ?_ | with_reducible refine Cnd_none ?_ | refine U_guard rfl rfl ?_ | with_reducible refine Gd_nt ?_ | with_reducible refine Gd_nf ?_ | with_reducible refine Gd_some ?_ | with_reducible refine Gd_none ?_ | with_reducible refine Gd_want ?_ | ((with_reducible refine Gd_skipT ?_ ?_); exact rfl) | ((with_reducible refine Gd_skipF ?_ ?_); exact rfl))
    refine U_load E rfl rfl rfl hq rfl ?_
    repeat (first | with_reducible refine T_seq ?_ | with_reducible refine T_region ?_ | with_reducible refine U_nil ?_ | refine U_ar rfl rfl rfl (wrap_i64 (by omega)) rfl ?_ | refine U_pure E rfl rfl ?_ | with_reducible refine T_skip ?_ | with_reducible refine T_block ?_ | with_reducible refine T_inBlock ?_ | refine T_exit rfl ?_ | refine T_condV rfl ?_ | with_reducible refine Cnd_t ?_ | with_reducible refine Cnd_f ?_ | with_reducible refine Cnd_not ?_ | with_reducible refine Cnd_some ?_ | with_reducible refine Cnd_none ?_ | refine U_guard rfl rfl ?_ | with_reducible refine Gd_nt ?_ | with_reducible refine Gd_nf ?_ | with_reducible refine Gd_some ?_ | with_reducible refine Gd_none ?_ | with_reducible refine Gd_want ?_ | ((with_reducible refine Gd_skipT ?_ ?_); exact rfl) | ((with_reducible refine Gd_skipF ?_ ?_); exact rfl))
    refine Cnd_p (fun h0 => ?_) (fun h0 => ?_)
    · have h00 : l[i] = 0 := by
        apply UInt8.toNat_inj.1
        have : ((l[i].toNat : Nat) : Int) = 0 := h0
        have e : (0 : UInt8).toNat = 0 := rfl
        omega
      repeat (first | with_reducible refine T_seq ?_ | with_reducible refine T_region ?_ | with_reducible refine U_nil ?_ | refine U_ar rfl rfl rfl (wrap_i64 (by omega)) rfl ?_ | refine U_pure E rfl rfl ?_ | with_reducible refine T_skip ?_ | with_reducible refine T_block ?_ | with_reducible refine T_inBlock ?_ | refine T_exit rfl ?_ | refine T_condV rfl ?_ | with_reducible refine Cnd_t ?_ | with_reducible refine Cnd_f ?_ | with_reducible refine Cnd_not ?_ | with_reducible refine Cnd_some ?_ | with_reducible refine Cnd_none ?_ | refine U_guard rfl rfl ?_ | with_reducible refine Gd_nt ?_ | with_reducible refine Gd_nf ?_ | with_reducible refine Gd_some ?_ | with_reducible refine Gd_none ?_ | with_reducible refine Gd_want ?_ | ((with_reducible refine Gd_skipT ?_ ?_); exact rfl) | ((with_reducible refine Gd_skipF ?_ ?_); exact rfl))
      obtain ⟨r, hr, rf⟩ := bs_part (P := Tryd.prog) (hu) (1) (l.length - i) (by omega) (by omega); refine U_run rfl rfl rfl (ro_slB E rfl rfl rfl rf (by first | rfl | (simp only [List.length_take, List.length_drop, List.length_append] <;> omega) | (dsimp only; omega) | exact ⟨_, rfl⟩ | exact ⟨_, congrArg (fun z => some (Value.int _ z)) (by omega)⟩) (by first | rfl | (simp only [List.length_take, List.length_drop, List.length_append] <;> omega) | (dsimp only; omega) | exact ⟨_, rfl⟩ | exact ⟨_, congrArg (fun z => some (Value.int _ z)) (by omega)⟩)) ?_
      repeat (first | with_reducible refine T_seq ?_ | with_reducible refine T_region ?_ | with_reducible refine U_nil ?_ | refine U_ar rfl rfl rfl (wrap_i64 (by omega)) rfl ?_ | refine U_pure E rfl rfl ?_ | with_reducible refine T_skip ?_ | with_reducible refine T_block ?_ | with_reducible refine T_inBlock ?_ | refine T_exit rfl ?_ | refine T_condV rfl ?_ | with_reducible refine Cnd_t ?_ | with_reducible refine Cnd_f ?_ | with_reducible refine Cnd_not ?_ | with_reducible refine Cnd_some ?_ | with_reducible refine Cnd_none ?_ | refine U_guard rfl rfl ?_ | with_reducible refine Gd_nt ?_ | with_reducible refine Gd_nf ?_ | with_reducible refine Gd_some ?_ | with_reducible refine Gd_none ?_ | with_reducible refine Gd_want ?_ | ((with_reducible refine Gd_skipT ?_ ?_); exact rfl) | ((with_reducible refine Gd_skipF ?_ ?_); exact rfl))
      refine T.less ?_ (ih (i + 1, r) ⟨by omega, ?_, ?_⟩ (by dsimp only; omega))
      · exact ⟨rfl, rfl, trivial⟩
      · dsimp only
        rw [List.drop_drop, List.take_of_length_le (by rw [List.length_drop]; omega)] at hr
        exact hr
      · dsimp only
        intro x hx
        rw [take_snoc l i hlt] at hx
        rcases List.mem_append.1 hx with hx | hx
        · exact hz x hx
        · rw [List.mem_singleton.1 hx, h00]
    · have hnz : ¬ zz l := fun e => h0 (by
        have := e l[i] (List.getElem_mem hlt)
        rw [this]
        rfl)
      repeat (first | with_reducible refine T_seq ?_ | with_reducible refine T_region ?_ | with_reducible refine U_nil ?_ | refine U_ar rfl rfl rfl (wrap_i64 (by omega)) rfl ?_ | refine U_pure E rfl rfl ?_ | with_reducible refine T_skip ?_ | with_reducible refine T_block ?_ | with_reducible refine T_inBlock ?_ | refine T_exit rfl ?_ | refine T_condV rfl ?_ | with_reducible refine Cnd_t ?_ | with_reducible refine Cnd_f ?_ | with_reducible refine Cnd_not ?_ | with_reducible refine Cnd_some ?_ | with_reducible refine Cnd_none ?_ | refine U_guard rfl rfl ?_ | with_reducible refine Gd_nt ?_ | with_reducible refine Gd_nf ?_ | with_reducible refine Gd_some ?_ | with_reducible refine Gd_none ?_ | with_reducible refine Gd_want ?_ | ((with_reducible refine Gd_skipT ?_ ?_); exact rfl) | ((with_reducible refine Gd_skipF ?_ ?_); exact rfl))
      refine Cnd_p (fun hq => ?_) (fun hq => ?_)
      · exfalso; omega
      · repeat (first | with_reducible refine T_seq ?_ | with_reducible refine T_region ?_ | with_reducible refine U_nil ?_ | refine U_ar rfl rfl rfl (wrap_i64 (by omega)) rfl ?_ | refine U_pure E rfl rfl ?_ | with_reducible refine T_skip ?_ | with_reducible refine T_block ?_ | with_reducible refine T_inBlock ?_ | refine T_exit rfl ?_ | refine T_condV rfl ?_ | with_reducible refine Cnd_t ?_ | with_reducible refine Cnd_f ?_ | with_reducible refine Cnd_not ?_ | with_reducible refine Cnd_some ?_ | with_reducible refine Cnd_none ?_ | refine U_guard rfl rfl ?_ | with_reducible refine Gd_nt ?_ | with_reducible refine Gd_nf ?_ | with_reducible refine Gd_some ?_ | with_reducible refine Gd_none ?_ | with_reducible refine Gd_want ?_ | ((with_reducible refine Gd_skipT ?_ ?_); exact rfl) | ((with_reducible refine Gd_skipF ?_ ?_); exact rfl))
        exact T_ret1 Tryd.func92 rfl rfl ⟨_, rfl, rfl, _, _, _, rfl, by constructor <;> intro e; exfalso; omega; exact absurd e hnz⟩
  · have : i = l.length := by omega
    subst this
    rw [List.take_length] at hz
    repeat (first | with_reducible refine T_seq ?_ | with_reducible refine T_region ?_ | with_reducible refine U_nil ?_ | refine U_ar rfl rfl rfl (wrap_i64 (by omega)) rfl ?_ | refine U_pure E rfl rfl ?_ | with_reducible refine T_skip ?_ | with_reducible refine T_block ?_ | with_reducible refine T_inBlock ?_ | refine T_exit rfl ?_ | refine T_condV rfl ?_ | with_reducible refine Cnd_t ?_ | with_reducible refine Cnd_f ?_ | with_reducible refine Cnd_not ?_ | with_reducible refine Cnd_some ?_ | with_reducible refine Cnd_none ?_ | refine U_guard rfl rfl ?_ | with_reducible refine Gd_nt ?_ | with_reducible refine Gd_nf ?_ | with_reducible refine Gd_some ?_ | with_reducible refine Gd_none ?_ | with_reducible refine Gd_want ?_ | ((with_reducible refine Gd_skipT ?_ ?_); exact rfl) | ((with_reducible refine Gd_skipF ?_ ?_); exact rfl))
    refine Cnd_p (fun hq => ?_) (fun hq => ?_)
    · repeat (first | with_reducible refine T_seq ?_ | with_reducible refine T_region ?_ | with_reducible refine U_nil ?_ | refine U_ar rfl rfl rfl (wrap_i64 (by omega)) rfl ?_ | refine U_pure E rfl rfl ?_ | with_reducible refine T_skip ?_ | with_reducible refine T_block ?_ | with_reducible refine T_inBlock ?_ | refine T_exit rfl ?_ | refine T_condV rfl ?_ | with_reducible refine Cnd_t ?_ | with_reducible refine Cnd_f ?_ | with_reducible refine Cnd_not ?_ | with_reducible refine Cnd_some ?_ | with_reducible refine Cnd_none ?_ | refine U_guard rfl rfl ?_ | with_reducible refine Gd_nt ?_ | with_reducible refine Gd_nf ?_ | with_reducible refine Gd_some ?_ | with_reducible refine Gd_none ?_ | with_reducible refine Gd_want ?_ | ((with_reducible refine Gd_skipT ?_ ?_); exact rfl) | ((with_reducible refine Gd_skipF ?_ ?_); exact rfl))
      exact T_ret1 Tryd.func92 rfl rfl ⟨_, rfl, rfl, _, _, _, rfl, by constructor <;> intro _; exact hz; rfl⟩
    · exfalso; omega

theorem zz_split (l : List UInt8) (n : Nat) (h : zz (l.drop n)) : zz (l.take n) ↔ zz l := by
  constructor
  · intro h1 x hx
    rw [← List.take_append_drop n l] at hx
    rcases List.mem_append.1 hx with hx | hx
    · exact h1 x hx
    · exact h x hx
  · intro h1 x hx
    exact h1 x (List.mem_of_mem_take hx)

theorem trim_c (w : World) (G : Nat → Prop) (v : Value) (l : List UInt8) (h : BS w G v l) :
    Calls Tryd.prog 66 [v, .string ⟨#[0]⟩].toArray w (Ret fun r w' => Drew w w' ∧ ∃ A n c, r = .slice A n c ∧ (n = 0 ↔ zz l)) := by
  refine calls_T Tryd.func66 rfl rfl rfl ?_
  obtain ⟨A, c, rfl⟩ := h.len
  repeat (first | with_reducible refine T_seq ?_ | with_reducible refine T_region ?_ | with_reducible refine U_nil ?_ | refine U_ar rfl rfl rfl (wrap_i64 (by omega)) rfl ?_ | refine U_pure E rfl rfl ?_ | with_reducible refine T_skip ?_ | with_reducible refine T_block ?_ | with_reducible refine T_inBlock ?_ | refine T_exit rfl ?_ | refine T_condV rfl ?_ | with_reducible refine Cnd_t ?_ | with_reducible refine Cnd_f ?_ | with_reducible refine Cnd_not ?_ | with_reducible refine Cnd_some ?_ | with_reducible refine Cnd_none ?_ | refine U_guard rfl rfl ?_ | with_reducible refine Gd_nt ?_ | with_reducible refine Gd_nf ?_ | with_reducible refine Gd_some ?_ | with_reducible refine Gd_none ?_ | with_reducible refine Gd_want ?_ | ((with_reducible refine Gd_skipT ?_ ?_); exact rfl) | ((with_reducible refine Gd_skipF ?_ ?_); exact rfl))
  refine Cnd_p (fun h0 => ?_) (fun h0 => ?_)
  · have hl0 : l = [] := List.eq_nil_of_length_eq_zero (by omega)
    subst hl0
    repeat (first | with_reducible refine T_seq ?_ | with_reducible refine T_region ?_ | with_reducible refine U_nil ?_ | refine U_ar rfl rfl rfl (wrap_i64 (by omega)) rfl ?_ | refine U_pure E rfl rfl ?_ | with_reducible refine T_skip ?_ | with_reducible refine T_block ?_ | with_reducible refine T_inBlock ?_ | refine T_exit rfl ?_ | refine T_condV rfl ?_ | with_reducible refine Cnd_t ?_ | with_reducible refine Cnd_f ?_ | with_reducible refine Cnd_not ?_ | with_reducible refine Cnd_some ?_ | with_reducible refine Cnd_none ?_ | refine U_guard rfl rfl ?_ | with_reducible refine Gd_nt ?_ | with_reducible refine Gd_nf ?_ | with_reducible refine Gd_some ?_ | with_reducible refine Gd_none ?_ | with_reducible refine Gd_want ?_ | ((with_reducible refine Gd_skipT ?_ ?_); exact rfl) | ((with_reducible refine Gd_skipF ?_ ?_); exact rfl))
    exact T_ret1 Tryd.func66 rfl rfl ⟨_, rfl, Drew.refl _, _, _, _, rfl, by constructor <;> intro _; (intro x hx; cases hx); rfl⟩
  · repeat (first | with_reducible refine T_seq ?_ | with_reducible refine T_region ?_ | with_reducible refine U_nil ?_ | refine U_ar rfl rfl rfl (wrap_i64 (by omega)) rfl ?_ | refine U_pure E rfl rfl ?_ | with_reducible refine T_skip ?_ | with_reducible refine T_block ?_ | with_reducible refine T_inBlock ?_ | refine T_exit rfl ?_ | refine T_condV rfl ?_ | with_reducible refine Cnd_t ?_ | with_reducible refine Cnd_f ?_ | with_reducible refine Cnd_not ?_ | with_reducible refine Cnd_some ?_ | with_reducible refine Cnd_none ?_ | refine U_guard rfl rfl ?_ | with_reducible refine Gd_nt ?_ | with_reducible refine Gd_nf ?_ | with_reducible refine Gd_some ?_ | with_reducible refine Gd_none ?_ | with_reducible refine Gd_want ?_ | ((with_reducible refine Gd_skipT ?_ ?_); exact rfl) | ((with_reducible refine Gd_skipF ?_ ?_); exact rfl))
    refine U_run rfl rfl rfl (ro_strEq (b := false) rfl rfl (by kernel_rfl)) ?_
    repeat (first | with_reducible refine T_seq ?_ | with_reducible refine T_region ?_ | with_reducible refine U_nil ?_ | refine U_ar rfl rfl rfl (wrap_i64 (by omega)) rfl ?_ | refine U_pure E rfl rfl ?_ | with_reducible refine T_skip ?_ | with_reducible refine T_block ?_ | with_reducible refine T_inBlock ?_ | refine T_exit rfl ?_ | refine T_condV rfl ?_ | with_reducible refine Cnd_t ?_ | with_reducible refine Cnd_f ?_ | with_reducible refine Cnd_not ?_ | with_reducible refine Cnd_some ?_ | with_reducible refine Cnd_none ?_ | refine U_guard rfl rfl ?_ | with_reducible refine Gd_nt ?_ | with_reducible refine Gd_nf ?_ | with_reducible refine Gd_some ?_ | with_reducible refine Gd_none ?_ | with_reducible refine Gd_want ?_ | ((with_reducible refine Gd_skipT ?_ ?_); exact rfl) | ((with_reducible refine Gd_skipF ?_ ?_); exact rfl))
    refine U_run rfl rfl rfl (ro_strLen E rfl rfl) ?_
    repeat (first | with_reducible refine T_seq ?_ | with_reducible refine T_region ?_ | with_reducible refine U_nil ?_ | refine U_ar rfl rfl rfl (wrap_i64 (by omega)) rfl ?_ | refine U_pure E rfl rfl ?_ | with_reducible refine T_skip ?_ | with_reducible refine T_block ?_ | with_reducible refine T_inBlock ?_ | refine T_exit rfl ?_ | refine T_condV rfl ?_ | with_reducible refine Cnd_t ?_ | with_reducible refine Cnd_f ?_ | with_reducible refine Cnd_not ?_ | with_reducible refine Cnd_some ?_ | with_reducible refine Cnd_none ?_ | refine U_guard rfl rfl ?_ | with_reducible refine Gd_nt ?_ | with_reducible refine Gd_nf ?_ | with_reducible refine Gd_some ?_ | with_reducible refine Gd_none ?_ | with_reducible refine Gd_want ?_ | ((with_reducible refine Gd_skipT ?_ ?_); exact rfl) | ((with_reducible refine Gd_skipF ?_ ?_); exact rfl))
    refine Gd_b (fun _ => ?_) (fun e => absurd e (by decide))
    repeat (first | with_reducible refine T_seq ?_ | with_reducible refine T_region ?_ | with_reducible refine U_nil ?_ | refine U_ar rfl rfl rfl (wrap_i64 (by omega)) rfl ?_ | refine U_pure E rfl rfl ?_ | with_reducible refine T_skip ?_ | with_reducible refine T_block ?_ | with_reducible refine T_inBlock ?_ | refine T_exit rfl ?_ | refine T_condV rfl ?_ | with_reducible refine Cnd_t ?_ | with_reducible refine Cnd_f ?_ | with_reducible refine Cnd_not ?_ | with_reducible refine Cnd_some ?_ | with_reducible refine Cnd_none ?_ | refine U_guard rfl rfl ?_ | with_reducible refine Gd_nt ?_ | with_reducible refine Gd_nf ?_ | with_reducible refine Gd_some ?_ | with_reducible refine Gd_none ?_ | with_reducible refine Gd_want ?_ | ((with_reducible refine Gd_skipT ?_ ?_); exact rfl) | ((with_reducible refine Gd_skipF ?_ ?_); exact rfl))
    refine U_run rfl rfl rfl (ro_strIdx (i := 0) (b := 0) E rfl rfl rfl rfl) ?_
    repeat (first | with_reducible refine T_seq ?_ | with_reducible refine T_region ?_ | with_reducible refine U_nil ?_ | refine U_ar rfl rfl rfl (wrap_i64 (by omega)) rfl ?_ | refine U_pure E rfl rfl ?_ | with_reducible refine T_skip ?_ | with_reducible refine T_block ?_ | with_reducible refine T_inBlock ?_ | refine T_exit rfl ?_ | refine T_condV rfl ?_ | with_reducible refine Cnd_t ?_ | with_reducible refine Cnd_f ?_ | with_reducible refine Cnd_not ?_ | with_reducible refine Cnd_some ?_ | with_reducible refine Cnd_none ?_ | refine U_guard rfl rfl ?_ | with_reducible refine Gd_nt ?_ | with_reducible refine Gd_nf ?_ | with_reducible refine Gd_some ?_ | with_reducible refine Gd_none ?_ | with_reducible refine Gd_want ?_ | ((with_reducible refine Gd_skipT ?_ ?_); exact rfl) | ((with_reducible refine Gd_skipF ?_ ?_); exact rfl))
    refine Cnd_b (fun _ => ?_) (fun e => absurd e (by decide))
    repeat (first | with_reducible refine T_seq ?_ | with_reducible refine T_region ?_ | with_reducible refine U_nil ?_ | refine U_ar rfl rfl rfl (wrap_i64 (by omega)) rfl ?_ | refine U_pure E rfl rfl ?_ | with_reducible refine T_skip ?_ | with_reducible refine T_block ?_ | with_reducible refine T_inBlock ?_ | refine T_exit rfl ?_ | refine T_condV rfl ?_ | with_reducible refine Cnd_t ?_ | with_reducible refine Cnd_f ?_ | with_reducible refine Cnd_not ?_ | with_reducible refine Cnd_some ?_ | with_reducible refine Cnd_none ?_ | refine U_guard rfl rfl ?_ | with_reducible refine Gd_nt ?_ | with_reducible refine Gd_nf ?_ | with_reducible refine Gd_some ?_ | with_reducible refine Gd_none ?_ | with_reducible refine Gd_want ?_ | ((with_reducible refine Gd_skipT ?_ ?_); exact rfl) | ((with_reducible refine Gd_skipF ?_ ?_); exact rfl))
    refine L_begin (fun _ => True) 8 (by kernel_rfl) (N := 8) rfl (fun w1 hd1 => ?_)
    refine L_take 0 rfl (by kernel_rfl) (by kernel_rfl) (by kernel_rfl) (by kernel_rfl) trivial rfl rfl rfl (fun a ha w' _ => run_pv E ha rfl _ _ _ _ _) ?_; refine L_take 1 rfl (by kernel_rfl) (by kernel_rfl) (by kernel_rfl) (by kernel_rfl) trivial rfl rfl rfl (fun a ha w' _ => run_pv E ha rfl _ _ _ _ _) ?_
    refine L_take 2 rfl (by kernel_rfl) (by kernel_rfl) (by kernel_rfl) (by kernel_rfl) trivial rfl rfl rfl (fun a ha w' _ => ro_strIdx (i := 0) (b := 0) E rfl rfl rfl rfl a ha) ?_
    refine L_take 4 rfl (by kernel_rfl) (by kernel_rfl) (by kernel_rfl) (by kernel_rfl) trivial rfl rfl rfl (fun a ha w' _ => run_pv E ha rfl _ _ _ _ _) ?_
    refine L_take 5 rfl (by kernel_rfl) (by kernel_rfl) (by kernel_rfl) (by kernel_rfl) trivial rfl rfl rfl (fun a ha w' _ => ro_strIdx (i := 0) (b := 0) E rfl rfl rfl rfl a ha) ?_
    refine L_op 3 (by kernel_rfl) rfl (fun hc3 => ?_)
    refine U_call rfl rfl (Tryd.call93 _) (trimR_c w1 G _ l (h.mv (hd1.kept none0) (fun _ _ _ x => x))) ?_
    rintro r w2 ⟨rfl, n, hn, hr, hz⟩
    refine U_nilL hc3 (fun _ => trivial) ?_
    refine L_op 6 (by kernel_rfl) rfl (fun hc6 => ?_)
    refine U_call rfl rfl (Tryd.call92 _) (trimL_c w2 G _ _ hr) ?_
    rintro r2 w3 ⟨rfl, A2, n2, c2, rfl, hr2⟩
    refine U_nilL hc6 (fun _ => trivial) ?_
    refine L_take 7 rfl (by kernel_rfl) (by kernel_rfl) (by kernel_rfl) (by kernel_rfl) trivial rfl rfl rfl (fun a ha w' _ => run_pv E ha rfl _ _ _ _ _) ?_
    refine L_done (by kernel_rfl) ?_
    repeat (first | with_reducible refine T_seq ?_ | with_reducible refine T_region ?_ | with_reducible refine U_nil ?_ | refine U_ar rfl rfl rfl (wrap_i64 (by omega)) rfl ?_ | refine U_pure E rfl rfl ?_ | with_reducible refine T_skip ?_ | with_reducible refine T_block ?_ | with_reducible refine T_inBlock ?_ | refine T_exit rfl ?_ | refine T_condV rfl ?_ | with_reducible refine Cnd_t ?_ | with_reducible refine Cnd_f ?_ | with_reducible refine Cnd_not ?_ | with_reducible refine Cnd_some ?_ | with_reducible refine Cnd_none ?_ | refine U_guard rfl rfl ?_ | with_reducible refine Gd_nt ?_ | with_reducible refine Gd_nf ?_ | with_reducible refine Gd_some ?_ | with_reducible refine Gd_none ?_ | with_reducible refine Gd_want ?_ | ((with_reducible refine Gd_skipT ?_ ?_); exact rfl) | ((with_reducible refine Gd_skipF ?_ ?_); exact rfl))
    exact T_ret1 Tryd.func66 rfl rfl ⟨_, rfl, hd1, _, _, _, rfl, hr2.trans (zz_split l n hz)⟩
end Go.Proofs.YtoefhdaenaiomaaDoor
