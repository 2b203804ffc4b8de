/- Clean, Size, Read at any number. -/
import Derived.Test.YtoefhdaenaiomaaDoorPd4
import Derived.ChangeKeysEq
import Derived.Test.YtoefhdaenaiomaaDoorPd2
import Derived.Test.YtoefhdaenaiomaaDoorPd3
set_option linter.unusedVariables false
set_option linter.unusedSimpArgs false
namespace Go.Proofs.YtoefhdaenaiomaaDoor
open Go
set_option maxRecDepth 20000

section
variable {P : Program} {w : World}
theorem run_part_u8 {e : TypeId} (he : P.underlying e = some (.int .u8)) (l : List UInt8) (i : Nat) (hi : i < l.length) : (part e (encBs l).toArray i).run P w = .ok (encB l[i]) w := by
  have hg : (encBs l).toArray[i]? = some (encB l[i]) := by
    rw [List.getElem?_toArray]
    exact get_enc hi
  simp only [part, Sem.run_bind, run_isAgg he, notAgg, Bool.not_true, Result.andThen_ok, Bool.false_eq_true, if_false, hg]
  rfl
theorem run_eqBytes (d : Nat) {e : TypeId} (he : P.underlying e = some (.int .u8)) (xs ys : List UInt8) (hab : xs.length = ys.length) : ∀ (is : List Nat), (∀ i ∈ is, i < xs.length) →
    (Op.eqItems (d + 1) e 1 (encBs xs).toArray (encBs ys).toArray is).run P w = .ok (decide (∀ i ∈ is, xs[i]? = ys[i]?)) w
  | [], _ => by simp [Op.eqItems]
  | i :: is, h => by
    have hi : i < xs.length := h i (by simp)
    have hj : i < ys.length := by omega
    have ih := run_eqBytes d he xs ys hab is (fun j hj => h j (by simp [hj]))
    have e1 := run_part_u8 (P := P) (w := w) he xs i hi
    have e2 := run_part_u8 (P := P) (w := w) he ys i hj
    have e3 : (Op.equalIn (d + 1) e (encB xs[i]) (encB ys[i])).run P w = .ok (decide (xs[i] = ys[i])) w := by
      unfold encB
      rw [run_equalIn_int w d e .u8 .u8 _ _ he]
      congr 1
      by_cases hx : xs[i] = ys[i]
      · simp [hx]
      · have : ((xs[i].toNat : Int)) ≠ ys[i].toNat := ofNat_get_ne.2 hx
        simp [hx, this]
    simp only [Op.eqItems, Sem.run_bind, Nat.mul_one, e1, e2, Result.andThen_ok, e3]
    by_cases hx : xs[i] = ys[i]
    · simp only [hx, decide_true, Bool.not_true, Bool.false_eq_true, if_false]
      rw [ih]
      congr 1
      apply decide_eq_decide.2
      simp [List.getElem?_eq_getElem hi, List.getElem?_eq_getElem hj, hx]
    · simp only [hx, decide_false, Bool.not_false, if_true, Sem.run_pure]
      congr 1
      symm
      apply decide_eq_false
      intro hall
      have := hall i (by simp)
      rw [List.getElem?_eq_getElem hi, List.getElem?_eq_getElem hj] at this
      exact hx (Option.some.inj this)

variable {m : Fm} {n : Nat} {ty t2 : TypeId} {ps : String} {af : Array Edge}
theorem ro_eqArr {t e : TypeId} {N : Nat} {u v : Operand} {xs ys : List UInt8} (hu : P.underlying t = some (.array N e)) (he : P.underlying e = some (.int .u8)) (hi : (P.info? e).isSome = true) (hc : P.cellsOf e = 1) (hg : P.eqGuardType P.depth t = false)
    (hx : ev m u = some (.agg (encBs xs).toArray)) (hy : ev m v = some (.agg (encBs ys).toArray)) (ha : xs.length = N) (hb : ys.length = N) {dst : Option Tmp} {gd : Option (Nat × Bool)} :
    ∀ a, Fits a n m → (execOp a.eval { dst := dst, op := .binOp .eql t u v t2, type := ty, pos := ps, after := af, guard := gd }).run P w = .ok (.value (.bool (decide (xs = ys)))) w := by
  intro a hf
  obtain ⟨i, hi⟩ := Option.isSome_iff_exists.1 hi
  have h1 := run_eqBytes (P := P) (w := w) 9998 he xs ys (by omega) (List.range N) (fun j hj => by rw [List.mem_range] at hj; omega)
  have h2 := run_equalIn_array w 9999 (encBs xs).toArray (encBs ys).toArray hu hi
  rw [hc, h1] at h2
  have h3 : decide (∀ i ∈ List.range N, xs[i]? = ys[i]?) = decide (xs = ys) := by
    apply decide_eq_decide.2
    constructor
    · intro h
      apply List.ext_getElem? 
      intro i
      by_cases hi : i < N
      · exact h i (List.mem_range.2 hi)
      · rw [List.getElem?_eq_none (by omega), List.getElem?_eq_none (by omega)]
    · intro h i _
      rw [h]
  rw [h3] at h2
  simp only [execOp, hf.eval hx, hf.eval hy, Sem.run_bind, run_eqGuard_agg w .eql t u v _ _ hg, Result.andThen_ok, run_eql_struct, h2]
  rfl
end

def cleanD (D : Dr) (i : Int) : Prop := (0 ≤ i ∧ i < D.l.length) ∧ nowS D.l D.wait i.toNat = zeros 256
instance (D : Dr) (i : Int) : Decidable (cleanD D i) := inferInstanceAs (Decidable (_ ∧ _))

theorem clean_c (w : World) (F : Nat → Prop) (hb : Nat) (D : Dr) (i : Int) (h : IsD w F hb D) :
    Calls Tryd.prog 40 [ptr hb, .int .i64 i].toArray w (Ret fun r w' => r = .bool (decide (cleanD D i)) ∧ Kept none0 w w') := by
  have hf := fits_c w F hb D i h
  by_cases hi : 0 ≤ i ∧ i < D.l.length
  · rw [if_pos hi] at hf
    obtain ⟨I, rfl⟩ := Int.eq_ofNat_of_zero_le hi.1
    have hI : I < D.l.length := by omega
    have hn := now_c w F hb D I h hI
    have hln := nowS_len D.l D.wait I h.1.secs (fun p hp => (h.1.waits p hp).2) hI
    refine calls_T Tryd.func40 rfl rfl rfl ?_
    unfold ptr at *
    repeat (first | (with_reducible first | apply T_seq | apply T_region | apply U_nil | apply T_skip | apply T_block | apply T_inBlock | apply Cnd_t | apply Cnd_f | apply Cnd_not | apply Cnd_some | apply Cnd_none | apply Gd_nt | apply Gd_nf | apply Gd_some | apply Gd_none | apply Gd_want) | refine U_ar rfl rfl rfl (wrap_i64 (by omega)) rfl ?_ | refine U_pure E rfl rfl ?_ | refine T_exit rfl ?_ | refine T_condV rfl ?_ | refine U_guard rfl rfl ?_ | ((with_reducible refine Gd_skipT ?_ ?_); exact rfl) | ((with_reducible refine Gd_skipF ?_ ?_); exact rfl))
    refine U_call rfl rfl (Tryd.call70 _) (ret_of hf) ?_
    rintro r w1 ⟨rfl, rfl⟩
    unfold errV
    repeat (first | (with_reducible first | apply T_seq | apply T_region | apply U_nil | apply T_skip | apply T_block | apply T_inBlock | apply Cnd_t | apply Cnd_f | apply Cnd_not | apply Cnd_some | apply Cnd_none | apply Gd_nt | apply Gd_nf | apply Gd_some | apply Gd_none | apply Gd_want) | refine U_ar rfl rfl rfl (wrap_i64 (by omega)) rfl ?_ | refine U_pure E rfl rfl ?_ | refine T_exit rfl ?_ | refine T_condV rfl ?_ | refine U_guard rfl rfl ?_ | ((with_reducible refine Gd_skipT ?_ ?_); exact rfl) | ((with_reducible refine Gd_skipF ?_ ?_); exact rfl))
    refine U_call rfl rfl (Tryd.call79 _) (hn) ?_
    rintro r w2 ⟨rfl, hk2⟩
    repeat (first | (with_reducible first | apply T_seq | apply T_region | apply U_nil | apply T_skip | apply T_block | apply T_inBlock | apply Cnd_t | apply Cnd_f | apply Cnd_not | apply Cnd_some | apply Cnd_none | apply Gd_nt | apply Gd_nf | apply Gd_some | apply Gd_none | apply Gd_want) | refine U_ar rfl rfl rfl (wrap_i64 (by omega)) rfl ?_ | refine U_pure E rfl rfl ?_ | refine T_exit rfl ?_ | refine T_condV rfl ?_ | refine U_guard rfl rfl ?_ | ((with_reducible refine Gd_skipT ?_ ?_); exact rfl) | ((with_reducible refine Gd_skipF ?_ ?_); exact rfl))
    refine U_build (cells := List.replicate 256 (Value.int IntKind.u8 0)) rfl (by kernel_rfl) rfl ?_
    rw [← encBs_zeros]
    refine U_guard rfl rfl ?_
    refine Gd_want ?_
    refine U_run rfl rfl rfl (ro_eqArr Tryd.underlying101 Tryd.underlying5 (by kernel_rfl) (by kernel_rfl) (by kernel_rfl) rfl rfl hln (zeros_len 256)) ?_
    repeat (first | (with_reducible first | apply T_seq | apply T_region | apply U_nil | apply T_skip | apply T_block | apply T_inBlock | apply Cnd_t | apply Cnd_f | apply Cnd_not | apply Cnd_some | apply Cnd_none | apply Gd_nt | apply Gd_nf | apply Gd_some | apply Gd_none | apply Gd_want) | refine U_ar rfl rfl rfl (wrap_i64 (by omega)) rfl ?_ | refine U_pure E rfl rfl ?_ | refine T_exit rfl ?_ | refine T_condV rfl ?_ | refine U_guard rfl rfl ?_ | ((with_reducible refine Gd_skipT ?_ ?_); exact rfl) | ((with_reducible refine Gd_skipF ?_ ?_); exact rfl))
    refine T_ret1 Tryd.func40 rfl rfl ⟨_, rfl, ?_, hk2⟩
    refine congrArg Value.bool (decide_eq_decide.2 ?_)
    unfold cleanD
    rw [Int.toNat_natCast]
    exact ⟨fun e => ⟨hi, e⟩, fun e => e.2⟩
  · rw [if_neg hi] at hf
    refine calls_T Tryd.func40 rfl rfl rfl ?_
    unfold ptr at *
    repeat (first | (with_reducible first | apply T_seq | apply T_region | apply U_nil | apply T_skip | apply T_block | apply T_inBlock | apply Cnd_t | apply Cnd_f | apply Cnd_not | apply Cnd_some | apply Cnd_none | apply Gd_nt | apply Gd_nf | apply Gd_some | apply Gd_none | apply Gd_want) | refine U_ar rfl rfl rfl (wrap_i64 (by omega)) rfl ?_ | refine U_pure E rfl rfl ?_ | refine T_exit rfl ?_ | refine T_condV rfl ?_ | refine U_guard rfl rfl ?_ | ((with_reducible refine Gd_skipT ?_ ?_); exact rfl) | ((with_reducible refine Gd_skipF ?_ ?_); exact rfl))
    refine U_call rfl rfl (Tryd.call70 _) (ret_of hf) ?_
    rintro r w1 ⟨rfl, rfl⟩
    unfold errV
    repeat (first | (with_reducible first | apply T_seq | apply T_region | apply U_nil | apply T_skip | apply T_block | apply T_inBlock | apply Cnd_t | apply Cnd_f | apply Cnd_not | apply Cnd_some | apply Cnd_none | apply Gd_nt | apply Gd_nf | apply Gd_some | apply Gd_none | apply Gd_want) | refine U_ar rfl rfl rfl (wrap_i64 (by omega)) rfl ?_ | refine U_pure E rfl rfl ?_ | refine T_exit rfl ?_ | refine T_condV rfl ?_ | refine U_guard rfl rfl ?_ | ((with_reducible refine Gd_skipT ?_ ?_); exact rfl) | ((with_reducible refine Gd_skipF ?_ ?_); exact rfl))
    refine T_ret1 Tryd.func40 rfl rfl ⟨_, rfl, ?_, Kept.refl _ _⟩
    have : ¬ cleanD D i := fun e => hi e.1
    simp [this]

theorem dsize_c (w : World) (F : Nat → Prop) (hb : Nat) (D : Dr) (h : IsD w F hb D) :
    Calls Tryd.prog 38 [ptr hb].toArray w (Ret fun r w' => r = .int .i64 D.l.length ∧ w' = w) := by
  obtain ⟨h0, vl, vw, h1, h2, h3, h4⟩ := h
  obtain ⟨A, c, rfl⟩ := h3.val
  refine calls_T Tryd.func38 rfl rfl rfl ?_
  unfold ptr
  repeat (first | (with_reducible first | apply T_seq | apply T_region | apply U_nil | apply T_skip | apply T_block | apply T_inBlock | apply Cnd_t | apply Cnd_f | apply Cnd_not | apply Cnd_some | apply Cnd_none | apply Gd_nt | apply Gd_nf | apply Gd_some | apply Gd_none | apply Gd_want) | refine U_ar rfl rfl rfl (wrap_i64 (by omega)) rfl ?_ | refine U_pure E rfl rfl ?_ | refine T_exit rfl ?_ | refine T_condV rfl ?_ | refine U_guard rfl rfl ?_ | ((with_reducible refine Gd_skipT ?_ ?_); exact rfl) | ((with_reducible refine Gd_skipF ?_ ?_); exact rfl))
  refine U_loadB E (by assumption) rfl rfl rfl (by rfl) rfl ?_
  repeat (first | (with_reducible first | apply T_seq | apply T_region | apply U_nil | apply T_skip | apply T_block | apply T_inBlock | apply Cnd_t | apply Cnd_f | apply Cnd_not | apply Cnd_some | apply Cnd_none | apply Gd_nt | apply Gd_nf | apply Gd_some | apply Gd_none | apply Gd_want) | refine U_ar rfl rfl rfl (wrap_i64 (by omega)) rfl ?_ | refine U_pure E rfl rfl ?_ | refine T_exit rfl ?_ | refine T_condV rfl ?_ | refine U_guard rfl rfl ?_ | ((with_reducible refine Gd_skipT ?_ ?_); exact rfl) | ((with_reducible refine Gd_skipF ?_ ?_); exact rfl))
  exact T_ret1 Tryd.func38 rfl rfl ⟨_, rfl, rfl, rfl⟩
end Go.Proofs.YtoefhdaenaiomaaDoor

/- The check of a frame, as a function of bytes; frames, and what is taken out of them, as functions of bytes. Plain, no program. -/
namespace Go.Proofs.YtoefhdaenaiomaaDoor
open Go
set_option maxRecDepth 20000

def stp (s : Nat) : Nat := if s % 2 = 1 then (s / 2) ^^^ 3988292384 else s / 2
def stps : Nat → Nat → Nat
  | 0, s => s
  | k + 1, s => stp (stps k s)
def byt (s : Nat) (b : UInt8) : Nat := stps 8 (s ^^^ b.toNat)
def crc (s : Nat) (l : List UInt8) : Nat := l.foldl byt s

theorem stp_lt {s : Nat} (h : s < 4294967296) : stp s < 4294967296 := by
  have h2 : s / 2 < 2 ^ 32 := by omega
  unfold stp
  split
  · exact Nat.xor_lt_two_pow h2 (by decide : 3988292384 < 2 ^ 32)
  · omega
theorem stps_lt {s : Nat} (h : s < 4294967296) : ∀ k, stps k s < 4294967296
  | 0 => h
  | k + 1 => stp_lt (stps_lt h k)
theorem xor_lt32 {a b : Nat} (h : a < 4294967296) (k : b < 4294967296) : a ^^^ b < 4294967296 := Nat.xor_lt_two_pow (n := 32) h k
theorem b_lt (b : UInt8) : b.toNat < 256 := b.toNat_lt
theorem byt_lt {s : Nat} (h : s < 4294967296) (b : UInt8) : byt s b < 4294967296 := stps_lt (xor_lt32 h (by have := b_lt b; omega)) 8
theorem crc_lt : ∀ {s : Nat} (_ : s < 4294967296) (l : List UInt8), crc s l < 4294967296
  | _, h, [] => h
  | _, h, b :: l => crc_lt (byt_lt h b) l
theorem crc_snoc (s : Nat) (l : List UInt8) (b : UInt8) : crc s (l ++ [b]) = byt (crc s l) b := by simp [crc]
theorem crc_append (s : Nat) (l l' : List UInt8) : crc s (l ++ l') = crc (crc s l) l' := by simp [crc]

def le4 (n : Nat) : List UInt8 := [UInt8.ofNat n, UInt8.ofNat (n / 256), UInt8.ofNat (n / 65536), UInt8.ofNat (n / 16777216)]
theorem le4_len (n : Nat) : (le4 n).length = 4 := rfl
def at8 (l : List UInt8) (i : Nat) : Nat := (l.getD i 0).toNat
def val4 (l : List UInt8) : Nat := at8 l 0 + 256 * at8 l 1 + 65536 * at8 l 2 + 16777216 * at8 l 3
theorem at8_lt (l : List UInt8) (i : Nat) : at8 l i < 256 := b_lt _
theorem val4_lt (l : List UInt8) : val4 l < 4294967296 := by
  have h0 := at8_lt l 0
  have h1 := at8_lt l 1
  have h2 := at8_lt l 2
  have h3 := at8_lt l 3
  unfold val4
  omega
theorem at8_get {l : List UInt8} {i : Nat} (h : i < l.length) : at8 l i = l[i].toNat := by
  simp [at8, List.getD_eq_getElem?_getD, List.getElem?_eq_getElem h]
theorem at8_append {l l' : List UInt8} {i : Nat} (h : i < l.length) : at8 (l ++ l') i = at8 l i := by
  simp only [at8, List.getD_eq_getElem?_getD, List.getElem?_append_left h]
theorem val4_append {l l' : List UInt8} (h : 4 ≤ l.length) : val4 (l ++ l') = val4 l := by
  unfold val4
  rw [at8_append (by omega), at8_append (by omega), at8_append (by omega), at8_append (by omega)]
theorem val4_le4 (n : Nat) (h : n < 4294967296) : val4 (le4 n) = n := by
  simp only [val4, at8, le4, List.getD_cons_zero, List.getD_cons_succ, UInt8.toNat_ofNat']
  omega
theorem val4_le4_append (n : Nat) (h : n < 4294967296) (l : List UInt8) : val4 (le4 n ++ l) = n := by
  rw [val4_append (by rw [le4_len]; exact Nat.le_refl 4), val4_le4 n h]

def chk (seed : Nat) (p : List UInt8) : Nat := 4294967295 - crc (crc 4294967295 (le4 seed)) p
theorem init_lt (seed : Nat) : crc 4294967295 (le4 seed) < 4294967296 := crc_lt (by decide) _
theorem chk_lt (seed : Nat) (p : List UInt8) : chk seed p < 4294967296 := by unfold chk; omega
def frm (seed : Nat) (p : List UInt8) : List UInt8 := (le4 p.length ++ p) ++ le4 (chk seed (le4 p.length ++ p))
theorem frm_len (seed : Nat) (p : List UInt8) : (frm seed p).length = p.length + 8 := by
  simp only [frm, List.length_append, le4_len]
  omega
def zz (b : List UInt8) : Prop := ∀ x ∈ b, x = 0
instance (b : List UInt8) : Decidable (zz b) := inferInstanceAs (Decidable (∀ x ∈ b, x = 0))
/-- The error's number. -/
def nErr (seed : Nat) (b : List UInt8) : Nat :=
  if zz b then 3 else if b.length < 8 then 2 else if b.length - 8 < val4 b then 2 else if 100000 < val4 b then 4 else
  if val4 (b.drop (val4 b + 4)) ≠ chk seed (b.take (val4 b + 4)) then 5 else 0
def nRec (seed : Nat) (b : List UInt8) : List UInt8 := if nErr seed b = 0 then (b.drop 4).take (val4 b) else []
def nLen (seed : Nat) (b : List UInt8) : Nat := if nErr seed b = 0 then val4 b + 8 else 0
theorem nErr_ok {seed : Nat} {b : List UInt8} (h : nErr seed b = 0) : ¬ zz b ∧ 8 ≤ b.length ∧ val4 b ≤ b.length - 8 ∧ val4 b ≤ 100000 ∧ val4 (b.drop (val4 b + 4)) = chk seed (b.take (val4 b + 4)) := by
  unfold nErr at h
  by_cases h1 : zz b
  · rw [if_pos h1] at h; cases h
  · rw [if_neg h1] at h
    by_cases h2 : b.length < 8
    · rw [if_pos h2] at h; cases h
    · rw [if_neg h2] at h
      by_cases h3 : b.length - 8 < val4 b
      · rw [if_pos h3] at h; cases h
      · rw [if_neg h3] at h
        by_cases h4 : 100000 < val4 b
        · rw [if_pos h4] at h; cases h
        · rw [if_neg h4] at h
          by_cases h5 : val4 (b.drop (val4 b + 4)) = chk seed (b.take (val4 b + 4))
          · exact ⟨h1, by omega, by omega, by omega, h5⟩
          · rw [if_pos h5] at h; cases h

/-! ### The steps are linear, and lose nothing -/
theorem xor_half (a b : Nat) : (a ^^^ b) / 2 = (a / 2) ^^^ (b / 2) := by
  have := Nat.xor_div_two (a := a) (b := b)
  exact this
theorem xor_mod (a b : Nat) : (a ^^^ b) % 2 = (a + b) % 2 := by
  have h := Nat.xor_mod_two_pow (a := a) (b := b) (n := 1)
  simp only [Nat.pow_one] at h
  rw [h]
  rcases Nat.mod_two_eq_zero_or_one a with ha | ha <;> rcases Nat.mod_two_eq_zero_or_one b with hb | hb <;> rw [ha, hb] <;> simp <;> omega
theorem stp_xor (a b : Nat) : stp (a ^^^ b) = stp a ^^^ stp b := by
  unfold stp
  rw [xor_mod, xor_half]
  by_cases ha : a % 2 = 1
  · by_cases hb : b % 2 = 1
    · rw [if_neg (by omega), if_pos ha, if_pos hb, Nat.xor_assoc, ← Nat.xor_assoc 3988292384, Nat.xor_comm 3988292384, Nat.xor_assoc (b / 2), Nat.xor_self, Nat.xor_zero]
    · rw [if_pos (by omega), if_pos ha, if_neg hb, Nat.xor_assoc, Nat.xor_comm (b / 2), ← Nat.xor_assoc]
  · by_cases hb : b % 2 = 1
    · rw [if_pos (by omega), if_neg ha, if_pos hb, Nat.xor_assoc]
    · rw [if_neg (by omega), if_neg ha, if_neg hb]
theorem stps_xor (a b : Nat) : ∀ k, stps k (a ^^^ b) = stps k a ^^^ stps k b
  | 0 => rfl
  | k + 1 => by simp only [stps]; rw [stps_xor a b k, stp_xor]
theorem stps_add (j k s : Nat) : stps (j + k) s = stps j (stps k s) := by
  induction j with
  | zero => rw [Nat.zero_add]; rfl
  | succ j ih => rw [Nat.succ_add]; simp only [stps]; rw [ih]
theorem stp_even (x : Nat) : stp (x * 2) = x := by
  unfold stp
  rw [if_neg (by omega)]
  omega
theorem stps_shift (x : Nat) : ∀ k, stps k (x * 2 ^ k) = x
  | 0 => by simp [stps]
  | k + 1 => by
    rw [stps_add k 1]
    show stps k (stp (x * 2 ^ (k + 1))) = x
    rw [Nat.pow_succ, ← Nat.mul_assoc, stp_even, stps_shift x k]
theorem stps_zero : ∀ k, stps k 0 = 0
  | 0 => rfl
  | k + 1 => by simp only [stps]; rw [stps_zero k]; rfl
theorem stp_ne {s : Nat} (h : s < 4294967296) (h0 : s ≠ 0) : stp s ≠ 0 := by
  unfold stp
  split
  · intro e
    have h1 : s / 2 = 3988292384 := by
      have := congrArg (· ^^^ 3988292384) e
      simp only [Nat.xor_assoc, Nat.xor_self, Nat.xor_zero, Nat.zero_xor] at this
      exact this
    omega
  · omega
theorem stps_ne {s : Nat} (h : s < 4294967296) (h0 : s ≠ 0) : ∀ k, stps k s ≠ 0
  | 0 => h0
  | k + 1 => stp_ne (stps_lt h k) (stps_ne h h0 k)
theorem xor_eq0 {a b : Nat} (h : a ^^^ b = 0) : a = b := by
  have := congrArg (· ^^^ b) h
  simp only [Nat.xor_assoc, Nat.xor_self, Nat.xor_zero, Nat.zero_xor] at this
  exact this
theorem stps_inj {a b k : Nat} (ha : a < 4294967296) (hb : b < 4294967296) (h : stps k a = stps k b) : a = b := by
  refine xor_eq0 (Classical.byContradiction fun e => stps_ne (xor_lt32 ha hb) e k ?_)
  rw [stps_xor, h, Nat.xor_self]

/-- The bytes as one number, the lowest first. -/
def leN : List UInt8 → Nat
  | [] => 0
  | b :: l => b.toNat ^^^ (leN l * 2 ^ 8)
theorem crc_eq : ∀ (l : List UInt8) (s : Nat), crc s l = stps (8 * l.length) (s ^^^ leN l)
  | [], s => by simp [crc, stps, leN]
  | b :: l, s => by
    have ih := crc_eq l (byt s b)
    show crc (byt s b) l = _
    rw [ih, List.length_cons, show 8 * (l.length + 1) = 8 * l.length + 8 by omega, stps_add]
    congr 1
    rw [leN, ← Nat.xor_assoc, stps_xor (s ^^^ b.toNat), stps_shift]
    rfl
theorem leN_bit : ∀ (l : List UInt8) (j : Nat), (leN l).testBit j = bitAt l j
  | [], j => by simp [leN, bitAt]
  | b :: l, j => by
    rw [leN, Nat.testBit_xor]
    have h2 : (leN l * 2 ^ 8).testBit j = (decide (8 ≤ j) && (leN l).testBit (j - 8)) := by
      rw [← Nat.shiftLeft_eq, Nat.testBit_shiftLeft]
    rw [h2]
    by_cases hj : j < 8
    · have e1 : j / 8 = 0 := by omega
      have e2 : j % 8 = j := by omega
      have : ¬ 8 ≤ j := by omega
      simp [bitAt, e1, e2, this]
    · have hb : b.toNat.testBit j = false := Nat.testBit_lt_two_pow (Nat.lt_of_lt_of_le (b_lt b) (by
        have : 2 ^ 8 ≤ 2 ^ j := Nat.pow_le_pow_right (by decide) (by omega)
        simpa using this))
      have e1 : j / 8 = (j - 8) / 8 + 1 := by omega
      have e2 : j % 8 = (j - 8) % 8 := by omega
      rw [hb, leN_bit l (j - 8)]
      simp [bitAt, e1, e2, show 8 ≤ j by omega]
theorem leN_lt (l : List UInt8) (h : l.length = 4) : leN l < 4294967296 := by
  have : leN l < 2 ^ 32 := by
    apply Nat.lt_pow_two_of_testBit
    intro i hi
    rw [leN_bit]
    have : l.length ≤ i / 8 := by omega
    simp [bitAt, List.getD_eq_getElem?_getD, List.getElem?_eq_none this]
  simpa using this
theorem xor_eq_add (a b k : Nat) (h : a < 2 ^ k) : a ^^^ (b * 2 ^ k) = a + b * 2 ^ k := by
  have := Nat.two_pow_add_eq_or_of_lt h b
  apply Nat.eq_of_testBit_eq
  intro i
  rw [Nat.add_comm, Nat.mul_comm, this, Nat.testBit_xor, Nat.testBit_or]
  rw [Nat.mul_comm, ← Nat.shiftLeft_eq, Nat.testBit_shiftLeft]
  by_cases hi : k ≤ i
  · rw [Nat.testBit_lt_two_pow (Nat.lt_of_lt_of_le h (Nat.pow_le_pow_right (by decide) hi))]
    simp
  · simp [hi]
theorem leN_val : ∀ (l : List UInt8), l.length = 4 → leN l = val4 l
  | [a, b, c, d], _ => by
    simp only [leN, val4, at8, List.getD_cons_zero, List.getD_cons_succ]
    have ha := b_lt a
    have hb := b_lt b
    have hc := b_lt c
    rw [xor_eq_add a.toNat _ 8 ha, xor_eq_add b.toNat _ 8 hb, xor_eq_add c.toNat _ 8 hc, Nat.zero_mul, Nat.xor_zero]
    omega

theorem compl_xor {a : Nat} (h : a < 4294967296) : 4294967295 - a = a ^^^ 4294967295 := by
  have e := xor_eq_add 0 0 0 (by decide)
  apply Nat.eq_of_testBit_eq
  intro i
  rw [Nat.testBit_xor]
  have h1 : (4294967295 : Nat) = 2 ^ 32 - 1 := by decide
  rw [h1, Nat.testBit_two_pow_sub_one]
  have h2 := Nat.testBit_two_pow_sub_succ (x := a) (n := 32) (by simpa using h) i
  rw [show 2 ^ 32 - 1 - a = 2 ^ 32 - (a + 1) by omega, h2]
  by_cases hi : i < 32
  · simp [hi]
  · have : a.testBit i = false := Nat.testBit_lt_two_pow (Nat.lt_of_lt_of_le h (by
      have : 2 ^ 32 ≤ 2 ^ i := Nat.pow_le_pow_right (by decide) (by omega)
      simpa using this))
    simp [hi, this]

/-- Two seeds, the same bytes: two checks. -/
theorem chk_seed {a b : Nat} (ha : a < 4294967296) (hb : b < 4294967296) {p : List UInt8} (h : chk a p = chk b p) : a = b := by
  have h1 : crc (crc 4294967295 (le4 a)) p = crc (crc 4294967295 (le4 b)) p := by
    have l1 := crc_lt (init_lt a) p
    have l2 := crc_lt (init_lt b) p
    unfold chk at h
    omega
  rw [crc_eq p, crc_eq p, stps_xor, stps_xor] at h1
  have h2 : stps (8 * p.length) (crc 4294967295 (le4 a)) = stps (8 * p.length) (crc 4294967295 (le4 b)) := by
    have := congrArg (· ^^^ stps (8 * p.length) (leN p)) h1
    simp only [Nat.xor_assoc, Nat.xor_self, Nat.xor_zero] at this
    exact this
  have h3 := stps_inj (init_lt a) (init_lt b) h2
  rw [crc_eq, crc_eq] at h3
  have h4 := stps_inj (xor_lt32 (by decide) (leN_lt _ (le4_len a))) (xor_lt32 (by decide) (leN_lt _ (le4_len b))) h3
  have h5 : leN (le4 a) = leN (le4 b) := by
    have := congrArg (4294967295 ^^^ ·) h4
    simp only [← Nat.xor_assoc, Nat.xor_self, Nat.zero_xor] at this
    exact this
  rw [leN_val _ (le4_len a), leN_val _ (le4_len b), val4_le4 a ha, val4_le4 b hb] at h5
  exact h5

/-- A frame behind which its check stands: the register then. -/
theorem crc_frame (seed : Nat) (q c : List UInt8) (hc : c.length = 4) (h : val4 c = chk seed q) : crc (crc 4294967295 (le4 seed)) (q ++ c) = stps 32 4294967295 := by
  rw [crc_append, crc_eq c, hc, leN_val c hc, h]
  congr 1
  unfold chk
  rw [compl_xor (crc_lt (init_lt seed) q), ← Nat.xor_assoc, Nat.xor_self, Nat.zero_xor]

/-- A burst of at most 32 bits is told. -/
theorem burst {f g : List UInt8} {s : Nat} (hl : f.length = g.length) (hs : s < 4294967296) (D m at_ : Nat) (hD : D = m * 2 ^ at_) (hm : m < 4294967296) (h0 : m ≠ 0) (hat : at_ ≤ 8 * f.length) (hx : leN f ^^^ leN g = D) (h : crc s f = crc s g) : False := by
  rw [crc_eq f, crc_eq g, ← hl] at h
  have h1 : stps (8 * f.length) (leN f ^^^ leN g) = 0 := by
    rw [stps_xor, stps_xor] at h
    rw [stps_xor]
    have := congrArg (stps (8 * f.length) s ^^^ ·) h
    simp only [← Nat.xor_assoc, Nat.xor_self, Nat.zero_xor] at this
    rw [this, Nat.xor_self]
  rw [hx, hD, show 8 * f.length = (8 * f.length - at_) + at_ by omega, stps_add, stps_shift] at h1
  exact stps_ne hm h0 _ h1
end Go.Proofs.YtoefhdaenaiomaaDoor

/- Frames: the small functions of the program that reckon the check. -/
namespace Go.Proofs.YtoefhdaenaiomaaDoor
open Go
set_option maxRecDepth 20000

/-! ### Slices of bytes, cut -/
section
variable {P : Program} {f : FuncId} {R : Ending → World → Prop} {n : Nat} {k : List Item} {m : Fm} {Z : Act → World → Prop} {ops : Array Oper} {rest : List Oper} {w : World}
variable {d : Nat} {ty : TypeId} {ps : String} {af : Array Edge}

theorem bs_part {G : Nat → Prop} {v : Value} {l : List UInt8} (hs : BS w G v l) (lo hi : Nat) (h1 : lo ≤ hi) (h2 : hi ≤ l.length) :
    ∃ r, BS w G r ((l.drop lo).take (hi - lo)) ∧ ∀ (w' : World) (t e : TypeId) (L H : Option Value), P.underlying t = some (.slice e) → (P.info? e).map (·.size) = some 1 →
      (match L with | none => lo = 0 | some u => ∃ kd, u = .int kd lo) → (match H with | none => hi = l.length | some u => ∃ kd, u = .int kd hi) → (Instr.sliceAt t v L H none).run P w' = .ok r w' := by
  obtain ⟨r, h3, h4⟩ := slice_sl (P := P) hs lo hi h1 h2
  refine ⟨r, ?_, h4⟩
  have e : ((l.drop lo).take (hi - lo)).length = hi - lo := by rw [List.length_take, List.length_drop]; omega
  unfold BS
  rw [e]
  simp only [Nat.mul_one] at h3
  rw [encBs, List.map_take, List.map_drop]
  exact h3

theorem ro_slB (E : Env P) {t e : TypeId} {x : Operand} {L H : Option Operand} {v r : Value} {se lo hi N : Nat} {de : TypeDesc} (ht : E.ty t = some (.slice e, se)) (he : E.ty e = some (de, 1)) (hx : ev m x = some v)
    (hr : ∀ (w' : World) (t e : TypeId) (L H : Option Value), P.underlying t = some (.slice e) → (P.info? e).map (·.size) = some 1 →
      (match L with | none => lo = 0 | some u => ∃ kd, u = .int kd lo) → (match H with | none => hi = N | some u => ∃ kd, u = .int kd hi) → (Instr.sliceAt t v L H none).run P w' = .ok r w')
    (hL : match L with | none => lo = 0 | some y => ∃ kd, ev m y = some (.int kd lo)) (hH : match H with | none => hi = N | some y => ∃ kd, ev m y = some (.int kd hi)) {dst : Option Tmp} {gd : Option (Nat × Bool)} :
    ∀ a, Fits a n m → (execOp a.eval { dst := dst, op := .slice t x L H none, type := ty, pos := ps, after := af, guard := gd }).run P w = .ok (.value r) w := by
  refine ro_sliceS (lv := match L with | none => none | some y => ev m y) (hv := match H with | none => none | some y => ev m y) E ht he hx ?_ ?_ (fun h1 h2 => hr w t e _ _ h1 h2 ?_ ?_)
  · cases L with
    | none => rfl
    | some y => obtain ⟨kd, h⟩ := hL; exact ⟨_, h, h⟩
  · cases H with
    | none => rfl
    | some y => obtain ⟨kd, h⟩ := hH; exact ⟨_, h, h⟩
  · cases L with
    | none => exact hL
    | some y => obtain ⟨kd, h⟩ := hL; simp only [h]; exact ⟨kd, rfl⟩
  · cases H with
    | none => exact hH
    | some y => obtain ⟨kd, h⟩ := hH; simp only [h]; exact ⟨kd, rfl⟩

/-- Any slot that holds an unsigned number. -/
theorem ro_convU (E : Env P) {s t : TypeId} {x : Operand} {k k' : IntKind} {z : Nat} {d : TypeDesc × Nat} {q : Nat} (hs : E.ty s = some d) (ht : E.ty t = some (.int k', q)) (hx : ev m x = some (.int k (z : Int))) (r : Nat) (hz : k'.wrap (z : Int) = r) {dst : Option Tmp} {gd : Option (Nat × Bool)} :
    ∀ a, Fits a n m → (execOp a.eval { dst := dst, op := .convert s t x, type := ty, pos := ps, after := af, guard := gd }).run P w = .ok (.value (.int k' (r : Nat))) w := by
  intro a ha
  have := run_pv (v := .int k' (k'.wrap (z : Int))) E ha (op := .convert s t x) (by simp [pv, hs, ht, hx]) dst ty ps af gd (w := w)
  rw [hz] at this
  exact this

theorem run_not32 {x : Nat} (h : x < 4294967296) : (Op.unary .xor (.int .u32 (x : Int))).run P w = .ok (.int .u32 ((4294967295 - x : Nat) : Int)) w := by
  have hm : IntKind.u32.max = ((4294967295 : Nat) : Int) := by decide
  have hlt : 4294967295 - x < 2 ^ 32 := by omega
  have e : 4294967295 ^^^ x = 4294967295 - x := by rw [compl_xor h, Nat.xor_comm]
  have h32 : x < 2 ^ 32 := h
  have e2 : (4294967295#32 ^^^ BitVec.ofNat 32 x).toNat = 4294967295 - x := by
    rw [BitVec.toNat_xor, BitVec.toNat_ofNat, BitVec.toNat_ofNat, Nat.mod_eq_of_lt h32]
    exact e
  simp [Op.unary, Op.intBits, hm, ofInt_nat, IntKind.signed, IntKind.bits]
  exact (congrArg (fun z : Nat => IntKind.u32.wrap (z : Int)) e2).trans (wrap_nat (k := .u32) rfl hlt)
theorem ro_not32 {x : Operand} {t : TypeId} {z : Nat} (hx : ev m x = some (.int .u32 (z : Int))) (hz : z < 4294967296) {dst : Option Tmp} {gd : Option (Nat × Bool)} :
    ∀ a, Fits a n m → (execOp a.eval { dst := dst, op := .unOp .xor t x, type := ty, pos := ps, after := af, guard := gd }).run P w = .ok (.value (.int .u32 ((4294967295 - z : Nat) : Int))) w := by
  intro a ha
  simp [execOp, ha.eval hx, run_not32 hz]
end

theorem wrap8 (x : Nat) : IntKind.u8.wrap (x : Int) = ((UInt8.ofNat x).toNat : Nat) := by
  rw [UInt8.toNat_ofNat']
  simp [IntKind.wrap, IntKind.bits, IntKind.signed]

theorem word_c (w : World) (z : Nat) (hz : z < 4294967296) :
    Calls Tryd.prog 65 [.int .u32 z].toArray w (Ret fun r w' => ∃ b, r = .slice (some ⟨b, 0, none⟩) 4 4 ∧ New w w' b (encBs (le4 z)) 5) := by
  refine calls_T Tryd.func65 rfl rfl rfl ?_
  repeat (first | (with_reducible first | apply T_seq | apply T_region | apply U_nil | apply T_skip | apply T_block | apply T_inBlock | apply Cnd_t | apply Cnd_f | apply Cnd_not | apply Cnd_some | apply Cnd_none | apply Gd_nt | apply Gd_nf | apply Gd_some | apply Gd_none | apply Gd_want) | refine U_ar rfl rfl rfl (wrap_i64 (by omega)) rfl ?_ | refine U_pure E rfl rfl ?_ | refine T_exit rfl ?_ | refine T_condV rfl ?_ | refine U_guard rfl rfl ?_ | ((with_reducible refine Gd_skipT ?_ ?_); exact rfl) | ((with_reducible refine Gd_skipF ?_ ?_); exact rfl))
  refine U_run rfl rfl rfl (ro_bin (r := .int .u32 (z / 2 ^ 8 : Nat)) rfl rfl (by exact run_shr (y := 8) .u64 (by decide))) ?_
  repeat (first | (with_reducible first | apply T_seq | apply T_region | apply U_nil | apply T_skip | apply T_block | apply T_inBlock | apply Cnd_t | apply Cnd_f | apply Cnd_not | apply Cnd_some | apply Cnd_none | apply Gd_nt | apply Gd_nf | apply Gd_some | apply Gd_none | apply Gd_want) | refine U_ar rfl rfl rfl (wrap_i64 (by omega)) rfl ?_ | refine U_pure E rfl rfl ?_ | refine T_exit rfl ?_ | refine T_condV rfl ?_ | refine U_guard rfl rfl ?_ | ((with_reducible refine Gd_skipT ?_ ?_); exact rfl) | ((with_reducible refine Gd_skipF ?_ ?_); exact rfl))
  refine U_run rfl rfl rfl (ro_bin (r := .int .u32 (z / 2 ^ 16 : Nat)) rfl rfl (by exact run_shr (y := 16) .u64 (by decide))) ?_
  repeat (first | (with_reducible first | apply T_seq | apply T_region | apply U_nil | apply T_skip | apply T_block | apply T_inBlock | apply Cnd_t | apply Cnd_f | apply Cnd_not | apply Cnd_some | apply Cnd_none | apply Gd_nt | apply Gd_nf | apply Gd_some | apply Gd_none | apply Gd_want) | refine U_ar rfl rfl rfl (wrap_i64 (by omega)) rfl ?_ | refine U_pure E rfl rfl ?_ | refine T_exit rfl ?_ | refine T_condV rfl ?_ | refine U_guard rfl rfl ?_ | ((with_reducible refine Gd_skipT ?_ ?_); exact rfl) | ((with_reducible refine Gd_skipF ?_ ?_); exact rfl))
  refine U_run rfl rfl rfl (ro_bin (r := .int .u32 (z / 2 ^ 24 : Nat)) rfl rfl (by exact run_shr (y := 24) .u64 (by decide))) ?_
  repeat (first | (with_reducible first | apply T_seq | apply T_region | apply U_nil | apply T_skip | apply T_block | apply T_inBlock | apply Cnd_t | apply Cnd_f | apply Cnd_not | apply Cnd_some | apply Cnd_none | apply Gd_nt | apply Gd_nf | apply Gd_some | apply Gd_none | apply Gd_want) | refine U_ar rfl rfl rfl (wrap_i64 (by omega)) rfl ?_ | refine U_pure E rfl rfl ?_ | refine T_exit rfl ?_ | refine T_condV rfl ?_ | refine U_guard rfl rfl ?_ | ((with_reducible refine Gd_skipT ?_ ?_); exact rfl) | ((with_reducible refine Gd_skipF ?_ ?_); exact rfl))
  rw [wrap8, wrap8, wrap8, wrap8]
  refine U_buildSlice E rfl rfl rfl rfl rfl rfl rfl rfl (segs := (encBs (le4 z)).map ([·])) rfl (by intro s hs; obtain ⟨u, _, rfl⟩ := List.mem_map.1 hs; rfl) rfl ?_
  intro b w1 hn
  repeat (first | (with_reducible first | apply T_seq | apply T_region | apply U_nil | apply T_skip | apply T_block | apply T_inBlock | apply Cnd_t | apply Cnd_f | apply Cnd_not | apply Cnd_some | apply Cnd_none | apply Gd_nt | apply Gd_nf | apply Gd_some | apply Gd_none | apply Gd_want) | refine U_ar rfl rfl rfl (wrap_i64 (by omega)) rfl ?_ | refine U_pure E rfl rfl ?_ | refine T_exit rfl ?_ | refine T_condV rfl ?_ | refine U_guard rfl rfl ?_ | ((with_reducible refine Gd_skipT ?_ ?_); exact rfl) | ((with_reducible refine Gd_skipF ?_ ?_); exact rfl))
  refine T_ret1 Tryd.func65 rfl rfl ⟨_, rfl, b, rfl, ?_⟩
  exact hn

theorem stp_step (x : Nat) : (if (x &&& 1) = 1 then (x / 2 ^ 1) ^^^ 3988292384 else x / 2 ^ 1) = stp x := by
  unfold stp
  rw [Nat.and_one_is_mod]

theorem run_c (w : World) (G : Nat → Prop) (v : Value) (l : List UInt8) (s : Nat) (hs : s < 4294967296) (h : BS w G v l) :
    Calls Tryd.prog 81 [.int .u32 s, v].toArray w (Ret fun r w' => r = .int .u32 (crc s l : Nat) ∧ w' = w) := by
  refine calls_T Tryd.func81 rfl rfl rfl ?_
  obtain ⟨A, c, rfl⟩ := h.len
  have hlen := h.1
  repeat (first | (with_reducible first | apply T_seq | apply T_region | apply U_nil | apply T_skip | apply T_block | apply T_inBlock | apply Cnd_t | apply Cnd_f | apply Cnd_not | apply Cnd_some | apply Cnd_none | apply Gd_nt | apply Gd_nf | apply Gd_some | apply Gd_none | apply Gd_want) | refine U_ar rfl rfl rfl (wrap_i64 (by omega)) rfl ?_ | refine U_pure E rfl rfl ?_ | refine T_exit rfl ?_ | refine T_condV rfl ?_ | refine U_guard rfl rfl ?_ | ((with_reducible refine Gd_skipT ?_ ?_); exact rfl) | ((with_reducible refine Gd_skipF ?_ ?_); exact rfl))
  refine T_loop (α := Nat × Nat) (fun x => [(10, .int .i64 x.1), (9, .int .i64 l.length), (8, .slice A l.length c), (0, .int .u32 x.2)]) (fun x => w) (fun x => l.length - x.1)
    (fun x => x.1 ≤ l.length ∧ x.2 = crc s (l.take x.1)) (0, s) ⟨Nat.zero_le _, by simp [crc]⟩ ⟨rfl, rfl, rfl, rfl, trivial⟩ rfl ?_
  rintro ⟨i, x⟩ ⟨hi, hx⟩ ih
  dsimp only at hi hx ⊢
  have hx32 : x < 4294967296 := by rw [hx]; exact crc_lt hs _
  repeat (first | (with_reducible first | apply T_seq | apply T_region | apply U_nil | apply T_skip | apply T_block | apply T_inBlock | apply Cnd_t | apply Cnd_f | apply Cnd_not | apply Cnd_some | apply Cnd_none | apply Gd_nt | apply Gd_nf | apply Gd_some | apply Gd_none | apply Gd_want) | refine U_ar rfl rfl rfl (wrap_i64 (by omega)) rfl ?_ | refine U_pure E rfl rfl ?_ | refine T_exit rfl ?_ | refine T_condV rfl ?_ | refine U_guard rfl rfl ?_ | ((with_reducible refine Gd_skipT ?_ ?_); exact rfl) | ((with_reducible refine Gd_skipF ?_ ?_); exact rfl))
  refine Cnd_p (fun hlt => ?_) (fun hlt => ?_)
  · have hlt' : i < l.length := by omega
    have hb := b_lt l[i]
    have hy32 : x ^^^ l[i].toNat < 4294967296 := xor_lt32 hx32 (by omega)
    repeat (first | (with_reducible first | apply T_seq | apply T_region | apply U_nil | apply T_skip | apply T_block | apply T_inBlock | apply Cnd_t | apply Cnd_f | apply Cnd_not | apply Cnd_some | apply Cnd_none | apply Gd_nt | apply Gd_nf | apply Gd_some | apply Gd_none | apply Gd_want) | refine U_ar rfl rfl rfl (wrap_i64 (by omega)) rfl ?_ | refine U_pure E rfl rfl ?_ | refine T_exit rfl ?_ | refine T_condV rfl ?_ | refine U_guard rfl rfl ?_ | ((with_reducible refine Gd_skipT ?_ ?_); exact rfl) | ((with_reducible refine Gd_skipF ?_ ?_); exact rfl))
    refine U_idx E (h) rfl rfl rfl rfl (by omega) (by omega) ((toNat_get hlt')) rfl (fun p hp => ?_)
    refine U_load E rfl rfl rfl hp rfl ?_
    repeat (first | (with_reducible first | apply T_seq | apply T_region | apply U_nil | apply T_skip | apply T_block | apply T_inBlock | apply Cnd_t | apply Cnd_f | apply Cnd_not | apply Cnd_some | apply Cnd_none | apply Gd_nt | apply Gd_nf | apply Gd_some | apply Gd_none | apply Gd_want) | refine U_ar rfl rfl rfl (wrap_i64 (by omega)) rfl ?_ | refine U_pure E rfl rfl ?_ | refine T_exit rfl ?_ | refine T_condV rfl ?_ | refine U_guard rfl rfl ?_ | ((with_reducible refine Gd_skipT ?_ ?_); exact rfl) | ((with_reducible refine Gd_skipF ?_ ?_); exact rfl))
    refine U_run rfl rfl rfl (ro_bin (r := .int .u32 (x ^^^ l[i].toNat : Nat)) rfl rfl (by rw [wrap_nat (k := .u32) rfl (by simp only [IntKind.bits]; omega)]; exact run_xor rfl hx32 (by simp only [IntKind.bits]; omega))) ?_
    repeat (first | (with_reducible first | apply T_seq | apply T_region | apply U_nil | apply T_skip | apply T_block | apply T_inBlock | apply Cnd_t | apply Cnd_f | apply Cnd_not | apply Cnd_some | apply Cnd_none | apply Gd_nt | apply Gd_nf | apply Gd_some | apply Gd_none | apply Gd_want) | refine U_ar rfl rfl rfl (wrap_i64 (by omega)) rfl ?_ | refine U_pure E rfl rfl ?_ | refine T_exit rfl ?_ | refine T_condV rfl ?_ | refine U_guard rfl rfl ?_ | ((with_reducible refine Gd_skipT ?_ ?_); exact rfl) | ((with_reducible refine Gd_skipF ?_ ?_); exact rfl))
    refine T_loop (α := Nat × Nat) (fun y => [(18, .int .i64 y.1), (0, .int .u32 y.2), (10, .int .i64 i), (9, .int .i64 l.length), (8, .slice A l.length c)]) (fun y => w) (fun y => 8 - y.1)
      (fun y => y.1 ≤ 8 ∧ y.2 = stps y.1 (x ^^^ l[i].toNat)) (0, x ^^^ l[i].toNat) ⟨Nat.zero_le 8, rfl⟩ ⟨rfl, rfl, rfl, rfl, rfl, trivial⟩ rfl ?_
    rintro ⟨j, y⟩ ⟨hj, hy⟩ ih2
    dsimp only at hj hy ⊢
    have hyb : y < 4294967296 := by rw [hy]; exact stps_lt hy32 _
    have hnext : stps (j + 1) (x ^^^ l[i].toNat) = stp y := by rw [hy]; rfl
    repeat (first | (with_reducible first | apply T_seq | apply T_region | apply U_nil | apply T_skip | apply T_block | apply T_inBlock | apply Cnd_t | apply Cnd_f | apply Cnd_not | apply Cnd_some | apply Cnd_none | apply Gd_nt | apply Gd_nf | apply Gd_some | apply Gd_none | apply Gd_want) | refine U_ar rfl rfl rfl (wrap_i64 (by omega)) rfl ?_ | refine U_pure E rfl rfl ?_ | refine T_exit rfl ?_ | refine T_condV rfl ?_ | refine U_guard rfl rfl ?_ | ((with_reducible refine Gd_skipT ?_ ?_); exact rfl) | ((with_reducible refine Gd_skipF ?_ ?_); exact rfl))
    refine Cnd_p (fun hj8 => ?_) (fun hj8 => ?_)
    · repeat (first | (with_reducible first | apply T_seq | apply T_region | apply U_nil | apply T_skip | apply T_block | apply T_inBlock | apply Cnd_t | apply Cnd_f | apply Cnd_not | apply Cnd_some | apply Cnd_none | apply Gd_nt | apply Gd_nf | apply Gd_some | apply Gd_none | apply Gd_want) | refine U_ar rfl rfl rfl (wrap_i64 (by omega)) rfl ?_ | refine U_pure E rfl rfl ?_ | refine T_exit rfl ?_ | refine T_condV rfl ?_ | refine U_guard rfl rfl ?_ | ((with_reducible refine Gd_skipT ?_ ?_); exact rfl) | ((with_reducible refine Gd_skipF ?_ ?_); exact rfl))
      refine U_run rfl rfl rfl (ro_bin (r := .int .u32 (y &&& 1 : Nat)) rfl rfl (by exact run_and (y := 1) rfl hyb (by decide))) ?_
      repeat (first | (with_reducible first | apply T_seq | apply T_region | apply U_nil | apply T_skip | apply T_block | apply T_inBlock | apply Cnd_t | apply Cnd_f | apply Cnd_not | apply Cnd_some | apply Cnd_none | apply Gd_nt | apply Gd_nf | apply Gd_some | apply Gd_none | apply Gd_want) | refine U_ar rfl rfl rfl (wrap_i64 (by omega)) rfl ?_ | refine U_pure E rfl rfl ?_ | refine T_exit rfl ?_ | refine T_condV rfl ?_ | refine U_guard rfl rfl ?_ | ((with_reducible refine Gd_skipT ?_ ?_); exact rfl) | ((with_reducible refine Gd_skipF ?_ ?_); exact rfl))
      refine U_run rfl rfl rfl (ro_bin (r := .int .u32 (y / 2 ^ 1 : Nat)) rfl rfl (by exact run_shr (y := 1) .u64 (by decide))) ?_
      repeat (first | (with_reducible first | apply T_seq | apply T_region | apply U_nil | apply T_skip | apply T_block | apply T_inBlock | apply Cnd_t | apply Cnd_f | apply Cnd_not | apply Cnd_some | apply Cnd_none | apply Gd_nt | apply Gd_nf | apply Gd_some | apply Gd_none | apply Gd_want) | refine U_ar rfl rfl rfl (wrap_i64 (by omega)) rfl ?_ | refine U_pure E rfl rfl ?_ | refine T_exit rfl ?_ | refine T_condV rfl ?_ | refine U_guard rfl rfl ?_ | ((with_reducible refine Gd_skipT ?_ ?_); exact rfl) | ((with_reducible refine Gd_skipF ?_ ?_); exact rfl))
      refine Cnd_p (fun hodd => ?_) (fun hodd => ?_)
      · have hodd' : y &&& 1 = 1 := by omega
        repeat (first | (with_reducible first | apply T_seq | apply T_region | apply U_nil | apply T_skip | apply T_block | apply T_inBlock | apply Cnd_t | apply Cnd_f | apply Cnd_not | apply Cnd_some | apply Cnd_none | apply Gd_nt | apply Gd_nf | apply Gd_some | apply Gd_none | apply Gd_want) | refine U_ar rfl rfl rfl (wrap_i64 (by omega)) rfl ?_ | refine U_pure E rfl rfl ?_ | refine T_exit rfl ?_ | refine T_condV rfl ?_ | refine U_guard rfl rfl ?_ | ((with_reducible refine Gd_skipT ?_ ?_); exact rfl) | ((with_reducible refine Gd_skipF ?_ ?_); exact rfl))
        refine U_run rfl rfl rfl (ro_bin (r := .int .u32 (y / 2 ^ 1 ^^^ 3988292384 : Nat)) rfl rfl (by exact run_xor (y := 3988292384) rfl (by simp only [IntKind.bits]; omega) (by decide))) ?_
        repeat (first | (with_reducible first | apply T_seq | apply T_region | apply U_nil | apply T_skip | apply T_block | apply T_inBlock | apply Cnd_t | apply Cnd_f | apply Cnd_not | apply Cnd_some | apply Cnd_none | apply Gd_nt | apply Gd_nf | apply Gd_some | apply Gd_none | apply Gd_want) | refine U_ar rfl rfl rfl (wrap_i64 (by omega)) rfl ?_ | refine U_pure E rfl rfl ?_ | refine T_exit rfl ?_ | refine T_condV rfl ?_ | refine U_guard rfl rfl ?_ | ((with_reducible refine Gd_skipT ?_ ?_); exact rfl) | ((with_reducible refine Gd_skipF ?_ ?_); exact rfl))
        refine T.less ?_ (ih2 (j + 1, y / 2 ^ 1 ^^^ 3988292384) ⟨by omega, ?_⟩ (by dsimp only; omega))
        · exact ⟨rfl, rfl, rfl, rfl, rfl, trivial⟩
        · dsimp only
          rw [hnext, ← stp_step, if_pos hodd']
      · have hodd' : ¬ y &&& 1 = 1 := by omega
        repeat (first | (with_reducible first | apply T_seq | apply T_region | apply U_nil | apply T_skip | apply T_block | apply T_inBlock | apply Cnd_t | apply Cnd_f | apply Cnd_not | apply Cnd_some | apply Cnd_none | apply Gd_nt | apply Gd_nf | apply Gd_some | apply Gd_none | apply Gd_want) | refine U_ar rfl rfl rfl (wrap_i64 (by omega)) rfl ?_ | refine U_pure E rfl rfl ?_ | refine T_exit rfl ?_ | refine T_condV rfl ?_ | refine U_guard rfl rfl ?_ | ((with_reducible refine Gd_skipT ?_ ?_); exact rfl) | ((with_reducible refine Gd_skipF ?_ ?_); exact rfl))
        refine T.less ?_ (ih2 (j + 1, y / 2 ^ 1) ⟨by omega, ?_⟩ (by dsimp only; omega))
        · exact ⟨rfl, rfl, rfl, rfl, rfl, trivial⟩
        · dsimp only
          rw [hnext, ← stp_step, if_neg hodd']
    · have : j = 8 := by omega
      subst this
      repeat (first | (with_reducible first | apply T_seq | apply T_region | apply U_nil | apply T_skip | apply T_block | apply T_inBlock | apply Cnd_t | apply Cnd_f | apply Cnd_not | apply Cnd_some | apply Cnd_none | apply Gd_nt | apply Gd_nf | apply Gd_some | apply Gd_none | apply Gd_want) | refine U_ar rfl rfl rfl (wrap_i64 (by omega)) rfl ?_ | refine U_pure E rfl rfl ?_ | refine T_exit rfl ?_ | refine T_condV rfl ?_ | refine U_guard rfl rfl ?_ | ((with_reducible refine Gd_skipT ?_ ?_); exact rfl) | ((with_reducible refine Gd_skipF ?_ ?_); exact rfl))
      refine T.less ?_ (ih (i + 1, y) ⟨hlt', ?_⟩ (by dsimp only; omega))
      · exact ⟨rfl, rfl, rfl, rfl, trivial⟩
      · dsimp only
        rw [take_snoc l i hlt', crc_snoc, ← hx, hy]
        rfl
  · have : i = l.length := by omega
    subst this
    rw [List.take_length] at hx
    subst hx
    repeat (first | (with_reducible first | apply T_seq | apply T_region | apply U_nil | apply T_skip | apply T_block | apply T_inBlock | apply Cnd_t | apply Cnd_f | apply Cnd_not | apply Cnd_some | apply Cnd_none | apply Gd_nt | apply Gd_nf | apply Gd_some | apply Gd_none | apply Gd_want) | refine U_ar rfl rfl rfl (wrap_i64 (by omega)) rfl ?_ | refine U_pure E rfl rfl ?_ | refine T_exit rfl ?_ | refine T_condV rfl ?_ | refine U_guard rfl rfl ?_ | ((with_reducible refine Gd_skipT ?_ ?_); exact rfl) | ((with_reducible refine Gd_skipF ?_ ?_); exact rfl))
    exact T_ret1 Tryd.func81 rfl rfl ⟨_, rfl, rfl, rfl⟩

theorem New.bs {w w' : World} {b N : Nat} {l : List UInt8} (h : New w w' b (encBs l) 5) (hl : l.length = N) (hN : N ≤ 1000000) (G : Nat → Prop) (hG : G b) : BS w' G (.slice (some ⟨b, 0, none⟩) N N) l := by
  subst hl
  exact ⟨by omega, by rw [encBs_len, Nat.mul_one], _, _, rfl, Nat.le_refl _, .inr ⟨b, 0, rfl, hG, h.blk.lt, h.blk.whole⟩⟩

theorem check_c (w : World) (G : Nat → Prop) (v : Value) (l : List UInt8) (s : Nat) (hs : s < 4294967296) (h : BS w G v l) :
    Calls Tryd.prog 43 [.int .u32 s, v].toArray w (Ret fun r w' => r = .int .u32 (chk s l : Nat) ∧ Kept none0 w w') := by
  refine calls_T Tryd.func43 rfl rfl rfl ?_
  repeat (first | (with_reducible first | apply T_seq | apply T_region | apply U_nil | apply T_skip | apply T_block | apply T_inBlock | apply Cnd_t | apply Cnd_f | apply Cnd_not | apply Cnd_some | apply Cnd_none | apply Gd_nt | apply Gd_nf | apply Gd_some | apply Gd_none | apply Gd_want) | refine U_ar rfl rfl rfl (wrap_i64 (by omega)) rfl ?_ | refine U_pure E rfl rfl ?_ | refine T_exit rfl ?_ | refine T_condV rfl ?_ | refine U_guard rfl rfl ?_ | ((with_reducible refine Gd_skipT ?_ ?_); exact rfl) | ((with_reducible refine Gd_skipF ?_ ?_); exact rfl))
  refine U_call rfl rfl (Tryd.call65 _) (word_c w s hs) ?_
  rintro r w1 ⟨b, rfl, hn⟩
  repeat (first | (with_reducible first | apply T_seq | apply T_region | apply U_nil | apply T_skip | apply T_block | apply T_inBlock | apply Cnd_t | apply Cnd_f | apply Cnd_not | apply Cnd_some | apply Cnd_none | apply Gd_nt | apply Gd_nf | apply Gd_some | apply Gd_none | apply Gd_want) | refine U_ar rfl rfl rfl (wrap_i64 (by omega)) rfl ?_ | refine U_pure E rfl rfl ?_ | refine T_exit rfl ?_ | refine T_condV rfl ?_ | refine U_guard rfl rfl ?_ | ((with_reducible refine Gd_skipT ?_ ?_); exact rfl) | ((with_reducible refine Gd_skipF ?_ ?_); exact rfl))
  have hc1 := run_c w1 (fun _ => True) _ (le4 s) 4294967295 (by decide) (hn.bs rfl (by rw [le4_len]; decide) _ trivial)
  refine U_call rfl rfl (Tryd.call81 _) (hc1) ?_
  rintro r w2 ⟨rfl, rfl⟩
  repeat (first | (with_reducible first | apply T_seq | apply T_region | apply U_nil | apply T_skip | apply T_block | apply T_inBlock | apply Cnd_t | apply Cnd_f | apply Cnd_not | apply Cnd_some | apply Cnd_none | apply Gd_nt | apply Gd_nf | apply Gd_some | apply Gd_none | apply Gd_want) | refine U_ar rfl rfl rfl (wrap_i64 (by omega)) rfl ?_ | refine U_pure E rfl rfl ?_ | refine T_exit rfl ?_ | refine T_condV rfl ?_ | refine U_guard rfl rfl ?_ | ((with_reducible refine Gd_skipT ?_ ?_); exact rfl) | ((with_reducible refine Gd_skipF ?_ ?_); exact rfl))
  have hc2 := run_c w2 G v l _ (init_lt s) (h.mv hn.kept (fun _ _ _ x => x))
  refine U_call rfl rfl (Tryd.call81 _) (hc2) ?_
  rintro r w3 ⟨rfl, rfl⟩
  refine U_run rfl rfl rfl (ro_not32 rfl (crc_lt (init_lt s) l)) ?_
  repeat (first | (with_reducible first | apply T_seq | apply T_region | apply U_nil | apply T_skip | apply T_block | apply T_inBlock | apply Cnd_t | apply Cnd_f | apply Cnd_not | apply Cnd_some | apply Cnd_none | apply Gd_nt | apply Gd_nf | apply Gd_some | apply Gd_none | apply Gd_want) | refine U_ar rfl rfl rfl (wrap_i64 (by omega)) rfl ?_ | refine U_pure E rfl rfl ?_ | refine T_exit rfl ?_ | refine T_condV rfl ?_ | refine U_guard rfl rfl ?_ | ((with_reducible refine Gd_skipT ?_ ?_); exact rfl) | ((with_reducible refine Gd_skipF ?_ ?_); exact rfl))
  exact T_ret1 Tryd.func43 rfl rfl ⟨_, rfl, rfl, hn.kept⟩

theorem size_c (w : World) (n : Int) (h : -9223372036854775808 ≤ n ∧ n ≤ 9000000000000000000) :
    Calls Tryd.prog 46 [.int .i64 n].toArray w (Ret fun r w' => r = .int .i64 (if n < 0 then 0 else n + 8) ∧ w' = w) := by
  refine calls_T Tryd.func46 rfl rfl rfl ?_
  repeat (first | (with_reducible first | apply T_seq | apply T_region | apply U_nil | apply T_skip | apply T_block | apply T_inBlock | apply Cnd_t | apply Cnd_f | apply Cnd_not | apply Cnd_some | apply Cnd_none | apply Gd_nt | apply Gd_nf | apply Gd_some | apply Gd_none | apply Gd_want) | refine U_ar rfl rfl rfl (wrap_i64 (by omega)) rfl ?_ | refine U_pure E rfl rfl ?_ | refine T_exit rfl ?_ | refine T_condV rfl ?_ | refine U_guard rfl rfl ?_ | ((with_reducible refine Gd_skipT ?_ ?_); exact rfl) | ((with_reducible refine Gd_skipF ?_ ?_); exact rfl))
  refine Cnd_p (fun h0 => ?_) (fun h0 => ?_)
  · repeat (first | (with_reducible first | apply T_seq | apply T_region | apply U_nil | apply T_skip | apply T_block | apply T_inBlock | apply Cnd_t | apply Cnd_f | apply Cnd_not | apply Cnd_some | apply Cnd_none | apply Gd_nt | apply Gd_nf | apply Gd_some | apply Gd_none | apply Gd_want) | refine U_ar rfl rfl rfl (wrap_i64 (by omega)) rfl ?_ | refine U_pure E rfl rfl ?_ | refine T_exit rfl ?_ | refine T_condV rfl ?_ | refine U_guard rfl rfl ?_ | ((with_reducible refine Gd_skipT ?_ ?_); exact rfl) | ((with_reducible refine Gd_skipF ?_ ?_); exact rfl))
    refine T_ret1 Tryd.func46 rfl rfl ⟨_, rfl, ?_, rfl⟩
    rw [if_pos h0]
  · repeat (first | (with_reducible first | apply T_seq | apply T_region | apply U_nil | apply T_skip | apply T_block | apply T_inBlock | apply Cnd_t | apply Cnd_f | apply Cnd_not | apply Cnd_some | apply Cnd_none | apply Gd_nt | apply Gd_nf | apply Gd_some | apply Gd_none | apply Gd_want) | refine U_ar rfl rfl rfl (wrap_i64 (by omega)) rfl ?_ | refine U_pure E rfl rfl ?_ | refine T_exit rfl ?_ | refine T_condV rfl ?_ | refine U_guard rfl rfl ?_ | ((with_reducible refine Gd_skipT ?_ ?_); exact rfl) | ((with_reducible refine Gd_skipF ?_ ?_); exact rfl))
    refine T_ret1 Tryd.func46 rfl rfl ⟨_, rfl, ?_, rfl⟩
    rw [if_neg h0]

theorem num_step {x b : Nat} (hx : x < 16777216) (hb : b < 256) : x * 2 ^ 8 ||| b = x * 256 + b := by
  rw [Nat.mul_comm, ← Nat.two_pow_add_eq_or_of_lt hb, Nat.mul_comm]
/-- The number of the bytes from i on, to the fourth. -/
def numF (l : List UInt8) : Nat → Nat
  | 0 => 0
  | k + 1 => numF l k * 256 + at8 l (3 - k)
theorem numF_lt (l : List UInt8) : ∀ k, numF l k < 256 ^ k
  | 0 => Nat.one_pos
  | k + 1 => by
    have h1 := numF_lt l k
    have h2 := at8_lt l (3 - k)
    rw [numF, Nat.pow_succ]
    omega
theorem number_c (w : World) (G : Nat → Prop) (v : Value) (l : List UInt8) (h4 : 4 ≤ l.length) (h : BS w G v l) :
    Calls Tryd.prog 67 [v].toArray w (fun e w' => e = .returned (.int .u32 (val4 l : Nat)) ∧ w' = w) := by
  refine calls_T Tryd.func67 rfl rfl rfl ?_
  obtain ⟨A, c, rfl⟩ := h.len
  repeat (first | (with_reducible first | apply T_seq | apply T_region | apply U_nil | apply T_skip | apply T_block | apply T_inBlock | apply Cnd_t | apply Cnd_f | apply Cnd_not | apply Cnd_some | apply Cnd_none | apply Gd_nt | apply Gd_nf | apply Gd_some | apply Gd_none | apply Gd_want) | refine U_ar rfl rfl rfl (wrap_i64 (by omega)) rfl ?_ | refine U_pure E rfl rfl ?_ | refine T_exit rfl ?_ | refine T_condV rfl ?_ | refine U_guard rfl rfl ?_ | ((with_reducible refine Gd_skipT ?_ ?_); exact rfl) | ((with_reducible refine Gd_skipF ?_ ?_); exact rfl))
  refine T_loop (α := Nat × Nat) (fun x => [(4, .int .i64 (3 - x.1 : Int)), (3, .int .u32 x.2), (0, .slice A l.length c)]) (fun x => w) (fun x => 4 - x.1)
    (fun x => x.1 ≤ 4 ∧ x.2 = numF l x.1) (0, 0) ⟨by decide, rfl⟩ ⟨rfl, rfl, rfl, trivial⟩ rfl ?_
  rintro ⟨i, x⟩ ⟨hi, hx⟩ ih
  dsimp only at hi hx ⊢
  repeat (first | (with_reducible first | apply T_seq | apply T_region | apply U_nil | apply T_skip | apply T_block | apply T_inBlock | apply Cnd_t | apply Cnd_f | apply Cnd_not | apply Cnd_some | apply Cnd_none | apply Gd_nt | apply Gd_nf | apply Gd_some | apply Gd_none | apply Gd_want) | refine U_ar rfl rfl rfl (wrap_i64 (by omega)) rfl ?_ | refine U_pure E rfl rfl ?_ | refine T_exit rfl ?_ | refine T_condV rfl ?_ | refine U_guard rfl rfl ?_ | ((with_reducible refine Gd_skipT ?_ ?_); exact rfl) | ((with_reducible refine Gd_skipF ?_ ?_); exact rfl))
  refine Cnd_p (fun hlt => ?_) (fun hlt => ?_)
  · have hi3 : i ≤ 3 := by omega
    have hlt' : 3 - i < l.length := by omega
    have hxl : x < 16777216 := by
      have h1 := numF_lt l i
      have h2 : 256 ^ i ≤ 256 ^ 3 := Nat.pow_le_pow_right (by decide) (by omega)
      rw [hx]
      omega
    have hb := b_lt l[3 - i]
    repeat (first | (with_reducible first | apply T_seq | apply T_region | apply U_nil | apply T_skip | apply T_block | apply T_inBlock | apply Cnd_t | apply Cnd_f | apply Cnd_not | apply Cnd_some | apply Cnd_none | apply Gd_nt | apply Gd_nf | apply Gd_some | apply Gd_none | apply Gd_want) | refine U_ar rfl rfl rfl (wrap_i64 (by omega)) rfl ?_ | refine U_pure E rfl rfl ?_ | refine T_exit rfl ?_ | refine T_condV rfl ?_ | refine U_guard rfl rfl ?_ | ((with_reducible refine Gd_skipT ?_ ?_); exact rfl) | ((with_reducible refine Gd_skipF ?_ ?_); exact rfl))
    refine U_run rfl rfl rfl (ro_bin (r := .int .u32 (x * 2 ^ 8 : Nat)) rfl rfl (by exact run_shl (y := 8) .u64 rfl (by decide) (by simp only [IntKind.bits]; omega))) ?_
    repeat (first | (with_reducible first | apply T_seq | apply T_region | apply U_nil | apply T_skip | apply T_block | apply T_inBlock | apply Cnd_t | apply Cnd_f | apply Cnd_not | apply Cnd_some | apply Cnd_none | apply Gd_nt | apply Gd_nf | apply Gd_some | apply Gd_none | apply Gd_want) | refine U_ar rfl rfl rfl (wrap_i64 (by omega)) rfl ?_ | refine U_pure E rfl rfl ?_ | refine T_exit rfl ?_ | refine T_condV rfl ?_ | refine U_guard rfl rfl ?_ | ((with_reducible refine Gd_skipT ?_ ?_); exact rfl) | ((with_reducible refine Gd_skipF ?_ ?_); exact rfl))
    have hg : (encBs l)[(3 - (i : Int)).toNat]? = some (encB l[3 - i]) := by
      rw [show (3 - (i : Int)).toNat = 3 - i by omega]
      exact get_enc hlt'
    refine U_idx E (h) rfl rfl rfl rfl (by omega) (by omega) (hg) rfl (fun p hp => ?_)
    refine U_load E rfl rfl rfl hp rfl ?_
    repeat (first | (with_reducible first | apply T_seq | apply T_region | apply U_nil | apply T_skip | apply T_block | apply T_inBlock | apply Cnd_t | apply Cnd_f | apply Cnd_not | apply Cnd_some | apply Cnd_none | apply Gd_nt | apply Gd_nf | apply Gd_some | apply Gd_none | apply Gd_want) | refine U_ar rfl rfl rfl (wrap_i64 (by omega)) rfl ?_ | refine U_pure E rfl rfl ?_ | refine T_exit rfl ?_ | refine T_condV rfl ?_ | refine U_guard rfl rfl ?_ | ((with_reducible refine Gd_skipT ?_ ?_); exact rfl) | ((with_reducible refine Gd_skipF ?_ ?_); exact rfl))
    refine U_run rfl rfl rfl (ro_bin (r := .int .u32 (x * 2 ^ 8 ||| l[3 - i].toNat : Nat)) rfl rfl (by rw [wrap_nat (k := .u32) rfl (by simp only [IntKind.bits]; omega)]; exact run_or rfl (by simp only [IntKind.bits]; omega) (by simp only [IntKind.bits]; omega))) ?_
    repeat (first | (with_reducible first | apply T_seq | apply T_region | apply U_nil | apply T_skip | apply T_block | apply T_inBlock | apply Cnd_t | apply Cnd_f | apply Cnd_not | apply Cnd_some | apply Cnd_none | apply Gd_nt | apply Gd_nf | apply Gd_some | apply Gd_none | apply Gd_want) | refine U_ar rfl rfl rfl (wrap_i64 (by omega)) rfl ?_ | refine U_pure E rfl rfl ?_ | refine T_exit rfl ?_ | refine T_condV rfl ?_ | refine U_guard rfl rfl ?_ | ((with_reducible refine Gd_skipT ?_ ?_); exact rfl) | ((with_reducible refine Gd_skipF ?_ ?_); exact rfl))
    refine T.less ?_ (ih (i + 1, x * 2 ^ 8 ||| l[3 - i].toNat) ⟨by omega, ?_⟩ (by dsimp only; omega))
    · refine ⟨?_, rfl, rfl, trivial⟩
      exact congrArg (fun z => some (Value.int .i64 z)) (by dsimp only; omega)
    · dsimp only
      rw [num_step hxl hb, numF, ← hx, at8_get hlt']
  · have : i = 4 := by omega
    subst this
    repeat (first | (with_reducible first | apply T_seq | apply T_region | apply U_nil | apply T_skip | apply T_block | apply T_inBlock | apply Cnd_t | apply Cnd_f | apply Cnd_not | apply Cnd_some | apply Cnd_none | apply Gd_nt | apply Gd_nf | apply Gd_some | apply Gd_none | apply Gd_want) | refine U_ar rfl rfl rfl (wrap_i64 (by omega)) rfl ?_ | refine U_pure E rfl rfl ?_ | refine T_exit rfl ?_ | refine T_condV rfl ?_ | refine U_guard rfl rfl ?_ | ((with_reducible refine Gd_skipT ?_ ?_); exact rfl) | ((with_reducible refine Gd_skipF ?_ ?_); exact rfl))
    refine T_ret1 Tryd.func67 rfl rfl ⟨?_, rfl⟩
    have : x = val4 l := by
      rw [hx]
      simp only [numF, val4, Nat.sub_zero, show 3 - 1 = 2 from rfl, show 3 - 2 = 1 from rfl, show 3 - 3 = 0 from rfl]
      omega
    rw [this]
end Go.Proofs.YtoefhdaenaiomaaDoor

/- Frames: Trim, Clone, Frame, Next. -/
namespace Go.Proofs.YtoefhdaenaiomaaDoor
open Go
set_option maxRecDepth 20000

section
variable {P : Program} {w : World} {m : Fm} {n : Nat} {t ty t2 : TypeId} {ps : String} {af : Array Edge}
theorem ro_strEq {u v : Operand} {s s' : ByteArray} {b : Bool} (hx : ev m u = some (.string s)) (hy : ev m v = some (.string s')) (hb : (s.toList == s'.toList) = b) {dst : Option Tmp} {gd : Option (Nat × Bool)} :
    ∀ a, Fits a n m → (execOp a.eval { dst := dst, op := .binOp .eql t u v t2, type := ty, pos := ps, after := af, guard := gd }).run P w = .ok (.value (.bool b)) w := by
  intro a ha
  subst hb
  simp [execOp, ha.eval hx, ha.eval hy, eqGuard, binOp, Op.stringOp]
theorem ro_strLen (E : Env P) {x : Operand} {s : ByteArray} {q : Nat} (ht : E.ty t = some (.string, q)) (hx : ev m x = some (.string s)) {dst : Option Tmp} {gd : Option (Nat × Bool)} :
    ∀ a, Fits a n m → (execOp a.eval { dst := dst, op := .call { callee := .builtin .len, args := #[x], argTypes := #[t] }, type := ty, pos := ps, after := af, guard := gd }).run P w = .ok (.value (.int .i64 (s.size : Nat))) w := by
  intro a ha
  simp [execOp, resolve, invoke, builtin, Builtin.len_, run_underlying (E.ok _ _ _ ht).1, ha.eval hx, goInt]
theorem ro_strIdx (E : Env P) {x y : Operand} {s : ByteArray} {b : UInt8} {i q : Nat} (ht : E.ty t = some (.string, q)) (hx : ev m x = some (.string s)) (hy : ev m y = some (.int .i64 (i : Int))) (hb : s[i]? = some b) {dst : Option Tmp} {gd : Option (Nat × Bool)} :
    ∀ a, Fits a n m → (execOp a.eval { dst := dst, op := .index t x y, type := ty, pos := ps, after := af, guard := gd }).run P w = .ok (.value (.int .u8 b.toNat)) w := by
  intro a ha
  simp [execOp, Instr.index, asIntOf, run_underlying (E.ok _ _ _ ht).1, ha.eval hx, ha.eval hy, hb]
end

theorem trimR_c (w : World) (G : Nat → Prop) (v : Value) (l : List UInt8) (h : BS w G v l) :
    Calls Tryd.prog 93 [v, .int .u8 0].toArray w (Ret fun r w' => w' = w ∧ ∃ n, n ≤ l.length ∧ BS w G r (l.take n) ∧ zz (l.drop n)) := by
  refine calls_T Tryd.func93 rfl rfl rfl ?_
  have hlen0 := h.1
  repeat (first | (with_reducible first | apply T_seq | apply T_region | apply U_nil | apply T_skip | apply T_block | apply T_inBlock | apply Cnd_t | apply Cnd_f | apply Cnd_not | apply Cnd_some | apply Cnd_none | apply Gd_nt | apply Gd_nf | apply Gd_some | apply Gd_none | apply Gd_want) | refine U_ar rfl rfl rfl (wrap_i64 (by omega)) rfl ?_ | refine U_pure E rfl rfl ?_ | refine T_exit rfl ?_ | refine T_condV rfl ?_ | refine U_guard rfl rfl ?_ | ((with_reducible refine Gd_skipT ?_ ?_); exact rfl) | ((with_reducible refine Gd_skipF ?_ ?_); exact rfl))
  refine T_loop (α := Nat × Value) (fun x => [(0, x.2), (1, .int .u8 0)]) (fun x => w) (fun x => x.1)
    (fun x => x.1 ≤ l.length ∧ BS w G x.2 (l.take x.1) ∧ zz (l.drop x.1)) (l.length, v) ⟨Nat.le_refl _, by rw [List.take_length]; exact h, by rw [List.drop_length]; intro x hx; cases hx⟩ ⟨rfl, rfl, trivial⟩ rfl ?_
  rintro ⟨i, u⟩ ⟨hi, hu, hz⟩ ih
  dsimp only at hi hu hz ⊢
  have hli : (l.take i).length = i := by rw [List.length_take]; omega
  obtain ⟨A, c, rfl⟩ := hu.len
  rw [hli] at hu ⊢
  repeat (first | (with_reducible first | apply T_seq | apply T_region | apply U_nil | apply T_skip | apply T_block | apply T_inBlock | apply Cnd_t | apply Cnd_f | apply Cnd_not | apply Cnd_some | apply Cnd_none | apply Gd_nt | apply Gd_nf | apply Gd_some | apply Gd_none | apply Gd_want) | refine U_ar rfl rfl rfl (wrap_i64 (by omega)) rfl ?_ | refine U_pure E rfl rfl ?_ | refine T_exit rfl ?_ | refine T_condV rfl ?_ | refine U_guard rfl rfl ?_ | ((with_reducible refine Gd_skipT ?_ ?_); exact rfl) | ((with_reducible refine Gd_skipF ?_ ?_); exact rfl))
  refine Gd_p (fun hp => ?_) (fun hp => ?_)
  · have hlt : i - 1 < l.length := by omega
    have hg : (encBs (l.take i))[((i : Int) - 1).toNat]? = some (encB l[i - 1]) := by
      rw [show ((i : Int) - 1).toNat = i - 1 by omega, encBs_get, List.getElem?_take, if_pos (by omega), List.getElem?_eq_getElem hlt]
      rfl
    repeat (first | (with_reducible first | apply T_seq | apply T_region | apply U_nil | apply T_skip | apply T_block | apply T_inBlock | apply Cnd_t | apply Cnd_f | apply Cnd_not | apply Cnd_some | apply Cnd_none | apply Gd_nt | apply Gd_nf | apply Gd_some | apply Gd_none | apply Gd_want) | refine U_ar rfl rfl rfl (wrap_i64 (by omega)) rfl ?_ | refine U_pure E rfl rfl ?_ | refine T_exit rfl ?_ | refine T_condV rfl ?_ | refine U_guard rfl rfl ?_ | ((with_reducible refine Gd_skipT ?_ ?_); exact rfl) | ((with_reducible refine Gd_skipF ?_ ?_); exact rfl))
    have hu1 : Sl w G (.slice A i c) 1 i (encBs (l.take i)) := by have := hu; unfold BS at this; rw [hli] at this; exact this
    refine U_idx E (hu1) rfl rfl rfl rfl (by omega) (by omega) (hg) rfl (fun q hq => ?_)
    repeat (first | (with_reducible first | apply T_seq | apply T_region | apply U_nil | apply T_skip | apply T_block | apply T_inBlock | apply Cnd_t | apply Cnd_f | apply Cnd_not | apply Cnd_some | apply Cnd_none | apply Gd_nt | apply Gd_nf | apply Gd_some | apply Gd_none | apply Gd_want) | refine U_ar rfl rfl rfl (wrap_i64 (by omega)) rfl ?_ | refine U_pure E rfl rfl ?_ | refine T_exit rfl ?_ | refine T_condV rfl ?_ | refine U_guard rfl rfl ?_ | ((with_reducible refine Gd_skipT ?_ ?_); exact rfl) | ((with_reducible refine Gd_skipF ?_ ?_); exact rfl))
    refine U_load E rfl rfl rfl hq rfl ?_
    repeat (first | (with_reducible first | apply T_seq | apply T_region | apply U_nil | apply T_skip | apply T_block | apply T_inBlock | apply Cnd_t | apply Cnd_f | apply Cnd_not | apply Cnd_some | apply Cnd_none | apply Gd_nt | apply Gd_nf | apply Gd_some | apply Gd_none | apply Gd_want) | refine U_ar rfl rfl rfl (wrap_i64 (by omega)) rfl ?_ | refine U_pure E rfl rfl ?_ | refine T_exit rfl ?_ | refine T_condV rfl ?_ | refine U_guard rfl rfl ?_ | ((with_reducible refine Gd_skipT ?_ ?_); exact rfl) | ((with_reducible refine Gd_skipF ?_ ?_); exact rfl))
    refine Cnd_p (fun h0 => ?_) (fun h0 => ?_)
    · have h00 : l[i - 1] = 0 := by
        apply UInt8.toNat_inj.1
        have : ((l[i - 1].toNat : Nat) : Int) = 0 := h0
        have e : (0 : UInt8).toNat = 0 := rfl
        omega
      repeat (first | (with_reducible first | apply T_seq | apply T_region | apply U_nil | apply T_skip | apply T_block | apply T_inBlock | apply Cnd_t | apply Cnd_f | apply Cnd_not | apply Cnd_some | apply Cnd_none | apply Gd_nt | apply Gd_nf | apply Gd_some | apply Gd_none | apply Gd_want) | refine U_ar rfl rfl rfl (wrap_i64 (by omega)) rfl ?_ | refine U_pure E rfl rfl ?_ | refine T_exit rfl ?_ | refine T_condV rfl ?_ | refine U_guard rfl rfl ?_ | ((with_reducible refine Gd_skipT ?_ ?_); exact rfl) | ((with_reducible refine Gd_skipF ?_ ?_); exact rfl))
      obtain ⟨r, hr, rf⟩ := bs_part (P := Tryd.prog) (hu) (0) (i - 1) (by omega) (by omega); refine U_run rfl rfl rfl (ro_slB E rfl rfl rfl rf (by first | rfl | (simp only [List.length_take, List.length_drop, List.length_append] <;> omega) | (dsimp only; omega) | exact ⟨_, rfl⟩ | exact ⟨_, congrArg (fun z => some (Value.int _ z)) (by omega)⟩) (by first | rfl | (simp only [List.length_take, List.length_drop, List.length_append] <;> omega) | (dsimp only; omega) | exact ⟨_, rfl⟩ | exact ⟨_, congrArg (fun z => some (Value.int _ z)) (by omega)⟩)) ?_
      repeat (first | (with_reducible first | apply T_seq | apply T_region | apply U_nil | apply T_skip | apply T_block | apply T_inBlock | apply Cnd_t | apply Cnd_f | apply Cnd_not | apply Cnd_some | apply Cnd_none | apply Gd_nt | apply Gd_nf | apply Gd_some | apply Gd_none | apply Gd_want) | refine U_ar rfl rfl rfl (wrap_i64 (by omega)) rfl ?_ | refine U_pure E rfl rfl ?_ | refine T_exit rfl ?_ | refine T_condV rfl ?_ | refine U_guard rfl rfl ?_ | ((with_reducible refine Gd_skipT ?_ ?_); exact rfl) | ((with_reducible refine Gd_skipF ?_ ?_); exact rfl))
      refine T.less ?_ (ih (i - 1, r) ⟨by omega, ?_, ?_⟩ (by dsimp only; omega))
      · exact ⟨rfl, rfl, trivial⟩
      · dsimp only
        rw [List.drop_zero, Nat.sub_zero, List.take_take, Nat.min_eq_left (by omega)] at hr
        exact hr
      · dsimp only
        intro x hx
        rw [List.drop_eq_getElem_cons hlt] at hx
        rcases List.mem_cons.1 hx with hx | hx
        · rw [hx, h00]
        · exact hz x (by rw [show i - 1 + 1 = i by omega] at hx; exact hx)
    · repeat (first | (with_reducible first | apply T_seq | apply T_region | apply U_nil | apply T_skip | apply T_block | apply T_inBlock | apply Cnd_t | apply Cnd_f | apply Cnd_not | apply Cnd_some | apply Cnd_none | apply Gd_nt | apply Gd_nf | apply Gd_some | apply Gd_none | apply Gd_want) | refine U_ar rfl rfl rfl (wrap_i64 (by omega)) rfl ?_ | refine U_pure E rfl rfl ?_ | refine T_exit rfl ?_ | refine T_condV rfl ?_ | refine U_guard rfl rfl ?_ | ((with_reducible refine Gd_skipT ?_ ?_); exact rfl) | ((with_reducible refine Gd_skipF ?_ ?_); exact rfl))
      exact T_ret1 Tryd.func93 rfl rfl ⟨_, rfl, rfl, i, hi, hu, hz⟩
  · repeat (first | (with_reducible first | apply T_seq | apply T_region | apply U_nil | apply T_skip | apply T_block | apply T_inBlock | apply Cnd_t | apply Cnd_f | apply Cnd_not | apply Cnd_some | apply Cnd_none | apply Gd_nt | apply Gd_nf | apply Gd_some | apply Gd_none | apply Gd_want) | refine U_ar rfl rfl rfl (wrap_i64 (by omega)) rfl ?_ | refine U_pure E rfl rfl ?_ | refine T_exit rfl ?_ | refine T_condV rfl ?_ | refine U_guard rfl rfl ?_ | ((with_reducible refine Gd_skipT ?_ ?_); exact rfl) | ((with_reducible refine Gd_skipF ?_ ?_); exact rfl))
    exact T_ret1 Tryd.func93 rfl rfl ⟨_, rfl, rfl, i, hi, hu, hz⟩

theorem trimL_c (w : World) (G : Nat → Prop) (v : Value) (l : List UInt8) (h : BS w G v l) :
    Calls Tryd.prog 92 [v, .int .u8 0].toArray w (Ret fun r w' => w' = w ∧ ∃ A n c, r = .slice A n c ∧ (n = 0 ↔ zz l)) := by
  refine calls_T Tryd.func92 rfl rfl rfl ?_
  have hlen0 := h.1
  repeat (first | (with_reducible first | apply T_seq | apply T_region | apply U_nil | apply T_skip | apply T_block | apply T_inBlock | apply Cnd_t | apply Cnd_f | apply Cnd_not | apply Cnd_some | apply Cnd_none | apply Gd_nt | apply Gd_nf | apply Gd_some | apply Gd_none | apply Gd_want) | refine U_ar rfl rfl rfl (wrap_i64 (by omega)) rfl ?_ | refine U_pure E rfl rfl ?_ | refine T_exit rfl ?_ | refine T_condV rfl ?_ | refine U_guard rfl rfl ?_ | ((with_reducible refine Gd_skipT ?_ ?_); exact rfl) | ((with_reducible refine Gd_skipF ?_ ?_); exact rfl))
  refine T_loop (α := Nat × Value) (fun x => [(0, x.2), (1, .int .u8 0)]) (fun x => w) (fun x => l.length - x.1)
    (fun x => x.1 ≤ l.length ∧ BS w G x.2 (l.drop x.1) ∧ zz (l.take x.1)) (0, v) ⟨Nat.zero_le _, h, by rw [List.take_zero]; intro x hx; cases hx⟩ ⟨rfl, rfl, trivial⟩ rfl ?_
  rintro ⟨i, u⟩ ⟨hi, hu, hz⟩ ih
  dsimp only at hi hu hz ⊢
  have hli : (l.drop i).length = l.length - i := List.length_drop ..
  obtain ⟨A, c, rfl⟩ := hu.len
  rw [hli] at hu ⊢
  repeat (first | (with_reducible first | apply T_seq | apply T_region | apply U_nil | apply T_skip | apply T_block | apply T_inBlock | apply Cnd_t | apply Cnd_f | apply Cnd_not | apply Cnd_some | apply Cnd_none | apply Gd_nt | apply Gd_nf | apply Gd_some | apply Gd_none | apply Gd_want) | refine U_ar rfl rfl rfl (wrap_i64 (by omega)) rfl ?_ | refine U_pure E rfl rfl ?_ | refine T_exit rfl ?_ | refine T_condV rfl ?_ | refine U_guard rfl rfl ?_ | ((with_reducible refine Gd_skipT ?_ ?_); exact rfl) | ((with_reducible refine Gd_skipF ?_ ?_); exact rfl))
  refine Gd_p (fun hp => ?_) (fun hp => ?_)
  · have hlt : i < l.length := by omega
    have hg : (encBs (l.drop i))[(0 : Int).toNat]? = some (encB l[i]) := by
      show (encBs (l.drop i))[0]? = _
      rw [encBs_get, List.getElem?_drop, Nat.add_zero, List.getElem?_eq_getElem hlt]
      rfl
    repeat (first | (with_reducible first | apply T_seq | apply T_region | apply U_nil | apply T_skip | apply T_block | apply T_inBlock | apply Cnd_t | apply Cnd_f | apply Cnd_not | apply Cnd_some | apply Cnd_none | apply Gd_nt | apply Gd_nf | apply Gd_some | apply Gd_none | apply Gd_want) | refine U_ar rfl rfl rfl (wrap_i64 (by omega)) rfl ?_ | refine U_pure E rfl rfl ?_ | refine T_exit rfl ?_ | refine T_condV rfl ?_ | refine U_guard rfl rfl ?_ | ((with_reducible refine Gd_skipT ?_ ?_); exact rfl) | ((with_reducible refine Gd_skipF ?_ ?_); exact rfl))
    have hu1 : Sl w G (.slice A (l.length - i) c) 1 (l.length - i) (encBs (l.drop i)) := by have := hu; unfold BS at this; rw [hli] at this; exact this
    refine U_idx E (hu1) rfl rfl rfl rfl (by omega) (by omega) (hg) rfl (fun q hq => ?_)
    repeat (first | (with_reducible first | apply T_seq | apply T_region | apply U_nil | apply T_skip | apply T_block | apply T_inBlock | apply Cnd_t | apply Cnd_f | apply Cnd_not | apply Cnd_some | apply Cnd_none | apply Gd_nt | apply Gd_nf | apply Gd_some | apply Gd_none | apply Gd_want) | refine U_ar rfl rfl rfl (wrap_i64 (by omega)) rfl ?_ | refine U_pure E rfl rfl ?_ | refine T_exit rfl ?_ | refine T_condV rfl ?_ | refine U_guard rfl rfl ?_ | ((with_reducible refine Gd_skipT ?_ ?_); exact rfl) | ((with_reducible refine Gd_skipF ?_ ?_); exact rfl))
    refine U_load E rfl rfl rfl hq rfl ?_
    repeat (first | (with_reducible first | apply T_seq | apply T_region | apply U_nil | apply T_skip | apply T_block | apply T_inBlock | apply Cnd_t | apply Cnd_f | apply Cnd_not | apply Cnd_some | apply Cnd_none | apply Gd_nt | apply Gd_nf | apply Gd_some | apply Gd_none | apply Gd_want) | refine U_ar rfl rfl rfl (wrap_i64 (by omega)) rfl ?_ | refine U_pure E rfl rfl ?_ | refine T_exit rfl ?_ | refine T_condV rfl ?_ | refine U_guard rfl rfl ?_ | ((with_reducible refine Gd_skipT ?_ ?_); exact rfl) | ((with_reducible refine Gd_skipF ?_ ?_); exact rfl))
    refine Cnd_p (fun h0 => ?_) (fun h0 => ?_)
    · have h00 : l[i] = 0 := by
        apply UInt8.toNat_inj.1
        have : ((l[i].toNat : Nat) : Int) = 0 := h0
        have e : (0 : UInt8).toNat = 0 := rfl
        omega
      repeat (first | (with_reducible first | apply T_seq | apply T_region | apply U_nil | apply T_skip | apply T_block | apply T_inBlock | apply Cnd_t | apply Cnd_f | apply Cnd_not | apply Cnd_some | apply Cnd_none | apply Gd_nt | apply Gd_nf | apply Gd_some | apply Gd_none | apply Gd_want) | refine U_ar rfl rfl rfl (wrap_i64 (by omega)) rfl ?_ | refine U_pure E rfl rfl ?_ | refine T_exit rfl ?_ | refine T_condV rfl ?_ | refine U_guard rfl rfl ?_ | ((with_reducible refine Gd_skipT ?_ ?_); exact rfl) | ((with_reducible refine Gd_skipF ?_ ?_); exact rfl))
      obtain ⟨r, hr, rf⟩ := bs_part (P := Tryd.prog) (hu) (1) (l.length - i) (by omega) (by omega); refine U_run rfl rfl rfl (ro_slB E rfl rfl rfl rf (by first | rfl | (simp only [List.length_take, List.length_drop, List.length_append] <;> omega) | (dsimp only; omega) | exact ⟨_, rfl⟩ | exact ⟨_, congrArg (fun z => some (Value.int _ z)) (by omega)⟩) (by first | rfl | (simp only [List.length_take, List.length_drop, List.length_append] <;> omega) | (dsimp only; omega) | exact ⟨_, rfl⟩ | exact ⟨_, congrArg (fun z => some (Value.int _ z)) (by omega)⟩)) ?_
      repeat (first | (with_reducible first | apply T_seq | apply T_region | apply U_nil | apply T_skip | apply T_block | apply T_inBlock | apply Cnd_t | apply Cnd_f | apply Cnd_not | apply Cnd_some | apply Cnd_none | apply Gd_nt | apply Gd_nf | apply Gd_some | apply Gd_none | apply Gd_want) | refine U_ar rfl rfl rfl (wrap_i64 (by omega)) rfl ?_ | refine U_pure E rfl rfl ?_ | refine T_exit rfl ?_ | refine T_condV rfl ?_ | refine U_guard rfl rfl ?_ | ((with_reducible refine Gd_skipT ?_ ?_); exact rfl) | ((with_reducible refine Gd_skipF ?_ ?_); exact rfl))
      refine T.less ?_ (ih (i + 1, r) ⟨by omega, ?_, ?_⟩ (by dsimp only; omega))
      · exact ⟨rfl, rfl, trivial⟩
      · dsimp only
        rw [List.drop_drop, List.take_of_length_le (by rw [List.length_drop]; omega)] at hr
        exact hr
      · dsimp only
        intro x hx
        rw [take_snoc l i hlt] at hx
        rcases List.mem_append.1 hx with hx | hx
        · exact hz x hx
        · rw [List.mem_singleton.1 hx, h00]
    · have hnz : ¬ zz l := fun e => h0 (by
        have := e l[i] (List.getElem_mem hlt)
        rw [this]
        rfl)
      repeat (first | (with_reducible first | apply T_seq | apply T_region | apply U_nil | apply T_skip | apply T_block | apply T_inBlock | apply Cnd_t | apply Cnd_f | apply Cnd_not | apply Cnd_some | apply Cnd_none | apply Gd_nt | apply Gd_nf | apply Gd_some | apply Gd_none | apply Gd_want) | refine U_ar rfl rfl rfl (wrap_i64 (by omega)) rfl ?_ | refine U_pure E rfl rfl ?_ | refine T_exit rfl ?_ | refine T_condV rfl ?_ | refine U_guard rfl rfl ?_ | ((with_reducible refine Gd_skipT ?_ ?_); exact rfl) | ((with_reducible refine Gd_skipF ?_ ?_); exact rfl))
      refine Cnd_p (fun hq => ?_) (fun hq => ?_)
      · exfalso; omega
      · repeat (first | (with_reducible first | apply T_seq | apply T_region | apply U_nil | apply T_skip | apply T_block | apply T_inBlock | apply Cnd_t | apply Cnd_f | apply Cnd_not | apply Cnd_some | apply Cnd_none | apply Gd_nt | apply Gd_nf | apply Gd_some | apply Gd_none | apply Gd_want) | refine U_ar rfl rfl rfl (wrap_i64 (by omega)) rfl ?_ | refine U_pure E rfl rfl ?_ | refine T_exit rfl ?_ | refine T_condV rfl ?_ | refine U_guard rfl rfl ?_ | ((with_reducible refine Gd_skipT ?_ ?_); exact rfl) | ((with_reducible refine Gd_skipF ?_ ?_); exact rfl))
        exact T_ret1 Tryd.func92 rfl rfl ⟨_, rfl, rfl, _, _, _, rfl, by constructor <;> intro e; exfalso; omega; exact absurd e hnz⟩
  · have : i = l.length := by omega
    subst this
    rw [List.take_length] at hz
    repeat (first | (with_reducible first | apply T_seq | apply T_region | apply U_nil | apply T_skip | apply T_block | apply T_inBlock | apply Cnd_t | apply Cnd_f | apply Cnd_not | apply Cnd_some | apply Cnd_none | apply Gd_nt | apply Gd_nf | apply Gd_some | apply Gd_none | apply Gd_want) | refine U_ar rfl rfl rfl (wrap_i64 (by omega)) rfl ?_ | refine U_pure E rfl rfl ?_ | refine T_exit rfl ?_ | refine T_condV rfl ?_ | refine U_guard rfl rfl ?_ | ((with_reducible refine Gd_skipT ?_ ?_); exact rfl) | ((with_reducible refine Gd_skipF ?_ ?_); exact rfl))
    refine Cnd_p (fun hq => ?_) (fun hq => ?_)
    · repeat (first | (with_reducible first | apply T_seq | apply T_region | apply U_nil | apply T_skip | apply T_block | apply T_inBlock | apply Cnd_t | apply Cnd_f | apply Cnd_not | apply Cnd_some | apply Cnd_none | apply Gd_nt | apply Gd_nf | apply Gd_some | apply Gd_none | apply Gd_want) | refine U_ar rfl rfl rfl (wrap_i64 (by omega)) rfl ?_ | refine U_pure E rfl rfl ?_ | refine T_exit rfl ?_ | refine T_condV rfl ?_ | refine U_guard rfl rfl ?_ | ((with_reducible refine Gd_skipT ?_ ?_); exact rfl) | ((with_reducible refine Gd_skipF ?_ ?_); exact rfl))
      exact T_ret1 Tryd.func92 rfl rfl ⟨_, rfl, rfl, _, _, _, rfl, by constructor <;> intro _; exact hz; rfl⟩
    · exfalso; omega

theorem zz_split (l : List UInt8) (n : Nat) (h : zz (l.drop n)) : zz (l.take n) ↔ zz l := by
  constructor
  · intro h1 x hx
    rw [← List.take_append_drop n l] at hx
    rcases List.mem_append.1 hx with hx | hx
    · exact h1 x hx
    · exact h x hx
  · intro h1 x hx
    exact h1 x (List.mem_of_mem_take hx)

theorem trim_c (w : World) (G : Nat → Prop) (v : Value) (l : List UInt8) (h : BS w G v l) :
    Calls Tryd.prog 66 [v, .string ⟨#[0]⟩].toArray w (Ret fun r w' => Drew w w' ∧ ∃ A n c, r = .slice A n c ∧ (n = 0 ↔ zz l)) := by
  refine calls_T Tryd.func66 rfl rfl rfl ?_
  obtain ⟨A, c, rfl⟩ := h.len
  repeat (first | (with_reducible first | apply T_seq | apply T_region | apply U_nil | apply T_skip | apply T_block | apply T_inBlock | apply Cnd_t | apply Cnd_f | apply Cnd_not | apply Cnd_some | apply Cnd_none | apply Gd_nt | apply Gd_nf | apply Gd_some | apply Gd_none | apply Gd_want) | refine U_ar rfl rfl rfl (wrap_i64 (by omega)) rfl ?_ | refine U_pure E rfl rfl ?_ | refine T_exit rfl ?_ | refine T_condV rfl ?_ | refine U_guard rfl rfl ?_ | ((with_reducible refine Gd_skipT ?_ ?_); exact rfl) | ((with_reducible refine Gd_skipF ?_ ?_); exact rfl))
  refine Cnd_p (fun h0 => ?_) (fun h0 => ?_)
  · have hl0 : l = [] := List.eq_nil_of_length_eq_zero (by omega)
    subst hl0
    repeat (first | (with_reducible first | apply T_seq | apply T_region | apply U_nil | apply T_skip | apply T_block | apply T_inBlock | apply Cnd_t | apply Cnd_f | apply Cnd_not | apply Cnd_some | apply Cnd_none | apply Gd_nt | apply Gd_nf | apply Gd_some | apply Gd_none | apply Gd_want) | refine U_ar rfl rfl rfl (wrap_i64 (by omega)) rfl ?_ | refine U_pure E rfl rfl ?_ | refine T_exit rfl ?_ | refine T_condV rfl ?_ | refine U_guard rfl rfl ?_ | ((with_reducible refine Gd_skipT ?_ ?_); exact rfl) | ((with_reducible refine Gd_skipF ?_ ?_); exact rfl))
    exact T_ret1 Tryd.func66 rfl rfl ⟨_, rfl, Drew.refl _, _, _, _, rfl, by constructor <;> intro _; (intro x hx; cases hx); rfl⟩
  · repeat (first | (with_reducible first | apply T_seq | apply T_region | apply U_nil | apply T_skip | apply T_block | apply T_inBlock | apply Cnd_t | apply Cnd_f | apply Cnd_not | apply Cnd_some | apply Cnd_none | apply Gd_nt | apply Gd_nf | apply Gd_some | apply Gd_none | apply Gd_want) | refine U_ar rfl rfl rfl (wrap_i64 (by omega)) rfl ?_ | refine U_pure E rfl rfl ?_ | refine T_exit rfl ?_ | refine T_condV rfl ?_ | refine U_guard rfl rfl ?_ | ((with_reducible refine Gd_skipT ?_ ?_); exact rfl) | ((with_reducible refine Gd_skipF ?_ ?_); exact rfl))
    refine U_run rfl rfl rfl (ro_strEq (b := false) rfl rfl (by kernel_rfl)) ?_
    repeat (first | (with_reducible first | apply T_seq | apply T_region | apply U_nil | apply T_skip | apply T_block | apply T_inBlock | apply Cnd_t | apply Cnd_f | apply Cnd_not | apply Cnd_some | apply Cnd_none | apply Gd_nt | apply Gd_nf | apply Gd_some | apply Gd_none | apply Gd_want) | refine U_ar rfl rfl rfl (wrap_i64 (by omega)) rfl ?_ | refine U_pure E rfl rfl ?_ | refine T_exit rfl ?_ | refine T_condV rfl ?_ | refine U_guard rfl rfl ?_ | ((with_reducible refine Gd_skipT ?_ ?_); exact rfl) | ((with_reducible refine Gd_skipF ?_ ?_); exact rfl))
    refine U_run rfl rfl rfl (ro_strLen E rfl rfl) ?_
    repeat (first | (with_reducible first | apply T_seq | apply T_region | apply U_nil | apply T_skip | apply T_block | apply T_inBlock | apply Cnd_t | apply Cnd_f | apply Cnd_not | apply Cnd_some | apply Cnd_none | apply Gd_nt | apply Gd_nf | apply Gd_some | apply Gd_none | apply Gd_want) | refine U_ar rfl rfl rfl (wrap_i64 (by omega)) rfl ?_ | refine U_pure E rfl rfl ?_ | refine T_exit rfl ?_ | refine T_condV rfl ?_ | refine U_guard rfl rfl ?_ | ((with_reducible refine Gd_skipT ?_ ?_); exact rfl) | ((with_reducible refine Gd_skipF ?_ ?_); exact rfl))
    refine Gd_b (fun _ => ?_) (fun e => absurd e (by decide))
    repeat (first | (with_reducible first | apply T_seq | apply T_region | apply U_nil | apply T_skip | apply T_block | apply T_inBlock | apply Cnd_t | apply Cnd_f | apply Cnd_not | apply Cnd_some | apply Cnd_none | apply Gd_nt | apply Gd_nf | apply Gd_some | apply Gd_none | apply Gd_want) | refine U_ar rfl rfl rfl (wrap_i64 (by omega)) rfl ?_ | refine U_pure E rfl rfl ?_ | refine T_exit rfl ?_ | refine T_condV rfl ?_ | refine U_guard rfl rfl ?_ | ((with_reducible refine Gd_skipT ?_ ?_); exact rfl) | ((with_reducible refine Gd_skipF ?_ ?_); exact rfl))
    refine U_run rfl rfl rfl (ro_strIdx (i := 0) (b := 0) E rfl rfl rfl rfl) ?_
    repeat (first | (with_reducible first | apply T_seq | apply T_region | apply U_nil | apply T_skip | apply T_block | apply T_inBlock | apply Cnd_t | apply Cnd_f | apply Cnd_not | apply Cnd_some | apply Cnd_none | apply Gd_nt | apply Gd_nf | apply Gd_some | apply Gd_none | apply Gd_want) | refine U_ar rfl rfl rfl (wrap_i64 (by omega)) rfl ?_ | refine U_pure E rfl rfl ?_ | refine T_exit rfl ?_ | refine T_condV rfl ?_ | refine U_guard rfl rfl ?_ | ((with_reducible refine Gd_skipT ?_ ?_); exact rfl) | ((with_reducible refine Gd_skipF ?_ ?_); exact rfl))
    refine Cnd_b (fun _ => ?_) (fun e => absurd e (by decide))
    repeat (first | (with_reducible first | apply T_seq | apply T_region | apply U_nil | apply T_skip | apply T_block | apply T_inBlock | apply Cnd_t | apply Cnd_f | apply Cnd_not | apply Cnd_some | apply Cnd_none | apply Gd_nt | apply Gd_nf | apply Gd_some | apply Gd_none | apply Gd_want) | refine U_ar rfl rfl rfl (wrap_i64 (by omega)) rfl ?_ | refine U_pure E rfl rfl ?_ | refine T_exit rfl ?_ | refine T_condV rfl ?_ | refine U_guard rfl rfl ?_ | ((with_reducible refine Gd_skipT ?_ ?_); exact rfl) | ((with_reducible refine Gd_skipF ?_ ?_); exact rfl))
    refine L_begin (fun _ => True) 8 (by kernel_rfl) (N := 8) rfl (fun w1 hd1 => ?_)
    refine L_take 0 rfl (by kernel_rfl) (by kernel_rfl) (by kernel_rfl) (by kernel_rfl) trivial rfl rfl rfl (fun a ha w' _ => run_pv E ha rfl _ _ _ _ _) ?_; refine L_take 1 rfl (by kernel_rfl) (by kernel_rfl) (by kernel_rfl) (by kernel_rfl) trivial rfl rfl rfl (fun a ha w' _ => run_pv E ha rfl _ _ _ _ _) ?_
    refine L_take 2 rfl (by kernel_rfl) (by kernel_rfl) (by kernel_rfl) (by kernel_rfl) trivial rfl rfl rfl (fun a ha w' _ => ro_strIdx (i := 0) (b := 0) E rfl rfl rfl rfl a ha) ?_
    refine L_take 4 rfl (by kernel_rfl) (by kernel_rfl) (by kernel_rfl) (by kernel_rfl) trivial rfl rfl rfl (fun a ha w' _ => run_pv E ha rfl _ _ _ _ _) ?_
    refine L_take 5 rfl (by kernel_rfl) (by kernel_rfl) (by kernel_rfl) (by kernel_rfl) trivial rfl rfl rfl (fun a ha w' _ => ro_strIdx (i := 0) (b := 0) E rfl rfl rfl rfl a ha) ?_
    refine L_op 3 (by kernel_rfl) rfl (fun hc3 => ?_)
    refine U_call rfl rfl (Tryd.call93 _) (trimR_c w1 G _ l (h.mv (hd1.kept none0) (fun _ _ _ x => x))) ?_
    rintro r w2 ⟨rfl, n, hn, hr, hz⟩
    refine U_nilL hc3 (fun _ => trivial) ?_
    refine L_op 6 (by kernel_rfl) rfl (fun hc6 => ?_)
    refine U_call rfl rfl (Tryd.call92 _) (trimL_c w2 G _ _ hr) ?_
    rintro r2 w3 ⟨rfl, A2, n2, c2, rfl, hr2⟩
    refine U_nilL hc6 (fun _ => trivial) ?_
    refine L_take 7 rfl (by kernel_rfl) (by kernel_rfl) (by kernel_rfl) (by kernel_rfl) trivial rfl rfl rfl (fun a ha w' _ => run_pv E ha rfl _ _ _ _ _) ?_
    refine L_done (by kernel_rfl) ?_
    repeat (first | (with_reducible first | apply T_seq | apply T_region | apply U_nil | apply T_skip | apply T_block | apply T_inBlock | apply Cnd_t | apply Cnd_f | apply Cnd_not | apply Cnd_some | apply Cnd_none | apply Gd_nt | apply Gd_nf | apply Gd_some | apply Gd_none | apply Gd_want) | refine U_ar rfl rfl rfl (wrap_i64 (by omega)) rfl ?_ | refine U_pure E rfl rfl ?_ | refine T_exit rfl ?_ | refine T_condV rfl ?_ | refine U_guard rfl rfl ?_ | ((with_reducible refine Gd_skipT ?_ ?_); exact rfl) | ((with_reducible refine Gd_skipF ?_ ?_); exact rfl))
    exact T_ret1 Tryd.func66 rfl rfl ⟨_, rfl, hd1, _, _, _, rfl, hr2.trans (zz_split l n hz)⟩
end Go.Proofs.YtoefhdaenaiomaaDoor
