/- The check of a frame, as a function of bytes; frames, and what is taken out of them, as functions of bytes. Plain, no program. -/
import Derived.Test.YtoefhdaenaiomaaDoorBytes
import Derived.Test.YtoefhdaenaiomaaDoorBits
namespace Go.Proofs.YtoefhdaenaiomaaDoor
open Go
set_option maxRecDepth 20000

def stp (s : Nat) : Nat := if s % 2 = 1 then (s / 2) ^^^ 3988292384 else s / 2
def stps : Nat → Nat → Nat
  | 0, s => s
  | k + 1, s => stp (stps k s)
def byt (s : Nat) (b : UInt8) : Nat := stps 8 (s ^^^ b.toNat)
def crc (s : Nat) (l : List UInt8) : Nat := l.foldl byt s

theorem stp_lt {s : Nat} (h : s < 4294967296) : stp s < 4294967296 := by
  have h2 : s / 2 < 2 ^ 32 := by omega
  unfold stp
  split
  · exact Nat.xor_lt_two_pow h2 (by decide : 3988292384 < 2 ^ 32)
  · omega
theorem stps_lt {s : Nat} (h : s < 4294967296) : ∀ k, stps k s < 4294967296
  | 0 => h
  | k + 1 => stp_lt (stps_lt h k)
theorem xor_lt32 {a b : Nat} (h : a < 4294967296) (k : b < 4294967296) : a ^^^ b < 4294967296 := Nat.xor_lt_two_pow (n := 32) h k
theorem b_lt (b : UInt8) : b.toNat < 256 := b.toNat_lt
theorem byt_lt {s : Nat} (h : s < 4294967296) (b : UInt8) : byt s b < 4294967296 := stps_lt (xor_lt32 h (by have := b_lt b; omega)) 8
theorem crc_lt : ∀ {s : Nat} (_ : s < 4294967296) (l : List UInt8), crc s l < 4294967296
  | _, h, [] => h
  | _, h, b :: l => crc_lt (byt_lt h b) l
theorem crc_snoc (s : Nat) (l : List UInt8) (b : UInt8) : crc s (l ++ [b]) = byt (crc s l) b := by simp [crc]
theorem crc_append (s : Nat) (l l' : List UInt8) : crc s (l ++ l') = crc (crc s l) l' := by simp [crc]

def le4 (n : Nat) : List UInt8 := [UInt8.ofNat n, UInt8.ofNat (n / 256), UInt8.ofNat (n / 65536), UInt8.ofNat (n / 16777216)]
theorem le4_len (n : Nat) : (le4 n).length = 4 := rfl
def at8 (l : List UInt8) (i : Nat) : Nat := (l.getD i 0).toNat
def val4 (l : List UInt8) : Nat := at8 l 0 + 256 * at8 l 1 + 65536 * at8 l 2 + 16777216 * at8 l 3
theorem at8_lt (l : List UInt8) (i : Nat) : at8 l i < 256 := b_lt _
theorem val4_lt (l : List UInt8) : val4 l < 4294967296 := by
  have h0 := at8_lt l 0
  have h1 := at8_lt l 1
  have h2 := at8_lt l 2
  have h3 := at8_lt l 3
  unfold val4
  omega
theorem at8_get {l : List UInt8} {i : Nat} (h : i < l.length) : at8 l i = l[i].toNat := by
  simp [at8, List.getD_eq_getElem?_getD, List.getElem?_eq_getElem h]
theorem at8_append {l l' : List UInt8} {i : Nat} (h : i < l.length) : at8 (l ++ l') i = at8 l i := by
  simp only [at8, List.getD_eq_getElem?_getD, List.getElem?_append_left h]
theorem val4_append {l l' : List UInt8} (h : 4 ≤ l.length) : val4 (l ++ l') = val4 l := by
  unfold val4
  rw [at8_append (by omega), at8_append (by omega), at8_append (by omega), at8_append (by omega)]
theorem val4_le4 (n : Nat) (h : n < 4294967296) : val4 (le4 n) = n := by
  simp only [val4, at8, le4, List.getD_cons_zero, List.getD_cons_succ, UInt8.toNat_ofNat']
  omega
theorem val4_le4_append (n : Nat) (h : n < 4294967296) (l : List UInt8) : val4 (le4 n ++ l) = n := by
  rw [val4_append (by rw [le4_len]; exact Nat.le_refl 4), val4_le4 n h]

def chk (seed : Nat) (p : List UInt8) : Nat := 4294967295 - crc (crc 4294967295 (le4 seed)) p
theorem init_lt (seed : Nat) : crc 4294967295 (le4 seed) < 4294967296 := crc_lt (by decide) _
theorem chk_lt (seed : Nat) (p : List UInt8) : chk seed p < 4294967296 := by unfold chk; omega
def frm (seed : Nat) (p : List UInt8) : List UInt8 := (le4 p.length ++ p) ++ le4 (chk seed (le4 p.length ++ p))
theorem frm_len (seed : Nat) (p : List UInt8) : (frm seed p).length = p.length + 8 := by
  simp only [frm, List.length_append, le4_len]
  omega
def zz (b : List UInt8) : Prop := ∀ x ∈ b, x = 0
instance (b : List UInt8) : Decidable (zz b) := inferInstanceAs (Decidable (∀ x ∈ b, x = 0))
/-- The error's number. -/
def nErr (seed : Nat) (b : List UInt8) : Nat :=
  if zz b then 3 else if b.length < 8 then 2 else if b.length - 8 < val4 b then 2 else if 100000 < val4 b then 4 else
  if val4 (b.drop (val4 b + 4)) ≠ chk seed (b.take (val4 b + 4)) then 5 else 0
def nRec (seed : Nat) (b : List UInt8) : List UInt8 := if nErr seed b = 0 then (b.drop 4).take (val4 b) else []
def nLen (seed : Nat) (b : List UInt8) : Nat := if nErr seed b = 0 then val4 b + 8 else 0
theorem nErr_ok {seed : Nat} {b : List UInt8} (h : nErr seed b = 0) : ¬ zz b ∧ 8 ≤ b.length ∧ val4 b ≤ b.length - 8 ∧ val4 b ≤ 100000 ∧ val4 (b.drop (val4 b + 4)) = chk seed (b.take (val4 b + 4)) := by
  unfold nErr at h
  by_cases h1 : zz b
  · rw [if_pos h1] at h; cases h
  · rw [if_neg h1] at h
    by_cases h2 : b.length < 8
    · rw [if_pos h2] at h; cases h
    · rw [if_neg h2] at h
      by_cases h3 : b.length - 8 < val4 b
      · rw [if_pos h3] at h; cases h
      · rw [if_neg h3] at h
        by_cases h4 : 100000 < val4 b
        · rw [if_pos h4] at h; cases h
        · rw [if_neg h4] at h
          by_cases h5 : val4 (b.drop (val4 b + 4)) = chk seed (b.take (val4 b + 4))
          · exact ⟨h1, by omega, by omega, by omega, h5⟩
          · rw [if_pos h5] at h; cases h

/-! ### The steps are linear, and lose nothing -/
theorem xor_half (a b : Nat) : (a ^^^ b) / 2 = (a / 2) ^^^ (b / 2) := by
  have := Nat.xor_div_two (a := a) (b := b)
  exact this
theorem xor_mod (a b : Nat) : (a ^^^ b) % 2 = (a + b) % 2 := by
  have h := Nat.xor_mod_two_pow (a := a) (b := b) (n := 1)
  simp only [Nat.pow_one] at h
  rw [h]
  rcases Nat.mod_two_eq_zero_or_one a with ha | ha <;> rcases Nat.mod_two_eq_zero_or_one b with hb | hb <;> rw [ha, hb] <;> simp <;> omega
theorem stp_xor (a b : Nat) : stp (a ^^^ b) = stp a ^^^ stp b := by
  unfold stp
  rw [xor_mod, xor_half]
  by_cases ha : a % 2 = 1
  · by_cases hb : b % 2 = 1
    · rw [if_neg (by omega), if_pos ha, if_pos hb, Nat.xor_assoc, ← Nat.xor_assoc 3988292384, Nat.xor_comm 3988292384, Nat.xor_assoc (b / 2), Nat.xor_self, Nat.xor_zero]
    · rw [if_pos (by omega), if_pos ha, if_neg hb, Nat.xor_assoc, Nat.xor_comm (b / 2), ← Nat.xor_assoc]
  · by_cases hb : b % 2 = 1
    · rw [if_pos (by omega), if_neg ha, if_pos hb, Nat.xor_assoc]
    · rw [if_neg (by omega), if_neg ha, if_neg hb]
theorem stps_xor (a b : Nat) : ∀ k, stps k (a ^^^ b) = stps k a ^^^ stps k b
  | 0 => rfl
  | k + 1 => by simp only [stps]; rw [stps_xor a b k, stp_xor]
theorem stps_add (j k s : Nat) : stps (j + k) s = stps j (stps k s) := by
  induction j with
  | zero => rw [Nat.zero_add]; rfl
  | succ j ih => rw [Nat.succ_add]; simp only [stps]; rw [ih]
theorem stp_even (x : Nat) : stp (x * 2) = x := by
  unfold stp
  rw [if_neg (by omega)]
  omega
theorem stps_shift (x : Nat) : ∀ k, stps k (x * 2 ^ k) = x
  | 0 => by simp [stps]
  | k + 1 => by
    rw [stps_add k 1]
    show stps k (stp (x * 2 ^ (k + 1))) = x
    rw [Nat.pow_succ, ← Nat.mul_assoc, stp_even, stps_shift x k]
theorem stps_zero : ∀ k, stps k 0 = 0
  | 0 => rfl
  | k + 1 => by simp only [stps]; rw [stps_zero k]; rfl
theorem stp_ne {s : Nat} (h : s < 4294967296) (h0 : s ≠ 0) : stp s ≠ 0 := by
  unfold stp
  split
  · intro e
    have h1 : s / 2 = 3988292384 := by
      have := congrArg (· ^^^ 3988292384) e
      simp only [Nat.xor_assoc, Nat.xor_self, Nat.xor_zero, Nat.zero_xor] at this
      exact this
    omega
  · omega
theorem stps_ne {s : Nat} (h : s < 4294967296) (h0 : s ≠ 0) : ∀ k, stps k s ≠ 0
  | 0 => h0
  | k + 1 => stp_ne (stps_lt h k) (stps_ne h h0 k)
theorem xor_eq0 {a b : Nat} (h : a ^^^ b = 0) : a = b := by
  have := congrArg (· ^^^ b) h
  simp only [Nat.xor_assoc, Nat.xor_self, Nat.xor_zero, Nat.zero_xor] at this
  exact this
theorem stps_inj {a b k : Nat} (ha : a < 4294967296) (hb : b < 4294967296) (h : stps k a = stps k b) : a = b := by
  refine xor_eq0 (Classical.byContradiction fun e => stps_ne (xor_lt32 ha hb) e k ?_)
  rw [stps_xor, h, Nat.xor_self]

/-- The bytes as one number, the lowest first. -/
def leN : List UInt8 → Nat
  | [] => 0
  | b :: l => b.toNat ^^^ (leN l * 2 ^ 8)
theorem crc_eq : ∀ (l : List UInt8) (s : Nat), crc s l = stps (8 * l.length) (s ^^^ leN l)
  | [], s => by simp [crc, stps, leN]
  | b :: l, s => by
    have ih := crc_eq l (byt s b)
    show crc (byt s b) l = _
    rw [ih, List.length_cons, show 8 * (l.length + 1) = 8 * l.length + 8 by omega, stps_add]
    congr 1
    rw [leN, ← Nat.xor_assoc, stps_xor (s ^^^ b.toNat), stps_shift]
    rfl
theorem leN_bit : ∀ (l : List UInt8) (j : Nat), (leN l).testBit j = bitAt l j
  | [], j => by simp [leN, bitAt]
  | b :: l, j => by
    rw [leN, Nat.testBit_xor]
    have h2 : (leN l * 2 ^ 8).testBit j = (decide (8 ≤ j) && (leN l).testBit (j - 8)) := by
      rw [← Nat.shiftLeft_eq, Nat.testBit_shiftLeft]
    rw [h2]
    by_cases hj : j < 8
    · have e1 : j / 8 = 0 := by omega
      have e2 : j % 8 = j := by omega
      have : ¬ 8 ≤ j := by omega
      simp [bitAt, e1, e2, this]
    · have hb : b.toNat.testBit j = false := Nat.testBit_lt_two_pow (Nat.lt_of_lt_of_le (b_lt b) (by
        have : 2 ^ 8 ≤ 2 ^ j := Nat.pow_le_pow_right (by decide) (by omega)
        simpa using this))
      have e1 : j / 8 = (j - 8) / 8 + 1 := by omega
      have e2 : j % 8 = (j - 8) % 8 := by omega
      rw [hb, leN_bit l (j - 8)]
      simp [bitAt, e1, e2, show 8 ≤ j by omega]
theorem leN_lt (l : List UInt8) (h : l.length = 4) : leN l < 4294967296 := by
  have : leN l < 2 ^ 32 := by
    apply Nat.lt_pow_two_of_testBit
    intro i hi
    rw [leN_bit]
    have : l.length ≤ i / 8 := by omega
    simp [bitAt, List.getD_eq_getElem?_getD, List.getElem?_eq_none this]
  simpa using this
theorem xor_eq_add (a b k : Nat) (h : a < 2 ^ k) : a ^^^ (b * 2 ^ k) = a + b * 2 ^ k := by
  have := Nat.two_pow_add_eq_or_of_lt h b
  apply Nat.eq_of_testBit_eq
  intro i
  rw [Nat.add_comm, Nat.mul_comm, this, Nat.testBit_xor, Nat.testBit_or]
  rw [Nat.mul_comm, ← Nat.shiftLeft_eq, Nat.testBit_shiftLeft]
  by_cases hi : k ≤ i
  · rw [Nat.testBit_lt_two_pow (Nat.lt_of_lt_of_le h (Nat.pow_le_pow_right (by decide) hi))]
    simp
  · simp [hi]
theorem leN_val : ∀ (l : List UInt8), l.length = 4 → leN l = val4 l
  | [a, b, c, d], _ => by
    simp only [leN, val4, at8, List.getD_cons_zero, List.getD_cons_succ]
    have ha := b_lt a
    have hb := b_lt b
    have hc := b_lt c
    rw [xor_eq_add a.toNat _ 8 ha, xor_eq_add b.toNat _ 8 hb, xor_eq_add c.toNat _ 8 hc, Nat.zero_mul, Nat.xor_zero]
    omega

theorem compl_xor {a : Nat} (h : a < 4294967296) : 4294967295 - a = a ^^^ 4294967295 := by
  have e := xor_eq_add 0 0 0 (by decide)
  apply Nat.eq_of_testBit_eq
  intro i
  rw [Nat.testBit_xor]
  have h1 : (4294967295 : Nat) = 2 ^ 32 - 1 := by decide
  rw [h1, Nat.testBit_two_pow_sub_one]
  have h2 := Nat.testBit_two_pow_sub_succ (x := a) (n := 32) (by simpa using h) i
  rw [show 2 ^ 32 - 1 - a = 2 ^ 32 - (a + 1) by omega, h2]
  by_cases hi : i < 32
  · simp [hi]
  · have : a.testBit i = false := Nat.testBit_lt_two_pow (Nat.lt_of_lt_of_le h (by
      have : 2 ^ 32 ≤ 2 ^ i := Nat.pow_le_pow_right (by decide) (by omega)
      simpa using this))
    simp [hi, this]

/-- Two seeds, the same bytes: two checks. -/
theorem chk_seed {a b : Nat} (ha : a < 4294967296) (hb : b < 4294967296) {p : List UInt8} (h : chk a p = chk b p) : a = b := by
  have h1 : crc (crc 4294967295 (le4 a)) p = crc (crc 4294967295 (le4 b)) p := by
    have l1 := crc_lt (init_lt a) p
    have l2 := crc_lt (init_lt b) p
    unfold chk at h
    omega
  rw [crc_eq p, crc_eq p, stps_xor, stps_xor] at h1
  have h2 : stps (8 * p.length) (crc 4294967295 (le4 a)) = stps (8 * p.length) (crc 4294967295 (le4 b)) := by
    have := congrArg (· ^^^ stps (8 * p.length) (leN p)) h1
    simp only [Nat.xor_assoc, Nat.xor_self, Nat.xor_zero] at this
    exact this
  have h3 := stps_inj (init_lt a) (init_lt b) h2
  rw [crc_eq, crc_eq] at h3
  have h4 := stps_inj (xor_lt32 (by decide) (leN_lt _ (le4_len a))) (xor_lt32 (by decide) (leN_lt _ (le4_len b))) h3
  have h5 : leN (le4 a) = leN (le4 b) := by
    have := congrArg (4294967295 ^^^ ·) h4
    simp only [← Nat.xor_assoc, Nat.xor_self, Nat.zero_xor] at this
    exact this
  rw [leN_val _ (le4_len a), leN_val _ (le4_len b), val4_le4 a ha, val4_le4 b hb] at h5
  exact h5

/-- A frame behind which its check stands: the register then. -/
theorem crc_frame (seed : Nat) (q c : List UInt8) (hc : c.length = 4) (h : val4 c = chk seed q) : crc (crc 4294967295 (le4 seed)) (q ++ c) = stps 32 4294967295 := by
  rw [crc_append, crc_eq c, hc, leN_val c hc, h]
  congr 1
  unfold chk
  rw [compl_xor (crc_lt (init_lt seed) q), ← Nat.xor_assoc, Nat.xor_self, Nat.zero_xor]

/-- A burst of at most 32 bits is told. -/
theorem burst {f g : List UInt8} {s : Nat} (hl : f.length = g.length) (hs : s < 4294967296) (D m at_ : Nat) (hD : D = m * 2 ^ at_) (hm : m < 4294967296) (h0 : m ≠ 0) (hat : at_ ≤ 8 * f.length) (hx : leN f ^^^ leN g = D) (h : crc s f = crc s g) : False := by
  rw [crc_eq f, crc_eq g, ← hl] at h
  have h1 : stps (8 * f.length) (leN f ^^^ leN g) = 0 := by
    rw [stps_xor, stps_xor] at h
    rw [stps_xor]
    have := congrArg (stps (8 * f.length) s ^^^ ·) h
    simp only [← Nat.xor_assoc, Nat.xor_self, Nat.zero_xor] at this
    rw [this, Nat.xor_self]
  rw [hx, hD, show 8 * f.length = (8 * f.length - at_) + at_ by omega, stps_add, stps_shift] at h1
  exact stps_ne hm h0 _ h1
end Go.Proofs.YtoefhdaenaiomaaDoor
