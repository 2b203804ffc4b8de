/- Bits of unsigned numbers, as the operations have them. -/
import Derived.Test.YtoefhdaenaiomaaDoorDraw
namespace Go.Proofs.YtoefhdaenaiomaaDoor
open Go
set_option maxRecDepth 20000

section
variable {P : Program} {w : World} {t : TypeId} {k : IntKind} {x y : Nat}

theorem wrap_nat (hs : k.signed = false) (h : x < 2 ^ k.bits) : k.wrap (x : Int) = x := by
  simp only [IntKind.wrap, hs, Bool.false_and, Bool.false_eq_true, if_false]
  exact Int.emod_eq_of_lt (by omega) (by exact_mod_cast h)

theorem ofInt_nat (n x : Nat) : BitVec.ofInt n (x : Int) = BitVec.ofNat n x := by
  apply BitVec.eq_of_toNat_eq
  simp [BitVec.toNat_ofInt]

theorem run_and (hs : k.signed = false) (hx : x < 2 ^ k.bits) (hy : y < 2 ^ k.bits) : (binOp .and t (.int k x) (.int k y)).run P w = .ok (.int k (x &&& y : Nat)) w := by
  have hlt : x &&& y < 2 ^ k.bits := Nat.and_lt_two_pow x hy
  simp [binOp, Op.intBits, ofInt_nat, Nat.mod_eq_of_lt hx, Nat.mod_eq_of_lt hy, wrap_nat hs hlt]
theorem run_xor (hs : k.signed = false) (hx : x < 2 ^ k.bits) (hy : y < 2 ^ k.bits) : (binOp .xor t (.int k x) (.int k y)).run P w = .ok (.int k (x ^^^ y : Nat)) w := by
  have hlt : x ^^^ y < 2 ^ k.bits := Nat.xor_lt_two_pow hx hy
  simp [binOp, Op.intBits, ofInt_nat, Nat.mod_eq_of_lt hx, Nat.mod_eq_of_lt hy, wrap_nat hs hlt]
theorem run_or (hs : k.signed = false) (hx : x < 2 ^ k.bits) (hy : y < 2 ^ k.bits) : (binOp .or t (.int k x) (.int k y)).run P w = .ok (.int k (x ||| y : Nat)) w := by
  have hlt : x ||| y < 2 ^ k.bits := Nat.or_lt_two_pow hx hy
  simp [binOp, Op.intBits, ofInt_nat, Nat.mod_eq_of_lt hx, Nat.mod_eq_of_lt hy, wrap_nat hs hlt]
theorem run_shr (kd : IntKind) (h : y ≤ k.bits) : (binOp .shr t (.int k x) (.int kd y)).run P w = .ok (.int k (x / 2 ^ y : Nat)) w := by
  have h0 : ¬ ((y : Int) < 0) := by omega
  have h1 : (x : Int).fdiv (2 ^ y) = ((x / 2 ^ y : Nat) : Int) := by
    rw [Int.fdiv_eq_ediv_of_nonneg _ (by exact_mod_cast Nat.zero_le _)]
    simp
  simp [binOp, Op.shift, h0, Nat.min_eq_left h, h1]
theorem run_shl (kd : IntKind) (hs : k.signed = false) (h : y ≤ k.bits) (hf : x * 2 ^ y < 2 ^ k.bits) : (binOp .shl t (.int k x) (.int kd y)).run P w = .ok (.int k (x * 2 ^ y : Nat)) w := by
  have h0 : ¬ ((y : Int) < 0) := by omega
  have h1 : k.wrap ((x : Int) * 2 ^ y) = ((x * 2 ^ y : Nat) : Int) := by
    have := wrap_nat (k := k) hs hf
    rw [← this]
    simp
  simp [binOp, Op.shift, h0, Nat.min_eq_left h, h1]
theorem run_quo (hy : 0 < y) (hw : k.wrap ((x / y : Nat) : Int) = (x / y : Nat)) : (binOp .quo t (.int k x) (.int k y)).run P w = .ok (.int k (x / y : Nat)) w := by
  have h0 : ¬ ((y : Int) = 0) := by omega
  have h1 : (x : Int).tdiv y = ((x / y : Nat) : Int) := Int.ofNat_tdiv ..
  have : (binOp .quo t (.int k x) (.int k y)) = Op.intDiv .quo k x y := by simp [binOp]
  rw [this, Op.intDiv, if_neg h0, h1, hw]
  rfl
theorem run_rem (hy : 0 < y) : (binOp .rem t (.int k x) (.int k y)).run P w = .ok (.int k (x % y : Nat)) w := by
  have h0 : ¬ ((y : Int) = 0) := by omega
  have h1 : (x : Int).tmod y = ((x % y : Nat) : Int) := Int.ofNat_tmod ..
  have : (binOp .rem t (.int k x) (.int k y)) = Op.intDiv .rem k x y := by simp [binOp]
  rw [this, Op.intDiv, if_neg h0, h1]
  rfl

variable {m : Fm} {n : Nat} {ty t2 : TypeId} {ps : String} {af : Array Edge}
/-- A binary operation on two numbers, its run known. -/
theorem ro_bin {bop : BinOp} {u v : Operand} {k' : IntKind} {p q : Int} {r : Value} (hx : ev m u = some (.int k p)) (hy : ev m v = some (.int k' q)) (hr : (binOp bop t (.int k p) (.int k' q)).run P w = .ok r w) {dst : Option Tmp} {gd : Option (Nat × Bool)} :
    ∀ a, Fits a n m → (execOp a.eval { dst := dst, op := .binOp bop t u v t2, type := ty, pos := ps, after := af, guard := gd }).run P w = .ok (.value r) w := by
  intro a ha
  simp [execOp, ha.eval hx, ha.eval hy, eqGuard_int, hr]

theorem run_indexAt_arr {t e : TypeId} {i : Int} {kd : IntKind} {b o N s : Nat} (hu : P.underlying t = some (.array N e)) (hs : (P.info? e).map (·.size) = some s) (h0 : 0 ≤ i) (hl : i < N) :
    (Instr.indexAt t (.pointer (some ⟨b, o, none⟩)) (.int kd i)).run P w = .ok (.pointer (some ⟨b, o + i.toNat * s, none⟩)) w := by
  cases hq : P.info? e with
  | none => simp [hq] at hs
  | some j =>
    have : j.size = s := by simpa [hq] using hs
    simp [Instr.indexAt, Instr.sureAddr, asIntOf, run_underlying hu, h0, hl, sizeOf, typeInfo, hq, this, addr_add]
theorem ro_indexA (E : Env P) {t e : TypeId} {x y : Operand} {b o N s sa o' : Nat} {i : Int} {kd : IntKind} {de : TypeDesc} (hu : E.ty t = some (.array N e, sa)) (he : E.ty e = some (de, s)) (hx : ev m x = some (.pointer (some ⟨b, o, none⟩))) (hy : ev m y = some (.int kd i)) (h0 : 0 ≤ i) (hl : i < N) (ho : o + i.toNat * s = o') {dst : Option Tmp} {gd : Option (Nat × Bool)} :
    ∀ a, Fits a n m → (execOp a.eval { dst := dst, op := .indexAddr t x y, type := ty, pos := ps, after := af, guard := gd }).run P w = .ok (.value (.pointer (some ⟨b, o', none⟩))) w := by
  intro a ha
  have hr := run_indexAt_arr (P := P) (w := w) (kd := kd) (b := b) (o := o) (E.ok _ _ _ hu).1 (E.ok _ _ _ he).2 h0 hl
  rw [ho] at hr
  simp only [execOp, ha.eval hx, ha.eval hy, Sem.run_bind, hr, Result.andThen_ok, Sem.run_pure]
end

/-! ### A sector's bits -/
def bitAt (s : List UInt8) (j : Nat) : Bool := (s.getD (j / 8) 0).toNat.testBit (j % 8)
theorem bits_ext {s s' : List UInt8} {n : Nat} (h : s.length = n) (h' : s'.length = n) (hb : ∀ j, j < n * 8 → bitAt s j = bitAt s' j) : s = s' := by
  apply List.ext_getElem (by omega)
  intro i h1 h2
  apply UInt8.toNat_inj.1
  apply Nat.eq_of_testBit_eq
  intro r
  by_cases hr : r < 8
  · have := hb (i * 8 + r) (by omega)
    have e1 : (i * 8 + r) / 8 = i := by omega
    have e2 : (i * 8 + r) % 8 = r := by omega
    simp only [bitAt, e1, e2, List.getD_eq_getElem?_getD, List.getElem?_eq_getElem h1, List.getElem?_eq_getElem h2, Option.getD_some] at this
    exact this
  · have l1 : s[i].toNat < 2 ^ r := Nat.lt_of_lt_of_le s[i].toNat_lt (Nat.pow_le_pow_right (by decide) (by omega))
    have l2 : s'[i].toNat < 2 ^ r := Nat.lt_of_lt_of_le s'[i].toNat_lt (Nat.pow_le_pow_right (by decide) (by omega))
    rw [Nat.testBit_lt_two_pow l1, Nat.testBit_lt_two_pow l2]
theorem bit_step {s : List UInt8} {k M : Nat} (hk : k / 8 < s.length) (j : Nat) :
    bitAt (s.set (k / 8) (UInt8.ofNat (s[k / 8].toNat ^^^ ((M &&& 1) * 2 ^ (k % 8))))) j = (bitAt s j ^^ (decide (j = k) && M.testBit 0)) := by
  have hM : M &&& 1 < 2 := by rw [Nat.and_one_is_mod]; omega
  have h2 : (M &&& 1) * 2 ^ (k % 8) < 256 := by
    have h3 : 2 ^ (k % 8) ≤ 2 ^ 7 := Nat.pow_le_pow_right (by decide) (by omega)
    have : (M &&& 1) * 2 ^ (k % 8) ≤ 1 * 2 ^ 7 := Nat.mul_le_mul (by omega) h3
    omega
  have hx : s[k / 8].toNat ^^^ ((M &&& 1) * 2 ^ (k % 8)) < 2 ^ 8 := Nat.xor_lt_two_pow s[k / 8].toNat_lt h2
  simp only [bitAt, List.getD_eq_getElem?_getD]
  by_cases hj : k / 8 = j / 8
  · rw [← hj, List.getElem?_set_self hk, Option.getD_some, UInt8.toNat_ofNat', Nat.mod_eq_of_lt hx, Nat.testBit_xor, List.getElem?_eq_getElem hk, Option.getD_some]
    congr 1
    rw [← Nat.shiftLeft_eq, Nat.testBit_shiftLeft]
    by_cases hjk : j = k
    · subst hjk
      simp only [ge_iff_le, Nat.le_refl, decide_true, Bool.true_and, Nat.sub_self, Nat.testBit_and]
      simp
    · have hne : j % 8 ≠ k % 8 := by omega
      simp only [hjk, decide_false, Bool.false_and]
      by_cases hlt : k % 8 ≤ j % 8
      · have : (M &&& 1).testBit (j % 8 - k % 8) = false := Nat.testBit_lt_two_pow (Nat.lt_of_lt_of_le hM (by
          have : 2 ^ 1 ≤ 2 ^ (j % 8 - k % 8) := Nat.pow_le_pow_right (by decide) (by omega)
          simpa using this))
        rw [this, Bool.and_false]
      · simp [hlt]
  · rw [List.getElem?_set_ne hj]
    have : j ≠ k := fun e => hj (by rw [e])
    simp [this]
/-- One cell of a row of rows is set. -/
theorem flat_cell {α : Type} {sz : Nat} : ∀ (segs : List (List α)) (k q : Nat) (v : α) (pad : List α), (∀ s ∈ segs, s.length = sz) → (hk : k < segs.length) → q < sz → (segs.flatten ++ pad).set (k * sz + q) v = (segs.set k (segs[k].set q v)).flatten ++ pad
  | s :: segs, 0, q, v, pad, h, hk, hq => by
    have hs : s.length = sz := h s (by simp)
    simp only [List.flatten_cons, List.set_cons_zero, List.getElem_cons_zero, Nat.zero_mul, Nat.zero_add, List.append_assoc]
    rw [List.set_append_left _ _ (by omega)]
  | s :: segs, k + 1, q, v, pad, h, hk, hq => by
    have hs : s.length = sz := h s (by simp)
    have ih := flat_cell segs k q v pad (fun x hx => h x (by simp [hx])) (by simpa using hk) hq
    simp only [List.flatten_cons, List.set_cons_succ, List.getElem_cons_succ, List.append_assoc]
    rw [List.set_append_right _ _ (by rw [hs, Nat.succ_mul]; omega), hs, show (k + 1) * sz + q - sz = k * sz + q by rw [Nat.succ_mul]; omega, ih]
end Go.Proofs.YtoefhdaenaiomaaDoor
