/- Bits of unsigned numbers, as the operations have them. -/
import Derived.Test.YtoefhdaenaiomaaDraw
namespace Go.Proofs.Ytoefhdaenaiomaa
open Go

section
variable {P : Program} {w : World} {t : TypeId} {k : IntKind} {x y : Nat}

theorem wrap_nat (hs : k.signed = false) (h : x < 2 ^ k.bits) : k.wrap (x : Int) = x := by
  simp only [IntKind.wrap, hs, Bool.false_and, Bool.false_eq_true, if_false]
  exact Int.emod_eq_of_lt (by omega) (by exact_mod_cast h)

theorem ofInt_nat (n x : Nat) : BitVec.ofInt n (x : Int) = BitVec.ofNat n x := by
  apply BitVec.eq_of_toNat_eq
  simp [BitVec.toNat_ofInt]

theorem run_and (hs : k.signed = false) (hx : x < 2 ^ k.bits) (hy : y < 2 ^ k.bits) : (binOp .and t (.int k x) (.int k y)).run P w = .ok (.int k (x &&& y : Nat)) w := by
  have hlt : x &&& y < 2 ^ k.bits := Nat.and_lt_two_pow x hy
  simp [binOp, Op.intBits, ofInt_nat, Nat.mod_eq_of_lt hx, Nat.mod_eq_of_lt hy, wrap_nat hs hlt]
theorem run_xor (hs : k.signed = false) (hx : x < 2 ^ k.bits) (hy : y < 2 ^ k.bits) : (binOp .xor t (.int k x) (.int k y)).run P w = .ok (.int k (x ^^^ y : Nat)) w := by
  have hlt : x ^^^ y < 2 ^ k.bits := Nat.xor_lt_two_pow hx hy
  simp [binOp, Op.intBits, ofInt_nat, Nat.mod_eq_of_lt hx, Nat.mod_eq_of_lt hy, wrap_nat hs hlt]
theorem run_or (hs : k.signed = false) (hx : x < 2 ^ k.bits) (hy : y < 2 ^ k.bits) : (binOp .or t (.int k x) (.int k y)).run P w = .ok (.int k (x ||| y : Nat)) w := by
  have hlt : x ||| y < 2 ^ k.bits := Nat.or_lt_two_pow hx hy
  simp [binOp, Op.intBits, ofInt_nat, Nat.mod_eq_of_lt hx, Nat.mod_eq_of_lt hy, wrap_nat hs hlt]
theorem run_shr (kd : IntKind) (h : y ≤ k.bits) : (binOp .shr t (.int k x) (.int kd y)).run P w = .ok (.int k (x / 2 ^ y : Nat)) w := by
  have h0 : ¬ ((y : Int) < 0) := by omega
  have h1 : (x : Int).fdiv (2 ^ y) = ((x / 2 ^ y : Nat) : Int) := by
    rw [Int.fdiv_eq_ediv_of_nonneg _ (by exact_mod_cast Nat.zero_le _)]
    simp
  simp [binOp, Op.shift, h0, Nat.min_eq_left h, h1]
theorem run_shl (kd : IntKind) (hs : k.signed = false) (h : y ≤ k.bits) (hf : x * 2 ^ y < 2 ^ k.bits) : (binOp .shl t (.int k x) (.int kd y)).run P w = .ok (.int k (x * 2 ^ y : Nat)) w := by
  have h0 : ¬ ((y : Int) < 0) := by omega
  have h1 : k.wrap ((x : Int) * 2 ^ y) = ((x * 2 ^ y : Nat) : Int) := by
    have := wrap_nat (k := k) hs hf
    rw [← this]
    simp
  simp [binOp, Op.shift, h0, Nat.min_eq_left h, h1]
theorem run_quo (hy : 0 < y) (hw : k.wrap ((x / y : Nat) : Int) = (x / y : Nat)) : (binOp .quo t (.int k x) (.int k y)).run P w = .ok (.int k (x / y : Nat)) w := by
  have h0 : ¬ ((y : Int) = 0) := by omega
  have h1 : (x : Int).tdiv y = ((x / y : Nat) : Int) := Int.ofNat_tdiv ..
  have : (binOp .quo t (.int k x) (.int k y)) = Op.intDiv .quo k x y := by simp [binOp]
  rw [this, Op.intDiv, if_neg h0, h1, hw]
  rfl
theorem run_rem (hy : 0 < y) : (binOp .rem t (.int k x) (.int k y)).run P w = .ok (.int k (x % y : Nat)) w := by
  have h0 : ¬ ((y : Int) = 0) := by omega
  have h1 : (x : Int).tmod y = ((x % y : Nat) : Int) := Int.ofNat_tmod ..
  have : (binOp .rem t (.int k x) (.int k y)) = Op.intDiv .rem k x y := by simp [binOp]
  rw [this, Op.intDiv, if_neg h0, h1]
  rfl

variable {m : Fm} {n : Nat} {ty t2 : TypeId} {ps : String} {af : Array Edge}
/-- A binary operation on two numbers, its run known. -/
theorem ro_bin {bop : BinOp} {u v : Operand} {k' : IntKind} {p q : Int} {r : Value} (hx : ev m u = some (.int k p)) (hy : ev m v = some (.int k' q)) (hr : (binOp bop t (.int k p) (.int k' q)).run P w = .ok r w) {dst : Option Tmp} {gd : Option (Nat × Bool)} :
    ∀ a, Fits a n m → (execOp a.eval { dst := dst, op := .binOp bop t u v t2, type := ty, pos := ps, after := af, guard := gd }).run P w = .ok (.value r) w := by
  intro a ha
  simp [execOp, ha.eval hx, ha.eval hy, eqGuard_int, hr]
end
end Go.Proofs.Ytoefhdaenaiomaa
