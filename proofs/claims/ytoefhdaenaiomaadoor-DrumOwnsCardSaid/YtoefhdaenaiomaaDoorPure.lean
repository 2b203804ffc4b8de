/- Operations that touch no memory: what they come to, as a function of the known slots. -/
import Derived.Test.YtoefhdaenaiomaaDoorEngine
namespace Go.Proofs.YtoefhdaenaiomaaDoor
open Go

/-- What is known of the program's types: the underlying description, and how many cells. -/
structure Env (P : Program) where
  ty : Nat → Option (TypeDesc × Nat)
  ok : ∀ i d s, ty i = some (d, s) → P.underlying i = some d ∧ (P.info? i).map (·.size) = some s
  /-- a struct's fields: their offsets -/
  fld : Nat → Option (List Nat)
  fld_ok : ∀ s l, fld s = some l → ∃ fs, P.underlying s = some (.struct fs) ∧ ∀ (i o : Nat), l[i]? = some o → ∃ f, fs[i]? = some f ∧ f.offset = o ∧ ∃ j, P.info? f.type = some j ∧ j.size ≠ 0
  /-- cells, bytes, the zero value -/
  info : Nat → Option (Nat × Nat × Value)
  info_ok : ∀ t s b z, info t = some (s, b, z) → ∃ i, P.info? t = some i ∧ i.size = s ∧ i.bytes = b ∧ i.zero = some z

def cmpOp : BinOp → Int → Int → Option Bool
  | .eql, x, y => some (decide (x = y))
  | .neq, x, y => some (decide (x ≠ y))
  | .lss, x, y => some (decide (x < y))
  | .leq, x, y => some (decide (x ≤ y))
  | .gtr, x, y => some (decide (y < x))
  | .geq, x, y => some (decide (y ≤ x))
  | _, _, _ => none

def arOp : BinOp → Int → Int → Option Int
  | .add, x, y => some (x + y)
  | .sub, x, y => some (x - y)
  | .mul, x, y => some (x * y)
  | _, _, _ => none

def isC : Operand → Bool
  | .const _ => true
  | _ => false

/-- '==' where it is plain: pointers, errors and slices held against nil; two bools. -/
def eqP (d : TypeDesc) (yc : Bool) : Value → Value → Option Bool
  | .pointer a, .pointer none => match d with | .pointer _ => some a.isNone | _ => none
  | .iface _ _, .nilIface => match d with | .interface _ => some false | _ => none
  | .nilIface, .nilIface => match d with | .interface _ => if yc then some true else none | _ => none
  | .slice a _ _, .slice none _ _ => match d with | .slice _ => some a.isNone | _ => none
  | .bool a, .bool b => match d with | .bool => some (decide (a = b)) | _ => none
  | _, _ => none

def pv (ty : Nat → Option (TypeDesc × Nat)) (fld : Nat → Option (List Nat)) (m : Fm) : Op → Option Value
  | .move x => ev m x
  | .assign x => ev m x
  | .pick c a b => match ev m c with
    | some (.bool true) => ev m a
    | some (.bool false) => ev m b
    | _ => none
  | .extract x i => match ev m x with
    | some (.tuple vs) => vs[i]?
    | _ => none
  | .nilCheck x => match ev m x with
    | some (.pointer (some p)) => some (.pointer (some p))
    | _ => none
  | .unOp .not _ x => match ev m x with
    | some (.bool b) => some (.bool (!b))
    | _ => none
  | .makeInterface t x => match ty t, ev m x with
    | some (.interface _, _), _ => none
    | some _, some v => some (.iface t v)
    | _, _ => none
  | .fieldAddr s x i => match fld s, ev m x with
    | some l, some (.pointer (some ⟨b, o, none⟩)) => match l[i]? with
      | some f => some (.pointer (some ⟨b, o + f, none⟩))
      | none => none
    | _, _ => none
  | .convert s t x => match ty s, ty t, ev m x with
    | some _, some (.int k, _), some (.int _ n) => some (.int k (k.wrap n))
    | _, _, _ => none
  | .binOp op t x y _ => match ev m x, ev m y with
    | some (.int k a), some (.int k' b) => if k = k' then
        match op with
        | .shl => none
        | .shr => none
        | _ => match cmpOp op a b with
          | some c => some (.bool c)
          | none => match arOp op a b with
            | some c => some (.int k (k.wrap c))
            | none => none
      else none
    | some u, some v => match ty t with
      | some (d, _) => match op with
        | .eql => (eqP d (isC y) u v).map .bool
        | .neq => (eqP d (isC y) u v).map fun b => .bool (!b)
        | _ => none
      | none => none
    | _, _ => none
  | .call c => match c.callee with
    | .builtin .len => match c.args.toList, c.argTypes[0]? with
      | [x], some t => match ev m x, ty t with
        | some (.slice _ l _), some (.slice _, _) => some (.int .i64 l)
        | _, _ => none
      | _, _ => none
    | _ => none
  | _ => none

section
variable {P : Program} {m : Fm} {n : Nat} {a : Act} {w : World}

theorem run_cmp (op : BinOp) (t : TypeId) (k : IntKind) (x y : Int) {c : Bool} (h : cmpOp op x y = some c) : (binOp op t (.int k x) (.int k y)).run P w = .ok (.bool c) w := by
  cases op <;> simp only [cmpOp] at h <;> first | cases h | skip
  · have : (x == y) = decide (x = y) := by by_cases hxy : x = y <;> simp [hxy]
    simp [binOp, Op.intCmp, this]
  · have : (x != y) = decide (x ≠ y) := by by_cases hxy : x = y <;> simp [hxy]
    simp [binOp, Op.intCmp, this]
  · simp [binOp, Op.intCmp]
  · simp [binOp, Op.intCmp]
  · simp [binOp, Op.intCmp]
  · simp [binOp, Op.intCmp]

theorem run_ar (op : BinOp) (t : TypeId) (k : IntKind) (x y : Int) {c : Int} (h : arOp op x y = some c) : (binOp op t (.int k x) (.int k y)).run P w = .ok (.int k (k.wrap c)) w := by
  cases op <;> simp [arOp] at h <;> subst h <;> simp [binOp, Op.intArith]

theorem eqGuard_int (op : BinOp) (t : TypeId) (x y : Operand) (k k' : IntKind) (p q : Int) : (eqGuard op t x y (.int k p) (.int k' q)).run P w = .ok () w := by
  unfold eqGuard
  cases op <;> simp

section
variable {t : TypeId}
variable (dp : Nat)
theorem eq_ptr' {e : TypeId} (hu : P.underlying t = some (.pointer e)) (p : Option Addr) : (Op.equalIn (dp + 1) t (.pointer p) (.pointer none)).run P w = .ok p.isNone w := by
  cases p <;> simp [Op.equalIn, run_underlying hu]
theorem eq_ifc' {ms : Array (String × TypeId)} (hu : P.underlying t = some (.interface ms)) (tv : TypeId) (v : Value) : (Op.equalIn (dp + 1) t (.iface tv v) .nilIface).run P w = .ok false w := by
  simp [Op.equalIn, run_underlying hu]
theorem eq_nil' {ms : Array (String × TypeId)} (hu : P.underlying t = some (.interface ms)) : (Op.equalIn (dp + 1) t .nilIface .nilIface).run P w = .ok true w := by
  simp [Op.equalIn, run_underlying hu]
theorem eq_sl' {e : TypeId} (hu : P.underlying t = some (.slice e)) (p : Option Addr) (l c l' c' : Nat) : (Op.equalIn (dp + 1) t (.slice p l c) (.slice none l' c')).run P w = .ok p.isNone w := by
  cases p <;> simp [Op.equalIn, run_underlying hu]
theorem eq_bool' (hu : P.underlying t = some .bool) (p q : Bool) : (Op.equalIn (dp + 1) t (.bool p) (.bool q)).run P w = .ok (decide (p = q)) w := by
  simp [Op.equalIn, run_underlying hu]
  cases p <;> cases q <;> rfl
theorem eq_ptr {e : TypeId} (hu : P.underlying t = some (.pointer e)) (p : Option Addr) : (Op.equal t (.pointer p) (.pointer none)).run P w = .ok p.isNone w :=
  eq_ptr' 9999 hu p
theorem eq_ifc {ms : Array (String × TypeId)} (hu : P.underlying t = some (.interface ms)) (tv : TypeId) (v : Value) : (Op.equal t (.iface tv v) .nilIface).run P w = .ok false w :=
  eq_ifc' 9999 hu tv v
theorem eq_nil {ms : Array (String × TypeId)} (hu : P.underlying t = some (.interface ms)) : (Op.equal t .nilIface .nilIface).run P w = .ok true w :=
  eq_nil' 9999 hu
theorem eq_sl {e : TypeId} (hu : P.underlying t = some (.slice e)) (p : Option Addr) (l c l' c' : Nat) : (Op.equal t (.slice p l c) (.slice none l' c')).run P w = .ok p.isNone w :=
  eq_sl' 9999 hu p l c l' c'
theorem eq_bool (hu : P.underlying t = some .bool) (p q : Bool) : (Op.equal t (.bool p) (.bool q)).run P w = .ok (decide (p = q)) w :=
  eq_bool' 9999 hu p q
end

theorem run_eqP {t : TypeId} {d : TypeDesc} (hu : P.underlying t = some d) (y : Operand) {u v : Value} {c : Bool} (h : eqP d (isC y) u v = some c) (op : BinOp) (ho : op = .eql ∨ op = .neq) :
    (∀ x, (eqGuard op t x y u v).run P w = .ok () w) ∧ ((binOp .eql t u v).run P w = .ok (.bool c) w) ∧ ((binOp .neq t u v).run P w = .ok (.bool (!c)) w) := by
  unfold eqP at h
  split at h
  · split at h
    · injection h with h
      subst h
      refine ⟨by intro x; rcases ho with rfl | rfl <;> simp [eqGuard], ?_, ?_⟩ <;> simp [binOp, eq_ptr hu]
    · cases h
  · split at h
    · injection h with h
      subst h
      refine ⟨by intro x; rcases ho with rfl | rfl <;> simp [eqGuard], ?_, ?_⟩ <;> simp [binOp, eq_ifc hu]
    · cases h
  · split at h
    · split at h
      · injection h with h
        subst h
        rename_i hy
        have hg : ∀ x, (eqGuard op t x y .nilIface .nilIface).run P w = .ok () w := by
          intro x
          cases y <;> simp [isC] at hy
          rcases ho with rfl | rfl <;> simp [eqGuard]
        refine ⟨hg, ?_, ?_⟩ <;> simp [binOp, eq_nil hu]
      · cases h
    · cases h
  · split at h
    · injection h with h
      subst h
      refine ⟨by intro x; rcases ho with rfl | rfl <;> simp [eqGuard], ?_, ?_⟩ <;> simp [binOp, eq_sl hu]
    · cases h
  · split at h
    · injection h with h
      subst h
      refine ⟨by intro x; rcases ho with rfl | rfl <;> simp [eqGuard], ?_, ?_⟩ <;> simp [binOp, eq_bool hu]
    · cases h
  · cases h

theorem run_pv (E : Env P) (hf : Fits a n m) {op : Op} {v : Value} (h : pv E.ty E.fld m op = some v) (dst : Option Tmp) (ty : TypeId) (ps : String) (af : Array Edge) (gd : Option (Nat × Bool)) :
    (execOp a.eval { dst := dst, op := op, type := ty, pos := ps, after := af, guard := gd }).run P w = .ok (.value v) w := by
  unfold pv at h
  split at h
  · simp [execOp, hf.eval h]
  · simp [execOp, hf.eval h]
  · split at h
    · rename_i hc
      simp [execOp, hf.eval hc, hf.eval h, asBool]
    · rename_i hc
      simp [execOp, hf.eval hc, hf.eval h, asBool]
    · cases h
  · split at h
    · rename_i hc
      simp [execOp, hf.eval hc, Instr.extract, h]
    · cases h
  · split at h
    · rename_i hc
      injection h with h
      subst h
      simp [execOp, hf.eval hc]
    · cases h
  · split at h
    · rename_i hc
      injection h with h
      subst h
      simp [execOp, hf.eval hc, Op.unary]
    · cases h
  · split at h
    · cases h
    · rename_i hn ht hx
      injection h with h
      subst h
      rename_i ds v'
      obtain ⟨d, s⟩ := ds
      have hu := (E.ok _ _ _ ht).1
      have hni : ∀ ms, d ≠ .interface ms := fun ms hd => hn ms s (by rw [hd])
      simp only [execOp, Instr.makeInterface, Sem.run_bind, run_underlying hu, hf.eval hx, Result.andThen_ok]
      cases d <;> first | rfl | exact absurd rfl (hni _)
    · cases h
  · split at h
    · rename_i hs hx
      split at h
      · rename_i fd hfd
        injection h with h
        subst h
        obtain ⟨fs, hu, hall⟩ := E.fld_ok _ _ hs
        obtain ⟨fe, h1, h2, j, h3, h4⟩ := hall _ _ hfd
        subst h2
        simp [execOp, Instr.fieldAt, run_underlying hu, h1, hf.eval hx, Instr.sureAddr, fieldPlace, sizeOf, typeInfo, h3, h4, Addr.add]
        try (intro h0; simp [h0])
      · cases h
    · cases h
  · split at h
    · rename_i hs ht hx
      injection h with h
      subst h
      obtain ⟨d, s⟩ := ‹TypeDesc × Nat›
      have h1 := (E.ok _ _ _ hs).1
      have h2 := (E.ok _ _ _ ht).1
      simp [execOp, convert, run_underlying h1, run_underlying h2, hf.eval hx, Conv.intToInt]
    · cases h
  · split at h
    · rename_i hx hy
      split at h
      · rename_i hk
        subst hk
        split at h
        · cases h
        · cases h
        · split at h
          · rename_i hc
            injection h with h
            subst h
            simp [execOp, hf.eval hx, hf.eval hy, eqGuard_int, run_cmp _ _ _ _ _ hc]
          · split at h
            · rename_i hc
              injection h with h
              subst h
              simp [execOp, hf.eval hx, hf.eval hy, eqGuard_int, run_ar _ _ _ _ _ hc]
            · cases h
      · cases h
    · rename_i hx hy
      split at h
      · rename_i ht
        have hu := (E.ok _ _ _ ht).1
        split at h
        · cases hq : eqP _ _ _ _ with
          | none => rw [hq] at h; cases h
          | some c =>
            rw [hq] at h
            simp at h
            subst h
            obtain ⟨h1, h4, _⟩ := run_eqP (w := w) hu _ hq .eql (.inl rfl)
            simp [execOp, hf.eval hx, hf.eval hy, h1, h4]
        · cases hq : eqP _ _ _ _ with
          | none => rw [hq] at h; cases h
          | some c =>
            rw [hq] at h
            simp at h
            subst h
            obtain ⟨h1, _, h5⟩ := run_eqP (w := w) hu _ hq .neq (.inr rfl)
            simp [execOp, hf.eval hx, hf.eval hy, h1, h5]
        · cases h
      · cases h
    · cases h
  · rename_i c
    split at h
    · rename_i hcal
      split at h
      · rename_i x t hxs hts
        split at h
        · rename_i hx ht
          injection h with h
          subst h
          have hu := (E.ok _ _ _ ht).1
          obtain ⟨callee, args, ats⟩ := c
          simp only at hcal hxs hts
          subst hcal
          have hxs' : args = #[x] := by
            apply Array.toList_inj.1
            simpa using hxs
          subst hxs'
          simp [execOp, resolve, invoke, builtin, Builtin.len_, hts, run_underlying hu, hf.eval hx, goInt]
        · cases h
      · cases h
    · cases h
  · cases h
end

section
variable {P : Program} {f : FuncId} {R : Ending → World → Prop} {n : Nat} {k : List Item} {m : Fm} {Z : Act → World → Prop} {ops : Array Oper} {rest : List Oper} {w : World}
variable {d : Nat} {ty : TypeId} {ps : String} {af : Array Edge}

theorem U_pure (E : Env P) {op : Op} {v : Value} (h : pv E.ty E.fld m op = some v) (hd : Nat.blt d n = true) (hn : U P n Z ops rest ((d, v) :: m) w) :
    U P n Z ops ({ dst := some d, op := op, type := ty, pos := ps, after := af, guard := none } :: rest) m w :=
  U_run rfl rfl hd (fun _ ha => run_pv E ha h _ _ _ _ _) hn

theorem U_ar {bop : BinOp} {t t2 : TypeId} {x y : Operand} {kd : IntKind} {p q r : Int} (hx : ev m x = some (.int kd p)) (hy : ev m y = some (.int kd q)) (hr : arOp bop p q = some r) (hw : kd.wrap r = r) (hd : Nat.blt d n = true)
    (hn : U P n Z ops rest ((d, .int kd r) :: m) w) :
    U P n Z ops ({ dst := some d, op := .binOp bop t x y t2, type := ty, pos := ps, after := af, guard := none } :: rest) m w :=
  U_run rfl rfl hd (fun a ha => by simp [execOp, ha.eval hx, ha.eval hy, eqGuard_int, run_ar _ _ _ _ _ hr, hw]) hn

theorem wrap_i64 {r : Int} (h : -9223372036854775808 ≤ r ∧ r ≤ 9223372036854775807) : IntKind.i64.wrap r = r := by
  simp [IntKind.wrap, IntKind.bits, IntKind.signed]
  omega
theorem wrap_u8 {r : Int} (h : 0 ≤ r ∧ r < 256) : IntKind.u8.wrap r = r := by
  simp [IntKind.wrap, IntKind.bits, IntKind.signed]
  omega
theorem wrap_u32 {r : Int} (h : 0 ≤ r ∧ r < 4294967296) : IntKind.u32.wrap r = r := by
  simp [IntKind.wrap, IntKind.bits, IntKind.signed]
  omega
theorem wrap_u64 {r : Int} (h : 0 ≤ r ∧ r < 18446744073709551616) : IntKind.u64.wrap r = r := by
  simp [IntKind.wrap, IntKind.bits, IntKind.signed]
  omega
end
end Go.Proofs.YtoefhdaenaiomaaDoor
