/- The types of the program that the walks meet: what the program's own table says of them. -/
import Derived.Test.YtoefhdaenaiomaaProg
import Derived.Test.YtoefhdaenaiomaaDraw
namespace Go.Proofs.Ytoefhdaenaiomaa
open Go
def lkT {α : Type} : List (Nat × α) → Nat → Option α
  | [], _ => none
  | (i, v) :: m, j => cond (Nat.beq i j) (some v) (lkT m j)
theorem lkT_mem {α : Type} : ∀ {l : List (Nat × α)} {i : Nat} {x : α}, lkT l i = some x → (i, x) ∈ l
  | [], i, x, h => by simp [lkT] at h
  | (j, v) :: m, i, x, h => by
    simp only [lkT] at h
    cases hb : Nat.beq j i with
    | true =>
      rw [hb] at h
      simp only [cond_true] at h
      injection h with h
      have : j = i := by simpa using hb
      subst this
      subst h
      exact List.mem_cons_self
    | false =>
      rw [hb] at h
      exact List.mem_cons_of_mem _ (lkT_mem h)
def Good (p : Nat × (TypeDesc × Nat × Nat × Value)) : Prop := Try.prog.underlying p.1 = some p.2.1 ∧ ∃ i, Try.prog.info? p.1 = some i ∧ i.size = p.2.2.1 ∧ i.bytes = p.2.2.2.1 ∧ i.zero = some p.2.2.2.2
noncomputable def tab : List (Nat × (TypeDesc × Nat × Nat × Value)) := [
  /- int64 -/ (2, (Try.t2.desc, 1, 8, (Value.int IntKind.i64 0))),
  /- int -/ (3, (Try.t3.desc, 1, 8, (Value.int IntKind.i64 0))),
  /- bool -/ (4, (Try.t4.desc, 1, 1, (Value.bool false))),
  /- uint8 -/ (5, (Try.t5.desc, 1, 1, (Value.int IntKind.u8 0))),
  /- string -/ (9, (Try.t9.desc, 1, 16, (Value.string { data := #[] }))),
  /- uintptr -/ (12, (Try.t12.desc, 1, 8, (Value.int IntKind.u64 0))),
  /- struct { msg string; addr uintptr } -/ (13, (Try.t13.desc, 2, 24, (Value.agg #[Value.string { data := #[] }, Value.int IntKind.u64 0]))),
  /- interface {} -/ (20, (Try.t20.desc, 1, 16, Value.nilIface)),
  /- int32 -/ (21, (Try.t21.desc, 1, 4, (Value.int IntKind.i32 0))),
  /- []uint8 -/ (22, (Try.t22.desc, 1, 24, (Value.slice none 0 0))),
  /- []bool -/ (23, (Try.t23.desc, 1, 24, (Value.slice none 0 0))),
  /- *drum.Drum -/ (26, (Try.t26.desc, 1, 8, (Value.pointer none))),
  /- interface { Error() string } -/ (27, (Try.t27.desc, 1, 16, Value.nilIface)),
  /- error -/ (28, (Try.t27.desc, 1, 16, Value.nilIface)),
  /- [][]uint8 -/ (41, (Try.t41.desc, 1, 24, (Value.slice none 0 0))),
  /- uint16 -/ (44, (Try.t44.desc, 1, 2, (Value.int IntKind.u16 0))),
  /- uint32 -/ (45, (Try.t45.desc, 1, 4, (Value.int IntKind.u32 0))),
  /- api.Errno -/ (48, (Try.t3.desc, 1, 8, (Value.int IntKind.i64 0))),
  /- []drum.block -/ (49, (Try.t49.desc, 1, 24, (Value.slice none 0 0))),
  /- []drum.write -/ (50, (Try.t50.desc, 1, 24, (Value.slice none 0 0))),
  /- struct { l []drum.block; wait []drum.write; left int } -/ (51, (Try.t51.desc, 3, 56, (Value.agg #[Value.slice none 0 0, Value.slice none 0 0, Value.int IntKind.i64 0]))),
  /- drum.Drum -/ (52, (Try.t51.desc, 3, 56, (Value.agg #[Value.slice none 0 0, Value.slice none 0 0, Value.int IntKind.i64 0]))),
  /- [256]uint8 -/ (54, (Try.t54.desc, 256, 256, (Value.agg (List.replicate 256 (Value.int IntKind.u8 0)).toArray))),
  /- drum.block -/ (55, (Try.t54.desc, 256, 256, (Value.agg (List.replicate 256 (Value.int IntKind.u8 0)).toArray))),
  /- struct { at int; b drum.block } -/ (56, (Try.t56.desc, 257, 264, (Value.agg ([Value.int IntKind.i64 0] ++ List.replicate 256 (Value.int IntKind.u8 0)).toArray))),
  /- drum.write -/ (57, (Try.t56.desc, 257, 264, (Value.agg ([Value.int IntKind.i64 0] ++ List.replicate 256 (Value.int IntKind.u8 0)).toArray))),
  /- uint -/ (61, (Try.t61.desc, 1, 8, (Value.int IntKind.u64 0))),
  /- *uint8 -/ (75, (Try.t75.desc, 1, 8, (Value.pointer none)))]
theorem good2 : Good (2, (Try.t2.desc, 1, 8, (Value.int IntKind.i64 0))) := ⟨by kernel_rfl, Try.t2, by kernel_rfl, rfl, rfl, by kernel_rfl⟩
theorem good3 : Good (3, (Try.t3.desc, 1, 8, (Value.int IntKind.i64 0))) := ⟨by kernel_rfl, Try.t3, by kernel_rfl, rfl, rfl, by kernel_rfl⟩
theorem good4 : Good (4, (Try.t4.desc, 1, 1, (Value.bool false))) := ⟨by kernel_rfl, Try.t4, by kernel_rfl, rfl, rfl, by kernel_rfl⟩
theorem good5 : Good (5, (Try.t5.desc, 1, 1, (Value.int IntKind.u8 0))) := ⟨by kernel_rfl, Try.t5, by kernel_rfl, rfl, rfl, by kernel_rfl⟩
theorem good9 : Good (9, (Try.t9.desc, 1, 16, (Value.string { data := #[] }))) := ⟨by kernel_rfl, Try.t9, by kernel_rfl, rfl, rfl, by kernel_rfl⟩
theorem good12 : Good (12, (Try.t12.desc, 1, 8, (Value.int IntKind.u64 0))) := ⟨by kernel_rfl, Try.t12, by kernel_rfl, rfl, rfl, by kernel_rfl⟩
theorem good13 : Good (13, (Try.t13.desc, 2, 24, (Value.agg #[Value.string { data := #[] }, Value.int IntKind.u64 0]))) := ⟨by kernel_rfl, Try.t13, by kernel_rfl, rfl, rfl, by kernel_rfl⟩
theorem good20 : Good (20, (Try.t20.desc, 1, 16, Value.nilIface)) := ⟨by kernel_rfl, Try.t20, by kernel_rfl, rfl, rfl, by kernel_rfl⟩
theorem good21 : Good (21, (Try.t21.desc, 1, 4, (Value.int IntKind.i32 0))) := ⟨by kernel_rfl, Try.t21, by kernel_rfl, rfl, rfl, by kernel_rfl⟩
theorem good22 : Good (22, (Try.t22.desc, 1, 24, (Value.slice none 0 0))) := ⟨by kernel_rfl, Try.t22, by kernel_rfl, rfl, rfl, by kernel_rfl⟩
theorem good23 : Good (23, (Try.t23.desc, 1, 24, (Value.slice none 0 0))) := ⟨by kernel_rfl, Try.t23, by kernel_rfl, rfl, rfl, by kernel_rfl⟩
theorem good26 : Good (26, (Try.t26.desc, 1, 8, (Value.pointer none))) := ⟨by kernel_rfl, Try.t26, by kernel_rfl, rfl, rfl, by kernel_rfl⟩
theorem good27 : Good (27, (Try.t27.desc, 1, 16, Value.nilIface)) := ⟨by kernel_rfl, Try.t27, by kernel_rfl, rfl, rfl, by kernel_rfl⟩
theorem good28 : Good (28, (Try.t27.desc, 1, 16, Value.nilIface)) := ⟨by kernel_rfl, Try.t28, by kernel_rfl, rfl, rfl, by kernel_rfl⟩
theorem good41 : Good (41, (Try.t41.desc, 1, 24, (Value.slice none 0 0))) := ⟨by kernel_rfl, Try.t41, by kernel_rfl, rfl, rfl, by kernel_rfl⟩
theorem good44 : Good (44, (Try.t44.desc, 1, 2, (Value.int IntKind.u16 0))) := ⟨by kernel_rfl, Try.t44, by kernel_rfl, rfl, rfl, by kernel_rfl⟩
theorem good45 : Good (45, (Try.t45.desc, 1, 4, (Value.int IntKind.u32 0))) := ⟨by kernel_rfl, Try.t45, by kernel_rfl, rfl, rfl, by kernel_rfl⟩
theorem good48 : Good (48, (Try.t3.desc, 1, 8, (Value.int IntKind.i64 0))) := ⟨by kernel_rfl, Try.t48, by kernel_rfl, rfl, rfl, by kernel_rfl⟩
theorem good49 : Good (49, (Try.t49.desc, 1, 24, (Value.slice none 0 0))) := ⟨by kernel_rfl, Try.t49, by kernel_rfl, rfl, rfl, by kernel_rfl⟩
theorem good50 : Good (50, (Try.t50.desc, 1, 24, (Value.slice none 0 0))) := ⟨by kernel_rfl, Try.t50, by kernel_rfl, rfl, rfl, by kernel_rfl⟩
theorem good51 : Good (51, (Try.t51.desc, 3, 56, (Value.agg #[Value.slice none 0 0, Value.slice none 0 0, Value.int IntKind.i64 0]))) := ⟨by kernel_rfl, Try.t51, by kernel_rfl, rfl, rfl, by kernel_rfl⟩
theorem good52 : Good (52, (Try.t51.desc, 3, 56, (Value.agg #[Value.slice none 0 0, Value.slice none 0 0, Value.int IntKind.i64 0]))) := ⟨by kernel_rfl, Try.t52, by kernel_rfl, rfl, rfl, by kernel_rfl⟩
theorem good54 : Good (54, (Try.t54.desc, 256, 256, (Value.agg (List.replicate 256 (Value.int IntKind.u8 0)).toArray))) := ⟨by kernel_rfl, Try.t54, by kernel_rfl, rfl, rfl, by kernel_rfl⟩
theorem good55 : Good (55, (Try.t54.desc, 256, 256, (Value.agg (List.replicate 256 (Value.int IntKind.u8 0)).toArray))) := ⟨by kernel_rfl, Try.t55, by kernel_rfl, rfl, rfl, by kernel_rfl⟩
theorem good56 : Good (56, (Try.t56.desc, 257, 264, (Value.agg ([Value.int IntKind.i64 0] ++ List.replicate 256 (Value.int IntKind.u8 0)).toArray))) := ⟨by kernel_rfl, Try.t56, by kernel_rfl, rfl, rfl, by kernel_rfl⟩
theorem good57 : Good (57, (Try.t56.desc, 257, 264, (Value.agg ([Value.int IntKind.i64 0] ++ List.replicate 256 (Value.int IntKind.u8 0)).toArray))) := ⟨by kernel_rfl, Try.t57, by kernel_rfl, rfl, rfl, by kernel_rfl⟩
theorem good61 : Good (61, (Try.t61.desc, 1, 8, (Value.int IntKind.u64 0))) := ⟨by kernel_rfl, Try.t61, by kernel_rfl, rfl, rfl, by kernel_rfl⟩
theorem good75 : Good (75, (Try.t75.desc, 1, 8, (Value.pointer none))) := ⟨by kernel_rfl, Try.t75, by kernel_rfl, rfl, rfl, by kernel_rfl⟩
theorem fldok13 : ∃ fs, Try.prog.underlying 13 = some (.struct fs) ∧ ∀ (i o : Nat), [0, 1][i]? = some o → ∃ f, fs[i]? = some f ∧ f.offset = o ∧ ∃ j, Try.prog.info? f.type = some j ∧ j.size ≠ 0 := by
  refine ⟨_, Try.underlying13, fun i o h => ?_⟩
  match i, h with
  | 0, h =>
    obtain rfl : 0 = o := Option.some.inj h
    exact ⟨_, rfl, rfl, _, rfl, by decide⟩
  | 1, h =>
    obtain rfl : 1 = o := Option.some.inj h
    exact ⟨_, rfl, rfl, _, rfl, by decide⟩
  | k + 2, h => simp at h
theorem fldok51 : ∃ fs, Try.prog.underlying 51 = some (.struct fs) ∧ ∀ (i o : Nat), [0, 1, 2][i]? = some o → ∃ f, fs[i]? = some f ∧ f.offset = o ∧ ∃ j, Try.prog.info? f.type = some j ∧ j.size ≠ 0 := by
  refine ⟨_, Try.underlying51, fun i o h => ?_⟩
  match i, h with
  | 0, h =>
    obtain rfl : 0 = o := Option.some.inj h
    exact ⟨_, rfl, rfl, _, rfl, by decide⟩
  | 1, h =>
    obtain rfl : 1 = o := Option.some.inj h
    exact ⟨_, rfl, rfl, _, rfl, by decide⟩
  | 2, h =>
    obtain rfl : 2 = o := Option.some.inj h
    exact ⟨_, rfl, rfl, _, rfl, by decide⟩
  | k + 3, h => simp at h
theorem fldok52 : ∃ fs, Try.prog.underlying 52 = some (.struct fs) ∧ ∀ (i o : Nat), [0, 1, 2][i]? = some o → ∃ f, fs[i]? = some f ∧ f.offset = o ∧ ∃ j, Try.prog.info? f.type = some j ∧ j.size ≠ 0 := by
  refine ⟨_, Try.underlying52, fun i o h => ?_⟩
  match i, h with
  | 0, h =>
    obtain rfl : 0 = o := Option.some.inj h
    exact ⟨_, rfl, rfl, _, rfl, by decide⟩
  | 1, h =>
    obtain rfl : 1 = o := Option.some.inj h
    exact ⟨_, rfl, rfl, _, rfl, by decide⟩
  | 2, h =>
    obtain rfl : 2 = o := Option.some.inj h
    exact ⟨_, rfl, rfl, _, rfl, by decide⟩
  | k + 3, h => simp at h
theorem fldok56 : ∃ fs, Try.prog.underlying 56 = some (.struct fs) ∧ ∀ (i o : Nat), [0, 1][i]? = some o → ∃ f, fs[i]? = some f ∧ f.offset = o ∧ ∃ j, Try.prog.info? f.type = some j ∧ j.size ≠ 0 := by
  refine ⟨_, Try.underlying56, fun i o h => ?_⟩
  match i, h with
  | 0, h =>
    obtain rfl : 0 = o := Option.some.inj h
    exact ⟨_, rfl, rfl, _, rfl, by decide⟩
  | 1, h =>
    obtain rfl : 1 = o := Option.some.inj h
    exact ⟨_, rfl, rfl, _, rfl, by decide⟩
  | k + 2, h => simp at h
theorem fldok57 : ∃ fs, Try.prog.underlying 57 = some (.struct fs) ∧ ∀ (i o : Nat), [0, 1][i]? = some o → ∃ f, fs[i]? = some f ∧ f.offset = o ∧ ∃ j, Try.prog.info? f.type = some j ∧ j.size ≠ 0 := by
  refine ⟨_, Try.underlying57, fun i o h => ?_⟩
  match i, h with
  | 0, h =>
    obtain rfl : 0 = o := Option.some.inj h
    exact ⟨_, rfl, rfl, _, rfl, by decide⟩
  | 1, h =>
    obtain rfl : 1 = o := Option.some.inj h
    exact ⟨_, rfl, rfl, _, rfl, by decide⟩
  | k + 2, h => simp at h
def flds : List (Nat × List Nat) := [(13, [0, 1]), (51, [0, 1, 2]), (52, [0, 1, 2]), (56, [0, 1]), (57, [0, 1])]
theorem flds_ok : ∀ p ∈ flds, ∃ fs, Try.prog.underlying p.1 = some (.struct fs) ∧ ∀ (i o : Nat), p.2[i]? = some o → ∃ f, fs[i]? = some f ∧ f.offset = o ∧ ∃ j, Try.prog.info? f.type = some j ∧ j.size ≠ 0 := by
  intro p hp
  simp only [flds, List.mem_cons, List.not_mem_nil, or_false] at hp
  rcases hp with rfl | rfl | rfl | rfl | rfl
  · exact fldok13
  · exact fldok51
  · exact fldok52
  · exact fldok56
  · exact fldok57
theorem tab_good : ∀ p ∈ tab, Good p := by
  intro p hp
  simp only [tab, List.mem_cons, List.not_mem_nil, or_false] at hp
  rcases hp with rfl | rfl | rfl | rfl | rfl | rfl | rfl | rfl | rfl | rfl | rfl | rfl | rfl | rfl | rfl | rfl | rfl | rfl | rfl | rfl | rfl | rfl | rfl | rfl | rfl | rfl | rfl | rfl
  · exact good2
  · exact good3
  · exact good4
  · exact good5
  · exact good9
  · exact good12
  · exact good13
  · exact good20
  · exact good21
  · exact good22
  · exact good23
  · exact good26
  · exact good27
  · exact good28
  · exact good41
  · exact good44
  · exact good45
  · exact good48
  · exact good49
  · exact good50
  · exact good51
  · exact good52
  · exact good54
  · exact good55
  · exact good56
  · exact good57
  · exact good61
  · exact good75
noncomputable def E : Env Try.prog where
  ty := fun i => (lkT tab i).map fun x => (x.1, x.2.1)
  ok := by
    intro i d s h
    cases hx : lkT tab i with
    | none => simp [hx] at h
    | some x =>
      simp only [hx, Option.map_some, Option.some.injEq, Prod.mk.injEq] at h
      obtain ⟨h1, j, h2, h3, _⟩ := tab_good _ (lkT_mem hx)
      exact ⟨by rw [h1, ← h.1], by rw [h2, ← h.2]; simp [h3]⟩
  fld := fun i => lkT flds i
  fld_ok := fun s l h => flds_ok _ (lkT_mem h)
  info := fun i => (lkT tab i).map fun x => x.2
  info_ok := by
    intro i s b z h
    cases hx : lkT tab i with
    | none => simp [hx] at h
    | some x =>
      simp only [hx, Option.map_some, Option.some.injEq] at h
      obtain ⟨_, j, h2, h3, h4, h5⟩ := tab_good _ (lkT_mem hx)
      refine ⟨j, h2, ?_, ?_, ?_⟩
      · rw [h3, h]
      · rw [h4, h]
      · rw [h5, h]
end Go.Proofs.Ytoefhdaenaiomaa
