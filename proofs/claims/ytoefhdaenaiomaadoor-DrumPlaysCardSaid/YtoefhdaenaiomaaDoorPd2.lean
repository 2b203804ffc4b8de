/- The types of the program that the walks meet: what the program's own table says of them. -/
import Derived.Test.YtoefhdaenaiomaaDoorProg
import Derived.Test.YtoefhdaenaiomaaDoorPd1
set_option linter.unusedVariables false
set_option linter.unusedSimpArgs false
namespace Go.Proofs.YtoefhdaenaiomaaDoor
open Go
def lkT {α : Type} : List (Nat × α) → Nat → Option α
  | [], _ => none
  | (i, v) :: m, j => cond (Nat.beq i j) (some v) (lkT m j)
theorem lkT_mem {α : Type} : ∀ {l : List (Nat × α)} {i : Nat} {x : α}, lkT l i = some x → (i, x) ∈ l
  | [], i, x, h => by simp [lkT] at h
  | (j, v) :: m, i, x, h => by
    simp only [lkT] at h
    cases hb : Nat.beq j i with
    | true =>
      rw [hb] at h
      simp only [cond_true] at h
      injection h with h
      have : j = i := by simpa using hb
      subst this
      subst h
      exact List.mem_cons_self
    | false =>
      rw [hb] at h
      exact List.mem_cons_of_mem _ (lkT_mem h)
def Good (p : Nat × (TypeDesc × Nat × Nat × Value)) : Prop := Tryd.prog.underlying p.1 = some p.2.1 ∧ ∃ i, Tryd.prog.info? p.1 = some i ∧ i.size = p.2.2.1 ∧ i.bytes = p.2.2.2.1 ∧ i.zero = some p.2.2.2.2
noncomputable def tab : List (Nat × (TypeDesc × Nat × Nat × Value)) := [
  /- int64 -/ (2, (Tryd.t2.desc, 1, 8, (Value.int IntKind.i64 0))),
  /- int -/ (3, (Tryd.t3.desc, 1, 8, (Value.int IntKind.i64 0))),
  /- bool -/ (4, (Tryd.t4.desc, 1, 1, (Value.bool false))),
  /- uint8 -/ (5, (Tryd.t5.desc, 1, 1, (Value.int IntKind.u8 0))),
  /- string -/ (9, (Tryd.t9.desc, 1, 16, (Value.string { data := #[] }))),
  /- uintptr -/ (12, (Tryd.t12.desc, 1, 8, (Value.int IntKind.u64 0))),
  /- struct { msg string; addr uintptr } -/ (13, (Tryd.t13.desc, 2, 24, (Value.agg #[Value.string { data := #[] }, Value.int IntKind.u64 0]))),
  /- interface {} -/ (20, (Tryd.t20.desc, 1, 16, Value.nilIface)),
  /- int32 -/ (21, (Tryd.t21.desc, 1, 4, (Value.int IntKind.i32 0))),
  /- uint32 -/ (22, (Tryd.t22.desc, 1, 4, (Value.int IntKind.u32 0))),
  /- []uint8 -/ (23, (Tryd.t23.desc, 1, 24, (Value.slice none 0 0))),
  /- interface { Error() string } -/ (27, (Tryd.t27.desc, 1, 16, Value.nilIface)),
  /- error -/ (28, (Tryd.t27.desc, 1, 16, Value.nilIface)),
  /- *drum.Drum -/ (33, (Tryd.t33.desc, 1, 8, (Value.pointer none))),
  /- api.Errno -/ (39, (Tryd.t3.desc, 1, 8, (Value.int IntKind.i64 0))),
  /- []arrearsref01.Act -/ (44, (Tryd.t44.desc, 1, 24, (Value.slice none 0 0))),
  /- *arrearsref01.Drum -/ (45, (Tryd.t45.desc, 1, 8, (Value.pointer none))),
  /- []bool -/ (47, (Tryd.t47.desc, 1, 24, (Value.slice none 0 0))),
  /- struct { Do uint8; At int; P []uint8; Keep []bool; N int; Mask uint32 } -/ (48, (Tryd.t48.desc, 6, 80, (Value.agg
        #[Value.int IntKind.u8 0, Value.int IntKind.i64 0, Value.slice none 0 0, Value.slice none 0 0,
          Value.int IntKind.i64 0, Value.int IntKind.u32 0]))),
  /- arrearsref01.Act -/ (49, (Tryd.t48.desc, 6, 80, (Value.agg
        #[Value.int IntKind.u8 0, Value.int IntKind.i64 0, Value.slice none 0 0, Value.slice none 0 0,
          Value.int IntKind.i64 0, Value.int IntKind.u32 0]))),
  /- uint16 -/ (69, (Tryd.t69.desc, 1, 2, (Value.int IntKind.u16 0))),
  /- [][]uint8 -/ (73, (Tryd.t73.desc, 1, 24, (Value.slice none 0 0))),
  /- *reel.Reel -/ (75, (Tryd.t75.desc, 1, 8, (Value.pointer none))),
  /- uint64 -/ (94, (Tryd.t94.desc, 1, 8, (Value.int IntKind.u64 0))),
  /- []drum.block -/ (96, (Tryd.t96.desc, 1, 24, (Value.slice none 0 0))),
  /- []drum.write -/ (97, (Tryd.t97.desc, 1, 24, (Value.slice none 0 0))),
  /- struct { l []drum.block; wait []drum.write; left int } -/ (98, (Tryd.t98.desc, 3, 56, (Value.agg #[Value.slice none 0 0, Value.slice none 0 0, Value.int IntKind.i64 0]))),
  /- drum.Drum -/ (99, (Tryd.t98.desc, 3, 56, (Value.agg #[Value.slice none 0 0, Value.slice none 0 0, Value.int IntKind.i64 0]))),
  /- [256]uint8 -/ (100, (Tryd.t100.desc, 256, 256, (Value.agg (List.replicate 256 (Value.int IntKind.u8 0)).toArray))),
  /- drum.block -/ (101, (Tryd.t100.desc, 256, 256, (Value.agg (List.replicate 256 (Value.int IntKind.u8 0)).toArray))),
  /- struct { at int; b drum.block } -/ (102, (Tryd.t102.desc, 257, 264, (Value.agg ([Value.int IntKind.i64 0] ++ List.replicate 256 (Value.int IntKind.u8 0)).toArray))),
  /- drum.write -/ (103, (Tryd.t102.desc, 257, 264, (Value.agg ([Value.int IntKind.i64 0] ++ List.replicate 256 (Value.int IntKind.u8 0)).toArray))),
  /- *api.Errno -/ (106, (Tryd.t106.desc, 1, 8, (Value.pointer none))),
  /- []arrearsref01.Deed -/ (109, (Tryd.t109.desc, 1, 24, (Value.slice none 0 0))),
  /- struct { First [][]uint8; Deeds []arrearsref01.Deed; Left int } -/ (110, (Tryd.t110.desc, 3, 56, (Value.agg #[Value.slice none 0 0, Value.slice none 0 0, Value.int IntKind.i64 0]))),
  /- arrearsref01.Drum -/ (111, (Tryd.t110.desc, 3, 56, (Value.agg #[Value.slice none 0 0, Value.slice none 0 0, Value.int IntKind.i64 0]))),
  /- struct { At int; P []uint8 } -/ (113, (Tryd.t113.desc, 2, 32, (Value.agg #[Value.int IntKind.i64 0, Value.slice none 0 0]))),
  /- arrearsref01.Deed -/ (114, (Tryd.t113.desc, 2, 32, (Value.agg #[Value.int IntKind.i64 0, Value.slice none 0 0]))),
  /- uint -/ (119, (Tryd.t119.desc, 1, 8, (Value.int IntKind.u64 0))),
  /- struct { d *drum.Drum; gen uint32; l [][]uint8; at int } -/ (127, (Tryd.t127.desc, 4, 48, (Value.agg
        #[Value.pointer none, Value.int IntKind.u32 0, Value.slice none 0 0,
          Value.int IntKind.i64 0]))),
  /- reel.Reel -/ (128, (Tryd.t127.desc, 4, 48, (Value.agg
        #[Value.pointer none, Value.int IntKind.u32 0, Value.slice none 0 0,
          Value.int IntKind.i64 0]))),
  /- [256]bool -/ (136, (Tryd.t136.desc, 256, 256, (Value.agg (List.replicate 256 (Value.bool false)).toArray))),
  /- bytes.asciiSet -/ (137, (Tryd.t136.desc, 256, 256, (Value.agg (List.replicate 256 (Value.bool false)).toArray))),
  /- *bytes.asciiSet -/ (141, (Tryd.t141.desc, 1, 8, (Value.pointer none))),
  /- interface { As(interface {}) bool } -/ (171, (Tryd.t171.desc, 1, 16, Value.nilIface)),
  /- interface { Unwrap() error } -/ (174, (Tryd.t174.desc, 1, 16, Value.nilIface)),
  /- interface { Unwrap() []error } -/ (175, (Tryd.t175.desc, 1, 16, Value.nilIface)),
  /- []error -/ (176, (Tryd.t176.desc, 1, 24, (Value.slice none 0 0))),
  /- struct { lo uint8; hi uint8 } -/ (179, (Tryd.t179.desc, 2, 2, (Value.agg #[Value.int IntKind.u8 0, Value.int IntKind.u8 0]))),
  /- utf8.acceptRange -/ (180, (Tryd.t179.desc, 2, 2, (Value.agg #[Value.int IntKind.u8 0, Value.int IntKind.u8 0]))),
  /- [16]utf8.acceptRange -/ (181, (Tryd.t181.desc, 32, 32, (Value.agg
        #[Value.int IntKind.u8 0, Value.int IntKind.u8 0, Value.int IntKind.u8 0,
          Value.int IntKind.u8 0, Value.int IntKind.u8 0, Value.int IntKind.u8 0,
          Value.int IntKind.u8 0, Value.int IntKind.u8 0, Value.int IntKind.u8 0,
          Value.int IntKind.u8 0, Value.int IntKind.u8 0, Value.int IntKind.u8 0,
          Value.int IntKind.u8 0, Value.int IntKind.u8 0, Value.int IntKind.u8 0,
          Value.int IntKind.u8 0, Value.int IntKind.u8 0, Value.int IntKind.u8 0,
          Value.int IntKind.u8 0, Value.int IntKind.u8 0, Value.int IntKind.u8 0,
          Value.int IntKind.u8 0, Value.int IntKind.u8 0, Value.int IntKind.u8 0,
          Value.int IntKind.u8 0, Value.int IntKind.u8 0, Value.int IntKind.u8 0,
          Value.int IntKind.u8 0, Value.int IntKind.u8 0, Value.int IntKind.u8 0,
          Value.int IntKind.u8 0, Value.int IntKind.u8 0]))),
  /- *uint8 -/ (191, (Tryd.t191.desc, 1, 8, (Value.pointer none))),
  /- *error -/ (208, (Tryd.t208.desc, 1, 8, (Value.pointer none)))]
theorem good2 : Good (2, (Tryd.t2.desc, 1, 8, (Value.int IntKind.i64 0))) := ⟨by kernel_rfl, Tryd.t2, by kernel_rfl, rfl, rfl, by kernel_rfl⟩
theorem good3 : Good (3, (Tryd.t3.desc, 1, 8, (Value.int IntKind.i64 0))) := ⟨by kernel_rfl, Tryd.t3, by kernel_rfl, rfl, rfl, by kernel_rfl⟩
theorem good4 : Good (4, (Tryd.t4.desc, 1, 1, (Value.bool false))) := ⟨by kernel_rfl, Tryd.t4, by kernel_rfl, rfl, rfl, by kernel_rfl⟩
theorem good5 : Good (5, (Tryd.t5.desc, 1, 1, (Value.int IntKind.u8 0))) := ⟨by kernel_rfl, Tryd.t5, by kernel_rfl, rfl, rfl, by kernel_rfl⟩
theorem good9 : Good (9, (Tryd.t9.desc, 1, 16, (Value.string { data := #[] }))) := ⟨by kernel_rfl, Tryd.t9, by kernel_rfl, rfl, rfl, by kernel_rfl⟩
theorem good12 : Good (12, (Tryd.t12.desc, 1, 8, (Value.int IntKind.u64 0))) := ⟨by kernel_rfl, Tryd.t12, by kernel_rfl, rfl, rfl, by kernel_rfl⟩
theorem good13 : Good (13, (Tryd.t13.desc, 2, 24, (Value.agg #[Value.string { data := #[] }, Value.int IntKind.u64 0]))) := ⟨by kernel_rfl, Tryd.t13, by kernel_rfl, rfl, rfl, by kernel_rfl⟩
theorem good20 : Good (20, (Tryd.t20.desc, 1, 16, Value.nilIface)) := ⟨by kernel_rfl, Tryd.t20, by kernel_rfl, rfl, rfl, by kernel_rfl⟩
theorem good21 : Good (21, (Tryd.t21.desc, 1, 4, (Value.int IntKind.i32 0))) := ⟨by kernel_rfl, Tryd.t21, by kernel_rfl, rfl, rfl, by kernel_rfl⟩
theorem good22 : Good (22, (Tryd.t22.desc, 1, 4, (Value.int IntKind.u32 0))) := ⟨by kernel_rfl, Tryd.t22, by kernel_rfl, rfl, rfl, by kernel_rfl⟩
theorem good23 : Good (23, (Tryd.t23.desc, 1, 24, (Value.slice none 0 0))) := ⟨by kernel_rfl, Tryd.t23, by kernel_rfl, rfl, rfl, by kernel_rfl⟩
theorem good27 : Good (27, (Tryd.t27.desc, 1, 16, Value.nilIface)) := ⟨by kernel_rfl, Tryd.t27, by kernel_rfl, rfl, rfl, by kernel_rfl⟩
theorem good28 : Good (28, (Tryd.t27.desc, 1, 16, Value.nilIface)) := ⟨by kernel_rfl, Tryd.t28, by kernel_rfl, rfl, rfl, by kernel_rfl⟩
theorem good33 : Good (33, (Tryd.t33.desc, 1, 8, (Value.pointer none))) := ⟨by kernel_rfl, Tryd.t33, by kernel_rfl, rfl, rfl, by kernel_rfl⟩
theorem good39 : Good (39, (Tryd.t3.desc, 1, 8, (Value.int IntKind.i64 0))) := ⟨by kernel_rfl, Tryd.t39, by kernel_rfl, rfl, rfl, by kernel_rfl⟩
theorem good44 : Good (44, (Tryd.t44.desc, 1, 24, (Value.slice none 0 0))) := ⟨by kernel_rfl, Tryd.t44, by kernel_rfl, rfl, rfl, by kernel_rfl⟩
theorem good45 : Good (45, (Tryd.t45.desc, 1, 8, (Value.pointer none))) := ⟨by kernel_rfl, Tryd.t45, by kernel_rfl, rfl, rfl, by kernel_rfl⟩
theorem good47 : Good (47, (Tryd.t47.desc, 1, 24, (Value.slice none 0 0))) := ⟨by kernel_rfl, Tryd.t47, by kernel_rfl, rfl, rfl, by kernel_rfl⟩
theorem good48 : Good (48, (Tryd.t48.desc, 6, 80, (Value.agg
        #[Value.int IntKind.u8 0, Value.int IntKind.i64 0, Value.slice none 0 0, Value.slice none 0 0,
          Value.int IntKind.i64 0, Value.int IntKind.u32 0]))) := ⟨by kernel_rfl, Tryd.t48, by kernel_rfl, rfl, rfl, by kernel_rfl⟩
theorem good49 : Good (49, (Tryd.t48.desc, 6, 80, (Value.agg
        #[Value.int IntKind.u8 0, Value.int IntKind.i64 0, Value.slice none 0 0, Value.slice none 0 0,
          Value.int IntKind.i64 0, Value.int IntKind.u32 0]))) := ⟨by kernel_rfl, Tryd.t49, by kernel_rfl, rfl, rfl, by kernel_rfl⟩
theorem good69 : Good (69, (Tryd.t69.desc, 1, 2, (Value.int IntKind.u16 0))) := ⟨by kernel_rfl, Tryd.t69, by kernel_rfl, rfl, rfl, by kernel_rfl⟩
theorem good73 : Good (73, (Tryd.t73.desc, 1, 24, (Value.slice none 0 0))) := ⟨by kernel_rfl, Tryd.t73, by kernel_rfl, rfl, rfl, by kernel_rfl⟩
theorem good75 : Good (75, (Tryd.t75.desc, 1, 8, (Value.pointer none))) := ⟨by kernel_rfl, Tryd.t75, by kernel_rfl, rfl, rfl, by kernel_rfl⟩
theorem good94 : Good (94, (Tryd.t94.desc, 1, 8, (Value.int IntKind.u64 0))) := ⟨by kernel_rfl, Tryd.t94, by kernel_rfl, rfl, rfl, by kernel_rfl⟩
theorem good96 : Good (96, (Tryd.t96.desc, 1, 24, (Value.slice none 0 0))) := ⟨by kernel_rfl, Tryd.t96, by kernel_rfl, rfl, rfl, by kernel_rfl⟩
theorem good97 : Good (97, (Tryd.t97.desc, 1, 24, (Value.slice none 0 0))) := ⟨by kernel_rfl, Tryd.t97, by kernel_rfl, rfl, rfl, by kernel_rfl⟩
theorem good98 : Good (98, (Tryd.t98.desc, 3, 56, (Value.agg #[Value.slice none 0 0, Value.slice none 0 0, Value.int IntKind.i64 0]))) := ⟨by kernel_rfl, Tryd.t98, by kernel_rfl, rfl, rfl, by kernel_rfl⟩
theorem good99 : Good (99, (Tryd.t98.desc, 3, 56, (Value.agg #[Value.slice none 0 0, Value.slice none 0 0, Value.int IntKind.i64 0]))) := ⟨by kernel_rfl, Tryd.t99, by kernel_rfl, rfl, rfl, by kernel_rfl⟩
theorem good100 : Good (100, (Tryd.t100.desc, 256, 256, (Value.agg (List.replicate 256 (Value.int IntKind.u8 0)).toArray))) := ⟨by kernel_rfl, Tryd.t100, by kernel_rfl, rfl, rfl, by kernel_rfl⟩
theorem good101 : Good (101, (Tryd.t100.desc, 256, 256, (Value.agg (List.replicate 256 (Value.int IntKind.u8 0)).toArray))) := ⟨by kernel_rfl, Tryd.t101, by kernel_rfl, rfl, rfl, by kernel_rfl⟩
theorem good102 : Good (102, (Tryd.t102.desc, 257, 264, (Value.agg ([Value.int IntKind.i64 0] ++ List.replicate 256 (Value.int IntKind.u8 0)).toArray))) := ⟨by kernel_rfl, Tryd.t102, by kernel_rfl, rfl, rfl, by kernel_rfl⟩
theorem good103 : Good (103, (Tryd.t102.desc, 257, 264, (Value.agg ([Value.int IntKind.i64 0] ++ List.replicate 256 (Value.int IntKind.u8 0)).toArray))) := ⟨by kernel_rfl, Tryd.t103, by kernel_rfl, rfl, rfl, by kernel_rfl⟩
theorem good106 : Good (106, (Tryd.t106.desc, 1, 8, (Value.pointer none))) := ⟨by kernel_rfl, Tryd.t106, by kernel_rfl, rfl, rfl, by kernel_rfl⟩
theorem good109 : Good (109, (Tryd.t109.desc, 1, 24, (Value.slice none 0 0))) := ⟨by kernel_rfl, Tryd.t109, by kernel_rfl, rfl, rfl, by kernel_rfl⟩
theorem good110 : Good (110, (Tryd.t110.desc, 3, 56, (Value.agg #[Value.slice none 0 0, Value.slice none 0 0, Value.int IntKind.i64 0]))) := ⟨by kernel_rfl, Tryd.t110, by kernel_rfl, rfl, rfl, by kernel_rfl⟩
theorem good111 : Good (111, (Tryd.t110.desc, 3, 56, (Value.agg #[Value.slice none 0 0, Value.slice none 0 0, Value.int IntKind.i64 0]))) := ⟨by kernel_rfl, Tryd.t111, by kernel_rfl, rfl, rfl, by kernel_rfl⟩
theorem good113 : Good (113, (Tryd.t113.desc, 2, 32, (Value.agg #[Value.int IntKind.i64 0, Value.slice none 0 0]))) := ⟨by kernel_rfl, Tryd.t113, by kernel_rfl, rfl, rfl, by kernel_rfl⟩
theorem good114 : Good (114, (Tryd.t113.desc, 2, 32, (Value.agg #[Value.int IntKind.i64 0, Value.slice none 0 0]))) := ⟨by kernel_rfl, Tryd.t114, by kernel_rfl, rfl, rfl, by kernel_rfl⟩
theorem good119 : Good (119, (Tryd.t119.desc, 1, 8, (Value.int IntKind.u64 0))) := ⟨by kernel_rfl, Tryd.t119, by kernel_rfl, rfl, rfl, by kernel_rfl⟩
theorem good127 : Good (127, (Tryd.t127.desc, 4, 48, (Value.agg
        #[Value.pointer none, Value.int IntKind.u32 0, Value.slice none 0 0,
          Value.int IntKind.i64 0]))) := ⟨by kernel_rfl, Tryd.t127, by kernel_rfl, rfl, rfl, by kernel_rfl⟩
theorem good128 : Good (128, (Tryd.t127.desc, 4, 48, (Value.agg
        #[Value.pointer none, Value.int IntKind.u32 0, Value.slice none 0 0,
          Value.int IntKind.i64 0]))) := ⟨by kernel_rfl, Tryd.t128, by kernel_rfl, rfl, rfl, by kernel_rfl⟩
theorem good136 : Good (136, (Tryd.t136.desc, 256, 256, (Value.agg (List.replicate 256 (Value.bool false)).toArray))) := ⟨by kernel_rfl, Tryd.t136, by kernel_rfl, rfl, rfl, by kernel_rfl⟩
theorem good137 : Good (137, (Tryd.t136.desc, 256, 256, (Value.agg (List.replicate 256 (Value.bool false)).toArray))) := ⟨by kernel_rfl, Tryd.t137, by kernel_rfl, rfl, rfl, by kernel_rfl⟩
theorem good141 : Good (141, (Tryd.t141.desc, 1, 8, (Value.pointer none))) := ⟨by kernel_rfl, Tryd.t141, by kernel_rfl, rfl, rfl, by kernel_rfl⟩
theorem good171 : Good (171, (Tryd.t171.desc, 1, 16, Value.nilIface)) := ⟨by kernel_rfl, Tryd.t171, by kernel_rfl, rfl, rfl, by kernel_rfl⟩
theorem good174 : Good (174, (Tryd.t174.desc, 1, 16, Value.nilIface)) := ⟨by kernel_rfl, Tryd.t174, by kernel_rfl, rfl, rfl, by kernel_rfl⟩
theorem good175 : Good (175, (Tryd.t175.desc, 1, 16, Value.nilIface)) := ⟨by kernel_rfl, Tryd.t175, by kernel_rfl, rfl, rfl, by kernel_rfl⟩
theorem good176 : Good (176, (Tryd.t176.desc, 1, 24, (Value.slice none 0 0))) := ⟨by kernel_rfl, Tryd.t176, by kernel_rfl, rfl, rfl, by kernel_rfl⟩
theorem good179 : Good (179, (Tryd.t179.desc, 2, 2, (Value.agg #[Value.int IntKind.u8 0, Value.int IntKind.u8 0]))) := ⟨by kernel_rfl, Tryd.t179, by kernel_rfl, rfl, rfl, by kernel_rfl⟩
theorem good180 : Good (180, (Tryd.t179.desc, 2, 2, (Value.agg #[Value.int IntKind.u8 0, Value.int IntKind.u8 0]))) := ⟨by kernel_rfl, Tryd.t180, by kernel_rfl, rfl, rfl, by kernel_rfl⟩
theorem good181 : Good (181, (Tryd.t181.desc, 32, 32, (Value.agg
        #[Value.int IntKind.u8 0, Value.int IntKind.u8 0, Value.int IntKind.u8 0,
          Value.int IntKind.u8 0, Value.int IntKind.u8 0, Value.int IntKind.u8 0,
          Value.int IntKind.u8 0, Value.int IntKind.u8 0, Value.int IntKind.u8 0,
          Value.int IntKind.u8 0, Value.int IntKind.u8 0, Value.int IntKind.u8 0,
          Value.int IntKind.u8 0, Value.int IntKind.u8 0, Value.int IntKind.u8 0,
          Value.int IntKind.u8 0, Value.int IntKind.u8 0, Value.int IntKind.u8 0,
          Value.int IntKind.u8 0, Value.int IntKind.u8 0, Value.int IntKind.u8 0,
          Value.int IntKind.u8 0, Value.int IntKind.u8 0, Value.int IntKind.u8 0,
          Value.int IntKind.u8 0, Value.int IntKind.u8 0, Value.int IntKind.u8 0,
          Value.int IntKind.u8 0, Value.int IntKind.u8 0, Value.int IntKind.u8 0,
          Value.int IntKind.u8 0, Value.int IntKind.u8 0]))) := ⟨by kernel_rfl, Tryd.t181, by kernel_rfl, rfl, rfl, by kernel_rfl⟩
theorem good191 : Good (191, (Tryd.t191.desc, 1, 8, (Value.pointer none))) := ⟨by kernel_rfl, Tryd.t191, by kernel_rfl, rfl, rfl, by kernel_rfl⟩
theorem good208 : Good (208, (Tryd.t208.desc, 1, 8, (Value.pointer none))) := ⟨by kernel_rfl, Tryd.t208, by kernel_rfl, rfl, rfl, by kernel_rfl⟩
set_option maxRecDepth 100000 in
theorem fldok13 : ∃ fs, Tryd.prog.underlying 13 = some (.struct fs) ∧ ∀ (i o : Nat), [0, 1][i]? = some o → ∃ f, fs[i]? = some f ∧ f.offset = o ∧ ∃ j, Tryd.prog.info? f.type = some j ∧ j.size ≠ 0 := by
  refine ⟨_, Tryd.underlying13, fun i o h => ?_⟩
  match i, h with
  | 0, h =>
    obtain rfl : 0 = o := Option.some.inj h
    exact ⟨_, rfl, rfl, _, rfl, by decide⟩
  | 1, h =>
    obtain rfl : 1 = o := Option.some.inj h
    exact ⟨_, rfl, rfl, _, rfl, by decide⟩
  | k + 2, h => simp at h
set_option maxRecDepth 100000 in
theorem fldok48 : ∃ fs, Tryd.prog.underlying 48 = some (.struct fs) ∧ ∀ (i o : Nat), [0, 1, 2, 3, 4, 5][i]? = some o → ∃ f, fs[i]? = some f ∧ f.offset = o ∧ ∃ j, Tryd.prog.info? f.type = some j ∧ j.size ≠ 0 := by
  refine ⟨_, Tryd.underlying48, fun i o h => ?_⟩
  match i, h with
  | 0, h =>
    obtain rfl : 0 = o := Option.some.inj h
    exact ⟨_, rfl, rfl, _, rfl, by decide⟩
  | 1, h =>
    obtain rfl : 1 = o := Option.some.inj h
    exact ⟨_, rfl, rfl, _, rfl, by decide⟩
  | 2, h =>
    obtain rfl : 2 = o := Option.some.inj h
    exact ⟨_, rfl, rfl, _, rfl, by decide⟩
  | 3, h =>
    obtain rfl : 3 = o := Option.some.inj h
    exact ⟨_, rfl, rfl, _, rfl, by decide⟩
  | 4, h =>
    obtain rfl : 4 = o := Option.some.inj h
    exact ⟨_, rfl, rfl, _, rfl, by decide⟩
  | 5, h =>
    obtain rfl : 5 = o := Option.some.inj h
    exact ⟨_, rfl, rfl, _, rfl, by decide⟩
  | k + 6, h => simp at h
set_option maxRecDepth 100000 in
theorem fldok49 : ∃ fs, Tryd.prog.underlying 49 = some (.struct fs) ∧ ∀ (i o : Nat), [0, 1, 2, 3, 4, 5][i]? = some o → ∃ f, fs[i]? = some f ∧ f.offset = o ∧ ∃ j, Tryd.prog.info? f.type = some j ∧ j.size ≠ 0 := by
  refine ⟨_, Tryd.underlying49, fun i o h => ?_⟩
  match i, h with
  | 0, h =>
    obtain rfl : 0 = o := Option.some.inj h
    exact ⟨_, rfl, rfl, _, rfl, by decide⟩
  | 1, h =>
    obtain rfl : 1 = o := Option.some.inj h
    exact ⟨_, rfl, rfl, _, rfl, by decide⟩
  | 2, h =>
    obtain rfl : 2 = o := Option.some.inj h
    exact ⟨_, rfl, rfl, _, rfl, by decide⟩
  | 3, h =>
    obtain rfl : 3 = o := Option.some.inj h
    exact ⟨_, rfl, rfl, _, rfl, by decide⟩
  | 4, h =>
    obtain rfl : 4 = o := Option.some.inj h
    exact ⟨_, rfl, rfl, _, rfl, by decide⟩
  | 5, h =>
    obtain rfl : 5 = o := Option.some.inj h
    exact ⟨_, rfl, rfl, _, rfl, by decide⟩
  | k + 6, h => simp at h
set_option maxRecDepth 100000 in
theorem fldok98 : ∃ fs, Tryd.prog.underlying 98 = some (.struct fs) ∧ ∀ (i o : Nat), [0, 1, 2][i]? = some o → ∃ f, fs[i]? = some f ∧ f.offset = o ∧ ∃ j, Tryd.prog.info? f.type = some j ∧ j.size ≠ 0 := by
  refine ⟨_, Tryd.underlying98, fun i o h => ?_⟩
  match i, h with
  | 0, h =>
    obtain rfl : 0 = o := Option.some.inj h
    exact ⟨_, rfl, rfl, _, rfl, by decide⟩
  | 1, h =>
    obtain rfl : 1 = o := Option.some.inj h
    exact ⟨_, rfl, rfl, _, rfl, by decide⟩
  | 2, h =>
    obtain rfl : 2 = o := Option.some.inj h
    exact ⟨_, rfl, rfl, _, rfl, by decide⟩
  | k + 3, h => simp at h
set_option maxRecDepth 100000 in
theorem fldok99 : ∃ fs, Tryd.prog.underlying 99 = some (.struct fs) ∧ ∀ (i o : Nat), [0, 1, 2][i]? = some o → ∃ f, fs[i]? = some f ∧ f.offset = o ∧ ∃ j, Tryd.prog.info? f.type = some j ∧ j.size ≠ 0 := by
  refine ⟨_, Tryd.underlying99, fun i o h => ?_⟩
  match i, h with
  | 0, h =>
    obtain rfl : 0 = o := Option.some.inj h
    exact ⟨_, rfl, rfl, _, rfl, by decide⟩
  | 1, h =>
    obtain rfl : 1 = o := Option.some.inj h
    exact ⟨_, rfl, rfl, _, rfl, by decide⟩
  | 2, h =>
    obtain rfl : 2 = o := Option.some.inj h
    exact ⟨_, rfl, rfl, _, rfl, by decide⟩
  | k + 3, h => simp at h
set_option maxRecDepth 100000 in
theorem fldok102 : ∃ fs, Tryd.prog.underlying 102 = some (.struct fs) ∧ ∀ (i o : Nat), [0, 1][i]? = some o → ∃ f, fs[i]? = some f ∧ f.offset = o ∧ ∃ j, Tryd.prog.info? f.type = some j ∧ j.size ≠ 0 := by
  refine ⟨_, Tryd.underlying102, fun i o h => ?_⟩
  match i, h with
  | 0, h =>
    obtain rfl : 0 = o := Option.some.inj h
    exact ⟨_, rfl, rfl, _, rfl, by decide⟩
  | 1, h =>
    obtain rfl : 1 = o := Option.some.inj h
    exact ⟨_, rfl, rfl, _, rfl, by decide⟩
  | k + 2, h => simp at h
set_option maxRecDepth 100000 in
theorem fldok103 : ∃ fs, Tryd.prog.underlying 103 = some (.struct fs) ∧ ∀ (i o : Nat), [0, 1][i]? = some o → ∃ f, fs[i]? = some f ∧ f.offset = o ∧ ∃ j, Tryd.prog.info? f.type = some j ∧ j.size ≠ 0 := by
  refine ⟨_, Tryd.underlying103, fun i o h => ?_⟩
  match i, h with
  | 0, h =>
    obtain rfl : 0 = o := Option.some.inj h
    exact ⟨_, rfl, rfl, _, rfl, by decide⟩
  | 1, h =>
    obtain rfl : 1 = o := Option.some.inj h
    exact ⟨_, rfl, rfl, _, rfl, by decide⟩
  | k + 2, h => simp at h
set_option maxRecDepth 100000 in
theorem fldok110 : ∃ fs, Tryd.prog.underlying 110 = some (.struct fs) ∧ ∀ (i o : Nat), [0, 1, 2][i]? = some o → ∃ f, fs[i]? = some f ∧ f.offset = o ∧ ∃ j, Tryd.prog.info? f.type = some j ∧ j.size ≠ 0 := by
  refine ⟨_, Tryd.underlying110, fun i o h => ?_⟩
  match i, h with
  | 0, h =>
    obtain rfl : 0 = o := Option.some.inj h
    exact ⟨_, rfl, rfl, _, rfl, by decide⟩
  | 1, h =>
    obtain rfl : 1 = o := Option.some.inj h
    exact ⟨_, rfl, rfl, _, rfl, by decide⟩
  | 2, h =>
    obtain rfl : 2 = o := Option.some.inj h
    exact ⟨_, rfl, rfl, _, rfl, by decide⟩
  | k + 3, h => simp at h
set_option maxRecDepth 100000 in
theorem fldok111 : ∃ fs, Tryd.prog.underlying 111 = some (.struct fs) ∧ ∀ (i o : Nat), [0, 1, 2][i]? = some o → ∃ f, fs[i]? = some f ∧ f.offset = o ∧ ∃ j, Tryd.prog.info? f.type = some j ∧ j.size ≠ 0 := by
  refine ⟨_, Tryd.underlying111, fun i o h => ?_⟩
  match i, h with
  | 0, h =>
    obtain rfl : 0 = o := Option.some.inj h
    exact ⟨_, rfl, rfl, _, rfl, by decide⟩
  | 1, h =>
    obtain rfl : 1 = o := Option.some.inj h
    exact ⟨_, rfl, rfl, _, rfl, by decide⟩
  | 2, h =>
    obtain rfl : 2 = o := Option.some.inj h
    exact ⟨_, rfl, rfl, _, rfl, by decide⟩
  | k + 3, h => simp at h
set_option maxRecDepth 100000 in
theorem fldok113 : ∃ fs, Tryd.prog.underlying 113 = some (.struct fs) ∧ ∀ (i o : Nat), [0, 1][i]? = some o → ∃ f, fs[i]? = some f ∧ f.offset = o ∧ ∃ j, Tryd.prog.info? f.type = some j ∧ j.size ≠ 0 := by
  refine ⟨_, Tryd.underlying113, fun i o h => ?_⟩
  match i, h with
  | 0, h =>
    obtain rfl : 0 = o := Option.some.inj h
    exact ⟨_, rfl, rfl, _, rfl, by decide⟩
  | 1, h =>
    obtain rfl : 1 = o := Option.some.inj h
    exact ⟨_, rfl, rfl, _, rfl, by decide⟩
  | k + 2, h => simp at h
set_option maxRecDepth 100000 in
theorem fldok114 : ∃ fs, Tryd.prog.underlying 114 = some (.struct fs) ∧ ∀ (i o : Nat), [0, 1][i]? = some o → ∃ f, fs[i]? = some f ∧ f.offset = o ∧ ∃ j, Tryd.prog.info? f.type = some j ∧ j.size ≠ 0 := by
  refine ⟨_, Tryd.underlying114, fun i o h => ?_⟩
  match i, h with
  | 0, h =>
    obtain rfl : 0 = o := Option.some.inj h
    exact ⟨_, rfl, rfl, _, rfl, by decide⟩
  | 1, h =>
    obtain rfl : 1 = o := Option.some.inj h
    exact ⟨_, rfl, rfl, _, rfl, by decide⟩
  | k + 2, h => simp at h
set_option maxRecDepth 100000 in
theorem fldok127 : ∃ fs, Tryd.prog.underlying 127 = some (.struct fs) ∧ ∀ (i o : Nat), [0, 1, 2, 3][i]? = some o → ∃ f, fs[i]? = some f ∧ f.offset = o ∧ ∃ j, Tryd.prog.info? f.type = some j ∧ j.size ≠ 0 := by
  refine ⟨_, Tryd.underlying127, fun i o h => ?_⟩
  match i, h with
  | 0, h =>
    obtain rfl : 0 = o := Option.some.inj h
    exact ⟨_, rfl, rfl, _, rfl, by decide⟩
  | 1, h =>
    obtain rfl : 1 = o := Option.some.inj h
    exact ⟨_, rfl, rfl, _, rfl, by decide⟩
  | 2, h =>
    obtain rfl : 2 = o := Option.some.inj h
    exact ⟨_, rfl, rfl, _, rfl, by decide⟩
  | 3, h =>
    obtain rfl : 3 = o := Option.some.inj h
    exact ⟨_, rfl, rfl, _, rfl, by decide⟩
  | k + 4, h => simp at h
set_option maxRecDepth 100000 in
theorem fldok128 : ∃ fs, Tryd.prog.underlying 128 = some (.struct fs) ∧ ∀ (i o : Nat), [0, 1, 2, 3][i]? = some o → ∃ f, fs[i]? = some f ∧ f.offset = o ∧ ∃ j, Tryd.prog.info? f.type = some j ∧ j.size ≠ 0 := by
  refine ⟨_, Tryd.underlying128, fun i o h => ?_⟩
  match i, h with
  | 0, h =>
    obtain rfl : 0 = o := Option.some.inj h
    exact ⟨_, rfl, rfl, _, rfl, by decide⟩
  | 1, h =>
    obtain rfl : 1 = o := Option.some.inj h
    exact ⟨_, rfl, rfl, _, rfl, by decide⟩
  | 2, h =>
    obtain rfl : 2 = o := Option.some.inj h
    exact ⟨_, rfl, rfl, _, rfl, by decide⟩
  | 3, h =>
    obtain rfl : 3 = o := Option.some.inj h
    exact ⟨_, rfl, rfl, _, rfl, by decide⟩
  | k + 4, h => simp at h
set_option maxRecDepth 100000 in
theorem fldok179 : ∃ fs, Tryd.prog.underlying 179 = some (.struct fs) ∧ ∀ (i o : Nat), [0, 1][i]? = some o → ∃ f, fs[i]? = some f ∧ f.offset = o ∧ ∃ j, Tryd.prog.info? f.type = some j ∧ j.size ≠ 0 := by
  refine ⟨_, Tryd.underlying179, fun i o h => ?_⟩
  match i, h with
  | 0, h =>
    obtain rfl : 0 = o := Option.some.inj h
    exact ⟨_, rfl, rfl, _, rfl, by decide⟩
  | 1, h =>
    obtain rfl : 1 = o := Option.some.inj h
    exact ⟨_, rfl, rfl, _, rfl, by decide⟩
  | k + 2, h => simp at h
set_option maxRecDepth 100000 in
theorem fldok180 : ∃ fs, Tryd.prog.underlying 180 = some (.struct fs) ∧ ∀ (i o : Nat), [0, 1][i]? = some o → ∃ f, fs[i]? = some f ∧ f.offset = o ∧ ∃ j, Tryd.prog.info? f.type = some j ∧ j.size ≠ 0 := by
  refine ⟨_, Tryd.underlying180, fun i o h => ?_⟩
  match i, h with
  | 0, h =>
    obtain rfl : 0 = o := Option.some.inj h
    exact ⟨_, rfl, rfl, _, rfl, by decide⟩
  | 1, h =>
    obtain rfl : 1 = o := Option.some.inj h
    exact ⟨_, rfl, rfl, _, rfl, by decide⟩
  | k + 2, h => simp at h
def flds : List (Nat × List Nat) := [(13, [0, 1]), (48, [0, 1, 2, 3, 4, 5]), (49, [0, 1, 2, 3, 4, 5]), (98, [0, 1, 2]), (99, [0, 1, 2]), (102, [0, 1]), (103, [0, 1]), (110, [0, 1, 2]), (111, [0, 1, 2]), (113, [0, 1]), (114, [0, 1]), (127, [0, 1, 2, 3]), (128, [0, 1, 2, 3]), (179, [0, 1]), (180, [0, 1])]
theorem flds_ok : ∀ p ∈ flds, ∃ fs, Tryd.prog.underlying p.1 = some (.struct fs) ∧ ∀ (i o : Nat), p.2[i]? = some o → ∃ f, fs[i]? = some f ∧ f.offset = o ∧ ∃ j, Tryd.prog.info? f.type = some j ∧ j.size ≠ 0 := by
  intro p hp
  simp only [flds, List.mem_cons, List.not_mem_nil, or_false] at hp
  rcases hp with rfl | rfl | rfl | rfl | rfl | rfl | rfl | rfl | rfl | rfl | rfl | rfl | rfl | rfl | rfl
  · exact fldok13
  · exact fldok48
  · exact fldok49
  · exact fldok98
  · exact fldok99
  · exact fldok102
  · exact fldok103
  · exact fldok110
  · exact fldok111
  · exact fldok113
  · exact fldok114
  · exact fldok127
  · exact fldok128
  · exact fldok179
  · exact fldok180
theorem tab_good : ∀ p ∈ tab, Good p := by
  intro p hp
  simp only [tab, List.mem_cons, List.not_mem_nil, or_false] at hp
  rcases hp with rfl | rfl | rfl | rfl | rfl | rfl | rfl | rfl | rfl | rfl | rfl | rfl | rfl | rfl | rfl | rfl | rfl | rfl | rfl | rfl | rfl | rfl | rfl | rfl | rfl | rfl | rfl | rfl | rfl | rfl | rfl | rfl | rfl | rfl | rfl | rfl | rfl | rfl | rfl | rfl | rfl | rfl | rfl | rfl | rfl | rfl | rfl | rfl | rfl | rfl | rfl | rfl | rfl
  · exact good2
  · exact good3
  · exact good4
  · exact good5
  · exact good9
  · exact good12
  · exact good13
  · exact good20
  · exact good21
  · exact good22
  · exact good23
  · exact good27
  · exact good28
  · exact good33
  · exact good39
  · exact good44
  · exact good45
  · exact good47
  · exact good48
  · exact good49
  · exact good69
  · exact good73
  · exact good75
  · exact good94
  · exact good96
  · exact good97
  · exact good98
  · exact good99
  · exact good100
  · exact good101
  · exact good102
  · exact good103
  · exact good106
  · exact good109
  · exact good110
  · exact good111
  · exact good113
  · exact good114
  · exact good119
  · exact good127
  · exact good128
  · exact good136
  · exact good137
  · exact good141
  · exact good171
  · exact good174
  · exact good175
  · exact good176
  · exact good179
  · exact good180
  · exact good181
  · exact good191
  · exact good208
set_option maxRecDepth 100000 in
noncomputable def E : Env Tryd.prog where
  ty := fun i => (lkT tab i).map fun x => (x.1, x.2.1)
  ok := by
    intro i d s h
    cases hx : lkT tab i with
    | none => simp [hx] at h
    | some x =>
      simp only [hx, Option.map_some, Option.some.injEq, Prod.mk.injEq] at h
      obtain ⟨h1, j, h2, h3, _⟩ := tab_good _ (lkT_mem hx)
      exact ⟨by rw [h1, ← h.1], by rw [h2, ← h.2]; simp [h3]⟩
  fld := fun i => lkT flds i
  fld_ok := fun s l h => flds_ok (s, l) (lkT_mem (l := flds) h)
  info := fun i => (lkT tab i).map fun x => x.2
  info_ok := by
    intro i s b z h
    cases hx : lkT tab i with
    | none => simp [hx] at h
    | some x =>
      simp only [hx, Option.map_some, Option.some.injEq] at h
      obtain ⟨_, j, h2, h3, h4, h5⟩ := tab_good _ (lkT_mem hx)
      refine ⟨j, h2, ?_, ?_, ?_⟩
      · rw [h3, h]
      · rw [h4, h]
      · rw [h5, h]
end Go.Proofs.YtoefhdaenaiomaaDoor

/- Rows of one length, one behind the other: a row read, a row set. -/
namespace Go.Proofs.YtoefhdaenaiomaaDoor
open Go
set_option maxRecDepth 20000

section
variable {α : Type} {sz : Nat}
theorem flat_take : ∀ (segs : List (List α)) (k : Nat), (∀ s ∈ segs, s.length = sz) → k ≤ segs.length → segs.flatten.take (k * sz) = (segs.take k).flatten
  | [], k, _, hk => by simp
  | s :: segs, 0, h, hk => by simp
  | s :: segs, k + 1, h, hk => by
    have hs : s.length = sz := h s (by simp)
    have ih := flat_take segs k (fun x hx => h x (by simp [hx])) (by simpa using hk)
    rw [List.flatten_cons, List.take_succ_cons, List.flatten_cons, List.take_append, Nat.succ_mul, List.take_of_length_le (by omega), hs, show k * sz + sz - sz = k * sz by omega, ih]
theorem flat_drop : ∀ (segs : List (List α)) (k : Nat), (∀ s ∈ segs, s.length = sz) → k ≤ segs.length → segs.flatten.drop (k * sz) = (segs.drop k).flatten
  | [], k, _, hk => by simp
  | s :: segs, 0, h, hk => by simp
  | s :: segs, k + 1, h, hk => by
    have hs : s.length = sz := h s (by simp)
    have ih := flat_drop segs k (fun x hx => h x (by simp [hx])) (by simpa using hk)
    rw [List.flatten_cons, List.drop_succ_cons, List.drop_append, Nat.succ_mul, List.drop_of_length_le (by omega), hs, show k * sz + sz - sz = k * sz by omega, ih, List.nil_append]
theorem flat_part (segs : List (List α)) (k : Nat) (h : ∀ s ∈ segs, s.length = sz) (hk : k < segs.length) (pad : List α) : ((segs.flatten ++ pad).drop (k * sz)).take sz = segs[k] := by
  have hl := flat_len segs h
  have hle : k * sz ≤ segs.flatten.length := by rw [hl]; exact Nat.mul_le_mul_right _ (by omega)
  rw [List.drop_append_of_le_length hle, flat_drop segs k h (by omega), List.drop_eq_getElem_cons hk, List.flatten_cons, List.append_assoc]
  exact List.take_left' (h _ (List.getElem_mem hk))
theorem flat_set (segs : List (List α)) (k : Nat) (s : List α) (h : ∀ s ∈ segs, s.length = sz) (hk : k < segs.length) (pad : List α) :
    (segs.flatten ++ pad).take (k * sz) ++ s ++ (segs.flatten ++ pad).drop (k * sz + sz) = (segs.set k s).flatten ++ pad := by
  have hl := flat_len segs h
  have hle : k * sz ≤ segs.flatten.length := by rw [hl]; exact Nat.mul_le_mul_right _ (by omega)
  have hle2 : (k + 1) * sz ≤ segs.flatten.length := by rw [hl]; exact Nat.mul_le_mul_right _ (by omega)
  rw [List.take_append_of_le_length hle, ← Nat.succ_mul, List.drop_append_of_le_length hle2, flat_take segs k h (by omega), flat_drop segs (k + 1) h (by omega), List.set_eq_take_append_cons_drop, if_pos hk]
  simp
/-- A row's end is set. -/
theorem flat_sub (segs : List (List α)) (k t : Nat) (x : List α) (h : ∀ s ∈ segs, s.length = sz) (hk : k < segs.length) (ht : t + x.length = sz) (pad : List α) :
    (segs.flatten ++ pad).take (k * sz + t) ++ x ++ (segs.flatten ++ pad).drop (k * sz + t + x.length) = (segs.set k (segs[k].take t ++ x)).flatten ++ pad := by
  rw [← flat_set segs k (segs[k].take t ++ x) h hk pad, List.take_add, ← flat_part segs k h hk pad, List.take_take, Nat.min_eq_left (by omega), Nat.add_assoc (k * sz) t, ht]
  simp
end
end Go.Proofs.YtoefhdaenaiomaaDoor

/- Bytes as Lean lists, and the small functions of the references that go over them. -/
namespace Go.Proofs.YtoefhdaenaiomaaDoor
open Go
set_option maxRecDepth 20000

def encB (b : UInt8) : Value := .int .u8 b.toNat
def encBs (l : List UInt8) : List Value := l.map encB

/-- A []byte that reads as l. -/
abbrev BS (w : World) (G : Nat → Prop) (v : Value) (l : List UInt8) : Prop := Sl w G v 1 l.length (encBs l)
/-- A []byte of the code's own. -/
abbrev BR (w : World) (F : Nat → Prop) (v : Value) (l : List UInt8) : Prop := Row w F v 1 l.length (encBs l) 5

theorem BR.nil (w : World) (F : Nat → Prop) : BR w F (.slice none 0 0) [] := Row.nil w F 1 _

theorem encBs_one (l : List UInt8) : ∀ u ∈ encBs l, u.oneCell' = true := by
  intro u hu
  obtain ⟨b, _, rfl⟩ := List.mem_map.1 hu
  rfl
theorem encBs_len (l : List UInt8) : (encBs l).length = l.length := List.length_map ..
theorem encBs_get (l : List UInt8) (i : Nat) : (encBs l)[i]? = (l[i]?).map encB := List.getElem?_map ..

def none0 : Nat → Prop := fun _ => False
/-- Blocks that are new since w. -/
def fresh (w : World) : Nat → Prop := fun b => w.heap.size ≤ b

theorem get_enc {l : List UInt8} {i : Nat} (h : i < l.length) : (encBs l)[i]? = some (encB l[i]) := by
  rw [encBs_get, List.getElem?_eq_getElem h]
  rfl
theorem toNat_get {l : List UInt8} {i : Nat} (h : i < l.length) : (encBs l)[(i : Int).toNat]? = some (encB l[i]) := by
  rw [Int.toNat_natCast]
  exact get_enc h

theorem take_snoc {α : Type} (l : List α) (i : Nat) (h : i < l.length) : l.take (i + 1) = l.take i ++ [l[i]] := by
  rw [List.take_succ_eq_append_getElem h]

theorem cut_c (w : World) (G : Nat → Prop) (v : Value) (l : List UInt8) (most : Int) (h : BS w G v l) (hm : most ≤ 1000000) :
    Calls Tryd.prog 19 [v, .int .i64 most].toArray w (Ret fun r w' => Kept none0 w w' ∧ BR w' (fresh w) r (l.take most.toNat)) := by
  refine calls_T Tryd.func19 rfl rfl rfl ?_
  obtain ⟨A, c, rfl⟩ := h.len
  have hlen := h.1
  repeat (first | (with_reducible first | apply T_seq | apply T_region | apply U_nil | apply T_skip | apply T_block | apply T_inBlock | apply Cnd_t | apply Cnd_f | apply Cnd_not | apply Cnd_some | apply Cnd_none | apply Gd_nt | apply Gd_nf | apply Gd_some | apply Gd_none | apply Gd_want) | refine U_ar rfl rfl rfl (wrap_i64 (by omega)) rfl ?_ | refine U_pure E rfl rfl ?_ | refine T_exit rfl ?_ | refine T_condV rfl ?_ | refine U_guard rfl rfl ?_ | ((with_reducible refine Gd_skipT ?_ ?_); exact rfl) | ((with_reducible refine Gd_skipF ?_ ?_); exact rfl))
  refine T_loop (α := Nat × Value × World) (fun x => [(10, .int .i64 x.1), (9, .int .i64 l.length), (8, .slice A l.length c), (5, x.2.1), (1, .int .i64 most)]) (fun x => x.2.2) (fun x => l.length - x.1)
    (fun x => x.1 ≤ l.length ∧ Kept none0 w x.2.2 ∧ BR x.2.2 (fresh w) x.2.1 ((l.take x.1).take most.toNat)) (0, .slice none 0 0, w) ⟨Nat.zero_le _, Kept.refl _ _, by simp only [List.take_zero, List.take_nil]; exact BR.nil w _⟩ ⟨rfl, rfl, rfl, rfl, rfl, trivial⟩ rfl ?_
  rintro ⟨i, v, w1⟩ ⟨hi, hk, hr⟩ ih
  dsimp only at hi hk hr ⊢
  repeat (first | (with_reducible first | apply T_seq | apply T_region | apply U_nil | apply T_skip | apply T_block | apply T_inBlock | apply Cnd_t | apply Cnd_f | apply Cnd_not | apply Cnd_some | apply Cnd_none | apply Gd_nt | apply Gd_nf | apply Gd_some | apply Gd_none | apply Gd_want) | refine U_ar rfl rfl rfl (wrap_i64 (by omega)) rfl ?_ | refine U_pure E rfl rfl ?_ | refine T_exit rfl ?_ | refine T_condV rfl ?_ | refine U_guard rfl rfl ?_ | ((with_reducible refine Gd_skipT ?_ ?_); exact rfl) | ((with_reducible refine Gd_skipF ?_ ?_); exact rfl))
  refine Cnd_p (fun hlt => ?_) (fun hlt => ?_)
  · have hlt' : i < l.length := by omega
    repeat (first | (with_reducible first | apply T_seq | apply T_region | apply U_nil | apply T_skip | apply T_block | apply T_inBlock | apply Cnd_t | apply Cnd_f | apply Cnd_not | apply Cnd_some | apply Cnd_none | apply Gd_nt | apply Gd_nf | apply Gd_some | apply Gd_none | apply Gd_want) | refine U_ar rfl rfl rfl (wrap_i64 (by omega)) rfl ?_ | refine U_pure E rfl rfl ?_ | refine T_exit rfl ?_ | refine T_condV rfl ?_ | refine U_guard rfl rfl ?_ | ((with_reducible refine Gd_skipT ?_ ?_); exact rfl) | ((with_reducible refine Gd_skipF ?_ ?_); exact rfl))
    refine U_idx E (h.mv hk (fun _ _ _ x => x)) rfl rfl rfl rfl (by omega) (by omega) ((toNat_get hlt')) rfl (fun p hp => ?_)
    refine U_load E rfl rfl rfl hp rfl ?_
    repeat (first | (with_reducible first | apply T_seq | apply T_region | apply U_nil | apply T_skip | apply T_block | apply T_inBlock | apply Cnd_t | apply Cnd_f | apply Cnd_not | apply Cnd_some | apply Cnd_none | apply Gd_nt | apply Gd_nf | apply Gd_some | apply Gd_none | apply Gd_want) | refine U_ar rfl rfl rfl (wrap_i64 (by omega)) rfl ?_ | refine U_pure E rfl rfl ?_ | refine T_exit rfl ?_ | refine T_condV rfl ?_ | refine U_guard rfl rfl ?_ | ((with_reducible refine Gd_skipT ?_ ?_); exact rfl) | ((with_reducible refine Gd_skipF ?_ ?_); exact rfl))
    refine Cnd_p (fun hmo => ?_) (fun hmo => ?_)
    · repeat (first | (with_reducible first | apply T_seq | apply T_region | apply U_nil | apply T_skip | apply T_block | apply T_inBlock | apply Cnd_t | apply Cnd_f | apply Cnd_not | apply Cnd_some | apply Cnd_none | apply Gd_nt | apply Gd_nf | apply Gd_some | apply Gd_none | apply Gd_want) | refine U_ar rfl rfl rfl (wrap_i64 (by omega)) rfl ?_ | refine U_pure E rfl rfl ?_ | refine T_exit rfl ?_ | refine T_condV rfl ?_ | refine U_guard rfl rfl ?_ | ((with_reducible refine Gd_skipT ?_ ?_); exact rfl) | ((with_reducible refine Gd_skipF ?_ ?_); exact rfl))
      refine U_buildSlice E rfl rfl rfl rfl rfl rfl rfl rfl (segs := [[encB l[i]]]) rfl (by simp) rfl ?_
      intro b w2 hn
      have hk2 := hk.tr hn.kept (fun _ _ x => x)
      have hr2 := hr.mv hn.kept (fun _ _ _ x => x)
      have hlit : Sl w2 (fun x => x = b) (.slice (some ⟨b, 0, none⟩) 1 1) 1 1 [encB l[i]] := ⟨by omega, rfl, _, 1, rfl, Nat.le_refl _, .inr ⟨b, 0, rfl, rfl, hn.blk.lt, hn.blk.seg 0 1⟩⟩
      have htl : ((l.take i).take most.toNat).length ≤ 1000000 := by simp; omega
      refine U_append E hr2 hlit (by simp [encB, Value.oneCell']) rfl rfl rfl rfl rfl (by omega) (by omega) rfl ?_
      intro v' w3 hr3 hk3 _ hob
      have hk3' : Kept none0 w w3 := hk2.tr hk3 (fun j hj hv => by have := (hr2.own j hv).1; simp only [fresh] at this; omega)
      repeat (first | (with_reducible first | apply T_seq | apply T_region | apply U_nil | apply T_skip | apply T_block | apply T_inBlock | apply Cnd_t | apply Cnd_f | apply Cnd_not | apply Cnd_some | apply Cnd_none | apply Gd_nt | apply Gd_nf | apply Gd_some | apply Gd_none | apply Gd_want) | refine U_ar rfl rfl rfl (wrap_i64 (by omega)) rfl ?_ | refine U_pure E rfl rfl ?_ | refine T_exit rfl ?_ | refine T_condV rfl ?_ | refine U_guard rfl rfl ?_ | ((with_reducible refine Gd_skipT ?_ ?_); exact rfl) | ((with_reducible refine Gd_skipF ?_ ?_); exact rfl))
      refine T.less ?_ (ih (i + 1, v', w3) ?_ ?_)
      · exact ⟨rfl, rfl, rfl, rfl, rfl, trivial⟩
      · refine ⟨hlt', hk3', ?_⟩
        dsimp only
        have hsz := hk2.size
        have he : (l.take (i + 1)).take most.toNat = (l.take i).take most.toNat ++ [l[i]] := by
          rw [take_snoc l i hlt', List.take_append, List.take_of_length_le (by simp; omega), List.length_take, List.take_of_length_le (l := [l[i]]) (by simp; omega)]
        rw [he]
        have := hr3.mono (G := fresh w) (fun j _ hj => hj.elim (fun x => x) (fun x => Nat.le_trans hsz x))
        simpa [BR, encBs] using this
      · dsimp only
        omega
    · repeat (first | (with_reducible first | apply T_seq | apply T_region | apply U_nil | apply T_skip | apply T_block | apply T_inBlock | apply Cnd_t | apply Cnd_f | apply Cnd_not | apply Cnd_some | apply Cnd_none | apply Gd_nt | apply Gd_nf | apply Gd_some | apply Gd_none | apply Gd_want) | refine U_ar rfl rfl rfl (wrap_i64 (by omega)) rfl ?_ | refine U_pure E rfl rfl ?_ | refine T_exit rfl ?_ | refine T_condV rfl ?_ | refine U_guard rfl rfl ?_ | ((with_reducible refine Gd_skipT ?_ ?_); exact rfl) | ((with_reducible refine Gd_skipF ?_ ?_); exact rfl))
      refine T.less ?_ (ih (i + 1, v, w1) ?_ ?_)
      · exact ⟨rfl, rfl, rfl, rfl, rfl, trivial⟩
      · refine ⟨hlt', hk, ?_⟩
        dsimp only
        rw [take_snoc l i hlt', List.take_append_of_le_length (by simp; omega)]
        exact hr
      · dsimp only
        omega
  · repeat (first | (with_reducible first | apply T_seq | apply T_region | apply U_nil | apply T_skip | apply T_block | apply T_inBlock | apply Cnd_t | apply Cnd_f | apply Cnd_not | apply Cnd_some | apply Cnd_none | apply Gd_nt | apply Gd_nf | apply Gd_some | apply Gd_none | apply Gd_want) | refine U_ar rfl rfl rfl (wrap_i64 (by omega)) rfl ?_ | refine U_pure E rfl rfl ?_ | refine T_exit rfl ?_ | refine T_condV rfl ?_ | refine U_guard rfl rfl ?_ | ((with_reducible refine Gd_skipT ?_ ?_); exact rfl) | ((with_reducible refine Gd_skipF ?_ ?_); exact rfl))
    refine T_ret1 Tryd.func19 rfl rfl ⟨_, rfl, hk, ?_⟩
    have : i = l.length := by omega
    subst this
    simpa using hr

/-! ### A sector -/
def zeros (n : Nat) : List UInt8 := List.replicate n 0
theorem zeros_len (n : Nat) : (zeros n).length = n := List.length_replicate ..
theorem zeros_get (n i : Nat) : (zeros n)[i]? = if i < n then some 0 else none := List.getElem?_replicate ..
def sec (l : List UInt8) : List UInt8 := (l ++ zeros 256).take 256
theorem sec_len (l : List UInt8) : (sec l).length = 256 := by
  simp only [sec, List.length_take, List.length_append, zeros_len]
  omega
theorem sec_nil : sec [] = zeros 256 := by
  simp only [sec, List.nil_append]
  rw [List.take_of_length_le (Nat.le_of_eq (zeros_len 256))]
theorem flat_single {α : Type} (n : Nat) (a : α) : (List.replicate n [a]).flatten = List.replicate n a := by
  induction n with
  | zero => rfl
  | succ n ih => rw [List.replicate_succ, List.flatten_cons, ih, List.replicate_succ]; rfl
theorem sec_snoc (l : List UInt8) (i : Nat) (h : i < l.length) (hi : i < 256) : sec (l.take (i + 1)) = (sec (l.take i)).set i l[i] := by
  apply List.ext_getElem?
  intro j
  simp only [sec]
  rw [List.getElem?_set, List.getElem?_take, List.getElem?_take, List.getElem?_append, List.getElem?_append]
  simp only [List.length_take]
  rw [Nat.min_eq_left (by omega : i ≤ l.length), Nat.min_eq_left (by omega : i + 1 ≤ l.length)]
  by_cases hj : j < 256
  · rw [if_pos hj, if_pos hj]
    by_cases hji : i = j
    · subst hji
      rw [if_pos (by omega), if_pos rfl, if_pos (by simp only [List.length_take, List.length_append, zeros_len]; omega), List.getElem?_take, if_pos (by omega), List.getElem?_eq_getElem h]
    · rw [if_neg hji]
      by_cases h1 : j < i
      · rw [if_pos (by omega), if_pos h1, List.getElem?_take, List.getElem?_take, if_pos (by omega), if_pos h1]
      · rw [if_neg (by omega), if_neg h1, zeros_get, zeros_get, if_pos (by omega), if_pos (by omega)]
  · rw [if_neg hj, if_neg hj]
    by_cases hji : i = j
    · omega
    · rw [if_neg hji]
theorem sec_stop (l : List UInt8) (i : Nat) (hi : 256 ≤ i) : sec (l.take (i + 1)) = sec (l.take i) := by
  simp only [sec]
  by_cases h : i < l.length
  · rw [List.take_append_of_le_length (by rw [List.length_take]; omega), List.take_append_of_le_length (by rw [List.length_take]; omega), List.take_take, List.take_take, Nat.min_eq_left (by omega), Nat.min_eq_left (by omega)]
  · rw [List.take_of_length_le (l := l) (i := i + 1) (by omega), List.take_of_length_le (l := l) (i := i) (by omega)]

theorem encBs_zeros (n : Nat) : encBs (zeros n) = List.replicate n (.int .u8 0) := List.map_replicate ..
theorem encBs_set (l : List UInt8) (i : Nat) (b : UInt8) : encBs (l.set i b) = (encBs l).set i (encB b) := List.map_set ..

theorem full_c (w : World) (G : Nat → Prop) (v : Value) (l : List UInt8) (h : BS w G v l) :
    Calls Tryd.prog 37 [v].toArray w (Ret fun r w' => Kept none0 w w' ∧ ∃ b, w.heap.size ≤ b ∧ r = .slice (some ⟨b, 0, none⟩) 256 256 ∧ Blk w' b (encBs (sec l)) 5) := by
  refine calls_T Tryd.func37 rfl rfl rfl ?_
  obtain ⟨A, c, rfl⟩ := h.len
  have hlen := h.1
  repeat (first | (with_reducible first | apply T_seq | apply T_region | apply U_nil | apply T_skip | apply T_block | apply T_inBlock | apply Cnd_t | apply Cnd_f | apply Cnd_not | apply Cnd_some | apply Cnd_none | apply Gd_nt | apply Gd_nf | apply Gd_some | apply Gd_none | apply Gd_want) | refine U_ar rfl rfl rfl (wrap_i64 (by omega)) rfl ?_ | refine U_pure E rfl rfl ?_ | refine T_exit rfl ?_ | refine T_condV rfl ?_ | refine U_guard rfl rfl ?_ | ((with_reducible refine Gd_skipT ?_ ?_); exact rfl) | ((with_reducible refine Gd_skipF ?_ ?_); exact rfl))
  refine U_make E rfl rfl (zs := [.int .u8 0]) rfl (N := 256) rfl rfl (by decide) (by decide) rfl rfl rfl ?_
  intro b w1 hn
  have hb1 : Blk w1 b (encBs (sec [])) 5 := by
    have := hn.blk
    rw [flat_single] at this
    rw [sec_nil, encBs_zeros]
    exact this
  repeat (first | (with_reducible first | apply T_seq | apply T_region | apply U_nil | apply T_skip | apply T_block | apply T_inBlock | apply Cnd_t | apply Cnd_f | apply Cnd_not | apply Cnd_some | apply Cnd_none | apply Gd_nt | apply Gd_nf | apply Gd_some | apply Gd_none | apply Gd_want) | refine U_ar rfl rfl rfl (wrap_i64 (by omega)) rfl ?_ | refine U_pure E rfl rfl ?_ | refine T_exit rfl ?_ | refine T_condV rfl ?_ | refine U_guard rfl rfl ?_ | ((with_reducible refine Gd_skipT ?_ ?_); exact rfl) | ((with_reducible refine Gd_skipF ?_ ?_); exact rfl))
  refine T_loop (α := Nat × World) (fun x => [(9, .int .i64 x.1), (8, .int .i64 l.length), (7, .slice A l.length c), (3, .slice (some ⟨b, 0, none⟩) 256 256)]) (fun x => x.2) (fun x => l.length - x.1)
    (fun x => x.1 ≤ l.length ∧ Kept none0 w x.2 ∧ Blk x.2 b (encBs (sec (l.take x.1))) 5) (0, w1) ⟨Nat.zero_le _, hn.kept, hb1⟩ ⟨rfl, rfl, rfl, rfl, trivial⟩ rfl ?_
  rintro ⟨i, w2⟩ ⟨hi, hk, hb⟩ ih
  dsimp only at hi hk hb ⊢
  repeat (first | (with_reducible first | apply T_seq | apply T_region | apply U_nil | apply T_skip | apply T_block | apply T_inBlock | apply Cnd_t | apply Cnd_f | apply Cnd_not | apply Cnd_some | apply Cnd_none | apply Gd_nt | apply Gd_nf | apply Gd_some | apply Gd_none | apply Gd_want) | refine U_ar rfl rfl rfl (wrap_i64 (by omega)) rfl ?_ | refine U_pure E rfl rfl ?_ | refine T_exit rfl ?_ | refine T_condV rfl ?_ | refine U_guard rfl rfl ?_ | ((with_reducible refine Gd_skipT ?_ ?_); exact rfl) | ((with_reducible refine Gd_skipF ?_ ?_); exact rfl))
  refine Cnd_p (fun hlt => ?_) (fun hlt => ?_)
  · have hlt' : i < l.length := by omega
    repeat (first | (with_reducible first | apply T_seq | apply T_region | apply U_nil | apply T_skip | apply T_block | apply T_inBlock | apply Cnd_t | apply Cnd_f | apply Cnd_not | apply Cnd_some | apply Cnd_none | apply Gd_nt | apply Gd_nf | apply Gd_some | apply Gd_none | apply Gd_want) | refine U_ar rfl rfl rfl (wrap_i64 (by omega)) rfl ?_ | refine U_pure E rfl rfl ?_ | refine T_exit rfl ?_ | refine T_condV rfl ?_ | refine U_guard rfl rfl ?_ | ((with_reducible refine Gd_skipT ?_ ?_); exact rfl) | ((with_reducible refine Gd_skipF ?_ ?_); exact rfl))
    refine U_idx E (h.mv hk (fun _ _ _ x => x)) rfl rfl rfl rfl (by omega) (by omega) ((toNat_get hlt')) rfl (fun p hp => ?_)
    refine U_load E rfl rfl rfl hp rfl ?_
    repeat (first | (with_reducible first | apply T_seq | apply T_region | apply U_nil | apply T_skip | apply T_block | apply T_inBlock | apply Cnd_t | apply Cnd_f | apply Cnd_not | apply Cnd_some | apply Cnd_none | apply Gd_nt | apply Gd_nf | apply Gd_some | apply Gd_none | apply Gd_want) | refine U_ar rfl rfl rfl (wrap_i64 (by omega)) rfl ?_ | refine U_pure E rfl rfl ?_ | refine T_exit rfl ?_ | refine T_condV rfl ?_ | refine U_guard rfl rfl ?_ | ((with_reducible refine Gd_skipT ?_ ?_); exact rfl) | ((with_reducible refine Gd_skipF ?_ ?_); exact rfl))
    refine Cnd_p (fun hmo => ?_) (fun hmo => ?_)
    · repeat (first | (with_reducible first | apply T_seq | apply T_region | apply U_nil | apply T_skip | apply T_block | apply T_inBlock | apply Cnd_t | apply Cnd_f | apply Cnd_not | apply Cnd_some | apply Cnd_none | apply Gd_nt | apply Gd_nf | apply Gd_some | apply Gd_none | apply Gd_want) | refine U_ar rfl rfl rfl (wrap_i64 (by omega)) rfl ?_ | refine U_pure E rfl rfl ?_ | refine T_exit rfl ?_ | refine T_condV rfl ?_ | refine U_guard rfl rfl ?_ | ((with_reducible refine Gd_skipT ?_ ?_); exact rfl) | ((with_reducible refine Gd_skipF ?_ ?_); exact rfl))
      refine U_indexS E rfl rfl rfl rfl (by omega) (by omega) (o' := i) (by simp) rfl ?_
      refine U_store E (hb) rfl rfl rfl ((by rw [encBs_len, sec_len]; omega)) rfl ?_
      intro w3 hu
      repeat (first | (with_reducible first | apply T_seq | apply T_region | apply U_nil | apply T_skip | apply T_block | apply T_inBlock | apply Cnd_t | apply Cnd_f | apply Cnd_not | apply Cnd_some | apply Cnd_none | apply Gd_nt | apply Gd_nf | apply Gd_some | apply Gd_none | apply Gd_want) | refine U_ar rfl rfl rfl (wrap_i64 (by omega)) rfl ?_ | refine U_pure E rfl rfl ?_ | refine T_exit rfl ?_ | refine T_condV rfl ?_ | refine U_guard rfl rfl ?_ | ((with_reducible refine Gd_skipT ?_ ?_); exact rfl) | ((with_reducible refine Gd_skipF ?_ ?_); exact rfl))
      refine T.less ?_ (ih (i + 1, w3) ?_ ?_)
      · exact ⟨rfl, rfl, rfl, rfl, trivial⟩
      · refine ⟨hlt', hk.tr hu.kept (fun j hj hv => by have := hn.at_; omega), ?_⟩
        dsimp only
        rw [sec_snoc l i hlt' (by omega), encBs_set]
        exact hu.blk
      · dsimp only
        omega
    · repeat (first | (with_reducible first | apply T_seq | apply T_region | apply U_nil | apply T_skip | apply T_block | apply T_inBlock | apply Cnd_t | apply Cnd_f | apply Cnd_not | apply Cnd_some | apply Cnd_none | apply Gd_nt | apply Gd_nf | apply Gd_some | apply Gd_none | apply Gd_want) | refine U_ar rfl rfl rfl (wrap_i64 (by omega)) rfl ?_ | refine U_pure E rfl rfl ?_ | refine T_exit rfl ?_ | refine T_condV rfl ?_ | refine U_guard rfl rfl ?_ | ((with_reducible refine Gd_skipT ?_ ?_); exact rfl) | ((with_reducible refine Gd_skipF ?_ ?_); exact rfl))
      refine T.less ?_ (ih (i + 1, w2) ?_ ?_)
      · exact ⟨rfl, rfl, rfl, rfl, trivial⟩
      · refine ⟨hlt', hk, ?_⟩
        dsimp only
        rw [sec_stop l i (by omega)]
        exact hb
      · dsimp only
        omega
  · repeat (first | (with_reducible first | apply T_seq | apply T_region | apply U_nil | apply T_skip | apply T_block | apply T_inBlock | apply Cnd_t | apply Cnd_f | apply Cnd_not | apply Cnd_some | apply Cnd_none | apply Gd_nt | apply Gd_nf | apply Gd_some | apply Gd_none | apply Gd_want) | refine U_ar rfl rfl rfl (wrap_i64 (by omega)) rfl ?_ | refine U_pure E rfl rfl ?_ | refine T_exit rfl ?_ | refine T_condV rfl ?_ | refine U_guard rfl rfl ?_ | ((with_reducible refine Gd_skipT ?_ ?_); exact rfl) | ((with_reducible refine Gd_skipF ?_ ?_); exact rfl))
    have : i = l.length := by omega
    subst this
    rw [List.take_length] at hb
    exact T_ret1 Tryd.func37 rfl rfl ⟨_, rfl, hk, b, Nat.le_of_eq hn.at_.symm, rfl, hb⟩

/-! ### Same -/
theorem ofNat_get_ne {a b : UInt8} : ((a.toNat : Int) ≠ (b.toNat : Int)) ↔ a ≠ b := by
  constructor
  · intro h e
    exact h (by rw [e])
  · intro h e
    exact h (UInt8.toNat_inj.1 (by exact_mod_cast e))

theorem same_c (w : World) (G H : Nat → Prop) (v u : Value) (l l' : List UInt8) (h : BS w G v l) (h' : BS w H u l') :
    Calls Tryd.prog 22 [v, u].toArray w (fun e w' => e = .returned (.bool (decide (l = l'))) ∧ Drew w w') := by
  refine calls_T Tryd.func22 rfl rfl rfl ?_
  obtain ⟨A, c, rfl⟩ := h.len
  obtain ⟨B, c', rfl⟩ := h'.len
  have hlen := h.1
  have hlen' := h'.1
  repeat (first | (with_reducible first | apply T_seq | apply T_region | apply U_nil | apply T_skip | apply T_block | apply T_inBlock | apply Cnd_t | apply Cnd_f | apply Cnd_not | apply Cnd_some | apply Cnd_none | apply Gd_nt | apply Gd_nf | apply Gd_some | apply Gd_none | apply Gd_want) | refine U_ar rfl rfl rfl (wrap_i64 (by omega)) rfl ?_ | refine U_pure E rfl rfl ?_ | refine T_exit rfl ?_ | refine T_condV rfl ?_ | refine U_guard rfl rfl ?_ | ((with_reducible refine Gd_skipT ?_ ?_); exact rfl) | ((with_reducible refine Gd_skipF ?_ ?_); exact rfl))
  refine Cnd_p (fun hne => ?_) (fun hne => ?_)
  · repeat (first | (with_reducible first | apply T_seq | apply T_region | apply U_nil | apply T_skip | apply T_block | apply T_inBlock | apply Cnd_t | apply Cnd_f | apply Cnd_not | apply Cnd_some | apply Cnd_none | apply Gd_nt | apply Gd_nf | apply Gd_some | apply Gd_none | apply Gd_want) | refine U_ar rfl rfl rfl (wrap_i64 (by omega)) rfl ?_ | refine U_pure E rfl rfl ?_ | refine T_exit rfl ?_ | refine T_condV rfl ?_ | refine U_guard rfl rfl ?_ | ((with_reducible refine Gd_skipT ?_ ?_); exact rfl) | ((with_reducible refine Gd_skipF ?_ ?_); exact rfl))
    refine T_ret1 Tryd.func22 rfl rfl ⟨?_, Drew.refl w⟩
    have : l ≠ l' := fun e => hne (by rw [e])
    simp [this]
  · have hll : l.length = l'.length := by omega
    repeat (first | (with_reducible first | apply T_seq | apply T_region | apply U_nil | apply T_skip | apply T_block | apply T_inBlock | apply Cnd_t | apply Cnd_f | apply Cnd_not | apply Cnd_some | apply Cnd_none | apply Gd_nt | apply Gd_nf | apply Gd_some | apply Gd_none | apply Gd_want) | refine U_ar rfl rfl rfl (wrap_i64 (by omega)) rfl ?_ | refine U_pure E rfl rfl ?_ | refine T_exit rfl ?_ | refine T_condV rfl ?_ | refine U_guard rfl rfl ?_ | ((with_reducible refine Gd_skipT ?_ ?_); exact rfl) | ((with_reducible refine Gd_skipF ?_ ?_); exact rfl))
    refine T_loop (α := Nat × World) (fun x => [(13, .int .i64 x.1), (12, .int .i64 l.length), (1, .slice B l'.length c'), (0, .slice A l.length c)]) (fun x => x.2) (fun x => l.length - x.1)
      (fun x => x.1 ≤ l.length ∧ Drew w x.2 ∧ l.take x.1 = l'.take x.1) (0, w) ⟨Nat.zero_le _, Drew.refl _, by simp⟩ ⟨rfl, rfl, rfl, rfl, trivial⟩ rfl ?_
    rintro ⟨i, w2⟩ ⟨hi, hk, hb⟩ ih
    dsimp only at hi hk hb ⊢
    repeat (first | (with_reducible first | apply T_seq | apply T_region | apply U_nil | apply T_skip | apply T_block | apply T_inBlock | apply Cnd_t | apply Cnd_f | apply Cnd_not | apply Cnd_some | apply Cnd_none | apply Gd_nt | apply Gd_nf | apply Gd_some | apply Gd_none | apply Gd_want) | refine U_ar rfl rfl rfl (wrap_i64 (by omega)) rfl ?_ | refine U_pure E rfl rfl ?_ | refine T_exit rfl ?_ | refine T_condV rfl ?_ | refine U_guard rfl rfl ?_ | ((with_reducible refine Gd_skipT ?_ ?_); exact rfl) | ((with_reducible refine Gd_skipF ?_ ?_); exact rfl))
    refine Cnd_p (fun hlt => ?_) (fun hlt => ?_)
    · have hlt' : i < l.length := by omega
      have hlt2 : i < l'.length := by omega
      repeat (first | (with_reducible first | apply T_seq | apply T_region | apply U_nil | apply T_skip | apply T_block | apply T_inBlock | apply Cnd_t | apply Cnd_f | apply Cnd_not | apply Cnd_some | apply Cnd_none | apply Gd_nt | apply Gd_nf | apply Gd_some | apply Gd_none | apply Gd_want) | refine U_ar rfl rfl rfl (wrap_i64 (by omega)) rfl ?_ | refine U_pure E rfl rfl ?_ | refine T_exit rfl ?_ | refine T_condV rfl ?_ | refine U_guard rfl rfl ?_ | ((with_reducible refine Gd_skipT ?_ ?_); exact rfl) | ((with_reducible refine Gd_skipF ?_ ?_); exact rfl))
      refine T_quiet (by kernel_rfl) (by kernel_rfl) ?_; (repeat (first | refine V_ar rfl rfl rfl (wrap_i64 (by omega)) rfl ?_ | refine V_pure E rfl rfl ?_ | refine V_guard rfl rfl ?_ | with_reducible refine GdV_want ?_ | ((with_reducible refine GdV_skipT ?_ ?_); exact rfl) | ((with_reducible refine GdV_skipF ?_ ?_); exact rfl)))
      refine V_idx E ((h.mv (hk.kept none0) (fun _ _ _ x => x))) rfl rfl rfl rfl (by omega) (by omega) ((toNat_get hlt')) rfl (fun p hp => ?_)
      refine V_load E rfl rfl rfl (fun w' hw' => (by first | (rw [hw'.cell]; exact hp) | (subst hw'; exact hp))) rfl ?_
      repeat (first | refine V_ar rfl rfl rfl (wrap_i64 (by omega)) rfl ?_ | refine V_pure E rfl rfl ?_ | refine V_guard rfl rfl ?_ | with_reducible refine GdV_want ?_ | ((with_reducible refine GdV_skipT ?_ ?_); exact rfl) | ((with_reducible refine GdV_skipF ?_ ?_); exact rfl))
      refine V_idx E ((h'.mv (hk.kept none0) (fun _ _ _ x => x))) rfl rfl rfl rfl (by omega) (by omega) ((toNat_get hlt2)) rfl (fun q hq => ?_)
      refine V_load E rfl rfl rfl (fun w' hw' => (by first | (rw [hw'.cell]; exact hq) | (subst hw'; exact hq))) rfl ?_
      repeat (first | refine V_ar rfl rfl rfl (wrap_i64 (by omega)) rfl ?_ | refine V_pure E rfl rfl ?_ | refine V_guard rfl rfl ?_ | with_reducible refine GdV_want ?_ | ((with_reducible refine GdV_skipT ?_ ?_); exact rfl) | ((with_reducible refine GdV_skipF ?_ ?_); exact rfl))
      refine V_nilQ fun w3 hw3 => ?_
      repeat (first | (with_reducible first | apply T_seq | apply T_region | apply U_nil | apply T_skip | apply T_block | apply T_inBlock | apply Cnd_t | apply Cnd_f | apply Cnd_not | apply Cnd_some | apply Cnd_none | apply Gd_nt | apply Gd_nf | apply Gd_some | apply Gd_none | apply Gd_want) | refine U_ar rfl rfl rfl (wrap_i64 (by omega)) rfl ?_ | refine U_pure E rfl rfl ?_ | refine T_exit rfl ?_ | refine T_condV rfl ?_ | refine U_guard rfl rfl ?_ | ((with_reducible refine Gd_skipT ?_ ?_); exact rfl) | ((with_reducible refine Gd_skipF ?_ ?_); exact rfl))
      refine Cnd_p (fun hdf => ?_) (fun hdf => ?_)
      · repeat (first | (with_reducible first | apply T_seq | apply T_region | apply U_nil | apply T_skip | apply T_block | apply T_inBlock | apply Cnd_t | apply Cnd_f | apply Cnd_not | apply Cnd_some | apply Cnd_none | apply Gd_nt | apply Gd_nf | apply Gd_some | apply Gd_none | apply Gd_want) | refine U_ar rfl rfl rfl (wrap_i64 (by omega)) rfl ?_ | refine U_pure E rfl rfl ?_ | refine T_exit rfl ?_ | refine T_condV rfl ?_ | refine U_guard rfl rfl ?_ | ((with_reducible refine Gd_skipT ?_ ?_); exact rfl) | ((with_reducible refine Gd_skipF ?_ ?_); exact rfl))
        refine T_ret1 Tryd.func22 rfl rfl ⟨?_, hk.tr hw3⟩
        have : l ≠ l' := fun e => by
          subst e
          exact hdf rfl
        simp [this]
      · repeat (first | (with_reducible first | apply T_seq | apply T_region | apply U_nil | apply T_skip | apply T_block | apply T_inBlock | apply Cnd_t | apply Cnd_f | apply Cnd_not | apply Cnd_some | apply Cnd_none | apply Gd_nt | apply Gd_nf | apply Gd_some | apply Gd_none | apply Gd_want) | refine U_ar rfl rfl rfl (wrap_i64 (by omega)) rfl ?_ | refine U_pure E rfl rfl ?_ | refine T_exit rfl ?_ | refine T_condV rfl ?_ | refine U_guard rfl rfl ?_ | ((with_reducible refine Gd_skipT ?_ ?_); exact rfl) | ((with_reducible refine Gd_skipF ?_ ?_); exact rfl))
        refine T.less ?_ (ih (i + 1, w3) ?_ ?_)
        · exact ⟨rfl, rfl, rfl, rfl, trivial⟩
        · refine ⟨hlt', hk.tr hw3, ?_⟩
          dsimp only
          have : l[i] = l'[i] := Classical.byContradiction fun e => hdf (ofNat_get_ne.2 e)
          rw [take_snoc l i hlt', take_snoc l' i hlt2, hb, this]
        · dsimp only
          omega
    · repeat (first | (with_reducible first | apply T_seq | apply T_region | apply U_nil | apply T_skip | apply T_block | apply T_inBlock | apply Cnd_t | apply Cnd_f | apply Cnd_not | apply Cnd_some | apply Cnd_none | apply Gd_nt | apply Gd_nf | apply Gd_some | apply Gd_none | apply Gd_want) | refine U_ar rfl rfl rfl (wrap_i64 (by omega)) rfl ?_ | refine U_pure E rfl rfl ?_ | refine T_exit rfl ?_ | refine T_condV rfl ?_ | refine U_guard rfl rfl ?_ | ((with_reducible refine Gd_skipT ?_ ?_); exact rfl) | ((with_reducible refine Gd_skipF ?_ ?_); exact rfl))
      refine T_ret1 Tryd.func22 rfl rfl ⟨?_, hk⟩
      have : i = l.length := by omega
      subst this
      rw [List.take_length, hll, List.take_length] at hb
      simp [hb]
end Go.Proofs.YtoefhdaenaiomaaDoor

/- The drum: what a value in memory stands for; its small functions. -/
namespace Go.Proofs.YtoefhdaenaiomaaDoor
open Go
set_option maxRecDepth 20000

/-- A drum: sectors as they are flushed, writes that are not, how many acts more go well. -/
structure Dr where
  l : List (List UInt8)
  wait : List (Nat × List UInt8)
  left : Int

structure Dr.Ok (D : Dr) : Prop where
  n1 : 1 ≤ D.l.length
  n2 : D.l.length ≤ 8192
  secs : ∀ s ∈ D.l, s.length = 256
  waits : ∀ p ∈ D.wait, p.1 < D.l.length ∧ p.2.length = 256
  wn : D.wait.length ≤ 1000000
  left1 : -1 ≤ D.left
  left2 : D.left ≤ 9223372036854775807

def encW (p : Nat × List UInt8) : List Value := .int .i64 p.1 :: encBs p.2
theorem encW_len (p : Nat × List UInt8) : (encW p).length = p.2.length + 1 := by simp [encW, encBs_len]

def ptr (b : Nat) : Value := .pointer (some ⟨b, 0, none⟩)
def errV : Nat → Value
  | 0 => .nilIface
  | k + 1 => .iface 39 (.int .i64 (k + 1 : Nat))

def IsD (w : World) (F : Nat → Prop) (hb : Nat) (D : Dr) : Prop :=
  D.Ok ∧ ∃ vl vw, F hb ∧ Blk w hb [vl, vw, .int .i64 D.left] 99 ∧ Row w (fun b => F b ∧ b ≠ hb) vl 256 D.l.length (D.l.map encBs).flatten 101 ∧
    Row w (fun b => F b ∧ b ≠ hb ∧ vl.ownBlock ≠ some b) vw 257 D.wait.length (D.wait.map encW).flatten 103

theorem IsD.mono {w : World} {F G : Nat → Prop} {hb : Nat} {D : Dr} (h : IsD w F hb D) (hg : ∀ b, b < w.heap.size → F b → G b) : IsD w G hb D := by
  obtain ⟨h0, vl, vw, h1, h2, h3, h4⟩ := h
  exact ⟨h0, vl, vw, hg _ h2.lt h1, h2, h3.mono (fun b hb h => ⟨hg b hb h.1, h.2⟩), h4.mono (fun b hb h => ⟨hg b hb h.1, h.2⟩)⟩
theorem IsD.mv {w w' : World} {F G : Nat → Prop} {hb : Nat} {D : Dr} (h : IsD w F hb D) (k : Kept G w w') (hd : ∀ b, b < w.heap.size → F b → ¬ G b) : IsD w' F hb D := by
  obtain ⟨h0, vl, vw, h1, h2, h3, h4⟩ := h
  exact ⟨h0, vl, vw, h1, h2.mv k (hd _ h2.lt h1), h3.mv k (fun b hb h => hd b hb h.1), h4.mv k (fun b hb h => hd b hb h.1)⟩
theorem IsD.lt {w : World} {F : Nat → Prop} {hb : Nat} {D : Dr} (h : IsD w F hb D) : hb < w.heap.size := by
  obtain ⟨h0, vl, vw, h1, h2, h3, h4⟩ := h
  exact h2.lt
theorem IsD.mem {w : World} {F : Nat → Prop} {hb : Nat} {D : Dr} (h : IsD w F hb D) : F hb := by
  obtain ⟨h0, vl, vw, h1, h2, h3, h4⟩ := h
  exact h1

theorem Row.pos {w : World} {F : Nat → Prop} {v : Value} {sz n : Nat} {cs : List Value} {e : TypeId} (h : Row w F v sz n cs e) (hn : 0 < n) :
    ∃ g cap pad, v = .slice (some ⟨g, 0, none⟩) n cap ∧ F g ∧ Blk w g (cs ++ pad) e ∧ (cs ++ pad).length = cap * sz ∧ n ≤ cap := by
  rcases h.2 with ⟨_, h0⟩ | h
  · omega
  · exact h
theorem Row.val {w : World} {F : Nat → Prop} {v : Value} {sz n : Nat} {cs : List Value} {e : TypeId} (h : Row w F v sz n cs e) : ∃ A c, v = .slice A n c := by
  rcases h.2 with ⟨rfl, rfl⟩ | ⟨g, cap, pad, rfl, _⟩
  · exact ⟨none, 0, rfl⟩
  · exact ⟨_, cap, rfl⟩

theorem fits_c (w : World) (F : Nat → Prop) (hb : Nat) (D : Dr) (i : Int) (h : IsD w F hb D) :
    Calls Tryd.prog 70 [ptr hb, .int .i64 i].toArray w (fun e w' => e = .returned (errV (if 0 ≤ i ∧ i < D.l.length then 0 else 7)) ∧ w' = w) := by
  obtain ⟨h0, vl, vw, h1, h2, h3, h4⟩ := h
  have hn1 := h0.n1
  obtain ⟨g, cap, pad, rfl, -, -, -, -⟩ := h3.pos hn1
  refine calls_T Tryd.func70 rfl rfl rfl ?_
  unfold ptr
  repeat (first | (with_reducible first | apply T_seq | apply T_region | apply U_nil | apply T_skip | apply T_block | apply T_inBlock | apply Cnd_t | apply Cnd_f | apply Cnd_not | apply Cnd_some | apply Cnd_none | apply Gd_nt | apply Gd_nf | apply Gd_some | apply Gd_none | apply Gd_want) | refine U_ar rfl rfl rfl (wrap_i64 (by omega)) rfl ?_ | refine U_pure E rfl rfl ?_ | refine T_exit rfl ?_ | refine T_condV rfl ?_ | refine U_guard rfl rfl ?_ | ((with_reducible refine Gd_skipT ?_ ?_); exact rfl) | ((with_reducible refine Gd_skipF ?_ ?_); exact rfl))
  refine Gd_p (fun hi => ?_) (fun hi => ?_)
  · repeat (first | (with_reducible first | apply T_seq | apply T_region | apply U_nil | apply T_skip | apply T_block | apply T_inBlock | apply Cnd_t | apply Cnd_f | apply Cnd_not | apply Cnd_some | apply Cnd_none | apply Gd_nt | apply Gd_nf | apply Gd_some | apply Gd_none | apply Gd_want) | refine U_ar rfl rfl rfl (wrap_i64 (by omega)) rfl ?_ | refine U_pure E rfl rfl ?_ | refine T_exit rfl ?_ | refine T_condV rfl ?_ | refine U_guard rfl rfl ?_ | ((with_reducible refine Gd_skipT ?_ ?_); exact rfl) | ((with_reducible refine Gd_skipF ?_ ?_); exact rfl))
    refine T_ret1 Tryd.func70 rfl rfl ⟨?_, rfl⟩
    rw [if_neg (by omega)]
    rfl
  · repeat (first | (with_reducible first | apply T_seq | apply T_region | apply U_nil | apply T_skip | apply T_block | apply T_inBlock | apply Cnd_t | apply Cnd_f | apply Cnd_not | apply Cnd_some | apply Cnd_none | apply Gd_nt | apply Gd_nf | apply Gd_some | apply Gd_none | apply Gd_want) | refine U_ar rfl rfl rfl (wrap_i64 (by omega)) rfl ?_ | refine U_pure E rfl rfl ?_ | refine T_exit rfl ?_ | refine T_condV rfl ?_ | refine U_guard rfl rfl ?_ | ((with_reducible refine Gd_skipT ?_ ?_); exact rfl) | ((with_reducible refine Gd_skipF ?_ ?_); exact rfl))
    refine U_loadB E (by assumption) rfl rfl rfl (by rfl) rfl ?_
    repeat (first | (with_reducible first | apply T_seq | apply T_region | apply U_nil | apply T_skip | apply T_block | apply T_inBlock | apply Cnd_t | apply Cnd_f | apply Cnd_not | apply Cnd_some | apply Cnd_none | apply Gd_nt | apply Gd_nf | apply Gd_some | apply Gd_none | apply Gd_want) | refine U_ar rfl rfl rfl (wrap_i64 (by omega)) rfl ?_ | refine U_pure E rfl rfl ?_ | refine T_exit rfl ?_ | refine T_condV rfl ?_ | refine U_guard rfl rfl ?_ | ((with_reducible refine Gd_skipT ?_ ?_); exact rfl) | ((with_reducible refine Gd_skipF ?_ ?_); exact rfl))
    refine Cnd_p (fun hc => ?_) (fun hc => ?_)
    · repeat (first | (with_reducible first | apply T_seq | apply T_region | apply U_nil | apply T_skip | apply T_block | apply T_inBlock | apply Cnd_t | apply Cnd_f | apply Cnd_not | apply Cnd_some | apply Cnd_none | apply Gd_nt | apply Gd_nf | apply Gd_some | apply Gd_none | apply Gd_want) | refine U_ar rfl rfl rfl (wrap_i64 (by omega)) rfl ?_ | refine U_pure E rfl rfl ?_ | refine T_exit rfl ?_ | refine T_condV rfl ?_ | refine U_guard rfl rfl ?_ | ((with_reducible refine Gd_skipT ?_ ?_); exact rfl) | ((with_reducible refine Gd_skipF ?_ ?_); exact rfl))
      refine T_ret1 Tryd.func70 rfl rfl ⟨?_, rfl⟩
      rw [if_neg (by omega)]
      rfl
    · repeat (first | (with_reducible first | apply T_seq | apply T_region | apply U_nil | apply T_skip | apply T_block | apply T_inBlock | apply Cnd_t | apply Cnd_f | apply Cnd_not | apply Cnd_some | apply Cnd_none | apply Gd_nt | apply Gd_nf | apply Gd_some | apply Gd_none | apply Gd_want) | refine U_ar rfl rfl rfl (wrap_i64 (by omega)) rfl ?_ | refine U_pure E rfl rfl ?_ | refine T_exit rfl ?_ | refine T_condV rfl ?_ | refine U_guard rfl rfl ?_ | ((with_reducible refine Gd_skipT ?_ ?_); exact rfl) | ((with_reducible refine Gd_skipF ?_ ?_); exact rfl))
      refine T_ret1 Tryd.func70 rfl rfl ⟨?_, rfl⟩
      rw [if_pos (by omega)]
      rfl

/-- One act more; what is left then; none: no act goes well any more. -/
def dec (n : Int) : Int := if n = -1 then -1 else n - 1

theorem act_c (w : World) (F : Nat → Prop) (hb : Nat) (D : Dr) (h : IsD w F hb D) :
    Calls Tryd.prog 69 [ptr hb].toArray w (Ret fun r w' => r = errV (if D.left = 0 then 8 else 0) ∧ Kept (fun b => b = hb) w w' ∧ w'.heap.size = w.heap.size ∧ IsD w' F hb (if D.left = 0 then D else { D with left := dec D.left })) := by
  have hD := h
  obtain ⟨h0, vl, vw, h1, h2, h3, h4⟩ := h
  have hl1 := h0.left1
  have hl2 := h0.left2
  refine calls_T Tryd.func69 rfl rfl rfl ?_
  unfold ptr
  repeat (first | (with_reducible first | apply T_seq | apply T_region | apply U_nil | apply T_skip | apply T_block | apply T_inBlock | apply Cnd_t | apply Cnd_f | apply Cnd_not | apply Cnd_some | apply Cnd_none | apply Gd_nt | apply Gd_nf | apply Gd_some | apply Gd_none | apply Gd_want) | refine U_ar rfl rfl rfl (wrap_i64 (by omega)) rfl ?_ | refine U_pure E rfl rfl ?_ | refine T_exit rfl ?_ | refine T_condV rfl ?_ | refine U_guard rfl rfl ?_ | ((with_reducible refine Gd_skipT ?_ ?_); exact rfl) | ((with_reducible refine Gd_skipF ?_ ?_); exact rfl))
  refine U_loadB E (by assumption) rfl rfl rfl (by rfl) rfl ?_
  repeat (first | (with_reducible first | apply T_seq | apply T_region | apply U_nil | apply T_skip | apply T_block | apply T_inBlock | apply Cnd_t | apply Cnd_f | apply Cnd_not | apply Cnd_some | apply Cnd_none | apply Gd_nt | apply Gd_nf | apply Gd_some | apply Gd_none | apply Gd_want) | refine U_ar rfl rfl rfl (wrap_i64 (by omega)) rfl ?_ | refine U_pure E rfl rfl ?_ | refine T_exit rfl ?_ | refine T_condV rfl ?_ | refine U_guard rfl rfl ?_ | ((with_reducible refine Gd_skipT ?_ ?_); exact rfl) | ((with_reducible refine Gd_skipF ?_ ?_); exact rfl))
  refine Cnd_p (fun hz => ?_) (fun hz => ?_)
  · repeat (first | (with_reducible first | apply T_seq | apply T_region | apply U_nil | apply T_skip | apply T_block | apply T_inBlock | apply Cnd_t | apply Cnd_f | apply Cnd_not | apply Cnd_some | apply Cnd_none | apply Gd_nt | apply Gd_nf | apply Gd_some | apply Gd_none | apply Gd_want) | refine U_ar rfl rfl rfl (wrap_i64 (by omega)) rfl ?_ | refine U_pure E rfl rfl ?_ | refine T_exit rfl ?_ | refine T_condV rfl ?_ | refine U_guard rfl rfl ?_ | ((with_reducible refine Gd_skipT ?_ ?_); exact rfl) | ((with_reducible refine Gd_skipF ?_ ?_); exact rfl))
    refine T_ret1 Tryd.func69 rfl rfl ⟨_, rfl, ?_, Kept.refl _ _, rfl, ?_⟩
    · rw [if_pos hz]; rfl
    · rw [if_pos hz]; exact hD
  · repeat (first | (with_reducible first | apply T_seq | apply T_region | apply U_nil | apply T_skip | apply T_block | apply T_inBlock | apply Cnd_t | apply Cnd_f | apply Cnd_not | apply Cnd_some | apply Cnd_none | apply Gd_nt | apply Gd_nf | apply Gd_some | apply Gd_none | apply Gd_want) | refine U_ar rfl rfl rfl (wrap_i64 (by omega)) rfl ?_ | refine U_pure E rfl rfl ?_ | refine T_exit rfl ?_ | refine T_condV rfl ?_ | refine U_guard rfl rfl ?_ | ((with_reducible refine Gd_skipT ?_ ?_); exact rfl) | ((with_reducible refine Gd_skipF ?_ ?_); exact rfl))
    refine Cnd_p (fun hm => ?_) (fun hm => ?_)
    · repeat (first | (with_reducible first | apply T_seq | apply T_region | apply U_nil | apply T_skip | apply T_block | apply T_inBlock | apply Cnd_t | apply Cnd_f | apply Cnd_not | apply Cnd_some | apply Cnd_none | apply Gd_nt | apply Gd_nf | apply Gd_some | apply Gd_none | apply Gd_want) | refine U_ar rfl rfl rfl (wrap_i64 (by omega)) rfl ?_ | refine U_pure E rfl rfl ?_ | refine T_exit rfl ?_ | refine T_condV rfl ?_ | refine U_guard rfl rfl ?_ | ((with_reducible refine Gd_skipT ?_ ?_); exact rfl) | ((with_reducible refine Gd_skipF ?_ ?_); exact rfl))
      refine T_ret1 Tryd.func69 rfl rfl ⟨_, rfl, ?_, Kept.refl _ _, rfl, ?_⟩
      · rw [if_neg hz]; rfl
      · rw [if_neg hz]
        have : ({ D with left := dec D.left } : Dr) = D := by
          cases D
          simp only [dec] at *
          rw [if_pos hm, hm]
        rw [this]
        exact hD
    · repeat (first | (with_reducible first | apply T_seq | apply T_region | apply U_nil | apply T_skip | apply T_block | apply T_inBlock | apply Cnd_t | apply Cnd_f | apply Cnd_not | apply Cnd_some | apply Cnd_none | apply Gd_nt | apply Gd_nf | apply Gd_some | apply Gd_none | apply Gd_want) | refine U_ar rfl rfl rfl (wrap_i64 (by omega)) rfl ?_ | refine U_pure E rfl rfl ?_ | refine T_exit rfl ?_ | refine T_condV rfl ?_ | refine U_guard rfl rfl ?_ | ((with_reducible refine Gd_skipT ?_ ?_); exact rfl) | ((with_reducible refine Gd_skipF ?_ ?_); exact rfl))
      refine U_loadB E (by assumption) rfl rfl rfl (by rfl) rfl ?_
      repeat (first | (with_reducible first | apply T_seq | apply T_region | apply U_nil | apply T_skip | apply T_block | apply T_inBlock | apply Cnd_t | apply Cnd_f | apply Cnd_not | apply Cnd_some | apply Cnd_none | apply Gd_nt | apply Gd_nf | apply Gd_some | apply Gd_none | apply Gd_want) | refine U_ar rfl rfl rfl (wrap_i64 (by omega)) rfl ?_ | refine U_pure E rfl rfl ?_ | refine T_exit rfl ?_ | refine T_condV rfl ?_ | refine U_guard rfl rfl ?_ | ((with_reducible refine Gd_skipT ?_ ?_); exact rfl) | ((with_reducible refine Gd_skipF ?_ ?_); exact rfl))
      refine U_store E (h2) rfl rfl rfl (by simp) rfl ?_
      intro w1 hu
      repeat (first | (with_reducible first | apply T_seq | apply T_region | apply U_nil | apply T_skip | apply T_block | apply T_inBlock | apply Cnd_t | apply Cnd_f | apply Cnd_not | apply Cnd_some | apply Cnd_none | apply Gd_nt | apply Gd_nf | apply Gd_some | apply Gd_none | apply Gd_want) | refine U_ar rfl rfl rfl (wrap_i64 (by omega)) rfl ?_ | refine U_pure E rfl rfl ?_ | refine T_exit rfl ?_ | refine T_condV rfl ?_ | refine U_guard rfl rfl ?_ | ((with_reducible refine Gd_skipT ?_ ?_); exact rfl) | ((with_reducible refine Gd_skipF ?_ ?_); exact rfl))
      refine T_ret1 Tryd.func69 rfl rfl ⟨_, rfl, ?_, hu.kept, hu.size, ?_⟩
      · rw [if_neg hz]; rfl
      · rw [if_neg hz]
        refine ⟨⟨h0.n1, h0.n2, h0.secs, h0.waits, h0.wn, ?_, ?_⟩, vl, vw, h1, ?_, h3.mv hu.kept (fun b _ h => h.2), h4.mv hu.kept (fun b _ h => h.2.1)⟩
        · simp only [dec]; rw [if_neg hm]; omega
        · simp only [dec]; rw [if_neg hm]; omega
        · have := hu.blk
          simp only [dec]
          rw [if_neg hm]
          simpa using this
end Go.Proofs.YtoefhdaenaiomaaDoor

/- New, Dirty, Flush. -/
namespace Go.Proofs.YtoefhdaenaiomaaDoor
open Go
set_option maxRecDepth 20000

def drNew (n : Nat) : Dr := ⟨List.replicate n (zeros 256), [], -1⟩
theorem drNew_ok (n : Nat) (h1 : 1 ≤ n) (h2 : n ≤ 8192) : (drNew n).Ok := by
  refine ⟨?_, ?_, fun s hs => ?_, ?_, ?_, ?_, ?_⟩
  · simp only [drNew, List.length_replicate]; exact h1
  · simp only [drNew, List.length_replicate]; exact h2
  · rw [(List.mem_replicate.1 hs).2]; exact zeros_len 256
  · intro p hp; cases hp
  · exact Nat.zero_le _
  · exact Int.le_refl _
  · simp only [drNew]; omega

theorem zcells : (Value.agg (List.replicate 256 (Value.int IntKind.u8 0)).toArray).cells = (encBs (zeros 256)).toArray := by rw [encBs_zeros]; rfl

theorem new_c (w : World) (n : Int) (h : 1 ≤ n ∧ n ≤ 8192) :
    Calls Tryd.prog 24 [.int .i64 n].toArray w (Ret fun r w' => Kept none0 w w' ∧ ∃ hb, r = .tuple #[ptr hb, .nilIface] ∧ IsD w' (fresh w) hb (drNew n.toNat)) := by
  obtain ⟨N, rfl⟩ := Int.eq_ofNat_of_zero_le (show 0 ≤ n by omega)
  refine calls_T Tryd.func24 rfl rfl rfl ?_
  repeat (first | (with_reducible first | apply T_seq | apply T_region | apply U_nil | apply T_skip | apply T_block | apply T_inBlock | apply Cnd_t | apply Cnd_f | apply Cnd_not | apply Cnd_some | apply Cnd_none | apply Gd_nt | apply Gd_nf | apply Gd_some | apply Gd_none | apply Gd_want) | refine U_ar rfl rfl rfl (wrap_i64 (by omega)) rfl ?_ | refine U_pure E rfl rfl ?_ | refine T_exit rfl ?_ | refine T_condV rfl ?_ | refine U_guard rfl rfl ?_ | ((with_reducible refine Gd_skipT ?_ ?_); exact rfl) | ((with_reducible refine Gd_skipF ?_ ?_); exact rfl))
  refine Gd_p (fun h1 => ?_) (fun h1 => ?_)
  · exfalso; omega
  · repeat (first | (with_reducible first | apply T_seq | apply T_region | apply U_nil | apply T_skip | apply T_block | apply T_inBlock | apply Cnd_t | apply Cnd_f | apply Cnd_not | apply Cnd_some | apply Cnd_none | apply Gd_nt | apply Gd_nf | apply Gd_some | apply Gd_none | apply Gd_want) | refine U_ar rfl rfl rfl (wrap_i64 (by omega)) rfl ?_ | refine U_pure E rfl rfl ?_ | refine T_exit rfl ?_ | refine T_condV rfl ?_ | refine U_guard rfl rfl ?_ | ((with_reducible refine Gd_skipT ?_ ?_); exact rfl) | ((with_reducible refine Gd_skipF ?_ ?_); exact rfl))
    refine Cnd_p (fun h2 => ?_) (fun h2 => ?_)
    · exfalso; omega
    · repeat (first | (with_reducible first | apply T_seq | apply T_region | apply U_nil | apply T_skip | apply T_block | apply T_inBlock | apply Cnd_t | apply Cnd_f | apply Cnd_not | apply Cnd_some | apply Cnd_none | apply Gd_nt | apply Gd_nf | apply Gd_some | apply Gd_none | apply Gd_want) | refine U_ar rfl rfl rfl (wrap_i64 (by omega)) rfl ?_ | refine U_pure E rfl rfl ?_ | refine T_exit rfl ?_ | refine T_condV rfl ?_ | refine U_guard rfl rfl ?_ | ((with_reducible refine Gd_skipT ?_ ?_); exact rfl) | ((with_reducible refine Gd_skipF ?_ ?_); exact rfl))
      refine U_make E rfl rfl (zs := encBs (zeros 256)) zcells (N := N) rfl rfl (by omega) (by omega) (by rw [encBs_len, zeros_len]) rfl rfl ?_
      intro b w1 hn
      refine U_build (cells := [.slice (some ⟨b, 0, none⟩) N N, .slice none 0 0, .int .i64 (-1)]) rfl (by kernel_rfl) rfl ?_
      refine U_box E rfl rfl rfl ?_
      intro hb w2 hn2
      repeat (first | (with_reducible first | apply T_seq | apply T_region | apply U_nil | apply T_skip | apply T_block | apply T_inBlock | apply Cnd_t | apply Cnd_f | apply Cnd_not | apply Cnd_some | apply Cnd_none | apply Gd_nt | apply Gd_nf | apply Gd_some | apply Gd_none | apply Gd_want) | refine U_ar rfl rfl rfl (wrap_i64 (by omega)) rfl ?_ | refine U_pure E rfl rfl ?_ | refine T_exit rfl ?_ | refine T_condV rfl ?_ | refine U_guard rfl rfl ?_ | ((with_reducible refine Gd_skipT ?_ ?_); exact rfl) | ((with_reducible refine Gd_skipF ?_ ?_); exact rfl))
      refine T_ret2 Tryd.func24 rfl rfl rfl ⟨_, rfl, hn.kept.tr hn2.kept (fun _ _ h => h), hb, rfl, drNew_ok _ (by omega) (by omega), _, _, ?_, hn2.blk, ?_, Row.nil _ _ _ _⟩
      · have := hn.kept.size
        simp only [fresh, hn2.at_]
        exact this
      · have hb2 := hn2.at_
        have hb1 := hn.at_
        have hs1 := hn.size
        refine ⟨?_, .inr ⟨b, N, [], ?_, ⟨?_, ?_⟩, ?_, ?_, ?_⟩⟩
        · rw [flat_len (sz := 256) _ (fun s hs => by obtain ⟨x, hx, rfl⟩ := List.mem_map.1 hs; rw [encBs_len, (List.mem_replicate.1 hx).2, zeros_len])]
          simp [drNew]
        · simp [drNew]
        · simp only [fresh]; omega
        · omega
        · have := hn.blk.mv hn2.kept (fun x => x)
          simp only [drNew, List.map_replicate, List.append_nil, Int.toNat_natCast]
          exact this
        · simp only [List.append_nil]
          rw [flat_len (sz := 256) _ (fun s hs => by obtain ⟨x, hx, rfl⟩ := List.mem_map.1 hs; rw [encBs_len, (List.mem_replicate.1 hx).2, zeros_len])]
          simp [drNew]
        · simp [drNew]

theorem new_no (w : World) (n : Int) (h : ¬ (1 ≤ n ∧ n ≤ 8192)) :
    Calls Tryd.prog 24 [.int .i64 n].toArray w (Ret fun r w' => r = .tuple #[.pointer none, errV 1] ∧ w' = w) := by
  refine calls_T Tryd.func24 rfl rfl rfl ?_
  repeat (first | (with_reducible first | apply T_seq | apply T_region | apply U_nil | apply T_skip | apply T_block | apply T_inBlock | apply Cnd_t | apply Cnd_f | apply Cnd_not | apply Cnd_some | apply Cnd_none | apply Gd_nt | apply Gd_nf | apply Gd_some | apply Gd_none | apply Gd_want) | refine U_ar rfl rfl rfl (wrap_i64 (by omega)) rfl ?_ | refine U_pure E rfl rfl ?_ | refine T_exit rfl ?_ | refine T_condV rfl ?_ | refine U_guard rfl rfl ?_ | ((with_reducible refine Gd_skipT ?_ ?_); exact rfl) | ((with_reducible refine Gd_skipF ?_ ?_); exact rfl))
  refine Gd_p (fun h1 => ?_) (fun h1 => ?_)
  · repeat (first | (with_reducible first | apply T_seq | apply T_region | apply U_nil | apply T_skip | apply T_block | apply T_inBlock | apply Cnd_t | apply Cnd_f | apply Cnd_not | apply Cnd_some | apply Cnd_none | apply Gd_nt | apply Gd_nf | apply Gd_some | apply Gd_none | apply Gd_want) | refine U_ar rfl rfl rfl (wrap_i64 (by omega)) rfl ?_ | refine U_pure E rfl rfl ?_ | refine T_exit rfl ?_ | refine T_condV rfl ?_ | refine U_guard rfl rfl ?_ | ((with_reducible refine Gd_skipT ?_ ?_); exact rfl) | ((with_reducible refine Gd_skipF ?_ ?_); exact rfl))
    exact T_ret2 Tryd.func24 rfl rfl rfl ⟨_, rfl, rfl, rfl⟩
  · repeat (first | (with_reducible first | apply T_seq | apply T_region | apply U_nil | apply T_skip | apply T_block | apply T_inBlock | apply Cnd_t | apply Cnd_f | apply Cnd_not | apply Cnd_some | apply Cnd_none | apply Gd_nt | apply Gd_nf | apply Gd_some | apply Gd_none | apply Gd_want) | refine U_ar rfl rfl rfl (wrap_i64 (by omega)) rfl ?_ | refine U_pure E rfl rfl ?_ | refine T_exit rfl ?_ | refine T_condV rfl ?_ | refine U_guard rfl rfl ?_ | ((with_reducible refine Gd_skipT ?_ ?_); exact rfl) | ((with_reducible refine Gd_skipF ?_ ?_); exact rfl))
    refine Cnd_p (fun h2 => ?_) (fun h2 => ?_)
    · repeat (first | (with_reducible first | apply T_seq | apply T_region | apply U_nil | apply T_skip | apply T_block | apply T_inBlock | apply Cnd_t | apply Cnd_f | apply Cnd_not | apply Cnd_some | apply Cnd_none | apply Gd_nt | apply Gd_nf | apply Gd_some | apply Gd_none | apply Gd_want) | refine U_ar rfl rfl rfl (wrap_i64 (by omega)) rfl ?_ | refine U_pure E rfl rfl ?_ | refine T_exit rfl ?_ | refine T_condV rfl ?_ | refine U_guard rfl rfl ?_ | ((with_reducible refine Gd_skipT ?_ ?_); exact rfl) | ((with_reducible refine Gd_skipF ?_ ?_); exact rfl))
      exact T_ret2 Tryd.func24 rfl rfl rfl ⟨_, rfl, rfl, rfl⟩
    · exfalso; omega

theorem dirty_c (w : World) (F : Nat → Prop) (hb : Nat) (D : Dr) (h : IsD w F hb D) :
    Calls Tryd.prog 39 [ptr hb].toArray w (fun e w' => e = .returned (.int .i64 D.wait.length) ∧ w' = w) := by
  obtain ⟨h0, vl, vw, h1, h2, h3, h4⟩ := h
  obtain ⟨A, c, rfl⟩ := h4.val
  refine calls_T Tryd.func39 rfl rfl rfl ?_
  unfold ptr
  repeat (first | (with_reducible first | apply T_seq | apply T_region | apply U_nil | apply T_skip | apply T_block | apply T_inBlock | apply Cnd_t | apply Cnd_f | apply Cnd_not | apply Cnd_some | apply Cnd_none | apply Gd_nt | apply Gd_nf | apply Gd_some | apply Gd_none | apply Gd_want) | refine U_ar rfl rfl rfl (wrap_i64 (by omega)) rfl ?_ | refine U_pure E rfl rfl ?_ | refine T_exit rfl ?_ | refine T_condV rfl ?_ | refine U_guard rfl rfl ?_ | ((with_reducible refine Gd_skipT ?_ ?_); exact rfl) | ((with_reducible refine Gd_skipF ?_ ?_); exact rfl))
  refine U_loadB E (by assumption) rfl rfl rfl (by rfl) rfl ?_
  repeat (first | (with_reducible first | apply T_seq | apply T_region | apply U_nil | apply T_skip | apply T_block | apply T_inBlock | apply Cnd_t | apply Cnd_f | apply Cnd_not | apply Cnd_some | apply Cnd_none | apply Gd_nt | apply Gd_nf | apply Gd_some | apply Gd_none | apply Gd_want) | refine U_ar rfl rfl rfl (wrap_i64 (by omega)) rfl ?_ | refine U_pure E rfl rfl ?_ | refine T_exit rfl ?_ | refine T_condV rfl ?_ | refine U_guard rfl rfl ?_ | ((with_reducible refine Gd_skipT ?_ ?_); exact rfl) | ((with_reducible refine Gd_skipF ?_ ?_); exact rfl))
  exact T_ret1 Tryd.func39 rfl rfl ⟨rfl, rfl⟩

def applyW (l : List (List UInt8)) (ws : List (Nat × List UInt8)) : List (List UInt8) := ws.foldl (fun l p => l.set p.1 p.2) l
theorem applyW_len : ∀ (ws : List (Nat × List UInt8)) (l : List (List UInt8)), (applyW l ws).length = l.length
  | [], l => rfl
  | p :: ws, l => by
    have := applyW_len ws (l.set p.1 p.2)
    simp only [List.length_set] at this
    exact this
theorem applyW_snoc (l : List (List UInt8)) (ws : List (Nat × List UInt8)) (p : Nat × List UInt8) : applyW l (ws ++ [p]) = (applyW l ws).set p.1 p.2 := by
  simp [applyW]
theorem applyW_secs : ∀ (ws : List (Nat × List UInt8)) (l : List (List UInt8)), (∀ s ∈ l, s.length = 256) → (∀ p ∈ ws, p.2.length = 256) → ∀ s ∈ applyW l ws, s.length = 256
  | [], l, h, _ => h
  | p :: ws, l, h, hw => applyW_secs ws (l.set p.1 p.2) (fun s hs => by
      rcases List.mem_or_eq_of_mem_set hs with h1 | h1
      · exact h s h1
      · rw [h1]; exact hw p (by simp)) (fun q hq => hw q (by simp [hq]))

theorem encSegs {l : List (List UInt8)} (h : ∀ s ∈ l, s.length = 256) : ∀ s ∈ l.map encBs, s.length = 256 := by
  intro s hs
  obtain ⟨x, hx, rfl⟩ := List.mem_map.1 hs
  rw [encBs_len]
  exact h x hx
theorem encWs {l : List (Nat × List UInt8)} (h : ∀ p ∈ l, p.2.length = 256) : ∀ s ∈ l.map encW, s.length = 257 := by
  intro s hs
  obtain ⟨x, hx, rfl⟩ := List.mem_map.1 hs
  rw [encW_len, h x hx]

theorem flush_off (w : World) (F : Nat → Prop) (hb : Nat) (D : Dr) (h : IsD w F hb D) (hl : D.left = 0) :
    Calls Tryd.prog 26 [ptr hb].toArray w (Ret fun r w' => r = errV 8 ∧ Kept (fun b => b = hb) w w' ∧ w'.heap.size = w.heap.size ∧ IsD w' F hb D) := by
  have hc := act_c w F hb D h
  rw [if_pos hl, if_pos hl] at hc
  refine calls_T Tryd.func26 rfl rfl rfl ?_
  unfold ptr at *
  repeat (first | (with_reducible first | apply T_seq | apply T_region | apply U_nil | apply T_skip | apply T_block | apply T_inBlock | apply Cnd_t | apply Cnd_f | apply Cnd_not | apply Cnd_some | apply Cnd_none | apply Gd_nt | apply Gd_nf | apply Gd_some | apply Gd_none | apply Gd_want) | refine U_ar rfl rfl rfl (wrap_i64 (by omega)) rfl ?_ | refine U_pure E rfl rfl ?_ | refine T_exit rfl ?_ | refine T_condV rfl ?_ | refine U_guard rfl rfl ?_ | ((with_reducible refine Gd_skipT ?_ ?_); exact rfl) | ((with_reducible refine Gd_skipF ?_ ?_); exact rfl))
  refine U_call rfl rfl (Tryd.call69 _) (hc) ?_
  rintro r w1 ⟨rfl, hk, hs, hD⟩
  unfold errV
  repeat (first | (with_reducible first | apply T_seq | apply T_region | apply U_nil | apply T_skip | apply T_block | apply T_inBlock | apply Cnd_t | apply Cnd_f | apply Cnd_not | apply Cnd_some | apply Cnd_none | apply Gd_nt | apply Gd_nf | apply Gd_some | apply Gd_none | apply Gd_want) | refine U_ar rfl rfl rfl (wrap_i64 (by omega)) rfl ?_ | refine U_pure E rfl rfl ?_ | refine T_exit rfl ?_ | refine T_condV rfl ?_ | refine U_guard rfl rfl ?_ | ((with_reducible refine Gd_skipT ?_ ?_); exact rfl) | ((with_reducible refine Gd_skipF ?_ ?_); exact rfl))
  exact T_ret1 Tryd.func26 rfl rfl ⟨_, rfl, rfl, hk, hs, hD⟩
end Go.Proofs.YtoefhdaenaiomaaDoor
