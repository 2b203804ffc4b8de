/- The types of the program that the walks meet: what the program's own table says of them. -/
import Derived.Test.YtoefhdaenaiomaaDoorProg
import Derived.Test.YtoefhdaenaiomaaDoorDraw
namespace Go.Proofs.YtoefhdaenaiomaaDoor
open Go
def lkT {α : Type} : List (Nat × α) → Nat → Option α
  | [], _ => none
  | (i, v) :: m, j => cond (Nat.beq i j) (some v) (lkT m j)
theorem lkT_mem {α : Type} : ∀ {l : List (Nat × α)} {i : Nat} {x : α}, lkT l i = some x → (i, x) ∈ l
  | [], i, x, h => by simp [lkT] at h
  | (j, v) :: m, i, x, h => by
    simp only [lkT] at h
    cases hb : Nat.beq j i with
    | true =>
      rw [hb] at h
      simp only [cond_true] at h
      injection h with h
      have : j = i := by simpa using hb
      subst this
      subst h
      exact List.mem_cons_self
    | false =>
      rw [hb] at h
      exact List.mem_cons_of_mem _ (lkT_mem h)
def Good (p : Nat × (TypeDesc × Nat × Nat × Value)) : Prop := Tryd.prog.underlying p.1 = some p.2.1 ∧ ∃ i, Tryd.prog.info? p.1 = some i ∧ i.size = p.2.2.1 ∧ i.bytes = p.2.2.2.1 ∧ i.zero = some p.2.2.2.2
noncomputable def tab : List (Nat × (TypeDesc × Nat × Nat × Value)) := [
  /- int64 -/ (2, (Tryd.t2.desc, 1, 8, (Value.int IntKind.i64 0))),
  /- int -/ (3, (Tryd.t3.desc, 1, 8, (Value.int IntKind.i64 0))),
  /- bool -/ (4, (Tryd.t4.desc, 1, 1, (Value.bool false))),
  /- uint8 -/ (5, (Tryd.t5.desc, 1, 1, (Value.int IntKind.u8 0))),
  /- string -/ (9, (Tryd.t9.desc, 1, 16, (Value.string { data := #[] }))),
  /- uintptr -/ (12, (Tryd.t12.desc, 1, 8, (Value.int IntKind.u64 0))),
  /- struct { msg string; addr uintptr } -/ (13, (Tryd.t13.desc, 2, 24, (Value.agg #[Value.string { data := #[] }, Value.int IntKind.u64 0]))),
  /- interface {} -/ (20, (Tryd.t20.desc, 1, 16, Value.nilIface)),
  /- int32 -/ (21, (Tryd.t21.desc, 1, 4, (Value.int IntKind.i32 0))),
  /- uint32 -/ (22, (Tryd.t22.desc, 1, 4, (Value.int IntKind.u32 0))),
  /- []uint8 -/ (23, (Tryd.t23.desc, 1, 24, (Value.slice none 0 0))),
  /- interface { Error() string } -/ (27, (Tryd.t27.desc, 1, 16, Value.nilIface)),
  /- error -/ (28, (Tryd.t27.desc, 1, 16, Value.nilIface)),
  /- *drum.Drum -/ (33, (Tryd.t33.desc, 1, 8, (Value.pointer none))),
  /- api.Errno -/ (39, (Tryd.t3.desc, 1, 8, (Value.int IntKind.i64 0))),
  /- []arrearsref01.Act -/ (44, (Tryd.t44.desc, 1, 24, (Value.slice none 0 0))),
  /- *arrearsref01.Drum -/ (45, (Tryd.t45.desc, 1, 8, (Value.pointer none))),
  /- []bool -/ (47, (Tryd.t47.desc, 1, 24, (Value.slice none 0 0))),
  /- struct { Do uint8; At int; P []uint8; Keep []bool; N int; Mask uint32 } -/ (48, (Tryd.t48.desc, 6, 80, (Value.agg
        #[Value.int IntKind.u8 0, Value.int IntKind.i64 0, Value.slice none 0 0, Value.slice none 0 0,
          Value.int IntKind.i64 0, Value.int IntKind.u32 0]))),
  /- arrearsref01.Act -/ (49, (Tryd.t48.desc, 6, 80, (Value.agg
        #[Value.int IntKind.u8 0, Value.int IntKind.i64 0, Value.slice none 0 0, Value.slice none 0 0,
          Value.int IntKind.i64 0, Value.int IntKind.u32 0]))),
  /- uint16 -/ (69, (Tryd.t69.desc, 1, 2, (Value.int IntKind.u16 0))),
  /- [][]uint8 -/ (73, (Tryd.t73.desc, 1, 24, (Value.slice none 0 0))),
  /- *reel.Reel -/ (75, (Tryd.t75.desc, 1, 8, (Value.pointer none))),
  /- uint64 -/ (94, (Tryd.t94.desc, 1, 8, (Value.int IntKind.u64 0))),
  /- []drum.block -/ (96, (Tryd.t96.desc, 1, 24, (Value.slice none 0 0))),
  /- []drum.write -/ (97, (Tryd.t97.desc, 1, 24, (Value.slice none 0 0))),
  /- struct { l []drum.block; wait []drum.write; left int } -/ (98, (Tryd.t98.desc, 3, 56, (Value.agg #[Value.slice none 0 0, Value.slice none 0 0, Value.int IntKind.i64 0]))),
  /- drum.Drum -/ (99, (Tryd.t98.desc, 3, 56, (Value.agg #[Value.slice none 0 0, Value.slice none 0 0, Value.int IntKind.i64 0]))),
  /- [256]uint8 -/ (100, (Tryd.t100.desc, 256, 256, (Value.agg (List.replicate 256 (Value.int IntKind.u8 0)).toArray))),
  /- drum.block -/ (101, (Tryd.t100.desc, 256, 256, (Value.agg (List.replicate 256 (Value.int IntKind.u8 0)).toArray))),
  /- struct { at int; b drum.block } -/ (102, (Tryd.t102.desc, 257, 264, (Value.agg ([Value.int IntKind.i64 0] ++ List.replicate 256 (Value.int IntKind.u8 0)).toArray))),
  /- drum.write -/ (103, (Tryd.t102.desc, 257, 264, (Value.agg ([Value.int IntKind.i64 0] ++ List.replicate 256 (Value.int IntKind.u8 0)).toArray))),
  /- *api.Errno -/ (106, (Tryd.t106.desc, 1, 8, (Value.pointer none))),
  /- []arrearsref01.Deed -/ (109, (Tryd.t109.desc, 1, 24, (Value.slice none 0 0))),
  /- struct { First [][]uint8; Deeds []arrearsref01.Deed; Left int } -/ (110, (Tryd.t110.desc, 3, 56, (Value.agg #[Value.slice none 0 0, Value.slice none 0 0, Value.int IntKind.i64 0]))),
  /- arrearsref01.Drum -/ (111, (Tryd.t110.desc, 3, 56, (Value.agg #[Value.slice none 0 0, Value.slice none 0 0, Value.int IntKind.i64 0]))),
  /- struct { At int; P []uint8 } -/ (113, (Tryd.t113.desc, 2, 32, (Value.agg #[Value.int IntKind.i64 0, Value.slice none 0 0]))),
  /- arrearsref01.Deed -/ (114, (Tryd.t113.desc, 2, 32, (Value.agg #[Value.int IntKind.i64 0, Value.slice none 0 0]))),
  /- uint -/ (119, (Tryd.t119.desc, 1, 8, (Value.int IntKind.u64 0))),
  /- struct { d *drum.Drum; gen uint32; l [][]uint8; at int } -/ (127, (Tryd.t127.desc, 4, 48, (Value.agg
        #[Value.pointer none, Value.int IntKind.u32 0, Value.slice none 0 0,
          Value.int IntKind.i64 0]))),
  /- reel.Reel -/ (128, (Tryd.t127.desc, 4, 48, (Value.agg
        #[Value.pointer none, Value.int IntKind.u32 0, Value.slice none 0 0,
          Value.int IntKind.i64 0]))),
  /- [256]bool -/ (136, (Tryd.t136.desc, 256, 256, (Value.agg (List.replicate 256 (Value.bool false)).toArray))),
  /- bytes.asciiSet -/ (137, (Tryd.t136.desc, 256, 256, (Value.agg (List.replicate 256 (Value.bool false)).toArray))),
  /- *bytes.asciiSet -/ (141, (Tryd.t141.desc, 1, 8, (Value.pointer none))),
  /- interface { As(interface {}) bool } -/ (171, (Tryd.t171.desc, 1, 16, Value.nilIface)),
  /- interface { Unwrap() error } -/ (174, (Tryd.t174.desc, 1, 16, Value.nilIface)),
  /- interface { Unwrap() []error } -/ (175, (Tryd.t175.desc, 1, 16, Value.nilIface)),
  /- []error -/ (176, (Tryd.t176.desc, 1, 24, (Value.slice none 0 0))),
  /- struct { lo uint8; hi uint8 } -/ (179, (Tryd.t179.desc, 2, 2, (Value.agg #[Value.int IntKind.u8 0, Value.int IntKind.u8 0]))),
  /- utf8.acceptRange -/ (180, (Tryd.t179.desc, 2, 2, (Value.agg #[Value.int IntKind.u8 0, Value.int IntKind.u8 0]))),
  /- [16]utf8.acceptRange -/ (181, (Tryd.t181.desc, 32, 32, (Value.agg
        #[Value.int IntKind.u8 0, Value.int IntKind.u8 0, Value.int IntKind.u8 0,
          Value.int IntKind.u8 0, Value.int IntKind.u8 0, Value.int IntKind.u8 0,
          Value.int IntKind.u8 0, Value.int IntKind.u8 0, Value.int IntKind.u8 0,
          Value.int IntKind.u8 0, Value.int IntKind.u8 0, Value.int IntKind.u8 0,
          Value.int IntKind.u8 0, Value.int IntKind.u8 0, Value.int IntKind.u8 0,
          Value.int IntKind.u8 0, Value.int IntKind.u8 0, Value.int IntKind.u8 0,
          Value.int IntKind.u8 0, Value.int IntKind.u8 0, Value.int IntKind.u8 0,
          Value.int IntKind.u8 0, Value.int IntKind.u8 0, Value.int IntKind.u8 0,
          Value.int IntKind.u8 0, Value.int IntKind.u8 0, Value.int IntKind.u8 0,
          Value.int IntKind.u8 0, Value.int IntKind.u8 0, Value.int IntKind.u8 0,
          Value.int IntKind.u8 0, Value.int IntKind.u8 0]))),
  /- *uint8 -/ (191, (Tryd.t191.desc, 1, 8, (Value.pointer none))),
  /- *error -/ (208, (Tryd.t208.desc, 1, 8, (Value.pointer none)))]
theorem good2 : Good (2, (Tryd.t2.desc, 1, 8, (Value.int IntKind.i64 0))) := ⟨by kernel_rfl, Tryd.t2, by kernel_rfl, rfl, rfl, by kernel_rfl⟩
theorem good3 : Good (3, (Tryd.t3.desc, 1, 8, (Value.int IntKind.i64 0))) := ⟨by kernel_rfl, Tryd.t3, by kernel_rfl, rfl, rfl, by kernel_rfl⟩
theorem good4 : Good (4, (Tryd.t4.desc, 1, 1, (Value.bool false))) := ⟨by kernel_rfl, Tryd.t4, by kernel_rfl, rfl, rfl, by kernel_rfl⟩
theorem good5 : Good (5, (Tryd.t5.desc, 1, 1, (Value.int IntKind.u8 0))) := ⟨by kernel_rfl, Tryd.t5, by kernel_rfl, rfl, rfl, by kernel_rfl⟩
theorem good9 : Good (9, (Tryd.t9.desc, 1, 16, (Value.string { data := #[] }))) := ⟨by kernel_rfl, Tryd.t9, by kernel_rfl, rfl, rfl, by kernel_rfl⟩
theorem good12 : Good (12, (Tryd.t12.desc, 1, 8, (Value.int IntKind.u64 0))) := ⟨by kernel_rfl, Tryd.t12, by kernel_rfl, rfl, rfl, by kernel_rfl⟩
theorem good13 : Good (13, (Tryd.t13.desc, 2, 24, (Value.agg #[Value.string { data := #[] }, Value.int IntKind.u64 0]))) := ⟨by kernel_rfl, Tryd.t13, by kernel_rfl, rfl, rfl, by kernel_rfl⟩
theorem good20 : Good (20, (Tryd.t20.desc, 1, 16, Value.nilIface)) := ⟨by kernel_rfl, Tryd.t20, by kernel_rfl, rfl, rfl, by kernel_rfl⟩
theorem good21 : Good (21, (Tryd.t21.desc, 1, 4, (Value.int IntKind.i32 0))) := ⟨by kernel_rfl, Tryd.t21, by kernel_rfl, rfl, rfl, by kernel_rfl⟩
theorem good22 : Good (22, (Tryd.t22.desc, 1, 4, (Value.int IntKind.u32 0))) := ⟨by kernel_rfl, Tryd.t22, by kernel_rfl, rfl, rfl, by kernel_rfl⟩
theorem good23 : Good (23, (Tryd.t23.desc, 1, 24, (Value.slice none 0 0))) := ⟨by kernel_rfl, Tryd.t23, by kernel_rfl, rfl, rfl, by kernel_rfl⟩
theorem good27 : Good (27, (Tryd.t27.desc, 1, 16, Value.nilIface)) := ⟨by kernel_rfl, Tryd.t27, by kernel_rfl, rfl, rfl, by kernel_rfl⟩
theorem good28 : Good (28, (Tryd.t27.desc, 1, 16, Value.nilIface)) := ⟨by kernel_rfl, Tryd.t28, by kernel_rfl, rfl, rfl, by kernel_rfl⟩
theorem good33 : Good (33, (Tryd.t33.desc, 1, 8, (Value.pointer none))) := ⟨by kernel_rfl, Tryd.t33, by kernel_rfl, rfl, rfl, by kernel_rfl⟩
theorem good39 : Good (39, (Tryd.t3.desc, 1, 8, (Value.int IntKind.i64 0))) := ⟨by kernel_rfl, Tryd.t39, by kernel_rfl, rfl, rfl, by kernel_rfl⟩
theorem good44 : Good (44, (Tryd.t44.desc, 1, 24, (Value.slice none 0 0))) := ⟨by kernel_rfl, Tryd.t44, by kernel_rfl, rfl, rfl, by kernel_rfl⟩
theorem good45 : Good (45, (Tryd.t45.desc, 1, 8, (Value.pointer none))) := ⟨by kernel_rfl, Tryd.t45, by kernel_rfl, rfl, rfl, by kernel_rfl⟩
theorem good47 : Good (47, (Tryd.t47.desc, 1, 24, (Value.slice none 0 0))) := ⟨by kernel_rfl, Tryd.t47, by kernel_rfl, rfl, rfl, by kernel_rfl⟩
theorem good48 : Good (48, (Tryd.t48.desc, 6, 80, (Value.agg
        #[Value.int IntKind.u8 0, Value.int IntKind.i64 0, Value.slice none 0 0, Value.slice none 0 0,
          Value.int IntKind.i64 0, Value.int IntKind.u32 0]))) := ⟨by kernel_rfl, Tryd.t48, by kernel_rfl, rfl, rfl, by kernel_rfl⟩
theorem good49 : Good (49, (Tryd.t48.desc, 6, 80, (Value.agg
        #[Value.int IntKind.u8 0, Value.int IntKind.i64 0, Value.slice none 0 0, Value.slice none 0 0,
          Value.int IntKind.i64 0, Value.int IntKind.u32 0]))) := ⟨by kernel_rfl, Tryd.t49, by kernel_rfl, rfl, rfl, by kernel_rfl⟩
theorem good69 : Good (69, (Tryd.t69.desc, 1, 2, (Value.int IntKind.u16 0))) := ⟨by kernel_rfl, Tryd.t69, by kernel_rfl, rfl, rfl, by kernel_rfl⟩
theorem good73 : Good (73, (Tryd.t73.desc, 1, 24, (Value.slice none 0 0))) := ⟨by kernel_rfl, Tryd.t73, by kernel_rfl, rfl, rfl, by kernel_rfl⟩
theorem good75 : Good (75, (Tryd.t75.desc, 1, 8, (Value.pointer none))) := ⟨by kernel_rfl, Tryd.t75, by kernel_rfl, rfl, rfl, by kernel_rfl⟩
theorem good94 : Good (94, (Tryd.t94.desc, 1, 8, (Value.int IntKind.u64 0))) := ⟨by kernel_rfl, Tryd.t94, by kernel_rfl, rfl, rfl, by kernel_rfl⟩
theorem good96 : Good (96, (Tryd.t96.desc, 1, 24, (Value.slice none 0 0))) := ⟨by kernel_rfl, Tryd.t96, by kernel_rfl, rfl, rfl, by kernel_rfl⟩
theorem good97 : Good (97, (Tryd.t97.desc, 1, 24, (Value.slice none 0 0))) := ⟨by kernel_rfl, Tryd.t97, by kernel_rfl, rfl, rfl, by kernel_rfl⟩
theorem good98 : Good (98, (Tryd.t98.desc, 3, 56, (Value.agg #[Value.slice none 0 0, Value.slice none 0 0, Value.int IntKind.i64 0]))) := ⟨by kernel_rfl, Tryd.t98, by kernel_rfl, rfl, rfl, by kernel_rfl⟩
theorem good99 : Good (99, (Tryd.t98.desc, 3, 56, (Value.agg #[Value.slice none 0 0, Value.slice none 0 0, Value.int IntKind.i64 0]))) := ⟨by kernel_rfl, Tryd.t99, by kernel_rfl, rfl, rfl, by kernel_rfl⟩
theorem good100 : Good (100, (Tryd.t100.desc, 256, 256, (Value.agg (List.replicate 256 (Value.int IntKind.u8 0)).toArray))) := ⟨by kernel_rfl, Tryd.t100, by kernel_rfl, rfl, rfl, by kernel_rfl⟩
theorem good101 : Good (101, (Tryd.t100.desc, 256, 256, (Value.agg (List.replicate 256 (Value.int IntKind.u8 0)).toArray))) := ⟨by kernel_rfl, Tryd.t101, by kernel_rfl, rfl, rfl, by kernel_rfl⟩
theorem good102 : Good (102, (Tryd.t102.desc, 257, 264, (Value.agg ([Value.int IntKind.i64 0] ++ List.replicate 256 (Value.int IntKind.u8 0)).toArray))) := ⟨by kernel_rfl, Tryd.t102, by kernel_rfl, rfl, rfl, by kernel_rfl⟩
theorem good103 : Good (103, (Tryd.t102.desc, 257, 264, (Value.agg ([Value.int IntKind.i64 0] ++ List.replicate 256 (Value.int IntKind.u8 0)).toArray))) := ⟨by kernel_rfl, Tryd.t103, by kernel_rfl, rfl, rfl, by kernel_rfl⟩
theorem good106 : Good (106, (Tryd.t106.desc, 1, 8, (Value.pointer none))) := ⟨by kernel_rfl, Tryd.t106, by kernel_rfl, rfl, rfl, by kernel_rfl⟩
theorem good109 : Good (109, (Tryd.t109.desc, 1, 24, (Value.slice none 0 0))) := ⟨by kernel_rfl, Tryd.t109, by kernel_rfl, rfl, rfl, by kernel_rfl⟩
theorem good110 : Good (110, (Tryd.t110.desc, 3, 56, (Value.agg #[Value.slice none 0 0, Value.slice none 0 0, Value.int IntKind.i64 0]))) := ⟨by kernel_rfl, Tryd.t110, by kernel_rfl, rfl, rfl, by kernel_rfl⟩
theorem good111 : Good (111, (Tryd.t110.desc, 3, 56, (Value.agg #[Value.slice none 0 0, Value.slice none 0 0, Value.int IntKind.i64 0]))) := ⟨by kernel_rfl, Tryd.t111, by kernel_rfl, rfl, rfl, by kernel_rfl⟩
theorem good113 : Good (113, (Tryd.t113.desc, 2, 32, (Value.agg #[Value.int IntKind.i64 0, Value.slice none 0 0]))) := ⟨by kernel_rfl, Tryd.t113, by kernel_rfl, rfl, rfl, by kernel_rfl⟩
theorem good114 : Good (114, (Tryd.t113.desc, 2, 32, (Value.agg #[Value.int IntKind.i64 0, Value.slice none 0 0]))) := ⟨by kernel_rfl, Tryd.t114, by kernel_rfl, rfl, rfl, by kernel_rfl⟩
theorem good119 : Good (119, (Tryd.t119.desc, 1, 8, (Value.int IntKind.u64 0))) := ⟨by kernel_rfl, Tryd.t119, by kernel_rfl, rfl, rfl, by kernel_rfl⟩
theorem good127 : Good (127, (Tryd.t127.desc, 4, 48, (Value.agg
        #[Value.pointer none, Value.int IntKind.u32 0, Value.slice none 0 0,
          Value.int IntKind.i64 0]))) := ⟨by kernel_rfl, Tryd.t127, by kernel_rfl, rfl, rfl, by kernel_rfl⟩
theorem good128 : Good (128, (Tryd.t127.desc, 4, 48, (Value.agg
        #[Value.pointer none, Value.int IntKind.u32 0, Value.slice none 0 0,
          Value.int IntKind.i64 0]))) := ⟨by kernel_rfl, Tryd.t128, by kernel_rfl, rfl, rfl, by kernel_rfl⟩
theorem good136 : Good (136, (Tryd.t136.desc, 256, 256, (Value.agg (List.replicate 256 (Value.bool false)).toArray))) := ⟨by kernel_rfl, Tryd.t136, by kernel_rfl, rfl, rfl, by kernel_rfl⟩
theorem good137 : Good (137, (Tryd.t136.desc, 256, 256, (Value.agg (List.replicate 256 (Value.bool false)).toArray))) := ⟨by kernel_rfl, Tryd.t137, by kernel_rfl, rfl, rfl, by kernel_rfl⟩
theorem good141 : Good (141, (Tryd.t141.desc, 1, 8, (Value.pointer none))) := ⟨by kernel_rfl, Tryd.t141, by kernel_rfl, rfl, rfl, by kernel_rfl⟩
theorem good171 : Good (171, (Tryd.t171.desc, 1, 16, Value.nilIface)) := ⟨by kernel_rfl, Tryd.t171, by kernel_rfl, rfl, rfl, by kernel_rfl⟩
theorem good174 : Good (174, (Tryd.t174.desc, 1, 16, Value.nilIface)) := ⟨by kernel_rfl, Tryd.t174, by kernel_rfl, rfl, rfl, by kernel_rfl⟩
theorem good175 : Good (175, (Tryd.t175.desc, 1, 16, Value.nilIface)) := ⟨by kernel_rfl, Tryd.t175, by kernel_rfl, rfl, rfl, by kernel_rfl⟩
theorem good176 : Good (176, (Tryd.t176.desc, 1, 24, (Value.slice none 0 0))) := ⟨by kernel_rfl, Tryd.t176, by kernel_rfl, rfl, rfl, by kernel_rfl⟩
theorem good179 : Good (179, (Tryd.t179.desc, 2, 2, (Value.agg #[Value.int IntKind.u8 0, Value.int IntKind.u8 0]))) := ⟨by kernel_rfl, Tryd.t179, by kernel_rfl, rfl, rfl, by kernel_rfl⟩
theorem good180 : Good (180, (Tryd.t179.desc, 2, 2, (Value.agg #[Value.int IntKind.u8 0, Value.int IntKind.u8 0]))) := ⟨by kernel_rfl, Tryd.t180, by kernel_rfl, rfl, rfl, by kernel_rfl⟩
theorem good181 : Good (181, (Tryd.t181.desc, 32, 32, (Value.agg
        #[Value.int IntKind.u8 0, Value.int IntKind.u8 0, Value.int IntKind.u8 0,
          Value.int IntKind.u8 0, Value.int IntKind.u8 0, Value.int IntKind.u8 0,
          Value.int IntKind.u8 0, Value.int IntKind.u8 0, Value.int IntKind.u8 0,
          Value.int IntKind.u8 0, Value.int IntKind.u8 0, Value.int IntKind.u8 0,
          Value.int IntKind.u8 0, Value.int IntKind.u8 0, Value.int IntKind.u8 0,
          Value.int IntKind.u8 0, Value.int IntKind.u8 0, Value.int IntKind.u8 0,
          Value.int IntKind.u8 0, Value.int IntKind.u8 0, Value.int IntKind.u8 0,
          Value.int IntKind.u8 0, Value.int IntKind.u8 0, Value.int IntKind.u8 0,
          Value.int IntKind.u8 0, Value.int IntKind.u8 0, Value.int IntKind.u8 0,
          Value.int IntKind.u8 0, Value.int IntKind.u8 0, Value.int IntKind.u8 0,
          Value.int IntKind.u8 0, Value.int IntKind.u8 0]))) := ⟨by kernel_rfl, Tryd.t181, by kernel_rfl, rfl, rfl, by kernel_rfl⟩
theorem good191 : Good (191, (Tryd.t191.desc, 1, 8, (Value.pointer none))) := ⟨by kernel_rfl, Tryd.t191, by kernel_rfl, rfl, rfl, by kernel_rfl⟩
theorem good208 : Good (208, (Tryd.t208.desc, 1, 8, (Value.pointer none))) := ⟨by kernel_rfl, Tryd.t208, by kernel_rfl, rfl, rfl, by kernel_rfl⟩
set_option maxRecDepth 100000 in
theorem fldok13 : ∃ fs, Tryd.prog.underlying 13 = some (.struct fs) ∧ ∀ (i o : Nat), [0, 1][i]? = some o → ∃ f, fs[i]? = some f ∧ f.offset = o ∧ ∃ j, Tryd.prog.info? f.type = some j ∧ j.size ≠ 0 := by
  refine ⟨_, Tryd.underlying13, fun i o h => ?_⟩
  match i, h with
  | 0, h =>
    obtain rfl : 0 = o := Option.some.inj h
    exact ⟨_, rfl, rfl, _, rfl, by decide⟩
  | 1, h =>
    obtain rfl : 1 = o := Option.some.inj h
    exact ⟨_, rfl, rfl, _, rfl, by decide⟩
  | k + 2, h => simp at h
set_option maxRecDepth 100000 in
theorem fldok48 : ∃ fs, Tryd.prog.underlying 48 = some (.struct fs) ∧ ∀ (i o : Nat), [0, 1, 2, 3, 4, 5][i]? = some o → ∃ f, fs[i]? = some f ∧ f.offset = o ∧ ∃ j, Tryd.prog.info? f.type = some j ∧ j.size ≠ 0 := by
  refine ⟨_, Tryd.underlying48, fun i o h => ?_⟩
  match i, h with
  | 0, h =>
    obtain rfl : 0 = o := Option.some.inj h
    exact ⟨_, rfl, rfl, _, rfl, by decide⟩
  | 1, h =>
    obtain rfl : 1 = o := Option.some.inj h
    exact ⟨_, rfl, rfl, _, rfl, by decide⟩
  | 2, h =>
    obtain rfl : 2 = o := Option.some.inj h
    exact ⟨_, rfl, rfl, _, rfl, by decide⟩
  | 3, h =>
    obtain rfl : 3 = o := Option.some.inj h
    exact ⟨_, rfl, rfl, _, rfl, by decide⟩
  | 4, h =>
    obtain rfl : 4 = o := Option.some.inj h
    exact ⟨_, rfl, rfl, _, rfl, by decide⟩
  | 5, h =>
    obtain rfl : 5 = o := Option.some.inj h
    exact ⟨_, rfl, rfl, _, rfl, by decide⟩
  | k + 6, h => simp at h
set_option maxRecDepth 100000 in
theorem fldok49 : ∃ fs, Tryd.prog.underlying 49 = some (.struct fs) ∧ ∀ (i o : Nat), [0, 1, 2, 3, 4, 5][i]? = some o → ∃ f, fs[i]? = some f ∧ f.offset = o ∧ ∃ j, Tryd.prog.info? f.type = some j ∧ j.size ≠ 0 := by
  refine ⟨_, Tryd.underlying49, fun i o h => ?_⟩
  match i, h with
  | 0, h =>
    obtain rfl : 0 = o := Option.some.inj h
    exact ⟨_, rfl, rfl, _, rfl, by decide⟩
  | 1, h =>
    obtain rfl : 1 = o := Option.some.inj h
    exact ⟨_, rfl, rfl, _, rfl, by decide⟩
  | 2, h =>
    obtain rfl : 2 = o := Option.some.inj h
    exact ⟨_, rfl, rfl, _, rfl, by decide⟩
  | 3, h =>
    obtain rfl : 3 = o := Option.some.inj h
    exact ⟨_, rfl, rfl, _, rfl, by decide⟩
  | 4, h =>
    obtain rfl : 4 = o := Option.some.inj h
    exact ⟨_, rfl, rfl, _, rfl, by decide⟩
  | 5, h =>
    obtain rfl : 5 = o := Option.some.inj h
    exact ⟨_, rfl, rfl, _, rfl, by decide⟩
  | k + 6, h => simp at h
set_option maxRecDepth 100000 in
theorem fldok98 : ∃ fs, Tryd.prog.underlying 98 = some (.struct fs) ∧ ∀ (i o : Nat), [0, 1, 2][i]? = some o → ∃ f, fs[i]? = some f ∧ f.offset = o ∧ ∃ j, Tryd.prog.info? f.type = some j ∧ j.size ≠ 0 := by
  refine ⟨_, Tryd.underlying98, fun i o h => ?_⟩
  match i, h with
  | 0, h =>
    obtain rfl : 0 = o := Option.some.inj h
    exact ⟨_, rfl, rfl, _, rfl, by decide⟩
  | 1, h =>
    obtain rfl : 1 = o := Option.some.inj h
    exact ⟨_, rfl, rfl, _, rfl, by decide⟩
  | 2, h =>
    obtain rfl : 2 = o := Option.some.inj h
    exact ⟨_, rfl, rfl, _, rfl, by decide⟩
  | k + 3, h => simp at h
set_option maxRecDepth 100000 in
theorem fldok99 : ∃ fs, Tryd.prog.underlying 99 = some (.struct fs) ∧ ∀ (i o : Nat), [0, 1, 2][i]? = some o → ∃ f, fs[i]? = some f ∧ f.offset = o ∧ ∃ j, Tryd.prog.info? f.type = some j ∧ j.size ≠ 0 := by
  refine ⟨_, Tryd.underlying99, fun i o h => ?_⟩
  match i, h with
  | 0, h =>
    obtain rfl : 0 = o := Option.some.inj h
    exact ⟨_, rfl, rfl, _, rfl, by decide⟩
  | 1, h =>
    obtain rfl : 1 = o := Option.some.inj h
    exact ⟨_, rfl, rfl, _, rfl, by decide⟩
  | 2, h =>
    obtain rfl : 2 = o := Option.some.inj h
    exact ⟨_, rfl, rfl, _, rfl, by decide⟩
  | k + 3, h => simp at h
set_option maxRecDepth 100000 in
theorem fldok102 : ∃ fs, Tryd.prog.underlying 102 = some (.struct fs) ∧ ∀ (i o : Nat), [0, 1][i]? = some o → ∃ f, fs[i]? = some f ∧ f.offset = o ∧ ∃ j, Tryd.prog.info? f.type = some j ∧ j.size ≠ 0 := by
  refine ⟨_, Tryd.underlying102, fun i o h => ?_⟩
  match i, h with
  | 0, h =>
    obtain rfl : 0 = o := Option.some.inj h
    exact ⟨_, rfl, rfl, _, rfl, by decide⟩
  | 1, h =>
    obtain rfl : 1 = o := Option.some.inj h
    exact ⟨_, rfl, rfl, _, rfl, by decide⟩
  | k + 2, h => simp at h
set_option maxRecDepth 100000 in
theorem fldok103 : ∃ fs, Tryd.prog.underlying 103 = some (.struct fs) ∧ ∀ (i o : Nat), [0, 1][i]? = some o → ∃ f, fs[i]? = some f ∧ f.offset = o ∧ ∃ j, Tryd.prog.info? f.type = some j ∧ j.size ≠ 0 := by
  refine ⟨_, Tryd.underlying103, fun i o h => ?_⟩
  match i, h with
  | 0, h =>
    obtain rfl : 0 = o := Option.some.inj h
    exact ⟨_, rfl, rfl, _, rfl, by decide⟩
  | 1, h =>
    obtain rfl : 1 = o := Option.some.inj h
    exact ⟨_, rfl, rfl, _, rfl, by decide⟩
  | k + 2, h => simp at h
set_option maxRecDepth 100000 in
theorem fldok110 : ∃ fs, Tryd.prog.underlying 110 = some (.struct fs) ∧ ∀ (i o : Nat), [0, 1, 2][i]? = some o → ∃ f, fs[i]? = some f ∧ f.offset = o ∧ ∃ j, Tryd.prog.info? f.type = some j ∧ j.size ≠ 0 := by
  refine ⟨_, Tryd.underlying110, fun i o h => ?_⟩
  match i, h with
  | 0, h =>
    obtain rfl : 0 = o := Option.some.inj h
    exact ⟨_, rfl, rfl, _, rfl, by decide⟩
  | 1, h =>
    obtain rfl : 1 = o := Option.some.inj h
    exact ⟨_, rfl, rfl, _, rfl, by decide⟩
  | 2, h =>
    obtain rfl : 2 = o := Option.some.inj h
    exact ⟨_, rfl, rfl, _, rfl, by decide⟩
  | k + 3, h => simp at h
set_option maxRecDepth 100000 in
theorem fldok111 : ∃ fs, Tryd.prog.underlying 111 = some (.struct fs) ∧ ∀ (i o : Nat), [0, 1, 2][i]? = some o → ∃ f, fs[i]? = some f ∧ f.offset = o ∧ ∃ j, Tryd.prog.info? f.type = some j ∧ j.size ≠ 0 := by
  refine ⟨_, Tryd.underlying111, fun i o h => ?_⟩
  match i, h with
  | 0, h =>
    obtain rfl : 0 = o := Option.some.inj h
    exact ⟨_, rfl, rfl, _, rfl, by decide⟩
  | 1, h =>
    obtain rfl : 1 = o := Option.some.inj h
    exact ⟨_, rfl, rfl, _, rfl, by decide⟩
  | 2, h =>
    obtain rfl : 2 = o := Option.some.inj h
    exact ⟨_, rfl, rfl, _, rfl, by decide⟩
  | k + 3, h => simp at h
set_option maxRecDepth 100000 in
theorem fldok113 : ∃ fs, Tryd.prog.underlying 113 = some (.struct fs) ∧ ∀ (i o : Nat), [0, 1][i]? = some o → ∃ f, fs[i]? = some f ∧ f.offset = o ∧ ∃ j, Tryd.prog.info? f.type = some j ∧ j.size ≠ 0 := by
  refine ⟨_, Tryd.underlying113, fun i o h => ?_⟩
  match i, h with
  | 0, h =>
    obtain rfl : 0 = o := Option.some.inj h
    exact ⟨_, rfl, rfl, _, rfl, by decide⟩
  | 1, h =>
    obtain rfl : 1 = o := Option.some.inj h
    exact ⟨_, rfl, rfl, _, rfl, by decide⟩
  | k + 2, h => simp at h
set_option maxRecDepth 100000 in
theorem fldok114 : ∃ fs, Tryd.prog.underlying 114 = some (.struct fs) ∧ ∀ (i o : Nat), [0, 1][i]? = some o → ∃ f, fs[i]? = some f ∧ f.offset = o ∧ ∃ j, Tryd.prog.info? f.type = some j ∧ j.size ≠ 0 := by
  refine ⟨_, Tryd.underlying114, fun i o h => ?_⟩
  match i, h with
  | 0, h =>
    obtain rfl : 0 = o := Option.some.inj h
    exact ⟨_, rfl, rfl, _, rfl, by decide⟩
  | 1, h =>
    obtain rfl : 1 = o := Option.some.inj h
    exact ⟨_, rfl, rfl, _, rfl, by decide⟩
  | k + 2, h => simp at h
set_option maxRecDepth 100000 in
theorem fldok127 : ∃ fs, Tryd.prog.underlying 127 = some (.struct fs) ∧ ∀ (i o : Nat), [0, 1, 2, 3][i]? = some o → ∃ f, fs[i]? = some f ∧ f.offset = o ∧ ∃ j, Tryd.prog.info? f.type = some j ∧ j.size ≠ 0 := by
  refine ⟨_, Tryd.underlying127, fun i o h => ?_⟩
  match i, h with
  | 0, h =>
    obtain rfl : 0 = o := Option.some.inj h
    exact ⟨_, rfl, rfl, _, rfl, by decide⟩
  | 1, h =>
    obtain rfl : 1 = o := Option.some.inj h
    exact ⟨_, rfl, rfl, _, rfl, by decide⟩
  | 2, h =>
    obtain rfl : 2 = o := Option.some.inj h
    exact ⟨_, rfl, rfl, _, rfl, by decide⟩
  | 3, h =>
    obtain rfl : 3 = o := Option.some.inj h
    exact ⟨_, rfl, rfl, _, rfl, by decide⟩
  | k + 4, h => simp at h
set_option maxRecDepth 100000 in
theorem fldok128 : ∃ fs, Tryd.prog.underlying 128 = some (.struct fs) ∧ ∀ (i o : Nat), [0, 1, 2, 3][i]? = some o → ∃ f, fs[i]? = some f ∧ f.offset = o ∧ ∃ j, Tryd.prog.info? f.type = some j ∧ j.size ≠ 0 := by
  refine ⟨_, Tryd.underlying128, fun i o h => ?_⟩
  match i, h with
  | 0, h =>
    obtain rfl : 0 = o := Option.some.inj h
    exact ⟨_, rfl, rfl, _, rfl, by decide⟩
  | 1, h =>
    obtain rfl : 1 = o := Option.some.inj h
    exact ⟨_, rfl, rfl, _, rfl, by decide⟩
  | 2, h =>
    obtain rfl : 2 = o := Option.some.inj h
    exact ⟨_, rfl, rfl, _, rfl, by decide⟩
  | 3, h =>
    obtain rfl : 3 = o := Option.some.inj h
    exact ⟨_, rfl, rfl, _, rfl, by decide⟩
  | k + 4, h => simp at h
set_option maxRecDepth 100000 in
theorem fldok179 : ∃ fs, Tryd.prog.underlying 179 = some (.struct fs) ∧ ∀ (i o : Nat), [0, 1][i]? = some o → ∃ f, fs[i]? = some f ∧ f.offset = o ∧ ∃ j, Tryd.prog.info? f.type = some j ∧ j.size ≠ 0 := by
  refine ⟨_, Tryd.underlying179, fun i o h => ?_⟩
  match i, h with
  | 0, h =>
    obtain rfl : 0 = o := Option.some.inj h
    exact ⟨_, rfl, rfl, _, rfl, by decide⟩
  | 1, h =>
    obtain rfl : 1 = o := Option.some.inj h
    exact ⟨_, rfl, rfl, _, rfl, by decide⟩
  | k + 2, h => simp at h
set_option maxRecDepth 100000 in
theorem fldok180 : ∃ fs, Tryd.prog.underlying 180 = some (.struct fs) ∧ ∀ (i o : Nat), [0, 1][i]? = some o → ∃ f, fs[i]? = some f ∧ f.offset = o ∧ ∃ j, Tryd.prog.info? f.type = some j ∧ j.size ≠ 0 := by
  refine ⟨_, Tryd.underlying180, fun i o h => ?_⟩
  match i, h with
  | 0, h =>
    obtain rfl : 0 = o := Option.some.inj h
    exact ⟨_, rfl, rfl, _, rfl, by decide⟩
  | 1, h =>
    obtain rfl : 1 = o := Option.some.inj h
    exact ⟨_, rfl, rfl, _, rfl, by decide⟩
  | k + 2, h => simp at h
def flds : List (Nat × List Nat) := [(13, [0, 1]), (48, [0, 1, 2, 3, 4, 5]), (49, [0, 1, 2, 3, 4, 5]), (98, [0, 1, 2]), (99, [0, 1, 2]), (102, [0, 1]), (103, [0, 1]), (110, [0, 1, 2]), (111, [0, 1, 2]), (113, [0, 1]), (114, [0, 1]), (127, [0, 1, 2, 3]), (128, [0, 1, 2, 3]), (179, [0, 1]), (180, [0, 1])]
theorem flds_ok : ∀ p ∈ flds, ∃ fs, Tryd.prog.underlying p.1 = some (.struct fs) ∧ ∀ (i o : Nat), p.2[i]? = some o → ∃ f, fs[i]? = some f ∧ f.offset = o ∧ ∃ j, Tryd.prog.info? f.type = some j ∧ j.size ≠ 0 := by
  intro p hp
  simp only [flds, List.mem_cons, List.not_mem_nil, or_false] at hp
  rcases hp with rfl | rfl | rfl | rfl | rfl | rfl | rfl | rfl | rfl | rfl | rfl | rfl | rfl | rfl | rfl
  · exact fldok13
  · exact fldok48
  · exact fldok49
  · exact fldok98
  · exact fldok99
  · exact fldok102
  · exact fldok103
  · exact fldok110
  · exact fldok111
  · exact fldok113
  · exact fldok114
  · exact fldok127
  · exact fldok128
  · exact fldok179
  · exact fldok180
theorem tab_good : ∀ p ∈ tab, Good p := by
  intro p hp
  simp only [tab, List.mem_cons, List.not_mem_nil, or_false] at hp
  rcases hp with rfl | rfl | rfl | rfl | rfl | rfl | rfl | rfl | rfl | rfl | rfl | rfl | rfl | rfl | rfl | rfl | rfl | rfl | rfl | rfl | rfl | rfl | rfl | rfl | rfl | rfl | rfl | rfl | rfl | rfl | rfl | rfl | rfl | rfl | rfl | rfl | rfl | rfl | rfl | rfl | rfl | rfl | rfl | rfl | rfl | rfl | rfl | rfl | rfl | rfl | rfl | rfl | rfl
  · exact good2
  · exact good3
  · exact good4
  · exact good5
  · exact good9
  · exact good12
  · exact good13
  · exact good20
  · exact good21
  · exact good22
  · exact good23
  · exact good27
  · exact good28
  · exact good33
  · exact good39
  · exact good44
  · exact good45
  · exact good47
  · exact good48
  · exact good49
  · exact good69
  · exact good73
  · exact good75
  · exact good94
  · exact good96
  · exact good97
  · exact good98
  · exact good99
  · exact good100
  · exact good101
  · exact good102
  · exact good103
  · exact good106
  · exact good109
  · exact good110
  · exact good111
  · exact good113
  · exact good114
  · exact good119
  · exact good127
  · exact good128
  · exact good136
  · exact good137
  · exact good141
  · exact good171
  · exact good174
  · exact good175
  · exact good176
  · exact good179
  · exact good180
  · exact good181
  · exact good191
  · exact good208
set_option maxRecDepth 100000 in
noncomputable def E : Env Tryd.prog where
  ty := fun i => (lkT tab i).map fun x => (x.1, x.2.1)
  ok := by
    intro i d s h
    cases hx : lkT tab i with
    | none => simp [hx] at h
    | some x =>
      simp only [hx, Option.map_some, Option.some.injEq, Prod.mk.injEq] at h
      obtain ⟨h1, j, h2, h3, _⟩ := tab_good _ (lkT_mem hx)
      exact ⟨by rw [h1, ← h.1], by rw [h2, ← h.2]; simp [h3]⟩
  fld := fun i => lkT flds i
  fld_ok := fun s l h => flds_ok (s, l) (lkT_mem (l := flds) h)
  info := fun i => (lkT tab i).map fun x => x.2
  info_ok := by
    intro i s b z h
    cases hx : lkT tab i with
    | none => simp [hx] at h
    | some x =>
      simp only [hx, Option.map_some, Option.some.injEq] at h
      obtain ⟨_, j, h2, h3, h4, h5⟩ := tab_good _ (lkT_mem hx)
      refine ⟨j, h2, ?_, ?_, ?_⟩
      · rw [h3, h]
      · rw [h4, h]
      · rw [h5, h]
end Go.Proofs.YtoefhdaenaiomaaDoor
