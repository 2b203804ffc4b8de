/-
  No cell of these rows narrows 'for every input' (looked for: loops, veiled, ifaces, maps, wideKeys, modest, calm, conditions, laid).
  DERIVED. THE GIVEN ROWS OF THIS SEAT. 3 by the template 'for every input the law returns true; each argument reads behind the call as it read before'; 0 by the template 'total and deterministic' (their statements: YtoefhdaenaiomaaTotals.lean).
  GIVEN WITH THE SEED: the statements are not yours to turn. If you find one false, say at which input.
  Laid BY PROGRAM, IN A SANDBOX (cutbox-rows.mjs): the forced cells as the released guide's own fill.sh prints them over the translation 4c5a85a7a0102cae… (all of the seat's roots in one cut). By AI agents, Wed Nov 11 2026. No macro, syntax, notation, axiom, sorry.
-/
import Derived.Test.YtoefhdaenaiomaaChecked
import GoSem.Claim
import GoSem.ClaimJoined
import GoSem.ClaimMapViews
import Derived.JoinedTies
import Derived.KernelRfl
namespace Go.Proofs.Ytoefhdaenaiomaa
/- THE CELL 'sum', in the pinned program and in every row, IS THE sha256 OF THE DUMP (.gsa) THAT YtoefhdaenaiomaaProg.lean LOADS. Nothing in Lean hashes anything: it is a label: what it is worth is what the hold of that sum in a sandbox is worth. -/
noncomputable def Try.pinned : Pinned := { name := "ytoefhdaenaiomaa", sum := "4c5a85a7a0102caeff19c6bf2ae6d02cc5ff098157bfbb32832c995c192f1f7d", checked := Try.checked }
namespace Rows
def none {H : Type} : Left H := { results := [], args := [] }

/-- 'arrearslaw01.DrumSafe': WHATEVER THE INPUT: true; the input reads as it did. -/
def drumSafeSpec : ChangeSpec := { name := "drumSafe", fn := fun _ => fun
  | [d1, d2, d3, d4] => { results := [.lit (.bool true)], args := [d1, d2, d3, d4] }
  | _ => none }
def drumSafeRow : OpenClaim := { program := "ytoefhdaenaiomaa", sum := "4c5a85a7a0102caeff19c6bf2ae6d02cc5ff098157bfbb32832c995c192f1f7d", func := "arrears/arrearslaw01.DrumSafe", spec := "drumSafe", unfollowed := true, recurses := true, apart := false }
def DrumSafeSaid : Prop := drumSafeRow.holds Try.pinned (OpenSpec.ofChange drumSafeSpec)

/-- ITS FALSE NEIGHBOUR: 'it returns false'. Refute it at one input. -/
def drumSafeWrong : ChangeSpec := { name := "drumSafe", fn := fun _ => fun
  | [d1, d2, d3, d4] => { results := [.lit (.bool false)], args := [d1, d2, d3, d4] }
  | _ => none }
def DrumSafeWrongFalsely : Prop := drumSafeRow.holds Try.pinned (OpenSpec.ofChange drumSafeWrong)

/-- 'arrearslaw01.DrumOrders': WHATEVER THE INPUT: true; the input reads as it did. -/
def drumOrdersSpec : ChangeSpec := { name := "drumOrders", fn := fun _ => fun
  | [d1, d2] => { results := [.lit (.bool true)], args := [d1, d2] }
  | _ => none }
def drumOrdersRow : OpenClaim := { program := "ytoefhdaenaiomaa", sum := "4c5a85a7a0102caeff19c6bf2ae6d02cc5ff098157bfbb32832c995c192f1f7d", func := "arrears/arrearslaw01.DrumOrders", spec := "drumOrders", unfollowed := true, recurses := true, apart := false }
def DrumOrdersSaid : Prop := drumOrdersRow.holds Try.pinned (OpenSpec.ofChange drumOrdersSpec)

/-- ITS FALSE NEIGHBOUR: 'it returns false'. Refute it at one input. -/
def drumOrdersWrong : ChangeSpec := { name := "drumOrders", fn := fun _ => fun
  | [d1, d2] => { results := [.lit (.bool false)], args := [d1, d2] }
  | _ => none }
def DrumOrdersWrongFalsely : Prop := drumOrdersRow.holds Try.pinned (OpenSpec.ofChange drumOrdersWrong)

/-- 'arrearslaw01.DrumTurns': WHATEVER THE INPUT: true; the input reads as it did. -/
def drumTurnsSpec : ChangeSpec := { name := "drumTurns", fn := fun _ => fun
  | [d1, d2, d3, d4] => { results := [.lit (.bool true)], args := [d1, d2, d3, d4] }
  | _ => none }
def drumTurnsRow : OpenClaim := { program := "ytoefhdaenaiomaa", sum := "4c5a85a7a0102caeff19c6bf2ae6d02cc5ff098157bfbb32832c995c192f1f7d", func := "arrears/arrearslaw01.DrumTurns", spec := "drumTurns", unfollowed := true, recurses := true, apart := false }
def DrumTurnsSaid : Prop := drumTurnsRow.holds Try.pinned (OpenSpec.ofChange drumTurnsSpec)

/-- ITS FALSE NEIGHBOUR: 'it returns false'. Refute it at one input. -/
def drumTurnsWrong : ChangeSpec := { name := "drumTurns", fn := fun _ => fun
  | [d1, d2, d3, d4] => { results := [.lit (.bool false)], args := [d1, d2, d3, d4] }
  | _ => none }
def DrumTurnsWrongFalsely : Prop := drumTurnsRow.holds Try.pinned (OpenSpec.ofChange drumTurnsWrong)

/- THE SECOND FORM. 'bulk': how many values and letters a reading holds, each counted each time it is reached (what is shared counts as often as it is met; a slice's spare places count too). A statement '..UptoSaid' is the law's where the arguments, and the package variables that the reading takes, are together of bulk at most 1048576: NARROWER than '..Said'. Prove '..Said' where nothing that the law and all that it calls make is longer than what came in: it says more and counts as full. Else prove '..UptoSaid'. A law counts once. -/
mutual
def uptoBulk {H : Type} : DataW H → Nat
  | .lit (.string bytes) => bytes.length + 1
  | .lit _ => 1
  | .nil => 1
  | .ptr d => uptoBulk d + 1
  | .slice elems spare => uptoBulkAll elems + uptoBulkAll spare + 1
  | .agg parts => uptoBulkAll parts + 1
  | .iface _ d => uptoBulk d + 1
  | .map entries => uptoBulkEntries entries + 1
  | .held _ => 1
def uptoBulkAll {H : Type} : List (DataW H) → Nat
  | [] => 0
  | d :: r => uptoBulk d + uptoBulkAll r
def uptoBulkEntries {H : Type} : List (Lit × DataW H) → Nat
  | [] => 0
  | x :: r => uptoBulkEntry x + uptoBulkEntries r
def uptoBulkEntry {H : Type} : Lit × DataW H → Nat
  | (.string bytes, d) => bytes.length + uptoBulk d + 1
  | (_, d) => uptoBulk d + 1
 end
def uptoSmall : (H : Type) → List (DataW H) → Bool := fun _ ds => decide (uptoBulkAll ds ≤ 1048576)
def OpenSpec.upto (s : _root_.Go.ChangeSpec) : _root_.Go.OpenSpec := { _root_.Go.OpenSpec.ofChange s with cond := some uptoSmall }

/-- 'arrearslaw01.DrumSafe', WHERE WHAT IT READS IS OF BULK AT MOST 1048576: true; the input reads as it did. -/
def drumSafeUptoRow : OpenClaim := { program := "ytoefhdaenaiomaa", sum := "4c5a85a7a0102caeff19c6bf2ae6d02cc5ff098157bfbb32832c995c192f1f7d", func := "arrears/arrearslaw01.DrumSafe", spec := "drumSafe", unfollowed := true, recurses := true, apart := false, narrowed := true }
def DrumSafeUptoSaid : Prop := drumSafeUptoRow.holds Try.pinned (OpenSpec.upto drumSafeSpec)

/-- 'arrearslaw01.DrumOrders', WHERE WHAT IT READS IS OF BULK AT MOST 1048576: true; the input reads as it did. -/
def drumOrdersUptoRow : OpenClaim := { program := "ytoefhdaenaiomaa", sum := "4c5a85a7a0102caeff19c6bf2ae6d02cc5ff098157bfbb32832c995c192f1f7d", func := "arrears/arrearslaw01.DrumOrders", spec := "drumOrders", unfollowed := true, recurses := true, apart := false, narrowed := true }
def DrumOrdersUptoSaid : Prop := drumOrdersUptoRow.holds Try.pinned (OpenSpec.upto drumOrdersSpec)

/-- 'arrearslaw01.DrumTurns', WHERE WHAT IT READS IS OF BULK AT MOST 1048576: true; the input reads as it did. -/
def drumTurnsUptoRow : OpenClaim := { program := "ytoefhdaenaiomaa", sum := "4c5a85a7a0102caeff19c6bf2ae6d02cc5ff098157bfbb32832c995c192f1f7d", func := "arrears/arrearslaw01.DrumTurns", spec := "drumTurns", unfollowed := true, recurses := true, apart := false, narrowed := true }
def DrumTurnsUptoSaid : Prop := drumTurnsUptoRow.holds Try.pinned (OpenSpec.upto drumTurnsSpec)

end Rows
end Go.Proofs.Ytoefhdaenaiomaa
