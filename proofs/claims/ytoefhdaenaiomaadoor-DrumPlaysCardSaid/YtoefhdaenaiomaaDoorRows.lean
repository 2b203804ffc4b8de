/-
  NARROWER THAN 'FOR EVERY INPUT', by the rows' own cells (each row's printed sentence says how): SeamSeeds: laid · DrumArms: laid · DrumPlays: laid · DrumOwns: laid · SeamTakes: laid · SeamFrames: laid · SeamShows: laid · SeamCuts: laid · SeamRows: laid · ReelGoes: laid · ReelLays: laid · ReelTurns: laid · ReelRaw: laid · ReelNil: laid · ReelFull: laid.
  DERIVED. THE GIVEN ROWS OF THIS SEAT. 15 by the template 'for every input the law returns true; each argument reads behind the call as it read before'; 0 by the template 'total and deterministic' (their statements: YtoefhdaenaiomaaDoorTotals.lean).
  GIVEN WITH THE SEED: the statements are not yours to turn. If you find one false, say at which input.
  Laid BY PROGRAM, IN A SANDBOX (cutbox-rows.mjs): the forced cells as the released guide's own fill.sh prints them over the translation 573eb9d2f826d9e5… (all of the seat's roots in one cut). By AI agents, Wed Nov 11 2026. No macro, syntax, notation, axiom, sorry.
-/
import Derived.Test.YtoefhdaenaiomaaDoorChecked
import GoSem.PinnedTables
import GoSem.Claim
import GoSem.ClaimJoined
import GoSem.ClaimMapViews
import Derived.JoinedTies
import Derived.KernelRfl
namespace Go.Proofs.YtoefhdaenaiomaaDoor
/- THE CELL 'sum', in the pinned program and in every row, IS THE sha256 OF THE DUMP (.gsa) THAT YtoefhdaenaiomaaDoorProg.lean LOADS. Nothing in Lean hashes anything: it is a label: what it is worth is what the hold of that sum in a sandbox is worth. -/
noncomputable def Tryd.pinned : Pinned := { name := "ytoefhdaenaiomaadoor", sum := "573eb9d2f826d9e5f8ea5f21e49c97eb3fcb90b2316b106f7c777f2bdbaf2fa3", checked := Tryd.checked }
namespace Rows
def none {H : Type} : Left H := { results := [], args := [] }

/- WHAT THE LISTED PACKAGE-LEVEL VARIABLES READ AS WHEN THE CALL BEGINS. Each datum BY PROGRAM (the guide's laid-datum.mjs) off the statement by which the dump's own 'gosem.cut.vars' lays the variable. In a bare row this is a premise. The card (YtoefhdaenaiomaaDoorCards.lean) ties it to the program's text. -/
def laid_unicode_utf8_acceptRanges {H : Type} : DataW H := .agg [.agg [.lit (.int .u8 128), .lit (.int .u8 191)], .agg [.lit (.int .u8 160), .lit (.int .u8 191)], .agg [.lit (.int .u8 128), .lit (.int .u8 159)], .agg [.lit (.int .u8 144), .lit (.int .u8 191)], .agg [.lit (.int .u8 128), .lit (.int .u8 143)], .agg [.lit (.int .u8 0), .lit (.int .u8 0)], .agg [.lit (.int .u8 0), .lit (.int .u8 0)], .agg [.lit (.int .u8 0), .lit (.int .u8 0)], .agg [.lit (.int .u8 0), .lit (.int .u8 0)], .agg [.lit (.int .u8 0), .lit (.int .u8 0)], .agg [.lit (.int .u8 0), .lit (.int .u8 0)], .agg [.lit (.int .u8 0), .lit (.int .u8 0)], .agg [.lit (.int .u8 0), .lit (.int .u8 0)], .agg [.lit (.int .u8 0), .lit (.int .u8 0)], .agg [.lit (.int .u8 0), .lit (.int .u8 0)], .agg [.lit (.int .u8 0), .lit (.int .u8 0)]]
/-- One of Go's own tables, pinned by name: the form's constant. -/
def laid_unicode_utf8_first : DataW Unit := Go.Pinned.utf8First
def laid_errors_errorType {H : Type} : DataW H := .iface "internal/reflectlite.rtype" (.agg [.ptr (.lit (.string [101, 114, 114, 111, 114]))])

/-- 'arrearslaw02.SeamSeeds': WHATEVER THE INPUT: true; the input reads as it did. -/
def seamSeedsSpec : ChangeSpec := { name := "seamSeeds", fn := fun _ => fun
  | [d1, d2, d3] => { results := [.lit (.bool true)], args := [d1, d2, d3] }
  | _ => none }
def seamSeedsRow : OpenClaim := { program := "ytoefhdaenaiomaadoor", sum := "573eb9d2f826d9e5f8ea5f21e49c97eb3fcb90b2316b106f7c777f2bdbaf2fa3", func := "arrears/arrearslaw02.SeamSeeds", spec := "seamSeeds", named := ["unicode/utf8.first", "unicode/utf8.acceptRanges"], apart := false, laid := [("unicode/utf8.acceptRanges", laid_unicode_utf8_acceptRanges), ("unicode/utf8.first", laid_unicode_utf8_first)] }
def SeamSeedsSaid : Prop := seamSeedsRow.holds Tryd.pinned (OpenSpec.ofChange seamSeedsSpec)

/-- ITS FALSE NEIGHBOUR: 'it returns false'. Refute it at one input. -/
def seamSeedsWrong : ChangeSpec := { name := "seamSeeds", fn := fun _ => fun
  | [d1, d2, d3] => { results := [.lit (.bool false)], args := [d1, d2, d3] }
  | _ => none }
def SeamSeedsWrongFalsely : Prop := seamSeedsRow.holds Tryd.pinned (OpenSpec.ofChange seamSeedsWrong)

/-- 'arrearslaw01.DrumArms': WHATEVER THE INPUT: true; the input reads as it did. -/
def drumArmsSpec : ChangeSpec := { name := "drumArms", fn := fun _ => fun
  | [d1, d2, d3] => { results := [.lit (.bool true)], args := [d1, d2, d3] }
  | _ => none }
def drumArmsRow : OpenClaim := { program := "ytoefhdaenaiomaadoor", sum := "573eb9d2f826d9e5f8ea5f21e49c97eb3fcb90b2316b106f7c777f2bdbaf2fa3", func := "arrears/arrearslaw01.DrumArms", spec := "drumArms", inPlace := ["internal/reflectlite.ValueOf", "(internal/reflectlite.Value).Type", "(internal/reflectlite.Value).IsNil", "internal/reflectlite.TypeOf", "(internal/reflectlite.Value).Elem", "(internal/reflectlite.Value).Set"], unfollowed := true, recurses := true, named := ["errors.errorType"], apart := false, laid := [("errors.errorType", laid_errors_errorType)] }
def DrumArmsSaid : Prop := drumArmsRow.holds Tryd.pinned (OpenSpec.ofChange drumArmsSpec)

/-- ITS FALSE NEIGHBOUR: 'it returns false'. Refute it at one input. -/
def drumArmsWrong : ChangeSpec := { name := "drumArms", fn := fun _ => fun
  | [d1, d2, d3] => { results := [.lit (.bool false)], args := [d1, d2, d3] }
  | _ => none }
def DrumArmsWrongFalsely : Prop := drumArmsRow.holds Tryd.pinned (OpenSpec.ofChange drumArmsWrong)

/-- 'arrearslaw01.DrumPlays': WHATEVER THE INPUT: true; the input reads as it did. -/
def drumPlaysSpec : ChangeSpec := { name := "drumPlays", fn := fun _ => fun
  | [d1, d2] => { results := [.lit (.bool true)], args := [d1, d2] }
  | _ => none }
def drumPlaysRow : OpenClaim := { program := "ytoefhdaenaiomaadoor", sum := "573eb9d2f826d9e5f8ea5f21e49c97eb3fcb90b2316b106f7c777f2bdbaf2fa3", func := "arrears/arrearslaw01.DrumPlays", spec := "drumPlays", inPlace := ["internal/reflectlite.ValueOf", "(internal/reflectlite.Value).Type", "(internal/reflectlite.Value).IsNil", "internal/reflectlite.TypeOf", "(internal/reflectlite.Value).Elem", "(internal/reflectlite.Value).Set"], unfollowed := true, recurses := true, named := ["errors.errorType"], apart := false, laid := [("errors.errorType", laid_errors_errorType)] }
def DrumPlaysSaid : Prop := drumPlaysRow.holds Tryd.pinned (OpenSpec.ofChange drumPlaysSpec)

/-- ITS FALSE NEIGHBOUR: 'it returns false'. Refute it at one input. -/
def drumPlaysWrong : ChangeSpec := { name := "drumPlays", fn := fun _ => fun
  | [d1, d2] => { results := [.lit (.bool false)], args := [d1, d2] }
  | _ => none }
def DrumPlaysWrongFalsely : Prop := drumPlaysRow.holds Tryd.pinned (OpenSpec.ofChange drumPlaysWrong)

/-- 'arrearslaw01.DrumOwns': WHATEVER THE INPUT: true; the input reads as it did. -/
def drumOwnsSpec : ChangeSpec := { name := "drumOwns", fn := fun _ => fun
  | [d1, d2, d3, d4, d5] => { results := [.lit (.bool true)], args := [d1, d2, d3, d4, d5] }
  | _ => none }
def drumOwnsRow : OpenClaim := { program := "ytoefhdaenaiomaadoor", sum := "573eb9d2f826d9e5f8ea5f21e49c97eb3fcb90b2316b106f7c777f2bdbaf2fa3", func := "arrears/arrearslaw01.DrumOwns", spec := "drumOwns", inPlace := ["internal/reflectlite.ValueOf", "(internal/reflectlite.Value).Type", "(internal/reflectlite.Value).IsNil", "internal/reflectlite.TypeOf", "(internal/reflectlite.Value).Elem", "(internal/reflectlite.Value).Set"], unfollowed := true, recurses := true, named := ["errors.errorType"], apart := false, laid := [("errors.errorType", laid_errors_errorType)] }
def DrumOwnsSaid : Prop := drumOwnsRow.holds Tryd.pinned (OpenSpec.ofChange drumOwnsSpec)

/-- ITS FALSE NEIGHBOUR: 'it returns false'. Refute it at one input. -/
def drumOwnsWrong : ChangeSpec := { name := "drumOwns", fn := fun _ => fun
  | [d1, d2, d3, d4, d5] => { results := [.lit (.bool false)], args := [d1, d2, d3, d4, d5] }
  | _ => none }
def DrumOwnsWrongFalsely : Prop := drumOwnsRow.holds Tryd.pinned (OpenSpec.ofChange drumOwnsWrong)

/-- 'arrearslaw02.SeamTakes': WHATEVER THE INPUT: true; the input reads as it did. -/
def seamTakesSpec : ChangeSpec := { name := "seamTakes", fn := fun _ => fun
  | [d1, d2] => { results := [.lit (.bool true)], args := [d1, d2] }
  | _ => none }
def seamTakesRow : OpenClaim := { program := "ytoefhdaenaiomaadoor", sum := "573eb9d2f826d9e5f8ea5f21e49c97eb3fcb90b2316b106f7c777f2bdbaf2fa3", func := "arrears/arrearslaw02.SeamTakes", spec := "seamTakes", inPlace := ["internal/reflectlite.ValueOf", "(internal/reflectlite.Value).Type", "(internal/reflectlite.Value).IsNil", "internal/reflectlite.TypeOf", "(internal/reflectlite.Value).Elem", "(internal/reflectlite.Value).Set"], unfollowed := true, recurses := true, named := ["unicode/utf8.first", "unicode/utf8.acceptRanges", "errors.errorType"], apart := false, laid := [("unicode/utf8.acceptRanges", laid_unicode_utf8_acceptRanges), ("errors.errorType", laid_errors_errorType), ("unicode/utf8.first", laid_unicode_utf8_first)] }
def SeamTakesSaid : Prop := seamTakesRow.holds Tryd.pinned (OpenSpec.ofChange seamTakesSpec)

/-- ITS FALSE NEIGHBOUR: 'it returns false'. Refute it at one input. -/
def seamTakesWrong : ChangeSpec := { name := "seamTakes", fn := fun _ => fun
  | [d1, d2] => { results := [.lit (.bool false)], args := [d1, d2] }
  | _ => none }
def SeamTakesWrongFalsely : Prop := seamTakesRow.holds Tryd.pinned (OpenSpec.ofChange seamTakesWrong)

/-- 'arrearslaw02.SeamFrames': WHATEVER THE INPUT: true; the input reads as it did. -/
def seamFramesSpec : ChangeSpec := { name := "seamFrames", fn := fun _ => fun
  | [d1, d2, d3] => { results := [.lit (.bool true)], args := [d1, d2, d3] }
  | _ => none }
def seamFramesRow : OpenClaim := { program := "ytoefhdaenaiomaadoor", sum := "573eb9d2f826d9e5f8ea5f21e49c97eb3fcb90b2316b106f7c777f2bdbaf2fa3", func := "arrears/arrearslaw02.SeamFrames", spec := "seamFrames", inPlace := ["internal/reflectlite.ValueOf", "(internal/reflectlite.Value).Type", "(internal/reflectlite.Value).IsNil", "internal/reflectlite.TypeOf", "(internal/reflectlite.Value).Elem", "(internal/reflectlite.Value).Set"], unfollowed := true, recurses := true, named := ["unicode/utf8.first", "unicode/utf8.acceptRanges", "errors.errorType"], apart := false, laid := [("unicode/utf8.acceptRanges", laid_unicode_utf8_acceptRanges), ("errors.errorType", laid_errors_errorType), ("unicode/utf8.first", laid_unicode_utf8_first)] }
def SeamFramesSaid : Prop := seamFramesRow.holds Tryd.pinned (OpenSpec.ofChange seamFramesSpec)

/-- ITS FALSE NEIGHBOUR: 'it returns false'. Refute it at one input. -/
def seamFramesWrong : ChangeSpec := { name := "seamFrames", fn := fun _ => fun
  | [d1, d2, d3] => { results := [.lit (.bool false)], args := [d1, d2, d3] }
  | _ => none }
def SeamFramesWrongFalsely : Prop := seamFramesRow.holds Tryd.pinned (OpenSpec.ofChange seamFramesWrong)

/-- 'arrearslaw02.SeamShows': WHATEVER THE INPUT: true; the input reads as it did. -/
def seamShowsSpec : ChangeSpec := { name := "seamShows", fn := fun _ => fun
  | [d1, d2, d3, d4] => { results := [.lit (.bool true)], args := [d1, d2, d3, d4] }
  | _ => none }
def seamShowsRow : OpenClaim := { program := "ytoefhdaenaiomaadoor", sum := "573eb9d2f826d9e5f8ea5f21e49c97eb3fcb90b2316b106f7c777f2bdbaf2fa3", func := "arrears/arrearslaw02.SeamShows", spec := "seamShows", inPlace := ["internal/reflectlite.ValueOf", "(internal/reflectlite.Value).Type", "(internal/reflectlite.Value).IsNil", "internal/reflectlite.TypeOf", "(internal/reflectlite.Value).Elem", "(internal/reflectlite.Value).Set"], unfollowed := true, recurses := true, named := ["unicode/utf8.first", "unicode/utf8.acceptRanges", "errors.errorType"], apart := false, laid := [("unicode/utf8.acceptRanges", laid_unicode_utf8_acceptRanges), ("errors.errorType", laid_errors_errorType), ("unicode/utf8.first", laid_unicode_utf8_first)] }
def SeamShowsSaid : Prop := seamShowsRow.holds Tryd.pinned (OpenSpec.ofChange seamShowsSpec)

/-- ITS FALSE NEIGHBOUR: 'it returns false'. Refute it at one input. -/
def seamShowsWrong : ChangeSpec := { name := "seamShows", fn := fun _ => fun
  | [d1, d2, d3, d4] => { results := [.lit (.bool false)], args := [d1, d2, d3, d4] }
  | _ => none }
def SeamShowsWrongFalsely : Prop := seamShowsRow.holds Tryd.pinned (OpenSpec.ofChange seamShowsWrong)

/-- 'arrearslaw02.SeamCuts': WHATEVER THE INPUT: true; the input reads as it did. -/
def seamCutsSpec : ChangeSpec := { name := "seamCuts", fn := fun _ => fun
  | [d1, d2, d3, d4] => { results := [.lit (.bool true)], args := [d1, d2, d3, d4] }
  | _ => none }
def seamCutsRow : OpenClaim := { program := "ytoefhdaenaiomaadoor", sum := "573eb9d2f826d9e5f8ea5f21e49c97eb3fcb90b2316b106f7c777f2bdbaf2fa3", func := "arrears/arrearslaw02.SeamCuts", spec := "seamCuts", inPlace := ["internal/reflectlite.ValueOf", "(internal/reflectlite.Value).Type", "(internal/reflectlite.Value).IsNil", "internal/reflectlite.TypeOf", "(internal/reflectlite.Value).Elem", "(internal/reflectlite.Value).Set"], unfollowed := true, recurses := true, named := ["unicode/utf8.first", "unicode/utf8.acceptRanges", "errors.errorType"], apart := false, laid := [("unicode/utf8.acceptRanges", laid_unicode_utf8_acceptRanges), ("errors.errorType", laid_errors_errorType), ("unicode/utf8.first", laid_unicode_utf8_first)] }
def SeamCutsSaid : Prop := seamCutsRow.holds Tryd.pinned (OpenSpec.ofChange seamCutsSpec)

/-- ITS FALSE NEIGHBOUR: 'it returns false'. Refute it at one input. -/
def seamCutsWrong : ChangeSpec := { name := "seamCuts", fn := fun _ => fun
  | [d1, d2, d3, d4] => { results := [.lit (.bool false)], args := [d1, d2, d3, d4] }
  | _ => none }
def SeamCutsWrongFalsely : Prop := seamCutsRow.holds Tryd.pinned (OpenSpec.ofChange seamCutsWrong)

/-- 'arrearslaw02.SeamRows': WHATEVER THE INPUT: true; the input reads as it did. -/
def seamRowsSpec : ChangeSpec := { name := "seamRows", fn := fun _ => fun
  | [d1, d2] => { results := [.lit (.bool true)], args := [d1, d2] }
  | _ => none }
def seamRowsRow : OpenClaim := { program := "ytoefhdaenaiomaadoor", sum := "573eb9d2f826d9e5f8ea5f21e49c97eb3fcb90b2316b106f7c777f2bdbaf2fa3", func := "arrears/arrearslaw02.SeamRows", spec := "seamRows", inPlace := ["internal/reflectlite.ValueOf", "(internal/reflectlite.Value).Type", "(internal/reflectlite.Value).IsNil", "internal/reflectlite.TypeOf", "(internal/reflectlite.Value).Elem", "(internal/reflectlite.Value).Set"], unfollowed := true, recurses := true, named := ["unicode/utf8.first", "unicode/utf8.acceptRanges", "errors.errorType"], apart := false, laid := [("unicode/utf8.acceptRanges", laid_unicode_utf8_acceptRanges), ("errors.errorType", laid_errors_errorType), ("unicode/utf8.first", laid_unicode_utf8_first)] }
def SeamRowsSaid : Prop := seamRowsRow.holds Tryd.pinned (OpenSpec.ofChange seamRowsSpec)

/-- ITS FALSE NEIGHBOUR: 'it returns false'. Refute it at one input. -/
def seamRowsWrong : ChangeSpec := { name := "seamRows", fn := fun _ => fun
  | [d1, d2] => { results := [.lit (.bool false)], args := [d1, d2] }
  | _ => none }
def SeamRowsWrongFalsely : Prop := seamRowsRow.holds Tryd.pinned (OpenSpec.ofChange seamRowsWrong)

/-- 'arrearslaw15.ReelGoes': WHATEVER THE INPUT: true; the input reads as it did. -/
def reelGoesSpec : ChangeSpec := { name := "reelGoes", fn := fun _ => fun
  | [d1, d2, d3] => { results := [.lit (.bool true)], args := [d1, d2, d3] }
  | _ => none }
def reelGoesRow : OpenClaim := { program := "ytoefhdaenaiomaadoor", sum := "573eb9d2f826d9e5f8ea5f21e49c97eb3fcb90b2316b106f7c777f2bdbaf2fa3", func := "arrears/arrearslaw15.ReelGoes", spec := "reelGoes", unfollowed := true, recurses := true, named := ["unicode/utf8.first", "unicode/utf8.acceptRanges"], apart := false, laid := [("unicode/utf8.acceptRanges", laid_unicode_utf8_acceptRanges), ("unicode/utf8.first", laid_unicode_utf8_first)] }
def ReelGoesSaid : Prop := reelGoesRow.holds Tryd.pinned (OpenSpec.ofChange reelGoesSpec)

/-- ITS FALSE NEIGHBOUR: 'it returns false'. Refute it at one input. -/
def reelGoesWrong : ChangeSpec := { name := "reelGoes", fn := fun _ => fun
  | [d1, d2, d3] => { results := [.lit (.bool false)], args := [d1, d2, d3] }
  | _ => none }
def ReelGoesWrongFalsely : Prop := reelGoesRow.holds Tryd.pinned (OpenSpec.ofChange reelGoesWrong)

/-- 'arrearslaw15.ReelLays': WHATEVER THE INPUT: true; the input reads as it did. -/
def reelLaysSpec : ChangeSpec := { name := "reelLays", fn := fun _ => fun
  | [d1, d2, d3, d4] => { results := [.lit (.bool true)], args := [d1, d2, d3, d4] }
  | _ => none }
def reelLaysRow : OpenClaim := { program := "ytoefhdaenaiomaadoor", sum := "573eb9d2f826d9e5f8ea5f21e49c97eb3fcb90b2316b106f7c777f2bdbaf2fa3", func := "arrears/arrearslaw15.ReelLays", spec := "reelLays", unfollowed := true, recurses := true, named := ["unicode/utf8.first", "unicode/utf8.acceptRanges"], apart := false, laid := [("unicode/utf8.acceptRanges", laid_unicode_utf8_acceptRanges), ("unicode/utf8.first", laid_unicode_utf8_first)] }
def ReelLaysSaid : Prop := reelLaysRow.holds Tryd.pinned (OpenSpec.ofChange reelLaysSpec)

/-- ITS FALSE NEIGHBOUR: 'it returns false'. Refute it at one input. -/
def reelLaysWrong : ChangeSpec := { name := "reelLays", fn := fun _ => fun
  | [d1, d2, d3, d4] => { results := [.lit (.bool false)], args := [d1, d2, d3, d4] }
  | _ => none }
def ReelLaysWrongFalsely : Prop := reelLaysRow.holds Tryd.pinned (OpenSpec.ofChange reelLaysWrong)

/-- 'arrearslaw15.ReelTurns': WHATEVER THE INPUT: true; the input reads as it did. -/
def reelTurnsSpec : ChangeSpec := { name := "reelTurns", fn := fun _ => fun
  | [d1, d2, d3] => { results := [.lit (.bool true)], args := [d1, d2, d3] }
  | _ => none }
def reelTurnsRow : OpenClaim := { program := "ytoefhdaenaiomaadoor", sum := "573eb9d2f826d9e5f8ea5f21e49c97eb3fcb90b2316b106f7c777f2bdbaf2fa3", func := "arrears/arrearslaw15.ReelTurns", spec := "reelTurns", unfollowed := true, recurses := true, named := ["unicode/utf8.first", "unicode/utf8.acceptRanges"], apart := false, laid := [("unicode/utf8.acceptRanges", laid_unicode_utf8_acceptRanges), ("unicode/utf8.first", laid_unicode_utf8_first)] }
def ReelTurnsSaid : Prop := reelTurnsRow.holds Tryd.pinned (OpenSpec.ofChange reelTurnsSpec)

/-- ITS FALSE NEIGHBOUR: 'it returns false'. Refute it at one input. -/
def reelTurnsWrong : ChangeSpec := { name := "reelTurns", fn := fun _ => fun
  | [d1, d2, d3] => { results := [.lit (.bool false)], args := [d1, d2, d3] }
  | _ => none }
def ReelTurnsWrongFalsely : Prop := reelTurnsRow.holds Tryd.pinned (OpenSpec.ofChange reelTurnsWrong)

/-- 'arrearslaw15.ReelRaw': WHATEVER THE INPUT: true; the input reads as it did. -/
def reelRawSpec : ChangeSpec := { name := "reelRaw", fn := fun _ => fun
  | [d1, d2, d3, d4] => { results := [.lit (.bool true)], args := [d1, d2, d3, d4] }
  | _ => none }
def reelRawRow : OpenClaim := { program := "ytoefhdaenaiomaadoor", sum := "573eb9d2f826d9e5f8ea5f21e49c97eb3fcb90b2316b106f7c777f2bdbaf2fa3", func := "arrears/arrearslaw15.ReelRaw", spec := "reelRaw", inPlace := ["internal/reflectlite.ValueOf", "(internal/reflectlite.Value).Type", "(internal/reflectlite.Value).IsNil", "internal/reflectlite.TypeOf", "(internal/reflectlite.Value).Elem", "(internal/reflectlite.Value).Set"], unfollowed := true, recurses := true, named := ["unicode/utf8.first", "unicode/utf8.acceptRanges", "errors.errorType"], apart := false, laid := [("unicode/utf8.acceptRanges", laid_unicode_utf8_acceptRanges), ("errors.errorType", laid_errors_errorType), ("unicode/utf8.first", laid_unicode_utf8_first)] }
def ReelRawSaid : Prop := reelRawRow.holds Tryd.pinned (OpenSpec.ofChange reelRawSpec)

/-- ITS FALSE NEIGHBOUR: 'it returns false'. Refute it at one input. -/
def reelRawWrong : ChangeSpec := { name := "reelRaw", fn := fun _ => fun
  | [d1, d2, d3, d4] => { results := [.lit (.bool false)], args := [d1, d2, d3, d4] }
  | _ => none }
def ReelRawWrongFalsely : Prop := reelRawRow.holds Tryd.pinned (OpenSpec.ofChange reelRawWrong)

/-- 'arrearslaw15.ReelNil': WHATEVER THE INPUT: true; the input reads as it did. -/
def reelNilSpec : ChangeSpec := { name := "reelNil", fn := fun _ => fun
  | [d1, d2, d3] => { results := [.lit (.bool true)], args := [d1, d2, d3] }
  | _ => none }
def reelNilRow : OpenClaim := { program := "ytoefhdaenaiomaadoor", sum := "573eb9d2f826d9e5f8ea5f21e49c97eb3fcb90b2316b106f7c777f2bdbaf2fa3", func := "arrears/arrearslaw15.ReelNil", spec := "reelNil", inPlace := ["internal/reflectlite.ValueOf", "(internal/reflectlite.Value).Type", "(internal/reflectlite.Value).IsNil", "internal/reflectlite.TypeOf", "(internal/reflectlite.Value).Elem", "(internal/reflectlite.Value).Set"], unfollowed := true, recurses := true, named := ["unicode/utf8.first", "unicode/utf8.acceptRanges", "errors.errorType"], apart := false, laid := [("unicode/utf8.acceptRanges", laid_unicode_utf8_acceptRanges), ("errors.errorType", laid_errors_errorType), ("unicode/utf8.first", laid_unicode_utf8_first)] }
def ReelNilSaid : Prop := reelNilRow.holds Tryd.pinned (OpenSpec.ofChange reelNilSpec)

/-- ITS FALSE NEIGHBOUR: 'it returns false'. Refute it at one input. -/
def reelNilWrong : ChangeSpec := { name := "reelNil", fn := fun _ => fun
  | [d1, d2, d3] => { results := [.lit (.bool false)], args := [d1, d2, d3] }
  | _ => none }
def ReelNilWrongFalsely : Prop := reelNilRow.holds Tryd.pinned (OpenSpec.ofChange reelNilWrong)

/-- 'arrearslaw15.ReelFull': WHATEVER THE INPUT: true; the input reads as it did. -/
def reelFullSpec : ChangeSpec := { name := "reelFull", fn := fun _ => fun
  | [d1, d2, d3] => { results := [.lit (.bool true)], args := [d1, d2, d3] }
  | _ => none }
def reelFullRow : OpenClaim := { program := "ytoefhdaenaiomaadoor", sum := "573eb9d2f826d9e5f8ea5f21e49c97eb3fcb90b2316b106f7c777f2bdbaf2fa3", func := "arrears/arrearslaw15.ReelFull", spec := "reelFull", inPlace := ["internal/reflectlite.ValueOf", "(internal/reflectlite.Value).Type", "(internal/reflectlite.Value).IsNil", "internal/reflectlite.TypeOf", "(internal/reflectlite.Value).Elem", "(internal/reflectlite.Value).Set"], unfollowed := true, recurses := true, named := ["unicode/utf8.first", "unicode/utf8.acceptRanges", "errors.errorType"], apart := false, laid := [("unicode/utf8.acceptRanges", laid_unicode_utf8_acceptRanges), ("errors.errorType", laid_errors_errorType), ("unicode/utf8.first", laid_unicode_utf8_first)] }
def ReelFullSaid : Prop := reelFullRow.holds Tryd.pinned (OpenSpec.ofChange reelFullSpec)

/-- ITS FALSE NEIGHBOUR: 'it returns false'. Refute it at one input. -/
def reelFullWrong : ChangeSpec := { name := "reelFull", fn := fun _ => fun
  | [d1, d2, d3] => { results := [.lit (.bool false)], args := [d1, d2, d3] }
  | _ => none }
def ReelFullWrongFalsely : Prop := reelFullRow.holds Tryd.pinned (OpenSpec.ofChange reelFullWrong)

/- THE SECOND FORM. 'bulk': how many values and letters a reading holds, each counted each time it is reached (what is shared counts as often as it is met; a slice's spare places count too). A statement '..UptoSaid' is the law's where the arguments, and the package variables that the reading takes, are together of bulk at most 1048576: NARROWER than '..Said'. Prove '..Said' where nothing that the law and all that it calls make is longer than what came in: it says more and counts as full. Else prove '..UptoSaid'. A law counts once. -/
mutual
def uptoBulk {H : Type} : DataW H → Nat
  | .lit (.string bytes) => bytes.length + 1
  | .lit _ => 1
  | .nil => 1
  | .ptr d => uptoBulk d + 1
  | .slice elems spare => uptoBulkAll elems + uptoBulkAll spare + 1
  | .agg parts => uptoBulkAll parts + 1
  | .iface _ d => uptoBulk d + 1
  | .map entries => uptoBulkEntries entries + 1
  | .held _ => 1
def uptoBulkAll {H : Type} : List (DataW H) → Nat
  | [] => 0
  | d :: r => uptoBulk d + uptoBulkAll r
def uptoBulkEntries {H : Type} : List (Lit × DataW H) → Nat
  | [] => 0
  | x :: r => uptoBulkEntry x + uptoBulkEntries r
def uptoBulkEntry {H : Type} : Lit × DataW H → Nat
  | (.string bytes, d) => bytes.length + uptoBulk d + 1
  | (_, d) => uptoBulk d + 1
 end
def uptoSmall : (H : Type) → List (DataW H) → Bool := fun _ ds => decide (uptoBulkAll ds ≤ 1048576)
def OpenSpec.upto (s : _root_.Go.ChangeSpec) : _root_.Go.OpenSpec := { _root_.Go.OpenSpec.ofChange s with cond := some uptoSmall }

/-- 'arrearslaw02.SeamSeeds', WHERE WHAT IT READS IS OF BULK AT MOST 1048576: true; the input reads as it did. -/
def seamSeedsUptoRow : OpenClaim := { program := "ytoefhdaenaiomaadoor", sum := "573eb9d2f826d9e5f8ea5f21e49c97eb3fcb90b2316b106f7c777f2bdbaf2fa3", func := "arrears/arrearslaw02.SeamSeeds", spec := "seamSeeds", named := ["unicode/utf8.first", "unicode/utf8.acceptRanges"], apart := false, laid := [("unicode/utf8.acceptRanges", laid_unicode_utf8_acceptRanges), ("unicode/utf8.first", laid_unicode_utf8_first)], narrowed := true }
def SeamSeedsUptoSaid : Prop := seamSeedsUptoRow.holds Tryd.pinned (OpenSpec.upto seamSeedsSpec)

/-- 'arrearslaw01.DrumArms', WHERE WHAT IT READS IS OF BULK AT MOST 1048576: true; the input reads as it did. -/
def drumArmsUptoRow : OpenClaim := { program := "ytoefhdaenaiomaadoor", sum := "573eb9d2f826d9e5f8ea5f21e49c97eb3fcb90b2316b106f7c777f2bdbaf2fa3", func := "arrears/arrearslaw01.DrumArms", spec := "drumArms", inPlace := ["internal/reflectlite.ValueOf", "(internal/reflectlite.Value).Type", "(internal/reflectlite.Value).IsNil", "internal/reflectlite.TypeOf", "(internal/reflectlite.Value).Elem", "(internal/reflectlite.Value).Set"], unfollowed := true, recurses := true, named := ["errors.errorType"], apart := false, laid := [("errors.errorType", laid_errors_errorType)], narrowed := true }
def DrumArmsUptoSaid : Prop := drumArmsUptoRow.holds Tryd.pinned (OpenSpec.upto drumArmsSpec)

/-- 'arrearslaw01.DrumPlays', WHERE WHAT IT READS IS OF BULK AT MOST 1048576: true; the input reads as it did. -/
def drumPlaysUptoRow : OpenClaim := { program := "ytoefhdaenaiomaadoor", sum := "573eb9d2f826d9e5f8ea5f21e49c97eb3fcb90b2316b106f7c777f2bdbaf2fa3", func := "arrears/arrearslaw01.DrumPlays", spec := "drumPlays", inPlace := ["internal/reflectlite.ValueOf", "(internal/reflectlite.Value).Type", "(internal/reflectlite.Value).IsNil", "internal/reflectlite.TypeOf", "(internal/reflectlite.Value).Elem", "(internal/reflectlite.Value).Set"], unfollowed := true, recurses := true, named := ["errors.errorType"], apart := false, laid := [("errors.errorType", laid_errors_errorType)], narrowed := true }
def DrumPlaysUptoSaid : Prop := drumPlaysUptoRow.holds Tryd.pinned (OpenSpec.upto drumPlaysSpec)

/-- 'arrearslaw01.DrumOwns', WHERE WHAT IT READS IS OF BULK AT MOST 1048576: true; the input reads as it did. -/
def drumOwnsUptoRow : OpenClaim := { program := "ytoefhdaenaiomaadoor", sum := "573eb9d2f826d9e5f8ea5f21e49c97eb3fcb90b2316b106f7c777f2bdbaf2fa3", func := "arrears/arrearslaw01.DrumOwns", spec := "drumOwns", inPlace := ["internal/reflectlite.ValueOf", "(internal/reflectlite.Value).Type", "(internal/reflectlite.Value).IsNil", "internal/reflectlite.TypeOf", "(internal/reflectlite.Value).Elem", "(internal/reflectlite.Value).Set"], unfollowed := true, recurses := true, named := ["errors.errorType"], apart := false, laid := [("errors.errorType", laid_errors_errorType)], narrowed := true }
def DrumOwnsUptoSaid : Prop := drumOwnsUptoRow.holds Tryd.pinned (OpenSpec.upto drumOwnsSpec)

/-- 'arrearslaw02.SeamTakes', WHERE WHAT IT READS IS OF BULK AT MOST 1048576: true; the input reads as it did. -/
def seamTakesUptoRow : OpenClaim := { program := "ytoefhdaenaiomaadoor", sum := "573eb9d2f826d9e5f8ea5f21e49c97eb3fcb90b2316b106f7c777f2bdbaf2fa3", func := "arrears/arrearslaw02.SeamTakes", spec := "seamTakes", inPlace := ["internal/reflectlite.ValueOf", "(internal/reflectlite.Value).Type", "(internal/reflectlite.Value).IsNil", "internal/reflectlite.TypeOf", "(internal/reflectlite.Value).Elem", "(internal/reflectlite.Value).Set"], unfollowed := true, recurses := true, named := ["unicode/utf8.first", "unicode/utf8.acceptRanges", "errors.errorType"], apart := false, laid := [("unicode/utf8.acceptRanges", laid_unicode_utf8_acceptRanges), ("errors.errorType", laid_errors_errorType), ("unicode/utf8.first", laid_unicode_utf8_first)], narrowed := true }
def SeamTakesUptoSaid : Prop := seamTakesUptoRow.holds Tryd.pinned (OpenSpec.upto seamTakesSpec)

/-- 'arrearslaw02.SeamFrames', WHERE WHAT IT READS IS OF BULK AT MOST 1048576: true; the input reads as it did. -/
def seamFramesUptoRow : OpenClaim := { program := "ytoefhdaenaiomaadoor", sum := "573eb9d2f826d9e5f8ea5f21e49c97eb3fcb90b2316b106f7c777f2bdbaf2fa3", func := "arrears/arrearslaw02.SeamFrames", spec := "seamFrames", inPlace := ["internal/reflectlite.ValueOf", "(internal/reflectlite.Value).Type", "(internal/reflectlite.Value).IsNil", "internal/reflectlite.TypeOf", "(internal/reflectlite.Value).Elem", "(internal/reflectlite.Value).Set"], unfollowed := true, recurses := true, named := ["unicode/utf8.first", "unicode/utf8.acceptRanges", "errors.errorType"], apart := false, laid := [("unicode/utf8.acceptRanges", laid_unicode_utf8_acceptRanges), ("errors.errorType", laid_errors_errorType), ("unicode/utf8.first", laid_unicode_utf8_first)], narrowed := true }
def SeamFramesUptoSaid : Prop := seamFramesUptoRow.holds Tryd.pinned (OpenSpec.upto seamFramesSpec)

/-- 'arrearslaw02.SeamShows', WHERE WHAT IT READS IS OF BULK AT MOST 1048576: true; the input reads as it did. -/
def seamShowsUptoRow : OpenClaim := { program := "ytoefhdaenaiomaadoor", sum := "573eb9d2f826d9e5f8ea5f21e49c97eb3fcb90b2316b106f7c777f2bdbaf2fa3", func := "arrears/arrearslaw02.SeamShows", spec := "seamShows", inPlace := ["internal/reflectlite.ValueOf", "(internal/reflectlite.Value).Type", "(internal/reflectlite.Value).IsNil", "internal/reflectlite.TypeOf", "(internal/reflectlite.Value).Elem", "(internal/reflectlite.Value).Set"], unfollowed := true, recurses := true, named := ["unicode/utf8.first", "unicode/utf8.acceptRanges", "errors.errorType"], apart := false, laid := [("unicode/utf8.acceptRanges", laid_unicode_utf8_acceptRanges), ("errors.errorType", laid_errors_errorType), ("unicode/utf8.first", laid_unicode_utf8_first)], narrowed := true }
def SeamShowsUptoSaid : Prop := seamShowsUptoRow.holds Tryd.pinned (OpenSpec.upto seamShowsSpec)

/-- 'arrearslaw02.SeamCuts', WHERE WHAT IT READS IS OF BULK AT MOST 1048576: true; the input reads as it did. -/
def seamCutsUptoRow : OpenClaim := { program := "ytoefhdaenaiomaadoor", sum := "573eb9d2f826d9e5f8ea5f21e49c97eb3fcb90b2316b106f7c777f2bdbaf2fa3", func := "arrears/arrearslaw02.SeamCuts", spec := "seamCuts", inPlace := ["internal/reflectlite.ValueOf", "(internal/reflectlite.Value).Type", "(internal/reflectlite.Value).IsNil", "internal/reflectlite.TypeOf", "(internal/reflectlite.Value).Elem", "(internal/reflectlite.Value).Set"], unfollowed := true, recurses := true, named := ["unicode/utf8.first", "unicode/utf8.acceptRanges", "errors.errorType"], apart := false, laid := [("unicode/utf8.acceptRanges", laid_unicode_utf8_acceptRanges), ("errors.errorType", laid_errors_errorType), ("unicode/utf8.first", laid_unicode_utf8_first)], narrowed := true }
def SeamCutsUptoSaid : Prop := seamCutsUptoRow.holds Tryd.pinned (OpenSpec.upto seamCutsSpec)

/-- 'arrearslaw02.SeamRows', WHERE WHAT IT READS IS OF BULK AT MOST 1048576: true; the input reads as it did. -/
def seamRowsUptoRow : OpenClaim := { program := "ytoefhdaenaiomaadoor", sum := "573eb9d2f826d9e5f8ea5f21e49c97eb3fcb90b2316b106f7c777f2bdbaf2fa3", func := "arrears/arrearslaw02.SeamRows", spec := "seamRows", inPlace := ["internal/reflectlite.ValueOf", "(internal/reflectlite.Value).Type", "(internal/reflectlite.Value).IsNil", "internal/reflectlite.TypeOf", "(internal/reflectlite.Value).Elem", "(internal/reflectlite.Value).Set"], unfollowed := true, recurses := true, named := ["unicode/utf8.first", "unicode/utf8.acceptRanges", "errors.errorType"], apart := false, laid := [("unicode/utf8.acceptRanges", laid_unicode_utf8_acceptRanges), ("errors.errorType", laid_errors_errorType), ("unicode/utf8.first", laid_unicode_utf8_first)], narrowed := true }
def SeamRowsUptoSaid : Prop := seamRowsUptoRow.holds Tryd.pinned (OpenSpec.upto seamRowsSpec)

/-- 'arrearslaw15.ReelGoes', WHERE WHAT IT READS IS OF BULK AT MOST 1048576: true; the input reads as it did. -/
def reelGoesUptoRow : OpenClaim := { program := "ytoefhdaenaiomaadoor", sum := "573eb9d2f826d9e5f8ea5f21e49c97eb3fcb90b2316b106f7c777f2bdbaf2fa3", func := "arrears/arrearslaw15.ReelGoes", spec := "reelGoes", unfollowed := true, recurses := true, named := ["unicode/utf8.first", "unicode/utf8.acceptRanges"], apart := false, laid := [("unicode/utf8.acceptRanges", laid_unicode_utf8_acceptRanges), ("unicode/utf8.first", laid_unicode_utf8_first)], narrowed := true }
def ReelGoesUptoSaid : Prop := reelGoesUptoRow.holds Tryd.pinned (OpenSpec.upto reelGoesSpec)

/-- 'arrearslaw15.ReelLays', WHERE WHAT IT READS IS OF BULK AT MOST 1048576: true; the input reads as it did. -/
def reelLaysUptoRow : OpenClaim := { program := "ytoefhdaenaiomaadoor", sum := "573eb9d2f826d9e5f8ea5f21e49c97eb3fcb90b2316b106f7c777f2bdbaf2fa3", func := "arrears/arrearslaw15.ReelLays", spec := "reelLays", unfollowed := true, recurses := true, named := ["unicode/utf8.first", "unicode/utf8.acceptRanges"], apart := false, laid := [("unicode/utf8.acceptRanges", laid_unicode_utf8_acceptRanges), ("unicode/utf8.first", laid_unicode_utf8_first)], narrowed := true }
def ReelLaysUptoSaid : Prop := reelLaysUptoRow.holds Tryd.pinned (OpenSpec.upto reelLaysSpec)

/-- 'arrearslaw15.ReelTurns', WHERE WHAT IT READS IS OF BULK AT MOST 1048576: true; the input reads as it did. -/
def reelTurnsUptoRow : OpenClaim := { program := "ytoefhdaenaiomaadoor", sum := "573eb9d2f826d9e5f8ea5f21e49c97eb3fcb90b2316b106f7c777f2bdbaf2fa3", func := "arrears/arrearslaw15.ReelTurns", spec := "reelTurns", unfollowed := true, recurses := true, named := ["unicode/utf8.first", "unicode/utf8.acceptRanges"], apart := false, laid := [("unicode/utf8.acceptRanges", laid_unicode_utf8_acceptRanges), ("unicode/utf8.first", laid_unicode_utf8_first)], narrowed := true }
def ReelTurnsUptoSaid : Prop := reelTurnsUptoRow.holds Tryd.pinned (OpenSpec.upto reelTurnsSpec)

/-- 'arrearslaw15.ReelRaw', WHERE WHAT IT READS IS OF BULK AT MOST 1048576: true; the input reads as it did. -/
def reelRawUptoRow : OpenClaim := { program := "ytoefhdaenaiomaadoor", sum := "573eb9d2f826d9e5f8ea5f21e49c97eb3fcb90b2316b106f7c777f2bdbaf2fa3", func := "arrears/arrearslaw15.ReelRaw", spec := "reelRaw", inPlace := ["internal/reflectlite.ValueOf", "(internal/reflectlite.Value).Type", "(internal/reflectlite.Value).IsNil", "internal/reflectlite.TypeOf", "(internal/reflectlite.Value).Elem", "(internal/reflectlite.Value).Set"], unfollowed := true, recurses := true, named := ["unicode/utf8.first", "unicode/utf8.acceptRanges", "errors.errorType"], apart := false, laid := [("unicode/utf8.acceptRanges", laid_unicode_utf8_acceptRanges), ("errors.errorType", laid_errors_errorType), ("unicode/utf8.first", laid_unicode_utf8_first)], narrowed := true }
def ReelRawUptoSaid : Prop := reelRawUptoRow.holds Tryd.pinned (OpenSpec.upto reelRawSpec)

/-- 'arrearslaw15.ReelNil', WHERE WHAT IT READS IS OF BULK AT MOST 1048576: true; the input reads as it did. -/
def reelNilUptoRow : OpenClaim := { program := "ytoefhdaenaiomaadoor", sum := "573eb9d2f826d9e5f8ea5f21e49c97eb3fcb90b2316b106f7c777f2bdbaf2fa3", func := "arrears/arrearslaw15.ReelNil", spec := "reelNil", inPlace := ["internal/reflectlite.ValueOf", "(internal/reflectlite.Value).Type", "(internal/reflectlite.Value).IsNil", "internal/reflectlite.TypeOf", "(internal/reflectlite.Value).Elem", "(internal/reflectlite.Value).Set"], unfollowed := true, recurses := true, named := ["unicode/utf8.first", "unicode/utf8.acceptRanges", "errors.errorType"], apart := false, laid := [("unicode/utf8.acceptRanges", laid_unicode_utf8_acceptRanges), ("errors.errorType", laid_errors_errorType), ("unicode/utf8.first", laid_unicode_utf8_first)], narrowed := true }
def ReelNilUptoSaid : Prop := reelNilUptoRow.holds Tryd.pinned (OpenSpec.upto reelNilSpec)

/-- 'arrearslaw15.ReelFull', WHERE WHAT IT READS IS OF BULK AT MOST 1048576: true; the input reads as it did. -/
def reelFullUptoRow : OpenClaim := { program := "ytoefhdaenaiomaadoor", sum := "573eb9d2f826d9e5f8ea5f21e49c97eb3fcb90b2316b106f7c777f2bdbaf2fa3", func := "arrears/arrearslaw15.ReelFull", spec := "reelFull", inPlace := ["internal/reflectlite.ValueOf", "(internal/reflectlite.Value).Type", "(internal/reflectlite.Value).IsNil", "internal/reflectlite.TypeOf", "(internal/reflectlite.Value).Elem", "(internal/reflectlite.Value).Set"], unfollowed := true, recurses := true, named := ["unicode/utf8.first", "unicode/utf8.acceptRanges", "errors.errorType"], apart := false, laid := [("unicode/utf8.acceptRanges", laid_unicode_utf8_acceptRanges), ("errors.errorType", laid_errors_errorType), ("unicode/utf8.first", laid_unicode_utf8_first)], narrowed := true }
def ReelFullUptoSaid : Prop := reelFullUptoRow.holds Tryd.pinned (OpenSpec.upto reelFullSpec)

end Rows
end Go.Proofs.YtoefhdaenaiomaaDoor
