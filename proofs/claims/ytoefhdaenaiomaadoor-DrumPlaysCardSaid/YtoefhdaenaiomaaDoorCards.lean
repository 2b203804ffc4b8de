/-
  DERIVED. GIVEN WITH THE SEED: THE CARDS: each row of YtoefhdaenaiomaaDoorRows.lean that lists a variable, with what it lists TIED to the program's text (the seventh form; the later family's looks); each row that meets fmt, with fmt's text TOLD by the authors' own Lean function (tested against real Go, not proved from fmt's source: count such statements apart). THE CARD IS WHAT COUNTS. Prove the row's statement (the work); the ties are given (YtoefhdaenaiomaaDoorTie.lean); close each card by the builder's one call (the guide's Derived/Test/ToyasCard.lean, 'card_holds'). Laid BY PROGRAM, IN A SANDBOX (cutbox-door.mjs). By AI agents, Wed Nov 11 2026. No macro, syntax, notation, axiom, sorry.
-/
import Derived.Test.YtoefhdaenaiomaaDoorRows
import GoSem.ClaimSeven
namespace Go.Proofs.YtoefhdaenaiomaaDoor
namespace Rows

/-- THE TIED CARD OF 'arrearslaw02.SeamSeeds'. -/
def seamSeedsCard : Claim7 := { stood := { row := seamSeedsRow, standIns := [], harness := (true, "1a69287eba2a73f8fae0da18aa7a8b6ca0942024a3756e35fa42d4378e9f0bfb"), looks := true }, kinds := [], alts := [], laidByText := true, laidKinds := [.data, .pinned], laidTests := true, laidLooks := .later }
def SeamSeedsCardSaid : Prop := Claim7.holds Tryd.pinned (.plain (OpenSpec.ofChange seamSeedsSpec)) seamSeedsCard

/-- THE TIED CARD OF 'arrearslaw01.DrumArms'. -/
def drumArmsCard : Claim7 := { stood := { row := drumArmsRow, standIns := [], harness := (true, "1a69287eba2a73f8fae0da18aa7a8b6ca0942024a3756e35fa42d4378e9f0bfb"), looks := true }, kinds := [], alts := [], laidByText := true, laidKinds := [.handle], laidTests := true, laidLooks := .later }
def DrumArmsCardSaid : Prop := Claim7.holds Tryd.pinned (.plain (OpenSpec.ofChange drumArmsSpec)) drumArmsCard

/-- THE TIED CARD OF 'arrearslaw01.DrumPlays'. -/
def drumPlaysCard : Claim7 := { stood := { row := drumPlaysRow, standIns := [], harness := (true, "1a69287eba2a73f8fae0da18aa7a8b6ca0942024a3756e35fa42d4378e9f0bfb"), looks := true }, kinds := [], alts := [], laidByText := true, laidKinds := [.handle], laidTests := true, laidLooks := .later }
def DrumPlaysCardSaid : Prop := Claim7.holds Tryd.pinned (.plain (OpenSpec.ofChange drumPlaysSpec)) drumPlaysCard

/-- THE TIED CARD OF 'arrearslaw01.DrumOwns'. -/
def drumOwnsCard : Claim7 := { stood := { row := drumOwnsRow, standIns := [], harness := (true, "1a69287eba2a73f8fae0da18aa7a8b6ca0942024a3756e35fa42d4378e9f0bfb"), looks := true }, kinds := [], alts := [], laidByText := true, laidKinds := [.handle], laidTests := true, laidLooks := .later }
def DrumOwnsCardSaid : Prop := Claim7.holds Tryd.pinned (.plain (OpenSpec.ofChange drumOwnsSpec)) drumOwnsCard

/-- THE TIED CARD OF 'arrearslaw02.SeamTakes'. -/
def seamTakesCard : Claim7 := { stood := { row := seamTakesRow, standIns := [], harness := (true, "1a69287eba2a73f8fae0da18aa7a8b6ca0942024a3756e35fa42d4378e9f0bfb"), looks := true }, kinds := [], alts := [], laidByText := true, laidKinds := [.data, .handle, .pinned], laidTests := true, laidLooks := .later }
def SeamTakesCardSaid : Prop := Claim7.holds Tryd.pinned (.plain (OpenSpec.ofChange seamTakesSpec)) seamTakesCard

/-- THE TIED CARD OF 'arrearslaw02.SeamFrames'. -/
def seamFramesCard : Claim7 := { stood := { row := seamFramesRow, standIns := [], harness := (true, "1a69287eba2a73f8fae0da18aa7a8b6ca0942024a3756e35fa42d4378e9f0bfb"), looks := true }, kinds := [], alts := [], laidByText := true, laidKinds := [.data, .handle, .pinned], laidTests := true, laidLooks := .later }
def SeamFramesCardSaid : Prop := Claim7.holds Tryd.pinned (.plain (OpenSpec.ofChange seamFramesSpec)) seamFramesCard

/-- THE TIED CARD OF 'arrearslaw02.SeamShows'. -/
def seamShowsCard : Claim7 := { stood := { row := seamShowsRow, standIns := [], harness := (true, "1a69287eba2a73f8fae0da18aa7a8b6ca0942024a3756e35fa42d4378e9f0bfb"), looks := true }, kinds := [], alts := [], laidByText := true, laidKinds := [.data, .handle, .pinned], laidTests := true, laidLooks := .later }
def SeamShowsCardSaid : Prop := Claim7.holds Tryd.pinned (.plain (OpenSpec.ofChange seamShowsSpec)) seamShowsCard

/-- THE TIED CARD OF 'arrearslaw02.SeamCuts'. -/
def seamCutsCard : Claim7 := { stood := { row := seamCutsRow, standIns := [], harness := (true, "1a69287eba2a73f8fae0da18aa7a8b6ca0942024a3756e35fa42d4378e9f0bfb"), looks := true }, kinds := [], alts := [], laidByText := true, laidKinds := [.data, .handle, .pinned], laidTests := true, laidLooks := .later }
def SeamCutsCardSaid : Prop := Claim7.holds Tryd.pinned (.plain (OpenSpec.ofChange seamCutsSpec)) seamCutsCard

/-- THE TIED CARD OF 'arrearslaw02.SeamRows'. -/
def seamRowsCard : Claim7 := { stood := { row := seamRowsRow, standIns := [], harness := (true, "1a69287eba2a73f8fae0da18aa7a8b6ca0942024a3756e35fa42d4378e9f0bfb"), looks := true }, kinds := [], alts := [], laidByText := true, laidKinds := [.data, .handle, .pinned], laidTests := true, laidLooks := .later }
def SeamRowsCardSaid : Prop := Claim7.holds Tryd.pinned (.plain (OpenSpec.ofChange seamRowsSpec)) seamRowsCard

/-- THE TIED CARD OF 'arrearslaw15.ReelGoes'. -/
def reelGoesCard : Claim7 := { stood := { row := reelGoesRow, standIns := [], harness := (true, "1a69287eba2a73f8fae0da18aa7a8b6ca0942024a3756e35fa42d4378e9f0bfb"), looks := true }, kinds := [], alts := [], laidByText := true, laidKinds := [.data, .pinned], laidTests := true, laidLooks := .later }
def ReelGoesCardSaid : Prop := Claim7.holds Tryd.pinned (.plain (OpenSpec.ofChange reelGoesSpec)) reelGoesCard

/-- THE TIED CARD OF 'arrearslaw15.ReelLays'. -/
def reelLaysCard : Claim7 := { stood := { row := reelLaysRow, standIns := [], harness := (true, "1a69287eba2a73f8fae0da18aa7a8b6ca0942024a3756e35fa42d4378e9f0bfb"), looks := true }, kinds := [], alts := [], laidByText := true, laidKinds := [.data, .pinned], laidTests := true, laidLooks := .later }
def ReelLaysCardSaid : Prop := Claim7.holds Tryd.pinned (.plain (OpenSpec.ofChange reelLaysSpec)) reelLaysCard

/-- THE TIED CARD OF 'arrearslaw15.ReelTurns'. -/
def reelTurnsCard : Claim7 := { stood := { row := reelTurnsRow, standIns := [], harness := (true, "1a69287eba2a73f8fae0da18aa7a8b6ca0942024a3756e35fa42d4378e9f0bfb"), looks := true }, kinds := [], alts := [], laidByText := true, laidKinds := [.data, .pinned], laidTests := true, laidLooks := .later }
def ReelTurnsCardSaid : Prop := Claim7.holds Tryd.pinned (.plain (OpenSpec.ofChange reelTurnsSpec)) reelTurnsCard

/-- THE TIED CARD OF 'arrearslaw15.ReelRaw'. -/
def reelRawCard : Claim7 := { stood := { row := reelRawRow, standIns := [], harness := (true, "1a69287eba2a73f8fae0da18aa7a8b6ca0942024a3756e35fa42d4378e9f0bfb"), looks := true }, kinds := [], alts := [], laidByText := true, laidKinds := [.data, .handle, .pinned], laidTests := true, laidLooks := .later }
def ReelRawCardSaid : Prop := Claim7.holds Tryd.pinned (.plain (OpenSpec.ofChange reelRawSpec)) reelRawCard

/-- THE TIED CARD OF 'arrearslaw15.ReelNil'. -/
def reelNilCard : Claim7 := { stood := { row := reelNilRow, standIns := [], harness := (true, "1a69287eba2a73f8fae0da18aa7a8b6ca0942024a3756e35fa42d4378e9f0bfb"), looks := true }, kinds := [], alts := [], laidByText := true, laidKinds := [.data, .handle, .pinned], laidTests := true, laidLooks := .later }
def ReelNilCardSaid : Prop := Claim7.holds Tryd.pinned (.plain (OpenSpec.ofChange reelNilSpec)) reelNilCard

/-- THE TIED CARD OF 'arrearslaw15.ReelFull'. -/
def reelFullCard : Claim7 := { stood := { row := reelFullRow, standIns := [], harness := (true, "1a69287eba2a73f8fae0da18aa7a8b6ca0942024a3756e35fa42d4378e9f0bfb"), looks := true }, kinds := [], alts := [], laidByText := true, laidKinds := [.data, .handle, .pinned], laidTests := true, laidLooks := .later }
def ReelFullCardSaid : Prop := Claim7.holds Tryd.pinned (.plain (OpenSpec.ofChange reelFullSpec)) reelFullCard

/-- THE SECOND FORM's CARD OF 'arrearslaw02.SeamSeeds'. -/
def seamSeedsUptoCard : Claim7 := { stood := { row := seamSeedsUptoRow, standIns := [], harness := (true, "1a69287eba2a73f8fae0da18aa7a8b6ca0942024a3756e35fa42d4378e9f0bfb"), looks := true }, kinds := [], alts := [], laidByText := true, laidKinds := [.data, .pinned], laidTests := true, laidLooks := .later }
def SeamSeedsUptoCardSaid : Prop := Claim7.holds Tryd.pinned (.plain (OpenSpec.upto seamSeedsSpec)) seamSeedsUptoCard

/-- THE SECOND FORM's CARD OF 'arrearslaw01.DrumArms'. -/
def drumArmsUptoCard : Claim7 := { stood := { row := drumArmsUptoRow, standIns := [], harness := (true, "1a69287eba2a73f8fae0da18aa7a8b6ca0942024a3756e35fa42d4378e9f0bfb"), looks := true }, kinds := [], alts := [], laidByText := true, laidKinds := [.handle], laidTests := true, laidLooks := .later }
def DrumArmsUptoCardSaid : Prop := Claim7.holds Tryd.pinned (.plain (OpenSpec.upto drumArmsSpec)) drumArmsUptoCard

/-- THE SECOND FORM's CARD OF 'arrearslaw01.DrumPlays'. -/
def drumPlaysUptoCard : Claim7 := { stood := { row := drumPlaysUptoRow, standIns := [], harness := (true, "1a69287eba2a73f8fae0da18aa7a8b6ca0942024a3756e35fa42d4378e9f0bfb"), looks := true }, kinds := [], alts := [], laidByText := true, laidKinds := [.handle], laidTests := true, laidLooks := .later }
def DrumPlaysUptoCardSaid : Prop := Claim7.holds Tryd.pinned (.plain (OpenSpec.upto drumPlaysSpec)) drumPlaysUptoCard

/-- THE SECOND FORM's CARD OF 'arrearslaw01.DrumOwns'. -/
def drumOwnsUptoCard : Claim7 := { stood := { row := drumOwnsUptoRow, standIns := [], harness := (true, "1a69287eba2a73f8fae0da18aa7a8b6ca0942024a3756e35fa42d4378e9f0bfb"), looks := true }, kinds := [], alts := [], laidByText := true, laidKinds := [.handle], laidTests := true, laidLooks := .later }
def DrumOwnsUptoCardSaid : Prop := Claim7.holds Tryd.pinned (.plain (OpenSpec.upto drumOwnsSpec)) drumOwnsUptoCard

/-- THE SECOND FORM's CARD OF 'arrearslaw02.SeamTakes'. -/
def seamTakesUptoCard : Claim7 := { stood := { row := seamTakesUptoRow, standIns := [], harness := (true, "1a69287eba2a73f8fae0da18aa7a8b6ca0942024a3756e35fa42d4378e9f0bfb"), looks := true }, kinds := [], alts := [], laidByText := true, laidKinds := [.data, .handle, .pinned], laidTests := true, laidLooks := .later }
def SeamTakesUptoCardSaid : Prop := Claim7.holds Tryd.pinned (.plain (OpenSpec.upto seamTakesSpec)) seamTakesUptoCard

/-- THE SECOND FORM's CARD OF 'arrearslaw02.SeamFrames'. -/
def seamFramesUptoCard : Claim7 := { stood := { row := seamFramesUptoRow, standIns := [], harness := (true, "1a69287eba2a73f8fae0da18aa7a8b6ca0942024a3756e35fa42d4378e9f0bfb"), looks := true }, kinds := [], alts := [], laidByText := true, laidKinds := [.data, .handle, .pinned], laidTests := true, laidLooks := .later }
def SeamFramesUptoCardSaid : Prop := Claim7.holds Tryd.pinned (.plain (OpenSpec.upto seamFramesSpec)) seamFramesUptoCard

/-- THE SECOND FORM's CARD OF 'arrearslaw02.SeamShows'. -/
def seamShowsUptoCard : Claim7 := { stood := { row := seamShowsUptoRow, standIns := [], harness := (true, "1a69287eba2a73f8fae0da18aa7a8b6ca0942024a3756e35fa42d4378e9f0bfb"), looks := true }, kinds := [], alts := [], laidByText := true, laidKinds := [.data, .handle, .pinned], laidTests := true, laidLooks := .later }
def SeamShowsUptoCardSaid : Prop := Claim7.holds Tryd.pinned (.plain (OpenSpec.upto seamShowsSpec)) seamShowsUptoCard

/-- THE SECOND FORM's CARD OF 'arrearslaw02.SeamCuts'. -/
def seamCutsUptoCard : Claim7 := { stood := { row := seamCutsUptoRow, standIns := [], harness := (true, "1a69287eba2a73f8fae0da18aa7a8b6ca0942024a3756e35fa42d4378e9f0bfb"), looks := true }, kinds := [], alts := [], laidByText := true, laidKinds := [.data, .handle, .pinned], laidTests := true, laidLooks := .later }
def SeamCutsUptoCardSaid : Prop := Claim7.holds Tryd.pinned (.plain (OpenSpec.upto seamCutsSpec)) seamCutsUptoCard

/-- THE SECOND FORM's CARD OF 'arrearslaw02.SeamRows'. -/
def seamRowsUptoCard : Claim7 := { stood := { row := seamRowsUptoRow, standIns := [], harness := (true, "1a69287eba2a73f8fae0da18aa7a8b6ca0942024a3756e35fa42d4378e9f0bfb"), looks := true }, kinds := [], alts := [], laidByText := true, laidKinds := [.data, .handle, .pinned], laidTests := true, laidLooks := .later }
def SeamRowsUptoCardSaid : Prop := Claim7.holds Tryd.pinned (.plain (OpenSpec.upto seamRowsSpec)) seamRowsUptoCard

/-- THE SECOND FORM's CARD OF 'arrearslaw15.ReelGoes'. -/
def reelGoesUptoCard : Claim7 := { stood := { row := reelGoesUptoRow, standIns := [], harness := (true, "1a69287eba2a73f8fae0da18aa7a8b6ca0942024a3756e35fa42d4378e9f0bfb"), looks := true }, kinds := [], alts := [], laidByText := true, laidKinds := [.data, .pinned], laidTests := true, laidLooks := .later }
def ReelGoesUptoCardSaid : Prop := Claim7.holds Tryd.pinned (.plain (OpenSpec.upto reelGoesSpec)) reelGoesUptoCard

/-- THE SECOND FORM's CARD OF 'arrearslaw15.ReelLays'. -/
def reelLaysUptoCard : Claim7 := { stood := { row := reelLaysUptoRow, standIns := [], harness := (true, "1a69287eba2a73f8fae0da18aa7a8b6ca0942024a3756e35fa42d4378e9f0bfb"), looks := true }, kinds := [], alts := [], laidByText := true, laidKinds := [.data, .pinned], laidTests := true, laidLooks := .later }
def ReelLaysUptoCardSaid : Prop := Claim7.holds Tryd.pinned (.plain (OpenSpec.upto reelLaysSpec)) reelLaysUptoCard

/-- THE SECOND FORM's CARD OF 'arrearslaw15.ReelTurns'. -/
def reelTurnsUptoCard : Claim7 := { stood := { row := reelTurnsUptoRow, standIns := [], harness := (true, "1a69287eba2a73f8fae0da18aa7a8b6ca0942024a3756e35fa42d4378e9f0bfb"), looks := true }, kinds := [], alts := [], laidByText := true, laidKinds := [.data, .pinned], laidTests := true, laidLooks := .later }
def ReelTurnsUptoCardSaid : Prop := Claim7.holds Tryd.pinned (.plain (OpenSpec.upto reelTurnsSpec)) reelTurnsUptoCard

/-- THE SECOND FORM's CARD OF 'arrearslaw15.ReelRaw'. -/
def reelRawUptoCard : Claim7 := { stood := { row := reelRawUptoRow, standIns := [], harness := (true, "1a69287eba2a73f8fae0da18aa7a8b6ca0942024a3756e35fa42d4378e9f0bfb"), looks := true }, kinds := [], alts := [], laidByText := true, laidKinds := [.data, .handle, .pinned], laidTests := true, laidLooks := .later }
def ReelRawUptoCardSaid : Prop := Claim7.holds Tryd.pinned (.plain (OpenSpec.upto reelRawSpec)) reelRawUptoCard

/-- THE SECOND FORM's CARD OF 'arrearslaw15.ReelNil'. -/
def reelNilUptoCard : Claim7 := { stood := { row := reelNilUptoRow, standIns := [], harness := (true, "1a69287eba2a73f8fae0da18aa7a8b6ca0942024a3756e35fa42d4378e9f0bfb"), looks := true }, kinds := [], alts := [], laidByText := true, laidKinds := [.data, .handle, .pinned], laidTests := true, laidLooks := .later }
def ReelNilUptoCardSaid : Prop := Claim7.holds Tryd.pinned (.plain (OpenSpec.upto reelNilSpec)) reelNilUptoCard

/-- THE SECOND FORM's CARD OF 'arrearslaw15.ReelFull'. -/
def reelFullUptoCard : Claim7 := { stood := { row := reelFullUptoRow, standIns := [], harness := (true, "1a69287eba2a73f8fae0da18aa7a8b6ca0942024a3756e35fa42d4378e9f0bfb"), looks := true }, kinds := [], alts := [], laidByText := true, laidKinds := [.data, .handle, .pinned], laidTests := true, laidLooks := .later }
def ReelFullUptoCardSaid : Prop := Claim7.holds Tryd.pinned (.plain (OpenSpec.upto reelFullSpec)) reelFullUptoCard
end Rows
end Go.Proofs.YtoefhdaenaiomaaDoor
