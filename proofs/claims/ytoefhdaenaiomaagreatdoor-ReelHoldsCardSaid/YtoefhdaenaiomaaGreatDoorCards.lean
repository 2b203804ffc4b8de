/-
  DERIVED. GIVEN WITH THE SEED: THE CARDS: each row of YtoefhdaenaiomaaGreatDoorRows.lean that lists a variable, with what it lists TIED to the program's text (the seventh form; the later family's looks); each row that meets fmt, with fmt's text TOLD by the authors' own Lean function (tested against real Go, not proved from fmt's source: count such statements apart). THE CARD IS WHAT COUNTS. Prove the row's statement (the work); the ties are given (YtoefhdaenaiomaaGreatDoorTie.lean); close each card by the builder's one call (the guide's Derived/Test/ToyasCard.lean, 'card_holds'). Laid BY PROGRAM, IN A SANDBOX (cutbox-door.mjs). By AI agents, Wed Nov 11 2026. No macro, syntax, notation, axiom, sorry.
-/
import Derived.Test.YtoefhdaenaiomaaGreatDoorRows
import GoSem.ClaimSeven
namespace Go.Proofs.YtoefhdaenaiomaaGreatDoor
namespace Rows

/-- THE TIED CARD OF 'arrearslaw15.ReelHolds'. -/
def reelHoldsCard : Claim7 := { stood := { row := reelHoldsRow, standIns := [], harness := (true, "864980c03e37c610b6963922dae309c753adbf4ccd82b031b6293bbfb9222df3"), looks := true }, kinds := [], alts := [], laidByText := true, laidKinds := [.data, .handle, .pinned], laidTests := true, laidLooks := .later }
def ReelHoldsCardSaid : Prop := Claim7.holds Tryz.pinned (.plain (OpenSpec.ofChange reelHoldsSpec)) reelHoldsCard

/-- THE SECOND FORM's CARD OF 'arrearslaw15.ReelHolds'. -/
def reelHoldsUptoCard : Claim7 := { stood := { row := reelHoldsUptoRow, standIns := [], harness := (true, "864980c03e37c610b6963922dae309c753adbf4ccd82b031b6293bbfb9222df3"), looks := true }, kinds := [], alts := [], laidByText := true, laidKinds := [.data, .handle, .pinned], laidTests := true, laidLooks := .later }
def ReelHoldsUptoCardSaid : Prop := Claim7.holds Tryz.pinned (.plain (OpenSpec.upto reelHoldsSpec)) reelHoldsUptoCard
end Rows
end Go.Proofs.YtoefhdaenaiomaaGreatDoor
