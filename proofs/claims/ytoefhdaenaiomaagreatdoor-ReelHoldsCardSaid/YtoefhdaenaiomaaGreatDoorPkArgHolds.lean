/- ReelHolds' acts, opened. -/
import Derived.Test.YtoefhdaenaiomaaGreatDoorPkLawHolds
import Derived.Test.YtoefhdaenaiomaaGreatDoorPk3
set_option linter.unusedVariables false
set_option linter.unusedSimpArgs false
namespace Go.Proofs.YtoefhdaenaiomaaGreatDoor
open Go Go.ChangeShapes Go.WideShapes Go.RowKit Go.Deep
set_option maxRecDepth 20000

theorem hact_of {H : Type} {enc : TypeId × Value → H} {w : World} {base : Nat} {held : Bool} (n : Nat) (cs : List Value) (x : DataW H × List MemPlace) (h : DataW.trod enc Tryz.prog w base (fun _ => true) held n 38 cs = some x) : ∃ a : HAct, cs = a.cells ∧ a.ok w := by
  obtain ⟨v0, v1, v2, v3, v4, v5, m, y0, y1, y2, y3, y4, y5, rfl, g0, g1, g2, g3, g4, g5⟩ := trod_six Tryz.underlying38 (by kernel_rfl) rfl rfl rfl rfl rfl rfl (by kernel_rfl) (by kernel_rfl) (by kernel_rfl) (by kernel_rfl) (by kernel_rfl) (by kernel_rfl) h
  obtain ⟨z0, e0, _, w0⟩ := DataW.trod_int (t := 5) Tryz.underlying5 g0
  obtain ⟨p, hp⟩ := trod_bytes (t := 22) Tryz.underlying22 Tryz.underlying5 (by kernel_rfl) g1
  obtain ⟨b2, e2, _⟩ := DataW.trod_bool (t := 4) Tryz.underlying4 g2
  obtain ⟨kp, hk⟩ := trod_bits (t := 36) Tryz.underlying36 Tryz.underlying4 (by kernel_rfl) g3
  obtain ⟨z4, e4, _, w4⟩ := DataW.trod_int (t := 3) Tryz.underlying3 g4
  obtain ⟨z5, e5, _, w5⟩ := DataW.trod_int (t := 5) Tryz.underlying5 g5
  injection e0 with e0
  injection e2 with e2
  injection e4 with e4
  injection e5 with e5
  subst e0
  subst e2
  subst e4
  subst e5
  have w0' := u8_wf w0
  have w5' := u8_wf w5
  obtain ⟨n0, rfl⟩ := Int.eq_ofNat_of_zero_le w0'.1
  obtain ⟨n5, rfl⟩ := Int.eq_ofNat_of_zero_le w5'.1
  exact ⟨⟨n0, v1, p, b2, v3, kp, z4, n5⟩, rfl, by dsimp only; omega, hp, hk, by dsimp only; omega⟩
end Go.Proofs.YtoefhdaenaiomaaGreatDoor
