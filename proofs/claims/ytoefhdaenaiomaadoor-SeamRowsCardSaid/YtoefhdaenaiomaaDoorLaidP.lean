/- What the rows that list the pinned table ask of a world; worlds that meet it. -/
import Derived.Test.YtoefhdaenaiomaaDoorLaidH
import Derived.Lay
import Derived.MakeChecks
namespace Go.Proofs.YtoefhdaenaiomaaDoor
open Go Go.ChangeShapes Go.WideShapes Go.RowKit
set_option maxRecDepth 20000

noncomputable def plainL : List (String × DataW Unit) := [("unicode/utf8.acceptRanges", Rows.laid_unicode_utf8_acceptRanges), ("unicode/utf8.first", Rows.laid_unicode_utf8_first)]

theorem laidMet_over {P : Program} {w0 : World} {l : List (String × DataW Unit)} (hf : w0.layFits P l [] = true) (hi : w0.layIfaces P l (w0.layVars P l) = true) : laidMet P l (w0.layVars P l) := by
  have e1 : (l.filter fun x => (l.map (·.1)).contains x.1) = l := List.filter_eq_self.2 fun x hx => List.contains_iff_mem.2 (List.mem_map.2 ⟨x, hx, rfl⟩)
  have e2 : (l.filter fun x => !(l.map (·.1)).contains x.1) = [] := List.filter_eq_nil_iff.2 fun x hx => by rw [List.contains_iff_mem.2 (List.mem_map.2 ⟨x, hx, rfl⟩)]; simp
  exact laidMet_layVars (w0 := w0) (l.map (·.1)) [] (by rw [e1]) (by rw [e1]; exact hf) (by rw [e1]; exact hi) (by rw [e2]; exact LaidIn.none)

noncomputable def laidP (os : Os) : World := (laidWorld os).layVars Tryd.prog plainL
theorem laidP_os (os : Os) : (laidP os).os = os := World.layVars_os _ _ _
theorem laidP_plain (os : Os) (args : Array Value) : laidMet Tryd.prog plainL ((laidP os).forCall (fun _ _ => 0) ⟨#[], args, []⟩).memory := by
  have h : laidMet Tryd.prog plainL (laidP os) := laidMet_over (by kernel_rfl) (by kernel_rfl)
  exact h.of_heap (by simp [World.memory, World.forCall, Input.heap])
theorem laidP_shaped (os : Os) : (laidP os).Shaped Tryd.prog := World.shaped_of_ZipB (by kernel_rfl) (by kernel_rfl)
theorem laidP_met2 (os : Os) (args : Array Value) : laidMetH Tryd.prog Rows.seamSeedsRow.laid ((laidP os).forCall (fun _ _ => 0) ⟨#[], args, []⟩).memory := by
  rw [MakeChecks.laidMetH_plain _ _ _ (by kernel_rfl)]
  exact laidP_plain os args
theorem laidP_met3 (os : Os) (args : Array Value) : laidMetH Tryd.prog Rows.seamTakesRow.laid ((laidP os).forCall (fun _ _ => 0) ⟨#[], args, []⟩).memory := by
  refine laidMetH_of_parts ?_ (by kernel_rfl)
  have e : (Rows.seamTakesRow.laid.filter fun x => x.2.handleName?.isNone) = plainL := by kernel_rfl
  rw [e]
  exact laidP_plain os args

theorem handle_of_laid3 {W : World} (h : laidMetH Tryd.prog Rows.seamTakesRow.laid W) : Laid W := by
  have h' : laidMet Tryd.prog plainL W ∧ handlesMet Tryd.prog Rows.drumArmsRow.laid W := h
  exact handle_of_laid (show laidMet Tryd.prog [] W ∧ handlesMet Tryd.prog Rows.drumArmsRow.laid W from ⟨laidMet_nil _ _, h'.2⟩)

theorem u16_wf {z : Int} (h : (Lit.int .u16 z).wf = true) : 0 ≤ z ∧ z < 65536 := by
  simp [Lit.wf, IntKind.min, IntKind.max, IntKind.signed, IntKind.bits] at h
  omega
theorem u32_wf {z : Int} (h : (Lit.int .u32 z).wf = true) : 0 ≤ z ∧ z < 4294967296 := by
  simp [Lit.wf, IntKind.min, IntKind.max, IntKind.signed, IntKind.bits] at h
  omega
theorem int_wf {z : Int} (h : (Lit.int .i64 z).wf = true) : -9223372036854775808 ≤ z ∧ z ≤ 9223372036854775807 := by
  simp [Lit.wf, IntKind.min, IntKind.max, IntKind.signed, IntKind.bits] at h
  omega
end Go.Proofs.YtoefhdaenaiomaaDoor
