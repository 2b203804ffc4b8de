/- SeamRows: whatever the input, the call returns true, and each argument reads as it read before; errors.errorType and the listed tables are as the text lays them (tied; utf8.first pinned). -/
import Derived.Test.YtoefhdaenaiomaaDoorLaidP
import Derived.Test.YtoefhdaenaiomaaDoorLawRows
import Derived.Test.YtoefhdaenaiomaaDoorArgRows
import Derived.Test.YtoefhdaenaiomaaDoorCards
import Derived.Test.YtoefhdaenaiomaaDoorTie
import Derived.SevenTiedAt
namespace Go.Proofs.YtoefhdaenaiomaaDoor.seamRows
open Go Go.ChangeShapes Go.WideShapes Go.RowKit
set_option maxRecDepth 20000

set_option maxRecDepth 100000 in
theorem lifted (os : Os) (started : os.Started) (H : Type) (enc : TypeId × Value → H) :
    ReturnsInHanded {} Tryd.checked os 11 .any (fun w args => (Rows.seamRowsSpec.pre enc Tryd.prog Tryd.f11 [] false w args ∧ laidMetH Tryd.prog Rows.seamRowsRow.laid w) ∧ sizedMet enc Tryd.prog Tryd.f11 (OpenSpec.ofChange Rows.seamRowsSpec) false w args)
      (Rows.seamRowsSpec.post enc Tryd.prog Tryd.f11 false true false false) := by
  refine returnsInHanded_of_change_and (C := Tryd.checked) (X := fun w _ => laidMetH Tryd.prog Rows.seamRowsRow.laid w) (fun _ _ _ hh h => h.of_heap hh) knob started (by kernel_rfl) Tryd.func11
    (ChangeSpec.witness_shaped (enc := enc) (C := Tryd.checked) (os := os) (X := fun w _ => laidMetH Tryd.prog Rows.seamRowsRow.laid w) false (laidP os) #[.int .u32 0, .slice none 0 0] 8 (laidP_os _) (laidP_shaped _) (by kernel_rfl) (by kernel_rfl) (by kernel_rfl) (laidP_met3 os _)) ?_
  intro W base args ds gs before hval0 hW _ _ hL _
  have hval : ∀ (j : Nat) t v, Tryd.f11.params[j]? = some t → args[j]? = some v → Value.okWide Tryd.prog W .any base t v := hval0
  have hW' := hW
  obtain ⟨p, q, hA0, hV0, rfl, hfz, hnd⟩ := hW
  have hA : DataW.TrodAll enc Tryd.prog W 0 (fun _ => true) true Tryd.f11.params.toList args.toList ds p := hA0
  have hV : DataW.TrodVars enc Tryd.prog W (fun _ => true) [] gs q := hV0
  rw [Tryd.params11] at hA hval
  obtain ⟨v0, vs0, d0, ds0, p0, q0, hargs, rfl, rfl, h0, r0⟩ := trodAll_cons hA
  obtain ⟨v1, vs1, d1, ds1, p1, q1, rfl, rfl, rfl, h1, r1⟩ := trodAll_cons r0
  obtain ⟨rfl, rfl, rfl⟩ := trodAll_nil r1
  obtain rfl : args = #[v0, v1] := by cases args; simp_all
  obtain ⟨rfl, rfl⟩ := trodVars_none hV
  obtain ⟨a0, rfl, rfl, rfl, w0⟩ := open_int Tryd.underlying22 (hval 0 22 v0 rfl rfl) h0
  have w0' := u32_wf w0
  obtain ⟨n0, rfl⟩ := Int.eq_ofNat_of_zero_le w0'.1
  obtain ⟨us1, a1, l1, s1, e1⟩ := open_rows Tryd.underlying73 Tryd.underlying23 Tryd.underlying5 (by kernel_rfl) (by kernel_rfl) (hval 1 73 v1 rfl rfl) h1
  clear hA0 hval0
  have call := rows_c W n0 v1 us1 a1 _ _ (by omega) s1 l1 e1 (handle_of_laid3 hL)
  refine call.mono fun e W' he => ?_
  obtain ⟨r, rfl, rfl, hk⟩ := he
  exact ⟨_, rfl, post_true laidOut (by kernel_rfl) (by kernel_rfl) Tryd.underlying4 hW' rfl rfl rfl rfl hk.below⟩

theorem over : Rows.SeamRowsSaid :=
  OpenClaim.holds_of_wide 11 Tryd.f11 rfl rfl rfl rfl rfl rfl rfl ⟨rfl, rfl, rfl, rfl, rfl⟩ rfl rfl rfl rfl rfl (by kernel_rfl) Tryd.func11 (by kernel_rfl)
    (of_decide_eq_true (by kernel_rfl)) (by unfold Func.isWrapper; first | (rw [if_pos (by decide +kernel)]; kernel_rfl) | (rw [if_neg (of_decide_eq_false (by kernel_rfl))]; exact ⟨rfl, rfl⟩))
    (fun os started H enc _ => lifted os started H enc)

theorem proved : Rows.SeamRowsCardSaid :=
  Claim7.holds_tied_plain_at .later [] [.data, .handle, .pinned] true Rows.seamRowsCard.stood.harness true
    over (fun _ h => by cases h) (by kernel_rfl) (fun _ h => by cases h) seamRows_row_tie rfl ⟨rfl, rfl⟩ (by kernel_rfl) rfl
    (fun f fn hf hfn => by
      obtain rfl : f = 11 := Option.some.inj ((show Tryd.prog.funcNamed "arrears/arrearslaw02.SeamRows" = some 11 by kernel_rfl).symm.trans hf) |>.symm
      obtain rfl : fn = Tryd.f11 := (Option.some.inj (Tryd.func11.symm.trans hfn)).symm
      exact ⟨by kernel_rfl, fun j t ht => by
        rw [Tryd.params11] at ht
        match j, ht with
        | 0, ht => obtain rfl := Option.some.inj ht; exact (show Tryd.prog.wantsStandIn 22 = false by kernel_rfl)
        | 1, ht => obtain rfl := Option.some.inj ht; exact (show Tryd.prog.wantsStandIn 73 = false by kernel_rfl)
        | j + 2, ht => simp at ht⟩)
    (by kernel_rfl)
#print axioms proved
end Go.Proofs.YtoefhdaenaiomaaDoor.seamRows
