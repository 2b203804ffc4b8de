/- ReelLays: whatever the input, the call returns true, and each argument reads as it read before; the listed tables are as the text lays them (tied; utf8.first pinned). -/
import Derived.Test.YtoefhdaenaiomaaDoorPk4
import Derived.Test.YtoefhdaenaiomaaDoorPkLawLays
import Derived.Test.YtoefhdaenaiomaaDoorPk3
import Derived.Test.YtoefhdaenaiomaaDoorCards
import Derived.Test.YtoefhdaenaiomaaDoorTie
import Derived.SevenTiedAt
set_option linter.unusedVariables false
set_option linter.unusedSimpArgs false
namespace Go.Proofs.YtoefhdaenaiomaaDoor.reelLays
open Go Go.ChangeShapes Go.WideShapes Go.RowKit
set_option maxRecDepth 20000

set_option maxRecDepth 100000 in
theorem lifted (os : Os) (started : os.Started) (H : Type) (enc : TypeId × Value → H) :
    ReturnsInHanded {} Tryd.checked os 13 .any (fun w args => (Rows.reelLaysSpec.pre enc Tryd.prog Tryd.f13 [] false w args ∧ laidMetH Tryd.prog Rows.reelLaysRow.laid w) ∧ sizedMet enc Tryd.prog Tryd.f13 (OpenSpec.ofChange Rows.reelLaysSpec) false w args)
      (Rows.reelLaysSpec.post enc Tryd.prog Tryd.f13 false true false false) := by
  refine returnsInHanded_of_change_and (C := Tryd.checked) (X := fun w _ => laidMetH Tryd.prog Rows.reelLaysRow.laid w) (fun _ _ _ hh h => h.of_heap hh) knob started (by kernel_rfl) Tryd.func13
    (ChangeSpec.witness_shaped (enc := enc) (C := Tryd.checked) (os := os) (X := fun w _ => laidMetH Tryd.prog Rows.reelLaysRow.laid w) false (laidP os) #[.int .u8 0, .slice none 0 0, .slice none 0 0, .bool false] 8 (laidP_os _) (laidP_shaped _) (by kernel_rfl) (by kernel_rfl) (by kernel_rfl) (laidP_met2 os _)) ?_
  intro W base args ds gs before hval0 hW _ _ hL _
  have hval : ∀ (j : Nat) t v, Tryd.f13.params[j]? = some t → args[j]? = some v → Value.okWide Tryd.prog W .any base t v := hval0
  have hW' := hW
  obtain ⟨p, q, hA0, hV0, rfl, hfz, hnd⟩ := hW
  have hA : DataW.TrodAll enc Tryd.prog W 0 (fun _ => true) true Tryd.f13.params.toList args.toList ds p := hA0
  have hV : DataW.TrodVars enc Tryd.prog W (fun _ => true) [] gs q := hV0
  rw [Tryd.params13] at hA hval
  obtain ⟨v0, vs0, d0, ds0, p0, q0, hargs, rfl, rfl, h0, r0⟩ := trodAll_cons hA
  obtain ⟨v1, vs1, d1, ds1, p1, q1, rfl, rfl, rfl, h1, r1⟩ := trodAll_cons r0
  obtain ⟨v2, vs2, d2, ds2, p2, q2, rfl, rfl, rfl, h2, r2⟩ := trodAll_cons r1
  obtain ⟨v3, vs3, d3, ds3, p3, q3, rfl, rfl, rfl, h3, r3⟩ := trodAll_cons r2
  obtain ⟨rfl, rfl, rfl⟩ := trodAll_nil r3
  obtain rfl : args = #[v0, v1, v2, v3] := by cases args; simp_all
  obtain ⟨rfl, rfl⟩ := trodVars_none hV
  obtain ⟨a0, rfl, rfl, rfl, w0⟩ := open_int Tryd.underlying5 (hval 0 5 v0 rfl rfl) h0
  have w0' := u8_wf w0
  obtain ⟨n0, rfl⟩ := Int.eq_ofNat_of_zero_le w0'.1
  obtain ⟨us1, a1, l1, s1, e1⟩ := open_rows Tryd.underlying73 Tryd.underlying23 Tryd.underlying5 (by kernel_rfl) (by kernel_rfl) (hval 1 73 v1 rfl rfl) h1
  obtain ⟨a2, s2⟩ := open_bits Tryd.underlying47 Tryd.underlying4 (by kernel_rfl) (hval 2 47 v2 rfl rfl) h2
  obtain ⟨a3, rfl, rfl, rfl⟩ := open_bool Tryd.underlying4 (hval 3 4 v3 rfl rfl) h3
  clear hA0 hval0
  have call := lays_c W _ _ v1 v2 a1 a2 n0 a3 ⟨us1, l1, s1, e1⟩ s2 (by omega) 
  refine call.mono fun e W' he => ?_
  obtain ⟨r, rfl, rfl, hk⟩ := he
  exact ⟨_, rfl, post_true laidOut (by kernel_rfl) (by kernel_rfl) Tryd.underlying4 hW' rfl rfl rfl rfl hk.below⟩

theorem over : Rows.ReelLaysSaid :=
  OpenClaim.holds_of_wide 13 Tryd.f13 rfl rfl rfl rfl rfl rfl rfl ⟨rfl, rfl, rfl, rfl, rfl⟩ rfl rfl rfl rfl rfl (by kernel_rfl) Tryd.func13 (by kernel_rfl)
    (of_decide_eq_true (by kernel_rfl)) (by unfold Func.isWrapper; first | (rw [if_pos (by decide +kernel)]; kernel_rfl) | (rw [if_neg (of_decide_eq_false (by kernel_rfl))]; exact ⟨rfl, rfl⟩))
    (fun os started H enc _ => lifted os started H enc)

theorem proved : Rows.ReelLaysCardSaid :=
  Claim7.holds_tied_plain_at .later [] [.data, .pinned] true Rows.reelLaysCard.stood.harness true
    over (fun _ h => by cases h) (by kernel_rfl) (fun _ h => by cases h) reelLays_row_tie rfl ⟨rfl, rfl⟩ (by kernel_rfl) rfl
    (fun f fn hf hfn => by
      obtain rfl : f = 13 := Option.some.inj ((show Tryd.prog.funcNamed "arrears/arrearslaw15.ReelLays" = some 13 by kernel_rfl).symm.trans hf) |>.symm
      obtain rfl : fn = Tryd.f13 := (Option.some.inj (Tryd.func13.symm.trans hfn)).symm
      exact ⟨by kernel_rfl, fun j t ht => by
        rw [Tryd.params13] at ht
        match j, ht with
        | 0, ht => obtain rfl := Option.some.inj ht; exact (show Tryd.prog.wantsStandIn 5 = false by kernel_rfl)
        | 1, ht => obtain rfl := Option.some.inj ht; exact (show Tryd.prog.wantsStandIn 73 = false by kernel_rfl)
        | 2, ht => obtain rfl := Option.some.inj ht; exact (show Tryd.prog.wantsStandIn 47 = false by kernel_rfl)
        | 3, ht => obtain rfl := Option.some.inj ht; exact (show Tryd.prog.wantsStandIn 4 = false by kernel_rfl)
        | j + 4, ht => simp at ht⟩)
    (by kernel_rfl)
#print axioms proved
end Go.Proofs.YtoefhdaenaiomaaDoor.reelLays
