/- A row's arguments, opened: slices of byte slices. -/
import Derived.Test.YtoefhdaenaiomaaDoorArgs
import Derived.Deep.Matrix
namespace Go.Proofs.YtoefhdaenaiomaaDoor
open Go Go.ChangeShapes Go.WideShapes Go.RowKit Go.Deep
set_option maxRecDepth 20000

theorem cell_spot {w : World} {a : Addr} {v : Value} (h : w.cell? a = some v) : a.spot = none ∧ a.block < w.heap.size := by
  refine ⟨?_, World.block_lt_of_cell? w a h⟩
  cases hs : a.spot with
  | none => rfl
  | some x =>
    unfold World.cell? at h
    split at h
    · simp [hs] at h
    · cases h

section
variable {H : Type} {enc : TypeId × Value → H} {P : Program} {w : World} {base : Nat} {held : Bool} {r : Reach} {b0 : Nat} {t e q : TypeId} {v : Value} {d : DataW H} {ps : List MemPlace}

theorem row_bytes {A : Option Addr} {L C : Nat} {Z : List Int} (hl : L ≤ C) (hm : C ≤ maxLen) (hz : Z.length = C) (hw : ∀ n ∈ Z, (Lit.int .u8 n).wf = true) (hn : A = none → C = 0) (hc : ∀ a', A = some a' → ∀ c, c < C → w.cell? (a'.add c) = some (.int .u8 (Z.getD c 0))) :
    BS w (old w) (.slice A L C) ((Z.take L).map fun z => UInt8.ofNat z.toNat) := by
  have hln : ((Z.take L).map fun z => UInt8.ofNat z.toNat).length = L := by simp; omega
  unfold BS
  rw [hln]
  refine ⟨by unfold maxLen at hm; omega, by rw [encBs_len, hln, Nat.mul_one], A, C, rfl, hl, ?_⟩
  by_cases h0 : L = 0
  · exact .inl h0
  · right
    cases A with
    | none => have := hn rfl; omega
    | some a =>
      have h1 := hc a rfl 0 (by omega)
      rw [show a.add 0 = a from rfl] at h1
      obtain ⟨h2, h3⟩ := cell_spot h1
      refine ⟨a.block, a.off, by cases a; simp only at h2; rw [h2], h3, h3, ?_⟩
      intro j u hj
      rw [encBs, List.map_map, List.getElem?_map] at hj
      cases hq : (Z.take L)[j]? with
      | none => rw [hq] at hj; cases hj
      | some z =>
        rw [hq, Option.map_some] at hj
        injection hj with hj
        subst hj
        have hjz : Z[j]? = some z := by
          rw [List.getElem?_take] at hq
          split at hq
          · exact hq
          · cases hq
        have hlt := (List.getElem?_eq_some_iff.1 hjz).1
        have h4 := hc a rfl j (by omega)
        rw [cell_add a h2, List.getD_eq_getElem?_getD, hjz, Option.getD_some] at h4
        rw [h4]
        exact congrArg some (encB_of (hw z (List.mem_of_getElem? hjz))).symm

theorem open_rows (ht : P.underlying t = some (.slice e)) (he : P.underlying e = some (.slice q)) (hq : P.underlying q = some (.int .u8)) (ce : P.cellsOf e = 1) (cq : P.cellsOf q = 1) (hval : Value.okWide P w r b0 t v) (hd : DataW.Trod enc P w base (fun _ => true) held t v d ps) :
    ∃ (vs : List Value) (ls : List (List UInt8)), vs.length = ls.length ∧ Sl w (old w) v 1 vs.length vs ∧ ∀ (i : Nat) u l, vs[i]? = some u → ls[i]? = some l → BS w (old w) u l := by
  obtain ⟨A, n, c, rfl⟩ := okWide_slice ht hval
  obtain ⟨fuel, hf⟩ := hd
  rcases open_int_rows ht he hq ce cq hf with ⟨h1, _⟩ | ⟨a, len, cap, A', L, C, Z, h1, _, hl, hm, _, hr⟩
  · simp only [Value.cells, List.cons.injEq, Value.slice.injEq, and_true] at h1
    obtain ⟨rfl, rfl, rfl⟩ := h1
    exact ⟨[], [], rfl, ⟨by decide, rfl, none, 0, rfl, Nat.le_refl _, .inl rfl⟩, fun i u l h => by simp at h⟩
  · simp only [Value.cells, List.cons.injEq, Value.slice.injEq, and_true] at h1
    obtain ⟨rfl, rfl, rfl⟩ := h1
    obtain ⟨h2, h3⟩ := slice_has ht hval
    refine ⟨(List.range n).map fun i => .slice (A' i) (L i) (C i), (List.range n).map fun i => ((Z i).take (L i)).map fun z => UInt8.ofNat z.toNat, by simp, ?_, ?_⟩
    · have hln : ((List.range n).map fun i => Value.slice (A' i) (L i) (C i)).length = n := by simp
      rw [hln]
      refine ⟨by unfold maxLen at hm; omega, by rw [hln, Nat.mul_one], some a, c, rfl, hl, .inr ⟨a.block, a.off, by cases a; simp only at h2; rw [h2], h3, h3, ?_⟩⟩
      intro j u hj
      rw [List.getElem?_map] at hj
      cases hq : (List.range n)[j]? with
      | none => rw [hq] at hj; cases hj
      | some z =>
        rw [hq, Option.map_some] at hj
        injection hj with hj
        subst hj
        obtain ⟨hlt, hz⟩ := List.getElem?_eq_some_iff.1 hq
        simp only [List.length_range] at hlt
        simp only [List.getElem_range] at hz
        subst hz
        have h4 := (hr j (by omega)).1
        rw [cell_add a h2] at h4
        exact h4
    · intro i u l hu hl'
      rw [List.getElem?_map] at hu hl'
      cases hq : (List.range n)[i]? with
      | none => rw [hq] at hu; cases hu
      | some z =>
        rw [hq, Option.map_some] at hu hl'
        injection hu with hu
        injection hl' with hl'
        subst hu
        subst hl'
        obtain ⟨hlt, hz⟩ := List.getElem?_eq_some_iff.1 hq
        simp only [List.length_range] at hlt
        simp only [List.getElem_range] at hz
        subst hz
        obtain ⟨_, g1, g2, g3, g4, g5, g6⟩ := hr i (by omega)
        exact row_bytes g1 g2 g3 g4 g5 (fun a' e => (g6 a' e).2)
end
end Go.Proofs.YtoefhdaenaiomaaDoor
