/- A row's arguments, opened: byte and bool slices. -/
import Derived.Test.YtoefhdaenaiomaaDoorDrumE
import Derived.ChangeSlices
import Derived.Carry
import Derived.Deep.Grids
import Derived.OpenShut
import Derived.ProofKit
namespace Go.Proofs.YtoefhdaenaiomaaDoor
open Go Go.ChangeShapes Go.WideShapes Go.RowKit Go.Deep
set_option maxRecDepth 20000

/-- Any old block. -/
def old (w : World) : Nat → Prop := fun b => b < w.heap.size

theorem has_lt {P : Program} {w : World} {r : Reach} {b0 : Nat} {a : Addr} {e : TypeId} {n : Nat} (h : w.has P r b0 a e n) : a.spot = none ∧ a.block < w.heap.size := by
  obtain ⟨_, h1, row, cells, h2, _⟩ := h
  refine ⟨h1, ?_⟩
  rcases Nat.lt_or_ge a.block w.heap.size with h | h
  · exact h
  · simp [World.shape?, Array.getElem?_eq_none h] at h2

theorem slice_has {P : Program} {w : World} {r : Reach} {b0 : Nat} {t e : TypeId} {a : Addr} {len cap : Nat} (ht : P.underlying t = some (.slice e)) (h : Value.okWide P w r b0 t (.slice (some a) len cap)) : a.spot = none ∧ a.block < w.heap.size := by
  simp only [Value.okWide, ht, Cell.okWide, Cell.ok] at h
  exact has_lt h.2.2

theorem cell_add (a : Addr) (h : a.spot = none) (i : Nat) : a.add i = ⟨a.block, a.off + i, none⟩ := by
  cases a with
  | mk b o s => simp only at h; subst h; exact addr_add b o i

theorem u8_wf {z : Int} (h : (Lit.int .u8 z).wf = true) : 0 ≤ z ∧ z < 256 := by
  simp [Lit.wf, IntKind.min, IntKind.max, IntKind.signed, IntKind.bits] at h
  omega
theorem encB_of {z : Int} (h : (Lit.int .u8 z).wf = true) : encB (UInt8.ofNat z.toNat) = .int .u8 z := by
  have := u8_wf h
  simp only [encB]
  congr 1
  rw [UInt8.toNat_ofNat']
  omega

section
variable {H : Type} {enc : TypeId × Value → H} {P : Program} {w : World} {base : Nat} {held : Bool} {sp : Nat → Bool} {r : Reach} {b0 : Nat} {t e : TypeId} {v : Value} {d : DataW H} {ps : List MemPlace}

theorem open_bytes (ht : P.underlying t = some (.slice e)) (he : P.underlying e = some (.int .u8)) (hc : P.cellsOf e = 1) (hval : Value.okWide P w r b0 t v) (hd : DataW.Trod enc P w base sp held t v d ps) : ∃ l : List UInt8, BS w (old w) v l := by
  obtain ⟨A, n, c, rfl⟩ := okWide_slice ht hval
  obtain ⟨fuel, hf⟩ := hd
  rcases open_ints ht he hc hf with ⟨h1, _⟩ | ⟨a, len, cap, zs, h1, _, hl, hm, hz, _, hcell, hw⟩
  · simp only [Value.cells, List.cons.injEq, Value.slice.injEq, and_true] at h1
    obtain ⟨rfl, rfl, rfl⟩ := h1
    exact ⟨[], by decide, rfl, none, 0, rfl, Nat.le_refl _, .inl rfl⟩
  · simp only [Value.cells, List.cons.injEq, Value.slice.injEq, and_true] at h1
    obtain ⟨rfl, rfl, rfl⟩ := h1
    obtain ⟨h2, h3⟩ := slice_has ht hval
    have hle : n ≤ zs.length := by rw [hz]; split <;> omega
    refine ⟨(zs.take n).map fun z => UInt8.ofNat z.toNat, ?_⟩
    have hln : ((zs.take n).map fun z => UInt8.ofNat z.toNat).length = n := by simp; omega
    refine ⟨by rw [hln]; unfold maxLen at hm; omega, by rw [encBs_len, Nat.mul_one], some a, c, by rw [hln], by rw [hln]; exact hl, .inr ⟨a.block, a.off, by cases a; simp only at h2; rw [h2], h3, h3, ?_⟩⟩
    intro j u hj
    rw [encBs, List.map_map, List.getElem?_map] at hj
    cases hq : (zs.take n)[j]? with
    | none => rw [hq] at hj; cases hj
    | some z =>
      rw [hq, Option.map_some] at hj
      injection hj with hj
      subst hj
      have hjz : zs[j]? = some z := by
        rw [List.getElem?_take] at hq
        split at hq
        · exact hq
        · cases hq
      have hlt := (List.getElem?_eq_some_iff.1 hjz).1
      have h4 := hcell j hlt
      rw [cell_add a h2, List.getD_eq_getElem?_getD, hjz, Option.getD_some] at h4
      rw [h4]
      exact congrArg some (encB_of (hw z (List.mem_of_getElem? hjz))).symm

theorem open_bits (ht : P.underlying t = some (.slice e)) (he : P.underlying e = some .bool) (hc : P.cellsOf e = 1) (hval : Value.okWide P w r b0 t v) (hd : DataW.Trod enc P w base (fun _ => true) held t v d ps) : ∃ l : List Bool, Sl w (old w) v 1 l.length (encBools l) := by
  obtain ⟨A, n, c, rfl⟩ := okWide_slice ht hval
  obtain ⟨fuel, hf⟩ := hd
  rcases open_bools ht he hc hf with ⟨h1, _⟩ | ⟨a, len, cap, B, h1, _, hl, hm, _, hcell⟩
  · simp only [Value.cells, List.cons.injEq, Value.slice.injEq, and_true] at h1
    obtain ⟨rfl, rfl, rfl⟩ := h1
    exact ⟨[], by decide, rfl, none, 0, rfl, Nat.le_refl _, .inl rfl⟩
  · simp only [Value.cells, List.cons.injEq, Value.slice.injEq, and_true] at h1
    obtain ⟨rfl, rfl, rfl⟩ := h1
    obtain ⟨h2, h3⟩ := slice_has ht hval
    have hln : ((List.range n).map B).length = n := by simp
    refine ⟨(List.range n).map B, by rw [hln]; unfold maxLen at hm; omega, by simp [encBools], some a, c, by rw [hln], by rw [hln]; exact hl, .inr ⟨a.block, a.off, by cases a; simp only at h2; rw [h2], h3, h3, ?_⟩⟩
    intro j u hj
    simp only [encBools, List.map_map, List.getElem?_map] at hj
    cases hq : (List.range n)[j]? with
    | none => rw [hq] at hj; cases hj
    | some z =>
      rw [hq, Option.map_some] at hj
      injection hj with hj
      subst hj
      obtain ⟨hlt, hz⟩ := List.getElem?_eq_some_iff.1 hq
      simp only [List.length_range] at hlt
      simp only [List.getElem_range] at hz
      subst hz
      have h4 := hcell j (by omega)
      rw [cell_add a h2] at h4
      exact h4
end

/-! ### The row's end: what the arguments read as stands in old blocks. -/
section
variable {H : Type} {enc : TypeId × Value → H} {P : Program}

theorem trodAll_stays (hl : laidOutB P = true) {W W' : World} {sp : Nat → Bool} (hb : Below W.heap.size W W') :
    ∀ {ts : List TypeId} {vs : List Value} {ds : List (DataW H)} {p : List MemPlace}, ts.all (fun t => P.readableRec t && decide (t < P.types.size)) = true → (∀ x ∈ p, x.block < W.heap.size) → (∀ x ∈ p, sp x.block = true) →
      DataW.TrodAll enc P W 0 (fun _ => true) true ts vs ds p → DataW.TrodAll enc P W' 0 sp true ts vs ds p
  | [], [], [], _, _, _, _, h => h
  | t :: ts, v :: vs, d :: ds, p, ht, hlt, hsp, h => by
    obtain ⟨a, b, h1, h2, rfl⟩ := h
    simp only [List.all_cons, Bool.and_eq_true, decide_eq_true_eq] at ht
    exact ⟨a, b, WideElems.Trod_stays hl ht.1.1 ht.1.2 h1 (fun x hx => hb.same (hlt x (by simp [hx]))) (fun x hx => hsp x (by simp [hx])),
      trodAll_stays hl hb ht.2 (fun x hx => hlt x (by simp [hx])) (fun x hx => hsp x (by simp [hx])) h2, rfl⟩

theorem post_true {f : Func} {s : ChangeSpec} {apart fresh handsOn again : Bool} {W W' : World} {args : Array Value} {ds gs : List (DataW H)} {before : List MemPlace} {tb : TypeId}
    (hl : laidOutB P = true) (hts : f.params.toList.all (fun t => P.readableRec t && decide (t < P.types.size)) = true) (hr : f.resultTypes = #[tb]) (htb : P.underlying tb = some .bool)
    (hW : DataW.Whole enc P f.params.toList s.vars apart W args.toList ds gs before) (hv : s.vars = []) (hs : (s.fn H (ds ++ gs)).results = [.lit (.bool true)]) (ha : (s.fn H (ds ++ gs)).args = ds) (hg : (s.fn H (ds ++ gs)).vars = [])
    (hb : Below W.heap.size W W') : s.post enc P f apart fresh handsOn again W args (.bool true) W' := by
  have hlt := hW.lt
  have hW0 := hW
  obtain ⟨p, q, hA, hV, rfl, hz, hn⟩ := hW
  rw [hv] at hV
  obtain ⟨rfl, rfl⟩ := trodVars_none hV
  rw [List.append_nil] at hlt hz hn
  have hlt' : ∀ x ∈ p, x.block < W.heap.size := fun x hx => by simpa using hlt x hx
  have hres : ∀ (b : Nat) (sp : Nat → Bool) (hd : Bool), DataW.TrodAll enc P W' b sp hd f.resultTypes.toList ((Value.bool true).resultList f.resultTypes.size) (s.fn H (ds ++ [])).results [] := by
    intro b sp hd
    rw [hs, hr]
    exact trodAll_cons_mk (shut_bool htb true) trodAll_mk0
  have hargs : ∀ sp : Nat → Bool, (∀ x ∈ p, sp x.block = true) → DataW.TrodAll enc P W' 0 sp true f.params.toList args.toList (s.fn H (ds ++ [])).args p := fun sp hsp => by
    rw [ha]
    exact trodAll_stays hl hb hts hlt' hsp hA
  have hvars : ∀ sp : Nat → Bool, DataW.TrodVars enc P W' sp s.vars (s.fn H (ds ++ [])).vars [] := fun sp => by
    rw [hg, hv]
    rfl
  refine ⟨ds, [], p ++ [], [], p, [], hW0, hres _ _ _, hargs _ (fun x hx => by simpa using hlt x hx), hvars _, hb.frame _, fun _ => ?_⟩
  refine ⟨ok_one hr rfl (okWide_bool_mk htb true), _, _, ([] ++ p) ++ [], ⟨[] ++ p, [], trodAll_append (hargs _ (fun _ _ => rfl)) (hres _ _ _), hvars _, rfl, ?_, ?_⟩, ?_⟩
  · intro b off hp
    have hp' : MemPlace.cell b off ∈ p := by simpa using hp
    have h1 := hz b off hp'
    rw [hb.frozen (p := ⟨b, off, none⟩) (hlt' _ hp')]
    exact h1
  · intro h
    simpa using hn h
  · intro x hx _
    simpa using hx
end
end Go.Proofs.YtoefhdaenaiomaaDoor
