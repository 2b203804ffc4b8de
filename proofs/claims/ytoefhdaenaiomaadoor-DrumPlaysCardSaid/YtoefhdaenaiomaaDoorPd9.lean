/- The document's example. -/
import Derived.Test.YtoefhdaenaiomaaDoorPd4
import Derived.Test.YtoefhdaenaiomaaDoorPd3
import Derived.ChangeSlices
import Derived.Carry
import Derived.Deep.Grids
import Derived.OpenShut
import Derived.ProofKit
import Derived.Test.YtoefhdaenaiomaaDoorPd8
set_option linter.unusedVariables false
set_option linter.unusedSimpArgs false
namespace Go.Proofs.YtoefhdaenaiomaaDoor
open Go
set_option maxRecDepth 20000

theorem awake_eq : nowS (drFall (wrDr (drNew 8) 3 [104, 105]) [true] 1).l (drFall (wrDr (drNew 8) 3 [104, 105]) [true] 1).wait 3 = 104 :: zeros 255 := by kernel_rfl

theorem IsD.tight {w w' : World} {hb : Nat} {D : Dr} (h : IsD w' (fresh w) hb D) : IsD w' (fun j => w.heap.size ≤ j ∧ j < w'.heap.size) hb D := h.mono (fun b hb h => ⟨h, hb⟩)

theorem awake_c (w : World) : Calls Tryd.prog 23 [].toArray w (Ret fun r w' => r = .bool true ∧ Kept none0 w w') := by
  refine calls_T Tryd.func23 rfl rfl rfl ?_
  repeat (first | (with_reducible first | apply T_seq | apply T_region | apply U_nil | apply T_skip | apply T_block | apply T_inBlock | apply Cnd_t | apply Cnd_f | apply Cnd_not | apply Cnd_some | apply Cnd_none | apply Gd_nt | apply Gd_nf | apply Gd_some | apply Gd_none | apply Gd_want) | refine U_ar rfl rfl rfl (wrap_i64 (by omega)) rfl ?_ | refine U_pure E rfl rfl ?_ | refine T_exit rfl ?_ | refine T_condV rfl ?_ | refine U_guard rfl rfl ?_ | ((with_reducible refine Gd_skipT ?_ ?_); exact rfl) | ((with_reducible refine Gd_skipF ?_ ?_); exact rfl))
  have hnew := new_c w 8 (by decide)
  refine U_call rfl rfl (Tryd.call24 _) (hnew) ?_
  rintro r w1 ⟨hk1, hb, rfl, hD1⟩
  have hD1 := hD1.tight
  unfold ptr at *
  have s1 := hk1.size
  repeat (first | (with_reducible first | apply T_seq | apply T_region | apply U_nil | apply T_skip | apply T_block | apply T_inBlock | apply Cnd_t | apply Cnd_f | apply Cnd_not | apply Cnd_some | apply Cnd_none | apply Gd_nt | apply Gd_nf | apply Gd_some | apply Gd_none | apply Gd_want) | refine U_ar rfl rfl rfl (wrap_i64 (by omega)) rfl ?_ | refine U_pure E rfl rfl ?_ | refine T_exit rfl ?_ | refine T_condV rfl ?_ | refine U_guard rfl rfl ?_ | ((with_reducible refine Gd_skipT ?_ ?_); exact rfl) | ((with_reducible refine Gd_skipF ?_ ?_); exact rfl))
  refine U_buildSlice (sz := 1) E rfl rfl rfl rfl rfl rfl rfl rfl (segs := [[.int .u8 104], [.int .u8 105]]) rfl (by simp) rfl ?_
  intro b w2 hn2
  have e2 := hn2.at_
  have s2 := hn2.size
  repeat (first | (with_reducible first | apply T_seq | apply T_region | apply U_nil | apply T_skip | apply T_block | apply T_inBlock | apply Cnd_t | apply Cnd_f | apply Cnd_not | apply Cnd_some | apply Cnd_none | apply Gd_nt | apply Gd_nf | apply Gd_some | apply Gd_none | apply Gd_want) | refine U_ar rfl rfl rfl (wrap_i64 (by omega)) rfl ?_ | refine U_pure E rfl rfl ?_ | refine T_exit rfl ?_ | refine T_condV rfl ?_ | refine U_guard rfl rfl ?_ | ((with_reducible refine Gd_skipT ?_ ?_); exact rfl) | ((with_reducible refine Gd_skipF ?_ ?_); exact rfl))
  refine U_convBytes E hn2.blk rfl (by decide) rfl rfl rfl rfl ?_
  intro w3 hk3 s3 hs3
  have hk13 : Kept none0 w1 w3 := hn2.kept.tr hk3 (fun j hj (e : j = b) => by omega)
  have hD3 := hD1.mv hk13 (fun _ _ _ x => x)
  have hw := write_ok w3 _ hb (drNew 8) (fun j => j = b) (.slice (some ⟨b, 0, none⟩) 2 2) [104, 105] 3 hD3 hs3 (fun j e h => by have := h.2; omega) (by kernel_rfl) (by decide)
  unfold ptr at *
  repeat (first | (with_reducible first | apply T_seq | apply T_region | apply U_nil | apply T_skip | apply T_block | apply T_inBlock | apply Cnd_t | apply Cnd_f | apply Cnd_not | apply Cnd_some | apply Cnd_none | apply Gd_nt | apply Gd_nf | apply Gd_some | apply Gd_none | apply Gd_want) | refine U_ar rfl rfl rfl (wrap_i64 (by omega)) rfl ?_ | refine U_pure E rfl rfl ?_ | refine T_exit rfl ?_ | refine T_condV rfl ?_ | refine U_guard rfl rfl ?_ | ((with_reducible refine Gd_skipT ?_ ?_); exact rfl) | ((with_reducible refine Gd_skipF ?_ ?_); exact rfl))
  refine U_call rfl rfl (Tryd.call27 _) (hw) ?_
  rintro r w4 ⟨rfl, hk4, hD4⟩
  unfold errV
  have hk4' : Kept none0 w w4 := (hk1.tr hk13 (fun _ _ x => x)).tr hk4 (fun j hj h => by have := h.1; omega)
  repeat (first | (with_reducible first | apply T_seq | apply T_region | apply U_nil | apply T_skip | apply T_block | apply T_inBlock | apply Cnd_t | apply Cnd_f | apply Cnd_not | apply Cnd_some | apply Cnd_none | apply Gd_nt | apply Gd_nf | apply Gd_some | apply Gd_none | apply Gd_want) | refine U_ar rfl rfl rfl (wrap_i64 (by omega)) rfl ?_ | refine U_pure E rfl rfl ?_ | refine T_exit rfl ?_ | refine T_condV rfl ?_ | refine U_guard rfl rfl ?_ | ((with_reducible refine Gd_skipT ?_ ?_); exact rfl) | ((with_reducible refine Gd_skipF ?_ ?_); exact rfl))
  refine U_buildSlice (sz := 1) E rfl rfl rfl rfl rfl rfl rfl rfl (segs := [[.bool true]]) rfl (by simp) rfl ?_
  intro b5 w5 hn5
  have hf := fall_c w5 _ hb _ (fun x => x = b5) (.slice (some ⟨b5, 0, none⟩) 1 1) [true] 1 (hD4.mv hn5.kept (fun _ _ _ x => x)) ⟨by decide, rfl, _, 1, rfl, Nat.le_refl _, .inr ⟨b5, 0, rfl, rfl, hn5.blk.lt, hn5.blk.whole⟩⟩
  unfold ptr at *
  repeat (first | (with_reducible first | apply T_seq | apply T_region | apply U_nil | apply T_skip | apply T_block | apply T_inBlock | apply Cnd_t | apply Cnd_f | apply Cnd_not | apply Cnd_some | apply Cnd_none | apply Gd_nt | apply Gd_nf | apply Gd_some | apply Gd_none | apply Gd_want) | refine U_ar rfl rfl rfl (wrap_i64 (by omega)) rfl ?_ | refine U_pure E rfl rfl ?_ | refine T_exit rfl ?_ | refine T_condV rfl ?_ | refine U_guard rfl rfl ?_ | ((with_reducible refine Gd_skipT ?_ ?_); exact rfl) | ((with_reducible refine Gd_skipF ?_ ?_); exact rfl))
  refine U_call rfl rfl (Tryd.call29 _) (hf) ?_
  rintro r w6 ⟨hk6, hb6, rfl, hD6⟩
  have hr := read_c w6 _ hb6 _ 3 hD6 (by decide)
  unfold ptr at *
  repeat (first | (with_reducible first | apply T_seq | apply T_region | apply U_nil | apply T_skip | apply T_block | apply T_inBlock | apply Cnd_t | apply Cnd_f | apply Cnd_not | apply Cnd_some | apply Cnd_none | apply Gd_nt | apply Gd_nf | apply Gd_some | apply Gd_none | apply Gd_want) | refine U_ar rfl rfl rfl (wrap_i64 (by omega)) rfl ?_ | refine U_pure E rfl rfl ?_ | refine T_exit rfl ?_ | refine T_condV rfl ?_ | refine U_guard rfl rfl ?_ | ((with_reducible refine Gd_skipT ?_ ?_); exact rfl) | ((with_reducible refine Gd_skipF ?_ ?_); exact rfl))
  refine U_call rfl rfl (Tryd.call36 _) (hr) ?_
  rintro r w7 ⟨b7, rfl, hb7, hblk, hk7⟩
  rw [awake_eq] at hblk
  have hbs : BS w7 (fun _ => True) (.slice (some ⟨b7, 0, none⟩) 256 256) (104 :: zeros 255) := blk_bs hblk (by simp [zeros_len]) trivial
  unfold BS at hbs
  rw [show (104 :: zeros 255 : List UInt8).length = 256 by simp [zeros_len]] at hbs
  have hk7' : Kept none0 w w7 := ((hk4'.tr hn5.kept (fun _ _ x => x)).tr hk6 (fun _ _ x => x)).tr hk7 (fun _ _ x => x)
  repeat (first | (with_reducible first | apply T_seq | apply T_region | apply U_nil | apply T_skip | apply T_block | apply T_inBlock | apply Cnd_t | apply Cnd_f | apply Cnd_not | apply Cnd_some | apply Cnd_none | apply Gd_nt | apply Gd_nf | apply Gd_some | apply Gd_none | apply Gd_want) | refine U_ar rfl rfl rfl (wrap_i64 (by omega)) rfl ?_ | refine U_pure E rfl rfl ?_ | refine T_exit rfl ?_ | refine T_condV rfl ?_ | refine U_guard rfl rfl ?_ | ((with_reducible refine Gd_skipT ?_ ?_); exact rfl) | ((with_reducible refine Gd_skipF ?_ ?_); exact rfl))
  refine Gd_p (fun h1 => ?_) (fun h1 => ?_)
  · repeat (first | (with_reducible first | apply T_seq | apply T_region | apply U_nil | apply T_skip | apply T_block | apply T_inBlock | apply Cnd_t | apply Cnd_f | apply Cnd_not | apply Cnd_some | apply Cnd_none | apply Gd_nt | apply Gd_nf | apply Gd_some | apply Gd_none | apply Gd_want) | refine U_ar rfl rfl rfl (wrap_i64 (by omega)) rfl ?_ | refine U_pure E rfl rfl ?_ | refine T_exit rfl ?_ | refine T_condV rfl ?_ | refine U_guard rfl rfl ?_ | ((with_reducible refine Gd_skipT ?_ ?_); exact rfl) | ((with_reducible refine Gd_skipF ?_ ?_); exact rfl))
    refine U_idx E (hbs) rfl rfl rfl rfl (by omega) (by omega) ((show (encBs (104 :: zeros 255))[(0 : Int).toNat]? = some (.int .u8 104) from rfl)) rfl (fun p hp => ?_)
    repeat (first | (with_reducible first | apply T_seq | apply T_region | apply U_nil | apply T_skip | apply T_block | apply T_inBlock | apply Cnd_t | apply Cnd_f | apply Cnd_not | apply Cnd_some | apply Cnd_none | apply Gd_nt | apply Gd_nf | apply Gd_some | apply Gd_none | apply Gd_want) | refine U_ar rfl rfl rfl (wrap_i64 (by omega)) rfl ?_ | refine U_pure E rfl rfl ?_ | refine T_exit rfl ?_ | refine T_condV rfl ?_ | refine U_guard rfl rfl ?_ | ((with_reducible refine Gd_skipT ?_ ?_); exact rfl) | ((with_reducible refine Gd_skipF ?_ ?_); exact rfl))
    refine U_load E rfl rfl rfl hp rfl ?_
    repeat (first | (with_reducible first | apply T_seq | apply T_region | apply U_nil | apply T_skip | apply T_block | apply T_inBlock | apply Cnd_t | apply Cnd_f | apply Cnd_not | apply Cnd_some | apply Cnd_none | apply Gd_nt | apply Gd_nf | apply Gd_some | apply Gd_none | apply Gd_want) | refine U_ar rfl rfl rfl (wrap_i64 (by omega)) rfl ?_ | refine U_pure E rfl rfl ?_ | refine T_exit rfl ?_ | refine T_condV rfl ?_ | refine U_guard rfl rfl ?_ | ((with_reducible refine Gd_skipT ?_ ?_); exact rfl) | ((with_reducible refine Gd_skipF ?_ ?_); exact rfl))
    refine Gd_p (fun h2 => ?_) (fun h2 => ?_)
    · repeat (first | (with_reducible first | apply T_seq | apply T_region | apply U_nil | apply T_skip | apply T_block | apply T_inBlock | apply Cnd_t | apply Cnd_f | apply Cnd_not | apply Cnd_some | apply Cnd_none | apply Gd_nt | apply Gd_nf | apply Gd_some | apply Gd_none | apply Gd_want) | refine U_ar rfl rfl rfl (wrap_i64 (by omega)) rfl ?_ | refine U_pure E rfl rfl ?_ | refine T_exit rfl ?_ | refine T_condV rfl ?_ | refine U_guard rfl rfl ?_ | ((with_reducible refine Gd_skipT ?_ ?_); exact rfl) | ((with_reducible refine Gd_skipF ?_ ?_); exact rfl))
      refine U_idx E (hbs) rfl rfl rfl rfl (by omega) (by omega) ((show (encBs (104 :: zeros 255))[(1 : Int).toNat]? = some (.int .u8 0) from rfl)) rfl (fun q hq => ?_)
      repeat (first | (with_reducible first | apply T_seq | apply T_region | apply U_nil | apply T_skip | apply T_block | apply T_inBlock | apply Cnd_t | apply Cnd_f | apply Cnd_not | apply Cnd_some | apply Cnd_none | apply Gd_nt | apply Gd_nf | apply Gd_some | apply Gd_none | apply Gd_want) | refine U_ar rfl rfl rfl (wrap_i64 (by omega)) rfl ?_ | refine U_pure E rfl rfl ?_ | refine T_exit rfl ?_ | refine T_condV rfl ?_ | refine U_guard rfl rfl ?_ | ((with_reducible refine Gd_skipT ?_ ?_); exact rfl) | ((with_reducible refine Gd_skipF ?_ ?_); exact rfl))
      refine U_load E rfl rfl rfl hq rfl ?_
      repeat (first | (with_reducible first | apply T_seq | apply T_region | apply U_nil | apply T_skip | apply T_block | apply T_inBlock | apply Cnd_t | apply Cnd_f | apply Cnd_not | apply Cnd_some | apply Cnd_none | apply Gd_nt | apply Gd_nf | apply Gd_some | apply Gd_none | apply Gd_want) | refine U_ar rfl rfl rfl (wrap_i64 (by omega)) rfl ?_ | refine U_pure E rfl rfl ?_ | refine T_exit rfl ?_ | refine T_condV rfl ?_ | refine U_guard rfl rfl ?_ | ((with_reducible refine Gd_skipT ?_ ?_); exact rfl) | ((with_reducible refine Gd_skipF ?_ ?_); exact rfl))
      exact T_ret1 Tryd.func23 rfl rfl ⟨_, rfl, rfl, hk7'⟩
    · exact absurd rfl h2
  · exact absurd rfl h1
end Go.Proofs.YtoefhdaenaiomaaDoor

/- A row's arguments, opened: byte and bool slices. -/
namespace Go.Proofs.YtoefhdaenaiomaaDoor
open Go Go.ChangeShapes Go.WideShapes Go.RowKit Go.Deep
set_option maxRecDepth 20000

/-- Any old block. -/
def old (w : World) : Nat → Prop := fun b => b < w.heap.size

theorem has_lt {P : Program} {w : World} {r : Reach} {b0 : Nat} {a : Addr} {e : TypeId} {n : Nat} (h : w.has P r b0 a e n) : a.spot = none ∧ a.block < w.heap.size := by
  obtain ⟨_, h1, row, cells, h2, _⟩ := h
  refine ⟨h1, ?_⟩
  rcases Nat.lt_or_ge a.block w.heap.size with h | h
  · exact h
  · simp [World.shape?, Array.getElem?_eq_none h] at h2

theorem slice_has {P : Program} {w : World} {r : Reach} {b0 : Nat} {t e : TypeId} {a : Addr} {len cap : Nat} (ht : P.underlying t = some (.slice e)) (h : Value.okWide P w r b0 t (.slice (some a) len cap)) : a.spot = none ∧ a.block < w.heap.size := by
  simp only [Value.okWide, ht, Cell.okWide, Cell.ok] at h
  exact has_lt h.2.2

theorem cell_add (a : Addr) (h : a.spot = none) (i : Nat) : a.add i = ⟨a.block, a.off + i, none⟩ := by
  cases a with
  | mk b o s => simp only at h; subst h; exact addr_add b o i

theorem u8_wf {z : Int} (h : (Lit.int .u8 z).wf = true) : 0 ≤ z ∧ z < 256 := by
  simp [Lit.wf, IntKind.min, IntKind.max, IntKind.signed, IntKind.bits] at h
  omega
theorem encB_of {z : Int} (h : (Lit.int .u8 z).wf = true) : encB (UInt8.ofNat z.toNat) = .int .u8 z := by
  have := u8_wf h
  simp only [encB]
  congr 1
  rw [UInt8.toNat_ofNat']
  omega

section
variable {H : Type} {enc : TypeId × Value → H} {P : Program} {w : World} {base : Nat} {held : Bool} {sp : Nat → Bool} {r : Reach} {b0 : Nat} {t e : TypeId} {v : Value} {d : DataW H} {ps : List MemPlace}

theorem open_bytes (ht : P.underlying t = some (.slice e)) (he : P.underlying e = some (.int .u8)) (hc : P.cellsOf e = 1) (hval : Value.okWide P w r b0 t v) (hd : DataW.Trod enc P w base sp held t v d ps) : ∃ l : List UInt8, BS w (old w) v l := by
  obtain ⟨A, n, c, rfl⟩ := okWide_slice ht hval
  obtain ⟨fuel, hf⟩ := hd
  rcases open_ints ht he hc hf with ⟨h1, _⟩ | ⟨a, len, cap, zs, h1, _, hl, hm, hz, _, hcell, hw⟩
  · simp only [Value.cells, List.cons.injEq, Value.slice.injEq, and_true] at h1
    obtain ⟨rfl, rfl, rfl⟩ := h1
    exact ⟨[], by decide, rfl, none, 0, rfl, Nat.le_refl _, .inl rfl⟩
  · simp only [Value.cells, List.cons.injEq, Value.slice.injEq, and_true] at h1
    obtain ⟨rfl, rfl, rfl⟩ := h1
    obtain ⟨h2, h3⟩ := slice_has ht hval
    have hle : n ≤ zs.length := by rw [hz]; split <;> omega
    refine ⟨(zs.take n).map fun z => UInt8.ofNat z.toNat, ?_⟩
    have hln : ((zs.take n).map fun z => UInt8.ofNat z.toNat).length = n := by simp; omega
    refine ⟨by rw [hln]; unfold maxLen at hm; omega, by rw [encBs_len, Nat.mul_one], some a, c, by rw [hln], by rw [hln]; exact hl, .inr ⟨a.block, a.off, by cases a; simp only at h2; rw [h2], h3, h3, ?_⟩⟩
    intro j u hj
    rw [encBs, List.map_map, List.getElem?_map] at hj
    cases hq : (zs.take n)[j]? with
    | none => rw [hq] at hj; cases hj
    | some z =>
      rw [hq, Option.map_some] at hj
      injection hj with hj
      subst hj
      have hjz : zs[j]? = some z := by
        rw [List.getElem?_take] at hq
        split at hq
        · exact hq
        · cases hq
      have hlt := (List.getElem?_eq_some_iff.1 hjz).1
      have h4 := hcell j hlt
      rw [cell_add a h2, List.getD_eq_getElem?_getD, hjz, Option.getD_some] at h4
      rw [h4]
      exact congrArg some (encB_of (hw z (List.mem_of_getElem? hjz))).symm

theorem open_bits (ht : P.underlying t = some (.slice e)) (he : P.underlying e = some .bool) (hc : P.cellsOf e = 1) (hval : Value.okWide P w r b0 t v) (hd : DataW.Trod enc P w base (fun _ => true) held t v d ps) : ∃ l : List Bool, Sl w (old w) v 1 l.length (encBools l) := by
  obtain ⟨A, n, c, rfl⟩ := okWide_slice ht hval
  obtain ⟨fuel, hf⟩ := hd
  rcases open_bools ht he hc hf with ⟨h1, _⟩ | ⟨a, len, cap, B, h1, _, hl, hm, _, hcell⟩
  · simp only [Value.cells, List.cons.injEq, Value.slice.injEq, and_true] at h1
    obtain ⟨rfl, rfl, rfl⟩ := h1
    exact ⟨[], by decide, rfl, none, 0, rfl, Nat.le_refl _, .inl rfl⟩
  · simp only [Value.cells, List.cons.injEq, Value.slice.injEq, and_true] at h1
    obtain ⟨rfl, rfl, rfl⟩ := h1
    obtain ⟨h2, h3⟩ := slice_has ht hval
    have hln : ((List.range n).map B).length = n := by simp
    refine ⟨(List.range n).map B, by rw [hln]; unfold maxLen at hm; omega, by simp [encBools], some a, c, by rw [hln], by rw [hln]; exact hl, .inr ⟨a.block, a.off, by cases a; simp only at h2; rw [h2], h3, h3, ?_⟩⟩
    intro j u hj
    simp only [encBools, List.map_map, List.getElem?_map] at hj
    cases hq : (List.range n)[j]? with
    | none => rw [hq] at hj; cases hj
    | some z =>
      rw [hq, Option.map_some] at hj
      injection hj with hj
      subst hj
      obtain ⟨hlt, hz⟩ := List.getElem?_eq_some_iff.1 hq
      simp only [List.length_range] at hlt
      simp only [List.getElem_range] at hz
      subst hz
      have h4 := hcell j (by omega)
      rw [cell_add a h2] at h4
      exact h4
end

/-! ### The row's end: what the arguments read as stands in old blocks. -/
section
variable {H : Type} {enc : TypeId × Value → H} {P : Program}

theorem trodAll_stays (hl : laidOutB P = true) {W W' : World} {sp : Nat → Bool} (hb : Below W.heap.size W W') :
    ∀ {ts : List TypeId} {vs : List Value} {ds : List (DataW H)} {p : List MemPlace}, ts.all (fun t => P.readableRec t && decide (t < P.types.size)) = true → (∀ x ∈ p, x.block < W.heap.size) → (∀ x ∈ p, sp x.block = true) →
      DataW.TrodAll enc P W 0 (fun _ => true) true ts vs ds p → DataW.TrodAll enc P W' 0 sp true ts vs ds p
  | [], [], [], _, _, _, _, h => h
  | t :: ts, v :: vs, d :: ds, p, ht, hlt, hsp, h => by
    obtain ⟨a, b, h1, h2, rfl⟩ := h
    simp only [List.all_cons, Bool.and_eq_true, decide_eq_true_eq] at ht
    exact ⟨a, b, WideElems.Trod_stays hl ht.1.1 ht.1.2 h1 (fun x hx => hb.same (hlt x (by simp [hx]))) (fun x hx => hsp x (by simp [hx])),
      trodAll_stays hl hb ht.2 (fun x hx => hlt x (by simp [hx])) (fun x hx => hsp x (by simp [hx])) h2, rfl⟩

theorem post_true {f : Func} {s : ChangeSpec} {apart fresh handsOn again : Bool} {W W' : World} {args : Array Value} {ds gs : List (DataW H)} {before : List MemPlace} {tb : TypeId}
    (hl : laidOutB P = true) (hts : f.params.toList.all (fun t => P.readableRec t && decide (t < P.types.size)) = true) (hr : f.resultTypes = #[tb]) (htb : P.underlying tb = some .bool)
    (hW : DataW.Whole enc P f.params.toList s.vars apart W args.toList ds gs before) (hv : s.vars = []) (hs : (s.fn H (ds ++ gs)).results = [.lit (.bool true)]) (ha : (s.fn H (ds ++ gs)).args = ds) (hg : (s.fn H (ds ++ gs)).vars = [])
    (hb : Below W.heap.size W W') : s.post enc P f apart fresh handsOn again W args (.bool true) W' := by
  have hlt := hW.lt
  have hW0 := hW
  obtain ⟨p, q, hA, hV, rfl, hz, hn⟩ := hW
  rw [hv] at hV
  obtain ⟨rfl, rfl⟩ := trodVars_none hV
  rw [List.append_nil] at hlt hz hn
  have hlt' : ∀ x ∈ p, x.block < W.heap.size := fun x hx => by simpa using hlt x hx
  have hres : ∀ (b : Nat) (sp : Nat → Bool) (hd : Bool), DataW.TrodAll enc P W' b sp hd f.resultTypes.toList ((Value.bool true).resultList f.resultTypes.size) (s.fn H (ds ++ [])).results [] := by
    intro b sp hd
    rw [hs, hr]
    exact trodAll_cons_mk (shut_bool htb true) trodAll_mk0
  have hargs : ∀ sp : Nat → Bool, (∀ x ∈ p, sp x.block = true) → DataW.TrodAll enc P W' 0 sp true f.params.toList args.toList (s.fn H (ds ++ [])).args p := fun sp hsp => by
    rw [ha]
    exact trodAll_stays hl hb hts hlt' hsp hA
  have hvars : ∀ sp : Nat → Bool, DataW.TrodVars enc P W' sp s.vars (s.fn H (ds ++ [])).vars [] := fun sp => by
    rw [hg, hv]
    rfl
  refine ⟨ds, [], p ++ [], [], p, [], hW0, hres _ _ _, hargs _ (fun x hx => by simpa using hlt x hx), hvars _, hb.frame _, fun _ => ?_⟩
  refine ⟨ok_one hr rfl (okWide_bool_mk htb true), _, _, ([] ++ p) ++ [], ⟨[] ++ p, [], trodAll_append (hargs _ (fun _ _ => rfl)) (hres _ _ _), hvars _, rfl, ?_, ?_⟩, ?_⟩
  · intro b off hp
    have hp' : MemPlace.cell b off ∈ p := by simpa using hp
    have h1 := hz b off hp'
    rw [hb.frozen (p := ⟨b, off, none⟩) (hlt' _ hp')]
    exact h1
  · intro h
    simpa using hn h
  · intro x hx _
    simpa using hx
end
end Go.Proofs.YtoefhdaenaiomaaDoor

/- Writes that go well; what comes behind a test. -/
namespace Go.Proofs.YtoefhdaenaiomaaDoor
open Go
set_option maxRecDepth 20000

section
variable {P : Program} {f : FuncId} {R : Ending → World → Prop} {n : Nat} {k : List Item} {m : Fm} {w : World}
/-- What comes behind a piece of code is walked once. -/
theorem T_via {α : Type} {it : Item} (fm : α → Fm) (X : α → World → Prop) (fin : ∀ x w', X x w' → T P f R n k (fm x) w') (h : (∀ x w', X x w' → T P f R n k (fm x) w') → T P f R n (it :: k) m w) : T P f R n (it :: k) m w := h fin
end

theorem old_fresh {w w' : World} (h : w.heap.size ≤ w'.heap.size) : ∀ b, b < w'.heap.size → old w b → ¬ fresh w b := fun b _ h1 h2 => by simp only [old, fresh] at *; omega

theorem wr_eq (l : List (List UInt8)) (ws : List (Nat × List UInt8)) (i : Nat) (p : List UInt8) (hi : i < l.length) (hp : p.length ≤ 256) : wrErr ⟨l, ws, -1⟩ i p = 0 ∧ wrDr ⟨l, ws, -1⟩ i p = ⟨l, ws ++ [(i, sec p)], -1⟩ := by
  have h : wrErr ⟨l, ws, -1⟩ i p = 0 := by
    rw [wrErr, if_pos (by dsimp only; omega), if_neg (by omega), if_neg (by dsimp only; omega)]
  refine ⟨h, ?_⟩
  rw [wrDr, if_pos h]
  rfl

/-- A write that goes well. -/
theorem wr_c (w0 w : World) (hb : Nat) (l : List (List UInt8)) (ws : List (Nat × List UInt8)) (v : Value) (p : List UInt8) (i : Int) (j : Nat) (e : i = j) (h0 : w0.heap.size ≤ w.heap.size) (h : IsD w (fresh w0) hb ⟨l, ws, -1⟩) (hp : BS w (old w0) v p) (hi : j < l.length) (hl : p.length ≤ 256) (hwn : ws.length < 1000000) :
    Calls Tryd.prog 27 [ptr hb, .int .i64 i, v].toArray w (Ret fun r w' => r = errV 0 ∧ Kept (fresh w0) w w' ∧ IsD w' (fresh w0) hb ⟨l, ws ++ [(j, sec p)], -1⟩) := by
  subst e
  obtain ⟨h1, h2⟩ := wr_eq l ws j p hi hl
  refine (write_ok w (fresh w0) hb _ (old w0) v p j h hp (fun b h1 h2 => by simp only [old, fresh] at *; omega) h1 hwn).mono ?_
  rintro e w' ⟨r, rfl, rfl, hk, hD⟩
  rw [h2] at hD
  exact ⟨_, rfl, rfl, hk, hD.mono (fun b _ h => h.elim (fun x => x) (fun x => Nat.le_trans h0 x))⟩

end Go.Proofs.YtoefhdaenaiomaaDoor

/- The document's drum: bits are turned; the walk. -/
namespace Go.Proofs.YtoefhdaenaiomaaDoor
open Go
set_option maxRecDepth 20000

/-- All sectors as they are flushed. -/
def XS.safes (X : XS) : List (List UInt8) := cpL X X.first.length
theorem XS.safes_get (X : XS) (j : Nat) (h : j < X.first.length) : X.safes[j]? = some (X.safe j) := by rw [XS.safes, cpL_get X _ j h, if_pos h]
theorem own_pos {w : World} {F : Nat → Prop} {v : Value} {l : List UInt8} (h : BR w F v l) : ∀ b, v.ownBlock = some b → b < w.heap.size := fun b e => (h.own b e).2

set_option maxHeartbeats 16000000 in
theorem xturned_c {w : World} {G : Nat → Prop} {xb : Nat} {vf vd : Value} {X : XS} (h : XM w G xb vf vd X) (a : XAct) (A N : Nat) (hA : a.at_ = A) (hAl : A < X.first.length) (hN : a.n = N) (hN2 : N < 2048) (hm : a.mask < 4294967296) (h256 : ∀ i, i < X.first.length → (X.safe i).length = 256) :
    Calls Tryd.prog 77 [ptr xb, .agg a.cells.toArray].toArray w (Ret fun r w' => r = .tuple #[] ∧ Kept (fun b => b = xb) w w' ∧ ∃ vf' vd' s', TurnedTo (X.safe A) s' N 32 a.mask ∧ XM w' (fun b => G b ∨ w.heap.size ≤ b) xb vf' vd' ⟨X.safes.set A s', wts X.deeds, X.left⟩) := by
  have hX := h
  have hlen := h.len
  have hB := h.blk
  obtain ⟨fs0, f01, f02, f03⟩ := h.fst
  obtain ⟨B0, cb0, rfl⟩ := f02.val
  obtain ⟨nn, hnn⟩ : ∃ nn, X.first.length = nn := ⟨_, rfl⟩
  have hfsn : fs0.length = nn := by omega
  refine calls_T Tryd.func77 rfl rfl rfl ?_
  refine T_seq ?_
  refine T_region ?_
  refine U_box E rfl rfl rfl ?_
  intro ba w1 hn1
  have eb1 := hn1.at_
  have hba1 : Blk w1 ba a.cells 49 := hn1.blk
  have hX1 := hX.same hn1.kept
  have hwt := waits_c hX1
  unfold ptr at *
  repeat (first | (with_reducible first | apply T_seq | apply T_region | apply U_nil | apply T_skip | apply T_block | apply T_inBlock | apply Cnd_t | apply Cnd_f | apply Cnd_not | apply Cnd_some | apply Cnd_none | apply Gd_nt | apply Gd_nf | apply Gd_some | apply Gd_none | apply Gd_want) | refine U_ar rfl rfl rfl (wrap_k (by simp only [wrapOk]; omega)) rfl ?_ | refine U_cv E rfl rfl rfl (wrap_k (by simp only [wrapOk]; omega)) rfl ?_ | refine U_pure E rfl rfl ?_ | refine T_exit rfl ?_ | refine T_condV rfl ?_ | refine U_guard rfl rfl ?_ | ((with_reducible refine Gd_skipT ?_ ?_); exact rfl) | ((with_reducible refine Gd_skipF ?_ ?_); exact rfl))
  refine U_call rfl rfl (Tryd.call76 _) (hwt) ?_
  rintro vw w2 ⟨k2, hW2⟩
  have k02 : Kept none0 w w2 := hn1.kept.tr k2 (fun _ _ x => x)
  have hB2 := hB.mv k02 (fun x => x)
  have s1 := hn1.size
  have s2 := k2.size
  repeat (first | (with_reducible first | apply T_seq | apply T_region | apply U_nil | apply T_skip | apply T_block | apply T_inBlock | apply Cnd_t | apply Cnd_f | apply Cnd_not | apply Cnd_some | apply Cnd_none | apply Gd_nt | apply Gd_nf | apply Gd_some | apply Gd_none | apply Gd_want) | refine U_ar rfl rfl rfl (wrap_k (by simp only [wrapOk]; omega)) rfl ?_ | refine U_cv E rfl rfl rfl (wrap_k (by simp only [wrapOk]; omega)) rfl ?_ | refine U_pure E rfl rfl ?_ | refine T_exit rfl ?_ | refine T_condV rfl ?_ | refine U_guard rfl rfl ?_ | ((with_reducible refine Gd_skipT ?_ ?_); exact rfl) | ((with_reducible refine Gd_skipF ?_ ?_); exact rfl))
  refine U_loadB E hB2 rfl rfl rfl rfl rfl ?_
  repeat (first | (with_reducible first | apply T_seq | apply T_region | apply U_nil | apply T_skip | apply T_block | apply T_inBlock | apply Cnd_t | apply Cnd_f | apply Cnd_not | apply Cnd_some | apply Cnd_none | apply Gd_nt | apply Gd_nf | apply Gd_some | apply Gd_none | apply Gd_want) | refine U_ar rfl rfl rfl (wrap_k (by simp only [wrapOk]; omega)) rfl ?_ | refine U_cv E rfl rfl rfl (wrap_k (by simp only [wrapOk]; omega)) rfl ?_ | refine U_pure E rfl rfl ?_ | refine T_exit rfl ?_ | refine T_condV rfl ?_ | refine U_guard rfl rfl ?_ | ((with_reducible refine Gd_skipT ?_ ?_); exact rfl) | ((with_reducible refine Gd_skipF ?_ ?_); exact rfl))
  have hnw := xnew_c w2 nn (by omega)
  rw [← hfsn] at hnw
  refine U_call rfl rfl (Tryd.call31 _) (hnw) ?_
  rintro r w3 ⟨k3, yb, vy, rfl, hY⟩
  have hyw := hY.mem
  obtain ⟨fs, hC3⟩ := Cpy.start (w0 := w2) (G := G) (A := A) (X := X) k3 (by rw [hnn, ← hfsn]; exact hY)
  have hyl := hC3.blk.lt
  have hsl3 := hC3.fsj
  obtain ⟨Ay, cy, hvy⟩ := hsl3.2.1.val
  have hfsl : fs.length = nn := by rw [hsl3.1, cpL_len, hnn]
  subst hvy
  unfold ptr at *
  repeat (first | (with_reducible first | apply T_seq | apply T_region | apply U_nil | apply T_skip | apply T_block | apply T_inBlock | apply Cnd_t | apply Cnd_f | apply Cnd_not | apply Cnd_some | apply Cnd_none | apply Gd_nt | apply Gd_nf | apply Gd_some | apply Gd_none | apply Gd_want) | refine U_ar rfl rfl rfl (wrap_k (by simp only [wrapOk]; omega)) rfl ?_ | refine U_cv E rfl rfl rfl (wrap_k (by simp only [wrapOk]; omega)) rfl ?_ | refine U_pure E rfl rfl ?_ | refine T_exit rfl ?_ | refine T_condV rfl ?_ | refine U_guard rfl rfl ?_ | ((with_reducible refine Gd_skipT ?_ ?_); exact rfl) | ((with_reducible refine Gd_skipF ?_ ?_); exact rfl))
  refine U_loadB E hC3.blk rfl rfl rfl rfl rfl ?_
  repeat (first | (with_reducible first | apply T_seq | apply T_region | apply U_nil | apply T_skip | apply T_inBlock | apply Cnd_t | apply Cnd_f | apply Cnd_not | apply Cnd_some | apply Cnd_none | apply Gd_nt | apply Gd_nf | apply Gd_some | apply Gd_none | apply Gd_want) | refine U_ar rfl rfl rfl (wrap_k (by simp only [wrapOk]; omega)) rfl ?_ | refine U_cv E rfl rfl rfl (wrap_k (by simp only [wrapOk]; omega)) rfl ?_ | refine U_pure E rfl rfl ?_ | refine T_exit rfl ?_ | refine T_condV rfl ?_ | refine U_guard rfl rfl ?_ | ((with_reducible refine Gd_skipT ?_ ?_); exact rfl) | ((with_reducible refine Gd_skipF ?_ ?_); exact rfl))
  refine T_via (α := List Value × Value) (fun x => [(5, .pointer (some ⟨yb, 0, none⟩)), (4, vw), (3, .pointer (some ⟨ba, 0, none⟩)), (0, .pointer (some ⟨xb, 0, none⟩))])
    (fun x w' => Cpy w2 w' G yb (.slice Ay nn cy) x.1 X A x.2 nn) ?fin1 ?go1
  case go1 =>
    intro fin
    refine T_block ?_
    refine T_loop (α := Nat × (List Value × Value) × World) (fun x => [(22, .int .i64 x.1), (21, .int .i64 nn), (5, .pointer (some ⟨yb, 0, none⟩)), (4, vw), (3, .pointer (some ⟨ba, 0, none⟩)), (0, .pointer (some ⟨xb, 0, none⟩))]) (fun x => x.2.2) (fun x => nn - x.1)
      (fun x => x.1 ≤ nn ∧ Cpy w2 x.2.2 G yb (.slice Ay nn cy) x.2.1.1 X A x.2.1.2 x.1) (0, (fs, .slice none 0 0), w3) ⟨Nat.zero_le _, by rw [← hfsl]; exact hC3⟩ ?hsub rfl ?_
    case hsub => exact ⟨rfl, by rw [← hfsl]; rfl, rfl, rfl, rfl, rfl, trivial⟩
    rintro ⟨i, ⟨fs, va⟩, w4⟩ ⟨hi, hC⟩ ih
    dsimp only at hi hC ⊢
    repeat (first | (with_reducible first | apply T_seq | apply T_region | apply U_nil | apply T_skip | apply T_block | apply T_inBlock | apply Cnd_t | apply Cnd_f | apply Cnd_not | apply Cnd_some | apply Cnd_none | apply Gd_nt | apply Gd_nf | apply Gd_some | apply Gd_none | apply Gd_want) | refine U_ar rfl rfl rfl (wrap_k (by simp only [wrapOk]; omega)) rfl ?_ | refine U_cv E rfl rfl rfl (wrap_k (by simp only [wrapOk]; omega)) rfl ?_ | refine U_pure E rfl rfl ?_ | refine T_exit rfl ?_ | refine T_condV rfl ?_ | refine U_guard rfl rfl ?_ | ((with_reducible refine Gd_skipT ?_ ?_); exact rfl) | ((with_reducible refine Gd_skipF ?_ ?_); exact rfl))
    refine Cnd_p (fun hlt => ?_) (fun hlt => ?_)
    · have hin : i < X.first.length := by omega
      obtain ⟨f1, f2, f3⟩ := hC.fsj
      have hfl : fs.length = nn := by rw [f1, cpL_len, hnn]
      obtain ⟨g, cap, pad, hv, hgF, hbg, hcl, hcn⟩ := f2.pos (by omega)
      injection hv with hv1 hv2 hv3
      subst hv1
      subst hv3
      have hX4 := hX.same (k02.tr hC.k (fun _ _ x => x))
      have hyb4 := hC.blk
      repeat (first | (with_reducible first | apply T_seq | apply T_region | apply U_nil | apply T_skip | apply T_block | apply T_inBlock | apply Cnd_t | apply Cnd_f | apply Cnd_not | apply Cnd_some | apply Cnd_none | apply Gd_nt | apply Gd_nf | apply Gd_some | apply Gd_none | apply Gd_want) | refine U_ar rfl rfl rfl (wrap_k (by simp only [wrapOk]; omega)) rfl ?_ | refine U_cv E rfl rfl rfl (wrap_k (by simp only [wrapOk]; omega)) rfl ?_ | refine U_pure E rfl rfl ?_ | refine T_exit rfl ?_ | refine T_condV rfl ?_ | refine U_guard rfl rfl ?_ | ((with_reducible refine Gd_skipT ?_ ?_); exact rfl) | ((with_reducible refine Gd_skipF ?_ ?_); exact rfl))
      refine L_begin (fun W => Blk W yb [.slice (some ⟨g, 0, none⟩) nn cy, .slice none 0 0, .int .i64 (-1)] 111) 10 (by kernel_rfl) (N := 11) rfl (fun w5 hd5 => ?_)
      have k5 : Kept none0 w4 w5 := hd5.kept none0
      have hB5 := hyb4.mv k5 (fun x => x)
      have hsf := xsafe_c (hX4.same k5) i hin
      unfold ptr at *
      refine L_take 0 rfl (by kernel_rfl) (by kernel_rfl) (by kernel_rfl) (by kernel_rfl) hB5 rfl rfl rfl (fun a ha w' _ => run_pv E ha rfl _ _ _ _ _) ?_; refine L_take 1 rfl (by kernel_rfl) (by kernel_rfl) (by kernel_rfl) (by kernel_rfl) hB5 rfl rfl rfl (fun a ha w' _ => run_pv E ha rfl _ _ _ _ _) ?_; refine L_take 2 rfl (by kernel_rfl) (by kernel_rfl) (by kernel_rfl) (by kernel_rfl) hB5 rfl rfl rfl (fun a ha w' _ => run_pv E ha rfl _ _ _ _ _) ?_
      refine L_take 3 rfl (by kernel_rfl) (by kernel_rfl) (by kernel_rfl) (by kernel_rfl) hB5 rfl rfl rfl (fun a ha w' hS => ro_loadB E hS rfl rfl rfl rfl a ha) ?_
      refine L_take 4 rfl (by kernel_rfl) (by kernel_rfl) (by kernel_rfl) (by kernel_rfl) hB5 rfl rfl rfl (fun a ha w' _ => run_pv E ha rfl _ _ _ _ _) ?_; refine L_take 5 rfl (by kernel_rfl) (by kernel_rfl) (by kernel_rfl) (by kernel_rfl) hB5 rfl rfl rfl (fun a ha w' _ => run_pv E ha rfl _ _ _ _ _) ?_; refine L_take 6 rfl (by kernel_rfl) (by kernel_rfl) (by kernel_rfl) (by kernel_rfl) hB5 rfl rfl rfl (fun a ha w' _ => run_pv E ha rfl _ _ _ _ _) ?_
      refine L_op 7 (by kernel_rfl) rfl (fun hc => ?_)
      refine U_call rfl rfl (Tryd.call75 _) (hsf) ?_
      rintro rs w6 ⟨k6, hrs⟩
      have hB6 := hB5.mv k6 (fun x => x)
      refine U_nilL hc (fun _ => hB6) ?_
      refine L_op 8 (by kernel_rfl) rfl (fun hc => ?_)
      refine U_call rfl rfl (Tryd.call19 _) (cut_c w6 _ rs (X.safe i) 256 hrs (by decide)) ?_
      rintro rc w7 ⟨k7, hrc⟩
      have h2 := h256 i hin
      have htk : (X.safe i).take (256 : Int).toNat = X.safe i := List.take_of_length_le (by omega)
      rw [htk] at hrc
      have hB7 := hB6.mv k7 (fun x => x)
      refine U_nilL hc (fun _ => hB7) ?_
      refine L_take 9 rfl (by kernel_rfl) (by kernel_rfl) (by kernel_rfl) (by kernel_rfl) hB7 rfl rfl rfl (fun a ha w' hS => ro_indexS (o' := i) E rfl rfl rfl rfl (by omega) (by omega) (idx1 _) a ha) ?_
      have k47 : Kept none0 w4 w7 := (k5.tr k6 (fun _ _ x => x)).tr k7 (fun _ _ x => x)
      have s47 := (k5.tr k6 (fun _ _ x => x)).size
      have hbg7 := hbg.mv k47 (fun x => x)
      have hC7 := hC.same k47
      have hgl := hbg.lt
      have hyl4 := hyb4.lt
      refine L_op 10 (by kernel_rfl) rfl (fun hc => ?_)
      refine U_store E hbg7 rfl rfl rfl (by rw [List.length_append]; omega) (by obtain ⟨A', c', e'⟩ := hrc.val; rw [e']; rfl) ?_
      intro w8 hu8
      refine U_nilL hc (fun e => absurd rfl e) ?_
      refine L_done (by kernel_rfl) ?_
      have hva : ∀ b, va.ownBlock = some b → b < w6.heap.size := fun b e => by
        by_cases hAi : A < i
        · have := own_pos (hC.one hAi).2 b e; omega
        · rw [hC.non (by omega)] at e; simp [Value.ownBlock] at e
      rw [← hfl] at hC7
      have hnx := Cpy.next (u := rc) (q := X.safe i) hC7 hin (lo := w6.heap.size) (by have := hC.k.size; omega) (by omega) (by omega) hva
        (fun j v q hv hq => ((f3 j v q hv hq).mono (G := fun b => b < w6.heap.size) (fun b hb _ => by omega)).mv k47 (fun _ _ _ x => x)) rfl (by omega) (hrc.mono (fun b _ e => e)) hbg7 (by rw [hcl]) (by omega) hu8
      rw [hfl] at hnx
      repeat (first | (with_reducible first | apply T_seq | apply T_region | apply U_nil | apply T_skip | apply T_block | apply T_inBlock | apply Cnd_t | apply Cnd_f | apply Cnd_not | apply Cnd_some | apply Cnd_none | apply Gd_nt | apply Gd_nf | apply Gd_some | apply Gd_none | apply Gd_want) | refine U_ar rfl rfl rfl (wrap_k (by simp only [wrapOk]; omega)) rfl ?_ | refine U_cv E rfl rfl rfl (wrap_k (by simp only [wrapOk]; omega)) rfl ?_ | refine U_pure E rfl rfl ?_ | refine T_exit rfl ?_ | refine T_condV rfl ?_ | refine U_guard rfl rfl ?_ | ((with_reducible refine Gd_skipT ?_ ?_); exact rfl) | ((with_reducible refine Gd_skipF ?_ ?_); exact rfl))
      refine T.less ?_ (ih (i + 1, (fs.set i rc, if i = A then rc else va), w8) ⟨by omega, hnx⟩ (by dsimp only; omega))
      exact ⟨rfl, rfl, rfl, rfl, rfl, rfl, trivial⟩
    · have hin : i = nn := by omega
      subst hin
      refine T_exit rfl ?_
      refine T.less ?_ (fin (fs, va) w4 hC)
      exact ⟨rfl, rfl, rfl, rfl, trivial⟩
  case fin1 =>
    rintro ⟨fs, va⟩ w4 hC
    dsimp only at hC ⊢
    obtain ⟨f1, f2, f3⟩ := hC.fsj
    have hfl : fs.length = nn := by rw [f1, cpL_len, hnn]
    obtain ⟨g, cap, padf, hv, hgF, hbg, hcl, hcn⟩ := f2.pos (by omega)
    injection hv with hv1 hv2 hv3
    subst hv1
    subst hv3
    obtain ⟨o1, o2⟩ := hC.one (by omega)
    have hs256 := h256 A hAl
    obtain ⟨ga, capa, pad, hva, hgaF, hbga, hcla, hcna⟩ := o2.pos (by omega)
    rw [hs256] at hva hcna
    subst hva
    have hyb := hC.blk
    have k24 := hC.k
    have s24 := k24.size
    have hB2' := hB2.lt
    have hxl := hX.blk.lt
    have hgaw : w2.heap.size ≤ ga := hgaF.1
    have hgw : w2.heap.size ≤ g := hgF.1
    have hgga : g ≠ ga := fun e => hgaF.2.2 (by rw [← e]; rfl)
    have hyga : ga ≠ yb := hgaF.2.1
    have hba4 : Blk w4 ba a.cells 49 := (hba1.mv k2 (fun x => x)).mv k24 (fun x => x)
    have hfA : (fs ++ padf)[A]? = some (.slice (some ⟨ga, 0, none⟩) 256 capa) := by rw [List.getElem?_append_left (by omega)]; exact o1
    have c1 : a.cells[0 + 1]? = some (.int .i64 (A : Int)) := by rw [← hA]; rfl
    have c4 : a.cells[0 + 4]? = some (.int .i64 (N : Int)) := by rw [← hN]; rfl
    repeat (first | (with_reducible first | apply T_seq | apply T_region | apply U_nil | apply T_skip | apply T_block | apply T_inBlock | apply Cnd_t | apply Cnd_f | apply Cnd_not | apply Cnd_some | apply Cnd_none | apply Gd_nt | apply Gd_nf | apply Gd_some | apply Gd_none | apply Gd_want) | refine U_ar rfl rfl rfl (wrap_k (by simp only [wrapOk]; omega)) rfl ?_ | refine U_cv E rfl rfl rfl (wrap_k (by simp only [wrapOk]; omega)) rfl ?_ | refine U_pure E rfl rfl ?_ | refine T_exit rfl ?_ | refine T_condV rfl ?_ | refine U_guard rfl rfl ?_ | ((with_reducible refine Gd_skipT ?_ ?_); exact rfl) | ((with_reducible refine Gd_skipF ?_ ?_); exact rfl))
    refine T_loop (α := Nat × List UInt8 × World) (fun x => [(7, .int .i64 x.1), (5, .pointer (some ⟨yb, 0, none⟩)), (4, vw), (3, .pointer (some ⟨ba, 0, none⟩)), (0, .pointer (some ⟨xb, 0, none⟩))]) (fun x => x.2.2) (fun x => 32 - x.1)
      (fun x => x.1 ≤ 32 ∧ Kept (fun b => b = ga) w4 x.2.2 ∧ Blk x.2.2 ga (encBs x.2.1 ++ pad) 5 ∧ TurnedTo (X.safe A) x.2.1 N x.1 a.mask) (0, X.safe A, w4) ⟨Nat.zero_le 32, Kept.refl _ _, hbga, TurnedTo.zero _ _ _⟩ ⟨rfl, rfl, rfl, rfl, rfl, trivial⟩ rfl ?_
    rintro ⟨k, q, w5⟩ ⟨hk, k5, hb5, ht⟩ ih
    dsimp only at hk k5 hb5 ht ⊢
    have hql := ht.1
    rw [hs256] at hql
    have hyb5 := hyb.mv k5 (fun e => hyga e.symm)
    have hba5 := hba4.mv k5 (fun (e : ba = ga) => by omega)
    have hbg5 := hbg.mv k5 hgga
    repeat (first | (with_reducible first | apply T_seq | apply T_region | apply U_nil | apply T_skip | apply T_block | apply T_inBlock | apply Cnd_t | apply Cnd_f | apply Cnd_not | apply Cnd_some | apply Cnd_none | apply Gd_nt | apply Gd_nf | apply Gd_some | apply Gd_none | apply Gd_want) | refine U_ar rfl rfl rfl (wrap_k (by simp only [wrapOk]; omega)) rfl ?_ | refine U_cv E rfl rfl rfl (wrap_k (by simp only [wrapOk]; omega)) rfl ?_ | refine U_pure E rfl rfl ?_ | refine T_exit rfl ?_ | refine T_condV rfl ?_ | refine U_guard rfl rfl ?_ | ((with_reducible refine Gd_skipT ?_ ?_); exact rfl) | ((with_reducible refine Gd_skipF ?_ ?_); exact rfl))
    refine Cnd_p (fun h32 => ?_) (fun h32 => ?_)
    · have hk32 : k < 32 := by omega
      repeat (first | (with_reducible first | apply T_seq | apply T_region | apply U_nil | apply T_skip | apply T_block | apply T_inBlock | apply Cnd_t | apply Cnd_f | apply Cnd_not | apply Cnd_some | apply Cnd_none | apply Gd_nt | apply Gd_nf | apply Gd_some | apply Gd_none | apply Gd_want) | refine U_ar rfl rfl rfl (wrap_k (by simp only [wrapOk]; omega)) rfl ?_ | refine U_cv E rfl rfl rfl (wrap_k (by simp only [wrapOk]; omega)) rfl ?_ | refine U_pure E rfl rfl ?_ | refine T_exit rfl ?_ | refine T_condV rfl ?_ | refine U_guard rfl rfl ?_ | ((with_reducible refine Gd_skipT ?_ ?_); exact rfl) | ((with_reducible refine Gd_skipF ?_ ?_); exact rfl))
      refine U_loadB E hba5 rfl rfl rfl c4 rfl ?_
      obtain ⟨B, hB⟩ : ∃ B, N + k = B := ⟨_, rfl⟩
      have hBi : (N : Int) + (k : Int) = (B : Int) := by omega
      refine U_pure E rfl rfl ?_
      refine U_ar rfl rfl rfl (wrap_i64 (by omega)) rfl ?_
      rw [hBi]
      repeat (first | (with_reducible first | apply T_seq | apply T_region | apply U_nil | apply T_skip | apply T_block | apply T_inBlock | apply Cnd_t | apply Cnd_f | apply Cnd_not | apply Cnd_some | apply Cnd_none | apply Gd_nt | apply Gd_nf | apply Gd_some | apply Gd_none | apply Gd_want) | refine U_ar rfl rfl rfl (wrap_k (by simp only [wrapOk]; omega)) rfl ?_ | refine U_cv E rfl rfl rfl (wrap_k (by simp only [wrapOk]; omega)) rfl ?_ | refine U_pure E rfl rfl ?_ | refine T_exit rfl ?_ | refine T_condV rfl ?_ | refine U_guard rfl rfl ?_ | ((with_reducible refine Gd_skipT ?_ ?_); exact rfl) | ((with_reducible refine Gd_skipF ?_ ?_); exact rfl))
      refine Gd_p (fun hin => ?_) (fun hin => ?_)
      · have hin' : B / 8 < q.length := by omega
        repeat (first | (with_reducible first | apply T_seq | apply T_region | apply U_nil | apply T_skip | apply T_block | apply T_inBlock | apply Cnd_t | apply Cnd_f | apply Cnd_not | apply Cnd_some | apply Cnd_none | apply Gd_nt | apply Gd_nf | apply Gd_some | apply Gd_none | apply Gd_want) | refine U_ar rfl rfl rfl (wrap_k (by simp only [wrapOk]; omega)) rfl ?_ | refine U_cv E rfl rfl rfl (wrap_k (by simp only [wrapOk]; omega)) rfl ?_ | refine U_pure E rfl rfl ?_ | refine T_exit rfl ?_ | refine T_condV rfl ?_ | refine U_guard rfl rfl ?_ | ((with_reducible refine Gd_skipT ?_ ?_); exact rfl) | ((with_reducible refine Gd_skipF ?_ ?_); exact rfl))
        refine U_loadB E hba5 rfl rfl rfl rfl rfl ?_
        repeat (first | (with_reducible first | apply T_seq | apply T_region | apply U_nil | apply T_skip | apply T_block | apply T_inBlock | apply Cnd_t | apply Cnd_f | apply Cnd_not | apply Cnd_some | apply Cnd_none | apply Gd_nt | apply Gd_nf | apply Gd_some | apply Gd_none | apply Gd_want) | refine U_ar rfl rfl rfl (wrap_k (by simp only [wrapOk]; omega)) rfl ?_ | refine U_cv E rfl rfl rfl (wrap_k (by simp only [wrapOk]; omega)) rfl ?_ | refine U_pure E rfl rfl ?_ | refine T_exit rfl ?_ | refine T_condV rfl ?_ | refine U_guard rfl rfl ?_ | ((with_reducible refine Gd_skipT ?_ ?_); exact rfl) | ((with_reducible refine Gd_skipF ?_ ?_); exact rfl))
        refine U_run rfl rfl rfl (ro_bin (r := .int .u32 (a.mask / 2 ^ k : Nat)) rfl rfl (by exact run_shr (y := k) .i64 (by simp only [IntKind.bits]; omega))) ?_
        repeat (first | (with_reducible first | apply T_seq | apply T_region | apply U_nil | apply T_skip | apply T_block | apply T_inBlock | apply Cnd_t | apply Cnd_f | apply Cnd_not | apply Cnd_some | apply Cnd_none | apply Gd_nt | apply Gd_nf | apply Gd_some | apply Gd_none | apply Gd_want) | refine U_ar rfl rfl rfl (wrap_k (by simp only [wrapOk]; omega)) rfl ?_ | refine U_cv E rfl rfl rfl (wrap_k (by simp only [wrapOk]; omega)) rfl ?_ | refine U_pure E rfl rfl ?_ | refine T_exit rfl ?_ | refine T_condV rfl ?_ | refine U_guard rfl rfl ?_ | ((with_reducible refine Gd_skipT ?_ ?_); exact rfl) | ((with_reducible refine Gd_skipF ?_ ?_); exact rfl))
        refine U_run rfl rfl rfl (ro_bin (r := .int .u32 (a.mask / 2 ^ k % 2 : Nat)) rfl rfl (by exact run_rem (y := 2) (by decide))) ?_
        repeat (first | (with_reducible first | apply T_seq | apply T_region | apply U_nil | apply T_skip | apply T_block | apply T_inBlock | apply Cnd_t | apply Cnd_f | apply Cnd_not | apply Cnd_some | apply Cnd_none | apply Gd_nt | apply Gd_nf | apply Gd_some | apply Gd_none | apply Gd_want) | refine U_ar rfl rfl rfl (wrap_k (by simp only [wrapOk]; omega)) rfl ?_ | refine U_cv E rfl rfl rfl (wrap_k (by simp only [wrapOk]; omega)) rfl ?_ | refine U_pure E rfl rfl ?_ | refine T_exit rfl ?_ | refine T_condV rfl ?_ | refine U_guard rfl rfl ?_ | ((with_reducible refine Gd_skipT ?_ ?_); exact rfl) | ((with_reducible refine Gd_skipF ?_ ?_); exact rfl))
        refine Cnd_p (fun hbit => ?_) (fun hbit => ?_)
        · have hbit' : a.mask.testBit k = true := (bit_of a.mask k).1 (by omega)
          have hto := ht.onB hB hbit' hin'
          have hget : (encBs q ++ pad)[B / 8]? = some (encB q[B / 8]) := by
            rw [List.getElem?_append_left (by rw [encBs_len]; exact hin')]
            exact get_enc hin'
          have hq8 := b_lt q[B / 8]
          have hr8 : B % 8 < 8 := Nat.mod_lt _ (by decide)
          have hp8 : 2 ^ (B % 8) < 256 := by
            have h3 : 2 ^ (B % 8) ≤ 2 ^ 7 := Nat.pow_le_pow_right (by decide) (by omega)
            omega
          have hx8 : q[B / 8].toNat ^^^ 2 ^ (B % 8) < 256 := Nat.xor_lt_two_pow (n := 8) hq8 hp8
          repeat (first | (with_reducible first | apply T_seq | apply T_region | apply U_nil | apply T_skip | apply T_block | apply T_inBlock | apply Cnd_t | apply Cnd_f | apply Cnd_not | apply Cnd_some | apply Cnd_none | apply Gd_nt | apply Gd_nf | apply Gd_some | apply Gd_none | apply Gd_want) | refine U_ar rfl rfl rfl (wrap_k (by simp only [wrapOk]; omega)) rfl ?_ | refine U_cv E rfl rfl rfl (wrap_k (by simp only [wrapOk]; omega)) rfl ?_ | refine U_pure E rfl rfl ?_ | refine T_exit rfl ?_ | refine T_condV rfl ?_ | refine U_guard rfl rfl ?_ | ((with_reducible refine Gd_skipT ?_ ?_); exact rfl) | ((with_reducible refine Gd_skipF ?_ ?_); exact rfl))
          refine L_begin (fun W => Blk W yb [.slice (some ⟨g, 0, none⟩) nn cy, .slice none 0 0, .int .i64 (-1)] 111 ∧ Blk W ba a.cells 49 ∧ Blk W g (fs ++ padf) 23 ∧ Blk W ga (encBs q ++ pad) 5) 19 (by kernel_rfl) (N := 20) rfl (fun w6 hd6 => ?_)
          have k6 : Kept none0 w5 w6 := hd6.kept none0
          have hS6 : Blk w6 yb [.slice (some ⟨g, 0, none⟩) nn cy, .slice none 0 0, .int .i64 (-1)] 111 ∧ Blk w6 ba a.cells 49 ∧ Blk w6 g (fs ++ padf) 23 ∧ Blk w6 ga (encBs q ++ pad) 5 := ⟨hyb5.mv k6 (fun x => x), hba5.mv k6 (fun x => x), hbg5.mv k6 (fun x => x), hb5.mv k6 (fun x => x)⟩
          refine L_take 0 rfl (by kernel_rfl) (by kernel_rfl) (by kernel_rfl) (by kernel_rfl) hS6 rfl rfl rfl (fun a ha w' _ => run_pv E ha rfl _ _ _ _ _) ?_; refine L_take 1 rfl (by kernel_rfl) (by kernel_rfl) (by kernel_rfl) (by kernel_rfl) hS6 rfl rfl rfl (fun a ha w' _ => run_pv E ha rfl _ _ _ _ _) ?_; refine L_take 2 rfl (by kernel_rfl) (by kernel_rfl) (by kernel_rfl) (by kernel_rfl) hS6 rfl rfl rfl (fun a ha w' _ => run_pv E ha rfl _ _ _ _ _) ?_
          refine L_take 3 rfl (by kernel_rfl) (by kernel_rfl) (by kernel_rfl) (by kernel_rfl) hS6 rfl rfl rfl (fun a ha w' hS => ro_loadB E hS.1 rfl rfl rfl rfl a ha) ?_
          refine L_take 4 rfl (by kernel_rfl) (by kernel_rfl) (by kernel_rfl) (by kernel_rfl) hS6 rfl rfl rfl (fun a ha w' _ => run_pv E ha rfl _ _ _ _ _) ?_
          refine L_take 5 rfl (by kernel_rfl) (by kernel_rfl) (by kernel_rfl) (by kernel_rfl) hS6 rfl rfl rfl (fun a ha w' hS => ro_loadB E hS.2.1 rfl rfl rfl c1 a ha) ?_
          refine L_take 6 rfl (by kernel_rfl) (by kernel_rfl) (by kernel_rfl) (by kernel_rfl) hS6 rfl rfl rfl (fun a ha w' hS => ro_indexS (o' := A) E rfl rfl rfl rfl (by omega) (by omega) (idx1 _) a ha) ?_
          refine L_take 7 rfl (by kernel_rfl) (by kernel_rfl) (by kernel_rfl) (by kernel_rfl) hS6 rfl rfl rfl (fun a ha w' hS => ro_loadB E hS.2.2.1 rfl rfl rfl hfA a ha) ?_
          refine L_take 8 rfl (by kernel_rfl) (by kernel_rfl) (by kernel_rfl) (by kernel_rfl) hS6 rfl rfl rfl (fun a ha w' _ => run_pv E ha rfl _ _ _ _ _) ?_
          refine L_take 9 rfl (by kernel_rfl) (by kernel_rfl) (by kernel_rfl) (by kernel_rfl) hS6 rfl rfl rfl (fun a ha w' _ => ro_bin (r := .int .i64 (B / 8 : Nat)) rfl rfl (by exact run_quo (y := 8) (by decide) (wrap_i64 (by omega))) a ha) ?_
          refine L_take 10 rfl (by kernel_rfl) (by kernel_rfl) (by kernel_rfl) (by kernel_rfl) hS6 rfl rfl rfl (fun a ha w' hS => ro_indexS (o' := B / 8) E rfl rfl rfl rfl (by omega) (by omega) (idx1 _) a ha) ?_
          refine L_take 11 rfl (by kernel_rfl) (by kernel_rfl) (by kernel_rfl) (by kernel_rfl) hS6 rfl rfl rfl (fun a ha w' hS => ro_loadB E hS.2.2.2 rfl rfl rfl hget a ha) ?_
          refine L_take 13 rfl (by kernel_rfl) (by kernel_rfl) (by kernel_rfl) (by kernel_rfl) hS6 rfl rfl rfl (fun a ha w' _ => run_pv E ha rfl _ _ _ _ _) ?_
          refine L_take 14 rfl (by kernel_rfl) (by kernel_rfl) (by kernel_rfl) (by kernel_rfl) hS6 rfl rfl rfl (fun a ha w' _ => ro_bin (r := .int .i64 (B % 8 : Nat)) rfl rfl (by exact run_rem (y := 8) (by decide)) a ha) ?_
          refine L_op 12 (by kernel_rfl) rfl (fun hc5 => ?_)
          refine U_buildSlice E rfl rfl rfl rfl rfl rfl rfl rfl (segs := tbl8.map ([·])) rfl (by intro s hs; obtain ⟨u, _, rfl⟩ := List.mem_map.1 hs; rfl) rfl ?_
          intro b7 w7 hn7
          have hS7 : Blk w7 yb [.slice (some ⟨g, 0, none⟩) nn cy, .slice none 0 0, .int .i64 (-1)] 111 ∧ Blk w7 ba a.cells 49 ∧ Blk w7 g (fs ++ padf) 23 ∧ Blk w7 ga (encBs q ++ pad) 5 := ⟨hS6.1.mv hn7.kept (fun x => x), hS6.2.1.mv hn7.kept (fun x => x), hS6.2.2.1.mv hn7.kept (fun x => x), hS6.2.2.2.mv hn7.kept (fun x => x)⟩
          have hb7 : Blk w7 b7 tbl8 5 := hn7.blk
          refine U_nilL hc5 (fun _ => hS7) ?_
          refine L_take 15 rfl (by kernel_rfl) (by kernel_rfl) (by kernel_rfl) (by kernel_rfl) hS7 rfl rfl rfl (fun a ha w' hS => ro_indexS (o' := B % 8) E rfl rfl rfl rfl (by omega) (by omega) (idx1 _) a ha) ?_
          refine L_op 16 (by kernel_rfl) rfl (fun hc9 => ?_)
          refine U_loadB E hb7 rfl rfl rfl (tbl_get _ hr8) rfl ?_
          refine U_nilL hc9 (fun _ => hS7) ?_
          refine L_op 17 (by kernel_rfl) rfl (fun hc10 => ?_)
          refine U_run rfl rfl rfl (ro_bin (r := .int .u8 (q[B / 8].toNat ^^^ 2 ^ (B % 8) : Nat)) rfl rfl (by exact run_xor (k := .u8) rfl hq8 hp8)) ?_
          refine U_nilL hc10 (fun _ => hS7) ?_
          refine L_take 18 rfl (by kernel_rfl) (by kernel_rfl) (by kernel_rfl) (by kernel_rfl) hS7 rfl rfl rfl (fun a ha w' hS => ro_indexS (o' := B / 8) E rfl rfl rfl rfl (by omega) (by omega) (idx1 _) a ha) ?_
          refine L_op 19 (by kernel_rfl) rfl (fun hc12 => ?_)
          refine U_store E (hS7.2.2.2) rfl rfl rfl (by rw [List.length_append, encBs_len]; omega) rfl ?_
          intro w8 hu8
          refine U_nilL hc12 (fun e => absurd rfl e) ?_
          refine L_done (by kernel_rfl) ?_
          repeat (first | (with_reducible first | apply T_seq | apply T_region | apply U_nil | apply T_skip | apply T_block | apply T_inBlock | apply Cnd_t | apply Cnd_f | apply Cnd_not | apply Cnd_some | apply Cnd_none | apply Gd_nt | apply Gd_nf | apply Gd_some | apply Gd_none | apply Gd_want) | refine U_ar rfl rfl rfl (wrap_k (by simp only [wrapOk]; omega)) rfl ?_ | refine U_cv E rfl rfl rfl (wrap_k (by simp only [wrapOk]; omega)) rfl ?_ | refine U_pure E rfl rfl ?_ | refine T_exit rfl ?_ | refine T_condV rfl ?_ | refine U_guard rfl rfl ?_ | ((with_reducible refine Gd_skipT ?_ ?_); exact rfl) | ((with_reducible refine Gd_skipF ?_ ?_); exact rfl))
          refine T.less ?_ (ih (k + 1, q.set (B / 8) (UInt8.ofNat (q[B / 8].toNat ^^^ 2 ^ (B % 8))), w8) ⟨by omega, ?_, ?_, hto⟩ (by dsimp only; omega))
          · exact ⟨rfl, rfl, rfl, rfl, rfl, trivial⟩
          · exact ((k5.tr k6 (fun _ _ x => x.elim)).tr hn7.kept (fun _ _ x => x.elim)).tr hu8.kept (fun _ _ e => e)
          · have := hu8.blk
            dsimp only
            rw [List.set_append_left _ _ (by rw [encBs_len]; exact hin')] at this
            rw [encBs_set]
            have e : encB (UInt8.ofNat (q[B / 8].toNat ^^^ 2 ^ (B % 8))) = .int .u8 ((q[B / 8].toNat ^^^ 2 ^ (B % 8) : Nat) : Int) := by
              simp only [encB]
              rw [UInt8.toNat_ofNat', Nat.mod_eq_of_lt hx8]
            rw [e]
            exact this
        · repeat (first | (with_reducible first | apply T_seq | apply T_region | apply U_nil | apply T_skip | apply T_block | apply T_inBlock | apply Cnd_t | apply Cnd_f | apply Cnd_not | apply Cnd_some | apply Cnd_none | apply Gd_nt | apply Gd_nf | apply Gd_some | apply Gd_none | apply Gd_want) | refine U_ar rfl rfl rfl (wrap_k (by simp only [wrapOk]; omega)) rfl ?_ | refine U_cv E rfl rfl rfl (wrap_k (by simp only [wrapOk]; omega)) rfl ?_ | refine U_pure E rfl rfl ?_ | refine T_exit rfl ?_ | refine T_condV rfl ?_ | refine U_guard rfl rfl ?_ | ((with_reducible refine Gd_skipT ?_ ?_); exact rfl) | ((with_reducible refine Gd_skipF ?_ ?_); exact rfl))
          refine T.less ?_ (ih (k + 1, q, w5) ⟨by omega, k5, hb5, ht.off (.inr ?_)⟩ (by dsimp only; omega))
          · exact ⟨rfl, rfl, rfl, rfl, rfl, trivial⟩
          · cases hbb : a.mask.testBit k with
            | false => rfl
            | true => exact absurd (by have := (bit_of a.mask k).2 hbb; omega) hbit
      · repeat (first | (with_reducible first | apply T_seq | apply T_region | apply U_nil | apply T_skip | apply T_block | apply T_inBlock | apply Cnd_t | apply Cnd_f | apply Cnd_not | apply Cnd_some | apply Cnd_none | apply Gd_nt | apply Gd_nf | apply Gd_some | apply Gd_none | apply Gd_want) | refine U_ar rfl rfl rfl (wrap_k (by simp only [wrapOk]; omega)) rfl ?_ | refine U_cv E rfl rfl rfl (wrap_k (by simp only [wrapOk]; omega)) rfl ?_ | refine U_pure E rfl rfl ?_ | refine T_exit rfl ?_ | refine T_condV rfl ?_ | refine U_guard rfl rfl ?_ | ((with_reducible refine Gd_skipT ?_ ?_); exact rfl) | ((with_reducible refine Gd_skipF ?_ ?_); exact rfl))
        refine T.less ?_ (ih (k + 1, q, w5) ⟨by omega, k5, hb5, ht.off (.inl ?_)⟩ (by dsimp only; omega))
        · exact ⟨rfl, rfl, rfl, rfl, rfl, trivial⟩
        · omega
    · have hk32 : k = 32 := by omega
      subst hk32
      have hBx : Blk w5 xb [.slice B0 fs0.length cb0, vd, .int .i64 X.left] 111 := (hB2.mv k24 (fun x => x)).mv k5 (fun (e : xb = ga) => by omega)
      obtain ⟨ds, d1, d2, d3⟩ := hW2
      have hvwo := d2.own
      repeat (first | (with_reducible first | apply T_seq | apply T_region | apply U_nil | apply T_skip | apply T_block | apply T_inBlock | apply Cnd_t | apply Cnd_f | apply Cnd_not | apply Cnd_some | apply Cnd_none | apply Gd_nt | apply Gd_nf | apply Gd_some | apply Gd_none | apply Gd_want) | refine U_ar rfl rfl rfl (wrap_k (by simp only [wrapOk]; omega)) rfl ?_ | refine U_cv E rfl rfl rfl (wrap_k (by simp only [wrapOk]; omega)) rfl ?_ | refine U_pure E rfl rfl ?_ | refine T_exit rfl ?_ | refine T_condV rfl ?_ | refine U_guard rfl rfl ?_ | ((with_reducible refine Gd_skipT ?_ ?_); exact rfl) | ((with_reducible refine Gd_skipF ?_ ?_); exact rfl))
      refine U_loadB E hyb5 rfl rfl rfl rfl rfl ?_
      repeat (first | (with_reducible first | apply T_seq | apply T_region | apply U_nil | apply T_skip | apply T_block | apply T_inBlock | apply Cnd_t | apply Cnd_f | apply Cnd_not | apply Cnd_some | apply Cnd_none | apply Gd_nt | apply Gd_nf | apply Gd_some | apply Gd_none | apply Gd_want) | refine U_ar rfl rfl rfl (wrap_k (by simp only [wrapOk]; omega)) rfl ?_ | refine U_cv E rfl rfl rfl (wrap_k (by simp only [wrapOk]; omega)) rfl ?_ | refine U_pure E rfl rfl ?_ | refine T_exit rfl ?_ | refine T_condV rfl ?_ | refine U_guard rfl rfl ?_ | ((with_reducible refine Gd_skipT ?_ ?_); exact rfl) | ((with_reducible refine Gd_skipF ?_ ?_); exact rfl))
      refine U_store E (hBx) rfl rfl rfl (by simp) rfl ?_
      intro w6 hu6
      repeat (first | (with_reducible first | apply T_seq | apply T_region | apply U_nil | apply T_skip | apply T_block | apply T_inBlock | apply Cnd_t | apply Cnd_f | apply Cnd_not | apply Cnd_some | apply Cnd_none | apply Gd_nt | apply Gd_nf | apply Gd_some | apply Gd_none | apply Gd_want) | refine U_ar rfl rfl rfl (wrap_k (by simp only [wrapOk]; omega)) rfl ?_ | refine U_cv E rfl rfl rfl (wrap_k (by simp only [wrapOk]; omega)) rfl ?_ | refine U_pure E rfl rfl ?_ | refine T_exit rfl ?_ | refine T_condV rfl ?_ | refine U_guard rfl rfl ?_ | ((with_reducible refine Gd_skipT ?_ ?_); exact rfl) | ((with_reducible refine Gd_skipF ?_ ?_); exact rfl))
      refine U_store E hu6.blk rfl rfl rfl (by simp) (by obtain ⟨A', c', e'⟩ := d2.val; rw [e']; rfl) ?_
      intro w7 hu7
      refine U_nil ?_
      have k57 : Kept (fun b => b = xb) w5 w7 := hu6.kept.tr hu7.kept (fun _ _ e => e)
      have k04 : Kept none0 w w4 := k02.tr k24 (fun _ _ x => x)
      have k05 : Kept none0 w w5 := k04.tr k5 (fun b hb (e : b = ga) => by omega)
      have s01 : w.heap.size ≤ w1.heap.size := by omega
      refine T_end0 Tryd.func77 rfl ⟨_, rfl, rfl, (k05.mono (fun _ _ x => x.elim)).tr k57 (fun _ _ e => e), .slice (some ⟨g, 0, none⟩) nn cy, vw, q, ht, ?_⟩
      have hwx : ∀ b, w2.heap.size ≤ b → b ≠ xb := fun b e => by omega
      refine ⟨.inl hX.mem, ?_, ?_, ?_, ⟨by dsimp only; rw [List.length_set, XS.safes, cpL_len]; exact hlen.1, by dsimp only; have := wts_len X.deeds; omega⟩, h.left⟩
      · have := hu7.blk
        simpa using this
      · refine ⟨fs, by rw [List.length_set, XS.safes, cpL_len]; omega, ?_, fun j u p hu hp => ?_⟩
        · exact ⟨by rw [Nat.mul_one], .inr ⟨g, cy, padf, by rw [hfl], ⟨.inr (by omega), hwx g hgw⟩, hbg5.mv k57 (hwx g hgw), hcl, by omega⟩⟩
        · by_cases hj : A = j
          · subst hj
            rw [o1] at hu
            injection hu with hu
            subst hu
            rw [List.getElem?_set, if_pos rfl, if_pos (by rw [XS.safes, cpL_len]; exact hAl)] at hp
            injection hp with hp
            subst hp
            have hbr : BR w7 (fun b => b = ga) (.slice (some ⟨ga, 0, none⟩) 256 capa) q := ⟨by rw [encBs_len, Nat.mul_one], .inr ⟨ga, capa, pad, by rw [hql], rfl, hb5.mv k57 (hwx ga hgaw), by rw [List.length_append, encBs_len, hql, ← hs256, ← encBs_len, ← List.length_append]; exact hcla, by rw [hql]; exact hcna⟩⟩
            exact (hbr.sl (by omega)).mono (fun b _ (e : b = ga) => by
              subst e
              exact ⟨.inr (by omega), hwx _ hgaw, fun e2 => hgga (Option.some.inj (show some g = some b from e2)), fun e2 => by have := (hvwo b e2).2; omega⟩)
          · rw [List.getElem?_set, if_neg hj] at hp
            have h1 := f3 j u p hu (by rw [← hnn]; exact hp)
            exact ((h1.mv k5 (fun b _ e (e2 : b = ga) => e.2.2.2 (fun e3 => hj e3.symm) (by rw [e2]; rfl))).mv k57 (fun b _ e (e2 : b = xb) => hwx b e.1 e2)).mono (fun b _ e => ⟨.inr (by have := e.1; simp only [fresh] at this; omega), hwx b e.1, e.2.2.1, fun e2 => by have := (hvwo b e2).2; have := e.1; simp only [fresh] at this; omega⟩)
      · refine ⟨ds, d1, ?_, fun j d e hd he => ⟨(d3 j d e hd he).1, ?_⟩⟩
        · exact ((((d2.mono (G := fun b => fresh w1 b ∧ b < w2.heap.size) (fun b hb e => ⟨e, hb⟩)).mv k24 (fun _ _ _ x => x)).mv k5 (fun b _ e (e2 : b = ga) => by have := e.2; omega)).mv k57 (fun b _ e (e2 : b = xb) => by have := e.1; simp only [fresh] at this; omega)).mono (fun b _ e => ⟨.inr (by have := e.1; simp only [fresh] at this; omega), by have := e.1; simp only [fresh] at this; omega, fun e2 => by have := Option.some.inj (show some g = some b from e2); have := e.2; omega⟩)
        · exact ((((d3 j d e hd he).2.mv k24 (fun _ _ _ x => x)).mv k5 (fun b _ e (e2 : b = ga) => by have := e.2; omega)).mv k57 (fun b _ e (e2 : b = xb) => e.1.2.1 e2)).mono (fun b _ e => ⟨.inl e.1.1, e.1.2.1, fun e2 => by have := Option.some.inj (show some g = some b from e2); have := e.2; omega, fun e2 => by have := (hvwo b e2).1; simp only [fresh] at this; have := e.2; omega⟩)
end Go.Proofs.YtoefhdaenaiomaaDoor

/- Arm, Copy. -/
namespace Go.Proofs.YtoefhdaenaiomaaDoor
open Go
set_option maxRecDepth 20000

section
variable {P : Program} {w : World} {m : Fm} {n : Nat} {ty : TypeId} {ps : String} {af : Array Edge}
theorem ro_max {ats : Array TypeId} {u v : Operand} {kx ky : IntKind} {p q r : Int} (hx : ev m u = some (.int kx p)) (hy : ev m v = some (.int ky q)) (hr : (if q > p then q else p) = r) {dst : Option Tmp} {gd : Option (Nat × Bool)} :
    ∀ a, Fits a n m → (execOp a.eval { dst := dst, op := .call { callee := .builtin .max, args := #[u, v], argTypes := ats }, type := ty, pos := ps, after := af, guard := gd }).run P w = .ok (.value (.int kx r)) w := by
  intro a ha
  simp only [execOp, resolve, invoke, builtin, Sem.run_bind, Sem.run_pure, Result.andThen_ok, List.map_toArray, List.map_cons, List.map_nil, ha.eval hx, ha.eval hy, run_max_int2, hr]
end

theorem arm_c (w : World) (F : Nat → Prop) (hb : Nat) (D : Dr) (n : Int) (h : IsD w F hb D) (hn : n ≤ 9223372036854775807) :
    Calls Tryd.prog 25 [ptr hb, .int .i64 n].toArray w (Ret fun r w' => r = .tuple #[] ∧ Kept (fun b => b = hb) w w' ∧ w'.heap.size = w.heap.size ∧ IsD w' F hb { D with left := max n (-1) }) := by
  obtain ⟨h0, vl, vw, h1, h2, h3, h4⟩ := h
  refine calls_T Tryd.func25 rfl rfl rfl ?_
  unfold ptr
  repeat (first | (with_reducible first | apply T_seq | apply T_region | apply U_nil | apply T_skip | apply T_block | apply T_inBlock | apply Cnd_t | apply Cnd_f | apply Cnd_not | apply Cnd_some | apply Cnd_none | apply Gd_nt | apply Gd_nf | apply Gd_some | apply Gd_none | apply Gd_want) | refine U_ar rfl rfl rfl (wrap_i64 (by omega)) rfl ?_ | refine U_pure E rfl rfl ?_ | refine T_exit rfl ?_ | refine T_condV rfl ?_ | refine U_guard rfl rfl ?_ | ((with_reducible refine Gd_skipT ?_ ?_); exact rfl) | ((with_reducible refine Gd_skipF ?_ ?_); exact rfl))
  refine U_run rfl rfl rfl (ro_max (r := max n (-1)) rfl rfl (by split <;> omega)) ?_
  repeat (first | (with_reducible first | apply T_seq | apply T_region | apply U_nil | apply T_skip | apply T_block | apply T_inBlock | apply Cnd_t | apply Cnd_f | apply Cnd_not | apply Cnd_some | apply Cnd_none | apply Gd_nt | apply Gd_nf | apply Gd_some | apply Gd_none | apply Gd_want) | refine U_ar rfl rfl rfl (wrap_i64 (by omega)) rfl ?_ | refine U_pure E rfl rfl ?_ | refine T_exit rfl ?_ | refine T_condV rfl ?_ | refine U_guard rfl rfl ?_ | ((with_reducible refine Gd_skipT ?_ ?_); exact rfl) | ((with_reducible refine Gd_skipF ?_ ?_); exact rfl))
  refine U_store E (h2) rfl rfl rfl (by simp) rfl ?_
  intro w1 hu
  repeat (first | (with_reducible first | apply T_seq | apply T_region | apply U_nil | apply T_skip | apply T_block | apply T_inBlock | apply Cnd_t | apply Cnd_f | apply Cnd_not | apply Cnd_some | apply Cnd_none | apply Gd_nt | apply Gd_nf | apply Gd_some | apply Gd_none | apply Gd_want) | refine U_ar rfl rfl rfl (wrap_i64 (by omega)) rfl ?_ | refine U_pure E rfl rfl ?_ | refine T_exit rfl ?_ | refine T_condV rfl ?_ | refine U_guard rfl rfl ?_ | ((with_reducible refine Gd_skipT ?_ ?_); exact rfl) | ((with_reducible refine Gd_skipF ?_ ?_); exact rfl))
  refine T_end0 Tryd.func25 rfl ⟨_, rfl, rfl, hu.kept, hu.size, ⟨h0.n1, h0.n2, h0.secs, h0.waits, h0.wn, ?_, ?_⟩, vl, vw, h1, ?_, h3.mv hu.kept (fun b _ h => h.2), h4.mv hu.kept (fun b _ h => h.2.1)⟩
  · dsimp only; omega
  · dsimp only; omega
  · simpa using hu.blk

theorem clonew_c (w : World) (F : Nat → Prop) (v : Value) (n : Nat) (cs : List Value) (h : Row w F v 257 n cs 103) (hm : n ≤ 1000000) (h1 : ∀ u ∈ cs, u.oneCell' = true) :
    Calls Tryd.prog 73 [v].toArray w (Ret fun r w' => Kept none0 w w' ∧ Row w' (fresh w) r 257 n cs 103) := by
  have hsl := h.sl (by omega)
  have hr := h
  obtain ⟨hl, h⟩ := h
  rcases h with ⟨rfl, rfl⟩ | ⟨g, cap, pad, rfl, hF, hb, hl2, hc⟩
  · refine calls_T Tryd.func73 rfl rfl rfl ?_
    repeat (first | (with_reducible first | apply T_seq | apply T_region | apply U_nil | apply T_skip | apply T_block | apply T_inBlock | apply Cnd_t | apply Cnd_f | apply Cnd_not | apply Cnd_some | apply Cnd_none | apply Gd_nt | apply Gd_nf | apply Gd_some | apply Gd_none | apply Gd_want) | refine U_ar rfl rfl rfl (wrap_i64 (by omega)) rfl ?_ | refine U_pure E rfl rfl ?_ | refine T_exit rfl ?_ | refine T_condV rfl ?_ | refine U_guard rfl rfl ?_ | ((with_reducible refine Gd_skipT ?_ ?_); exact rfl) | ((with_reducible refine Gd_skipF ?_ ?_); exact rfl))
    have hcs : cs = [] := List.eq_nil_of_length_eq_zero (by simpa using hl)
    subst hcs
    exact T_ret1 Tryd.func73 rfl rfl ⟨_, rfl, Kept.refl _ _, Row.nil _ _ _ _⟩
  · refine calls_T Tryd.func73 rfl rfl rfl ?_
    repeat (first | (with_reducible first | apply T_seq | apply T_region | apply U_nil | apply T_skip | apply T_block | apply T_inBlock | apply Cnd_t | apply Cnd_f | apply Cnd_not | apply Cnd_some | apply Cnd_none | apply Gd_nt | apply Gd_nf | apply Gd_some | apply Gd_none | apply Gd_want) | refine U_ar rfl rfl rfl (wrap_i64 (by omega)) rfl ?_ | refine U_pure E rfl rfl ?_ | refine T_exit rfl ?_ | refine T_condV rfl ?_ | refine U_guard rfl rfl ?_ | ((with_reducible refine Gd_skipT ?_ ?_); exact rfl) | ((with_reducible refine Gd_skipF ?_ ?_); exact rfl))
    refine U_buildSlice0 E rfl rfl rfl ?_
    intro b w1 hn1
    have hs := hsl.mv hn1.kept (fun _ _ _ x => x)
    have hr0 : Row w1 (fresh w) (.slice (some ⟨b, 0, none⟩) 0 0) 257 0 [] 103 :=
      ⟨by simp, .inr ⟨b, 0, [], rfl, by have := hn1.at_; simp only [fresh]; omega, hn1.blk, rfl, Nat.le_refl _⟩⟩
    repeat (first | (with_reducible first | apply T_seq | apply T_region | apply U_nil | apply T_skip | apply T_block | apply T_inBlock | apply Cnd_t | apply Cnd_f | apply Cnd_not | apply Cnd_some | apply Cnd_none | apply Gd_nt | apply Gd_nf | apply Gd_some | apply Gd_none | apply Gd_want) | refine U_ar rfl rfl rfl (wrap_i64 (by omega)) rfl ?_ | refine U_pure E rfl rfl ?_ | refine T_exit rfl ?_ | refine T_condV rfl ?_ | refine U_guard rfl rfl ?_ | ((with_reducible refine Gd_skipT ?_ ?_); exact rfl) | ((with_reducible refine Gd_skipF ?_ ?_); exact rfl))
    refine U_append E hr0 hs h1 rfl rfl rfl rfl rfl (by omega) (by omega) rfl ?_
    intro v' w2 hr2 hk hz hob
    repeat (first | (with_reducible first | apply T_seq | apply T_region | apply U_nil | apply T_skip | apply T_block | apply T_inBlock | apply Cnd_t | apply Cnd_f | apply Cnd_not | apply Cnd_some | apply Cnd_none | apply Gd_nt | apply Gd_nf | apply Gd_some | apply Gd_none | apply Gd_want) | refine U_ar rfl rfl rfl (wrap_i64 (by omega)) rfl ?_ | refine U_pure E rfl rfl ?_ | refine T_exit rfl ?_ | refine T_condV rfl ?_ | refine U_guard rfl rfl ?_ | ((with_reducible refine Gd_skipT ?_ ?_); exact rfl) | ((with_reducible refine Gd_skipF ?_ ?_); exact rfl))
    refine T_ret1 Tryd.func73 rfl rfl ⟨_, rfl, hn1.kept.tr hk (fun j hj e => ?_), ?_⟩
    · have := hr0.own j e
      have := this.1
      simp only [fresh] at this
      omega
    · have := hr2.mono (G := fresh w) (fun j _ e => e.elim (fun x => x) (fun x => Nat.le_trans hn1.kept.size x))
      simpa using this

theorem copy_c (w : World) (F : Nat → Prop) (hb : Nat) (D : Dr) (h : IsD w F hb D) :
    Calls Tryd.prog 30 [ptr hb].toArray w (Ret fun r w' => Kept none0 w w' ∧ ∃ hb', r = ptr hb' ∧ IsD w' (fresh w) hb' { D with left := -1 }) := by
  obtain ⟨h0, vl, vw, h1, h2, h3, h4⟩ := h
  have hn1 := h0.n1
  have hn2 := h0.n2
  have hwn := h0.wn
  have hone : ∀ u ∈ (D.l.map encBs).flatten, u.oneCell' = true := by
    intro u hu
    obtain ⟨s, hs, hu⟩ := List.mem_flatten.1 hu
    obtain ⟨x, _, rfl⟩ := List.mem_map.1 hs
    exact encBs_one x u hu
  have honew : ∀ u ∈ (D.wait.map encW).flatten, u.oneCell' = true := by
    intro u hu
    obtain ⟨s, hs, hu⟩ := List.mem_flatten.1 hu
    obtain ⟨x, _, rfl⟩ := List.mem_map.1 hs
    exact encW_one x u hu
  refine calls_T Tryd.func30 rfl rfl rfl ?_
  unfold ptr at *
  repeat (first | (with_reducible first | apply T_seq | apply T_region | apply U_nil | apply T_skip | apply T_block | apply T_inBlock | apply Cnd_t | apply Cnd_f | apply Cnd_not | apply Cnd_some | apply Cnd_none | apply Gd_nt | apply Gd_nf | apply Gd_some | apply Gd_none | apply Gd_want) | refine U_ar rfl rfl rfl (wrap_i64 (by omega)) rfl ?_ | refine U_pure E rfl rfl ?_ | refine T_exit rfl ?_ | refine T_condV rfl ?_ | refine U_guard rfl rfl ?_ | ((with_reducible refine Gd_skipT ?_ ?_); exact rfl) | ((with_reducible refine Gd_skipF ?_ ?_); exact rfl))
  refine L_begin (fun w' => Blk w' hb [vl, vw, .int .i64 D.left] 99) 13 (by kernel_rfl) (N := 13) rfl (fun w1 hd1 => ?_)
  have hk1 := hd1.kept none0
  have h21 := h2.mv hk1 (fun x => x)
  refine L_take 0 rfl (by kernel_rfl) (by kernel_rfl) (by kernel_rfl) (by kernel_rfl) h21 rfl rfl rfl (fun a ha w' _ => run_pv E ha rfl _ _ _ _ _) ?_
  refine L_take 1 rfl (by kernel_rfl) (by kernel_rfl) (by kernel_rfl) (by kernel_rfl) h21 rfl rfl rfl (fun a ha w' _ => run_pv E ha rfl _ _ _ _ _) ?_
  refine L_take 2 rfl (by kernel_rfl) (by kernel_rfl) (by kernel_rfl) (by kernel_rfl) h21 rfl rfl rfl (fun a ha w' _ => run_pv E ha rfl _ _ _ _ _) ?_
  refine L_take 3 rfl (by kernel_rfl) (by kernel_rfl) (by kernel_rfl) (by kernel_rfl) h21 rfl rfl rfl (fun a ha w' hw => ro_loadB (o := 0) E hw rfl rfl rfl rfl a ha) ?_
  refine L_take 5 rfl (by kernel_rfl) (by kernel_rfl) (by kernel_rfl) (by kernel_rfl) h21 rfl rfl rfl (fun a ha w' _ => run_pv E ha rfl _ _ _ _ _) ?_
  refine L_take 6 rfl (by kernel_rfl) (by kernel_rfl) (by kernel_rfl) (by kernel_rfl) h21 rfl rfl rfl (fun a ha w' _ => run_pv E ha rfl _ _ _ _ _) ?_
  refine L_take 7 rfl (by kernel_rfl) (by kernel_rfl) (by kernel_rfl) (by kernel_rfl) h21 rfl rfl rfl (fun a ha w' _ => run_pv E ha rfl _ _ _ _ _) ?_
  refine L_take 8 rfl (by kernel_rfl) (by kernel_rfl) (by kernel_rfl) (by kernel_rfl) h21 rfl rfl rfl (fun a ha w' hw => ro_loadB (o := 1) E hw rfl rfl rfl rfl a ha) ?_
  refine L_op 4 (by kernel_rfl) rfl (fun hc4 => ?_)
  refine U_call rfl rfl (Tryd.call72 _) (clone_c w1 _ _ _ _ (h3.mv hk1 (fun _ _ _ x => x)) hn1 hn2 hone) ?_
  rintro r1 w2 ⟨hk2, hr1⟩
  have hr1 := hr1.mono (G := fun j => w1.heap.size ≤ j ∧ j < w2.heap.size) (fun b hb h => ⟨h, hb⟩)
  have hk12 : Kept none0 w w2 := hk1.tr hk2 (fun _ _ x => x)
  have h22 := h21.mv hk2 (fun x => x)
  refine U_nilL hc4 (fun _ => h22) ?_
  refine L_op 9 (by kernel_rfl) rfl (fun hc9 => ?_)
  refine U_call rfl rfl (Tryd.call73 _) (clonew_c w2 _ _ _ _ (h4.mv hk12 (fun _ _ _ x => x)) hwn honew) ?_
  rintro r2 w3 ⟨hk3, hr2⟩
  have hr2 := hr2.mono (G := fun j => w2.heap.size ≤ j ∧ j < w3.heap.size) (fun b hb h => ⟨h, hb⟩)
  have hk13 : Kept none0 w w3 := hk12.tr hk3 (fun _ _ x => x)
  have h23 := h22.mv hk3 (fun x => x)
  refine U_nilL hc9 (fun _ => h23) ?_
  have hr1' := hr1.mv hk3 (fun _ _ _ x => x)
  obtain ⟨A1, c1, rfl⟩ := hr1.val
  obtain ⟨A2, c2, rfl⟩ := hr2.val
  refine L_op 10 (by kernel_rfl) rfl (fun hc10 => ?_)
  refine U_build (cells := [.slice A1 D.l.length c1, .slice A2 D.wait.length c2, .int .i64 (-1)]) rfl (by kernel_rfl) rfl ?_
  refine U_nilL hc10 (fun _ => h23) ?_
  refine L_op 11 (by kernel_rfl) rfl (fun hc11 => ?_)
  refine U_box E rfl rfl rfl ?_
  intro ho w4 hn4
  have h24 := h23.mv hn4.kept (fun x => x)
  have e4 := hn4.at_
  have s12 := hk12.size
  have s13 := hk13.size
  have s3 := hk3.size
  have s1 := hk1.size
  refine U_nilL hc11 (fun _ => h24) ?_
  refine L_take 12 rfl (by kernel_rfl) (by kernel_rfl) (by kernel_rfl) (by kernel_rfl) h24 rfl rfl rfl (fun a ha w' _ => run_pv E ha rfl _ _ _ _ _) ?_
  refine L_done (by kernel_rfl) ?_
  repeat (first | (with_reducible first | apply T_seq | apply T_region | apply U_nil | apply T_skip | apply T_block | apply T_inBlock | apply Cnd_t | apply Cnd_f | apply Cnd_not | apply Cnd_some | apply Cnd_none | apply Gd_nt | apply Gd_nf | apply Gd_some | apply Gd_none | apply Gd_want) | refine U_ar rfl rfl rfl (wrap_i64 (by omega)) rfl ?_ | refine U_pure E rfl rfl ?_ | refine T_exit rfl ?_ | refine T_condV rfl ?_ | refine U_guard rfl rfl ?_ | ((with_reducible refine Gd_skipT ?_ ?_); exact rfl) | ((with_reducible refine Gd_skipF ?_ ?_); exact rfl))
  refine T_ret1 Tryd.func30 rfl rfl ⟨_, rfl, hk13.tr hn4.kept (fun _ _ x => x), ho, rfl, ⟨h0.n1, h0.n2, h0.secs, h0.waits, h0.wn, by dsimp only; omega, by dsimp only; omega⟩, _, _, ?_, hn4.blk, ?_, ?_⟩
  · simp only [fresh]; omega
  · exact (hr1'.mv hn4.kept (fun _ _ _ x => x)).mono (fun b hb' h => ⟨by simp only [fresh]; omega, fun e => by omega⟩)
  · exact (hr2.mv hn4.kept (fun _ _ _ x => x)).mono (fun b hb' h => ⟨by simp only [fresh]; omega, fun e => by omega, fun e => by have := (hr1.own b e).1; omega⟩)
end Go.Proofs.YtoefhdaenaiomaaDoor

/- The document's drum: an act; the ones that set little. -/
namespace Go.Proofs.YtoefhdaenaiomaaDoor
open Go
set_option maxRecDepth 20000

/-- Is the place there? -/
def thr (a : XAct) (X : XS) : Bool := decide (0 ≤ a.at_) && decide (a.at_ < X.first.length)
theorem thr_t {a : XAct} {X : XS} {fs : List Value} (h : decide (a.at_ ≥ 0) = true) (hf : fs.length = X.first.length) : thr a X = decide (a.at_ < (fs.length : Int)) := by
  rw [thr, hf, show decide (0 ≤ a.at_) = true from h, Bool.true_and]
theorem thr_f {a : XAct} {X : XS} (h : decide (a.at_ ≥ 0) = false) : thr a X = false := by
  rw [thr, show decide (0 ≤ a.at_) = false from h, Bool.false_and]
theorem thr_iff {a : XAct} {X : XS} : thr a X = true ↔ 0 ≤ a.at_ ∧ a.at_ < X.first.length := by simp [thr]
/-- What a call answers. -/
def XR (w : World) (G : Nat → Prop) (xb : Nat) (e : Nat) (X' : XS) (r : Value) (w' : World) : Prop := ∃ xb' vf vd, r = .tuple #[ptr xb', .int .i64 e] ∧ Kept G w w' ∧ XM w' (fun b => G b ∨ w.heap.size ≤ b) xb' vf vd X'
theorem XR.self {w w' : World} {G : Nat → Prop} {xb : Nat} {vf vd : Value} {X : XS} {e : Nat} (h : XM w' G xb vf vd X) (k : Kept G w w') : XR w G xb e X (.tuple #[.pointer (some ⟨xb, 0, none⟩), .int .i64 e]) w' :=
  ⟨xb, vf, vd, rfl, k, h.mono (fun _ _ e => .inl e)⟩

set_option maxHeartbeats 4000000 in
theorem xarm_c {w : World} {G : Nat → Prop} {xb : Nat} {vf vd : Value} {X : XS} (h : XM w G xb vf vd X) (a : XAct) (hd : a.d % 7 = 6) (hn : a.n ≤ 9223372036854775807) :
    Calls Tryd.prog 33 [ptr xb, .agg a.cells.toArray].toArray w (Ret fun r w' => XR w G xb 0 { X with left := max a.n (-1) } r w') := by
  refine calls_T Tryd.func33 rfl rfl rfl ?_; refine T_seq ?_; refine T_region ?_; refine U_box E rfl rfl rfl ?_; intro ba w1 hn1; have eb1 := hn1.at_; have hba1 : Blk w1 ba a.cells 49 := hn1.blk; have s1 := hn1.size; have hX1 := h.same hn1.kept; have hB1 := hX1.blk; have hlen := h.len; obtain ⟨fs0, f01, f02, f03⟩ := h.fst; obtain ⟨B0, cb0, rfl⟩ := f02.val; unfold ptr at *; (repeat (first | (with_reducible first | apply T_seq | apply T_region | apply U_nil | apply T_skip | apply T_block | apply T_inBlock | apply Cnd_t | apply Cnd_f | apply Cnd_not | apply Cnd_some | apply Cnd_none | apply Gd_nt | apply Gd_nf | apply Gd_some | apply Gd_none | apply Gd_want) | refine U_ar rfl rfl rfl (wrap_k (by simp only [wrapOk]; omega)) rfl ?_ | refine U_cv E rfl rfl rfl (wrap_k (by simp only [wrapOk]; omega)) rfl ?_ | refine U_pure E rfl rfl ?_ | refine T_exit rfl ?_ | refine T_condV rfl ?_ | refine U_guard rfl rfl ?_ | ((with_reducible refine Gd_skipT ?_ ?_); exact rfl) | ((with_reducible refine Gd_skipF ?_ ?_); exact rfl))); refine T_viaK (α := Bool) (fun b => [(6, .bool b), (3, .pointer (some ⟨ba, 0, none⟩)), (0, .pointer (some ⟨xb, 0, none⟩))]) (fun b w' => b = thr a X ∧ Kept none0 w1 w') ?fin ?go; (case go => (intro k0 g0; refine L_begin (fun W => Blk W ba a.cells 49 ∧ Blk W xb [.slice B0 fs0.length cb0, vd, .int .i64 X.left] 111) 14 (by kernel_rfl) (N := 14) rfl (fun w2 hd2 => ?_); have k2 : Kept none0 w1 w2 := hd2.kept none0; have hS : Blk w2 ba a.cells 49 ∧ Blk w2 xb [.slice B0 fs0.length cb0, vd, .int .i64 X.left] 111 := ⟨hba1.mv k2 (fun x => x), hB1.mv k2 (fun x => x)⟩; refine L_take 0 rfl (by kernel_rfl) (by kernel_rfl) (by kernel_rfl) (by kernel_rfl) hS rfl rfl rfl (fun a ha w' _ => run_pv E ha rfl _ _ _ _ _) ?_; refine L_take 1 rfl (by kernel_rfl) (by kernel_rfl) (by kernel_rfl) (by kernel_rfl) hS rfl rfl rfl (fun a ha w' hS => ro_loadB E hS.1 rfl rfl rfl rfl a ha) ?_; refine L_take 2 rfl (by kernel_rfl) (by kernel_rfl) (by kernel_rfl) (by kernel_rfl) hS rfl rfl rfl (fun a ha w' _ => run_pv E ha rfl _ _ _ _ _) ?_; refine L_take 3 rfl (by kernel_rfl) (by kernel_rfl) (by kernel_rfl) (by kernel_rfl) hS rfl rfl rfl (fun a ha w' _ => run_pv E ha rfl _ _ _ _ _) ?_; refine L_splitB (g := 16) rfl (fun hp => ?tru) (fun hp => ?fls); (case tru => (refine L_takeG 4 rfl (by kernel_rfl) (by kernel_rfl) (by kernel_rfl) (by kernel_rfl) hS rfl rfl rfl rfl rfl (fun a ha w' _ => run_pv E ha rfl _ _ _ _ _) ?_; refine L_takeG 5 rfl (by kernel_rfl) (by kernel_rfl) (by kernel_rfl) (by kernel_rfl) hS rfl rfl rfl rfl rfl (fun a ha w' hS => ro_loadB E hS.1 rfl rfl rfl rfl a ha) ?_; refine L_takeG 6 rfl (by kernel_rfl) (by kernel_rfl) (by kernel_rfl) (by kernel_rfl) hS rfl rfl rfl rfl rfl (fun a ha w' _ => run_pv E ha rfl _ _ _ _ _) ?_; refine L_takeG 7 rfl (by kernel_rfl) (by kernel_rfl) (by kernel_rfl) (by kernel_rfl) hS rfl rfl rfl rfl rfl (fun a ha w' _ => run_pv E ha rfl _ _ _ _ _) ?_; refine L_takeG 8 rfl (by kernel_rfl) (by kernel_rfl) (by kernel_rfl) (by kernel_rfl) hS rfl rfl rfl rfl rfl (fun a ha w' _ => run_pv E ha rfl _ _ _ _ _) ?_; refine L_takeG 9 rfl (by kernel_rfl) (by kernel_rfl) (by kernel_rfl) (by kernel_rfl) hS rfl rfl rfl rfl rfl (fun a ha w' hS => ro_loadB E hS.2 rfl rfl rfl rfl a ha) ?_; refine L_takeG 10 rfl (by kernel_rfl) (by kernel_rfl) (by kernel_rfl) (by kernel_rfl) hS rfl rfl rfl rfl rfl (fun a ha w' _ => run_pv E ha rfl _ _ _ _ _) ?_; refine L_takeG 11 rfl (by kernel_rfl) (by kernel_rfl) (by kernel_rfl) (by kernel_rfl) hS rfl rfl rfl rfl rfl (fun a ha w' _ => run_pv E ha rfl _ _ _ _ _) ?_; refine L_take 12 rfl (by kernel_rfl) (by kernel_rfl) (by kernel_rfl) (by kernel_rfl) hS rfl rfl rfl (fun a ha w' _ => run_pv E ha rfl _ _ _ _ _) ?_; refine L_take 13 rfl (by kernel_rfl) (by kernel_rfl) (by kernel_rfl) (by kernel_rfl) hS rfl rfl rfl (fun a ha w' _ => run_pv E ha rfl _ _ _ _ _) ?_; refine L_done (by kernel_rfl) ?_; refine T.less ?_ (g0 (thr a X) w2 ⟨rfl, k2⟩); exact ⟨by rw [thr_t hp f01]; rfl, rfl, rfl, trivial⟩)); (case fls => (refine L_skipG 4 rfl (by kernel_rfl) (by kernel_rfl) (by kernel_rfl) (by kernel_rfl) hS rfl rfl rfl rfl rfl rfl ?_; refine L_skipG 5 rfl (by kernel_rfl) (by kernel_rfl) (by kernel_rfl) (by kernel_rfl) hS rfl rfl rfl rfl rfl rfl ?_; refine L_skipG 6 rfl (by kernel_rfl) (by kernel_rfl) (by kernel_rfl) (by kernel_rfl) hS rfl rfl rfl rfl rfl rfl ?_; refine L_skipG 7 rfl (by kernel_rfl) (by kernel_rfl) (by kernel_rfl) (by kernel_rfl) hS rfl rfl rfl rfl rfl rfl ?_; refine L_skipG 8 rfl (by kernel_rfl) (by kernel_rfl) (by kernel_rfl) (by kernel_rfl) hS rfl rfl rfl rfl rfl rfl ?_; refine L_skipG 9 rfl (by kernel_rfl) (by kernel_rfl) (by kernel_rfl) (by kernel_rfl) hS rfl rfl rfl rfl rfl rfl ?_; refine L_skipG 10 rfl (by kernel_rfl) (by kernel_rfl) (by kernel_rfl) (by kernel_rfl) hS rfl rfl rfl rfl rfl rfl ?_; refine L_skipG 11 rfl (by kernel_rfl) (by kernel_rfl) (by kernel_rfl) (by kernel_rfl) hS rfl rfl rfl rfl rfl rfl ?_; refine L_take 12 rfl (by kernel_rfl) (by kernel_rfl) (by kernel_rfl) (by kernel_rfl) hS rfl rfl rfl (fun a ha w' _ => run_pv E ha rfl _ _ _ _ _) ?_; refine L_take 13 rfl (by kernel_rfl) (by kernel_rfl) (by kernel_rfl) (by kernel_rfl) hS rfl rfl rfl (fun a ha w' _ => run_pv E ha rfl _ _ _ _ _) ?_; refine L_done (by kernel_rfl) ?_; refine T.less ?_ (g0 (thr a X) w2 ⟨rfl, k2⟩); exact ⟨by rw [thr_f hp]; rfl, rfl, rfl, trivial⟩)))); (case' fin => (rintro tb w2 ⟨htb, k2⟩; have k02 : Kept none0 w w2 := hn1.kept.tr k2 (fun _ _ x => x); have s2 := k2.size; have hba : Blk w2 ba a.cells 49 := hba1.mv k2 (fun x => x); have hX2 := h.same k02; have hB := hX2.blk; (repeat (first | (with_reducible first | apply T_seq | apply T_region | apply U_nil | apply T_skip | apply T_block | apply T_inBlock | apply Cnd_t | apply Cnd_f | apply Cnd_not | apply Cnd_some | apply Cnd_none | apply Gd_nt | apply Gd_nf | apply Gd_some | apply Gd_none | apply Gd_want) | refine U_ar rfl rfl rfl (wrap_k (by simp only [wrapOk]; omega)) rfl ?_ | refine U_cv E rfl rfl rfl (wrap_k (by simp only [wrapOk]; omega)) rfl ?_ | refine U_pure E rfl rfl ?_ | refine T_exit rfl ?_ | refine T_condV rfl ?_ | refine U_guard rfl rfl ?_ | ((with_reducible refine Gd_skipT ?_ ?_); exact rfl) | ((with_reducible refine Gd_skipF ?_ ?_); exact rfl))); refine U_loadB E hba rfl rfl rfl rfl rfl ?_; (repeat (first | (with_reducible first | apply T_seq | apply T_region | apply U_nil | apply T_skip | apply T_block | apply T_inBlock | apply Cnd_t | apply Cnd_f | apply Cnd_not | apply Cnd_some | apply Cnd_none | apply Gd_nt | apply Gd_nf | apply Gd_some | apply Gd_none | apply Gd_want) | refine U_ar rfl rfl rfl (wrap_k (by simp only [wrapOk]; omega)) rfl ?_ | refine U_cv E rfl rfl rfl (wrap_k (by simp only [wrapOk]; omega)) rfl ?_ | refine U_pure E rfl rfl ?_ | refine T_exit rfl ?_ | refine T_condV rfl ?_ | refine U_guard rfl rfl ?_ | ((with_reducible refine Gd_skipT ?_ ?_); exact rfl) | ((with_reducible refine Gd_skipF ?_ ?_); exact rfl))); (refine U_run rfl rfl rfl (ro_bin (r := .int .u8 (a.d % 7 : Nat)) rfl rfl (by exact run_rem (y := 7) (by decide))) ?_); (repeat (first | (with_reducible first | apply T_seq | apply T_region | apply U_nil | apply T_skip | apply T_block | apply T_inBlock | apply Cnd_t | apply Cnd_f | apply Cnd_not | apply Cnd_some | apply Cnd_none | apply Gd_nt | apply Gd_nf | apply Gd_some | apply Gd_none | apply Gd_want) | refine U_ar rfl rfl rfl (wrap_k (by simp only [wrapOk]; omega)) rfl ?_ | refine U_cv E rfl rfl rfl (wrap_k (by simp only [wrapOk]; omega)) rfl ?_ | refine U_pure E rfl rfl ?_ | refine T_exit rfl ?_ | refine T_condV rfl ?_ | refine U_guard rfl rfl ?_ | ((with_reducible refine Gd_skipT ?_ ?_); exact rfl) | ((with_reducible refine Gd_skipF ?_ ?_); exact rfl)))))
  refine Cnd_p (fun h3 => ?_) (fun h3 => ?_)
  · exact absurd h3 (by omega)
  repeat (first | (with_reducible first | apply T_seq | apply T_region | apply U_nil | apply T_skip | apply T_block | apply T_inBlock | apply Cnd_t | apply Cnd_f | apply Cnd_not | apply Cnd_some | apply Cnd_none | apply Gd_nt | apply Gd_nf | apply Gd_some | apply Gd_none | apply Gd_want) | refine U_ar rfl rfl rfl (wrap_k (by simp only [wrapOk]; omega)) rfl ?_ | refine U_cv E rfl rfl rfl (wrap_k (by simp only [wrapOk]; omega)) rfl ?_ | refine U_pure E rfl rfl ?_ | refine T_exit rfl ?_ | refine T_condV rfl ?_ | refine U_guard rfl rfl ?_ | ((with_reducible refine Gd_skipT ?_ ?_); exact rfl) | ((with_reducible refine Gd_skipF ?_ ?_); exact rfl))
  refine Cnd_p (fun h4 => ?_) (fun h4 => ?_)
  · exact absurd h4 (by omega)
  repeat (first | (with_reducible first | apply T_seq | apply T_region | apply U_nil | apply T_skip | apply T_block | apply T_inBlock | apply Cnd_t | apply Cnd_f | apply Cnd_not | apply Cnd_some | apply Cnd_none | apply Gd_nt | apply Gd_nf | apply Gd_some | apply Gd_none | apply Gd_want) | refine U_ar rfl rfl rfl (wrap_k (by simp only [wrapOk]; omega)) rfl ?_ | refine U_cv E rfl rfl rfl (wrap_k (by simp only [wrapOk]; omega)) rfl ?_ | refine U_pure E rfl rfl ?_ | refine T_exit rfl ?_ | refine T_condV rfl ?_ | refine U_guard rfl rfl ?_ | ((with_reducible refine Gd_skipT ?_ ?_); exact rfl) | ((with_reducible refine Gd_skipF ?_ ?_); exact rfl))
  refine Cnd_p (fun h5 => ?_) (fun h5 => ?_)
  · exact absurd h5 (by omega)
  repeat (first | (with_reducible first | apply T_seq | apply T_region | apply U_nil | apply T_skip | apply T_block | apply T_inBlock | apply Cnd_t | apply Cnd_f | apply Cnd_not | apply Cnd_some | apply Cnd_none | apply Gd_nt | apply Gd_nf | apply Gd_some | apply Gd_none | apply Gd_want) | refine U_ar rfl rfl rfl (wrap_k (by simp only [wrapOk]; omega)) rfl ?_ | refine U_cv E rfl rfl rfl (wrap_k (by simp only [wrapOk]; omega)) rfl ?_ | refine U_pure E rfl rfl ?_ | refine T_exit rfl ?_ | refine T_condV rfl ?_ | refine U_guard rfl rfl ?_ | ((with_reducible refine Gd_skipT ?_ ?_); exact rfl) | ((with_reducible refine Gd_skipF ?_ ?_); exact rfl))
  refine Cnd_p (fun h6 => ?_) (fun h6 => absurd (by omega) h6)
  repeat (first | (with_reducible first | apply T_seq | apply T_region | apply U_nil | apply T_skip | apply T_block | apply T_inBlock | apply Cnd_t | apply Cnd_f | apply Cnd_not | apply Cnd_some | apply Cnd_none | apply Gd_nt | apply Gd_nf | apply Gd_some | apply Gd_none | apply Gd_want) | refine U_ar rfl rfl rfl (wrap_k (by simp only [wrapOk]; omega)) rfl ?_ | refine U_cv E rfl rfl rfl (wrap_k (by simp only [wrapOk]; omega)) rfl ?_ | refine U_pure E rfl rfl ?_ | refine T_exit rfl ?_ | refine T_condV rfl ?_ | refine U_guard rfl rfl ?_ | ((with_reducible refine Gd_skipT ?_ ?_); exact rfl) | ((with_reducible refine Gd_skipF ?_ ?_); exact rfl))
  refine U_loadB E hba rfl rfl rfl rfl rfl ?_
  repeat (first | (with_reducible first | apply T_seq | apply T_region | apply U_nil | apply T_skip | apply T_block | apply T_inBlock | apply Cnd_t | apply Cnd_f | apply Cnd_not | apply Cnd_some | apply Cnd_none | apply Gd_nt | apply Gd_nf | apply Gd_some | apply Gd_none | apply Gd_want) | refine U_ar rfl rfl rfl (wrap_k (by simp only [wrapOk]; omega)) rfl ?_ | refine U_cv E rfl rfl rfl (wrap_k (by simp only [wrapOk]; omega)) rfl ?_ | refine U_pure E rfl rfl ?_ | refine T_exit rfl ?_ | refine T_condV rfl ?_ | refine U_guard rfl rfl ?_ | ((with_reducible refine Gd_skipT ?_ ?_); exact rfl) | ((with_reducible refine Gd_skipF ?_ ?_); exact rfl))
  refine U_run rfl rfl rfl (ro_max (r := max a.n (-1)) rfl rfl (by split <;> omega)) ?_
  repeat (first | (with_reducible first | apply T_seq | apply T_region | apply U_nil | apply T_skip | apply T_block | apply T_inBlock | apply Cnd_t | apply Cnd_f | apply Cnd_not | apply Cnd_some | apply Cnd_none | apply Gd_nt | apply Gd_nf | apply Gd_some | apply Gd_none | apply Gd_want) | refine U_ar rfl rfl rfl (wrap_k (by simp only [wrapOk]; omega)) rfl ?_ | refine U_cv E rfl rfl rfl (wrap_k (by simp only [wrapOk]; omega)) rfl ?_ | refine U_pure E rfl rfl ?_ | refine T_exit rfl ?_ | refine T_condV rfl ?_ | refine U_guard rfl rfl ?_ | ((with_reducible refine Gd_skipT ?_ ?_); exact rfl) | ((with_reducible refine Gd_skipF ?_ ?_); exact rfl))
  refine U_store E (hB) rfl rfl rfl (by simp) rfl ?_
  intro w3 hu3
  repeat (first | (with_reducible first | apply T_seq | apply T_region | apply U_nil | apply T_skip | apply T_block | apply T_inBlock | apply Cnd_t | apply Cnd_f | apply Cnd_not | apply Cnd_some | apply Cnd_none | apply Gd_nt | apply Gd_nf | apply Gd_some | apply Gd_none | apply Gd_want) | refine U_ar rfl rfl rfl (wrap_k (by simp only [wrapOk]; omega)) rfl ?_ | refine U_cv E rfl rfl rfl (wrap_k (by simp only [wrapOk]; omega)) rfl ?_ | refine U_pure E rfl rfl ?_ | refine T_exit rfl ?_ | refine T_condV rfl ?_ | refine U_guard rfl rfl ?_ | ((with_reducible refine Gd_skipT ?_ ?_); exact rfl) | ((with_reducible refine Gd_skipF ?_ ?_); exact rfl))
  refine T_ret2 Tryd.func33 rfl rfl rfl ⟨_, rfl, XR.self (vf := .slice B0 fs0.length cb0) (vd := vd) ?_ ((k02.mono (fun _ _ x => x.elim)).tr hu3.kept (fun b _ (e : b = xb) => by rw [e]; exact h.mem))⟩
  exact ⟨h.mem, hu3.blk, hX2.fst.mv hu3.kept (fun b _ e (e2 : b = xb) => e.2 e2) (fun b _ e (e2 : b = xb) => e.2.1 e2), hX2.dds.mv hu3.kept (fun b _ e (e2 : b = xb) => e.2.1 e2) (fun b _ e (e2 : b = xb) => e.2.1 e2), h.len, by dsimp only; omega⟩
end Go.Proofs.YtoefhdaenaiomaaDoor
