/- Rows of one length, one behind the other: a row read, a row set. -/
import Derived.Test.YtoefhdaenaiomaaGreatDoorPk1
set_option linter.unusedVariables false
set_option linter.unusedSimpArgs false
namespace Go.Proofs.YtoefhdaenaiomaaGreatDoor
open Go
set_option maxRecDepth 20000

section
variable {α : Type} {sz : Nat}
theorem flat_take : ∀ (segs : List (List α)) (k : Nat), (∀ s ∈ segs, s.length = sz) → k ≤ segs.length → segs.flatten.take (k * sz) = (segs.take k).flatten
  | [], k, _, hk => by simp
  | s :: segs, 0, h, hk => by simp
  | s :: segs, k + 1, h, hk => by
    have hs : s.length = sz := h s (by simp)
    have ih := flat_take segs k (fun x hx => h x (by simp [hx])) (by simpa using hk)
    rw [List.flatten_cons, List.take_succ_cons, List.flatten_cons, List.take_append, Nat.succ_mul, List.take_of_length_le (by omega), hs, show k * sz + sz - sz = k * sz by omega, ih]
theorem flat_drop : ∀ (segs : List (List α)) (k : Nat), (∀ s ∈ segs, s.length = sz) → k ≤ segs.length → segs.flatten.drop (k * sz) = (segs.drop k).flatten
  | [], k, _, hk => by simp
  | s :: segs, 0, h, hk => by simp
  | s :: segs, k + 1, h, hk => by
    have hs : s.length = sz := h s (by simp)
    have ih := flat_drop segs k (fun x hx => h x (by simp [hx])) (by simpa using hk)
    rw [List.flatten_cons, List.drop_succ_cons, List.drop_append, Nat.succ_mul, List.drop_of_length_le (by omega), hs, show k * sz + sz - sz = k * sz by omega, ih, List.nil_append]
theorem flat_part (segs : List (List α)) (k : Nat) (h : ∀ s ∈ segs, s.length = sz) (hk : k < segs.length) (pad : List α) : ((segs.flatten ++ pad).drop (k * sz)).take sz = segs[k] := by
  have hl := flat_len segs h
  have hle : k * sz ≤ segs.flatten.length := by rw [hl]; exact Nat.mul_le_mul_right _ (by omega)
  rw [List.drop_append_of_le_length hle, flat_drop segs k h (by omega), List.drop_eq_getElem_cons hk, List.flatten_cons, List.append_assoc]
  exact List.take_left' (h _ (List.getElem_mem hk))
theorem flat_set (segs : List (List α)) (k : Nat) (s : List α) (h : ∀ s ∈ segs, s.length = sz) (hk : k < segs.length) (pad : List α) :
    (segs.flatten ++ pad).take (k * sz) ++ s ++ (segs.flatten ++ pad).drop (k * sz + sz) = (segs.set k s).flatten ++ pad := by
  have hl := flat_len segs h
  have hle : k * sz ≤ segs.flatten.length := by rw [hl]; exact Nat.mul_le_mul_right _ (by omega)
  have hle2 : (k + 1) * sz ≤ segs.flatten.length := by rw [hl]; exact Nat.mul_le_mul_right _ (by omega)
  rw [List.take_append_of_le_length hle, ← Nat.succ_mul, List.drop_append_of_le_length hle2, flat_take segs k h (by omega), flat_drop segs (k + 1) h (by omega), List.set_eq_take_append_cons_drop, if_pos hk]
  simp
/-- A row's end is set. -/
theorem flat_sub (segs : List (List α)) (k t : Nat) (x : List α) (h : ∀ s ∈ segs, s.length = sz) (hk : k < segs.length) (ht : t + x.length = sz) (pad : List α) :
    (segs.flatten ++ pad).take (k * sz + t) ++ x ++ (segs.flatten ++ pad).drop (k * sz + t + x.length) = (segs.set k (segs[k].take t ++ x)).flatten ++ pad := by
  rw [← flat_set segs k (segs[k].take t ++ x) h hk pad, List.take_add, ← flat_part segs k h hk pad, List.take_take, Nat.min_eq_left (by omega), Nat.add_assoc (k * sz) t, ht]
  simp
end
end Go.Proofs.YtoefhdaenaiomaaGreatDoor

/- Bytes as Lean lists, and the small functions of the references that go over them. -/
namespace Go.Proofs.YtoefhdaenaiomaaGreatDoor
open Go
set_option maxRecDepth 20000

def encB (b : UInt8) : Value := .int .u8 b.toNat
def encBs (l : List UInt8) : List Value := l.map encB

/-- A []byte that reads as l. -/
abbrev BS (w : World) (G : Nat → Prop) (v : Value) (l : List UInt8) : Prop := Sl w G v 1 l.length (encBs l)
/-- A []byte of the code's own. -/
abbrev BR (w : World) (F : Nat → Prop) (v : Value) (l : List UInt8) : Prop := Row w F v 1 l.length (encBs l) 5

theorem BR.nil (w : World) (F : Nat → Prop) : BR w F (.slice none 0 0) [] := Row.nil w F 1 _

theorem encBs_one (l : List UInt8) : ∀ u ∈ encBs l, u.oneCell' = true := by
  intro u hu
  obtain ⟨b, _, rfl⟩ := List.mem_map.1 hu
  rfl
theorem encBs_len (l : List UInt8) : (encBs l).length = l.length := List.length_map ..
theorem encBs_get (l : List UInt8) (i : Nat) : (encBs l)[i]? = (l[i]?).map encB := List.getElem?_map ..

def none0 : Nat → Prop := fun _ => False
/-- Blocks that are new since w. -/
def fresh (w : World) : Nat → Prop := fun b => w.heap.size ≤ b

theorem get_enc {l : List UInt8} {i : Nat} (h : i < l.length) : (encBs l)[i]? = some (encB l[i]) := by
  rw [encBs_get, List.getElem?_eq_getElem h]
  rfl
theorem toNat_get {l : List UInt8} {i : Nat} (h : i < l.length) : (encBs l)[(i : Int).toNat]? = some (encB l[i]) := by
  rw [Int.toNat_natCast]
  exact get_enc h

theorem take_snoc {α : Type} (l : List α) (i : Nat) (h : i < l.length) : l.take (i + 1) = l.take i ++ [l[i]] := by
  rw [List.take_succ_eq_append_getElem h]

theorem cut_c (w : World) (G : Nat → Prop) (v : Value) (l : List UInt8) (most : Int) (h : BS w G v l) (hm : most ≤ 1000000) :
    Calls Tryz.prog 5 [v, .int .i64 most].toArray w (Ret fun r w' => Kept none0 w w' ∧ BR w' (fresh w) r (l.take most.toNat)) := by
  refine calls_T Tryz.func5 rfl rfl rfl ?_
  obtain ⟨A, c, rfl⟩ := h.len
  have hlen := h.1
  repeat (first | (with_reducible first | apply T_seq | apply T_region | apply U_nil | apply T_skip | apply T_block | apply T_inBlock | apply Cnd_t | apply Cnd_f | apply Cnd_not | apply Cnd_some | apply Cnd_none | apply Gd_nt | apply Gd_nf | apply Gd_some | apply Gd_none | apply Gd_want) | refine U_ar rfl rfl rfl (wrap_i64 (by omega)) rfl ?_ | refine U_pure E rfl rfl ?_ | refine T_exit rfl ?_ | refine T_condV rfl ?_ | refine U_guard rfl rfl ?_ | ((with_reducible refine Gd_skipT ?_ ?_); exact rfl) | ((with_reducible refine Gd_skipF ?_ ?_); exact rfl))
  refine T_loop (α := Nat × Value × World) (fun x => [(10, .int .i64 x.1), (9, .int .i64 l.length), (8, .slice A l.length c), (5, x.2.1), (1, .int .i64 most)]) (fun x => x.2.2) (fun x => l.length - x.1)
    (fun x => x.1 ≤ l.length ∧ Kept none0 w x.2.2 ∧ BR x.2.2 (fresh w) x.2.1 ((l.take x.1).take most.toNat)) (0, .slice none 0 0, w) ⟨Nat.zero_le _, Kept.refl _ _, by simp only [List.take_zero, List.take_nil]; exact BR.nil w _⟩ ⟨rfl, rfl, rfl, rfl, rfl, trivial⟩ rfl ?_
  rintro ⟨i, v, w1⟩ ⟨hi, hk, hr⟩ ih
  dsimp only at hi hk hr ⊢
  repeat (first | (with_reducible first | apply T_seq | apply T_region | apply U_nil | apply T_skip | apply T_block | apply T_inBlock | apply Cnd_t | apply Cnd_f | apply Cnd_not | apply Cnd_some | apply Cnd_none | apply Gd_nt | apply Gd_nf | apply Gd_some | apply Gd_none | apply Gd_want) | refine U_ar rfl rfl rfl (wrap_i64 (by omega)) rfl ?_ | refine U_pure E rfl rfl ?_ | refine T_exit rfl ?_ | refine T_condV rfl ?_ | refine U_guard rfl rfl ?_ | ((with_reducible refine Gd_skipT ?_ ?_); exact rfl) | ((with_reducible refine Gd_skipF ?_ ?_); exact rfl))
  refine Cnd_p (fun hlt => ?_) (fun hlt => ?_)
  · have hlt' : i < l.length := by omega
    repeat (first | (with_reducible first | apply T_seq | apply T_region | apply U_nil | apply T_skip | apply T_block | apply T_inBlock | apply Cnd_t | apply Cnd_f | apply Cnd_not | apply Cnd_some | apply Cnd_none | apply Gd_nt | apply Gd_nf | apply Gd_some | apply Gd_none | apply Gd_want) | refine U_ar rfl rfl rfl (wrap_i64 (by omega)) rfl ?_ | refine U_pure E rfl rfl ?_ | refine T_exit rfl ?_ | refine T_condV rfl ?_ | refine U_guard rfl rfl ?_ | ((with_reducible refine Gd_skipT ?_ ?_); exact rfl) | ((with_reducible refine Gd_skipF ?_ ?_); exact rfl))
    refine U_idx E (h.mv hk (fun _ _ _ x => x)) rfl rfl rfl rfl (by omega) (by omega) ((toNat_get hlt')) rfl (fun p hp => ?_)
    refine U_load E rfl rfl rfl hp rfl ?_
    repeat (first | (with_reducible first | apply T_seq | apply T_region | apply U_nil | apply T_skip | apply T_block | apply T_inBlock | apply Cnd_t | apply Cnd_f | apply Cnd_not | apply Cnd_some | apply Cnd_none | apply Gd_nt | apply Gd_nf | apply Gd_some | apply Gd_none | apply Gd_want) | refine U_ar rfl rfl rfl (wrap_i64 (by omega)) rfl ?_ | refine U_pure E rfl rfl ?_ | refine T_exit rfl ?_ | refine T_condV rfl ?_ | refine U_guard rfl rfl ?_ | ((with_reducible refine Gd_skipT ?_ ?_); exact rfl) | ((with_reducible refine Gd_skipF ?_ ?_); exact rfl))
    refine Cnd_p (fun hmo => ?_) (fun hmo => ?_)
    · repeat (first | (with_reducible first | apply T_seq | apply T_region | apply U_nil | apply T_skip | apply T_block | apply T_inBlock | apply Cnd_t | apply Cnd_f | apply Cnd_not | apply Cnd_some | apply Cnd_none | apply Gd_nt | apply Gd_nf | apply Gd_some | apply Gd_none | apply Gd_want) | refine U_ar rfl rfl rfl (wrap_i64 (by omega)) rfl ?_ | refine U_pure E rfl rfl ?_ | refine T_exit rfl ?_ | refine T_condV rfl ?_ | refine U_guard rfl rfl ?_ | ((with_reducible refine Gd_skipT ?_ ?_); exact rfl) | ((with_reducible refine Gd_skipF ?_ ?_); exact rfl))
      refine U_buildSlice E rfl rfl rfl rfl rfl rfl rfl rfl (segs := [[encB l[i]]]) rfl (by simp) rfl ?_
      intro b w2 hn
      have hk2 := hk.tr hn.kept (fun _ _ x => x)
      have hr2 := hr.mv hn.kept (fun _ _ _ x => x)
      have hlit : Sl w2 (fun x => x = b) (.slice (some ⟨b, 0, none⟩) 1 1) 1 1 [encB l[i]] := ⟨by omega, rfl, _, 1, rfl, Nat.le_refl _, .inr ⟨b, 0, rfl, rfl, hn.blk.lt, hn.blk.seg 0 1⟩⟩
      have htl : ((l.take i).take most.toNat).length ≤ 1000000 := by simp; omega
      refine U_append E hr2 hlit (by simp [encB, Value.oneCell']) rfl rfl rfl rfl rfl (by omega) (by omega) rfl ?_
      intro v' w3 hr3 hk3 _ hob
      have hk3' : Kept none0 w w3 := hk2.tr hk3 (fun j hj hv => by have := (hr2.own j hv).1; simp only [fresh] at this; omega)
      repeat (first | (with_reducible first | apply T_seq | apply T_region | apply U_nil | apply T_skip | apply T_block | apply T_inBlock | apply Cnd_t | apply Cnd_f | apply Cnd_not | apply Cnd_some | apply Cnd_none | apply Gd_nt | apply Gd_nf | apply Gd_some | apply Gd_none | apply Gd_want) | refine U_ar rfl rfl rfl (wrap_i64 (by omega)) rfl ?_ | refine U_pure E rfl rfl ?_ | refine T_exit rfl ?_ | refine T_condV rfl ?_ | refine U_guard rfl rfl ?_ | ((with_reducible refine Gd_skipT ?_ ?_); exact rfl) | ((with_reducible refine Gd_skipF ?_ ?_); exact rfl))
      refine T.less ?_ (ih (i + 1, v', w3) ?_ ?_)
      · exact ⟨rfl, rfl, rfl, rfl, rfl, trivial⟩
      · refine ⟨hlt', hk3', ?_⟩
        dsimp only
        have hsz := hk2.size
        have he : (l.take (i + 1)).take most.toNat = (l.take i).take most.toNat ++ [l[i]] := by
          rw [take_snoc l i hlt', List.take_append, List.take_of_length_le (by simp; omega), List.length_take, List.take_of_length_le (l := [l[i]]) (by simp; omega)]
        rw [he]
        have := hr3.mono (G := fresh w) (fun j _ hj => hj.elim (fun x => x) (fun x => Nat.le_trans hsz x))
        simpa [BR, encBs] using this
      · dsimp only
        omega
    · repeat (first | (with_reducible first | apply T_seq | apply T_region | apply U_nil | apply T_skip | apply T_block | apply T_inBlock | apply Cnd_t | apply Cnd_f | apply Cnd_not | apply Cnd_some | apply Cnd_none | apply Gd_nt | apply Gd_nf | apply Gd_some | apply Gd_none | apply Gd_want) | refine U_ar rfl rfl rfl (wrap_i64 (by omega)) rfl ?_ | refine U_pure E rfl rfl ?_ | refine T_exit rfl ?_ | refine T_condV rfl ?_ | refine U_guard rfl rfl ?_ | ((with_reducible refine Gd_skipT ?_ ?_); exact rfl) | ((with_reducible refine Gd_skipF ?_ ?_); exact rfl))
      refine T.less ?_ (ih (i + 1, v, w1) ?_ ?_)
      · exact ⟨rfl, rfl, rfl, rfl, rfl, trivial⟩
      · refine ⟨hlt', hk, ?_⟩
        dsimp only
        rw [take_snoc l i hlt', List.take_append_of_le_length (by simp; omega)]
        exact hr
      · dsimp only
        omega
  · repeat (first | (with_reducible first | apply T_seq | apply T_region | apply U_nil | apply T_skip | apply T_block | apply T_inBlock | apply Cnd_t | apply Cnd_f | apply Cnd_not | apply Cnd_some | apply Cnd_none | apply Gd_nt | apply Gd_nf | apply Gd_some | apply Gd_none | apply Gd_want) | refine U_ar rfl rfl rfl (wrap_i64 (by omega)) rfl ?_ | refine U_pure E rfl rfl ?_ | refine T_exit rfl ?_ | refine T_condV rfl ?_ | refine U_guard rfl rfl ?_ | ((with_reducible refine Gd_skipT ?_ ?_); exact rfl) | ((with_reducible refine Gd_skipF ?_ ?_); exact rfl))
    refine T_ret1 Tryz.func5 rfl rfl ⟨_, rfl, hk, ?_⟩
    have : i = l.length := by omega
    subst this
    simpa using hr

/-! ### A sector -/
def zeros (n : Nat) : List UInt8 := List.replicate n 0
theorem zeros_len (n : Nat) : (zeros n).length = n := List.length_replicate ..
theorem zeros_get (n i : Nat) : (zeros n)[i]? = if i < n then some 0 else none := List.getElem?_replicate ..
def sec (l : List UInt8) : List UInt8 := (l ++ zeros 256).take 256
theorem sec_len (l : List UInt8) : (sec l).length = 256 := by
  simp only [sec, List.length_take, List.length_append, zeros_len]
  omega
theorem sec_nil : sec [] = zeros 256 := by
  simp only [sec, List.nil_append]
  rw [List.take_of_length_le (Nat.le_of_eq (zeros_len 256))]
theorem flat_single {α : Type} (n : Nat) (a : α) : (List.replicate n [a]).flatten = List.replicate n a := by
  induction n with
  | zero => rfl
  | succ n ih => rw [List.replicate_succ, List.flatten_cons, ih, List.replicate_succ]; rfl
theorem sec_snoc (l : List UInt8) (i : Nat) (h : i < l.length) (hi : i < 256) : sec (l.take (i + 1)) = (sec (l.take i)).set i l[i] := by
  apply List.ext_getElem?
  intro j
  simp only [sec]
  rw [List.getElem?_set, List.getElem?_take, List.getElem?_take, List.getElem?_append, List.getElem?_append]
  simp only [List.length_take]
  rw [Nat.min_eq_left (by omega : i ≤ l.length), Nat.min_eq_left (by omega : i + 1 ≤ l.length)]
  by_cases hj : j < 256
  · rw [if_pos hj, if_pos hj]
    by_cases hji : i = j
    · subst hji
      rw [if_pos (by omega), if_pos rfl, if_pos (by simp only [List.length_take, List.length_append, zeros_len]; omega), List.getElem?_take, if_pos (by omega), List.getElem?_eq_getElem h]
    · rw [if_neg hji]
      by_cases h1 : j < i
      · rw [if_pos (by omega), if_pos h1, List.getElem?_take, List.getElem?_take, if_pos (by omega), if_pos h1]
      · rw [if_neg (by omega), if_neg h1, zeros_get, zeros_get, if_pos (by omega), if_pos (by omega)]
  · rw [if_neg hj, if_neg hj]
    by_cases hji : i = j
    · omega
    · rw [if_neg hji]
theorem sec_stop (l : List UInt8) (i : Nat) (hi : 256 ≤ i) : sec (l.take (i + 1)) = sec (l.take i) := by
  simp only [sec]
  by_cases h : i < l.length
  · rw [List.take_append_of_le_length (by rw [List.length_take]; omega), List.take_append_of_le_length (by rw [List.length_take]; omega), List.take_take, List.take_take, Nat.min_eq_left (by omega), Nat.min_eq_left (by omega)]
  · rw [List.take_of_length_le (l := l) (i := i + 1) (by omega), List.take_of_length_le (l := l) (i := i) (by omega)]

theorem encBs_zeros (n : Nat) : encBs (zeros n) = List.replicate n (.int .u8 0) := List.map_replicate ..
theorem encBs_set (l : List UInt8) (i : Nat) (b : UInt8) : encBs (l.set i b) = (encBs l).set i (encB b) := List.map_set ..

theorem full_c (w : World) (G : Nat → Prop) (v : Value) (l : List UInt8) (h : BS w G v l) :
    Calls Tryz.prog 71 [v].toArray w (Ret fun r w' => Kept none0 w w' ∧ ∃ b, w.heap.size ≤ b ∧ r = .slice (some ⟨b, 0, none⟩) 256 256 ∧ Blk w' b (encBs (sec l)) 5) := by
  refine calls_T Tryz.func71 rfl rfl rfl ?_
  obtain ⟨A, c, rfl⟩ := h.len
  have hlen := h.1
  repeat (first | (with_reducible first | apply T_seq | apply T_region | apply U_nil | apply T_skip | apply T_block | apply T_inBlock | apply Cnd_t | apply Cnd_f | apply Cnd_not | apply Cnd_some | apply Cnd_none | apply Gd_nt | apply Gd_nf | apply Gd_some | apply Gd_none | apply Gd_want) | refine U_ar rfl rfl rfl (wrap_i64 (by omega)) rfl ?_ | refine U_pure E rfl rfl ?_ | refine T_exit rfl ?_ | refine T_condV rfl ?_ | refine U_guard rfl rfl ?_ | ((with_reducible refine Gd_skipT ?_ ?_); exact rfl) | ((with_reducible refine Gd_skipF ?_ ?_); exact rfl))
  refine U_make E rfl rfl (zs := [.int .u8 0]) rfl (N := 256) rfl rfl (by decide) (by decide) rfl rfl rfl ?_
  intro b w1 hn
  have hb1 : Blk w1 b (encBs (sec [])) 5 := by
    have := hn.blk
    rw [flat_single] at this
    rw [sec_nil, encBs_zeros]
    exact this
  repeat (first | (with_reducible first | apply T_seq | apply T_region | apply U_nil | apply T_skip | apply T_block | apply T_inBlock | apply Cnd_t | apply Cnd_f | apply Cnd_not | apply Cnd_some | apply Cnd_none | apply Gd_nt | apply Gd_nf | apply Gd_some | apply Gd_none | apply Gd_want) | refine U_ar rfl rfl rfl (wrap_i64 (by omega)) rfl ?_ | refine U_pure E rfl rfl ?_ | refine T_exit rfl ?_ | refine T_condV rfl ?_ | refine U_guard rfl rfl ?_ | ((with_reducible refine Gd_skipT ?_ ?_); exact rfl) | ((with_reducible refine Gd_skipF ?_ ?_); exact rfl))
  refine T_loop (α := Nat × World) (fun x => [(9, .int .i64 x.1), (8, .int .i64 l.length), (7, .slice A l.length c), (3, .slice (some ⟨b, 0, none⟩) 256 256)]) (fun x => x.2) (fun x => l.length - x.1)
    (fun x => x.1 ≤ l.length ∧ Kept none0 w x.2 ∧ Blk x.2 b (encBs (sec (l.take x.1))) 5) (0, w1) ⟨Nat.zero_le _, hn.kept, hb1⟩ ⟨rfl, rfl, rfl, rfl, trivial⟩ rfl ?_
  rintro ⟨i, w2⟩ ⟨hi, hk, hb⟩ ih
  dsimp only at hi hk hb ⊢
  repeat (first | (with_reducible first | apply T_seq | apply T_region | apply U_nil | apply T_skip | apply T_block | apply T_inBlock | apply Cnd_t | apply Cnd_f | apply Cnd_not | apply Cnd_some | apply Cnd_none | apply Gd_nt | apply Gd_nf | apply Gd_some | apply Gd_none | apply Gd_want) | refine U_ar rfl rfl rfl (wrap_i64 (by omega)) rfl ?_ | refine U_pure E rfl rfl ?_ | refine T_exit rfl ?_ | refine T_condV rfl ?_ | refine U_guard rfl rfl ?_ | ((with_reducible refine Gd_skipT ?_ ?_); exact rfl) | ((with_reducible refine Gd_skipF ?_ ?_); exact rfl))
  refine Cnd_p (fun hlt => ?_) (fun hlt => ?_)
  · have hlt' : i < l.length := by omega
    repeat (first | (with_reducible first | apply T_seq | apply T_region | apply U_nil | apply T_skip | apply T_block | apply T_inBlock | apply Cnd_t | apply Cnd_f | apply Cnd_not | apply Cnd_some | apply Cnd_none | apply Gd_nt | apply Gd_nf | apply Gd_some | apply Gd_none | apply Gd_want) | refine U_ar rfl rfl rfl (wrap_i64 (by omega)) rfl ?_ | refine U_pure E rfl rfl ?_ | refine T_exit rfl ?_ | refine T_condV rfl ?_ | refine U_guard rfl rfl ?_ | ((with_reducible refine Gd_skipT ?_ ?_); exact rfl) | ((with_reducible refine Gd_skipF ?_ ?_); exact rfl))
    refine U_idx E (h.mv hk (fun _ _ _ x => x)) rfl rfl rfl rfl (by omega) (by omega) ((toNat_get hlt')) rfl (fun p hp => ?_)
    refine U_load E rfl rfl rfl hp rfl ?_
    repeat (first | (with_reducible first | apply T_seq | apply T_region | apply U_nil | apply T_skip | apply T_block | apply T_inBlock | apply Cnd_t | apply Cnd_f | apply Cnd_not | apply Cnd_some | apply Cnd_none | apply Gd_nt | apply Gd_nf | apply Gd_some | apply Gd_none | apply Gd_want) | refine U_ar rfl rfl rfl (wrap_i64 (by omega)) rfl ?_ | refine U_pure E rfl rfl ?_ | refine T_exit rfl ?_ | refine T_condV rfl ?_ | refine U_guard rfl rfl ?_ | ((with_reducible refine Gd_skipT ?_ ?_); exact rfl) | ((with_reducible refine Gd_skipF ?_ ?_); exact rfl))
    refine Cnd_p (fun hmo => ?_) (fun hmo => ?_)
    · repeat (first | (with_reducible first | apply T_seq | apply T_region | apply U_nil | apply T_skip | apply T_block | apply T_inBlock | apply Cnd_t | apply Cnd_f | apply Cnd_not | apply Cnd_some | apply Cnd_none | apply Gd_nt | apply Gd_nf | apply Gd_some | apply Gd_none | apply Gd_want) | refine U_ar rfl rfl rfl (wrap_i64 (by omega)) rfl ?_ | refine U_pure E rfl rfl ?_ | refine T_exit rfl ?_ | refine T_condV rfl ?_ | refine U_guard rfl rfl ?_ | ((with_reducible refine Gd_skipT ?_ ?_); exact rfl) | ((with_reducible refine Gd_skipF ?_ ?_); exact rfl))
      refine U_indexS E rfl rfl rfl rfl (by omega) (by omega) (o' := i) (by simp) rfl ?_
      refine U_store E (hb) rfl rfl rfl ((by rw [encBs_len, sec_len]; omega)) rfl ?_
      intro w3 hu
      repeat (first | (with_reducible first | apply T_seq | apply T_region | apply U_nil | apply T_skip | apply T_block | apply T_inBlock | apply Cnd_t | apply Cnd_f | apply Cnd_not | apply Cnd_some | apply Cnd_none | apply Gd_nt | apply Gd_nf | apply Gd_some | apply Gd_none | apply Gd_want) | refine U_ar rfl rfl rfl (wrap_i64 (by omega)) rfl ?_ | refine U_pure E rfl rfl ?_ | refine T_exit rfl ?_ | refine T_condV rfl ?_ | refine U_guard rfl rfl ?_ | ((with_reducible refine Gd_skipT ?_ ?_); exact rfl) | ((with_reducible refine Gd_skipF ?_ ?_); exact rfl))
      refine T.less ?_ (ih (i + 1, w3) ?_ ?_)
      · exact ⟨rfl, rfl, rfl, rfl, trivial⟩
      · refine ⟨hlt', hk.tr hu.kept (fun j hj hv => by have := hn.at_; omega), ?_⟩
        dsimp only
        rw [sec_snoc l i hlt' (by omega), encBs_set]
        exact hu.blk
      · dsimp only
        omega
    · repeat (first | (with_reducible first | apply T_seq | apply T_region | apply U_nil | apply T_skip | apply T_block | apply T_inBlock | apply Cnd_t | apply Cnd_f | apply Cnd_not | apply Cnd_some | apply Cnd_none | apply Gd_nt | apply Gd_nf | apply Gd_some | apply Gd_none | apply Gd_want) | refine U_ar rfl rfl rfl (wrap_i64 (by omega)) rfl ?_ | refine U_pure E rfl rfl ?_ | refine T_exit rfl ?_ | refine T_condV rfl ?_ | refine U_guard rfl rfl ?_ | ((with_reducible refine Gd_skipT ?_ ?_); exact rfl) | ((with_reducible refine Gd_skipF ?_ ?_); exact rfl))
      refine T.less ?_ (ih (i + 1, w2) ?_ ?_)
      · exact ⟨rfl, rfl, rfl, rfl, trivial⟩
      · refine ⟨hlt', hk, ?_⟩
        dsimp only
        rw [sec_stop l i (by omega)]
        exact hb
      · dsimp only
        omega
  · repeat (first | (with_reducible first | apply T_seq | apply T_region | apply U_nil | apply T_skip | apply T_block | apply T_inBlock | apply Cnd_t | apply Cnd_f | apply Cnd_not | apply Cnd_some | apply Cnd_none | apply Gd_nt | apply Gd_nf | apply Gd_some | apply Gd_none | apply Gd_want) | refine U_ar rfl rfl rfl (wrap_i64 (by omega)) rfl ?_ | refine U_pure E rfl rfl ?_ | refine T_exit rfl ?_ | refine T_condV rfl ?_ | refine U_guard rfl rfl ?_ | ((with_reducible refine Gd_skipT ?_ ?_); exact rfl) | ((with_reducible refine Gd_skipF ?_ ?_); exact rfl))
    have : i = l.length := by omega
    subst this
    rw [List.take_length] at hb
    exact T_ret1 Tryz.func71 rfl rfl ⟨_, rfl, hk, b, Nat.le_of_eq hn.at_.symm, rfl, hb⟩

/-! ### Same -/
theorem ofNat_get_ne {a b : UInt8} : ((a.toNat : Int) ≠ (b.toNat : Int)) ↔ a ≠ b := by
  constructor
  · intro h e
    exact h (by rw [e])
  · intro h e
    exact h (UInt8.toNat_inj.1 (by exact_mod_cast e))

theorem same_c (w : World) (G H : Nat → Prop) (v u : Value) (l l' : List UInt8) (h : BS w G v l) (h' : BS w H u l') :
    Calls Tryz.prog 39 [v, u].toArray w (fun e w' => e = .returned (.bool (decide (l = l'))) ∧ Drew w w') := by
  refine calls_T Tryz.func39 rfl rfl rfl ?_
  obtain ⟨A, c, rfl⟩ := h.len
  obtain ⟨B, c', rfl⟩ := h'.len
  have hlen := h.1
  have hlen' := h'.1
  repeat (first | (with_reducible first | apply T_seq | apply T_region | apply U_nil | apply T_skip | apply T_block | apply T_inBlock | apply Cnd_t | apply Cnd_f | apply Cnd_not | apply Cnd_some | apply Cnd_none | apply Gd_nt | apply Gd_nf | apply Gd_some | apply Gd_none | apply Gd_want) | refine U_ar rfl rfl rfl (wrap_i64 (by omega)) rfl ?_ | refine U_pure E rfl rfl ?_ | refine T_exit rfl ?_ | refine T_condV rfl ?_ | refine U_guard rfl rfl ?_ | ((with_reducible refine Gd_skipT ?_ ?_); exact rfl) | ((with_reducible refine Gd_skipF ?_ ?_); exact rfl))
  refine Cnd_p (fun hne => ?_) (fun hne => ?_)
  · repeat (first | (with_reducible first | apply T_seq | apply T_region | apply U_nil | apply T_skip | apply T_block | apply T_inBlock | apply Cnd_t | apply Cnd_f | apply Cnd_not | apply Cnd_some | apply Cnd_none | apply Gd_nt | apply Gd_nf | apply Gd_some | apply Gd_none | apply Gd_want) | refine U_ar rfl rfl rfl (wrap_i64 (by omega)) rfl ?_ | refine U_pure E rfl rfl ?_ | refine T_exit rfl ?_ | refine T_condV rfl ?_ | refine U_guard rfl rfl ?_ | ((with_reducible refine Gd_skipT ?_ ?_); exact rfl) | ((with_reducible refine Gd_skipF ?_ ?_); exact rfl))
    refine T_ret1 Tryz.func39 rfl rfl ⟨?_, Drew.refl w⟩
    have : l ≠ l' := fun e => hne (by rw [e])
    simp [this]
  · have hll : l.length = l'.length := by omega
    repeat (first | (with_reducible first | apply T_seq | apply T_region | apply U_nil | apply T_skip | apply T_block | apply T_inBlock | apply Cnd_t | apply Cnd_f | apply Cnd_not | apply Cnd_some | apply Cnd_none | apply Gd_nt | apply Gd_nf | apply Gd_some | apply Gd_none | apply Gd_want) | refine U_ar rfl rfl rfl (wrap_i64 (by omega)) rfl ?_ | refine U_pure E rfl rfl ?_ | refine T_exit rfl ?_ | refine T_condV rfl ?_ | refine U_guard rfl rfl ?_ | ((with_reducible refine Gd_skipT ?_ ?_); exact rfl) | ((with_reducible refine Gd_skipF ?_ ?_); exact rfl))
    refine T_loop (α := Nat × World) (fun x => [(13, .int .i64 x.1), (12, .int .i64 l.length), (1, .slice B l'.length c'), (0, .slice A l.length c)]) (fun x => x.2) (fun x => l.length - x.1)
      (fun x => x.1 ≤ l.length ∧ Drew w x.2 ∧ l.take x.1 = l'.take x.1) (0, w) ⟨Nat.zero_le _, Drew.refl _, by simp⟩ ⟨rfl, rfl, rfl, rfl, trivial⟩ rfl ?_
    rintro ⟨i, w2⟩ ⟨hi, hk, hb⟩ ih
    dsimp only at hi hk hb ⊢
    repeat (first | (with_reducible first | apply T_seq | apply T_region | apply U_nil | apply T_skip | apply T_block | apply T_inBlock | apply Cnd_t | apply Cnd_f | apply Cnd_not | apply Cnd_some | apply Cnd_none | apply Gd_nt | apply Gd_nf | apply Gd_some | apply Gd_none | apply Gd_want) | refine U_ar rfl rfl rfl (wrap_i64 (by omega)) rfl ?_ | refine U_pure E rfl rfl ?_ | refine T_exit rfl ?_ | refine T_condV rfl ?_ | refine U_guard rfl rfl ?_ | ((with_reducible refine Gd_skipT ?_ ?_); exact rfl) | ((with_reducible refine Gd_skipF ?_ ?_); exact rfl))
    refine Cnd_p (fun hlt => ?_) (fun hlt => ?_)
    · have hlt' : i < l.length := by omega
      have hlt2 : i < l'.length := by omega
      repeat (first | (with_reducible first | apply T_seq | apply T_region | apply U_nil | apply T_skip | apply T_block | apply T_inBlock | apply Cnd_t | apply Cnd_f | apply Cnd_not | apply Cnd_some | apply Cnd_none | apply Gd_nt | apply Gd_nf | apply Gd_some | apply Gd_none | apply Gd_want) | refine U_ar rfl rfl rfl (wrap_i64 (by omega)) rfl ?_ | refine U_pure E rfl rfl ?_ | refine T_exit rfl ?_ | refine T_condV rfl ?_ | refine U_guard rfl rfl ?_ | ((with_reducible refine Gd_skipT ?_ ?_); exact rfl) | ((with_reducible refine Gd_skipF ?_ ?_); exact rfl))
      refine T_quiet (by kernel_rfl) (by kernel_rfl) ?_; (repeat (first | refine V_ar rfl rfl rfl (wrap_i64 (by omega)) rfl ?_ | refine V_pure E rfl rfl ?_ | refine V_guard rfl rfl ?_ | with_reducible refine GdV_want ?_ | ((with_reducible refine GdV_skipT ?_ ?_); exact rfl) | ((with_reducible refine GdV_skipF ?_ ?_); exact rfl)))
      refine V_idx E ((h.mv (hk.kept none0) (fun _ _ _ x => x))) rfl rfl rfl rfl (by omega) (by omega) ((toNat_get hlt')) rfl (fun p hp => ?_)
      refine V_load E rfl rfl rfl (fun w' hw' => (by first | (rw [hw'.cell]; exact hp) | (subst hw'; exact hp))) rfl ?_
      repeat (first | refine V_ar rfl rfl rfl (wrap_i64 (by omega)) rfl ?_ | refine V_pure E rfl rfl ?_ | refine V_guard rfl rfl ?_ | with_reducible refine GdV_want ?_ | ((with_reducible refine GdV_skipT ?_ ?_); exact rfl) | ((with_reducible refine GdV_skipF ?_ ?_); exact rfl))
      refine V_idx E ((h'.mv (hk.kept none0) (fun _ _ _ x => x))) rfl rfl rfl rfl (by omega) (by omega) ((toNat_get hlt2)) rfl (fun q hq => ?_)
      refine V_load E rfl rfl rfl (fun w' hw' => (by first | (rw [hw'.cell]; exact hq) | (subst hw'; exact hq))) rfl ?_
      repeat (first | refine V_ar rfl rfl rfl (wrap_i64 (by omega)) rfl ?_ | refine V_pure E rfl rfl ?_ | refine V_guard rfl rfl ?_ | with_reducible refine GdV_want ?_ | ((with_reducible refine GdV_skipT ?_ ?_); exact rfl) | ((with_reducible refine GdV_skipF ?_ ?_); exact rfl))
      refine V_nilQ fun w3 hw3 => ?_
      repeat (first | (with_reducible first | apply T_seq | apply T_region | apply U_nil | apply T_skip | apply T_block | apply T_inBlock | apply Cnd_t | apply Cnd_f | apply Cnd_not | apply Cnd_some | apply Cnd_none | apply Gd_nt | apply Gd_nf | apply Gd_some | apply Gd_none | apply Gd_want) | refine U_ar rfl rfl rfl (wrap_i64 (by omega)) rfl ?_ | refine U_pure E rfl rfl ?_ | refine T_exit rfl ?_ | refine T_condV rfl ?_ | refine U_guard rfl rfl ?_ | ((with_reducible refine Gd_skipT ?_ ?_); exact rfl) | ((with_reducible refine Gd_skipF ?_ ?_); exact rfl))
      refine Cnd_p (fun hdf => ?_) (fun hdf => ?_)
      · repeat (first | (with_reducible first | apply T_seq | apply T_region | apply U_nil | apply T_skip | apply T_block | apply T_inBlock | apply Cnd_t | apply Cnd_f | apply Cnd_not | apply Cnd_some | apply Cnd_none | apply Gd_nt | apply Gd_nf | apply Gd_some | apply Gd_none | apply Gd_want) | refine U_ar rfl rfl rfl (wrap_i64 (by omega)) rfl ?_ | refine U_pure E rfl rfl ?_ | refine T_exit rfl ?_ | refine T_condV rfl ?_ | refine U_guard rfl rfl ?_ | ((with_reducible refine Gd_skipT ?_ ?_); exact rfl) | ((with_reducible refine Gd_skipF ?_ ?_); exact rfl))
        refine T_ret1 Tryz.func39 rfl rfl ⟨?_, hk.tr hw3⟩
        have : l ≠ l' := fun e => by
          subst e
          exact hdf rfl
        simp [this]
      · repeat (first | (with_reducible first | apply T_seq | apply T_region | apply U_nil | apply T_skip | apply T_block | apply T_inBlock | apply Cnd_t | apply Cnd_f | apply Cnd_not | apply Cnd_some | apply Cnd_none | apply Gd_nt | apply Gd_nf | apply Gd_some | apply Gd_none | apply Gd_want) | refine U_ar rfl rfl rfl (wrap_i64 (by omega)) rfl ?_ | refine U_pure E rfl rfl ?_ | refine T_exit rfl ?_ | refine T_condV rfl ?_ | refine U_guard rfl rfl ?_ | ((with_reducible refine Gd_skipT ?_ ?_); exact rfl) | ((with_reducible refine Gd_skipF ?_ ?_); exact rfl))
        refine T.less ?_ (ih (i + 1, w3) ?_ ?_)
        · exact ⟨rfl, rfl, rfl, rfl, trivial⟩
        · refine ⟨hlt', hk.tr hw3, ?_⟩
          dsimp only
          have : l[i] = l'[i] := Classical.byContradiction fun e => hdf (ofNat_get_ne.2 e)
          rw [take_snoc l i hlt', take_snoc l' i hlt2, hb, this]
        · dsimp only
          omega
    · repeat (first | (with_reducible first | apply T_seq | apply T_region | apply U_nil | apply T_skip | apply T_block | apply T_inBlock | apply Cnd_t | apply Cnd_f | apply Cnd_not | apply Cnd_some | apply Cnd_none | apply Gd_nt | apply Gd_nf | apply Gd_some | apply Gd_none | apply Gd_want) | refine U_ar rfl rfl rfl (wrap_i64 (by omega)) rfl ?_ | refine U_pure E rfl rfl ?_ | refine T_exit rfl ?_ | refine T_condV rfl ?_ | refine U_guard rfl rfl ?_ | ((with_reducible refine Gd_skipT ?_ ?_); exact rfl) | ((with_reducible refine Gd_skipF ?_ ?_); exact rfl))
      refine T_ret1 Tryz.func39 rfl rfl ⟨?_, hk⟩
      have : i = l.length := by omega
      subst this
      rw [List.take_length, hll, List.take_length] at hb
      simp [hb]
end Go.Proofs.YtoefhdaenaiomaaGreatDoor

/- The drum: what a value in memory stands for; its small functions. -/
namespace Go.Proofs.YtoefhdaenaiomaaGreatDoor
open Go
set_option maxRecDepth 20000

/-- A drum: sectors as they are flushed, writes that are not, how many acts more go well. -/
structure Dr where
  l : List (List UInt8)
  wait : List (Nat × List UInt8)
  left : Int

structure Dr.Ok (D : Dr) : Prop where
  n1 : 1 ≤ D.l.length
  n2 : D.l.length ≤ 8192
  secs : ∀ s ∈ D.l, s.length = 256
  waits : ∀ p ∈ D.wait, p.1 < D.l.length ∧ p.2.length = 256
  wn : D.wait.length ≤ 1000000
  left1 : -1 ≤ D.left
  left2 : D.left ≤ 9223372036854775807

def encW (p : Nat × List UInt8) : List Value := .int .i64 p.1 :: encBs p.2
theorem encW_len (p : Nat × List UInt8) : (encW p).length = p.2.length + 1 := by simp [encW, encBs_len]

def ptr (b : Nat) : Value := .pointer (some ⟨b, 0, none⟩)
def errV : Nat → Value
  | 0 => .nilIface
  | k + 1 => .iface 43 (.int .i64 (k + 1 : Nat))

def IsD (w : World) (F : Nat → Prop) (hb : Nat) (D : Dr) : Prop :=
  D.Ok ∧ ∃ vl vw, F hb ∧ Blk w hb [vl, vw, .int .i64 D.left] 58 ∧ Row w (fun b => F b ∧ b ≠ hb) vl 256 D.l.length (D.l.map encBs).flatten 73 ∧
    Row w (fun b => F b ∧ b ≠ hb ∧ vl.ownBlock ≠ some b) vw 257 D.wait.length (D.wait.map encW).flatten 75

theorem IsD.mono {w : World} {F G : Nat → Prop} {hb : Nat} {D : Dr} (h : IsD w F hb D) (hg : ∀ b, b < w.heap.size → F b → G b) : IsD w G hb D := by
  obtain ⟨h0, vl, vw, h1, h2, h3, h4⟩ := h
  exact ⟨h0, vl, vw, hg _ h2.lt h1, h2, h3.mono (fun b hb h => ⟨hg b hb h.1, h.2⟩), h4.mono (fun b hb h => ⟨hg b hb h.1, h.2⟩)⟩
theorem IsD.mv {w w' : World} {F G : Nat → Prop} {hb : Nat} {D : Dr} (h : IsD w F hb D) (k : Kept G w w') (hd : ∀ b, b < w.heap.size → F b → ¬ G b) : IsD w' F hb D := by
  obtain ⟨h0, vl, vw, h1, h2, h3, h4⟩ := h
  exact ⟨h0, vl, vw, h1, h2.mv k (hd _ h2.lt h1), h3.mv k (fun b hb h => hd b hb h.1), h4.mv k (fun b hb h => hd b hb h.1)⟩
theorem IsD.lt {w : World} {F : Nat → Prop} {hb : Nat} {D : Dr} (h : IsD w F hb D) : hb < w.heap.size := by
  obtain ⟨h0, vl, vw, h1, h2, h3, h4⟩ := h
  exact h2.lt
theorem IsD.mem {w : World} {F : Nat → Prop} {hb : Nat} {D : Dr} (h : IsD w F hb D) : F hb := by
  obtain ⟨h0, vl, vw, h1, h2, h3, h4⟩ := h
  exact h1

theorem Row.pos {w : World} {F : Nat → Prop} {v : Value} {sz n : Nat} {cs : List Value} {e : TypeId} (h : Row w F v sz n cs e) (hn : 0 < n) :
    ∃ g cap pad, v = .slice (some ⟨g, 0, none⟩) n cap ∧ F g ∧ Blk w g (cs ++ pad) e ∧ (cs ++ pad).length = cap * sz ∧ n ≤ cap := by
  rcases h.2 with ⟨_, h0⟩ | h
  · omega
  · exact h
theorem Row.val {w : World} {F : Nat → Prop} {v : Value} {sz n : Nat} {cs : List Value} {e : TypeId} (h : Row w F v sz n cs e) : ∃ A c, v = .slice A n c := by
  rcases h.2 with ⟨rfl, rfl⟩ | ⟨g, cap, pad, rfl, _⟩
  · exact ⟨none, 0, rfl⟩
  · exact ⟨_, cap, rfl⟩

theorem fits_c (w : World) (F : Nat → Prop) (hb : Nat) (D : Dr) (i : Int) (h : IsD w F hb D) :
    Calls Tryz.prog 53 [ptr hb, .int .i64 i].toArray w (fun e w' => e = .returned (errV (if 0 ≤ i ∧ i < D.l.length then 0 else 7)) ∧ w' = w) := by
  obtain ⟨h0, vl, vw, h1, h2, h3, h4⟩ := h
  have hn1 := h0.n1
  obtain ⟨g, cap, pad, rfl, -, -, -, -⟩ := h3.pos hn1
  refine calls_T Tryz.func53 rfl rfl rfl ?_
  unfold ptr
  repeat (first | (with_reducible first | apply T_seq | apply T_region | apply U_nil | apply T_skip | apply T_block | apply T_inBlock | apply Cnd_t | apply Cnd_f | apply Cnd_not | apply Cnd_some | apply Cnd_none | apply Gd_nt | apply Gd_nf | apply Gd_some | apply Gd_none | apply Gd_want) | refine U_ar rfl rfl rfl (wrap_i64 (by omega)) rfl ?_ | refine U_pure E rfl rfl ?_ | refine T_exit rfl ?_ | refine T_condV rfl ?_ | refine U_guard rfl rfl ?_ | ((with_reducible refine Gd_skipT ?_ ?_); exact rfl) | ((with_reducible refine Gd_skipF ?_ ?_); exact rfl))
  refine Gd_p (fun hi => ?_) (fun hi => ?_)
  · repeat (first | (with_reducible first | apply T_seq | apply T_region | apply U_nil | apply T_skip | apply T_block | apply T_inBlock | apply Cnd_t | apply Cnd_f | apply Cnd_not | apply Cnd_some | apply Cnd_none | apply Gd_nt | apply Gd_nf | apply Gd_some | apply Gd_none | apply Gd_want) | refine U_ar rfl rfl rfl (wrap_i64 (by omega)) rfl ?_ | refine U_pure E rfl rfl ?_ | refine T_exit rfl ?_ | refine T_condV rfl ?_ | refine U_guard rfl rfl ?_ | ((with_reducible refine Gd_skipT ?_ ?_); exact rfl) | ((with_reducible refine Gd_skipF ?_ ?_); exact rfl))
    refine T_ret1 Tryz.func53 rfl rfl ⟨?_, rfl⟩
    rw [if_neg (by omega)]
    rfl
  · repeat (first | (with_reducible first | apply T_seq | apply T_region | apply U_nil | apply T_skip | apply T_block | apply T_inBlock | apply Cnd_t | apply Cnd_f | apply Cnd_not | apply Cnd_some | apply Cnd_none | apply Gd_nt | apply Gd_nf | apply Gd_some | apply Gd_none | apply Gd_want) | refine U_ar rfl rfl rfl (wrap_i64 (by omega)) rfl ?_ | refine U_pure E rfl rfl ?_ | refine T_exit rfl ?_ | refine T_condV rfl ?_ | refine U_guard rfl rfl ?_ | ((with_reducible refine Gd_skipT ?_ ?_); exact rfl) | ((with_reducible refine Gd_skipF ?_ ?_); exact rfl))
    refine U_loadB E (by assumption) rfl rfl rfl (by rfl) rfl ?_
    repeat (first | (with_reducible first | apply T_seq | apply T_region | apply U_nil | apply T_skip | apply T_block | apply T_inBlock | apply Cnd_t | apply Cnd_f | apply Cnd_not | apply Cnd_some | apply Cnd_none | apply Gd_nt | apply Gd_nf | apply Gd_some | apply Gd_none | apply Gd_want) | refine U_ar rfl rfl rfl (wrap_i64 (by omega)) rfl ?_ | refine U_pure E rfl rfl ?_ | refine T_exit rfl ?_ | refine T_condV rfl ?_ | refine U_guard rfl rfl ?_ | ((with_reducible refine Gd_skipT ?_ ?_); exact rfl) | ((with_reducible refine Gd_skipF ?_ ?_); exact rfl))
    refine Cnd_p (fun hc => ?_) (fun hc => ?_)
    · repeat (first | (with_reducible first | apply T_seq | apply T_region | apply U_nil | apply T_skip | apply T_block | apply T_inBlock | apply Cnd_t | apply Cnd_f | apply Cnd_not | apply Cnd_some | apply Cnd_none | apply Gd_nt | apply Gd_nf | apply Gd_some | apply Gd_none | apply Gd_want) | refine U_ar rfl rfl rfl (wrap_i64 (by omega)) rfl ?_ | refine U_pure E rfl rfl ?_ | refine T_exit rfl ?_ | refine T_condV rfl ?_ | refine U_guard rfl rfl ?_ | ((with_reducible refine Gd_skipT ?_ ?_); exact rfl) | ((with_reducible refine Gd_skipF ?_ ?_); exact rfl))
      refine T_ret1 Tryz.func53 rfl rfl ⟨?_, rfl⟩
      rw [if_neg (by omega)]
      rfl
    · repeat (first | (with_reducible first | apply T_seq | apply T_region | apply U_nil | apply T_skip | apply T_block | apply T_inBlock | apply Cnd_t | apply Cnd_f | apply Cnd_not | apply Cnd_some | apply Cnd_none | apply Gd_nt | apply Gd_nf | apply Gd_some | apply Gd_none | apply Gd_want) | refine U_ar rfl rfl rfl (wrap_i64 (by omega)) rfl ?_ | refine U_pure E rfl rfl ?_ | refine T_exit rfl ?_ | refine T_condV rfl ?_ | refine U_guard rfl rfl ?_ | ((with_reducible refine Gd_skipT ?_ ?_); exact rfl) | ((with_reducible refine Gd_skipF ?_ ?_); exact rfl))
      refine T_ret1 Tryz.func53 rfl rfl ⟨?_, rfl⟩
      rw [if_pos (by omega)]
      rfl

/-- One act more; what is left then; none: no act goes well any more. -/
def dec (n : Int) : Int := if n = -1 then -1 else n - 1

theorem act_c (w : World) (F : Nat → Prop) (hb : Nat) (D : Dr) (h : IsD w F hb D) :
    Calls Tryz.prog 43 [ptr hb].toArray w (Ret fun r w' => r = errV (if D.left = 0 then 8 else 0) ∧ Kept (fun b => b = hb) w w' ∧ w'.heap.size = w.heap.size ∧ IsD w' F hb (if D.left = 0 then D else { D with left := dec D.left })) := by
  have hD := h
  obtain ⟨h0, vl, vw, h1, h2, h3, h4⟩ := h
  have hl1 := h0.left1
  have hl2 := h0.left2
  refine calls_T Tryz.func43 rfl rfl rfl ?_
  unfold ptr
  repeat (first | (with_reducible first | apply T_seq | apply T_region | apply U_nil | apply T_skip | apply T_block | apply T_inBlock | apply Cnd_t | apply Cnd_f | apply Cnd_not | apply Cnd_some | apply Cnd_none | apply Gd_nt | apply Gd_nf | apply Gd_some | apply Gd_none | apply Gd_want) | refine U_ar rfl rfl rfl (wrap_i64 (by omega)) rfl ?_ | refine U_pure E rfl rfl ?_ | refine T_exit rfl ?_ | refine T_condV rfl ?_ | refine U_guard rfl rfl ?_ | ((with_reducible refine Gd_skipT ?_ ?_); exact rfl) | ((with_reducible refine Gd_skipF ?_ ?_); exact rfl))
  refine U_loadB E (by assumption) rfl rfl rfl (by rfl) rfl ?_
  repeat (first | (with_reducible first | apply T_seq | apply T_region | apply U_nil | apply T_skip | apply T_block | apply T_inBlock | apply Cnd_t | apply Cnd_f | apply Cnd_not | apply Cnd_some | apply Cnd_none | apply Gd_nt | apply Gd_nf | apply Gd_some | apply Gd_none | apply Gd_want) | refine U_ar rfl rfl rfl (wrap_i64 (by omega)) rfl ?_ | refine U_pure E rfl rfl ?_ | refine T_exit rfl ?_ | refine T_condV rfl ?_ | refine U_guard rfl rfl ?_ | ((with_reducible refine Gd_skipT ?_ ?_); exact rfl) | ((with_reducible refine Gd_skipF ?_ ?_); exact rfl))
  refine Cnd_p (fun hz => ?_) (fun hz => ?_)
  · repeat (first | (with_reducible first | apply T_seq | apply T_region | apply U_nil | apply T_skip | apply T_block | apply T_inBlock | apply Cnd_t | apply Cnd_f | apply Cnd_not | apply Cnd_some | apply Cnd_none | apply Gd_nt | apply Gd_nf | apply Gd_some | apply Gd_none | apply Gd_want) | refine U_ar rfl rfl rfl (wrap_i64 (by omega)) rfl ?_ | refine U_pure E rfl rfl ?_ | refine T_exit rfl ?_ | refine T_condV rfl ?_ | refine U_guard rfl rfl ?_ | ((with_reducible refine Gd_skipT ?_ ?_); exact rfl) | ((with_reducible refine Gd_skipF ?_ ?_); exact rfl))
    refine T_ret1 Tryz.func43 rfl rfl ⟨_, rfl, ?_, Kept.refl _ _, rfl, ?_⟩
    · rw [if_pos hz]; rfl
    · rw [if_pos hz]; exact hD
  · repeat (first | (with_reducible first | apply T_seq | apply T_region | apply U_nil | apply T_skip | apply T_block | apply T_inBlock | apply Cnd_t | apply Cnd_f | apply Cnd_not | apply Cnd_some | apply Cnd_none | apply Gd_nt | apply Gd_nf | apply Gd_some | apply Gd_none | apply Gd_want) | refine U_ar rfl rfl rfl (wrap_i64 (by omega)) rfl ?_ | refine U_pure E rfl rfl ?_ | refine T_exit rfl ?_ | refine T_condV rfl ?_ | refine U_guard rfl rfl ?_ | ((with_reducible refine Gd_skipT ?_ ?_); exact rfl) | ((with_reducible refine Gd_skipF ?_ ?_); exact rfl))
    refine Cnd_p (fun hm => ?_) (fun hm => ?_)
    · repeat (first | (with_reducible first | apply T_seq | apply T_region | apply U_nil | apply T_skip | apply T_block | apply T_inBlock | apply Cnd_t | apply Cnd_f | apply Cnd_not | apply Cnd_some | apply Cnd_none | apply Gd_nt | apply Gd_nf | apply Gd_some | apply Gd_none | apply Gd_want) | refine U_ar rfl rfl rfl (wrap_i64 (by omega)) rfl ?_ | refine U_pure E rfl rfl ?_ | refine T_exit rfl ?_ | refine T_condV rfl ?_ | refine U_guard rfl rfl ?_ | ((with_reducible refine Gd_skipT ?_ ?_); exact rfl) | ((with_reducible refine Gd_skipF ?_ ?_); exact rfl))
      refine T_ret1 Tryz.func43 rfl rfl ⟨_, rfl, ?_, Kept.refl _ _, rfl, ?_⟩
      · rw [if_neg hz]; rfl
      · rw [if_neg hz]
        have : ({ D with left := dec D.left } : Dr) = D := by
          cases D
          simp only [dec] at *
          rw [if_pos hm, hm]
        rw [this]
        exact hD
    · repeat (first | (with_reducible first | apply T_seq | apply T_region | apply U_nil | apply T_skip | apply T_block | apply T_inBlock | apply Cnd_t | apply Cnd_f | apply Cnd_not | apply Cnd_some | apply Cnd_none | apply Gd_nt | apply Gd_nf | apply Gd_some | apply Gd_none | apply Gd_want) | refine U_ar rfl rfl rfl (wrap_i64 (by omega)) rfl ?_ | refine U_pure E rfl rfl ?_ | refine T_exit rfl ?_ | refine T_condV rfl ?_ | refine U_guard rfl rfl ?_ | ((with_reducible refine Gd_skipT ?_ ?_); exact rfl) | ((with_reducible refine Gd_skipF ?_ ?_); exact rfl))
      refine U_loadB E (by assumption) rfl rfl rfl (by rfl) rfl ?_
      repeat (first | (with_reducible first | apply T_seq | apply T_region | apply U_nil | apply T_skip | apply T_block | apply T_inBlock | apply Cnd_t | apply Cnd_f | apply Cnd_not | apply Cnd_some | apply Cnd_none | apply Gd_nt | apply Gd_nf | apply Gd_some | apply Gd_none | apply Gd_want) | refine U_ar rfl rfl rfl (wrap_i64 (by omega)) rfl ?_ | refine U_pure E rfl rfl ?_ | refine T_exit rfl ?_ | refine T_condV rfl ?_ | refine U_guard rfl rfl ?_ | ((with_reducible refine Gd_skipT ?_ ?_); exact rfl) | ((with_reducible refine Gd_skipF ?_ ?_); exact rfl))
      refine U_store E (h2) rfl rfl rfl (by simp) rfl ?_
      intro w1 hu
      repeat (first | (with_reducible first | apply T_seq | apply T_region | apply U_nil | apply T_skip | apply T_block | apply T_inBlock | apply Cnd_t | apply Cnd_f | apply Cnd_not | apply Cnd_some | apply Cnd_none | apply Gd_nt | apply Gd_nf | apply Gd_some | apply Gd_none | apply Gd_want) | refine U_ar rfl rfl rfl (wrap_i64 (by omega)) rfl ?_ | refine U_pure E rfl rfl ?_ | refine T_exit rfl ?_ | refine T_condV rfl ?_ | refine U_guard rfl rfl ?_ | ((with_reducible refine Gd_skipT ?_ ?_); exact rfl) | ((with_reducible refine Gd_skipF ?_ ?_); exact rfl))
      refine T_ret1 Tryz.func43 rfl rfl ⟨_, rfl, ?_, hu.kept, hu.size, ?_⟩
      · rw [if_neg hz]; rfl
      · rw [if_neg hz]
        refine ⟨⟨h0.n1, h0.n2, h0.secs, h0.waits, h0.wn, ?_, ?_⟩, vl, vw, h1, ?_, h3.mv hu.kept (fun b _ h => h.2), h4.mv hu.kept (fun b _ h => h.2.1)⟩
        · simp only [dec]; rw [if_neg hm]; omega
        · simp only [dec]; rw [if_neg hm]; omega
        · have := hu.blk
          simp only [dec]
          rw [if_neg hm]
          simpa using this
end Go.Proofs.YtoefhdaenaiomaaGreatDoor

/- New, Dirty, Flush. -/
namespace Go.Proofs.YtoefhdaenaiomaaGreatDoor
open Go
set_option maxRecDepth 20000

def drNew (n : Nat) : Dr := ⟨List.replicate n (zeros 256), [], -1⟩
theorem drNew_ok (n : Nat) (h1 : 1 ≤ n) (h2 : n ≤ 8192) : (drNew n).Ok := by
  refine ⟨?_, ?_, fun s hs => ?_, ?_, ?_, ?_, ?_⟩
  · simp only [drNew, List.length_replicate]; exact h1
  · simp only [drNew, List.length_replicate]; exact h2
  · rw [(List.mem_replicate.1 hs).2]; exact zeros_len 256
  · intro p hp; cases hp
  · exact Nat.zero_le _
  · exact Int.le_refl _
  · simp only [drNew]; omega

theorem zcells : (Value.agg (List.replicate 256 (Value.int IntKind.u8 0)).toArray).cells = (encBs (zeros 256)).toArray := by rw [encBs_zeros]; rfl

theorem new_c (w : World) (n : Int) (h : 1 ≤ n ∧ n ≤ 8192) :
    Calls Tryz.prog 6 [.int .i64 n].toArray w (Ret fun r w' => Kept none0 w w' ∧ ∃ hb, r = .tuple #[ptr hb, .nilIface] ∧ IsD w' (fresh w) hb (drNew n.toNat)) := by
  obtain ⟨N, rfl⟩ := Int.eq_ofNat_of_zero_le (show 0 ≤ n by omega)
  refine calls_T Tryz.func6 rfl rfl rfl ?_
  repeat (first | (with_reducible first | apply T_seq | apply T_region | apply U_nil | apply T_skip | apply T_block | apply T_inBlock | apply Cnd_t | apply Cnd_f | apply Cnd_not | apply Cnd_some | apply Cnd_none | apply Gd_nt | apply Gd_nf | apply Gd_some | apply Gd_none | apply Gd_want) | refine U_ar rfl rfl rfl (wrap_i64 (by omega)) rfl ?_ | refine U_pure E rfl rfl ?_ | refine T_exit rfl ?_ | refine T_condV rfl ?_ | refine U_guard rfl rfl ?_ | ((with_reducible refine Gd_skipT ?_ ?_); exact rfl) | ((with_reducible refine Gd_skipF ?_ ?_); exact rfl))
  refine Gd_p (fun h1 => ?_) (fun h1 => ?_)
  · exfalso; omega
  · repeat (first | (with_reducible first | apply T_seq | apply T_region | apply U_nil | apply T_skip | apply T_block | apply T_inBlock | apply Cnd_t | apply Cnd_f | apply Cnd_not | apply Cnd_some | apply Cnd_none | apply Gd_nt | apply Gd_nf | apply Gd_some | apply Gd_none | apply Gd_want) | refine U_ar rfl rfl rfl (wrap_i64 (by omega)) rfl ?_ | refine U_pure E rfl rfl ?_ | refine T_exit rfl ?_ | refine T_condV rfl ?_ | refine U_guard rfl rfl ?_ | ((with_reducible refine Gd_skipT ?_ ?_); exact rfl) | ((with_reducible refine Gd_skipF ?_ ?_); exact rfl))
    refine Cnd_p (fun h2 => ?_) (fun h2 => ?_)
    · exfalso; omega
    · repeat (first | (with_reducible first | apply T_seq | apply T_region | apply U_nil | apply T_skip | apply T_block | apply T_inBlock | apply Cnd_t | apply Cnd_f | apply Cnd_not | apply Cnd_some | apply Cnd_none | apply Gd_nt | apply Gd_nf | apply Gd_some | apply Gd_none | apply Gd_want) | refine U_ar rfl rfl rfl (wrap_i64 (by omega)) rfl ?_ | refine U_pure E rfl rfl ?_ | refine T_exit rfl ?_ | refine T_condV rfl ?_ | refine U_guard rfl rfl ?_ | ((with_reducible refine Gd_skipT ?_ ?_); exact rfl) | ((with_reducible refine Gd_skipF ?_ ?_); exact rfl))
      refine U_make E rfl rfl (zs := encBs (zeros 256)) zcells (N := N) rfl rfl (by omega) (by omega) (by rw [encBs_len, zeros_len]) rfl rfl ?_
      intro b w1 hn
      refine U_build (cells := [.slice (some ⟨b, 0, none⟩) N N, .slice none 0 0, .int .i64 (-1)]) rfl (by kernel_rfl) rfl ?_
      refine U_box E rfl rfl rfl ?_
      intro hb w2 hn2
      repeat (first | (with_reducible first | apply T_seq | apply T_region | apply U_nil | apply T_skip | apply T_block | apply T_inBlock | apply Cnd_t | apply Cnd_f | apply Cnd_not | apply Cnd_some | apply Cnd_none | apply Gd_nt | apply Gd_nf | apply Gd_some | apply Gd_none | apply Gd_want) | refine U_ar rfl rfl rfl (wrap_i64 (by omega)) rfl ?_ | refine U_pure E rfl rfl ?_ | refine T_exit rfl ?_ | refine T_condV rfl ?_ | refine U_guard rfl rfl ?_ | ((with_reducible refine Gd_skipT ?_ ?_); exact rfl) | ((with_reducible refine Gd_skipF ?_ ?_); exact rfl))
      refine T_ret2 Tryz.func6 rfl rfl rfl ⟨_, rfl, hn.kept.tr hn2.kept (fun _ _ h => h), hb, rfl, drNew_ok _ (by omega) (by omega), _, _, ?_, hn2.blk, ?_, Row.nil _ _ _ _⟩
      · have := hn.kept.size
        simp only [fresh, hn2.at_]
        exact this
      · have hb2 := hn2.at_
        have hb1 := hn.at_
        have hs1 := hn.size
        refine ⟨?_, .inr ⟨b, N, [], ?_, ⟨?_, ?_⟩, ?_, ?_, ?_⟩⟩
        · rw [flat_len (sz := 256) _ (fun s hs => by obtain ⟨x, hx, rfl⟩ := List.mem_map.1 hs; rw [encBs_len, (List.mem_replicate.1 hx).2, zeros_len])]
          simp [drNew]
        · simp [drNew]
        · simp only [fresh]; omega
        · omega
        · have := hn.blk.mv hn2.kept (fun x => x)
          simp only [drNew, List.map_replicate, List.append_nil, Int.toNat_natCast]
          exact this
        · simp only [List.append_nil]
          rw [flat_len (sz := 256) _ (fun s hs => by obtain ⟨x, hx, rfl⟩ := List.mem_map.1 hs; rw [encBs_len, (List.mem_replicate.1 hx).2, zeros_len])]
          simp [drNew]
        · simp [drNew]

theorem new_no (w : World) (n : Int) (h : ¬ (1 ≤ n ∧ n ≤ 8192)) :
    Calls Tryz.prog 6 [.int .i64 n].toArray w (Ret fun r w' => r = .tuple #[.pointer none, errV 1] ∧ w' = w) := by
  refine calls_T Tryz.func6 rfl rfl rfl ?_
  repeat (first | (with_reducible first | apply T_seq | apply T_region | apply U_nil | apply T_skip | apply T_block | apply T_inBlock | apply Cnd_t | apply Cnd_f | apply Cnd_not | apply Cnd_some | apply Cnd_none | apply Gd_nt | apply Gd_nf | apply Gd_some | apply Gd_none | apply Gd_want) | refine U_ar rfl rfl rfl (wrap_i64 (by omega)) rfl ?_ | refine U_pure E rfl rfl ?_ | refine T_exit rfl ?_ | refine T_condV rfl ?_ | refine U_guard rfl rfl ?_ | ((with_reducible refine Gd_skipT ?_ ?_); exact rfl) | ((with_reducible refine Gd_skipF ?_ ?_); exact rfl))
  refine Gd_p (fun h1 => ?_) (fun h1 => ?_)
  · repeat (first | (with_reducible first | apply T_seq | apply T_region | apply U_nil | apply T_skip | apply T_block | apply T_inBlock | apply Cnd_t | apply Cnd_f | apply Cnd_not | apply Cnd_some | apply Cnd_none | apply Gd_nt | apply Gd_nf | apply Gd_some | apply Gd_none | apply Gd_want) | refine U_ar rfl rfl rfl (wrap_i64 (by omega)) rfl ?_ | refine U_pure E rfl rfl ?_ | refine T_exit rfl ?_ | refine T_condV rfl ?_ | refine U_guard rfl rfl ?_ | ((with_reducible refine Gd_skipT ?_ ?_); exact rfl) | ((with_reducible refine Gd_skipF ?_ ?_); exact rfl))
    exact T_ret2 Tryz.func6 rfl rfl rfl ⟨_, rfl, rfl, rfl⟩
  · repeat (first | (with_reducible first | apply T_seq | apply T_region | apply U_nil | apply T_skip | apply T_block | apply T_inBlock | apply Cnd_t | apply Cnd_f | apply Cnd_not | apply Cnd_some | apply Cnd_none | apply Gd_nt | apply Gd_nf | apply Gd_some | apply Gd_none | apply Gd_want) | refine U_ar rfl rfl rfl (wrap_i64 (by omega)) rfl ?_ | refine U_pure E rfl rfl ?_ | refine T_exit rfl ?_ | refine T_condV rfl ?_ | refine U_guard rfl rfl ?_ | ((with_reducible refine Gd_skipT ?_ ?_); exact rfl) | ((with_reducible refine Gd_skipF ?_ ?_); exact rfl))
    refine Cnd_p (fun h2 => ?_) (fun h2 => ?_)
    · repeat (first | (with_reducible first | apply T_seq | apply T_region | apply U_nil | apply T_skip | apply T_block | apply T_inBlock | apply Cnd_t | apply Cnd_f | apply Cnd_not | apply Cnd_some | apply Cnd_none | apply Gd_nt | apply Gd_nf | apply Gd_some | apply Gd_none | apply Gd_want) | refine U_ar rfl rfl rfl (wrap_i64 (by omega)) rfl ?_ | refine U_pure E rfl rfl ?_ | refine T_exit rfl ?_ | refine T_condV rfl ?_ | refine U_guard rfl rfl ?_ | ((with_reducible refine Gd_skipT ?_ ?_); exact rfl) | ((with_reducible refine Gd_skipF ?_ ?_); exact rfl))
      exact T_ret2 Tryz.func6 rfl rfl rfl ⟨_, rfl, rfl, rfl⟩
    · exfalso; omega

def applyW (l : List (List UInt8)) (ws : List (Nat × List UInt8)) : List (List UInt8) := ws.foldl (fun l p => l.set p.1 p.2) l
theorem applyW_len : ∀ (ws : List (Nat × List UInt8)) (l : List (List UInt8)), (applyW l ws).length = l.length
  | [], l => rfl
  | p :: ws, l => by
    have := applyW_len ws (l.set p.1 p.2)
    simp only [List.length_set] at this
    exact this
theorem applyW_snoc (l : List (List UInt8)) (ws : List (Nat × List UInt8)) (p : Nat × List UInt8) : applyW l (ws ++ [p]) = (applyW l ws).set p.1 p.2 := by
  simp [applyW]
theorem applyW_secs : ∀ (ws : List (Nat × List UInt8)) (l : List (List UInt8)), (∀ s ∈ l, s.length = 256) → (∀ p ∈ ws, p.2.length = 256) → ∀ s ∈ applyW l ws, s.length = 256
  | [], l, h, _ => h
  | p :: ws, l, h, hw => applyW_secs ws (l.set p.1 p.2) (fun s hs => by
      rcases List.mem_or_eq_of_mem_set hs with h1 | h1
      · exact h s h1
      · rw [h1]; exact hw p (by simp)) (fun q hq => hw q (by simp [hq]))

theorem encSegs {l : List (List UInt8)} (h : ∀ s ∈ l, s.length = 256) : ∀ s ∈ l.map encBs, s.length = 256 := by
  intro s hs
  obtain ⟨x, hx, rfl⟩ := List.mem_map.1 hs
  rw [encBs_len]
  exact h x hx
theorem encWs {l : List (Nat × List UInt8)} (h : ∀ p ∈ l, p.2.length = 256) : ∀ s ∈ l.map encW, s.length = 257 := by
  intro s hs
  obtain ⟨x, hx, rfl⟩ := List.mem_map.1 hs
  rw [encW_len, h x hx]

theorem flush_off (w : World) (F : Nat → Prop) (hb : Nat) (D : Dr) (h : IsD w F hb D) (hl : D.left = 0) :
    Calls Tryz.prog 28 [ptr hb].toArray w (Ret fun r w' => r = errV 8 ∧ Kept (fun b => b = hb) w w' ∧ w'.heap.size = w.heap.size ∧ IsD w' F hb D) := by
  have hc := act_c w F hb D h
  rw [if_pos hl, if_pos hl] at hc
  refine calls_T Tryz.func28 rfl rfl rfl ?_
  unfold ptr at *
  repeat (first | (with_reducible first | apply T_seq | apply T_region | apply U_nil | apply T_skip | apply T_block | apply T_inBlock | apply Cnd_t | apply Cnd_f | apply Cnd_not | apply Cnd_some | apply Cnd_none | apply Gd_nt | apply Gd_nf | apply Gd_some | apply Gd_none | apply Gd_want) | refine U_ar rfl rfl rfl (wrap_i64 (by omega)) rfl ?_ | refine U_pure E rfl rfl ?_ | refine T_exit rfl ?_ | refine T_condV rfl ?_ | refine U_guard rfl rfl ?_ | ((with_reducible refine Gd_skipT ?_ ?_); exact rfl) | ((with_reducible refine Gd_skipF ?_ ?_); exact rfl))
  refine U_call rfl rfl (Tryz.call43 _) (hc) ?_
  rintro r w1 ⟨rfl, hk, hs, hD⟩
  unfold errV
  repeat (first | (with_reducible first | apply T_seq | apply T_region | apply U_nil | apply T_skip | apply T_block | apply T_inBlock | apply Cnd_t | apply Cnd_f | apply Cnd_not | apply Cnd_some | apply Cnd_none | apply Gd_nt | apply Gd_nf | apply Gd_some | apply Gd_none | apply Gd_want) | refine U_ar rfl rfl rfl (wrap_i64 (by omega)) rfl ?_ | refine U_pure E rfl rfl ?_ | refine T_exit rfl ?_ | refine T_condV rfl ?_ | refine U_guard rfl rfl ?_ | ((with_reducible refine Gd_skipT ?_ ?_); exact rfl) | ((with_reducible refine Gd_skipF ?_ ?_); exact rfl))
  exact T_ret1 Tryz.func28 rfl rfl ⟨_, rfl, rfl, hk, hs, hD⟩
end Go.Proofs.YtoefhdaenaiomaaGreatDoor

/- Flush, where it goes well. -/
namespace Go.Proofs.YtoefhdaenaiomaaGreatDoor
open Go
set_option maxRecDepth 20000

theorem zw_len : ([Value.int IntKind.i64 0] ++ List.replicate 256 (Value.int IntKind.u8 0)).length = 257 := by
  rw [List.length_append, List.length_replicate]
  rfl
theorem zw_fit : 0 + 257 ≤ ([Value.int IntKind.i64 0] ++ List.replicate 256 (Value.int IntKind.u8 0)).length := by rw [zw_len]; decide

theorem encW_one (p : Nat × List UInt8) : ∀ u ∈ encW p, u.oneCell' = true := by
  intro u hu
  rcases List.mem_cons.1 hu with rfl | hu
  · rfl
  · exact encBs_one _ u hu

/-- An element of a row of writes. -/
theorem wait_seg {w : World} {F : Nat → Prop} {n : Nat} {ws : List (Nat × List UInt8)} {A : Option Addr} {c : Nat} (hw : ∀ p ∈ ws, p.2.length = 256) (h : Row w F (.slice A n c) 257 n (ws.map encW).flatten 75) (hn : n = ws.length) {i : Nat} (hi : i < ws.length) :
    ∃ g, A = some ⟨g, 0, none⟩ ∧ F g ∧ Seg w g (i * 257) (encW ws[i]) := by
  obtain ⟨g, cap, pad, e, hF, hb, _, _⟩ := h.pos (by omega)
  injection e with e1
  refine ⟨g, e1, hF, ?_⟩
  have := hb.seg (i * 257) 257
  rw [flat_part (sz := 257) _ i (encWs hw) (by simpa using hi)] at this
  simpa using this

theorem flush_ok (w : World) (F : Nat → Prop) (hb : Nat) (D : Dr) (h : IsD w F hb D) (hl : D.left ≠ 0) :
    Calls Tryz.prog 28 [ptr hb].toArray w (Ret fun r w' => r = errV 0 ∧ Kept F w w' ∧ IsD w' F hb ⟨applyW D.l D.wait, [], dec D.left⟩) := by
  have hc := act_c w F hb D h
  rw [if_neg hl, if_neg hl] at hc
  have hF := h.mem
  refine calls_T Tryz.func28 rfl rfl rfl ?_
  unfold ptr at *
  repeat (first | (with_reducible first | apply T_seq | apply T_region | apply U_nil | apply T_skip | apply T_block | apply T_inBlock | apply Cnd_t | apply Cnd_f | apply Cnd_not | apply Cnd_some | apply Cnd_none | apply Gd_nt | apply Gd_nf | apply Gd_some | apply Gd_none | apply Gd_want) | refine U_ar rfl rfl rfl (wrap_i64 (by omega)) rfl ?_ | refine U_pure E rfl rfl ?_ | refine T_exit rfl ?_ | refine T_condV rfl ?_ | refine U_guard rfl rfl ?_ | ((with_reducible refine Gd_skipT ?_ ?_); exact rfl) | ((with_reducible refine Gd_skipF ?_ ?_); exact rfl))
  refine U_call rfl rfl (Tryz.call43 _) (hc) ?_
  rintro r w1 ⟨rfl, hk1, hs1, h0, vl, vw, h1, h2, h3, h4⟩
  unfold errV
  dsimp only at h2 h3 h4
  have hn1 := h0.n1
  have hwn := h0.wn
  have hws := fun p hp => (h0.waits p hp).2
  dsimp only at hn1 hwn hws
  obtain ⟨A, c, rfl⟩ := h4.val
  obtain ⟨g, cap, pad, rfl, hg, hbg, hgl, hgc⟩ := h3.pos hn1
  repeat (first | (with_reducible first | apply T_seq | apply T_region | apply U_nil | apply T_skip | apply T_block | apply T_inBlock | apply Cnd_t | apply Cnd_f | apply Cnd_not | apply Cnd_some | apply Cnd_none | apply Gd_nt | apply Gd_nf | apply Gd_some | apply Gd_none | apply Gd_want) | refine U_ar rfl rfl rfl (wrap_i64 (by omega)) rfl ?_ | refine U_pure E rfl rfl ?_ | refine T_exit rfl ?_ | refine T_condV rfl ?_ | refine U_guard rfl rfl ?_ | ((with_reducible refine Gd_skipT ?_ ?_); exact rfl) | ((with_reducible refine Gd_skipF ?_ ?_); exact rfl))
  refine U_loadB E (by assumption) rfl rfl rfl (by rfl) rfl ?_
  repeat (first | (with_reducible first | apply T_seq | apply T_region | apply U_nil | apply T_skip | apply T_block | apply T_inBlock | apply Cnd_t | apply Cnd_f | apply Cnd_not | apply Cnd_some | apply Cnd_none | apply Gd_nt | apply Gd_nf | apply Gd_some | apply Gd_none | apply Gd_want) | refine U_ar rfl rfl rfl (wrap_i64 (by omega)) rfl ?_ | refine U_pure E rfl rfl ?_ | refine T_exit rfl ?_ | refine T_condV rfl ?_ | refine U_guard rfl rfl ?_ | ((with_reducible refine Gd_skipT ?_ ?_); exact rfl) | ((with_reducible refine Gd_skipF ?_ ?_); exact rfl))
  refine T_loop (α := Nat × World) (fun x => [(19, .int .i64 x.1), (18, .int .i64 D.wait.length), (17, .slice A D.wait.length c), (0, .pointer (some ⟨hb, 0, none⟩))]) (fun x => x.2) (fun x => D.wait.length - x.1)
    (fun x => x.1 ≤ D.wait.length ∧ Kept (fun b => b = g) w1 x.2 ∧ Blk x.2 g (((applyW D.l (D.wait.take x.1)).map encBs).flatten ++ pad) 73) (0, w1) ⟨Nat.zero_le _, Kept.refl _ _, hbg⟩ ⟨rfl, rfl, rfl, rfl, trivial⟩ rfl ?_
  rintro ⟨i, w2⟩ ⟨hi, hk, hb2⟩ ih
  dsimp only at hi hk hb2 ⊢
  repeat (first | (with_reducible first | apply T_seq | apply T_region | apply U_nil | apply T_skip | apply T_block | apply T_inBlock | apply Cnd_t | apply Cnd_f | apply Cnd_not | apply Cnd_some | apply Cnd_none | apply Gd_nt | apply Gd_nf | apply Gd_some | apply Gd_none | apply Gd_want) | refine U_ar rfl rfl rfl (wrap_i64 (by omega)) rfl ?_ | refine U_pure E rfl rfl ?_ | refine T_exit rfl ?_ | refine T_condV rfl ?_ | refine U_guard rfl rfl ?_ | ((with_reducible refine Gd_skipT ?_ ?_); exact rfl) | ((with_reducible refine Gd_skipF ?_ ?_); exact rfl))
  refine Cnd_p (fun hlt => ?_) (fun hlt => ?_)
  · have hlt' : i < D.wait.length := by omega
    have h4' := h4.mv hk (fun b _ hb e => hb.2.2 (by rw [e]; rfl))
    have h2' := h2.mv hk (fun e => hg.2 e.symm)
    obtain ⟨gw, rfl, hgw, hseg⟩ := wait_seg hws h4' rfl hlt'
    have hat := (h0.waits _ (List.getElem_mem hlt')).1
    have hln := (h0.waits _ (List.getElem_mem hlt')).2
    dsimp only at hat hln
    repeat (first | (with_reducible first | apply T_seq | apply T_region | apply U_nil | apply T_skip | apply T_block | apply T_inBlock | apply Cnd_t | apply Cnd_f | apply Cnd_not | apply Cnd_some | apply Cnd_none | apply Gd_nt | apply Gd_nf | apply Gd_some | apply Gd_none | apply Gd_want) | refine U_ar rfl rfl rfl (wrap_i64 (by omega)) rfl ?_ | refine U_pure E rfl rfl ?_ | refine T_exit rfl ?_ | refine T_condV rfl ?_ | refine U_guard rfl rfl ?_ | ((with_reducible refine Gd_skipT ?_ ?_); exact rfl) | ((with_reducible refine Gd_skipF ?_ ?_); exact rfl))
    refine U_indexS E rfl rfl rfl rfl (by omega) (by omega) (by rw [Int.toNat_natCast, Nat.zero_add]) rfl ?_
    refine U_loadA E (hseg) rfl rfl rfl (by rw [encW_len, hln]) rfl ?_
    refine U_alloc E rfl rfl rfl ?_
    intro b5 w3 hn3
    refine U_storeA E (hn3.blk) rfl rfl rfl (by rw [encW_len, hln]) (zw_fit) (encW_one _) ?_
    intro w4 hu4
    have hb5 := hu4.blk
    rw [show 257 = (encW D.wait[i]).length by rw [encW_len, hln], splice_all _ _ (by rw [encW_len, hln, zw_len])] at hb5
    have hlt2 := h2'.lt
    have hltg := hb2.lt
    have hb5n := hn3.at_
    have h2a := (h2'.mv hn3.kept (fun x => x)).mv hu4.kept (fun (e : hb = b5) => by omega)
    have hb2a := (hb2.mv hn3.kept (fun x => x)).mv hu4.kept (fun (e : g = b5) => by omega)
    repeat (first | (with_reducible first | apply T_seq | apply T_region | apply U_nil | apply T_skip | apply T_block | apply T_inBlock | apply Cnd_t | apply Cnd_f | apply Cnd_not | apply Cnd_some | apply Cnd_none | apply Gd_nt | apply Gd_nf | apply Gd_some | apply Gd_none | apply Gd_want) | refine U_ar rfl rfl rfl (wrap_i64 (by omega)) rfl ?_ | refine U_pure E rfl rfl ?_ | refine T_exit rfl ?_ | refine T_condV rfl ?_ | refine U_guard rfl rfl ?_ | ((with_reducible refine Gd_skipT ?_ ?_); exact rfl) | ((with_reducible refine Gd_skipF ?_ ?_); exact rfl))
    refine T_tail 9 (by kernel_rfl) (by kernel_rfl) (fun w5 hd5 => ?_); simp only [List.take_succ_cons, List.take_zero, List.drop_succ_cons, List.drop_zero]; (repeat (first | refine V_ar rfl rfl rfl (wrap_i64 (by omega)) rfl ?_ | refine V_pure E rfl rfl ?_ | refine V_guard rfl rfl ?_ | with_reducible refine GdV_want ?_ | ((with_reducible refine GdV_skipT ?_ ?_); exact rfl) | ((with_reducible refine GdV_skipF ?_ ?_); exact rfl)))
    have h2b := h2a.mv (hd5.kept none0) (fun x => x)
    have hb2b := hb2a.mv (hd5.kept none0) (fun x => x)
    have hb5b := hb5.mv (hd5.kept none0) (fun x => x)
    refine V_loadB E (by first | exact fun _ h => h.heap | (intro _ h; subst h; rfl)) (by assumption) rfl rfl rfl (by rfl) rfl ?_
    repeat (first | refine V_ar rfl rfl rfl (wrap_i64 (by omega)) rfl ?_ | refine V_pure E rfl rfl ?_ | refine V_guard rfl rfl ?_ | with_reducible refine GdV_want ?_ | ((with_reducible refine GdV_skipT ?_ ?_); exact rfl) | ((with_reducible refine GdV_skipF ?_ ?_); exact rfl))
    refine V_loadB E (by first | exact fun _ h => h.heap | (intro _ h; subst h; rfl)) (by assumption) rfl rfl rfl (by rfl) rfl ?_
    repeat (first | refine V_ar rfl rfl rfl (wrap_i64 (by omega)) rfl ?_ | refine V_pure E rfl rfl ?_ | refine V_guard rfl rfl ?_ | with_reducible refine GdV_want ?_ | ((with_reducible refine GdV_skipT ?_ ?_); exact rfl) | ((with_reducible refine GdV_skipF ?_ ?_); exact rfl))
    have hs5 : Seg w5 b5 1 (encBs D.wait[i].2) := by
      have := hb5b.whole.drop 1
      simpa [encW] using this
    refine V_loadA E (by first | exact fun _ h => h.heap | (intro _ h; subst h; rfl)) (hs5) rfl rfl rfl (by rw [encBs_len, hln]) rfl ?_
    refine V_indexS E rfl rfl rfl rfl (by omega) (by omega) (by rw [Int.toNat_natCast, Nat.zero_add]) rfl ?_
    refine V_nilT ?_
    have hlen : (applyW D.l (D.wait.take i)).length = D.l.length := applyW_len _ _
    have hsegs := encSegs (applyW_secs (D.wait.take i) D.l h0.secs (fun p hp => hws p (List.mem_of_mem_take hp)))
    have hfl := flat_len (sz := 256) _ hsegs
    have hfit : D.wait[i].1 * 256 + 256 ≤ (((applyW D.l (D.wait.take i)).map encBs).flatten ++ pad).length := by
      have : (D.wait[i].1 + 1) * 256 ≤ D.l.length * 256 := Nat.mul_le_mul_right _ hat
      rw [List.length_append, hfl, List.length_map, hlen]
      omega
    refine U_storeA E (hb2b) rfl rfl rfl (by rw [encBs_len, hln]) (hfit) (encBs_one _) ?_
    intro w6 hu6
    have hb6 := hu6.blk
    rw [flat_set (sz := 256) _ _ _ hsegs (by rw [List.length_map, hlen]; exact hat), ← List.map_set, ← applyW_snoc, ← take_snoc _ _ hlt'] at hb6
    repeat (first | (with_reducible first | apply T_seq | apply T_region | apply U_nil | apply T_skip | apply T_block | apply T_inBlock | apply Cnd_t | apply Cnd_f | apply Cnd_not | apply Cnd_some | apply Cnd_none | apply Gd_nt | apply Gd_nf | apply Gd_some | apply Gd_none | apply Gd_want) | refine U_ar rfl rfl rfl (wrap_i64 (by omega)) rfl ?_ | refine U_pure E rfl rfl ?_ | refine T_exit rfl ?_ | refine T_condV rfl ?_ | refine U_guard rfl rfl ?_ | ((with_reducible refine Gd_skipT ?_ ?_); exact rfl) | ((with_reducible refine Gd_skipF ?_ ?_); exact rfl))
    refine T.less ?_ (ih (i + 1, w6) ?_ ?_)
    · exact ⟨rfl, rfl, rfl, rfl, trivial⟩
    · refine ⟨hlt', ?_, hb6⟩
      have hkk := hk.size
      refine (((hk.tr hn3.kept (fun _ _ x => x.elim)).tr hu4.kept (fun j hj e => ?_)).tr (hd5.kept none0) (fun _ _ x => x.elim)).tr hu6.kept (fun j _ e => e)
      subst e
      omega
    · dsimp only
      omega
  · have hiE : i = D.wait.length := by omega
    subst hiE
    rw [List.take_length] at hb2
    have h2' := h2.mv hk (fun e => hg.2 e.symm)
    repeat (first | (with_reducible first | apply T_seq | apply T_region | apply U_nil | apply T_skip | apply T_block | apply T_inBlock | apply Cnd_t | apply Cnd_f | apply Cnd_not | apply Cnd_some | apply Cnd_none | apply Gd_nt | apply Gd_nf | apply Gd_some | apply Gd_none | apply Gd_want) | refine U_ar rfl rfl rfl (wrap_i64 (by omega)) rfl ?_ | refine U_pure E rfl rfl ?_ | refine T_exit rfl ?_ | refine T_condV rfl ?_ | refine U_guard rfl rfl ?_ | ((with_reducible refine Gd_skipT ?_ ?_); exact rfl) | ((with_reducible refine Gd_skipF ?_ ?_); exact rfl))
    refine U_store E (h2') rfl rfl rfl (by simp) rfl ?_
    intro w3 hu3
    repeat (first | (with_reducible first | apply T_seq | apply T_region | apply U_nil | apply T_skip | apply T_block | apply T_inBlock | apply Cnd_t | apply Cnd_f | apply Cnd_not | apply Cnd_some | apply Cnd_none | apply Gd_nt | apply Gd_nf | apply Gd_some | apply Gd_none | apply Gd_want) | refine U_ar rfl rfl rfl (wrap_i64 (by omega)) rfl ?_ | refine U_pure E rfl rfl ?_ | refine T_exit rfl ?_ | refine T_condV rfl ?_ | refine U_guard rfl rfl ?_ | ((with_reducible refine Gd_skipT ?_ ?_); exact rfl) | ((with_reducible refine Gd_skipF ?_ ?_); exact rfl))
    refine T_ret1 Tryz.func28 rfl rfl ⟨_, rfl, rfl, ?_, ?_, .slice (some ⟨g, 0, none⟩) D.l.length cap, .slice none 0 0, h1, ?_, ?_, Row.nil _ _ _ _⟩
    · exact ((hk1.mono (G := F) (fun j _ e => by rw [e]; exact hF)).tr hk (fun j _ e => by rw [e]; exact hg.1)).tr hu3.kept (fun j _ e => by rw [e]; exact hF)
    · have hln := applyW_len D.wait D.l
      exact ⟨by dsimp only; omega, by have := h0.n2; dsimp only at this ⊢; omega, applyW_secs _ _ h0.secs hws, fun p hp => (by cases hp), Nat.zero_le _, h0.left1, h0.left2⟩
    · simpa using hu3.blk
    · have hln := applyW_len D.wait D.l
      refine ⟨?_, .inr ⟨g, cap, pad, by rw [hln], hg, hb2.mv hu3.kept (fun e => hg.2 e), ?_, by rw [hln]; exact hgc⟩⟩
      · rw [flat_len (sz := 256) _ (encSegs (applyW_secs _ _ h0.secs hws)), List.length_map]
      · rw [List.length_append, flat_len (sz := 256) _ (encSegs (applyW_secs _ _ h0.secs hws)), List.length_map, hln, ← hgl, List.length_append, flat_len (sz := 256) _ (encSegs h0.secs), List.length_map]
end Go.Proofs.YtoefhdaenaiomaaGreatDoor

/- Write. -/
namespace Go.Proofs.YtoefhdaenaiomaaGreatDoor
open Go
set_option maxRecDepth 20000

/-- What Write answers. -/
def wrErr (D : Dr) (i : Int) (p : List UInt8) : Nat := if 0 ≤ i ∧ i < D.l.length then (if 256 < p.length then 4 else if D.left = 0 then 8 else 0) else 7
def wrDr (D : Dr) (i : Int) (p : List UInt8) : Dr := if wrErr D i p = 0 then { D with wait := D.wait ++ [(i.toNat, sec p)], left := dec D.left } else D

theorem errV_ne {k : Nat} (h : k ≠ 0) : ∃ j : Nat, k = j + 1 ∧ errV k = .iface 43 (.int .i64 (j + 1 : Nat)) := by
  cases k with
  | zero => exact absurd rfl h
  | succ j => exact ⟨j, rfl, rfl⟩

theorem write_no (w : World) (F : Nat → Prop) (hb : Nat) (D : Dr) (G : Nat → Prop) (v : Value) (p : List UInt8) (i : Int) (h : IsD w F hb D) (hp : BS w G v p) (hk : wrErr D i p ≠ 0) :
    Calls Tryz.prog 42 [ptr hb, .int .i64 i, v].toArray w (Ret fun r w' => r = errV (wrErr D i p) ∧ Kept (fun b => b = hb) w w' ∧ w'.heap.size = w.heap.size ∧ IsD w' F hb D) := by
  have hf := fits_c w F hb D i h
  have hc := act_c w F hb D h
  obtain ⟨A, c, rfl⟩ := hp.len
  refine calls_T Tryz.func42 rfl rfl rfl ?_
  unfold ptr at *
  repeat (first | (with_reducible first | apply T_seq | apply T_region | apply U_nil | apply T_skip | apply T_block | apply T_inBlock | apply Cnd_t | apply Cnd_f | apply Cnd_not | apply Cnd_some | apply Cnd_none | apply Gd_nt | apply Gd_nf | apply Gd_some | apply Gd_none | apply Gd_want) | refine U_ar rfl rfl rfl (wrap_i64 (by omega)) rfl ?_ | refine U_pure E rfl rfl ?_ | refine T_exit rfl ?_ | refine T_condV rfl ?_ | refine U_guard rfl rfl ?_ | ((with_reducible refine Gd_skipT ?_ ?_); exact rfl) | ((with_reducible refine Gd_skipF ?_ ?_); exact rfl))
  refine U_call rfl rfl (Tryz.call53 _) (ret_of hf) ?_
  rintro r w1 ⟨rfl, rfl⟩
  by_cases hi : 0 ≤ i ∧ i < D.l.length
  · rw [if_pos hi]
    unfold errV
    repeat (first | (with_reducible first | apply T_seq | apply T_region | apply U_nil | apply T_skip | apply T_block | apply T_inBlock | apply Cnd_t | apply Cnd_f | apply Cnd_not | apply Cnd_some | apply Cnd_none | apply Gd_nt | apply Gd_nf | apply Gd_some | apply Gd_none | apply Gd_want) | refine U_ar rfl rfl rfl (wrap_i64 (by omega)) rfl ?_ | refine U_pure E rfl rfl ?_ | refine T_exit rfl ?_ | refine T_condV rfl ?_ | refine U_guard rfl rfl ?_ | ((with_reducible refine Gd_skipT ?_ ?_); exact rfl) | ((with_reducible refine Gd_skipF ?_ ?_); exact rfl))
    have hlen := hp.1
    refine Cnd_p (fun hl => ?_) (fun hl => ?_)
    · repeat (first | (with_reducible first | apply T_seq | apply T_region | apply U_nil | apply T_skip | apply T_block | apply T_inBlock | apply Cnd_t | apply Cnd_f | apply Cnd_not | apply Cnd_some | apply Cnd_none | apply Gd_nt | apply Gd_nf | apply Gd_some | apply Gd_none | apply Gd_want) | refine U_ar rfl rfl rfl (wrap_i64 (by omega)) rfl ?_ | refine U_pure E rfl rfl ?_ | refine T_exit rfl ?_ | refine T_condV rfl ?_ | refine U_guard rfl rfl ?_ | ((with_reducible refine Gd_skipT ?_ ?_); exact rfl) | ((with_reducible refine Gd_skipF ?_ ?_); exact rfl))
      refine T_ret1 Tryz.func42 rfl rfl ⟨_, rfl, ?_, Kept.refl _ _, rfl, h⟩
      rw [wrErr, if_pos hi, if_pos (by omega)]
      try rfl
    · have hz : D.left = 0 := Classical.byContradiction fun e => hk (by rw [wrErr, if_pos hi, if_neg (by omega), if_neg e])
      rw [if_pos hz, if_pos hz] at hc
      repeat (first | (with_reducible first | apply T_seq | apply T_region | apply U_nil | apply T_skip | apply T_block | apply T_inBlock | apply Cnd_t | apply Cnd_f | apply Cnd_not | apply Cnd_some | apply Cnd_none | apply Gd_nt | apply Gd_nf | apply Gd_some | apply Gd_none | apply Gd_want) | refine U_ar rfl rfl rfl (wrap_i64 (by omega)) rfl ?_ | refine U_pure E rfl rfl ?_ | refine T_exit rfl ?_ | refine T_condV rfl ?_ | refine U_guard rfl rfl ?_ | ((with_reducible refine Gd_skipT ?_ ?_); exact rfl) | ((with_reducible refine Gd_skipF ?_ ?_); exact rfl))
      refine U_call rfl rfl (Tryz.call43 _) (hc) ?_
      rintro r w1 ⟨rfl, hk1, hs1, hD⟩
      unfold errV
      repeat (first | (with_reducible first | apply T_seq | apply T_region | apply U_nil | apply T_skip | apply T_block | apply T_inBlock | apply Cnd_t | apply Cnd_f | apply Cnd_not | apply Cnd_some | apply Cnd_none | apply Gd_nt | apply Gd_nf | apply Gd_some | apply Gd_none | apply Gd_want) | refine U_ar rfl rfl rfl (wrap_i64 (by omega)) rfl ?_ | refine U_pure E rfl rfl ?_ | refine T_exit rfl ?_ | refine T_condV rfl ?_ | refine U_guard rfl rfl ?_ | ((with_reducible refine Gd_skipT ?_ ?_); exact rfl) | ((with_reducible refine Gd_skipF ?_ ?_); exact rfl))
      refine T_ret1 Tryz.func42 rfl rfl ⟨_, rfl, ?_, hk1, hs1, hD⟩
      rw [wrErr, if_pos hi, if_neg (by omega), if_pos hz]
      try rfl
  · rw [if_neg hi]
    unfold errV
    repeat (first | (with_reducible first | apply T_seq | apply T_region | apply U_nil | apply T_skip | apply T_block | apply T_inBlock | apply Cnd_t | apply Cnd_f | apply Cnd_not | apply Cnd_some | apply Cnd_none | apply Gd_nt | apply Gd_nf | apply Gd_some | apply Gd_none | apply Gd_want) | refine U_ar rfl rfl rfl (wrap_i64 (by omega)) rfl ?_ | refine U_pure E rfl rfl ?_ | refine T_exit rfl ?_ | refine T_condV rfl ?_ | refine U_guard rfl rfl ?_ | ((with_reducible refine Gd_skipT ?_ ?_); exact rfl) | ((with_reducible refine Gd_skipF ?_ ?_); exact rfl))
    refine T_ret1 Tryz.func42 rfl rfl ⟨_, rfl, ?_, Kept.refl _ _, rfl, h⟩
    rw [wrErr, if_neg hi]
    try rfl

theorem flat_snoc {α : Type} (l : List (List α)) (x : List α) : (l ++ [x]).flatten = l.flatten ++ x := by simp

theorem sec_splice (p : List UInt8) (h : p.length ≤ 256) (i : Nat) : ([Value.int IntKind.i64 i] ++ List.replicate 256 (Value.int IntKind.u8 0)).take 1 ++ (encBs p).take 256 ++ ([Value.int IntKind.i64 i] ++ List.replicate 256 (Value.int IntKind.u8 0)).drop (1 + ((encBs p).take 256).length) = encW (i, sec p) := by
  rw [List.take_of_length_le (l := encBs p) (by rw [encBs_len]; exact h), encBs_len, ← encBs_zeros, encW]
  simp only [List.cons_append, List.nil_append, List.take_succ_cons, List.take_zero, Nat.add_comm 1 p.length, List.drop_succ_cons, List.cons.injEq, true_and]
  rw [encBs, encBs, encBs, ← List.map_drop, ← List.map_append]
  congr 1
  simp only [sec]
  rw [List.take_append, List.take_of_length_le h]
  congr 1
  simp only [zeros]
  rw [List.drop_replicate, List.take_replicate]
  congr 1
  omega

theorem w_one (i : Int) : ∀ u ∈ [Value.int IntKind.i64 i] ++ List.replicate 256 (Value.int IntKind.u8 0), u.oneCell' = true := by
  intro u hu
  rcases List.mem_append.1 hu with h | h
  · rw [List.mem_singleton.1 h]; rfl
  · rw [(List.mem_replicate.1 h).2]; rfl

set_option maxHeartbeats 1000000 in
theorem write_ok (w : World) (F : Nat → Prop) (hb : Nat) (D : Dr) (G : Nat → Prop) (v : Value) (p : List UInt8) (i : Int) (h : IsD w F hb D) (hp : BS w G v p) (hd : ∀ b, G b → F b → False) (hk : wrErr D i p = 0) (hwn : D.wait.length < 1000000) :
    Calls Tryz.prog 42 [ptr hb, .int .i64 i, v].toArray w (Ret fun r w' => r = errV 0 ∧ Kept F w w' ∧ IsD w' (fun b => F b ∨ w.heap.size ≤ b) hb (wrDr D i p)) := by
  have hi : 0 ≤ i ∧ i < D.l.length := Classical.byContradiction fun e => by rw [wrErr, if_neg e] at hk; cases hk
  have hl : ¬ 256 < p.length := fun e => by rw [wrErr, if_pos hi, if_pos e] at hk; cases hk
  have hz : ¬ D.left = 0 := fun e => by rw [wrErr, if_pos hi, if_neg hl, if_pos e] at hk; cases hk
  have hf := fits_c w F hb D i h
  have hc := act_c w F hb D h
  have hF := h.mem
  rw [if_pos hi] at hf
  rw [if_neg hz, if_neg hz] at hc
  obtain ⟨I, rfl⟩ := Int.eq_ofNat_of_zero_le hi.1
  obtain ⟨A, c, rfl⟩ := hp.len
  have hlen := hp.1
  rw [wrDr, if_pos hk, Int.toNat_natCast]
  refine calls_T Tryz.func42 rfl rfl rfl ?_
  unfold ptr at *
  repeat (first | (with_reducible first | apply T_seq | apply T_region | apply U_nil | apply T_skip | apply T_block | apply T_inBlock | apply Cnd_t | apply Cnd_f | apply Cnd_not | apply Cnd_some | apply Cnd_none | apply Gd_nt | apply Gd_nf | apply Gd_some | apply Gd_none | apply Gd_want) | refine U_ar rfl rfl rfl (wrap_i64 (by omega)) rfl ?_ | refine U_pure E rfl rfl ?_ | refine T_exit rfl ?_ | refine T_condV rfl ?_ | refine U_guard rfl rfl ?_ | ((with_reducible refine Gd_skipT ?_ ?_); exact rfl) | ((with_reducible refine Gd_skipF ?_ ?_); exact rfl))
  refine U_call rfl rfl (Tryz.call53 _) (ret_of hf) ?_
  rintro r w1 ⟨rfl, rfl⟩
  unfold errV
  repeat (first | (with_reducible first | apply T_seq | apply T_region | apply U_nil | apply T_skip | apply T_block | apply T_inBlock | apply Cnd_t | apply Cnd_f | apply Cnd_not | apply Cnd_some | apply Cnd_none | apply Gd_nt | apply Gd_nf | apply Gd_some | apply Gd_none | apply Gd_want) | refine U_ar rfl rfl rfl (wrap_i64 (by omega)) rfl ?_ | refine U_pure E rfl rfl ?_ | refine T_exit rfl ?_ | refine T_condV rfl ?_ | refine U_guard rfl rfl ?_ | ((with_reducible refine Gd_skipT ?_ ?_); exact rfl) | ((with_reducible refine Gd_skipF ?_ ?_); exact rfl))
  refine Cnd_p (fun hl2 => ?_) (fun hl2 => ?_)
  · exfalso; omega
  · repeat (first | (with_reducible first | apply T_seq | apply T_region | apply U_nil | apply T_skip | apply T_block | apply T_inBlock | apply Cnd_t | apply Cnd_f | apply Cnd_not | apply Cnd_some | apply Cnd_none | apply Gd_nt | apply Gd_nf | apply Gd_some | apply Gd_none | apply Gd_want) | refine U_ar rfl rfl rfl (wrap_i64 (by omega)) rfl ?_ | refine U_pure E rfl rfl ?_ | refine T_exit rfl ?_ | refine T_condV rfl ?_ | refine U_guard rfl rfl ?_ | ((with_reducible refine Gd_skipT ?_ ?_); exact rfl) | ((with_reducible refine Gd_skipF ?_ ?_); exact rfl))
    refine U_call rfl rfl (Tryz.call43 _) (hc) ?_
    rintro r w1 ⟨rfl, hk1, hs1, h0, vl, vw, h1, h2, h3, h4⟩
    unfold errV
    dsimp only at h2 h3 h4
    obtain ⟨g, cap, pad, rfl, hg, hbg, hgl, hgc⟩ := h3.pos h0.n1
    have hp1 := hp.mv hk1 (fun b _ hG e => hd b hG (by rw [e]; exact hF))
    repeat (first | (with_reducible first | apply T_seq | apply T_region | apply U_nil | apply T_skip | apply T_block | apply T_inBlock | apply Cnd_t | apply Cnd_f | apply Cnd_not | apply Cnd_some | apply Cnd_none | apply Gd_nt | apply Gd_nf | apply Gd_some | apply Gd_none | apply Gd_want) | refine U_ar rfl rfl rfl (wrap_i64 (by omega)) rfl ?_ | refine U_pure E rfl rfl ?_ | refine T_exit rfl ?_ | refine T_condV rfl ?_ | refine U_guard rfl rfl ?_ | ((with_reducible refine Gd_skipT ?_ ?_); exact rfl) | ((with_reducible refine Gd_skipF ?_ ?_); exact rfl))
    refine U_build (cells := [Value.int IntKind.i64 I] ++ List.replicate 256 (Value.int IntKind.u8 0)) rfl (by kernel_rfl) rfl ?_
    refine U_alloc E rfl rfl rfl ?_
    intro b9 w2 hn2
    have hfit : 0 + 257 ≤ ([Value.int IntKind.i64 0] ++ List.replicate 256 (Value.int IntKind.u8 0)).length := zw_fit
    refine U_storeA E hn2.blk rfl rfl rfl (by rw [List.length_append, List.length_replicate]; rfl) hfit (w_one _) ?_
    intro w3 hu3
    have hb9 := hu3.blk
    rw [show (257 : Nat) = ([Value.int IntKind.i64 I] ++ List.replicate 256 (Value.int IntKind.u8 0)).length by rw [List.length_append, List.length_replicate]; rfl, splice_all _ _ (by rw [zw_len, List.length_append, List.length_replicate]; rfl)] at hb9
    have hn2a := hn2.at_
    have hn2s := hn2.size
    have hk13 : Kept none0 w1 w3 := hn2.kept.tr hu3.kept (fun j hj (e : j = b9) => by omega)
    have h2a := h2.mv hk13 (fun x => x)
    have hp3 := hp1.mv hk13 (fun _ _ _ x => x)
    have h4a := h4.mv hk13 (fun _ _ _ x => x)
    repeat (first | (with_reducible first | apply T_seq | apply T_region | apply U_nil | apply T_skip | apply T_block | apply T_inBlock | apply Cnd_t | apply Cnd_f | apply Cnd_not | apply Cnd_some | apply Cnd_none | apply Gd_nt | apply Gd_nf | apply Gd_some | apply Gd_none | apply Gd_want) | refine U_ar rfl rfl rfl (wrap_i64 (by omega)) rfl ?_ | refine U_pure E rfl rfl ?_ | refine T_exit rfl ?_ | refine T_condV rfl ?_ | refine U_guard rfl rfl ?_ | ((with_reducible refine Gd_skipT ?_ ?_); exact rfl) | ((with_reducible refine Gd_skipF ?_ ?_); exact rfl))
    refine U_run rfl rfl rfl (ro_sliceArr E rfl rfl rfl rfl) ?_
    repeat (first | (with_reducible first | apply T_seq | apply T_region | apply U_nil | apply T_skip | apply T_block | apply T_inBlock | apply Cnd_t | apply Cnd_f | apply Cnd_not | apply Cnd_some | apply Cnd_none | apply Gd_nt | apply Gd_nf | apply Gd_some | apply Gd_none | apply Gd_want) | refine U_ar rfl rfl rfl (wrap_i64 (by omega)) rfl ?_ | refine U_pure E rfl rfl ?_ | refine T_exit rfl ?_ | refine T_condV rfl ?_ | refine U_guard rfl rfl ?_ | ((with_reducible refine Gd_skipT ?_ ?_); exact rfl) | ((with_reducible refine Gd_skipF ?_ ?_); exact rfl))
    refine U_copy E hb9 hp3 (encBs_one p) rfl rfl rfl rfl (by rw [List.length_append, List.length_replicate]; exact Nat.le_refl 257) rfl ?_
    intro w4 hu4
    have hb9' := hu4.blk
    simp only [Nat.zero_add] at hb9'
    rw [sec_splice p (by omega) I] at hb9'
    have hk14 : Kept none0 w1 w4 := hk13.tr hu4.kept (fun j hj (e : j = b9) => by omega)
    have h2b := h2.mv hk14 (fun x => x)
    have h4b := h4.mv hk14 (fun _ _ _ x => x)
    have hs4 : w4.heap.size = w1.heap.size + 1 := by rw [hu4.size, hu3.size, hn2.size]
    repeat (first | (with_reducible first | apply T_seq | apply T_region | apply U_nil | apply T_skip | apply T_block | apply T_inBlock | apply Cnd_t | apply Cnd_f | apply Cnd_not | apply Cnd_some | apply Cnd_none | apply Gd_nt | apply Gd_nf | apply Gd_some | apply Gd_none | apply Gd_want) | refine U_ar rfl rfl rfl (wrap_i64 (by omega)) rfl ?_ | refine U_pure E rfl rfl ?_ | refine T_exit rfl ?_ | refine T_condV rfl ?_ | refine U_guard rfl rfl ?_ | ((with_reducible refine Gd_skipT ?_ ?_); exact rfl) | ((with_reducible refine Gd_skipF ?_ ?_); exact rfl))
    refine L_begin (fun W => Blk W hb [.slice (some ⟨g, 0, none⟩) D.l.length cap, vw, .int .i64 (dec D.left)] 58 ∧ Blk W b9 (encW (I, sec p)) 75) 10 (by kernel_rfl) rfl (fun w5 hd5 => ?_)
    have hS5 : Blk w5 hb [.slice (some ⟨g, 0, none⟩) D.l.length cap, vw, .int .i64 (dec D.left)] 58 ∧ Blk w5 b9 (encW (I, sec p)) 75 := ⟨h2b.mv (hd5.kept none0) (fun x => x), hb9'.mv (hd5.kept none0) (fun x => x)⟩
    refine L_take 0 rfl (by kernel_rfl) (by kernel_rfl) (by kernel_rfl) (by kernel_rfl) hS5 rfl rfl rfl (fun a ha w' _ => run_pv E ha rfl _ _ _ _ _) ?_
    refine L_take 1 rfl (by kernel_rfl) (by kernel_rfl) (by kernel_rfl) (by kernel_rfl) hS5 rfl rfl rfl (fun a ha w' _ => run_pv E ha rfl _ _ _ _ _) ?_
    refine L_take 2 rfl (by kernel_rfl) (by kernel_rfl) (by kernel_rfl) (by kernel_rfl) hS5 rfl rfl rfl (fun a ha w' _ => run_pv E ha rfl _ _ _ _ _) ?_
    refine L_take 3 rfl (by kernel_rfl) (by kernel_rfl) (by kernel_rfl) (by kernel_rfl) hS5 rfl rfl rfl (fun a ha w' _ => run_pv E ha rfl _ _ _ _ _) ?_
    refine L_take 4 rfl (by kernel_rfl) (by kernel_rfl) (by kernel_rfl) (by kernel_rfl) hS5 rfl rfl rfl (fun a ha w' hS => ro_loadB E hS.1 rfl rfl rfl rfl a ha) ?_
    refine L_take 5 rfl (by kernel_rfl) (by kernel_rfl) (by kernel_rfl) (by kernel_rfl) hS5 rfl rfl rfl (fun a ha w' hS => ro_loadA E hS.2.whole rfl rfl rfl (by rw [encW_len, sec_len]) a ha) ?_
    have h4c := h4b.mv (hd5.kept none0) (fun _ _ _ x => x)
    have hs5 : w5.heap.size = w1.heap.size + 1 := by rw [← hs4, hd5.heap]
    have hk15 := hk14.tr (hd5.kept none0) (fun _ _ x => x)
    have hlthb := hS5.1.lt
    have hltb9 := hS5.2.lt
    refine L_op 6 (by kernel_rfl) rfl (fun hcl => ?_)
    refine U_buildSlice E rfl rfl rfl rfl rfl rfl rfl rfl (segs := [encW (I, sec p)]) rfl (by intro s hs; rw [List.mem_singleton.1 hs, encW_len, sec_len]) rfl ?_
    intro b6 w6 hn6
    have hb6 := hn6.at_
    have hS6 : Blk w6 hb [.slice (some ⟨g, 0, none⟩) D.l.length cap, vw, .int .i64 (dec D.left)] 58 ∧ Blk w6 b9 (encW (I, sec p)) 75 := ⟨hS5.1.mv hn6.kept (fun x => x), hS5.2.mv hn6.kept (fun x => x)⟩
    have h4d := h4c.mv hn6.kept (fun _ _ _ x => x)
    have hk16 := hk15.tr hn6.kept (fun _ _ x => x)
    refine U_nilL hcl (fun _ => hS6) ?_
    refine L_op 7 (by kernel_rfl) rfl (fun hcl7 => ?_)
    have hlit : Sl w6 (fun x => x = b6) (.slice (some ⟨b6, 0, none⟩) 1 1) 257 1 (encW (I, sec p)) := by
      refine ⟨by omega, by rw [encW_len, sec_len], _, 1, rfl, Nat.le_refl _, .inr ⟨b6, 0, rfl, rfl, hn6.blk.lt, ?_⟩⟩
      have := hn6.blk.whole
      simpa using this
    refine U_append E h4d hlit (encW_one _) rfl rfl rfl rfl rfl (by omega) (by omega) rfl ?_
    intro vw' w7 hr7 hk7 _ hob
    obtain ⟨A7, c7, rfl⟩ := hr7.val
    have hown := h4d.own
    have hS7 : Blk w7 hb [.slice (some ⟨g, 0, none⟩) D.l.length cap, vw, .int .i64 (dec D.left)] 58 ∧ Blk w7 b9 (encW (I, sec p)) 75 := by
      refine ⟨hS6.1.mv hk7 (fun e => (hown _ e).1.2.1 rfl), hS6.2.mv hk7 (fun e => ?_)⟩
      have := h4.own b9 e
      have := this.2
      omega
    refine U_nilL hcl7 (fun _ => hS7) ?_
    refine L_take 8 rfl (by kernel_rfl) (by kernel_rfl) (by kernel_rfl) (by kernel_rfl) hS7 rfl rfl rfl (fun a ha w' _ => run_pv E ha rfl _ _ _ _ _) ?_
    refine L_take 9 rfl (by kernel_rfl) (by kernel_rfl) (by kernel_rfl) (by kernel_rfl) hS7 rfl rfl rfl (fun a ha w' _ => run_pv E ha rfl _ _ _ _ _) ?_
    refine L_op 10 (by kernel_rfl) rfl (fun hcl10 => ?_)
    refine U_store E (hS7.1) rfl rfl rfl (by simp) rfl ?_
    intro w8 hu8
    refine U_nilL hcl10 (fun e => absurd rfl e) ?_
    refine L_done (by kernel_rfl) ?_
    repeat (first | (with_reducible first | apply T_seq | apply T_region | apply U_nil | apply T_skip | apply T_block | apply T_inBlock | apply Cnd_t | apply Cnd_f | apply Cnd_not | apply Cnd_some | apply Cnd_none | apply Gd_nt | apply Gd_nf | apply Gd_some | apply Gd_none | apply Gd_want) | refine U_ar rfl rfl rfl (wrap_i64 (by omega)) rfl ?_ | refine U_pure E rfl rfl ?_ | refine T_exit rfl ?_ | refine T_condV rfl ?_ | refine U_guard rfl rfl ?_ | ((with_reducible refine Gd_skipT ?_ ?_); exact rfl) | ((with_reducible refine Gd_skipF ?_ ?_); exact rfl))
    have hn6s := hn6.size
    have hs7 := hk7.size
    have hk17 : Kept F w1 w7 := (hk16.mono (fun _ _ x => x.elim)).tr hk7 (fun j hj e => (h4.own j e).1.1)
    have hk18 : Kept F w1 w8 := hk17.tr hu8.kept (fun j hj e => by rw [e]; exact hF)
    refine T_ret1 Tryz.func42 rfl rfl ⟨_, rfl, rfl, (hk1.mono (fun j _ e => by rw [e]; exact hF)).tr hk18 (fun _ _ x => x), ?_, .slice (some ⟨g, 0, none⟩) D.l.length cap, .slice A7 (D.wait.length + 1) c7, .inl h1, ?_, ?_, ?_⟩
    · refine ⟨h0.n1, h0.n2, h0.secs, ?_, ?_, h0.left1, h0.left2⟩
      · intro q hq
        rcases List.mem_append.1 hq with hq | hq
        · exact h0.waits q hq
        · rw [List.mem_singleton.1 hq]
          exact ⟨by dsimp only; omega, sec_len p⟩
      · dsimp only
        simp only [List.length_append, List.length_cons, List.length_nil]
        omega
    · simpa using hu8.blk
    · have hkr : Kept (fun b => b = hb ∨ vw.ownBlock = some b) w1 w8 := ((hk16.mono (fun _ _ x => x.elim)).tr hk7 (fun j _ e => .inr e)).tr hu8.kept (fun j _ e => .inl e)
      have hgw : ∀ j, vw.ownBlock = some j → j ≠ g := fun j e e2 => (h4.own j e).1.2.2 (by rw [e2]; rfl)
      have hbg8 := hbg.mv hkr (fun e => e.elim (fun e => hg.2 e) (fun e => hgw g e rfl))
      exact ⟨h3.1, .inr ⟨g, cap, pad, rfl, ⟨.inl hg.1, hg.2⟩, hbg8, hgl, hgc⟩⟩
    · have hr8 := hr7.mv (G := fun b => (F b ∧ b ≠ hb ∧ (Value.slice (some { block := g, off := 0 }) D.l.length cap).ownBlock ≠ some b) ∨ w6.heap.size ≤ b) (F := fun x => x = hb) hu8.kept (fun j _ e e2 => by
        subst e2
        rcases e with e | e
        · exact e.2.1 rfl
        · omega)
      have he : (List.map encW (D.wait ++ [(I, sec p)])).flatten = (List.map encW D.wait).flatten ++ encW (I, sec p) := by
        rw [List.map_append, List.map_cons, List.map_nil, flat_snoc]
      have hlw : (D.wait ++ [(I, sec p)]).length = D.wait.length + 1 := by simp
      rw [he, hlw]
      refine hr8.mono (fun j _ e => ?_)
      rcases e with e | e
      · exact ⟨.inl e.1, e.2.1, e.2.2⟩
      · refine ⟨.inr (by omega), by omega, fun e2 => ?_⟩
        simp only [Value.ownBlock] at e2
        injection e2 with e2
        have hltg := hbg.lt
        omega
end Go.Proofs.YtoefhdaenaiomaaGreatDoor
