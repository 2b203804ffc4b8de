/- Rows of one length, one behind the other: a row read, a row set. -/
import Derived.Test.YtoefhdaenaiomaaDoorEnv
namespace Go.Proofs.YtoefhdaenaiomaaDoor
open Go
set_option maxRecDepth 20000

section
variable {α : Type} {sz : Nat}
theorem flat_take : ∀ (segs : List (List α)) (k : Nat), (∀ s ∈ segs, s.length = sz) → k ≤ segs.length → segs.flatten.take (k * sz) = (segs.take k).flatten
  | [], k, _, hk => by simp
  | s :: segs, 0, h, hk => by simp
  | s :: segs, k + 1, h, hk => by
    have hs : s.length = sz := h s (by simp)
    have ih := flat_take segs k (fun x hx => h x (by simp [hx])) (by simpa using hk)
    rw [List.flatten_cons, List.take_succ_cons, List.flatten_cons, List.take_append, Nat.succ_mul, List.take_of_length_le (by omega), hs, show k * sz + sz - sz = k * sz by omega, ih]
theorem flat_drop : ∀ (segs : List (List α)) (k : Nat), (∀ s ∈ segs, s.length = sz) → k ≤ segs.length → segs.flatten.drop (k * sz) = (segs.drop k).flatten
  | [], k, _, hk => by simp
  | s :: segs, 0, h, hk => by simp
  | s :: segs, k + 1, h, hk => by
    have hs : s.length = sz := h s (by simp)
    have ih := flat_drop segs k (fun x hx => h x (by simp [hx])) (by simpa using hk)
    rw [List.flatten_cons, List.drop_succ_cons, List.drop_append, Nat.succ_mul, List.drop_of_length_le (by omega), hs, show k * sz + sz - sz = k * sz by omega, ih, List.nil_append]
theorem flat_part (segs : List (List α)) (k : Nat) (h : ∀ s ∈ segs, s.length = sz) (hk : k < segs.length) (pad : List α) : ((segs.flatten ++ pad).drop (k * sz)).take sz = segs[k] := by
  have hl := flat_len segs h
  have hle : k * sz ≤ segs.flatten.length := by rw [hl]; exact Nat.mul_le_mul_right _ (by omega)
  rw [List.drop_append_of_le_length hle, flat_drop segs k h (by omega), List.drop_eq_getElem_cons hk, List.flatten_cons, List.append_assoc]
  exact List.take_left' (h _ (List.getElem_mem hk))
theorem flat_set (segs : List (List α)) (k : Nat) (s : List α) (h : ∀ s ∈ segs, s.length = sz) (hk : k < segs.length) (pad : List α) :
    (segs.flatten ++ pad).take (k * sz) ++ s ++ (segs.flatten ++ pad).drop (k * sz + sz) = (segs.set k s).flatten ++ pad := by
  have hl := flat_len segs h
  have hle : k * sz ≤ segs.flatten.length := by rw [hl]; exact Nat.mul_le_mul_right _ (by omega)
  have hle2 : (k + 1) * sz ≤ segs.flatten.length := by rw [hl]; exact Nat.mul_le_mul_right _ (by omega)
  rw [List.take_append_of_le_length hle, ← Nat.succ_mul, List.drop_append_of_le_length hle2, flat_take segs k h (by omega), flat_drop segs (k + 1) h (by omega), List.set_eq_take_append_cons_drop, if_pos hk]
  simp
/-- A row's end is set. -/
theorem flat_sub (segs : List (List α)) (k t : Nat) (x : List α) (h : ∀ s ∈ segs, s.length = sz) (hk : k < segs.length) (ht : t + x.length = sz) (pad : List α) :
    (segs.flatten ++ pad).take (k * sz + t) ++ x ++ (segs.flatten ++ pad).drop (k * sz + t + x.length) = (segs.set k (segs[k].take t ++ x)).flatten ++ pad := by
  rw [← flat_set segs k (segs[k].take t ++ x) h hk pad, List.take_add, ← flat_part segs k h hk pad, List.take_take, Nat.min_eq_left (by omega), Nat.add_assoc (k * sz) t, ht]
  simp
end
end Go.Proofs.YtoefhdaenaiomaaDoor
