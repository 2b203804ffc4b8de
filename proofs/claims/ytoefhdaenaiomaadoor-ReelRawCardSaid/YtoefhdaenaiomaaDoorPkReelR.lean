/- Open on anything: what it found it finds again. The plain law. -/
import Derived.Test.YtoefhdaenaiomaaDoorPk13
set_option linter.unusedVariables false
set_option linter.unusedSimpArgs false
namespace Go.Proofs.YtoefhdaenaiomaaDoor
open Go
set_option maxRecDepth 20000

theorem bareD_congr {D D' : Dr} {i : Int} {m : UInt8} (hl : D'.l.length = D.l.length) (h : vw D' i.toNat = vw D i.toNat) : bareD D' i m = bareD D i m := by
  unfold vw at h
  unfold bareD
  rw [hl, h]
theorem recR_congr {D D' : Dr} {g n a : Nat} (hl : D'.l.length = D.l.length) : ∀ (f k : Nat) (all p : List UInt8) (q : Nat), 1 ≤ k → recR D g n a f k all = some (p, q) → (∀ j, a ≤ j → j < a + q → vw D' (base D g + j) = vw D (base D g + j)) → recR D' g n a f k all = some (p, q)
  | 0, _, _, _, _, _, h, _ => by rw [recR] at h; cases h
  | f + 1, k, all, p, q, hk, h, hv => by
    have hkq := (recR_some _ _ _ _ _ h).1
    rw [recR] at h ⊢
    rw [hsz_len hl, base_len hl]
    rw [bareD_congr hl (show vw D' (((base D g + a + k : Nat) : Int) - 1).toNat = vw D (((base D g + a + k : Nat) : Int) - 1).toNat by
      rw [show (((base D g + a + k : Nat) : Int) - 1).toNat = base D g + (a + k - 1) by omega]
      exact hv _ (by omega) (by omega))]
    by_cases h1 : a + k ≤ hsz D
    · rw [if_pos h1] at h ⊢
      cases hb : bareD D ((base D g + a + k : Nat) - 1 : Int) 165 with
      | none => rw [hb] at h; cases h
      | some b =>
        rw [hb] at h
        dsimp only at h ⊢
        by_cases h2 : 100000 < val4 (all ++ b) ∨ k < pgs (val4 (all ++ b))
        · rw [if_pos h2] at h ⊢
          exact recR_congr hl f (k + 1) (all ++ b) p q (by omega) h hv
        · rw [if_neg h2] at h ⊢
          exact h
    · rw [if_neg h1] at h; cases h
theorem recD_congr {D D' : Dr} {g n a : Nat} (hl : D'.l.length = D.l.length) {p : List UInt8} {q : Nat} (h : recD D g n a = some (p, q)) (hv : ∀ j, a ≤ j → j < a + q → vw D' (base D g + j) = vw D (base D g + j)) : recD D' g n a = some (p, q) := by
  rw [recD] at h ⊢
  rw [hsz_len hl]
  exact recR_congr hl _ _ _ _ _ (Nat.le_refl _) h hv
theorem scanR_ge {D : Dr} {g : Nat} : ∀ (f : Nat) (l : List (List UInt8)) (a : Nat), a ≤ (scanR D g f l a).2
  | 0, _, _ => Nat.le_refl _
  | f + 1, l, a => by
    rw [scanR]
    cases h : recD D g l.length a with
    | none => exact Nat.le_refl _
    | some x =>
      obtain ⟨p, q⟩ := x
      have := scanR_ge (D := D) (g := g) f (l ++ [p]) (a + q)
      dsimp only
      omega
theorem scanR_le {D : Dr} {g : Nat} : ∀ (f : Nat) (l : List (List UInt8)) (a : Nat), a ≤ hsz D → (scanR D g f l a).2 ≤ hsz D
  | 0, _, _, h => h
  | f + 1, l, a, h => by
    rw [scanR]
    cases hr : recD D g l.length a with
    | none => exact h
    | some x =>
      obtain ⟨p, q⟩ := x
      exact scanR_le f (l ++ [p]) (a + q) (recD_some hr).2.1
theorem scan_again {D D' : Dr} {g : Nat} (hl : D'.l.length = D.l.length) : ∀ (f : Nat) (l : List (List UInt8)) (a : Nat), (∀ j, j < (scanR D g f l a).2 → vw D' (base D g + j) = vw D (base D g + j)) →
    recD D' g (scanR D g f l a).1.length (scanR D g f l a).2 = none → scanR D' g f l a = scanR D g f l a
  | 0, _, _, _, _ => rfl
  | f + 1, l, a, hv, hn => by
    rw [scanR] at hv hn
    rw [scanR, scanR]
    cases hr : recD D g l.length a with
    | none =>
      rw [hr] at hn
      dsimp only at hn
      rw [hn]
    | some x =>
      obtain ⟨p, q⟩ := x
      rw [hr] at hv hn
      dsimp only at hv hn
      have hge := scanR_ge (D := D) (g := g) f (l ++ [p]) (a + q)
      rw [recD_congr hl hr (fun j h1 h2 => hv j (by omega))]
      exact scan_again hl f (l ++ [p]) (a + q) hv hn

theorem opS_le (D : Dr) : (opS D).2 ≤ hsz D := scanR_le _ _ _ (Nat.zero_le _)

/-- Open has its errors. -/
theorem open_errs {D : Dr} (h : On D) (h6 : 6 ≤ D.l.length ∧ D.l.length ≤ 7000) : (opF D).1 = 0 ∨ (opF D).1 = 3 ∨ (opF D).1 = 5 ∨ (opF D).1 = 2 := by
  have hbh := base_hsz D (opG D) (by omega)
  have hle := opS_le D
  obtain ⟨a0, a1, a2, a3⟩ := wipe_on (hsz D - (opS D).2) (base D (opG D) + (opS D).2) false D h (by omega)
  obtain ⟨W, hW⟩ : ∃ W, wipeR (hsz D - (opS D).2) (base D (opG D) + (opS D).2) false D = W := ⟨_, rfl⟩
  rw [hW] at a0 a1
  rw [opF, if_neg (by omega)]
  by_cases h1 : opG D = 0
  · rw [if_pos h1]
    dsimp only
    split
    · exact .inr (.inl rfl)
    · exact .inr (.inr (.inl rfl))
  · rw [if_neg h1]
    by_cases h2 : (opS D).1.length = 0
    · rw [if_pos h2]; exact .inr (.inr (.inr rfl))
    · rw [if_neg h2, hW, tidF]
      left
      split
      · exact (fl_on a1).1
      · exact a0

/-- What Open leaves. -/
theorem open_leaves {D : Dr} (h : On D) (h6 : 6 ≤ D.l.length ∧ D.l.length ≤ 7000) (h0 : (opF D).1 = 0) :
    On (opF D).2 ∧ (opF D).2.l.length = D.l.length ∧ (opF D).2.wait.length ≤ D.wait.length + hsz D ∧ opG D ≠ 0 ∧ 0 < (opS D).1.length ∧
      ∀ j, vw (opF D).2 j = if base D (opG D) + (opS D).2 ≤ j ∧ j < base D (opG D) + hsz D then zeros 256 else vw D j := by
  have hbh := base_hsz D (opG D) (by omega)
  have hle := opS_le D
  obtain ⟨a0, a1, a2, a3⟩ := wipe_on (hsz D - (opS D).2) (base D (opG D) + (opS D).2) false D h (by omega)
  have hk := wipeR_keeps (hsz D - (opS D).2) (base D (opG D) + (opS D).2) false D
  obtain ⟨W, hW⟩ : ∃ W, wipeR (hsz D - (opS D).2) (base D (opG D) + (opS D).2) false D = W := ⟨_, rfl⟩
  rw [hW] at a0 a1 a2 a3 hk
  rw [opF, if_neg (by omega)] at h0 ⊢
  by_cases h1 : opG D = 0
  · rw [if_pos h1] at h0
    dsimp only at h0
    split at h0 <;> cases h0
  · rw [if_neg h1] at h0 ⊢
    by_cases h2 : (opS D).1.length = 0
    · rw [if_pos h2] at h0; cases h0
    · rw [if_neg h2, hW] at h0 ⊢
      obtain ⟨b0, b1, b2, b3, b4, b5⟩ := fl_on a1
      have hv : ∀ j, vw W.2.2 j = if base D (opG D) + (opS D).2 ≤ j ∧ j < base D (opG D) + hsz D then zeros 256 else vw D j := by
        intro j
        rw [a3]
        rw [show base D (opG D) + (opS D).2 + (hsz D - (opS D).2) = base D (opG D) + hsz D by omega]
      rw [tidF]
      split
      · exact ⟨b1, by dsimp only; rw [b2, a2], by dsimp only; rw [b3]; exact Nat.zero_le _, h1, by omega, fun j => by dsimp only; rw [b4, hv]⟩
      · exact ⟨a1, by rw [a2], by omega, h1, by omega, hv⟩

/-- It finds it again. -/
theorem open_again {D : Dr} (h : On D) (h6 : 6 ≤ D.l.length ∧ D.l.length ≤ 7000) (h0 : (opF D).1 = 0) :
    opG (opF D).2 = opG D ∧ opS (opF D).2 = opS D ∧ opF (opF D).2 = (0, (opF D).2) := by
  obtain ⟨c1, c2, c3, c4, c5, c6⟩ := open_leaves h h6 h0
  obtain ⟨D', hD'⟩ : ∃ D', (opF D).2 = D' := ⟨_, rfl⟩
  rw [hD'] at c1 c2 c3 c6 ⊢
  have hbh := base_hsz D (opG D) (by omega)
  have hle := opS_le D
  have hb2 : 2 ≤ base D (opG D) := by unfold base; omega
  have hG : opG D' = opG D := by
    have e0 : vw D' 0 = vw D 0 := by rw [c6, if_neg (by omega)]
    have e1 : vw D' 1 = vw D 1 := by rw [c6, if_neg (by omega)]
    unfold vw at e0 e1
    unfold opG headD
    rw [e0, e1]
  have hS : opS D' = opS D := by
    rw [opS, hG, hsz_len c2]
    refine scan_again c2 _ _ _ (fun j hj => ?_) (recD_none (fun hlt => ?_))
    · have hj : j < (opS D).2 := hj
      rw [c6, if_neg (by omega)]
    · have hlt : (opS D).2 < hsz D' := hlt
      have e : base D' (opG D) = base D (opG D) := base_len c2 _
      rw [hsz_len c2] at hlt
      rw [e]
      show vw D' (base D (opG D) + (opS D).2) = _
      rw [c6, if_pos ⟨Nat.le_refl _, by omega⟩]
  refine ⟨hG, hS, ?_⟩
  rw [opF, if_neg (by omega), hG, if_neg c4, hS, if_neg (by omega), wipe_clean _ _ _ (fun j hj => ⟨⟨by omega, ?_⟩, ?_⟩)]
  · rw [tidF, if_neg (fun e => absurd e.2 Bool.false_ne_true)]
  · rw [hsz_len c2] at hj
    rw [base_len c2, c2]
    omega
  · rw [Int.toNat_natCast]
    rw [hsz_len c2] at hj
    rw [base_len c2]
    show vw D' _ = _
    rw [c6, if_pos ⟨by omega, by omega⟩]
end Go.Proofs.YtoefhdaenaiomaaDoor
