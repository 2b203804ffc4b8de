/- Writes that go well; what comes behind a test. -/
import Derived.Test.YtoefhdaenaiomaaDoorDrumJ
import Derived.Test.YtoefhdaenaiomaaDoorArgs
namespace Go.Proofs.YtoefhdaenaiomaaDoor
open Go
set_option maxRecDepth 20000

section
variable {P : Program} {f : FuncId} {R : Ending → World → Prop} {n : Nat} {k : List Item} {m : Fm} {w : World}
/-- What comes behind a piece of code is walked once. -/
theorem T_via {α : Type} {it : Item} (fm : α → Fm) (X : α → World → Prop) (fin : ∀ x w', X x w' → T P f R n k (fm x) w') (h : (∀ x w', X x w' → T P f R n k (fm x) w') → T P f R n (it :: k) m w) : T P f R n (it :: k) m w := h fin
end

theorem old_fresh {w w' : World} (h : w.heap.size ≤ w'.heap.size) : ∀ b, b < w'.heap.size → old w b → ¬ fresh w b := fun b _ h1 h2 => by simp only [old, fresh] at *; omega

theorem wr_eq (l : List (List UInt8)) (ws : List (Nat × List UInt8)) (i : Nat) (p : List UInt8) (hi : i < l.length) (hp : p.length ≤ 256) : wrErr ⟨l, ws, -1⟩ i p = 0 ∧ wrDr ⟨l, ws, -1⟩ i p = ⟨l, ws ++ [(i, sec p)], -1⟩ := by
  have h : wrErr ⟨l, ws, -1⟩ i p = 0 := by
    rw [wrErr, if_pos (by dsimp only; omega), if_neg (by omega), if_neg (by dsimp only; omega)]
  refine ⟨h, ?_⟩
  rw [wrDr, if_pos h]
  rfl

/-- A write that goes well. -/
theorem wr_c (w0 w : World) (hb : Nat) (l : List (List UInt8)) (ws : List (Nat × List UInt8)) (v : Value) (p : List UInt8) (i : Int) (j : Nat) (e : i = j) (h0 : w0.heap.size ≤ w.heap.size) (h : IsD w (fresh w0) hb ⟨l, ws, -1⟩) (hp : BS w (old w0) v p) (hi : j < l.length) (hl : p.length ≤ 256) (hwn : ws.length < 1000000) :
    Calls Tryd.prog 27 [ptr hb, .int .i64 i, v].toArray w (Ret fun r w' => r = errV 0 ∧ Kept (fresh w0) w w' ∧ IsD w' (fresh w0) hb ⟨l, ws ++ [(j, sec p)], -1⟩) := by
  subst e
  obtain ⟨h1, h2⟩ := wr_eq l ws j p hi hl
  refine (write_ok w (fresh w0) hb _ (old w0) v p j h hp (fun b h1 h2 => by simp only [old, fresh] at *; omega) h1 hwn).mono ?_
  rintro e w' ⟨r, rfl, rfl, hk, hD⟩
  rw [h2] at hD
  exact ⟨_, rfl, rfl, hk, hD.mono (fun b _ h => h.elim (fun x => x) (fun x => Nat.le_trans h0 x))⟩

end Go.Proofs.YtoefhdaenaiomaaDoor
