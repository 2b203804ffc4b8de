/- The drum: what a value in memory stands for; its small functions. -/
import Derived.Test.YtoefhdaenaiomaaDoorBytes
namespace Go.Proofs.YtoefhdaenaiomaaDoor
open Go
set_option maxRecDepth 20000

/-- A drum: sectors as they are flushed, writes that are not, how many acts more go well. -/
structure Dr where
  l : List (List UInt8)
  wait : List (Nat × List UInt8)
  left : Int

structure Dr.Ok (D : Dr) : Prop where
  n1 : 1 ≤ D.l.length
  n2 : D.l.length ≤ 8192
  secs : ∀ s ∈ D.l, s.length = 256
  waits : ∀ p ∈ D.wait, p.1 < D.l.length ∧ p.2.length = 256
  wn : D.wait.length ≤ 1000000
  left1 : -1 ≤ D.left
  left2 : D.left ≤ 9223372036854775807

def encW (p : Nat × List UInt8) : List Value := .int .i64 p.1 :: encBs p.2
theorem encW_len (p : Nat × List UInt8) : (encW p).length = p.2.length + 1 := by simp [encW, encBs_len]

def ptr (b : Nat) : Value := .pointer (some ⟨b, 0, none⟩)
def errV : Nat → Value
  | 0 => .nilIface
  | k + 1 => .iface 39 (.int .i64 (k + 1 : Nat))

def IsD (w : World) (F : Nat → Prop) (hb : Nat) (D : Dr) : Prop :=
  D.Ok ∧ ∃ vl vw, F hb ∧ Blk w hb [vl, vw, .int .i64 D.left] 99 ∧ Row w (fun b => F b ∧ b ≠ hb) vl 256 D.l.length (D.l.map encBs).flatten 101 ∧
    Row w (fun b => F b ∧ b ≠ hb ∧ vl.ownBlock ≠ some b) vw 257 D.wait.length (D.wait.map encW).flatten 103

theorem IsD.mono {w : World} {F G : Nat → Prop} {hb : Nat} {D : Dr} (h : IsD w F hb D) (hg : ∀ b, b < w.heap.size → F b → G b) : IsD w G hb D := by
  obtain ⟨h0, vl, vw, h1, h2, h3, h4⟩ := h
  exact ⟨h0, vl, vw, hg _ h2.lt h1, h2, h3.mono (fun b hb h => ⟨hg b hb h.1, h.2⟩), h4.mono (fun b hb h => ⟨hg b hb h.1, h.2⟩)⟩
theorem IsD.mv {w w' : World} {F G : Nat → Prop} {hb : Nat} {D : Dr} (h : IsD w F hb D) (k : Kept G w w') (hd : ∀ b, b < w.heap.size → F b → ¬ G b) : IsD w' F hb D := by
  obtain ⟨h0, vl, vw, h1, h2, h3, h4⟩ := h
  exact ⟨h0, vl, vw, h1, h2.mv k (hd _ h2.lt h1), h3.mv k (fun b hb h => hd b hb h.1), h4.mv k (fun b hb h => hd b hb h.1)⟩
theorem IsD.lt {w : World} {F : Nat → Prop} {hb : Nat} {D : Dr} (h : IsD w F hb D) : hb < w.heap.size := by
  obtain ⟨h0, vl, vw, h1, h2, h3, h4⟩ := h
  exact h2.lt
theorem IsD.mem {w : World} {F : Nat → Prop} {hb : Nat} {D : Dr} (h : IsD w F hb D) : F hb := by
  obtain ⟨h0, vl, vw, h1, h2, h3, h4⟩ := h
  exact h1

theorem Row.pos {w : World} {F : Nat → Prop} {v : Value} {sz n : Nat} {cs : List Value} {e : TypeId} (h : Row w F v sz n cs e) (hn : 0 < n) :
    ∃ g cap pad, v = .slice (some ⟨g, 0, none⟩) n cap ∧ F g ∧ Blk w g (cs ++ pad) e ∧ (cs ++ pad).length = cap * sz ∧ n ≤ cap := by
  rcases h.2 with ⟨_, h0⟩ | h
  · omega
  · exact h
theorem Row.val {w : World} {F : Nat → Prop} {v : Value} {sz n : Nat} {cs : List Value} {e : TypeId} (h : Row w F v sz n cs e) : ∃ A c, v = .slice A n c := by
  rcases h.2 with ⟨rfl, rfl⟩ | ⟨g, cap, pad, rfl, _⟩
  · exact ⟨none, 0, rfl⟩
  · exact ⟨_, cap, rfl⟩

theorem fits_c (w : World) (F : Nat → Prop) (hb : Nat) (D : Dr) (i : Int) (h : IsD w F hb D) :
    Calls Tryd.prog 70 [ptr hb, .int .i64 i].toArray w (fun e w' => e = .returned (errV (if 0 ≤ i ∧ i < D.l.length then 0 else 7)) ∧ w' = w) := by
  obtain ⟨h0, vl, vw, h1, h2, h3, h4⟩ := h
  have hn1 := h0.n1
  obtain ⟨g, cap, pad, rfl, -, -, -, -⟩ := h3.pos hn1
  refine calls_T Tryd.func70 rfl rfl rfl ?_
  unfold ptr
  repeat (first | with_reducible refine T_seq ?_ | with_reducible refine T_region ?_ | with_reducible refine U_nil ?_ | refine U_ar rfl rfl rfl (wrap_i64 (by omega)) rfl ?_ | refine U_pure E rfl rfl ?_ | with_reducible refine T_skip ?_ | with_reducible refine T_block ?_ | with_reducible refine T_inBlock ?_ | refine T_exit rfl ?_ | refine T_condV rfl ?_ | with_reducible refine Cnd_t ?_ | with_reducible refine Cnd_f ?_ | with_reducible refine Cnd_not ?_ | with_reducible refine Cnd_some ?_ | with_reducible refine Cnd_none ?_ | refine U_guard rfl rfl ?_ | with_reducible refine Gd_nt ?_ | with_reducible refine Gd_nf ?_ | with_reducible refine Gd_some ?_ | with_reducible refine Gd_none ?_ | with_reducible refine Gd_want ?_ | ((with_reducible refine Gd_skipT ?_ ?_); exact rfl) | ((with_reducible refine Gd_skipF ?_ ?_); exact rfl))
  refine Gd_p (fun hi => ?_) (fun hi => ?_)
  · repeat (first | with_reducible refine T_seq ?_ | with_reducible refine T_region ?_ | with_reducible refine U_nil ?_ | refine U_ar rfl rfl rfl (wrap_i64 (by omega)) rfl ?_ | refine U_pure E rfl rfl ?_ | with_reducible refine T_skip ?_ | with_reducible refine T_block ?_ | with_reducible refine T_inBlock ?_ | refine T_exit rfl ?_ | refine T_condV rfl ?_ | with_reducible refine Cnd_t ?_ | with_reducible refine Cnd_f ?_ | with_reducible refine Cnd_not ?_ | with_reducible refine Cnd_some ?_ | with_reducible refine Cnd_none ?_ | refine U_guard rfl rfl ?_ | with_reducible refine Gd_nt ?_ | with_reducible refine Gd_nf ?_ | with_reducible refine Gd_some ?_ | with_reducible refine Gd_none ?_ | with_reducible refine Gd_want ?_ | ((with_reducible refine Gd_skipT ?_ ?_); exact rfl) | ((with_reducible refine Gd_skipF ?_ ?_); exact rfl))
    refine T_ret1 Tryd.func70 rfl rfl ⟨?_, rfl⟩
    rw [if_neg (by omega)]
    rfl
  · repeat (first | with_reducible refine T_seq ?_ | with_reducible refine T_region ?_ | with_reducible refine U_nil ?_ | refine U_ar rfl rfl rfl (wrap_i64 (by omega)) rfl ?_ | refine U_pure E rfl rfl ?_ | with_reducible refine T_skip ?_ | with_reducible refine T_block ?_ | with_reducible refine T_inBlock ?_ | refine T_exit rfl ?_ | refine T_condV rfl ?_ | with_reducible refine Cnd_t ?_ | with_reducible refine Cnd_f ?_ | with_reducible refine Cnd_not ?_ | with_reducible refine Cnd_some ?_ | with_reducible refine Cnd_none ?_ | refine U_guard rfl rfl ?_ | with_reducible refine Gd_nt ?_ | with_reducible refine Gd_nf ?_ | with_reducible refine Gd_some ?_ | with_reducible refine Gd_none ?_ | with_reducible refine Gd_want ?_ | ((with_reducible refine Gd_skipT ?_ ?_); exact rfl) | ((with_reducible refine Gd_skipF ?_ ?_); exact rfl))
    refine U_loadB E (by assumption) rfl rfl rfl (by rfl) rfl ?_
    repeat (first | with_reducible refine T_seq ?_ | with_reducible refine T_region ?_ | with_reducible refine U_nil ?_ | refine U_ar rfl rfl rfl (wrap_i64 (by omega)) rfl ?_ | refine U_pure E rfl rfl ?_ | with_reducible refine T_skip ?_ | with_reducible refine T_block ?_ | with_reducible refine T_inBlock ?_ | refine T_exit rfl ?_ | refine T_condV rfl ?_ | with_reducible refine Cnd_t ?_ | with_reducible refine Cnd_f ?_ | with_reducible refine Cnd_not ?_ | with_reducible refine Cnd_some ?_ | with_reducible refine Cnd_none ?_ | refine U_guard rfl rfl ?_ | with_reducible refine Gd_nt ?_ | with_reducible refine Gd_nf ?_ | with_reducible refine Gd_some ?_ | with_reducible refine Gd_none ?_ | with_reducible refine Gd_want ?_ | ((with_reducible refine Gd_skipT ?_ ?_); exact rfl) | ((with_reducible refine Gd_skipF ?_ ?_); exact rfl))
    refine Cnd_p (fun hc => ?_) (fun hc => ?_)
    · repeat (first | with_reducible refine T_seq ?_ | with_reducible refine T_region ?_ | with_reducible refine U_nil ?_ | refine U_ar rfl rfl rfl (wrap_i64 (by omega)) rfl ?_ | refine U_pure E rfl rfl ?_ | with_reducible refine T_skip ?_ | with_reducible refine T_block ?_ | with_reducible refine T_inBlock ?_ | refine T_exit rfl ?_ | refine T_condV rfl ?_ | with_reducible refine Cnd_t ?_ | with_reducible refine Cnd_f ?_ | with_reducible refine Cnd_not ?_ | with_reducible refine Cnd_some ?_ | with_reducible refine Cnd_none ?_ | refine U_guard rfl rfl ?_ | with_reducible refine Gd_nt ?_ | with_reducible refine Gd_nf ?_ | with_reducible refine Gd_some ?_ | with_reducible refine Gd_none ?_ | with_reducible refine Gd_want ?_ | ((with_reducible refine Gd_skipT ?_ ?_); exact rfl) | ((with_reducible refine Gd_skipF ?_ ?_); exact rfl))
      refine T_ret1 Tryd.func70 rfl rfl ⟨?_, rfl⟩
      rw [if_neg (by omega)]
      rfl
    · repeat (first | with_reducible refine T_seq ?_ | with_reducible refine T_region ?_ | with_reducible refine U_nil ?_ | refine U_ar rfl rfl rfl (wrap_i64 (by omega)) rfl ?_ | refine U_pure E rfl rfl ?_ | with_reducible refine T_skip ?_ | with_reducible refine T_block ?_ | with_reducible refine T_inBlock ?_ | refine T_exit rfl ?_ | refine T_condV rfl ?_ | with_reducible refine Cnd_t ?_ | with_reducible refine Cnd_f ?_ | with_reducible refine Cnd_not ?_ | with_reducible refine Cnd_some ?_ | with_reducible refine Cnd_none ?_ | refine U_guard rfl rfl ?_ | with_reducible refine Gd_nt ?_ | with_reducible refine Gd_nf ?_ | with_reducible refine Gd_some ?_ | with_reducible refine Gd_none ?_ | with_reducible refine Gd_want ?_ | ((with_reducible refine Gd_skipT ?_ ?_); exact rfl) | ((with_reducible refine Gd_skipF ?_ ?_); exact rfl))
      refine T_ret1 Tryd.func70 rfl rfl ⟨?_, rfl⟩
      rw [if_pos (by omega)]
      rfl

/-- One act more; what is left then; none: no act goes well any more. -/
def dec (n : Int) : Int := if n = -1 then -1 else n - 1

theorem act_c (w : World) (F : Nat → Prop) (hb : Nat) (D : Dr) (h : IsD w F hb D) :
    Calls Tryd.prog 69 [ptr hb].toArray w (Ret fun r w' => r = errV (if D.left = 0 then 8 else 0) ∧ Kept (fun b => b = hb) w w' ∧ w'.heap.size = w.heap.size ∧ IsD w' F hb (if D.left = 0 then D else { D with left := dec D.left })) := by
  have hD := h
  obtain ⟨h0, vl, vw, h1, h2, h3, h4⟩ := h
  have hl1 := h0.left1
  have hl2 := h0.left2
  refine calls_T Tryd.func69 rfl rfl rfl ?_
  unfold ptr
  repeat (first | with_reducible refine T_seq ?_ | with_reducible refine T_region ?_ | with_reducible refine U_nil ?_ | refine U_ar rfl rfl rfl (wrap_i64 (by omega)) rfl ?_ | refine U_pure E rfl rfl ?_ | with_reducible refine T_skip ?_ | with_reducible refine T_block ?_ | with_reducible refine T_inBlock ?_ | refine T_exit rfl ?_ | refine T_condV rfl ?_ | with_reducible refine Cnd_t ?_ | with_reducible refine Cnd_f ?_ | with_reducible refine Cnd_not ?_ | with_reducible refine Cnd_some ?_ | with_reducible refine Cnd_none ?_ | refine U_guard rfl rfl ?_ | with_reducible refine Gd_nt ?_ | with_reducible refine Gd_nf ?_ | with_reducible refine Gd_some ?_ | with_reducible refine Gd_none ?_ | with_reducible refine Gd_want ?_ | ((with_reducible refine Gd_skipT ?_ ?_); exact rfl) | ((with_reducible refine Gd_skipF ?_ ?_); exact rfl))
  refine U_loadB E (by assumption) rfl rfl rfl (by rfl) rfl ?_
  repeat (first | with_reducible refine T_seq ?_ | with_reducible refine T_region ?_ | with_reducible refine U_nil ?_ | refine U_ar rfl rfl rfl (wrap_i64 (by omega)) rfl ?_ | refine U_pure E rfl rfl ?_ | with_reducible refine T_skip ?_ | with_reducible refine T_block ?_ | with_reducible refine T_inBlock ?_ | refine T_exit rfl ?_ | refine T_condV rfl ?_ | with_reducible refine Cnd_t ?_ | with_reducible refine Cnd_f ?_ | with_reducible refine Cnd_not ?_ | with_reducible refine Cnd_some ?_ | with_reducible refine Cnd_none ?_ | refine U_guard rfl rfl ?_ | with_reducible refine Gd_nt ?_ | with_reducible refine Gd_nf ?_ | with_reducible refine Gd_some ?_ | with_reducible refine Gd_none ?_ | with_reducible refine Gd_want ?_ | ((with_reducible refine Gd_skipT ?_ ?_); exact rfl) | ((with_reducible refine Gd_skipF ?_ ?_); exact rfl))
  refine Cnd_p (fun hz => ?_) (fun hz => ?_)
  · repeat (first | with_reducible refine T_seq ?_ | with_reducible refine T_region ?_ | with_reducible refine U_nil ?_ | refine U_ar rfl rfl rfl (wrap_i64 (by omega)) rfl ?_ | refine U_pure E rfl rfl ?_ | with_reducible refine T_skip ?_ | with_reducible refine T_block ?_ | with_reducible refine T_inBlock ?_ | refine T_exit rfl ?_ | refine T_condV rfl ?_ | with_reducible refine Cnd_t ?_ | with_reducible refine Cnd_f ?_ | with_reducible refine Cnd_not ?_ | with_reducible refine Cnd_some ?_ | with_reducible refine Cnd_none ?_ | refine U_guard rfl rfl ?_ | with_reducible refine Gd_nt ?_ | with_reducible refine Gd_nf ?_ | with_reducible refine Gd_some ?_ | with_reducible refine Gd_none ?_ | with_reducible refine Gd_want ?_ | ((with_reducible refine Gd_skipT ?_ ?_); exact rfl) | ((with_reducible refine Gd_skipF ?_ ?_); exact rfl))
    refine T_ret1 Tryd.func69 rfl rfl ⟨_, rfl, ?_, Kept.refl _ _, rfl, ?_⟩
    · rw [if_pos hz]; rfl
    · rw [if_pos hz]; exact hD
  · repeat (first | with_reducible refine T_seq ?_ | with_reducible refine T_region ?_ | with_reducible refine U_nil ?_ | refine U_ar rfl rfl rfl (wrap_i64 (by omega)) rfl ?_ | refine U_pure E rfl rfl ?_ | with_reducible refine T_skip ?_ | with_reducible refine T_block ?_ | with_reducible refine T_inBlock ?_ | refine T_exit rfl ?_ | refine T_condV rfl ?_ | with_reducible refine Cnd_t ?_ | with_reducible refine Cnd_f ?_ | with_reducible refine Cnd_not ?_ | with_reducible refine Cnd_some ?_ | with_reducible refine Cnd_none ?_ | refine U_guard rfl rfl ?_ | with_reducible refine Gd_nt ?_ | with_reducible refine Gd_nf ?_ | with_reducible refine Gd_some ?_ | with_reducible refine Gd_none ?_ | with_reducible refine Gd_want ?_ | ((with_reducible refine Gd_skipT ?_ ?_); exact rfl) | ((with_reducible refine Gd_skipF ?_ ?_); exact rfl))
    refine Cnd_p (fun hm => ?_) (fun hm => ?_)
    · repeat (first | with_reducible refine T_seq ?_ | with_reducible refine T_region ?_ | with_reducible refine U_nil ?_ | refine U_ar rfl rfl rfl (wrap_i64 (by omega)) rfl ?_ | refine U_pure E rfl rfl ?_ | with_reducible refine T_skip ?_ | with_reducible refine T_block ?_ | with_reducible refine T_inBlock ?_ | refine T_exit rfl ?_ | refine T_condV rfl ?_ | with_reducible refine Cnd_t ?_ | with_reducible refine Cnd_f ?_ | with_reducible refine Cnd_not ?_ | with_reducible refine Cnd_some ?_ | with_reducible refine Cnd_none ?_ | refine U_guard rfl rfl ?_ | with_reducible refine Gd_nt ?_ | with_reducible refine Gd_nf ?_ | with_reducible refine Gd_some ?_ | with_reducible refine Gd_none ?_ | with_reducible refine Gd_want ?_ | ((with_reducible refine Gd_skipT ?_ ?_); exact rfl) | ((with_reducible refine Gd_skipF ?_ ?_); exact rfl))
      refine T_ret1 Tryd.func69 rfl rfl ⟨_, rfl, ?_, Kept.refl _ _, rfl, ?_⟩
      · rw [if_neg hz]; rfl
      · rw [if_neg hz]
        have : ({ D with left := dec D.left } : Dr) = D := by
          cases D
          simp only [dec] at *
          rw [if_pos hm, hm]
        rw [this]
        exact hD
    · repeat (first | with_reducible refine T_seq ?_ | with_reducible refine T_region ?_ | with_reducible refine U_nil ?_ | refine U_ar rfl rfl rfl (wrap_i64 (by omega)) rfl ?_ | refine U_pure E rfl rfl ?_ | with_reducible refine T_skip ?_ | with_reducible refine T_block ?_ | with_reducible refine T_inBlock ?_ | refine T_exit rfl ?_ | refine T_condV rfl ?_ | with_reducible refine Cnd_t ?_ | with_reducible refine Cnd_f ?_ | with_reducible refine Cnd_not ?_ | with_reducible refine Cnd_some ?_ | with_reducible refine Cnd_none ?_ | refine U_guard rfl rfl ?_ | with_reducible refine Gd_nt ?_ | with_reducible refine Gd_nf ?_ | with_reducible refine Gd_some ?_ | with_reducible refine Gd_none ?_ | with_reducible refine Gd_want ?_ | ((with_reducible refine Gd_skipT ?_ ?_); exact rfl) | ((with_reducible refine Gd_skipF ?_ ?_); exact rfl))
      refine U_loadB E (by assumption) rfl rfl rfl (by rfl) rfl ?_
      repeat (first | with_reducible refine T_seq ?_ | with_reducible refine T_region ?_ | with_reducible refine U_nil ?_ | refine U_ar rfl rfl rfl (wrap_i64 (by omega)) rfl ?_ | refine U_pure E rfl rfl ?_ | with_reducible refine T_skip ?_ | with_reducible refine T_block ?_ | with_reducible refine T_inBlock ?_ | refine T_exit rfl ?_ | refine T_condV rfl ?_ | with_reducible refine Cnd_t ?_ | with_reducible refine Cnd_f ?_ | with_reducible refine Cnd_not ?_ | with_reducible refine Cnd_some ?_ | with_reducible refine Cnd_none ?_ | refine U_guard rfl rfl ?_ | with_reducible refine Gd_nt ?_ | with_reducible refine Gd_nf ?_ | with_reducible refine Gd_some ?_ | with_reducible refine Gd_none ?_ | with_reducible refine Gd_want ?_ | ((with_reducible refine Gd_skipT ?_ ?_); exact rfl) | ((with_reducible refine Gd_skipF ?_ ?_); exact rfl))
      refine U_store E (h2) rfl rfl rfl (by simp) rfl ?_
      intro w1 hu
      repeat (first | with_reducible refine T_seq ?_ | with_reducible refine T_region ?_ | with_reducible refine U_nil ?_ | refine U_ar rfl rfl rfl (wrap_i64 (by omega)) rfl ?_ | refine U_pure E rfl rfl ?_ | with_reducible refine T_skip ?_ | with_reducible refine T_block ?_ | with_reducible refine T_inBlock ?_ | refine T_exit rfl ?_ | refine T_condV rfl ?_ | with_reducible refine Cnd_t ?_ | with_reducible refine Cnd_f ?_ | with_reducible refine Cnd_not ?_ | with_reducible refine Cnd_some ?_ | with_reducible refine Cnd_none ?_ | refine U_guard rfl rfl ?_ | with_reducible refine Gd_nt ?_ | with_reducible refine Gd_nf ?_ | with_reducible refine Gd_some ?_ | with_reducible refine Gd_none ?_ | with_reducible refine Gd_want ?_ | ((with_reducible refine Gd_skipT ?_ ?_); exact rfl) | ((with_reducible refine Gd_skipF ?_ ?_); exact rfl))
      refine T_ret1 Tryd.func69 rfl rfl ⟨_, rfl, ?_, hu.kept, hu.size, ?_⟩
      · rw [if_neg hz]; rfl
      · rw [if_neg hz]
        refine ⟨⟨h0.n1, h0.n2, h0.secs, h0.waits, h0.wn, ?_, ?_⟩, vl, vw, h1, ?_, h3.mv hu.kept (fun b _ h => h.2), h4.mv hu.kept (fun b _ h => h.2.1)⟩
        · simp only [dec]; rw [if_neg hm]; omega
        · simp only [dec]; rw [if_neg hm]; omega
        · have := hu.blk
          simp only [dec]
          rw [if_neg hm]
          simpa using this
end Go.Proofs.YtoefhdaenaiomaaDoor
