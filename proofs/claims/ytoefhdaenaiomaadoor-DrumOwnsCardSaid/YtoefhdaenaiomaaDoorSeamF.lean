/- Guarded operations in regions of open order; the example of the frames; frames and what is taken out of them. -/
import Derived.Test.YtoefhdaenaiomaaDoorSeamE
namespace Go.Proofs.YtoefhdaenaiomaaDoor
open Go
set_option maxRecDepth 20000

section
variable {P : Program} {f : FuncId} {R : Ending → World → Prop} {n : Nat} {k : List Item} {m : Fm} {ops : Array Oper} {w : World} {S0 : World → Prop} {d fuel : Nat} {listed : Array Bool}

theorem L_takeG (i : Nat) {o : Oper} {v : Value} {d' j g : Nat} {want : Bool} (hi : ops[i]? = some o) (hs : Region.noSelect ops = true) (hf : Region.free .any ops listed i = true) (hr : (Region.ready .any ops listed).contains i = true)
    (hid : (Nat.beq i d || (decide (d < ops.size) && !waitsB ops i ops.size d)) = false) (hS : S0 w) (hg : o.guard = some (j, want)) (hj : (ops[j]?).bind (·.dst) = some g) (hv : look m g = some (.bool want)) (hdst : o.dst = some d') (hd : Nat.blt d' n = true)
    (hy : ∀ a, Fits a n m → ∀ w', S0 w' → (execOp a.eval o).run P w' = .ok (.value v) w') (h : L P f R n k ops S0 d fuel (listed.setIfInBounds i true) ((d', v) :: m) w) : L P f R n k ops S0 d (fuel + 1) listed m w := by
  intro hcl a ha
  simp only [Bool.or_eq_false_iff] at hid
  have hne : i ≠ d := fun e => by rw [e] at hid; simp at hid
  have hrr : i ∈ Region.ready .any ops listed := by simpa using hr
  have := h (hcl.put hrr) _ (ha.put v hd)
  rw [← hdst] at this
  have hyl : yielded ops a.tmps j = some want := by
    unfold yielded
    rw [hj]
    simp [ha.get g _ hv]
  refine wpAnyL_first (fu := ops.size) hi (Region.noSelect_spec hs) (fun c a w h => by cases h.1) hne (fun hlt => ?_) fuel listed a w hcl (Region.free_spec hi hf) hrr (.inl ⟨by simp [Region.wanted, hg, hyl], hy a ha⟩) hS this
  have h2 := hid.2
  simp only [hlt, decide_true, Bool.true_and, Bool.not_eq_false'] at h2
  exact h2

theorem L_skipG (i : Nat) {o : Oper} {d' j g : Nat} {want b : Bool} (hi : ops[i]? = some o) (hs : Region.noSelect ops = true) (hf : Region.free .any ops listed i = true) (hr : (Region.ready .any ops listed).contains i = true)
    (hid : (Nat.beq i d || (decide (d < ops.size) && !waitsB ops i ops.size d)) = false) (hS : S0 w) (hg : o.guard = some (j, want)) (hj : (ops[j]?).bind (·.dst) = some g) (hv : look m g = some (.bool b)) (hb : (b == want) = false) (hdst : o.dst = some d') (hd : Nat.blt d' n = true)
    (h : L P f R n k ops S0 d fuel (listed.setIfInBounds i true) ((d', undef) :: m) w) : L P f R n k ops S0 d (fuel + 1) listed m w := by
  intro hcl a ha
  simp only [Bool.or_eq_false_iff] at hid
  have hne : i ≠ d := fun e => by rw [e] at hid; simp at hid
  have hrr : i ∈ Region.ready .any ops listed := by simpa using hr
  have := h (hcl.put hrr) _ (ha.put undef hd)
  rw [← hdst] at this
  have hyl : yielded ops a.tmps j = some b := by
    unfold yielded
    rw [hj]
    simp [ha.get g _ hv]
  refine wpAnyL_first (fu := ops.size) hi (Region.noSelect_spec hs) (fun c a w h => by cases h.1) hne (fun hlt => ?_) fuel listed a w hcl (Region.free_spec hi hf) hrr (.inr ⟨?_, rfl⟩) hS this
  · have h2 := hid.2
    simp only [hlt, decide_true, Bool.true_and, Bool.not_eq_false'] at h2
    exact h2
  · simp only [Region.wanted, hg, hyl]
    exact hb

/-- What a slot holds is decided. -/
theorem L_splitB {g : Nat} {p : Bool} (hv : look m g = some (.bool p)) (ht : p = true → L P f R n k ops S0 d fuel listed ((g, .bool true) :: m) w) (hf : p = false → L P f R n k ops S0 d fuel listed ((g, .bool false) :: m) w) : L P f R n k ops S0 d fuel listed m w := by
  have hs : ∀ i v, look ((g, .bool p) :: m) i = some v → look m i = some v := by
    intro i v h
    simp only [look] at h
    cases hgi : Nat.beq g i with
    | true =>
      rw [hgi] at h
      have : g = i := by simpa using hgi
      subst this
      rw [hv]
      exact h
    | false => rw [hgi] at h; exact h
  cases p
  · exact fun hcl a ha => hf rfl hcl a (ha.less hs)
  · exact fun hcl a ha => ht rfl hcl a (ha.less hs)
theorem L_less {m' : Fm} (hs : Sub m' m) (h : L P f R n k ops S0 d fuel listed m' w) : L P f R n k ops S0 d fuel listed m w := fun hcl a ha => h hcl a (ha.less hs.look)

/-- A guarded operation whose guard was left out itself. -/
theorem U_guardU {Z : Act → World → Prop} {rest : List Oper} {d' : Nat} {op : Op} {ty : TypeId} {ps : String} {af : Array Edge} {j g : Nat} {want : Bool} (hj : (ops[j]?).bind (·.dst) = some g) (hv : look m g = some undef) (hd : Nat.blt d' n = true)
    (h : U P n Z ops rest ((d', undef) :: m) w) :
    U P n Z ops ({ dst := some d', op := op, type := ty, pos := ps, after := af, guard := some (j, want) } :: rest) m w := by
  intro a ha
  have hy : yielded ops a.tmps j = none := by
    unfold yielded
    rw [hj]
    simp [ha.get g _ hv, undef]
  unfold wpList
  rw [if_neg (by simp [Region.wanted, hy])]
  exact h _ (ha.put undef hd)
end

theorem chk0 : chk 0 [] = 558161692 := by kernel_rfl
theorem sawake_c (w : World) : Calls Tryd.prog 18 [].toArray w (Ret fun r w' => r = .bool true ∧ Kept none0 w w') := by
  refine calls_T Tryd.func18 rfl rfl rfl ?_
  repeat (first | with_reducible refine T_seq ?_ | with_reducible refine T_region ?_ | with_reducible refine U_nil ?_ | refine U_ar rfl rfl rfl (by first | exact wrap_i64 (by omega) | exact wrap_u64 (by omega) | exact wrap_u32 (by omega) | exact wrap_u8 (by omega)) rfl ?_ | refine U_cv E rfl rfl rfl (by first | exact wrap_i64 (by omega) | exact wrap_u64 (by omega) | exact wrap_u32 (by omega) | exact wrap_u8 (by omega)) rfl ?_ | refine U_pure E rfl rfl ?_ | with_reducible refine T_skip ?_ | with_reducible refine T_block ?_ | with_reducible refine T_inBlock ?_ | refine T_exit rfl ?_ | refine T_condV rfl ?_ | with_reducible refine Cnd_t ?_ | with_reducible refine Cnd_f ?_ | with_reducible refine Cnd_not ?_ | with_reducible refine Cnd_some ?_ | with_reducible refine Cnd_none ?_ | refine U_guard rfl rfl ?_ | with_reducible refine Gd_nt ?_ | with_reducible refine Gd_nf ?_ | with_reducible refine Gd_some ?_ | with_reducible refine Gd_none ?_ | with_reducible refine Gd_want ?_ | ((with_reducible refine Gd_skipT ?_ ?_); exact rfl) | ((with_reducible refine Gd_skipF ?_ ?_); exact rfl))
  refine U_call rfl rfl (Tryd.call43 _) (check_c w none0 (.slice none 0 0) [] 0 (by decide) (sl_nil w none0)) ?_
  rintro r w1 ⟨rfl, k1⟩
  rw [chk0]
  repeat (first | with_reducible refine T_seq ?_ | with_reducible refine T_region ?_ | with_reducible refine U_nil ?_ | refine U_ar rfl rfl rfl (by first | exact wrap_i64 (by omega) | exact wrap_u64 (by omega) | exact wrap_u32 (by omega) | exact wrap_u8 (by omega)) rfl ?_ | refine U_cv E rfl rfl rfl (by first | exact wrap_i64 (by omega) | exact wrap_u64 (by omega) | exact wrap_u32 (by omega) | exact wrap_u8 (by omega)) rfl ?_ | refine U_pure E rfl rfl ?_ | with_reducible refine T_skip ?_ | with_reducible refine T_block ?_ | with_reducible refine T_inBlock ?_ | refine T_exit rfl ?_ | refine T_condV rfl ?_ | with_reducible refine Cnd_t ?_ | with_reducible refine Cnd_f ?_ | with_reducible refine Cnd_not ?_ | with_reducible refine Cnd_some ?_ | with_reducible refine Cnd_none ?_ | refine U_guard rfl rfl ?_ | with_reducible refine Gd_nt ?_ | with_reducible refine Gd_nf ?_ | with_reducible refine Gd_some ?_ | with_reducible refine Gd_none ?_ | with_reducible refine Gd_want ?_ | ((with_reducible refine Gd_skipT ?_ ?_); exact rfl) | ((with_reducible refine Gd_skipF ?_ ?_); exact rfl))
  refine Gd_b (fun _ => ?_) (fun e => absurd e (by decide))
  repeat (first | with_reducible refine T_seq ?_ | with_reducible refine T_region ?_ | with_reducible refine U_nil ?_ | refine U_ar rfl rfl rfl (by first | exact wrap_i64 (by omega) | exact wrap_u64 (by omega) | exact wrap_u32 (by omega) | exact wrap_u8 (by omega)) rfl ?_ | refine U_cv E rfl rfl rfl (by first | exact wrap_i64 (by omega) | exact wrap_u64 (by omega) | exact wrap_u32 (by omega) | exact wrap_u8 (by omega)) rfl ?_ | refine U_pure E rfl rfl ?_ | with_reducible refine T_skip ?_ | with_reducible refine T_block ?_ | with_reducible refine T_inBlock ?_ | refine T_exit rfl ?_ | refine T_condV rfl ?_ | with_reducible refine Cnd_t ?_ | with_reducible refine Cnd_f ?_ | with_reducible refine Cnd_not ?_ | with_reducible refine Cnd_some ?_ | with_reducible refine Cnd_none ?_ | refine U_guard rfl rfl ?_ | with_reducible refine Gd_nt ?_ | with_reducible refine Gd_nf ?_ | with_reducible refine Gd_some ?_ | with_reducible refine Gd_none ?_ | with_reducible refine Gd_want ?_ | ((with_reducible refine Gd_skipT ?_ ?_); exact rfl) | ((with_reducible refine Gd_skipF ?_ ?_); exact rfl))
  refine U_call rfl rfl (Tryd.call46 _) (size_c w1 3 (by decide)) ?_
  rintro r w2 ⟨rfl, rfl⟩
  repeat (first | with_reducible refine T_seq ?_ | with_reducible refine T_region ?_ | with_reducible refine U_nil ?_ | refine U_ar rfl rfl rfl (by first | exact wrap_i64 (by omega) | exact wrap_u64 (by omega) | exact wrap_u32 (by omega) | exact wrap_u8 (by omega)) rfl ?_ | refine U_cv E rfl rfl rfl (by first | exact wrap_i64 (by omega) | exact wrap_u64 (by omega) | exact wrap_u32 (by omega) | exact wrap_u8 (by omega)) rfl ?_ | refine U_pure E rfl rfl ?_ | with_reducible refine T_skip ?_ | with_reducible refine T_block ?_ | with_reducible refine T_inBlock ?_ | refine T_exit rfl ?_ | refine T_condV rfl ?_ | with_reducible refine Cnd_t ?_ | with_reducible refine Cnd_f ?_ | with_reducible refine Cnd_not ?_ | with_reducible refine Cnd_some ?_ | with_reducible refine Cnd_none ?_ | refine U_guard rfl rfl ?_ | with_reducible refine Gd_nt ?_ | with_reducible refine Gd_nf ?_ | with_reducible refine Gd_some ?_ | with_reducible refine Gd_none ?_ | with_reducible refine Gd_want ?_ | ((with_reducible refine Gd_skipT ?_ ?_); exact rfl) | ((with_reducible refine Gd_skipF ?_ ?_); exact rfl))
  exact T_ret1 Tryd.func18 rfl rfl ⟨_, rfl, rfl, k1⟩

/-! ### What is taken out of a frame -/
theorem frm_val (s : Nat) (p more : List UInt8) (hp : p.length < 4294967296) : val4 (frm s p ++ more) = p.length := by
  rw [frm, List.append_assoc, List.append_assoc, val4_le4_append _ hp]
theorem frm_take (s : Nat) (p more : List UInt8) : (frm s p ++ more).take (p.length + 4) = le4 p.length ++ p := by
  rw [frm, List.append_assoc]
  exact List.take_left' (by rw [List.length_append, le4_len]; omega)
theorem frm_drop (s : Nat) (p more : List UInt8) : (frm s p ++ more).drop (p.length + 4) = le4 (chk s (le4 p.length ++ p)) ++ more := by
  rw [frm, List.append_assoc]
  exact List.drop_left' (by rw [List.length_append, le4_len]; omega)
theorem frm_body (s : Nat) (p more : List UInt8) : ((frm s p ++ more).drop 4).take p.length = p := by
  rw [frm, List.append_assoc, List.append_assoc, List.drop_left' (le4_len _)]
  exact List.take_left' rfl
theorem nErr_frm (s t : Nat) (p more : List UInt8) (hp : p.length ≤ 100000) (hz : ¬ zz (frm s p ++ more)) : nErr t (frm s p ++ more) = if chk s (le4 p.length ++ p) = chk t (le4 p.length ++ p) then 0 else 5 := by
  have hl : (frm s p ++ more).length = p.length + 8 + more.length := by rw [List.length_append, frm_len]
  rw [nErr, if_neg hz, if_neg (by omega), frm_val s p more (by omega), if_neg (by omega), if_neg (by omega), frm_take, frm_drop, val4_append (by rw [le4_len]; decide), val4_le4 _ (chk_lt _ _)]
  by_cases h : chk s (le4 p.length ++ p) = chk t (le4 p.length ++ p)
  · rw [if_pos h, if_neg (by simp [h])]
  · rw [if_neg h, if_pos h]
theorem zz_le4 {n : Nat} (hn : n < 4294967296) (h : zz (le4 n)) : n = 0 := by
  have hv := val4_le4 n hn
  have e : le4 n = [0, 0, 0, 0] := by
    have h0 := h (UInt8.ofNat n) (by simp [le4])
    have h1 := h (UInt8.ofNat (n / 256)) (by simp [le4])
    have h2 := h (UInt8.ofNat (n / 65536)) (by simp [le4])
    have h3 := h (UInt8.ofNat (n / 16777216)) (by simp [le4])
    rw [le4, h0, h1, h2, h3]
  rw [e] at hv
  rw [← hv]
  rfl
theorem zz_app {a b : List UInt8} : zz (a ++ b) ↔ zz a ∧ zz b := by
  constructor
  · intro h
    exact ⟨fun x hx => h x (List.mem_append_left _ hx), fun x hx => h x (List.mem_append_right _ hx)⟩
  · rintro ⟨h1, h2⟩ x hx
    rcases List.mem_append.1 hx with hx | hx
    · exact h1 x hx
    · exact h2 x hx
theorem zz_frm {s : Nat} {p : List UInt8} (hp : p.length < 4294967296) (h : zz (frm s p)) : p = [] ∧ chk s (le4 0) = 0 := by
  rw [frm, zz_app, zz_app] at h
  have h0 := zz_le4 hp h.1.1
  have hpe : p = [] := List.eq_nil_of_length_eq_zero h0
  subst hpe
  refine ⟨rfl, ?_⟩
  have := zz_le4 (chk_lt _ _) h.2
  simpa using this
end Go.Proofs.YtoefhdaenaiomaaDoor
