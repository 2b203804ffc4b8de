/- Clone, Fall. -/
import Derived.Test.YtoefhdaenaiomaaDoorDrumD
namespace Go.Proofs.YtoefhdaenaiomaaDoor
open Go
set_option maxRecDepth 20000

theorem clone_c (w : World) (F : Nat → Prop) (v : Value) (n : Nat) (cs : List Value) (h : Row w F v 256 n cs 101) (hn : 0 < n) (hm : n ≤ 8192) (h1 : ∀ u ∈ cs, u.oneCell' = true) :
    Calls Tryd.prog 72 [v].toArray w (Ret fun r w' => Kept none0 w w' ∧ Row w' (fresh w) r 256 n cs 101) := by
  obtain ⟨g, cap, pad, rfl, hF, hb, hl, hc⟩ := h.pos hn
  refine calls_T Tryd.func72 rfl rfl rfl ?_
  repeat (first | with_reducible refine T_seq ?_ | with_reducible refine T_region ?_ | with_reducible refine U_nil ?_ | refine U_ar rfl rfl rfl (wrap_i64 (by omega)) rfl ?_ | refine U_pure E rfl rfl ?_ | with_reducible refine T_skip ?_ | with_reducible refine T_block ?_ | with_reducible refine T_inBlock ?_ | refine T_exit rfl ?_ | refine T_condV rfl ?_ | with_reducible refine Cnd_t ?_ | with_reducible refine Cnd_f ?_ | with_reducible refine Cnd_not ?_ | with_reducible refine Cnd_some ?_ | with_reducible refine Cnd_none ?_ | refine U_guard rfl rfl ?_ | with_reducible refine Gd_nt ?_ | with_reducible refine Gd_nf ?_ | with_reducible refine Gd_some ?_ | with_reducible refine Gd_none ?_ | with_reducible refine Gd_want ?_ | ((with_reducible refine Gd_skipT ?_ ?_); exact rfl) | ((with_reducible refine Gd_skipF ?_ ?_); exact rfl))
  refine U_buildSlice0 E rfl rfl rfl ?_
  intro b w1 hn1
  have hs := (h.mv hn1.kept (fun _ _ _ x => x)).sl (by omega)
  have hr0 : Row w1 (fresh w) (.slice (some ⟨b, 0, none⟩) 0 0) 256 0 [] 101 :=
    ⟨by simp, .inr ⟨b, 0, [], rfl, by have := hn1.at_; simp only [fresh]; omega, hn1.blk, rfl, Nat.le_refl _⟩⟩
  repeat (first | with_reducible refine T_seq ?_ | with_reducible refine T_region ?_ | with_reducible refine U_nil ?_ | refine U_ar rfl rfl rfl (wrap_i64 (by omega)) rfl ?_ | refine U_pure E rfl rfl ?_ | with_reducible refine T_skip ?_ | with_reducible refine T_block ?_ | with_reducible refine T_inBlock ?_ | refine T_exit rfl ?_ | refine T_condV rfl ?_ | with_reducible refine Cnd_t ?_ | with_reducible refine Cnd_f ?_ | with_reducible refine Cnd_not ?_ | with_reducible refine Cnd_some ?_ | with_reducible refine Cnd_none ?_ | refine U_guard rfl rfl ?_ | with_reducible refine Gd_nt ?_ | with_reducible refine Gd_nf ?_ | with_reducible refine Gd_some ?_ | with_reducible refine Gd_none ?_ | with_reducible refine Gd_want ?_ | ((with_reducible refine Gd_skipT ?_ ?_); exact rfl) | ((with_reducible refine Gd_skipF ?_ ?_); exact rfl))
  refine U_append E hr0 hs h1 rfl rfl rfl rfl rfl (by omega) (by omega) rfl ?_
  intro v' w2 hr hk hz hob
  repeat (first | with_reducible refine T_seq ?_ | with_reducible refine T_region ?_ | with_reducible refine U_nil ?_ | refine U_ar rfl rfl rfl (wrap_i64 (by omega)) rfl ?_ | refine U_pure E rfl rfl ?_ | with_reducible refine T_skip ?_ | with_reducible refine T_block ?_ | with_reducible refine T_inBlock ?_ | refine T_exit rfl ?_ | refine T_condV rfl ?_ | with_reducible refine Cnd_t ?_ | with_reducible refine Cnd_f ?_ | with_reducible refine Cnd_not ?_ | with_reducible refine Cnd_some ?_ | with_reducible refine Cnd_none ?_ | refine U_guard rfl rfl ?_ | with_reducible refine Gd_nt ?_ | with_reducible refine Gd_nf ?_ | with_reducible refine Gd_some ?_ | with_reducible refine Gd_none ?_ | with_reducible refine Gd_want ?_ | ((with_reducible refine Gd_skipT ?_ ?_); exact rfl) | ((with_reducible refine Gd_skipF ?_ ?_); exact rfl))
  refine T_ret1 Tryd.func72 rfl rfl ⟨_, rfl, hn1.kept.tr hk (fun j hj e => ?_), ?_⟩
  · have := hr0.own j e
    have := this.1
    simp only [fresh] at this
    omega
  · have := hr.mono (G := fresh w) (fun j _ e => e.elim (fun x => x) (fun x => Nat.le_trans hn1.kept.size x))
    simpa using this

/-! ### What a fall leaves -/
structure FS where
  l : List (List UInt8)
  last : Int
  old : List UInt8
def fstep (keep : List Bool) (s : FS) (x : (Nat × List UInt8) × Nat) : FS := if keep[x.2]? = some true then ⟨s.l.set x.1.1 x.1.2, x.2, s.l.getD x.1.1 []⟩ else s
def fgo (keep : List Bool) (l : List (List UInt8)) (ws : List (Nat × List UInt8)) : FS := (ws.zipIdx 0).foldl (fstep keep) ⟨l, -1, zeros 256⟩
theorem fgo_snoc (keep : List Bool) (l : List (List UInt8)) (ws : List (Nat × List UInt8)) (p : Nat × List UInt8) : fgo keep l (ws ++ [p]) = fstep keep (fgo keep l ws) (p, ws.length) := by
  simp [fgo, List.zipIdx_append]

/-- The sectors and writes are well formed. -/
structure FOk (n : Nat) (ws : List (Nat × List UInt8)) (k : Nat) (s : FS) : Prop where
  len : s.l.length = n
  secs : ∀ x ∈ s.l, x.length = 256
  old : s.old.length = 256
  last1 : -1 ≤ s.last
  last2 : s.last < k
theorem fgo_ok (keep : List Bool) (l : List (List UInt8)) (ws : List (Nat × List UInt8)) (hl : ∀ x ∈ l, x.length = 256) (h : ∀ p ∈ ws, p.1 < l.length ∧ p.2.length = 256) : ∀ k, k ≤ ws.length → FOk l.length ws k (fgo keep l (ws.take k)) := by
  intro k
  induction k with
  | zero => intro _; exact ⟨rfl, hl, zeros_len 256, Int.le_refl _, by simp [fgo]⟩
  | succ k ih =>
    intro hk
    have ih := ih (by omega)
    have hp := h _ (List.getElem_mem (show k < ws.length by omega))
    rw [take_snoc ws k (by omega), fgo_snoc, fstep]
    have hlk : (ws.take k).length = k := by simp; omega
    dsimp only
    rw [hlk]
    split
    · refine ⟨by simp [ih.len], fun x hx => ?_, ?_, ?_, ?_⟩
      · rcases List.mem_or_eq_of_mem_set hx with h1 | h1
        · exact ih.secs x h1
        · rw [h1]; exact hp.2
      · dsimp only
        rw [List.getD_eq_getElem?_getD, List.getElem?_eq_getElem (by rw [ih.len]; exact hp.1), Option.getD_some]
        exact ih.secs _ (List.getElem_mem _)
      · dsimp only; omega
      · dsimp only; omega
    · have h2 := ih.last2
      exact ⟨ih.len, ih.secs, ih.old, ih.last1, by omega⟩

def drFall (D : Dr) (keep : List Bool) (torn : Int) : Dr :=
  let s := fgo keep D.l D.wait
  let at_ := (D.wait.getD s.last.toNat (0, [])).1
  ⟨if 0 ≤ s.last ∧ 0 ≤ torn ∧ torn < 256 then s.l.set at_ ((s.l.getD at_ []).take torn.toNat ++ s.old.drop torn.toNat) else s.l, [], -1⟩

def encBools (l : List Bool) : List Value := l.map .bool

theorem sec_of (l : List (List UInt8)) (h : ∀ x ∈ l, x.length = 256) (k : Nat) (hk : k < l.length) : (l.getD k []).length = 256 := by
  rw [List.getD_eq_getElem?_getD, List.getElem?_eq_getElem hk, Option.getD_some]
  exact h _ (List.getElem_mem _)

set_option maxHeartbeats 1000000 in
theorem fall_c (w : World) (F : Nat → Prop) (hb : Nat) (D : Dr) (G : Nat → Prop) (v : Value) (keep : List Bool) (torn : Int) (h : IsD w F hb D) (hp : Sl w G v 1 keep.length (encBools keep)) :
    Calls Tryd.prog 29 [ptr hb, v, .int .i64 torn].toArray w (Ret fun r w' => Kept none0 w w' ∧ ∃ hb', r = ptr hb' ∧ IsD w' (fresh w) hb' (drFall D keep torn)) := by
  obtain ⟨h0, vl, vw, h1, h2, h3, h4⟩ := h
  have hn1 := h0.n1
  have hn2 := h0.n2
  have hwn := h0.wn
  have hws := fun p hp => (h0.waits p hp).2
  obtain ⟨A, c, rfl⟩ := h4.val
  obtain ⟨A2, c2, rfl⟩ := h3.val
  obtain ⟨K, ck, rfl⟩ := hp.len
  have hkl := hp.1
  have hone : ∀ u ∈ (D.l.map encBs).flatten, u.oneCell' = true := by
    intro u hu
    obtain ⟨s, hs, hu⟩ := List.mem_flatten.1 hu
    obtain ⟨x, _, rfl⟩ := List.mem_map.1 hs
    exact encBs_one x u hu
  have hcl := clone_c w _ _ _ _ h3 hn1 hn2 hone
  refine calls_T Tryd.func29 rfl rfl rfl ?_
  unfold ptr at *
  repeat (first | with_reducible refine T_seq ?_ | with_reducible refine T_region ?_ | with_reducible refine U_nil ?_ | refine U_ar rfl rfl rfl (wrap_i64 (by omega)) rfl ?_ | refine U_pure E rfl rfl ?_ | with_reducible refine T_skip ?_ | with_reducible refine T_block ?_ | with_reducible refine T_inBlock ?_ | refine T_exit rfl ?_ | refine T_condV rfl ?_ | with_reducible refine Cnd_t ?_ | with_reducible refine Cnd_f ?_ | with_reducible refine Cnd_not ?_ | with_reducible refine Cnd_some ?_ | with_reducible refine Cnd_none ?_ | refine U_guard rfl rfl ?_ | with_reducible refine Gd_nt ?_ | with_reducible refine Gd_nf ?_ | with_reducible refine Gd_some ?_ | with_reducible refine Gd_none ?_ | with_reducible refine Gd_want ?_ | ((with_reducible refine Gd_skipT ?_ ?_); exact rfl) | ((with_reducible refine Gd_skipF ?_ ?_); exact rfl))
  refine U_loadB E (by assumption) rfl rfl rfl (by rfl) rfl ?_
  refine U_call rfl rfl (Tryd.call72 _) (hcl) ?_
  rintro r w1 ⟨hk1, hr1⟩
  obtain ⟨g, cap, pad, rfl, hg, hbg, hgl, hgc⟩ := hr1.pos hn1
  refine U_build (cells := [.slice (some ⟨g, 0, none⟩) D.l.length cap, .slice none 0 0, .int .i64 (-1)]) rfl (by kernel_rfl) rfl ?_
  refine U_box E rfl rfl rfl ?_
  intro ho w2 hn2'
  repeat (first | with_reducible refine T_seq ?_ | with_reducible refine T_region ?_ | with_reducible refine U_nil ?_ | refine U_ar rfl rfl rfl (wrap_i64 (by omega)) rfl ?_ | refine U_pure E rfl rfl ?_ | with_reducible refine T_skip ?_ | with_reducible refine T_block ?_ | with_reducible refine T_inBlock ?_ | refine T_exit rfl ?_ | refine T_condV rfl ?_ | with_reducible refine Cnd_t ?_ | with_reducible refine Cnd_f ?_ | with_reducible refine Cnd_not ?_ | with_reducible refine Cnd_some ?_ | with_reducible refine Cnd_none ?_ | refine U_guard rfl rfl ?_ | with_reducible refine Gd_nt ?_ | with_reducible refine Gd_nf ?_ | with_reducible refine Gd_some ?_ | with_reducible refine Gd_none ?_ | with_reducible refine Gd_want ?_ | ((with_reducible refine Gd_skipT ?_ ?_); exact rfl) | ((with_reducible refine Gd_skipF ?_ ?_); exact rfl))
  refine U_alloc E rfl rfl rfl ?_
  intro b9 w3 hn3
  have hho := hn2'.at_
  have hb9 := hn3.at_
  have hs2 := hn2'.size
  have hs3 := hn3.size
  have hltg := hbg.lt
  have hk13 : Kept none0 w1 w3 := hn2'.kept.tr hn3.kept (fun _ _ x => x)
  have hk3 : Kept none0 w w3 := hk1.tr hk13 (fun _ _ x => x)
  have hh3 := hn2'.blk.mv hn3.kept (fun x => x)
  have hg3 := hbg.mv hk13 (fun x => x)
  have hs0 := hk1.size
  have h23 := h2.mv hk3 (fun x => x)
  have hlthb := h2.lt
  simp only [fresh] at hg
  repeat (first | with_reducible refine T_seq ?_ | with_reducible refine T_region ?_ | with_reducible refine U_nil ?_ | refine U_ar rfl rfl rfl (wrap_i64 (by omega)) rfl ?_ | refine U_pure E rfl rfl ?_ | with_reducible refine T_skip ?_ | with_reducible refine T_block ?_ | with_reducible refine T_inBlock ?_ | refine T_exit rfl ?_ | refine T_condV rfl ?_ | with_reducible refine Cnd_t ?_ | with_reducible refine Cnd_f ?_ | with_reducible refine Cnd_not ?_ | with_reducible refine Cnd_some ?_ | with_reducible refine Cnd_none ?_ | refine U_guard rfl rfl ?_ | with_reducible refine Gd_nt ?_ | with_reducible refine Gd_nf ?_ | with_reducible refine Gd_some ?_ | with_reducible refine Gd_none ?_ | with_reducible refine Gd_want ?_ | ((with_reducible refine Gd_skipT ?_ ?_); exact rfl) | ((with_reducible refine Gd_skipF ?_ ?_); exact rfl))
  refine U_loadB E h23 rfl rfl rfl (by rfl) rfl ?_
  repeat (first | with_reducible refine T_seq ?_ | with_reducible refine T_region ?_ | with_reducible refine U_nil ?_ | refine U_ar rfl rfl rfl (wrap_i64 (by omega)) rfl ?_ | refine U_pure E rfl rfl ?_ | with_reducible refine T_skip ?_ | with_reducible refine T_block ?_ | with_reducible refine T_inBlock ?_ | refine T_exit rfl ?_ | refine T_condV rfl ?_ | with_reducible refine Cnd_t ?_ | with_reducible refine Cnd_f ?_ | with_reducible refine Cnd_not ?_ | with_reducible refine Cnd_some ?_ | with_reducible refine Cnd_none ?_ | refine U_guard rfl rfl ?_ | with_reducible refine Gd_nt ?_ | with_reducible refine Gd_nf ?_ | with_reducible refine Gd_some ?_ | with_reducible refine Gd_none ?_ | with_reducible refine Gd_want ?_ | ((with_reducible refine Gd_skipT ?_ ?_); exact rfl) | ((with_reducible refine Gd_skipF ?_ ?_); exact rfl))
  refine T_loop (α := Nat × World) (fun x => [(26, .int .i64 x.1), (25, .int .i64 D.wait.length), (24, .slice A D.wait.length c), (0, .pointer (some ⟨hb, 0, none⟩)), (1, .slice K keep.length ck), (2, .int .i64 torn), (7, .pointer (some ⟨ho, 0, none⟩)), (8, .int .i64 (fgo keep D.l (D.wait.take x.1)).last), (9, .pointer (some ⟨b9, 0, none⟩))]) (fun x => x.2) (fun x => D.wait.length - x.1)
    (fun x => x.1 ≤ D.wait.length ∧ Kept (fun b => b = g ∨ b = b9) w3 x.2 ∧ Blk x.2 g (((fgo keep D.l (D.wait.take x.1)).l.map encBs).flatten ++ pad) 101 ∧ Blk x.2 b9 (encBs (fgo keep D.l (D.wait.take x.1)).old) 101) (0, w3)
    ⟨Nat.zero_le _, Kept.refl _ _, hg3, by have := hn3.blk; simp only [List.take_zero, fgo, List.zipIdx_nil, List.foldl_nil]; rw [encBs_zeros]; exact this⟩ ⟨rfl, rfl, rfl, rfl, rfl, rfl, rfl, rfl, rfl, trivial⟩ rfl ?_
  rintro ⟨i, w4⟩ ⟨hi, hk, hbg4, hb94⟩ ih
  dsimp only at hi hk hbg4 hb94 ⊢
  have ok := fgo_ok keep D.l D.wait h0.secs h0.waits i hi
  obtain ⟨st, hst⟩ : ∃ st, fgo keep D.l (D.wait.take i) = st := ⟨_, rfl⟩
  rw [hst] at hbg4 hb94 ok ⊢
  have hlast1 := ok.last1
  have hlast2 := ok.last2
  have hk4 : Kept none0 w w4 := hk3.tr hk (fun j hj e => by rcases e with e | e <;> omega)
  have hh4 := hh3.mv hk (fun e => by rcases e with e | e <;> omega)
  have h24 := h2.mv hk4 (fun x => x)
  have h44 := h4.mv hk4 (fun _ _ _ x => x)
  repeat (first | with_reducible refine T_seq ?_ | with_reducible refine T_region ?_ | with_reducible refine U_nil ?_ | refine U_ar rfl rfl rfl (wrap_i64 (by omega)) rfl ?_ | refine U_pure E rfl rfl ?_ | with_reducible refine T_skip ?_ | with_reducible refine T_block ?_ | with_reducible refine T_inBlock ?_ | refine T_exit rfl ?_ | refine T_condV rfl ?_ | with_reducible refine Cnd_t ?_ | with_reducible refine Cnd_f ?_ | with_reducible refine Cnd_not ?_ | with_reducible refine Cnd_some ?_ | with_reducible refine Cnd_none ?_ | refine U_guard rfl rfl ?_ | with_reducible refine Gd_nt ?_ | with_reducible refine Gd_nf ?_ | with_reducible refine Gd_some ?_ | with_reducible refine Gd_none ?_ | with_reducible refine Gd_want ?_ | ((with_reducible refine Gd_skipT ?_ ?_); exact rfl) | ((with_reducible refine Gd_skipF ?_ ?_); exact rfl))
  refine Cnd_p (fun hlt => ?_) (fun hlt => ?_)
  · have hlt' : i < D.wait.length := by omega
    obtain ⟨gw, rfl, hgw, hseg⟩ := wait_seg hws h44 rfl hlt'
    have hat := (h0.waits _ (List.getElem_mem hlt')).1
    have hln := (h0.waits _ (List.getElem_mem hlt')).2
    have hsn : fgo keep D.l (D.wait.take (i + 1)) = fstep keep st (D.wait[i], i) := by
      rw [take_snoc D.wait i hlt', fgo_snoc, hst]
      congr 2
      simp; omega
    repeat (first | with_reducible refine T_seq ?_ | with_reducible refine T_region ?_ | with_reducible refine U_nil ?_ | refine U_ar rfl rfl rfl (wrap_i64 (by omega)) rfl ?_ | refine U_pure E rfl rfl ?_ | with_reducible refine T_skip ?_ | with_reducible refine T_block ?_ | with_reducible refine T_inBlock ?_ | refine T_exit rfl ?_ | refine T_condV rfl ?_ | with_reducible refine Cnd_t ?_ | with_reducible refine Cnd_f ?_ | with_reducible refine Cnd_not ?_ | with_reducible refine Cnd_some ?_ | with_reducible refine Cnd_none ?_ | refine U_guard rfl rfl ?_ | with_reducible refine Gd_nt ?_ | with_reducible refine Gd_nf ?_ | with_reducible refine Gd_some ?_ | with_reducible refine Gd_none ?_ | with_reducible refine Gd_want ?_ | ((with_reducible refine Gd_skipT ?_ ?_); exact rfl) | ((with_reducible refine Gd_skipF ?_ ?_); exact rfl))
    refine U_indexS E rfl rfl rfl rfl (by omega) (by omega) (by rw [Int.toNat_natCast, Nat.zero_add]) rfl ?_
    refine U_loadA E (hseg) rfl rfl rfl (by rw [encW_len, hln]) rfl ?_
    refine U_alloc E rfl rfl rfl ?_
    intro b5 w5 hn5
    repeat (first | with_reducible refine T_seq ?_ | with_reducible refine T_region ?_ | with_reducible refine U_nil ?_ | refine U_ar rfl rfl rfl (wrap_i64 (by omega)) rfl ?_ | refine U_pure E rfl rfl ?_ | with_reducible refine T_skip ?_ | with_reducible refine T_block ?_ | with_reducible refine T_inBlock ?_ | refine T_exit rfl ?_ | refine T_condV rfl ?_ | with_reducible refine Cnd_t ?_ | with_reducible refine Cnd_f ?_ | with_reducible refine Cnd_not ?_ | with_reducible refine Cnd_some ?_ | with_reducible refine Cnd_none ?_ | refine U_guard rfl rfl ?_ | with_reducible refine Gd_nt ?_ | with_reducible refine Gd_nf ?_ | with_reducible refine Gd_some ?_ | with_reducible refine Gd_none ?_ | with_reducible refine Gd_want ?_ | ((with_reducible refine Gd_skipT ?_ ?_); exact rfl) | ((with_reducible refine Gd_skipF ?_ ?_); exact rfl))
    refine U_storeA E (hn5.blk) rfl rfl rfl (by rw [encW_len, hln]) (zw_fit) (encW_one _) ?_
    intro w6 hu6
    have hb5 := hu6.blk
    rw [show 257 = (encW D.wait[i]).length by rw [encW_len, hln], splice_all _ _ (by rw [encW_len, hln, zw_len])] at hb5
    have hb5n := hn5.at_
    have hk46 : Kept none0 w4 w6 := hn5.kept.tr hu6.kept (fun j hj (e : j = b5) => by omega)
    have hk6 : Kept none0 w w6 := hk4.tr hk46 (fun _ _ x => x)
    have hh6 := hh4.mv hk46 (fun x => x)
    have hbg6 := hbg4.mv hk46 (fun x => x)
    have hb96 := hb94.mv hk46 (fun x => x)
    have hp6 := hp.mv hk6 (fun _ _ _ x => x)
    have hsz4 := hk.size
    repeat (first | with_reducible refine T_seq ?_ | with_reducible refine T_region ?_ | with_reducible refine U_nil ?_ | refine U_ar rfl rfl rfl (wrap_i64 (by omega)) rfl ?_ | refine U_pure E rfl rfl ?_ | with_reducible refine T_skip ?_ | with_reducible refine T_block ?_ | with_reducible refine T_inBlock ?_ | refine T_exit rfl ?_ | refine T_condV rfl ?_ | with_reducible refine Cnd_t ?_ | with_reducible refine Cnd_f ?_ | with_reducible refine Cnd_not ?_ | with_reducible refine Cnd_some ?_ | with_reducible refine Cnd_none ?_ | refine U_guard rfl rfl ?_ | with_reducible refine Gd_nt ?_ | with_reducible refine Gd_nf ?_ | with_reducible refine Gd_some ?_ | with_reducible refine Gd_none ?_ | with_reducible refine Gd_want ?_ | ((with_reducible refine Gd_skipT ?_ ?_); exact rfl) | ((with_reducible refine Gd_skipF ?_ ?_); exact rfl))
    refine Gd_p (fun hkk => ?_) (fun hkk => ?_)
    · have hik : i < keep.length := by omega
      repeat (first | with_reducible refine T_seq ?_ | with_reducible refine T_region ?_ | with_reducible refine U_nil ?_ | refine U_ar rfl rfl rfl (wrap_i64 (by omega)) rfl ?_ | refine U_pure E rfl rfl ?_ | with_reducible refine T_skip ?_ | with_reducible refine T_block ?_ | with_reducible refine T_inBlock ?_ | refine T_exit rfl ?_ | refine T_condV rfl ?_ | with_reducible refine Cnd_t ?_ | with_reducible refine Cnd_f ?_ | with_reducible refine Cnd_not ?_ | with_reducible refine Cnd_some ?_ | with_reducible refine Cnd_none ?_ | refine U_guard rfl rfl ?_ | with_reducible refine Gd_nt ?_ | with_reducible refine Gd_nf ?_ | with_reducible refine Gd_some ?_ | with_reducible refine Gd_none ?_ | with_reducible refine Gd_want ?_ | ((with_reducible refine Gd_skipT ?_ ?_); exact rfl) | ((with_reducible refine Gd_skipF ?_ ?_); exact rfl))
      refine U_idx E (hp6) rfl rfl rfl rfl (by omega) (by omega) ((show (encBools keep)[(i : Int).toNat]? = some (.bool keep[i]) by rw [Int.toNat_natCast]; simp [encBools, hik])) rfl (fun q hq => ?_)
      repeat (first | with_reducible refine T_seq ?_ | with_reducible refine T_region ?_ | with_reducible refine U_nil ?_ | refine U_ar rfl rfl rfl (wrap_i64 (by omega)) rfl ?_ | refine U_pure E rfl rfl ?_ | with_reducible refine T_skip ?_ | with_reducible refine T_block ?_ | with_reducible refine T_inBlock ?_ | refine T_exit rfl ?_ | refine T_condV rfl ?_ | with_reducible refine Cnd_t ?_ | with_reducible refine Cnd_f ?_ | with_reducible refine Cnd_not ?_ | with_reducible refine Cnd_some ?_ | with_reducible refine Cnd_none ?_ | refine U_guard rfl rfl ?_ | with_reducible refine Gd_nt ?_ | with_reducible refine Gd_nf ?_ | with_reducible refine Gd_some ?_ | with_reducible refine Gd_none ?_ | with_reducible refine Gd_want ?_ | ((with_reducible refine Gd_skipT ?_ ?_); exact rfl) | ((with_reducible refine Gd_skipF ?_ ?_); exact rfl))
      refine U_load E rfl rfl rfl hq rfl ?_
      repeat (first | with_reducible refine T_seq ?_ | with_reducible refine T_region ?_ | with_reducible refine U_nil ?_ | refine U_ar rfl rfl rfl (wrap_i64 (by omega)) rfl ?_ | refine U_pure E rfl rfl ?_ | with_reducible refine T_skip ?_ | with_reducible refine T_block ?_ | with_reducible refine T_inBlock ?_ | refine T_exit rfl ?_ | refine T_condV rfl ?_ | with_reducible refine Cnd_t ?_ | with_reducible refine Cnd_f ?_ | with_reducible refine Cnd_not ?_ | with_reducible refine Cnd_some ?_ | with_reducible refine Cnd_none ?_ | refine U_guard rfl rfl ?_ | with_reducible refine Gd_nt ?_ | with_reducible refine Gd_nf ?_ | with_reducible refine Gd_some ?_ | with_reducible refine Gd_none ?_ | with_reducible refine Gd_want ?_ | ((with_reducible refine Gd_skipT ?_ ?_); exact rfl) | ((with_reducible refine Gd_skipF ?_ ?_); exact rfl))
      refine Cnd_b (fun hkb => ?_) (fun hkb => ?_)
      · have hki : keep[i]? = some true := by rw [List.getElem?_eq_getElem hik, hkb]
        have hsn1 : fgo keep D.l (D.wait.take (i + 1)) = ⟨st.l.set D.wait[i].1 D.wait[i].2, i, st.l.getD D.wait[i].1 []⟩ := by rw [hsn, fstep, if_pos hki]
        have hatl : D.wait[i].1 < st.l.length := by rw [ok.len]; exact hat
        have hsegs := encSegs ok.secs
        have hfl := flat_len (sz := 256) _ hsegs
        have hold : st.l.getD D.wait[i].1 [] = st.l[D.wait[i].1] := by rw [List.getD_eq_getElem?_getD, List.getElem?_eq_getElem hatl, Option.getD_some]
        have hol := ok.secs _ (List.getElem_mem hatl)
        repeat (first | with_reducible refine T_seq ?_ | with_reducible refine T_region ?_ | with_reducible refine U_nil ?_ | refine U_ar rfl rfl rfl (wrap_i64 (by omega)) rfl ?_ | refine U_pure E rfl rfl ?_ | with_reducible refine T_skip ?_ | with_reducible refine T_block ?_ | with_reducible refine T_inBlock ?_ | refine T_exit rfl ?_ | refine T_condV rfl ?_ | with_reducible refine Cnd_t ?_ | with_reducible refine Cnd_f ?_ | with_reducible refine Cnd_not ?_ | with_reducible refine Cnd_some ?_ | with_reducible refine Cnd_none ?_ | refine U_guard rfl rfl ?_ | with_reducible refine Gd_nt ?_ | with_reducible refine Gd_nf ?_ | with_reducible refine Gd_some ?_ | with_reducible refine Gd_none ?_ | with_reducible refine Gd_want ?_ | ((with_reducible refine Gd_skipT ?_ ?_); exact rfl) | ((with_reducible refine Gd_skipF ?_ ?_); exact rfl))
        refine T_tail 10 (by kernel_rfl) (by kernel_rfl) (fun w7 hd7 => ?_); simp only [List.take_succ_cons, List.take_zero, List.drop_succ_cons, List.drop_zero]; (repeat (first | refine V_ar rfl rfl rfl (wrap_i64 (by omega)) rfl ?_ | refine V_pure E rfl rfl ?_ | refine V_guard rfl rfl ?_ | with_reducible refine GdV_want ?_ | ((with_reducible refine GdV_skipT ?_ ?_); exact rfl) | ((with_reducible refine GdV_skipF ?_ ?_); exact rfl)))
        have hh7 := hh6.mv (hd7.kept none0) (fun x => x)
        have hbg7 := hbg6.mv (hd7.kept none0) (fun x => x)
        have hb97 := hb96.mv (hd7.kept none0) (fun x => x)
        have hb57 := hb5.mv (hd7.kept none0) (fun x => x)
        refine V_loadB E (by first | exact fun _ h => h.heap | (intro _ h; subst h; rfl)) (by assumption) rfl rfl rfl (by rfl) rfl ?_
        repeat (first | refine V_ar rfl rfl rfl (wrap_i64 (by omega)) rfl ?_ | refine V_pure E rfl rfl ?_ | refine V_guard rfl rfl ?_ | with_reducible refine GdV_want ?_ | ((with_reducible refine GdV_skipT ?_ ?_); exact rfl) | ((with_reducible refine GdV_skipF ?_ ?_); exact rfl))
        refine V_loadB E (by first | exact fun _ h => h.heap | (intro _ h; subst h; rfl)) (by assumption) rfl rfl rfl (by rfl) rfl ?_
        repeat (first | refine V_ar rfl rfl rfl (wrap_i64 (by omega)) rfl ?_ | refine V_pure E rfl rfl ?_ | refine V_guard rfl rfl ?_ | with_reducible refine GdV_want ?_ | ((with_reducible refine GdV_skipT ?_ ?_); exact rfl) | ((with_reducible refine GdV_skipF ?_ ?_); exact rfl))
        refine V_indexS E rfl rfl rfl rfl (by omega) (by omega) (by rw [Int.toNat_natCast, Nat.zero_add]) rfl ?_
        have hsg : Seg w7 g (D.wait[i].1 * 256) (encBs st.l[D.wait[i].1]) := by
          have := hbg7.seg (D.wait[i].1 * 256) 256
          rw [flat_part (sz := 256) _ _ hsegs (by simpa using hatl)] at this
          simpa using this
        refine V_loadA E (by first | exact fun _ h => h.heap | (intro _ h; subst h; rfl)) (hsg) rfl rfl rfl (by rw [encBs_len, hol]) rfl ?_
        repeat (first | refine V_ar rfl rfl rfl (wrap_i64 (by omega)) rfl ?_ | refine V_pure E rfl rfl ?_ | refine V_guard rfl rfl ?_ | with_reducible refine GdV_want ?_ | ((with_reducible refine GdV_skipT ?_ ?_); exact rfl) | ((with_reducible refine GdV_skipF ?_ ?_); exact rfl))
        refine V_nilT ?_
        refine U_storeA E (hb97) rfl rfl rfl (by rw [encBs_len, hol]) (by rw [encBs_len, ok.old]; exact Nat.le_refl 256) (encBs_one _) ?_
        intro w8 hu8
        have hb98 := hu8.blk
        rw [show 256 = (encBs st.l[D.wait[i].1]).length by rw [encBs_len, hol], splice_all _ _ (by rw [encBs_len, encBs_len, hol, ok.old])] at hb98
        have hne9 : ∀ j, j = b9 → j ≠ g := fun j e e2 => by omega
        have hh8 := hh7.mv hu8.kept (fun (e : ho = b9) => by omega)
        have hbg8 := hbg7.mv hu8.kept (fun (e : g = b9) => by omega)
        have hb58 := hb57.mv hu8.kept (fun (e : b5 = b9) => by omega)
        repeat (first | with_reducible refine T_seq ?_ | with_reducible refine T_region ?_ | with_reducible refine U_nil ?_ | refine U_ar rfl rfl rfl (wrap_i64 (by omega)) rfl ?_ | refine U_pure E rfl rfl ?_ | with_reducible refine T_skip ?_ | with_reducible refine T_block ?_ | with_reducible refine T_inBlock ?_ | refine T_exit rfl ?_ | refine T_condV rfl ?_ | with_reducible refine Cnd_t ?_ | with_reducible refine Cnd_f ?_ | with_reducible refine Cnd_not ?_ | with_reducible refine Cnd_some ?_ | with_reducible refine Cnd_none ?_ | refine U_guard rfl rfl ?_ | with_reducible refine Gd_nt ?_ | with_reducible refine Gd_nf ?_ | with_reducible refine Gd_some ?_ | with_reducible refine Gd_none ?_ | with_reducible refine Gd_want ?_ | ((with_reducible refine Gd_skipT ?_ ?_); exact rfl) | ((with_reducible refine Gd_skipF ?_ ?_); exact rfl))
        refine T_tail 9 (by kernel_rfl) (by kernel_rfl) (fun w9 hd9 => ?_); simp only [List.take_succ_cons, List.take_zero, List.drop_succ_cons, List.drop_zero]; (repeat (first | refine V_ar rfl rfl rfl (wrap_i64 (by omega)) rfl ?_ | refine V_pure E rfl rfl ?_ | refine V_guard rfl rfl ?_ | with_reducible refine GdV_want ?_ | ((with_reducible refine GdV_skipT ?_ ?_); exact rfl) | ((with_reducible refine GdV_skipF ?_ ?_); exact rfl)))
        have hh9 := hh8.mv (hd9.kept none0) (fun x => x)
        have hbg9 := hbg8.mv (hd9.kept none0) (fun x => x)
        have hb99 := hb98.mv (hd9.kept none0) (fun x => x)
        have hb59 := hb58.mv (hd9.kept none0) (fun x => x)
        refine V_loadB E (by first | exact fun _ h => h.heap | (intro _ h; subst h; rfl)) (by assumption) rfl rfl rfl (by rfl) rfl ?_
        repeat (first | refine V_ar rfl rfl rfl (wrap_i64 (by omega)) rfl ?_ | refine V_pure E rfl rfl ?_ | refine V_guard rfl rfl ?_ | with_reducible refine GdV_want ?_ | ((with_reducible refine GdV_skipT ?_ ?_); exact rfl) | ((with_reducible refine GdV_skipF ?_ ?_); exact rfl))
        refine V_loadB E (by first | exact fun _ h => h.heap | (intro _ h; subst h; rfl)) (by assumption) rfl rfl rfl (by rfl) rfl ?_
        repeat (first | refine V_ar rfl rfl rfl (wrap_i64 (by omega)) rfl ?_ | refine V_pure E rfl rfl ?_ | refine V_guard rfl rfl ?_ | with_reducible refine GdV_want ?_ | ((with_reducible refine GdV_skipT ?_ ?_); exact rfl) | ((with_reducible refine GdV_skipF ?_ ?_); exact rfl))
        have hs5 : Seg w9 b5 1 (encBs D.wait[i].2) := by
          have := hb59.whole.drop 1
          simpa [encW] using this
        refine V_loadA E (by first | exact fun _ h => h.heap | (intro _ h; subst h; rfl)) (hs5) rfl rfl rfl (by rw [encBs_len, hln]) rfl ?_
        refine V_indexS E rfl rfl rfl rfl (by omega) (by omega) (by rw [Int.toNat_natCast, Nat.zero_add]) rfl ?_
        refine V_nilT ?_
        have hfit : D.wait[i].1 * 256 + 256 ≤ ((st.l.map encBs).flatten ++ pad).length := by
          have : (D.wait[i].1 + 1) * 256 ≤ st.l.length * 256 := Nat.mul_le_mul_right _ hatl
          rw [List.length_append, hfl, List.length_map]
          omega
        refine U_storeA E (hbg9) rfl rfl rfl (by rw [encBs_len, hln]) (hfit) (encBs_one _) ?_
        intro w10 hu10
        have hbg10 := hu10.blk
        rw [flat_set (sz := 256) _ _ _ hsegs (by simpa using hatl), ← List.map_set] at hbg10
        have hb910 := hb99.mv hu10.kept (fun (e : b9 = g) => by omega)
        repeat (first | with_reducible refine T_seq ?_ | with_reducible refine T_region ?_ | with_reducible refine U_nil ?_ | refine U_ar rfl rfl rfl (wrap_i64 (by omega)) rfl ?_ | refine U_pure E rfl rfl ?_ | with_reducible refine T_skip ?_ | with_reducible refine T_block ?_ | with_reducible refine T_inBlock ?_ | refine T_exit rfl ?_ | refine T_condV rfl ?_ | with_reducible refine Cnd_t ?_ | with_reducible refine Cnd_f ?_ | with_reducible refine Cnd_not ?_ | with_reducible refine Cnd_some ?_ | with_reducible refine Cnd_none ?_ | refine U_guard rfl rfl ?_ | with_reducible refine Gd_nt ?_ | with_reducible refine Gd_nf ?_ | with_reducible refine Gd_some ?_ | with_reducible refine Gd_none ?_ | with_reducible refine Gd_want ?_ | ((with_reducible refine Gd_skipT ?_ ?_); exact rfl) | ((with_reducible refine Gd_skipF ?_ ?_); exact rfl))
        refine T.less ?_ (ih (i + 1, w10) ?_ ?_)
        · dsimp only
          rw [hsn1]
          exact ⟨rfl, rfl, rfl, rfl, rfl, rfl, rfl, rfl, rfl, trivial⟩
        · dsimp only
          rw [hsn1]
          refine ⟨hlt', ?_, hbg10, by dsimp only; rw [hold]; exact hb910⟩
          have hk6a : Kept (fun b => b = g ∨ b = b9) w3 w6 := hk.tr hk46 (fun _ _ x => x.elim)
          exact (((hk6a.tr (hd7.kept none0) (fun _ _ x => x.elim)).tr hu8.kept (fun j _ e => .inr e)).tr (hd9.kept none0) (fun _ _ x => x.elim)).tr hu10.kept (fun j _ e => .inl e)
        · dsimp only
          omega
      · have hki : ¬ keep[i]? = some true := by rw [List.getElem?_eq_getElem hik, hkb]; simp
        have hsn1 : fgo keep D.l (D.wait.take (i + 1)) = st := by rw [hsn, fstep, if_neg hki]
        repeat (first | with_reducible refine T_seq ?_ | with_reducible refine T_region ?_ | with_reducible refine U_nil ?_ | refine U_ar rfl rfl rfl (wrap_i64 (by omega)) rfl ?_ | refine U_pure E rfl rfl ?_ | with_reducible refine T_skip ?_ | with_reducible refine T_block ?_ | with_reducible refine T_inBlock ?_ | refine T_exit rfl ?_ | refine T_condV rfl ?_ | with_reducible refine Cnd_t ?_ | with_reducible refine Cnd_f ?_ | with_reducible refine Cnd_not ?_ | with_reducible refine Cnd_some ?_ | with_reducible refine Cnd_none ?_ | refine U_guard rfl rfl ?_ | with_reducible refine Gd_nt ?_ | with_reducible refine Gd_nf ?_ | with_reducible refine Gd_some ?_ | with_reducible refine Gd_none ?_ | with_reducible refine Gd_want ?_ | ((with_reducible refine Gd_skipT ?_ ?_); exact rfl) | ((with_reducible refine Gd_skipF ?_ ?_); exact rfl))
        refine T.less ?_ (ih (i + 1, w6) ?_ ?_)
        · dsimp only
          rw [hsn1]
          exact ⟨rfl, rfl, rfl, rfl, rfl, rfl, rfl, rfl, rfl, trivial⟩
        · dsimp only
          rw [hsn1]
          exact ⟨hlt', hk.tr hk46 (fun _ _ x => x.elim), hbg6, hb96⟩
        · dsimp only
          omega
    · have hki : ¬ keep[i]? = some true := by rw [List.getElem?_eq_none (by omega)]; simp
      have hsn1 : fgo keep D.l (D.wait.take (i + 1)) = st := by rw [hsn, fstep, if_neg hki]
      repeat (first | with_reducible refine T_seq ?_ | with_reducible refine T_region ?_ | with_reducible refine U_nil ?_ | refine U_ar rfl rfl rfl (wrap_i64 (by omega)) rfl ?_ | refine U_pure E rfl rfl ?_ | with_reducible refine T_skip ?_ | with_reducible refine T_block ?_ | with_reducible refine T_inBlock ?_ | refine T_exit rfl ?_ | refine T_condV rfl ?_ | with_reducible refine Cnd_t ?_ | with_reducible refine Cnd_f ?_ | with_reducible refine Cnd_not ?_ | with_reducible refine Cnd_some ?_ | with_reducible refine Cnd_none ?_ | refine U_guard rfl rfl ?_ | with_reducible refine Gd_nt ?_ | with_reducible refine Gd_nf ?_ | with_reducible refine Gd_some ?_ | with_reducible refine Gd_none ?_ | with_reducible refine Gd_want ?_ | ((with_reducible refine Gd_skipT ?_ ?_); exact rfl) | ((with_reducible refine Gd_skipF ?_ ?_); exact rfl))
      refine T.less ?_ (ih (i + 1, w6) ?_ ?_)
      · dsimp only
        rw [hsn1]
        exact ⟨rfl, rfl, rfl, rfl, rfl, rfl, rfl, rfl, rfl, trivial⟩
      · dsimp only
        rw [hsn1]
        exact ⟨hlt', hk.tr hk46 (fun _ _ x => x.elim), hbg6, hb96⟩
      · dsimp only
        omega
  · have hiE : i = D.wait.length := by omega
    subst hiE
    rw [List.take_length] at hst
    have fin : ∀ (w' : World) (l' : List (List UInt8)), l'.length = D.l.length → (∀ x ∈ l', x.length = 256) → Kept none0 w w' → Blk w' ho [.slice (some ⟨g, 0, none⟩) D.l.length cap, .slice none 0 0, .int .i64 (-1)] 99 → Blk w' g ((l'.map encBs).flatten ++ pad) 101 → IsD w' (fresh w) ho ⟨l', [], -1⟩ := by
      intro w' l' e1 e2 _ e3 e4
      refine ⟨⟨by dsimp only; omega, by dsimp only; omega, e2, fun p hp => (by cases hp), Nat.zero_le _, Int.le_refl _, by dsimp only; omega⟩, _, _, ?_, e3, ?_, Row.nil _ _ _ _⟩
      · simp only [fresh]; omega
      · refine ⟨?_, .inr ⟨g, cap, pad, by dsimp only; rw [e1], ⟨hg, by omega⟩, e4, ?_, by dsimp only; omega⟩⟩
        · rw [flat_len (sz := 256) _ (encSegs e2), List.length_map]
        · rw [List.length_append, flat_len (sz := 256) _ (encSegs e2), List.length_map, e1, ← hgl, List.length_append, flat_len (sz := 256) _ (encSegs h0.secs), List.length_map]
    have same : ¬ (0 ≤ st.last ∧ 0 ≤ torn ∧ torn < 256) → drFall D keep torn = ⟨st.l, [], -1⟩ := by
      intro hno
      simp only [drFall, hst]
      rw [if_neg hno]
    repeat (first | with_reducible refine T_seq ?_ | with_reducible refine T_region ?_ | with_reducible refine U_nil ?_ | refine U_ar rfl rfl rfl (wrap_i64 (by omega)) rfl ?_ | refine U_pure E rfl rfl ?_ | with_reducible refine T_skip ?_ | with_reducible refine T_block ?_ | with_reducible refine T_inBlock ?_ | refine T_exit rfl ?_ | refine T_condV rfl ?_ | with_reducible refine Cnd_t ?_ | with_reducible refine Cnd_f ?_ | with_reducible refine Cnd_not ?_ | with_reducible refine Cnd_some ?_ | with_reducible refine Cnd_none ?_ | refine U_guard rfl rfl ?_ | with_reducible refine Gd_nt ?_ | with_reducible refine Gd_nf ?_ | with_reducible refine Gd_some ?_ | with_reducible refine Gd_none ?_ | with_reducible refine Gd_want ?_ | ((with_reducible refine Gd_skipT ?_ ?_); exact rfl) | ((with_reducible refine Gd_skipF ?_ ?_); exact rfl))
    refine Gd_p (fun hz1 => ?_) (fun hz1 => ?_)
    · repeat (first | with_reducible refine T_seq ?_ | with_reducible refine T_region ?_ | with_reducible refine U_nil ?_ | refine U_ar rfl rfl rfl (wrap_i64 (by omega)) rfl ?_ | refine U_pure E rfl rfl ?_ | with_reducible refine T_skip ?_ | with_reducible refine T_block ?_ | with_reducible refine T_inBlock ?_ | refine T_exit rfl ?_ | refine T_condV rfl ?_ | with_reducible refine Cnd_t ?_ | with_reducible refine Cnd_f ?_ | with_reducible refine Cnd_not ?_ | with_reducible refine Cnd_some ?_ | with_reducible refine Cnd_none ?_ | refine U_guard rfl rfl ?_ | with_reducible refine Gd_nt ?_ | with_reducible refine Gd_nf ?_ | with_reducible refine Gd_some ?_ | with_reducible refine Gd_none ?_ | with_reducible refine Gd_want ?_ | ((with_reducible refine Gd_skipT ?_ ?_); exact rfl) | ((with_reducible refine Gd_skipF ?_ ?_); exact rfl))
      refine Gd_p (fun hz2 => ?_) (fun hz2 => ?_)
      · repeat (first | with_reducible refine T_seq ?_ | with_reducible refine T_region ?_ | with_reducible refine U_nil ?_ | refine U_ar rfl rfl rfl (wrap_i64 (by omega)) rfl ?_ | refine U_pure E rfl rfl ?_ | with_reducible refine T_skip ?_ | with_reducible refine T_block ?_ | with_reducible refine T_inBlock ?_ | refine T_exit rfl ?_ | refine T_condV rfl ?_ | with_reducible refine Cnd_t ?_ | with_reducible refine Cnd_f ?_ | with_reducible refine Cnd_not ?_ | with_reducible refine Cnd_some ?_ | with_reducible refine Cnd_none ?_ | refine U_guard rfl rfl ?_ | with_reducible refine Gd_nt ?_ | with_reducible refine Gd_nf ?_ | with_reducible refine Gd_some ?_ | with_reducible refine Gd_none ?_ | with_reducible refine Gd_want ?_ | ((with_reducible refine Gd_skipT ?_ ?_); exact rfl) | ((with_reducible refine Gd_skipF ?_ ?_); exact rfl))
        refine Cnd_p (fun hz3 => ?_) (fun hz3 => ?_)
        · obtain ⟨tn, rfl⟩ := Int.eq_ofNat_of_zero_le hz2
          obtain ⟨lst, hls⟩ := Int.eq_ofNat_of_zero_le hz1
          have hlst : lst < D.wait.length := by omega
          obtain ⟨gw, rfl, hgw, hseg⟩ := wait_seg hws h44 rfl hlst
          have hat := (h0.waits _ (List.getElem_mem hlst)).1
          have hatl : D.wait[lst].1 < st.l.length := by rw [ok.len]; exact hat
          have hsegs := encSegs ok.secs
          have hfl := flat_len (sz := 256) _ hsegs
          have hol := ok.secs _ (List.getElem_mem hatl)
          have hoo := ok.old
          rw [hls]
          repeat (first | with_reducible refine T_seq ?_ | with_reducible refine T_region ?_ | with_reducible refine U_nil ?_ | refine U_ar rfl rfl rfl (wrap_i64 (by omega)) rfl ?_ | refine U_pure E rfl rfl ?_ | with_reducible refine T_skip ?_ | with_reducible refine T_block ?_ | with_reducible refine T_inBlock ?_ | refine T_exit rfl ?_ | refine T_condV rfl ?_ | with_reducible refine Cnd_t ?_ | with_reducible refine Cnd_f ?_ | with_reducible refine Cnd_not ?_ | with_reducible refine Cnd_some ?_ | with_reducible refine Cnd_none ?_ | refine U_guard rfl rfl ?_ | with_reducible refine Gd_nt ?_ | with_reducible refine Gd_nf ?_ | with_reducible refine Gd_some ?_ | with_reducible refine Gd_none ?_ | with_reducible refine Gd_want ?_ | ((with_reducible refine Gd_skipT ?_ ?_); exact rfl) | ((with_reducible refine Gd_skipF ?_ ?_); exact rfl))
          refine T_tail 17 (by kernel_rfl) (by kernel_rfl) (fun w7 hd7 => ?_); simp only [List.take_succ_cons, List.take_zero, List.drop_succ_cons, List.drop_zero]; (repeat (first | refine V_ar rfl rfl rfl (wrap_i64 (by omega)) rfl ?_ | refine V_pure E rfl rfl ?_ | refine V_guard rfl rfl ?_ | with_reducible refine GdV_want ?_ | ((with_reducible refine GdV_skipT ?_ ?_); exact rfl) | ((with_reducible refine GdV_skipF ?_ ?_); exact rfl)))
          have hh7 := hh4.mv (hd7.kept none0) (fun x => x)
          have hbg7 := hbg4.mv (hd7.kept none0) (fun x => x)
          have hb97 := hb94.mv (hd7.kept none0) (fun x => x)
          have h27 := h24.mv (hd7.kept none0) (fun x => x)
          have hseg7 := hseg.mv (hd7.kept none0) (fun x => x)
          refine V_loadB E (by first | exact fun _ h => h.heap | (intro _ h; subst h; rfl)) (by assumption) rfl rfl rfl (by rfl) rfl ?_
          repeat (first | refine V_ar rfl rfl rfl (wrap_i64 (by omega)) rfl ?_ | refine V_pure E rfl rfl ?_ | refine V_guard rfl rfl ?_ | with_reducible refine GdV_want ?_ | ((with_reducible refine GdV_skipT ?_ ?_); exact rfl) | ((with_reducible refine GdV_skipF ?_ ?_); exact rfl))
          refine V_loadB E (by first | exact fun _ h => h.heap | (intro _ h; subst h; rfl)) (by assumption) rfl rfl rfl (by rfl) rfl ?_
          repeat (first | refine V_ar rfl rfl rfl (wrap_i64 (by omega)) rfl ?_ | refine V_pure E rfl rfl ?_ | refine V_guard rfl rfl ?_ | with_reducible refine GdV_want ?_ | ((with_reducible refine GdV_skipT ?_ ?_); exact rfl) | ((with_reducible refine GdV_skipF ?_ ?_); exact rfl))
          refine V_indexS E rfl rfl rfl rfl (by omega) (by omega) (by rw [Int.toNat_natCast, Nat.zero_add]) rfl ?_
          repeat (first | refine V_ar rfl rfl rfl (wrap_i64 (by omega)) rfl ?_ | refine V_pure E rfl rfl ?_ | refine V_guard rfl rfl ?_ | with_reducible refine GdV_want ?_ | ((with_reducible refine GdV_skipT ?_ ?_); exact rfl) | ((with_reducible refine GdV_skipF ?_ ?_); exact rfl))
          have hcell : w7.cell? ⟨gw, lst * 257 + 0, none⟩ = some (.int .i64 D.wait[lst].1) := hseg7 0 _ rfl
          refine V_load E rfl rfl rfl (fun w' hw' => (by first | (rw [hw'.cell]; exact hcell) | (subst hw'; exact hcell))) rfl ?_
          repeat (first | refine V_ar rfl rfl rfl (wrap_i64 (by omega)) rfl ?_ | refine V_pure E rfl rfl ?_ | refine V_guard rfl rfl ?_ | with_reducible refine GdV_want ?_ | ((with_reducible refine GdV_skipT ?_ ?_); exact rfl) | ((with_reducible refine GdV_skipF ?_ ?_); exact rfl))
          refine V_indexS E rfl rfl rfl rfl (by omega) (by omega) (by rw [Int.toNat_natCast, Nat.zero_add]) rfl ?_
          repeat (first | refine V_ar rfl rfl rfl (wrap_i64 (by omega)) rfl ?_ | refine V_pure E rfl rfl ?_ | refine V_guard rfl rfl ?_ | with_reducible refine GdV_want ?_ | ((with_reducible refine GdV_skipT ?_ ?_); exact rfl) | ((with_reducible refine GdV_skipF ?_ ?_); exact rfl))
          refine V_run rfl rfl rfl (fun a ha w' _ => ro_sliceArrFrom (s := 1) (l := tn) E rfl rfl rfl rfl (by omega) a ha) ?_
          repeat (first | refine V_ar rfl rfl rfl (wrap_i64 (by omega)) rfl ?_ | refine V_pure E rfl rfl ?_ | refine V_guard rfl rfl ?_ | with_reducible refine GdV_want ?_ | ((with_reducible refine GdV_skipT ?_ ?_); exact rfl) | ((with_reducible refine GdV_skipF ?_ ?_); exact rfl))
          refine V_run rfl rfl rfl (fun a ha w' _ => ro_sliceArrFrom (s := 1) (l := tn) E rfl rfl rfl rfl (by omega) a ha) ?_
          refine V_nilT ?_
          simp only [Nat.mul_one, Nat.zero_add]
          have hsrc : Sl w7 (fun _ => True) (.slice (some ⟨b9, tn, none⟩) (256 - tn) (256 - tn)) 1 (256 - tn) (encBs (st.old.drop tn)) := by
            refine ⟨by omega, by rw [encBs_len, List.length_drop, hoo, Nat.mul_one], _, _, rfl, Nat.le_refl _, .inr ⟨b9, tn, rfl, trivial, hb97.lt, ?_⟩⟩
            have := hb97.whole.drop tn
            rw [Nat.zero_add] at this
            rw [encBs, List.map_drop]
            exact this
          have hxl : (encBs (st.old.drop tn)).length = 256 - tn := by rw [encBs_len, List.length_drop, hoo]
          refine U_copy E hbg7 hsrc (encBs_one _) rfl rfl rfl rfl ?_ rfl ?_
          · have : (D.wait[lst].1 + 1) * 256 ≤ st.l.length * 256 := Nat.mul_le_mul_right _ hatl
            rw [List.length_append, hfl, List.length_map]
            omega
          intro w8 hu8
          have hbg8 := hu8.blk
          rw [List.take_of_length_le (l := encBs (st.old.drop tn)) (by omega), flat_sub (sz := 256) _ _ _ _ hsegs (by simpa using hatl) (by omega)] at hbg8
          have hse : (List.map encBs st.l)[D.wait[lst].1]'(by simpa using hatl) = encBs st.l[D.wait[lst].1] := by simp
          have hsm : (encBs st.l[D.wait[lst].1]).take tn ++ encBs (st.old.drop tn) = encBs (st.l[D.wait[lst].1].take tn ++ st.old.drop tn) := by
            simp [encBs]
          rw [hse, hsm, ← List.map_set] at hbg8
          have hh8 := hh7.mv hu8.kept (fun (e : ho = g) => by omega)
          have hk8 : Kept none0 w w8 := (hk4.tr (hd7.kept none0) (fun _ _ x => x)).tr hu8.kept (fun j hj (e : j = g) => by omega)
          repeat (first | with_reducible refine T_seq ?_ | with_reducible refine T_region ?_ | with_reducible refine U_nil ?_ | refine U_ar rfl rfl rfl (wrap_i64 (by omega)) rfl ?_ | refine U_pure E rfl rfl ?_ | with_reducible refine T_skip ?_ | with_reducible refine T_block ?_ | with_reducible refine T_inBlock ?_ | refine T_exit rfl ?_ | refine T_condV rfl ?_ | with_reducible refine Cnd_t ?_ | with_reducible refine Cnd_f ?_ | with_reducible refine Cnd_not ?_ | with_reducible refine Cnd_some ?_ | with_reducible refine Cnd_none ?_ | refine U_guard rfl rfl ?_ | with_reducible refine Gd_nt ?_ | with_reducible refine Gd_nf ?_ | with_reducible refine Gd_some ?_ | with_reducible refine Gd_none ?_ | with_reducible refine Gd_want ?_ | ((with_reducible refine Gd_skipT ?_ ?_); exact rfl) | ((with_reducible refine Gd_skipF ?_ ?_); exact rfl))
          refine T_ret1 Tryd.func29 rfl rfl ⟨_, rfl, hk8, ho, rfl, ?_⟩
          have hdf : drFall D keep (tn : Int) = ⟨st.l.set D.wait[lst].1 (st.l[D.wait[lst].1].take tn ++ st.old.drop tn), [], -1⟩ := by
            simp only [drFall, hst]
            rw [if_pos (by omega), hls, Int.toNat_natCast, Int.toNat_natCast, List.getD_eq_getElem?_getD (l := D.wait), List.getElem?_eq_getElem hlst, Option.getD_some, List.getD_eq_getElem?_getD, List.getElem?_eq_getElem hatl, Option.getD_some]
          rw [hdf]
          refine fin _ _ (by rw [List.length_set, ok.len]) (fun x hx => ?_) hk8 hh8 hbg8
          rcases List.mem_or_eq_of_mem_set hx with h1 | h1
          · exact ok.secs x h1
          · rw [h1, List.length_append, List.length_take, List.length_drop, hol, hoo]
            omega
        · repeat (first | with_reducible refine T_seq ?_ | with_reducible refine T_region ?_ | with_reducible refine U_nil ?_ | refine U_ar rfl rfl rfl (wrap_i64 (by omega)) rfl ?_ | refine U_pure E rfl rfl ?_ | with_reducible refine T_skip ?_ | with_reducible refine T_block ?_ | with_reducible refine T_inBlock ?_ | refine T_exit rfl ?_ | refine T_condV rfl ?_ | with_reducible refine Cnd_t ?_ | with_reducible refine Cnd_f ?_ | with_reducible refine Cnd_not ?_ | with_reducible refine Cnd_some ?_ | with_reducible refine Cnd_none ?_ | refine U_guard rfl rfl ?_ | with_reducible refine Gd_nt ?_ | with_reducible refine Gd_nf ?_ | with_reducible refine Gd_some ?_ | with_reducible refine Gd_none ?_ | with_reducible refine Gd_want ?_ | ((with_reducible refine Gd_skipT ?_ ?_); exact rfl) | ((with_reducible refine Gd_skipF ?_ ?_); exact rfl))
          refine T_ret1 Tryd.func29 rfl rfl ⟨_, rfl, hk4, ho, rfl, ?_⟩
          rw [same (by omega)]
          exact fin _ _ ok.len ok.secs hk4 hh4 hbg4
      · repeat (first | with_reducible refine T_seq ?_ | with_reducible refine T_region ?_ | with_reducible refine U_nil ?_ | refine U_ar rfl rfl rfl (wrap_i64 (by omega)) rfl ?_ | refine U_pure E rfl rfl ?_ | with_reducible refine T_skip ?_ | with_reducible refine T_block ?_ | with_reducible refine T_inBlock ?_ | refine T_exit rfl ?_ | refine T_condV rfl ?_ | with_reducible refine Cnd_t ?_ | with_reducible refine Cnd_f ?_ | with_reducible refine Cnd_not ?_ | with_reducible refine Cnd_some ?_ | with_reducible refine Cnd_none ?_ | refine U_guard rfl rfl ?_ | with_reducible refine Gd_nt ?_ | with_reducible refine Gd_nf ?_ | with_reducible refine Gd_some ?_ | with_reducible refine Gd_none ?_ | with_reducible refine Gd_want ?_ | ((with_reducible refine Gd_skipT ?_ ?_); exact rfl) | ((with_reducible refine Gd_skipF ?_ ?_); exact rfl))
        refine T_ret1 Tryd.func29 rfl rfl ⟨_, rfl, hk4, ho, rfl, ?_⟩
        rw [same (by omega)]
        exact fin _ _ ok.len ok.secs hk4 hh4 hbg4
    · repeat (first | with_reducible refine T_seq ?_ | with_reducible refine T_region ?_ | with_reducible refine U_nil ?_ | refine U_ar rfl rfl rfl (wrap_i64 (by omega)) rfl ?_ | refine U_pure E rfl rfl ?_ | with_reducible refine T_skip ?_ | with_reducible refine T_block ?_ | with_reducible refine T_inBlock ?_ | refine T_exit rfl ?_ | refine T_condV rfl ?_ | with_reducible refine Cnd_t ?_ | with_reducible refine Cnd_f ?_ | with_reducible refine Cnd_not ?_ | with_reducible refine Cnd_some ?_ | with_reducible refine Cnd_none ?_ | refine U_guard rfl rfl ?_ | with_reducible refine Gd_nt ?_ | with_reducible refine Gd_nf ?_ | with_reducible refine Gd_some ?_ | with_reducible refine Gd_none ?_ | with_reducible refine Gd_want ?_ | ((with_reducible refine Gd_skipT ?_ ?_); exact rfl) | ((with_reducible refine Gd_skipF ?_ ?_); exact rfl))
      refine T_ret1 Tryd.func29 rfl rfl ⟨_, rfl, hk4, ho, rfl, ?_⟩
      rw [same (by omega)]
      exact fin _ _ ok.len ok.secs hk4 hh4 hbg4
end Go.Proofs.YtoefhdaenaiomaaDoor
