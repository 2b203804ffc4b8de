/- Clone, Fall. -/
import Derived.Test.YtoefhdaenaiomaaGreatDoorPk2
import Derived.ChangeSlices
import Derived.Carry
import Derived.Deep.Grids
import Derived.OpenShut
import Derived.ProofKit
import Derived.Deep.Matrix
import Derived.Test.YtoefhdaenaiomaaGreatDoorPk1
import Derived.WalkKit
import Derived.LaidEql
import Derived.Stop.Asserts
import Derived.RowKitTokens
import Derived.Test.YtoefhdaenaiomaaGreatDoorRows
import Derived.ChangeSame
import Derived.ChangeVars
import Derived.JoinedOf
import Derived.LaidLaws
import Derived.LaidHandle
import Derived.Stop.Joined
import Derived.Lay
import Derived.MakeChecks
set_option linter.unusedVariables false
set_option linter.unusedSimpArgs false
namespace Go.Proofs.YtoefhdaenaiomaaGreatDoor
open Go
set_option maxRecDepth 20000

theorem clone_c (w : World) (F : Nat → Prop) (v : Value) (n : Nat) (cs : List Value) (h : Row w F v 256 n cs 73) (hn : 0 < n) (hm : n ≤ 8192) (h1 : ∀ u ∈ cs, u.oneCell' = true) :
    Calls Tryz.prog 35 [v].toArray w (Ret fun r w' => Kept none0 w w' ∧ Row w' (fresh w) r 256 n cs 73) := by
  obtain ⟨g, cap, pad, rfl, hF, hb, hl, hc⟩ := h.pos hn
  refine calls_T Tryz.func35 rfl rfl rfl ?_
  repeat (first | (with_reducible first | apply T_seq | apply T_region | apply U_nil | apply T_skip | apply T_block | apply T_inBlock | apply Cnd_t | apply Cnd_f | apply Cnd_not | apply Cnd_some | apply Cnd_none | apply Gd_nt | apply Gd_nf | apply Gd_some | apply Gd_none | apply Gd_want) | refine U_ar rfl rfl rfl (wrap_i64 (by omega)) rfl ?_ | refine U_pure E rfl rfl ?_ | refine T_exit rfl ?_ | refine T_condV rfl ?_ | refine U_guard rfl rfl ?_ | ((with_reducible refine Gd_skipT ?_ ?_); exact rfl) | ((with_reducible refine Gd_skipF ?_ ?_); exact rfl))
  refine U_buildSlice0 E rfl rfl rfl ?_
  intro b w1 hn1
  have hs := (h.mv hn1.kept (fun _ _ _ x => x)).sl (by omega)
  have hr0 : Row w1 (fresh w) (.slice (some ⟨b, 0, none⟩) 0 0) 256 0 [] 73 :=
    ⟨by simp, .inr ⟨b, 0, [], rfl, by have := hn1.at_; simp only [fresh]; omega, hn1.blk, rfl, Nat.le_refl _⟩⟩
  repeat (first | (with_reducible first | apply T_seq | apply T_region | apply U_nil | apply T_skip | apply T_block | apply T_inBlock | apply Cnd_t | apply Cnd_f | apply Cnd_not | apply Cnd_some | apply Cnd_none | apply Gd_nt | apply Gd_nf | apply Gd_some | apply Gd_none | apply Gd_want) | refine U_ar rfl rfl rfl (wrap_i64 (by omega)) rfl ?_ | refine U_pure E rfl rfl ?_ | refine T_exit rfl ?_ | refine T_condV rfl ?_ | refine U_guard rfl rfl ?_ | ((with_reducible refine Gd_skipT ?_ ?_); exact rfl) | ((with_reducible refine Gd_skipF ?_ ?_); exact rfl))
  refine U_append E hr0 hs h1 rfl rfl rfl rfl rfl (by omega) (by omega) rfl ?_
  intro v' w2 hr hk hz hob
  repeat (first | (with_reducible first | apply T_seq | apply T_region | apply U_nil | apply T_skip | apply T_block | apply T_inBlock | apply Cnd_t | apply Cnd_f | apply Cnd_not | apply Cnd_some | apply Cnd_none | apply Gd_nt | apply Gd_nf | apply Gd_some | apply Gd_none | apply Gd_want) | refine U_ar rfl rfl rfl (wrap_i64 (by omega)) rfl ?_ | refine U_pure E rfl rfl ?_ | refine T_exit rfl ?_ | refine T_condV rfl ?_ | refine U_guard rfl rfl ?_ | ((with_reducible refine Gd_skipT ?_ ?_); exact rfl) | ((with_reducible refine Gd_skipF ?_ ?_); exact rfl))
  refine T_ret1 Tryz.func35 rfl rfl ⟨_, rfl, hn1.kept.tr hk (fun j hj e => ?_), ?_⟩
  · have := hr0.own j e
    have := this.1
    simp only [fresh] at this
    omega
  · have := hr.mono (G := fresh w) (fun j _ e => e.elim (fun x => x) (fun x => Nat.le_trans hn1.kept.size x))
    simpa using this

/-! ### What a fall leaves -/
structure FS where
  l : List (List UInt8)
  last : Int
  old : List UInt8
def fstep (keep : List Bool) (s : FS) (x : (Nat × List UInt8) × Nat) : FS := if keep[x.2]? = some true then ⟨s.l.set x.1.1 x.1.2, x.2, s.l.getD x.1.1 []⟩ else s
def fgo (keep : List Bool) (l : List (List UInt8)) (ws : List (Nat × List UInt8)) : FS := (ws.zipIdx 0).foldl (fstep keep) ⟨l, -1, zeros 256⟩
theorem fgo_snoc (keep : List Bool) (l : List (List UInt8)) (ws : List (Nat × List UInt8)) (p : Nat × List UInt8) : fgo keep l (ws ++ [p]) = fstep keep (fgo keep l ws) (p, ws.length) := by
  simp [fgo, List.zipIdx_append]

/-- The sectors and writes are well formed. -/
structure FOk (n : Nat) (ws : List (Nat × List UInt8)) (k : Nat) (s : FS) : Prop where
  len : s.l.length = n
  secs : ∀ x ∈ s.l, x.length = 256
  old : s.old.length = 256
  last1 : -1 ≤ s.last
  last2 : s.last < k
theorem fgo_ok (keep : List Bool) (l : List (List UInt8)) (ws : List (Nat × List UInt8)) (hl : ∀ x ∈ l, x.length = 256) (h : ∀ p ∈ ws, p.1 < l.length ∧ p.2.length = 256) : ∀ k, k ≤ ws.length → FOk l.length ws k (fgo keep l (ws.take k)) := by
  intro k
  induction k with
  | zero => intro _; exact ⟨rfl, hl, zeros_len 256, Int.le_refl _, by simp [fgo]⟩
  | succ k ih =>
    intro hk
    have ih := ih (by omega)
    have hp := h _ (List.getElem_mem (show k < ws.length by omega))
    rw [take_snoc ws k (by omega), fgo_snoc, fstep]
    have hlk : (ws.take k).length = k := by simp; omega
    dsimp only
    rw [hlk]
    split
    · refine ⟨by simp [ih.len], fun x hx => ?_, ?_, ?_, ?_⟩
      · rcases List.mem_or_eq_of_mem_set hx with h1 | h1
        · exact ih.secs x h1
        · rw [h1]; exact hp.2
      · dsimp only
        rw [List.getD_eq_getElem?_getD, List.getElem?_eq_getElem (by rw [ih.len]; exact hp.1), Option.getD_some]
        exact ih.secs _ (List.getElem_mem _)
      · dsimp only; omega
      · dsimp only; omega
    · have h2 := ih.last2
      exact ⟨ih.len, ih.secs, ih.old, ih.last1, by omega⟩

def drFall (D : Dr) (keep : List Bool) (torn : Int) : Dr :=
  let s := fgo keep D.l D.wait
  let at_ := (D.wait.getD s.last.toNat (0, [])).1
  ⟨if 0 ≤ s.last ∧ 0 ≤ torn ∧ torn < 256 then s.l.set at_ ((s.l.getD at_ []).take torn.toNat ++ s.old.drop torn.toNat) else s.l, [], -1⟩

def encBools (l : List Bool) : List Value := l.map .bool

theorem sec_of (l : List (List UInt8)) (h : ∀ x ∈ l, x.length = 256) (k : Nat) (hk : k < l.length) : (l.getD k []).length = 256 := by
  rw [List.getD_eq_getElem?_getD, List.getElem?_eq_getElem hk, Option.getD_some]
  exact h _ (List.getElem_mem _)

set_option maxHeartbeats 1000000 in
theorem fall_c (w : World) (F : Nat → Prop) (hb : Nat) (D : Dr) (G : Nat → Prop) (v : Value) (keep : List Bool) (torn : Int) (h : IsD w F hb D) (hp : Sl w G v 1 keep.length (encBools keep)) :
    Calls Tryz.prog 13 [ptr hb, v, .int .i64 torn].toArray w (Ret fun r w' => Kept none0 w w' ∧ ∃ hb', r = ptr hb' ∧ IsD w' (fresh w) hb' (drFall D keep torn)) := by
  obtain ⟨h0, vl, vw, h1, h2, h3, h4⟩ := h
  have hn1 := h0.n1
  have hn2 := h0.n2
  have hwn := h0.wn
  have hws := fun p hp => (h0.waits p hp).2
  obtain ⟨A, c, rfl⟩ := h4.val
  obtain ⟨A2, c2, rfl⟩ := h3.val
  obtain ⟨K, ck, rfl⟩ := hp.len
  have hkl := hp.1
  have hone : ∀ u ∈ (D.l.map encBs).flatten, u.oneCell' = true := by
    intro u hu
    obtain ⟨s, hs, hu⟩ := List.mem_flatten.1 hu
    obtain ⟨x, _, rfl⟩ := List.mem_map.1 hs
    exact encBs_one x u hu
  have hcl := clone_c w _ _ _ _ h3 hn1 hn2 hone
  refine calls_T Tryz.func13 rfl rfl rfl ?_
  unfold ptr at *
  repeat (first | (with_reducible first | apply T_seq | apply T_region | apply U_nil | apply T_skip | apply T_block | apply T_inBlock | apply Cnd_t | apply Cnd_f | apply Cnd_not | apply Cnd_some | apply Cnd_none | apply Gd_nt | apply Gd_nf | apply Gd_some | apply Gd_none | apply Gd_want) | refine U_ar rfl rfl rfl (wrap_i64 (by omega)) rfl ?_ | refine U_pure E rfl rfl ?_ | refine T_exit rfl ?_ | refine T_condV rfl ?_ | refine U_guard rfl rfl ?_ | ((with_reducible refine Gd_skipT ?_ ?_); exact rfl) | ((with_reducible refine Gd_skipF ?_ ?_); exact rfl))
  refine U_loadB E (by assumption) rfl rfl rfl (by rfl) rfl ?_
  refine U_call rfl rfl (Tryz.call35 _) (hcl) ?_
  rintro r w1 ⟨hk1, hr1⟩
  obtain ⟨g, cap, pad, rfl, hg, hbg, hgl, hgc⟩ := hr1.pos hn1
  refine U_build (cells := [.slice (some ⟨g, 0, none⟩) D.l.length cap, .slice none 0 0, .int .i64 (-1)]) rfl (by kernel_rfl) rfl ?_
  refine U_box E rfl rfl rfl ?_
  intro ho w2 hn2'
  repeat (first | (with_reducible first | apply T_seq | apply T_region | apply U_nil | apply T_skip | apply T_block | apply T_inBlock | apply Cnd_t | apply Cnd_f | apply Cnd_not | apply Cnd_some | apply Cnd_none | apply Gd_nt | apply Gd_nf | apply Gd_some | apply Gd_none | apply Gd_want) | refine U_ar rfl rfl rfl (wrap_i64 (by omega)) rfl ?_ | refine U_pure E rfl rfl ?_ | refine T_exit rfl ?_ | refine T_condV rfl ?_ | refine U_guard rfl rfl ?_ | ((with_reducible refine Gd_skipT ?_ ?_); exact rfl) | ((with_reducible refine Gd_skipF ?_ ?_); exact rfl))
  refine U_alloc E rfl rfl rfl ?_
  intro b9 w3 hn3
  have hho := hn2'.at_
  have hb9 := hn3.at_
  have hs2 := hn2'.size
  have hs3 := hn3.size
  have hltg := hbg.lt
  have hk13 : Kept none0 w1 w3 := hn2'.kept.tr hn3.kept (fun _ _ x => x)
  have hk3 : Kept none0 w w3 := hk1.tr hk13 (fun _ _ x => x)
  have hh3 := hn2'.blk.mv hn3.kept (fun x => x)
  have hg3 := hbg.mv hk13 (fun x => x)
  have hs0 := hk1.size
  have h23 := h2.mv hk3 (fun x => x)
  have hlthb := h2.lt
  simp only [fresh] at hg
  repeat (first | (with_reducible first | apply T_seq | apply T_region | apply U_nil | apply T_skip | apply T_block | apply T_inBlock | apply Cnd_t | apply Cnd_f | apply Cnd_not | apply Cnd_some | apply Cnd_none | apply Gd_nt | apply Gd_nf | apply Gd_some | apply Gd_none | apply Gd_want) | refine U_ar rfl rfl rfl (wrap_i64 (by omega)) rfl ?_ | refine U_pure E rfl rfl ?_ | refine T_exit rfl ?_ | refine T_condV rfl ?_ | refine U_guard rfl rfl ?_ | ((with_reducible refine Gd_skipT ?_ ?_); exact rfl) | ((with_reducible refine Gd_skipF ?_ ?_); exact rfl))
  refine U_loadB E h23 rfl rfl rfl (by rfl) rfl ?_
  repeat (first | (with_reducible first | apply T_seq | apply T_region | apply U_nil | apply T_skip | apply T_block | apply T_inBlock | apply Cnd_t | apply Cnd_f | apply Cnd_not | apply Cnd_some | apply Cnd_none | apply Gd_nt | apply Gd_nf | apply Gd_some | apply Gd_none | apply Gd_want) | refine U_ar rfl rfl rfl (wrap_i64 (by omega)) rfl ?_ | refine U_pure E rfl rfl ?_ | refine T_exit rfl ?_ | refine T_condV rfl ?_ | refine U_guard rfl rfl ?_ | ((with_reducible refine Gd_skipT ?_ ?_); exact rfl) | ((with_reducible refine Gd_skipF ?_ ?_); exact rfl))
  refine T_loop (α := Nat × World) (fun x => [(26, .int .i64 x.1), (25, .int .i64 D.wait.length), (24, .slice A D.wait.length c), (0, .pointer (some ⟨hb, 0, none⟩)), (1, .slice K keep.length ck), (2, .int .i64 torn), (7, .pointer (some ⟨ho, 0, none⟩)), (8, .int .i64 (fgo keep D.l (D.wait.take x.1)).last), (9, .pointer (some ⟨b9, 0, none⟩))]) (fun x => x.2) (fun x => D.wait.length - x.1)
    (fun x => x.1 ≤ D.wait.length ∧ Kept (fun b => b = g ∨ b = b9) w3 x.2 ∧ Blk x.2 g (((fgo keep D.l (D.wait.take x.1)).l.map encBs).flatten ++ pad) 73 ∧ Blk x.2 b9 (encBs (fgo keep D.l (D.wait.take x.1)).old) 73) (0, w3)
    ⟨Nat.zero_le _, Kept.refl _ _, hg3, by have := hn3.blk; simp only [List.take_zero, fgo, List.zipIdx_nil, List.foldl_nil]; rw [encBs_zeros]; exact this⟩ ⟨rfl, rfl, rfl, rfl, rfl, rfl, rfl, rfl, rfl, trivial⟩ rfl ?_
  rintro ⟨i, w4⟩ ⟨hi, hk, hbg4, hb94⟩ ih
  dsimp only at hi hk hbg4 hb94 ⊢
  have ok := fgo_ok keep D.l D.wait h0.secs h0.waits i hi
  obtain ⟨st, hst⟩ : ∃ st, fgo keep D.l (D.wait.take i) = st := ⟨_, rfl⟩
  rw [hst] at hbg4 hb94 ok ⊢
  have hlast1 := ok.last1
  have hlast2 := ok.last2
  have hk4 : Kept none0 w w4 := hk3.tr hk (fun j hj e => by rcases e with e | e <;> omega)
  have hh4 := hh3.mv hk (fun e => by rcases e with e | e <;> omega)
  have h24 := h2.mv hk4 (fun x => x)
  have h44 := h4.mv hk4 (fun _ _ _ x => x)
  repeat (first | (with_reducible first | apply T_seq | apply T_region | apply U_nil | apply T_skip | apply T_block | apply T_inBlock | apply Cnd_t | apply Cnd_f | apply Cnd_not | apply Cnd_some | apply Cnd_none | apply Gd_nt | apply Gd_nf | apply Gd_some | apply Gd_none | apply Gd_want) | refine U_ar rfl rfl rfl (wrap_i64 (by omega)) rfl ?_ | refine U_pure E rfl rfl ?_ | refine T_exit rfl ?_ | refine T_condV rfl ?_ | refine U_guard rfl rfl ?_ | ((with_reducible refine Gd_skipT ?_ ?_); exact rfl) | ((with_reducible refine Gd_skipF ?_ ?_); exact rfl))
  refine Cnd_p (fun hlt => ?_) (fun hlt => ?_)
  · have hlt' : i < D.wait.length := by omega
    obtain ⟨gw, rfl, hgw, hseg⟩ := wait_seg hws h44 rfl hlt'
    have hat := (h0.waits _ (List.getElem_mem hlt')).1
    have hln := (h0.waits _ (List.getElem_mem hlt')).2
    have hsn : fgo keep D.l (D.wait.take (i + 1)) = fstep keep st (D.wait[i], i) := by
      rw [take_snoc D.wait i hlt', fgo_snoc, hst]
      congr 2
      simp; omega
    repeat (first | (with_reducible first | apply T_seq | apply T_region | apply U_nil | apply T_skip | apply T_block | apply T_inBlock | apply Cnd_t | apply Cnd_f | apply Cnd_not | apply Cnd_some | apply Cnd_none | apply Gd_nt | apply Gd_nf | apply Gd_some | apply Gd_none | apply Gd_want) | refine U_ar rfl rfl rfl (wrap_i64 (by omega)) rfl ?_ | refine U_pure E rfl rfl ?_ | refine T_exit rfl ?_ | refine T_condV rfl ?_ | refine U_guard rfl rfl ?_ | ((with_reducible refine Gd_skipT ?_ ?_); exact rfl) | ((with_reducible refine Gd_skipF ?_ ?_); exact rfl))
    refine U_indexS E rfl rfl rfl rfl (by omega) (by omega) (by rw [Int.toNat_natCast, Nat.zero_add]) rfl ?_
    refine U_loadA E (hseg) rfl rfl rfl (by rw [encW_len, hln]) rfl ?_
    refine U_alloc E rfl rfl rfl ?_
    intro b5 w5 hn5
    repeat (first | (with_reducible first | apply T_seq | apply T_region | apply U_nil | apply T_skip | apply T_block | apply T_inBlock | apply Cnd_t | apply Cnd_f | apply Cnd_not | apply Cnd_some | apply Cnd_none | apply Gd_nt | apply Gd_nf | apply Gd_some | apply Gd_none | apply Gd_want) | refine U_ar rfl rfl rfl (wrap_i64 (by omega)) rfl ?_ | refine U_pure E rfl rfl ?_ | refine T_exit rfl ?_ | refine T_condV rfl ?_ | refine U_guard rfl rfl ?_ | ((with_reducible refine Gd_skipT ?_ ?_); exact rfl) | ((with_reducible refine Gd_skipF ?_ ?_); exact rfl))
    refine U_storeA E (hn5.blk) rfl rfl rfl (by rw [encW_len, hln]) (zw_fit) (encW_one _) ?_
    intro w6 hu6
    have hb5 := hu6.blk
    rw [show 257 = (encW D.wait[i]).length by rw [encW_len, hln], splice_all _ _ (by rw [encW_len, hln, zw_len])] at hb5
    have hb5n := hn5.at_
    have hk46 : Kept none0 w4 w6 := hn5.kept.tr hu6.kept (fun j hj (e : j = b5) => by omega)
    have hk6 : Kept none0 w w6 := hk4.tr hk46 (fun _ _ x => x)
    have hh6 := hh4.mv hk46 (fun x => x)
    have hbg6 := hbg4.mv hk46 (fun x => x)
    have hb96 := hb94.mv hk46 (fun x => x)
    have hp6 := hp.mv hk6 (fun _ _ _ x => x)
    have hsz4 := hk.size
    repeat (first | (with_reducible first | apply T_seq | apply T_region | apply U_nil | apply T_skip | apply T_block | apply T_inBlock | apply Cnd_t | apply Cnd_f | apply Cnd_not | apply Cnd_some | apply Cnd_none | apply Gd_nt | apply Gd_nf | apply Gd_some | apply Gd_none | apply Gd_want) | refine U_ar rfl rfl rfl (wrap_i64 (by omega)) rfl ?_ | refine U_pure E rfl rfl ?_ | refine T_exit rfl ?_ | refine T_condV rfl ?_ | refine U_guard rfl rfl ?_ | ((with_reducible refine Gd_skipT ?_ ?_); exact rfl) | ((with_reducible refine Gd_skipF ?_ ?_); exact rfl))
    refine Gd_p (fun hkk => ?_) (fun hkk => ?_)
    · have hik : i < keep.length := by omega
      repeat (first | (with_reducible first | apply T_seq | apply T_region | apply U_nil | apply T_skip | apply T_block | apply T_inBlock | apply Cnd_t | apply Cnd_f | apply Cnd_not | apply Cnd_some | apply Cnd_none | apply Gd_nt | apply Gd_nf | apply Gd_some | apply Gd_none | apply Gd_want) | refine U_ar rfl rfl rfl (wrap_i64 (by omega)) rfl ?_ | refine U_pure E rfl rfl ?_ | refine T_exit rfl ?_ | refine T_condV rfl ?_ | refine U_guard rfl rfl ?_ | ((with_reducible refine Gd_skipT ?_ ?_); exact rfl) | ((with_reducible refine Gd_skipF ?_ ?_); exact rfl))
      refine U_idx E (hp6) rfl rfl rfl rfl (by omega) (by omega) ((show (encBools keep)[(i : Int).toNat]? = some (.bool keep[i]) by rw [Int.toNat_natCast]; simp [encBools, hik])) rfl (fun q hq => ?_)
      repeat (first | (with_reducible first | apply T_seq | apply T_region | apply U_nil | apply T_skip | apply T_block | apply T_inBlock | apply Cnd_t | apply Cnd_f | apply Cnd_not | apply Cnd_some | apply Cnd_none | apply Gd_nt | apply Gd_nf | apply Gd_some | apply Gd_none | apply Gd_want) | refine U_ar rfl rfl rfl (wrap_i64 (by omega)) rfl ?_ | refine U_pure E rfl rfl ?_ | refine T_exit rfl ?_ | refine T_condV rfl ?_ | refine U_guard rfl rfl ?_ | ((with_reducible refine Gd_skipT ?_ ?_); exact rfl) | ((with_reducible refine Gd_skipF ?_ ?_); exact rfl))
      refine U_load E rfl rfl rfl hq rfl ?_
      repeat (first | (with_reducible first | apply T_seq | apply T_region | apply U_nil | apply T_skip | apply T_block | apply T_inBlock | apply Cnd_t | apply Cnd_f | apply Cnd_not | apply Cnd_some | apply Cnd_none | apply Gd_nt | apply Gd_nf | apply Gd_some | apply Gd_none | apply Gd_want) | refine U_ar rfl rfl rfl (wrap_i64 (by omega)) rfl ?_ | refine U_pure E rfl rfl ?_ | refine T_exit rfl ?_ | refine T_condV rfl ?_ | refine U_guard rfl rfl ?_ | ((with_reducible refine Gd_skipT ?_ ?_); exact rfl) | ((with_reducible refine Gd_skipF ?_ ?_); exact rfl))
      refine Cnd_b (fun hkb => ?_) (fun hkb => ?_)
      · have hki : keep[i]? = some true := by rw [List.getElem?_eq_getElem hik, hkb]
        have hsn1 : fgo keep D.l (D.wait.take (i + 1)) = ⟨st.l.set D.wait[i].1 D.wait[i].2, i, st.l.getD D.wait[i].1 []⟩ := by rw [hsn, fstep, if_pos hki]
        have hatl : D.wait[i].1 < st.l.length := by rw [ok.len]; exact hat
        have hsegs := encSegs ok.secs
        have hfl := flat_len (sz := 256) _ hsegs
        have hold : st.l.getD D.wait[i].1 [] = st.l[D.wait[i].1] := by rw [List.getD_eq_getElem?_getD, List.getElem?_eq_getElem hatl, Option.getD_some]
        have hol := ok.secs _ (List.getElem_mem hatl)
        repeat (first | (with_reducible first | apply T_seq | apply T_region | apply U_nil | apply T_skip | apply T_block | apply T_inBlock | apply Cnd_t | apply Cnd_f | apply Cnd_not | apply Cnd_some | apply Cnd_none | apply Gd_nt | apply Gd_nf | apply Gd_some | apply Gd_none | apply Gd_want) | refine U_ar rfl rfl rfl (wrap_i64 (by omega)) rfl ?_ | refine U_pure E rfl rfl ?_ | refine T_exit rfl ?_ | refine T_condV rfl ?_ | refine U_guard rfl rfl ?_ | ((with_reducible refine Gd_skipT ?_ ?_); exact rfl) | ((with_reducible refine Gd_skipF ?_ ?_); exact rfl))
        refine T_tail 10 (by kernel_rfl) (by kernel_rfl) (fun w7 hd7 => ?_); simp only [List.take_succ_cons, List.take_zero, List.drop_succ_cons, List.drop_zero]; (repeat (first | refine V_ar rfl rfl rfl (wrap_i64 (by omega)) rfl ?_ | refine V_pure E rfl rfl ?_ | refine V_guard rfl rfl ?_ | with_reducible refine GdV_want ?_ | ((with_reducible refine GdV_skipT ?_ ?_); exact rfl) | ((with_reducible refine GdV_skipF ?_ ?_); exact rfl)))
        have hh7 := hh6.mv (hd7.kept none0) (fun x => x)
        have hbg7 := hbg6.mv (hd7.kept none0) (fun x => x)
        have hb97 := hb96.mv (hd7.kept none0) (fun x => x)
        have hb57 := hb5.mv (hd7.kept none0) (fun x => x)
        refine V_loadB E (by first | exact fun _ h => h.heap | (intro _ h; subst h; rfl)) (by assumption) rfl rfl rfl (by rfl) rfl ?_
        repeat (first | refine V_ar rfl rfl rfl (wrap_i64 (by omega)) rfl ?_ | refine V_pure E rfl rfl ?_ | refine V_guard rfl rfl ?_ | with_reducible refine GdV_want ?_ | ((with_reducible refine GdV_skipT ?_ ?_); exact rfl) | ((with_reducible refine GdV_skipF ?_ ?_); exact rfl))
        refine V_loadB E (by first | exact fun _ h => h.heap | (intro _ h; subst h; rfl)) (by assumption) rfl rfl rfl (by rfl) rfl ?_
        repeat (first | refine V_ar rfl rfl rfl (wrap_i64 (by omega)) rfl ?_ | refine V_pure E rfl rfl ?_ | refine V_guard rfl rfl ?_ | with_reducible refine GdV_want ?_ | ((with_reducible refine GdV_skipT ?_ ?_); exact rfl) | ((with_reducible refine GdV_skipF ?_ ?_); exact rfl))
        refine V_indexS E rfl rfl rfl rfl (by omega) (by omega) (by rw [Int.toNat_natCast, Nat.zero_add]) rfl ?_
        have hsg : Seg w7 g (D.wait[i].1 * 256) (encBs st.l[D.wait[i].1]) := by
          have := hbg7.seg (D.wait[i].1 * 256) 256
          rw [flat_part (sz := 256) _ _ hsegs (by simpa using hatl)] at this
          simpa using this
        refine V_loadA E (by first | exact fun _ h => h.heap | (intro _ h; subst h; rfl)) (hsg) rfl rfl rfl (by rw [encBs_len, hol]) rfl ?_
        repeat (first | refine V_ar rfl rfl rfl (wrap_i64 (by omega)) rfl ?_ | refine V_pure E rfl rfl ?_ | refine V_guard rfl rfl ?_ | with_reducible refine GdV_want ?_ | ((with_reducible refine GdV_skipT ?_ ?_); exact rfl) | ((with_reducible refine GdV_skipF ?_ ?_); exact rfl))
        refine V_nilT ?_
        refine U_storeA E (hb97) rfl rfl rfl (by rw [encBs_len, hol]) (by rw [encBs_len, ok.old]; exact Nat.le_refl 256) (encBs_one _) ?_
        intro w8 hu8
        have hb98 := hu8.blk
        rw [show 256 = (encBs st.l[D.wait[i].1]).length by rw [encBs_len, hol], splice_all _ _ (by rw [encBs_len, encBs_len, hol, ok.old])] at hb98
        have hne9 : ∀ j, j = b9 → j ≠ g := fun j e e2 => by omega
        have hh8 := hh7.mv hu8.kept (fun (e : ho = b9) => by omega)
        have hbg8 := hbg7.mv hu8.kept (fun (e : g = b9) => by omega)
        have hb58 := hb57.mv hu8.kept (fun (e : b5 = b9) => by omega)
        repeat (first | (with_reducible first | apply T_seq | apply T_region | apply U_nil | apply T_skip | apply T_block | apply T_inBlock | apply Cnd_t | apply Cnd_f | apply Cnd_not | apply Cnd_some | apply Cnd_none | apply Gd_nt | apply Gd_nf | apply Gd_some | apply Gd_none | apply Gd_want) | refine U_ar rfl rfl rfl (wrap_i64 (by omega)) rfl ?_ | refine U_pure E rfl rfl ?_ | refine T_exit rfl ?_ | refine T_condV rfl ?_ | refine U_guard rfl rfl ?_ | ((with_reducible refine Gd_skipT ?_ ?_); exact rfl) | ((with_reducible refine Gd_skipF ?_ ?_); exact rfl))
        refine T_tail 9 (by kernel_rfl) (by kernel_rfl) (fun w9 hd9 => ?_); simp only [List.take_succ_cons, List.take_zero, List.drop_succ_cons, List.drop_zero]; (repeat (first | refine V_ar rfl rfl rfl (wrap_i64 (by omega)) rfl ?_ | refine V_pure E rfl rfl ?_ | refine V_guard rfl rfl ?_ | with_reducible refine GdV_want ?_ | ((with_reducible refine GdV_skipT ?_ ?_); exact rfl) | ((with_reducible refine GdV_skipF ?_ ?_); exact rfl)))
        have hh9 := hh8.mv (hd9.kept none0) (fun x => x)
        have hbg9 := hbg8.mv (hd9.kept none0) (fun x => x)
        have hb99 := hb98.mv (hd9.kept none0) (fun x => x)
        have hb59 := hb58.mv (hd9.kept none0) (fun x => x)
        refine V_loadB E (by first | exact fun _ h => h.heap | (intro _ h; subst h; rfl)) (by assumption) rfl rfl rfl (by rfl) rfl ?_
        repeat (first | refine V_ar rfl rfl rfl (wrap_i64 (by omega)) rfl ?_ | refine V_pure E rfl rfl ?_ | refine V_guard rfl rfl ?_ | with_reducible refine GdV_want ?_ | ((with_reducible refine GdV_skipT ?_ ?_); exact rfl) | ((with_reducible refine GdV_skipF ?_ ?_); exact rfl))
        refine V_loadB E (by first | exact fun _ h => h.heap | (intro _ h; subst h; rfl)) (by assumption) rfl rfl rfl (by rfl) rfl ?_
        repeat (first | refine V_ar rfl rfl rfl (wrap_i64 (by omega)) rfl ?_ | refine V_pure E rfl rfl ?_ | refine V_guard rfl rfl ?_ | with_reducible refine GdV_want ?_ | ((with_reducible refine GdV_skipT ?_ ?_); exact rfl) | ((with_reducible refine GdV_skipF ?_ ?_); exact rfl))
        have hs5 : Seg w9 b5 1 (encBs D.wait[i].2) := by
          have := hb59.whole.drop 1
          simpa [encW] using this
        refine V_loadA E (by first | exact fun _ h => h.heap | (intro _ h; subst h; rfl)) (hs5) rfl rfl rfl (by rw [encBs_len, hln]) rfl ?_
        refine V_indexS E rfl rfl rfl rfl (by omega) (by omega) (by rw [Int.toNat_natCast, Nat.zero_add]) rfl ?_
        refine V_nilT ?_
        have hfit : D.wait[i].1 * 256 + 256 ≤ ((st.l.map encBs).flatten ++ pad).length := by
          have : (D.wait[i].1 + 1) * 256 ≤ st.l.length * 256 := Nat.mul_le_mul_right _ hatl
          rw [List.length_append, hfl, List.length_map]
          omega
        refine U_storeA E (hbg9) rfl rfl rfl (by rw [encBs_len, hln]) (hfit) (encBs_one _) ?_
        intro w10 hu10
        have hbg10 := hu10.blk
        rw [flat_set (sz := 256) _ _ _ hsegs (by simpa using hatl), ← List.map_set] at hbg10
        have hb910 := hb99.mv hu10.kept (fun (e : b9 = g) => by omega)
        repeat (first | (with_reducible first | apply T_seq | apply T_region | apply U_nil | apply T_skip | apply T_block | apply T_inBlock | apply Cnd_t | apply Cnd_f | apply Cnd_not | apply Cnd_some | apply Cnd_none | apply Gd_nt | apply Gd_nf | apply Gd_some | apply Gd_none | apply Gd_want) | refine U_ar rfl rfl rfl (wrap_i64 (by omega)) rfl ?_ | refine U_pure E rfl rfl ?_ | refine T_exit rfl ?_ | refine T_condV rfl ?_ | refine U_guard rfl rfl ?_ | ((with_reducible refine Gd_skipT ?_ ?_); exact rfl) | ((with_reducible refine Gd_skipF ?_ ?_); exact rfl))
        refine T.less ?_ (ih (i + 1, w10) ?_ ?_)
        · dsimp only
          rw [hsn1]
          exact ⟨rfl, rfl, rfl, rfl, rfl, rfl, rfl, rfl, rfl, trivial⟩
        · dsimp only
          rw [hsn1]
          refine ⟨hlt', ?_, hbg10, by dsimp only; rw [hold]; exact hb910⟩
          have hk6a : Kept (fun b => b = g ∨ b = b9) w3 w6 := hk.tr hk46 (fun _ _ x => x.elim)
          exact (((hk6a.tr (hd7.kept none0) (fun _ _ x => x.elim)).tr hu8.kept (fun j _ e => .inr e)).tr (hd9.kept none0) (fun _ _ x => x.elim)).tr hu10.kept (fun j _ e => .inl e)
        · dsimp only
          omega
      · have hki : ¬ keep[i]? = some true := by rw [List.getElem?_eq_getElem hik, hkb]; simp
        have hsn1 : fgo keep D.l (D.wait.take (i + 1)) = st := by rw [hsn, fstep, if_neg hki]
        repeat (first | (with_reducible first | apply T_seq | apply T_region | apply U_nil | apply T_skip | apply T_block | apply T_inBlock | apply Cnd_t | apply Cnd_f | apply Cnd_not | apply Cnd_some | apply Cnd_none | apply Gd_nt | apply Gd_nf | apply Gd_some | apply Gd_none | apply Gd_want) | refine U_ar rfl rfl rfl (wrap_i64 (by omega)) rfl ?_ | refine U_pure E rfl rfl ?_ | refine T_exit rfl ?_ | refine T_condV rfl ?_ | refine U_guard rfl rfl ?_ | ((with_reducible refine Gd_skipT ?_ ?_); exact rfl) | ((with_reducible refine Gd_skipF ?_ ?_); exact rfl))
        refine T.less ?_ (ih (i + 1, w6) ?_ ?_)
        · dsimp only
          rw [hsn1]
          exact ⟨rfl, rfl, rfl, rfl, rfl, rfl, rfl, rfl, rfl, trivial⟩
        · dsimp only
          rw [hsn1]
          exact ⟨hlt', hk.tr hk46 (fun _ _ x => x.elim), hbg6, hb96⟩
        · dsimp only
          omega
    · have hki : ¬ keep[i]? = some true := by rw [List.getElem?_eq_none (by omega)]; simp
      have hsn1 : fgo keep D.l (D.wait.take (i + 1)) = st := by rw [hsn, fstep, if_neg hki]
      repeat (first | (with_reducible first | apply T_seq | apply T_region | apply U_nil | apply T_skip | apply T_block | apply T_inBlock | apply Cnd_t | apply Cnd_f | apply Cnd_not | apply Cnd_some | apply Cnd_none | apply Gd_nt | apply Gd_nf | apply Gd_some | apply Gd_none | apply Gd_want) | refine U_ar rfl rfl rfl (wrap_i64 (by omega)) rfl ?_ | refine U_pure E rfl rfl ?_ | refine T_exit rfl ?_ | refine T_condV rfl ?_ | refine U_guard rfl rfl ?_ | ((with_reducible refine Gd_skipT ?_ ?_); exact rfl) | ((with_reducible refine Gd_skipF ?_ ?_); exact rfl))
      refine T.less ?_ (ih (i + 1, w6) ?_ ?_)
      · dsimp only
        rw [hsn1]
        exact ⟨rfl, rfl, rfl, rfl, rfl, rfl, rfl, rfl, rfl, trivial⟩
      · dsimp only
        rw [hsn1]
        exact ⟨hlt', hk.tr hk46 (fun _ _ x => x.elim), hbg6, hb96⟩
      · dsimp only
        omega
  · have hiE : i = D.wait.length := by omega
    subst hiE
    rw [List.take_length] at hst
    have fin : ∀ (w' : World) (l' : List (List UInt8)), l'.length = D.l.length → (∀ x ∈ l', x.length = 256) → Kept none0 w w' → Blk w' ho [.slice (some ⟨g, 0, none⟩) D.l.length cap, .slice none 0 0, .int .i64 (-1)] 58 → Blk w' g ((l'.map encBs).flatten ++ pad) 73 → IsD w' (fresh w) ho ⟨l', [], -1⟩ := by
      intro w' l' e1 e2 _ e3 e4
      refine ⟨⟨by dsimp only; omega, by dsimp only; omega, e2, fun p hp => (by cases hp), Nat.zero_le _, Int.le_refl _, by dsimp only; omega⟩, _, _, ?_, e3, ?_, Row.nil _ _ _ _⟩
      · simp only [fresh]; omega
      · refine ⟨?_, .inr ⟨g, cap, pad, by dsimp only; rw [e1], ⟨hg, by omega⟩, e4, ?_, by dsimp only; omega⟩⟩
        · rw [flat_len (sz := 256) _ (encSegs e2), List.length_map]
        · rw [List.length_append, flat_len (sz := 256) _ (encSegs e2), List.length_map, e1, ← hgl, List.length_append, flat_len (sz := 256) _ (encSegs h0.secs), List.length_map]
    have same : ¬ (0 ≤ st.last ∧ 0 ≤ torn ∧ torn < 256) → drFall D keep torn = ⟨st.l, [], -1⟩ := by
      intro hno
      simp only [drFall, hst]
      rw [if_neg hno]
    repeat (first | (with_reducible first | apply T_seq | apply T_region | apply U_nil | apply T_skip | apply T_block | apply T_inBlock | apply Cnd_t | apply Cnd_f | apply Cnd_not | apply Cnd_some | apply Cnd_none | apply Gd_nt | apply Gd_nf | apply Gd_some | apply Gd_none | apply Gd_want) | refine U_ar rfl rfl rfl (wrap_i64 (by omega)) rfl ?_ | refine U_pure E rfl rfl ?_ | refine T_exit rfl ?_ | refine T_condV rfl ?_ | refine U_guard rfl rfl ?_ | ((with_reducible refine Gd_skipT ?_ ?_); exact rfl) | ((with_reducible refine Gd_skipF ?_ ?_); exact rfl))
    refine Gd_p (fun hz1 => ?_) (fun hz1 => ?_)
    · repeat (first | (with_reducible first | apply T_seq | apply T_region | apply U_nil | apply T_skip | apply T_block | apply T_inBlock | apply Cnd_t | apply Cnd_f | apply Cnd_not | apply Cnd_some | apply Cnd_none | apply Gd_nt | apply Gd_nf | apply Gd_some | apply Gd_none | apply Gd_want) | refine U_ar rfl rfl rfl (wrap_i64 (by omega)) rfl ?_ | refine U_pure E rfl rfl ?_ | refine T_exit rfl ?_ | refine T_condV rfl ?_ | refine U_guard rfl rfl ?_ | ((with_reducible refine Gd_skipT ?_ ?_); exact rfl) | ((with_reducible refine Gd_skipF ?_ ?_); exact rfl))
      refine Gd_p (fun hz2 => ?_) (fun hz2 => ?_)
      · repeat (first | (with_reducible first | apply T_seq | apply T_region | apply U_nil | apply T_skip | apply T_block | apply T_inBlock | apply Cnd_t | apply Cnd_f | apply Cnd_not | apply Cnd_some | apply Cnd_none | apply Gd_nt | apply Gd_nf | apply Gd_some | apply Gd_none | apply Gd_want) | refine U_ar rfl rfl rfl (wrap_i64 (by omega)) rfl ?_ | refine U_pure E rfl rfl ?_ | refine T_exit rfl ?_ | refine T_condV rfl ?_ | refine U_guard rfl rfl ?_ | ((with_reducible refine Gd_skipT ?_ ?_); exact rfl) | ((with_reducible refine Gd_skipF ?_ ?_); exact rfl))
        refine Cnd_p (fun hz3 => ?_) (fun hz3 => ?_)
        · obtain ⟨tn, rfl⟩ := Int.eq_ofNat_of_zero_le hz2
          obtain ⟨lst, hls⟩ := Int.eq_ofNat_of_zero_le hz1
          have hlst : lst < D.wait.length := by omega
          obtain ⟨gw, rfl, hgw, hseg⟩ := wait_seg hws h44 rfl hlst
          have hat := (h0.waits _ (List.getElem_mem hlst)).1
          have hatl : D.wait[lst].1 < st.l.length := by rw [ok.len]; exact hat
          have hsegs := encSegs ok.secs
          have hfl := flat_len (sz := 256) _ hsegs
          have hol := ok.secs _ (List.getElem_mem hatl)
          have hoo := ok.old
          rw [hls]
          repeat (first | (with_reducible first | apply T_seq | apply T_region | apply U_nil | apply T_skip | apply T_block | apply T_inBlock | apply Cnd_t | apply Cnd_f | apply Cnd_not | apply Cnd_some | apply Cnd_none | apply Gd_nt | apply Gd_nf | apply Gd_some | apply Gd_none | apply Gd_want) | refine U_ar rfl rfl rfl (wrap_i64 (by omega)) rfl ?_ | refine U_pure E rfl rfl ?_ | refine T_exit rfl ?_ | refine T_condV rfl ?_ | refine U_guard rfl rfl ?_ | ((with_reducible refine Gd_skipT ?_ ?_); exact rfl) | ((with_reducible refine Gd_skipF ?_ ?_); exact rfl))
          refine T_tail 17 (by kernel_rfl) (by kernel_rfl) (fun w7 hd7 => ?_); simp only [List.take_succ_cons, List.take_zero, List.drop_succ_cons, List.drop_zero]; (repeat (first | refine V_ar rfl rfl rfl (wrap_i64 (by omega)) rfl ?_ | refine V_pure E rfl rfl ?_ | refine V_guard rfl rfl ?_ | with_reducible refine GdV_want ?_ | ((with_reducible refine GdV_skipT ?_ ?_); exact rfl) | ((with_reducible refine GdV_skipF ?_ ?_); exact rfl)))
          have hh7 := hh4.mv (hd7.kept none0) (fun x => x)
          have hbg7 := hbg4.mv (hd7.kept none0) (fun x => x)
          have hb97 := hb94.mv (hd7.kept none0) (fun x => x)
          have h27 := h24.mv (hd7.kept none0) (fun x => x)
          have hseg7 := hseg.mv (hd7.kept none0) (fun x => x)
          refine V_loadB E (by first | exact fun _ h => h.heap | (intro _ h; subst h; rfl)) (by assumption) rfl rfl rfl (by rfl) rfl ?_
          repeat (first | refine V_ar rfl rfl rfl (wrap_i64 (by omega)) rfl ?_ | refine V_pure E rfl rfl ?_ | refine V_guard rfl rfl ?_ | with_reducible refine GdV_want ?_ | ((with_reducible refine GdV_skipT ?_ ?_); exact rfl) | ((with_reducible refine GdV_skipF ?_ ?_); exact rfl))
          refine V_loadB E (by first | exact fun _ h => h.heap | (intro _ h; subst h; rfl)) (by assumption) rfl rfl rfl (by rfl) rfl ?_
          repeat (first | refine V_ar rfl rfl rfl (wrap_i64 (by omega)) rfl ?_ | refine V_pure E rfl rfl ?_ | refine V_guard rfl rfl ?_ | with_reducible refine GdV_want ?_ | ((with_reducible refine GdV_skipT ?_ ?_); exact rfl) | ((with_reducible refine GdV_skipF ?_ ?_); exact rfl))
          refine V_indexS E rfl rfl rfl rfl (by omega) (by omega) (by rw [Int.toNat_natCast, Nat.zero_add]) rfl ?_
          repeat (first | refine V_ar rfl rfl rfl (wrap_i64 (by omega)) rfl ?_ | refine V_pure E rfl rfl ?_ | refine V_guard rfl rfl ?_ | with_reducible refine GdV_want ?_ | ((with_reducible refine GdV_skipT ?_ ?_); exact rfl) | ((with_reducible refine GdV_skipF ?_ ?_); exact rfl))
          have hcell : w7.cell? ⟨gw, lst * 257 + 0, none⟩ = some (.int .i64 D.wait[lst].1) := hseg7 0 _ rfl
          refine V_load E rfl rfl rfl (fun w' hw' => (by first | (rw [hw'.cell]; exact hcell) | (subst hw'; exact hcell))) rfl ?_
          repeat (first | refine V_ar rfl rfl rfl (wrap_i64 (by omega)) rfl ?_ | refine V_pure E rfl rfl ?_ | refine V_guard rfl rfl ?_ | with_reducible refine GdV_want ?_ | ((with_reducible refine GdV_skipT ?_ ?_); exact rfl) | ((with_reducible refine GdV_skipF ?_ ?_); exact rfl))
          refine V_indexS E rfl rfl rfl rfl (by omega) (by omega) (by rw [Int.toNat_natCast, Nat.zero_add]) rfl ?_
          repeat (first | refine V_ar rfl rfl rfl (wrap_i64 (by omega)) rfl ?_ | refine V_pure E rfl rfl ?_ | refine V_guard rfl rfl ?_ | with_reducible refine GdV_want ?_ | ((with_reducible refine GdV_skipT ?_ ?_); exact rfl) | ((with_reducible refine GdV_skipF ?_ ?_); exact rfl))
          refine V_run rfl rfl rfl (fun a ha w' _ => ro_sliceArrFrom (s := 1) (l := tn) E rfl rfl rfl rfl (by omega) a ha) ?_
          repeat (first | refine V_ar rfl rfl rfl (wrap_i64 (by omega)) rfl ?_ | refine V_pure E rfl rfl ?_ | refine V_guard rfl rfl ?_ | with_reducible refine GdV_want ?_ | ((with_reducible refine GdV_skipT ?_ ?_); exact rfl) | ((with_reducible refine GdV_skipF ?_ ?_); exact rfl))
          refine V_run rfl rfl rfl (fun a ha w' _ => ro_sliceArrFrom (s := 1) (l := tn) E rfl rfl rfl rfl (by omega) a ha) ?_
          refine V_nilT ?_
          simp only [Nat.mul_one, Nat.zero_add]
          have hsrc : Sl w7 (fun _ => True) (.slice (some ⟨b9, tn, none⟩) (256 - tn) (256 - tn)) 1 (256 - tn) (encBs (st.old.drop tn)) := by
            refine ⟨by omega, by rw [encBs_len, List.length_drop, hoo, Nat.mul_one], _, _, rfl, Nat.le_refl _, .inr ⟨b9, tn, rfl, trivial, hb97.lt, ?_⟩⟩
            have := hb97.whole.drop tn
            rw [Nat.zero_add] at this
            rw [encBs, List.map_drop]
            exact this
          have hxl : (encBs (st.old.drop tn)).length = 256 - tn := by rw [encBs_len, List.length_drop, hoo]
          refine U_copy E hbg7 hsrc (encBs_one _) rfl rfl rfl rfl ?_ rfl ?_
          · have : (D.wait[lst].1 + 1) * 256 ≤ st.l.length * 256 := Nat.mul_le_mul_right _ hatl
            rw [List.length_append, hfl, List.length_map]
            omega
          intro w8 hu8
          have hbg8 := hu8.blk
          rw [List.take_of_length_le (l := encBs (st.old.drop tn)) (by omega), flat_sub (sz := 256) _ _ _ _ hsegs (by simpa using hatl) (by omega)] at hbg8
          have hse : (List.map encBs st.l)[D.wait[lst].1]'(by simpa using hatl) = encBs st.l[D.wait[lst].1] := by simp
          have hsm : (encBs st.l[D.wait[lst].1]).take tn ++ encBs (st.old.drop tn) = encBs (st.l[D.wait[lst].1].take tn ++ st.old.drop tn) := by
            simp [encBs]
          rw [hse, hsm, ← List.map_set] at hbg8
          have hh8 := hh7.mv hu8.kept (fun (e : ho = g) => by omega)
          have hk8 : Kept none0 w w8 := (hk4.tr (hd7.kept none0) (fun _ _ x => x)).tr hu8.kept (fun j hj (e : j = g) => by omega)
          repeat (first | (with_reducible first | apply T_seq | apply T_region | apply U_nil | apply T_skip | apply T_block | apply T_inBlock | apply Cnd_t | apply Cnd_f | apply Cnd_not | apply Cnd_some | apply Cnd_none | apply Gd_nt | apply Gd_nf | apply Gd_some | apply Gd_none | apply Gd_want) | refine U_ar rfl rfl rfl (wrap_i64 (by omega)) rfl ?_ | refine U_pure E rfl rfl ?_ | refine T_exit rfl ?_ | refine T_condV rfl ?_ | refine U_guard rfl rfl ?_ | ((with_reducible refine Gd_skipT ?_ ?_); exact rfl) | ((with_reducible refine Gd_skipF ?_ ?_); exact rfl))
          refine T_ret1 Tryz.func13 rfl rfl ⟨_, rfl, hk8, ho, rfl, ?_⟩
          have hdf : drFall D keep (tn : Int) = ⟨st.l.set D.wait[lst].1 (st.l[D.wait[lst].1].take tn ++ st.old.drop tn), [], -1⟩ := by
            simp only [drFall, hst]
            rw [if_pos (by omega), hls, Int.toNat_natCast, Int.toNat_natCast, List.getD_eq_getElem?_getD (l := D.wait), List.getElem?_eq_getElem hlst, Option.getD_some, List.getD_eq_getElem?_getD, List.getElem?_eq_getElem hatl, Option.getD_some]
          rw [hdf]
          refine fin _ _ (by rw [List.length_set, ok.len]) (fun x hx => ?_) hk8 hh8 hbg8
          rcases List.mem_or_eq_of_mem_set hx with h1 | h1
          · exact ok.secs x h1
          · rw [h1, List.length_append, List.length_take, List.length_drop, hol, hoo]
            omega
        · repeat (first | (with_reducible first | apply T_seq | apply T_region | apply U_nil | apply T_skip | apply T_block | apply T_inBlock | apply Cnd_t | apply Cnd_f | apply Cnd_not | apply Cnd_some | apply Cnd_none | apply Gd_nt | apply Gd_nf | apply Gd_some | apply Gd_none | apply Gd_want) | refine U_ar rfl rfl rfl (wrap_i64 (by omega)) rfl ?_ | refine U_pure E rfl rfl ?_ | refine T_exit rfl ?_ | refine T_condV rfl ?_ | refine U_guard rfl rfl ?_ | ((with_reducible refine Gd_skipT ?_ ?_); exact rfl) | ((with_reducible refine Gd_skipF ?_ ?_); exact rfl))
          refine T_ret1 Tryz.func13 rfl rfl ⟨_, rfl, hk4, ho, rfl, ?_⟩
          rw [same (by omega)]
          exact fin _ _ ok.len ok.secs hk4 hh4 hbg4
      · repeat (first | (with_reducible first | apply T_seq | apply T_region | apply U_nil | apply T_skip | apply T_block | apply T_inBlock | apply Cnd_t | apply Cnd_f | apply Cnd_not | apply Cnd_some | apply Cnd_none | apply Gd_nt | apply Gd_nf | apply Gd_some | apply Gd_none | apply Gd_want) | refine U_ar rfl rfl rfl (wrap_i64 (by omega)) rfl ?_ | refine U_pure E rfl rfl ?_ | refine T_exit rfl ?_ | refine T_condV rfl ?_ | refine U_guard rfl rfl ?_ | ((with_reducible refine Gd_skipT ?_ ?_); exact rfl) | ((with_reducible refine Gd_skipF ?_ ?_); exact rfl))
        refine T_ret1 Tryz.func13 rfl rfl ⟨_, rfl, hk4, ho, rfl, ?_⟩
        rw [same (by omega)]
        exact fin _ _ ok.len ok.secs hk4 hh4 hbg4
    · repeat (first | (with_reducible first | apply T_seq | apply T_region | apply U_nil | apply T_skip | apply T_block | apply T_inBlock | apply Cnd_t | apply Cnd_f | apply Cnd_not | apply Cnd_some | apply Cnd_none | apply Gd_nt | apply Gd_nf | apply Gd_some | apply Gd_none | apply Gd_want) | refine U_ar rfl rfl rfl (wrap_i64 (by omega)) rfl ?_ | refine U_pure E rfl rfl ?_ | refine T_exit rfl ?_ | refine T_condV rfl ?_ | refine U_guard rfl rfl ?_ | ((with_reducible refine Gd_skipT ?_ ?_); exact rfl) | ((with_reducible refine Gd_skipF ?_ ?_); exact rfl))
      refine T_ret1 Tryz.func13 rfl rfl ⟨_, rfl, hk4, ho, rfl, ?_⟩
      rw [same (by omega)]
      exact fin _ _ ok.len ok.secs hk4 hh4 hbg4
end Go.Proofs.YtoefhdaenaiomaaGreatDoor

/- A row's arguments, opened: byte and bool slices. -/
namespace Go.Proofs.YtoefhdaenaiomaaGreatDoor
open Go Go.ChangeShapes Go.WideShapes Go.RowKit Go.Deep
set_option maxRecDepth 20000

/-- Any old block. -/
def old (w : World) : Nat → Prop := fun b => b < w.heap.size

theorem has_lt {P : Program} {w : World} {r : Reach} {b0 : Nat} {a : Addr} {e : TypeId} {n : Nat} (h : w.has P r b0 a e n) : a.spot = none ∧ a.block < w.heap.size := by
  obtain ⟨_, h1, row, cells, h2, _⟩ := h
  refine ⟨h1, ?_⟩
  rcases Nat.lt_or_ge a.block w.heap.size with h | h
  · exact h
  · simp [World.shape?, Array.getElem?_eq_none h] at h2

theorem slice_has {P : Program} {w : World} {r : Reach} {b0 : Nat} {t e : TypeId} {a : Addr} {len cap : Nat} (ht : P.underlying t = some (.slice e)) (h : Value.okWide P w r b0 t (.slice (some a) len cap)) : a.spot = none ∧ a.block < w.heap.size := by
  simp only [Value.okWide, ht, Cell.okWide, Cell.ok] at h
  exact has_lt h.2.2

theorem cell_add (a : Addr) (h : a.spot = none) (i : Nat) : a.add i = ⟨a.block, a.off + i, none⟩ := by
  cases a with
  | mk b o s => simp only at h; subst h; exact addr_add b o i

theorem u8_wf {z : Int} (h : (Lit.int .u8 z).wf = true) : 0 ≤ z ∧ z < 256 := by
  simp [Lit.wf, IntKind.min, IntKind.max, IntKind.signed, IntKind.bits] at h
  omega
theorem encB_of {z : Int} (h : (Lit.int .u8 z).wf = true) : encB (UInt8.ofNat z.toNat) = .int .u8 z := by
  have := u8_wf h
  simp only [encB]
  congr 1
  rw [UInt8.toNat_ofNat']
  omega

section
variable {H : Type} {enc : TypeId × Value → H} {P : Program} {w : World} {base : Nat} {held : Bool} {sp : Nat → Bool} {r : Reach} {b0 : Nat} {t e : TypeId} {v : Value} {d : DataW H} {ps : List MemPlace}

theorem open_bytes (ht : P.underlying t = some (.slice e)) (he : P.underlying e = some (.int .u8)) (hc : P.cellsOf e = 1) (hval : Value.okWide P w r b0 t v) (hd : DataW.Trod enc P w base sp held t v d ps) : ∃ l : List UInt8, BS w (old w) v l := by
  obtain ⟨A, n, c, rfl⟩ := okWide_slice ht hval
  obtain ⟨fuel, hf⟩ := hd
  rcases open_ints ht he hc hf with ⟨h1, _⟩ | ⟨a, len, cap, zs, h1, _, hl, hm, hz, _, hcell, hw⟩
  · simp only [Value.cells, List.cons.injEq, Value.slice.injEq, and_true] at h1
    obtain ⟨rfl, rfl, rfl⟩ := h1
    exact ⟨[], by decide, rfl, none, 0, rfl, Nat.le_refl _, .inl rfl⟩
  · simp only [Value.cells, List.cons.injEq, Value.slice.injEq, and_true] at h1
    obtain ⟨rfl, rfl, rfl⟩ := h1
    obtain ⟨h2, h3⟩ := slice_has ht hval
    have hle : n ≤ zs.length := by rw [hz]; split <;> omega
    refine ⟨(zs.take n).map fun z => UInt8.ofNat z.toNat, ?_⟩
    have hln : ((zs.take n).map fun z => UInt8.ofNat z.toNat).length = n := by simp; omega
    refine ⟨by rw [hln]; unfold maxLen at hm; omega, by rw [encBs_len, Nat.mul_one], some a, c, by rw [hln], by rw [hln]; exact hl, .inr ⟨a.block, a.off, by cases a; simp only at h2; rw [h2], h3, h3, ?_⟩⟩
    intro j u hj
    rw [encBs, List.map_map, List.getElem?_map] at hj
    cases hq : (zs.take n)[j]? with
    | none => rw [hq] at hj; cases hj
    | some z =>
      rw [hq, Option.map_some] at hj
      injection hj with hj
      subst hj
      have hjz : zs[j]? = some z := by
        rw [List.getElem?_take] at hq
        split at hq
        · exact hq
        · cases hq
      have hlt := (List.getElem?_eq_some_iff.1 hjz).1
      have h4 := hcell j hlt
      rw [cell_add a h2, List.getD_eq_getElem?_getD, hjz, Option.getD_some] at h4
      rw [h4]
      exact congrArg some (encB_of (hw z (List.mem_of_getElem? hjz))).symm

theorem open_bits (ht : P.underlying t = some (.slice e)) (he : P.underlying e = some .bool) (hc : P.cellsOf e = 1) (hval : Value.okWide P w r b0 t v) (hd : DataW.Trod enc P w base (fun _ => true) held t v d ps) : ∃ l : List Bool, Sl w (old w) v 1 l.length (encBools l) := by
  obtain ⟨A, n, c, rfl⟩ := okWide_slice ht hval
  obtain ⟨fuel, hf⟩ := hd
  rcases open_bools ht he hc hf with ⟨h1, _⟩ | ⟨a, len, cap, B, h1, _, hl, hm, _, hcell⟩
  · simp only [Value.cells, List.cons.injEq, Value.slice.injEq, and_true] at h1
    obtain ⟨rfl, rfl, rfl⟩ := h1
    exact ⟨[], by decide, rfl, none, 0, rfl, Nat.le_refl _, .inl rfl⟩
  · simp only [Value.cells, List.cons.injEq, Value.slice.injEq, and_true] at h1
    obtain ⟨rfl, rfl, rfl⟩ := h1
    obtain ⟨h2, h3⟩ := slice_has ht hval
    have hln : ((List.range n).map B).length = n := by simp
    refine ⟨(List.range n).map B, by rw [hln]; unfold maxLen at hm; omega, by simp [encBools], some a, c, by rw [hln], by rw [hln]; exact hl, .inr ⟨a.block, a.off, by cases a; simp only at h2; rw [h2], h3, h3, ?_⟩⟩
    intro j u hj
    simp only [encBools, List.map_map, List.getElem?_map] at hj
    cases hq : (List.range n)[j]? with
    | none => rw [hq] at hj; cases hj
    | some z =>
      rw [hq, Option.map_some] at hj
      injection hj with hj
      subst hj
      obtain ⟨hlt, hz⟩ := List.getElem?_eq_some_iff.1 hq
      simp only [List.length_range] at hlt
      simp only [List.getElem_range] at hz
      subst hz
      have h4 := hcell j (by omega)
      rw [cell_add a h2] at h4
      exact h4
end

/-! ### The row's end: what the arguments read as stands in old blocks. -/
section
variable {H : Type} {enc : TypeId × Value → H} {P : Program}

theorem trodAll_stays (hl : laidOutB P = true) {W W' : World} {sp : Nat → Bool} (hb : Below W.heap.size W W') :
    ∀ {ts : List TypeId} {vs : List Value} {ds : List (DataW H)} {p : List MemPlace}, ts.all (fun t => P.readableRec t && decide (t < P.types.size)) = true → (∀ x ∈ p, x.block < W.heap.size) → (∀ x ∈ p, sp x.block = true) →
      DataW.TrodAll enc P W 0 (fun _ => true) true ts vs ds p → DataW.TrodAll enc P W' 0 sp true ts vs ds p
  | [], [], [], _, _, _, _, h => h
  | t :: ts, v :: vs, d :: ds, p, ht, hlt, hsp, h => by
    obtain ⟨a, b, h1, h2, rfl⟩ := h
    simp only [List.all_cons, Bool.and_eq_true, decide_eq_true_eq] at ht
    exact ⟨a, b, WideElems.Trod_stays hl ht.1.1 ht.1.2 h1 (fun x hx => hb.same (hlt x (by simp [hx]))) (fun x hx => hsp x (by simp [hx])),
      trodAll_stays hl hb ht.2 (fun x hx => hlt x (by simp [hx])) (fun x hx => hsp x (by simp [hx])) h2, rfl⟩

theorem post_true {f : Func} {s : ChangeSpec} {apart fresh handsOn again : Bool} {W W' : World} {args : Array Value} {ds gs : List (DataW H)} {before : List MemPlace} {tb : TypeId}
    (hl : laidOutB P = true) (hts : f.params.toList.all (fun t => P.readableRec t && decide (t < P.types.size)) = true) (hr : f.resultTypes = #[tb]) (htb : P.underlying tb = some .bool)
    (hW : DataW.Whole enc P f.params.toList s.vars apart W args.toList ds gs before) (hv : s.vars = []) (hs : (s.fn H (ds ++ gs)).results = [.lit (.bool true)]) (ha : (s.fn H (ds ++ gs)).args = ds) (hg : (s.fn H (ds ++ gs)).vars = [])
    (hb : Below W.heap.size W W') : s.post enc P f apart fresh handsOn again W args (.bool true) W' := by
  have hlt := hW.lt
  have hW0 := hW
  obtain ⟨p, q, hA, hV, rfl, hz, hn⟩ := hW
  rw [hv] at hV
  obtain ⟨rfl, rfl⟩ := trodVars_none hV
  rw [List.append_nil] at hlt hz hn
  have hlt' : ∀ x ∈ p, x.block < W.heap.size := fun x hx => by simpa using hlt x hx
  have hres : ∀ (b : Nat) (sp : Nat → Bool) (hd : Bool), DataW.TrodAll enc P W' b sp hd f.resultTypes.toList ((Value.bool true).resultList f.resultTypes.size) (s.fn H (ds ++ [])).results [] := by
    intro b sp hd
    rw [hs, hr]
    exact trodAll_cons_mk (shut_bool htb true) trodAll_mk0
  have hargs : ∀ sp : Nat → Bool, (∀ x ∈ p, sp x.block = true) → DataW.TrodAll enc P W' 0 sp true f.params.toList args.toList (s.fn H (ds ++ [])).args p := fun sp hsp => by
    rw [ha]
    exact trodAll_stays hl hb hts hlt' hsp hA
  have hvars : ∀ sp : Nat → Bool, DataW.TrodVars enc P W' sp s.vars (s.fn H (ds ++ [])).vars [] := fun sp => by
    rw [hg, hv]
    rfl
  refine ⟨ds, [], p ++ [], [], p, [], hW0, hres _ _ _, hargs _ (fun x hx => by simpa using hlt x hx), hvars _, hb.frame _, fun _ => ?_⟩
  refine ⟨ok_one hr rfl (okWide_bool_mk htb true), _, _, ([] ++ p) ++ [], ⟨[] ++ p, [], trodAll_append (hargs _ (fun _ _ => rfl)) (hres _ _ _), hvars _, rfl, ?_, ?_⟩, ?_⟩
  · intro b off hp
    have hp' : MemPlace.cell b off ∈ p := by simpa using hp
    have h1 := hz b off hp'
    rw [hb.frozen (p := ⟨b, off, none⟩) (hlt' _ hp')]
    exact h1
  · intro h
    simpa using hn h
  · intro x hx _
    simpa using hx
end
end Go.Proofs.YtoefhdaenaiomaaGreatDoor

/- A row's arguments, opened: slices of byte slices. -/
namespace Go.Proofs.YtoefhdaenaiomaaGreatDoor
open Go Go.ChangeShapes Go.WideShapes Go.RowKit Go.Deep
set_option maxRecDepth 20000

theorem cell_spot {w : World} {a : Addr} {v : Value} (h : w.cell? a = some v) : a.spot = none ∧ a.block < w.heap.size := by
  refine ⟨?_, World.block_lt_of_cell? w a h⟩
  cases hs : a.spot with
  | none => rfl
  | some x =>
    unfold World.cell? at h
    split at h
    · simp [hs] at h
    · cases h

section
variable {H : Type} {enc : TypeId × Value → H} {P : Program} {w : World} {base : Nat} {held : Bool} {r : Reach} {b0 : Nat} {t e q : TypeId} {v : Value} {d : DataW H} {ps : List MemPlace}

theorem row_bytes {A : Option Addr} {L C : Nat} {Z : List Int} (hl : L ≤ C) (hm : C ≤ maxLen) (hz : Z.length = C) (hw : ∀ n ∈ Z, (Lit.int .u8 n).wf = true) (hn : A = none → C = 0) (hc : ∀ a', A = some a' → ∀ c, c < C → w.cell? (a'.add c) = some (.int .u8 (Z.getD c 0))) :
    BS w (old w) (.slice A L C) ((Z.take L).map fun z => UInt8.ofNat z.toNat) := by
  have hln : ((Z.take L).map fun z => UInt8.ofNat z.toNat).length = L := by simp; omega
  unfold BS
  rw [hln]
  refine ⟨by unfold maxLen at hm; omega, by rw [encBs_len, hln, Nat.mul_one], A, C, rfl, hl, ?_⟩
  by_cases h0 : L = 0
  · exact .inl h0
  · right
    cases A with
    | none => have := hn rfl; omega
    | some a =>
      have h1 := hc a rfl 0 (by omega)
      rw [show a.add 0 = a from rfl] at h1
      obtain ⟨h2, h3⟩ := cell_spot h1
      refine ⟨a.block, a.off, by cases a; simp only at h2; rw [h2], h3, h3, ?_⟩
      intro j u hj
      rw [encBs, List.map_map, List.getElem?_map] at hj
      cases hq : (Z.take L)[j]? with
      | none => rw [hq] at hj; cases hj
      | some z =>
        rw [hq, Option.map_some] at hj
        injection hj with hj
        subst hj
        have hjz : Z[j]? = some z := by
          rw [List.getElem?_take] at hq
          split at hq
          · exact hq
          · cases hq
        have hlt := (List.getElem?_eq_some_iff.1 hjz).1
        have h4 := hc a rfl j (by omega)
        rw [cell_add a h2, List.getD_eq_getElem?_getD, hjz, Option.getD_some] at h4
        rw [h4]
        exact congrArg some (encB_of (hw z (List.mem_of_getElem? hjz))).symm

theorem open_rows (ht : P.underlying t = some (.slice e)) (he : P.underlying e = some (.slice q)) (hq : P.underlying q = some (.int .u8)) (ce : P.cellsOf e = 1) (cq : P.cellsOf q = 1) (hval : Value.okWide P w r b0 t v) (hd : DataW.Trod enc P w base (fun _ => true) held t v d ps) :
    ∃ (vs : List Value) (ls : List (List UInt8)), vs.length = ls.length ∧ Sl w (old w) v 1 vs.length vs ∧ ∀ (i : Nat) u l, vs[i]? = some u → ls[i]? = some l → BS w (old w) u l := by
  obtain ⟨A, n, c, rfl⟩ := okWide_slice ht hval
  obtain ⟨fuel, hf⟩ := hd
  rcases open_int_rows ht he hq ce cq hf with ⟨h1, _⟩ | ⟨a, len, cap, A', L, C, Z, h1, _, hl, hm, _, hr⟩
  · simp only [Value.cells, List.cons.injEq, Value.slice.injEq, and_true] at h1
    obtain ⟨rfl, rfl, rfl⟩ := h1
    exact ⟨[], [], rfl, ⟨by decide, rfl, none, 0, rfl, Nat.le_refl _, .inl rfl⟩, fun i u l h => by simp at h⟩
  · simp only [Value.cells, List.cons.injEq, Value.slice.injEq, and_true] at h1
    obtain ⟨rfl, rfl, rfl⟩ := h1
    obtain ⟨h2, h3⟩ := slice_has ht hval
    refine ⟨(List.range n).map fun i => .slice (A' i) (L i) (C i), (List.range n).map fun i => ((Z i).take (L i)).map fun z => UInt8.ofNat z.toNat, by simp, ?_, ?_⟩
    · have hln : ((List.range n).map fun i => Value.slice (A' i) (L i) (C i)).length = n := by simp
      rw [hln]
      refine ⟨by unfold maxLen at hm; omega, by rw [hln, Nat.mul_one], some a, c, rfl, hl, .inr ⟨a.block, a.off, by cases a; simp only at h2; rw [h2], h3, h3, ?_⟩⟩
      intro j u hj
      rw [List.getElem?_map] at hj
      cases hq : (List.range n)[j]? with
      | none => rw [hq] at hj; cases hj
      | some z =>
        rw [hq, Option.map_some] at hj
        injection hj with hj
        subst hj
        obtain ⟨hlt, hz⟩ := List.getElem?_eq_some_iff.1 hq
        simp only [List.length_range] at hlt
        simp only [List.getElem_range] at hz
        subst hz
        have h4 := (hr j (by omega)).1
        rw [cell_add a h2] at h4
        exact h4
    · intro i u l hu hl'
      rw [List.getElem?_map] at hu hl'
      cases hq : (List.range n)[i]? with
      | none => rw [hq] at hu; cases hu
      | some z =>
        rw [hq, Option.map_some] at hu hl'
        injection hu with hu
        injection hl' with hl'
        subst hu
        subst hl'
        obtain ⟨hlt, hz⟩ := List.getElem?_eq_some_iff.1 hq
        simp only [List.length_range] at hlt
        simp only [List.getElem_range] at hz
        subst hz
        obtain ⟨_, g1, g2, g3, g4, g5, g6⟩ := hr i (by omega)
        exact row_bytes g1 g2 g3 g4 g5 (fun a' e => (g6 a' e).2)
end
end Go.Proofs.YtoefhdaenaiomaaGreatDoor

/- A row's arguments, opened: slices of structs of six cells. -/
namespace Go.Proofs.YtoefhdaenaiomaaGreatDoor
open Go Go.ChangeShapes Go.WideShapes Go.RowKit Go.Deep
set_option maxRecDepth 20000

section
variable {H : Type} {enc : TypeId × Value → H} {P : Program} {w : World} {base : Nat} {held : Bool} {r : Reach} {b0 : Nat} {t e q : TypeId} {v : Value} {d : DataW H} {ps : List MemPlace}

theorem trod_bytes {fuel : Nat} {x : DataW H × List MemPlace} (ht : P.underlying t = some (.slice e)) (he : P.underlying e = some (.int .u8)) (hc : P.cellsOf e = 1) (h : DataW.trod enc P w base (fun _ => true) held fuel t [v] = some x) : ∃ l : List UInt8, BS w (old w) v l := by
  rcases open_ints ht he hc h with ⟨h1, _⟩ | ⟨a, len, cap, zs, h1, _, hl, hm, hz, _, hcell, hw⟩
  · injection h1 with h1
    subst h1
    exact ⟨[], by decide, rfl, none, 0, rfl, Nat.le_refl _, .inl rfl⟩
  · injection h1 with h1
    subst h1
    simp only [if_true] at hz
    exact ⟨_, row_bytes hl hm hz hw (fun h => by cases h) (fun a' e c hc => by
      injection e with e
      subst e
      exact hcell c (by omega))⟩

theorem trod_bits {fuel : Nat} {x : DataW H × List MemPlace} (ht : P.underlying t = some (.slice e)) (he : P.underlying e = some .bool) (hc : P.cellsOf e = 1) (h : DataW.trod enc P w base (fun _ => true) held fuel t [v] = some x) : ∃ l : List Bool, Sl w (old w) v 1 l.length (encBools l) := by
  rcases open_bools ht he hc h with ⟨h1, _⟩ | ⟨a, len, cap, B, h1, _, hl, hm, _, hcell⟩
  · injection h1 with h1
    subst h1
    exact ⟨[], by decide, rfl, none, 0, rfl, Nat.le_refl _, .inl rfl⟩
  · injection h1 with h1
    subst h1
    have hln : ((List.range len).map B).length = len := by simp
    refine ⟨(List.range len).map B, by rw [hln]; unfold maxLen at hm; omega, by simp [encBools], some a, cap, by rw [hln], by rw [hln]; exact hl, ?_⟩
    rw [hln]
    by_cases h0 : len = 0
    · exact .inl h0
    · right
      have h1 := hcell 0 (by omega)
      rw [show a.add 0 = a from rfl] at h1
      obtain ⟨h2, h3⟩ := cell_spot h1
      refine ⟨a.block, a.off, by cases a; simp only at h2; rw [h2], h3, h3, ?_⟩
      intro j u hj
      simp only [encBools, List.map_map, List.getElem?_map] at hj
      cases hq : (List.range len)[j]? with
      | none => rw [hq] at hj; cases hj
      | some z =>
        rw [hq, Option.map_some] at hj
        injection hj with hj
        subst hj
        obtain ⟨hlt, hz⟩ := List.getElem?_eq_some_iff.1 hq
        simp only [List.length_range] at hlt
        simp only [List.getElem_range] at hz
        subst hz
        have h4 := hcell j (by omega)
        rw [cell_add a h2] at h4
        exact h4

theorem trod_six {f0 f1 f2 f3 f4 f5 : Field} {fuel : Nat} {cs : List Value} {x : DataW H × List MemPlace} (ht : P.underlying t = some (.struct #[f0, f1, f2, f3, f4, f5])) (hc : P.cellsOf t = 6)
    (o0 : f0.offset = 0) (o1 : f1.offset = 1) (o2 : f2.offset = 2) (o3 : f3.offset = 3) (o4 : f4.offset = 4) (o5 : f5.offset = 5)
    (c0 : P.cellsOf f0.type = 1) (c1 : P.cellsOf f1.type = 1) (c2 : P.cellsOf f2.type = 1) (c3 : P.cellsOf f3.type = 1) (c4 : P.cellsOf f4.type = 1) (c5 : P.cellsOf f5.type = 1)
    (h : DataW.trod enc P w base (fun _ => true) held fuel t cs = some x) :
    ∃ v0 v1 v2 v3 v4 v5 n y0 y1 y2 y3 y4 y5, cs = [v0, v1, v2, v3, v4, v5] ∧ DataW.trod enc P w base (fun _ => true) held n f0.type [v0] = some y0 ∧ DataW.trod enc P w base (fun _ => true) held n f1.type [v1] = some y1 ∧ DataW.trod enc P w base (fun _ => true) held n f2.type [v2] = some y2 ∧
      DataW.trod enc P w base (fun _ => true) held n f3.type [v3] = some y3 ∧ DataW.trod enc P w base (fun _ => true) held n f4.type [v4] = some y4 ∧ DataW.trod enc P w base (fun _ => true) held n f5.type [v5] = some y5 := by
  obtain ⟨xs, n, _, rfl, hl, hlen, hf⟩ := DataW.trod_struct ht h
  rw [hc] at hl
  match cs, hl, xs, hlen with
  | [v0, v1, v2, v3, v4, v5], _, [y0, y1, y2, y3, y4, y5], _ =>
    have g0 := hf 0 f0 rfl
    have g1 := hf 1 f1 rfl
    have g2 := hf 2 f2 rfl
    have g3 := hf 3 f3 rfl
    have g4 := hf 4 f4 rfl
    have g5 := hf 5 f5 rfl
    rw [o0, c0] at g0
    rw [o1, c1] at g1
    rw [o2, c2] at g2
    rw [o3, c3] at g3
    rw [o4, c4] at g4
    rw [o5, c5] at g5
    exact ⟨v0, v1, v2, v3, v4, v5, n, y0, y1, y2, y3, y4, y5, rfl, g0, g1, g2, g3, g4, g5⟩

theorem flat_at {α : Type} {f : α → List Value} (hf : ∀ a, (f a).length = 6) : ∀ (l : List α) (j : Nat), (l.flatMap f)[j]? = (l[j / 6]?).bind fun a => (f a)[j % 6]?
  | [], j => by simp
  | a :: l, j => by
    rw [List.flatMap_cons, List.getElem?_append, hf]
    by_cases h : j < 6
    · rw [if_pos h, Nat.div_eq_of_lt h, Nat.mod_eq_of_lt h]
      rfl
    · rw [if_neg h, flat_at hf l (j - 6)]
      rw [show j / 6 = (j - 6) / 6 + 1 by omega, show j % 6 = (j - 6) % 6 by omega, List.getElem?_cons_succ]

theorem open_six {α : Type} [Inhabited α] (f : α → List Value) (ok : α → Prop) (hf : ∀ a, (f a).length = 6) (ht : P.underlying t = some (.slice e)) (hc : P.cellsOf e = 6) (hval : Value.okWide P w r b0 t v) (hd : DataW.Trod enc P w base (fun _ => true) held t v d ps)
    (he : ∀ n cs x, DataW.trod enc P w base (fun _ => true) held n e cs = some x → ∃ a, cs = f a ∧ ok a) : ∃ l : List α, Sl w (old w) v 6 l.length (l.flatMap f) ∧ ∀ a ∈ l, ok a := by
  obtain ⟨A, n, c, rfl⟩ := okWide_slice ht hval
  obtain ⟨fuel, h⟩ := hd
  rcases open_slice ht h with ⟨h1, _⟩ | ⟨a, len, cap, m, k, D, Pl, h1, hb, hl, hm, hmm, _, hx⟩
  · simp only [Value.cells, List.cons.injEq, Value.slice.injEq, and_true] at h1
    obtain ⟨rfl, rfl, rfl⟩ := h1
    exact ⟨[], ⟨Nat.zero_le _, rfl, none, 0, rfl, Nat.le_refl _, .inl rfl⟩, fun a h => by simp at h⟩
  · simp only [Value.cells, List.cons.injEq, Value.slice.injEq, and_true] at h1
    obtain ⟨rfl, rfl, rfl⟩ := h1
    simp only [if_true] at hmm
    subst hmm
    obtain ⟨h2, h3⟩ := slice_has ht hval
    have each : ∀ i, i < n → ∃ y : α, (∀ j, j < 6 → w.cell? ⟨a.block, a.off + (i * 6 + j), none⟩ = (f y)[j]?) ∧ ok y := by
      intro i hi
      obtain ⟨cs', g1, g2⟩ := hx i (by omega)
      obtain ⟨y, rfl, hy⟩ := he _ _ _ g2
      rw [hc] at g1
      obtain ⟨_, _, g3⟩ := World.cells?_some g1
      refine ⟨y, fun j hj => ?_, hy⟩
      have := g3 j (by omega)
      rw [cell_add a h2, addr_add, Nat.add_assoc] at this
      exact this
    obtain ⟨y, hy⟩ := choose_lt each
    have hln : ((List.range n).map y).length = n := by simp
    refine ⟨(List.range n).map y, ⟨by rw [hln]; unfold maxLen at hm; omega, ?_, some a, _, by rw [hln], by rw [hln]; exact hl, .inr ⟨a.block, a.off, by cases a; simp only at h2; rw [h2], h3, h3, ?_⟩⟩, fun b hb' => ?_⟩
    · have key : ∀ l : List α, (l.flatMap f).length = l.length * 6 := by
        intro l
        induction l with
        | nil => rfl
        | cons a l ih => rw [List.flatMap_cons, List.length_append, hf, ih, List.length_cons]; omega
      exact key _
    · intro j u hj
      rw [flat_at hf] at hj
      cases hq : ((List.range n).map y)[j / 6]? with
      | none => rw [hq] at hj; cases hj
      | some z =>
        rw [hq] at hj
        have hz := hq
        rw [List.getElem?_map] at hz
        cases hr : (List.range n)[j / 6]? with
        | none => rw [hr] at hz; cases hz
        | some i =>
          rw [hr] at hz
          injection hz with hz
          obtain ⟨hlt, hi⟩ := List.getElem?_eq_some_iff.1 hr
          simp only [List.length_range] at hlt
          simp only [List.getElem_range] at hi
          have := (hy (j / 6) hlt).1 (j % 6) (Nat.mod_lt _ (by decide))
          rw [show j / 6 * 6 + j % 6 = j by omega] at this
          rw [this]
          rw [hi, hz]
          exact hj
    · obtain ⟨i, hi, rfl⟩ := List.mem_map.1 hb'
      exact (hy i (List.mem_range.1 hi)).2
end
end Go.Proofs.YtoefhdaenaiomaaGreatDoor

/- errors.As at an *api.Errno: its own text, walked (after the kit's worked example of a pointer target). -/
namespace Go.Proofs.YtoefhdaenaiomaaGreatDoor
open Go.RowKit Go.Extern.Stop Go.Stop Go.Extern
set_option maxRecDepth 20000

/-- errors.As(nil, target). -/
theorem as_nil (t : Value) (w : World) :
    Calls Tryz.prog 34 #[.nilIface, t] w fun e w' => e = .returned (.bool false) ∧ w' = w := by
  go_enter Tryz.func34, Tryz.ntmps34
  go_wp2
  go_ret
  exact ⟨rfl, rfl⟩

/-! ### CLOSED FACTS ON THE MODEL's ENTRIES FOR internal/reflectlite, at this program's types: 25: *p.E · 27: **p.E · 23: error · 45: reflectlite's rtype · 1: how many package-level variables the dump has -/
theorem asvalueOf27 (t : Addr) (w : World) : (ReflectliteValue.unpack (.iface 70 (.pointer (some t)))).run Tryz.prog w
    = .ok (.agg #[.pointer (some ⟨3, 70, none⟩), .pointer (some ⟨w.heap.size, 0, none⟩), .int .u64 150]) (w.alloc (.cells #[.pointer (some t)] 70)) := by kernel_rfl
theorem astype27 (a : Addr) (w : World) : (ReflectliteValue.methodAny (ReflectliteValue.valueError "reflectlite.Value.Type" 0) (fun t _ _ _ => ReflectliteType.toType t) #[.agg #[.pointer (some ⟨3, 70, none⟩), .pointer (some a), .int .u64 150]]).run Tryz.prog w
    = .ok (.iface 114 (.agg #[.pointer (some ⟨3, 70, none⟩)])) w := by kernel_rfl
theorem asmethodKind (h : Value) (w : World) : (Go.method 274 114 (.agg #[h]) "Kind").run Tryz.prog w = .ok (101, h) w := by kernel_rfl
theorem askind27 (w : World) : ((ReflectliteType.abiMethod fun t => (fun a : Nat => Value.int IntKind.u8 (a : Int)) <$> Rtype.kind t) #[.pointer (some ⟨3, 70, none⟩)]).run Tryz.prog w = .ok (.int .u8 22) w := by kernel_rfl
theorem askind25 (w : World) : ((ReflectliteType.abiMethod fun t => (fun a : Nat => Value.int IntKind.u8 (a : Int)) <$> Rtype.kind t) #[.pointer (some ⟨3, 43, none⟩)]).run Tryz.prog w = .ok (.int .u8 2) w := by kernel_rfl

/-! ### THE ENTRIES THAT READ OR WRITE MEMORY: laws with a premise on the cell (after Derived/Lib/ReflectliteSlice.lean's manner: each unfolding a lemma of its own, by rfl) -/
theorem rlm (z : Sem Value) (f : TypeId → Addr → Nat → Nat → Sem Value) (v : Value) :
    ReflectliteValue.method z f #[v] = (do match ← ReflectliteValue.parts v with | none => z | some (t, a, fl) => f t a fl (fl % 32)) := rfl
theorem asparts27 (a : Addr) (w : World) : (ReflectliteValue.parts (.agg #[.pointer (some ⟨3, 70, none⟩), .pointer (some a), .int .u64 150])).run Tryz.prog w = .ok (some (70, a, 150)) w := by kernel_rfl
/-- (Value).IsNil at the Value of a **p.E that is not nil. -/
theorem asisNil27 (a p : Addr) (W : World) (ha : W.cell? a = some (.pointer (some p))) :
    (ReflectliteValue.method (ReflectliteValue.valueError "reflectlite.Value.IsNil" 0) ReflectliteValue.isNil #[.agg #[.pointer (some ⟨3, 70, none⟩), .pointer (some a), .int .u64 150]]).run Tryz.prog W = .ok (.bool false) W := by
  rw [rlm]
  simp only [Sem.run_bind, asparts27, Result.andThen]
  simp [ReflectliteValue.isNil, loadVar, isAgg, underlying, Tryz.underlying70, ha, Result.andThen]

theorem asmethodElem (h : Value) (w : World) : (Go.method 274 114 (.agg #[h]) "Elem").run Tryz.prog w = .ok (111, .agg #[h]) w := by kernel_rfl
theorem asmethodImplements (h : Value) (w : World) : (Go.method 274 114 (.agg #[h]) "Implements").run Tryz.prog w = .ok (112, .agg #[h]) w := by kernel_rfl
theorem asmethodAssignableTo (h : Value) (w : World) : (Go.method 274 114 (.agg #[h]) "AssignableTo").run Tryz.prog w = .ok (109, .agg #[h]) w := by kernel_rfl
theorem aselem27 (w : World) : (ReflectliteType.method ReflectliteType.elem #[.agg #[.pointer (some ⟨3, 70, none⟩)]]).run Tryz.prog w = .ok (.iface 114 (.agg #[.pointer (some ⟨3, 43, none⟩)])) w := by kernel_rfl
theorem asimplements25 (w : World) : (ReflectliteType.relation "Implements" ReflectliteType.implements_ #[.agg #[.pointer (some ⟨3, 43, none⟩)], .iface 114 (.agg #[.pointer (some ⟨3, 28, none⟩)])]).run Tryz.prog w = .ok (.bool true) w := by kernel_rfl
theorem astypeOf25 (v : Value) (w : World) : (ReflectliteType.typeOf #[.iface 43 v]).run Tryz.prog w = .ok (.iface 114 (.agg #[.pointer (some ⟨3, 43, none⟩)])) w := by kernel_rfl
theorem asassignable25 (w : World) : (ReflectliteType.relation "AssignableTo" ReflectliteType.assignableTo #[.agg #[.pointer (some ⟨3, 43, none⟩)], .iface 114 (.agg #[.pointer (some ⟨3, 43, none⟩)])]).run Tryz.prog w = .ok (.bool true) w := by kernel_rfl
theorem asvalueOf25 (e : Int) (w : World) : (ReflectliteValue.unpack (.iface 43 (.int .i64 e))).run Tryz.prog w
    = .ok (.agg #[.pointer (some ⟨3, 43, none⟩), .pointer (some ⟨w.heap.size, 0, none⟩), .int .u64 130]) (w.alloc (.cells #[.int .i64 e] 43)) := by kernel_rfl

theorem aselemOf27 (w : World) : (Rtype.elem? 70).run Tryz.prog w = .ok (some 43) w := by kernel_rfl
theorem asmk25 (p : Addr) (w : World) : (ReflectliteValue.mk 43 p ReflectliteValue.flagAddr).run Tryz.prog w = .ok (.agg #[.pointer (some ⟨3, 43, none⟩), .pointer (some p), .int .u64 386]) w := by kernel_rfl
/-- (Value).Elem at the Value of a **p.E that is not nil: the Value of the *p.E variable that it points to, addressable. -/
theorem aselemV27 (a p : Addr) (W : World) (ha : W.cell? a = some (.pointer (some p))) :
    (ReflectliteValue.method (ReflectliteValue.valueError "reflectlite.Value.Elem" 0) ReflectliteValue.elem #[.agg #[.pointer (some ⟨3, 70, none⟩), .pointer (some a), .int .u64 150]]).run Tryz.prog W
      = .ok (.agg #[.pointer (some ⟨3, 43, none⟩), .pointer (some p), .int .u64 386]) W := by
  rw [rlm]
  simp only [Sem.run_bind, asparts27, Result.andThen]
  simp [ReflectliteValue.elem, loadVar, isAgg, underlying, Tryz.underlying70, ha, Result.andThen, aselemOf27, asmk25]
theorem rls (v x : Value) : ReflectliteValue.set #[v, x] = (do
    let (some (dst, a, fl), some (src, b, _)) := (← ReflectliteValue.parts v, ← ReflectliteValue.parts x)
      | unsupported (.noEntry "extern/(internal/reflectlite.Value).Set.zeroValue")
    if fl / ReflectliteValue.flagAddr % 2 == 0 then unsupported (.noEntry "extern/(internal/reflectlite.Value).Set.unaddressable")
    let val ← loadVar src b
    if ← Rtype.directlyAssignable dst src then storeVar dst a val
    else if ← Rtype.implements dst src then
      if (← Rtype.kind src) == 20 then
        match val with
        | .nilIface => unsupported (.noEntry "extern/reflectlite: a nil value of one interface type handed on as a value of another")
        | _ => storeVar dst a val
      else storeVar dst a (.iface src val)
    else panicString ("reflectlite.Set: value of type " ++ (← Rtype.spelt src) ++ " is not assignable to type " ++ (← Rtype.spelt dst))
    pure (.tuple #[])) := rfl
theorem asparts25a (a : Addr) (w : World) : (ReflectliteValue.parts (.agg #[.pointer (some ⟨3, 43, none⟩), .pointer (some a), .int .u64 386])).run Tryz.prog w = .ok (some (43, a, 386)) w := by kernel_rfl
theorem asparts25 (a : Addr) (w : World) : (ReflectliteValue.parts (.agg #[.pointer (some ⟨3, 43, none⟩), .pointer (some a), .int .u64 130])).run Tryz.prog w = .ok (some (43, a, 130)) w := by kernel_rfl
theorem asdirect25 (w : World) : (Rtype.directlyAssignable 43 43).run Tryz.prog w = .ok true w := by kernel_rfl
theorem assize25 (w : World) : (sizeOf 43).run Tryz.prog w = .ok 1 w := by kernel_rfl
/-- (Value).Set: the *p.E variable at 'ta' gets what the Value's own variable 'b' holds. -/
theorem asset25 (ta b : Addr) (e : Int) (old : Value) (W : World) (hb : W.cell? b = some (.int .i64 e)) (ht : W.cell? ta = some old) (hf : W.frozen? ta = false) :
    (ReflectliteValue.set #[.agg #[.pointer (some ⟨3, 43, none⟩), .pointer (some ta), .int .u64 386], .agg #[.pointer (some ⟨3, 43, none⟩), .pointer (some b), .int .u64 130]]).run Tryz.prog W
      = .ok (.tuple #[]) (W.setCell ta (.int .i64 e)) := by
  rw [rls]
  simp only [Sem.run_bind, asparts25a, asparts25, Result.andThen]
  simp [ReflectliteValue.flagAddr, loadVar, isAgg, underlying, Tryz.underlying43, hb, Result.andThen, asdirect25, storeVar, Value.cells, storeCells, Addr.add]
  rw [run_store Tryz.prog W ta _ _ (by rfl)]
  simp [ht, hf]

set_option maxHeartbeats 4000000 in
theorem as_hit (e : Int) (t : Addr) (old : Value) (w : World) (hg : w.cell? ⟨0, 0, none⟩ = some (.iface 114 (.agg #[.pointer (some ⟨3, 28, none⟩)]))) (ht0 : w.cell? t = some old) (hf0 : w.frozen? t = false) :
    Calls Tryz.prog 34 #[.iface 43 (.int .i64 e), .iface 70 (.pointer (some t))] w fun ev w' => ev = .returned (.bool true) ∧ w' = ((((w.alloc (.cells #[.pointer (some t)] 70)).alloc (.cells #[.pointer (some ⟨3, 70, none⟩), .pointer (some ⟨w.heap.size, 0, none⟩), .int .u64 150] 88)).alloc (.cells #[.pointer (some ⟨3, 70, none⟩), .pointer (some ⟨w.heap.size, 0, none⟩), .int .u64 150] 88)).alloc (.cells #[.int .i64 e] 43)).setCell t (.int .i64 e) := by
  have h6 := @run_callFunc_extern Tryz.prog 46 _ (fun args => ReflectliteValue.unpack (args.getD 0 (.tuple #[]))) Tryz.func46 (by kernel_rfl) (by kernel_rfl) (by kernel_rfl) (by kernel_rfl)
  have h7 := @run_callFunc_extern Tryz.prog 47 _ (ReflectliteValue.methodAny (ReflectliteValue.valueError "reflectlite.Value.Type" 0) (fun t _ _ _ => ReflectliteType.toType t)) Tryz.func47 (by kernel_rfl) (by kernel_rfl) (by kernel_rfl) (by kernel_rfl)
  have h8 := @run_callFunc_extern Tryz.prog 48 _ (ReflectliteValue.method (ReflectliteValue.valueError "reflectlite.Value.IsNil" 0) ReflectliteValue.isNil) Tryz.func48 (by kernel_rfl) (by kernel_rfl) (by kernel_rfl) (by kernel_rfl)
  have h27 := @run_callFunc_extern Tryz.prog 101 _ (ReflectliteType.abiMethod fun t => do pure (.int .u8 (← Rtype.kind t))) Tryz.func101 (by kernel_rfl) (by kernel_rfl) (by kernel_rfl) (by kernel_rfl)
  have h37 := @run_callFunc_extern Tryz.prog 111 _ (ReflectliteType.method ReflectliteType.elem) Tryz.func111 (by kernel_rfl) (by kernel_rfl) (by kernel_rfl) (by kernel_rfl)
  have h38 := @run_callFunc_extern Tryz.prog 112 _ (ReflectliteType.relation "Implements" ReflectliteType.implements_) Tryz.func112 (by kernel_rfl) (by kernel_rfl) (by kernel_rfl) (by kernel_rfl)
  have h10 := @run_callFunc_extern Tryz.prog 63 _ ReflectliteType.typeOf Tryz.func63 (by kernel_rfl) (by kernel_rfl) (by kernel_rfl) (by kernel_rfl)
  have h35 := @run_callFunc_extern Tryz.prog 109 _ (ReflectliteType.relation "AssignableTo" ReflectliteType.assignableTo) Tryz.func109 (by kernel_rfl) (by kernel_rfl) (by kernel_rfl) (by kernel_rfl)
  have h11 := @run_callFunc_extern Tryz.prog 64 _ (ReflectliteValue.method (ReflectliteValue.valueError "reflectlite.Value.Elem" 0) ReflectliteValue.elem) Tryz.func64 (by kernel_rfl) (by kernel_rfl) (by kernel_rfl) (by kernel_rfl)
  have h12 := @run_callFunc_extern Tryz.prog 65 _ ReflectliteValue.set Tryz.func65 (by kernel_rfl) (by kernel_rfl) (by kernel_rfl) (by kernel_rfl)
  have tO := astypeOf25
  have mA := asmethodAssignableTo
  have a25 := asassignable25
  have v25 := asvalueOf25
  have f6 := asvalueOf27
  have f7 := astype27
  have mK := asmethodKind
  have mE := asmethodElem
  have mI := asmethodImplements
  have k27 := askind27
  have k25 := askind25
  have e27 := aselem27
  have i25 := asimplements25
  have n8 := asisNil27 ⟨w.heap.size, 0, none⟩ t ((w.alloc (.cells #[.pointer (some t)] 70)).alloc (.cells #[.pointer (some ⟨3, 70, none⟩), .pointer (some ⟨w.heap.size, 0, none⟩), .int .u64 150] 88)) (by simp)
  have hlt : 0 < w.heap.size := by
    rcases Nat.eq_zero_or_pos w.heap.size with h0 | h
    · simp [World.cell?, h0] at hg
    · exact h
  have hg2 : ((w.alloc (.cells #[.pointer (some t)] 70)).alloc (.cells #[.pointer (some ⟨3, 70, none⟩), .pointer (some ⟨w.heap.size, 0, none⟩), .int .u64 150] 88)).cell? ⟨0, 0, none⟩ = some (.iface 114 (.agg #[.pointer (some ⟨3, 28, none⟩)])) := by
    rw [World.cell?_alloc_lt _ _ ⟨0, 0, none⟩ (by simp), World.cell?_alloc_lt _ _ ⟨0, 0, none⟩ hlt]; exact hg
  have htl : t.block < w.heap.size := by
    rcases Nat.lt_or_ge t.block w.heap.size with h | h
    · exact h
    · simp [World.cell?, Array.getElem?_eq_none h] at ht0
  have el := aselemV27 ⟨w.heap.size, 0, none⟩ t (((w.alloc (.cells #[.pointer (some t)] 70)).alloc (.cells #[.pointer (some ⟨3, 70, none⟩), .pointer (some ⟨w.heap.size, 0, none⟩), .int .u64 150] 88)).alloc (.cells #[.pointer (some ⟨3, 70, none⟩), .pointer (some ⟨w.heap.size, 0, none⟩), .int .u64 150] 88)) (by rw [World.cell?_alloc_lt _ _ ⟨w.heap.size, 0, none⟩ (by simp; omega)]; simp)
  have st := asset25 t ⟨w.heap.size + 1 + 1 + 1, 0, none⟩ e old ((((w.alloc (.cells #[.pointer (some t)] 70)).alloc (.cells #[.pointer (some ⟨3, 70, none⟩), .pointer (some ⟨w.heap.size, 0, none⟩), .int .u64 150] 88)).alloc (.cells #[.pointer (some ⟨3, 70, none⟩), .pointer (some ⟨w.heap.size, 0, none⟩), .int .u64 150] 88)).alloc (.cells #[.int .i64 e] 43))
    (by rw [World.cell?_alloc_at _ _ _ _ (by simp)]; rfl)
    (by rw [World.cell?_alloc_lt _ _ t (by simp; omega), World.cell?_alloc_lt _ _ t (by simp; omega), World.cell?_alloc_lt _ _ t (by simp; omega), World.cell?_alloc_lt _ _ t htl]; exact ht0)
    (by rw [World.frozen?_alloc_old _ _ t (by simp; omega), World.frozen?_alloc_old _ _ t (by simp; omega), World.frozen?_alloc_old _ _ t (by simp; omega), World.frozen?_alloc_old _ _ t (Nat.ne_of_lt htl)]; exact hf0)
  go_enter Tryz.func34, Tryz.ntmps34
  go_wp2
  refine wp_loop_rounds 1 ?_
  rw [rounds_succ]
  go_wp2
  go_ret
  exact ⟨rfl, rfl⟩
end Go.Proofs.YtoefhdaenaiomaaGreatDoor

/- api.Code of an error number, of nil. -/
namespace Go.Proofs.YtoefhdaenaiomaaGreatDoor
open Go
set_option maxRecDepth 20000

/-- errors.errorType stands as the program's text lays it. -/
def Laid (w : World) : Prop := w.cell? ⟨0, 0, none⟩ = some (.iface 114 (.agg #[.pointer (some ⟨3, 28, none⟩)]))
theorem Laid.mv {F : Nat → Prop} {w w' : World} (h : Laid w) (k : Kept F w w') (hF : ¬ F 0) : Laid w' := by
  have hlt : 0 < w.heap.size := World.block_lt_of_cell? w ⟨0, 0, none⟩ h
  unfold Laid
  rw [World.cell?_of_block (w := w) (w' := w') (a := ⟨0, 0, none⟩) (k.same 0 hlt hF)]
  exact h
theorem Laid.lt {w : World} (h : Laid w) : 0 < w.heap.size := World.block_lt_of_cell? w ⟨0, 0, none⟩ h

theorem Upd.setCell {w : World} {b o : Nat} {cs : List Value} {t : TypeId} (h : Blk w b cs t) (v : Value) : Upd w (w.setCell ⟨b, o, none⟩ v) b (cs.set o v) t := by
  have hb : w.heap[b]? = some (.cells cs.toArray t (0, 0)) := h
  refine ⟨?_, ⟨rfl, rfl, rfl, by simp [World.setCell], fun i _ hn => ?_⟩, by simp [World.setCell]⟩
  · simp [Blk, World.setCell, Array.getElem?_modify, hb]
  · simp only [World.setCell, Array.getElem?_modify]
    rw [if_neg (fun e => hn e.symm)]

theorem as_c (w : World) (b : Nat) (old : Value) (k : Int) (hg : Laid w) (hb : Blk w b [old] 43) :
    Calls Tryz.prog 34 [.iface 43 (.int .i64 k), .iface 70 (.pointer (some ⟨b, 0, none⟩))].toArray w (Ret fun r w' => r = .bool true ∧ Kept (fun j => j = b) w w' ∧ Blk w' b [.int .i64 k] 43) := by
  have hbb : w.heap[b]? = some (.cells #[old] 43 (0, 0)) := hb
  refine (as_hit k ⟨b, 0, none⟩ old w hg (by rw [hb.cell]; rfl) (by simp [World.frozen?, hbb])).mono ?_
  rintro e w' ⟨rfl, rfl⟩
  refine ⟨_, rfl, rfl, ?_⟩
  have alloc : ∀ (u : World) (cs : Array Value) (t : TypeId), Kept none0 u (u.alloc (.cells cs t)) := fun u cs t => (New.alloc u cs.toList t).kept
  have hk : Kept none0 w ((((w.alloc (.cells #[.pointer (some ⟨b, 0, none⟩)] 70)).alloc (.cells #[.pointer (some ⟨3, 70, none⟩), .pointer (some ⟨w.heap.size, 0, none⟩), .int .u64 150] 88)).alloc (.cells #[.pointer (some ⟨3, 70, none⟩), .pointer (some ⟨w.heap.size, 0, none⟩), .int .u64 150] 88)).alloc (.cells #[.int .i64 k] 43)) :=
    (((alloc _ _ _).tr (alloc _ _ _) (fun _ _ x => x)).tr (alloc _ _ _) (fun _ _ x => x)).tr (alloc _ _ _) (fun _ _ x => x)
  have hu := Upd.setCell (o := 0) (hb.mv hk (fun x => x)) (.int .i64 k)
  exact ⟨hk.mono (fun _ _ x => x.elim) |>.tr hu.kept (fun _ _ x => x), hu.blk⟩

theorem code_nil (w : World) : Calls Tryz.prog 12 [.nilIface].toArray w (Ret fun r w' => r = .int .i64 0 ∧ w' = w) := by
  refine calls_T Tryz.func12 rfl rfl rfl ?_
  repeat (first | (with_reducible first | apply T_seq | apply T_region | apply U_nil | apply T_skip | apply T_block | apply T_inBlock | apply Cnd_t | apply Cnd_f | apply Cnd_not | apply Cnd_some | apply Cnd_none | apply Gd_nt | apply Gd_nf | apply Gd_some | apply Gd_none | apply Gd_want) | refine U_ar rfl rfl rfl (wrap_i64 (by omega)) rfl ?_ | refine U_pure E rfl rfl ?_ | refine T_exit rfl ?_ | refine T_condV rfl ?_ | refine U_guard rfl rfl ?_ | ((with_reducible refine Gd_skipT ?_ ?_); exact rfl) | ((with_reducible refine Gd_skipF ?_ ?_); exact rfl))
  exact T_ret1 Tryz.func12 rfl rfl ⟨_, rfl, rfl, rfl⟩

theorem code_err (w : World) (k : Int) (hg : Laid w) : Calls Tryz.prog 12 [.iface 43 (.int .i64 k)].toArray w (Ret fun r w' => r = .int .i64 k ∧ Kept none0 w w') := by
  refine calls_T Tryz.func12 rfl rfl rfl ?_
  repeat (first | (with_reducible first | apply T_seq | apply T_region | apply U_nil | apply T_skip | apply T_block | apply T_inBlock | apply Cnd_t | apply Cnd_f | apply Cnd_not | apply Cnd_some | apply Cnd_none | apply Gd_nt | apply Gd_nf | apply Gd_some | apply Gd_none | apply Gd_want) | refine U_ar rfl rfl rfl (wrap_i64 (by omega)) rfl ?_ | refine U_pure E rfl rfl ?_ | refine T_exit rfl ?_ | refine T_condV rfl ?_ | refine U_guard rfl rfl ?_ | ((with_reducible refine Gd_skipT ?_ ?_); exact rfl) | ((with_reducible refine Gd_skipF ?_ ?_); exact rfl))
  refine U_alloc E rfl rfl rfl ?_
  intro b w1 hn
  have hl := hg.lt
  have e1 := hn.at_
  repeat (first | (with_reducible first | apply T_seq | apply T_region | apply U_nil | apply T_skip | apply T_block | apply T_inBlock | apply Cnd_t | apply Cnd_f | apply Cnd_not | apply Cnd_some | apply Cnd_none | apply Gd_nt | apply Gd_nf | apply Gd_some | apply Gd_none | apply Gd_want) | refine U_ar rfl rfl rfl (wrap_i64 (by omega)) rfl ?_ | refine U_pure E rfl rfl ?_ | refine T_exit rfl ?_ | refine T_condV rfl ?_ | refine U_guard rfl rfl ?_ | ((with_reducible refine Gd_skipT ?_ ?_); exact rfl) | ((with_reducible refine Gd_skipF ?_ ?_); exact rfl))
  have hc := as_c w1 b (.int .i64 0) k (hg.mv hn.kept (fun x => x)) hn.blk
  refine U_call rfl rfl (Tryz.call34 _) (hc) ?_
  rintro r w2 ⟨rfl, hk2, hb2⟩
  have hk : Kept none0 w w2 := hn.kept.tr hk2 (fun j hj (e : j = b) => by omega)
  repeat (first | (with_reducible first | apply T_seq | apply T_region | apply U_nil | apply T_skip | apply T_block | apply T_inBlock | apply Cnd_t | apply Cnd_f | apply Cnd_not | apply Cnd_some | apply Cnd_none | apply Gd_nt | apply Gd_nf | apply Gd_some | apply Gd_none | apply Gd_want) | refine U_ar rfl rfl rfl (wrap_i64 (by omega)) rfl ?_ | refine U_pure E rfl rfl ?_ | refine T_exit rfl ?_ | refine T_condV rfl ?_ | refine U_guard rfl rfl ?_ | ((with_reducible refine Gd_skipT ?_ ?_); exact rfl) | ((with_reducible refine Gd_skipF ?_ ?_); exact rfl))
  refine U_loadB E hb2 rfl rfl rfl (by rfl) rfl ?_
  repeat (first | (with_reducible first | apply T_seq | apply T_region | apply U_nil | apply T_skip | apply T_block | apply T_inBlock | apply Cnd_t | apply Cnd_f | apply Cnd_not | apply Cnd_some | apply Cnd_none | apply Gd_nt | apply Gd_nf | apply Gd_some | apply Gd_none | apply Gd_want) | refine U_ar rfl rfl rfl (wrap_i64 (by omega)) rfl ?_ | refine U_pure E rfl rfl ?_ | refine T_exit rfl ?_ | refine T_condV rfl ?_ | refine U_guard rfl rfl ?_ | ((with_reducible refine Gd_skipT ?_ ?_); exact rfl) | ((with_reducible refine Gd_skipF ?_ ?_); exact rfl))
  exact T_ret1 Tryz.func12 rfl rfl ⟨_, rfl, rfl, hk⟩

/-- Code of what the drum's functions answer. -/
theorem code_c (w : World) (k : Nat) (hg : Laid w) : Calls Tryz.prog 12 [errV k].toArray w (Ret fun r w' => r = .int .i64 k ∧ Kept none0 w w') := by
  cases k with
  | zero =>
    refine (code_nil w).mono ?_
    rintro e w' ⟨r, rfl, rfl, rfl⟩
    exact ⟨_, rfl, rfl, Kept.refl _ _⟩
  | succ j => exact code_err w (j + 1 : Nat) hg
end Go.Proofs.YtoefhdaenaiomaaGreatDoor

/- What a row's listed variable gives a walk; a world that meets the condition. -/
namespace Go.Proofs.YtoefhdaenaiomaaGreatDoor
open Go Go.ChangeShapes Go.WideShapes Go.RowKit
set_option maxRecDepth 20000

theorem knob : ownKnob Tryz.prog.godebug = none := by kernel_rfl
theorem laidOut : laidOutB Tryz.prog = true := by kernel_rfl
theorem etAt : Tryz.prog.globalNamed "errors.errorType" = some 0 := by kernel_rfl
theorem rtAt : (Tryz.prog.cutTypes.find? (·.1 == "internal/reflectlite.rtype")).map (·.2) = some 114 := by kernel_rfl
theorem oneRow : ((List.range 174).filter fun t => Tryz.prog.rowNamed t [101, 114, 114, 111, 114]) = [28] := by kernel_rfl
theorem typesSize : Tryz.prog.types.size = 174 := by kernel_rfl

theorem handle_of_laid {W : World} (h : laidMetH Tryz.prog [("errors.errorType", Rows.laid_errors_errorType)] W) : Laid W := by
  have h' : laidMet Tryz.prog [] W ∧ handlesMet Tryz.prog [("errors.errorType", Rows.laid_errors_errorType)] W := h
  obtain ⟨name, u, ty, e1, e2, e3, e4, e5⟩ := h'.2 _ (List.mem_singleton.2 rfl)
  have en : name = [101, 114, 114, 111, 114] := (Option.some.inj e1).symm
  subst en
  obtain rfl := Option.some.inj (rtAt.symm.trans e2)
  have hm : ty ∈ (List.range 174).filter fun t => Tryz.prog.rowNamed t [101, 114, 114, 111, 114] := List.mem_filter.2 ⟨List.mem_range.2 (by rw [← typesSize]; exact e3), e4⟩
  rw [oneRow] at hm
  obtain rfl := List.mem_singleton.1 hm
  have hh : typeHandle Tryz.prog 28 = .pointer (some ⟨3, 28, none⟩) := by kernel_rfl
  rw [hh] at e5
  simpa [Laid] using World.var?_cell etAt e5 0

noncomputable def laidWorld (os : Os) : World :=
  let w0 := World.holding Tryz.prog os ⟨#[], #[], []⟩
  { w0 with heap := w0.heap.modify 0 fun
      | .cells _ t frozen => .cells #[.iface 114 (.agg #[.pointer (some ⟨3, 28, none⟩)])] t frozen
      | o => o }
theorem laidWorld_met (os : Os) (args : Array Value) : laidMetH Tryz.prog [("errors.errorType", Rows.laid_errors_errorType)] ((laidWorld os).forCall (fun _ _ => 0) ⟨#[], args, []⟩).memory :=
  laidMetH_of_parts (laidMet_nil _ _) (by kernel_rfl)
theorem u16_wf {z : Int} (h : (Lit.int .u16 z).wf = true) : 0 ≤ z ∧ z < 65536 := by
  simp [Lit.wf, IntKind.min, IntKind.max, IntKind.signed, IntKind.bits] at h
  omega
theorem u32_wf {z : Int} (h : (Lit.int .u32 z).wf = true) : 0 ≤ z ∧ z < 4294967296 := by
  simp [Lit.wf, IntKind.min, IntKind.max, IntKind.signed, IntKind.bits] at h
  omega
theorem int_wf {z : Int} (h : (Lit.int .i64 z).wf = true) : -9223372036854775808 ≤ z ∧ z ≤ 9223372036854775807 := by
  simp [Lit.wf, IntKind.min, IntKind.max, IntKind.signed, IntKind.bits] at h
  omega
end Go.Proofs.YtoefhdaenaiomaaGreatDoor

/- What the rows that list the pinned table ask of a world; worlds that meet it. -/
namespace Go.Proofs.YtoefhdaenaiomaaGreatDoor
open Go Go.ChangeShapes Go.WideShapes Go.RowKit
set_option maxRecDepth 20000

noncomputable def plainL : List (String × DataW Unit) := [("unicode/utf8.acceptRanges", Rows.laid_unicode_utf8_acceptRanges), ("unicode/utf8.first", Rows.laid_unicode_utf8_first)]

theorem laidMet_over {P : Program} {w0 : World} {l : List (String × DataW Unit)} (hf : w0.layFits P l [] = true) (hi : w0.layIfaces P l (w0.layVars P l) = true) : laidMet P l (w0.layVars P l) := by
  have e1 : (l.filter fun x => (l.map (·.1)).contains x.1) = l := List.filter_eq_self.2 fun x hx => List.contains_iff_mem.2 (List.mem_map.2 ⟨x, hx, rfl⟩)
  have e2 : (l.filter fun x => !(l.map (·.1)).contains x.1) = [] := List.filter_eq_nil_iff.2 fun x hx => by rw [List.contains_iff_mem.2 (List.mem_map.2 ⟨x, hx, rfl⟩)]; simp
  exact laidMet_layVars (w0 := w0) (l.map (·.1)) [] (by rw [e1]) (by rw [e1]; exact hf) (by rw [e1]; exact hi) (by rw [e2]; exact LaidIn.none)

noncomputable def laidP (os : Os) : World := (laidWorld os).layVars Tryz.prog plainL
theorem laidP_os (os : Os) : (laidP os).os = os := World.layVars_os _ _ _
theorem laidP_plain (os : Os) (args : Array Value) : laidMet Tryz.prog plainL ((laidP os).forCall (fun _ _ => 0) ⟨#[], args, []⟩).memory := by
  have h : laidMet Tryz.prog plainL (laidP os) := laidMet_over (by kernel_rfl) (by kernel_rfl)
  exact h.of_heap (by simp [World.memory, World.forCall, Input.heap])
theorem laidP_shaped (os : Os) : (laidP os).Shaped Tryz.prog := World.shaped_of_ZipB (by kernel_rfl) (by kernel_rfl)
theorem laidP_met3 (os : Os) (args : Array Value) : laidMetH Tryz.prog Rows.reelHoldsRow.laid ((laidP os).forCall (fun _ _ => 0) ⟨#[], args, []⟩).memory := by
  refine laidMetH_of_parts ?_ (by kernel_rfl)
  have e : (Rows.reelHoldsRow.laid.filter fun x => x.2.handleName?.isNone) = plainL := by kernel_rfl
  rw [e]
  exact laidP_plain os args

theorem handle_of_laid3 {W : World} (h : laidMetH Tryz.prog Rows.reelHoldsRow.laid W) : Laid W := by
  have h' : laidMet Tryz.prog plainL W ∧ handlesMet Tryz.prog [("errors.errorType", Rows.laid_errors_errorType)] W := h
  exact handle_of_laid (show laidMet Tryz.prog [] W ∧ handlesMet Tryz.prog [("errors.errorType", Rows.laid_errors_errorType)] W from ⟨laidMet_nil _ _, h'.2⟩)
end Go.Proofs.YtoefhdaenaiomaaGreatDoor
