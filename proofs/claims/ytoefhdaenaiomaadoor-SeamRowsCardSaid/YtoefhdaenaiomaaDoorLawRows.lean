/- SeamRows: the walk. -/
import Derived.Test.YtoefhdaenaiomaaDoorSeamG
import Derived.Test.YtoefhdaenaiomaaDoorCodeC
namespace Go.Proofs.YtoefhdaenaiomaaDoor
open Go
set_option maxRecDepth 20000

/-- The seed of the i-th row. -/
def sd (s i : Nat) : Nat := (s + i) % 4294967296
theorem sd_lt (s i : Nat) : sd s i < 4294967296 := Nat.mod_lt _ (by decide)
def cat (s : Nat) : Nat → List (List UInt8) → List UInt8
  | _, [] => []
  | i, p :: r => frm (sd s i) p ++ cat s (i + 1) r
theorem cat_snoc (s : Nat) (p : List UInt8) : ∀ (ls : List (List UInt8)) (i : Nat), cat s i (ls ++ [p]) = cat s i ls ++ frm (sd s (i + ls.length)) p
  | [], i => by simp [cat]
  | q :: ls, i => by
    simp only [List.cons_append, cat, List.length_cons]
    rw [cat_snoc s p ls (i + 1), List.append_assoc, show i + 1 + ls.length = i + (ls.length + 1) by omega]
theorem cat_len (s : Nat) : ∀ (ls : List (List UInt8)) (i : Nat), (∀ p ∈ ls, p.length ≤ 41) → (cat s i ls).length ≤ 49 * ls.length
  | [], i, _ => by simp [cat]
  | q :: ls, i, h => by
    have h1 := cat_len s ls (i + 1) (fun p hp => h p (by simp [hp]))
    have h2 := h q (by simp)
    simp only [cat, List.length_append, List.length_cons, frm_len]
    omega
theorem wrap_sd (s i : Nat) : IntKind.u32.wrap ((s : Int) + (i : Int)) = (sd s i : Nat) := by
  simp [IntKind.wrap, IntKind.bits, IntKind.signed, sd]
theorem zz_one (l : List UInt8) : ¬ zz (1 :: l) := fun h => absurd (h 1 (by simp)) (by decide)
theorem nOk (s : Nat) (p more : List UInt8) (hp : p.length ≤ 100000) (hz : ¬ zz p) : nErr s (frm s p ++ more) = 0 ∧ nLen s (frm s p ++ more) = p.length + 8 ∧ nRec s (frm s p ++ more) = p := by
  have h0 : nErr s (frm s p ++ more) = 0 := by
    rw [nErr_frm s s p more hp (fun e => hz (fun x hx => e x (by rw [frm]; simp [hx]))), if_pos rfl]
  refine ⟨h0, ?_, ?_⟩
  · rw [nLen, if_pos h0, frm_val s p more (by omega)]
  · rw [nRec, if_pos h0, frm_val s p more (by omega), frm_body]


/-- What lies beside an own row stands while the row grows. -/
theorem Sl.past {w w' : World} {vo vo' v : Value} {sz n : Nat} {cs : List Value} (h : Sl w (fun b => vo.ownBlock ≠ some b) v sz n cs) (k : Kept (fun b => vo.ownBlock = some b) w w') (hob : ∀ b, vo'.ownBlock = some b → vo.ownBlock = some b ∨ w.heap.size ≤ b) :
    Sl w' (fun b => vo'.ownBlock ≠ some b) v sz n cs :=
  ((h.mono (G := fun b => vo.ownBlock ≠ some b ∧ b < w.heap.size) (fun _ hb h => ⟨h, hb⟩)).mv k (fun _ _ h e => h.1 e)).mono (fun b _ h e => (hob b e).elim h.1 (fun e => by omega))

set_option maxHeartbeats 4000000 in
theorem rows_c (w : World) (s : Nat) (vl : Value) (us : List Value) (ls0 : List (List UInt8)) (G H : Nat → Prop) (hs : s < 4294967296) (h1 : Sl w G vl 1 us.length us) (hll : us.length = ls0.length)
    (h2 : ∀ (i : Nat) v l, us[i]? = some v → ls0[i]? = some l → BS w H v l) (hL : Laid w) :
    Calls Tryd.prog 11 [.int .u32 s, vl].toArray w (Ret fun r w' => r = .bool true ∧ Kept none0 w w') := by
  refine calls_T Tryd.func11 rfl rfl rfl ?_
  obtain ⟨A, c, rfl⟩ := h1.len
  have hlen := h1.1
  repeat (first | with_reducible refine T_seq ?_ | with_reducible refine T_region ?_ | with_reducible refine U_nil ?_ | refine U_ar rfl rfl rfl (by first | exact wrap_i64 (by omega) | exact wrap_u64 (by omega) | exact wrap_u32 (by omega) | exact wrap_u8 (by omega)) rfl ?_ | refine U_cv E rfl rfl rfl (by first | exact wrap_i64 (by omega) | exact wrap_u64 (by omega) | exact wrap_u32 (by omega) | exact wrap_u8 (by omega)) rfl ?_ | refine U_pure E rfl rfl ?_ | with_reducible refine T_skip ?_ | with_reducible refine T_block ?_ | with_reducible refine T_inBlock ?_ | refine T_exit rfl ?_ | refine T_condV rfl ?_ | with_reducible refine Cnd_t ?_ | with_reducible refine Cnd_f ?_ | with_reducible refine Cnd_not ?_ | with_reducible refine Cnd_some ?_ | with_reducible refine Cnd_none ?_ | refine U_guard rfl rfl ?_ | with_reducible refine Gd_nt ?_ | with_reducible refine Gd_nf ?_ | with_reducible refine Gd_some ?_ | with_reducible refine Gd_none ?_ | with_reducible refine Gd_want ?_ | ((with_reducible refine Gd_skipT ?_ ?_); exact rfl) | ((with_reducible refine Gd_skipF ?_ ?_); exact rfl))
  refine U_call rfl rfl (Tryd.call18 _) (sawake_c w) ?_
  rintro r w1 ⟨rfl, k1⟩
  repeat (first | with_reducible refine T_seq ?_ | with_reducible refine T_region ?_ | with_reducible refine U_nil ?_ | refine U_ar rfl rfl rfl (by first | exact wrap_i64 (by omega) | exact wrap_u64 (by omega) | exact wrap_u32 (by omega) | exact wrap_u8 (by omega)) rfl ?_ | refine U_cv E rfl rfl rfl (by first | exact wrap_i64 (by omega) | exact wrap_u64 (by omega) | exact wrap_u32 (by omega) | exact wrap_u8 (by omega)) rfl ?_ | refine U_pure E rfl rfl ?_ | with_reducible refine T_skip ?_ | with_reducible refine T_inBlock ?_ | refine T_exit rfl ?_ | refine T_condV rfl ?_ | with_reducible refine Cnd_t ?_ | with_reducible refine Cnd_f ?_ | with_reducible refine Cnd_not ?_ | with_reducible refine Cnd_some ?_ | with_reducible refine Cnd_none ?_ | refine U_guard rfl rfl ?_ | with_reducible refine Gd_nt ?_ | with_reducible refine Gd_nf ?_ | with_reducible refine Gd_some ?_ | with_reducible refine Gd_none ?_ | with_reducible refine Gd_want ?_ | ((with_reducible refine Gd_skipT ?_ ?_); exact rfl) | ((with_reducible refine Gd_skipF ?_ ?_); exact rfl))
  refine T_cut (α := Value × List Value × List (List UInt8) × Value) (fun x => [(5, x.1), (6, x.2.2.2), (0, .int .u32 s)])
    (fun x w' => Kept none0 w w' ∧ x.2.1.length = x.2.2.1.length ∧ x.2.2.1.length ≤ 6 ∧ Row w' (fresh w) x.1 1 x.2.1.length x.2.1 23 ∧ (∀ (j : Nat) v l, x.2.1[j]? = some v → x.2.2.1[j]? = some l → BS w' (fun b => x.1.ownBlock ≠ some b) v l) ∧
      (∀ p ∈ x.2.2.1, p.length ≤ 41 ∧ ¬ zz p) ∧ BS w' (fun b => x.1.ownBlock ≠ some b) x.2.2.2 (cat s 0 x.2.2.1)) ?fin ?go
  case go =>
    intro fin
    refine T_block ?_
    refine T_loop (α := Nat × Value × List Value × List (List UInt8) × Value × World) (fun x => [(21, .int .i64 x.1), (20, .int .i64 us.length), (19, .slice A us.length c), (5, x.2.1), (6, x.2.2.2.2.1), (0, .int .u32 s)]) (fun x => x.2.2.2.2.2) (fun x => us.length - x.1)
      (fun x => x.1 ≤ us.length ∧ Kept none0 w x.2.2.2.2.2 ∧ x.2.2.1.length = x.2.2.2.1.length ∧ x.2.2.2.1.length = min x.1 6 ∧ Row x.2.2.2.2.2 (fresh w) x.2.1 1 x.2.2.1.length x.2.2.1 23 ∧
        (∀ (j : Nat) v l, x.2.2.1[j]? = some v → x.2.2.2.1[j]? = some l → BS x.2.2.2.2.2 (fun b => x.2.1.ownBlock ≠ some b) v l) ∧ (∀ p ∈ x.2.2.2.1, p.length ≤ 41 ∧ ¬ zz p) ∧ BS x.2.2.2.2.2 (fun b => x.2.1.ownBlock ≠ some b) x.2.2.2.2.1 (cat s 0 x.2.2.2.1))
      (0, .slice none 0 0, [], [], .slice none 0 0, w1) ⟨Nat.zero_le _, k1, rfl, rfl, Row.nil _ _ _ _, fun j v l hv => by simp at hv, fun p hp => by simp at hp, sl_nil _ _⟩ ⟨rfl, rfl, rfl, rfl, rfl, rfl, trivial⟩ rfl ?_
    rintro ⟨i, vo, os, ls, vb, w2⟩ ⟨hi, k2, hol, hmin, hro, hov, hlp, hvb⟩ ih
    dsimp only at hi k2 hol hmin hro hov hlp hvb ⊢
    have hcl := cat_len s ls 0 (fun p hp => (hlp p hp).1)
    have hown2 : ∀ b, vo.ownBlock = some b → w.heap.size ≤ b ∧ b < w2.heap.size := hro.own
    repeat (first | with_reducible refine T_seq ?_ | with_reducible refine T_region ?_ | with_reducible refine U_nil ?_ | refine U_ar rfl rfl rfl (by first | exact wrap_i64 (by omega) | exact wrap_u64 (by omega) | exact wrap_u32 (by omega) | exact wrap_u8 (by omega)) rfl ?_ | refine U_cv E rfl rfl rfl (by first | exact wrap_i64 (by omega) | exact wrap_u64 (by omega) | exact wrap_u32 (by omega) | exact wrap_u8 (by omega)) rfl ?_ | refine U_pure E rfl rfl ?_ | with_reducible refine T_skip ?_ | with_reducible refine T_block ?_ | with_reducible refine T_inBlock ?_ | refine T_exit rfl ?_ | refine T_condV rfl ?_ | with_reducible refine Cnd_t ?_ | with_reducible refine Cnd_f ?_ | with_reducible refine Cnd_not ?_ | with_reducible refine Cnd_some ?_ | with_reducible refine Cnd_none ?_ | refine U_guard rfl rfl ?_ | with_reducible refine Gd_nt ?_ | with_reducible refine Gd_nf ?_ | with_reducible refine Gd_some ?_ | with_reducible refine Gd_none ?_ | with_reducible refine Gd_want ?_ | ((with_reducible refine Gd_skipT ?_ ?_); exact rfl) | ((with_reducible refine Gd_skipF ?_ ?_); exact rfl))
    refine Cnd_p (fun hlt => ?_) (fun hlt => ?_)
    · have hlt' : i < us.length := by omega
      have hlt2 : i < ls0.length := by omega
      have hg : us[(i : Int).toNat]? = some us[i] := by rw [Int.toNat_natCast, List.getElem?_eq_getElem hlt']
      have hvi := h2 i _ _ (List.getElem?_eq_getElem hlt') (List.getElem?_eq_getElem hlt2)
      repeat (first | with_reducible refine T_seq ?_ | with_reducible refine T_region ?_ | with_reducible refine U_nil ?_ | refine U_ar rfl rfl rfl (by first | exact wrap_i64 (by omega) | exact wrap_u64 (by omega) | exact wrap_u32 (by omega) | exact wrap_u8 (by omega)) rfl ?_ | refine U_cv E rfl rfl rfl (by first | exact wrap_i64 (by omega) | exact wrap_u64 (by omega) | exact wrap_u32 (by omega) | exact wrap_u8 (by omega)) rfl ?_ | refine U_pure E rfl rfl ?_ | with_reducible refine T_skip ?_ | with_reducible refine T_block ?_ | with_reducible refine T_inBlock ?_ | refine T_exit rfl ?_ | refine T_condV rfl ?_ | with_reducible refine Cnd_t ?_ | with_reducible refine Cnd_f ?_ | with_reducible refine Cnd_not ?_ | with_reducible refine Cnd_some ?_ | with_reducible refine Cnd_none ?_ | refine U_guard rfl rfl ?_ | with_reducible refine Gd_nt ?_ | with_reducible refine Gd_nf ?_ | with_reducible refine Gd_some ?_ | with_reducible refine Gd_none ?_ | with_reducible refine Gd_want ?_ | ((with_reducible refine Gd_skipT ?_ ?_); exact rfl) | ((with_reducible refine Gd_skipF ?_ ?_); exact rfl))
      refine U_idx E (h1.mv k2 (fun _ _ _ x => x)) rfl rfl rfl rfl (by omega) (by omega) (hg) rfl (fun q hq => ?_)
      refine U_load E rfl rfl rfl hq rfl ?_
      repeat (first | with_reducible refine T_seq ?_ | with_reducible refine T_region ?_ | with_reducible refine U_nil ?_ | refine U_ar rfl rfl rfl (by first | exact wrap_i64 (by omega) | exact wrap_u64 (by omega) | exact wrap_u32 (by omega) | exact wrap_u8 (by omega)) rfl ?_ | refine U_cv E rfl rfl rfl (by first | exact wrap_i64 (by omega) | exact wrap_u64 (by omega) | exact wrap_u32 (by omega) | exact wrap_u8 (by omega)) rfl ?_ | refine U_pure E rfl rfl ?_ | with_reducible refine T_skip ?_ | with_reducible refine T_block ?_ | with_reducible refine T_inBlock ?_ | refine T_exit rfl ?_ | refine T_condV rfl ?_ | with_reducible refine Cnd_t ?_ | with_reducible refine Cnd_f ?_ | with_reducible refine Cnd_not ?_ | with_reducible refine Cnd_some ?_ | with_reducible refine Cnd_none ?_ | refine U_guard rfl rfl ?_ | with_reducible refine Gd_nt ?_ | with_reducible refine Gd_nf ?_ | with_reducible refine Gd_some ?_ | with_reducible refine Gd_none ?_ | with_reducible refine Gd_want ?_ | ((with_reducible refine Gd_skipT ?_ ?_); exact rfl) | ((with_reducible refine Gd_skipF ?_ ?_); exact rfl))
      refine Cnd_p (fun h6 => ?_) (fun h6 => ?_)
      · have hi6 : i < 6 := by omega
        repeat (first | with_reducible refine T_seq ?_ | with_reducible refine T_region ?_ | with_reducible refine U_nil ?_ | refine U_ar rfl rfl rfl (by first | exact wrap_i64 (by omega) | exact wrap_u64 (by omega) | exact wrap_u32 (by omega) | exact wrap_u8 (by omega)) rfl ?_ | refine U_cv E rfl rfl rfl (by first | exact wrap_i64 (by omega) | exact wrap_u64 (by omega) | exact wrap_u32 (by omega) | exact wrap_u8 (by omega)) rfl ?_ | refine U_pure E rfl rfl ?_ | with_reducible refine T_skip ?_ | with_reducible refine T_block ?_ | with_reducible refine T_inBlock ?_ | refine T_exit rfl ?_ | refine T_condV rfl ?_ | with_reducible refine Cnd_t ?_ | with_reducible refine Cnd_f ?_ | with_reducible refine Cnd_not ?_ | with_reducible refine Cnd_some ?_ | with_reducible refine Cnd_none ?_ | refine U_guard rfl rfl ?_ | with_reducible refine Gd_nt ?_ | with_reducible refine Gd_nf ?_ | with_reducible refine Gd_some ?_ | with_reducible refine Gd_none ?_ | with_reducible refine Gd_want ?_ | ((with_reducible refine Gd_skipT ?_ ?_); exact rfl) | ((with_reducible refine Gd_skipF ?_ ?_); exact rfl))
        refine U_buildSlice E rfl rfl rfl rfl rfl rfl rfl rfl (segs := [[.int .u8 1]]) rfl (by simp) rfl ?_
        intro b3 w3 hn3
        have hb3 : BS w3 (fun _ => True) (.slice (some ⟨b3, 0, none⟩) 1 1) [1] := New.bs (l := [1]) hn3 rfl (by decide) _ trivial
        have k3 : Kept none0 w w3 := k2.tr hn3.kept (fun _ _ x => x)
        repeat (first | with_reducible refine T_seq ?_ | with_reducible refine T_region ?_ | with_reducible refine U_nil ?_ | refine U_ar rfl rfl rfl (by first | exact wrap_i64 (by omega) | exact wrap_u64 (by omega) | exact wrap_u32 (by omega) | exact wrap_u8 (by omega)) rfl ?_ | refine U_cv E rfl rfl rfl (by first | exact wrap_i64 (by omega) | exact wrap_u64 (by omega) | exact wrap_u32 (by omega) | exact wrap_u8 (by omega)) rfl ?_ | refine U_pure E rfl rfl ?_ | with_reducible refine T_skip ?_ | with_reducible refine T_block ?_ | with_reducible refine T_inBlock ?_ | refine T_exit rfl ?_ | refine T_condV rfl ?_ | with_reducible refine Cnd_t ?_ | with_reducible refine Cnd_f ?_ | with_reducible refine Cnd_not ?_ | with_reducible refine Cnd_some ?_ | with_reducible refine Cnd_none ?_ | refine U_guard rfl rfl ?_ | with_reducible refine Gd_nt ?_ | with_reducible refine Gd_nf ?_ | with_reducible refine Gd_some ?_ | with_reducible refine Gd_none ?_ | with_reducible refine Gd_want ?_ | ((with_reducible refine Gd_skipT ?_ ?_); exact rfl) | ((with_reducible refine Gd_skipF ?_ ?_); exact rfl))
        refine U_call rfl rfl (Tryd.call19 _) (cut_c w3 _ us[i] ls0[i] 40 (hvi.mv k3 (fun _ _ _ x => x)) (by decide)) ?_
        rintro rc w4 ⟨k4, hrc⟩
        have k4' : Kept none0 w w4 := k3.tr k4 (fun _ _ x => x)
        obtain ⟨Cq, hCq⟩ : ∃ Cq, ls0[i].take (Int.toNat 40) = Cq := ⟨_, rfl⟩
        have lCq : Cq.length ≤ 40 := by rw [← hCq, List.length_take]; omega
        rw [hCq] at hrc
        have hc4 : BS w4 (fun _ => True) rc Cq := (hrc.sl (by omega)).mono (fun _ _ _ => trivial)
        have hb4 := hb3.mv k4 (fun _ _ _ x => x)
        obtain ⟨Ac, cc, rfl⟩ := hc4.len
        repeat (first | with_reducible refine T_seq ?_ | with_reducible refine T_region ?_ | with_reducible refine U_nil ?_ | refine U_ar rfl rfl rfl (by first | exact wrap_i64 (by omega) | exact wrap_u64 (by omega) | exact wrap_u32 (by omega) | exact wrap_u8 (by omega)) rfl ?_ | refine U_cv E rfl rfl rfl (by first | exact wrap_i64 (by omega) | exact wrap_u64 (by omega) | exact wrap_u32 (by omega) | exact wrap_u8 (by omega)) rfl ?_ | refine U_pure E rfl rfl ?_ | with_reducible refine T_skip ?_ | with_reducible refine T_block ?_ | with_reducible refine T_inBlock ?_ | refine T_exit rfl ?_ | refine T_condV rfl ?_ | with_reducible refine Cnd_t ?_ | with_reducible refine Cnd_f ?_ | with_reducible refine Cnd_not ?_ | with_reducible refine Cnd_some ?_ | with_reducible refine Cnd_none ?_ | refine U_guard rfl rfl ?_ | with_reducible refine Gd_nt ?_ | with_reducible refine Gd_nf ?_ | with_reducible refine Gd_some ?_ | with_reducible refine Gd_none ?_ | with_reducible refine Gd_want ?_ | ((with_reducible refine Gd_skipT ?_ ?_); exact rfl) | ((with_reducible refine Gd_skipF ?_ ?_); exact rfl))
        refine U_buildSlice (sz := 1) E rfl rfl rfl rfl rfl rfl rfl rfl (segs := [[.slice (some ⟨b3, 0, none⟩) 1 1], [.slice Ac Cq.length cc]]) rfl (by simp) rfl ?_
        intro b5 w5 hn5
        have hj := join_c w5 _ _ _ _ [[1], Cq] (two_sl hn5.blk) rfl (two_bs (hb4.mv hn5.kept (fun _ _ _ x => x)) (hc4.mv hn5.kept (fun _ _ _ x => x))) (by simp; omega)
        rw [show ([[1], Cq] : List (List UInt8)).flatten = 1 :: Cq by simp] at hj
        refine U_call rfl rfl (Tryd.call35 _) (hj) ?_
        rintro rj w6 ⟨k6, hrj⟩
        have k25 : Kept none0 w2 w5 := (hn3.kept.tr k4 (fun _ _ x => x)).tr hn5.kept (fun _ _ x => x)
        have k26 : Kept none0 w2 w6 := k25.tr k6 (fun _ _ x => x)
        obtain ⟨Q, hQ⟩ : ∃ Q, 1 :: Cq = Q := ⟨_, rfl⟩
        have lQ : Q.length ≤ 41 := by rw [← hQ]; simp; omega
        have zQ : ¬ zz Q := by rw [← hQ]; exact zz_one Cq
        rw [hQ] at hrj
        have s25 := k25.size
        have s26 := k26.size
        have hq6 : BS w6 (fun b => vo.ownBlock ≠ some b) rj Q := (hrj.sl (by omega)).mono (fun j _ hj e => by have := (hown2 j e).2; simp only [fresh] at hj; omega)
        clear hrj hj hb3 hb4 hc4 hrc
        obtain ⟨Aj, cj, rfl⟩ := hq6.len
        have hro6 := hro.mv k26 (fun _ _ _ x => x)
        have hvb6 := hvb.mv k26 (fun _ _ _ x => x)
        have hov6 : ∀ (j : Nat) v l, os[j]? = some v → ls[j]? = some l → BS w6 (fun b => vo.ownBlock ≠ some b) v l := fun j v l hv hl => (hov j v l hv hl).mv k26 (fun _ _ _ x => x)
        have k6' : Kept none0 w w6 := k2.tr k26 (fun _ _ x => x)
        repeat (first | with_reducible refine T_seq ?_ | with_reducible refine T_region ?_ | with_reducible refine U_nil ?_ | refine U_ar rfl rfl rfl (by first | exact wrap_i64 (by omega) | exact wrap_u64 (by omega) | exact wrap_u32 (by omega) | exact wrap_u8 (by omega)) rfl ?_ | refine U_cv E rfl rfl rfl (by first | exact wrap_i64 (by omega) | exact wrap_u64 (by omega) | exact wrap_u32 (by omega) | exact wrap_u8 (by omega)) rfl ?_ | refine U_pure E rfl rfl ?_ | with_reducible refine T_skip ?_ | with_reducible refine T_block ?_ | with_reducible refine T_inBlock ?_ | refine T_exit rfl ?_ | refine T_condV rfl ?_ | with_reducible refine Cnd_t ?_ | with_reducible refine Cnd_f ?_ | with_reducible refine Cnd_not ?_ | with_reducible refine Cnd_some ?_ | with_reducible refine Cnd_none ?_ | refine U_guard rfl rfl ?_ | with_reducible refine Gd_nt ?_ | with_reducible refine Gd_nf ?_ | with_reducible refine Gd_some ?_ | with_reducible refine Gd_none ?_ | with_reducible refine Gd_want ?_ | ((with_reducible refine Gd_skipT ?_ ?_); exact rfl) | ((with_reducible refine Gd_skipF ?_ ?_); exact rfl))
        refine U_buildSlice (sz := 1) E rfl rfl rfl rfl rfl rfl rfl rfl (segs := [[.slice Aj Q.length cj]]) rfl (by simp) rfl ?_
        intro b7 w7 hn7
        have hlit : Sl w7 (fun x => x = b7) (.slice (some ⟨b7, 0, none⟩) 1 1) 1 1 [.slice Aj Q.length cj] := ⟨by decide, rfl, _, 1, rfl, Nat.le_refl _, .inr ⟨b7, 0, rfl, rfl, hn7.blk.lt, hn7.blk.whole⟩⟩
        have hro7 := hro6.mv hn7.kept (fun _ _ _ x => x)
        have hvb7 := hvb6.mv hn7.kept (fun _ _ _ x => x)
        have hq7 := hq6.mv hn7.kept (fun _ _ _ x => x)
        have hov7 : ∀ (j : Nat) v l, os[j]? = some v → ls[j]? = some l → BS w7 (fun b => vo.ownBlock ≠ some b) v l := fun j v l hv hl => (hov6 j v l hv hl).mv hn7.kept (fun _ _ _ x => x)
        refine U_append E hro7 hlit (by simp [Value.oneCell']) rfl rfl rfl rfl rfl (by omega) (by omega) rfl ?_
        intro vo' w8 hr8 k8 _ hob
        have hvb8 := hvb7.past k8 hob
        have hq8 := hq7.past k8 hob
        have hov8 : ∀ (j : Nat) v l, os[j]? = some v → ls[j]? = some l → BS w8 (fun b => vo'.ownBlock ≠ some b) v l := fun j v l hv hl => (hov7 j v l hv hl).past k8 hob
        have s7 := hn7.size
        have sw6 := k6'.size
        have k8' : Kept none0 w w8 := (k6'.tr hn7.kept (fun _ _ x => x)).tr k8 (fun j hj e => by have := (hown2 j e).1; omega)
        have hr8' : Row w8 (fresh w) vo' 1 (os.length + 1) (os ++ [.slice Aj Q.length cj]) 23 := hr8.mono (fun j _ hj => by simp only [fresh] at *; rcases hj with hj | hj <;> omega)
        have hown8 : ∀ b, vo'.ownBlock = some b → b < w8.heap.size := fun b e => (hr8'.own b e).2
        clear hr8 hvb7 hq7 hov7 hro7 hro6 hvb6 hq6 hov6
        obtain ⟨AB, cB, rfl⟩ := hvb8.len
        repeat (first | with_reducible refine T_seq ?_ | with_reducible refine T_region ?_ | with_reducible refine U_nil ?_ | refine U_ar rfl rfl rfl (by first | exact wrap_i64 (by omega) | exact wrap_u64 (by omega) | exact wrap_u32 (by omega) | exact wrap_u8 (by omega)) rfl ?_ | refine U_cv E rfl rfl rfl (by first | exact wrap_i64 (by omega) | exact wrap_u64 (by omega) | exact wrap_u32 (by omega) | exact wrap_u8 (by omega)) rfl ?_ | refine U_pure E rfl rfl ?_ | with_reducible refine T_skip ?_ | with_reducible refine T_block ?_ | with_reducible refine T_inBlock ?_ | refine T_exit rfl ?_ | refine T_condV rfl ?_ | with_reducible refine Cnd_t ?_ | with_reducible refine Cnd_f ?_ | with_reducible refine Cnd_not ?_ | with_reducible refine Cnd_some ?_ | with_reducible refine Cnd_none ?_ | refine U_guard rfl rfl ?_ | with_reducible refine Gd_nt ?_ | with_reducible refine Gd_nf ?_ | with_reducible refine Gd_some ?_ | with_reducible refine Gd_none ?_ | with_reducible refine Gd_want ?_ | ((with_reducible refine Gd_skipT ?_ ?_); exact rfl) | ((with_reducible refine Gd_skipF ?_ ?_); exact rfl))
        rw [wrap_sd]
        refine U_call rfl rfl (Tryd.call20 _) (frame_c w8 _ _ Q (sd s i) (sd_lt s i) hq8 (by omega)) ?_
        rintro rf w9 ⟨k9, hf9⟩
        have lf := frm_len (sd s i) Q
        obtain ⟨Af, cf, rfl⟩ := hf9.len
        repeat (first | with_reducible refine T_seq ?_ | with_reducible refine T_region ?_ | with_reducible refine U_nil ?_ | refine U_ar rfl rfl rfl (by first | exact wrap_i64 (by omega) | exact wrap_u64 (by omega) | exact wrap_u32 (by omega) | exact wrap_u8 (by omega)) rfl ?_ | refine U_cv E rfl rfl rfl (by first | exact wrap_i64 (by omega) | exact wrap_u64 (by omega) | exact wrap_u32 (by omega) | exact wrap_u8 (by omega)) rfl ?_ | refine U_pure E rfl rfl ?_ | with_reducible refine T_skip ?_ | with_reducible refine T_block ?_ | with_reducible refine T_inBlock ?_ | refine T_exit rfl ?_ | refine T_condV rfl ?_ | with_reducible refine Cnd_t ?_ | with_reducible refine Cnd_f ?_ | with_reducible refine Cnd_not ?_ | with_reducible refine Cnd_some ?_ | with_reducible refine Cnd_none ?_ | refine U_guard rfl rfl ?_ | with_reducible refine Gd_nt ?_ | with_reducible refine Gd_nf ?_ | with_reducible refine Gd_some ?_ | with_reducible refine Gd_none ?_ | with_reducible refine Gd_want ?_ | ((with_reducible refine Gd_skipT ?_ ?_); exact rfl) | ((with_reducible refine Gd_skipF ?_ ?_); exact rfl))
        refine U_buildSlice (sz := 1) E rfl rfl rfl rfl rfl rfl rfl rfl (segs := [[.slice AB (cat s 0 ls).length cB], [.slice Af (frm (sd s i) Q).length cf]]) rfl (by simp) rfl ?_
        intro b10 w10 hn10
        have k810 : Kept none0 w8 w10 := k9.tr hn10.kept (fun _ _ x => x)
        have hj2 := join_c w10 _ _ _ _ [cat s 0 ls, frm (sd s i) Q] (two_sl hn10.blk) rfl (two_bs ((hvb8.mv k810 (fun _ _ _ x => x)).mono (G := fun _ => True) (fun _ _ _ => trivial)) ((hf9.mv hn10.kept (fun _ _ _ x => x)).mono (G := fun _ => True) (fun _ _ _ => trivial))) (by simp; omega)
        rw [show ([cat s 0 ls, frm (sd s i) Q] : List (List UInt8)).flatten = cat s 0 ls ++ frm (sd s i) Q by simp] at hj2
        refine U_call rfl rfl (Tryd.call35 _) (hj2) ?_
        rintro rb w11 ⟨k11, hrb⟩
        have k811 : Kept none0 w8 w11 := k810.tr k11 (fun _ _ x => x)
        have s810 := k810.size
        have hb11 : BS w11 (fun b => vo'.ownBlock ≠ some b) rb (cat s 0 (ls ++ [Q])) := by
          rw [cat_snoc, Nat.zero_add, show ls.length = i by omega]
          exact (hrb.sl (by rw [List.length_append]; omega)).mono (fun j _ hj e => by have := hown8 j e; simp only [fresh] at hj; omega)
        repeat (first | with_reducible refine T_seq ?_ | with_reducible refine T_region ?_ | with_reducible refine U_nil ?_ | refine U_ar rfl rfl rfl (by first | exact wrap_i64 (by omega) | exact wrap_u64 (by omega) | exact wrap_u32 (by omega) | exact wrap_u8 (by omega)) rfl ?_ | refine U_cv E rfl rfl rfl (by first | exact wrap_i64 (by omega) | exact wrap_u64 (by omega) | exact wrap_u32 (by omega) | exact wrap_u8 (by omega)) rfl ?_ | refine U_pure E rfl rfl ?_ | with_reducible refine T_skip ?_ | with_reducible refine T_block ?_ | with_reducible refine T_inBlock ?_ | refine T_exit rfl ?_ | refine T_condV rfl ?_ | with_reducible refine Cnd_t ?_ | with_reducible refine Cnd_f ?_ | with_reducible refine Cnd_not ?_ | with_reducible refine Cnd_some ?_ | with_reducible refine Cnd_none ?_ | refine U_guard rfl rfl ?_ | with_reducible refine Gd_nt ?_ | with_reducible refine Gd_nf ?_ | with_reducible refine Gd_some ?_ | with_reducible refine Gd_none ?_ | with_reducible refine Gd_want ?_ | ((with_reducible refine Gd_skipT ?_ ?_); exact rfl) | ((with_reducible refine Gd_skipF ?_ ?_); exact rfl))
        refine T.less ?_ (ih (i + 1, vo', os ++ [.slice Aj Q.length cj], ls ++ [Q], rb, w11) ⟨hlt', k8'.tr k811 (fun _ _ x => x), by simp [hol], ?_, ?_, ?_, ?_, hb11⟩ (by dsimp only; omega))
        · exact ⟨rfl, rfl, rfl, rfl, rfl, rfl, trivial⟩
        · dsimp only
          rw [List.length_append, hmin]
          simp
          omega
        · have := hr8'.mv k811 (fun _ _ _ x => x)
          dsimp only
          rw [List.length_append]
          exact this
        · dsimp only
          intro j v l hv hl
          rcases Nat.lt_or_ge j os.length with hj | hj
          · rw [List.getElem?_append_left hj] at hv
            rw [List.getElem?_append_left (by omega)] at hl
            exact (hov8 j v l hv hl).mv k811 (fun _ _ _ x => x)
          · rw [List.getElem?_append_right hj] at hv
            rw [List.getElem?_append_right (by omega)] at hl
            have e0 : j - os.length = 0 := by
              have := (List.getElem?_eq_some_iff.1 hv).1
              simp at this
              omega
            rw [e0] at hv
            rw [← hol, e0] at hl
            injection hv with hv
            injection hl with hl
            subst hv
            subst hl
            exact hq8.mv k811 (fun _ _ _ x => x)
        · dsimp only
          intro p hp
          rcases List.mem_append.1 hp with hp | hp
          · exact hlp p hp
          · rw [List.mem_singleton.1 hp]
            exact ⟨lQ, zQ⟩
      · repeat (first | with_reducible refine T_seq ?_ | with_reducible refine T_region ?_ | with_reducible refine U_nil ?_ | refine U_ar rfl rfl rfl (by first | exact wrap_i64 (by omega) | exact wrap_u64 (by omega) | exact wrap_u32 (by omega) | exact wrap_u8 (by omega)) rfl ?_ | refine U_cv E rfl rfl rfl (by first | exact wrap_i64 (by omega) | exact wrap_u64 (by omega) | exact wrap_u32 (by omega) | exact wrap_u8 (by omega)) rfl ?_ | refine U_pure E rfl rfl ?_ | with_reducible refine T_skip ?_ | with_reducible refine T_block ?_ | with_reducible refine T_inBlock ?_ | refine T_exit rfl ?_ | refine T_condV rfl ?_ | with_reducible refine Cnd_t ?_ | with_reducible refine Cnd_f ?_ | with_reducible refine Cnd_not ?_ | with_reducible refine Cnd_some ?_ | with_reducible refine Cnd_none ?_ | refine U_guard rfl rfl ?_ | with_reducible refine Gd_nt ?_ | with_reducible refine Gd_nf ?_ | with_reducible refine Gd_some ?_ | with_reducible refine Gd_none ?_ | with_reducible refine Gd_want ?_ | ((with_reducible refine Gd_skipT ?_ ?_); exact rfl) | ((with_reducible refine Gd_skipF ?_ ?_); exact rfl))
        refine T.less ?_ (ih (i + 1, vo, os, ls, vb, w2) ⟨hlt', k2, hol, ?_, hro, hov, hlp, hvb⟩ (by dsimp only; omega))
        · exact ⟨rfl, rfl, rfl, rfl, rfl, rfl, trivial⟩
        · dsimp only
          omega
    · refine T_exit rfl ?_
      refine T.less ?_ (fin (vo, os, ls, vb) w2 ⟨k2, hol, by dsimp only; omega, hro, hov, hlp, hvb⟩)
      exact ⟨rfl, rfl, rfl, trivial⟩
  case fin =>
    rintro ⟨vo, os, ls, vb⟩ w2 ⟨k2, hol, h6, hro, hov, hlp, hvb⟩
    dsimp only at hol h6 hro hov hlp hvb ⊢
    have hcl := cat_len s ls 0 (fun p hp => (hlp p hp).1)
    have hos := hro.sl (by omega)
    obtain ⟨AO, cO, rfl⟩ := hro.val
    repeat (first | with_reducible refine T_seq ?_ | with_reducible refine T_region ?_ | with_reducible refine U_nil ?_ | refine U_ar rfl rfl rfl (by first | exact wrap_i64 (by omega) | exact wrap_u64 (by omega) | exact wrap_u32 (by omega) | exact wrap_u8 (by omega)) rfl ?_ | refine U_cv E rfl rfl rfl (by first | exact wrap_i64 (by omega) | exact wrap_u64 (by omega) | exact wrap_u32 (by omega) | exact wrap_u8 (by omega)) rfl ?_ | refine U_pure E rfl rfl ?_ | with_reducible refine T_skip ?_ | with_reducible refine T_block ?_ | with_reducible refine T_inBlock ?_ | refine T_exit rfl ?_ | refine T_condV rfl ?_ | with_reducible refine Cnd_t ?_ | with_reducible refine Cnd_f ?_ | with_reducible refine Cnd_not ?_ | with_reducible refine Cnd_some ?_ | with_reducible refine Cnd_none ?_ | refine U_guard rfl rfl ?_ | with_reducible refine Gd_nt ?_ | with_reducible refine Gd_nf ?_ | with_reducible refine Gd_some ?_ | with_reducible refine Gd_none ?_ | with_reducible refine Gd_want ?_ | ((with_reducible refine Gd_skipT ?_ ?_); exact rfl) | ((with_reducible refine Gd_skipF ?_ ?_); exact rfl))
    refine T_loop (α := Nat × Value × World) (fun x => [(49, .int .i64 x.1), (48, .int .i64 os.length), (47, .slice AO os.length cO), (6, x.2.1), (0, .int .u32 s)]) (fun x => x.2.2) (fun x => os.length - x.1)
      (fun x => x.1 ≤ os.length ∧ Kept none0 w2 x.2.2 ∧ BS x.2.2 (fun _ => True) x.2.1 (cat s x.1 (ls.drop x.1)))
      (0, vb, w2) ⟨Nat.zero_le _, Kept.refl _ _, hvb.mono (fun _ _ _ => trivial)⟩ ⟨rfl, rfl, rfl, rfl, rfl, trivial⟩ rfl ?_
    rintro ⟨i, vb, w3⟩ ⟨hi, k3, hb3⟩ ih
    dsimp only at hi k3 hb3 ⊢
    have hcl3 := cat_len s (ls.drop i) i (fun p hp => (hlp p (List.mem_of_mem_drop hp)).1)
    rw [List.length_drop] at hcl3
    repeat (first | with_reducible refine T_seq ?_ | with_reducible refine T_region ?_ | with_reducible refine U_nil ?_ | refine U_ar rfl rfl rfl (by first | exact wrap_i64 (by omega) | exact wrap_u64 (by omega) | exact wrap_u32 (by omega) | exact wrap_u8 (by omega)) rfl ?_ | refine U_cv E rfl rfl rfl (by first | exact wrap_i64 (by omega) | exact wrap_u64 (by omega) | exact wrap_u32 (by omega) | exact wrap_u8 (by omega)) rfl ?_ | refine U_pure E rfl rfl ?_ | with_reducible refine T_skip ?_ | with_reducible refine T_block ?_ | with_reducible refine T_inBlock ?_ | refine T_exit rfl ?_ | refine T_condV rfl ?_ | with_reducible refine Cnd_t ?_ | with_reducible refine Cnd_f ?_ | with_reducible refine Cnd_not ?_ | with_reducible refine Cnd_some ?_ | with_reducible refine Cnd_none ?_ | refine U_guard rfl rfl ?_ | with_reducible refine Gd_nt ?_ | with_reducible refine Gd_nf ?_ | with_reducible refine Gd_some ?_ | with_reducible refine Gd_none ?_ | with_reducible refine Gd_want ?_ | ((with_reducible refine Gd_skipT ?_ ?_); exact rfl) | ((with_reducible refine Gd_skipF ?_ ?_); exact rfl))
    refine Cnd_p (fun hlt => ?_) (fun hlt => ?_)
    · have hlt' : i < os.length := by omega
      have hlt2 : i < ls.length := by omega
      have hg : os[(i : Int).toNat]? = some os[i] := by rw [Int.toNat_natCast, List.getElem?_eq_getElem hlt']
      have hvi := (hov i _ _ (List.getElem?_eq_getElem hlt') (List.getElem?_eq_getElem hlt2)).mv k3 (fun _ _ _ x => x)
      obtain ⟨P, hP⟩ : ∃ P, ls[i] = P := ⟨_, rfl⟩
      have hpp : P.length ≤ 41 ∧ ¬ zz P := by rw [← hP]; exact hlp _ (List.getElem_mem hlt2)
      have hdr : cat s i (ls.drop i) = frm (sd s i) P ++ cat s (i + 1) (ls.drop (i + 1)) := by
        rw [List.drop_eq_getElem_cons hlt2, cat, hP]
      rw [hP] at hvi
      rw [hdr] at hb3
      rw [hdr, List.length_append, frm_len] at hcl3
      obtain ⟨R, hR⟩ : ∃ R, cat s (i + 1) (ls.drop (i + 1)) = R := ⟨_, rfl⟩
      rw [hR] at hb3 hcl3
      obtain ⟨n1, n2, n3⟩ := nOk (sd s i) P R (by omega) hpp.2
      have lfr : (frm (sd s i) P ++ R).length = P.length + 8 + R.length := by rw [List.length_append, frm_len]
      obtain ⟨Ai, ci, hoi⟩ := hvi.len
      repeat (first | with_reducible refine T_seq ?_ | with_reducible refine T_region ?_ | with_reducible refine U_nil ?_ | refine U_ar rfl rfl rfl (by first | exact wrap_i64 (by omega) | exact wrap_u64 (by omega) | exact wrap_u32 (by omega) | exact wrap_u8 (by omega)) rfl ?_ | refine U_cv E rfl rfl rfl (by first | exact wrap_i64 (by omega) | exact wrap_u64 (by omega) | exact wrap_u32 (by omega) | exact wrap_u8 (by omega)) rfl ?_ | refine U_pure E rfl rfl ?_ | with_reducible refine T_skip ?_ | with_reducible refine T_block ?_ | with_reducible refine T_inBlock ?_ | refine T_exit rfl ?_ | refine T_condV rfl ?_ | with_reducible refine Cnd_t ?_ | with_reducible refine Cnd_f ?_ | with_reducible refine Cnd_not ?_ | with_reducible refine Cnd_some ?_ | with_reducible refine Cnd_none ?_ | refine U_guard rfl rfl ?_ | with_reducible refine Gd_nt ?_ | with_reducible refine Gd_nf ?_ | with_reducible refine Gd_some ?_ | with_reducible refine Gd_none ?_ | with_reducible refine Gd_want ?_ | ((with_reducible refine Gd_skipT ?_ ?_); exact rfl) | ((with_reducible refine Gd_skipF ?_ ?_); exact rfl))
      refine U_idx E (hos.mv k3 (fun _ _ _ x => x)) rfl rfl rfl rfl (by omega) (by omega) (hg) rfl (fun q hq => ?_)
      rw [hoi] at hq
      refine U_load E rfl rfl rfl hq rfl ?_
      rw [hoi] at hvi
      repeat (first | with_reducible refine T_seq ?_ | with_reducible refine T_region ?_ | with_reducible refine U_nil ?_ | refine U_ar rfl rfl rfl (by first | exact wrap_i64 (by omega) | exact wrap_u64 (by omega) | exact wrap_u32 (by omega) | exact wrap_u8 (by omega)) rfl ?_ | refine U_cv E rfl rfl rfl (by first | exact wrap_i64 (by omega) | exact wrap_u64 (by omega) | exact wrap_u32 (by omega) | exact wrap_u8 (by omega)) rfl ?_ | refine U_pure E rfl rfl ?_ | with_reducible refine T_skip ?_ | with_reducible refine T_block ?_ | with_reducible refine T_inBlock ?_ | refine T_exit rfl ?_ | refine T_condV rfl ?_ | with_reducible refine Cnd_t ?_ | with_reducible refine Cnd_f ?_ | with_reducible refine Cnd_not ?_ | with_reducible refine Cnd_some ?_ | with_reducible refine Cnd_none ?_ | refine U_guard rfl rfl ?_ | with_reducible refine Gd_nt ?_ | with_reducible refine Gd_nf ?_ | with_reducible refine Gd_some ?_ | with_reducible refine Gd_none ?_ | with_reducible refine Gd_want ?_ | ((with_reducible refine Gd_skipT ?_ ?_); exact rfl) | ((with_reducible refine Gd_skipF ?_ ?_); exact rfl))
      rw [wrap_sd]
      refine U_call rfl rfl (Tryd.call21 _) (next_c w3 _ vb _ (sd s i) (sd_lt s i) hb3 (by omega)) ?_
      rintro r w4 ⟨k4, u, rfl, hu⟩
      rw [n1, n2]
      rw [n3] at hu
      unfold errV
      repeat (first | with_reducible refine T_seq ?_ | with_reducible refine T_region ?_ | with_reducible refine U_nil ?_ | refine U_ar rfl rfl rfl (by first | exact wrap_i64 (by omega) | exact wrap_u64 (by omega) | exact wrap_u32 (by omega) | exact wrap_u8 (by omega)) rfl ?_ | refine U_cv E rfl rfl rfl (by first | exact wrap_i64 (by omega) | exact wrap_u64 (by omega) | exact wrap_u32 (by omega) | exact wrap_u8 (by omega)) rfl ?_ | refine U_pure E rfl rfl ?_ | with_reducible refine T_skip ?_ | with_reducible refine T_block ?_ | with_reducible refine T_inBlock ?_ | refine T_exit rfl ?_ | refine T_condV rfl ?_ | with_reducible refine Cnd_t ?_ | with_reducible refine Cnd_f ?_ | with_reducible refine Cnd_not ?_ | with_reducible refine Cnd_some ?_ | with_reducible refine Cnd_none ?_ | refine U_guard rfl rfl ?_ | with_reducible refine Gd_nt ?_ | with_reducible refine Gd_nf ?_ | with_reducible refine Gd_some ?_ | with_reducible refine Gd_none ?_ | with_reducible refine Gd_want ?_ | ((with_reducible refine Gd_skipT ?_ ?_); exact rfl) | ((with_reducible refine Gd_skipF ?_ ?_); exact rfl))
      have hc := same_c w4 _ _ _ u P P (hvi.mv k4 (fun _ _ _ x => x)) hu
      rw [decide_eq_true rfl] at hc
      refine U_call rfl rfl (Tryd.call22 _) (ret_of hc) ?_
      rintro r w5 ⟨rfl, hd5⟩
      repeat (first | with_reducible refine T_seq ?_ | with_reducible refine T_region ?_ | with_reducible refine U_nil ?_ | refine U_ar rfl rfl rfl (by first | exact wrap_i64 (by omega) | exact wrap_u64 (by omega) | exact wrap_u32 (by omega) | exact wrap_u8 (by omega)) rfl ?_ | refine U_cv E rfl rfl rfl (by first | exact wrap_i64 (by omega) | exact wrap_u64 (by omega) | exact wrap_u32 (by omega) | exact wrap_u8 (by omega)) rfl ?_ | refine U_pure E rfl rfl ?_ | with_reducible refine T_skip ?_ | with_reducible refine T_block ?_ | with_reducible refine T_inBlock ?_ | refine T_exit rfl ?_ | refine T_condV rfl ?_ | with_reducible refine Cnd_t ?_ | with_reducible refine Cnd_f ?_ | with_reducible refine Cnd_not ?_ | with_reducible refine Cnd_some ?_ | with_reducible refine Cnd_none ?_ | refine U_guard rfl rfl ?_ | with_reducible refine Gd_nt ?_ | with_reducible refine Gd_nf ?_ | with_reducible refine Gd_some ?_ | with_reducible refine Gd_none ?_ | with_reducible refine Gd_want ?_ | ((with_reducible refine Gd_skipT ?_ ?_); exact rfl) | ((with_reducible refine Gd_skipF ?_ ?_); exact rfl))
      have hsz := size_c w5 (P.length : Int) (by omega)
      rw [if_neg (by omega)] at hsz
      refine U_call rfl rfl (Tryd.call46 _) (hsz) ?_
      rintro r w6 ⟨rfl, rfl⟩
      have k6 : Kept none0 w3 w6 := k4.tr (hd5.kept none0) (fun _ _ x => x)
      have hb6 := hb3.mv k6 (fun _ _ _ x => x)
      repeat (first | with_reducible refine T_seq ?_ | with_reducible refine T_region ?_ | with_reducible refine U_nil ?_ | refine U_ar rfl rfl rfl (by first | exact wrap_i64 (by omega) | exact wrap_u64 (by omega) | exact wrap_u32 (by omega) | exact wrap_u8 (by omega)) rfl ?_ | refine U_cv E rfl rfl rfl (by first | exact wrap_i64 (by omega) | exact wrap_u64 (by omega) | exact wrap_u32 (by omega) | exact wrap_u8 (by omega)) rfl ?_ | refine U_pure E rfl rfl ?_ | with_reducible refine T_skip ?_ | with_reducible refine T_block ?_ | with_reducible refine T_inBlock ?_ | refine T_exit rfl ?_ | refine T_condV rfl ?_ | with_reducible refine Cnd_t ?_ | with_reducible refine Cnd_f ?_ | with_reducible refine Cnd_not ?_ | with_reducible refine Cnd_some ?_ | with_reducible refine Cnd_none ?_ | refine U_guard rfl rfl ?_ | with_reducible refine Gd_nt ?_ | with_reducible refine Gd_nf ?_ | with_reducible refine Gd_some ?_ | with_reducible refine Gd_none ?_ | with_reducible refine Gd_want ?_ | ((with_reducible refine Gd_skipT ?_ ?_); exact rfl) | ((with_reducible refine Gd_skipF ?_ ?_); exact rfl))
      refine Cnd_p (fun hx => ?_) (fun hx => ?_)
      · exfalso; omega
      · obtain ⟨AV, cV, rfl⟩ := hb6.len
        repeat (first | with_reducible refine T_seq ?_ | with_reducible refine T_region ?_ | with_reducible refine U_nil ?_ | refine U_ar rfl rfl rfl (by first | exact wrap_i64 (by omega) | exact wrap_u64 (by omega) | exact wrap_u32 (by omega) | exact wrap_u8 (by omega)) rfl ?_ | refine U_cv E rfl rfl rfl (by first | exact wrap_i64 (by omega) | exact wrap_u64 (by omega) | exact wrap_u32 (by omega) | exact wrap_u8 (by omega)) rfl ?_ | refine U_pure E rfl rfl ?_ | with_reducible refine T_skip ?_ | with_reducible refine T_block ?_ | with_reducible refine T_inBlock ?_ | refine T_exit rfl ?_ | refine U_guard rfl rfl ?_ | with_reducible refine Gd_nt ?_ | with_reducible refine Gd_nf ?_ | with_reducible refine Gd_some ?_ | with_reducible refine Gd_none ?_ | with_reducible refine Gd_want ?_ | ((with_reducible refine Gd_skipT ?_ ?_); exact rfl) | ((with_reducible refine Gd_skipF ?_ ?_); exact rfl))
        obtain ⟨rv, hrv, rvf⟩ := bs_part (P := Tryd.prog) (hb6) (P.length + 8) (P.length + 8 + R.length) (by omega) (by omega); refine U_run rfl rfl rfl (ro_slB E rfl rfl rfl rvf (by first | rfl | (simp only [List.length_take, List.length_drop, List.length_append] <;> omega) | (dsimp only; omega) | exact ⟨_, rfl⟩ | exact ⟨_, congrArg (fun z => some (Value.int _ z)) (by omega)⟩) (by first | rfl | (simp only [List.length_take, List.length_drop, List.length_append] <;> omega) | (dsimp only; omega) | exact ⟨_, rfl⟩ | exact ⟨_, congrArg (fun z => some (Value.int _ z)) (by omega)⟩)) ?_
        repeat (first | with_reducible refine T_seq ?_ | with_reducible refine T_region ?_ | with_reducible refine U_nil ?_ | refine U_ar rfl rfl rfl (by first | exact wrap_i64 (by omega) | exact wrap_u64 (by omega) | exact wrap_u32 (by omega) | exact wrap_u8 (by omega)) rfl ?_ | refine U_cv E rfl rfl rfl (by first | exact wrap_i64 (by omega) | exact wrap_u64 (by omega) | exact wrap_u32 (by omega) | exact wrap_u8 (by omega)) rfl ?_ | refine U_pure E rfl rfl ?_ | with_reducible refine T_skip ?_ | with_reducible refine T_block ?_ | with_reducible refine T_inBlock ?_ | refine T_exit rfl ?_ | refine T_condV rfl ?_ | with_reducible refine Cnd_t ?_ | with_reducible refine Cnd_f ?_ | with_reducible refine Cnd_not ?_ | with_reducible refine Cnd_some ?_ | with_reducible refine Cnd_none ?_ | refine U_guard rfl rfl ?_ | with_reducible refine Gd_nt ?_ | with_reducible refine Gd_nf ?_ | with_reducible refine Gd_some ?_ | with_reducible refine Gd_none ?_ | with_reducible refine Gd_want ?_ | ((with_reducible refine Gd_skipT ?_ ?_); exact rfl) | ((with_reducible refine Gd_skipF ?_ ?_); exact rfl))
        refine T.less ?_ (ih (i + 1, rv, w6) ⟨hlt', k3.tr k6 (fun _ _ x => x), ?_⟩ (by dsimp only; omega))
        · exact ⟨rfl, rfl, rfl, rfl, rfl, trivial⟩
        · dsimp only
          rw [hR]
          rw [List.drop_left' (frm_len _ _), List.take_of_length_le (by omega)] at hrv
          exact hrv
    · have : i = ls.length := by omega
      subst this
      rw [List.drop_length] at hb3
      have hb3 : BS w3 (fun _ => True) vb [] := hb3
      repeat (first | with_reducible refine T_seq ?_ | with_reducible refine T_region ?_ | with_reducible refine U_nil ?_ | refine U_ar rfl rfl rfl (by first | exact wrap_i64 (by omega) | exact wrap_u64 (by omega) | exact wrap_u32 (by omega) | exact wrap_u8 (by omega)) rfl ?_ | refine U_cv E rfl rfl rfl (by first | exact wrap_i64 (by omega) | exact wrap_u64 (by omega) | exact wrap_u32 (by omega) | exact wrap_u8 (by omega)) rfl ?_ | refine U_pure E rfl rfl ?_ | with_reducible refine T_skip ?_ | with_reducible refine T_block ?_ | with_reducible refine T_inBlock ?_ | refine T_exit rfl ?_ | refine T_condV rfl ?_ | with_reducible refine Cnd_t ?_ | with_reducible refine Cnd_f ?_ | with_reducible refine Cnd_not ?_ | with_reducible refine Cnd_some ?_ | with_reducible refine Cnd_none ?_ | refine U_guard rfl rfl ?_ | with_reducible refine Gd_nt ?_ | with_reducible refine Gd_nf ?_ | with_reducible refine Gd_some ?_ | with_reducible refine Gd_none ?_ | with_reducible refine Gd_want ?_ | ((with_reducible refine Gd_skipT ?_ ?_); exact rfl) | ((with_reducible refine Gd_skipF ?_ ?_); exact rfl))
      refine U_call rfl rfl (Tryd.call21 _) (next_c w3 _ vb [] s hs hb3 (by decide)) ?_
      rintro r w4 ⟨k4, u, rfl, hu⟩
      have e0 : nErr s [] = 3 := by rw [nErr, if_pos (show zz [] from fun x hx => by cases hx)]
      rw [e0]
      unfold errV
      obtain ⟨AV, cV, rfl⟩ := hb3.len
      have k4' : Kept none0 w w4 := (k2.tr k3 (fun _ _ x => x)).tr k4 (fun _ _ x => x)
      repeat (first | with_reducible refine T_seq ?_ | with_reducible refine T_region ?_ | with_reducible refine U_nil ?_ | refine U_ar rfl rfl rfl (by first | exact wrap_i64 (by omega) | exact wrap_u64 (by omega) | exact wrap_u32 (by omega) | exact wrap_u8 (by omega)) rfl ?_ | refine U_cv E rfl rfl rfl (by first | exact wrap_i64 (by omega) | exact wrap_u64 (by omega) | exact wrap_u32 (by omega) | exact wrap_u8 (by omega)) rfl ?_ | refine U_pure E rfl rfl ?_ | with_reducible refine T_skip ?_ | with_reducible refine T_block ?_ | with_reducible refine T_inBlock ?_ | refine T_exit rfl ?_ | refine T_condV rfl ?_ | with_reducible refine Cnd_t ?_ | with_reducible refine Cnd_f ?_ | with_reducible refine Cnd_not ?_ | with_reducible refine Cnd_some ?_ | with_reducible refine Cnd_none ?_ | refine U_guard rfl rfl ?_ | with_reducible refine Gd_nt ?_ | with_reducible refine Gd_nf ?_ | with_reducible refine Gd_some ?_ | with_reducible refine Gd_none ?_ | with_reducible refine Gd_want ?_ | ((with_reducible refine Gd_skipT ?_ ?_); exact rfl) | ((with_reducible refine Gd_skipF ?_ ?_); exact rfl))
      refine Gd_b (fun _ => ?_) (fun e => absurd e (by decide))
      repeat (first | with_reducible refine T_seq ?_ | with_reducible refine T_region ?_ | with_reducible refine U_nil ?_ | refine U_ar rfl rfl rfl (by first | exact wrap_i64 (by omega) | exact wrap_u64 (by omega) | exact wrap_u32 (by omega) | exact wrap_u8 (by omega)) rfl ?_ | refine U_cv E rfl rfl rfl (by first | exact wrap_i64 (by omega) | exact wrap_u64 (by omega) | exact wrap_u32 (by omega) | exact wrap_u8 (by omega)) rfl ?_ | refine U_pure E rfl rfl ?_ | with_reducible refine T_skip ?_ | with_reducible refine T_block ?_ | with_reducible refine T_inBlock ?_ | refine T_exit rfl ?_ | refine T_condV rfl ?_ | with_reducible refine Cnd_t ?_ | with_reducible refine Cnd_f ?_ | with_reducible refine Cnd_not ?_ | with_reducible refine Cnd_some ?_ | with_reducible refine Cnd_none ?_ | refine U_guard rfl rfl ?_ | with_reducible refine Gd_nt ?_ | with_reducible refine Gd_nf ?_ | with_reducible refine Gd_some ?_ | with_reducible refine Gd_none ?_ | with_reducible refine Gd_want ?_ | ((with_reducible refine Gd_skipT ?_ ?_); exact rfl) | ((with_reducible refine Gd_skipF ?_ ?_); exact rfl))
      refine U_call rfl rfl (Tryd.call28 _) (code_err w4 3 (hL.mv k4' (fun x => x))) ?_
      rintro r w5 ⟨rfl, k5⟩
      repeat (first | with_reducible refine T_seq ?_ | with_reducible refine T_region ?_ | with_reducible refine U_nil ?_ | refine U_ar rfl rfl rfl (by first | exact wrap_i64 (by omega) | exact wrap_u64 (by omega) | exact wrap_u32 (by omega) | exact wrap_u8 (by omega)) rfl ?_ | refine U_cv E rfl rfl rfl (by first | exact wrap_i64 (by omega) | exact wrap_u64 (by omega) | exact wrap_u32 (by omega) | exact wrap_u8 (by omega)) rfl ?_ | refine U_pure E rfl rfl ?_ | with_reducible refine T_skip ?_ | with_reducible refine T_block ?_ | with_reducible refine T_inBlock ?_ | refine T_exit rfl ?_ | refine T_condV rfl ?_ | with_reducible refine Cnd_t ?_ | with_reducible refine Cnd_f ?_ | with_reducible refine Cnd_not ?_ | with_reducible refine Cnd_some ?_ | with_reducible refine Cnd_none ?_ | refine U_guard rfl rfl ?_ | with_reducible refine Gd_nt ?_ | with_reducible refine Gd_nf ?_ | with_reducible refine Gd_some ?_ | with_reducible refine Gd_none ?_ | with_reducible refine Gd_want ?_ | ((with_reducible refine Gd_skipT ?_ ?_); exact rfl) | ((with_reducible refine Gd_skipF ?_ ?_); exact rfl))
      exact T_ret1 Tryd.func11 rfl rfl ⟨_, rfl, rfl, k4'.tr k5 (fun _ _ x => x)⟩
end Go.Proofs.YtoefhdaenaiomaaDoor
