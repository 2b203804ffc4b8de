/- DrumOrders: the walk. -/
import Derived.Test.YtoefhdaenaiomaaDrumK
import Derived.Test.YtoefhdaenaiomaaDrumN
namespace Go.Proofs.Ytoefhdaenaiomaa
open Go

/-- What several writes of sector 1 come to. -/
structure Ord (keep : List Bool) (ws : List (Nat × List UInt8)) (want last : List UInt8) : Prop where
  now : nowS [zeros 256, zeros 256] ws 1 = last
  app : applyW [zeros 256, zeros 256] ws = [zeros 256, last]
  fall : (fgo keep [zeros 256, zeros 256] ws).l = [zeros 256, want]
  lw : want.length = 256
  ll : last.length = 256
theorem Ord.nil (keep : List Bool) : Ord keep [] (zeros 256) (zeros 256) := ⟨rfl, rfl, rfl, zeros_len 256, zeros_len 256⟩
theorem Ord.snoc {keep : List Bool} {ws : List (Nat × List UInt8)} {want last : List UInt8} (h : Ord keep ws want last) (s : List UInt8) (hs : s.length = 256) :
    Ord keep (ws ++ [(1, s)]) (if keep[ws.length]? = some true then s else want) s := by
  refine ⟨?_, ?_, ?_, ?_, hs⟩
  · rw [nowS_snoc, if_pos rfl]
  · rw [applyW_snoc, h.app]
    rfl
  · rw [fgo_snoc, fstep]
    dsimp only
    split
    · rw [h.fall]
      rfl
    · exact h.fall
  · split
    · exact hs
    · exact h.lw
theorem Ord.drFall {keep : List Bool} {ws : List (Nat × List UInt8)} {want last : List UInt8} (h : Ord keep ws want last) : drFall ⟨[zeros 256, zeros 256], ws, -1⟩ keep (-1) = ⟨[zeros 256, want], [], -1⟩ := by
  simp only [Go.Proofs.Ytoefhdaenaiomaa.drFall]
  rw [if_neg (by omega), h.fall]

set_option maxRecDepth 4000 in
set_option maxHeartbeats 1000000 in
theorem orders_c (w : World) (vl vk : Value) (vs : List Value) (ls : List (List UInt8)) (keep : List Bool) (h1 : Sl w (old w) vl 1 vs.length vs) (hvl : vs.length = ls.length) (hs : ∀ (i : Nat) v l, vs[i]? = some v → ls[i]? = some l → BS w (old w) v l) (h2 : Sl w (old w) vk 1 keep.length (encBools keep)) :
    Calls Try.prog 4 [vl, vk].toArray w (Ret fun r w' => r = .bool true ∧ Kept none0 w w') := by
  refine calls_T Try.func4 rfl rfl rfl ?_
  obtain ⟨A, c, rfl⟩ := h1.len
  obtain ⟨B, c2, rfl⟩ := h2.len
  have hlen := h1.1
  have hlen2 := h2.1
  repeat (first | with_reducible refine T_seq ?_ | with_reducible refine T_region ?_ | with_reducible refine U_nil ?_ | refine U_ar rfl rfl rfl (wrap_i64 (by omega)) rfl ?_ | refine U_pure E rfl rfl ?_ | with_reducible refine T_skip ?_ | with_reducible refine T_block ?_ | with_reducible refine T_inBlock ?_ | refine T_exit rfl ?_ | refine T_condV rfl ?_ | with_reducible refine Cnd_t ?_ | with_reducible refine Cnd_f ?_ | with_reducible refine Cnd_not ?_ | with_reducible refine Cnd_some ?_ | with_reducible refine Cnd_none ?_ | refine U_guard rfl rfl ?_ | with_reducible refine Gd_nt ?_ | with_reducible refine Gd_nf ?_ | with_reducible refine Gd_some ?_ | with_reducible refine Gd_none ?_ | with_reducible refine Gd_want ?_ | ((with_reducible refine Gd_skipT ?_ ?_); exact rfl) | ((with_reducible refine Gd_skipF ?_ ?_); exact rfl))
  refine U_call rfl rfl (Try.call6 _) (awake_c w) ?_
  rintro r w1 ⟨rfl, hk1⟩
  repeat (first | with_reducible refine T_seq ?_ | with_reducible refine T_region ?_ | with_reducible refine U_nil ?_ | refine U_ar rfl rfl rfl (wrap_i64 (by omega)) rfl ?_ | refine U_pure E rfl rfl ?_ | with_reducible refine T_skip ?_ | with_reducible refine T_block ?_ | with_reducible refine T_inBlock ?_ | refine T_exit rfl ?_ | refine T_condV rfl ?_ | with_reducible refine Cnd_t ?_ | with_reducible refine Cnd_f ?_ | with_reducible refine Cnd_not ?_ | with_reducible refine Cnd_some ?_ | with_reducible refine Cnd_none ?_ | refine U_guard rfl rfl ?_ | with_reducible refine Gd_nt ?_ | with_reducible refine Gd_nf ?_ | with_reducible refine Gd_some ?_ | with_reducible refine Gd_none ?_ | with_reducible refine Gd_want ?_ | ((with_reducible refine Gd_skipT ?_ ?_); exact rfl) | ((with_reducible refine Gd_skipF ?_ ?_); exact rfl))
  refine U_call rfl rfl (Try.call8 _) (new_c w1 2 (by decide)) ?_
  rintro r w2 ⟨hk2, hb, rfl, hD2⟩
  have hD2 : IsD w2 (fresh w1) hb ⟨[zeros 256, zeros 256], [], -1⟩ := hD2
  have hD2 := hD2.tight
  have hk2' : Kept none0 w w2 := hk1.tr hk2 (fun _ _ x => x)
  have s1 := hk1.size
  have s2 := hk2.size
  unfold ptr at *
  repeat (first | with_reducible refine T_seq ?_ | with_reducible refine T_region ?_ | with_reducible refine U_nil ?_ | refine U_ar rfl rfl rfl (wrap_i64 (by omega)) rfl ?_ | refine U_pure E rfl rfl ?_ | with_reducible refine T_skip ?_ | with_reducible refine T_block ?_ | with_reducible refine T_inBlock ?_ | refine T_exit rfl ?_ | refine T_condV rfl ?_ | with_reducible refine Cnd_t ?_ | with_reducible refine Cnd_f ?_ | with_reducible refine Cnd_not ?_ | with_reducible refine Cnd_some ?_ | with_reducible refine Cnd_none ?_ | refine U_guard rfl rfl ?_ | with_reducible refine Gd_nt ?_ | with_reducible refine Gd_nf ?_ | with_reducible refine Gd_some ?_ | with_reducible refine Gd_none ?_ | with_reducible refine Gd_want ?_ | ((with_reducible refine Gd_skipT ?_ ?_); exact rfl) | ((with_reducible refine Gd_skipF ?_ ?_); exact rfl))
  refine T_via (α := Nat × Nat) (fun x => [(5, .pointer (some ⟨hb, 0, none⟩)), (0, .slice A vs.length c), (1, .slice B keep.length c2), (7, .slice (some ⟨x.1, 0, none⟩) 256 256), (8, .slice (some ⟨x.2, 0, none⟩) 256 256)])
    (fun x w' => Kept none0 w2 w' ∧ w2.heap.size ≤ x.1 ∧ w2.heap.size ≤ x.2 ∧ Blk w' x.1 (encBs (zeros 256)) 5 ∧ Blk w' x.2 (encBs (zeros 256)) 5) ?fin ?go
  case go =>
    intro fin
    refine L_begin (fun _ => True) 4 (by kernel_rfl) (N := 4) rfl (fun w3 hd3 => ?_)
    have hk3 := hd3.kept none0
    have s3 := hk3.size
    have zz : ∀ {a b : World} {j : Nat}, New a b j (List.replicate 256 [Value.int .u8 0]).flatten 5 → Blk b j (encBs (zeros 256)) 5 := by
      intro a b j hn
      have := hn.blk
      rw [flat_single, ← encBs_zeros] at this
      exact this
    refine L_op2 0 1 (by kernel_rfl) rfl rfl (fun hc => ?_) (fun hc => ?_)
    · refine U_make E rfl rfl (zs := [.int .u8 0]) rfl (N := 256) rfl rfl (by decide) (by decide) rfl rfl rfl ?_
      intro b7 w4 hn4
      refine U_nilL hc (fun _ => trivial) ?_
      refine L_take 2 rfl (by kernel_rfl) (by kernel_rfl) (by kernel_rfl) (by kernel_rfl) trivial rfl rfl rfl (fun a ha w' _ => run_pv E ha rfl _ _ _ _ _) ?_
      refine L_op 1 (by kernel_rfl) rfl (fun hc => ?_)
      refine U_make E rfl rfl (zs := [.int .u8 0]) rfl (N := 256) rfl rfl (by decide) (by decide) rfl rfl rfl ?_
      intro b8 w5 hn5
      have e4 := hn4.at_
      have e5 := hn5.at_
      have s4 := hn4.size
      refine U_nilL hc (fun _ => trivial) ?_
      refine L_take 3 rfl (by kernel_rfl) (by kernel_rfl) (by kernel_rfl) (by kernel_rfl) trivial rfl rfl rfl (fun a ha w' _ => run_pv E ha rfl _ _ _ _ _) ?_
      refine L_done (by kernel_rfl) (T.less ?_ (fin (b7, b8) w5 ⟨(hk3.tr hn4.kept (fun _ _ x => x)).tr hn5.kept (fun _ _ x => x), by dsimp only; omega, by dsimp only; omega, (zz hn4).mv hn5.kept (fun x => x), zz hn5⟩))
      exact ⟨rfl, rfl, rfl, rfl, rfl, trivial⟩
    · refine U_make E rfl rfl (zs := [.int .u8 0]) rfl (N := 256) rfl rfl (by decide) (by decide) rfl rfl rfl ?_
      intro b8 w4 hn4
      refine U_nilL hc (fun _ => trivial) ?_
      refine L_op 0 (by kernel_rfl) rfl (fun hc => ?_)
      refine U_make E rfl rfl (zs := [.int .u8 0]) rfl (N := 256) rfl rfl (by decide) (by decide) rfl rfl rfl ?_
      intro b7 w5 hn5
      have e4 := hn4.at_
      have e5 := hn5.at_
      have s4 := hn4.size
      refine U_nilL hc (fun _ => trivial) ?_
      refine L_take 2 rfl (by kernel_rfl) (by kernel_rfl) (by kernel_rfl) (by kernel_rfl) trivial rfl rfl rfl (fun a ha w' _ => run_pv E ha rfl _ _ _ _ _) ?_
      refine L_take 3 rfl (by kernel_rfl) (by kernel_rfl) (by kernel_rfl) (by kernel_rfl) trivial rfl rfl rfl (fun a ha w' _ => run_pv E ha rfl _ _ _ _ _) ?_
      refine L_done (by kernel_rfl) (T.less ?_ (fin (b7, b8) w5 ⟨(hk3.tr hn4.kept (fun _ _ x => x)).tr hn5.kept (fun _ _ x => x), by dsimp only; omega, by dsimp only; omega, zz hn5, (zz hn4).mv hn5.kept (fun x => x)⟩))
      exact ⟨rfl, rfl, rfl, rfl, rfl, trivial⟩
  case fin =>
    rintro ⟨b70, b80⟩ w3 ⟨hk3, hb70, hb80, hz7, hz8⟩
    dsimp only at hb70 hb80 hz7 hz8 ⊢
    have hD3 := hD2.mv hk3 (fun _ _ _ x => x)
    have hk3' : Kept none0 w w3 := hk2'.tr hk3 (fun _ _ x => x)
    repeat (first | with_reducible refine T_seq ?_ | with_reducible refine T_region ?_ | with_reducible refine U_nil ?_ | refine U_ar rfl rfl rfl (wrap_i64 (by omega)) rfl ?_ | refine U_pure E rfl rfl ?_ | with_reducible refine T_skip ?_ | with_reducible refine T_inBlock ?_ | refine T_exit rfl ?_ | refine U_guard rfl rfl ?_ | with_reducible refine Gd_nt ?_ | with_reducible refine Gd_nf ?_ | with_reducible refine Gd_some ?_ | with_reducible refine Gd_none ?_ | with_reducible refine Gd_want ?_ | ((with_reducible refine Gd_skipT ?_ ?_); exact rfl) | ((with_reducible refine Gd_skipF ?_ ?_); exact rfl))
    refine T_via (α := Nat × Nat) (fun x => [(5, .pointer (some ⟨hb, 0, none⟩)), (1, .slice B keep.length c2), (7, .slice (some ⟨x.1, 0, none⟩) 256 256), (8, .slice (some ⟨x.2, 0, none⟩) 256 256)])
      (fun x w' => Kept none0 w w' ∧ ∃ ws want last, Ord keep ws want last ∧ ws.length < 1000 ∧ IsD w' (fun j => w1.heap.size ≤ j ∧ j ≠ x.1 ∧ j ≠ x.2) hb ⟨[zeros 256, zeros 256], ws, -1⟩ ∧ Blk w' x.1 (encBs want) 5 ∧ Blk w' x.2 (encBs last) 5) ?fin2 ?go2
    case go2 =>
      intro fin
      refine T_block ?_
      refine T_loop (α := Nat × Nat × Nat × World) (fun x => [(29, .int .i64 x.1), (28, .int .i64 vs.length), (27, .slice A vs.length c), (5, .pointer (some ⟨hb, 0, none⟩)), (1, .slice B keep.length c2), (7, .slice (some ⟨x.2.1, 0, none⟩) 256 256), (8, .slice (some ⟨x.2.2.1, 0, none⟩) 256 256)]) (fun x => x.2.2.2) (fun x => vs.length - x.1)
        (fun x => x.1 ≤ vs.length ∧ x.1 ≤ 8 ∧ Kept none0 w x.2.2.2 ∧ ∃ ws want last, Ord keep ws want last ∧ ws.length = x.1 ∧ IsD x.2.2.2 (fun j => w1.heap.size ≤ j ∧ j ≠ x.2.1 ∧ j ≠ x.2.2.1) hb ⟨[zeros 256, zeros 256], ws, -1⟩ ∧ Blk x.2.2.2 x.2.1 (encBs want) 5 ∧ Blk x.2.2.2 x.2.2.1 (encBs last) 5) (0, b70, b80, w3)
        ⟨Nat.zero_le _, Nat.zero_le _, hk3', [], _, _, Ord.nil keep, rfl, hD3.mono (fun b _ h => ⟨h.1, by have := h.2; dsimp only; omega, by have := h.2; dsimp only; omega⟩), hz7, hz8⟩ ⟨rfl, rfl, rfl, rfl, rfl, rfl, rfl, trivial⟩ rfl ?_
      rintro ⟨i, b7, b8, w4⟩ ⟨hi, hi8, hk4, ws, want, last, hO, hwl, hD4, hb7, hb8⟩ ih
      dsimp only at hi hi8 hk4 hwl hD4 hb7 hb8 ⊢
      repeat (first | with_reducible refine T_seq ?_ | with_reducible refine T_region ?_ | with_reducible refine U_nil ?_ | refine U_ar rfl rfl rfl (wrap_i64 (by omega)) rfl ?_ | refine U_pure E rfl rfl ?_ | with_reducible refine T_skip ?_ | with_reducible refine T_block ?_ | with_reducible refine T_inBlock ?_ | refine T_exit rfl ?_ | refine T_condV rfl ?_ | with_reducible refine Cnd_t ?_ | with_reducible refine Cnd_f ?_ | with_reducible refine Cnd_not ?_ | with_reducible refine Cnd_some ?_ | with_reducible refine Cnd_none ?_ | refine U_guard rfl rfl ?_ | with_reducible refine Gd_nt ?_ | with_reducible refine Gd_nf ?_ | with_reducible refine Gd_some ?_ | with_reducible refine Gd_none ?_ | with_reducible refine Gd_want ?_ | ((with_reducible refine Gd_skipT ?_ ?_); exact rfl) | ((with_reducible refine Gd_skipF ?_ ?_); exact rfl))
      refine Cnd_p (fun hlt => ?_) (fun hlt => ?_)
      · have hlt' : i < vs.length := by omega
        have hli : i < ls.length := by omega
        have hg : vs[(i : Int).toNat]? = some vs[i] := by rw [Int.toNat_natCast, List.getElem?_eq_getElem hlt']
        have hvi := (hs i _ _ (List.getElem?_eq_getElem hlt') (List.getElem?_eq_getElem hli)).mv hk4 (fun _ _ _ x => x)
        repeat (first | with_reducible refine T_seq ?_ | with_reducible refine T_region ?_ | with_reducible refine U_nil ?_ | refine U_ar rfl rfl rfl (wrap_i64 (by omega)) rfl ?_ | refine U_pure E rfl rfl ?_ | with_reducible refine T_skip ?_ | with_reducible refine T_block ?_ | with_reducible refine T_inBlock ?_ | refine T_exit rfl ?_ | refine T_condV rfl ?_ | with_reducible refine Cnd_t ?_ | with_reducible refine Cnd_f ?_ | with_reducible refine Cnd_not ?_ | with_reducible refine Cnd_some ?_ | with_reducible refine Cnd_none ?_ | refine U_guard rfl rfl ?_ | with_reducible refine Gd_nt ?_ | with_reducible refine Gd_nf ?_ | with_reducible refine Gd_some ?_ | with_reducible refine Gd_none ?_ | with_reducible refine Gd_want ?_ | ((with_reducible refine Gd_skipT ?_ ?_); exact rfl) | ((with_reducible refine Gd_skipF ?_ ?_); exact rfl))
        refine U_idx E (h1.mv hk4 (fun _ _ _ x => x)) rfl rfl rfl rfl (by omega) (by omega) (hg) rfl (fun pp hpp => ?_)
        refine U_load E rfl rfl rfl hpp rfl ?_
        repeat (first | with_reducible refine T_seq ?_ | with_reducible refine T_region ?_ | with_reducible refine U_nil ?_ | refine U_ar rfl rfl rfl (wrap_i64 (by omega)) rfl ?_ | refine U_pure E rfl rfl ?_ | with_reducible refine T_skip ?_ | with_reducible refine T_block ?_ | with_reducible refine T_inBlock ?_ | refine T_exit rfl ?_ | refine T_condV rfl ?_ | with_reducible refine Cnd_t ?_ | with_reducible refine Cnd_f ?_ | with_reducible refine Cnd_not ?_ | with_reducible refine Cnd_some ?_ | with_reducible refine Cnd_none ?_ | refine U_guard rfl rfl ?_ | with_reducible refine Gd_nt ?_ | with_reducible refine Gd_nf ?_ | with_reducible refine Gd_some ?_ | with_reducible refine Gd_none ?_ | with_reducible refine Gd_want ?_ | ((with_reducible refine Gd_skipT ?_ ?_); exact rfl) | ((with_reducible refine Gd_skipF ?_ ?_); exact rfl))
        refine Cnd_p (fun h8 => ?_) (fun h8 => ?_)
        · refine T_exit rfl ?_
          refine T.less ?_ (fin (b7, b8) w4 ⟨hk4, ws, want, last, hO, by omega, hD4, hb7, hb8⟩)
          exact ⟨rfl, rfl, rfl, rfl, trivial⟩
        · repeat (first | with_reducible refine T_seq ?_ | with_reducible refine T_region ?_ | with_reducible refine U_nil ?_ | refine U_ar rfl rfl rfl (wrap_i64 (by omega)) rfl ?_ | refine U_pure E rfl rfl ?_ | with_reducible refine T_skip ?_ | with_reducible refine T_block ?_ | with_reducible refine T_inBlock ?_ | refine T_exit rfl ?_ | refine T_condV rfl ?_ | with_reducible refine Cnd_t ?_ | with_reducible refine Cnd_f ?_ | with_reducible refine Cnd_not ?_ | with_reducible refine Cnd_some ?_ | with_reducible refine Cnd_none ?_ | refine U_guard rfl rfl ?_ | with_reducible refine Gd_nt ?_ | with_reducible refine Gd_nf ?_ | with_reducible refine Gd_some ?_ | with_reducible refine Gd_none ?_ | with_reducible refine Gd_want ?_ | ((with_reducible refine Gd_skipT ?_ ?_); exact rfl) | ((with_reducible refine Gd_skipF ?_ ?_); exact rfl))
          refine U_call rfl rfl (Try.call7 _) (cut_c w4 _ _ ls[i] 256 hvi (by decide)) ?_
          rintro rp w5 ⟨hk5, hrp⟩
          obtain ⟨P, hP⟩ : ∃ P, ls[i].take (Int.toNat 256) = P := ⟨_, rfl⟩
          have lP : P.length ≤ 256 := by rw [← hP, List.length_take]; omega
          rw [hP] at hrp
          have hbp := hrp.sl (n := P.length) (by omega)
          have hD5 : IsD w5 (fun j => w1.heap.size ≤ j ∧ j ≠ b7 ∧ j ≠ b8 ∧ j < w4.heap.size) hb _ := (hD4.mono (G := fun j => w1.heap.size ≤ j ∧ j ≠ b7 ∧ j ≠ b8 ∧ j < w4.heap.size) (fun b hb h => ⟨h.1, h.2.1, h.2.2, hb⟩)).mv hk5 (fun _ _ _ x => x)
          have hm5 := hD5.mem.1
          have ht5 := hD5.lt
          have hb75 := hb7.mv hk5 (fun x => x)
          have hb85 := hb8.mv hk5 (fun x => x)
          have l7 := hb75.lt
          have l8 := hb85.lt
          have s5 := hk5.size
          have s4 := hk4.size
          obtain ⟨f1, f2⟩ := wr_eq [zeros 256, zeros 256] ws 1 P (by simp) lP
          have hw6 := write_ok w5 _ hb _ _ rp P 1 hD5 hbp (fun b g1 g2 => by simp only [fresh] at g1; omega) f1 (by dsimp only; omega)
          rw [show wrDr ⟨[zeros 256, zeros 256], ws, -1⟩ 1 P = _ from f2] at hw6
          (try unfold ptr at *)
          repeat (first | with_reducible refine T_seq ?_ | with_reducible refine T_region ?_ | with_reducible refine U_nil ?_ | refine U_ar rfl rfl rfl (wrap_i64 (by omega)) rfl ?_ | refine U_pure E rfl rfl ?_ | with_reducible refine T_skip ?_ | with_reducible refine T_block ?_ | with_reducible refine T_inBlock ?_ | refine T_exit rfl ?_ | refine T_condV rfl ?_ | with_reducible refine Cnd_t ?_ | with_reducible refine Cnd_f ?_ | with_reducible refine Cnd_not ?_ | with_reducible refine Cnd_some ?_ | with_reducible refine Cnd_none ?_ | refine U_guard rfl rfl ?_ | with_reducible refine Gd_nt ?_ | with_reducible refine Gd_nf ?_ | with_reducible refine Gd_some ?_ | with_reducible refine Gd_none ?_ | with_reducible refine Gd_want ?_ | ((with_reducible refine Gd_skipT ?_ ?_); exact rfl) | ((with_reducible refine Gd_skipF ?_ ?_); exact rfl))
          refine U_call rfl rfl (Try.call9 _) (hw6) ?_
          rintro r w6 ⟨rfl, hk6, hD6⟩
          unfold errV
          have hb76 := hb75.mv hk6 (fun e => e.2.1 rfl)
          have hb86 := hb85.mv hk6 (fun e => e.2.2.1 rfl)
          have hbp6 := hbp.mv hk6 (fun b _ g1 g2 => by simp only [fresh] at g1; omega)
          have s6 := hk6.size
          have hD6 : IsD w6 (fun j => w1.heap.size ≤ j ∧ j ≠ b7 ∧ j ≠ b8 ∧ j < w6.heap.size) hb _ := hD6.mono (fun b hb h => h.elim (fun x => ⟨x.1, x.2.1, x.2.2.1, hb⟩) (fun x => ⟨by omega, by omega, by omega, hb⟩))
          have hk46 : Kept none0 w w6 := (hk4.tr hk5 (fun _ _ x => x)).tr hk6 (fun j hj e => by have := e.1; omega)
          repeat (first | with_reducible refine T_seq ?_ | with_reducible refine T_region ?_ | with_reducible refine U_nil ?_ | refine U_ar rfl rfl rfl (wrap_i64 (by omega)) rfl ?_ | refine U_pure E rfl rfl ?_ | with_reducible refine T_skip ?_ | with_reducible refine T_block ?_ | with_reducible refine T_inBlock ?_ | refine T_exit rfl ?_ | refine T_condV rfl ?_ | with_reducible refine Cnd_t ?_ | with_reducible refine Cnd_f ?_ | with_reducible refine Cnd_not ?_ | with_reducible refine Cnd_some ?_ | with_reducible refine Cnd_none ?_ | refine U_guard rfl rfl ?_ | with_reducible refine Gd_nt ?_ | with_reducible refine Gd_nf ?_ | with_reducible refine Gd_some ?_ | with_reducible refine Gd_none ?_ | with_reducible refine Gd_want ?_ | ((with_reducible refine Gd_skipT ?_ ?_); exact rfl) | ((with_reducible refine Gd_skipF ?_ ?_); exact rfl))
          refine U_call rfl rfl (Try.call13 _) (full_c w6 _ rp P hbp6) ?_
          rintro r w7 ⟨hk7, b9, hb9, rfl, hblk9⟩
          have hk7' : Kept none0 w w7 := hk46.tr hk7 (fun _ _ x => x)
          have hb77 := hb76.mv hk7 (fun x => x)
          have hD7 := hD6.mv hk7 (fun _ _ _ x => x)
          have l79 := hb76.lt
          have hO' := hO.snoc (sec P) (sec_len P)
          rw [hwl] at hO'
          have hdn : ∀ (x : Nat) (wt : List UInt8), (x = b7 ∨ x = b9) → (if keep[i]? = some true then sec P else want) = wt → Blk w7 x (encBs wt) 5 → i < 8 →
              (i + 1 ≤ vs.length ∧ i + 1 ≤ 8 ∧ Kept none0 w w7 ∧ ∃ ws want last, Ord keep ws want last ∧ ws.length = i + 1 ∧ IsD w7 (fun j => w1.heap.size ≤ j ∧ j ≠ x ∧ j ≠ b9) hb ⟨[zeros 256, zeros 256], ws, -1⟩ ∧ Blk w7 x (encBs want) 5 ∧ Blk w7 b9 (encBs last) 5) := by
            intro x wt hx hw hbx h8'
            rw [hw] at hO'
            exact ⟨hlt', h8', hk7', _, _, _, hO', by simp [hwl], hD7.mono (fun b _ h => ⟨h.1, by rcases hx with rfl | rfl <;> omega, by omega⟩), hbx, hblk9⟩
          repeat (first | with_reducible refine T_seq ?_ | with_reducible refine T_region ?_ | with_reducible refine U_nil ?_ | refine U_ar rfl rfl rfl (wrap_i64 (by omega)) rfl ?_ | refine U_pure E rfl rfl ?_ | with_reducible refine T_skip ?_ | with_reducible refine T_block ?_ | with_reducible refine T_inBlock ?_ | refine T_exit rfl ?_ | refine T_condV rfl ?_ | with_reducible refine Cnd_t ?_ | with_reducible refine Cnd_f ?_ | with_reducible refine Cnd_not ?_ | with_reducible refine Cnd_some ?_ | with_reducible refine Cnd_none ?_ | refine U_guard rfl rfl ?_ | with_reducible refine Gd_nt ?_ | with_reducible refine Gd_nf ?_ | with_reducible refine Gd_some ?_ | with_reducible refine Gd_none ?_ | with_reducible refine Gd_want ?_ | ((with_reducible refine Gd_skipT ?_ ?_); exact rfl) | ((with_reducible refine Gd_skipF ?_ ?_); exact rfl))
          refine Gd_p (fun hkk => ?_) (fun hkk => ?_)
          · have hik : i < keep.length := by omega
            repeat (first | with_reducible refine T_seq ?_ | with_reducible refine T_region ?_ | with_reducible refine U_nil ?_ | refine U_ar rfl rfl rfl (wrap_i64 (by omega)) rfl ?_ | refine U_pure E rfl rfl ?_ | with_reducible refine T_skip ?_ | with_reducible refine T_block ?_ | with_reducible refine T_inBlock ?_ | refine T_exit rfl ?_ | refine T_condV rfl ?_ | with_reducible refine Cnd_t ?_ | with_reducible refine Cnd_f ?_ | with_reducible refine Cnd_not ?_ | with_reducible refine Cnd_some ?_ | with_reducible refine Cnd_none ?_ | refine U_guard rfl rfl ?_ | with_reducible refine Gd_nt ?_ | with_reducible refine Gd_nf ?_ | with_reducible refine Gd_some ?_ | with_reducible refine Gd_none ?_ | with_reducible refine Gd_want ?_ | ((with_reducible refine Gd_skipT ?_ ?_); exact rfl) | ((with_reducible refine Gd_skipF ?_ ?_); exact rfl))
            refine U_idx E (h2.mv hk7' (fun _ _ _ x => x)) rfl rfl rfl rfl (by omega) (by omega) ((show (encBools keep)[(i : Int).toNat]? = some (.bool keep[i]) by rw [Int.toNat_natCast]; simp [encBools, hik])) rfl (fun q hq => ?_)
            repeat (first | with_reducible refine T_seq ?_ | with_reducible refine T_region ?_ | with_reducible refine U_nil ?_ | refine U_ar rfl rfl rfl (wrap_i64 (by omega)) rfl ?_ | refine U_pure E rfl rfl ?_ | with_reducible refine T_skip ?_ | with_reducible refine T_block ?_ | with_reducible refine T_inBlock ?_ | refine T_exit rfl ?_ | refine T_condV rfl ?_ | with_reducible refine Cnd_t ?_ | with_reducible refine Cnd_f ?_ | with_reducible refine Cnd_not ?_ | with_reducible refine Cnd_some ?_ | with_reducible refine Cnd_none ?_ | refine U_guard rfl rfl ?_ | with_reducible refine Gd_nt ?_ | with_reducible refine Gd_nf ?_ | with_reducible refine Gd_some ?_ | with_reducible refine Gd_none ?_ | with_reducible refine Gd_want ?_ | ((with_reducible refine Gd_skipT ?_ ?_); exact rfl) | ((with_reducible refine Gd_skipF ?_ ?_); exact rfl))
            refine U_load E rfl rfl rfl hq rfl ?_
            repeat (first | with_reducible refine T_seq ?_ | with_reducible refine T_region ?_ | with_reducible refine U_nil ?_ | refine U_ar rfl rfl rfl (wrap_i64 (by omega)) rfl ?_ | refine U_pure E rfl rfl ?_ | with_reducible refine T_skip ?_ | with_reducible refine T_block ?_ | with_reducible refine T_inBlock ?_ | refine T_exit rfl ?_ | refine T_condV rfl ?_ | with_reducible refine Cnd_t ?_ | with_reducible refine Cnd_f ?_ | with_reducible refine Cnd_not ?_ | with_reducible refine Cnd_some ?_ | with_reducible refine Cnd_none ?_ | refine U_guard rfl rfl ?_ | with_reducible refine Gd_nt ?_ | with_reducible refine Gd_nf ?_ | with_reducible refine Gd_some ?_ | with_reducible refine Gd_none ?_ | with_reducible refine Gd_want ?_ | ((with_reducible refine Gd_skipT ?_ ?_); exact rfl) | ((with_reducible refine Gd_skipF ?_ ?_); exact rfl))
            refine Cnd_b (fun hkb => ?_) (fun hkb => ?_)
            · have hki : keep[i]? = some true := by rw [List.getElem?_eq_getElem hik, hkb]
              repeat (first | with_reducible refine T_seq ?_ | with_reducible refine T_region ?_ | with_reducible refine U_nil ?_ | refine U_ar rfl rfl rfl (wrap_i64 (by omega)) rfl ?_ | refine U_pure E rfl rfl ?_ | with_reducible refine T_skip ?_ | with_reducible refine T_block ?_ | with_reducible refine T_inBlock ?_ | refine T_exit rfl ?_ | refine T_condV rfl ?_ | with_reducible refine Cnd_t ?_ | with_reducible refine Cnd_f ?_ | with_reducible refine Cnd_not ?_ | with_reducible refine Cnd_some ?_ | with_reducible refine Cnd_none ?_ | refine U_guard rfl rfl ?_ | with_reducible refine Gd_nt ?_ | with_reducible refine Gd_nf ?_ | with_reducible refine Gd_some ?_ | with_reducible refine Gd_none ?_ | with_reducible refine Gd_want ?_ | ((with_reducible refine Gd_skipT ?_ ?_); exact rfl) | ((with_reducible refine Gd_skipF ?_ ?_); exact rfl))
              refine T.less ?_ (ih (i + 1, b9, b9, w7) (hdn b9 (sec P) (.inr rfl) (if_pos hki) hblk9 (by omega)) (by dsimp only; omega))
              exact ⟨rfl, rfl, rfl, rfl, rfl, rfl, rfl, trivial⟩
            · have hki : ¬ keep[i]? = some true := by rw [List.getElem?_eq_getElem hik, hkb]; simp
              repeat (first | with_reducible refine T_seq ?_ | with_reducible refine T_region ?_ | with_reducible refine U_nil ?_ | refine U_ar rfl rfl rfl (wrap_i64 (by omega)) rfl ?_ | refine U_pure E rfl rfl ?_ | with_reducible refine T_skip ?_ | with_reducible refine T_block ?_ | with_reducible refine T_inBlock ?_ | refine T_exit rfl ?_ | refine T_condV rfl ?_ | with_reducible refine Cnd_t ?_ | with_reducible refine Cnd_f ?_ | with_reducible refine Cnd_not ?_ | with_reducible refine Cnd_some ?_ | with_reducible refine Cnd_none ?_ | refine U_guard rfl rfl ?_ | with_reducible refine Gd_nt ?_ | with_reducible refine Gd_nf ?_ | with_reducible refine Gd_some ?_ | with_reducible refine Gd_none ?_ | with_reducible refine Gd_want ?_ | ((with_reducible refine Gd_skipT ?_ ?_); exact rfl) | ((with_reducible refine Gd_skipF ?_ ?_); exact rfl))
              refine T.less ?_ (ih (i + 1, b7, b9, w7) (hdn b7 want (.inl rfl) (if_neg hki) hb77 (by omega)) (by dsimp only; omega))
              exact ⟨rfl, rfl, rfl, rfl, rfl, rfl, rfl, trivial⟩
          · have hki : ¬ keep[i]? = some true := by rw [List.getElem?_eq_none (by omega)]; simp
            repeat (first | with_reducible refine T_seq ?_ | with_reducible refine T_region ?_ | with_reducible refine U_nil ?_ | refine U_ar rfl rfl rfl (wrap_i64 (by omega)) rfl ?_ | refine U_pure E rfl rfl ?_ | with_reducible refine T_skip ?_ | with_reducible refine T_block ?_ | with_reducible refine T_inBlock ?_ | refine T_exit rfl ?_ | refine T_condV rfl ?_ | with_reducible refine Cnd_t ?_ | with_reducible refine Cnd_f ?_ | with_reducible refine Cnd_not ?_ | with_reducible refine Cnd_some ?_ | with_reducible refine Cnd_none ?_ | refine U_guard rfl rfl ?_ | with_reducible refine Gd_nt ?_ | with_reducible refine Gd_nf ?_ | with_reducible refine Gd_some ?_ | with_reducible refine Gd_none ?_ | with_reducible refine Gd_want ?_ | ((with_reducible refine Gd_skipT ?_ ?_); exact rfl) | ((with_reducible refine Gd_skipF ?_ ?_); exact rfl))
            refine T.less ?_ (ih (i + 1, b7, b9, w7) (hdn b7 want (.inl rfl) (if_neg hki) hb77 (by omega)) (by dsimp only; omega))
            exact ⟨rfl, rfl, rfl, rfl, rfl, rfl, rfl, trivial⟩
      · refine T_exit rfl ?_
        refine T.less ?_ (fin (b7, b8) w4 ⟨hk4, ws, want, last, hO, by omega, hD4, hb7, hb8⟩)
        exact ⟨rfl, rfl, rfl, rfl, trivial⟩
    case fin2 =>
      rintro ⟨b7, b8⟩ w4 ⟨hk4, ws, want, last, hO, hwl, hD4, hb7, hb8⟩
      dsimp only at hD4 hb7 hb8 ⊢
      have s4 := hk4.size
      have hfl := fall_c w4 _ hb _ _ _ keep (-1) hD4 (h2.mv hk4 (fun _ _ _ x => x))
      rw [hO.drFall] at hfl
      (try unfold ptr at *)
      repeat (first | with_reducible refine T_seq ?_ | with_reducible refine T_region ?_ | with_reducible refine U_nil ?_ | refine U_ar rfl rfl rfl (wrap_i64 (by omega)) rfl ?_ | refine U_pure E rfl rfl ?_ | with_reducible refine T_skip ?_ | with_reducible refine T_block ?_ | with_reducible refine T_inBlock ?_ | refine T_exit rfl ?_ | refine T_condV rfl ?_ | with_reducible refine Cnd_t ?_ | with_reducible refine Cnd_f ?_ | with_reducible refine Cnd_not ?_ | with_reducible refine Cnd_some ?_ | with_reducible refine Cnd_none ?_ | refine U_guard rfl rfl ?_ | with_reducible refine Gd_nt ?_ | with_reducible refine Gd_nf ?_ | with_reducible refine Gd_some ?_ | with_reducible refine Gd_none ?_ | with_reducible refine Gd_want ?_ | ((with_reducible refine Gd_skipT ?_ ?_); exact rfl) | ((with_reducible refine Gd_skipF ?_ ?_); exact rfl))
      refine U_call rfl rfl (Try.call11 _) (hfl) ?_
      rintro r w5 ⟨hk5, hx, rfl, hX5⟩
      have hX5 := hX5.tight
      have s5 := hk5.size
      have hD5 : IsD w5 (fun j => (w1.heap.size ≤ j ∧ j ≠ b7 ∧ j ≠ b8) ∧ j < w4.heap.size) hb _ := (hD4.mono (G := fun j => (w1.heap.size ≤ j ∧ j ≠ b7 ∧ j ≠ b8) ∧ j < w4.heap.size) (fun b hb h => ⟨h, hb⟩)).mv hk5 (fun _ _ _ x => x)
      have hrx := read_c w5 _ hx _ 1 hX5 (by simp)
      (try unfold ptr at *)
      repeat (first | with_reducible refine T_seq ?_ | with_reducible refine T_region ?_ | with_reducible refine U_nil ?_ | refine U_ar rfl rfl rfl (wrap_i64 (by omega)) rfl ?_ | refine U_pure E rfl rfl ?_ | with_reducible refine T_skip ?_ | with_reducible refine T_block ?_ | with_reducible refine T_inBlock ?_ | refine T_exit rfl ?_ | refine T_condV rfl ?_ | with_reducible refine Cnd_t ?_ | with_reducible refine Cnd_f ?_ | with_reducible refine Cnd_not ?_ | with_reducible refine Cnd_some ?_ | with_reducible refine Cnd_none ?_ | refine U_guard rfl rfl ?_ | with_reducible refine Gd_nt ?_ | with_reducible refine Gd_nf ?_ | with_reducible refine Gd_some ?_ | with_reducible refine Gd_none ?_ | with_reducible refine Gd_want ?_ | ((with_reducible refine Gd_skipT ?_ ?_); exact rfl) | ((with_reducible refine Gd_skipF ?_ ?_); exact rfl))
      refine U_call rfl rfl (Try.call12 _) (hrx) ?_
      rintro r w6 ⟨bx, rfl, hbx, hblkx, hk6⟩
      have hX6 := hX5.mv hk6 (fun _ _ _ x => x)
      have hD6 := hD5.mv hk6 (fun _ _ _ x => x)
      have hry := read_c w6 _ hb _ 1 hD6 (by simp)
      (try unfold ptr at *)
      repeat (first | with_reducible refine T_seq ?_ | with_reducible refine T_region ?_ | with_reducible refine U_nil ?_ | refine U_ar rfl rfl rfl (wrap_i64 (by omega)) rfl ?_ | refine U_pure E rfl rfl ?_ | with_reducible refine T_skip ?_ | with_reducible refine T_block ?_ | with_reducible refine T_inBlock ?_ | refine T_exit rfl ?_ | refine T_condV rfl ?_ | with_reducible refine Cnd_t ?_ | with_reducible refine Cnd_f ?_ | with_reducible refine Cnd_not ?_ | with_reducible refine Cnd_some ?_ | with_reducible refine Cnd_none ?_ | refine U_guard rfl rfl ?_ | with_reducible refine Gd_nt ?_ | with_reducible refine Gd_nf ?_ | with_reducible refine Gd_some ?_ | with_reducible refine Gd_none ?_ | with_reducible refine Gd_want ?_ | ((with_reducible refine Gd_skipT ?_ ?_); exact rfl) | ((with_reducible refine Gd_skipF ?_ ?_); exact rfl))
      refine U_call rfl rfl (Try.call12 _) (hry) ?_
      rintro r w7 ⟨bY, rfl, hbY, hblky, hk7⟩
      have hX7 := hX6.mv hk7 (fun _ _ _ x => x)
      have hD7 := hD6.mv hk7 (fun _ _ _ x => x)
      have s6 := hk6.size
      have hf8 := flush_ok w7 _ hb _ hD7 (by simp)
      (try unfold ptr at *)
      repeat (first | with_reducible refine T_seq ?_ | with_reducible refine T_region ?_ | with_reducible refine U_nil ?_ | refine U_ar rfl rfl rfl (wrap_i64 (by omega)) rfl ?_ | refine U_pure E rfl rfl ?_ | with_reducible refine T_skip ?_ | with_reducible refine T_block ?_ | with_reducible refine T_inBlock ?_ | refine T_exit rfl ?_ | refine T_condV rfl ?_ | with_reducible refine Cnd_t ?_ | with_reducible refine Cnd_f ?_ | with_reducible refine Cnd_not ?_ | with_reducible refine Cnd_some ?_ | with_reducible refine Cnd_none ?_ | refine U_guard rfl rfl ?_ | with_reducible refine Gd_nt ?_ | with_reducible refine Gd_nf ?_ | with_reducible refine Gd_some ?_ | with_reducible refine Gd_none ?_ | with_reducible refine Gd_want ?_ | ((with_reducible refine Gd_skipT ?_ ?_); exact rfl) | ((with_reducible refine Gd_skipF ?_ ?_); exact rfl))
      refine U_call rfl rfl (Try.call10 _) (hf8) ?_
      rintro r w8 ⟨rfl, hk8, hD8⟩
      dsimp only at hD8 hblkx hblky
      rw [hO.app] at hD8
      rw [hO.now] at hblky
      have hblkx : Blk w6 bx (encBs want) 55 := hblkx
      unfold errV
      have hX8 := hX7.mv hk8 (fun b _ g1 g2 => by have := g1.1; have := g2.2; omega)
      have hrz := read_c w8 _ hb _ 1 hD8 (by simp)
      (try unfold ptr at *)
      repeat (first | with_reducible refine T_seq ?_ | with_reducible refine T_region ?_ | with_reducible refine U_nil ?_ | refine U_ar rfl rfl rfl (wrap_i64 (by omega)) rfl ?_ | refine U_pure E rfl rfl ?_ | with_reducible refine T_skip ?_ | with_reducible refine T_block ?_ | with_reducible refine T_inBlock ?_ | refine T_exit rfl ?_ | refine T_condV rfl ?_ | with_reducible refine Cnd_t ?_ | with_reducible refine Cnd_f ?_ | with_reducible refine Cnd_not ?_ | with_reducible refine Cnd_some ?_ | with_reducible refine Cnd_none ?_ | refine U_guard rfl rfl ?_ | with_reducible refine Gd_nt ?_ | with_reducible refine Gd_nf ?_ | with_reducible refine Gd_some ?_ | with_reducible refine Gd_none ?_ | with_reducible refine Gd_want ?_ | ((with_reducible refine Gd_skipT ?_ ?_); exact rfl) | ((with_reducible refine Gd_skipF ?_ ?_); exact rfl))
      refine U_call rfl rfl (Try.call12 _) (hrz) ?_
      rintro r w9 ⟨bz, rfl, hbz, hblkz, hk9⟩
      dsimp only at hblkz
      have hblkz : Blk w9 bz (encBs last) 55 := hblkz
      have hD9 := hD8.mv hk9 (fun _ _ _ x => x)
      have hX9 := hX8.mv hk9 (fun _ _ _ x => x)
      have hk47 : Kept none0 w4 w7 := (hk5.tr hk6 (fun _ _ x => x)).tr hk7 (fun _ _ x => x)
      have l7 := hb7.lt
      have l8 := hb8.lt
      have hb79 := ((hb7.mv hk47 (fun x => x)).mv hk8 (fun e => e.1.2.1 rfl)).mv hk9 (fun x => x)
      have hb89 := ((hb8.mv hk47 (fun x => x)).mv hk8 (fun e => e.1.2.2 rfl)).mv hk9 (fun x => x)
      have hbx9 := ((hblkx.mv hk7 (fun x => x)).mv hk8 (fun e => by have := e.2; omega)).mv hk9 (fun x => x)
      have hby9 := (hblky.mv hk8 (fun e => by have := e.2; omega)).mv hk9 (fun x => x)
      have q7 : BS w9 (fun _ => True) (.slice (some ⟨b7, 0, none⟩) 256 256) want := blk_bs hb79 hO.lw trivial
      have q8 : BS w9 (fun _ => True) (.slice (some ⟨b8, 0, none⟩) 256 256) last := blk_bs hb89 hO.ll trivial
      have qx : BS w9 (fun _ => True) (.slice (some ⟨bx, 0, none⟩) 256 256) want := blk_bs hbx9 hO.lw trivial
      have qy : BS w9 (fun _ => True) (.slice (some ⟨bY, 0, none⟩) 256 256) last := blk_bs hby9 hO.ll trivial
      have qz : BS w9 (fun _ => True) (.slice (some ⟨bz, 0, none⟩) 256 256) last := blk_bs hblkz hO.ll trivial
      have hkend : Kept none0 w w9 := (((hk4.tr hk47 (fun _ _ x => x)).tr hk8 (fun j hj e => by have := e.1.1; omega)).tr hk9 (fun _ _ x => x))
      repeat (first | with_reducible refine T_seq ?_ | with_reducible refine T_region ?_ | with_reducible refine U_nil ?_ | refine U_ar rfl rfl rfl (wrap_i64 (by omega)) rfl ?_ | refine U_pure E rfl rfl ?_ | with_reducible refine T_skip ?_ | with_reducible refine T_block ?_ | with_reducible refine T_inBlock ?_ | refine T_exit rfl ?_ | refine T_condV rfl ?_ | with_reducible refine Cnd_t ?_ | with_reducible refine Cnd_f ?_ | with_reducible refine Cnd_not ?_ | with_reducible refine Cnd_some ?_ | with_reducible refine Cnd_none ?_ | refine U_guard rfl rfl ?_ | with_reducible refine Gd_nt ?_ | with_reducible refine Gd_nf ?_ | with_reducible refine Gd_some ?_ | with_reducible refine Gd_none ?_ | with_reducible refine Gd_want ?_ | ((with_reducible refine Gd_skipT ?_ ?_); exact rfl) | ((with_reducible refine Gd_skipF ?_ ?_); exact rfl))
      refine U_call rfl rfl (Try.call14 _) (ret_of (same_c w9 _ _ _ _ _ _ qx q7)) ?_
      rintro r w10 ⟨rfl, hd10⟩
      have hk10 := hd10.kept none0
      repeat (first | with_reducible refine T_seq ?_ | with_reducible refine T_region ?_ | with_reducible refine U_nil ?_ | refine U_ar rfl rfl rfl (wrap_i64 (by omega)) rfl ?_ | refine U_pure E rfl rfl ?_ | with_reducible refine T_skip ?_ | with_reducible refine T_block ?_ | with_reducible refine T_inBlock ?_ | refine T_exit rfl ?_ | refine T_condV rfl ?_ | with_reducible refine Cnd_t ?_ | with_reducible refine Cnd_f ?_ | with_reducible refine Cnd_not ?_ | with_reducible refine Cnd_some ?_ | with_reducible refine Cnd_none ?_ | refine U_guard rfl rfl ?_ | with_reducible refine Gd_nt ?_ | with_reducible refine Gd_nf ?_ | with_reducible refine Gd_some ?_ | with_reducible refine Gd_none ?_ | with_reducible refine Gd_want ?_ | ((with_reducible refine Gd_skipT ?_ ?_); exact rfl) | ((with_reducible refine Gd_skipF ?_ ?_); exact rfl))
      refine Gd_p (fun g1 => ?_) (fun g1 => ?_)
      · repeat (first | with_reducible refine T_seq ?_ | with_reducible refine T_region ?_ | with_reducible refine U_nil ?_ | refine U_ar rfl rfl rfl (wrap_i64 (by omega)) rfl ?_ | refine U_pure E rfl rfl ?_ | with_reducible refine T_skip ?_ | with_reducible refine T_block ?_ | with_reducible refine T_inBlock ?_ | refine T_exit rfl ?_ | refine T_condV rfl ?_ | with_reducible refine Cnd_t ?_ | with_reducible refine Cnd_f ?_ | with_reducible refine Cnd_not ?_ | with_reducible refine Cnd_some ?_ | with_reducible refine Cnd_none ?_ | refine U_guard rfl rfl ?_ | with_reducible refine Gd_nt ?_ | with_reducible refine Gd_nf ?_ | with_reducible refine Gd_some ?_ | with_reducible refine Gd_none ?_ | with_reducible refine Gd_want ?_ | ((with_reducible refine Gd_skipT ?_ ?_); exact rfl) | ((with_reducible refine Gd_skipF ?_ ?_); exact rfl))
        refine U_call rfl rfl (Try.call14 _) (ret_of (same_c w10 _ _ _ _ _ _ (qy.mv hk10 (fun _ _ _ x => x)) (q8.mv hk10 (fun _ _ _ x => x)))) ?_
        rintro r w11 ⟨rfl, hd11⟩
        have hk11 : Kept none0 w9 w11 := hk10.tr (hd11.kept none0) (fun _ _ x => x)
        repeat (first | with_reducible refine T_seq ?_ | with_reducible refine T_region ?_ | with_reducible refine U_nil ?_ | refine U_ar rfl rfl rfl (wrap_i64 (by omega)) rfl ?_ | refine U_pure E rfl rfl ?_ | with_reducible refine T_skip ?_ | with_reducible refine T_block ?_ | with_reducible refine T_inBlock ?_ | refine T_exit rfl ?_ | refine T_condV rfl ?_ | with_reducible refine Cnd_t ?_ | with_reducible refine Cnd_f ?_ | with_reducible refine Cnd_not ?_ | with_reducible refine Cnd_some ?_ | with_reducible refine Cnd_none ?_ | refine U_guard rfl rfl ?_ | with_reducible refine Gd_nt ?_ | with_reducible refine Gd_nf ?_ | with_reducible refine Gd_some ?_ | with_reducible refine Gd_none ?_ | with_reducible refine Gd_want ?_ | ((with_reducible refine Gd_skipT ?_ ?_); exact rfl) | ((with_reducible refine Gd_skipF ?_ ?_); exact rfl))
        refine Gd_p (fun g2 => ?_) (fun g2 => ?_)
        · repeat (first | with_reducible refine T_seq ?_ | with_reducible refine T_region ?_ | with_reducible refine U_nil ?_ | refine U_ar rfl rfl rfl (wrap_i64 (by omega)) rfl ?_ | refine U_pure E rfl rfl ?_ | with_reducible refine T_skip ?_ | with_reducible refine T_block ?_ | with_reducible refine T_inBlock ?_ | refine T_exit rfl ?_ | refine T_condV rfl ?_ | with_reducible refine Cnd_t ?_ | with_reducible refine Cnd_f ?_ | with_reducible refine Cnd_not ?_ | with_reducible refine Cnd_some ?_ | with_reducible refine Cnd_none ?_ | refine U_guard rfl rfl ?_ | with_reducible refine Gd_nt ?_ | with_reducible refine Gd_nf ?_ | with_reducible refine Gd_some ?_ | with_reducible refine Gd_none ?_ | with_reducible refine Gd_want ?_ | ((with_reducible refine Gd_skipT ?_ ?_); exact rfl) | ((with_reducible refine Gd_skipF ?_ ?_); exact rfl))
          refine U_call rfl rfl (Try.call14 _) (ret_of (same_c w11 _ _ _ _ _ _ (qz.mv hk11 (fun _ _ _ x => x)) (q8.mv hk11 (fun _ _ _ x => x)))) ?_
          rintro r w12 ⟨rfl, hd12⟩
          have hk12 : Kept none0 w9 w12 := hk11.tr (hd12.kept none0) (fun _ _ x => x)
          have hcl := clean_c w12 _ hx _ 0 (hX9.mv hk12 (fun _ _ _ x => x)) (by simp)
          (try unfold ptr at *)
          repeat (first | with_reducible refine T_seq ?_ | with_reducible refine T_region ?_ | with_reducible refine U_nil ?_ | refine U_ar rfl rfl rfl (wrap_i64 (by omega)) rfl ?_ | refine U_pure E rfl rfl ?_ | with_reducible refine T_skip ?_ | with_reducible refine T_block ?_ | with_reducible refine T_inBlock ?_ | refine T_exit rfl ?_ | refine T_condV rfl ?_ | with_reducible refine Cnd_t ?_ | with_reducible refine Cnd_f ?_ | with_reducible refine Cnd_not ?_ | with_reducible refine Cnd_some ?_ | with_reducible refine Cnd_none ?_ | refine U_guard rfl rfl ?_ | with_reducible refine Gd_nt ?_ | with_reducible refine Gd_nf ?_ | with_reducible refine Gd_some ?_ | with_reducible refine Gd_none ?_ | with_reducible refine Gd_want ?_ | ((with_reducible refine Gd_skipT ?_ ?_); exact rfl) | ((with_reducible refine Gd_skipF ?_ ?_); exact rfl))
          refine Gd_p (fun g3 => ?_) (fun g3 => ?_)
          · repeat (first | with_reducible refine T_seq ?_ | with_reducible refine T_region ?_ | with_reducible refine U_nil ?_ | refine U_ar rfl rfl rfl (wrap_i64 (by omega)) rfl ?_ | refine U_pure E rfl rfl ?_ | with_reducible refine T_skip ?_ | with_reducible refine T_block ?_ | with_reducible refine T_inBlock ?_ | refine T_exit rfl ?_ | refine T_condV rfl ?_ | with_reducible refine Cnd_t ?_ | with_reducible refine Cnd_f ?_ | with_reducible refine Cnd_not ?_ | with_reducible refine Cnd_some ?_ | with_reducible refine Cnd_none ?_ | refine U_guard rfl rfl ?_ | with_reducible refine Gd_nt ?_ | with_reducible refine Gd_nf ?_ | with_reducible refine Gd_some ?_ | with_reducible refine Gd_none ?_ | with_reducible refine Gd_want ?_ | ((with_reducible refine Gd_skipT ?_ ?_); exact rfl) | ((with_reducible refine Gd_skipF ?_ ?_); exact rfl))
            refine U_call rfl rfl (Try.call17 _) (hcl) ?_
            rintro r w13 ⟨rfl, hk13⟩
            have hk13' : Kept none0 w9 w13 := hk12.tr hk13 (fun _ _ x => x)
            rw [show (nowS [zeros 256, want] [] 0 == zeros 256) = true from beq_iff_eq.2 rfl]
            have hdd := dirty_c w13 _ hb _ (hD9.mv hk13' (fun _ _ _ x => x))
            (try unfold ptr at *)
            repeat (first | with_reducible refine T_seq ?_ | with_reducible refine T_region ?_ | with_reducible refine U_nil ?_ | refine U_ar rfl rfl rfl (wrap_i64 (by omega)) rfl ?_ | refine U_pure E rfl rfl ?_ | with_reducible refine T_skip ?_ | with_reducible refine T_block ?_ | with_reducible refine T_inBlock ?_ | refine T_exit rfl ?_ | refine T_condV rfl ?_ | with_reducible refine Cnd_t ?_ | with_reducible refine Cnd_f ?_ | with_reducible refine Cnd_not ?_ | with_reducible refine Cnd_some ?_ | with_reducible refine Cnd_none ?_ | refine U_guard rfl rfl ?_ | with_reducible refine Gd_nt ?_ | with_reducible refine Gd_nf ?_ | with_reducible refine Gd_some ?_ | with_reducible refine Gd_none ?_ | with_reducible refine Gd_want ?_ | ((with_reducible refine Gd_skipT ?_ ?_); exact rfl) | ((with_reducible refine Gd_skipF ?_ ?_); exact rfl))
            refine U_call rfl rfl (Try.call16 _) (ret_of hdd) ?_
            rintro r w14 ⟨rfl, rfl⟩
            repeat (first | with_reducible refine T_seq ?_ | with_reducible refine T_region ?_ | with_reducible refine U_nil ?_ | refine U_ar rfl rfl rfl (wrap_i64 (by omega)) rfl ?_ | refine U_pure E rfl rfl ?_ | with_reducible refine T_skip ?_ | with_reducible refine T_block ?_ | with_reducible refine T_inBlock ?_ | refine T_exit rfl ?_ | refine T_condV rfl ?_ | with_reducible refine Cnd_t ?_ | with_reducible refine Cnd_f ?_ | with_reducible refine Cnd_not ?_ | with_reducible refine Cnd_some ?_ | with_reducible refine Cnd_none ?_ | refine U_guard rfl rfl ?_ | with_reducible refine Gd_nt ?_ | with_reducible refine Gd_nf ?_ | with_reducible refine Gd_some ?_ | with_reducible refine Gd_none ?_ | with_reducible refine Gd_want ?_ | ((with_reducible refine Gd_skipT ?_ ?_); exact rfl) | ((with_reducible refine Gd_skipF ?_ ?_); exact rfl))
            exact T_ret1 Try.func4 rfl rfl ⟨_, rfl, rfl, hkend.tr hk13' (fun _ _ x => x)⟩
          · exact absurd rfl g3
        · exact absurd rfl g2
      · exact absurd rfl g1
end Go.Proofs.Ytoefhdaenaiomaa
