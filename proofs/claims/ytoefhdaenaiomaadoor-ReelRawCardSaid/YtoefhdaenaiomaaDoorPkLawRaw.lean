/- ReelRaw: the walk. -/
import Derived.Test.YtoefhdaenaiomaaDoorPk14
import Derived.Test.YtoefhdaenaiomaaDoorPkReelR
set_option linter.unusedVariables false
set_option linter.unusedSimpArgs false
namespace Go.Proofs.YtoefhdaenaiomaaDoor
open Go
set_option maxRecDepth 20000

theorem wr_any {D : Dr} {i : Nat} {p : List UInt8} (h : On D) (hi : i < D.l.length) (hp : p.length ≤ 256) : On (wrDr D (i : Int) p) ∧ (wrDr D (i : Int) p).l.length = D.l.length ∧ (wrDr D (i : Int) p).wait.length ≤ D.wait.length + 1 := by
  obtain ⟨e0, e1, e2, e3⟩ := wr_on (p := p) h hi hp
  exact ⟨e1, by rw [e2], wrDr_wait _ _ _⟩

set_option maxHeartbeats 8000000 in
theorem raw_c (w : World) (G Hp Hg : Nat → Prop) (vl vp vg : Value) (l : List (List UInt8)) (pl gs : List UInt8) (n : Nat) (hl : RS w G vl l) (hp : BS w Hp vp pl) (hg : BS w Hg vg gs) (ha : n < 256) (hL : Laid w) :
    Calls Tryd.prog 15 [.int .u8 n, vl, vp, vg].toArray w (Ret fun r w' => r = .bool true ∧ Kept none0 w w') := by
  obtain ⟨vs, a1, a2, a3⟩ := hl
  obtain ⟨A, c, rfl⟩ := a2.len
  obtain ⟨B, cb, rfl⟩ := hp.len
  obtain ⟨C, cc, rfl⟩ := hg.len
  have hvl := a2.1
  have hpl := hp.1
  have hgl := hg.1
  refine calls_T Tryd.func15 rfl rfl rfl ?_
  repeat (first | (with_reducible first | apply T_seq | apply T_region | apply U_nil | apply T_skip | apply T_block | apply T_inBlock | apply Cnd_t | apply Cnd_f | apply Cnd_not | apply Cnd_some | apply Cnd_none | apply Gd_nt | apply Gd_nf | apply Gd_some | apply Gd_none | apply Gd_want) | refine U_ar rfl rfl rfl (wrap_k (by simp only [wrapOk]; omega)) rfl ?_ | refine U_cv E rfl rfl rfl (wrap_k (by simp only [wrapOk]; omega)) rfl ?_ | refine U_pure E rfl rfl ?_ | refine T_exit rfl ?_ | refine T_condV rfl ?_ | refine U_guard rfl rfl ?_ | ((with_reducible refine Gd_skipT ?_ ?_); exact rfl) | ((with_reducible refine Gd_skipF ?_ ?_); exact rfl))
  refine U_call rfl rfl (Tryd.call48 _) (awake15_c w) ?_
  rintro r w1 ⟨rfl, k1⟩
  repeat (first | (with_reducible first | apply T_seq | apply T_region | apply U_nil | apply T_skip | apply T_block | apply T_inBlock | apply Cnd_t | apply Cnd_f | apply Cnd_not | apply Cnd_some | apply Cnd_none | apply Gd_nt | apply Gd_nf | apply Gd_some | apply Gd_none | apply Gd_want) | refine U_ar rfl rfl rfl (wrap_k (by simp only [wrapOk]; omega)) rfl ?_ | refine U_cv E rfl rfl rfl (wrap_k (by simp only [wrapOk]; omega)) rfl ?_ | refine U_pure E rfl rfl ?_ | refine T_exit rfl ?_ | refine T_condV rfl ?_ | refine U_guard rfl rfl ?_ | ((with_reducible refine Gd_skipT ?_ ?_); exact rfl) | ((with_reducible refine Gd_skipF ?_ ?_); exact rfl))
  refine U_run rfl rfl rfl (ro_bin (r := .int .u8 (n % 20 : Nat)) rfl rfl (by exact run_rem (y := 20) (by decide))) ?_
  repeat (first | (with_reducible first | apply T_seq | apply T_region | apply U_nil | apply T_skip | apply T_block | apply T_inBlock | apply Cnd_t | apply Cnd_f | apply Cnd_not | apply Cnd_some | apply Cnd_none | apply Gd_nt | apply Gd_nf | apply Gd_some | apply Gd_none | apply Gd_want) | refine U_ar rfl rfl rfl (wrap_k (by simp only [wrapOk]; omega)) rfl ?_ | refine U_cv E rfl rfl rfl (wrap_k (by simp only [wrapOk]; omega)) rfl ?_ | refine U_pure E rfl rfl ?_ | refine T_exit rfl ?_ | refine T_condV rfl ?_ | refine U_guard rfl rfl ?_ | ((with_reducible refine Gd_skipT ?_ ?_); exact rfl) | ((with_reducible refine Gd_skipF ?_ ?_); exact rfl))
  obtain ⟨S, hS⟩ : ∃ S : Nat, 6 + n % 20 = S := ⟨_, rfl⟩
  refine U_call rfl rfl (Tryd.call24 _) (new_c w1 (6 + ((n % 20 : Nat) : Int)) (by omega)) ?_
  rintro r w2 ⟨k2, hdb, rfl, hD2⟩
  have hD2 := hD2.dm
  rw [show ((6 : Int) + ((n % 20 : Nat) : Int)).toNat = S by omega] at hD2
  have k02 : Kept none0 w w2 := k1.tr k2 (fun _ _ x => x)
  have s1 := k1.size
  unfold ptr at *
  repeat (first | (with_reducible first | apply T_seq | apply T_region | apply U_nil | apply T_skip | apply T_inBlock | apply Cnd_t | apply Cnd_f | apply Cnd_not | apply Cnd_some | apply Cnd_none | apply Gd_nt | apply Gd_nf | apply Gd_some | apply Gd_none | apply Gd_want) | refine U_ar rfl rfl rfl (wrap_k (by simp only [wrapOk]; omega)) rfl ?_ | refine U_cv E rfl rfl rfl (wrap_k (by simp only [wrapOk]; omega)) rfl ?_ | refine U_pure E rfl rfl ?_ | refine T_exit rfl ?_ | refine T_condV rfl ?_ | refine U_guard rfl rfl ?_ | ((with_reducible refine Gd_skipT ?_ ?_); exact rfl) | ((with_reducible refine Gd_skipF ?_ ?_); exact rfl))
  refine T_via (α := (Nat → Prop) × Dr) (fun x => [(10, .pointer (some ⟨hdb, 0, none⟩)), (9, .int .i64 (6 + ((n % 20 : Nat) : Int)))])
    (fun x w' => Kept none0 w w' ∧ (∀ b, x.1 b → w.heap.size ≤ b) ∧ Dm w' x.1 hdb x.2 ∧ On x.2 ∧ x.2.l.length = S ∧ x.2.wait.length ≤ 8) ?fin ?go
  case go =>
    intro fin
    refine T_block ?_
    refine T_loop (α := Nat × ((Nat → Prop) × Dr) × World) (fun x => [(35, .int .i64 x.1), (34, .int .i64 vs.length), (33, .slice A vs.length c), (2, .slice B pl.length cb), (3, .slice C gs.length cc), (10, .pointer (some ⟨hdb, 0, none⟩)), (9, .int .i64 (6 + ((n % 20 : Nat) : Int)))]) (fun x => x.2.2) (fun x => vs.length - x.1)
      (fun x => x.1 ≤ vs.length ∧ Kept none0 w x.2.2 ∧ (∀ b, x.2.1.1 b → w.heap.size ≤ b) ∧ Dm x.2.2 x.2.1.1 hdb x.2.1.2 ∧ On x.2.1.2 ∧ x.2.1.2.l.length = S ∧ x.2.1.2.wait.length ≤ min 8 x.1)
      (0, ((fun j => w1.heap.size ≤ j ∧ j < w2.heap.size), drNew S), w2) ⟨Nat.zero_le _, k02, fun b e => by have := e.1; omega, hD2, drNew_on _, drNew_len _, Nat.zero_le _⟩ ?hsub rfl ?_
    case hsub => exact ⟨rfl, rfl, rfl, rfl, rfl, rfl, rfl, trivial⟩
    rintro ⟨i, ⟨F, D⟩, w5⟩ ⟨hi, k5, hn5, h5, ho5, l5, q5⟩ ih
    dsimp only at hi k5 hn5 h5 ho5 l5 q5 ⊢
    repeat (first | (with_reducible first | apply T_seq | apply T_region | apply U_nil | apply T_skip | apply T_block | apply T_inBlock | apply Cnd_t | apply Cnd_f | apply Cnd_not | apply Cnd_some | apply Cnd_none | apply Gd_nt | apply Gd_nf | apply Gd_some | apply Gd_none | apply Gd_want) | refine U_ar rfl rfl rfl (wrap_k (by simp only [wrapOk]; omega)) rfl ?_ | refine U_cv E rfl rfl rfl (wrap_k (by simp only [wrapOk]; omega)) rfl ?_ | refine U_pure E rfl rfl ?_ | refine T_exit rfl ?_ | refine T_condV rfl ?_ | refine U_guard rfl rfl ?_ | ((with_reducible refine Gd_skipT ?_ ?_); exact rfl) | ((with_reducible refine Gd_skipF ?_ ?_); exact rfl))
    refine Cnd_p (fun hlt => ?_) (fun hlt => ?_)
    · have hl1 : i < vs.length := by omega
      have hl2 : i < l.length := by omega
      have hg1 : vs[(i : Int).toNat]? = some vs[i] := by rw [Int.toNat_natCast, List.getElem?_eq_getElem hl1]
      have hap := a3 i _ _ (List.getElem?_eq_getElem hl1) (List.getElem?_eq_getElem hl2)
      have hap5 := hap.mv k5 (fun _ _ _ x => x)
      have hlt5 := h5.lt
      have skip : i ≤ 8 ∨ 8 ≤ i := by omega
      have hskip := ih (i + 1, (F, D), w5) ⟨by omega, k5, hn5, h5, ho5, l5, by dsimp only; omega⟩ (by dsimp only; omega)
      dsimp only at hskip
      repeat (first | (with_reducible first | apply T_seq | apply T_region | apply U_nil | apply T_skip | apply T_block | apply T_inBlock | apply Cnd_t | apply Cnd_f | apply Cnd_not | apply Cnd_some | apply Cnd_none | apply Gd_nt | apply Gd_nf | apply Gd_some | apply Gd_none | apply Gd_want) | refine U_ar rfl rfl rfl (wrap_k (by simp only [wrapOk]; omega)) rfl ?_ | refine U_cv E rfl rfl rfl (wrap_k (by simp only [wrapOk]; omega)) rfl ?_ | refine U_pure E rfl rfl ?_ | refine T_exit rfl ?_ | refine T_condV rfl ?_ | refine U_guard rfl rfl ?_ | ((with_reducible refine Gd_skipT ?_ ?_); exact rfl) | ((with_reducible refine Gd_skipF ?_ ?_); exact rfl))
      refine U_idx E ((a2.mv k5 (fun _ _ _ x => x))) rfl rfl rfl rfl (by omega) (by omega) (hg1) rfl (fun pp hpp => ?_)
      refine U_load E rfl rfl rfl hpp rfl ?_
      repeat (first | (with_reducible first | apply T_seq | apply T_region | apply U_nil | apply T_skip | apply T_block | apply T_inBlock | apply Cnd_t | apply Cnd_f | apply Cnd_not | apply Cnd_some | apply Cnd_none | apply Gd_nt | apply Gd_nf | apply Gd_some | apply Gd_none | apply Gd_want) | refine U_ar rfl rfl rfl (wrap_k (by simp only [wrapOk]; omega)) rfl ?_ | refine U_cv E rfl rfl rfl (wrap_k (by simp only [wrapOk]; omega)) rfl ?_ | refine U_pure E rfl rfl ?_ | refine T_exit rfl ?_ | refine T_condV rfl ?_ | refine U_guard rfl rfl ?_ | ((with_reducible refine Gd_skipT ?_ ?_); exact rfl) | ((with_reducible refine Gd_skipF ?_ ?_); exact rfl))
      refine Gd_p (fun h8 => ?_) (fun h8 => ?_)
      · repeat (first | (with_reducible first | apply T_seq | apply T_region | apply U_nil | apply T_skip | apply T_block | apply T_inBlock | apply Cnd_t | apply Cnd_f | apply Cnd_not | apply Cnd_some | apply Cnd_none | apply Gd_nt | apply Gd_nf | apply Gd_some | apply Gd_none | apply Gd_want) | refine U_ar rfl rfl rfl (wrap_k (by simp only [wrapOk]; omega)) rfl ?_ | refine U_cv E rfl rfl rfl (wrap_k (by simp only [wrapOk]; omega)) rfl ?_ | refine U_pure E rfl rfl ?_ | refine T_exit rfl ?_ | refine T_condV rfl ?_ | refine U_guard rfl rfl ?_ | ((with_reducible refine Gd_skipT ?_ ?_); exact rfl) | ((with_reducible refine Gd_skipF ?_ ?_); exact rfl))
        refine Cnd_p (fun hip => ?_) (fun hip => ?_)
        · have hip' : i < pl.length := by omega
          repeat (first | (with_reducible first | apply T_seq | apply T_region | apply U_nil | apply T_skip | apply T_block | apply T_inBlock | apply Cnd_t | apply Cnd_f | apply Cnd_not | apply Cnd_some | apply Cnd_none | apply Gd_nt | apply Gd_nf | apply Gd_some | apply Gd_none | apply Gd_want) | refine U_ar rfl rfl rfl (wrap_k (by simp only [wrapOk]; omega)) rfl ?_ | refine U_cv E rfl rfl rfl (wrap_k (by simp only [wrapOk]; omega)) rfl ?_ | refine U_pure E rfl rfl ?_ | refine T_exit rfl ?_ | refine T_condV rfl ?_ | refine U_guard rfl rfl ?_ | ((with_reducible refine Gd_skipT ?_ ?_); exact rfl) | ((with_reducible refine Gd_skipF ?_ ?_); exact rfl))
          refine U_call rfl rfl (Tryd.call19 _) (cut_c w5 _ vs[i] l[i] 256 hap5 (by decide)) ?_
          rintro rq w6 ⟨k6, hq6⟩
          have hql : (l[i].take (256 : Int).toNat).length ≤ 256 := List.length_take_le _ _
          have hq6' : BS w6 (fresh w5) rq (l[i].take (256 : Int).toNat) := hq6.sl (by omega)
          repeat (first | (with_reducible first | apply T_seq | apply T_region | apply U_nil | apply T_skip | apply T_block | apply T_inBlock | apply Gd_nt | apply Gd_nf | apply Gd_some | apply Gd_none | apply Gd_want) | refine U_ar rfl rfl rfl (wrap_k (by simp only [wrapOk]; omega)) rfl ?_ | refine U_cv E rfl rfl rfl (wrap_k (by simp only [wrapOk]; omega)) rfl ?_ | refine U_pure E rfl rfl ?_ | refine T_exit rfl ?_ | refine U_guard rfl rfl ?_ | ((with_reducible refine Gd_skipT ?_ ?_); exact rfl) | ((with_reducible refine Gd_skipF ?_ ?_); exact rfl))
          (repeat (with_reducible refine T_seq ?_))
          refine T_viaK (α := Value × List UInt8) (fun v => [(14, v.1), (12, .int .i64 i), (35, .int .i64 i), (34, .int .i64 vs.length), (33, .slice A vs.length c), (2, .slice B pl.length cb), (3, .slice C gs.length cc), (10, .pointer (some ⟨hdb, 0, none⟩)), (9, .int .i64 (6 + ((n % 20 : Nat) : Int)))])
            (fun v w' => Kept none0 w5 w' ∧ BS w' (fresh w5) v.1 v.2 ∧ v.2.length ≤ 256) ?fin1 ?go1
          case go1 =>
            intro kk f1
            refine T_condV rfl ?_
            refine Cnd_p (fun hig => ?_) (fun hig => ?_)
            · have hig' : i < gs.length := by omega
              obtain ⟨bg, og, hCe, _, hbglt, hseg⟩ : ∃ b o, C = some ⟨b, o, none⟩ ∧ Hg b ∧ b < w.heap.size ∧ Seg w b o (encBs gs) := by
                obtain ⟨_, _, A', c', e, _, h5'⟩ := hg
                injection e with e1 e2 e3
                subst e1
                rcases h5' with h | h
                · omega
                · exact h
              subst hCe
              have hsegW : ∀ W, Kept none0 w W → Seg W bg og (encBs gs) := fun W k => hseg.mv k (fun x => x)
              obtain ⟨x, hx⟩ : ∃ x, gs[i].toNat = x := ⟨_, rfl⟩
              have hx256 : x < 256 := by rw [← hx]; exact gs[i].toNat_lt
              have hcell : ∀ W, Seg W bg og (encBs gs) → W.cell? ⟨bg, og + i, none⟩ = some (.int .u8 (x : Nat)) := fun W h => by
                have := h i _ (get_enc hig')
                rw [encB, hx] at this
                exact this
              repeat (first | (with_reducible first | apply T_seq | apply T_region | apply U_nil | apply T_skip | apply T_block | apply T_inBlock | apply Gd_nt | apply Gd_nf | apply Gd_some | apply Gd_none | apply Gd_want) | refine U_ar rfl rfl rfl (wrap_k (by simp only [wrapOk]; omega)) rfl ?_ | refine U_cv E rfl rfl rfl (wrap_k (by simp only [wrapOk]; omega)) rfl ?_ | refine U_pure E rfl rfl ?_ | refine T_exit rfl ?_ | refine U_guard rfl rfl ?_ | ((with_reducible refine Gd_skipT ?_ ?_); exact rfl) | ((with_reducible refine Gd_skipF ?_ ?_); exact rfl))
              (repeat (with_reducible refine T_seq ?_))
              refine L_begin (fun W => Seg W bg og (encBs gs)) 14 (by kernel_rfl) (N := 14) rfl (fun w7 hd7 => ?_)
              have k07 : Kept none0 w w7 := (k5.tr k6 (fun _ _ x => x)).tr (hd7.kept none0) (fun _ _ x => x)
              have hS7 := hsegW w7 k07
              refine L_take 0 rfl (by kernel_rfl) (by kernel_rfl) (by kernel_rfl) (by kernel_rfl) hS7 rfl rfl rfl (fun a ha w' _ => run_pv E ha rfl _ _ _ _ _) ?_; refine L_take 1 rfl (by kernel_rfl) (by kernel_rfl) (by kernel_rfl) (by kernel_rfl) hS7 rfl rfl rfl (fun a ha w' _ => run_pv E ha rfl _ _ _ _ _) ?_
              refine L_take 2 rfl (by kernel_rfl) (by kernel_rfl) (by kernel_rfl) (by kernel_rfl) hS7 rfl rfl rfl (fun a ha w' _ => ro_indexS (o' := og + i) E rfl rfl rfl rfl (by omega) (by omega) (by rw [Int.toNat_natCast, Nat.mul_one]) a ha) ?_
              refine L_take 3 rfl (by kernel_rfl) (by kernel_rfl) (by kernel_rfl) (by kernel_rfl) hS7 rfl rfl rfl (fun a ha w' hS => ro_load E rfl rfl rfl (hcell w' hS) a ha) ?_
              refine L_take 4 rfl (by kernel_rfl) (by kernel_rfl) (by kernel_rfl) (by kernel_rfl) hS7 rfl rfl rfl (fun a ha w' _ => ro_bin (r := .int .u8 (x % 4 : Nat)) rfl rfl (by exact run_rem (y := 4) (by decide)) a ha) ?_
              refine L_take 5 rfl (by kernel_rfl) (by kernel_rfl) (by kernel_rfl) (by kernel_rfl) hS7 rfl rfl rfl (fun a ha w' _ => ro_convI E rfl rfl rfl (wrap_k (by simp only [wrapOk]; omega)) a ha) ?_
              refine L_take 6 rfl (by kernel_rfl) (by kernel_rfl) (by kernel_rfl) (by kernel_rfl) hS7 rfl rfl rfl (fun a ha w' _ => run_pv E ha rfl _ _ _ _ _) ?_; refine L_take 8 rfl (by kernel_rfl) (by kernel_rfl) (by kernel_rfl) (by kernel_rfl) hS7 rfl rfl rfl (fun a ha w' _ => run_pv E ha rfl _ _ _ _ _) ?_
              refine L_take 7 rfl (by kernel_rfl) (by kernel_rfl) (by kernel_rfl) (by kernel_rfl) hS7 rfl rfl rfl (fun a ha w' _ => ro_bin (r := .int .i64 (i % 3 : Nat)) rfl rfl (by exact run_rem (y := 3) (by decide)) a ha) ?_
              refine L_op 9 (by kernel_rfl) rfl (fun hc => ?_)
              refine U_call rfl rfl (Tryd.call19 _) (cut_c w7 _ vs[i] l[i] 240 (hap.mv k07 (fun _ _ _ x => x)) (by decide)) ?_
              rintro rc w8 ⟨k8, hc8⟩
              have k08 := k07.tr k8 (fun _ _ x => x)
              refine U_nilL hc (fun _ => hsegW w8 k08) ?_
              have hcl : (l[i].take (240 : Int).toNat).length ≤ 240 := List.length_take_le _ _
              have hly := rlay_c w8 _ (x % 4) (i % 3) rc _ (by omega) (by omega) (hc8.sl (by omega)) (by omega)
              refine L_op 10 (by kernel_rfl) rfl (fun hc => ?_)
              refine U_call rfl rfl (Tryd.call62 _) (hly) ?_
              rintro ry w9 ⟨k9, ys, y1, y2, y3⟩
              have k09 := k08.tr k9 (fun _ _ x => x)
              have hyl : 0 < ys.length := by rw [y1, lay_len]; exact pgs_pos _
              have hyl2 : ys.length ≤ 100 := by rw [y1, lay_len]; unfold pgs; omega
              have hll : 0 < (lay (x % 4) (i % 3) (l[i].take (240 : Int).toNat)).length := by rw [lay_len]; exact pgs_pos _
              have hy0 := y3 0 _ _ (List.getElem?_eq_getElem hyl) (List.getElem?_eq_getElem hll)
              refine U_nilL hc (fun _ => hsegW w9 k09) ?_
              refine L_op 11 (by kernel_rfl) rfl (fun hc => ?_)
              refine U_idx E ((y2.sl (by omega))) rfl rfl rfl rfl (by omega) (by omega) ((show ys[(0 : Int).toNat]? = some ys[0] from List.getElem?_eq_getElem hyl)) rfl (fun qy hqy => ?_)
              refine U_nilL hc (fun _ => hsegW w9 k09) ?_
              obtain ⟨Ay, cy, hye⟩ := hy0.len
              rw [hye] at hqy hy0
              refine L_op 12 (by kernel_rfl) rfl (fun hc => ?_)
              refine U_load E rfl rfl rfl hqy rfl ?_
              refine U_nilL hc (fun _ => hsegW w9 k09) ?_
              refine L_take 13 rfl (by kernel_rfl) (by kernel_rfl) (by kernel_rfl) (by kernel_rfl) (hsegW w9 k09) rfl rfl rfl (fun a ha w' _ => run_pv E ha rfl _ _ _ _ _) ?_
              refine L_done (by kernel_rfl) ?_
              obtain ⟨q, hq⟩ : ∃ q, (lay (x % 4) (i % 3) (l[i].take (240 : Int).toNat))[0] = q := ⟨_, rfl⟩
              have hq256 : q.length = 256 := by
                rw [← hq]
                simp only [lay, List.getElem_map]
                exact mrk_len _ _
              rw [hq] at hy0
              have k59 : Kept none0 w5 w9 := ((k6.tr (hd7.kept none0) (fun _ _ x => x)).tr k8 (fun _ _ x => x)).tr k9 (fun _ _ x => x)
              have hy0' : BS w9 (fresh w5) (.slice Ay q.length cy) q := by
                rw [hq] at hye
                exact hy0.mono (fun b _ e => by have := k59.size; have := (k6.tr (hd7.kept none0) (fun _ _ x => x)).size; have := k8.size; have := e.1; simp only [fresh] at *; omega)
              repeat (first | (with_reducible first | apply T_seq | apply T_region | apply U_nil | apply T_skip | apply T_block | apply T_inBlock | apply Cnd_t | apply Cnd_f | apply Cnd_not | apply Cnd_some | apply Cnd_none | apply Gd_nt | apply Gd_nf | apply Gd_some | apply Gd_none | apply Gd_want) | refine U_ar rfl rfl rfl (wrap_k (by simp only [wrapOk]; omega)) rfl ?_ | refine U_cv E rfl rfl rfl (wrap_k (by simp only [wrapOk]; omega)) rfl ?_ | refine U_pure E rfl rfl ?_ | refine T_exit rfl ?_ | refine T_condV rfl ?_ | refine U_guard rfl rfl ?_ | ((with_reducible refine Gd_skipT ?_ ?_); exact rfl) | ((with_reducible refine Gd_skipF ?_ ?_); exact rfl))
              refine U_indexS (o' := og + i) E rfl rfl rfl rfl (by omega) (by omega) (by rw [Int.toNat_natCast, Nat.mul_one]) rfl ?_
              refine U_load E rfl rfl rfl (hcell w9 (hsegW w9 k09)) rfl ?_
              refine U_run rfl rfl rfl (ro_bin (r := .int .u8 (x % 3 : Nat)) rfl rfl (by exact run_rem (y := 3) (by decide))) ?_
              repeat (first | (with_reducible first | apply T_seq | apply T_region | apply U_nil | apply T_skip | apply T_block | apply T_inBlock | apply Cnd_t | apply Cnd_f | apply Cnd_not | apply Cnd_some | apply Cnd_none | apply Gd_nt | apply Gd_nf | apply Gd_some | apply Gd_none | apply Gd_want) | refine U_ar rfl rfl rfl (wrap_k (by simp only [wrapOk]; omega)) rfl ?_ | refine U_cv E rfl rfl rfl (wrap_k (by simp only [wrapOk]; omega)) rfl ?_ | refine U_pure E rfl rfl ?_ | refine T_exit rfl ?_ | refine T_condV rfl ?_ | refine U_guard rfl rfl ?_ | ((with_reducible refine Gd_skipT ?_ ?_); exact rfl) | ((with_reducible refine Gd_skipF ?_ ?_); exact rfl))
              refine Cnd_p (fun h30 => ?_) (fun h30 => ?_)
              · repeat (first | (with_reducible first | apply T_seq | apply T_region | apply U_nil | apply T_skip | apply T_block | apply T_inBlock | apply Cnd_t | apply Cnd_f | apply Cnd_not | apply Cnd_some | apply Cnd_none | apply Gd_nt | apply Gd_nf | apply Gd_some | apply Gd_none | apply Gd_want) | refine U_ar rfl rfl rfl (wrap_k (by simp only [wrapOk]; omega)) rfl ?_ | refine U_cv E rfl rfl rfl (wrap_k (by simp only [wrapOk]; omega)) rfl ?_ | refine U_pure E rfl rfl ?_ | refine T_exit rfl ?_ | refine T_condV rfl ?_ | refine U_guard rfl rfl ?_ | ((with_reducible refine Gd_skipT ?_ ?_); exact rfl) | ((with_reducible refine Gd_skipF ?_ ?_); exact rfl))
                refine U_indexS (o' := og + i) E rfl rfl rfl rfl (by omega) (by omega) (by rw [Int.toNat_natCast, Nat.mul_one]) rfl ?_
                refine U_load E rfl rfl rfl (hcell w9 (hsegW w9 k09)) rfl ?_
                refine U_run rfl rfl rfl (ro_bin (r := .int .u8 (x % 8 : Nat)) rfl rfl (by exact run_rem (y := 8) (by decide))) ?_
                repeat (first | (with_reducible first | apply T_seq | apply T_region | apply U_nil | apply T_skip | apply T_block | apply T_inBlock | apply Cnd_t | apply Cnd_f | apply Cnd_not | apply Cnd_some | apply Cnd_none | apply Gd_nt | apply Gd_nf | apply Gd_some | apply Gd_none | apply Gd_want) | refine U_ar rfl rfl rfl (wrap_k (by simp only [wrapOk]; omega)) rfl ?_ | refine U_cv E rfl rfl rfl (wrap_k (by simp only [wrapOk]; omega)) rfl ?_ | refine U_pure E rfl rfl ?_ | refine T_exit rfl ?_ | refine T_condV rfl ?_ | refine U_guard rfl rfl ?_ | ((with_reducible refine Gd_skipT ?_ ?_); exact rfl) | ((with_reducible refine Gd_skipF ?_ ?_); exact rfl))
                refine U_call rfl rfl (Tryd.call59 _) (rhead_c w9 (x % 8) (by omega)) ?_
                rintro rh w10 ⟨k10, hh10⟩
                repeat (first | (with_reducible first | apply T_seq | apply T_region | apply U_nil | apply T_skip | apply T_block | apply T_inBlock | apply Cnd_t | apply Cnd_f | apply Cnd_not | apply Cnd_some | apply Cnd_none | apply Gd_nt | apply Gd_nf | apply Gd_some | apply Gd_none | apply Gd_want) | refine U_ar rfl rfl rfl (wrap_k (by simp only [wrapOk]; omega)) rfl ?_ | refine U_cv E rfl rfl rfl (wrap_k (by simp only [wrapOk]; omega)) rfl ?_ | refine U_pure E rfl rfl ?_ | refine T_exit rfl ?_ | refine T_condV rfl ?_ | refine U_guard rfl rfl ?_ | ((with_reducible refine Gd_skipT ?_ ?_); exact rfl) | ((with_reducible refine Gd_skipF ?_ ?_); exact rfl))
                refine T.less ?_ (f1 (rh, hdS (x % 8)) w10 ⟨k59.tr k10 (fun _ _ x => x), hh10.mono (fun b _ e => by have := k59.size; simp only [fresh] at *; omega), by dsimp only; rw [hdS, mrk_len]; exact Nat.le_refl _⟩)
                exact ⟨rfl, rfl, rfl, rfl, rfl, rfl, rfl, rfl, rfl, trivial⟩
              · repeat (first | (with_reducible first | apply T_seq | apply T_region | apply U_nil | apply T_skip | apply T_block | apply T_inBlock | apply Cnd_t | apply Cnd_f | apply Cnd_not | apply Cnd_some | apply Cnd_none | apply Gd_nt | apply Gd_nf | apply Gd_some | apply Gd_none | apply Gd_want) | refine U_ar rfl rfl rfl (wrap_k (by simp only [wrapOk]; omega)) rfl ?_ | refine U_cv E rfl rfl rfl (wrap_k (by simp only [wrapOk]; omega)) rfl ?_ | refine U_pure E rfl rfl ?_ | refine T_exit rfl ?_ | refine T_condV rfl ?_ | refine U_guard rfl rfl ?_ | ((with_reducible refine Gd_skipT ?_ ?_); exact rfl) | ((with_reducible refine Gd_skipF ?_ ?_); exact rfl))
                refine T.less ?_ (f1 (.slice Ay q.length cy, q) w9 ⟨k59, hy0', by dsimp only; omega⟩)
                exact ⟨by rw [← hq]; rfl, rfl, rfl, rfl, rfl, rfl, rfl, rfl, rfl, trivial⟩
            · repeat (first | (with_reducible first | apply T_seq | apply T_region | apply U_nil | apply T_skip | apply T_block | apply T_inBlock | apply Cnd_t | apply Cnd_f | apply Cnd_not | apply Cnd_some | apply Cnd_none | apply Gd_nt | apply Gd_nf | apply Gd_some | apply Gd_none | apply Gd_want) | refine U_ar rfl rfl rfl (wrap_k (by simp only [wrapOk]; omega)) rfl ?_ | refine U_cv E rfl rfl rfl (wrap_k (by simp only [wrapOk]; omega)) rfl ?_ | refine U_pure E rfl rfl ?_ | refine T_exit rfl ?_ | refine T_condV rfl ?_ | refine U_guard rfl rfl ?_ | ((with_reducible refine Gd_skipT ?_ ?_); exact rfl) | ((with_reducible refine Gd_skipF ?_ ?_); exact rfl))
              refine T.less ?_ (f1 (rq, _) w6 ⟨k6, hq6', hql⟩)
              exact ⟨rfl, rfl, rfl, rfl, rfl, rfl, rfl, rfl, rfl, trivial⟩
          case fin1 =>
            rintro ⟨vq, q⟩ w7 ⟨k7, hq7, hql7⟩
            dsimp only at hq7 hql7 ⊢
            have k07 := k5.tr k7 (fun _ _ x => x)
            have h7 := h5.same k7
            obtain ⟨x, hx⟩ : ∃ x, pl[i].toNat = x := ⟨_, rfl⟩
            have hgp : (encBs pl)[(i : Int).toNat]? = some (.int .u8 (x : Nat)) := by rw [toNat_get hip', encB, hx]
            have hx256 : x < 256 := by rw [← hx]; exact pl[i].toNat_lt
            repeat (first | (with_reducible first | apply T_seq | apply T_region | apply U_nil | apply T_skip | apply T_block | apply T_inBlock | apply Cnd_t | apply Cnd_f | apply Cnd_not | apply Cnd_some | apply Cnd_none | apply Gd_nt | apply Gd_nf | apply Gd_some | apply Gd_none | apply Gd_want) | refine U_ar rfl rfl rfl (wrap_k (by simp only [wrapOk]; omega)) rfl ?_ | refine U_cv E rfl rfl rfl (wrap_k (by simp only [wrapOk]; omega)) rfl ?_ | refine U_pure E rfl rfl ?_ | refine T_exit rfl ?_ | refine T_condV rfl ?_ | refine U_guard rfl rfl ?_ | ((with_reducible refine Gd_skipT ?_ ?_); exact rfl) | ((with_reducible refine Gd_skipF ?_ ?_); exact rfl))
            refine U_idx E ((hp.mv k07 (fun _ _ _ x => x))) rfl rfl rfl rfl (by omega) (by omega) (hgp) rfl (fun qp hqp => ?_)
            refine U_load E rfl rfl rfl hqp rfl ?_
            repeat (first | (with_reducible first | apply T_seq | apply T_region | apply U_nil | apply T_skip | apply T_block | apply T_inBlock | apply Cnd_t | apply Cnd_f | apply Cnd_not | apply Cnd_some | apply Cnd_none | apply Gd_nt | apply Gd_nf | apply Gd_some | apply Gd_none | apply Gd_want) | refine U_ar rfl rfl rfl (wrap_k (by simp only [wrapOk]; omega)) rfl ?_ | refine U_cv E rfl rfl rfl (wrap_k (by simp only [wrapOk]; omega)) rfl ?_ | refine U_pure E rfl rfl ?_ | refine T_exit rfl ?_ | refine T_condV rfl ?_ | refine U_guard rfl rfl ?_ | ((with_reducible refine Gd_skipT ?_ ?_); exact rfl) | ((with_reducible refine Gd_skipF ?_ ?_); exact rfl))
            refine U_run rfl rfl rfl (ro_bin (r := .int .i64 (x % S : Nat)) rfl rfl (by rw [show (6 : Int) + ((n % 20 : Nat) : Int) = (S : Int) by omega]; exact run_rem (by omega))) ?_
            have hxS : x % S < S := Nat.mod_lt _ (by omega)
            have hwr := dw_write w7 F hdb D vq q ((x % S : Nat) : Int) h7 (hq7.mono (fun b _ e e2 => by have := hlt5 b e2; simp only [fresh] at e; omega)) (by omega)
            obtain ⟨e1, e2, e3⟩ := wr_any (i := x % S) (p := q) ho5 (by omega) hql7
            unfold ptr at *
            repeat (first | (with_reducible first | apply T_seq | apply T_region | apply U_nil | apply T_skip | apply T_block | apply T_inBlock | apply Cnd_t | apply Cnd_f | apply Cnd_not | apply Cnd_some | apply Cnd_none | apply Gd_nt | apply Gd_nf | apply Gd_some | apply Gd_none | apply Gd_want) | refine U_ar rfl rfl rfl (wrap_k (by simp only [wrapOk]; omega)) rfl ?_ | refine U_cv E rfl rfl rfl (wrap_k (by simp only [wrapOk]; omega)) rfl ?_ | refine U_pure E rfl rfl ?_ | refine T_exit rfl ?_ | refine T_condV rfl ?_ | refine U_guard rfl rfl ?_ | ((with_reducible refine Gd_skipT ?_ ?_); exact rfl) | ((with_reducible refine Gd_skipF ?_ ?_); exact rfl))
            refine U_call rfl rfl (Tryd.call27 _) (hwr) ?_
            rintro r w8 ⟨rfl, F8, o8, h8⟩
            repeat (first | (with_reducible first | apply T_seq | apply T_region | apply U_nil | apply T_skip | apply T_block | apply T_inBlock | apply Cnd_t | apply Cnd_f | apply Cnd_not | apply Cnd_some | apply Cnd_none | apply Gd_nt | apply Gd_nf | apply Gd_some | apply Gd_none | apply Gd_want) | refine U_ar rfl rfl rfl (wrap_k (by simp only [wrapOk]; omega)) rfl ?_ | refine U_cv E rfl rfl rfl (wrap_k (by simp only [wrapOk]; omega)) rfl ?_ | refine U_pure E rfl rfl ?_ | refine T_exit rfl ?_ | refine T_condV rfl ?_ | refine U_guard rfl rfl ?_ | ((with_reducible refine Gd_skipT ?_ ?_); exact rfl) | ((with_reducible refine Gd_skipF ?_ ?_); exact rfl))
            refine T.less ?_ (ih (i + 1, (F8, wrDr D ((x % S : Nat) : Int) q), w8) ⟨by omega, o8.done k07 hn5, o8.newer k07.size hn5, h8, e1, by dsimp only; rw [e2]; exact l5, by dsimp only; omega⟩ (by dsimp only; omega))
            exact ⟨rfl, rfl, rfl, rfl, rfl, rfl, rfl, trivial⟩
        · repeat (first | (with_reducible first | apply T_seq | apply T_region | apply U_nil | apply T_skip | apply T_block | apply T_inBlock | apply Cnd_t | apply Cnd_f | apply Cnd_not | apply Cnd_some | apply Cnd_none | apply Gd_nt | apply Gd_nf | apply Gd_some | apply Gd_none | apply Gd_want) | refine U_ar rfl rfl rfl (wrap_k (by simp only [wrapOk]; omega)) rfl ?_ | refine U_cv E rfl rfl rfl (wrap_k (by simp only [wrapOk]; omega)) rfl ?_ | refine U_pure E rfl rfl ?_ | refine T_exit rfl ?_ | refine T_condV rfl ?_ | refine U_guard rfl rfl ?_ | ((with_reducible refine Gd_skipT ?_ ?_); exact rfl) | ((with_reducible refine Gd_skipF ?_ ?_); exact rfl))
          refine T.less ?_ hskip
          exact ⟨rfl, rfl, rfl, rfl, rfl, rfl, rfl, trivial⟩
      · repeat (first | (with_reducible first | apply T_seq | apply T_region | apply U_nil | apply T_skip | apply T_block | apply T_inBlock | apply Cnd_t | apply Cnd_f | apply Cnd_not | apply Cnd_some | apply Cnd_none | apply Gd_nt | apply Gd_nf | apply Gd_some | apply Gd_none | apply Gd_want) | refine U_ar rfl rfl rfl (wrap_k (by simp only [wrapOk]; omega)) rfl ?_ | refine U_cv E rfl rfl rfl (wrap_k (by simp only [wrapOk]; omega)) rfl ?_ | refine U_pure E rfl rfl ?_ | refine T_exit rfl ?_ | refine T_condV rfl ?_ | refine U_guard rfl rfl ?_ | ((with_reducible refine Gd_skipT ?_ ?_); exact rfl) | ((with_reducible refine Gd_skipF ?_ ?_); exact rfl))
        refine T.less ?_ hskip
        exact ⟨rfl, rfl, rfl, rfl, rfl, rfl, rfl, trivial⟩
    · refine T_exit rfl ?_
      refine T.less ?_ (fin (F, D) w5 ⟨k5, hn5, h5, ho5, l5, by dsimp only; omega⟩)
      exact ⟨rfl, rfl, trivial⟩
  case fin =>
    rintro ⟨F, D⟩ w5 ⟨k5, hn5, h5, ho5, l5, q5⟩
    dsimp only at hn5 h5 ho5 l5 q5 ⊢
    have h6S : 6 ≤ D.l.length ∧ D.l.length ≤ 7000 := by omega
    have hop := open_rc w5 F hdb D h5 (by omega) (by omega)
    have herr := open_errs ho5 h6S
    unfold ptr at *
    repeat (first | (with_reducible first | apply T_seq | apply T_region | apply U_nil | apply T_skip | apply T_block | apply T_inBlock | apply Cnd_t | apply Cnd_f | apply Cnd_not | apply Cnd_some | apply Cnd_none | apply Gd_nt | apply Gd_nf | apply Gd_some | apply Gd_none | apply Gd_want) | refine U_ar rfl rfl rfl (wrap_k (by simp only [wrapOk]; omega)) rfl ?_ | refine U_cv E rfl rfl rfl (wrap_k (by simp only [wrapOk]; omega)) rfl ?_ | refine U_pure E rfl rfl ?_ | refine T_exit rfl ?_ | refine T_condV rfl ?_ | refine U_guard rfl rfl ?_ | ((with_reducible refine Gd_skipT ?_ ?_); exact rfl) | ((with_reducible refine Gd_skipF ?_ ?_); exact rfl))
    refine U_call rfl rfl (Tryd.call52 _) (hop) ?_
    rintro r w6 ⟨F6, o6, h6, hcase⟩
    have k6 : Kept none0 w w6 := o6.done k5 hn5
    have hn6 := o6.newer k5.size hn5
    rcases hcase with ⟨e0, rfl⟩ | ⟨e0, rb, Fr, rfl, hR6, hFr6⟩
    · obtain ⟨E0, hE0⟩ : ∃ E0, (opF D).1 = E0 := ⟨_, rfl⟩
      rw [hE0] at e0 herr ⊢
      have hcd := code_c w6 E0 (hL.mv k6 (fun x => x))
      rcases herr with rfl | rfl | rfl | rfl
      · exact absurd rfl e0
      all_goals
        unfold errV at *
        repeat (first | (with_reducible first | apply T_seq | apply T_region | apply U_nil | apply T_skip | apply T_block | apply T_inBlock | apply Cnd_t | apply Cnd_f | apply Cnd_not | apply Cnd_some | apply Cnd_none | apply Gd_nt | apply Gd_nf | apply Gd_some | apply Gd_none | apply Gd_want) | refine U_ar rfl rfl rfl (wrap_k (by simp only [wrapOk]; omega)) rfl ?_ | refine U_cv E rfl rfl rfl (wrap_k (by simp only [wrapOk]; omega)) rfl ?_ | refine U_pure E rfl rfl ?_ | refine T_exit rfl ?_ | refine T_condV rfl ?_ | refine U_guard rfl rfl ?_ | refine U_guardU rfl rfl rfl ?_ | ((with_reducible refine Gd_skipT ?_ ?_); exact rfl) | ((with_reducible refine Gd_skipF ?_ ?_); exact rfl))
        refine U_call rfl rfl (Tryd.call28 _) (hcd) ?_
        rintro r w7 ⟨rfl, k7⟩
        repeat (first | (with_reducible first | apply T_seq | apply T_region | apply U_nil | apply T_skip | apply T_block | apply T_inBlock | apply Cnd_t | apply Cnd_f | apply Cnd_not | apply Cnd_some | apply Cnd_none | apply Gd_nt | apply Gd_nf | apply Gd_some | apply Gd_none | apply Gd_want) | refine U_ar rfl rfl rfl (wrap_k (by simp only [wrapOk]; omega)) rfl ?_ | refine U_cv E rfl rfl rfl (wrap_k (by simp only [wrapOk]; omega)) rfl ?_ | refine U_pure E rfl rfl ?_ | refine T_exit rfl ?_ | refine T_condV rfl ?_ | refine U_guard rfl rfl ?_ | refine U_guardU rfl rfl rfl ?_ | ((with_reducible refine Gd_skipT ?_ ?_); exact rfl) | ((with_reducible refine Gd_skipF ?_ ?_); exact rfl))
        repeat first
          | (refine Gd_b (fun e => absurd e (by decide)) (fun _ => ?_)
             repeat (first | (with_reducible first | apply T_seq | apply T_region | apply U_nil | apply T_skip | apply T_block | apply T_inBlock | apply Cnd_t | apply Cnd_f | apply Cnd_not | apply Cnd_some | apply Cnd_none | apply Gd_nt | apply Gd_nf | apply Gd_some | apply Gd_none | apply Gd_want) | refine U_ar rfl rfl rfl (wrap_k (by simp only [wrapOk]; omega)) rfl ?_ | refine U_cv E rfl rfl rfl (wrap_k (by simp only [wrapOk]; omega)) rfl ?_ | refine U_pure E rfl rfl ?_ | refine T_exit rfl ?_ | refine T_condV rfl ?_ | refine U_guard rfl rfl ?_ | refine U_guardU rfl rfl rfl ?_ | ((with_reducible refine Gd_skipT ?_ ?_); exact rfl) | ((with_reducible refine Gd_skipF ?_ ?_); exact rfl)))
          | (refine Gd_b (fun _ => ?_) (fun e => absurd e (by decide))
             repeat (first | (with_reducible first | apply T_seq | apply T_region | apply U_nil | apply T_skip | apply T_block | apply T_inBlock | apply Cnd_t | apply Cnd_f | apply Cnd_not | apply Cnd_some | apply Cnd_none | apply Gd_nt | apply Gd_nf | apply Gd_some | apply Gd_none | apply Gd_want) | refine U_ar rfl rfl rfl (wrap_k (by simp only [wrapOk]; omega)) rfl ?_ | refine U_cv E rfl rfl rfl (wrap_k (by simp only [wrapOk]; omega)) rfl ?_ | refine U_pure E rfl rfl ?_ | refine T_exit rfl ?_ | refine T_condV rfl ?_ | refine U_guard rfl rfl ?_ | refine U_guardU rfl rfl rfl ?_ | ((with_reducible refine Gd_skipT ?_ ?_); exact rfl) | ((with_reducible refine Gd_skipF ?_ ?_); exact rfl)))
        exact T_ret1 Tryd.func15 rfl rfl ⟨_, rfl, rfl, k6.tr k7 (fun _ _ x => x)⟩
    · obtain ⟨c1, c2, c3, c4, c5, c6⟩ := open_leaves ho5 h6S e0
      obtain ⟨g1, g2, g3⟩ := open_again ho5 h6S e0
      obtain ⟨D', hD'⟩ : ∃ D', (opF D).2 = D' := ⟨_, rfl⟩
      rw [hD'] at h6 c1 c2 c3 c6 g1 g2 g3
      obtain ⟨g, hge⟩ : ∃ g, opG D = g := ⟨_, rfl⟩
      have hgl : g < 4294967296 := by rw [← hge]; exact opG_lt D
      have hle := opS_le D
      obtain ⟨L, aL, hLe⟩ : ∃ L aL, opS D = (L, aL) := ⟨_, _, rfl⟩
      rw [hge, hLe] at hR6
      rw [hge] at g1 c6
      rw [hLe] at c5 c6 g2 hle
      dsimp only at hR6 c5 c6 hle
      obtain ⟨Hf, hHf⟩ : ∃ Hf : Nat, (S - 2) / 2 = Hf := ⟨_, rfl⟩
      have hzD : hsz D = Hf := by rw [hsz, l5]; exact hHf
      have hz' : hsz D' = Hf := by rw [hsz_len c2, hzD]
      have hop2 := open_rc w6 F6 hdb D' h6 (by omega) (by omega)
      rw [g1, g2, g3] at hop2
      dsimp only at hop2
      unfold ptr at *
      repeat (first | (with_reducible first | apply T_seq | apply T_region | apply U_nil | apply T_skip | apply T_block | apply T_inBlock | apply Cnd_t | apply Cnd_f | apply Cnd_not | apply Cnd_some | apply Cnd_none | apply Gd_nt | apply Gd_nf | apply Gd_some | apply Gd_none | apply Gd_want) | refine U_ar rfl rfl rfl (wrap_k (by simp only [wrapOk]; omega)) rfl ?_ | refine U_cv E rfl rfl rfl (wrap_k (by simp only [wrapOk]; omega)) rfl ?_ | refine U_pure E rfl rfl ?_ | refine T_exit rfl ?_ | refine T_condV rfl ?_ | refine U_guard rfl rfl ?_ | ((with_reducible refine Gd_skipT ?_ ?_); exact rfl) | ((with_reducible refine Gd_skipF ?_ ?_); exact rfl))
      refine U_call rfl rfl (Tryd.call52 _) (hop2) ?_
      rintro r w7 ⟨F7, o7, h7, hcase⟩
      have k7 : Kept none0 w w7 := o7.done k6 hn6
      rcases hcase with ⟨e0', _⟩ | ⟨_, rb7, Fr7, rfl, hR7, hFr7⟩
      · exact absurd rfl e0'
      · have hR67 := hR6.drum o7
        repeat (first | (with_reducible first | apply T_seq | apply T_region | apply U_nil | apply T_skip | apply T_block | apply T_inBlock | apply Cnd_t | apply Cnd_f | apply Cnd_not | apply Cnd_some | apply Cnd_none | apply Gd_nt | apply Gd_nf | apply Gd_some | apply Gd_none | apply Gd_want) | refine U_ar rfl rfl rfl (wrap_k (by simp only [wrapOk]; omega)) rfl ?_ | refine U_cv E rfl rfl rfl (wrap_k (by simp only [wrapOk]; omega)) rfl ?_ | refine U_pure E rfl rfl ?_ | refine T_exit rfl ?_ | refine T_condV rfl ?_ | refine U_guard rfl rfl ?_ | ((with_reducible refine Gd_skipT ?_ ?_); exact rfl) | ((with_reducible refine Gd_skipF ?_ ?_); exact rfl))
        refine U_run rfl rfl rfl (ro_bin (r := .int .i64 (Hf : Nat)) rfl rfl (by rw [show (6 : Int) + ((n % 20 : Nat) : Int) - 2 = ((S - 2 : Nat) : Int) by omega, ← hHf]; exact run_quo (y := 2) (by decide) (wrap_i64 (by omega)))) ?_
        have hrm := room_c hR67 h7 (by omega)
        rw [hz'] at hrm
        unfold ptr at *
        repeat (first | (with_reducible first | apply T_seq | apply T_region | apply U_nil | apply T_skip | apply T_block | apply T_inBlock | apply Cnd_t | apply Cnd_f | apply Cnd_not | apply Cnd_some | apply Cnd_none | apply Gd_nt | apply Gd_nf | apply Gd_some | apply Gd_none | apply Gd_want) | refine U_ar rfl rfl rfl (wrap_k (by simp only [wrapOk]; omega)) rfl ?_ | refine U_cv E rfl rfl rfl (wrap_k (by simp only [wrapOk]; omega)) rfl ?_ | refine U_pure E rfl rfl ?_ | refine T_exit rfl ?_ | refine T_condV rfl ?_ | refine U_guard rfl rfl ?_ | ((with_reducible refine Gd_skipT ?_ ?_); exact rfl) | ((with_reducible refine Gd_skipF ?_ ?_); exact rfl))
        refine U_call rfl rfl (Tryd.call60 _) (hrm) ?_
        rintro r w8 ⟨rfl, k8⟩
        obtain ⟨Bs, hBs⟩ : ∃ Bs : Nat, 2 + g % 2 * Hf = Bs := ⟨_, rfl⟩
        have hbase : base D g = Bs := by rw [base, hzD]; exact hBs
        have hbh := base_hsz D g (by omega)
        have hmulI : ((g % 2 : Nat) : Int) * (Hf : Int) = ((g % 2 * Hf : Nat) : Int) := by rw [Int.natCast_mul]
        have hm9 : g % 2 * Hf ≤ 9000 := by
          have : g % 2 * Hf ≤ 1 * Hf := Nat.mul_le_mul_right _ (by omega)
          omega
        repeat (first | (with_reducible first | apply T_seq | apply T_region | apply U_nil | apply T_skip | apply T_block | apply T_inBlock | apply Cnd_t | apply Cnd_f | apply Cnd_not | apply Cnd_some | apply Cnd_none | apply Gd_nt | apply Gd_nf | apply Gd_some | apply Gd_none | apply Gd_want) | refine U_ar rfl rfl rfl (wrap_k (by simp only [wrapOk]; omega)) rfl ?_ | refine U_cv E rfl rfl rfl (wrap_k (by simp only [wrapOk]; omega)) rfl ?_ | refine U_pure E rfl rfl ?_ | refine T_exit rfl ?_ | refine T_condV rfl ?_ | refine U_guard rfl rfl ?_ | ((with_reducible refine Gd_skipT ?_ ?_); exact rfl) | ((with_reducible refine Gd_skipF ?_ ?_); exact rfl))
        refine T_loop (α := Nat × World) (fun x => [(124, .int .i64 x.1), (123, .int .i64 ((Hf : Int) - (aL : Nat))), (15, .pointer (some ⟨rb, 0, none⟩)), (18, .pointer (some ⟨rb7, 0, none⟩)), (19, .nilIface), (20, .int .i64 (Hf : Nat)), (10, .pointer (some ⟨hdb, 0, none⟩))]) (fun x => x.2) (fun x => Hf - x.1)
          (fun x => x.1 ≤ Hf ∧ Kept none0 w7 x.2) (0, w8) ⟨Nat.zero_le _, k8⟩ ?hsub2 rfl ?_
        case hsub2 => exact ⟨rfl, rfl, rfl, rfl, rfl, rfl, rfl, trivial⟩
        rintro ⟨i, w9⟩ ⟨hi, k9⟩ ih
        dsimp only at hi k9 ⊢
        have h9 := h7.same k9
        have hR9 := hR67.same h7.lt k9
        have hR9' := hR7.same h7.lt k9
        have k09 := k7.tr k9 (fun _ _ x => x)
        repeat (first | (with_reducible first | apply T_seq | apply T_region | apply U_nil | apply T_skip | apply T_block | apply T_inBlock | apply Cnd_t | apply Cnd_f | apply Cnd_not | apply Cnd_some | apply Cnd_none | apply Gd_nt | apply Gd_nf | apply Gd_some | apply Gd_none | apply Gd_want) | refine U_ar rfl rfl rfl (wrap_k (by simp only [wrapOk]; omega)) rfl ?_ | refine U_cv E rfl rfl rfl (wrap_k (by simp only [wrapOk]; omega)) rfl ?_ | refine U_pure E rfl rfl ?_ | refine T_exit rfl ?_ | refine T_condV rfl ?_ | refine U_guard rfl rfl ?_ | ((with_reducible refine Gd_skipT ?_ ?_); exact rfl) | ((with_reducible refine Gd_skipF ?_ ?_); exact rfl))
        refine Cnd_p (fun hlt => ?_) (fun hlt => ?_)
        · have hgn := gen_c hR9
          unfold ptr at *
          repeat (first | (with_reducible first | apply T_seq | apply T_region | apply U_nil | apply T_skip | apply T_block | apply T_inBlock | apply Cnd_t | apply Cnd_f | apply Cnd_not | apply Cnd_some | apply Cnd_none | apply Gd_nt | apply Gd_nf | apply Gd_some | apply Gd_none | apply Gd_want) | refine U_ar rfl rfl rfl (wrap_k (by simp only [wrapOk]; omega)) rfl ?_ | refine U_cv E rfl rfl rfl (wrap_k (by simp only [wrapOk]; omega)) rfl ?_ | refine U_pure E rfl rfl ?_ | refine T_exit rfl ?_ | refine T_condV rfl ?_ | refine U_guard rfl rfl ?_ | ((with_reducible refine Gd_skipT ?_ ?_); exact rfl) | ((with_reducible refine Gd_skipF ?_ ?_); exact rfl))
          refine U_call rfl rfl (Tryd.call56 _) (hgn) ?_
          rintro r w10 ⟨rfl, rfl⟩
          repeat (first | (with_reducible first | apply T_seq | apply T_region | apply U_nil | apply T_skip | apply T_block | apply T_inBlock | apply Cnd_t | apply Cnd_f | apply Cnd_not | apply Cnd_some | apply Cnd_none | apply Gd_nt | apply Gd_nf | apply Gd_some | apply Gd_none | apply Gd_want) | refine U_ar rfl rfl rfl (wrap_k (by simp only [wrapOk]; omega)) rfl ?_ | refine U_cv E rfl rfl rfl (wrap_k (by simp only [wrapOk]; omega)) rfl ?_ | refine U_pure E rfl rfl ?_ | refine T_exit rfl ?_ | refine T_condV rfl ?_ | refine U_guard rfl rfl ?_ | ((with_reducible refine Gd_skipT ?_ ?_); exact rfl) | ((with_reducible refine Gd_skipF ?_ ?_); exact rfl))
          refine U_run rfl rfl rfl (ro_bin (r := .int .u32 (g % 2 : Nat)) rfl rfl (by exact run_rem (y := 2) (by decide))) ?_
          refine U_cv E rfl rfl rfl (wrap_k (by simp only [wrapOk]; omega)) rfl ?_
          refine U_pure E rfl rfl ?_
          refine U_ar rfl rfl rfl (wrap_i64 (by rw [hmulI]; omega)) rfl ?_
          rw [hmulI]
          repeat (first | (with_reducible first | apply T_seq | apply T_region | apply U_nil | apply T_skip | apply T_block | apply T_inBlock | apply Cnd_t | apply Cnd_f | apply Cnd_not | apply Cnd_some | apply Cnd_none | apply Gd_nt | apply Gd_nf | apply Gd_some | apply Gd_none | apply Gd_want) | refine U_ar rfl rfl rfl (wrap_k (by simp only [wrapOk]; omega)) rfl ?_ | refine U_cv E rfl rfl rfl (wrap_k (by simp only [wrapOk]; omega)) rfl ?_ | refine U_pure E rfl rfl ?_ | refine T_exit rfl ?_ | refine T_condV rfl ?_ | refine U_guard rfl rfl ?_ | ((with_reducible refine Gd_skipT ?_ ?_); exact rfl) | ((with_reducible refine Gd_skipF ?_ ?_); exact rfl))
          have hcl : vw D' (Bs + (Hf - 1 - i)) = zeros 256 := by
            rw [c6, if_pos ⟨by omega, by omega⟩]
          have hcc := clean_c w10 F7 hdb D' ((Bs + (Hf - 1 - i) : Nat) : Int) h9.isD
          rw [decide_eq_true (show cleanD D' ((Bs + (Hf - 1 - i) : Nat) : Int) from ⟨⟨by omega, by omega⟩, by rw [Int.toNat_natCast]; exact hcl⟩)] at hcc
          rw [show ((Bs + (Hf - 1 - i) : Nat) : Int) = 2 + ((g % 2 * Hf : Nat) : Int) + (Hf : Int) - 1 - (i : Int) by omega] at hcc
          unfold ptr at *
          refine U_call rfl rfl (Tryd.call40 _) (hcc) ?_
          rintro r w11 ⟨rfl, k11⟩
          repeat (first | (with_reducible first | apply T_seq | apply T_region | apply U_nil | apply T_skip | apply T_block | apply T_inBlock | apply Cnd_t | apply Cnd_f | apply Cnd_not | apply Cnd_some | apply Cnd_none | apply Gd_nt | apply Gd_nf | apply Gd_some | apply Gd_none | apply Gd_want) | refine U_ar rfl rfl rfl (wrap_k (by simp only [wrapOk]; omega)) rfl ?_ | refine U_cv E rfl rfl rfl (wrap_k (by simp only [wrapOk]; omega)) rfl ?_ | refine U_pure E rfl rfl ?_ | refine T_exit rfl ?_ | refine T_condV rfl ?_ | refine U_guard rfl rfl ?_ | ((with_reducible refine Gd_skipT ?_ ?_); exact rfl) | ((with_reducible refine Gd_skipF ?_ ?_); exact rfl))
          refine T.less ?_ (ih (i + 1, w11) ⟨by omega, k9.tr k11 (fun _ _ x => x)⟩ (by dsimp only; omega))
          exact ⟨rfl, rfl, rfl, rfl, rfl, rfl, rfl, trivial⟩
        · have hrc := records_c hR9
          unfold ptr at *
          repeat (first | (with_reducible first | apply T_seq | apply T_region | apply U_nil | apply T_skip | apply T_block | apply T_inBlock | apply Cnd_t | apply Cnd_f | apply Cnd_not | apply Cnd_some | apply Cnd_none | apply Gd_nt | apply Gd_nf | apply Gd_some | apply Gd_none | apply Gd_want) | refine U_ar rfl rfl rfl (wrap_k (by simp only [wrapOk]; omega)) rfl ?_ | refine U_cv E rfl rfl rfl (wrap_k (by simp only [wrapOk]; omega)) rfl ?_ | refine U_pure E rfl rfl ?_ | refine T_exit rfl ?_ | refine T_condV rfl ?_ | refine U_guard rfl rfl ?_ | ((with_reducible refine Gd_skipT ?_ ?_); exact rfl) | ((with_reducible refine Gd_skipF ?_ ?_); exact rfl))
          refine U_call rfl rfl (Tryd.call55 _) (hrc) ?_
          rintro r w10 ⟨k10, hs10⟩
          have hR10 := hR9'.same h9.lt k10
          have hrc2 := records_c hR10
          unfold ptr at *
          repeat (first | (with_reducible first | apply T_seq | apply T_region | apply U_nil | apply T_skip | apply T_block | apply T_inBlock | apply Cnd_t | apply Cnd_f | apply Cnd_not | apply Cnd_some | apply Cnd_none | apply Gd_nt | apply Gd_nf | apply Gd_some | apply Gd_none | apply Gd_want) | refine U_ar rfl rfl rfl (wrap_k (by simp only [wrapOk]; omega)) rfl ?_ | refine U_cv E rfl rfl rfl (wrap_k (by simp only [wrapOk]; omega)) rfl ?_ | refine U_pure E rfl rfl ?_ | refine T_exit rfl ?_ | refine T_condV rfl ?_ | refine U_guard rfl rfl ?_ | ((with_reducible refine Gd_skipT ?_ ?_); exact rfl) | ((with_reducible refine Gd_skipF ?_ ?_); exact rfl))
          refine U_call rfl rfl (Tryd.call55 _) (hrc2) ?_
          rintro r w11 ⟨k11, hs11⟩
          have hSm := rsame_c w11 _ _ _ _ L L (hs10.mv k11 (fun _ _ _ x => x)) hs11
          rw [decide_eq_true rfl] at hSm
          repeat (first | (with_reducible first | apply T_seq | apply T_region | apply U_nil | apply T_skip | apply T_block | apply T_inBlock | apply Cnd_t | apply Cnd_f | apply Cnd_not | apply Cnd_some | apply Cnd_none | apply Gd_nt | apply Gd_nf | apply Gd_some | apply Gd_none | apply Gd_want) | refine U_ar rfl rfl rfl (wrap_k (by simp only [wrapOk]; omega)) rfl ?_ | refine U_cv E rfl rfl rfl (wrap_k (by simp only [wrapOk]; omega)) rfl ?_ | refine U_pure E rfl rfl ?_ | refine T_exit rfl ?_ | refine T_condV rfl ?_ | refine U_guard rfl rfl ?_ | refine U_guardU rfl rfl rfl ?_ | ((with_reducible refine Gd_skipT ?_ ?_); exact rfl) | ((with_reducible refine Gd_skipF ?_ ?_); exact rfl))
          refine U_call rfl rfl (Tryd.call54 _) (hSm) ?_
          rintro r w12 ⟨rfl, k12⟩
          have k912 := (k10.tr k11 (fun _ _ x => x)).tr k12 (fun _ _ x => x)
          have hRa := hR9.same h9.lt k912
          have hRb := hR9'.same h9.lt k912
          have h12 := h9.same k912
          have hga := gen_c hRa
          have hgb := gen_c hRb
          unfold ptr at *
          repeat (first | (with_reducible first | apply T_seq | apply T_region | apply U_nil | apply T_skip | apply T_block | apply T_inBlock | apply Cnd_t | apply Cnd_f | apply Cnd_not | apply Cnd_some | apply Cnd_none | apply Gd_nt | apply Gd_nf | apply Gd_some | apply Gd_none | apply Gd_want) | refine U_ar rfl rfl rfl (wrap_k (by simp only [wrapOk]; omega)) rfl ?_ | refine U_cv E rfl rfl rfl (wrap_k (by simp only [wrapOk]; omega)) rfl ?_ | refine U_pure E rfl rfl ?_ | refine T_exit rfl ?_ | refine T_condV rfl ?_ | refine U_guard rfl rfl ?_ | refine U_guardU rfl rfl rfl ?_ | ((with_reducible refine Gd_skipT ?_ ?_); exact rfl) | ((with_reducible refine Gd_skipF ?_ ?_); exact rfl))
          refine U_call rfl rfl (Tryd.call56 _) (hga) ?_
          rintro r w13 ⟨rfl, rfl⟩
          repeat (first | (with_reducible first | apply T_seq | apply T_region | apply U_nil | apply T_skip | apply T_block | apply T_inBlock | apply Cnd_t | apply Cnd_f | apply Cnd_not | apply Cnd_some | apply Cnd_none | apply Gd_nt | apply Gd_nf | apply Gd_some | apply Gd_none | apply Gd_want) | refine U_ar rfl rfl rfl (wrap_k (by simp only [wrapOk]; omega)) rfl ?_ | refine U_cv E rfl rfl rfl (wrap_k (by simp only [wrapOk]; omega)) rfl ?_ | refine U_pure E rfl rfl ?_ | refine T_exit rfl ?_ | refine T_condV rfl ?_ | refine U_guard rfl rfl ?_ | refine U_guardU rfl rfl rfl ?_ | ((with_reducible refine Gd_skipT ?_ ?_); exact rfl) | ((with_reducible refine Gd_skipF ?_ ?_); exact rfl))
          refine U_call rfl rfl (Tryd.call56 _) (hgb) ?_
          rintro r w14 ⟨rfl, rfl⟩
          repeat (first | (with_reducible first | apply T_seq | apply T_region | apply U_nil | apply T_skip | apply T_block | apply T_inBlock | apply Cnd_t | apply Cnd_f | apply Cnd_not | apply Cnd_some | apply Cnd_none | apply Gd_nt | apply Gd_nf | apply Gd_some | apply Gd_none | apply Gd_want) | refine U_ar rfl rfl rfl (wrap_k (by simp only [wrapOk]; omega)) rfl ?_ | refine U_cv E rfl rfl rfl (wrap_k (by simp only [wrapOk]; omega)) rfl ?_ | refine U_pure E rfl rfl ?_ | refine T_exit rfl ?_ | refine T_condV rfl ?_ | refine U_guard rfl rfl ?_ | refine U_guardU rfl rfl rfl ?_ | ((with_reducible refine Gd_skipT ?_ ?_); exact rfl) | ((with_reducible refine Gd_skipF ?_ ?_); exact rfl))
          refine Gd_b (fun _ => ?_) (fun e => absurd e (by simp))
          have hra := room_c hRa h12 (by omega)
          unfold ptr at *
          repeat (first | (with_reducible first | apply T_seq | apply T_region | apply U_nil | apply T_skip | apply T_block | apply T_inBlock | apply Cnd_t | apply Cnd_f | apply Cnd_not | apply Cnd_some | apply Cnd_none | apply Gd_nt | apply Gd_nf | apply Gd_some | apply Gd_none | apply Gd_want) | refine U_ar rfl rfl rfl (wrap_k (by simp only [wrapOk]; omega)) rfl ?_ | refine U_cv E rfl rfl rfl (wrap_k (by simp only [wrapOk]; omega)) rfl ?_ | refine U_pure E rfl rfl ?_ | refine T_exit rfl ?_ | refine T_condV rfl ?_ | refine U_guard rfl rfl ?_ | refine U_guardU rfl rfl rfl ?_ | ((with_reducible refine Gd_skipT ?_ ?_); exact rfl) | ((with_reducible refine Gd_skipF ?_ ?_); exact rfl))
          refine U_call rfl rfl (Tryd.call60 _) (hra) ?_
          rintro r w15 ⟨rfl, k15⟩
          have hrb := room_c (hRb.same h12.lt k15) (h12.same k15) (by omega)
          unfold ptr at *
          repeat (first | (with_reducible first | apply T_seq | apply T_region | apply U_nil | apply T_skip | apply T_block | apply T_inBlock | apply Cnd_t | apply Cnd_f | apply Cnd_not | apply Cnd_some | apply Cnd_none | apply Gd_nt | apply Gd_nf | apply Gd_some | apply Gd_none | apply Gd_want) | refine U_ar rfl rfl rfl (wrap_k (by simp only [wrapOk]; omega)) rfl ?_ | refine U_cv E rfl rfl rfl (wrap_k (by simp only [wrapOk]; omega)) rfl ?_ | refine U_pure E rfl rfl ?_ | refine T_exit rfl ?_ | refine T_condV rfl ?_ | refine U_guard rfl rfl ?_ | refine U_guardU rfl rfl rfl ?_ | ((with_reducible refine Gd_skipT ?_ ?_); exact rfl) | ((with_reducible refine Gd_skipF ?_ ?_); exact rfl))
          refine U_call rfl rfl (Tryd.call60 _) (hrb) ?_
          rintro r w16 ⟨rfl, k16⟩
          repeat (first | (with_reducible first | apply T_seq | apply T_region | apply U_nil | apply T_skip | apply T_block | apply T_inBlock | apply Cnd_t | apply Cnd_f | apply Cnd_not | apply Cnd_some | apply Cnd_none | apply Gd_nt | apply Gd_nf | apply Gd_some | apply Gd_none | apply Gd_want) | refine U_ar rfl rfl rfl (wrap_k (by simp only [wrapOk]; omega)) rfl ?_ | refine U_cv E rfl rfl rfl (wrap_k (by simp only [wrapOk]; omega)) rfl ?_ | refine U_pure E rfl rfl ?_ | refine T_exit rfl ?_ | refine T_condV rfl ?_ | refine U_guard rfl rfl ?_ | refine U_guardU rfl rfl rfl ?_ | ((with_reducible refine Gd_skipT ?_ ?_); exact rfl) | ((with_reducible refine Gd_skipF ?_ ?_); exact rfl))
          refine Gd_b (fun _ => ?_) (fun e => absurd e (by simp))
          have hct := count_c (hRa.same h12.lt (k15.tr k16 (fun _ _ x => x)))
          unfold ptr at *
          repeat (first | (with_reducible first | apply T_seq | apply T_region | apply U_nil | apply T_skip | apply T_block | apply T_inBlock | apply Cnd_t | apply Cnd_f | apply Cnd_not | apply Cnd_some | apply Cnd_none | apply Gd_nt | apply Gd_nf | apply Gd_some | apply Gd_none | apply Gd_want) | refine U_ar rfl rfl rfl (wrap_k (by simp only [wrapOk]; omega)) rfl ?_ | refine U_cv E rfl rfl rfl (wrap_k (by simp only [wrapOk]; omega)) rfl ?_ | refine U_pure E rfl rfl ?_ | refine T_exit rfl ?_ | refine T_condV rfl ?_ | refine U_guard rfl rfl ?_ | refine U_guardU rfl rfl rfl ?_ | ((with_reducible refine Gd_skipT ?_ ?_); exact rfl) | ((with_reducible refine Gd_skipF ?_ ?_); exact rfl))
          refine U_call rfl rfl (Tryd.call61 _) (hct) ?_
          rintro r w17 ⟨rfl, rfl⟩
          repeat (first | (with_reducible first | apply T_seq | apply T_region | apply U_nil | apply T_skip | apply T_block | apply T_inBlock | apply Cnd_t | apply Cnd_f | apply Cnd_not | apply Cnd_some | apply Cnd_none | apply Gd_nt | apply Gd_nf | apply Gd_some | apply Gd_none | apply Gd_want) | refine U_ar rfl rfl rfl (wrap_k (by simp only [wrapOk]; omega)) rfl ?_ | refine U_cv E rfl rfl rfl (wrap_k (by simp only [wrapOk]; omega)) rfl ?_ | refine U_pure E rfl rfl ?_ | refine T_exit rfl ?_ | refine T_condV rfl ?_ | refine U_guard rfl rfl ?_ | refine U_guardU rfl rfl rfl ?_ | ((with_reducible refine Gd_skipT ?_ ?_); exact rfl) | ((with_reducible refine Gd_skipF ?_ ?_); exact rfl))
          exact T_ret1 Tryd.func15 rfl rfl ⟨_, rfl, by rw [decide_eq_true (by omega)], ((k09.tr k912 (fun _ _ x => x)).tr k15 (fun _ _ x => x)).tr k16 (fun _ _ x => x)⟩
end Go.Proofs.YtoefhdaenaiomaaDoor
