/- Frames: the reference's functions. -/
import Derived.Test.YtoefhdaenaiomaaDoorPk5
set_option linter.unusedVariables false
set_option linter.unusedSimpArgs false
namespace Go.Proofs.YtoefhdaenaiomaaDoor
open Go
set_option maxRecDepth 20000

section
variable {P : Program} {f : FuncId} {R : Ending → World → Prop} {n : Nat} {k : List Item} {m : Fm} {ops : Array Oper} {rest : List Oper} {w : World}
variable {d : Nat} {ty : TypeId} {ps : String} {af : Array Edge}
theorem U_cv {Z : Act → World → Prop} (E : Env P) {s t : TypeId} {x : Operand} {k k' : IntKind} {z r : Int} {d' : TypeDesc × Nat} {q : Nat} (hs : E.ty s = some d') (ht : E.ty t = some (.int k', q)) (hx : ev m x = some (.int k z)) (hz : k'.wrap z = r) (hd : Nat.blt d n = true)
    (h : U P n Z ops rest ((d, .int k' r) :: m) w) : U P n Z ops ({ dst := some d, op := .convert s t x, type := ty, pos := ps, after := af, guard := none } :: rest) m w :=
  U_run rfl rfl hd (ro_convI E hs ht hx hz) h
theorem V_cv {Z : Act → Prop} {C : World → Prop} (E : Env P) {s t : TypeId} {x : Operand} {k k' : IntKind} {z r : Int} {d' : TypeDesc × Nat} {q : Nat} (hs : E.ty s = some d') (ht : E.ty t = some (.int k', q)) (hx : ev m x = some (.int k z)) (hz : k'.wrap z = r) (hd : Nat.blt d n = true)
    (h : V P n Z C ops rest ((d, .int k' r) :: m)) : V P n Z C ops ({ dst := some d, op := .convert s t x, type := ty, pos := ps, after := af, guard := none } :: rest) m :=
  V_run rfl rfl hd (fun a ha w' _ => ro_convI E hs ht hx hz a ha) h
end

theorem mod_enc (x : Nat) : Value.int IntKind.u8 ((x % 256 : Nat) : Int) = encB (UInt8.ofNat x) := by
  simp only [encB]
  rw [UInt8.toNat_ofNat']

theorem rword_c (w : World) (z : Nat) (hz : z < 18446744073709551616) :
    Calls Tryd.prog 82 [.int .u64 z].toArray w (Ret fun r w' => ∃ b, r = .slice (some ⟨b, 0, none⟩) 4 4 ∧ New w w' b (encBs (le4 z)) 5) := by
  refine calls_T Tryd.func82 rfl rfl rfl ?_
  repeat (first | (with_reducible first | apply T_seq | apply T_region | apply U_nil | apply T_skip | apply T_block | apply T_inBlock | apply Cnd_t | apply Cnd_f | apply Cnd_not | apply Cnd_some | apply Cnd_none | apply Gd_nt | apply Gd_nf | apply Gd_some | apply Gd_none | apply Gd_want) | refine U_ar rfl rfl rfl (wrap_k (by simp only [wrapOk]; omega)) rfl ?_ | refine U_cv E rfl rfl rfl (wrap_k (by simp only [wrapOk]; omega)) rfl ?_ | refine U_pure E rfl rfl ?_ | refine T_exit rfl ?_ | refine T_condV rfl ?_ | refine U_guard rfl rfl ?_ | ((with_reducible refine Gd_skipT ?_ ?_); exact rfl) | ((with_reducible refine Gd_skipF ?_ ?_); exact rfl))
  refine U_run rfl rfl rfl (ro_bin (r := .int .u64 (z % 256 : Nat)) rfl rfl (by exact run_rem (y := 256) (by decide))) ?_
  repeat (first | (with_reducible first | apply T_seq | apply T_region | apply U_nil | apply T_skip | apply T_block | apply T_inBlock | apply Cnd_t | apply Cnd_f | apply Cnd_not | apply Cnd_some | apply Cnd_none | apply Gd_nt | apply Gd_nf | apply Gd_some | apply Gd_none | apply Gd_want) | refine U_ar rfl rfl rfl (wrap_k (by simp only [wrapOk]; omega)) rfl ?_ | refine U_cv E rfl rfl rfl (wrap_k (by simp only [wrapOk]; omega)) rfl ?_ | refine U_pure E rfl rfl ?_ | refine T_exit rfl ?_ | refine T_condV rfl ?_ | refine U_guard rfl rfl ?_ | ((with_reducible refine Gd_skipT ?_ ?_); exact rfl) | ((with_reducible refine Gd_skipF ?_ ?_); exact rfl))
  refine U_run rfl rfl rfl (ro_bin (r := .int .u64 (z / 256 : Nat)) rfl rfl (by exact run_quo (y := 256) (by decide) (wrap_u64 (by omega)))) ?_
  repeat (first | (with_reducible first | apply T_seq | apply T_region | apply U_nil | apply T_skip | apply T_block | apply T_inBlock | apply Cnd_t | apply Cnd_f | apply Cnd_not | apply Cnd_some | apply Cnd_none | apply Gd_nt | apply Gd_nf | apply Gd_some | apply Gd_none | apply Gd_want) | refine U_ar rfl rfl rfl (wrap_k (by simp only [wrapOk]; omega)) rfl ?_ | refine U_cv E rfl rfl rfl (wrap_k (by simp only [wrapOk]; omega)) rfl ?_ | refine U_pure E rfl rfl ?_ | refine T_exit rfl ?_ | refine T_condV rfl ?_ | refine U_guard rfl rfl ?_ | ((with_reducible refine Gd_skipT ?_ ?_); exact rfl) | ((with_reducible refine Gd_skipF ?_ ?_); exact rfl))
  refine U_run rfl rfl rfl (ro_bin (r := .int .u64 (z / 256 % 256 : Nat)) rfl rfl (by exact run_rem (y := 256) (by decide))) ?_
  repeat (first | (with_reducible first | apply T_seq | apply T_region | apply U_nil | apply T_skip | apply T_block | apply T_inBlock | apply Cnd_t | apply Cnd_f | apply Cnd_not | apply Cnd_some | apply Cnd_none | apply Gd_nt | apply Gd_nf | apply Gd_some | apply Gd_none | apply Gd_want) | refine U_ar rfl rfl rfl (wrap_k (by simp only [wrapOk]; omega)) rfl ?_ | refine U_cv E rfl rfl rfl (wrap_k (by simp only [wrapOk]; omega)) rfl ?_ | refine U_pure E rfl rfl ?_ | refine T_exit rfl ?_ | refine T_condV rfl ?_ | refine U_guard rfl rfl ?_ | ((with_reducible refine Gd_skipT ?_ ?_); exact rfl) | ((with_reducible refine Gd_skipF ?_ ?_); exact rfl))
  refine U_run rfl rfl rfl (ro_bin (r := .int .u64 (z / 65536 : Nat)) rfl rfl (by exact run_quo (y := 65536) (by decide) (wrap_u64 (by omega)))) ?_
  repeat (first | (with_reducible first | apply T_seq | apply T_region | apply U_nil | apply T_skip | apply T_block | apply T_inBlock | apply Cnd_t | apply Cnd_f | apply Cnd_not | apply Cnd_some | apply Cnd_none | apply Gd_nt | apply Gd_nf | apply Gd_some | apply Gd_none | apply Gd_want) | refine U_ar rfl rfl rfl (wrap_k (by simp only [wrapOk]; omega)) rfl ?_ | refine U_cv E rfl rfl rfl (wrap_k (by simp only [wrapOk]; omega)) rfl ?_ | refine U_pure E rfl rfl ?_ | refine T_exit rfl ?_ | refine T_condV rfl ?_ | refine U_guard rfl rfl ?_ | ((with_reducible refine Gd_skipT ?_ ?_); exact rfl) | ((with_reducible refine Gd_skipF ?_ ?_); exact rfl))
  refine U_run rfl rfl rfl (ro_bin (r := .int .u64 (z / 65536 % 256 : Nat)) rfl rfl (by exact run_rem (y := 256) (by decide))) ?_
  repeat (first | (with_reducible first | apply T_seq | apply T_region | apply U_nil | apply T_skip | apply T_block | apply T_inBlock | apply Cnd_t | apply Cnd_f | apply Cnd_not | apply Cnd_some | apply Cnd_none | apply Gd_nt | apply Gd_nf | apply Gd_some | apply Gd_none | apply Gd_want) | refine U_ar rfl rfl rfl (wrap_k (by simp only [wrapOk]; omega)) rfl ?_ | refine U_cv E rfl rfl rfl (wrap_k (by simp only [wrapOk]; omega)) rfl ?_ | refine U_pure E rfl rfl ?_ | refine T_exit rfl ?_ | refine T_condV rfl ?_ | refine U_guard rfl rfl ?_ | ((with_reducible refine Gd_skipT ?_ ?_); exact rfl) | ((with_reducible refine Gd_skipF ?_ ?_); exact rfl))
  refine U_run rfl rfl rfl (ro_bin (r := .int .u64 (z / 16777216 : Nat)) rfl rfl (by exact run_quo (y := 16777216) (by decide) (wrap_u64 (by omega)))) ?_
  repeat (first | (with_reducible first | apply T_seq | apply T_region | apply U_nil | apply T_skip | apply T_block | apply T_inBlock | apply Cnd_t | apply Cnd_f | apply Cnd_not | apply Cnd_some | apply Cnd_none | apply Gd_nt | apply Gd_nf | apply Gd_some | apply Gd_none | apply Gd_want) | refine U_ar rfl rfl rfl (wrap_k (by simp only [wrapOk]; omega)) rfl ?_ | refine U_cv E rfl rfl rfl (wrap_k (by simp only [wrapOk]; omega)) rfl ?_ | refine U_pure E rfl rfl ?_ | refine T_exit rfl ?_ | refine T_condV rfl ?_ | refine U_guard rfl rfl ?_ | ((with_reducible refine Gd_skipT ?_ ?_); exact rfl) | ((with_reducible refine Gd_skipF ?_ ?_); exact rfl))
  refine U_run rfl rfl rfl (ro_bin (r := .int .u64 (z / 16777216 % 256 : Nat)) rfl rfl (by exact run_rem (y := 256) (by decide))) ?_
  repeat (first | (with_reducible first | apply T_seq | apply T_region | apply U_nil | apply T_skip | apply T_block | apply T_inBlock | apply Cnd_t | apply Cnd_f | apply Cnd_not | apply Cnd_some | apply Cnd_none | apply Gd_nt | apply Gd_nf | apply Gd_some | apply Gd_none | apply Gd_want) | refine U_ar rfl rfl rfl (wrap_k (by simp only [wrapOk]; omega)) rfl ?_ | refine U_cv E rfl rfl rfl (wrap_k (by simp only [wrapOk]; omega)) rfl ?_ | refine U_pure E rfl rfl ?_ | refine T_exit rfl ?_ | refine T_condV rfl ?_ | refine U_guard rfl rfl ?_ | ((with_reducible refine Gd_skipT ?_ ?_); exact rfl) | ((with_reducible refine Gd_skipF ?_ ?_); exact rfl))
  rw [mod_enc, mod_enc, mod_enc, mod_enc]
  refine U_buildSlice E rfl rfl rfl rfl rfl rfl rfl rfl (segs := (encBs (le4 z)).map ([·])) rfl (by intro s hs; obtain ⟨u, _, rfl⟩ := List.mem_map.1 hs; rfl) rfl ?_
  intro b w1 hn
  repeat (first | (with_reducible first | apply T_seq | apply T_region | apply U_nil | apply T_skip | apply T_block | apply T_inBlock | apply Cnd_t | apply Cnd_f | apply Cnd_not | apply Cnd_some | apply Cnd_none | apply Gd_nt | apply Gd_nf | apply Gd_some | apply Gd_none | apply Gd_want) | refine U_ar rfl rfl rfl (wrap_k (by simp only [wrapOk]; omega)) rfl ?_ | refine U_cv E rfl rfl rfl (wrap_k (by simp only [wrapOk]; omega)) rfl ?_ | refine U_pure E rfl rfl ?_ | refine T_exit rfl ?_ | refine T_condV rfl ?_ | refine U_guard rfl rfl ?_ | ((with_reducible refine Gd_skipT ?_ ?_); exact rfl) | ((with_reducible refine Gd_skipF ?_ ?_); exact rfl))
  refine T_ret1 Tryd.func82 rfl rfl ⟨_, rfl, b, rfl, ?_⟩
  exact hn

theorem value_c (w : World) (G : Nat → Prop) (v : Value) (l : List UInt8) (h4 : 4 ≤ l.length) (h : BS w G v l) :
    Calls Tryd.prog 80 [v].toArray w (fun e w' => e = .returned (.int .u64 (val4 l : Nat)) ∧ Drew w w') := by
  refine calls_T Tryd.func80 rfl rfl rfl ?_
  have hlen := h.1
  have b0 := b_lt (l[0]'(by omega))
  have b1 := b_lt (l[1]'(by omega))
  have b2 := b_lt (l[2]'(by omega))
  have b3 := b_lt (l[3]'(by omega))
  have g : ∀ (i : Nat) (hi : i < l.length), (encBs l)[(OfNat.ofNat i : Int).toNat]? = some (encB l[i]) := fun i hi => get_enc hi
  obtain ⟨A, c, rfl⟩ := h.len
  repeat (first | (with_reducible first | apply T_seq | apply T_region | apply U_nil | apply T_skip | apply T_block | apply T_inBlock | apply Cnd_t | apply Cnd_f | apply Cnd_not | apply Cnd_some | apply Cnd_none | apply Gd_nt | apply Gd_nf | apply Gd_some | apply Gd_none | apply Gd_want) | refine U_ar rfl rfl rfl (wrap_k (by simp only [wrapOk]; omega)) rfl ?_ | refine U_cv E rfl rfl rfl (wrap_k (by simp only [wrapOk]; omega)) rfl ?_ | refine U_pure E rfl rfl ?_ | refine T_exit rfl ?_ | refine T_condV rfl ?_ | refine U_guard rfl rfl ?_ | ((with_reducible refine Gd_skipT ?_ ?_); exact rfl) | ((with_reducible refine Gd_skipF ?_ ?_); exact rfl))
  refine T_quiet (by kernel_rfl) (by kernel_rfl) ?_; (repeat (first | refine V_ar rfl rfl rfl (wrap_k (by simp only [wrapOk]; omega)) rfl ?_ | refine V_cv E rfl rfl rfl (wrap_k (by simp only [wrapOk]; omega)) rfl ?_ | refine V_pure E rfl rfl ?_ | refine V_guard rfl rfl ?_ | with_reducible refine GdV_want ?_ | ((with_reducible refine GdV_skipT ?_ ?_); exact rfl) | ((with_reducible refine GdV_skipF ?_ ?_); exact rfl)))
  refine V_idx E (h) rfl rfl rfl rfl (by omega) (by omega) ((g 0 (by omega))) rfl (fun p0 hp0 => ?_)
  refine V_load E rfl rfl rfl (fun w' hw' => (by first | (rw [hw'.cell]; exact hp0) | (subst hw'; exact hp0))) rfl ?_
  repeat (first | refine V_ar rfl rfl rfl (wrap_k (by simp only [wrapOk]; omega)) rfl ?_ | refine V_cv E rfl rfl rfl (wrap_k (by simp only [wrapOk]; omega)) rfl ?_ | refine V_pure E rfl rfl ?_ | refine V_guard rfl rfl ?_ | with_reducible refine GdV_want ?_ | ((with_reducible refine GdV_skipT ?_ ?_); exact rfl) | ((with_reducible refine GdV_skipF ?_ ?_); exact rfl))
  refine V_idx E (h) rfl rfl rfl rfl (by omega) (by omega) ((g 1 (by omega))) rfl (fun p1 hp1 => ?_)
  refine V_load E rfl rfl rfl (fun w' hw' => (by first | (rw [hw'.cell]; exact hp1) | (subst hw'; exact hp1))) rfl ?_
  repeat (first | refine V_ar rfl rfl rfl (wrap_k (by simp only [wrapOk]; omega)) rfl ?_ | refine V_cv E rfl rfl rfl (wrap_k (by simp only [wrapOk]; omega)) rfl ?_ | refine V_pure E rfl rfl ?_ | refine V_guard rfl rfl ?_ | with_reducible refine GdV_want ?_ | ((with_reducible refine GdV_skipT ?_ ?_); exact rfl) | ((with_reducible refine GdV_skipF ?_ ?_); exact rfl))
  refine V_idx E (h) rfl rfl rfl rfl (by omega) (by omega) ((g 2 (by omega))) rfl (fun p2 hp2 => ?_)
  refine V_load E rfl rfl rfl (fun w' hw' => (by first | (rw [hw'.cell]; exact hp2) | (subst hw'; exact hp2))) rfl ?_
  repeat (first | refine V_ar rfl rfl rfl (wrap_k (by simp only [wrapOk]; omega)) rfl ?_ | refine V_cv E rfl rfl rfl (wrap_k (by simp only [wrapOk]; omega)) rfl ?_ | refine V_pure E rfl rfl ?_ | refine V_guard rfl rfl ?_ | with_reducible refine GdV_want ?_ | ((with_reducible refine GdV_skipT ?_ ?_); exact rfl) | ((with_reducible refine GdV_skipF ?_ ?_); exact rfl))
  refine V_idx E (h) rfl rfl rfl rfl (by omega) (by omega) ((g 3 (by omega))) rfl (fun p3 hp3 => ?_)
  refine V_load E rfl rfl rfl (fun w' hw' => (by first | (rw [hw'.cell]; exact hp3) | (subst hw'; exact hp3))) rfl ?_
  repeat (first | refine V_ar rfl rfl rfl (wrap_k (by simp only [wrapOk]; omega)) rfl ?_ | refine V_cv E rfl rfl rfl (wrap_k (by simp only [wrapOk]; omega)) rfl ?_ | refine V_pure E rfl rfl ?_ | refine V_guard rfl rfl ?_ | with_reducible refine GdV_want ?_ | ((with_reducible refine GdV_skipT ?_ ?_); exact rfl) | ((with_reducible refine GdV_skipF ?_ ?_); exact rfl))
  refine V_nilQ fun w' hw => ?_
  repeat (first | (with_reducible first | apply T_seq | apply T_region | apply U_nil | apply T_skip | apply T_block | apply T_inBlock | apply Cnd_t | apply Cnd_f | apply Cnd_not | apply Cnd_some | apply Cnd_none | apply Gd_nt | apply Gd_nf | apply Gd_some | apply Gd_none | apply Gd_want) | refine U_ar rfl rfl rfl (wrap_k (by simp only [wrapOk]; omega)) rfl ?_ | refine U_cv E rfl rfl rfl (wrap_k (by simp only [wrapOk]; omega)) rfl ?_ | refine U_pure E rfl rfl ?_ | refine T_exit rfl ?_ | refine T_condV rfl ?_ | refine U_guard rfl rfl ?_ | ((with_reducible refine Gd_skipT ?_ ?_); exact rfl) | ((with_reducible refine Gd_skipF ?_ ?_); exact rfl))
  refine T_ret1 Tryd.func80 rfl rfl ⟨?_, hw⟩
  refine congrArg (fun z => Ending.returned (Value.int .u64 z)) ?_
  unfold val4
  rw [at8_get (i := 0) (by omega), at8_get (i := 1) (by omega), at8_get (i := 2) (by omega), at8_get (i := 3) (by omega)]
  omega

/-- The register of the reference, that takes a byte bit by bit. -/
theorem ref_step (r c : Nat) : (if (r % 2 + c) % 2 = 1 then (r / 2) ^^^ 3988292384 else r / 2) ^^^ (c / 2) = stp (r ^^^ c) := by
  unfold stp
  rw [xor_mod, xor_half]
  by_cases h : (r + c) % 2 = 1
  · rw [if_pos (by omega), if_pos h, Nat.xor_assoc, Nat.xor_comm 3988292384, ← Nat.xor_assoc]
  · rw [if_neg (by omega), if_neg h]

theorem two_sl {w : World} {b : Nat} {t : TypeId} {u v : Value} (h : Blk w b [u, v] t) : Sl w (fun x => x = b) (.slice (some ⟨b, 0, none⟩) 2 2) 1 [u, v].length [u, v] :=
  ⟨by simp, rfl, _, 2, rfl, Nat.le_refl _, .inr ⟨b, 0, rfl, rfl, h.lt, h.whole⟩⟩
theorem two_bs {w : World} {H : Nat → Prop} {u v : Value} {p q : List UInt8} (hu : BS w H u p) (hv : BS w H v q) : ∀ (i : Nat) x l, [u, v][i]? = some x → [p, q][i]? = some l → BS w H x l := by
  intro j x l hx hl
  match j with
  | 0 => injection hx with hx; injection hl with hl; subst hx; subst hl; exact hu
  | 1 => injection hx with hx; injection hl with hl; subst hx; subst hl; exact hv
  | j + 2 => simp at hx

set_option maxHeartbeats 2000000 in
theorem rcheck_c (w : World) (G : Nat → Prop) (v : Value) (l : List UInt8) (s : Nat) (hs : s < 4294967296) (h : BS w G v l) (hN : l.length ≤ 900000) :
    Calls Tryd.prog 45 [.int .u32 s, v].toArray w (Ret fun r w' => r = .int .u32 (chk s l : Nat) ∧ Kept none0 w w') := by
  refine calls_T Tryd.func45 rfl rfl rfl ?_
  repeat (first | (with_reducible first | apply T_seq | apply T_region | apply U_nil | apply T_skip | apply T_block | apply T_inBlock | apply Cnd_t | apply Cnd_f | apply Cnd_not | apply Cnd_some | apply Cnd_none | apply Gd_nt | apply Gd_nf | apply Gd_some | apply Gd_none | apply Gd_want) | refine U_ar rfl rfl rfl (wrap_k (by simp only [wrapOk]; omega)) rfl ?_ | refine U_cv E rfl rfl rfl (wrap_k (by simp only [wrapOk]; omega)) rfl ?_ | refine U_pure E rfl rfl ?_ | refine T_exit rfl ?_ | refine T_condV rfl ?_ | refine U_guard rfl rfl ?_ | ((with_reducible refine Gd_skipT ?_ ?_); exact rfl) | ((with_reducible refine Gd_skipF ?_ ?_); exact rfl))
  refine U_call rfl rfl (Tryd.call82 _) (rword_c w s (by omega)) ?_
  rintro r w1 ⟨b1, rfl, hn1⟩
  obtain ⟨A, c, rfl⟩ := h.len
  repeat (first | (with_reducible first | apply T_seq | apply T_region | apply U_nil | apply T_skip | apply T_block | apply T_inBlock | apply Cnd_t | apply Cnd_f | apply Cnd_not | apply Cnd_some | apply Cnd_none | apply Gd_nt | apply Gd_nf | apply Gd_some | apply Gd_none | apply Gd_want) | refine U_ar rfl rfl rfl (wrap_k (by simp only [wrapOk]; omega)) rfl ?_ | refine U_cv E rfl rfl rfl (wrap_k (by simp only [wrapOk]; omega)) rfl ?_ | refine U_pure E rfl rfl ?_ | refine T_exit rfl ?_ | refine T_condV rfl ?_ | refine U_guard rfl rfl ?_ | ((with_reducible refine Gd_skipT ?_ ?_); exact rfl) | ((with_reducible refine Gd_skipF ?_ ?_); exact rfl))
  refine U_buildSlice (sz := 1) E rfl rfl rfl rfl rfl rfl rfl rfl (segs := [[.slice (some ⟨b1, 0, none⟩) 4 4], [.slice A l.length c]]) rfl (by simp) rfl ?_
  intro b2 w2 hn2
  have hs1 : BS w2 (fun _ => True) (.slice (some ⟨b1, 0, none⟩) 4 4) (le4 s) := (hn1.bs (le4_len s) (by decide) _ trivial).mv hn2.kept (fun _ _ _ x => x)
  have k2 : Kept none0 w w2 := hn1.kept.tr hn2.kept (fun _ _ x => x)
  have hl2 : BS w2 (fun _ => True) (.slice A l.length c) l := (h.mv k2 (fun _ _ _ x => x)).mono (fun _ _ _ => trivial)
  have hJ : ([le4 s, l] : List (List UInt8)).flatten = le4 s ++ l := by simp
  have hjl : (le4 s ++ l).length = 4 + l.length := by rw [List.length_append, le4_len]
  have hj := join_c w2 _ _ _ _ [le4 s, l] (two_sl hn2.blk) rfl (two_bs hs1 hl2) (by rw [hJ, hjl]; omega)
  rw [hJ] at hj
  refine U_call rfl rfl (Tryd.call35 _) (hj) ?_
  rintro r w3 ⟨k3, hr3⟩
  have k3' : Kept none0 w w3 := k2.tr k3 (fun _ _ x => x)
  have hb3 : BS w3 (fresh w2) r (le4 s ++ l) := hr3.sl (by omega)
  clear hr3
  obtain ⟨J, hJe⟩ : ∃ J, le4 s ++ l = J := ⟨_, rfl⟩
  rw [hJe] at hb3 hjl
  obtain ⟨A3, c3, rfl⟩ := hb3.len
  repeat (first | (with_reducible first | apply T_seq | apply T_region | apply U_nil | apply T_skip | apply T_block | apply T_inBlock | apply Cnd_t | apply Cnd_f | apply Cnd_not | apply Cnd_some | apply Cnd_none | apply Gd_nt | apply Gd_nf | apply Gd_some | apply Gd_none | apply Gd_want) | refine U_ar rfl rfl rfl (wrap_k (by simp only [wrapOk]; omega)) rfl ?_ | refine U_cv E rfl rfl rfl (wrap_k (by simp only [wrapOk]; omega)) rfl ?_ | refine U_pure E rfl rfl ?_ | refine T_exit rfl ?_ | refine T_condV rfl ?_ | refine U_guard rfl rfl ?_ | ((with_reducible refine Gd_skipT ?_ ?_); exact rfl) | ((with_reducible refine Gd_skipF ?_ ?_); exact rfl))
  refine T_loop (α := Nat × Nat) (fun x => [(17, .int .i64 x.1), (16, .int .i64 J.length), (15, .slice A3 J.length c3), (5, .int .u64 x.2)]) (fun x => w3) (fun x => J.length - x.1)
    (fun x => x.1 ≤ J.length ∧ x.2 = crc 4294967295 (J.take x.1)) (0, 4294967295) ⟨Nat.zero_le _, by simp [crc]⟩ ⟨rfl, rfl, rfl, rfl, trivial⟩ rfl ?_
  rintro ⟨i, x⟩ ⟨hi, hx⟩ ih
  dsimp only at hi hx ⊢
  have hx32 : x < 4294967296 := by rw [hx]; exact crc_lt (by decide) _
  repeat (first | (with_reducible first | apply T_seq | apply T_region | apply U_nil | apply T_skip | apply T_block | apply T_inBlock | apply Cnd_t | apply Cnd_f | apply Cnd_not | apply Cnd_some | apply Cnd_none | apply Gd_nt | apply Gd_nf | apply Gd_some | apply Gd_none | apply Gd_want) | refine U_ar rfl rfl rfl (wrap_k (by simp only [wrapOk]; omega)) rfl ?_ | refine U_cv E rfl rfl rfl (wrap_k (by simp only [wrapOk]; omega)) rfl ?_ | refine U_pure E rfl rfl ?_ | refine T_exit rfl ?_ | refine T_condV rfl ?_ | refine U_guard rfl rfl ?_ | ((with_reducible refine Gd_skipT ?_ ?_); exact rfl) | ((with_reducible refine Gd_skipF ?_ ?_); exact rfl))
  refine Cnd_p (fun hlt => ?_) (fun hlt => ?_)
  · have hlt' : i < J.length := by omega
    have hb := b_lt J[i]
    repeat (first | (with_reducible first | apply T_seq | apply T_region | apply U_nil | apply T_skip | apply T_block | apply T_inBlock | apply Cnd_t | apply Cnd_f | apply Cnd_not | apply Cnd_some | apply Cnd_none | apply Gd_nt | apply Gd_nf | apply Gd_some | apply Gd_none | apply Gd_want) | refine U_ar rfl rfl rfl (wrap_k (by simp only [wrapOk]; omega)) rfl ?_ | refine U_cv E rfl rfl rfl (wrap_k (by simp only [wrapOk]; omega)) rfl ?_ | refine U_pure E rfl rfl ?_ | refine T_exit rfl ?_ | refine T_condV rfl ?_ | refine U_guard rfl rfl ?_ | ((with_reducible refine Gd_skipT ?_ ?_); exact rfl) | ((with_reducible refine Gd_skipF ?_ ?_); exact rfl))
    refine U_idx E (hb3) rfl rfl rfl rfl (by omega) (by omega) ((toNat_get hlt')) rfl (fun p hp => ?_)
    refine U_load E rfl rfl rfl hp rfl ?_
    repeat (first | (with_reducible first | apply T_seq | apply T_region | apply U_nil | apply T_skip | apply T_block | apply T_inBlock | apply Cnd_t | apply Cnd_f | apply Cnd_not | apply Cnd_some | apply Cnd_none | apply Gd_nt | apply Gd_nf | apply Gd_some | apply Gd_none | apply Gd_want) | refine U_ar rfl rfl rfl (wrap_k (by simp only [wrapOk]; omega)) rfl ?_ | refine U_cv E rfl rfl rfl (wrap_k (by simp only [wrapOk]; omega)) rfl ?_ | refine U_pure E rfl rfl ?_ | refine T_exit rfl ?_ | refine T_condV rfl ?_ | refine U_guard rfl rfl ?_ | ((with_reducible refine Gd_skipT ?_ ?_); exact rfl) | ((with_reducible refine Gd_skipF ?_ ?_); exact rfl))
    refine T_loop (α := Nat × Nat) (fun y => [(8, .int .i64 y.1), (5, .int .u64 y.2), (7, encB J[i]), (17, .int .i64 i), (16, .int .i64 J.length), (15, .slice A3 J.length c3)]) (fun y => w3) (fun y => 8 - y.1)
      (fun y => y.1 ≤ 8 ∧ y.2 < 4294967296 ∧ y.2 ^^^ (J[i].toNat / 2 ^ y.1) = stps y.1 (x ^^^ J[i].toNat)) (0, x) ⟨Nat.zero_le 8, hx32, by simp [stps]⟩ ⟨rfl, rfl, rfl, rfl, rfl, rfl, trivial⟩ rfl ?_
    rintro ⟨j, y⟩ ⟨hj8, hy32, hy⟩ ih2
    dsimp only at hj8 hy32 hy ⊢
    have hnext : stps (j + 1) (x ^^^ J[i].toNat) = stp (y ^^^ (J[i].toNat / 2 ^ j)) := by rw [hy]; rfl
    have hdd : J[i].toNat / 2 ^ (j + 1) = J[i].toNat / 2 ^ j / 2 := by rw [Nat.pow_succ, Nat.div_div_eq_div_mul]
    have hq : J[i].toNat / 2 ^ j ≤ J[i].toNat := Nat.div_le_self _ _
    obtain ⟨Q, hQ⟩ : ∃ Q, J[i].toNat / 2 ^ j = Q := ⟨_, rfl⟩
    rw [hQ] at hy hnext hdd hq
    repeat (first | (with_reducible first | apply T_seq | apply T_region | apply U_nil | apply T_skip | apply T_block | apply T_inBlock | apply Cnd_t | apply Cnd_f | apply Cnd_not | apply Cnd_some | apply Cnd_none | apply Gd_nt | apply Gd_nf | apply Gd_some | apply Gd_none | apply Gd_want) | refine U_ar rfl rfl rfl (wrap_k (by simp only [wrapOk]; omega)) rfl ?_ | refine U_cv E rfl rfl rfl (wrap_k (by simp only [wrapOk]; omega)) rfl ?_ | refine U_pure E rfl rfl ?_ | refine T_exit rfl ?_ | refine T_condV rfl ?_ | refine U_guard rfl rfl ?_ | ((with_reducible refine Gd_skipT ?_ ?_); exact rfl) | ((with_reducible refine Gd_skipF ?_ ?_); exact rfl))
    refine Cnd_p (fun hjl8 => ?_) (fun hjl8 => ?_)
    · repeat (first | (with_reducible first | apply T_seq | apply T_region | apply U_nil | apply T_skip | apply T_block | apply T_inBlock | apply Cnd_t | apply Cnd_f | apply Cnd_not | apply Cnd_some | apply Cnd_none | apply Gd_nt | apply Gd_nf | apply Gd_some | apply Gd_none | apply Gd_want) | refine U_ar rfl rfl rfl (wrap_k (by simp only [wrapOk]; omega)) rfl ?_ | refine U_cv E rfl rfl rfl (wrap_k (by simp only [wrapOk]; omega)) rfl ?_ | refine U_pure E rfl rfl ?_ | refine T_exit rfl ?_ | refine T_condV rfl ?_ | refine U_guard rfl rfl ?_ | ((with_reducible refine Gd_skipT ?_ ?_); exact rfl) | ((with_reducible refine Gd_skipF ?_ ?_); exact rfl))
      refine U_run rfl rfl rfl (ro_bin (r := .int .u64 (y % 2 : Nat)) rfl rfl (by exact run_rem (y := 2) (by decide))) ?_
      repeat (first | (with_reducible first | apply T_seq | apply T_region | apply U_nil | apply T_skip | apply T_block | apply T_inBlock | apply Cnd_t | apply Cnd_f | apply Cnd_not | apply Cnd_some | apply Cnd_none | apply Gd_nt | apply Gd_nf | apply Gd_some | apply Gd_none | apply Gd_want) | refine U_ar rfl rfl rfl (wrap_k (by simp only [wrapOk]; omega)) rfl ?_ | refine U_cv E rfl rfl rfl (wrap_k (by simp only [wrapOk]; omega)) rfl ?_ | refine U_pure E rfl rfl ?_ | refine T_exit rfl ?_ | refine T_condV rfl ?_ | refine U_guard rfl rfl ?_ | ((with_reducible refine Gd_skipT ?_ ?_); exact rfl) | ((with_reducible refine Gd_skipF ?_ ?_); exact rfl))
      refine U_run rfl rfl rfl (ro_bin (r := .int .u64 (Q : Nat)) rfl rfl (by rw [← hQ]; exact run_shr (y := j) .i64 (by simp only [IntKind.bits]; omega))) ?_
      repeat (first | (with_reducible first | apply T_seq | apply T_region | apply U_nil | apply T_skip | apply T_block | apply T_inBlock | apply Cnd_t | apply Cnd_f | apply Cnd_not | apply Cnd_some | apply Cnd_none | apply Gd_nt | apply Gd_nf | apply Gd_some | apply Gd_none | apply Gd_want) | refine U_ar rfl rfl rfl (wrap_k (by simp only [wrapOk]; omega)) rfl ?_ | refine U_cv E rfl rfl rfl (wrap_k (by simp only [wrapOk]; omega)) rfl ?_ | refine U_pure E rfl rfl ?_ | refine T_exit rfl ?_ | refine T_condV rfl ?_ | refine U_guard rfl rfl ?_ | ((with_reducible refine Gd_skipT ?_ ?_); exact rfl) | ((with_reducible refine Gd_skipF ?_ ?_); exact rfl))
      refine U_run rfl rfl rfl (ro_bin (r := .int .u64 ((y % 2 + Q) % 2 : Nat)) rfl rfl (by exact run_rem (x := y % 2 + Q) (y := 2) (by decide))) ?_
      repeat (first | (with_reducible first | apply T_seq | apply T_region | apply U_nil | apply T_skip | apply T_block | apply T_inBlock | apply Cnd_t | apply Cnd_f | apply Cnd_not | apply Cnd_some | apply Cnd_none | apply Gd_nt | apply Gd_nf | apply Gd_some | apply Gd_none | apply Gd_want) | refine U_ar rfl rfl rfl (wrap_k (by simp only [wrapOk]; omega)) rfl ?_ | refine U_cv E rfl rfl rfl (wrap_k (by simp only [wrapOk]; omega)) rfl ?_ | refine U_pure E rfl rfl ?_ | refine T_exit rfl ?_ | refine T_condV rfl ?_ | refine U_guard rfl rfl ?_ | ((with_reducible refine Gd_skipT ?_ ?_); exact rfl) | ((with_reducible refine Gd_skipF ?_ ?_); exact rfl))
      refine U_run rfl rfl rfl (ro_bin (r := .int .u64 (y / 2 : Nat)) rfl rfl (by exact run_quo (y := 2) (by decide) (wrap_u64 (by omega)))) ?_
      repeat (first | (with_reducible first | apply T_seq | apply T_region | apply U_nil | apply T_skip | apply T_block | apply T_inBlock | apply Cnd_t | apply Cnd_f | apply Cnd_not | apply Cnd_some | apply Cnd_none | apply Gd_nt | apply Gd_nf | apply Gd_some | apply Gd_none | apply Gd_want) | refine U_ar rfl rfl rfl (wrap_k (by simp only [wrapOk]; omega)) rfl ?_ | refine U_cv E rfl rfl rfl (wrap_k (by simp only [wrapOk]; omega)) rfl ?_ | refine U_pure E rfl rfl ?_ | refine T_exit rfl ?_ | refine T_condV rfl ?_ | refine U_guard rfl rfl ?_ | ((with_reducible refine Gd_skipT ?_ ?_); exact rfl) | ((with_reducible refine Gd_skipF ?_ ?_); exact rfl))
      have hstep := ref_step y Q
      refine Cnd_p (fun hodd => ?_) (fun hodd => ?_)
      · rw [if_pos (by omega)] at hstep
        repeat (first | (with_reducible first | apply T_seq | apply T_region | apply U_nil | apply T_skip | apply T_block | apply T_inBlock | apply Cnd_t | apply Cnd_f | apply Cnd_not | apply Cnd_some | apply Cnd_none | apply Gd_nt | apply Gd_nf | apply Gd_some | apply Gd_none | apply Gd_want) | refine U_ar rfl rfl rfl (wrap_k (by simp only [wrapOk]; omega)) rfl ?_ | refine U_cv E rfl rfl rfl (wrap_k (by simp only [wrapOk]; omega)) rfl ?_ | refine U_pure E rfl rfl ?_ | refine T_exit rfl ?_ | refine T_condV rfl ?_ | refine U_guard rfl rfl ?_ | ((with_reducible refine Gd_skipT ?_ ?_); exact rfl) | ((with_reducible refine Gd_skipF ?_ ?_); exact rfl))
        refine U_run rfl rfl rfl (ro_bin (r := .int .u64 (y / 2 ^^^ 3988292384 : Nat)) rfl rfl (by exact run_xor (y := 3988292384) rfl (by simp only [IntKind.bits]; omega) (by decide))) ?_
        repeat (first | (with_reducible first | apply T_seq | apply T_region | apply U_nil | apply T_skip | apply T_block | apply T_inBlock | apply Cnd_t | apply Cnd_f | apply Cnd_not | apply Cnd_some | apply Cnd_none | apply Gd_nt | apply Gd_nf | apply Gd_some | apply Gd_none | apply Gd_want) | refine U_ar rfl rfl rfl (wrap_k (by simp only [wrapOk]; omega)) rfl ?_ | refine U_cv E rfl rfl rfl (wrap_k (by simp only [wrapOk]; omega)) rfl ?_ | refine U_pure E rfl rfl ?_ | refine T_exit rfl ?_ | refine T_condV rfl ?_ | refine U_guard rfl rfl ?_ | ((with_reducible refine Gd_skipT ?_ ?_); exact rfl) | ((with_reducible refine Gd_skipF ?_ ?_); exact rfl))
        refine T.less ?_ (ih2 (j + 1, y / 2 ^^^ 3988292384) ⟨by omega, xor_lt32 (by omega) (by decide), ?_⟩ (by dsimp only; omega))
        · exact ⟨rfl, rfl, rfl, rfl, rfl, rfl, trivial⟩
        · dsimp only
          rw [hnext, hdd, hstep]
      · rw [if_neg (by omega)] at hstep
        repeat (first | (with_reducible first | apply T_seq | apply T_region | apply U_nil | apply T_skip | apply T_block | apply T_inBlock | apply Cnd_t | apply Cnd_f | apply Cnd_not | apply Cnd_some | apply Cnd_none | apply Gd_nt | apply Gd_nf | apply Gd_some | apply Gd_none | apply Gd_want) | refine U_ar rfl rfl rfl (wrap_k (by simp only [wrapOk]; omega)) rfl ?_ | refine U_cv E rfl rfl rfl (wrap_k (by simp only [wrapOk]; omega)) rfl ?_ | refine U_pure E rfl rfl ?_ | refine T_exit rfl ?_ | refine T_condV rfl ?_ | refine U_guard rfl rfl ?_ | ((with_reducible refine Gd_skipT ?_ ?_); exact rfl) | ((with_reducible refine Gd_skipF ?_ ?_); exact rfl))
        refine T.less ?_ (ih2 (j + 1, y / 2) ⟨by omega, by dsimp only; omega, ?_⟩ (by dsimp only; omega))
        · exact ⟨rfl, rfl, rfl, rfl, rfl, rfl, trivial⟩
        · dsimp only
          rw [hnext, hdd, hstep]
    · have : j = 8 := by omega
      subst this
      repeat (first | (with_reducible first | apply T_seq | apply T_region | apply U_nil | apply T_skip | apply T_block | apply T_inBlock | apply Cnd_t | apply Cnd_f | apply Cnd_not | apply Cnd_some | apply Cnd_none | apply Gd_nt | apply Gd_nf | apply Gd_some | apply Gd_none | apply Gd_want) | refine U_ar rfl rfl rfl (wrap_k (by simp only [wrapOk]; omega)) rfl ?_ | refine U_cv E rfl rfl rfl (wrap_k (by simp only [wrapOk]; omega)) rfl ?_ | refine U_pure E rfl rfl ?_ | refine T_exit rfl ?_ | refine T_condV rfl ?_ | refine U_guard rfl rfl ?_ | ((with_reducible refine Gd_skipT ?_ ?_); exact rfl) | ((with_reducible refine Gd_skipF ?_ ?_); exact rfl))
      refine T.less ?_ (ih (i + 1, y) ⟨hlt', ?_⟩ (by dsimp only; omega))
      · exact ⟨rfl, rfl, rfl, rfl, trivial⟩
      · dsimp only
        have hQ0 : Q = 0 := by rw [← hQ]; omega
        rw [hQ0, Nat.xor_zero] at hy
        rw [take_snoc J i hlt', crc_snoc, ← hx, hy]
        rfl
  · have : i = J.length := by omega
    subst this
    rw [List.take_length] at hx
    repeat (first | (with_reducible first | apply T_seq | apply T_region | apply U_nil | apply T_skip | apply T_block | apply T_inBlock | apply Cnd_t | apply Cnd_f | apply Cnd_not | apply Cnd_some | apply Cnd_none | apply Gd_nt | apply Gd_nf | apply Gd_some | apply Gd_none | apply Gd_want) | refine U_ar rfl rfl rfl (wrap_k (by simp only [wrapOk]; omega)) rfl ?_ | refine U_cv E rfl rfl rfl (wrap_k (by simp only [wrapOk]; omega)) rfl ?_ | refine U_pure E rfl rfl ?_ | refine T_exit rfl ?_ | refine T_condV rfl ?_ | refine U_guard rfl rfl ?_ | ((with_reducible refine Gd_skipT ?_ ?_); exact rfl) | ((with_reducible refine Gd_skipF ?_ ?_); exact rfl))
    refine T_ret1 Tryd.func45 rfl rfl ⟨_, rfl, ?_, k3'⟩
    refine congrArg (fun z => Value.int .u32 z) ?_
    unfold chk
    rw [← crc_append, hJe, ← hx]
    omega
end Go.Proofs.YtoefhdaenaiomaaDoor

/- Frames: the reference's Frame, Next, Turned. -/
namespace Go.Proofs.YtoefhdaenaiomaaDoor
open Go
set_option maxRecDepth 20000

section
variable {P : Program} {w : World} {m : Fm} {n : Nat} {t ty t2 : TypeId} {ps : String} {af : Array Edge}
theorem ro_ar {bop : BinOp} {x y : Operand} {kd : IntKind} {p q r : Int} (hx : ev m x = some (.int kd p)) (hy : ev m y = some (.int kd q)) (hr : arOp bop p q = some r) (hw : kd.wrap r = r) {dst : Option Tmp} {gd : Option (Nat × Bool)} :
    ∀ a, Fits a n m → (execOp a.eval { dst := dst, op := .binOp bop t x y t2, type := ty, pos := ps, after := af, guard := gd }).run P w = .ok (.value (.int kd r)) w := by
  intro a ha
  simp [execOp, ha.eval hx, ha.eval hy, eqGuard_int, run_ar _ _ _ _ _ hr, hw]
end

theorem rframe_c (w : World) (G : Nat → Prop) (v : Value) (l : List UInt8) (s : Nat) (hs : s < 4294967296) (h : BS w G v l) (hN : l.length ≤ 800000) :
    Calls Tryd.prog 44 [.int .u32 s, v].toArray w (Ret fun r w' => Kept none0 w w' ∧ BS w' (fresh w) r (frm s l)) := by
  refine calls_T Tryd.func44 rfl rfl rfl ?_
  obtain ⟨A, c, rfl⟩ := h.len
  repeat (first | (with_reducible first | apply T_seq | apply T_region | apply U_nil | apply T_skip | apply T_block | apply T_inBlock | apply Cnd_t | apply Cnd_f | apply Cnd_not | apply Cnd_some | apply Cnd_none | apply Gd_nt | apply Gd_nf | apply Gd_some | apply Gd_none | apply Gd_want) | refine U_ar rfl rfl rfl (wrap_k (by simp only [wrapOk]; omega)) rfl ?_ | refine U_cv E rfl rfl rfl (wrap_k (by simp only [wrapOk]; omega)) rfl ?_ | refine U_pure E rfl rfl ?_ | refine T_exit rfl ?_ | refine T_condV rfl ?_ | refine U_guard rfl rfl ?_ | ((with_reducible refine Gd_skipT ?_ ?_); exact rfl) | ((with_reducible refine Gd_skipF ?_ ?_); exact rfl))
  refine U_call rfl rfl (Tryd.call82 _) (rword_c w l.length (by omega)) ?_
  rintro r w1 ⟨b1, rfl, hn1⟩
  repeat (first | (with_reducible first | apply T_seq | apply T_region | apply U_nil | apply T_skip | apply T_block | apply T_inBlock | apply Cnd_t | apply Cnd_f | apply Cnd_not | apply Cnd_some | apply Cnd_none | apply Gd_nt | apply Gd_nf | apply Gd_some | apply Gd_none | apply Gd_want) | refine U_ar rfl rfl rfl (wrap_k (by simp only [wrapOk]; omega)) rfl ?_ | refine U_cv E rfl rfl rfl (wrap_k (by simp only [wrapOk]; omega)) rfl ?_ | refine U_pure E rfl rfl ?_ | refine T_exit rfl ?_ | refine T_condV rfl ?_ | refine U_guard rfl rfl ?_ | ((with_reducible refine Gd_skipT ?_ ?_); exact rfl) | ((with_reducible refine Gd_skipF ?_ ?_); exact rfl))
  refine U_buildSlice (sz := 1) E rfl rfl rfl rfl rfl rfl rfl rfl (segs := [[.slice (some ⟨b1, 0, none⟩) 4 4], [.slice A l.length c]]) rfl (by simp) rfl ?_
  intro b2 w2 hn2
  have hs1 : BS w2 (fun _ => True) (.slice (some ⟨b1, 0, none⟩) 4 4) (le4 l.length) := (hn1.bs (le4_len _) (by decide) _ trivial).mv hn2.kept (fun _ _ _ x => x)
  have k2 : Kept none0 w w2 := hn1.kept.tr hn2.kept (fun _ _ x => x)
  have hl2 : BS w2 (fun _ => True) (.slice A l.length c) l := (h.mv k2 (fun _ _ _ x => x)).mono (fun _ _ _ => trivial)
  have hJ : ([le4 l.length, l] : List (List UInt8)).flatten = le4 l.length ++ l := by simp
  have hjl : (le4 l.length ++ l).length = 4 + l.length := by rw [List.length_append, le4_len]
  have hj := join_c w2 _ _ _ _ [le4 l.length, l] (two_sl hn2.blk) rfl (two_bs hs1 hl2) (by rw [hJ, hjl]; omega)
  rw [hJ] at hj
  refine U_call rfl rfl (Tryd.call35 _) (hj) ?_
  rintro r w3 ⟨k3, hr3⟩
  have k3' : Kept none0 w w3 := k2.tr k3 (fun _ _ x => x)
  have hb3 : BS w3 (fresh w2) r (le4 l.length ++ l) := hr3.sl (by omega)
  clear hr3
  obtain ⟨J, hJe⟩ : ∃ J, le4 l.length ++ l = J := ⟨_, rfl⟩
  rw [hJe] at hb3 hjl
  repeat (first | (with_reducible first | apply T_seq | apply T_region | apply U_nil | apply T_skip | apply T_block | apply T_inBlock | apply Cnd_t | apply Cnd_f | apply Cnd_not | apply Cnd_some | apply Cnd_none | apply Gd_nt | apply Gd_nf | apply Gd_some | apply Gd_none | apply Gd_want) | refine U_ar rfl rfl rfl (wrap_k (by simp only [wrapOk]; omega)) rfl ?_ | refine U_cv E rfl rfl rfl (wrap_k (by simp only [wrapOk]; omega)) rfl ?_ | refine U_pure E rfl rfl ?_ | refine T_exit rfl ?_ | refine T_condV rfl ?_ | refine U_guard rfl rfl ?_ | ((with_reducible refine Gd_skipT ?_ ?_); exact rfl) | ((with_reducible refine Gd_skipF ?_ ?_); exact rfl))
  refine U_call rfl rfl (Tryd.call45 _) (rcheck_c w3 _ r J s hs hb3 (by omega)) ?_
  rintro rs w4 ⟨rfl, k4⟩
  have hck := chk_lt s J
  repeat (first | (with_reducible first | apply T_seq | apply T_region | apply U_nil | apply T_skip | apply T_block | apply T_inBlock | apply Cnd_t | apply Cnd_f | apply Cnd_not | apply Cnd_some | apply Cnd_none | apply Gd_nt | apply Gd_nf | apply Gd_some | apply Gd_none | apply Gd_want) | refine U_ar rfl rfl rfl (wrap_k (by simp only [wrapOk]; omega)) rfl ?_ | refine U_cv E rfl rfl rfl (wrap_k (by simp only [wrapOk]; omega)) rfl ?_ | refine U_pure E rfl rfl ?_ | refine T_exit rfl ?_ | refine T_condV rfl ?_ | refine U_guard rfl rfl ?_ | ((with_reducible refine Gd_skipT ?_ ?_); exact rfl) | ((with_reducible refine Gd_skipF ?_ ?_); exact rfl))
  refine U_call rfl rfl (Tryd.call82 _) (rword_c w4 (chk s J) (by omega)) ?_
  rintro r5 w5 ⟨b5, rfl, hn5⟩
  obtain ⟨A3, c3, rfl⟩ := hb3.len
  repeat (first | (with_reducible first | apply T_seq | apply T_region | apply U_nil | apply T_skip | apply T_block | apply T_inBlock | apply Cnd_t | apply Cnd_f | apply Cnd_not | apply Cnd_some | apply Cnd_none | apply Gd_nt | apply Gd_nf | apply Gd_some | apply Gd_none | apply Gd_want) | refine U_ar rfl rfl rfl (wrap_k (by simp only [wrapOk]; omega)) rfl ?_ | refine U_cv E rfl rfl rfl (wrap_k (by simp only [wrapOk]; omega)) rfl ?_ | refine U_pure E rfl rfl ?_ | refine T_exit rfl ?_ | refine T_condV rfl ?_ | refine U_guard rfl rfl ?_ | ((with_reducible refine Gd_skipT ?_ ?_); exact rfl) | ((with_reducible refine Gd_skipF ?_ ?_); exact rfl))
  refine U_buildSlice (sz := 1) E rfl rfl rfl rfl rfl rfl rfl rfl (segs := [[.slice A3 J.length c3], [.slice (some ⟨b5, 0, none⟩) 4 4]]) rfl (by simp) rfl ?_
  intro b6 w6 hn6
  have hs6 : BS w6 (fun _ => True) (.slice (some ⟨b5, 0, none⟩) 4 4) (le4 (chk s J)) := (hn5.bs (le4_len _) (by decide) _ trivial).mv hn6.kept (fun _ _ _ x => x)
  have k6 : Kept none0 w3 w6 := (k4.tr hn5.kept (fun _ _ x => x)).tr hn6.kept (fun _ _ x => x)
  have hl6 : BS w6 (fun _ => True) (.slice A3 J.length c3) J := (hb3.mv k6 (fun _ _ _ x => x)).mono (fun _ _ _ => trivial)
  have hJ6 : ([J, le4 (chk s J)] : List (List UInt8)).flatten = J ++ le4 (chk s J) := by simp
  have l6 : (J ++ le4 (chk s J)).length = J.length + 4 := by rw [List.length_append, le4_len]
  have hj6 := join_c w6 _ _ _ _ [J, le4 (chk s J)] (two_sl hn6.blk) rfl (two_bs hl6 hs6) (by rw [hJ6, l6]; omega)
  rw [hJ6] at hj6
  refine U_call rfl rfl (Tryd.call35 _) (hj6) ?_
  rintro r w7 ⟨k7, hr7⟩
  have k6' : Kept none0 w w6 := k3'.tr k6 (fun _ _ x => x)
  have s6 := k6'.size
  have hb7 : BS w7 (fresh w) r (J ++ le4 (chk s J)) := (hr7.sl (by omega)).mono (fun j _ hj => Nat.le_trans s6 hj)
  repeat (first | (with_reducible first | apply T_seq | apply T_region | apply U_nil | apply T_skip | apply T_block | apply T_inBlock | apply Cnd_t | apply Cnd_f | apply Cnd_not | apply Cnd_some | apply Cnd_none | apply Gd_nt | apply Gd_nf | apply Gd_some | apply Gd_none | apply Gd_want) | refine U_ar rfl rfl rfl (wrap_k (by simp only [wrapOk]; omega)) rfl ?_ | refine U_cv E rfl rfl rfl (wrap_k (by simp only [wrapOk]; omega)) rfl ?_ | refine U_pure E rfl rfl ?_ | refine T_exit rfl ?_ | refine T_condV rfl ?_ | refine U_guard rfl rfl ?_ | ((with_reducible refine Gd_skipT ?_ ?_); exact rfl) | ((with_reducible refine Gd_skipF ?_ ?_); exact rfl))
  refine T_ret1 Tryd.func44 rfl rfl ⟨_, rfl, k6'.tr k7 (fun _ _ x => x), ?_⟩
  unfold frm
  rw [hJe]
  exact hb7

theorem some_step {l : List UInt8} {i : Nat} (h : i < l.length) (b : Bool) (hb : b = true ↔ ¬ zz (l.take i)) (hf : b = false) : (decide ((0 : Int) < (l[i].toNat : Int)) = true) ↔ ¬ zz (l.take (i + 1)) := by
  subst hf
  have hz : zz (l.take i) := Classical.byContradiction fun e => by have := hb.2 e; cases this
  rw [take_snoc l i h, decide_eq_true_iff]
  constructor
  · intro h0 e
    have := e l[i] (List.mem_append_right _ (List.mem_singleton.2 rfl))
    rw [this] at h0
    exact absurd h0 (by decide)
  · intro h0
    refine Classical.byContradiction fun e => h0 ?_
    intro x hx
    rcases List.mem_append.1 hx with hx | hx
    · exact hz x hx
    · rw [List.mem_singleton.1 hx]
      apply UInt8.toNat_inj.1
      show l[i].toNat = 0
      omega

set_option maxHeartbeats 2000000 in
theorem rnext_c (w : World) (G : Nat → Prop) (v : Value) (l : List UInt8) (s : Nat) (hs : s < 4294967296) (h : BS w G v l) (hN : l.length ≤ 800000) :
    Calls Tryd.prog 42 [.int .u32 s, v].toArray w (Ret fun r w' => Kept none0 w w' ∧ ∃ u, r = .tuple #[u, .int .i64 (nLen s l : Nat), .int .i64 (nErr s l : Nat)] ∧ BS w' (fresh w) u (nRec s l)) := by
  have bad : ∀ (k : Nat), nErr s l = k + 1 → nLen s l = 0 ∧ nRec s l = [] := fun k hk => by
    constructor
    · rw [nLen, if_neg (by omega)]
    · rw [nRec, if_neg (by omega)]
  refine calls_T Tryd.func42 rfl rfl rfl ?_
  obtain ⟨A, c, rfl⟩ := h.len
  have hv4 := val4_lt l
  repeat (first | (with_reducible first | apply T_seq | apply T_region | apply U_nil | apply T_skip | apply T_block | apply T_inBlock | apply Cnd_t | apply Cnd_f | apply Cnd_not | apply Cnd_some | apply Cnd_none | apply Gd_nt | apply Gd_nf | apply Gd_some | apply Gd_none | apply Gd_want) | refine U_ar rfl rfl rfl (wrap_k (by simp only [wrapOk]; omega)) rfl ?_ | refine U_cv E rfl rfl rfl (wrap_k (by simp only [wrapOk]; omega)) rfl ?_ | refine U_pure E rfl rfl ?_ | refine T_exit rfl ?_ | refine T_condV rfl ?_ | refine U_guard rfl rfl ?_ | ((with_reducible refine Gd_skipT ?_ ?_); exact rfl) | ((with_reducible refine Gd_skipF ?_ ?_); exact rfl))
  refine T_loop (α := Nat × Bool) (fun x => [(13, .int .i64 x.1), (12, .int .i64 l.length), (11, .slice A l.length c), (7, .bool x.2), (0, .int .u32 s), (1, .slice A l.length c), (4, .slice none 0 0), (5, .int .i64 0), (6, .int .i64 0)]) (fun x => w) (fun x => l.length - x.1)
    (fun x => x.1 ≤ l.length ∧ (x.2 = true ↔ ¬ zz (l.take x.1))) (0, false) ⟨Nat.zero_le _, by rw [List.take_zero]; constructor <;> intro e; cases e; exact absurd (fun x hx => by cases hx) e⟩ ⟨rfl, rfl, rfl, rfl, rfl, rfl, rfl, rfl, rfl, trivial⟩ rfl ?_
  rintro ⟨i, b⟩ ⟨hi, hb⟩ ih
  dsimp only at hi hb ⊢
  repeat (first | (with_reducible first | apply T_seq | apply T_region | apply U_nil | apply T_skip | apply T_block | apply T_inBlock | apply Cnd_t | apply Cnd_f | apply Cnd_not | apply Cnd_some | apply Cnd_none | apply Gd_nt | apply Gd_nf | apply Gd_some | apply Gd_none | apply Gd_want) | refine U_ar rfl rfl rfl (wrap_k (by simp only [wrapOk]; omega)) rfl ?_ | refine U_cv E rfl rfl rfl (wrap_k (by simp only [wrapOk]; omega)) rfl ?_ | refine U_pure E rfl rfl ?_ | refine T_exit rfl ?_ | refine T_condV rfl ?_ | refine U_guard rfl rfl ?_ | ((with_reducible refine Gd_skipT ?_ ?_); exact rfl) | ((with_reducible refine Gd_skipF ?_ ?_); exact rfl))
  refine Cnd_p (fun hlt => ?_) (fun hlt => ?_)
  · have hlt' : i < l.length := by omega
    repeat (first | (with_reducible first | apply T_seq | apply T_region | apply U_nil | apply T_skip | apply T_block | apply T_inBlock | apply Cnd_t | apply Cnd_f | apply Cnd_not | apply Cnd_some | apply Cnd_none | apply Gd_nt | apply Gd_nf | apply Gd_some | apply Gd_none | apply Gd_want) | refine U_ar rfl rfl rfl (wrap_k (by simp only [wrapOk]; omega)) rfl ?_ | refine U_cv E rfl rfl rfl (wrap_k (by simp only [wrapOk]; omega)) rfl ?_ | refine U_pure E rfl rfl ?_ | refine T_exit rfl ?_ | refine T_condV rfl ?_ | refine U_guard rfl rfl ?_ | ((with_reducible refine Gd_skipT ?_ ?_); exact rfl) | ((with_reducible refine Gd_skipF ?_ ?_); exact rfl))
    refine U_idx E (h) rfl rfl rfl rfl (by omega) (by omega) ((toNat_get hlt')) rfl (fun p hp => ?_)
    refine U_load E rfl rfl rfl hp rfl ?_
    repeat (first | (with_reducible first | apply T_seq | apply T_region | apply U_nil | apply T_skip | apply T_block | apply T_inBlock | apply Cnd_t | apply Cnd_f | apply Cnd_not | apply Cnd_some | apply Cnd_none | apply Gd_nt | apply Gd_nf | apply Gd_some | apply Gd_none | apply Gd_want) | refine U_ar rfl rfl rfl (wrap_k (by simp only [wrapOk]; omega)) rfl ?_ | refine U_cv E rfl rfl rfl (wrap_k (by simp only [wrapOk]; omega)) rfl ?_ | refine U_pure E rfl rfl ?_ | refine T_exit rfl ?_ | refine T_condV rfl ?_ | refine U_guard rfl rfl ?_ | ((with_reducible refine Gd_skipT ?_ ?_); exact rfl) | ((with_reducible refine Gd_skipF ?_ ?_); exact rfl))
    refine Gd_b (fun e => ?_) (fun e => ?_)
    · subst e
      repeat (first | (with_reducible first | apply T_seq | apply T_region | apply U_nil | apply T_skip | apply T_block | apply T_inBlock | apply Cnd_t | apply Cnd_f | apply Cnd_not | apply Cnd_some | apply Cnd_none | apply Gd_nt | apply Gd_nf | apply Gd_some | apply Gd_none | apply Gd_want) | refine U_ar rfl rfl rfl (wrap_k (by simp only [wrapOk]; omega)) rfl ?_ | refine U_cv E rfl rfl rfl (wrap_k (by simp only [wrapOk]; omega)) rfl ?_ | refine U_pure E rfl rfl ?_ | refine T_exit rfl ?_ | refine T_condV rfl ?_ | refine U_guard rfl rfl ?_ | ((with_reducible refine Gd_skipT ?_ ?_); exact rfl) | ((with_reducible refine Gd_skipF ?_ ?_); exact rfl))
      refine T.less ?_ (ih (i + 1, true) ⟨hlt', ?_⟩ (by dsimp only; omega))
      · exact ⟨rfl, rfl, rfl, rfl, rfl, rfl, rfl, rfl, rfl, trivial⟩
      · dsimp only
        constructor
        · intro _ e
          refine hb.1 rfl (fun x hx => e x ?_)
          rw [take_snoc l i hlt']
          exact List.mem_append_left _ hx
        · intro _; rfl
    · have hst := some_step hlt' b hb e
      subst e
      repeat (first | (with_reducible first | apply T_seq | apply T_region | apply U_nil | apply T_skip | apply T_block | apply T_inBlock | apply Cnd_t | apply Cnd_f | apply Cnd_not | apply Cnd_some | apply Cnd_none | apply Gd_nt | apply Gd_nf | apply Gd_some | apply Gd_none | apply Gd_want) | refine U_ar rfl rfl rfl (wrap_k (by simp only [wrapOk]; omega)) rfl ?_ | refine U_cv E rfl rfl rfl (wrap_k (by simp only [wrapOk]; omega)) rfl ?_ | refine U_pure E rfl rfl ?_ | refine T_exit rfl ?_ | refine T_condV rfl ?_ | refine U_guard rfl rfl ?_ | ((with_reducible refine Gd_skipT ?_ ?_); exact rfl) | ((with_reducible refine Gd_skipF ?_ ?_); exact rfl))
      refine T.less ?_ (ih (i + 1, decide ((0 : Int) < (l[i].toNat : Int))) ⟨hlt', hst⟩ (by dsimp only; omega))
      exact ⟨rfl, rfl, rfl, rfl, rfl, rfl, rfl, rfl, rfl, trivial⟩
  · have : i = l.length := by omega
    subst this
    rw [List.take_length] at hb
    repeat (first | (with_reducible first | apply T_seq | apply T_region | apply U_nil | apply T_skip | apply T_block | apply T_inBlock | apply Cnd_t | apply Cnd_f | apply Cnd_not | apply Cnd_some | apply Cnd_none | apply Gd_nt | apply Gd_nf | apply Gd_some | apply Gd_none | apply Gd_want) | refine U_ar rfl rfl rfl (wrap_k (by simp only [wrapOk]; omega)) rfl ?_ | refine U_cv E rfl rfl rfl (wrap_k (by simp only [wrapOk]; omega)) rfl ?_ | refine U_pure E rfl rfl ?_ | refine T_exit rfl ?_ | refine T_condV rfl ?_ | refine U_guard rfl rfl ?_ | ((with_reducible refine Gd_skipT ?_ ?_); exact rfl) | ((with_reducible refine Gd_skipF ?_ ?_); exact rfl))
    refine Cnd_b (fun hz0 => ?_) (fun hz0 => ?_)
    · have hnz : ¬ zz l := hb.1 hz0
      repeat (first | (with_reducible first | apply T_seq | apply T_region | apply U_nil | apply T_skip | apply T_block | apply T_inBlock | apply Cnd_t | apply Cnd_f | apply Cnd_not | apply Cnd_some | apply Cnd_none | apply Gd_nt | apply Gd_nf | apply Gd_some | apply Gd_none | apply Gd_want) | refine U_ar rfl rfl rfl (wrap_k (by simp only [wrapOk]; omega)) rfl ?_ | refine U_cv E rfl rfl rfl (wrap_k (by simp only [wrapOk]; omega)) rfl ?_ | refine U_pure E rfl rfl ?_ | refine T_exit rfl ?_ | refine T_condV rfl ?_ | refine U_guard rfl rfl ?_ | ((with_reducible refine Gd_skipT ?_ ?_); exact rfl) | ((with_reducible refine Gd_skipF ?_ ?_); exact rfl))
      refine Gd_p (fun h8 => ?_) (fun h8 => ?_)
      · have he : nErr s l = 2 := by rw [nErr, if_neg hnz, if_pos (by omega)]
        obtain ⟨e1, e2⟩ := bad 1 he
        repeat (first | (with_reducible first | apply T_seq | apply T_region | apply U_nil | apply T_skip | apply T_block | apply T_inBlock | apply Cnd_t | apply Cnd_f | apply Cnd_not | apply Cnd_some | apply Cnd_none | apply Gd_nt | apply Gd_nf | apply Gd_some | apply Gd_none | apply Gd_want) | refine U_ar rfl rfl rfl (wrap_k (by simp only [wrapOk]; omega)) rfl ?_ | refine U_cv E rfl rfl rfl (wrap_k (by simp only [wrapOk]; omega)) rfl ?_ | refine U_pure E rfl rfl ?_ | refine T_exit rfl ?_ | refine T_condV rfl ?_ | refine U_guard rfl rfl ?_ | ((with_reducible refine Gd_skipT ?_ ?_); exact rfl) | ((with_reducible refine Gd_skipF ?_ ?_); exact rfl))
        refine T_ret3 Tryd.func42 rfl rfl rfl rfl ⟨_, rfl, Kept.refl _ _, .slice none 0 0, ?_, ?_⟩
        · rw [he, e1]; rfl
        · rw [e2]; exact sl_nil _ _
      · have h8' : 8 ≤ l.length := by omega
        repeat (first | (with_reducible first | apply T_seq | apply T_region | apply U_nil | apply T_skip | apply T_block | apply T_inBlock | apply Cnd_t | apply Cnd_f | apply Cnd_not | apply Cnd_some | apply Cnd_none | apply Gd_nt | apply Gd_nf | apply Gd_some | apply Gd_none | apply Gd_want) | refine U_ar rfl rfl rfl (wrap_k (by simp only [wrapOk]; omega)) rfl ?_ | refine U_cv E rfl rfl rfl (wrap_k (by simp only [wrapOk]; omega)) rfl ?_ | refine U_pure E rfl rfl ?_ | refine T_exit rfl ?_ | refine T_condV rfl ?_ | refine U_guard rfl rfl ?_ | ((with_reducible refine Gd_skipT ?_ ?_); exact rfl) | ((with_reducible refine Gd_skipF ?_ ?_); exact rfl))
        refine U_call rfl rfl (Tryd.call80 _) (ret_of (value_c w G _ l (by omega) h)) ?_
        rintro r w1 ⟨rfl, hd1⟩
        have h1 := h.mv (hd1.kept none0) (fun _ _ _ x => x)
        repeat (first | (with_reducible first | apply T_seq | apply T_region | apply U_nil | apply T_skip | apply T_block | apply T_inBlock | apply Cnd_t | apply Cnd_f | apply Cnd_not | apply Cnd_some | apply Cnd_none | apply Gd_nt | apply Gd_nf | apply Gd_some | apply Gd_none | apply Gd_want) | refine U_ar rfl rfl rfl (wrap_k (by simp only [wrapOk]; omega)) rfl ?_ | refine U_cv E rfl rfl rfl (wrap_k (by simp only [wrapOk]; omega)) rfl ?_ | refine U_pure E rfl rfl ?_ | refine T_exit rfl ?_ | refine T_condV rfl ?_ | refine U_guard rfl rfl ?_ | ((with_reducible refine Gd_skipT ?_ ?_); exact rfl) | ((with_reducible refine Gd_skipF ?_ ?_); exact rfl))
        refine Cnd_p (fun hn => ?_) (fun hn => ?_)
        · have he : nErr s l = 2 := by rw [nErr, if_neg hnz, if_neg (by omega), if_pos (by omega)]
          obtain ⟨e1, e2⟩ := bad 1 he
          repeat (first | (with_reducible first | apply T_seq | apply T_region | apply U_nil | apply T_skip | apply T_block | apply T_inBlock | apply Cnd_t | apply Cnd_f | apply Cnd_not | apply Cnd_some | apply Cnd_none | apply Gd_nt | apply Gd_nf | apply Gd_some | apply Gd_none | apply Gd_want) | refine U_ar rfl rfl rfl (wrap_k (by simp only [wrapOk]; omega)) rfl ?_ | refine U_cv E rfl rfl rfl (wrap_k (by simp only [wrapOk]; omega)) rfl ?_ | refine U_pure E rfl rfl ?_ | refine T_exit rfl ?_ | refine T_condV rfl ?_ | refine U_guard rfl rfl ?_ | ((with_reducible refine Gd_skipT ?_ ?_); exact rfl) | ((with_reducible refine Gd_skipF ?_ ?_); exact rfl))
          refine T_ret3 Tryd.func42 rfl rfl rfl rfl ⟨_, rfl, hd1.kept none0, .slice none 0 0, ?_, ?_⟩
          · rw [he, e1]; rfl
          · rw [e2]; exact sl_nil _ _
        · repeat (first | (with_reducible first | apply T_seq | apply T_region | apply U_nil | apply T_skip | apply T_block | apply T_inBlock | apply Cnd_t | apply Cnd_f | apply Cnd_not | apply Cnd_some | apply Cnd_none | apply Gd_nt | apply Gd_nf | apply Gd_some | apply Gd_none | apply Gd_want) | refine U_ar rfl rfl rfl (wrap_k (by simp only [wrapOk]; omega)) rfl ?_ | refine U_cv E rfl rfl rfl (wrap_k (by simp only [wrapOk]; omega)) rfl ?_ | refine U_pure E rfl rfl ?_ | refine T_exit rfl ?_ | refine T_condV rfl ?_ | refine U_guard rfl rfl ?_ | ((with_reducible refine Gd_skipT ?_ ?_); exact rfl) | ((with_reducible refine Gd_skipF ?_ ?_); exact rfl))
          refine U_call rfl rfl (Tryd.call80 _) (ret_of (value_c w1 G _ l (by omega) h1)) ?_
          rintro r w2 ⟨rfl, hd2⟩
          have h2 := h1.mv (hd2.kept none0) (fun _ _ _ x => x)
          have k2 : Kept none0 w w2 := (hd1.kept none0).tr (hd2.kept none0) (fun _ _ x => x)
          repeat (first | (with_reducible first | apply T_seq | apply T_region | apply U_nil | apply T_skip | apply T_block | apply T_inBlock | apply Cnd_t | apply Cnd_f | apply Cnd_not | apply Cnd_some | apply Cnd_none | apply Gd_nt | apply Gd_nf | apply Gd_some | apply Gd_none | apply Gd_want) | refine U_ar rfl rfl rfl (wrap_k (by simp only [wrapOk]; omega)) rfl ?_ | refine U_cv E rfl rfl rfl (wrap_k (by simp only [wrapOk]; omega)) rfl ?_ | refine U_pure E rfl rfl ?_ | refine T_exit rfl ?_ | refine T_condV rfl ?_ | refine U_guard rfl rfl ?_ | ((with_reducible refine Gd_skipT ?_ ?_); exact rfl) | ((with_reducible refine Gd_skipF ?_ ?_); exact rfl))
          refine Cnd_p (fun hm => ?_) (fun hm => ?_)
          · have he : nErr s l = 4 := by rw [nErr, if_neg hnz, if_neg (by omega), if_neg (by omega), if_pos (by omega)]
            obtain ⟨e1, e2⟩ := bad 3 he
            repeat (first | (with_reducible first | apply T_seq | apply T_region | apply U_nil | apply T_skip | apply T_block | apply T_inBlock | apply Cnd_t | apply Cnd_f | apply Cnd_not | apply Cnd_some | apply Cnd_none | apply Gd_nt | apply Gd_nf | apply Gd_some | apply Gd_none | apply Gd_want) | refine U_ar rfl rfl rfl (wrap_k (by simp only [wrapOk]; omega)) rfl ?_ | refine U_cv E rfl rfl rfl (wrap_k (by simp only [wrapOk]; omega)) rfl ?_ | refine U_pure E rfl rfl ?_ | refine T_exit rfl ?_ | refine T_condV rfl ?_ | refine U_guard rfl rfl ?_ | ((with_reducible refine Gd_skipT ?_ ?_); exact rfl) | ((with_reducible refine Gd_skipF ?_ ?_); exact rfl))
            refine T_ret3 Tryd.func42 rfl rfl rfl rfl ⟨_, rfl, k2, .slice none 0 0, ?_, ?_⟩
            · rw [he, e1]; rfl
            · rw [e2]; exact sl_nil _ _
          · repeat (first | (with_reducible first | apply T_seq | apply T_region | apply U_nil | apply T_skip | apply T_block | apply T_inBlock | apply Cnd_t | apply Cnd_f | apply Cnd_not | apply Cnd_some | apply Cnd_none | apply Gd_nt | apply Gd_nf | apply Gd_some | apply Gd_none | apply Gd_want) | refine U_ar rfl rfl rfl (wrap_k (by simp only [wrapOk]; omega)) rfl ?_ | refine U_cv E rfl rfl rfl (wrap_k (by simp only [wrapOk]; omega)) rfl ?_ | refine U_pure E rfl rfl ?_ | refine T_exit rfl ?_ | refine T_condV rfl ?_ | refine U_guard rfl rfl ?_ | ((with_reducible refine Gd_skipT ?_ ?_); exact rfl) | ((with_reducible refine Gd_skipF ?_ ?_); exact rfl))
            refine U_call rfl rfl (Tryd.call80 _) (ret_of (value_c w2 G _ l (by omega) h2)) ?_
            rintro r w3 ⟨rfl, hd3⟩
            have h3 := h2.mv (hd3.kept none0) (fun _ _ _ x => x)
            have k3 : Kept none0 w w3 := k2.tr (hd3.kept none0) (fun _ _ x => x)
            repeat (first | (with_reducible first | apply T_seq | apply T_region | apply U_nil | apply T_skip | apply T_block | apply T_inBlock | apply Cnd_t | apply Cnd_f | apply Cnd_not | apply Cnd_some | apply Cnd_none | apply Gd_nt | apply Gd_nf | apply Gd_some | apply Gd_none | apply Gd_want) | refine U_ar rfl rfl rfl (wrap_k (by simp only [wrapOk]; omega)) rfl ?_ | refine U_cv E rfl rfl rfl (wrap_k (by simp only [wrapOk]; omega)) rfl ?_ | refine U_pure E rfl rfl ?_ | refine T_exit rfl ?_ | refine T_condV rfl ?_ | refine U_guard rfl rfl ?_ | ((with_reducible refine Gd_skipT ?_ ?_); exact rfl) | ((with_reducible refine Gd_skipF ?_ ?_); exact rfl))
            obtain ⟨ra, ha, fa⟩ := bs_part (P := Tryd.prog) h3 (val4 l + 4) l.length (by omega) (Nat.le_refl _)
            obtain ⟨rb, hbb, fb⟩ := bs_part (P := Tryd.prog) h3 0 (val4 l + 4) (by omega) (by omega)
            rw [List.take_of_length_le (by rw [List.length_drop]; exact Nat.le_refl _)] at ha
            rw [List.drop_zero, Nat.sub_zero] at hbb
            refine L_begin (fun _ => True) 13 (by kernel_rfl) (N := 13) rfl (fun w4 hd4 => ?_)
            refine L_take 0 rfl (by kernel_rfl) (by kernel_rfl) (by kernel_rfl) (by kernel_rfl) trivial rfl rfl rfl (fun a ha w' _ => run_pv E ha rfl _ _ _ _ _) ?_; refine L_take 1 rfl (by kernel_rfl) (by kernel_rfl) (by kernel_rfl) (by kernel_rfl) trivial rfl rfl rfl (fun a ha w' _ => run_pv E ha rfl _ _ _ _ _) ?_
            refine L_take 2 rfl (by kernel_rfl) (by kernel_rfl) (by kernel_rfl) (by kernel_rfl) trivial rfl rfl rfl (fun a ha w' _ => ro_ar rfl rfl rfl (wrap_k (by simp only [wrapOk]; omega)) a ha) ?_
            refine L_take 3 rfl (by kernel_rfl) (by kernel_rfl) (by kernel_rfl) (by kernel_rfl) trivial rfl rfl rfl (fun a ha w' _ => ro_slB E rfl rfl rfl fa (by first | rfl | (simp only [List.length_take, List.length_drop, List.length_append] <;> omega) | (dsimp only; omega) | exact ⟨_, rfl⟩ | exact ⟨_, congrArg (fun z => some (Value.int _ z)) (by omega)⟩) (by first | rfl | (simp only [List.length_take, List.length_drop, List.length_append] <;> omega) | (dsimp only; omega) | exact ⟨_, rfl⟩ | exact ⟨_, congrArg (fun z => some (Value.int _ z)) (by omega)⟩) a ha) ?_
            refine L_take 5 rfl (by kernel_rfl) (by kernel_rfl) (by kernel_rfl) (by kernel_rfl) trivial rfl rfl rfl (fun a ha w' _ => run_pv E ha rfl _ _ _ _ _) ?_; refine L_take 6 rfl (by kernel_rfl) (by kernel_rfl) (by kernel_rfl) (by kernel_rfl) trivial rfl rfl rfl (fun a ha w' _ => run_pv E ha rfl _ _ _ _ _) ?_; refine L_take 7 rfl (by kernel_rfl) (by kernel_rfl) (by kernel_rfl) (by kernel_rfl) trivial rfl rfl rfl (fun a ha w' _ => run_pv E ha rfl _ _ _ _ _) ?_
            refine L_take 8 rfl (by kernel_rfl) (by kernel_rfl) (by kernel_rfl) (by kernel_rfl) trivial rfl rfl rfl (fun a ha w' _ => ro_ar rfl rfl rfl (wrap_k (by simp only [wrapOk]; omega)) a ha) ?_
            refine L_take 9 rfl (by kernel_rfl) (by kernel_rfl) (by kernel_rfl) (by kernel_rfl) trivial rfl rfl rfl (fun a ha w' _ => ro_slB E rfl rfl rfl fb (by first | rfl | (simp only [List.length_take, List.length_drop, List.length_append] <;> omega) | (dsimp only; omega) | exact ⟨_, rfl⟩ | exact ⟨_, congrArg (fun z => some (Value.int _ z)) (by omega)⟩) (by first | rfl | (simp only [List.length_take, List.length_drop, List.length_append] <;> omega) | (dsimp only; omega) | exact ⟨_, rfl⟩ | exact ⟨_, congrArg (fun z => some (Value.int _ z)) (by omega)⟩) a ha) ?_
            have ha4 := ha.mv (hd4.kept none0) (fun _ _ _ x => x)
            have hb4 := hbb.mv (hd4.kept none0) (fun _ _ _ x => x)
            refine L_op 4 (by kernel_rfl) rfl (fun hc4 => ?_)
            refine U_call rfl rfl (Tryd.call80 _) (ret_of (value_c w4 G _ _ (by rw [List.length_drop]; omega) ha4)) ?_
            rintro r w5 ⟨rfl, hd5⟩
            refine U_nilL hc4 (fun _ => trivial) ?_
            refine L_op 10 (by kernel_rfl) rfl (fun hc10 => ?_)
            refine U_call rfl rfl (Tryd.call45 _) (rcheck_c w5 G _ _ s hs (hb4.mv (hd5.kept none0) (fun _ _ _ x => x)) (by rw [List.length_take]; omega)) ?_
            rintro r w6 ⟨rfl, k6⟩
            have hck := chk_lt s (l.take (val4 l + 4))
            refine U_nilL hc10 (fun _ => trivial) ?_
            refine L_take 11 rfl (by kernel_rfl) (by kernel_rfl) (by kernel_rfl) (by kernel_rfl) trivial rfl rfl rfl (fun a ha w' _ => ro_convI E rfl rfl rfl (wrap_k (by simp only [wrapOk]; omega)) a ha) ?_
            refine L_take 12 rfl (by kernel_rfl) (by kernel_rfl) (by kernel_rfl) (by kernel_rfl) trivial rfl rfl rfl (fun a ha w' _ => run_pv E ha rfl _ _ _ _ _) ?_
            refine L_done (by kernel_rfl) ?_
            have k36 : Kept none0 w3 w6 := ((hd4.kept none0).tr (hd5.kept none0) (fun _ _ x => x)).tr k6 (fun _ _ x => x)
            have k6' : Kept none0 w w6 := k3.tr k36 (fun _ _ x => x)
            have h6 := h3.mv k36 (fun _ _ _ x => x)
            repeat (first | (with_reducible first | apply T_seq | apply T_region | apply U_nil | apply T_skip | apply T_block | apply T_inBlock | apply Cnd_t | apply Cnd_f | apply Cnd_not | apply Cnd_some | apply Cnd_none | apply Gd_nt | apply Gd_nf | apply Gd_some | apply Gd_none | apply Gd_want) | refine U_ar rfl rfl rfl (wrap_k (by simp only [wrapOk]; omega)) rfl ?_ | refine U_cv E rfl rfl rfl (wrap_k (by simp only [wrapOk]; omega)) rfl ?_ | refine U_pure E rfl rfl ?_ | refine T_exit rfl ?_ | refine T_condV rfl ?_ | refine U_guard rfl rfl ?_ | ((with_reducible refine Gd_skipT ?_ ?_); exact rfl) | ((with_reducible refine Gd_skipF ?_ ?_); exact rfl))
            refine Cnd_p (fun hs5 => ?_) (fun hs5 => ?_)
            · have he : nErr s l = 5 := by rw [nErr, if_neg hnz, if_neg (by omega), if_neg (by omega), if_neg (by omega), if_pos (by omega)]
              obtain ⟨e1, e2⟩ := bad 4 he
              repeat (first | (with_reducible first | apply T_seq | apply T_region | apply U_nil | apply T_skip | apply T_block | apply T_inBlock | apply Cnd_t | apply Cnd_f | apply Cnd_not | apply Cnd_some | apply Cnd_none | apply Gd_nt | apply Gd_nf | apply Gd_some | apply Gd_none | apply Gd_want) | refine U_ar rfl rfl rfl (wrap_k (by simp only [wrapOk]; omega)) rfl ?_ | refine U_cv E rfl rfl rfl (wrap_k (by simp only [wrapOk]; omega)) rfl ?_ | refine U_pure E rfl rfl ?_ | refine T_exit rfl ?_ | refine T_condV rfl ?_ | refine U_guard rfl rfl ?_ | ((with_reducible refine Gd_skipT ?_ ?_); exact rfl) | ((with_reducible refine Gd_skipF ?_ ?_); exact rfl))
              refine T_ret3 Tryd.func42 rfl rfl rfl rfl ⟨_, rfl, k6', .slice none 0 0, ?_, ?_⟩
              · rw [he, e1]; rfl
              · rw [e2]; exact sl_nil _ _
            · have he : nErr s l = 0 := by rw [nErr, if_neg hnz, if_neg (by omega), if_neg (by omega), if_neg (by omega), if_neg (by omega)]
              repeat (first | (with_reducible first | apply T_seq | apply T_region | apply U_nil | apply T_skip | apply T_block | apply T_inBlock | apply Gd_nt | apply Gd_nf | apply Gd_some | apply Gd_none | apply Gd_want) | refine U_ar rfl rfl rfl (wrap_k (by simp only [wrapOk]; omega)) rfl ?_ | refine U_cv E rfl rfl rfl (wrap_k (by simp only [wrapOk]; omega)) rfl ?_ | refine U_pure E rfl rfl ?_ | refine T_exit rfl ?_ | refine U_guard rfl rfl ?_ | ((with_reducible refine Gd_skipT ?_ ?_); exact rfl) | ((with_reducible refine Gd_skipF ?_ ?_); exact rfl))
              obtain ⟨rc, hc, rcf⟩ := bs_part (P := Tryd.prog) (h6) (4) (val4 l + 4) (by omega) (by omega); refine U_run rfl rfl rfl (ro_slB E rfl rfl rfl rcf (by first | rfl | (simp only [List.length_take, List.length_drop, List.length_append] <;> omega) | (dsimp only; omega) | exact ⟨_, rfl⟩ | exact ⟨_, congrArg (fun z => some (Value.int _ z)) (by omega)⟩) (by first | rfl | (simp only [List.length_take, List.length_drop, List.length_append] <;> omega) | (dsimp only; omega) | exact ⟨_, rfl⟩ | exact ⟨_, congrArg (fun z => some (Value.int _ z)) (by omega)⟩)) ?_
              have hlc : ((l.drop 4).take (val4 l + 4 - 4)).length = val4 l := by rw [List.length_take, List.length_drop]; omega
              repeat (first | (with_reducible first | apply T_seq | apply T_region | apply U_nil | apply T_skip | apply T_block | apply T_inBlock | apply Gd_nt | apply Gd_nf | apply Gd_some | apply Gd_none | apply Gd_want) | refine U_ar rfl rfl rfl (wrap_k (by simp only [wrapOk]; omega)) rfl ?_ | refine U_cv E rfl rfl rfl (wrap_k (by simp only [wrapOk]; omega)) rfl ?_ | refine U_pure E rfl rfl ?_ | refine T_exit rfl ?_ | refine U_guard rfl rfl ?_ | ((with_reducible refine Gd_skipT ?_ ?_); exact rfl) | ((with_reducible refine Gd_skipF ?_ ?_); exact rfl))
              refine U_call rfl rfl (Tryd.call19 _) (cut_c w6 G _ _ (val4 l) hc (by omega)) ?_
              rintro r w7 ⟨k7, hr7⟩
              rw [Int.toNat_natCast, List.take_of_length_le (Nat.le_of_eq hlc)] at hr7
              repeat (first | (with_reducible first | apply T_seq | apply T_region | apply U_nil | apply T_skip | apply T_block | apply T_inBlock | apply Cnd_t | apply Cnd_f | apply Cnd_not | apply Cnd_some | apply Cnd_none | apply Gd_nt | apply Gd_nf | apply Gd_some | apply Gd_none | apply Gd_want) | refine U_ar rfl rfl rfl (wrap_k (by simp only [wrapOk]; omega)) rfl ?_ | refine U_cv E rfl rfl rfl (wrap_k (by simp only [wrapOk]; omega)) rfl ?_ | refine U_pure E rfl rfl ?_ | refine T_exit rfl ?_ | refine T_condV rfl ?_ | refine U_guard rfl rfl ?_ | ((with_reducible refine Gd_skipT ?_ ?_); exact rfl) | ((with_reducible refine Gd_skipF ?_ ?_); exact rfl))
              refine T_ret3 Tryd.func42 rfl rfl rfl rfl ⟨_, rfl, k6'.tr k7 (fun _ _ x => x), r, ?_, ?_⟩
              · rw [he, nLen, if_pos he]
                rfl
              · rw [nRec, if_pos he]
                have e : val4 l + 4 - 4 = val4 l := by omega
                rw [e] at hr7 hlc
                have s6 := k6'.size
                exact (hr7.sl (by omega)).mono (fun j _ hj => Nat.le_trans s6 hj)
    · have he : nErr s l = 3 := by rw [nErr, if_pos (Classical.byContradiction fun e => by have := hb.2 e; rw [hz0] at this; cases this)]
      obtain ⟨e1, e2⟩ := bad 2 he
      repeat (first | (with_reducible first | apply T_seq | apply T_region | apply U_nil | apply T_skip | apply T_block | apply T_inBlock | apply Cnd_t | apply Cnd_f | apply Cnd_not | apply Cnd_some | apply Cnd_none | apply Gd_nt | apply Gd_nf | apply Gd_some | apply Gd_none | apply Gd_want) | refine U_ar rfl rfl rfl (wrap_k (by simp only [wrapOk]; omega)) rfl ?_ | refine U_cv E rfl rfl rfl (wrap_k (by simp only [wrapOk]; omega)) rfl ?_ | refine U_pure E rfl rfl ?_ | refine T_exit rfl ?_ | refine T_condV rfl ?_ | refine U_guard rfl rfl ?_ | ((with_reducible refine Gd_skipT ?_ ?_); exact rfl) | ((with_reducible refine Gd_skipF ?_ ?_); exact rfl))
      refine T_ret3 Tryd.func42 rfl rfl rfl rfl ⟨_, rfl, Kept.refl _ _, .slice none 0 0, ?_, ?_⟩
      · rw [he, e1]; rfl
      · rw [e2]; exact sl_nil _ _
end Go.Proofs.YtoefhdaenaiomaaDoor

/- Guarded operations in regions of open order; the example of the frames; frames and what is taken out of them. -/
namespace Go.Proofs.YtoefhdaenaiomaaDoor
open Go
set_option maxRecDepth 20000

section
variable {P : Program} {f : FuncId} {R : Ending → World → Prop} {n : Nat} {k : List Item} {m : Fm} {ops : Array Oper} {w : World} {S0 : World → Prop} {d fuel : Nat} {listed : Array Bool}

theorem L_takeG (i : Nat) {o : Oper} {v : Value} {d' j g : Nat} {want : Bool} (hi : ops[i]? = some o) (hs : Region.noSelect ops = true) (hf : Region.free .any ops listed i = true) (hr : (Region.ready .any ops listed).contains i = true)
    (hid : (Nat.beq i d || (decide (d < ops.size) && !waitsB ops i ops.size d)) = false) (hS : S0 w) (hg : o.guard = some (j, want)) (hj : (ops[j]?).bind (·.dst) = some g) (hv : look m g = some (.bool want)) (hdst : o.dst = some d') (hd : Nat.blt d' n = true)
    (hy : ∀ a, Fits a n m → ∀ w', S0 w' → (execOp a.eval o).run P w' = .ok (.value v) w') (h : L P f R n k ops S0 d fuel (listed.setIfInBounds i true) ((d', v) :: m) w) : L P f R n k ops S0 d (fuel + 1) listed m w := by
  intro hcl a ha
  simp only [Bool.or_eq_false_iff] at hid
  have hne : i ≠ d := fun e => by rw [e] at hid; simp at hid
  have hrr : i ∈ Region.ready .any ops listed := by simpa using hr
  have := h (hcl.put hrr) _ (ha.put v hd)
  rw [← hdst] at this
  have hyl : yielded ops a.tmps j = some want := by
    unfold yielded
    rw [hj]
    simp [ha.get g _ hv]
  refine wpAnyL_first (fu := ops.size) hi (Region.noSelect_spec hs) (fun c a w h => by cases h.1) hne (fun hlt => ?_) fuel listed a w hcl (Region.free_spec hi hf) hrr (.inl ⟨by simp [Region.wanted, hg, hyl], hy a ha⟩) hS this
  have h2 := hid.2
  simp only [hlt, decide_true, Bool.true_and, Bool.not_eq_false'] at h2
  exact h2

theorem L_skipG (i : Nat) {o : Oper} {d' j g : Nat} {want b : Bool} (hi : ops[i]? = some o) (hs : Region.noSelect ops = true) (hf : Region.free .any ops listed i = true) (hr : (Region.ready .any ops listed).contains i = true)
    (hid : (Nat.beq i d || (decide (d < ops.size) && !waitsB ops i ops.size d)) = false) (hS : S0 w) (hg : o.guard = some (j, want)) (hj : (ops[j]?).bind (·.dst) = some g) (hv : look m g = some (.bool b)) (hb : (b == want) = false) (hdst : o.dst = some d') (hd : Nat.blt d' n = true)
    (h : L P f R n k ops S0 d fuel (listed.setIfInBounds i true) ((d', undef) :: m) w) : L P f R n k ops S0 d (fuel + 1) listed m w := by
  intro hcl a ha
  simp only [Bool.or_eq_false_iff] at hid
  have hne : i ≠ d := fun e => by rw [e] at hid; simp at hid
  have hrr : i ∈ Region.ready .any ops listed := by simpa using hr
  have := h (hcl.put hrr) _ (ha.put undef hd)
  rw [← hdst] at this
  have hyl : yielded ops a.tmps j = some b := by
    unfold yielded
    rw [hj]
    simp [ha.get g _ hv]
  refine wpAnyL_first (fu := ops.size) hi (Region.noSelect_spec hs) (fun c a w h => by cases h.1) hne (fun hlt => ?_) fuel listed a w hcl (Region.free_spec hi hf) hrr (.inr ⟨?_, rfl⟩) hS this
  · have h2 := hid.2
    simp only [hlt, decide_true, Bool.true_and, Bool.not_eq_false'] at h2
    exact h2
  · simp only [Region.wanted, hg, hyl]
    exact hb

/-- What a slot holds is decided. -/
theorem L_splitB {g : Nat} {p : Bool} (hv : look m g = some (.bool p)) (ht : p = true → L P f R n k ops S0 d fuel listed ((g, .bool true) :: m) w) (hf : p = false → L P f R n k ops S0 d fuel listed ((g, .bool false) :: m) w) : L P f R n k ops S0 d fuel listed m w := by
  have hs : ∀ i v, look ((g, .bool p) :: m) i = some v → look m i = some v := by
    intro i v h
    simp only [look] at h
    cases hgi : Nat.beq g i with
    | true =>
      rw [hgi] at h
      have : g = i := by simpa using hgi
      subst this
      rw [hv]
      exact h
    | false => rw [hgi] at h; exact h
  cases p
  · exact fun hcl a ha => hf rfl hcl a (ha.less hs)
  · exact fun hcl a ha => ht rfl hcl a (ha.less hs)
theorem L_less {m' : Fm} (hs : Sub m' m) (h : L P f R n k ops S0 d fuel listed m' w) : L P f R n k ops S0 d fuel listed m w := fun hcl a ha => h hcl a (ha.less hs.look)

/-- A guarded operation whose guard was left out itself. -/
theorem U_guardU {Z : Act → World → Prop} {rest : List Oper} {d' : Nat} {op : Op} {ty : TypeId} {ps : String} {af : Array Edge} {j g : Nat} {want : Bool} (hj : (ops[j]?).bind (·.dst) = some g) (hv : look m g = some undef) (hd : Nat.blt d' n = true)
    (h : U P n Z ops rest ((d', undef) :: m) w) :
    U P n Z ops ({ dst := some d', op := op, type := ty, pos := ps, after := af, guard := some (j, want) } :: rest) m w := by
  intro a ha
  have hy : yielded ops a.tmps j = none := by
    unfold yielded
    rw [hj]
    simp [ha.get g _ hv, undef]
  unfold wpList
  rw [if_neg (by simp [Region.wanted, hy])]
  exact h _ (ha.put undef hd)
end

theorem chk0 : chk 0 [] = 558161692 := by kernel_rfl
theorem sawake_c (w : World) : Calls Tryd.prog 18 [].toArray w (Ret fun r w' => r = .bool true ∧ Kept none0 w w') := by
  refine calls_T Tryd.func18 rfl rfl rfl ?_
  repeat (first | (with_reducible first | apply T_seq | apply T_region | apply U_nil | apply T_skip | apply T_block | apply T_inBlock | apply Cnd_t | apply Cnd_f | apply Cnd_not | apply Cnd_some | apply Cnd_none | apply Gd_nt | apply Gd_nf | apply Gd_some | apply Gd_none | apply Gd_want) | refine U_ar rfl rfl rfl (wrap_k (by simp only [wrapOk]; omega)) rfl ?_ | refine U_cv E rfl rfl rfl (wrap_k (by simp only [wrapOk]; omega)) rfl ?_ | refine U_pure E rfl rfl ?_ | refine T_exit rfl ?_ | refine T_condV rfl ?_ | refine U_guard rfl rfl ?_ | ((with_reducible refine Gd_skipT ?_ ?_); exact rfl) | ((with_reducible refine Gd_skipF ?_ ?_); exact rfl))
  refine U_call rfl rfl (Tryd.call43 _) (check_c w none0 (.slice none 0 0) [] 0 (by decide) (sl_nil w none0)) ?_
  rintro r w1 ⟨rfl, k1⟩
  rw [chk0]
  repeat (first | (with_reducible first | apply T_seq | apply T_region | apply U_nil | apply T_skip | apply T_block | apply T_inBlock | apply Cnd_t | apply Cnd_f | apply Cnd_not | apply Cnd_some | apply Cnd_none | apply Gd_nt | apply Gd_nf | apply Gd_some | apply Gd_none | apply Gd_want) | refine U_ar rfl rfl rfl (wrap_k (by simp only [wrapOk]; omega)) rfl ?_ | refine U_cv E rfl rfl rfl (wrap_k (by simp only [wrapOk]; omega)) rfl ?_ | refine U_pure E rfl rfl ?_ | refine T_exit rfl ?_ | refine T_condV rfl ?_ | refine U_guard rfl rfl ?_ | ((with_reducible refine Gd_skipT ?_ ?_); exact rfl) | ((with_reducible refine Gd_skipF ?_ ?_); exact rfl))
  refine Gd_b (fun _ => ?_) (fun e => absurd e (by decide))
  repeat (first | (with_reducible first | apply T_seq | apply T_region | apply U_nil | apply T_skip | apply T_block | apply T_inBlock | apply Cnd_t | apply Cnd_f | apply Cnd_not | apply Cnd_some | apply Cnd_none | apply Gd_nt | apply Gd_nf | apply Gd_some | apply Gd_none | apply Gd_want) | refine U_ar rfl rfl rfl (wrap_k (by simp only [wrapOk]; omega)) rfl ?_ | refine U_cv E rfl rfl rfl (wrap_k (by simp only [wrapOk]; omega)) rfl ?_ | refine U_pure E rfl rfl ?_ | refine T_exit rfl ?_ | refine T_condV rfl ?_ | refine U_guard rfl rfl ?_ | ((with_reducible refine Gd_skipT ?_ ?_); exact rfl) | ((with_reducible refine Gd_skipF ?_ ?_); exact rfl))
  refine U_call rfl rfl (Tryd.call46 _) (size_c w1 3 (by decide)) ?_
  rintro r w2 ⟨rfl, rfl⟩
  repeat (first | (with_reducible first | apply T_seq | apply T_region | apply U_nil | apply T_skip | apply T_block | apply T_inBlock | apply Cnd_t | apply Cnd_f | apply Cnd_not | apply Cnd_some | apply Cnd_none | apply Gd_nt | apply Gd_nf | apply Gd_some | apply Gd_none | apply Gd_want) | refine U_ar rfl rfl rfl (wrap_k (by simp only [wrapOk]; omega)) rfl ?_ | refine U_cv E rfl rfl rfl (wrap_k (by simp only [wrapOk]; omega)) rfl ?_ | refine U_pure E rfl rfl ?_ | refine T_exit rfl ?_ | refine T_condV rfl ?_ | refine U_guard rfl rfl ?_ | ((with_reducible refine Gd_skipT ?_ ?_); exact rfl) | ((with_reducible refine Gd_skipF ?_ ?_); exact rfl))
  exact T_ret1 Tryd.func18 rfl rfl ⟨_, rfl, rfl, k1⟩

/-! ### What is taken out of a frame -/
theorem frm_val (s : Nat) (p more : List UInt8) (hp : p.length < 4294967296) : val4 (frm s p ++ more) = p.length := by
  rw [frm, List.append_assoc, List.append_assoc, val4_le4_append _ hp]
theorem frm_take (s : Nat) (p more : List UInt8) : (frm s p ++ more).take (p.length + 4) = le4 p.length ++ p := by
  rw [frm, List.append_assoc]
  exact List.take_left' (by rw [List.length_append, le4_len]; omega)
theorem frm_drop (s : Nat) (p more : List UInt8) : (frm s p ++ more).drop (p.length + 4) = le4 (chk s (le4 p.length ++ p)) ++ more := by
  rw [frm, List.append_assoc]
  exact List.drop_left' (by rw [List.length_append, le4_len]; omega)
theorem frm_body (s : Nat) (p more : List UInt8) : ((frm s p ++ more).drop 4).take p.length = p := by
  rw [frm, List.append_assoc, List.append_assoc, List.drop_left' (le4_len _)]
  exact List.take_left' rfl
theorem nErr_frm (s t : Nat) (p more : List UInt8) (hp : p.length ≤ 100000) (hz : ¬ zz (frm s p ++ more)) : nErr t (frm s p ++ more) = if chk s (le4 p.length ++ p) = chk t (le4 p.length ++ p) then 0 else 5 := by
  have hl : (frm s p ++ more).length = p.length + 8 + more.length := by rw [List.length_append, frm_len]
  rw [nErr, if_neg hz, if_neg (by omega), frm_val s p more (by omega), if_neg (by omega), if_neg (by omega), frm_take, frm_drop, val4_append (by rw [le4_len]; decide), val4_le4 _ (chk_lt _ _)]
  by_cases h : chk s (le4 p.length ++ p) = chk t (le4 p.length ++ p)
  · rw [if_pos h, if_neg (by simp [h])]
  · rw [if_neg h, if_pos h]
theorem zz_le4 {n : Nat} (hn : n < 4294967296) (h : zz (le4 n)) : n = 0 := by
  have hv := val4_le4 n hn
  have e : le4 n = [0, 0, 0, 0] := by
    have h0 := h (UInt8.ofNat n) (by simp [le4])
    have h1 := h (UInt8.ofNat (n / 256)) (by simp [le4])
    have h2 := h (UInt8.ofNat (n / 65536)) (by simp [le4])
    have h3 := h (UInt8.ofNat (n / 16777216)) (by simp [le4])
    rw [le4, h0, h1, h2, h3]
  rw [e] at hv
  rw [← hv]
  rfl
theorem zz_app {a b : List UInt8} : zz (a ++ b) ↔ zz a ∧ zz b := by
  constructor
  · intro h
    exact ⟨fun x hx => h x (List.mem_append_left _ hx), fun x hx => h x (List.mem_append_right _ hx)⟩
  · rintro ⟨h1, h2⟩ x hx
    rcases List.mem_append.1 hx with hx | hx
    · exact h1 x hx
    · exact h2 x hx
theorem zz_frm {s : Nat} {p : List UInt8} (hp : p.length < 4294967296) (h : zz (frm s p)) : p = [] ∧ chk s (le4 0) = 0 := by
  rw [frm, zz_app, zz_app] at h
  have h0 := zz_le4 hp h.1.1
  have hpe : p = [] := List.eq_nil_of_length_eq_zero h0
  subst hpe
  refine ⟨rfl, ?_⟩
  have := zz_le4 (chk_lt _ _) h.2
  simpa using this
end Go.Proofs.YtoefhdaenaiomaaDoor
