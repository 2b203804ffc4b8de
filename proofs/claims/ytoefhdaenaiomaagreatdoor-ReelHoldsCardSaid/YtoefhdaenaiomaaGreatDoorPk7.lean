/- The reel: its small functions. -/
import Derived.Test.YtoefhdaenaiomaaGreatDoorPk4
import Derived.Test.YtoefhdaenaiomaaGreatDoorPk6
set_option linter.unusedVariables false
set_option linter.unusedSimpArgs false
namespace Go.Proofs.YtoefhdaenaiomaaGreatDoor
open Go
set_option maxRecDepth 20000

def hsz (D : Dr) : Nat := (D.l.length - 2) / 2
def base (D : Dr) (g : Nat) : Nat := 2 + g % 2 * hsz D
def pgs (n : Nat) : Nat := (n + 8 + 253) / 254
def mrk (m : UInt8) (p : List UInt8) : List UInt8 := m :: ((p ++ zeros 254).take 254 ++ [m])
theorem mrk_len (m : UInt8) (p : List UInt8) : (mrk m p).length = 256 := by
  simp [mrk, zeros_len]
def sdr (g i : Nat) : Nat := chk g (le4 i)
def bareD (D : Dr) (i : Int) (m : UInt8) : Option (List UInt8) :=
  if (0 ≤ i ∧ i < D.l.length) ∧ (nowS D.l D.wait i.toNat)[0]? = some m ∧ (nowS D.l D.wait i.toNat)[255]? = some m then some (((nowS D.l D.wait i.toNat).drop 1).take 254) else none
def rfErr (n : Nat) (left : Int) : Nat := if 100000 < n then 4 else if left < (pgs n : Int) then 6 else 0

theorem size_rc (w : World) (F : Nat → Prop) (hb : Nat) (D : Dr) (h : IsD w F hb D) (h2 : 2 ≤ D.l.length) :
    Calls Tryz.prog 26 [ptr hb].toArray w (Ret fun r w' => r = .int .i64 (hsz D : Nat) ∧ w' = w) := by
  have hn2 := h.1.n2
  have hs := dsize_c w F hb D h
  refine calls_T Tryz.func26 rfl rfl rfl ?_
  unfold ptr at *
  repeat (first | (with_reducible first | apply T_seq | apply T_region | apply U_nil | apply T_skip | apply T_block | apply T_inBlock | apply Cnd_t | apply Cnd_f | apply Cnd_not | apply Cnd_some | apply Cnd_none | apply Gd_nt | apply Gd_nf | apply Gd_some | apply Gd_none | apply Gd_want) | refine U_ar rfl rfl rfl (wrap_k (by simp only [wrapOk]; omega)) rfl ?_ | refine U_cv E rfl rfl rfl (wrap_k (by simp only [wrapOk]; omega)) rfl ?_ | refine U_pure E rfl rfl ?_ | refine T_exit rfl ?_ | refine T_condV rfl ?_ | refine U_guard rfl rfl ?_ | ((with_reducible refine Gd_skipT ?_ ?_); exact rfl) | ((with_reducible refine Gd_skipF ?_ ?_); exact rfl))
  refine U_call rfl rfl (Tryz.call24 _) (hs) ?_
  rintro r w1 ⟨rfl, rfl⟩
  repeat (first | (with_reducible first | apply T_seq | apply T_region | apply U_nil | apply T_skip | apply T_block | apply T_inBlock | apply Cnd_t | apply Cnd_f | apply Cnd_not | apply Cnd_some | apply Cnd_none | apply Gd_nt | apply Gd_nf | apply Gd_some | apply Gd_none | apply Gd_want) | refine U_ar rfl rfl rfl (wrap_k (by simp only [wrapOk]; omega)) rfl ?_ | refine U_cv E rfl rfl rfl (wrap_k (by simp only [wrapOk]; omega)) rfl ?_ | refine U_pure E rfl rfl ?_ | refine T_exit rfl ?_ | refine T_condV rfl ?_ | refine U_guard rfl rfl ?_ | ((with_reducible refine Gd_skipT ?_ ?_); exact rfl) | ((with_reducible refine Gd_skipF ?_ ?_); exact rfl))
  refine U_run rfl rfl rfl (ro_bin (r := .int .i64 (hsz D : Nat)) rfl rfl (by rw [show (D.l.length : Int) - 2 = ((D.l.length - 2 : Nat) : Int) by omega]; exact run_quo (y := 2) (by decide) (wrap_i64 (by omega)))) ?_
  repeat (first | (with_reducible first | apply T_seq | apply T_region | apply U_nil | apply T_skip | apply T_block | apply T_inBlock | apply Cnd_t | apply Cnd_f | apply Cnd_not | apply Cnd_some | apply Cnd_none | apply Gd_nt | apply Gd_nf | apply Gd_some | apply Gd_none | apply Gd_want) | refine U_ar rfl rfl rfl (wrap_k (by simp only [wrapOk]; omega)) rfl ?_ | refine U_cv E rfl rfl rfl (wrap_k (by simp only [wrapOk]; omega)) rfl ?_ | refine U_pure E rfl rfl ?_ | refine T_exit rfl ?_ | refine T_condV rfl ?_ | refine U_guard rfl rfl ?_ | ((with_reducible refine Gd_skipT ?_ ?_); exact rfl) | ((with_reducible refine Gd_skipF ?_ ?_); exact rfl))
  exact T_ret1 Tryz.func26 rfl rfl ⟨_, rfl, rfl, rfl⟩

theorem from_rc (w : World) (F : Nat → Prop) (hb : Nat) (D : Dr) (g : Nat) (h : IsD w F hb D) (h2 : 2 ≤ D.l.length) (hg : g < 4294967296) :
    Calls Tryz.prog 33 [ptr hb, .int .u32 g].toArray w (Ret fun r w' => r = .int .i64 (base D g : Nat) ∧ w' = w) := by
  have hn2 := h.1.n2
  have hs := size_rc w F hb D h h2
  have hz : hsz D ≤ 8192 := by unfold hsz; omega
  have hg2 : g % 2 < 2 := Nat.mod_lt _ (by decide)
  have hmul : g % 2 * hsz D ≤ 1 * 8192 := Nat.mul_le_mul (by omega) hz
  refine calls_T Tryz.func33 rfl rfl rfl ?_
  unfold ptr at *
  repeat (first | (with_reducible first | apply T_seq | apply T_region | apply U_nil | apply T_skip | apply T_block | apply T_inBlock | apply Cnd_t | apply Cnd_f | apply Cnd_not | apply Cnd_some | apply Cnd_none | apply Gd_nt | apply Gd_nf | apply Gd_some | apply Gd_none | apply Gd_want) | refine U_ar rfl rfl rfl (wrap_k (by simp only [wrapOk]; omega)) rfl ?_ | refine U_cv E rfl rfl rfl (wrap_k (by simp only [wrapOk]; omega)) rfl ?_ | refine U_pure E rfl rfl ?_ | refine T_exit rfl ?_ | refine T_condV rfl ?_ | refine U_guard rfl rfl ?_ | ((with_reducible refine Gd_skipT ?_ ?_); exact rfl) | ((with_reducible refine Gd_skipF ?_ ?_); exact rfl))
  refine U_run rfl rfl rfl (ro_bin (r := .int .u32 (g % 2 : Nat)) rfl rfl (by exact run_rem (y := 2) (by decide))) ?_
  repeat (first | (with_reducible first | apply T_seq | apply T_region | apply U_nil | apply T_skip | apply T_block | apply T_inBlock | apply Cnd_t | apply Cnd_f | apply Cnd_not | apply Cnd_some | apply Cnd_none | apply Gd_nt | apply Gd_nf | apply Gd_some | apply Gd_none | apply Gd_want) | refine U_ar rfl rfl rfl (wrap_k (by simp only [wrapOk]; omega)) rfl ?_ | refine U_cv E rfl rfl rfl (wrap_k (by simp only [wrapOk]; omega)) rfl ?_ | refine U_pure E rfl rfl ?_ | refine T_exit rfl ?_ | refine T_condV rfl ?_ | refine U_guard rfl rfl ?_ | ((with_reducible refine Gd_skipT ?_ ?_); exact rfl) | ((with_reducible refine Gd_skipF ?_ ?_); exact rfl))
  refine U_call rfl rfl (Tryz.call26 _) (hs) ?_
  rintro r w1 ⟨rfl, rfl⟩
  refine U_ar (r := ((g % 2 * hsz D : Nat) : Int)) rfl rfl (congrArg some (by push_cast; rfl)) (wrap_i64 (by omega)) rfl ?_
  repeat (first | (with_reducible first | apply T_seq | apply T_region | apply U_nil | apply T_skip | apply T_block | apply T_inBlock | apply Cnd_t | apply Cnd_f | apply Cnd_not | apply Cnd_some | apply Cnd_none | apply Gd_nt | apply Gd_nf | apply Gd_some | apply Gd_none | apply Gd_want) | refine U_ar rfl rfl rfl (wrap_k (by simp only [wrapOk]; omega)) rfl ?_ | refine U_cv E rfl rfl rfl (wrap_k (by simp only [wrapOk]; omega)) rfl ?_ | refine U_pure E rfl rfl ?_ | refine T_exit rfl ?_ | refine T_condV rfl ?_ | refine U_guard rfl rfl ?_ | ((with_reducible refine Gd_skipT ?_ ?_); exact rfl) | ((with_reducible refine Gd_skipF ?_ ?_); exact rfl))
  refine T_ret1 Tryz.func33 rfl rfl ⟨_, rfl, ?_, rfl⟩
  refine congrArg (fun z => Value.int .i64 z) ?_
  unfold base
  omega

theorem pages_c (w : World) (n : Nat) (hn : n ≤ 10000000) : Calls Tryz.prog 31 [.int .i64 n].toArray w (Ret fun r w' => r = .int .i64 (pgs n : Nat) ∧ w' = w) := by
  have hs := size_c w (n : Int) (by omega)
  rw [if_neg (by omega)] at hs
  refine calls_T Tryz.func31 rfl rfl rfl ?_
  repeat (first | (with_reducible first | apply T_seq | apply T_region | apply U_nil | apply T_skip | apply T_block | apply T_inBlock | apply Cnd_t | apply Cnd_f | apply Cnd_not | apply Cnd_some | apply Cnd_none | apply Gd_nt | apply Gd_nf | apply Gd_some | apply Gd_none | apply Gd_want) | refine U_ar rfl rfl rfl (wrap_k (by simp only [wrapOk]; omega)) rfl ?_ | refine U_cv E rfl rfl rfl (wrap_k (by simp only [wrapOk]; omega)) rfl ?_ | refine U_pure E rfl rfl ?_ | refine T_exit rfl ?_ | refine T_condV rfl ?_ | refine U_guard rfl rfl ?_ | ((with_reducible refine Gd_skipT ?_ ?_); exact rfl) | ((with_reducible refine Gd_skipF ?_ ?_); exact rfl))
  refine U_call rfl rfl (Tryz.call45 _) (hs) ?_
  rintro r w1 ⟨rfl, rfl⟩
  repeat (first | (with_reducible first | apply T_seq | apply T_region | apply U_nil | apply T_skip | apply T_block | apply T_inBlock | apply Cnd_t | apply Cnd_f | apply Cnd_not | apply Cnd_some | apply Cnd_none | apply Gd_nt | apply Gd_nf | apply Gd_some | apply Gd_none | apply Gd_want) | refine U_ar rfl rfl rfl (wrap_k (by simp only [wrapOk]; omega)) rfl ?_ | refine U_cv E rfl rfl rfl (wrap_k (by simp only [wrapOk]; omega)) rfl ?_ | refine U_pure E rfl rfl ?_ | refine T_exit rfl ?_ | refine T_condV rfl ?_ | refine U_guard rfl rfl ?_ | ((with_reducible refine Gd_skipT ?_ ?_); exact rfl) | ((with_reducible refine Gd_skipF ?_ ?_); exact rfl))
  refine U_run rfl rfl rfl (ro_bin (r := .int .i64 (pgs n : Nat)) rfl rfl (by rw [show (n : Int) + 8 + 254 - 1 = ((n + 8 + 253 : Nat) : Int) by omega]; exact run_quo (y := 254) (by decide) (wrap_i64 (by omega)))) ?_
  repeat (first | (with_reducible first | apply T_seq | apply T_region | apply U_nil | apply T_skip | apply T_block | apply T_inBlock | apply Cnd_t | apply Cnd_f | apply Cnd_not | apply Cnd_some | apply Cnd_none | apply Gd_nt | apply Gd_nf | apply Gd_some | apply Gd_none | apply Gd_want) | refine U_ar rfl rfl rfl (wrap_k (by simp only [wrapOk]; omega)) rfl ?_ | refine U_cv E rfl rfl rfl (wrap_k (by simp only [wrapOk]; omega)) rfl ?_ | refine U_pure E rfl rfl ?_ | refine T_exit rfl ?_ | refine T_condV rfl ?_ | refine U_guard rfl rfl ?_ | ((with_reducible refine Gd_skipT ?_ ?_); exact rfl) | ((with_reducible refine Gd_skipF ?_ ?_); exact rfl))
  exact T_ret1 Tryz.func31 rfl rfl ⟨_, rfl, rfl, rfl⟩

theorem rword_rc (w : World) (z : Nat) (hz : z < 4294967296) :
    Calls Tryz.prog 62 [.int .u32 z].toArray w (Ret fun r w' => ∃ b, r = .slice (some ⟨b, 0, none⟩) 4 4 ∧ New w w' b (encBs (le4 z)) 5) := by
  refine calls_T Tryz.func62 rfl rfl rfl ?_
  repeat (first | (with_reducible first | apply T_seq | apply T_region | apply U_nil | apply T_skip | apply T_block | apply T_inBlock | apply Cnd_t | apply Cnd_f | apply Cnd_not | apply Cnd_some | apply Cnd_none | apply Gd_nt | apply Gd_nf | apply Gd_some | apply Gd_none | apply Gd_want) | refine U_ar rfl rfl rfl (wrap_i64 (by omega)) rfl ?_ | refine U_pure E rfl rfl ?_ | refine T_exit rfl ?_ | refine T_condV rfl ?_ | refine U_guard rfl rfl ?_ | ((with_reducible refine Gd_skipT ?_ ?_); exact rfl) | ((with_reducible refine Gd_skipF ?_ ?_); exact rfl))
  refine U_run rfl rfl rfl (ro_bin (r := .int .u32 (z / 2 ^ 8 : Nat)) rfl rfl (by exact run_shr (y := 8) .u64 (by decide))) ?_
  repeat (first | (with_reducible first | apply T_seq | apply T_region | apply U_nil | apply T_skip | apply T_block | apply T_inBlock | apply Cnd_t | apply Cnd_f | apply Cnd_not | apply Cnd_some | apply Cnd_none | apply Gd_nt | apply Gd_nf | apply Gd_some | apply Gd_none | apply Gd_want) | refine U_ar rfl rfl rfl (wrap_i64 (by omega)) rfl ?_ | refine U_pure E rfl rfl ?_ | refine T_exit rfl ?_ | refine T_condV rfl ?_ | refine U_guard rfl rfl ?_ | ((with_reducible refine Gd_skipT ?_ ?_); exact rfl) | ((with_reducible refine Gd_skipF ?_ ?_); exact rfl))
  refine U_run rfl rfl rfl (ro_bin (r := .int .u32 (z / 2 ^ 16 : Nat)) rfl rfl (by exact run_shr (y := 16) .u64 (by decide))) ?_
  repeat (first | (with_reducible first | apply T_seq | apply T_region | apply U_nil | apply T_skip | apply T_block | apply T_inBlock | apply Cnd_t | apply Cnd_f | apply Cnd_not | apply Cnd_some | apply Cnd_none | apply Gd_nt | apply Gd_nf | apply Gd_some | apply Gd_none | apply Gd_want) | refine U_ar rfl rfl rfl (wrap_i64 (by omega)) rfl ?_ | refine U_pure E rfl rfl ?_ | refine T_exit rfl ?_ | refine T_condV rfl ?_ | refine U_guard rfl rfl ?_ | ((with_reducible refine Gd_skipT ?_ ?_); exact rfl) | ((with_reducible refine Gd_skipF ?_ ?_); exact rfl))
  refine U_run rfl rfl rfl (ro_bin (r := .int .u32 (z / 2 ^ 24 : Nat)) rfl rfl (by exact run_shr (y := 24) .u64 (by decide))) ?_
  repeat (first | (with_reducible first | apply T_seq | apply T_region | apply U_nil | apply T_skip | apply T_block | apply T_inBlock | apply Cnd_t | apply Cnd_f | apply Cnd_not | apply Cnd_some | apply Cnd_none | apply Gd_nt | apply Gd_nf | apply Gd_some | apply Gd_none | apply Gd_want) | refine U_ar rfl rfl rfl (wrap_i64 (by omega)) rfl ?_ | refine U_pure E rfl rfl ?_ | refine T_exit rfl ?_ | refine T_condV rfl ?_ | refine U_guard rfl rfl ?_ | ((with_reducible refine Gd_skipT ?_ ?_); exact rfl) | ((with_reducible refine Gd_skipF ?_ ?_); exact rfl))
  rw [wrap8, wrap8, wrap8, wrap8]
  refine U_buildSlice E rfl rfl rfl rfl rfl rfl rfl rfl (segs := (encBs (le4 z)).map ([·])) rfl (by intro s hs; obtain ⟨u, _, rfl⟩ := List.mem_map.1 hs; rfl) rfl ?_
  intro b w1 hn
  repeat (first | (with_reducible first | apply T_seq | apply T_region | apply U_nil | apply T_skip | apply T_block | apply T_inBlock | apply Cnd_t | apply Cnd_f | apply Cnd_not | apply Cnd_some | apply Cnd_none | apply Gd_nt | apply Gd_nf | apply Gd_some | apply Gd_none | apply Gd_want) | refine U_ar rfl rfl rfl (wrap_i64 (by omega)) rfl ?_ | refine U_pure E rfl rfl ?_ | refine T_exit rfl ?_ | refine T_condV rfl ?_ | refine U_guard rfl rfl ?_ | ((with_reducible refine Gd_skipT ?_ ?_); exact rfl) | ((with_reducible refine Gd_skipF ?_ ?_); exact rfl))
  refine T_ret1 Tryz.func62 rfl rfl ⟨_, rfl, b, rfl, ?_⟩
  exact hn

theorem seed_rc (w : World) (g i : Nat) (hg : g < 4294967296) (hi : i < 4294967296) :
    Calls Tryz.prog 55 [.int .u32 g, .int .i64 i].toArray w (Ret fun r w' => r = .int .u32 (sdr g i : Nat) ∧ Kept none0 w w') := by
  refine calls_T Tryz.func55 rfl rfl rfl ?_
  repeat (first | (with_reducible first | apply T_seq | apply T_region | apply U_nil | apply T_skip | apply T_block | apply T_inBlock | apply Cnd_t | apply Cnd_f | apply Cnd_not | apply Cnd_some | apply Cnd_none | apply Gd_nt | apply Gd_nf | apply Gd_some | apply Gd_none | apply Gd_want) | refine U_ar rfl rfl rfl (wrap_k (by simp only [wrapOk]; omega)) rfl ?_ | refine U_cv E rfl rfl rfl (wrap_k (by simp only [wrapOk]; omega)) rfl ?_ | refine U_pure E rfl rfl ?_ | refine T_exit rfl ?_ | refine T_condV rfl ?_ | refine U_guard rfl rfl ?_ | ((with_reducible refine Gd_skipT ?_ ?_); exact rfl) | ((with_reducible refine Gd_skipF ?_ ?_); exact rfl))
  refine U_call rfl rfl (Tryz.call62 _) (rword_rc w i hi) ?_
  rintro r w1 ⟨b, rfl, hn⟩
  repeat (first | (with_reducible first | apply T_seq | apply T_region | apply U_nil | apply T_skip | apply T_block | apply T_inBlock | apply Cnd_t | apply Cnd_f | apply Cnd_not | apply Cnd_some | apply Cnd_none | apply Gd_nt | apply Gd_nf | apply Gd_some | apply Gd_none | apply Gd_want) | refine U_ar rfl rfl rfl (wrap_k (by simp only [wrapOk]; omega)) rfl ?_ | refine U_cv E rfl rfl rfl (wrap_k (by simp only [wrapOk]; omega)) rfl ?_ | refine U_pure E rfl rfl ?_ | refine T_exit rfl ?_ | refine T_condV rfl ?_ | refine U_guard rfl rfl ?_ | ((with_reducible refine Gd_skipT ?_ ?_); exact rfl) | ((with_reducible refine Gd_skipF ?_ ?_); exact rfl))
  refine U_call rfl rfl (Tryz.call68 _) (check_c w1 (fun _ => True) _ (le4 i) g hg (hn.bs (le4_len i) (by decide) _ trivial)) ?_
  rintro r w2 ⟨rfl, k2⟩
  repeat (first | (with_reducible first | apply T_seq | apply T_region | apply U_nil | apply T_skip | apply T_block | apply T_inBlock | apply Cnd_t | apply Cnd_f | apply Cnd_not | apply Cnd_some | apply Cnd_none | apply Gd_nt | apply Gd_nf | apply Gd_some | apply Gd_none | apply Gd_want) | refine U_ar rfl rfl rfl (wrap_k (by simp only [wrapOk]; omega)) rfl ?_ | refine U_cv E rfl rfl rfl (wrap_k (by simp only [wrapOk]; omega)) rfl ?_ | refine U_pure E rfl rfl ?_ | refine T_exit rfl ?_ | refine T_condV rfl ?_ | refine U_guard rfl rfl ?_ | ((with_reducible refine Gd_skipT ?_ ?_); exact rfl) | ((with_reducible refine Gd_skipF ?_ ?_); exact rfl))
  exact T_ret1 Tryz.func55 rfl rfl ⟨_, rfl, rfl, hn.kept.tr k2 (fun _ _ x => x)⟩

section
variable {P : Program} {w : World} {m : Fm} {n : Nat} {ty : TypeId} {ps : String} {af : Array Edge}
theorem ro_slFrom (E : Env P) {t e : TypeId} {x y : Operand} {b o len cap se l s : Nat} {kd : IntKind} {de : TypeDesc} (ht : E.ty t = some (.slice e, se)) (he : E.ty e = some (de, s)) (hx : ev m x = some (.slice (some ⟨b, o, none⟩) len cap)) (hy : ev m y = some (.int kd (l : Int))) (h1 : l ≤ len) (h2 : len ≤ cap) (h3 : cap ≠ l) {dst : Option Tmp} {gd : Option (Nat × Bool)} :
    ∀ a, Fits a n m → (execOp a.eval { dst := dst, op := .slice t x (some y) none none, type := ty, pos := ps, after := af, guard := gd }).run P w = .ok (.value (.slice (some ⟨b, o + l * s, none⟩) (len - l) (cap - l))) w := by
  intro a ha
  have hr := run_slice (P := P) (w := w) (A := some ⟨b, o, none⟩) (len := len) (cap := cap) (lo := some (.int kd (l : Int))) (hi := none) (l := l) (h' := len) (E.ok _ _ _ ht).1 (E.ok _ _ _ he).2 ⟨kd, rfl⟩ rfl h1 h2
  rw [if_neg h3, Option.map_some, addr_add] at hr
  simp only [execOp, ha.eval hx, ha.eval hy, Option.map_none, Option.map_some, Sem.run_bind, hr, Result.andThen_ok, Sem.run_pure]
end

theorem ro_min {P : Program} {w : World} {m : Fm} {n : Nat} {ty : TypeId} {ps : String} {af : Array Edge} {ats : Array TypeId} {u v : Operand} {kx ky : IntKind} {p q r : Int} (hx : ev m u = some (.int kx p)) (hy : ev m v = some (.int ky q)) (hr : (if q < p then q else p) = r) {dst : Option Tmp} {gd : Option (Nat × Bool)} :
    ∀ a, Fits a n m → (execOp a.eval { dst := dst, op := .call { callee := .builtin .min, args := #[u, v], argTypes := ats }, type := ty, pos := ps, after := af, guard := gd }).run P w = .ok (.value (.int kx r)) w := by
  intro a ha
  simp only [execOp, resolve, invoke, builtin, Sem.run_bind, Sem.run_pure, Result.andThen_ok, List.map_toArray, List.map_cons, List.map_nil, ha.eval hx, ha.eval hy, run_min_int2, hr]

theorem mrk_cells (m : UInt8) (p : List UInt8) (hp : p.length ≤ 254) :
    ((encBs (zeros 256)).set 0 (encB m)).set 255 (encB m) |>.take 1 |> fun a => a ++ (encBs p).take 255 ++ (((encBs (zeros 256)).set 0 (encB m)).set 255 (encB m)).drop (1 + ((encBs p).take 255).length) = encBs (mrk m p) := by
  dsimp only
  rw [List.take_of_length_le (l := encBs p) (by rw [encBs_len]; omega), encBs_len, ← encBs_set, ← encBs_set, encBs, encBs, encBs, ← List.map_take, ← List.map_drop, ← List.map_append, ← List.map_append]
  congr 1
  apply List.ext_getElem?
  intro j
  simp only [mrk, zeros]
  rw [List.getElem?_append, List.getElem?_append]
  simp only [List.length_append, List.length_take, List.length_set, List.length_replicate]
  by_cases h0 : j = 0
  · subst h0
    simp
  · by_cases h1 : j < 1 + p.length
    · rw [if_pos (by omega), if_neg (by omega)]
      obtain ⟨k, rfl⟩ : ∃ k, j = k + 1 := ⟨j - 1, by omega⟩
      rw [List.getElem?_cons_succ, List.getElem?_append_left (by simp; omega), List.getElem?_take, if_pos (by omega), List.getElem?_append_left (by omega)]
      congr 1
    · rw [if_neg (by omega), List.getElem?_drop]
      have e : 1 + p.length + (j - (min 1 256 + p.length)) = j := by omega
      rw [e]
      obtain ⟨k, rfl⟩ : ∃ k, j = k + 1 := ⟨j - 1, by omega⟩
      rw [List.getElem?_cons_succ, List.getElem?_set, List.getElem?_append]
      simp only [List.length_take, List.length_append, List.length_replicate, List.length_set]
      by_cases h255 : k = 254
      · subst h255
        rw [if_pos rfl, if_pos (by omega), if_neg (by omega)]
        simp
      · rw [if_neg (by omega), List.getElem?_set, if_neg (by omega), List.getElem?_replicate]
        by_cases hk : k < 254
        · rw [if_pos (by omega), if_pos (by omega), List.getElem?_take, if_pos (by omega), List.getElem?_append_right (by omega), List.getElem?_replicate, if_pos (by omega)]
        · rw [if_neg (by omega), if_neg (by omega)]
          have : k - min 254 (p.length + 254) ≠ 0 := by omega
          obtain ⟨q, hq⟩ : ∃ q, k - min 254 (p.length + 254) = q + 1 := ⟨k - min 254 (p.length + 254) - 1, by omega⟩
          rw [hq]
          rfl

set_option maxHeartbeats 1000000 in
theorem marked_rc (w : World) (G : Nat → Prop) (m : UInt8) (v : Value) (p : List UInt8) (h : BS w G v p) (hp : p.length ≤ 254) :
    Calls Tryz.prog 57 [encB m, v].toArray w (Ret fun r w' => Kept none0 w w' ∧ BS w' (fresh w) r (mrk m p)) := by
  refine calls_T Tryz.func57 rfl rfl rfl ?_
  repeat (first | (with_reducible first | apply T_seq | apply T_region | apply U_nil | apply T_skip | apply T_block | apply T_inBlock | apply Cnd_t | apply Cnd_f | apply Cnd_not | apply Cnd_some | apply Cnd_none | apply Gd_nt | apply Gd_nf | apply Gd_some | apply Gd_none | apply Gd_want) | refine U_ar rfl rfl rfl (wrap_k (by simp only [wrapOk]; omega)) rfl ?_ | refine U_cv E rfl rfl rfl (wrap_k (by simp only [wrapOk]; omega)) rfl ?_ | refine U_pure E rfl rfl ?_ | refine T_exit rfl ?_ | refine T_condV rfl ?_ | refine U_guard rfl rfl ?_ | ((with_reducible refine Gd_skipT ?_ ?_); exact rfl) | ((with_reducible refine Gd_skipF ?_ ?_); exact rfl))
  refine U_make E rfl rfl (zs := [.int .u8 0]) rfl (N := 256) rfl rfl (by decide) (by decide) rfl rfl rfl ?_
  intro b w1 hn
  have e1 := hn.at_
  have hb1 : Blk w1 b (encBs (zeros 256)) 5 := by
    have := hn.blk
    rw [flat_single] at this
    rw [encBs_zeros]
    exact this
  repeat (first | (with_reducible first | apply T_seq | apply T_region | apply U_nil | apply T_skip | apply T_block | apply T_inBlock | apply Cnd_t | apply Cnd_f | apply Cnd_not | apply Cnd_some | apply Cnd_none | apply Gd_nt | apply Gd_nf | apply Gd_some | apply Gd_none | apply Gd_want) | refine U_ar rfl rfl rfl (wrap_k (by simp only [wrapOk]; omega)) rfl ?_ | refine U_cv E rfl rfl rfl (wrap_k (by simp only [wrapOk]; omega)) rfl ?_ | refine U_pure E rfl rfl ?_ | refine T_exit rfl ?_ | refine T_condV rfl ?_ | refine U_guard rfl rfl ?_ | ((with_reducible refine Gd_skipT ?_ ?_); exact rfl) | ((with_reducible refine Gd_skipF ?_ ?_); exact rfl))
  refine U_indexS E rfl rfl rfl rfl (by omega) (by omega) (by rfl) rfl ?_
  refine U_store E (hb1) rfl rfl rfl (by rw [encBs_len, zeros_len]; decide) rfl ?_
  intro w2 hu2
  repeat (first | (with_reducible first | apply T_seq | apply T_region | apply U_nil | apply T_skip | apply T_block | apply T_inBlock | apply Cnd_t | apply Cnd_f | apply Cnd_not | apply Cnd_some | apply Cnd_none | apply Gd_nt | apply Gd_nf | apply Gd_some | apply Gd_none | apply Gd_want) | refine U_ar rfl rfl rfl (wrap_k (by simp only [wrapOk]; omega)) rfl ?_ | refine U_cv E rfl rfl rfl (wrap_k (by simp only [wrapOk]; omega)) rfl ?_ | refine U_pure E rfl rfl ?_ | refine T_exit rfl ?_ | refine T_condV rfl ?_ | refine U_guard rfl rfl ?_ | ((with_reducible refine Gd_skipT ?_ ?_); exact rfl) | ((with_reducible refine Gd_skipF ?_ ?_); exact rfl))
  refine U_indexS E rfl rfl rfl rfl (by omega) (by omega) (by rfl) rfl ?_
  refine U_store E (hu2.blk) rfl rfl rfl (by rw [List.length_set, encBs_len, zeros_len]; decide) rfl ?_
  intro w3 hu3
  have k3 : Kept none0 w w3 := (hn.kept.tr hu2.kept (fun j hj (e : j = b) => by omega)).tr hu3.kept (fun j hj (e : j = b) => by omega)
  repeat (first | (with_reducible first | apply T_seq | apply T_region | apply U_nil | apply T_skip | apply T_block | apply T_inBlock | apply Cnd_t | apply Cnd_f | apply Cnd_not | apply Cnd_some | apply Cnd_none | apply Gd_nt | apply Gd_nf | apply Gd_some | apply Gd_none | apply Gd_want) | refine U_ar rfl rfl rfl (wrap_k (by simp only [wrapOk]; omega)) rfl ?_ | refine U_cv E rfl rfl rfl (wrap_k (by simp only [wrapOk]; omega)) rfl ?_ | refine U_pure E rfl rfl ?_ | refine T_exit rfl ?_ | refine T_condV rfl ?_ | refine U_guard rfl rfl ?_ | ((with_reducible refine Gd_skipT ?_ ?_); exact rfl) | ((with_reducible refine Gd_skipF ?_ ?_); exact rfl))
  refine U_run rfl rfl rfl (ro_slFrom (l := 1) E rfl rfl rfl rfl (by decide) (by decide) (by decide)) ?_
  repeat (first | (with_reducible first | apply T_seq | apply T_region | apply U_nil | apply T_skip | apply T_block | apply T_inBlock | apply Cnd_t | apply Cnd_f | apply Cnd_not | apply Cnd_some | apply Cnd_none | apply Gd_nt | apply Gd_nf | apply Gd_some | apply Gd_none | apply Gd_want) | refine U_ar rfl rfl rfl (wrap_k (by simp only [wrapOk]; omega)) rfl ?_ | refine U_cv E rfl rfl rfl (wrap_k (by simp only [wrapOk]; omega)) rfl ?_ | refine U_pure E rfl rfl ?_ | refine T_exit rfl ?_ | refine T_condV rfl ?_ | refine U_guard rfl rfl ?_ | ((with_reducible refine Gd_skipT ?_ ?_); exact rfl) | ((with_reducible refine Gd_skipF ?_ ?_); exact rfl))
  refine U_copy E hu3.blk (h.mv k3 (fun _ _ _ x => x)) (encBs_one p) rfl rfl rfl rfl (by rw [List.length_set, List.length_set, encBs_len, zeros_len]; decide) rfl ?_
  intro w4 hu4
  have hb4 := hu4.blk
  simp only [Nat.zero_add, Nat.one_mul, Nat.mul_one] at hb4
  have hcells := mrk_cells m p hp
  dsimp only at hcells
  have hb4' : Blk w4 b (encBs (mrk m p)) 5 := by
    rw [← hcells]
    exact hb4
  repeat (first | (with_reducible first | apply T_seq | apply T_region | apply U_nil | apply T_skip | apply T_block | apply T_inBlock | apply Cnd_t | apply Cnd_f | apply Cnd_not | apply Cnd_some | apply Cnd_none | apply Gd_nt | apply Gd_nf | apply Gd_some | apply Gd_none | apply Gd_want) | refine U_ar rfl rfl rfl (wrap_k (by simp only [wrapOk]; omega)) rfl ?_ | refine U_cv E rfl rfl rfl (wrap_k (by simp only [wrapOk]; omega)) rfl ?_ | refine U_pure E rfl rfl ?_ | refine T_exit rfl ?_ | refine T_condV rfl ?_ | refine U_guard rfl rfl ?_ | ((with_reducible refine Gd_skipT ?_ ?_); exact rfl) | ((with_reducible refine Gd_skipF ?_ ?_); exact rfl))
  refine T_ret1 Tryz.func57 rfl rfl ⟨_, rfl, k3.tr hu4.kept (fun j hj (e : j = b) => by omega), ?_⟩
  exact ⟨by rw [mrk_len]; decide, by rw [encBs_len, Nat.mul_one], _, 256, by rw [mrk_len], by rw [mrk_len]; exact Nat.le_refl _, .inr ⟨b, 0, rfl, by simp only [fresh]; omega, hb4'.lt, hb4'.whole⟩⟩

set_option maxHeartbeats 4000000 in
theorem bare_rc (w : World) (F : Nat → Prop) (hb : Nat) (D : Dr) (i : Int) (m : UInt8) (h : IsD w F hb D) :
    Calls Tryz.prog 51 [ptr hb, .int .i64 i, encB m].toArray w (Ret fun r w' => Kept none0 w w' ∧
      ((bareD D i m = none ∧ r = .tuple #[.slice none 0 0, .bool false]) ∨ ∃ v p, bareD D i m = some p ∧ p.length = 254 ∧ r = .tuple #[v, .bool true] ∧ BS w' (fresh w) v p)) := by
  by_cases hi : 0 ≤ i ∧ i < D.l.length
  · obtain ⟨I, rfl⟩ := Int.eq_ofNat_of_zero_le hi.1
    have hI : I < D.l.length := by omega
    have hr := read_c w F hb D I h hI
    have hln := nowS_len D.l D.wait I h.1.secs (fun p hp => (h.1.waits p hp).2) hI
    refine calls_T Tryz.func51 rfl rfl rfl ?_
    unfold ptr at *
    unfold encB
    repeat (first | (with_reducible first | apply T_seq | apply T_region | apply U_nil | apply T_skip | apply T_block | apply T_inBlock | apply Cnd_t | apply Cnd_f | apply Cnd_not | apply Cnd_some | apply Cnd_none | apply Gd_nt | apply Gd_nf | apply Gd_some | apply Gd_none | apply Gd_want) | refine U_ar rfl rfl rfl (wrap_k (by simp only [wrapOk]; omega)) rfl ?_ | refine U_cv E rfl rfl rfl (wrap_k (by simp only [wrapOk]; omega)) rfl ?_ | refine U_pure E rfl rfl ?_ | refine T_exit rfl ?_ | refine T_condV rfl ?_ | refine U_guard rfl rfl ?_ | ((with_reducible refine Gd_skipT ?_ ?_); exact rfl) | ((with_reducible refine Gd_skipF ?_ ?_); exact rfl))
    refine U_call rfl rfl (Tryz.call50 _) (hr) ?_
    rintro r w1 ⟨b, rfl, hb1, hbl, k1⟩
    obtain ⟨s, hs⟩ : ∃ s, nowS D.l D.wait I = s := ⟨_, rfl⟩
    rw [hs] at hbl hln
    have hbare : bareD D (I : Int) m = if s[0]? = some m ∧ s[255]? = some m then some ((s.drop 1).take 254) else none := by
      simp only [bareD, Int.toNat_natCast, hs]
      by_cases hc : s[0]? = some m ∧ s[255]? = some m
      · rw [if_pos ⟨hi, hc⟩, if_pos hc]
      · rw [if_neg (fun e => hc e.2), if_neg hc]
    have g0 : (encBs s)[0]? = some (encB (s[0]'(by omega))) := get_enc (by omega)
    have g255 : (encBs s)[255]? = some (encB (s[255]'(by omega))) := get_enc (by omega)
    have e0 : s[0]? = some (s[0]'(by omega)) := List.getElem?_eq_getElem _
    have e255 : s[255]? = some (s[255]'(by omega)) := List.getElem?_eq_getElem _
    have hsl : BS w1 (fresh w) (.slice (some ⟨b, 0, none⟩) 256 256) s := ⟨by omega, by rw [encBs_len, Nat.mul_one], _, 256, by rw [hln], by omega, .inr ⟨b, 0, rfl, hb1, hbl.lt, hbl.whole⟩⟩
    repeat (first | (with_reducible first | apply T_seq | apply T_region | apply U_nil | apply T_skip | apply T_block | apply T_inBlock | apply Cnd_t | apply Cnd_f | apply Cnd_not | apply Cnd_some | apply Cnd_none | apply Gd_nt | apply Gd_nf | apply Gd_some | apply Gd_none | apply Gd_want) | refine U_ar rfl rfl rfl (wrap_k (by simp only [wrapOk]; omega)) rfl ?_ | refine U_cv E rfl rfl rfl (wrap_k (by simp only [wrapOk]; omega)) rfl ?_ | refine U_pure E rfl rfl ?_ | refine T_exit rfl ?_ | refine T_condV rfl ?_ | refine U_guard rfl rfl ?_ | ((with_reducible refine Gd_skipT ?_ ?_); exact rfl) | ((with_reducible refine Gd_skipF ?_ ?_); exact rfl))
    refine U_indexS E rfl rfl rfl rfl (by omega) (by omega) (by rfl) rfl ?_
    repeat (first | (with_reducible first | apply T_seq | apply T_region | apply U_nil | apply T_skip | apply T_block | apply T_inBlock | apply Cnd_t | apply Cnd_f | apply Cnd_not | apply Cnd_some | apply Cnd_none | apply Gd_nt | apply Gd_nf | apply Gd_some | apply Gd_none | apply Gd_want) | refine U_ar rfl rfl rfl (wrap_k (by simp only [wrapOk]; omega)) rfl ?_ | refine U_cv E rfl rfl rfl (wrap_k (by simp only [wrapOk]; omega)) rfl ?_ | refine U_pure E rfl rfl ?_ | refine T_exit rfl ?_ | refine T_condV rfl ?_ | refine U_guard rfl rfl ?_ | ((with_reducible refine Gd_skipT ?_ ?_); exact rfl) | ((with_reducible refine Gd_skipF ?_ ?_); exact rfl))
    refine U_loadB E hbl rfl rfl rfl g0 rfl ?_
    unfold encB
    repeat (first | (with_reducible first | apply T_seq | apply T_region | apply U_nil | apply T_skip | apply T_block | apply T_inBlock | apply Cnd_t | apply Cnd_f | apply Cnd_not | apply Cnd_some | apply Cnd_none | apply Gd_nt | apply Gd_nf | apply Gd_some | apply Gd_none | apply Gd_want) | refine U_ar rfl rfl rfl (wrap_k (by simp only [wrapOk]; omega)) rfl ?_ | refine U_cv E rfl rfl rfl (wrap_k (by simp only [wrapOk]; omega)) rfl ?_ | refine U_pure E rfl rfl ?_ | refine T_exit rfl ?_ | refine T_condV rfl ?_ | refine U_guard rfl rfl ?_ | ((with_reducible refine Gd_skipT ?_ ?_); exact rfl) | ((with_reducible refine Gd_skipF ?_ ?_); exact rfl))
    refine Gd_b (fun hx => ?_) (fun hx => ?_)
    · have hne : ¬ (s[0]? = some m ∧ s[255]? = some m) := fun e => by
        rw [e0] at e
        have := Option.some.inj e.1
        rw [this] at hx
        exact (of_decide_eq_true hx) rfl
      rw [if_neg hne] at hbare
      repeat (first | (with_reducible first | apply T_seq | apply T_region | apply U_nil | apply T_skip | apply T_block | apply T_inBlock | apply Cnd_t | apply Cnd_f | apply Cnd_not | apply Cnd_some | apply Cnd_none | apply Gd_nt | apply Gd_nf | apply Gd_some | apply Gd_none | apply Gd_want) | refine U_ar rfl rfl rfl (wrap_k (by simp only [wrapOk]; omega)) rfl ?_ | refine U_cv E rfl rfl rfl (wrap_k (by simp only [wrapOk]; omega)) rfl ?_ | refine U_pure E rfl rfl ?_ | refine T_exit rfl ?_ | refine T_condV rfl ?_ | refine U_guard rfl rfl ?_ | ((with_reducible refine Gd_skipT ?_ ?_); exact rfl) | ((with_reducible refine Gd_skipF ?_ ?_); exact rfl))
      exact T_ret2 Tryz.func51 rfl rfl rfl ⟨_, rfl, k1, .inl ⟨hbare, rfl⟩⟩
    · have h0m : s[0]'(by omega) = m := UInt8.toNat_inj.1 (by have := of_decide_eq_false hx; omega)
      repeat (first | (with_reducible first | apply T_seq | apply T_region | apply U_nil | apply T_skip | apply T_block | apply T_inBlock | apply Cnd_t | apply Cnd_f | apply Cnd_not | apply Cnd_some | apply Cnd_none | apply Gd_nt | apply Gd_nf | apply Gd_some | apply Gd_none | apply Gd_want) | refine U_ar rfl rfl rfl (wrap_k (by simp only [wrapOk]; omega)) rfl ?_ | refine U_cv E rfl rfl rfl (wrap_k (by simp only [wrapOk]; omega)) rfl ?_ | refine U_pure E rfl rfl ?_ | refine T_exit rfl ?_ | refine T_condV rfl ?_ | refine U_guard rfl rfl ?_ | ((with_reducible refine Gd_skipT ?_ ?_); exact rfl) | ((with_reducible refine Gd_skipF ?_ ?_); exact rfl))
      refine U_indexS E rfl rfl rfl rfl (by omega) (by omega) (by rfl) rfl ?_
      repeat (first | (with_reducible first | apply T_seq | apply T_region | apply U_nil | apply T_skip | apply T_block | apply T_inBlock | apply Cnd_t | apply Cnd_f | apply Cnd_not | apply Cnd_some | apply Cnd_none | apply Gd_nt | apply Gd_nf | apply Gd_some | apply Gd_none | apply Gd_want) | refine U_ar rfl rfl rfl (wrap_k (by simp only [wrapOk]; omega)) rfl ?_ | refine U_cv E rfl rfl rfl (wrap_k (by simp only [wrapOk]; omega)) rfl ?_ | refine U_pure E rfl rfl ?_ | refine T_exit rfl ?_ | refine T_condV rfl ?_ | refine U_guard rfl rfl ?_ | ((with_reducible refine Gd_skipT ?_ ?_); exact rfl) | ((with_reducible refine Gd_skipF ?_ ?_); exact rfl))
      refine U_loadB E hbl rfl rfl rfl g255 rfl ?_
      unfold encB
      repeat (first | (with_reducible first | apply T_seq | apply T_region | apply U_nil | apply T_skip | apply T_block | apply T_inBlock | apply Cnd_t | apply Cnd_f | apply Cnd_not | apply Cnd_some | apply Cnd_none | apply Gd_nt | apply Gd_nf | apply Gd_some | apply Gd_none | apply Gd_want) | refine U_ar rfl rfl rfl (wrap_k (by simp only [wrapOk]; omega)) rfl ?_ | refine U_cv E rfl rfl rfl (wrap_k (by simp only [wrapOk]; omega)) rfl ?_ | refine U_pure E rfl rfl ?_ | refine T_exit rfl ?_ | refine T_condV rfl ?_ | refine U_guard rfl rfl ?_ | ((with_reducible refine Gd_skipT ?_ ?_); exact rfl) | ((with_reducible refine Gd_skipF ?_ ?_); exact rfl))
      refine Cnd_p (fun hy => ?_) (fun hy => ?_)
      · have hne : ¬ (s[0]? = some m ∧ s[255]? = some m) := fun e => by
          rw [e255] at e
          have := Option.some.inj e.2
          rw [this] at hy
          exact hy rfl
        rw [if_neg hne] at hbare
        repeat (first | (with_reducible first | apply T_seq | apply T_region | apply U_nil | apply T_skip | apply T_block | apply T_inBlock | apply Cnd_t | apply Cnd_f | apply Cnd_not | apply Cnd_some | apply Cnd_none | apply Gd_nt | apply Gd_nf | apply Gd_some | apply Gd_none | apply Gd_want) | refine U_ar rfl rfl rfl (wrap_k (by simp only [wrapOk]; omega)) rfl ?_ | refine U_cv E rfl rfl rfl (wrap_k (by simp only [wrapOk]; omega)) rfl ?_ | refine U_pure E rfl rfl ?_ | refine T_exit rfl ?_ | refine T_condV rfl ?_ | refine U_guard rfl rfl ?_ | ((with_reducible refine Gd_skipT ?_ ?_); exact rfl) | ((with_reducible refine Gd_skipF ?_ ?_); exact rfl))
        exact T_ret2 Tryz.func51 rfl rfl rfl ⟨_, rfl, k1, .inl ⟨hbare, rfl⟩⟩
      · have h255m : s[255]'(by omega) = m := UInt8.toNat_inj.1 (by omega)
        rw [if_pos ⟨by rw [e0, h0m], by rw [e255, h255m]⟩] at hbare
        repeat (first | (with_reducible first | apply T_seq | apply T_region | apply U_nil | apply T_skip | apply T_block | apply T_inBlock | apply Gd_nt | apply Gd_nf | apply Gd_some | apply Gd_none | apply Gd_want) | refine U_ar rfl rfl rfl (wrap_k (by simp only [wrapOk]; omega)) rfl ?_ | refine U_cv E rfl rfl rfl (wrap_k (by simp only [wrapOk]; omega)) rfl ?_ | refine U_pure E rfl rfl ?_ | refine T_exit rfl ?_ | refine U_guard rfl rfl ?_ | ((with_reducible refine Gd_skipT ?_ ?_); exact rfl) | ((with_reducible refine Gd_skipF ?_ ?_); exact rfl))
        obtain ⟨rv, hrv, rvf⟩ := bs_part (P := Tryz.prog) (hsl) (1) (255) (by omega) (by omega); refine U_run rfl rfl rfl (ro_slB E rfl rfl rfl rvf (by first | rfl | (simp only [List.length_take, List.length_drop, List.length_append] <;> omega) | (dsimp only; omega) | exact ⟨_, rfl⟩ | exact ⟨_, congrArg (fun z => some (Value.int _ z)) (by omega)⟩) (by first | rfl | (simp only [List.length_take, List.length_drop, List.length_append] <;> omega) | (dsimp only; omega) | exact ⟨_, rfl⟩ | exact ⟨_, congrArg (fun z => some (Value.int _ z)) (by omega)⟩)) ?_
        repeat (first | (with_reducible first | apply T_seq | apply T_region | apply U_nil | apply T_skip | apply T_block | apply T_inBlock | apply Cnd_t | apply Cnd_f | apply Cnd_not | apply Cnd_some | apply Cnd_none | apply Gd_nt | apply Gd_nf | apply Gd_some | apply Gd_none | apply Gd_want) | refine U_ar rfl rfl rfl (wrap_k (by simp only [wrapOk]; omega)) rfl ?_ | refine U_cv E rfl rfl rfl (wrap_k (by simp only [wrapOk]; omega)) rfl ?_ | refine U_pure E rfl rfl ?_ | refine T_exit rfl ?_ | refine T_condV rfl ?_ | refine U_guard rfl rfl ?_ | ((with_reducible refine Gd_skipT ?_ ?_); exact rfl) | ((with_reducible refine Gd_skipF ?_ ?_); exact rfl))
        exact T_ret2 Tryz.func51 rfl rfl rfl ⟨_, rfl, k1, .inr ⟨_, _, hbare, by rw [List.length_take, List.length_drop]; omega, rfl, hrv⟩⟩
  · have hr := read_no w F hb D i h hi
    refine calls_T Tryz.func51 rfl rfl rfl ?_
    unfold ptr at *
    repeat (first | (with_reducible first | apply T_seq | apply T_region | apply U_nil | apply T_skip | apply T_block | apply T_inBlock | apply Cnd_t | apply Cnd_f | apply Cnd_not | apply Cnd_some | apply Cnd_none | apply Gd_nt | apply Gd_nf | apply Gd_some | apply Gd_none | apply Gd_want) | refine U_ar rfl rfl rfl (wrap_k (by simp only [wrapOk]; omega)) rfl ?_ | refine U_cv E rfl rfl rfl (wrap_k (by simp only [wrapOk]; omega)) rfl ?_ | refine U_pure E rfl rfl ?_ | refine T_exit rfl ?_ | refine T_condV rfl ?_ | refine U_guard rfl rfl ?_ | ((with_reducible refine Gd_skipT ?_ ?_); exact rfl) | ((with_reducible refine Gd_skipF ?_ ?_); exact rfl))
    refine U_call rfl rfl (Tryz.call50 _) (hr) ?_
    rintro r w1 ⟨rfl, rfl⟩
    unfold errV
    repeat (first | (with_reducible first | apply T_seq | apply T_region | apply U_nil | apply T_skip | apply T_block | apply T_inBlock | apply Cnd_t | apply Cnd_f | apply Cnd_not | apply Cnd_some | apply Cnd_none | apply Gd_nt | apply Gd_nf | apply Gd_some | apply Gd_none | apply Gd_want) | refine U_ar rfl rfl rfl (wrap_k (by simp only [wrapOk]; omega)) rfl ?_ | refine U_cv E rfl rfl rfl (wrap_k (by simp only [wrapOk]; omega)) rfl ?_ | refine U_pure E rfl rfl ?_ | refine T_exit rfl ?_ | refine T_condV rfl ?_ | refine U_guard rfl rfl ?_ | refine U_guardU rfl rfl rfl ?_ | ((with_reducible refine Gd_skipT ?_ ?_); exact rfl) | ((with_reducible refine Gd_skipF ?_ ?_); exact rfl))
    exact T_ret2 Tryz.func51 rfl rfl rfl ⟨_, rfl, Kept.refl _ _, .inl ⟨by rw [bareD, if_neg (fun e => hi e.1)], rfl⟩⟩

theorem rfits_c (w : World) (G : Nat → Prop) (v : Value) (p : List UInt8) (left : Int) (h : BS w G v p) (hN : p.length ≤ 10000000) :
    Calls Tryz.prog 25 [v, .int .i64 left].toArray w (Ret fun r w' => r = errV (rfErr p.length left) ∧ w' = w) := by
  refine calls_T Tryz.func25 rfl rfl rfl ?_
  obtain ⟨A, c, rfl⟩ := h.len
  repeat (first | (with_reducible first | apply T_seq | apply T_region | apply U_nil | apply T_skip | apply T_block | apply T_inBlock | apply Cnd_t | apply Cnd_f | apply Cnd_not | apply Cnd_some | apply Cnd_none | apply Gd_nt | apply Gd_nf | apply Gd_some | apply Gd_none | apply Gd_want) | refine U_ar rfl rfl rfl (wrap_k (by simp only [wrapOk]; omega)) rfl ?_ | refine U_cv E rfl rfl rfl (wrap_k (by simp only [wrapOk]; omega)) rfl ?_ | refine U_pure E rfl rfl ?_ | refine T_exit rfl ?_ | refine T_condV rfl ?_ | refine U_guard rfl rfl ?_ | ((with_reducible refine Gd_skipT ?_ ?_); exact rfl) | ((with_reducible refine Gd_skipF ?_ ?_); exact rfl))
  refine Cnd_p (fun hl => ?_) (fun hl => ?_)
  · repeat (first | (with_reducible first | apply T_seq | apply T_region | apply U_nil | apply T_skip | apply T_block | apply T_inBlock | apply Cnd_t | apply Cnd_f | apply Cnd_not | apply Cnd_some | apply Cnd_none | apply Gd_nt | apply Gd_nf | apply Gd_some | apply Gd_none | apply Gd_want) | refine U_ar rfl rfl rfl (wrap_k (by simp only [wrapOk]; omega)) rfl ?_ | refine U_cv E rfl rfl rfl (wrap_k (by simp only [wrapOk]; omega)) rfl ?_ | refine U_pure E rfl rfl ?_ | refine T_exit rfl ?_ | refine T_condV rfl ?_ | refine U_guard rfl rfl ?_ | ((with_reducible refine Gd_skipT ?_ ?_); exact rfl) | ((with_reducible refine Gd_skipF ?_ ?_); exact rfl))
    refine T_ret1 Tryz.func25 rfl rfl ⟨_, rfl, ?_, rfl⟩
    rw [rfErr, if_pos (by omega)]
    rfl
  · repeat (first | (with_reducible first | apply T_seq | apply T_region | apply U_nil | apply T_skip | apply T_block | apply T_inBlock | apply Cnd_t | apply Cnd_f | apply Cnd_not | apply Cnd_some | apply Cnd_none | apply Gd_nt | apply Gd_nf | apply Gd_some | apply Gd_none | apply Gd_want) | refine U_ar rfl rfl rfl (wrap_k (by simp only [wrapOk]; omega)) rfl ?_ | refine U_cv E rfl rfl rfl (wrap_k (by simp only [wrapOk]; omega)) rfl ?_ | refine U_pure E rfl rfl ?_ | refine T_exit rfl ?_ | refine T_condV rfl ?_ | refine U_guard rfl rfl ?_ | ((with_reducible refine Gd_skipT ?_ ?_); exact rfl) | ((with_reducible refine Gd_skipF ?_ ?_); exact rfl))
    refine U_call rfl rfl (Tryz.call31 _) (pages_c w p.length hN) ?_
    rintro r w1 ⟨rfl, rfl⟩
    repeat (first | (with_reducible first | apply T_seq | apply T_region | apply U_nil | apply T_skip | apply T_block | apply T_inBlock | apply Cnd_t | apply Cnd_f | apply Cnd_not | apply Cnd_some | apply Cnd_none | apply Gd_nt | apply Gd_nf | apply Gd_some | apply Gd_none | apply Gd_want) | refine U_ar rfl rfl rfl (wrap_k (by simp only [wrapOk]; omega)) rfl ?_ | refine U_cv E rfl rfl rfl (wrap_k (by simp only [wrapOk]; omega)) rfl ?_ | refine U_pure E rfl rfl ?_ | refine T_exit rfl ?_ | refine T_condV rfl ?_ | refine U_guard rfl rfl ?_ | ((with_reducible refine Gd_skipT ?_ ?_); exact rfl) | ((with_reducible refine Gd_skipF ?_ ?_); exact rfl))
    refine Cnd_p (fun hk => ?_) (fun hk => ?_)
    · repeat (first | (with_reducible first | apply T_seq | apply T_region | apply U_nil | apply T_skip | apply T_block | apply T_inBlock | apply Cnd_t | apply Cnd_f | apply Cnd_not | apply Cnd_some | apply Cnd_none | apply Gd_nt | apply Gd_nf | apply Gd_some | apply Gd_none | apply Gd_want) | refine U_ar rfl rfl rfl (wrap_k (by simp only [wrapOk]; omega)) rfl ?_ | refine U_cv E rfl rfl rfl (wrap_k (by simp only [wrapOk]; omega)) rfl ?_ | refine U_pure E rfl rfl ?_ | refine T_exit rfl ?_ | refine T_condV rfl ?_ | refine U_guard rfl rfl ?_ | ((with_reducible refine Gd_skipT ?_ ?_); exact rfl) | ((with_reducible refine Gd_skipF ?_ ?_); exact rfl))
      refine T_ret1 Tryz.func25 rfl rfl ⟨_, rfl, ?_, rfl⟩
      rw [rfErr, if_neg (by omega), if_pos hk]
      rfl
    · repeat (first | (with_reducible first | apply T_seq | apply T_region | apply U_nil | apply T_skip | apply T_block | apply T_inBlock | apply Cnd_t | apply Cnd_f | apply Cnd_not | apply Cnd_some | apply Cnd_none | apply Gd_nt | apply Gd_nf | apply Gd_some | apply Gd_none | apply Gd_want) | refine U_ar rfl rfl rfl (wrap_k (by simp only [wrapOk]; omega)) rfl ?_ | refine U_cv E rfl rfl rfl (wrap_k (by simp only [wrapOk]; omega)) rfl ?_ | refine U_pure E rfl rfl ?_ | refine T_exit rfl ?_ | refine T_condV rfl ?_ | refine U_guard rfl rfl ?_ | ((with_reducible refine Gd_skipT ?_ ?_); exact rfl) | ((with_reducible refine Gd_skipF ?_ ?_); exact rfl))
      refine T_ret1 Tryz.func25 rfl rfl ⟨_, rfl, ?_, rfl⟩
      rw [rfErr, if_neg (by omega), if_neg hk]
      rfl
end Go.Proofs.YtoefhdaenaiomaaGreatDoor

/- Frames: the reference's Frame, Next, Turned. -/
namespace Go.Proofs.YtoefhdaenaiomaaGreatDoor
open Go
set_option maxRecDepth 20000

section
variable {P : Program} {w : World} {m : Fm} {n : Nat} {t ty t2 : TypeId} {ps : String} {af : Array Edge}
theorem ro_ar {bop : BinOp} {x y : Operand} {kd : IntKind} {p q r : Int} (hx : ev m x = some (.int kd p)) (hy : ev m y = some (.int kd q)) (hr : arOp bop p q = some r) (hw : kd.wrap r = r) {dst : Option Tmp} {gd : Option (Nat × Bool)} :
    ∀ a, Fits a n m → (execOp a.eval { dst := dst, op := .binOp bop t x y t2, type := ty, pos := ps, after := af, guard := gd }).run P w = .ok (.value (.int kd r)) w := by
  intro a ha
  simp [execOp, ha.eval hx, ha.eval hy, eqGuard_int, run_ar _ _ _ _ _ hr, hw]
end

theorem rframe_c (w : World) (G : Nat → Prop) (v : Value) (l : List UInt8) (s : Nat) (hs : s < 4294967296) (h : BS w G v l) (hN : l.length ≤ 800000) :
    Calls Tryz.prog 58 [.int .u32 s, v].toArray w (Ret fun r w' => Kept none0 w w' ∧ BS w' (fresh w) r (frm s l)) := by
  refine calls_T Tryz.func58 rfl rfl rfl ?_
  obtain ⟨A, c, rfl⟩ := h.len
  repeat (first | (with_reducible first | apply T_seq | apply T_region | apply U_nil | apply T_skip | apply T_block | apply T_inBlock | apply Cnd_t | apply Cnd_f | apply Cnd_not | apply Cnd_some | apply Cnd_none | apply Gd_nt | apply Gd_nf | apply Gd_some | apply Gd_none | apply Gd_want) | refine U_ar rfl rfl rfl (wrap_k (by simp only [wrapOk]; omega)) rfl ?_ | refine U_cv E rfl rfl rfl (wrap_k (by simp only [wrapOk]; omega)) rfl ?_ | refine U_pure E rfl rfl ?_ | refine T_exit rfl ?_ | refine T_condV rfl ?_ | refine U_guard rfl rfl ?_ | ((with_reducible refine Gd_skipT ?_ ?_); exact rfl) | ((with_reducible refine Gd_skipF ?_ ?_); exact rfl))
  refine U_call rfl rfl (Tryz.call60 _) (rword_c w l.length (by omega)) ?_
  rintro r w1 ⟨b1, rfl, hn1⟩
  repeat (first | (with_reducible first | apply T_seq | apply T_region | apply U_nil | apply T_skip | apply T_block | apply T_inBlock | apply Cnd_t | apply Cnd_f | apply Cnd_not | apply Cnd_some | apply Cnd_none | apply Gd_nt | apply Gd_nf | apply Gd_some | apply Gd_none | apply Gd_want) | refine U_ar rfl rfl rfl (wrap_k (by simp only [wrapOk]; omega)) rfl ?_ | refine U_cv E rfl rfl rfl (wrap_k (by simp only [wrapOk]; omega)) rfl ?_ | refine U_pure E rfl rfl ?_ | refine T_exit rfl ?_ | refine T_condV rfl ?_ | refine U_guard rfl rfl ?_ | ((with_reducible refine Gd_skipT ?_ ?_); exact rfl) | ((with_reducible refine Gd_skipF ?_ ?_); exact rfl))
  refine U_buildSlice (sz := 1) E rfl rfl rfl rfl rfl rfl rfl rfl (segs := [[.slice (some ⟨b1, 0, none⟩) 4 4], [.slice A l.length c]]) rfl (by simp) rfl ?_
  intro b2 w2 hn2
  have hs1 : BS w2 (fun _ => True) (.slice (some ⟨b1, 0, none⟩) 4 4) (le4 l.length) := (hn1.bs (le4_len _) (by decide) _ trivial).mv hn2.kept (fun _ _ _ x => x)
  have k2 : Kept none0 w w2 := hn1.kept.tr hn2.kept (fun _ _ x => x)
  have hl2 : BS w2 (fun _ => True) (.slice A l.length c) l := (h.mv k2 (fun _ _ _ x => x)).mono (fun _ _ _ => trivial)
  have hJ : ([le4 l.length, l] : List (List UInt8)).flatten = le4 l.length ++ l := by simp
  have hjl : (le4 l.length ++ l).length = 4 + l.length := by rw [List.length_append, le4_len]
  have hj := join_c w2 _ _ _ _ [le4 l.length, l] (two_sl hn2.blk) rfl (two_bs hs1 hl2) (by rw [hJ, hjl]; omega)
  rw [hJ] at hj
  refine U_call rfl rfl (Tryz.call32 _) (hj) ?_
  rintro r w3 ⟨k3, hr3⟩
  have k3' : Kept none0 w w3 := k2.tr k3 (fun _ _ x => x)
  have hb3 : BS w3 (fresh w2) r (le4 l.length ++ l) := hr3.sl (by omega)
  clear hr3
  obtain ⟨J, hJe⟩ : ∃ J, le4 l.length ++ l = J := ⟨_, rfl⟩
  rw [hJe] at hb3 hjl
  repeat (first | (with_reducible first | apply T_seq | apply T_region | apply U_nil | apply T_skip | apply T_block | apply T_inBlock | apply Cnd_t | apply Cnd_f | apply Cnd_not | apply Cnd_some | apply Cnd_none | apply Gd_nt | apply Gd_nf | apply Gd_some | apply Gd_none | apply Gd_want) | refine U_ar rfl rfl rfl (wrap_k (by simp only [wrapOk]; omega)) rfl ?_ | refine U_cv E rfl rfl rfl (wrap_k (by simp only [wrapOk]; omega)) rfl ?_ | refine U_pure E rfl rfl ?_ | refine T_exit rfl ?_ | refine T_condV rfl ?_ | refine U_guard rfl rfl ?_ | ((with_reducible refine Gd_skipT ?_ ?_); exact rfl) | ((with_reducible refine Gd_skipF ?_ ?_); exact rfl))
  refine U_call rfl rfl (Tryz.call59 _) (rcheck_c w3 _ r J s hs hb3 (by omega)) ?_
  rintro rs w4 ⟨rfl, k4⟩
  have hck := chk_lt s J
  repeat (first | (with_reducible first | apply T_seq | apply T_region | apply U_nil | apply T_skip | apply T_block | apply T_inBlock | apply Cnd_t | apply Cnd_f | apply Cnd_not | apply Cnd_some | apply Cnd_none | apply Gd_nt | apply Gd_nf | apply Gd_some | apply Gd_none | apply Gd_want) | refine U_ar rfl rfl rfl (wrap_k (by simp only [wrapOk]; omega)) rfl ?_ | refine U_cv E rfl rfl rfl (wrap_k (by simp only [wrapOk]; omega)) rfl ?_ | refine U_pure E rfl rfl ?_ | refine T_exit rfl ?_ | refine T_condV rfl ?_ | refine U_guard rfl rfl ?_ | ((with_reducible refine Gd_skipT ?_ ?_); exact rfl) | ((with_reducible refine Gd_skipF ?_ ?_); exact rfl))
  refine U_call rfl rfl (Tryz.call60 _) (rword_c w4 (chk s J) (by omega)) ?_
  rintro r5 w5 ⟨b5, rfl, hn5⟩
  obtain ⟨A3, c3, rfl⟩ := hb3.len
  repeat (first | (with_reducible first | apply T_seq | apply T_region | apply U_nil | apply T_skip | apply T_block | apply T_inBlock | apply Cnd_t | apply Cnd_f | apply Cnd_not | apply Cnd_some | apply Cnd_none | apply Gd_nt | apply Gd_nf | apply Gd_some | apply Gd_none | apply Gd_want) | refine U_ar rfl rfl rfl (wrap_k (by simp only [wrapOk]; omega)) rfl ?_ | refine U_cv E rfl rfl rfl (wrap_k (by simp only [wrapOk]; omega)) rfl ?_ | refine U_pure E rfl rfl ?_ | refine T_exit rfl ?_ | refine T_condV rfl ?_ | refine U_guard rfl rfl ?_ | ((with_reducible refine Gd_skipT ?_ ?_); exact rfl) | ((with_reducible refine Gd_skipF ?_ ?_); exact rfl))
  refine U_buildSlice (sz := 1) E rfl rfl rfl rfl rfl rfl rfl rfl (segs := [[.slice A3 J.length c3], [.slice (some ⟨b5, 0, none⟩) 4 4]]) rfl (by simp) rfl ?_
  intro b6 w6 hn6
  have hs6 : BS w6 (fun _ => True) (.slice (some ⟨b5, 0, none⟩) 4 4) (le4 (chk s J)) := (hn5.bs (le4_len _) (by decide) _ trivial).mv hn6.kept (fun _ _ _ x => x)
  have k6 : Kept none0 w3 w6 := (k4.tr hn5.kept (fun _ _ x => x)).tr hn6.kept (fun _ _ x => x)
  have hl6 : BS w6 (fun _ => True) (.slice A3 J.length c3) J := (hb3.mv k6 (fun _ _ _ x => x)).mono (fun _ _ _ => trivial)
  have hJ6 : ([J, le4 (chk s J)] : List (List UInt8)).flatten = J ++ le4 (chk s J) := by simp
  have l6 : (J ++ le4 (chk s J)).length = J.length + 4 := by rw [List.length_append, le4_len]
  have hj6 := join_c w6 _ _ _ _ [J, le4 (chk s J)] (two_sl hn6.blk) rfl (two_bs hl6 hs6) (by rw [hJ6, l6]; omega)
  rw [hJ6] at hj6
  refine U_call rfl rfl (Tryz.call32 _) (hj6) ?_
  rintro r w7 ⟨k7, hr7⟩
  have k6' : Kept none0 w w6 := k3'.tr k6 (fun _ _ x => x)
  have s6 := k6'.size
  have hb7 : BS w7 (fresh w) r (J ++ le4 (chk s J)) := (hr7.sl (by omega)).mono (fun j _ hj => Nat.le_trans s6 hj)
  repeat (first | (with_reducible first | apply T_seq | apply T_region | apply U_nil | apply T_skip | apply T_block | apply T_inBlock | apply Cnd_t | apply Cnd_f | apply Cnd_not | apply Cnd_some | apply Cnd_none | apply Gd_nt | apply Gd_nf | apply Gd_some | apply Gd_none | apply Gd_want) | refine U_ar rfl rfl rfl (wrap_k (by simp only [wrapOk]; omega)) rfl ?_ | refine U_cv E rfl rfl rfl (wrap_k (by simp only [wrapOk]; omega)) rfl ?_ | refine U_pure E rfl rfl ?_ | refine T_exit rfl ?_ | refine T_condV rfl ?_ | refine U_guard rfl rfl ?_ | ((with_reducible refine Gd_skipT ?_ ?_); exact rfl) | ((with_reducible refine Gd_skipF ?_ ?_); exact rfl))
  refine T_ret1 Tryz.func58 rfl rfl ⟨_, rfl, k6'.tr k7 (fun _ _ x => x), ?_⟩
  unfold frm
  rw [hJe]
  exact hb7

theorem some_step {l : List UInt8} {i : Nat} (h : i < l.length) (b : Bool) (hb : b = true ↔ ¬ zz (l.take i)) (hf : b = false) : (decide ((0 : Int) < (l[i].toNat : Int)) = true) ↔ ¬ zz (l.take (i + 1)) := by
  subst hf
  have hz : zz (l.take i) := Classical.byContradiction fun e => by have := hb.2 e; cases this
  rw [take_snoc l i h, decide_eq_true_iff]
  constructor
  · intro h0 e
    have := e l[i] (List.mem_append_right _ (List.mem_singleton.2 rfl))
    rw [this] at h0
    exact absurd h0 (by decide)
  · intro h0
    refine Classical.byContradiction fun e => h0 ?_
    intro x hx
    rcases List.mem_append.1 hx with hx | hx
    · exact hz x hx
    · rw [List.mem_singleton.1 hx]
      apply UInt8.toNat_inj.1
      show l[i].toNat = 0
      omega

end Go.Proofs.YtoefhdaenaiomaaGreatDoor

/- Guarded operations in regions of open order; the example of the frames; frames and what is taken out of them. -/
namespace Go.Proofs.YtoefhdaenaiomaaGreatDoor
open Go
set_option maxRecDepth 20000

section
variable {P : Program} {f : FuncId} {R : Ending → World → Prop} {n : Nat} {k : List Item} {m : Fm} {ops : Array Oper} {w : World} {S0 : World → Prop} {d fuel : Nat} {listed : Array Bool}

theorem L_takeG (i : Nat) {o : Oper} {v : Value} {d' j g : Nat} {want : Bool} (hi : ops[i]? = some o) (hs : Region.noSelect ops = true) (hf : Region.free .any ops listed i = true) (hr : (Region.ready .any ops listed).contains i = true)
    (hid : (Nat.beq i d || (decide (d < ops.size) && !waitsB ops i ops.size d)) = false) (hS : S0 w) (hg : o.guard = some (j, want)) (hj : (ops[j]?).bind (·.dst) = some g) (hv : look m g = some (.bool want)) (hdst : o.dst = some d') (hd : Nat.blt d' n = true)
    (hy : ∀ a, Fits a n m → ∀ w', S0 w' → (execOp a.eval o).run P w' = .ok (.value v) w') (h : L P f R n k ops S0 d fuel (listed.setIfInBounds i true) ((d', v) :: m) w) : L P f R n k ops S0 d (fuel + 1) listed m w := by
  intro hcl a ha
  simp only [Bool.or_eq_false_iff] at hid
  have hne : i ≠ d := fun e => by rw [e] at hid; simp at hid
  have hrr : i ∈ Region.ready .any ops listed := by simpa using hr
  have := h (hcl.put hrr) _ (ha.put v hd)
  rw [← hdst] at this
  have hyl : yielded ops a.tmps j = some want := by
    unfold yielded
    rw [hj]
    simp [ha.get g _ hv]
  refine wpAnyL_first (fu := ops.size) hi (Region.noSelect_spec hs) (fun c a w h => by cases h.1) hne (fun hlt => ?_) fuel listed a w hcl (Region.free_spec hi hf) hrr (.inl ⟨by simp [Region.wanted, hg, hyl], hy a ha⟩) hS this
  have h2 := hid.2
  simp only [hlt, decide_true, Bool.true_and, Bool.not_eq_false'] at h2
  exact h2

theorem L_skipG (i : Nat) {o : Oper} {d' j g : Nat} {want b : Bool} (hi : ops[i]? = some o) (hs : Region.noSelect ops = true) (hf : Region.free .any ops listed i = true) (hr : (Region.ready .any ops listed).contains i = true)
    (hid : (Nat.beq i d || (decide (d < ops.size) && !waitsB ops i ops.size d)) = false) (hS : S0 w) (hg : o.guard = some (j, want)) (hj : (ops[j]?).bind (·.dst) = some g) (hv : look m g = some (.bool b)) (hb : (b == want) = false) (hdst : o.dst = some d') (hd : Nat.blt d' n = true)
    (h : L P f R n k ops S0 d fuel (listed.setIfInBounds i true) ((d', undef) :: m) w) : L P f R n k ops S0 d (fuel + 1) listed m w := by
  intro hcl a ha
  simp only [Bool.or_eq_false_iff] at hid
  have hne : i ≠ d := fun e => by rw [e] at hid; simp at hid
  have hrr : i ∈ Region.ready .any ops listed := by simpa using hr
  have := h (hcl.put hrr) _ (ha.put undef hd)
  rw [← hdst] at this
  have hyl : yielded ops a.tmps j = some b := by
    unfold yielded
    rw [hj]
    simp [ha.get g _ hv]
  refine wpAnyL_first (fu := ops.size) hi (Region.noSelect_spec hs) (fun c a w h => by cases h.1) hne (fun hlt => ?_) fuel listed a w hcl (Region.free_spec hi hf) hrr (.inr ⟨?_, rfl⟩) hS this
  · have h2 := hid.2
    simp only [hlt, decide_true, Bool.true_and, Bool.not_eq_false'] at h2
    exact h2
  · simp only [Region.wanted, hg, hyl]
    exact hb

/-- What a slot holds is decided. -/
theorem L_splitB {g : Nat} {p : Bool} (hv : look m g = some (.bool p)) (ht : p = true → L P f R n k ops S0 d fuel listed ((g, .bool true) :: m) w) (hf : p = false → L P f R n k ops S0 d fuel listed ((g, .bool false) :: m) w) : L P f R n k ops S0 d fuel listed m w := by
  have hs : ∀ i v, look ((g, .bool p) :: m) i = some v → look m i = some v := by
    intro i v h
    simp only [look] at h
    cases hgi : Nat.beq g i with
    | true =>
      rw [hgi] at h
      have : g = i := by simpa using hgi
      subst this
      rw [hv]
      exact h
    | false => rw [hgi] at h; exact h
  cases p
  · exact fun hcl a ha => hf rfl hcl a (ha.less hs)
  · exact fun hcl a ha => ht rfl hcl a (ha.less hs)
theorem L_less {m' : Fm} (hs : Sub m' m) (h : L P f R n k ops S0 d fuel listed m' w) : L P f R n k ops S0 d fuel listed m w := fun hcl a ha => h hcl a (ha.less hs.look)

/-- A guarded operation whose guard was left out itself. -/
theorem U_guardU {Z : Act → World → Prop} {rest : List Oper} {d' : Nat} {op : Op} {ty : TypeId} {ps : String} {af : Array Edge} {j g : Nat} {want : Bool} (hj : (ops[j]?).bind (·.dst) = some g) (hv : look m g = some undef) (hd : Nat.blt d' n = true)
    (h : U P n Z ops rest ((d', undef) :: m) w) :
    U P n Z ops ({ dst := some d', op := op, type := ty, pos := ps, after := af, guard := some (j, want) } :: rest) m w := by
  intro a ha
  have hy : yielded ops a.tmps j = none := by
    unfold yielded
    rw [hj]
    simp [ha.get g _ hv, undef]
  unfold wpList
  rw [if_neg (by simp [Region.wanted, hy])]
  exact h _ (ha.put undef hd)
end

theorem chk0 : chk 0 [] = 558161692 := by kernel_rfl
/-! ### What is taken out of a frame -/
theorem frm_val (s : Nat) (p more : List UInt8) (hp : p.length < 4294967296) : val4 (frm s p ++ more) = p.length := by
  rw [frm, List.append_assoc, List.append_assoc, val4_le4_append _ hp]
theorem frm_take (s : Nat) (p more : List UInt8) : (frm s p ++ more).take (p.length + 4) = le4 p.length ++ p := by
  rw [frm, List.append_assoc]
  exact List.take_left' (by rw [List.length_append, le4_len]; omega)
theorem frm_drop (s : Nat) (p more : List UInt8) : (frm s p ++ more).drop (p.length + 4) = le4 (chk s (le4 p.length ++ p)) ++ more := by
  rw [frm, List.append_assoc]
  exact List.drop_left' (by rw [List.length_append, le4_len]; omega)
theorem frm_body (s : Nat) (p more : List UInt8) : ((frm s p ++ more).drop 4).take p.length = p := by
  rw [frm, List.append_assoc, List.append_assoc, List.drop_left' (le4_len _)]
  exact List.take_left' rfl
theorem nErr_frm (s t : Nat) (p more : List UInt8) (hp : p.length ≤ 100000) (hz : ¬ zz (frm s p ++ more)) : nErr t (frm s p ++ more) = if chk s (le4 p.length ++ p) = chk t (le4 p.length ++ p) then 0 else 5 := by
  have hl : (frm s p ++ more).length = p.length + 8 + more.length := by rw [List.length_append, frm_len]
  rw [nErr, if_neg hz, if_neg (by omega), frm_val s p more (by omega), if_neg (by omega), if_neg (by omega), frm_take, frm_drop, val4_append (by rw [le4_len]; decide), val4_le4 _ (chk_lt _ _)]
  by_cases h : chk s (le4 p.length ++ p) = chk t (le4 p.length ++ p)
  · rw [if_pos h, if_neg (by simp [h])]
  · rw [if_neg h, if_pos h]
theorem zz_le4 {n : Nat} (hn : n < 4294967296) (h : zz (le4 n)) : n = 0 := by
  have hv := val4_le4 n hn
  have e : le4 n = [0, 0, 0, 0] := by
    have h0 := h (UInt8.ofNat n) (by simp [le4])
    have h1 := h (UInt8.ofNat (n / 256)) (by simp [le4])
    have h2 := h (UInt8.ofNat (n / 65536)) (by simp [le4])
    have h3 := h (UInt8.ofNat (n / 16777216)) (by simp [le4])
    rw [le4, h0, h1, h2, h3]
  rw [e] at hv
  rw [← hv]
  rfl
theorem zz_app {a b : List UInt8} : zz (a ++ b) ↔ zz a ∧ zz b := by
  constructor
  · intro h
    exact ⟨fun x hx => h x (List.mem_append_left _ hx), fun x hx => h x (List.mem_append_right _ hx)⟩
  · rintro ⟨h1, h2⟩ x hx
    rcases List.mem_append.1 hx with hx | hx
    · exact h1 x hx
    · exact h2 x hx
theorem zz_frm {s : Nat} {p : List UInt8} (hp : p.length < 4294967296) (h : zz (frm s p)) : p = [] ∧ chk s (le4 0) = 0 := by
  rw [frm, zz_app, zz_app] at h
  have h0 := zz_le4 hp h.1.1
  have hpe : p = [] := List.eq_nil_of_length_eq_zero h0
  subst hpe
  refine ⟨rfl, ?_⟩
  have := zz_le4 (chk_lt _ _) h.2
  simpa using this
end Go.Proofs.YtoefhdaenaiomaaGreatDoor

/- The reel: what writes on the drum. -/
namespace Go.Proofs.YtoefhdaenaiomaaGreatDoor
open Go
set_option maxRecDepth 20000

theorem wrDr_l (D : Dr) (i : Int) (p : List UInt8) : (wrDr D i p).l = D.l := by
  unfold wrDr
  split <;> rfl
theorem wrDr_wait (D : Dr) (i : Int) (p : List UInt8) : (wrDr D i p).wait.length ≤ D.wait.length + 1 := by
  unfold wrDr
  split
  · simp
  · omega
theorem flDr_len (D : Dr) : (flDr D).l.length = D.l.length := by
  unfold flDr
  split
  · rfl
  · exact applyW_len _ _
theorem flDr_wait (D : Dr) : (flDr D).wait.length ≤ D.wait.length := by
  unfold flDr
  split
  · exact Nat.le_refl _
  · exact Nat.zero_le _
theorem base_len {D D' : Dr} (h : D'.l.length = D.l.length) (g : Nat) : base D' g = base D g := by unfold base hsz; rw [h]
theorem hsz_len {D D' : Dr} (h : D'.l.length = D.l.length) : hsz D' = hsz D := by unfold hsz; rw [h]

/-- Sectors from i on, n of them, that aren't clean are noughts: was there one, the error, the drum. -/
def wipeR : Nat → Nat → Bool → Dr → Bool × Nat × Dr
  | 0, _, s, D => (s, 0, D)
  | n + 1, i, s, D => if cleanD D i then wipeR n (i + 1) s D else if wrErr D i [] = 0 then wipeR n (i + 1) true (wrDr D i []) else (true, wrErr D i [], D)

set_option maxHeartbeats 2000000 in
theorem wipe_rc (w : World) (F : Nat → Prop) (hb : Nat) (D : Dr) (at_ n : Nat) (h : Dm w F hb D) (hn : at_ + n ≤ 100000) (hwn : D.wait.length + n < 1000000) :
    Calls Tryz.prog 27 [ptr hb, .int .i64 at_, .int .i64 n].toArray w (Ret fun r w' => r = .tuple #[.bool (wipeR n at_ false D).1, errV (wipeR n at_ false D).2.1] ∧ ∃ F', Own F w F' w' ∧ Dm w' F' hb (wipeR n at_ false D).2.2) := by
  refine calls_T Tryz.func27 rfl rfl rfl ?_
  unfold ptr at *
  repeat (first | (with_reducible first | apply T_seq | apply T_region | apply U_nil | apply T_skip | apply T_block | apply T_inBlock | apply Cnd_t | apply Cnd_f | apply Cnd_not | apply Cnd_some | apply Cnd_none | apply Gd_nt | apply Gd_nf | apply Gd_some | apply Gd_none | apply Gd_want) | refine U_ar rfl rfl rfl (wrap_k (by simp only [wrapOk]; omega)) rfl ?_ | refine U_cv E rfl rfl rfl (wrap_k (by simp only [wrapOk]; omega)) rfl ?_ | refine U_pure E rfl rfl ?_ | refine T_exit rfl ?_ | refine T_condV rfl ?_ | refine U_guard rfl rfl ?_ | ((with_reducible refine Gd_skipT ?_ ?_); exact rfl) | ((with_reducible refine Gd_skipF ?_ ?_); exact rfl))
  refine T_loop (α := Nat × Bool × Dr × (Nat → Prop) × World) (fun x => [(9, .int .i64 (at_ + x.1 : Nat)), (8, .bool x.2.1), (0, .pointer (some ⟨hb, 0, none⟩)), (1, .int .i64 at_), (2, .int .i64 n)]) (fun x => x.2.2.2.2) (fun x => n - x.1)
    (fun x => x.1 ≤ n ∧ x.2.2.1.wait.length ≤ D.wait.length + x.1 ∧ Own F w x.2.2.2.1 x.2.2.2.2 ∧ Dm x.2.2.2.2 x.2.2.2.1 hb x.2.2.1 ∧ wipeR (n - x.1) (at_ + x.1) x.2.1 x.2.2.1 = wipeR n at_ false D) (0, false, D, F, w) ⟨Nat.zero_le _, Nat.le_refl _, Own.refl h.lt, h, rfl⟩ ⟨rfl, rfl, rfl, rfl, rfl, trivial⟩ rfl ?_
  rintro ⟨k, s, D1, F1, w1⟩ ⟨hk, hw1, o1, h1, he⟩ ih
  dsimp only at hk hw1 o1 h1 he ⊢
  repeat (first | (with_reducible first | apply T_seq | apply T_region | apply U_nil | apply T_skip | apply T_block | apply T_inBlock | apply Cnd_t | apply Cnd_f | apply Cnd_not | apply Cnd_some | apply Cnd_none | apply Gd_nt | apply Gd_nf | apply Gd_some | apply Gd_none | apply Gd_want) | refine U_ar rfl rfl rfl (wrap_k (by simp only [wrapOk]; omega)) rfl ?_ | refine U_cv E rfl rfl rfl (wrap_k (by simp only [wrapOk]; omega)) rfl ?_ | refine U_pure E rfl rfl ?_ | refine T_exit rfl ?_ | refine T_condV rfl ?_ | refine U_guard rfl rfl ?_ | ((with_reducible refine Gd_skipT ?_ ?_); exact rfl) | ((with_reducible refine Gd_skipF ?_ ?_); exact rfl))
  refine Cnd_p (fun hlt => ?_) (fun hlt => ?_)
  · have hlt' : k < n := by omega
    have he2 : wipeR (n - (k + 1) + 1) (at_ + k) s D1 = wipeR n at_ false D := by rw [← he]; congr 1; omega
    have hcl := clean_c w1 F1 hb D1 ((at_ + k : Nat) : Int) h1.isD
    unfold ptr at *
    repeat (first | (with_reducible first | apply T_seq | apply T_region | apply U_nil | apply T_skip | apply T_block | apply T_inBlock | apply Cnd_t | apply Cnd_f | apply Cnd_not | apply Cnd_some | apply Cnd_none | apply Gd_nt | apply Gd_nf | apply Gd_some | apply Gd_none | apply Gd_want) | refine U_ar rfl rfl rfl (wrap_k (by simp only [wrapOk]; omega)) rfl ?_ | refine U_cv E rfl rfl rfl (wrap_k (by simp only [wrapOk]; omega)) rfl ?_ | refine U_pure E rfl rfl ?_ | refine T_exit rfl ?_ | refine T_condV rfl ?_ | refine U_guard rfl rfl ?_ | ((with_reducible refine Gd_skipT ?_ ?_); exact rfl) | ((with_reducible refine Gd_skipF ?_ ?_); exact rfl))
    refine U_call rfl rfl (Tryz.call37 _) (hcl) ?_
    rintro r w2 ⟨rfl, k2⟩
    have h2 := h1.same k2
    have o2 := o1.then0 k2
    repeat (first | (with_reducible first | apply T_seq | apply T_region | apply U_nil | apply T_skip | apply T_block | apply T_inBlock | apply Cnd_t | apply Cnd_f | apply Cnd_not | apply Cnd_some | apply Cnd_none | apply Gd_nt | apply Gd_nf | apply Gd_some | apply Gd_none | apply Gd_want) | refine U_ar rfl rfl rfl (wrap_k (by simp only [wrapOk]; omega)) rfl ?_ | refine U_cv E rfl rfl rfl (wrap_k (by simp only [wrapOk]; omega)) rfl ?_ | refine U_pure E rfl rfl ?_ | refine T_exit rfl ?_ | refine T_condV rfl ?_ | refine U_guard rfl rfl ?_ | ((with_reducible refine Gd_skipT ?_ ?_); exact rfl) | ((with_reducible refine Gd_skipF ?_ ?_); exact rfl))
    refine Cnd_p (fun hc => ?_) (fun hc => ?_)
    · rw [wipeR, if_pos hc] at he2
      repeat (first | (with_reducible first | apply T_seq | apply T_region | apply U_nil | apply T_skip | apply T_block | apply T_inBlock | apply Cnd_t | apply Cnd_f | apply Cnd_not | apply Cnd_some | apply Cnd_none | apply Gd_nt | apply Gd_nf | apply Gd_some | apply Gd_none | apply Gd_want) | refine U_ar rfl rfl rfl (wrap_k (by simp only [wrapOk]; omega)) rfl ?_ | refine U_cv E rfl rfl rfl (wrap_k (by simp only [wrapOk]; omega)) rfl ?_ | refine U_pure E rfl rfl ?_ | refine T_exit rfl ?_ | refine T_condV rfl ?_ | refine U_guard rfl rfl ?_ | ((with_reducible refine Gd_skipT ?_ ?_); exact rfl) | ((with_reducible refine Gd_skipF ?_ ?_); exact rfl))
      refine T.less ?_ (ih (k + 1, s, D1, F1, w2) ⟨hlt', by dsimp only; omega, o2, h2, he2⟩ (by dsimp only; omega))
      refine ⟨?_, rfl, rfl, rfl, rfl, trivial⟩
      exact congrArg (fun z => some (Value.int .i64 z)) (by dsimp only; omega)
    · rw [wipeR, if_neg hc] at he2
      have hw := dw_write w2 F1 hb D1 (.slice none 0 0) [] ((at_ + k : Nat) : Int) h2 (sl_nil _ _) (by omega)
      unfold ptr at *
      repeat (first | (with_reducible first | apply T_seq | apply T_region | apply U_nil | apply T_skip | apply T_block | apply T_inBlock | apply Cnd_t | apply Cnd_f | apply Cnd_not | apply Cnd_some | apply Cnd_none | apply Gd_nt | apply Gd_nf | apply Gd_some | apply Gd_none | apply Gd_want) | refine U_ar rfl rfl rfl (wrap_k (by simp only [wrapOk]; omega)) rfl ?_ | refine U_cv E rfl rfl rfl (wrap_k (by simp only [wrapOk]; omega)) rfl ?_ | refine U_pure E rfl rfl ?_ | refine T_exit rfl ?_ | refine T_condV rfl ?_ | refine U_guard rfl rfl ?_ | ((with_reducible refine Gd_skipT ?_ ?_); exact rfl) | ((with_reducible refine Gd_skipF ?_ ?_); exact rfl))
      refine U_call rfl rfl (Tryz.call42 _) (hw) ?_
      rintro r w3 ⟨rfl, F3, o3, h3⟩
      have o3' := o2.tr o3
      by_cases h0 : wrErr D1 ((at_ + k : Nat) : Int) [] = 0
      · rw [if_pos h0] at he2
        rw [h0]
        unfold errV
        have hwl := wrDr_wait D1 ((at_ + k : Nat) : Int) []
        repeat (first | (with_reducible first | apply T_seq | apply T_region | apply U_nil | apply T_skip | apply T_block | apply T_inBlock | apply Cnd_t | apply Cnd_f | apply Cnd_not | apply Cnd_some | apply Cnd_none | apply Gd_nt | apply Gd_nf | apply Gd_some | apply Gd_none | apply Gd_want) | refine U_ar rfl rfl rfl (wrap_k (by simp only [wrapOk]; omega)) rfl ?_ | refine U_cv E rfl rfl rfl (wrap_k (by simp only [wrapOk]; omega)) rfl ?_ | refine U_pure E rfl rfl ?_ | refine T_exit rfl ?_ | refine T_condV rfl ?_ | refine U_guard rfl rfl ?_ | ((with_reducible refine Gd_skipT ?_ ?_); exact rfl) | ((with_reducible refine Gd_skipF ?_ ?_); exact rfl))
        refine T.less ?_ (ih (k + 1, true, wrDr D1 ((at_ + k : Nat) : Int) [], F3, w3) ⟨hlt', by dsimp only; omega, o3', h3, he2⟩ (by dsimp only; omega))
        refine ⟨?_, rfl, rfl, rfl, rfl, trivial⟩
        exact congrArg (fun z => some (Value.int .i64 z)) (by dsimp only; omega)
      · rw [if_neg h0] at he2
        have hD3 : wrDr D1 ((at_ + k : Nat) : Int) [] = D1 := by rw [wrDr, if_neg h0]
        rw [hD3] at h3
        obtain ⟨j, hj, hje⟩ := errV_ne h0
        rw [hje]
        repeat (first | (with_reducible first | apply T_seq | apply T_region | apply U_nil | apply T_skip | apply T_block | apply T_inBlock | apply Cnd_t | apply Cnd_f | apply Cnd_not | apply Cnd_some | apply Cnd_none | apply Gd_nt | apply Gd_nf | apply Gd_some | apply Gd_none | apply Gd_want) | refine U_ar rfl rfl rfl (wrap_k (by simp only [wrapOk]; omega)) rfl ?_ | refine U_cv E rfl rfl rfl (wrap_k (by simp only [wrapOk]; omega)) rfl ?_ | refine U_pure E rfl rfl ?_ | refine T_exit rfl ?_ | refine T_condV rfl ?_ | refine U_guard rfl rfl ?_ | ((with_reducible refine Gd_skipT ?_ ?_); exact rfl) | ((with_reducible refine Gd_skipF ?_ ?_); exact rfl))
        refine T_ret2 Tryz.func27 rfl rfl rfl ⟨_, rfl, ?_, F3, o3', ?_⟩
        · rw [← he2]
          dsimp only
          rw [hje]
        · rw [← he2]
          exact h3
  · have : k = n := by omega
    subst this
    rw [Nat.sub_self, wipeR] at he
    repeat (first | (with_reducible first | apply T_seq | apply T_region | apply U_nil | apply T_skip | apply T_block | apply T_inBlock | apply Cnd_t | apply Cnd_f | apply Cnd_not | apply Cnd_some | apply Cnd_none | apply Gd_nt | apply Gd_nf | apply Gd_some | apply Gd_none | apply Gd_want) | refine U_ar rfl rfl rfl (wrap_k (by simp only [wrapOk]; omega)) rfl ?_ | refine U_cv E rfl rfl rfl (wrap_k (by simp only [wrapOk]; omega)) rfl ?_ | refine U_pure E rfl rfl ?_ | refine T_exit rfl ?_ | refine T_condV rfl ?_ | refine U_guard rfl rfl ?_ | ((with_reducible refine Gd_skipT ?_ ?_); exact rfl) | ((with_reducible refine Gd_skipF ?_ ?_); exact rfl))
    refine T_ret2 Tryz.func27 rfl rfl rfl ⟨_, rfl, ?_, F1, o1, ?_⟩
    · rw [← he]
      rfl
    · rw [← he]
      exact h1

/-- A frame's sectors from pos on: the error, the drum. -/
def putR : Nat → Nat → List UInt8 → Dr → Nat × Dr
  | 0, _, _, D => (0, D)
  | n + 1, pos, f, D => if f = [] then (0, D) else if wrErr D pos (mrk 165 (f.take 254)) = 0 then putR n (pos + 1) (f.drop 254) (wrDr D pos (mrk 165 (f.take 254))) else (wrErr D pos (mrk 165 (f.take 254)), D)
def putF (D : Dr) (g at_ i : Nat) (p : List UInt8) : Nat × Dr := putR (p.length + 8) (base D g + at_) (frm (sdr g i) p) D

theorem sdr_lt (g i : Nat) : sdr g i < 4294967296 := chk_lt _ _

set_option maxHeartbeats 2000000 in
theorem put_rc (w : World) (F : Nat → Prop) (hb : Nat) (D : Dr) (g at_ i : Nat) (v : Value) (p : List UInt8) (h : Dm w F hb D) (hl : 2 ≤ D.l.length) (hg : g < 4294967296) (hi : i < 4294967296) (hat : at_ ≤ 100000) (hp : BS w (fun b => ¬ F b) v p) (hpl : p.length ≤ 100000) (hwn : D.wait.length + 200000 < 1000000) :
    Calls Tryz.prog 40 [ptr hb, .int .u32 g, .int .i64 at_, .int .i64 i, v].toArray w (Ret fun r w' => r = errV (putF D g at_ i p).1 ∧ ∃ F', Own F w F' w' ∧ Dm w' F' hb (putF D g at_ i p).2) := by
  have hn2 := h.isD.1.n2
  refine calls_T Tryz.func40 rfl rfl rfl ?_
  unfold ptr at *
  repeat (first | (with_reducible first | apply T_seq | apply T_region | apply U_nil | apply T_skip | apply T_block | apply T_inBlock | apply Cnd_t | apply Cnd_f | apply Cnd_not | apply Cnd_some | apply Cnd_none | apply Gd_nt | apply Gd_nf | apply Gd_some | apply Gd_none | apply Gd_want) | refine U_ar rfl rfl rfl (wrap_k (by simp only [wrapOk]; omega)) rfl ?_ | refine U_cv E rfl rfl rfl (wrap_k (by simp only [wrapOk]; omega)) rfl ?_ | refine U_pure E rfl rfl ?_ | refine T_exit rfl ?_ | refine T_condV rfl ?_ | refine U_guard rfl rfl ?_ | ((with_reducible refine Gd_skipT ?_ ?_); exact rfl) | ((with_reducible refine Gd_skipF ?_ ?_); exact rfl))
  refine U_call rfl rfl (Tryz.call55 _) (seed_rc w g i hg hi) ?_
  rintro r w1 ⟨rfl, k1⟩
  repeat (first | (with_reducible first | apply T_seq | apply T_region | apply U_nil | apply T_skip | apply T_block | apply T_inBlock | apply Cnd_t | apply Cnd_f | apply Cnd_not | apply Cnd_some | apply Cnd_none | apply Gd_nt | apply Gd_nf | apply Gd_some | apply Gd_none | apply Gd_want) | refine U_ar rfl rfl rfl (wrap_k (by simp only [wrapOk]; omega)) rfl ?_ | refine U_cv E rfl rfl rfl (wrap_k (by simp only [wrapOk]; omega)) rfl ?_ | refine U_pure E rfl rfl ?_ | refine T_exit rfl ?_ | refine T_condV rfl ?_ | refine U_guard rfl rfl ?_ | ((with_reducible refine Gd_skipT ?_ ?_); exact rfl) | ((with_reducible refine Gd_skipF ?_ ?_); exact rfl))
  refine U_call rfl rfl (Tryz.call56 _) (frame_c w1 _ v p _ (sdr_lt g i) (hp.mv k1 (fun _ _ _ x => x)) (by omega)) ?_
  rintro vf w2 ⟨k2, hf2⟩
  have k2' : Kept none0 w w2 := k1.tr k2 (fun _ _ x => x)
  have o2 : Own F w F w2 := Own.same h.lt k2'
  have h2 := h.same k2'
  have lf := frm_len (sdr g i) p
  have s1 := k1.size
  have hf2 : BS w2 (fun b => ¬ F b) vf (frm (sdr g i) p) := hf2.mono (fun b _ hx e => by have := h.lt b e; simp only [fresh] at hx; omega)
  have hput : putR (p.length + 8) (base D g + at_) (frm (sdr g i) p) D = putF D g at_ i p := rfl
  obtain ⟨Q, hQ⟩ : ∃ Q, putF D g at_ i p = Q := ⟨_, rfl⟩
  rw [hQ] at hput ⊢
  have hz : base D g ≤ 20000 := by
    unfold base hsz
    have : g % 2 * ((D.l.length - 2) / 2) ≤ 1 * 8192 := Nat.mul_le_mul (by omega) (by omega)
    omega
  repeat (first | (with_reducible first | apply T_seq | apply T_region | apply U_nil | apply T_skip | apply T_block | apply T_inBlock | apply Cnd_t | apply Cnd_f | apply Cnd_not | apply Cnd_some | apply Cnd_none | apply Gd_nt | apply Gd_nf | apply Gd_some | apply Gd_none | apply Gd_want) | refine U_ar rfl rfl rfl (wrap_k (by simp only [wrapOk]; omega)) rfl ?_ | refine U_cv E rfl rfl rfl (wrap_k (by simp only [wrapOk]; omega)) rfl ?_ | refine U_pure E rfl rfl ?_ | refine T_exit rfl ?_ | refine T_condV rfl ?_ | refine U_guard rfl rfl ?_ | ((with_reducible refine Gd_skipT ?_ ?_); exact rfl) | ((with_reducible refine Gd_skipF ?_ ?_); exact rfl))
  refine T_loop (α := Nat × Value × List UInt8 × Dr × (Nat → Prop) × World) (fun x => [(12, .int .i64 x.1), (11, x.2.1), (0, .pointer (some ⟨hb, 0, none⟩)), (1, .int .u32 g), (2, .int .i64 at_)]) (fun x => x.2.2.2.2.2) (fun x => x.2.2.1.length)
    (fun x => x.1 + x.2.2.1.length ≤ p.length + 8 ∧ x.2.2.2.1.wait.length ≤ D.wait.length + x.1 ∧ x.2.2.2.1.l.length = D.l.length ∧ Own F w x.2.2.2.2.1 x.2.2.2.2.2 ∧ Dm x.2.2.2.2.2 x.2.2.2.2.1 hb x.2.2.2.1 ∧ BS x.2.2.2.2.2 (fun b => ¬ x.2.2.2.2.1 b) x.2.1 x.2.2.1 ∧
      ∃ N, x.2.2.1.length ≤ N ∧ putR N (base D g + at_ + x.1) x.2.2.1 x.2.2.2.1 = Q) (0, vf, frm (sdr g i) p, D, F, w2) ⟨by dsimp only; omega, Nat.le_refl _, rfl, o2, h2, hf2, _, by dsimp only; omega, hput⟩ ⟨rfl, rfl, rfl, rfl, rfl, trivial⟩ rfl ?_
  rintro ⟨k, vf, f, D1, F1, w3⟩ ⟨hk, hw1, hl1, o3, h3, hf3, N, hN, he⟩ ih
  dsimp only at hk hw1 hl1 o3 h3 hf3 hN he ⊢
  obtain ⟨A, c, rfl⟩ := hf3.len
  repeat (first | (with_reducible first | apply T_seq | apply T_region | apply U_nil | apply T_skip | apply T_block | apply T_inBlock | apply Cnd_t | apply Cnd_f | apply Cnd_not | apply Cnd_some | apply Cnd_none | apply Gd_nt | apply Gd_nf | apply Gd_some | apply Gd_none | apply Gd_want) | refine U_ar rfl rfl rfl (wrap_k (by simp only [wrapOk]; omega)) rfl ?_ | refine U_cv E rfl rfl rfl (wrap_k (by simp only [wrapOk]; omega)) rfl ?_ | refine U_pure E rfl rfl ?_ | refine T_exit rfl ?_ | refine T_condV rfl ?_ | refine U_guard rfl rfl ?_ | ((with_reducible refine Gd_skipT ?_ ?_); exact rfl) | ((with_reducible refine Gd_skipF ?_ ?_); exact rfl))
  refine Cnd_p (fun hlt => ?_) (fun hlt => ?_)
  · have hf0 : 0 < f.length := by omega
    have hfn : f ≠ [] := fun e => by rw [e] at hf0; exact absurd hf0 (by decide)
    obtain ⟨N, rfl⟩ : ∃ M, N = M + 1 := ⟨N - 1, by omega⟩
    rw [putR, if_neg hfn] at he
    obtain ⟨C, hC⟩ : ∃ C, min f.length 254 = C := ⟨_, rfl⟩
    have ht : f.take 254 = f.take C := by
      by_cases hx : f.length ≤ 254
      · rw [List.take_of_length_le hx, List.take_of_length_le (by omega)]
      · rw [show C = 254 by omega]
    have hdr : f.drop 254 = f.drop C := by
      by_cases hx : f.length ≤ 254
      · rw [List.drop_of_length_le hx, List.drop_of_length_le (by omega)]
      · rw [show C = 254 by omega]
    rw [ht, hdr] at he
    repeat (first | (with_reducible first | apply T_seq | apply T_region | apply U_nil | apply T_skip | apply T_block | apply T_inBlock | apply Cnd_t | apply Cnd_f | apply Cnd_not | apply Cnd_some | apply Cnd_none | apply Gd_nt | apply Gd_nf | apply Gd_some | apply Gd_none | apply Gd_want) | refine U_ar rfl rfl rfl (wrap_k (by simp only [wrapOk]; omega)) rfl ?_ | refine U_cv E rfl rfl rfl (wrap_k (by simp only [wrapOk]; omega)) rfl ?_ | refine U_pure E rfl rfl ?_ | refine T_exit rfl ?_ | refine T_condV rfl ?_ | refine U_guard rfl rfl ?_ | ((with_reducible refine Gd_skipT ?_ ?_); exact rfl) | ((with_reducible refine Gd_skipF ?_ ?_); exact rfl))
    refine U_run rfl rfl rfl (ro_min (r := (C : Int)) rfl rfl (by split <;> omega)) ?_
    repeat (first | (with_reducible first | apply T_seq | apply T_region | apply U_nil | apply T_skip | apply T_block | apply T_inBlock | apply Cnd_t | apply Cnd_f | apply Cnd_not | apply Cnd_some | apply Cnd_none | apply Gd_nt | apply Gd_nf | apply Gd_some | apply Gd_none | apply Gd_want) | refine U_ar rfl rfl rfl (wrap_k (by simp only [wrapOk]; omega)) rfl ?_ | refine U_cv E rfl rfl rfl (wrap_k (by simp only [wrapOk]; omega)) rfl ?_ | refine U_pure E rfl rfl ?_ | refine T_exit rfl ?_ | refine T_condV rfl ?_ | refine U_guard rfl rfl ?_ | ((with_reducible refine Gd_skipT ?_ ?_); exact rfl) | ((with_reducible refine Gd_skipF ?_ ?_); exact rfl))
    obtain ⟨rs, hs3, fs⟩ := bs_part (P := Tryz.prog) hf3 0 C (by omega) (by omega)
    rw [List.drop_zero, Nat.sub_zero] at hs3
    refine L_begin (fun _ => True) 14 (by kernel_rfl) (N := 14) rfl (fun w4 hd4 => ?_)
    have h4 := h3.same (hd4.kept none0)
    have hfr := from_rc w4 F1 hb D1 g h4.isD (by omega) hg
    rw [base_len hl1] at hfr
    unfold ptr at *
    refine L_take 0 rfl (by kernel_rfl) (by kernel_rfl) (by kernel_rfl) (by kernel_rfl) trivial rfl rfl rfl (fun a ha w' _ => run_pv E ha rfl _ _ _ _ _) ?_; refine L_take 1 rfl (by kernel_rfl) (by kernel_rfl) (by kernel_rfl) (by kernel_rfl) trivial rfl rfl rfl (fun a ha w' _ => run_pv E ha rfl _ _ _ _ _) ?_; refine L_take 2 rfl (by kernel_rfl) (by kernel_rfl) (by kernel_rfl) (by kernel_rfl) trivial rfl rfl rfl (fun a ha w' _ => run_pv E ha rfl _ _ _ _ _) ?_; refine L_take 4 rfl (by kernel_rfl) (by kernel_rfl) (by kernel_rfl) (by kernel_rfl) trivial rfl rfl rfl (fun a ha w' _ => run_pv E ha rfl _ _ _ _ _) ?_; refine L_take 6 rfl (by kernel_rfl) (by kernel_rfl) (by kernel_rfl) (by kernel_rfl) trivial rfl rfl rfl (fun a ha w' _ => run_pv E ha rfl _ _ _ _ _) ?_; refine L_take 8 rfl (by kernel_rfl) (by kernel_rfl) (by kernel_rfl) (by kernel_rfl) trivial rfl rfl rfl (fun a ha w' _ => run_pv E ha rfl _ _ _ _ _) ?_; refine L_take 9 rfl (by kernel_rfl) (by kernel_rfl) (by kernel_rfl) (by kernel_rfl) trivial rfl rfl rfl (fun a ha w' _ => run_pv E ha rfl _ _ _ _ _) ?_
    refine L_take 10 rfl (by kernel_rfl) (by kernel_rfl) (by kernel_rfl) (by kernel_rfl) trivial rfl rfl rfl (fun a ha w' _ => ro_slB E rfl rfl rfl fs (by first | rfl | (simp only [List.length_take, List.length_drop, List.length_append] <;> omega) | (dsimp only; omega) | exact ⟨_, rfl⟩ | exact ⟨_, congrArg (fun z => some (Value.int _ z)) (by omega)⟩) (by first | rfl | (simp only [List.length_take, List.length_drop, List.length_append] <;> omega) | (dsimp only; omega) | exact ⟨_, rfl⟩ | exact ⟨_, congrArg (fun z => some (Value.int _ z)) (by omega)⟩) a ha) ?_
    refine L_op 3 (by kernel_rfl) rfl (fun hc => ?_)
    refine U_call rfl rfl (Tryz.call33 _) (hfr) ?_
    rintro r w5 ⟨rfl, rfl⟩
    refine U_nilL hc (fun _ => trivial) ?_
    refine L_take 5 rfl (by kernel_rfl) (by kernel_rfl) (by kernel_rfl) (by kernel_rfl) trivial rfl rfl rfl (fun a ha w' _ => ro_ar rfl rfl rfl (wrap_k (by simp only [wrapOk]; omega)) a ha) ?_
    refine L_take 7 rfl (by kernel_rfl) (by kernel_rfl) (by kernel_rfl) (by kernel_rfl) trivial rfl rfl rfl (fun a ha w' _ => ro_ar rfl rfl rfl (wrap_k (by simp only [wrapOk]; omega)) a ha) ?_
    refine L_op 11 (by kernel_rfl) rfl (fun hc => ?_)
    have hs4 := hs3.mv (hd4.kept none0) (fun _ _ _ x => x)
    have hmk := marked_rc w5 _ 165 rs (f.take C) hs4 (by rw [List.length_take]; omega)
    unfold encB at hmk
    refine U_call rfl rfl (Tryz.call57 _) (hmk) ?_
    rintro rm w6 ⟨k6, hm6⟩
    refine U_nilL hc (fun _ => trivial) ?_
    have k36 : Kept none0 w3 w6 := (hd4.kept none0).tr k6 (fun _ _ x => x)
    have h6 := h3.same k36
    have hm6' : BS w6 (fun b => ¬ F1 b) rm (mrk 165 (f.take C)) := hm6.mono (fun b _ hx e => by have := h4.lt b e; simp only [fresh] at hx; omega)
    obtain ⟨pos, hpos⟩ : ∃ pos, base D g + at_ + k = pos := ⟨_, rfl⟩
    have hw := dw_write w6 F1 hb D1 rm _ (pos : Int) h6 hm6' (by omega)
    rw [hpos] at he
    unfold ptr at *
    rw [show (base D g : Int) + (at_ : Int) + (k : Int) = (pos : Int) by omega]
    refine L_op 12 (by kernel_rfl) rfl (fun hc => ?_)
    refine U_call rfl rfl (Tryz.call42 _) (hw) ?_
    rintro r w7 ⟨rfl, F7, o7, h7⟩
    have o7' : Own F w F7 w7 := (o3.then0 k36).tr o7
    refine U_nilL hc (fun _ => trivial) ?_
    refine L_take 13 rfl (by kernel_rfl) (by kernel_rfl) (by kernel_rfl) (by kernel_rfl) trivial rfl rfl rfl (fun a ha w' _ => run_pv E ha rfl _ _ _ _ _) ?_
    refine L_done (by kernel_rfl) ?_
    have hf7 := o7.sl (hf3.mv k36 (fun _ _ _ x => x))
    by_cases h0 : wrErr D1 (pos : Int) (mrk 165 (f.take C)) = 0
    · rw [if_pos h0] at he
      rw [h0]
      unfold errV
      have hwl := wrDr_wait D1 (pos : Int) (mrk 165 (f.take C))
      have hll := wrDr_l D1 (pos : Int) (mrk 165 (f.take C))
      repeat (first | (with_reducible first | apply T_seq | apply T_region | apply U_nil | apply T_skip | apply T_block | apply T_inBlock | apply Cnd_t | apply Cnd_f | apply Cnd_not | apply Cnd_some | apply Cnd_none | apply Gd_nt | apply Gd_nf | apply Gd_some | apply Gd_none | apply Gd_want) | refine U_ar rfl rfl rfl (wrap_k (by simp only [wrapOk]; omega)) rfl ?_ | refine U_cv E rfl rfl rfl (wrap_k (by simp only [wrapOk]; omega)) rfl ?_ | refine U_pure E rfl rfl ?_ | refine T_exit rfl ?_ | refine T_condV rfl ?_ | refine U_guard rfl rfl ?_ | ((with_reducible refine Gd_skipT ?_ ?_); exact rfl) | ((with_reducible refine Gd_skipF ?_ ?_); exact rfl))
      obtain ⟨rd, hrd, rdf⟩ := bs_part (P := Tryz.prog) (hf7) (C) (f.length) (by omega) (by omega); refine U_run rfl rfl rfl (ro_slB E rfl rfl rfl rdf (by first | rfl | (simp only [List.length_take, List.length_drop, List.length_append] <;> omega) | (dsimp only; omega) | exact ⟨_, rfl⟩ | exact ⟨_, congrArg (fun z => some (Value.int _ z)) (by omega)⟩) (by first | rfl | (simp only [List.length_take, List.length_drop, List.length_append] <;> omega) | (dsimp only; omega) | exact ⟨_, rfl⟩ | exact ⟨_, congrArg (fun z => some (Value.int _ z)) (by omega)⟩)) ?_
      rw [List.take_of_length_le (by rw [List.length_drop]; omega)] at hrd
      repeat (first | (with_reducible first | apply T_seq | apply T_region | apply U_nil | apply T_skip | apply T_block | apply T_inBlock | apply Cnd_t | apply Cnd_f | apply Cnd_not | apply Cnd_some | apply Cnd_none | apply Gd_nt | apply Gd_nf | apply Gd_some | apply Gd_none | apply Gd_want) | refine U_ar rfl rfl rfl (wrap_k (by simp only [wrapOk]; omega)) rfl ?_ | refine U_cv E rfl rfl rfl (wrap_k (by simp only [wrapOk]; omega)) rfl ?_ | refine U_pure E rfl rfl ?_ | refine T_exit rfl ?_ | refine T_condV rfl ?_ | refine U_guard rfl rfl ?_ | ((with_reducible refine Gd_skipT ?_ ?_); exact rfl) | ((with_reducible refine Gd_skipF ?_ ?_); exact rfl))
      refine T.less ?_ (ih (k + 1, rd, f.drop C, wrDr D1 (pos : Int) (mrk 165 (f.take C)), F7, w7) ⟨?_, by dsimp only; omega, by dsimp only; rw [hll]; exact hl1, o7', h7, hrd, N, ?_, ?_⟩ ?_)
      · exact ⟨rfl, rfl, rfl, rfl, rfl, trivial⟩
      · dsimp only
        rw [List.length_drop]
        omega
      · dsimp only
        rw [List.length_drop]
        omega
      · dsimp only
        rw [show base D g + at_ + (k + 1) = pos + 1 by omega]
        exact he
      · dsimp only
        rw [List.length_drop]
        omega
    · rw [if_neg h0] at he
      have hD7 : wrDr D1 (pos : Int) (mrk 165 (f.take C)) = D1 := by rw [wrDr, if_neg h0]
      rw [hD7] at h7
      obtain ⟨j, hj, hje⟩ := errV_ne h0
      rw [hje]
      repeat (first | (with_reducible first | apply T_seq | apply T_region | apply U_nil | apply T_skip | apply T_block | apply T_inBlock | apply Cnd_t | apply Cnd_f | apply Cnd_not | apply Cnd_some | apply Cnd_none | apply Gd_nt | apply Gd_nf | apply Gd_some | apply Gd_none | apply Gd_want) | refine U_ar rfl rfl rfl (wrap_k (by simp only [wrapOk]; omega)) rfl ?_ | refine U_cv E rfl rfl rfl (wrap_k (by simp only [wrapOk]; omega)) rfl ?_ | refine U_pure E rfl rfl ?_ | refine T_exit rfl ?_ | refine T_condV rfl ?_ | refine U_guard rfl rfl ?_ | ((with_reducible refine Gd_skipT ?_ ?_); exact rfl) | ((with_reducible refine Gd_skipF ?_ ?_); exact rfl))
      refine T_ret1 Tryz.func40 rfl rfl ⟨_, rfl, ?_, F7, o7', ?_⟩
      · rw [← he]
        dsimp only
        rw [hje]
      · rw [← he]
        exact h7
  · have hf0 : f = [] := List.eq_nil_of_length_eq_zero (by omega)
    subst hf0
    have he' : (0, D1) = Q := by
      cases N with
      | zero => exact he
      | succ N => rw [putR, if_pos rfl] at he; exact he
    repeat (first | (with_reducible first | apply T_seq | apply T_region | apply U_nil | apply T_skip | apply T_block | apply T_inBlock | apply Cnd_t | apply Cnd_f | apply Cnd_not | apply Cnd_some | apply Cnd_none | apply Gd_nt | apply Gd_nf | apply Gd_some | apply Gd_none | apply Gd_want) | refine U_ar rfl rfl rfl (wrap_k (by simp only [wrapOk]; omega)) rfl ?_ | refine U_cv E rfl rfl rfl (wrap_k (by simp only [wrapOk]; omega)) rfl ?_ | refine U_pure E rfl rfl ?_ | refine T_exit rfl ?_ | refine T_condV rfl ?_ | refine U_guard rfl rfl ?_ | ((with_reducible refine Gd_skipT ?_ ?_); exact rfl) | ((with_reducible refine Gd_skipF ?_ ?_); exact rfl))
    refine T_ret1 Tryz.func40 rfl rfl ⟨_, rfl, ?_, F1, o3, ?_⟩
    · rw [← he']
      rfl
    · rw [← he']
      exact h3
end Go.Proofs.YtoefhdaenaiomaaGreatDoor
