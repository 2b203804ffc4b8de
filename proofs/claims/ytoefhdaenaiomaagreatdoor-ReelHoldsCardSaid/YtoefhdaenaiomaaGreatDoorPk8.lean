/- The reel: heads. -/
import Derived.Test.YtoefhdaenaiomaaGreatDoorPk7
set_option linter.unusedVariables false
set_option linter.unusedSimpArgs false
namespace Go.Proofs.YtoefhdaenaiomaaGreatDoor
open Go
set_option maxRecDepth 20000

def hdm (g : Nat) : UInt8 := UInt8.ofNat (g % 251 + 1)
def hdS (g : Nat) : List UInt8 := mrk (hdm g) (frm 0 (le4 g))
theorem hdm_val (g : Nat) : Value.int IntKind.u8 ((g % 251 + 1 : Nat) : Int) = encB (hdm g) := by
  simp only [encB, hdm]
  rw [UInt8.toNat_ofNat', Nat.mod_eq_of_lt (show g % 251 + 1 < 2 ^ 8 by omega)]
theorem errV0 : errV 0 = .nilIface := rfl

theorem crown_rc (w : World) (F : Nat → Prop) (hb : Nat) (D : Dr) (g : Nat) (h : Dm w F hb D) (hg : g < 4294967296) (hwn : D.wait.length < 1000000) :
    Calls Tryz.prog 44 [ptr hb, .int .u32 g].toArray w (Ret fun r w' => r = errV (wrErr D (g % 2 : Nat) (hdS g)) ∧ ∃ F', Own F w F' w' ∧ Dm w' F' hb (wrDr D (g % 2 : Nat) (hdS g))) := by
  refine calls_T Tryz.func44 rfl rfl rfl ?_
  unfold ptr at *
  repeat (first | (with_reducible first | apply T_seq | apply T_region | apply U_nil | apply T_skip | apply T_block | apply T_inBlock | apply Cnd_t | apply Cnd_f | apply Cnd_not | apply Cnd_some | apply Cnd_none | apply Gd_nt | apply Gd_nf | apply Gd_some | apply Gd_none | apply Gd_want) | refine U_ar rfl rfl rfl (wrap_k (by simp only [wrapOk]; omega)) rfl ?_ | refine U_cv E rfl rfl rfl (wrap_k (by simp only [wrapOk]; omega)) rfl ?_ | refine U_pure E rfl rfl ?_ | refine T_exit rfl ?_ | refine T_condV rfl ?_ | refine U_guard rfl rfl ?_ | ((with_reducible refine Gd_skipT ?_ ?_); exact rfl) | ((with_reducible refine Gd_skipF ?_ ?_); exact rfl))
  refine U_run rfl rfl rfl (ro_bin (r := .int .u32 (g % 2 : Nat)) rfl rfl (by exact run_rem (y := 2) (by decide))) ?_
  repeat (first | (with_reducible first | apply T_seq | apply T_region | apply U_nil | apply T_skip | apply T_block | apply T_inBlock | apply Cnd_t | apply Cnd_f | apply Cnd_not | apply Cnd_some | apply Cnd_none | apply Gd_nt | apply Gd_nf | apply Gd_some | apply Gd_none | apply Gd_want) | refine U_ar rfl rfl rfl (wrap_k (by simp only [wrapOk]; omega)) rfl ?_ | refine U_cv E rfl rfl rfl (wrap_k (by simp only [wrapOk]; omega)) rfl ?_ | refine U_pure E rfl rfl ?_ | refine T_exit rfl ?_ | refine T_condV rfl ?_ | refine U_guard rfl rfl ?_ | ((with_reducible refine Gd_skipT ?_ ?_); exact rfl) | ((with_reducible refine Gd_skipF ?_ ?_); exact rfl))
  refine U_run rfl rfl rfl (ro_bin (r := .int .u32 (g % 251 : Nat)) rfl rfl (by exact run_rem (y := 251) (by decide))) ?_
  repeat (first | (with_reducible first | apply T_seq | apply T_region | apply U_nil | apply T_skip | apply T_block | apply T_inBlock | apply Cnd_t | apply Cnd_f | apply Cnd_not | apply Cnd_some | apply Cnd_none | apply Gd_nt | apply Gd_nf | apply Gd_some | apply Gd_none | apply Gd_want) | refine U_ar rfl rfl rfl (wrap_k (by simp only [wrapOk]; omega)) rfl ?_ | refine U_cv E rfl rfl rfl (wrap_k (by simp only [wrapOk]; omega)) rfl ?_ | refine U_pure E rfl rfl ?_ | refine T_exit rfl ?_ | refine T_condV rfl ?_ | refine U_guard rfl rfl ?_ | ((with_reducible refine Gd_skipT ?_ ?_); exact rfl) | ((with_reducible refine Gd_skipF ?_ ?_); exact rfl))
  rw [show ((g % 251 : Nat) : Int) + 1 = ((g % 251 + 1 : Nat) : Int) by omega, hdm_val]
  refine U_call rfl rfl (Tryz.call62 _) (rword_rc w g hg) ?_
  rintro r w1 ⟨b, rfl, hn⟩
  repeat (first | (with_reducible first | apply T_seq | apply T_region | apply U_nil | apply T_skip | apply T_block | apply T_inBlock | apply Cnd_t | apply Cnd_f | apply Cnd_not | apply Cnd_some | apply Cnd_none | apply Gd_nt | apply Gd_nf | apply Gd_some | apply Gd_none | apply Gd_want) | refine U_ar rfl rfl rfl (wrap_k (by simp only [wrapOk]; omega)) rfl ?_ | refine U_cv E rfl rfl rfl (wrap_k (by simp only [wrapOk]; omega)) rfl ?_ | refine U_pure E rfl rfl ?_ | refine T_exit rfl ?_ | refine T_condV rfl ?_ | refine U_guard rfl rfl ?_ | ((with_reducible refine Gd_skipT ?_ ?_); exact rfl) | ((with_reducible refine Gd_skipF ?_ ?_); exact rfl))
  refine U_call rfl rfl (Tryz.call56 _) (frame_c w1 (fun _ => True) _ (le4 g) 0 (by decide) (hn.bs (le4_len g) (by decide) _ trivial) (by rw [le4_len]; decide)) ?_
  rintro vf w2 ⟨k2, hf2⟩
  repeat (first | (with_reducible first | apply T_seq | apply T_region | apply U_nil | apply T_skip | apply T_block | apply T_inBlock | apply Cnd_t | apply Cnd_f | apply Cnd_not | apply Cnd_some | apply Cnd_none | apply Gd_nt | apply Gd_nf | apply Gd_some | apply Gd_none | apply Gd_want) | refine U_ar rfl rfl rfl (wrap_k (by simp only [wrapOk]; omega)) rfl ?_ | refine U_cv E rfl rfl rfl (wrap_k (by simp only [wrapOk]; omega)) rfl ?_ | refine U_pure E rfl rfl ?_ | refine T_exit rfl ?_ | refine T_condV rfl ?_ | refine U_guard rfl rfl ?_ | ((with_reducible refine Gd_skipT ?_ ?_); exact rfl) | ((with_reducible refine Gd_skipF ?_ ?_); exact rfl))
  refine U_call rfl rfl (Tryz.call57 _) (marked_rc w2 _ (hdm g) vf _ hf2 (by rw [frm_len, le4_len]; decide)) ?_
  rintro vm w3 ⟨k3, hm3⟩
  have k3' : Kept none0 w w3 := (hn.kept.tr k2 (fun _ _ x => x)).tr k3 (fun _ _ x => x)
  have k2' : Kept none0 w w2 := hn.kept.tr k2 (fun _ _ x => x)
  have s2 := k2'.size
  have h3 := h.same k3'
  have hm3' : BS w3 (fun b => ¬ F b) vm (hdS g) := hm3.mono (fun b _ hx e => by have := h.lt b e; simp only [fresh] at hx; omega)
  have hw := dw_write w3 F hb D vm _ ((g % 2 : Nat) : Int) h3 hm3' hwn
  unfold ptr at *
  repeat (first | (with_reducible first | apply T_seq | apply T_region | apply U_nil | apply T_skip | apply T_block | apply T_inBlock | apply Cnd_t | apply Cnd_f | apply Cnd_not | apply Cnd_some | apply Cnd_none | apply Gd_nt | apply Gd_nf | apply Gd_some | apply Gd_none | apply Gd_want) | refine U_ar rfl rfl rfl (wrap_k (by simp only [wrapOk]; omega)) rfl ?_ | refine U_cv E rfl rfl rfl (wrap_k (by simp only [wrapOk]; omega)) rfl ?_ | refine U_pure E rfl rfl ?_ | refine T_exit rfl ?_ | refine T_condV rfl ?_ | refine U_guard rfl rfl ?_ | ((with_reducible refine Gd_skipT ?_ ?_); exact rfl) | ((with_reducible refine Gd_skipF ?_ ?_); exact rfl))
  refine U_call rfl rfl (Tryz.call42 _) (hw) ?_
  rintro r w4 ⟨rfl, F4, o4, h4⟩
  repeat (first | (with_reducible first | apply T_seq | apply T_region | apply U_nil | apply T_skip | apply T_block | apply T_inBlock | apply Cnd_t | apply Cnd_f | apply Cnd_not | apply Cnd_some | apply Cnd_none | apply Gd_nt | apply Gd_nf | apply Gd_some | apply Gd_none | apply Gd_want) | refine U_ar rfl rfl rfl (wrap_k (by simp only [wrapOk]; omega)) rfl ?_ | refine U_cv E rfl rfl rfl (wrap_k (by simp only [wrapOk]; omega)) rfl ?_ | refine U_pure E rfl rfl ?_ | refine T_exit rfl ?_ | refine T_condV rfl ?_ | refine U_guard rfl rfl ?_ | ((with_reducible refine Gd_skipT ?_ ?_); exact rfl) | ((with_reducible refine Gd_skipF ?_ ?_); exact rfl))
  exact T_ret1 Tryz.func44 rfl rfl ⟨_, rfl, rfl, F4, (Own.same h.lt k3').tr o4, h4⟩

/-- A first record, flushed, and then its head, flushed. -/
def begF (D : Dr) (g : Nat) (p : List UInt8) : Nat × Dr :=
  if (putF D g 0 0 p).1 ≠ 0 then putF D g 0 0 p else
  if flErr (putF D g 0 0 p).2 ≠ 0 then (flErr (putF D g 0 0 p).2, flDr (putF D g 0 0 p).2) else
  if wrErr (flDr (putF D g 0 0 p).2) (g % 2 : Nat) (hdS g) ≠ 0 then (wrErr (flDr (putF D g 0 0 p).2) (g % 2 : Nat) (hdS g), wrDr (flDr (putF D g 0 0 p).2) (g % 2 : Nat) (hdS g)) else
  (flErr (wrDr (flDr (putF D g 0 0 p).2) (g % 2 : Nat) (hdS g)), flDr (wrDr (flDr (putF D g 0 0 p).2) (g % 2 : Nat) (hdS g)))

theorem putR_keeps : ∀ (N pos : Nat) (f : List UInt8) (D : Dr), (putR N pos f D).2.l.length = D.l.length ∧ (putR N pos f D).2.wait.length ≤ D.wait.length + N
  | 0, _, _, D => ⟨rfl, Nat.le_refl _⟩
  | N + 1, pos, f, D => by
    rw [putR]
    by_cases h1 : f = []
    · rw [if_pos h1]; exact ⟨rfl, by dsimp only; omega⟩
    · rw [if_neg h1]
      by_cases h2 : wrErr D (pos : Int) (mrk 165 (f.take 254)) = 0
      · rw [if_pos h2]
        have ih := putR_keeps N (pos + 1) (f.drop 254) (wrDr D (pos : Int) (mrk 165 (f.take 254)))
        have := wrDr_wait D (pos : Int) (mrk 165 (f.take 254))
        rw [wrDr_l] at ih
        exact ⟨ih.1, by omega⟩
      · rw [if_neg h2]; exact ⟨rfl, by dsimp only; omega⟩
theorem putF_len (D : Dr) (g at_ i : Nat) (p : List UInt8) : (putF D g at_ i p).2.l.length = D.l.length := (putR_keeps _ _ _ _).1
theorem putF_wait (D : Dr) (g at_ i : Nat) (p : List UInt8) : (putF D g at_ i p).2.wait.length ≤ D.wait.length + (p.length + 8) := (putR_keeps _ _ _ _).2

set_option maxHeartbeats 2000000 in
theorem begin_rc (w : World) (F : Nat → Prop) (hb : Nat) (D : Dr) (g : Nat) (v : Value) (p : List UInt8) (h : Dm w F hb D) (hl : 2 ≤ D.l.length) (hg : g < 4294967296) (hp : BS w (fun b => ¬ F b) v p) (hpl : p.length ≤ 100000) (hwn : D.wait.length + 300000 < 1000000) :
    Calls Tryz.prog 29 [ptr hb, .int .u32 g, v].toArray w (Ret fun r w' => r = errV (begF D g p).1 ∧ ∃ F', Own F w F' w' ∧ Dm w' F' hb (begF D g p).2) := by
  have hw1 := putF_wait D g 0 0 p
  have hpc := put_rc w F hb D g 0 0 v p h hl hg (by decide) (by decide) hp hpl (by omega)
  refine calls_T Tryz.func29 rfl rfl rfl ?_
  unfold ptr at *
  repeat (first | (with_reducible first | apply T_seq | apply T_region | apply U_nil | apply T_skip | apply T_block | apply T_inBlock | apply Cnd_t | apply Cnd_f | apply Cnd_not | apply Cnd_some | apply Cnd_none | apply Gd_nt | apply Gd_nf | apply Gd_some | apply Gd_none | apply Gd_want) | refine U_ar rfl rfl rfl (wrap_k (by simp only [wrapOk]; omega)) rfl ?_ | refine U_cv E rfl rfl rfl (wrap_k (by simp only [wrapOk]; omega)) rfl ?_ | refine U_pure E rfl rfl ?_ | refine T_exit rfl ?_ | refine T_condV rfl ?_ | refine U_guard rfl rfl ?_ | ((with_reducible refine Gd_skipT ?_ ?_); exact rfl) | ((with_reducible refine Gd_skipF ?_ ?_); exact rfl))
  refine U_call rfl rfl (Tryz.call40 _) (hpc) ?_
  rintro r w1 ⟨rfl, F1, o1, h1⟩
  by_cases e1 : (putF D g 0 0 p).1 = 0
  · rw [e1]
    rw [errV0]
    have hfl := dw_flush w1 F1 hb _ h1
    unfold ptr at *
    repeat (first | (with_reducible first | apply T_seq | apply T_region | apply U_nil | apply T_skip | apply T_block | apply T_inBlock | apply Cnd_t | apply Cnd_f | apply Cnd_not | apply Cnd_some | apply Cnd_none | apply Gd_nt | apply Gd_nf | apply Gd_some | apply Gd_none | apply Gd_want) | refine U_ar rfl rfl rfl (wrap_k (by simp only [wrapOk]; omega)) rfl ?_ | refine U_cv E rfl rfl rfl (wrap_k (by simp only [wrapOk]; omega)) rfl ?_ | refine U_pure E rfl rfl ?_ | refine T_exit rfl ?_ | refine T_condV rfl ?_ | refine U_guard rfl rfl ?_ | ((with_reducible refine Gd_skipT ?_ ?_); exact rfl) | ((with_reducible refine Gd_skipF ?_ ?_); exact rfl))
    refine U_call rfl rfl (Tryz.call28 _) (hfl) ?_
    rintro r w2 ⟨rfl, F2, o2, h2⟩
    have o2' := o1.tr o2
    by_cases e2 : flErr (putF D g 0 0 p).2 = 0
    · rw [e2]
      rw [errV0]
      have hw2 := flDr_wait (putF D g 0 0 p).2
      have hcr := crown_rc w2 F2 hb _ g h2 hg (by omega)
      unfold ptr at *
      repeat (first | (with_reducible first | apply T_seq | apply T_region | apply U_nil | apply T_skip | apply T_block | apply T_inBlock | apply Cnd_t | apply Cnd_f | apply Cnd_not | apply Cnd_some | apply Cnd_none | apply Gd_nt | apply Gd_nf | apply Gd_some | apply Gd_none | apply Gd_want) | refine U_ar rfl rfl rfl (wrap_k (by simp only [wrapOk]; omega)) rfl ?_ | refine U_cv E rfl rfl rfl (wrap_k (by simp only [wrapOk]; omega)) rfl ?_ | refine U_pure E rfl rfl ?_ | refine T_exit rfl ?_ | refine T_condV rfl ?_ | refine U_guard rfl rfl ?_ | ((with_reducible refine Gd_skipT ?_ ?_); exact rfl) | ((with_reducible refine Gd_skipF ?_ ?_); exact rfl))
      refine U_call rfl rfl (Tryz.call44 _) (hcr) ?_
      rintro r w3 ⟨rfl, F3, o3, h3⟩
      have o3' := o2'.tr o3
      by_cases e3 : wrErr (flDr (putF D g 0 0 p).2) (g % 2 : Nat) (hdS g) = 0
      · rw [e3]
        rw [errV0]
        have hfl2 := dw_flush w3 F3 hb _ h3
        unfold ptr at *
        repeat (first | (with_reducible first | apply T_seq | apply T_region | apply U_nil | apply T_skip | apply T_block | apply T_inBlock | apply Cnd_t | apply Cnd_f | apply Cnd_not | apply Cnd_some | apply Cnd_none | apply Gd_nt | apply Gd_nf | apply Gd_some | apply Gd_none | apply Gd_want) | refine U_ar rfl rfl rfl (wrap_k (by simp only [wrapOk]; omega)) rfl ?_ | refine U_cv E rfl rfl rfl (wrap_k (by simp only [wrapOk]; omega)) rfl ?_ | refine U_pure E rfl rfl ?_ | refine T_exit rfl ?_ | refine T_condV rfl ?_ | refine U_guard rfl rfl ?_ | ((with_reducible refine Gd_skipT ?_ ?_); exact rfl) | ((with_reducible refine Gd_skipF ?_ ?_); exact rfl))
        refine U_call rfl rfl (Tryz.call28 _) (hfl2) ?_
        rintro r w4 ⟨rfl, F4, o4, h4⟩
        have hb0 : begF D g p = (flErr (wrDr (flDr (putF D g 0 0 p).2) (g % 2 : Nat) (hdS g)), flDr (wrDr (flDr (putF D g 0 0 p).2) (g % 2 : Nat) (hdS g))) := by
          rw [begF, if_neg (fun h => h e1), if_neg (fun h => h e2), if_neg (fun h => h e3)]
        rw [hb0]
        repeat (first | (with_reducible first | apply T_seq | apply T_region | apply U_nil | apply T_skip | apply T_block | apply T_inBlock | apply Cnd_t | apply Cnd_f | apply Cnd_not | apply Cnd_some | apply Cnd_none | apply Gd_nt | apply Gd_nf | apply Gd_some | apply Gd_none | apply Gd_want) | refine U_ar rfl rfl rfl (wrap_k (by simp only [wrapOk]; omega)) rfl ?_ | refine U_cv E rfl rfl rfl (wrap_k (by simp only [wrapOk]; omega)) rfl ?_ | refine U_pure E rfl rfl ?_ | refine T_exit rfl ?_ | refine T_condV rfl ?_ | refine U_guard rfl rfl ?_ | ((with_reducible refine Gd_skipT ?_ ?_); exact rfl) | ((with_reducible refine Gd_skipF ?_ ?_); exact rfl))
        exact T_ret1 Tryz.func29 rfl rfl ⟨_, rfl, rfl, F4, o3'.tr o4, h4⟩
      · have hb0 : begF D g p = (wrErr (flDr (putF D g 0 0 p).2) (g % 2 : Nat) (hdS g), wrDr (flDr (putF D g 0 0 p).2) (g % 2 : Nat) (hdS g)) := by
          rw [begF, if_neg (fun h => h e1), if_neg (fun h => h e2), if_pos e3]
        rw [hb0]
        obtain ⟨j, hj, hje⟩ := errV_ne e3
        rw [hje]
        repeat (first | (with_reducible first | apply T_seq | apply T_region | apply U_nil | apply T_skip | apply T_block | apply T_inBlock | apply Cnd_t | apply Cnd_f | apply Cnd_not | apply Cnd_some | apply Cnd_none | apply Gd_nt | apply Gd_nf | apply Gd_some | apply Gd_none | apply Gd_want) | refine U_ar rfl rfl rfl (wrap_k (by simp only [wrapOk]; omega)) rfl ?_ | refine U_cv E rfl rfl rfl (wrap_k (by simp only [wrapOk]; omega)) rfl ?_ | refine U_pure E rfl rfl ?_ | refine T_exit rfl ?_ | refine T_condV rfl ?_ | refine U_guard rfl rfl ?_ | ((with_reducible refine Gd_skipT ?_ ?_); exact rfl) | ((with_reducible refine Gd_skipF ?_ ?_); exact rfl))
        exact T_ret1 Tryz.func29 rfl rfl ⟨_, rfl, rfl, F3, o3', h3⟩
    · have hb0 : begF D g p = (flErr (putF D g 0 0 p).2, flDr (putF D g 0 0 p).2) := by
        rw [begF, if_neg (fun h => h e1), if_pos e2]
      rw [hb0]
      obtain ⟨j, hj, hje⟩ := errV_ne e2
      rw [hje]
      repeat (first | (with_reducible first | apply T_seq | apply T_region | apply U_nil | apply T_skip | apply T_block | apply T_inBlock | apply Cnd_t | apply Cnd_f | apply Cnd_not | apply Cnd_some | apply Cnd_none | apply Gd_nt | apply Gd_nf | apply Gd_some | apply Gd_none | apply Gd_want) | refine U_ar rfl rfl rfl (wrap_k (by simp only [wrapOk]; omega)) rfl ?_ | refine U_cv E rfl rfl rfl (wrap_k (by simp only [wrapOk]; omega)) rfl ?_ | refine U_pure E rfl rfl ?_ | refine T_exit rfl ?_ | refine T_condV rfl ?_ | refine U_guard rfl rfl ?_ | ((with_reducible refine Gd_skipT ?_ ?_); exact rfl) | ((with_reducible refine Gd_skipF ?_ ?_); exact rfl))
      exact T_ret1 Tryz.func29 rfl rfl ⟨_, rfl, rfl, F2, o2', h2⟩
  · have hb0 : begF D g p = putF D g 0 0 p := by rw [begF, if_pos e1]
    rw [hb0]
    obtain ⟨j, hj, hje⟩ := errV_ne e1
    rw [hje]
    repeat (first | (with_reducible first | apply T_seq | apply T_region | apply U_nil | apply T_skip | apply T_block | apply T_inBlock | apply Cnd_t | apply Cnd_f | apply Cnd_not | apply Cnd_some | apply Cnd_none | apply Gd_nt | apply Gd_nf | apply Gd_some | apply Gd_none | apply Gd_want) | refine U_ar rfl rfl rfl (wrap_k (by simp only [wrapOk]; omega)) rfl ?_ | refine U_cv E rfl rfl rfl (wrap_k (by simp only [wrapOk]; omega)) rfl ?_ | refine U_pure E rfl rfl ?_ | refine T_exit rfl ?_ | refine T_condV rfl ?_ | refine U_guard rfl rfl ?_ | ((with_reducible refine Gd_skipT ?_ ?_); exact rfl) | ((with_reducible refine Gd_skipF ?_ ?_); exact rfl))
    exact T_ret1 Tryz.func29 rfl rfl ⟨_, rfl, rfl, F1, o1, h1⟩

/-- The generation that stands in a sector. -/
def headS (s : List UInt8) (i : Nat) : Nat :=
  if s[255]? = s[0]? ∧ nErr 0 ((s.drop 1).take 254) = 0 ∧ (nRec 0 ((s.drop 1).take 254)).length = 4 ∧ val4 (nRec 0 ((s.drop 1).take 254)) % 2 = i ∧ s[0]? = some (hdm (val4 (nRec 0 ((s.drop 1).take 254)))) then val4 (nRec 0 ((s.drop 1).take 254)) else 0
def headD (D : Dr) (i : Nat) : Nat := headS (nowS D.l D.wait i) i

theorem or4 (a b c d : Nat) (ha : a < 256) (hb : b < 256) (hc : c < 256) : a ||| b * 2 ^ 8 ||| c * 2 ^ 16 ||| d * 2 ^ 24 = a + 256 * b + 65536 * c + 16777216 * d := by
  have e1 : a ||| b * 2 ^ 8 = 2 ^ 8 * b + a := by rw [Nat.or_comm, Nat.mul_comm, Nat.two_pow_add_eq_or_of_lt (i := 8) ha b]
  have h1 : 2 ^ 8 * b + a < 2 ^ 16 := by omega
  have e2 : a ||| b * 2 ^ 8 ||| c * 2 ^ 16 = 2 ^ 16 * c + (2 ^ 8 * b + a) := by rw [e1, Nat.or_comm, Nat.mul_comm c, Nat.two_pow_add_eq_or_of_lt (i := 16) h1 c]
  have h2 : 2 ^ 16 * c + (2 ^ 8 * b + a) < 2 ^ 24 := by omega
  rw [e2, Nat.or_comm, Nat.mul_comm d, ← Nat.two_pow_add_eq_or_of_lt (i := 24) h2 d]
  omega
theorem or4_val (l : List UInt8) : at8 l 0 ||| at8 l 1 * 2 ^ 8 ||| at8 l 2 * 2 ^ 16 ||| at8 l 3 * 2 ^ 24 = val4 l := or4 _ _ _ _ (at8_lt l 0) (at8_lt l 1) (at8_lt l 2)

set_option maxHeartbeats 4000000 in
theorem head_rc (w : World) (F : Nat → Prop) (hb : Nat) (D : Dr) (i : Nat) (h : IsD w F hb D) (hi : i < D.l.length) (hi2 : i < 2) :
    Calls Tryz.prog 36 [ptr hb, .int .i64 i].toArray w (Ret fun r w' => r = .int .u32 (headD D i : Nat) ∧ Kept none0 w w') := by
  have hr := read_c w F hb D i h hi
  have hln := nowS_len D.l D.wait i h.1.secs (fun p hp => (h.1.waits p hp).2) hi
  refine calls_T Tryz.func36 rfl rfl rfl ?_
  unfold ptr at *
  repeat (first | (with_reducible first | apply T_seq | apply T_region | apply U_nil | apply T_skip | apply T_block | apply T_inBlock | apply Cnd_t | apply Cnd_f | apply Cnd_not | apply Cnd_some | apply Cnd_none | apply Gd_nt | apply Gd_nf | apply Gd_some | apply Gd_none | apply Gd_want) | refine U_ar rfl rfl rfl (wrap_k (by simp only [wrapOk]; omega)) rfl ?_ | refine U_cv E rfl rfl rfl (wrap_k (by simp only [wrapOk]; omega)) rfl ?_ | refine U_pure E rfl rfl ?_ | refine T_exit rfl ?_ | refine T_condV rfl ?_ | refine U_guard rfl rfl ?_ | ((with_reducible refine Gd_skipT ?_ ?_); exact rfl) | ((with_reducible refine Gd_skipF ?_ ?_); exact rfl))
  refine U_call rfl rfl (Tryz.call50 _) (hr) ?_
  rintro r w1 ⟨b, rfl, hb1, hbl, k1⟩
  unfold headD
  obtain ⟨s, hs⟩ : ∃ s, nowS D.l D.wait i = s := ⟨_, rfl⟩
  rw [hs] at hbl hln ⊢
  have h0 : s[0]? = some (s[0]'(by omega)) := List.getElem?_eq_getElem _
  obtain ⟨m, hm⟩ : ∃ m, s[0]'(by omega) = m := ⟨_, rfl⟩
  rw [hm] at h0
  have g0 : (encBs s)[0]? = some (encB m) := by rw [encBs_get, h0]; rfl
  repeat (first | (with_reducible first | apply T_seq | apply T_region | apply U_nil | apply T_skip | apply T_block | apply T_inBlock | apply Cnd_t | apply Cnd_f | apply Cnd_not | apply Cnd_some | apply Cnd_none | apply Gd_nt | apply Gd_nf | apply Gd_some | apply Gd_none | apply Gd_want) | refine U_ar rfl rfl rfl (wrap_k (by simp only [wrapOk]; omega)) rfl ?_ | refine U_cv E rfl rfl rfl (wrap_k (by simp only [wrapOk]; omega)) rfl ?_ | refine U_pure E rfl rfl ?_ | refine T_exit rfl ?_ | refine T_condV rfl ?_ | refine U_guard rfl rfl ?_ | ((with_reducible refine Gd_skipT ?_ ?_); exact rfl) | ((with_reducible refine Gd_skipF ?_ ?_); exact rfl))
  refine U_indexS E rfl rfl rfl rfl (by omega) (by omega) (by rfl) rfl ?_
  repeat (first | (with_reducible first | apply T_seq | apply T_region | apply U_nil | apply T_skip | apply T_block | apply T_inBlock | apply Cnd_t | apply Cnd_f | apply Cnd_not | apply Cnd_some | apply Cnd_none | apply Gd_nt | apply Gd_nf | apply Gd_some | apply Gd_none | apply Gd_want) | refine U_ar rfl rfl rfl (wrap_k (by simp only [wrapOk]; omega)) rfl ?_ | refine U_cv E rfl rfl rfl (wrap_k (by simp only [wrapOk]; omega)) rfl ?_ | refine U_pure E rfl rfl ?_ | refine T_exit rfl ?_ | refine T_condV rfl ?_ | refine U_guard rfl rfl ?_ | ((with_reducible refine Gd_skipT ?_ ?_); exact rfl) | ((with_reducible refine Gd_skipF ?_ ?_); exact rfl))
  refine U_loadB E hbl rfl rfl rfl g0 rfl ?_
  have hbr := bare_rc w1 F hb D (i : Int) m (h.mv k1 (fun _ _ _ x => x))
  unfold ptr at *
  repeat (first | (with_reducible first | apply T_seq | apply T_region | apply U_nil | apply T_skip | apply T_block | apply T_inBlock | apply Cnd_t | apply Cnd_f | apply Cnd_not | apply Cnd_some | apply Cnd_none | apply Gd_nt | apply Gd_nf | apply Gd_some | apply Gd_none | apply Gd_want) | refine U_ar rfl rfl rfl (wrap_k (by simp only [wrapOk]; omega)) rfl ?_ | refine U_cv E rfl rfl rfl (wrap_k (by simp only [wrapOk]; omega)) rfl ?_ | refine U_pure E rfl rfl ?_ | refine T_exit rfl ?_ | refine T_condV rfl ?_ | refine U_guard rfl rfl ?_ | ((with_reducible refine Gd_skipT ?_ ?_); exact rfl) | ((with_reducible refine Gd_skipF ?_ ?_); exact rfl))
  refine U_call rfl rfl (Tryz.call51 _) (hbr) ?_
  rintro r w2 ⟨k2, hcase⟩
  have hbd : bareD D (i : Int) m = if s[255]? = some m then some ((s.drop 1).take 254) else none := by
    simp only [bareD, Int.toNat_natCast, hs]
    by_cases hc : s[255]? = some m
    · rw [if_pos ⟨⟨by omega, by omega⟩, h0, hc⟩, if_pos hc]
    · rw [if_neg (fun e => hc e.2.2), if_neg hc]
  have k2' : Kept none0 w w2 := k1.tr k2 (fun _ _ x => x)
  rcases hcase with ⟨hn, rfl⟩ | ⟨vb, p, hp, hpl, rfl, hvb⟩
  · have hno : ¬ s[255]? = some m := fun e => by rw [hbd, if_pos e] at hn; cases hn
    have hz : headS s i = 0 := by rw [headS, if_neg (fun e => hno (by rw [e.1, h0]))]
    rw [hz]
    repeat (first | (with_reducible first | apply T_seq | apply T_region | apply U_nil | apply T_skip | apply T_block | apply T_inBlock | apply Cnd_t | apply Cnd_f | apply Cnd_not | apply Cnd_some | apply Cnd_none | apply Gd_nt | apply Gd_nf | apply Gd_some | apply Gd_none | apply Gd_want) | refine U_ar rfl rfl rfl (wrap_k (by simp only [wrapOk]; omega)) rfl ?_ | refine U_cv E rfl rfl rfl (wrap_k (by simp only [wrapOk]; omega)) rfl ?_ | refine U_pure E rfl rfl ?_ | refine T_exit rfl ?_ | refine T_condV rfl ?_ | refine U_guard rfl rfl ?_ | ((with_reducible refine Gd_skipT ?_ ?_); exact rfl) | ((with_reducible refine Gd_skipF ?_ ?_); exact rfl))
    refine U_call rfl rfl (Tryz.call52 _) (next_c w2 none0 (.slice none 0 0) [] 0 (by decide) (sl_nil _ _) (by decide)) ?_
    rintro r w3 ⟨k3, u, rfl, hu⟩
    repeat (first | (with_reducible first | apply T_seq | apply T_region | apply U_nil | apply T_skip | apply T_block | apply T_inBlock | apply Cnd_t | apply Cnd_f | apply Cnd_not | apply Cnd_some | apply Cnd_none | apply Gd_nt | apply Gd_nf | apply Gd_some | apply Gd_none | apply Gd_want) | refine U_ar rfl rfl rfl (wrap_k (by simp only [wrapOk]; omega)) rfl ?_ | refine U_cv E rfl rfl rfl (wrap_k (by simp only [wrapOk]; omega)) rfl ?_ | refine U_pure E rfl rfl ?_ | refine T_exit rfl ?_ | refine T_condV rfl ?_ | refine U_guard rfl rfl ?_ | ((with_reducible refine Gd_skipT ?_ ?_); exact rfl) | ((with_reducible refine Gd_skipF ?_ ?_); exact rfl))
    exact T_ret1 Tryz.func36 rfl rfl ⟨_, rfl, rfl, k2'.tr k3 (fun _ _ x => x)⟩
  · have hyes : s[255]? = some m := Classical.byContradiction fun e => by rw [hbd, if_neg e] at hp; cases hp
    rw [hbd, if_pos hyes] at hp
    have hp := Option.some.inj hp
    have hH : headS s i = if nErr 0 p = 0 ∧ (nRec 0 p).length = 4 ∧ val4 (nRec 0 p) % 2 = i ∧ m = hdm (val4 (nRec 0 p)) then val4 (nRec 0 p) else 0 := by
      rw [headS, hp]
      by_cases hc : nErr 0 p = 0 ∧ (nRec 0 p).length = 4 ∧ val4 (nRec 0 p) % 2 = i ∧ m = hdm (val4 (nRec 0 p))
      · rw [if_pos ⟨by rw [hyes, h0], hc.1, hc.2.1, hc.2.2.1, by rw [h0, ← hc.2.2.2]⟩, if_pos hc]
      · rw [if_neg (fun e => hc ⟨e.2.1, e.2.2.1, e.2.2.2.1, Option.some.inj (h0.symm.trans e.2.2.2.2)⟩), if_neg hc]
    rw [hH]
    repeat (first | (with_reducible first | apply T_seq | apply T_region | apply U_nil | apply T_skip | apply T_block | apply T_inBlock | apply Cnd_t | apply Cnd_f | apply Cnd_not | apply Cnd_some | apply Cnd_none | apply Gd_nt | apply Gd_nf | apply Gd_some | apply Gd_none | apply Gd_want) | refine U_ar rfl rfl rfl (wrap_k (by simp only [wrapOk]; omega)) rfl ?_ | refine U_cv E rfl rfl rfl (wrap_k (by simp only [wrapOk]; omega)) rfl ?_ | refine U_pure E rfl rfl ?_ | refine T_exit rfl ?_ | refine T_condV rfl ?_ | refine U_guard rfl rfl ?_ | ((with_reducible refine Gd_skipT ?_ ?_); exact rfl) | ((with_reducible refine Gd_skipF ?_ ?_); exact rfl))
    refine U_call rfl rfl (Tryz.call52 _) (next_c w2 _ vb p 0 (by decide) hvb (by omega)) ?_
    rintro r w3 ⟨k3, u, rfl, hu⟩
    have k3' : Kept none0 w w3 := k2'.tr k3 (fun _ _ x => x)
    by_cases hne : nErr 0 p = 0
    · rw [hne]
      unfold errV
      obtain ⟨q, hq⟩ : ∃ q, nRec 0 p = q := ⟨_, rfl⟩
      rw [hq] at hu ⊢
      have hqv := val4_lt q
      obtain ⟨A, c, rfl⟩ := hu.len
      repeat (first | (with_reducible first | apply T_seq | apply T_region | apply U_nil | apply T_skip | apply T_block | apply T_inBlock | apply Cnd_t | apply Cnd_f | apply Cnd_not | apply Cnd_some | apply Cnd_none | apply Gd_nt | apply Gd_nf | apply Gd_some | apply Gd_none | apply Gd_want) | refine U_ar rfl rfl rfl (wrap_k (by simp only [wrapOk]; omega)) rfl ?_ | refine U_cv E rfl rfl rfl (wrap_k (by simp only [wrapOk]; omega)) rfl ?_ | refine U_pure E rfl rfl ?_ | refine T_exit rfl ?_ | refine T_condV rfl ?_ | refine U_guard rfl rfl ?_ | ((with_reducible refine Gd_skipT ?_ ?_); exact rfl) | ((with_reducible refine Gd_skipF ?_ ?_); exact rfl))
      refine Cnd_p (fun hq4 => ?_) (fun hq4 => ?_)
      · rw [if_neg (fun e => by have := e.2.1; omega)]
        repeat (first | (with_reducible first | apply T_seq | apply T_region | apply U_nil | apply T_skip | apply T_block | apply T_inBlock | apply Cnd_t | apply Cnd_f | apply Cnd_not | apply Cnd_some | apply Cnd_none | apply Gd_nt | apply Gd_nf | apply Gd_some | apply Gd_none | apply Gd_want) | refine U_ar rfl rfl rfl (wrap_k (by simp only [wrapOk]; omega)) rfl ?_ | refine U_cv E rfl rfl rfl (wrap_k (by simp only [wrapOk]; omega)) rfl ?_ | refine U_pure E rfl rfl ?_ | refine T_exit rfl ?_ | refine T_condV rfl ?_ | refine U_guard rfl rfl ?_ | ((with_reducible refine Gd_skipT ?_ ?_); exact rfl) | ((with_reducible refine Gd_skipF ?_ ?_); exact rfl))
        exact T_ret1 Tryz.func36 rfl rfl ⟨_, rfl, rfl, k3'⟩
      · have hq4' : q.length = 4 := by omega
        have b0 := at8_lt q 0
        have b1 := at8_lt q 1
        have b2 := at8_lt q 2
        have b3 := at8_lt q 3
        have gq : ∀ (j : Nat) (hj : j < 4), (encBs q)[(OfNat.ofNat j : Int).toNat]? = some (.int .u8 (at8 q j : Nat)) := fun j hj => by
          rw [at8_get (by omega)]
          exact get_enc (show j < q.length by omega)
        repeat (first | (with_reducible first | apply T_seq | apply T_region | apply U_nil | apply T_skip | apply T_block | apply T_inBlock | apply Cnd_t | apply Cnd_f | apply Cnd_not | apply Cnd_some | apply Cnd_none | apply Gd_nt | apply Gd_nf | apply Gd_some | apply Gd_none | apply Gd_want) | refine U_ar rfl rfl rfl (wrap_k (by simp only [wrapOk]; omega)) rfl ?_ | refine U_cv E rfl rfl rfl (wrap_k (by simp only [wrapOk]; omega)) rfl ?_ | refine U_pure E rfl rfl ?_ | refine T_exit rfl ?_ | refine T_condV rfl ?_ | refine U_guard rfl rfl ?_ | ((with_reducible refine Gd_skipT ?_ ?_); exact rfl) | ((with_reducible refine Gd_skipF ?_ ?_); exact rfl))
        refine T_quiet (by kernel_rfl) (by kernel_rfl) ?_; (repeat (first | refine V_ar rfl rfl rfl (wrap_k (by simp only [wrapOk]; omega)) rfl ?_ | refine V_cv E rfl rfl rfl (wrap_k (by simp only [wrapOk]; omega)) rfl ?_ | refine V_pure E rfl rfl ?_ | refine V_guard rfl rfl ?_ | with_reducible refine GdV_want ?_ | ((with_reducible refine GdV_skipT ?_ ?_); exact rfl) | ((with_reducible refine GdV_skipF ?_ ?_); exact rfl)))
        refine V_idx E (hu) rfl rfl rfl rfl (by omega) (by omega) ((gq 0 (by decide))) rfl (fun p0 hp0 => ?_)
        refine V_load E rfl rfl rfl (fun w' hw' => (by first | (rw [hw'.cell]; exact hp0) | (subst hw'; exact hp0))) rfl ?_
        repeat (first | refine V_ar rfl rfl rfl (wrap_k (by simp only [wrapOk]; omega)) rfl ?_ | refine V_cv E rfl rfl rfl (wrap_k (by simp only [wrapOk]; omega)) rfl ?_ | refine V_pure E rfl rfl ?_ | refine V_guard rfl rfl ?_ | with_reducible refine GdV_want ?_ | ((with_reducible refine GdV_skipT ?_ ?_); exact rfl) | ((with_reducible refine GdV_skipF ?_ ?_); exact rfl))
        refine V_idx E (hu) rfl rfl rfl rfl (by omega) (by omega) ((gq 1 (by decide))) rfl (fun p1 hp1 => ?_)
        refine V_load E rfl rfl rfl (fun w' hw' => (by first | (rw [hw'.cell]; exact hp1) | (subst hw'; exact hp1))) rfl ?_
        repeat (first | refine V_ar rfl rfl rfl (wrap_k (by simp only [wrapOk]; omega)) rfl ?_ | refine V_cv E rfl rfl rfl (wrap_k (by simp only [wrapOk]; omega)) rfl ?_ | refine V_pure E rfl rfl ?_ | refine V_guard rfl rfl ?_ | with_reducible refine GdV_want ?_ | ((with_reducible refine GdV_skipT ?_ ?_); exact rfl) | ((with_reducible refine GdV_skipF ?_ ?_); exact rfl))
        refine V_run rfl rfl rfl (fun a ha w' _ => ro_bin (r := .int .u32 (at8 q 1 * 2 ^ 8 : Nat)) rfl rfl (by exact run_shl (y := 8) .u64 rfl (by decide) (by simp only [IntKind.bits]; omega)) a ha) ?_
        repeat (first | refine V_ar rfl rfl rfl (wrap_k (by simp only [wrapOk]; omega)) rfl ?_ | refine V_cv E rfl rfl rfl (wrap_k (by simp only [wrapOk]; omega)) rfl ?_ | refine V_pure E rfl rfl ?_ | refine V_guard rfl rfl ?_ | with_reducible refine GdV_want ?_ | ((with_reducible refine GdV_skipT ?_ ?_); exact rfl) | ((with_reducible refine GdV_skipF ?_ ?_); exact rfl))
        refine V_run rfl rfl rfl (fun a ha w' _ => ro_bin (r := .int .u32 (at8 q 0 ||| at8 q 1 * 2 ^ 8 : Nat)) rfl rfl (by exact run_or rfl (by simp only [IntKind.bits]; omega) (by simp only [IntKind.bits]; omega)) a ha) ?_
        repeat (first | refine V_ar rfl rfl rfl (wrap_k (by simp only [wrapOk]; omega)) rfl ?_ | refine V_cv E rfl rfl rfl (wrap_k (by simp only [wrapOk]; omega)) rfl ?_ | refine V_pure E rfl rfl ?_ | refine V_guard rfl rfl ?_ | with_reducible refine GdV_want ?_ | ((with_reducible refine GdV_skipT ?_ ?_); exact rfl) | ((with_reducible refine GdV_skipF ?_ ?_); exact rfl))
        refine V_idx E (hu) rfl rfl rfl rfl (by omega) (by omega) ((gq 2 (by decide))) rfl (fun p2 hp2 => ?_)
        refine V_load E rfl rfl rfl (fun w' hw' => (by first | (rw [hw'.cell]; exact hp2) | (subst hw'; exact hp2))) rfl ?_
        repeat (first | refine V_ar rfl rfl rfl (wrap_k (by simp only [wrapOk]; omega)) rfl ?_ | refine V_cv E rfl rfl rfl (wrap_k (by simp only [wrapOk]; omega)) rfl ?_ | refine V_pure E rfl rfl ?_ | refine V_guard rfl rfl ?_ | with_reducible refine GdV_want ?_ | ((with_reducible refine GdV_skipT ?_ ?_); exact rfl) | ((with_reducible refine GdV_skipF ?_ ?_); exact rfl))
        refine V_run rfl rfl rfl (fun a ha w' _ => ro_bin (r := .int .u32 (at8 q 2 * 2 ^ 16 : Nat)) rfl rfl (by exact run_shl (y := 16) .u64 rfl (by decide) (by simp only [IntKind.bits]; omega)) a ha) ?_
        repeat (first | refine V_ar rfl rfl rfl (wrap_k (by simp only [wrapOk]; omega)) rfl ?_ | refine V_cv E rfl rfl rfl (wrap_k (by simp only [wrapOk]; omega)) rfl ?_ | refine V_pure E rfl rfl ?_ | refine V_guard rfl rfl ?_ | with_reducible refine GdV_want ?_ | ((with_reducible refine GdV_skipT ?_ ?_); exact rfl) | ((with_reducible refine GdV_skipF ?_ ?_); exact rfl))
        refine V_run rfl rfl rfl (fun a ha w' _ => ro_bin (r := .int .u32 (at8 q 0 ||| at8 q 1 * 2 ^ 8 ||| at8 q 2 * 2 ^ 16 : Nat)) rfl rfl (by exact run_or rfl (Nat.or_lt_two_pow (by simp only [IntKind.bits]; omega) (by simp only [IntKind.bits]; omega)) (by simp only [IntKind.bits]; omega)) a ha) ?_
        repeat (first | refine V_ar rfl rfl rfl (wrap_k (by simp only [wrapOk]; omega)) rfl ?_ | refine V_cv E rfl rfl rfl (wrap_k (by simp only [wrapOk]; omega)) rfl ?_ | refine V_pure E rfl rfl ?_ | refine V_guard rfl rfl ?_ | with_reducible refine GdV_want ?_ | ((with_reducible refine GdV_skipT ?_ ?_); exact rfl) | ((with_reducible refine GdV_skipF ?_ ?_); exact rfl))
        refine V_idx E (hu) rfl rfl rfl rfl (by omega) (by omega) ((gq 3 (by decide))) rfl (fun p3 hp3 => ?_)
        refine V_load E rfl rfl rfl (fun w' hw' => (by first | (rw [hw'.cell]; exact hp3) | (subst hw'; exact hp3))) rfl ?_
        repeat (first | refine V_ar rfl rfl rfl (wrap_k (by simp only [wrapOk]; omega)) rfl ?_ | refine V_cv E rfl rfl rfl (wrap_k (by simp only [wrapOk]; omega)) rfl ?_ | refine V_pure E rfl rfl ?_ | refine V_guard rfl rfl ?_ | with_reducible refine GdV_want ?_ | ((with_reducible refine GdV_skipT ?_ ?_); exact rfl) | ((with_reducible refine GdV_skipF ?_ ?_); exact rfl))
        refine V_run rfl rfl rfl (fun a ha w' _ => ro_bin (r := .int .u32 (at8 q 3 * 2 ^ 24 : Nat)) rfl rfl (by exact run_shl (y := 24) .u64 rfl (by decide) (by simp only [IntKind.bits]; omega)) a ha) ?_
        repeat (first | refine V_ar rfl rfl rfl (wrap_k (by simp only [wrapOk]; omega)) rfl ?_ | refine V_cv E rfl rfl rfl (wrap_k (by simp only [wrapOk]; omega)) rfl ?_ | refine V_pure E rfl rfl ?_ | refine V_guard rfl rfl ?_ | with_reducible refine GdV_want ?_ | ((with_reducible refine GdV_skipT ?_ ?_); exact rfl) | ((with_reducible refine GdV_skipF ?_ ?_); exact rfl))
        refine V_run rfl rfl rfl (fun a ha w' _ => ro_bin (r := .int .u32 (at8 q 0 ||| at8 q 1 * 2 ^ 8 ||| at8 q 2 * 2 ^ 16 ||| at8 q 3 * 2 ^ 24 : Nat)) rfl rfl (by exact run_or rfl (Nat.or_lt_two_pow (Nat.or_lt_two_pow (by simp only [IntKind.bits]; omega) (by simp only [IntKind.bits]; omega)) (by simp only [IntKind.bits]; omega)) (by simp only [IntKind.bits]; omega)) a ha) ?_
        rw [or4_val]
        repeat (first | refine V_ar rfl rfl rfl (wrap_k (by simp only [wrapOk]; omega)) rfl ?_ | refine V_cv E rfl rfl rfl (wrap_k (by simp only [wrapOk]; omega)) rfl ?_ | refine V_pure E rfl rfl ?_ | refine V_guard rfl rfl ?_ | with_reducible refine GdV_want ?_ | ((with_reducible refine GdV_skipT ?_ ?_); exact rfl) | ((with_reducible refine GdV_skipF ?_ ?_); exact rfl))
        refine V_nilQ fun w4 hd4 => ?_
        have k4 : Kept none0 w w4 := k3'.tr (hd4.kept none0) (fun _ _ x => x)
        have hbl4 : Blk w4 b (encBs s) 73 := ((hbl.mv k2 (fun x => x)).mv k3 (fun x => x)).mv (hd4.kept none0) (fun x => x)
        obtain ⟨g, hg⟩ : ∃ g, val4 q = g := ⟨_, rfl⟩
        rw [hg] at hqv ⊢
        repeat (first | (with_reducible first | apply T_seq | apply T_region | apply U_nil | apply T_skip | apply T_block | apply T_inBlock | apply Cnd_t | apply Cnd_f | apply Cnd_not | apply Cnd_some | apply Cnd_none | apply Gd_nt | apply Gd_nf | apply Gd_some | apply Gd_none | apply Gd_want) | refine U_ar rfl rfl rfl (wrap_k (by simp only [wrapOk]; omega)) rfl ?_ | refine U_cv E rfl rfl rfl (wrap_k (by simp only [wrapOk]; omega)) rfl ?_ | refine U_pure E rfl rfl ?_ | refine T_exit rfl ?_ | refine T_condV rfl ?_ | refine U_guard rfl rfl ?_ | ((with_reducible refine Gd_skipT ?_ ?_); exact rfl) | ((with_reducible refine Gd_skipF ?_ ?_); exact rfl))
        refine U_run rfl rfl rfl (ro_bin (r := .int .u32 (g % 2 : Nat)) rfl rfl (by exact run_rem (y := 2) (by decide))) ?_
        repeat (first | (with_reducible first | apply T_seq | apply T_region | apply U_nil | apply T_skip | apply T_block | apply T_inBlock | apply Cnd_t | apply Cnd_f | apply Cnd_not | apply Cnd_some | apply Cnd_none | apply Gd_nt | apply Gd_nf | apply Gd_some | apply Gd_none | apply Gd_want) | refine U_ar rfl rfl rfl (wrap_k (by simp only [wrapOk]; omega)) rfl ?_ | refine U_cv E rfl rfl rfl (wrap_k (by simp only [wrapOk]; omega)) rfl ?_ | refine U_pure E rfl rfl ?_ | refine T_exit rfl ?_ | refine T_condV rfl ?_ | refine U_guard rfl rfl ?_ | ((with_reducible refine Gd_skipT ?_ ?_); exact rfl) | ((with_reducible refine Gd_skipF ?_ ?_); exact rfl))
        refine Gd_b (fun hx => ?_) (fun hx => ?_)
        · have := of_decide_eq_true hx
          rw [if_neg (fun e => by have := e.2.2.1; omega)]
          repeat (first | (with_reducible first | apply T_seq | apply T_region | apply U_nil | apply T_skip | apply T_block | apply T_inBlock | apply Cnd_t | apply Cnd_f | apply Cnd_not | apply Cnd_some | apply Cnd_none | apply Gd_nt | apply Gd_nf | apply Gd_some | apply Gd_none | apply Gd_want) | refine U_ar rfl rfl rfl (wrap_k (by simp only [wrapOk]; omega)) rfl ?_ | refine U_cv E rfl rfl rfl (wrap_k (by simp only [wrapOk]; omega)) rfl ?_ | refine U_pure E rfl rfl ?_ | refine T_exit rfl ?_ | refine T_condV rfl ?_ | refine U_guard rfl rfl ?_ | ((with_reducible refine Gd_skipT ?_ ?_); exact rfl) | ((with_reducible refine Gd_skipF ?_ ?_); exact rfl))
          exact T_ret1 Tryz.func36 rfl rfl ⟨_, rfl, rfl, k4⟩
        · have hgi := of_decide_eq_false hx
          repeat (first | (with_reducible first | apply T_seq | apply T_region | apply U_nil | apply T_skip | apply T_block | apply T_inBlock | apply Cnd_t | apply Cnd_f | apply Cnd_not | apply Cnd_some | apply Cnd_none | apply Gd_nt | apply Gd_nf | apply Gd_some | apply Gd_none | apply Gd_want) | refine U_ar rfl rfl rfl (wrap_k (by simp only [wrapOk]; omega)) rfl ?_ | refine U_cv E rfl rfl rfl (wrap_k (by simp only [wrapOk]; omega)) rfl ?_ | refine U_pure E rfl rfl ?_ | refine T_exit rfl ?_ | refine T_condV rfl ?_ | refine U_guard rfl rfl ?_ | ((with_reducible refine Gd_skipT ?_ ?_); exact rfl) | ((with_reducible refine Gd_skipF ?_ ?_); exact rfl))
          refine U_indexS E rfl rfl rfl rfl (by omega) (by omega) (by rfl) rfl ?_
          repeat (first | (with_reducible first | apply T_seq | apply T_region | apply U_nil | apply T_skip | apply T_block | apply T_inBlock | apply Cnd_t | apply Cnd_f | apply Cnd_not | apply Cnd_some | apply Cnd_none | apply Gd_nt | apply Gd_nf | apply Gd_some | apply Gd_none | apply Gd_want) | refine U_ar rfl rfl rfl (wrap_k (by simp only [wrapOk]; omega)) rfl ?_ | refine U_cv E rfl rfl rfl (wrap_k (by simp only [wrapOk]; omega)) rfl ?_ | refine U_pure E rfl rfl ?_ | refine T_exit rfl ?_ | refine T_condV rfl ?_ | refine U_guard rfl rfl ?_ | ((with_reducible refine Gd_skipT ?_ ?_); exact rfl) | ((with_reducible refine Gd_skipF ?_ ?_); exact rfl))
          refine U_loadB E hbl4 rfl rfl rfl g0 rfl ?_
          repeat (first | (with_reducible first | apply T_seq | apply T_region | apply U_nil | apply T_skip | apply T_block | apply T_inBlock | apply Cnd_t | apply Cnd_f | apply Cnd_not | apply Cnd_some | apply Cnd_none | apply Gd_nt | apply Gd_nf | apply Gd_some | apply Gd_none | apply Gd_want) | refine U_ar rfl rfl rfl (wrap_k (by simp only [wrapOk]; omega)) rfl ?_ | refine U_cv E rfl rfl rfl (wrap_k (by simp only [wrapOk]; omega)) rfl ?_ | refine U_pure E rfl rfl ?_ | refine T_exit rfl ?_ | refine T_condV rfl ?_ | refine U_guard rfl rfl ?_ | ((with_reducible refine Gd_skipT ?_ ?_); exact rfl) | ((with_reducible refine Gd_skipF ?_ ?_); exact rfl))
          refine U_run rfl rfl rfl (ro_bin (r := .int .u32 (g % 251 : Nat)) rfl rfl (by exact run_rem (y := 251) (by decide))) ?_
          repeat (first | (with_reducible first | apply T_seq | apply T_region | apply U_nil | apply T_skip | apply T_block | apply T_inBlock | apply Cnd_t | apply Cnd_f | apply Cnd_not | apply Cnd_some | apply Cnd_none | apply Gd_nt | apply Gd_nf | apply Gd_some | apply Gd_none | apply Gd_want) | refine U_ar rfl rfl rfl (wrap_k (by simp only [wrapOk]; omega)) rfl ?_ | refine U_cv E rfl rfl rfl (wrap_k (by simp only [wrapOk]; omega)) rfl ?_ | refine U_pure E rfl rfl ?_ | refine T_exit rfl ?_ | refine T_condV rfl ?_ | refine U_guard rfl rfl ?_ | ((with_reducible refine Gd_skipT ?_ ?_); exact rfl) | ((with_reducible refine Gd_skipF ?_ ?_); exact rfl))
          rw [show ((g % 251 : Nat) : Int) + 1 = ((g % 251 + 1 : Nat) : Int) by omega]
          have hme : ((m.toNat : Int) ≠ ((g % 251 + 1 : Nat) : Int)) ↔ m ≠ hdm g := by
            have : (hdm g).toNat = g % 251 + 1 := by rw [hdm, UInt8.toNat_ofNat', Nat.mod_eq_of_lt (show g % 251 + 1 < 2 ^ 8 by omega)]
            rw [← this]
            exact ofNat_get_ne
          refine Cnd_p (fun hy => ?_) (fun hy => ?_)
          · rw [if_neg (fun e => hme.1 hy e.2.2.2)]
            repeat (first | (with_reducible first | apply T_seq | apply T_region | apply U_nil | apply T_skip | apply T_block | apply T_inBlock | apply Cnd_t | apply Cnd_f | apply Cnd_not | apply Cnd_some | apply Cnd_none | apply Gd_nt | apply Gd_nf | apply Gd_some | apply Gd_none | apply Gd_want) | refine U_ar rfl rfl rfl (wrap_k (by simp only [wrapOk]; omega)) rfl ?_ | refine U_cv E rfl rfl rfl (wrap_k (by simp only [wrapOk]; omega)) rfl ?_ | refine U_pure E rfl rfl ?_ | refine T_exit rfl ?_ | refine T_condV rfl ?_ | refine U_guard rfl rfl ?_ | ((with_reducible refine Gd_skipT ?_ ?_); exact rfl) | ((with_reducible refine Gd_skipF ?_ ?_); exact rfl))
            exact T_ret1 Tryz.func36 rfl rfl ⟨_, rfl, rfl, k4⟩
          · have hmm : m = hdm g := Classical.byContradiction fun e => hy (hme.2 e)
            rw [if_pos ⟨rfl, hq4', by omega, hmm⟩]
            repeat (first | (with_reducible first | apply T_seq | apply T_region | apply U_nil | apply T_skip | apply T_block | apply T_inBlock | apply Cnd_t | apply Cnd_f | apply Cnd_not | apply Cnd_some | apply Cnd_none | apply Gd_nt | apply Gd_nf | apply Gd_some | apply Gd_none | apply Gd_want) | refine U_ar rfl rfl rfl (wrap_k (by simp only [wrapOk]; omega)) rfl ?_ | refine U_cv E rfl rfl rfl (wrap_k (by simp only [wrapOk]; omega)) rfl ?_ | refine U_pure E rfl rfl ?_ | refine T_exit rfl ?_ | refine T_condV rfl ?_ | refine U_guard rfl rfl ?_ | ((with_reducible refine Gd_skipT ?_ ?_); exact rfl) | ((with_reducible refine Gd_skipF ?_ ?_); exact rfl))
            exact T_ret1 Tryz.func36 rfl rfl ⟨_, rfl, rfl, k4⟩
    · rw [if_neg (fun e => hne e.1)]
      obtain ⟨j, hj, hje⟩ := errV_ne hne
      rw [hje]
      repeat (first | (with_reducible first | apply T_seq | apply T_region | apply U_nil | apply T_skip | apply T_block | apply T_inBlock | apply Cnd_t | apply Cnd_f | apply Cnd_not | apply Cnd_some | apply Cnd_none | apply Gd_nt | apply Gd_nf | apply Gd_some | apply Gd_none | apply Gd_want) | refine U_ar rfl rfl rfl (wrap_k (by simp only [wrapOk]; omega)) rfl ?_ | refine U_cv E rfl rfl rfl (wrap_k (by simp only [wrapOk]; omega)) rfl ?_ | refine U_pure E rfl rfl ?_ | refine T_exit rfl ?_ | refine T_condV rfl ?_ | refine U_guard rfl rfl ?_ | ((with_reducible refine Gd_skipT ?_ ?_); exact rfl) | ((with_reducible refine Gd_skipF ?_ ?_); exact rfl))
      exact T_ret1 Tryz.func36 rfl rfl ⟨_, rfl, rfl, k3'⟩
end Go.Proofs.YtoefhdaenaiomaaGreatDoor

/- The reel in memory; what it tells. -/
namespace Go.Proofs.YtoefhdaenaiomaaGreatDoor
open Go
set_option maxRecDepth 20000

/-- Blocks of the drum or of the reel. -/
def uni (F Fr : Nat → Prop) : Nat → Prop := fun b => F b ∨ Fr b

/-- A reel beside a drum's blocks F. -/
structure Rl (w : World) (F Fr : Nat → Prop) (hb rb g : Nat) (l : List (List UInt8)) (at_ : Nat) : Prop where
  lt : ∀ b, Fr b → b < w.heap.size ∧ ¬ F b
  gen : g < 4294967296
  at1 : at_ ≤ 10000
  len : l.length ≤ 10000
  recs : ∀ p ∈ l, p.length ≤ 100000
  body : ∃ vl vs, Fr rb ∧ Blk w rb [ptr hb, .int .u32 g, vl, .int .i64 at_] 66 ∧ vs.length = l.length ∧ Row w (fun b => Fr b ∧ b ≠ rb) vl 1 vs.length vs 22 ∧
    ∀ (j : Nat) v p, vs[j]? = some v → l[j]? = some p → BS w (fun b => Fr b ∧ b ≠ rb ∧ vl.ownBlock ≠ some b) v p

section
variable {w w' : World} {F F' Fr : Nat → Prop} {hb rb g at_ : Nat} {l : List (List UInt8)}
/-- The drum alone is turned. -/
theorem Rl.drum (h : Rl w F Fr hb rb g l at_) (o : Own F w F' w') : Rl w' F' Fr hb rb g l at_ := by
  obtain ⟨vl, vs, h1, h2, h3, h4, h5⟩ := h.body
  refine ⟨o.sep h.lt, h.gen, h.at1, h.len, h.recs, vl, vs, h1, o.blk h2 (h.lt rb h1).2, h3, h4.mv o.kept (fun b _ hx => (h.lt b hx.1).2), fun j v p hv hp => ?_⟩
  exact (h5 j v p hv hp).mv o.kept (fun b _ hx => (h.lt b hx.1).2)
/-- What isn't the drum's nor the reel's is turned. -/
theorem Rl.mv {K : Nat → Prop} (h : Rl w F Fr hb rb g l at_) (k : Kept K w w') (hK : ∀ b, Fr b → ¬ K b) : Rl w' F Fr hb rb g l at_ := by
  obtain ⟨vl, vs, h1, h2, h3, h4, h5⟩ := h.body
  exact ⟨fun b e => ⟨Nat.lt_of_lt_of_le (h.lt b e).1 k.size, (h.lt b e).2⟩, h.gen, h.at1, h.len, h.recs, vl, vs, h1, h2.mv k (hK rb h1), h3, h4.mv k (fun b _ hx => hK b hx.1), fun j v p hv hp => (h5 j v p hv hp).mv k (fun b _ hx => hK b hx.1)⟩
theorem Rl.same (h : Rl w F Fr hb rb g l at_) (hF : ∀ b, F b → b < w.heap.size) (k : Kept none0 w w') : Rl w' F Fr hb rb g l at_ := h.drum (Own.same hF k)
/-- What is owned of the drum is owned of both. -/
theorem Own.both (o : Own F w F' w') (hr : ∀ b, Fr b → b < w.heap.size ∧ ¬ F b) : Own (uni F Fr) w (uni F' Fr) w' :=
  ⟨o.kept.mono (fun _ _ e => .inl e), fun b e => e.elim (fun e => (o.sub b e).elim (fun e => .inl (.inl e)) .inr) (fun e => .inl (.inr e)), fun b e => e.elim (o.lt b) (fun e => Nat.lt_of_lt_of_le (hr b e).1 o.size)⟩
theorem Rl.lt2 (h : Rl w F Fr hb rb g l at_) (hF : ∀ b, F b → b < w.heap.size) : ∀ b, uni F Fr b → b < w.heap.size := fun b e => e.elim (hF b) (fun e => (h.lt b e).1)
theorem Sl.ofUni {v : Value} {sz n : Nat} {cs : List Value} (h : Sl w (fun b => ¬ uni F Fr b) v sz n cs) : Sl w (fun b => ¬ F b) v sz n cs := h.mono (fun _ _ hx e => hx (.inl e))
end

section
variable {w : World} {F Fr : Nat → Prop} {hb rb g at_ : Nat} {l : List (List UInt8)}

theorem count_c (h : Rl w F Fr hb rb g l at_) : Calls Tryz.prog 23 [ptr rb].toArray w (Ret fun r w' => r = .int .i64 l.length ∧ w' = w) := by
  obtain ⟨vl, vs, h1, h2, h3, h4, h5⟩ := h.body
  obtain ⟨A, c, rfl⟩ := h4.val
  refine calls_T Tryz.func23 rfl rfl rfl ?_
  unfold ptr at *
  repeat (first | (with_reducible first | apply T_seq | apply T_region | apply U_nil | apply T_skip | apply T_block | apply T_inBlock | apply Cnd_t | apply Cnd_f | apply Cnd_not | apply Cnd_some | apply Cnd_none | apply Gd_nt | apply Gd_nf | apply Gd_some | apply Gd_none | apply Gd_want) | refine U_ar rfl rfl rfl (wrap_k (by simp only [wrapOk]; omega)) rfl ?_ | refine U_cv E rfl rfl rfl (wrap_k (by simp only [wrapOk]; omega)) rfl ?_ | refine U_pure E rfl rfl ?_ | refine T_exit rfl ?_ | refine T_condV rfl ?_ | refine U_guard rfl rfl ?_ | ((with_reducible refine Gd_skipT ?_ ?_); exact rfl) | ((with_reducible refine Gd_skipF ?_ ?_); exact rfl))
  refine U_loadB E (by assumption) rfl rfl rfl (by rfl) rfl ?_
  repeat (first | (with_reducible first | apply T_seq | apply T_region | apply U_nil | apply T_skip | apply T_block | apply T_inBlock | apply Cnd_t | apply Cnd_f | apply Cnd_not | apply Cnd_some | apply Cnd_none | apply Gd_nt | apply Gd_nf | apply Gd_some | apply Gd_none | apply Gd_want) | refine U_ar rfl rfl rfl (wrap_k (by simp only [wrapOk]; omega)) rfl ?_ | refine U_cv E rfl rfl rfl (wrap_k (by simp only [wrapOk]; omega)) rfl ?_ | refine U_pure E rfl rfl ?_ | refine T_exit rfl ?_ | refine T_condV rfl ?_ | refine U_guard rfl rfl ?_ | ((with_reducible refine Gd_skipT ?_ ?_); exact rfl) | ((with_reducible refine Gd_skipF ?_ ?_); exact rfl))
  rw [h3]
  exact T_ret1 Tryz.func23 rfl rfl ⟨_, rfl, rfl, rfl⟩

theorem gen_c (h : Rl w F Fr hb rb g l at_) : Calls Tryz.prog 16 [ptr rb].toArray w (Ret fun r w' => r = .int .u32 g ∧ w' = w) := by
  obtain ⟨vl, vs, h1, h2, h3, h4, h5⟩ := h.body
  refine calls_T Tryz.func16 rfl rfl rfl ?_
  unfold ptr at *
  repeat (first | (with_reducible first | apply T_seq | apply T_region | apply U_nil | apply T_skip | apply T_block | apply T_inBlock | apply Cnd_t | apply Cnd_f | apply Cnd_not | apply Cnd_some | apply Cnd_none | apply Gd_nt | apply Gd_nf | apply Gd_some | apply Gd_none | apply Gd_want) | refine U_ar rfl rfl rfl (wrap_k (by simp only [wrapOk]; omega)) rfl ?_ | refine U_cv E rfl rfl rfl (wrap_k (by simp only [wrapOk]; omega)) rfl ?_ | refine U_pure E rfl rfl ?_ | refine T_exit rfl ?_ | refine T_condV rfl ?_ | refine U_guard rfl rfl ?_ | ((with_reducible refine Gd_skipT ?_ ?_); exact rfl) | ((with_reducible refine Gd_skipF ?_ ?_); exact rfl))
  refine U_loadB E (by assumption) rfl rfl rfl (by rfl) rfl ?_
  repeat (first | (with_reducible first | apply T_seq | apply T_region | apply U_nil | apply T_skip | apply T_block | apply T_inBlock | apply Cnd_t | apply Cnd_f | apply Cnd_not | apply Cnd_some | apply Cnd_none | apply Gd_nt | apply Gd_nf | apply Gd_some | apply Gd_none | apply Gd_want) | refine U_ar rfl rfl rfl (wrap_k (by simp only [wrapOk]; omega)) rfl ?_ | refine U_cv E rfl rfl rfl (wrap_k (by simp only [wrapOk]; omega)) rfl ?_ | refine U_pure E rfl rfl ?_ | refine T_exit rfl ?_ | refine T_condV rfl ?_ | refine U_guard rfl rfl ?_ | ((with_reducible refine Gd_skipT ?_ ?_); exact rfl) | ((with_reducible refine Gd_skipF ?_ ?_); exact rfl))
  exact T_ret1 Tryz.func16 rfl rfl ⟨_, rfl, rfl, rfl⟩

theorem room_c {D : Dr} (h : Rl w F Fr hb rb g l at_) (hD : Dm w F hb D) (hl : 2 ≤ D.l.length) : Calls Tryz.prog 22 [ptr rb].toArray w (Ret fun r w' => r = .int .i64 ((hsz D : Int) - at_) ∧ Kept none0 w w') := by
  obtain ⟨vl, vs, h1, h2, h3, h4, h5⟩ := h.body
  have hn2 := hD.isD.1.n2
  have ha := h.at1
  have hz : hsz D ≤ 8192 := by unfold hsz; omega
  refine calls_T Tryz.func22 rfl rfl rfl ?_
  unfold ptr at *
  repeat (first | (with_reducible first | apply T_seq | apply T_region | apply U_nil | apply T_skip | apply T_block | apply T_inBlock | apply Cnd_t | apply Cnd_f | apply Cnd_not | apply Cnd_some | apply Cnd_none | apply Gd_nt | apply Gd_nf | apply Gd_some | apply Gd_none | apply Gd_want) | refine U_ar rfl rfl rfl (wrap_k (by simp only [wrapOk]; omega)) rfl ?_ | refine U_cv E rfl rfl rfl (wrap_k (by simp only [wrapOk]; omega)) rfl ?_ | refine U_pure E rfl rfl ?_ | refine T_exit rfl ?_ | refine T_condV rfl ?_ | refine U_guard rfl rfl ?_ | ((with_reducible refine Gd_skipT ?_ ?_); exact rfl) | ((with_reducible refine Gd_skipF ?_ ?_); exact rfl))
  refine L_begin (fun W => Blk W rb [.pointer (some ⟨hb, 0, none⟩), .int .u32 g, vl, .int .i64 at_] 66) 11 (by kernel_rfl) (N := 11) rfl (fun w1 hd1 => ?_)
  have hB := h2.mv (hd1.kept none0) (fun x => x)
  have hD1 := hD.same (hd1.kept none0)
  have hs := size_rc w1 F hb D hD1.isD hl
  unfold ptr at *
  refine L_take 0 rfl (by kernel_rfl) (by kernel_rfl) (by kernel_rfl) (by kernel_rfl) hB rfl rfl rfl (fun a ha w' _ => run_pv E ha rfl _ _ _ _ _) ?_; refine L_take 1 rfl (by kernel_rfl) (by kernel_rfl) (by kernel_rfl) (by kernel_rfl) hB rfl rfl rfl (fun a ha w' _ => run_pv E ha rfl _ _ _ _ _) ?_; refine L_take 2 rfl (by kernel_rfl) (by kernel_rfl) (by kernel_rfl) (by kernel_rfl) hB rfl rfl rfl (fun a ha w' _ => run_pv E ha rfl _ _ _ _ _) ?_
  refine L_take 3 rfl (by kernel_rfl) (by kernel_rfl) (by kernel_rfl) (by kernel_rfl) hB rfl rfl rfl (fun a ha w' hS => ro_loadB E hS rfl rfl rfl rfl a ha) ?_
  refine L_take 5 rfl (by kernel_rfl) (by kernel_rfl) (by kernel_rfl) (by kernel_rfl) hB rfl rfl rfl (fun a ha w' _ => run_pv E ha rfl _ _ _ _ _) ?_; refine L_take 6 rfl (by kernel_rfl) (by kernel_rfl) (by kernel_rfl) (by kernel_rfl) hB rfl rfl rfl (fun a ha w' _ => run_pv E ha rfl _ _ _ _ _) ?_; refine L_take 7 rfl (by kernel_rfl) (by kernel_rfl) (by kernel_rfl) (by kernel_rfl) hB rfl rfl rfl (fun a ha w' _ => run_pv E ha rfl _ _ _ _ _) ?_
  refine L_take 8 rfl (by kernel_rfl) (by kernel_rfl) (by kernel_rfl) (by kernel_rfl) hB rfl rfl rfl (fun a ha w' hS => ro_loadB E hS rfl rfl rfl rfl a ha) ?_
  refine L_op 4 (by kernel_rfl) rfl (fun hc => ?_)
  refine U_call rfl rfl (Tryz.call26 _) (hs) ?_
  rintro r w2 ⟨rfl, rfl⟩
  refine U_nilL hc (fun _ => hB) ?_
  refine L_take 9 rfl (by kernel_rfl) (by kernel_rfl) (by kernel_rfl) (by kernel_rfl) hB rfl rfl rfl (fun a ha w' _ => ro_ar rfl rfl rfl (wrap_k (by simp only [wrapOk]; omega)) a ha) ?_
  refine L_take 10 rfl (by kernel_rfl) (by kernel_rfl) (by kernel_rfl) (by kernel_rfl) hB rfl rfl rfl (fun a ha w' _ => run_pv E ha rfl _ _ _ _ _) ?_
  refine L_done (by kernel_rfl) ?_
  repeat (first | (with_reducible first | apply T_seq | apply T_region | apply U_nil | apply T_skip | apply T_block | apply T_inBlock | apply Cnd_t | apply Cnd_f | apply Cnd_not | apply Cnd_some | apply Cnd_none | apply Gd_nt | apply Gd_nf | apply Gd_some | apply Gd_none | apply Gd_want) | refine U_ar rfl rfl rfl (wrap_k (by simp only [wrapOk]; omega)) rfl ?_ | refine U_cv E rfl rfl rfl (wrap_k (by simp only [wrapOk]; omega)) rfl ?_ | refine U_pure E rfl rfl ?_ | refine T_exit rfl ?_ | refine T_condV rfl ?_ | refine U_guard rfl rfl ?_ | ((with_reducible refine Gd_skipT ?_ ?_); exact rfl) | ((with_reducible refine Gd_skipF ?_ ?_); exact rfl))
  exact T_ret1 Tryz.func22 rfl rfl ⟨_, rfl, rfl, hd1.kept none0⟩

theorem rflush_c {D : Dr} (h : Rl w F Fr hb rb g l at_) (hD : Dm w F hb D) : Calls Tryz.prog 9 [ptr rb].toArray w (Ret fun r w' => r = errV (flErr D) ∧ ∃ F', Own F w F' w' ∧ Dm w' F' hb (flDr D) ∧ Rl w' F' Fr hb rb g l at_) := by
  obtain ⟨vl, vs, h1, h2, h3, h4, h5⟩ := h.body
  have hf := dw_flush w F hb D hD
  refine calls_T Tryz.func9 rfl rfl rfl ?_
  unfold ptr at *
  repeat (first | (with_reducible first | apply T_seq | apply T_region | apply U_nil | apply T_skip | apply T_block | apply T_inBlock | apply Cnd_t | apply Cnd_f | apply Cnd_not | apply Cnd_some | apply Cnd_none | apply Gd_nt | apply Gd_nf | apply Gd_some | apply Gd_none | apply Gd_want) | refine U_ar rfl rfl rfl (wrap_k (by simp only [wrapOk]; omega)) rfl ?_ | refine U_cv E rfl rfl rfl (wrap_k (by simp only [wrapOk]; omega)) rfl ?_ | refine U_pure E rfl rfl ?_ | refine T_exit rfl ?_ | refine T_condV rfl ?_ | refine U_guard rfl rfl ?_ | ((with_reducible refine Gd_skipT ?_ ?_); exact rfl) | ((with_reducible refine Gd_skipF ?_ ?_); exact rfl))
  refine U_loadB E (by assumption) rfl rfl rfl (by rfl) rfl ?_
  repeat (first | (with_reducible first | apply T_seq | apply T_region | apply U_nil | apply T_skip | apply T_block | apply T_inBlock | apply Cnd_t | apply Cnd_f | apply Cnd_not | apply Cnd_some | apply Cnd_none | apply Gd_nt | apply Gd_nf | apply Gd_some | apply Gd_none | apply Gd_want) | refine U_ar rfl rfl rfl (wrap_k (by simp only [wrapOk]; omega)) rfl ?_ | refine U_cv E rfl rfl rfl (wrap_k (by simp only [wrapOk]; omega)) rfl ?_ | refine U_pure E rfl rfl ?_ | refine T_exit rfl ?_ | refine T_condV rfl ?_ | refine U_guard rfl rfl ?_ | ((with_reducible refine Gd_skipT ?_ ?_); exact rfl) | ((with_reducible refine Gd_skipF ?_ ?_); exact rfl))
  refine U_call rfl rfl (Tryz.call28 _) (hf) ?_
  rintro r w1 ⟨rfl, F1, o1, hD1⟩
  repeat (first | (with_reducible first | apply T_seq | apply T_region | apply U_nil | apply T_skip | apply T_block | apply T_inBlock | apply Cnd_t | apply Cnd_f | apply Cnd_not | apply Cnd_some | apply Cnd_none | apply Gd_nt | apply Gd_nf | apply Gd_some | apply Gd_none | apply Gd_want) | refine U_ar rfl rfl rfl (wrap_k (by simp only [wrapOk]; omega)) rfl ?_ | refine U_cv E rfl rfl rfl (wrap_k (by simp only [wrapOk]; omega)) rfl ?_ | refine U_pure E rfl rfl ?_ | refine T_exit rfl ?_ | refine T_condV rfl ?_ | refine U_guard rfl rfl ?_ | ((with_reducible refine Gd_skipT ?_ ?_); exact rfl) | ((with_reducible refine Gd_skipF ?_ ?_); exact rfl))
  exact T_ret1 Tryz.func9 rfl rfl ⟨_, rfl, rfl, F1, o1, hD1, h.drum o1⟩
end

/-- Records as the law has them: a slice of byte slices that reads as l; all of it beside M. -/
def RS (w : World) (G : Nat → Prop) (v : Value) (l : List (List UInt8)) : Prop := ∃ vs, vs.length = l.length ∧ Sl w G v 1 vs.length vs ∧ ∀ (j : Nat) u p, vs[j]? = some u → l[j]? = some p → BS w G u p
theorem RS.mv {w w' : World} {G K : Nat → Prop} {v : Value} {l : List (List UInt8)} (h : RS w G v l) (k : Kept K w w') (hG : ∀ b, b < w.heap.size → G b → ¬ K b) : RS w' G v l := by
  obtain ⟨vs, h1, h2, h3⟩ := h
  exact ⟨vs, h1, h2.mv k hG, fun j u p hu hp => (h3 j u p hu hp).mv k hG⟩
theorem RS.mono {w : World} {G G' : Nat → Prop} {v : Value} {l : List (List UInt8)} (h : RS w G v l) (hG : ∀ b, b < w.heap.size → G b → G' b) : RS w G' v l := by
  obtain ⟨vs, h1, h2, h3⟩ := h
  exact ⟨vs, h1, h2.mono hG, fun j u p hu hp => (h3 j u p hu hp).mono hG⟩
theorem Own.rs {F F' : Nat → Prop} {w w' : World} (o : Own F w F' w') {v : Value} {l : List (List UInt8)} (h : RS w (fun b => ¬ F b) v l) : RS w' (fun b => ¬ F' b) v l :=
  ((h.mono (G' := fun b => ¬ F b ∧ b < w.heap.size) (fun _ hb h => ⟨h, hb⟩)).mv o.kept (fun _ _ h e => h.1 e)).mono (fun b _ hb e => o.out hb.2 hb.1 e)

/-- An own slice of slices. -/
def OS (w : World) (G : Nat → Prop) (v : Value) (l : List (List UInt8)) : Prop := ∃ vs, vs.length = l.length ∧ Row w G v 1 vs.length vs 22 ∧ ∀ (j : Nat) u p, vs[j]? = some u → l[j]? = some p → BS w (fun b => G b ∧ v.ownBlock ≠ some b) u p
theorem OS.rs {w : World} {G : Nat → Prop} {v : Value} {l : List (List UInt8)} (h : OS w G v l) (hl : l.length ≤ 1000000) : RS w G v l := by
  obtain ⟨vs, h1, h2, h3⟩ := h
  exact ⟨vs, h1, h2.sl (by omega), fun j u p hu hp => (h3 j u p hu hp).mono (fun _ _ e => e.1)⟩
set_option maxHeartbeats 2000000 in
theorem records_o {w : World} {F Fr : Nat → Prop} {hb rb g at_ : Nat} {l : List (List UInt8)} (h : Rl w F Fr hb rb g l at_) : Calls Tryz.prog 15 [ptr rb].toArray w (Ret fun r w' => Kept none0 w w' ∧ OS w' (fresh w) r l) := by
  obtain ⟨vl, vs, h1, h2, h3, h4, h5⟩ := h.body
  have hll := h.len
  have hrc := h.recs
  have hsl := h4.sl (by omega)
  obtain ⟨A, c, rfl⟩ := h4.val
  refine calls_T Tryz.func15 rfl rfl rfl ?_
  unfold ptr at *
  repeat (first | (with_reducible first | apply T_seq | apply T_region | apply U_nil | apply T_skip | apply T_block | apply T_inBlock | apply Cnd_t | apply Cnd_f | apply Cnd_not | apply Cnd_some | apply Cnd_none | apply Gd_nt | apply Gd_nf | apply Gd_some | apply Gd_none | apply Gd_want) | refine U_ar rfl rfl rfl (wrap_k (by simp only [wrapOk]; omega)) rfl ?_ | refine U_cv E rfl rfl rfl (wrap_k (by simp only [wrapOk]; omega)) rfl ?_ | refine U_pure E rfl rfl ?_ | refine T_exit rfl ?_ | refine T_condV rfl ?_ | refine U_guard rfl rfl ?_ | ((with_reducible refine Gd_skipT ?_ ?_); exact rfl) | ((with_reducible refine Gd_skipF ?_ ?_); exact rfl))
  refine U_loadB E (by assumption) rfl rfl rfl (by rfl) rfl ?_
  repeat (first | (with_reducible first | apply T_seq | apply T_region | apply U_nil | apply T_skip | apply T_block | apply T_inBlock | apply Cnd_t | apply Cnd_f | apply Cnd_not | apply Cnd_some | apply Cnd_none | apply Gd_nt | apply Gd_nf | apply Gd_some | apply Gd_none | apply Gd_want) | refine U_ar rfl rfl rfl (wrap_k (by simp only [wrapOk]; omega)) rfl ?_ | refine U_cv E rfl rfl rfl (wrap_k (by simp only [wrapOk]; omega)) rfl ?_ | refine U_pure E rfl rfl ?_ | refine T_exit rfl ?_ | refine T_condV rfl ?_ | refine U_guard rfl rfl ?_ | ((with_reducible refine Gd_skipT ?_ ?_); exact rfl) | ((with_reducible refine Gd_skipF ?_ ?_); exact rfl))
  refine T_loop (α := Nat × Value × List Value × World) (fun x => [(13, .int .i64 x.1), (12, .int .i64 vs.length), (11, .slice A vs.length c), (3, x.2.1)]) (fun x => x.2.2.2) (fun x => vs.length - x.1)
    (fun x => x.1 ≤ vs.length ∧ Kept none0 w x.2.2.2 ∧ x.2.2.1.length = x.1 ∧ Row x.2.2.2 (fresh w) x.2.1 1 x.2.2.1.length x.2.2.1 22 ∧
      (∀ (j : Nat) u p, x.2.2.1[j]? = some u → l[j]? = some p → BS x.2.2.2 (fun b => fresh w b ∧ x.2.1.ownBlock ≠ some b) u p)) (0, .slice none 0 0, [], w) ⟨Nat.zero_le _, Kept.refl _ _, rfl, Row.nil _ _ _ _, fun j u p hu => by simp at hu⟩ ⟨rfl, rfl, rfl, rfl, trivial⟩ rfl ?_
  rintro ⟨i, vo, us, w1⟩ ⟨hi, k1, hus, hro, hu⟩ ih
  dsimp only at hi k1 hus hro hu ⊢
  repeat (first | (with_reducible first | apply T_seq | apply T_region | apply U_nil | apply T_skip | apply T_block | apply T_inBlock | apply Cnd_t | apply Cnd_f | apply Cnd_not | apply Cnd_some | apply Cnd_none | apply Gd_nt | apply Gd_nf | apply Gd_some | apply Gd_none | apply Gd_want) | refine U_ar rfl rfl rfl (wrap_k (by simp only [wrapOk]; omega)) rfl ?_ | refine U_cv E rfl rfl rfl (wrap_k (by simp only [wrapOk]; omega)) rfl ?_ | refine U_pure E rfl rfl ?_ | refine T_exit rfl ?_ | refine T_condV rfl ?_ | refine U_guard rfl rfl ?_ | ((with_reducible refine Gd_skipT ?_ ?_); exact rfl) | ((with_reducible refine Gd_skipF ?_ ?_); exact rfl))
  refine Cnd_p (fun hlt => ?_) (fun hlt => ?_)
  · have hlt' : i < vs.length := by omega
    have hlt2 : i < l.length := by omega
    have hg : vs[(i : Int).toNat]? = some vs[i] := by rw [Int.toNat_natCast, List.getElem?_eq_getElem hlt']
    have hvi := (h5 i _ _ (List.getElem?_eq_getElem hlt') (List.getElem?_eq_getElem hlt2)).mv k1 (fun _ _ _ x => x)
    have hpl := hrc _ (List.getElem_mem hlt2)
    have hown := hro.own
    repeat (first | (with_reducible first | apply T_seq | apply T_region | apply U_nil | apply T_skip | apply T_block | apply T_inBlock | apply Cnd_t | apply Cnd_f | apply Cnd_not | apply Cnd_some | apply Cnd_none | apply Gd_nt | apply Gd_nf | apply Gd_some | apply Gd_none | apply Gd_want) | refine U_ar rfl rfl rfl (wrap_k (by simp only [wrapOk]; omega)) rfl ?_ | refine U_cv E rfl rfl rfl (wrap_k (by simp only [wrapOk]; omega)) rfl ?_ | refine U_pure E rfl rfl ?_ | refine T_exit rfl ?_ | refine T_condV rfl ?_ | refine U_guard rfl rfl ?_ | ((with_reducible refine Gd_skipT ?_ ?_); exact rfl) | ((with_reducible refine Gd_skipF ?_ ?_); exact rfl))
    refine U_idx E (hsl.mv k1 (fun _ _ _ x => x)) rfl rfl rfl rfl (by omega) (by omega) (hg) rfl (fun q hq => ?_)
    refine U_load E rfl rfl rfl hq rfl ?_
    repeat (first | (with_reducible first | apply T_seq | apply T_region | apply U_nil | apply T_skip | apply T_block | apply T_inBlock | apply Cnd_t | apply Cnd_f | apply Cnd_not | apply Cnd_some | apply Cnd_none | apply Gd_nt | apply Gd_nf | apply Gd_some | apply Gd_none | apply Gd_want) | refine U_ar rfl rfl rfl (wrap_k (by simp only [wrapOk]; omega)) rfl ?_ | refine U_cv E rfl rfl rfl (wrap_k (by simp only [wrapOk]; omega)) rfl ?_ | refine U_pure E rfl rfl ?_ | refine T_exit rfl ?_ | refine T_condV rfl ?_ | refine U_guard rfl rfl ?_ | ((with_reducible refine Gd_skipT ?_ ?_); exact rfl) | ((with_reducible refine Gd_skipF ?_ ?_); exact rfl))
    refine U_call rfl rfl (Tryz.call30 _) (bclone_c w1 _ vs[i] l[i] hvi (by omega)) ?_
    rintro rc w2 ⟨k2, hc2⟩
    have hc2' : BS w2 (fun b => fresh w b ∧ vo.ownBlock ≠ some b) rc l[i] := hc2.mono (fun b _ hx => ⟨by have := k1.size; simp only [fresh] at *; omega, fun e => by have := (hown b e).2; simp only [fresh] at hx; omega⟩)
    have k2' : Kept none0 w w2 := k1.tr k2 (fun _ _ x => x)
    obtain ⟨Ac, cc, rfl⟩ := hc2'.len
    repeat (first | (with_reducible first | apply T_seq | apply T_region | apply U_nil | apply T_skip | apply T_block | apply T_inBlock | apply Cnd_t | apply Cnd_f | apply Cnd_not | apply Cnd_some | apply Cnd_none | apply Gd_nt | apply Gd_nf | apply Gd_some | apply Gd_none | apply Gd_want) | refine U_ar rfl rfl rfl (wrap_k (by simp only [wrapOk]; omega)) rfl ?_ | refine U_cv E rfl rfl rfl (wrap_k (by simp only [wrapOk]; omega)) rfl ?_ | refine U_pure E rfl rfl ?_ | refine T_exit rfl ?_ | refine T_condV rfl ?_ | refine U_guard rfl rfl ?_ | ((with_reducible refine Gd_skipT ?_ ?_); exact rfl) | ((with_reducible refine Gd_skipF ?_ ?_); exact rfl))
    refine U_buildSlice (sz := 1) E rfl rfl rfl rfl rfl rfl rfl rfl (segs := [[.slice Ac l[i].length cc]]) rfl (by simp) rfl ?_
    intro b3 w3 hn3
    have hlit : Sl w3 (fun x => x = b3) (.slice (some ⟨b3, 0, none⟩) 1 1) 1 1 [.slice Ac l[i].length cc] := ⟨by decide, rfl, _, 1, rfl, Nat.le_refl _, .inr ⟨b3, 0, rfl, rfl, hn3.blk.lt, hn3.blk.whole⟩⟩
    have k13 : Kept none0 w1 w3 := k2.tr hn3.kept (fun _ _ x => x)
    have hro3 := hro.mv k13 (fun _ _ _ x => x)
    refine U_append E hro3 hlit (by simp [Value.oneCell']) rfl rfl rfl rfl rfl (by omega) (by omega) rfl ?_
    intro vo' w4 hr4 k4 _ hob
    have k3' : Kept none0 w w3 := k2'.tr hn3.kept (fun _ _ x => x)
    have s3 := k3'.size
    have k4' : Kept none0 w w4 := k3'.tr k4 (fun j hj e => by have := (hown j e).1; simp only [fresh] at this; omega)
    have past : ∀ u p, BS w3 (fun b => fresh w b ∧ vo.ownBlock ≠ some b) u p → BS w4 (fun b => fresh w b ∧ vo'.ownBlock ≠ some b) u p := fun u p hx =>
      ((hx.mono (G := fun b => (fresh w b ∧ vo.ownBlock ≠ some b) ∧ b < w3.heap.size) (fun _ hb h => ⟨h, hb⟩)).mv k4 (fun _ _ h e => h.1.2 e)).mono (fun b _ h => ⟨h.1.1, fun e => (hob b e).elim h.1.2 (fun e => by omega)⟩)
    repeat (first | (with_reducible first | apply T_seq | apply T_region | apply U_nil | apply T_skip | apply T_block | apply T_inBlock | apply Cnd_t | apply Cnd_f | apply Cnd_not | apply Cnd_some | apply Cnd_none | apply Gd_nt | apply Gd_nf | apply Gd_some | apply Gd_none | apply Gd_want) | refine U_ar rfl rfl rfl (wrap_k (by simp only [wrapOk]; omega)) rfl ?_ | refine U_cv E rfl rfl rfl (wrap_k (by simp only [wrapOk]; omega)) rfl ?_ | refine U_pure E rfl rfl ?_ | refine T_exit rfl ?_ | refine T_condV rfl ?_ | refine U_guard rfl rfl ?_ | ((with_reducible refine Gd_skipT ?_ ?_); exact rfl) | ((with_reducible refine Gd_skipF ?_ ?_); exact rfl))
    refine T.less ?_ (ih (i + 1, vo', us ++ [.slice Ac l[i].length cc], w4) ⟨hlt', k4', by simp [hus], ?_, ?_⟩ (by dsimp only; omega))
    · exact ⟨rfl, rfl, rfl, rfl, trivial⟩
    · dsimp only
      rw [List.length_append]
      exact hr4.mono (fun j _ hj => hj.elim (fun x => x) (fun x => by simp only [fresh]; omega))
    · dsimp only
      intro j u p hju hjp
      rcases Nat.lt_or_ge j us.length with hj | hj
      · rw [List.getElem?_append_left hj] at hju
        exact past u p ((hu j u p hju hjp).mv k13 (fun _ _ _ x => x))
      · rw [List.getElem?_append_right hj] at hju
        have e0 : j = i := by
          have := (List.getElem?_eq_some_iff.1 hju).1
          simp at this
          omega
        subst e0
        rw [show j - us.length = 0 by omega] at hju
        injection hju with hju
        subst hju
        rw [List.getElem?_eq_getElem hlt2] at hjp
        injection hjp with hjp
        subst hjp
        exact past _ _ (hc2'.mv hn3.kept (fun _ _ _ x => x))
  · repeat (first | (with_reducible first | apply T_seq | apply T_region | apply U_nil | apply T_skip | apply T_block | apply T_inBlock | apply Cnd_t | apply Cnd_f | apply Cnd_not | apply Cnd_some | apply Cnd_none | apply Gd_nt | apply Gd_nf | apply Gd_some | apply Gd_none | apply Gd_want) | refine U_ar rfl rfl rfl (wrap_k (by simp only [wrapOk]; omega)) rfl ?_ | refine U_cv E rfl rfl rfl (wrap_k (by simp only [wrapOk]; omega)) rfl ?_ | refine U_pure E rfl rfl ?_ | refine T_exit rfl ?_ | refine T_condV rfl ?_ | refine U_guard rfl rfl ?_ | ((with_reducible refine Gd_skipT ?_ ?_); exact rfl) | ((with_reducible refine Gd_skipF ?_ ?_); exact rfl))
    have he : us.length = l.length := by omega
    refine T_ret1 Tryz.func15 rfl rfl ⟨_, rfl, k1, us, he, hro, hu⟩
theorem records_c {w : World} {F Fr : Nat → Prop} {hb rb g at_ : Nat} {l : List (List UInt8)} (h : Rl w F Fr hb rb g l at_) : Calls Tryz.prog 15 [ptr rb].toArray w (Ret fun r w' => Kept none0 w w' ∧ RS w' (fresh w) r l) := by
  have hl := h.len
  refine (records_o h).mono ?_
  rintro e w' ⟨r, rfl, k, o⟩
  exact ⟨r, rfl, k, o.rs (by omega)⟩
end Go.Proofs.YtoefhdaenaiomaaGreatDoor
