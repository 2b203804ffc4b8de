/- A reel on a drum that may stop: what stands safe, what a fall leaves. The plain law. -/
import Derived.Test.YtoefhdaenaiomaaGreatDoorPk12
import Derived.Laws.IdiomStrings
import Derived.Test.YtoefhdaenaiomaaGreatDoorPk7
set_option linter.unusedVariables false
set_option linter.unusedSimpArgs false
namespace Go.Proofs.YtoefhdaenaiomaaGreatDoor
open Go
set_option maxRecDepth 20000

/-- A limit is of no matter here. -/
abbrev wl (D : Dr) (n : Int) : Dr := { D with left := n }

/-! ### What a sector may hold -/
def Src (l : List (List UInt8)) (ws : List (Nat × List UInt8)) (i : Nat) (v : List UInt8) : Prop := v = l.getD i [] ∨ ∃ p ∈ ws, p.1 = i ∧ p.2 = v
theorem Src.snoc {l : List (List UInt8)} {ws : List (Nat × List UInt8)} {i : Nat} {v : List UInt8} (h : Src l ws i v) (p : Nat × List UInt8) : Src l (ws ++ [p]) i v := by
  rcases h with h | ⟨q, h1, h2⟩
  · exact .inl h
  · exact .inr ⟨q, List.mem_append_left _ h1, h2⟩
theorem now_src (l : List (List UInt8)) (ws : List (Nat × List UInt8)) (i : Nat) : Src l ws i (nowS l ws i) := by
  suffices H : ∀ n, n ≤ ws.length → Src l (ws.take n) i (nowS l (ws.take n) i) by
    have := H ws.length (Nat.le_refl _)
    rwa [List.take_length] at this
  intro n
  induction n with
  | zero => intro _; exact .inl rfl
  | succ n ih =>
    intro hn
    rw [take_snoc ws n (by omega), nowS_snoc]
    by_cases h : (ws[n]).1 = i
    · rw [if_pos h]
      exact .inr ⟨_, List.mem_append_right _ (List.mem_singleton.2 rfl), h, rfl⟩
    · rw [if_neg h]
      exact (ih (by omega)).snoc _

structure FSrc (l : List (List UInt8)) (ws : List (Nat × List UInt8)) (s : FS) : Prop where
  len : s.l.length = l.length
  secs : ∀ i, i < l.length → Src l ws i (s.l.getD i [])
  last : 0 ≤ s.last → ∃ p, ws[s.last.toNat]? = some p ∧ s.l.getD p.1 [] = p.2 ∧ Src l ws p.1 s.old
  neg : s.last < 0 → s.l = l
theorem getD_set {l : List (List UInt8)} {i j : Nat} {v : List UInt8} (hi : i < l.length) : (l.set i v).getD j [] = if i = j then v else l.getD j [] := by
  rw [List.getD_eq_getElem?_getD, List.getElem?_set]
  by_cases h : i = j
  · rw [if_pos h, if_pos h, if_pos hi]; rfl
  · rw [if_neg h, if_neg h, List.getD_eq_getElem?_getD]
theorem fgo_src (keep : List Bool) (l : List (List UInt8)) (ws : List (Nat × List UInt8)) (h : ∀ p ∈ ws, p.1 < l.length) : FSrc l ws (fgo keep l ws) := by
  suffices H : ∀ n, n ≤ ws.length → FSrc l (ws.take n) (fgo keep l (ws.take n)) ∧ (fgo keep l (ws.take n)).last < n by
    have := (H ws.length (Nat.le_refl _)).1
    rwa [List.take_length] at this
  intro n
  induction n with
  | zero => intro _; exact ⟨⟨rfl, fun i _ => .inl rfl, fun e => absurd e (by show ¬ (0 : Int) ≤ -1; decide), fun _ => rfl⟩, by show (-1 : Int) < 0; decide⟩
  | succ n ih =>
    intro hn
    obtain ⟨ih, ihl⟩ := ih (by omega)
    have hp := h _ (List.getElem_mem (show n < ws.length by omega))
    rw [take_snoc ws n (by omega), fgo_snoc, fstep]
    have hlk : (ws.take n).length = n := by simp; omega
    dsimp only
    rw [hlk]
    have hpl : (ws[n]).1 < (fgo keep l (ws.take n)).l.length := by rw [ih.len]; exact hp
    split
    · refine ⟨⟨by simp [ih.len], fun i hi => ?_, fun _ => ⟨ws[n], ?_, ?_, ?_⟩, fun e => by dsimp only at e; omega⟩, by dsimp only; omega⟩
      · dsimp only
        rw [getD_set hpl]
        by_cases e : (ws[n]).1 = i
        · rw [if_pos e]
          exact .inr ⟨_, List.mem_append_right _ (List.mem_singleton.2 rfl), e, rfl⟩
        · rw [if_neg e]
          exact (ih.secs i hi).snoc _
      · dsimp only
        rw [Int.toNat_natCast, List.getElem?_append_right (by omega), hlk, Nat.sub_self]
        rfl
      · dsimp only
        rw [getD_set hpl, if_pos rfl]
      · dsimp only
        exact (ih.secs _ hp).snoc _
    · refine ⟨⟨ih.len, fun i hi => (ih.secs i hi).snoc _, fun e => ?_, ih.neg⟩, by omega⟩
      obtain ⟨p, h1, h2, h3⟩ := ih.last e
      exact ⟨p, by rw [List.getElem?_append_left (by rw [hlk]; omega)]; exact h1, h2, h3.snoc _⟩

/-- What a fall leaves in a sector. -/
theorem fall_sec (D : Dr) (keep : List Bool) (torn : Int) (h : ∀ p ∈ D.wait, p.1 < D.l.length) :
    (drFall D keep torn).wait = [] ∧ (drFall D keep torn).left = -1 ∧ (drFall D keep torn).l.length = D.l.length ∧
      ∀ i, i < D.l.length → Src D.l D.wait i (dv (drFall D keep torn) i) ∨ ∃ p ∈ D.wait, p.1 = i ∧ ∃ o t, Src D.l D.wait i o ∧ t < 256 ∧ dv (drFall D keep torn) i = p.2.take t ++ o.drop t := by
  have hs := fgo_src keep D.l D.wait h
  obtain ⟨s, hse⟩ : ∃ s, fgo keep D.l D.wait = s := ⟨_, rfl⟩
  rw [hse] at hs
  have hF : drFall D keep torn = ⟨if 0 ≤ s.last ∧ 0 ≤ torn ∧ torn < 256 then s.l.set (D.wait.getD s.last.toNat (0, [])).1 ((s.l.getD (D.wait.getD s.last.toNat (0, [])).1 []).take torn.toNat ++ s.old.drop torn.toNat) else s.l, [], -1⟩ := by
    rw [drFall, hse]
  rw [hF]
  refine ⟨rfl, rfl, by dsimp only; split <;> simp [hs.len], fun i hi => ?_⟩
  unfold dv
  dsimp only
  split
  · rename_i hc
    obtain ⟨p, p1, p2, p3⟩ := hs.last hc.1
    have pm := List.mem_of_getElem? p1
    have pe : D.wait.getD s.last.toNat (0, []) = p := by rw [List.getD_eq_getElem?_getD, p1, Option.getD_some]
    rw [pe, getD_set (by rw [hs.len]; exact h p pm), p2]
    by_cases e : p.1 = i
    · rw [if_pos e]
      subst e
      exact .inr ⟨p, pm, rfl, s.old, torn.toNat, p3, by omega, rfl⟩
    · rw [if_neg e]
      exact .inl (hs.secs i hi)
  · exact .inl (hs.secs i hi)

/-! ### What stands safe -/
/-- A generation's records stand on the drum, or wait; the first of them, sure, stand. -/
structure Old (D : Dr) (g : Nat) (l : List (List UInt8)) (sure : Nat) : Prop where
  size : 6 ≤ D.l.length ∧ D.l.length ≤ 7000
  gen : 1 ≤ g ∧ g < 4294967290
  sure1 : 1 ≤ sure ∧ sure ≤ l.length
  head : dv D (g % 2) = hdS g
  oth : headS (dv D ((g + 1) % 2)) ((g + 1) % 2) < g
  othl : (dv D ((g + 1) % 2)).length = 256
  othm : (dv D ((g + 1) % 2))[255]? ≠ some (hdm (g + 1))
  waits : ∀ p ∈ D.wait, 2 ≤ p.1 ∧ p.1 < D.l.length
  fits : (allP g 0 l).length ≤ hsz D
  pages : ∀ j s, (allP g 0 l)[j]? = some s → dv D (base D g + j) = s ∨ ((allP g 0 (l.take sure)).length ≤ j ∧ dv D (base D g + j) = zeros 256)
  clean : ∀ j, (allP g 0 l).length ≤ j → j < hsz D → dv D (base D g + j) = zeros 256
  pend : ∀ p ∈ D.wait, base D g ≤ p.1 → p.1 < base D g + hsz D → (allP g 0 l)[p.1 - base D g]? = some p.2
  recs : ∀ i p, l[i]? = some p → p.length ≤ 100000 ∧ ¬ zz (frm (sdr g i) p)

theorem Old.wl {D : Dr} {g sure : Nat} {l : List (List UInt8)} (h : Old D g l sure) (n : Int) : Old (wl D n) g l sure := ⟨h.size, h.gen, h.sure1, h.head, h.oth, h.othl, h.othm, h.waits, h.fits, h.pages, h.clean, h.pend, h.recs⟩
theorem Ri.wl {D : Dr} {g : Nat} {l : List (List UInt8)} (h : Ri D g l) (n : Int) : Ri (wl D n) g l := h.same rfl (fun _ => rfl)
theorem allP_take_le (g : Nat) (l : List (List UInt8)) (n : Nat) : (allP g 0 (l.take n)).length ≤ (allP g 0 l).length := by
  have e : allP g 0 l = allP g 0 (l.take n) ++ allP g (0 + (l.take n).length) (l.drop n) := by rw [← allP_app, List.take_append_drop]
  rw [e, List.length_append]
  omega
theorem allP_take_get (g : Nat) (l : List (List UInt8)) (n j : Nat) (h : j < (allP g 0 (l.take n)).length) : (allP g 0 (l.take n))[j]? = (allP g 0 l)[j]? := by
  have e : allP g 0 l = allP g 0 (l.take n) ++ allP g (0 + (l.take n).length) (l.drop n) := by rw [← allP_app, List.take_append_drop]
  rw [e, List.getElem?_append_left h]
theorem allP_take_mono (g : Nat) (l : List (List UInt8)) {n m : Nat} (h : n ≤ m) : (allP g 0 (l.take n)).length ≤ (allP g 0 (l.take m)).length := by
  have := allP_take_le g (l.take m) n
  rwa [List.take_take, Nat.min_eq_left h] at this
/-- Less is sure. -/
theorem Old.less {D : Dr} {g n m : Nat} {l : List (List UInt8)} (h : Old D g l m) (h1 : 1 ≤ n) (h2 : n ≤ m) : Old D g l n :=
  ⟨h.size, h.gen, ⟨h1, by have := h.sure1; omega⟩, h.head, h.oth, h.othl, h.othm, h.waits, h.fits, fun j s hs => (h.pages j s hs).imp_right (fun e => ⟨Nat.le_trans (allP_take_mono g l h2) e.1, e.2⟩), h.clean, h.pend, h.recs⟩

/-- All that there is is flushed. -/
structure Firm (D : Dr) (g : Nat) (l : List (List UInt8)) : Prop where
  wait : D.wait = []
  ri : Ri D g l
  gen : g < 4294967290
  othl : (dv D ((g + 1) % 2)).length = 256
  othm : (dv D ((g + 1) % 2))[255]? ≠ some (hdm (g + 1))
theorem Firm.dv {D : Dr} {g : Nat} {l : List (List UInt8)} (h : Firm D g l) (j : Nat) : vw D j = dv D j := by
  unfold vw
  rw [h.wait]
  rfl
theorem Firm.old {D : Dr} {g : Nat} {l : List (List UInt8)} (h : Firm D g l) : Old D g l l.length :=
  ⟨h.ri.size, ⟨h.ri.gen.1, h.gen⟩, ⟨h.ri.ne, Nat.le_refl _⟩, by rw [← h.dv]; exact h.ri.head, by rw [← h.dv]; exact h.ri.other, h.othl, h.othm, fun p hp => by rw [h.wait] at hp; simp at hp, h.ri.fits, fun j s hs => .inl (by rw [← h.dv]; exact h.ri.pages j s hs), fun j h1 h2 => by rw [← h.dv]; exact h.ri.clean j h1 h2, fun p hp => by rw [h.wait] at hp; simp at hp, h.ri.recs⟩

theorem hdS_len (g : Nat) : (hdS g).length = 256 := by rw [hdS]; exact mrk_len _ _
theorem hdS_0 (g : Nat) : (hdS g)[0]? = some (hdm g) := by rw [hdS]; exact mrk_0 _ _
theorem hdS_255 (g : Nat) : (hdS g)[255]? = some (hdm g) := by rw [hdS]; exact mrk_255 _ _
theorem hdm_ne (g : Nat) : hdm g ≠ hdm (g + 2) := by
  intro e
  have e' := congrArg UInt8.toNat e
  unfold hdm at e'
  rw [UInt8.toNat_ofNat', UInt8.toNat_ofNat'] at e'
  omega

/-! ### What is found behind a fall -/
theorem torn_not_bare {D : Dr} {i : Nat} {s : List UInt8} {t : Nat} (hs : s[0]? = some 165) (h0 : 0 < t) (ht : t < 256) (hsl : s.length = 256) (h : vw D i = s.take t ++ (zeros 256).drop t) : bareD D (i : Int) 165 = none := by
  unfold vw at h
  simp only [bareD, Int.toNat_natCast, h]
  rw [if_neg]
  rintro ⟨_, _, e⟩
  rw [List.getElem?_append_right (by rw [List.length_take]; omega), List.getElem?_drop, List.length_take, hsl, Nat.min_eq_left (by omega), zeros_get, if_pos (by omega)] at e
  exact absurd e (by decide)

theorem recR_miss {D : Dr} {g n at_ : Nat} {p : List UInt8} {m : Nat} (hs : at_ + pgs p.length ≤ hsz D) (hb : base D g + at_ + pgs p.length ≤ D.l.length) (hp : p.length ≤ 100000) (hm : m < pgs p.length)
    (hv : ∀ j, j < m → vw D (base D g + at_ + j) = page (frm (sdr g n) p) j) (hx : bareD D ((base D g + at_ + m : Nat) : Int) 165 = none) :
    ∀ (d f k : Nat) (all : List UInt8), 1 ≤ k → k + d = m + 1 → all = (frm (sdr g n) p).take (254 * (k - 1)) → recR D g n at_ f k all = none := by
  have hX : (frm (sdr g n) p).length = p.length + 8 := frm_len _ _
  have hP : pgs p.length = (p.length + 8 + 253) / 254 := rfl
  intro d
  induction d with
  | zero =>
    intro f k all hk hd hall
    cases f with
    | zero => rfl
    | succ f =>
      rw [recR, if_pos (by omega), show ((base D g + at_ + k : Nat) : Int) - 1 = ((base D g + at_ + m : Nat) : Int) by omega, hx]
  | succ d ih =>
    intro f k all hk hd hall
    cases f with
    | zero => rfl
    | succ f =>
      have hbr := bare_mrk (D := D) (i := base D g + at_ + (k - 1)) (by omega) (hv (k - 1) (by omega))
      rw [recR, if_pos (by omega), show ((base D g + at_ + k : Nat) : Int) - 1 = ((base D g + at_ + (k - 1) : Nat) : Int) by omega, hbr]
      dsimp only
      have hcat : all ++ ((((frm (sdr g n) p).drop (254 * (k - 1))).take 254) ++ zeros 254).take 254 = (frm (sdr g n) p).take (254 * (k + 1 - 1)) := by
        rw [hall, List.take_append_of_le_length (by rw [List.length_take, List.length_drop]; omega), List.take_of_length_le (l := ((frm (sdr g n) p).drop (254 * (k - 1))).take 254) (by rw [List.length_take]; omega)]
        rw [show 254 * (k + 1 - 1) = 254 * (k - 1) + 254 by omega, List.take_add]
      rw [hcat, frm_take_val (by omega) (by omega), if_pos (.inr (by omega))]
      exact ih f (k + 1) _ (by omega) (by omega) rfl

/-- A drum behind a fall: each page stands, or it is not bare. -/
structure Fell (D : Dr) (g : Nat) (l : List (List UInt8)) (sure : Nat) : Prop where
  on : On D
  wait : D.wait = []
  size : 6 ≤ D.l.length ∧ D.l.length ≤ 7000
  gen : 1 ≤ g ∧ g < 4294967290
  sure1 : 1 ≤ sure ∧ sure ≤ l.length
  head : dv D (g % 2) = hdS g
  oth : headS (dv D ((g + 1) % 2)) ((g + 1) % 2) < g
  othl : (dv D ((g + 1) % 2)).length = 256
  othm : (dv D ((g + 1) % 2))[255]? ≠ some (hdm (g + 1))
  fits : (allP g 0 l).length ≤ hsz D
  pages : ∀ j s, (allP g 0 l)[j]? = some s → dv D (base D g + j) = s ∨ ((allP g 0 (l.take sure)).length ≤ j ∧ bareD D ((base D g + j : Nat) : Int) 165 = none)
  clean : ∀ j, (allP g 0 l).length ≤ j → j < hsz D → dv D (base D g + j) = zeros 256
  recs : ∀ i p, l[i]? = some p → p.length ≤ 100000 ∧ ¬ zz (frm (sdr g i) p)
theorem vw_dv {D : Dr} (h : D.wait = []) (j : Nat) : vw D j = dv D j := by
  unfold vw
  rw [h]
  rfl

theorem allP_page (g : Nat) : ∀ (l : List (List UInt8)) (i : Nat), ∀ s ∈ allP g i l, s.length = 256 ∧ s[0]? = some 165
  | [], i, s, h => by simp [allP] at h
  | p :: l, i, s, h => by
    rw [allP] at h
    rcases List.mem_append.1 h with h | h
    · rw [lay] at h
      obtain ⟨j, _, rfl⟩ := List.mem_map.1 h
      exact ⟨mrk_len _ _, mrk_0 _ _⟩
    · exact allP_page g l (i + 1) s h

theorem Old.fell {D : Dr} {g sure : Nat} {l : List (List UInt8)} (h : Old D g l sure) (keep : List Bool) (torn : Int) : Fell (drFall D keep torn) g l sure := by
  obtain ⟨f1, f2, f3, f4⟩ := fall_sec D keep torn (fun p hp => (h.waits p hp).2)
  have h6 := h.size
  have hbh := base_hsz D g (by omega)
  have hb2 : 2 ≤ base D g := by unfold base; omega
  have hhead : ∀ i, i < 2 → dv (drFall D keep torn) i = dv D i := by
    intro i hi
    rcases f4 i (by omega) with e | ⟨p, p1, p2, _⟩
    · rcases e with e | ⟨p, p1, p2, _⟩
      · exact e
      · have := (h.waits p p1).1; omega
    · have := (h.waits p p1).1; omega
  have hB : base (drFall D keep torn) g = base D g := base_len f3 g
  have hZ : hsz (drFall D keep torn) = hsz D := hsz_len f3
  refine ⟨⟨f2, fun p hp => by rw [f1] at hp; simp at hp⟩, f1, by rw [f3]; exact h6, h.gen, h.sure1, by rw [hhead _ (by omega)]; exact h.head, by rw [hhead _ (by omega)]; exact h.oth, by rw [hhead _ (by omega)]; exact h.othl, by rw [hhead _ (by omega)]; exact h.othm, by rw [hZ]; exact h.fits, fun j s hs => ?_, fun j h1 h2 => ?_, h.recs⟩
  · rw [hB]
    have hjl := (List.getElem?_eq_some_iff.1 hs).1
    have hf := h.fits
    obtain ⟨hs256, hs0⟩ := allP_page g l 0 s (List.mem_of_getElem? hs)
    have hv : vw (drFall D keep torn) (base D g + j) = dv (drFall D keep torn) (base D g + j) := vw_dv f1 _
    have hsrc : ∀ v, Src D.l D.wait (base D g + j) v → v = s ∨ ((allP g 0 (l.take sure)).length ≤ j ∧ v = zeros 256) := by
      rintro v (e | ⟨p, p1, p2, rfl⟩)
      · rcases h.pages j s hs with e2 | e2
        · exact .inl (e.trans e2)
        · exact .inr ⟨e2.1, e.trans e2.2⟩
      · left
        have := h.pend p p1 (by omega) (by omega)
        rw [show p.1 - base D g = j by omega, hs] at this
        injection this with this
        exact this.symm
    have hzero : (allP g 0 (l.take sure)).length ≤ j → dv (drFall D keep torn) (base D g + j) = zeros 256 → ((allP g 0 (l.take sure)).length ≤ j ∧ bareD (drFall D keep torn) ((base D g + j : Nat) : Int) 165 = none) := fun h1 h2 => ⟨h1, bare_zero (hv.trans h2)⟩
    rcases f4 (base D g + j) (by omega) with e | ⟨p, p1, p2, o, t, e1, e2, e3⟩
    · rcases hsrc _ e with e | e
      · exact .inl e
      · exact .inr (hzero e.1 e.2)
    · have hp2 : p.2 = s := by
        have := h.pend p p1 (by omega) (by omega)
        rw [show p.1 - base D g = j by omega, hs] at this
        injection this with this
        exact this.symm
      rw [hp2] at e3
      rcases hsrc o e1 with e | ⟨e, rfl⟩
      · left
        rw [e3, e, List.take_append_drop]
      · rcases Nat.eq_zero_or_pos t with ht | ht
        · subst ht
          exact .inr (hzero e (by rw [e3, List.take_zero, List.drop_zero, List.nil_append]))
        · exact .inr ⟨e, torn_not_bare hs0 ht e2 hs256 (hv.trans e3)⟩
  · rw [hZ] at h2
    rw [hB]
    rcases f4 (base D g + j) (by omega) with e | ⟨p, p1, p2, _⟩
    · rcases e with e | ⟨p, p1, p2, _⟩
      · exact e.trans (h.clean j h1 h2)
      · have := h.pend p p1 (by omega) (by omega)
        rw [show p.1 - base D g = j by omega, List.getElem?_eq_none h1] at this
        cases this
    · have := h.pend p p1 (by omega) (by omega)
      rw [show p.1 - base D g = j by omega, List.getElem?_eq_none h1] at this
      cases this

theorem Fell.gen' {D : Dr} {g sure : Nat} {l : List (List UInt8)} (h : Fell D g l sure) : opG D = g := by
  have h1 := headS_hdS h.gen.1 (by have := h.gen.2; omega)
  have h2 := h.head
  have h3 := h.oth
  have e0 : nowS D.l D.wait 0 = dv D 0 := vw_dv h.wait 0
  have e1 : nowS D.l D.wait 1 = dv D 1 := vw_dv h.wait 1
  unfold opG headD
  rw [e0, e1]
  rcases Nat.mod_two_eq_zero_or_one g with e | e
  · have e' : (g + 1) % 2 = 1 := by omega
    rw [e] at h1 h2
    rw [e'] at h3
    rw [h2, h1, if_neg (by omega)]
  · have e' : (g + 1) % 2 = 0 := by omega
    rw [e] at h1 h2
    rw [e'] at h3
    rw [h2, h1, if_pos (by omega)]

theorem first_miss {P : Nat → Prop} [DecidablePred P] : ∀ n, (∀ j, j < n → P j) ∨ ∃ m, m < n ∧ (∀ j, j < m → P j) ∧ ¬ P m
  | 0 => .inl (fun j hj => by omega)
  | n + 1 => by
    rcases first_miss (P := P) n with h | ⟨m, m1, m2⟩
    · by_cases hd : P n
      · left
        intro j hj
        rcases Nat.lt_or_ge j n with hjn | hjn
        · exact h j hjn
        · rw [show j = n by omega]; exact hd
      · exact .inr ⟨n, by omega, h, hd⟩
    · exact .inr ⟨m, by omega, m2⟩

/-- The scan stops where a page is missing. -/
theorem Fell.scan {D : Dr} {g sure : Nat} {l : List (List UInt8)} (h : Fell D g l sure) : ∀ (l2 l1 : List (List UInt8)) (f : Nat), l = l1 ++ l2 → l2.length < f →
    (∀ j s, j < (allP g 0 l1).length → (allP g 0 l)[j]? = some s → dv D (base D g + j) = s) →
    ∃ k, l1.length ≤ k ∧ sure ≤ k ∧ k ≤ l.length ∧ scanR D g f l1 (allP g 0 l1).length = (l.take k, (allP g 0 (l.take k)).length) ∧ ∀ j s, j < (allP g 0 (l.take k)).length → (allP g 0 l)[j]? = some s → dv D (base D g + j) = s
  | [], l1, f, e, hf, hv => by
    obtain ⟨f, rfl⟩ : ∃ f', f = f' + 1 := ⟨f - 1, by omega⟩
    rw [List.append_nil] at e
    subst e
    refine ⟨l.length, Nat.le_refl _, h.sure1.2, Nat.le_refl _, ?_, by rw [List.take_length]; exact hv⟩
    rw [List.take_length, scanR, recD_none (fun hlt => by rw [vw_dv h.wait]; exact h.clean _ (Nat.le_refl _) hlt)]
  | p :: l2, l1, f, e, hf, hv => by
    obtain ⟨f, rfl⟩ : ∃ f', f = f' + 1 := ⟨f - 1, by omega⟩
    have hfit := h.fits
    have h6 := h.size
    have hbh := base_hsz D g (by omega)
    have hlen : (allP g 0 l).length = (allP g 0 l1).length + (pgs p.length + (allP g (0 + l1.length + 1) l2).length) := by
      rw [e, allP_app, List.length_append, allP, List.length_append, lay_len]
    have hr := h.recs l1.length p (by rw [e, List.getElem?_append_right (Nat.le_refl _), Nat.sub_self]; rfl)
    have hpp := pgs_pos p.length
    have hget : ∀ j, j < pgs p.length → (allP g 0 l)[(allP g 0 l1).length + j]? = some (page (frm (sdr g l1.length) p) j) := fun j hj => by rw [e]; exact allP_get hj
    have hl1e : l.take l1.length = l1 := by rw [e, List.take_left' rfl]
    rcases first_miss (P := fun j => dv D (base D g + ((allP g 0 l1).length + j)) = page (frm (sdr g l1.length) p) j) (pgs p.length) with hall | ⟨m, m1, m2, m3⟩
    · have hrec : recD D g l1.length (allP g 0 l1).length = some (p, pgs p.length) := by
        refine recR_page (by omega) (by omega) hr.1 hr.2 (fun j hj => ?_) (pgs p.length - 1) (hsz D + 1) 1 [] (Nat.le_refl 1) (by omega) (by omega) (by simp)
        rw [Nat.add_assoc, vw_dv h.wait]
        exact hall j hj
      rw [scanR, hrec]
      dsimp only
      have hA : (allP g 0 (l1 ++ [p])).length = (allP g 0 l1).length + pgs p.length := by rw [allP_snoc, List.length_append, lay_len]
      obtain ⟨k, k1, k2, k3, k4, k5⟩ := h.scan l2 (l1 ++ [p]) f (by rw [e]; simp) (by simp at hf; omega) (fun j s hj hs => by
        rcases Nat.lt_or_ge j (allP g 0 l1).length with hj1 | hj1
        · exact hv j s hj1 hs
        · rw [hA] at hj
          have := hall (j - (allP g 0 l1).length) (by omega)
          have hg := hget (j - (allP g 0 l1).length) (by omega)
          rw [show (allP g 0 l1).length + (j - (allP g 0 l1).length) = j by omega] at this hg
          rw [hs] at hg
          injection hg with hg
          rw [this, hg])
      rw [hA] at k4
      exact ⟨k, by simp at k1; omega, k2, k3, k4, k5⟩
    · have hmiss := (h.pages _ _ (hget m m1)).resolve_left m3
      have hrec : recD D g l1.length (allP g 0 l1).length = none := by
        refine recR_miss (p := p) (m := m) (by omega) (by omega) hr.1 m1 (fun j hj => ?_) (by rw [Nat.add_assoc]; exact hmiss.2) m (hsz D + 1) 1 [] (Nat.le_refl 1) (by omega) (by simp)
        rw [Nat.add_assoc, vw_dv h.wait]
        exact m2 j hj
      have hsure : sure ≤ l1.length := by
        rcases Nat.lt_or_ge l1.length sure with hlt | hge
        · exfalso
          have e2 : l.take (l1.length + 1) = l1 ++ [p] := by
            rw [e]
            simp [List.take_append]
            exact List.take_of_length_le (by omega)
          have := allP_take_mono g l (show l1.length + 1 ≤ sure from hlt)
          rw [e2, allP_snoc, List.length_append, lay_len] at this
          omega
        · exact hge
      refine ⟨l1.length, Nat.le_refl _, hsure, by rw [e]; simp, ?_, by rw [hl1e]; exact hv⟩
      rw [scanR, hrec, hl1e]

theorem wipe_some : ∀ (n i : Nat) (D : Dr), (wipeR n i true D).1 = true
  | 0, i, D => rfl
  | n + 1, i, D => by
    rw [wipeR]
    split
    · exact wipe_some n _ _
    · split
      · exact wipe_some n _ _
      · rfl
theorem wipe_false : ∀ (n i : Nat) (s : Bool) (D : Dr), (wipeR n i s D).1 = false → (wipeR n i s D).2.2 = D
  | 0, _, _, _, _ => rfl
  | n + 1, i, s, D, h => by
    rw [wipeR] at h ⊢
    by_cases h1 : cleanD D i
    · rw [if_pos h1] at h ⊢
      exact wipe_false n (i + 1) s D h
    · rw [if_neg h1] at h
      split at h
      · rw [wipe_some] at h; cases h
      · cases h

/-- What Open finds behind a fall. -/
theorem Fell.opens {D : Dr} {g sure : Nat} {l : List (List UInt8)} (h : Fell D g l sure) :
    ∃ k, sure ≤ k ∧ k ≤ l.length ∧ (opF D).1 = 0 ∧ opG D = g ∧ opS D = (l.take k, (allP g 0 (l.take k)).length) ∧ On (opF D).2 ∧ Firm (opF D).2 g (l.take k) ∧ (opF D).2.l.length = D.l.length := by
  have h6 := h.size
  have hbh := base_hsz D g (by omega)
  have hb2 : 2 ≤ base D g := by unfold base; omega
  have hfit := h.fits
  have hge := allP_ge g l 0
  have hG := h.gen'
  obtain ⟨k, _, k2, k3, k4, k5⟩ := h.scan l [] (hsz D + 1) rfl (by omega) (fun j s hj => by simp [allP] at hj)
  have hS : opS D = (l.take k, (allP g 0 (l.take k)).length) := by
    rw [opS, hG]
    exact k4
  have hkl : (l.take k).length = k := by rw [List.length_take]; omega
  have hs1 := h.sure1
  have hg1 := h.gen
  have hle := opS_le D
  rw [hS] at hle
  dsimp only at hle
  obtain ⟨a0, a1, a2, a3⟩ := wipe_on (hsz D - (opS D).2) (base D (opG D) + (opS D).2) false D h.on (by rw [hS, hG]; dsimp only; omega)
  have hwf := wipe_false (hsz D - (opS D).2) (base D (opG D) + (opS D).2) false D
  have hF : opF D = tidF (wipeR (hsz D - (opS D).2) (base D (opG D) + (opS D).2) false D) := by
    rw [opF, if_neg (by omega), if_neg (by omega), if_neg (by rw [hS]; dsimp only; omega)]
  have h0 : (opF D).1 = 0 := by
    rw [hF, tidF]
    split
    · exact (fl_on a1).1
    · exact a0
  obtain ⟨c1, c2, c3, c4, c5, c6⟩ := open_leaves h.on h6 h0
  rw [hG, hS] at c6
  dsimp only at c6
  have hw : (opF D).2.wait = [] := by
    rw [hF, tidF]
    split
    · exact (fl_on a1).2.2.2.1
    · rename_i hc
      rw [hwf (by
        cases e : (wipeR (hsz D - (opS D).2) (base D (opG D) + (opS D).2) false D).1 with
        | true => exact absurd ⟨a0, e⟩ hc
        | false => rfl)]
      exact h.wait
  obtain ⟨D', hD'⟩ : ∃ D', (opF D).2 = D' := ⟨_, rfl⟩
  rw [hD'] at c1 c2 c3 c6 hw ⊢
  have hdv : ∀ j, dv D' j = vw D' j := fun j => (vw_dv hw j).symm
  have hz : ∀ i, i < 2 → vw D' i = dv D i := fun i hi => by rw [c6, if_neg (by omega), vw_dv h.wait]
  refine ⟨k, k2, k3, h0, hG, hS, c1, ⟨hw, ?_, h.gen.2, by rw [hdv, hz _ (by omega)]; exact h.othl, by rw [hdv, hz _ (by omega)]; exact h.othm⟩, c2⟩
  refine ⟨by rw [c2]; exact h6, ⟨h.gen.1, by have := h.gen.2; omega⟩, by omega, by rw [hz _ (by omega)]; exact h.head, by rw [hz _ (by omega)]; exact h.oth, by rw [hsz_len c2]; exact hle, fun j s hs => ?_, fun j h1 h2 => ?_, fun i p hi => h.recs i p ?_⟩
  · have hjl := (List.getElem?_eq_some_iff.1 hs).1
    rw [base_len c2, c6, if_neg (by omega), vw_dv h.wait]
    exact k5 j s hjl (by rw [← allP_take_get g l k j hjl]; exact hs)
  · rw [hsz_len c2] at h2
    rw [base_len c2, c6, if_pos ⟨by omega, by omega⟩]
  · rw [List.getElem?_take] at hi
    split at hi
    · exact hi
    · cases hi
end Go.Proofs.YtoefhdaenaiomaaGreatDoor

/- The acts on a drum that may stop. The plain law. -/
namespace Go.Proofs.YtoefhdaenaiomaaGreatDoor
open Go
set_option maxRecDepth 20000

/-! ### A limit is of no matter where all goes well -/
theorem wr_wl {D : Dr} {i : Int} {p : List UInt8} (h : wrErr D i p = 0) : wrErr (wl D (-1)) i p = 0 ∧ wrDr (wl D (-1)) i p = wl (wrDr D i p) (-1) := by
  have h1 : wrErr (wl D (-1)) i p = 0 := by
    unfold wrErr at h ⊢
    split at h
    · rename_i h1
      rw [if_pos (by exact h1)]
      split at h
      · cases h
      · rename_i h2
        rw [if_neg h2]
        rfl
    · cases h
  refine ⟨h1, ?_⟩
  rw [wrDr, if_pos h1, wrDr, if_pos h]
  rfl
theorem wipe_wl : ∀ (n i : Nat) (s : Bool) (D : Dr), (wipeR n i s D).2.1 = 0 → wipeR n i s (wl D (-1)) = ((wipeR n i s D).1, 0, wl (wipeR n i s D).2.2 (-1))
  | 0, _, _, _, _ => rfl
  | n + 1, i, s, D, h => by
    rw [wipeR] at h
    rw [wipeR, wipeR]
    by_cases h1 : cleanD D i
    · rw [if_pos h1] at h
      rw [if_pos (show cleanD (wl D (-1)) i from h1), if_pos h1]
      exact wipe_wl n (i + 1) s D h
    · rw [if_neg h1] at h
      rw [if_neg (show ¬ cleanD (wl D (-1)) i from h1), if_neg h1]
      by_cases h2 : wrErr D i [] = 0
      · rw [if_pos h2] at h
        obtain ⟨e1, e2⟩ := wr_wl h2
        rw [if_pos e1, if_pos h2, e2]
        exact wipe_wl n (i + 1) true _ h
      · rw [if_neg h2] at h
        exact absurd h h2
theorem put_wl : ∀ (n pos : Nat) (f : List UInt8) (D : Dr), (putR n pos f D).1 = 0 → putR n pos f (wl D (-1)) = (0, wl (putR n pos f D).2 (-1))
  | 0, _, _, _, _ => rfl
  | n + 1, pos, f, D, h => by
    rw [putR] at h
    rw [putR, putR]
    by_cases h1 : f = []
    · rw [if_pos h1, if_pos h1]
    · rw [if_neg h1] at h
      rw [if_neg h1, if_neg h1]
      by_cases h2 : wrErr D (pos : Int) (mrk 165 (f.take 254)) = 0
      · rw [if_pos h2] at h
        obtain ⟨e1, e2⟩ := wr_wl h2
        rw [if_pos e1, if_pos h2, e2]
        exact put_wl n (pos + 1) (f.drop 254) _ h
      · rw [if_neg h2] at h
        exact absurd h h2
theorem fl_wl {D : Dr} (h : flErr D = 0) : flErr (wl D (-1)) = 0 ∧ flDr (wl D (-1)) = wl (flDr D) (-1) := by
  have h0 : D.left ≠ 0 := by
    intro e
    rw [flErr, if_pos e] at h
    cases h
  have h1 : ¬ ((-1 : Int) = 0) := by decide
  refine ⟨by rw [flErr, if_neg h1], ?_⟩
  rw [flDr, if_neg h1, flDr, if_neg h0]
  rfl

/-! ### What fails has stopped; what was written -/
theorem wr_err {D : Dr} {i : Nat} {p : List UInt8} (hi : i < D.l.length) (hp : p.length ≤ 256) : (wrErr D (i : Int) p = 0 ∧ wrDr D (i : Int) p = ⟨D.l, D.wait ++ [(i, sec p)], dec D.left⟩) ∨ (wrErr D (i : Int) p = 8 ∧ wrDr D (i : Int) p = D) := by
  by_cases h : D.left = 0
  · have e : wrErr D (i : Int) p = 8 := by rw [wrErr, if_pos ⟨by omega, by omega⟩, if_neg (by omega), if_pos h]
    exact .inr ⟨e, by rw [wrDr, if_neg (by rw [e]; decide)]⟩
  · have e : wrErr D (i : Int) p = 0 := by rw [wrErr, if_pos ⟨by omega, by omega⟩, if_neg (by omega), if_neg h]
    exact .inl ⟨e, by rw [wrDr, if_pos e, Int.toNat_natCast]⟩
theorem fl_err (D : Dr) : (flErr D = 0 ∧ D.left ≠ 0 ∧ flDr D = ⟨applyW D.l D.wait, [], dec D.left⟩) ∨ (flErr D = 8 ∧ D.left = 0 ∧ flDr D = D) := by
  by_cases h : D.left = 0
  · exact .inr ⟨by rw [flErr, if_pos h], h, by rw [flDr, if_pos h]⟩
  · exact .inl ⟨by rw [flErr, if_neg h], h, by rw [flDr, if_neg h]⟩
theorem wipe_grow : ∀ (n i : Nat) (s : Bool) (D : Dr), i + n ≤ D.l.length → ((wipeR n i s D).2.1 = 0 ∨ (wipeR n i s D).2.1 = 8) ∧ (wipeR n i s D).2.2.l = D.l ∧ ∃ ws, (wipeR n i s D).2.2.wait = D.wait ++ ws ∧ ∀ p ∈ ws, i ≤ p.1 ∧ p.1 < i + n
  | 0, _, _, D, _ => ⟨.inl rfl, rfl, [], by rw [List.append_nil]; rfl, fun p hp => by simp at hp⟩
  | n + 1, i, s, D, hl => by
    rw [wipeR]
    by_cases h1 : cleanD D i
    · rw [if_pos h1]
      obtain ⟨a, b, ws, c, d⟩ := wipe_grow n (i + 1) s D (by omega)
      exact ⟨a, b, ws, c, fun p hp => by have := d p hp; omega⟩
    · rw [if_neg h1]
      rcases wr_err (D := D) (i := i) (p := []) (by omega) (by simp) with ⟨e1, e2⟩ | ⟨e1, e2⟩
      · rw [if_pos e1, e2]
        obtain ⟨a, b, ws, c, d⟩ := wipe_grow n (i + 1) true ⟨D.l, D.wait ++ [(i, sec [])], dec D.left⟩ (by dsimp only; omega)
        refine ⟨a, b, (i, sec []) :: ws, by rw [c]; simp, fun p hp => ?_⟩
        rcases List.mem_cons.1 hp with e | e
        · rw [e]; dsimp only; omega
        · have := d p e; omega
      · rw [if_neg (by rw [e1]; decide)]
        exact ⟨.inr e1, rfl, [], by rw [List.append_nil], fun p hp => by simp at hp⟩
theorem put_grow : ∀ (n pos : Nat) (f : List UInt8) (D : Dr), pos + cg f.length ≤ D.l.length → ((putR n pos f D).1 = 0 ∨ (putR n pos f D).1 = 8) ∧ (putR n pos f D).2.l = D.l ∧ ∃ ws, (putR n pos f D).2.wait = D.wait ++ ws ∧ ∀ p ∈ ws, ∃ k, k < cg f.length ∧ p = (pos + k, page f k)
  | 0, _, _, D, _ => ⟨.inl rfl, rfl, [], by rw [List.append_nil]; rfl, fun p hp => by simp at hp⟩
  | n + 1, pos, f, D, hl => by
    rw [putR]
    by_cases h1 : f = []
    · rw [if_pos h1]
      exact ⟨.inl rfl, rfl, [], by rw [List.append_nil], fun p hp => by simp at hp⟩
    · have hlen : 0 < f.length := Nat.pos_of_ne_zero (fun e => h1 (List.length_eq_zero_iff.1 e))
      have hc : cg f.length = cg (f.drop 254).length + 1 := by
        rw [List.length_drop]
        unfold cg
        omega
      rw [if_neg h1]
      rcases wr_err (D := D) (i := pos) (p := mrk 165 (f.take 254)) (by omega) (by rw [mrk_len]; exact Nat.le_refl _) with ⟨e1, e2⟩ | ⟨e1, e2⟩
      · rw [if_pos e1, e2]
        obtain ⟨a, b, ws, c, d⟩ := put_grow n (pos + 1) (f.drop 254) ⟨D.l, D.wait ++ [(pos, sec (mrk 165 (f.take 254)))], dec D.left⟩ (by dsimp only; omega)
        refine ⟨a, b, (pos, sec (mrk 165 (f.take 254))) :: ws, by rw [c]; simp, fun p hp => ?_⟩
        rcases List.mem_cons.1 hp with e | e
        · refine ⟨0, by omega, ?_⟩
          rw [e, sec_id (mrk_len _ _)]
          rfl
        · obtain ⟨k, k1, k2⟩ := d p e
          refine ⟨k + 1, by omega, ?_⟩
          rw [k2, page_drop, show pos + 1 + k = pos + (k + 1) by omega]
      · rw [if_neg (by rw [e1]; decide)]
        exact ⟨.inr e1, rfl, [], by rw [List.append_nil], fun p hp => by simp at hp⟩

/-! ### A flush -/
theorem src_head {D : Dr} {g sure : Nat} {l : List (List UInt8)} (h : Old D g l sure) {i : Nat} (hi : i < 2) {v : List UInt8} (hs : Src D.l D.wait i v) : v = dv D i := by
  rcases hs with e | ⟨p, p1, p2, _⟩
  · exact e
  · have := (h.waits p p1).1; omega
theorem applyW_dv {D : Dr} (h : ∀ p ∈ D.wait, p.1 < D.l.length) (n : Int) (i : Nat) : dv ⟨applyW D.l D.wait, [], n⟩ i = vw D i := applyW_get _ _ _ h

theorem Old.flush {D : Dr} {g sure : Nat} {l : List (List UInt8)} (h : Old D g l sure) : Old (flDr D) g l sure := by
  rcases fl_err D with ⟨_, _, e⟩ | ⟨_, _, e⟩
  · rw [e]
    have h6 := h.size
    have hbh := base_hsz D g (by omega)
    have hb2 : 2 ≤ base D g := by unfold base; omega
    have hl : (⟨applyW D.l D.wait, [], dec D.left⟩ : Dr).l.length = D.l.length := applyW_len _ _
    have hdv : ∀ i, dv ⟨applyW D.l D.wait, [], dec D.left⟩ i = vw D i := applyW_dv (fun p hp => (h.waits p hp).2) _
    have hh : ∀ i, i < 2 → vw D i = dv D i := fun i hi => src_head h hi (now_src _ _ _)
    have hB : base ⟨applyW D.l D.wait, [], dec D.left⟩ g = base D g := base_len hl g
    have hZ : hsz ⟨applyW D.l D.wait, [], dec D.left⟩ = hsz D := hsz_len hl
    refine ⟨by rw [hl]; exact h6, h.gen, h.sure1, by rw [hdv, hh _ (by omega)]; exact h.head, by rw [hdv, hh _ (by omega)]; exact h.oth, by rw [hdv, hh _ (by omega)]; exact h.othl, by rw [hdv, hh _ (by omega)]; exact h.othm, fun p hp => by simp at hp, by rw [hZ]; exact h.fits, fun j s hs => ?_, fun j h1 h2 => ?_, fun p hp => by simp at hp, h.recs⟩
    · have hjl := (List.getElem?_eq_some_iff.1 hs).1
      have hf := h.fits
      rw [hB, hdv]
      rcases now_src D.l D.wait (base D g + j) with e | ⟨p, p1, p2, p3⟩
      · rcases h.pages j s hs with e2 | e2
        · exact .inl (e.trans e2)
        · exact .inr ⟨e2.1, e.trans e2.2⟩
      · left
        have := h.pend p p1 (by omega) (by omega)
        rw [show p.1 - base D g = j by omega, hs] at this
        injection this with this
        exact p3.symm.trans this.symm
    · rw [hZ] at h2
      rw [hB, hdv]
      rcases now_src D.l D.wait (base D g + j) with e | ⟨p, p1, p2, p3⟩
      · exact e.trans (h.clean j h1 h2)
      · have := h.pend p p1 (by omega) (by omega)
        rw [show p.1 - base D g = j by omega, List.getElem?_eq_none h1] at this
        cases this
  · rw [e]
    exact h
theorem on_flush {D : Dr} {g sure : Nat} {l : List (List UInt8)} (hr : Ri D g l) (h : Old D g l sure) (hl : D.left ≠ 0) : Firm (flDr D) g l := by
  rcases fl_err D with ⟨_, _, e⟩ | ⟨_, e, _⟩
  · rw [e]
    have hdv : ∀ i, dv ⟨applyW D.l D.wait, [], dec D.left⟩ i = vw D i := applyW_dv (fun p hp => (h.waits p hp).2) _
    have hh : ∀ i, i < 2 → vw D i = dv D i := fun i hi => src_head h hi (now_src _ _ _)
    exact ⟨rfl, hr.same (applyW_len _ _) (fun j => (vw_dv rfl j).trans (hdv j)), h.gen.2, by rw [hdv, hh _ (by omega)]; exact h.othl, by rw [hdv, hh _ (by omega)]; exact h.othm⟩
  · exact absurd e hl
theorem Firm.wl {D : Dr} {g : Nat} {l : List (List UInt8)} (h : Firm D g l) (n : Int) : Firm (wl D n) g l := ⟨h.wait, h.ri.wl n, h.gen, h.othl, h.othm⟩

/-! ### A record more -/
theorem app_safe {D : Dr} {g sure : Nat} {l : List (List UInt8)} {p : List UInt8} (hr : Ri D g l) (h : Old D g l sure) (hp : p.length ≤ 100000 ∧ ¬ zz (frm (sdr g l.length) p)) (hfit : (allP g 0 l).length + pgs p.length ≤ hsz D) :
    (appE D g l.length (allP g 0 l).length p = 0 ∨ appE D g l.length (allP g 0 l).length p = 8) ∧ Old (appD D g l.length (allP g 0 l).length p) g (l ++ [p]) sure ∧ (appE D g l.length (allP g 0 l).length p = 0 → Ri (appD D g l.length (allP g 0 l).length p) g (l ++ [p])) := by
  have h6 := h.size
  have hbh := base_hsz D g (by omega)
  have hb2 : 2 ≤ base D g := by unfold base; omega
  have hs1 := h.sure1
  have he : rfErr p.length ((hsz D : Int) - (allP g 0 l).length) = 0 := rfErr_fit hp.1 (by omega)
  have hE : appE D g l.length (allP g 0 l).length p = (putF D g (allP g 0 l).length l.length p).1 := by rw [appE, he]; rfl
  have hA : appD D g l.length (allP g 0 l).length p = (putF D g (allP g 0 l).length l.length p).2 := by rw [appD, he]; rfl
  have hcg : cg (frm (sdr g l.length) p).length = pgs p.length := cg_frm _ _
  obtain ⟨a, b, ws, c, d⟩ := put_grow (p.length + 8) (base D g + (allP g 0 l).length) (frm (sdr g l.length) p) D (by rw [hcg]; omega)
  have hPe : putF D g (allP g 0 l).length l.length p = putR (p.length + 8) (base D g + (allP g 0 l).length) (frm (sdr g l.length) p) D := rfl
  rw [hE, hA]
  refine ⟨a, ?_, fun e => ?_⟩
  · rw [hPe]
    obtain ⟨D', hD'⟩ : ∃ D', (putR (p.length + 8) (base D g + (allP g 0 l).length) (frm (sdr g l.length) p) D).2 = D' := ⟨_, rfl⟩
    rw [hD'] at b c ⊢
    have hl : D'.l.length = D.l.length := by rw [b]
    have hdv : ∀ i, dv D' i = dv D i := fun i => by unfold dv; rw [b]
    have hAl : (allP g 0 (l ++ [p])).length = (allP g 0 l).length + pgs p.length := by rw [allP_snoc, List.length_append, lay_len]
    have htk : (l ++ [p]).take sure = l.take sure := by rw [List.take_append_of_le_length hs1.2]
    have hsl : (allP g 0 (l.take sure)).length ≤ (allP g 0 l).length := allP_take_le g l sure
    refine ⟨by rw [hl]; exact h6, h.gen, ⟨hs1.1, by rw [List.length_append]; omega⟩, by rw [hdv]; exact h.head, by rw [hdv]; exact h.oth, by rw [hdv]; exact h.othl, by rw [hdv]; exact h.othm, fun q hq => ?_, by rw [hAl, hsz_len hl]; exact hfit, fun j s hs => ?_, fun j h1 h2 => ?_, fun q hq h1 h2 => ?_, fun i q hq => ?_⟩
    · rw [c] at hq
      rw [hl]
      rcases List.mem_append.1 hq with hq | hq
      · exact h.waits q hq
      · obtain ⟨k, k1, rfl⟩ := d q hq
        dsimp only
        omega
    · rw [base_len hl, hdv, htk]
      have hjl := (List.getElem?_eq_some_iff.1 hs).1
      rw [hAl] at hjl
      rcases Nat.lt_or_ge j (allP g 0 l).length with hj | hj
      · rw [allP_snoc, List.getElem?_append_left hj] at hs
        exact h.pages j s hs
      · exact .inr ⟨by omega, h.clean j hj (by omega)⟩
    · rw [hAl] at h1
      rw [hsz_len hl] at h2
      rw [base_len hl, hdv]
      exact h.clean j (by omega) h2
    · rw [base_len hl] at h1 h2 ⊢
      rw [hsz_len hl] at h2
      rw [c] at hq
      rcases List.mem_append.1 hq with hq | hq
      · have := h.pend q hq h1 h2
        rw [allP_snoc, List.getElem?_append_left (List.getElem?_eq_some_iff.1 this).1]
        exact this
      · obtain ⟨k, k1, rfl⟩ := d q hq
        rw [hcg] at k1
        dsimp only
        rw [show base D g + (allP g 0 l).length + k - base D g = (allP g 0 l).length + k by omega]
        exact allP_get k1
    · rcases Nat.lt_or_ge i l.length with hi | hi
      · rw [List.getElem?_append_left hi] at hq
        exact h.recs i q hq
      · rw [List.getElem?_append_right hi] at hq
        have h0 : i - l.length = 0 := by
          have := (List.getElem?_eq_some_iff.1 hq).1
          simp at this
          omega
        rw [h0] at hq
        injection hq with hq
        subst hq
        rw [show i = l.length by omega]
        exact hp
  · have hw := put_wl (p.length + 8) (base D g + (allP g 0 l).length) (frm (sdr g l.length) p) D e
    obtain ⟨_, _, _, o3⟩ := app_on (D := wl D (-1)) ⟨rfl, fun q hq => (h.waits q hq).2⟩ (hr.wl (-1)) hp hfit
    have hA1 : appD (wl D (-1)) g l.length (allP g 0 l).length p = (putR (p.length + 8) (base D g + (allP g 0 l).length) (frm (sdr g l.length) p) (wl D (-1))).2 := by
      rw [appD, show rfErr p.length ((hsz (wl D (-1)) : Int) - (allP g 0 l).length) = 0 from he]
      rfl
    rw [hA1, hw] at o3
    exact o3.same rfl (fun _ => rfl)

/-! ### A turn -/
theorem base_other (D : Dr) (g : Nat) (i : Nat) (h1 : base D (g + 1) ≤ i) (h2 : i < base D (g + 1) + hsz D) : ¬ (base D g ≤ i ∧ i < base D g + hsz D) := by
  unfold base at *
  rcases Nat.mod_two_eq_zero_or_one g with e | e
  · rw [show (g + 1) % 2 = 1 by omega] at h1 h2
    rw [e]
    omega
  · rw [show (g + 1) % 2 = 0 by omega] at h1 h2
    rw [e]
    omega
theorem Old.grow {D D' : Dr} {g sure : Nat} {l : List (List UInt8)} {ws : List (Nat × List UInt8)} (h : Old D g l sure) (hl : D'.l = D.l) (hw : D'.wait = D.wait ++ ws) (hws : ∀ p ∈ ws, base D (g + 1) ≤ p.1 ∧ p.1 < base D (g + 1) + hsz D) : Old D' g l sure := by
  have hll : D'.l.length = D.l.length := by rw [hl]
  have hdv : ∀ i, dv D' i = dv D i := fun i => by unfold dv; rw [hl]
  have h6 := h.size
  have hbh := base_hsz D (g + 1) (by omega)
  have hb2 : 2 ≤ base D (g + 1) := by unfold base; omega
  refine ⟨by rw [hll]; exact h6, h.gen, h.sure1, by rw [hdv]; exact h.head, by rw [hdv]; exact h.oth, by rw [hdv]; exact h.othl, by rw [hdv]; exact h.othm, fun q hq => ?_, by rw [hsz_len hll]; exact h.fits, fun j s hs => by rw [base_len hll, hdv]; exact h.pages j s hs, fun j h1 h2 => by rw [base_len hll, hdv]; exact h.clean j h1 (by rw [← hsz_len hll]; exact h2), fun q hq h1 h2 => ?_, h.recs⟩
  · rw [hw] at hq
    rw [hll]
    rcases List.mem_append.1 hq with hq | hq
    · exact h.waits q hq
    · have := hws q hq; omega
  · rw [base_len hll] at h1 h2 ⊢
    rw [hsz_len hll] at h2
    rw [hw] at hq
    rcases List.mem_append.1 hq with hq | hq
    · exact h.pend q hq h1 h2
    · exact absurd ⟨h1, h2⟩ (base_other D g q.1 (hws q hq).1 (hws q hq).2)

/-- A turn's head waits. -/
structure Mid (D : Dr) (g : Nat) (l : List (List UInt8)) (p : List UInt8) : Prop where
  wait : D.wait = [((g + 1) % 2, hdS (g + 1))]
  old : Firm { D with wait := [] } g l
  gen : g + 1 < 4294967290
  fit : pgs p.length ≤ hsz D
  rec_ : p.length ≤ 100000 ∧ ¬ zz (frm (sdr (g + 1) 0) p)
  new : ∀ j, base D (g + 1) ≤ j → j < base D (g + 1) + hsz D → dv D j = if j < base D (g + 1) + pgs p.length then page (frm (sdr (g + 1) 0) p) (j - base D (g + 1)) else zeros 256
theorem Mid.wl {D : Dr} {g : Nat} {l : List (List UInt8)} {p : List UInt8} (h : Mid D g l p) (n : Int) : Mid (wl D n) g l p := ⟨h.wait, h.old.wl n, h.gen, h.fit, h.rec_, h.new⟩

theorem firm_new {D D' : Dr} {g : Nat} {l : List (List UInt8)} {p : List UInt8} (h : Firm { D with wait := [] } g l) (hg : g + 1 < 4294967290) (hfit : pgs p.length ≤ hsz D) (hp : p.length ≤ 100000 ∧ ¬ zz (frm (sdr (g + 1) 0) p))
    (hn : ∀ j, base D (g + 1) ≤ j → j < base D (g + 1) + hsz D → dv D j = if j < base D (g + 1) + pgs p.length then page (frm (sdr (g + 1) 0) p) (j - base D (g + 1)) else zeros 256)
    (hl : D'.l.length = D.l.length) (hw : D'.wait = []) (hv : ∀ i, i < D.l.length → dv D' i = if i = (g + 1) % 2 then hdS (g + 1) else dv D i) : Firm D' (g + 1) [p] := by
  have h6 := h.ri.size
  have h6 : 6 ≤ D.l.length ∧ D.l.length ≤ 7000 := h6
  have hbh := base_hsz D (g + 1) (by omega)
  have hb2 : 2 ≤ base D (g + 1) := by unfold base; omega
  have hA : allP (g + 1) 0 [p] = lay (g + 1) 0 p := by simp [allP]
  have hAl : (allP (g + 1) 0 [p]).length = pgs p.length := by rw [hA, lay_len]
  have hh : dv D (g % 2) = hdS g := by
    have := h.ri.head
    rw [h.dv] at this
    exact this
  have hg1 := h.ri.gen
  have ho : dv D' ((g + 1 + 1) % 2) = hdS g := by
    rw [hv _ (by omega), if_neg (by omega), show (g + 1 + 1) % 2 = g % 2 by omega]
    exact hh
  refine ⟨hw, ⟨by rw [hl]; exact h6, ⟨by omega, by omega⟩, Nat.succ_pos 0, ?_, ?_, by rw [hAl, hsz_len hl]; exact hfit, fun j s hs => ?_, fun j h1 h2 => ?_, fun i q hq => ?_⟩, hg, by rw [ho]; exact hdS_len g, ?_⟩
  · rw [vw_dv hw, hv _ (by omega), if_pos rfl]
  · rw [vw_dv hw, ho, show (g + 1 + 1) % 2 = g % 2 by omega, headS_hdS hg1.1 hg1.2]
    omega
  · rw [hA] at hs
    obtain ⟨hj, rfl⟩ := lay_page hs
    rw [base_len hl, vw_dv hw, hv _ (by omega), if_neg (by omega), hn _ (by omega) (by omega), if_pos (by omega), Nat.add_sub_cancel_left]
  · rw [hAl] at h1
    rw [hsz_len hl] at h2
    rw [base_len hl, vw_dv hw, hv _ (by omega), if_neg (by omega), hn _ (by omega) (by omega), if_neg (by omega)]
  · match i with
    | 0 => injection hq with hq; subst hq; exact hp
    | i + 1 => simp at hq
  · rw [ho, hdS_255]
    intro e
    injection e with e
    exact hdm_ne g e

theorem firm_old {D D' : Dr} {g : Nat} {l : List (List UInt8)} (h : Firm { D with wait := [] } g l) (hl : D'.l.length = D.l.length) (hw : D'.wait = []) (hv : ∀ i, i < D.l.length → i ≠ (g + 1) % 2 → dv D' i = dv D i)
    (h1 : headS (dv D' ((g + 1) % 2)) ((g + 1) % 2) < g) (h2 : (dv D' ((g + 1) % 2)).length = 256) (h3 : (dv D' ((g + 1) % 2))[255]? ≠ some (hdm (g + 1))) : Firm D' g l := by
  have h6 : 6 ≤ D.l.length ∧ D.l.length ≤ 7000 := h.ri.size
  have hbh := base_hsz D g (by omega)
  have hb2 : 2 ≤ base D g := by unfold base; omega
  have hd : ∀ j, vw { D with wait := [] } j = dv D j := fun j => vw_dv rfl j
  have hf : (allP g 0 l).length ≤ hsz D := h.ri.fits
  refine ⟨hw, ⟨by rw [hl]; exact h6, h.ri.gen, h.ri.ne, ?_, by rw [vw_dv hw]; exact h1, by rw [hsz_len hl]; exact hf, fun j s hs => ?_, fun j e1 e2 => ?_, h.ri.recs⟩, h.gen, h2, h3⟩
  · rw [vw_dv hw, hv _ (by omega) (by omega), ← hd]
    exact h.ri.head
  · have hjl := (List.getElem?_eq_some_iff.1 hs).1
    rw [base_len hl, vw_dv hw, hv _ (by omega) (by omega), ← hd]
    exact h.ri.pages j s hs
  · rw [hsz_len hl] at e2
    rw [base_len hl, vw_dv hw, hv _ (by omega) (by omega), ← hd]
    exact h.ri.clean j e1 e2

/-- A torn head is none. -/
theorem torn_head {s o : List UInt8} {m : UInt8} {t i : Nat} (hs : s[0]? = some m) (ho : o[255]? ≠ some m) (hsl : s.length = 256) (hol : o.length = 256) (h0 : 0 < t) (ht : t < 256) :
    headS (s.take t ++ o.drop t) i = 0 ∧ (s.take t ++ o.drop t).length = 256 ∧ (s.take t ++ o.drop t)[255]? = o[255]? := by
  have e255 : (s.take t ++ o.drop t)[255]? = o[255]? := by
    rw [List.getElem?_append_right (by rw [List.length_take]; omega), List.getElem?_drop, List.length_take, hsl, Nat.min_eq_left (by omega)]
    congr 1
    omega
  have e0 : (s.take t ++ o.drop t)[0]? = some m := by
    rw [List.getElem?_append_left (by rw [List.length_take]; omega), List.getElem?_take, if_pos h0, hs]
  refine ⟨?_, by rw [List.length_append, List.length_take, List.length_drop]; omega, e255⟩
  rw [headS, if_neg]
  rintro ⟨e, _⟩
  rw [e255, e0] at e
  exact ho e

theorem Mid.fall {D : Dr} {g : Nat} {l : List (List UInt8)} {p : List UInt8} (h : Mid D g l p) (keep : List Bool) (torn : Int) : On (drFall D keep torn) ∧ (drFall D keep torn).l.length = D.l.length ∧ (Firm (drFall D keep torn) (g + 1) [p] ∨ Firm (drFall D keep torn) g l) := by
  have h6 : 6 ≤ D.l.length ∧ D.l.length ≤ 7000 := h.old.ri.size
  obtain ⟨f1, f2, f3, f4⟩ := fall_sec D keep torn (fun q hq => by rw [h.wait] at hq; rw [List.mem_singleton.1 hq]; dsimp only; omega)
  refine ⟨⟨f2, fun q hq => by rw [f1] at hq; simp at hq⟩, f3, ?_⟩
  have hX1 : headS (dv D ((g + 1) % 2)) ((g + 1) % 2) < g := by
    have := h.old.ri.other
    rw [h.old.dv] at this
    exact this
  have hX2 : (dv D ((g + 1) % 2)).length = 256 := h.old.othl
  have hX3 : (dv D ((g + 1) % 2))[255]? ≠ some (hdm (g + 1)) := h.old.othm
  have hsrc : ∀ i v, Src D.l D.wait i v → v = dv D i ∨ (i = (g + 1) % 2 ∧ v = hdS (g + 1)) := by
    rintro i v (e | ⟨q, q1, q2, q3⟩)
    · exact .inl e
    · rw [h.wait] at q1
      rw [List.mem_singleton.1 q1] at q2 q3
      exact .inr ⟨q2.symm, q3.symm⟩
  have hoth : ∀ i, i < D.l.length → i ≠ (g + 1) % 2 → dv (drFall D keep torn) i = dv D i := by
    intro i hi hne
    rcases f4 i hi with e | ⟨q, q1, q2, _⟩
    · rcases hsrc i _ e with e | e
      · exact e
      · exact absurd e.1 hne
    · rw [h.wait] at q1
      rw [List.mem_singleton.1 q1] at q2
      exact absurd q2.symm hne
  have hnew : dv (drFall D keep torn) ((g + 1) % 2) = hdS (g + 1) → Firm (drFall D keep torn) (g + 1) [p] := fun e =>
    firm_new h.old h.gen h.fit h.rec_ h.new f3 f1 (fun i hi => by
      by_cases hne : i = (g + 1) % 2
      · rw [if_pos hne, hne]; exact e
      · rw [if_neg hne]; exact hoth i hi hne)
  have hold : dv (drFall D keep torn) ((g + 1) % 2) = dv D ((g + 1) % 2) → Firm (drFall D keep torn) g l := fun e =>
    firm_old h.old f3 f1 hoth (by rw [e]; exact hX1) (by rw [e]; exact hX2) (by rw [e]; exact hX3)
  rcases f4 ((g + 1) % 2) (by omega) with e | ⟨q, q1, q2, o, t, e1, e2, e3⟩
  · rcases hsrc _ _ e with e | e
    · exact .inr (hold e)
    · exact .inl (hnew e.2)
  · rw [h.wait] at q1
    rw [List.mem_singleton.1 q1] at e3
    dsimp only at e3
    rcases hsrc _ _ e1 with e | e
    · rw [e] at e3
      rcases Nat.eq_zero_or_pos t with ht | ht
      · subst ht
        exact .inr (hold (by rw [e3, List.take_zero, List.drop_zero, List.nil_append]))
      · obtain ⟨t1, t2, t3⟩ := torn_head (i := (g + 1) % 2) (hdS_0 (g + 1)) hX3 (hdS_len _) hX2 ht e2
        exact .inr (firm_old h.old f3 f1 hoth (by rw [e3, t1]; omega) (by rw [e3]; exact t2) (by rw [e3, t3]; exact hX3))
    · rw [e.2, List.take_append_drop] at e3
      exact .inl (hnew e3)

theorem Mid.flush {D : Dr} {g : Nat} {l : List (List UInt8)} {p : List UInt8} (h : Mid D g l p) (hl : D.left ≠ 0) : Firm (flDr D) (g + 1) [p] := by
  have h6 : 6 ≤ D.l.length ∧ D.l.length ≤ 7000 := h.old.ri.size
  rcases fl_err D with ⟨_, _, e⟩ | ⟨_, e, _⟩
  · rw [e]
    have hdv : ∀ i, dv ⟨applyW D.l D.wait, [], dec D.left⟩ i = vw D i := applyW_dv (fun q hq => by rw [h.wait] at hq; rw [List.mem_singleton.1 hq]; dsimp only; omega) _
    refine firm_new h.old h.gen h.fit h.rec_ h.new (applyW_len _ _) rfl (fun i hi => ?_)
    rw [hdv]
    unfold vw
    rw [h.wait]
    show (if (g + 1) % 2 = i then hdS (g + 1) else D.l.getD i []) = _
    by_cases hi2 : i = (g + 1) % 2
    · rw [if_pos hi2.symm, if_pos hi2]
    · rw [if_neg (fun e => hi2 e.symm), if_neg hi2]
      rfl
  · exact absurd e hl

/-- A turn: it is done; or the drum has stopped, and the old reel stands, or the new one's head waits. -/
theorem tr_safe {D : Dr} {g sure : Nat} {l : List (List UInt8)} {p : List UInt8} (hr : Ri D g l) (h : Old D g l sure) (hg : g < 1000000) (hp : p.length ≤ 100000 ∧ ¬ zz (frm (sdr (g + 1) 0) p)) (hfit : pgs p.length ≤ hsz D) :
    ((trF D g p).1 = 0 ∧ Firm (trF D g p).2 (g + 1) [p]) ∨ ((trF D g p).1 = 8 ∧ (Old (trF D g p).2 g l sure ∨ Mid (trF D g p).2 g l p)) := by
  have h6 := h.size
  have hs1 := h.sure1
  have hbh := base_hsz D (g + 1) (by omega)
  have hb2 : 2 ≤ base D (g + 1) := by unfold base; omega
  have hcg : cg (frm (sdr (g + 1) 0) p).length = pgs p.length := cg_frm _ _
  obtain ⟨w0, w1, ws, w2, w3⟩ := wipe_grow (hsz D) (base D (g + 1)) false D (by omega)
  have hww := wipe_wl (hsz D) (base D (g + 1)) false D
  obtain ⟨W, hW⟩ : ∃ W, wipeR (hsz D) (base D (g + 1)) false D = W := ⟨_, rfl⟩
  rw [hW] at w0 w1 w2 hww
  have hT : trF D g p = if W.2.1 ≠ 0 then W.2 else begF W.2.2 (g + 1) p := by
    rw [trF, rfErr_fit hp.1 (by omega), if_neg (fun e => e rfl), if_neg (by omega), hW]
  rcases w0 with w0 | w0
  · rw [hT, if_neg (fun e => e w0)]
    have hWl : W.2.2.l.length = D.l.length := by rw [w1]
    have hBW : base W.2.2 (g + 1) = base D (g + 1) := base_len hWl _
    obtain ⟨p0, p1, qs, p2, p3⟩ := put_grow (p.length + 8) (base W.2.2 (g + 1) + 0) (frm (sdr (g + 1) 0) p) W.2.2 (by rw [hcg, hBW, hWl]; omega)
    have hPe : putF W.2.2 (g + 1) 0 0 p = putR (p.length + 8) (base W.2.2 (g + 1) + 0) (frm (sdr (g + 1) 0) p) W.2.2 := rfl
    have hpw := put_wl (p.length + 8) (base W.2.2 (g + 1) + 0) (frm (sdr (g + 1) 0) p) W.2.2
    rw [← hPe] at p0 p1 p2 hpw
    obtain ⟨P, hP⟩ : ∃ P, putF W.2.2 (g + 1) 0 0 p = P := ⟨_, rfl⟩
    rw [hP] at p0 p1 p2 hpw
    have hPl : P.2.l.length = D.l.length := by rw [p1, hWl]
    have hgrow : Old P.2 g l sure := h.grow (ws := ws ++ qs) (by rw [p1, w1]) (by rw [p2, w2, List.append_assoc]) (fun q hq => by
      rcases List.mem_append.1 hq with hq | hq
      · exact w3 q hq
      · obtain ⟨k, k1, rfl⟩ := p3 q hq
        rw [hcg] at k1
        rw [hBW]
        dsimp only
        omega)
    rcases p0 with p0 | p0
    · rcases fl_err P.2 with ⟨f0, f1, f2⟩ | ⟨f0, f1, f2⟩
      · -- all till the head is flushed
        have on1 : On (wl D (-1)) := ⟨rfl, fun q hq => (h.waits q hq).2⟩
        obtain ⟨_, a1, _, a3⟩ := wipe_on (hsz D) (base D (g + 1)) false (wl D (-1)) on1 (by dsimp only; omega)
        rw [hww w0] at a1 a3
        dsimp only at a1 a3
        obtain ⟨_, b1, _, b3⟩ := putF_on (D := wl W.2.2 (-1)) (g + 1) 0 0 p a1 (by
          have : base (wl W.2.2 (-1)) (g + 1) = base D (g + 1) := hBW
          rw [this]
          dsimp only
          omega)
        have hpw' : putF (wl W.2.2 (-1)) (g + 1) 0 0 p = (0, wl P.2 (-1)) := hpw p0
        rw [hpw'] at b1 b3
        dsimp only at b1 b3
        have hvP : ∀ j, vw P.2 j = if base D (g + 1) ≤ j ∧ j < base D (g + 1) + pgs p.length then page (frm (sdr (g + 1) 0) p) (j - base D (g + 1)) else if base D (g + 1) ≤ j ∧ j < base D (g + 1) + hsz D then zeros 256 else vw D j := by
          intro j
          have e1 : base (wl W.2.2 (-1)) (g + 1) = base D (g + 1) := hBW
          have := b3 j
          rw [e1, Nat.add_zero] at this
          have a3' := a3 j
          show vw (wl P.2 (-1)) j = _
          rw [this]
          split
          · rfl
          · exact a3'
        obtain ⟨D2, hD2⟩ : ∃ D2, flDr P.2 = D2 := ⟨_, rfl⟩
        have hD2l : D2.l.length = D.l.length := by rw [← hD2, flDr_len, hPl]
        have hD2w : D2.wait = [] := by rw [← hD2, f2]
        have hD2v : ∀ j, dv D2 j = vw P.2 j := by
          intro j
          rw [← hD2, f2]
          exact applyW_dv (D := P.2) (fun q hq => (hgrow.waits q hq).2) _ j
        have hheads : ∀ i, i < 2 → dv D2 i = vw D i := fun i hi => by rw [hD2v, hvP, if_neg (by omega), if_neg (by omega)]
        have hoh : ∀ i, i < 2 → vw D i = dv D i := fun i hi => src_head h hi (now_src _ _ _)
        have hbg := base_hsz D g (by omega)
        have hbg2 : 2 ≤ base D g := by unfold base; omega
        have hhalf : ∀ j, base D g ≤ j → j < base D g + hsz D → dv D2 j = vw D j := fun j h1 h2 => by
          have hb : ¬ (base D (g + 1) ≤ j ∧ j < base D (g + 1) + hsz D) := fun e => base_other D g j e.1 e.2 ⟨h1, h2⟩
          rw [hD2v, hvP, if_neg (fun e => hb ⟨e.1, by omega⟩), if_neg hb]
        have hfirm : Firm D2 g l := by
          refine ⟨hD2w, ⟨by rw [hD2l]; exact h6, hr.gen, hr.ne, by rw [vw_dv hD2w, hheads _ (by omega)]; exact hr.head, by rw [vw_dv hD2w, hheads _ (by omega)]; exact hr.other, by rw [hsz_len hD2l]; exact hr.fits, fun j s hs => ?_, fun j h1 h2 => ?_, hr.recs⟩, h.gen.2, by rw [hheads _ (by omega), hoh _ (by omega)]; exact h.othl, by rw [hheads _ (by omega), hoh _ (by omega)]; exact h.othm⟩
          · have hjl := (List.getElem?_eq_some_iff.1 hs).1
            have hf := hr.fits
            rw [base_len hD2l, vw_dv hD2w, hhalf _ (by omega) (by omega)]
            exact hr.pages j s hs
          · rw [hsz_len hD2l] at h2
            rw [base_len hD2l, vw_dv hD2w, hhalf _ (by omega) (by omega)]
            exact hr.clean j h1 h2
        have hnew : ∀ j, base D2 (g + 1) ≤ j → j < base D2 (g + 1) + hsz D2 → dv D2 j = if j < base D2 (g + 1) + pgs p.length then page (frm (sdr (g + 1) 0) p) (j - base D2 (g + 1)) else zeros 256 := by
          intro j h1 h2
          rw [base_len hD2l] at h1 h2 ⊢
          rw [hsz_len hD2l] at h2
          rw [hD2v, hvP]
          by_cases hj : j < base D (g + 1) + pgs p.length
          · rw [if_pos ⟨h1, hj⟩, if_pos hj]
          · rw [if_neg (fun e => hj e.2), if_pos ⟨h1, h2⟩, if_neg hj]
        have hB : begF W.2.2 (g + 1) p = if wrErr D2 ((g + 1) % 2 : Nat) (hdS (g + 1)) ≠ 0 then (wrErr D2 ((g + 1) % 2 : Nat) (hdS (g + 1)), wrDr D2 ((g + 1) % 2 : Nat) (hdS (g + 1))) else (flErr (wrDr D2 ((g + 1) % 2 : Nat) (hdS (g + 1))), flDr (wrDr D2 ((g + 1) % 2 : Nat) (hdS (g + 1)))) := by
          rw [begF, hP, if_neg (fun e => e p0), if_neg (fun e => e f0), hD2]
        rw [hB]
        rcases wr_err (D := D2) (i := (g + 1) % 2) (p := hdS (g + 1)) (by omega) (by rw [hdS_len]; exact Nat.le_refl _) with ⟨e1, e2⟩ | ⟨e1, e2⟩
        · rw [if_neg (fun e => e e1), e2, hD2w, List.nil_append, sec_id (hdS_len _)]
          have hmid : Mid ⟨D2.l, [((g + 1) % 2, hdS (g + 1))], dec D2.left⟩ g l p := by
            refine ⟨rfl, ⟨rfl, hfirm.ri.same rfl (fun j => ?_), hfirm.gen, hfirm.othl, hfirm.othm⟩, by omega, ?_, hp, hnew⟩
            · rw [vw_dv rfl, hfirm.dv]
              rfl
            · have : hsz (⟨D2.l, [((g + 1) % 2, hdS (g + 1))], dec D2.left⟩ : Dr) = hsz D := hsz_len hD2l
              rw [this]
              exact hfit
          rcases fl_err ⟨D2.l, [((g + 1) % 2, hdS (g + 1))], dec D2.left⟩ with ⟨g0, g1, g2⟩ | ⟨g0, g1, g2⟩
          · exact .inl ⟨g0, hmid.flush g1⟩
          · refine .inr ⟨g0, .inr ?_⟩
            rw [g2]
            exact hmid
        · rw [if_pos (by rw [e1]; decide), e1, e2]
          exact .inr ⟨rfl, .inl (hfirm.old.less hs1.1 hs1.2)⟩
      · have hB : begF W.2.2 (g + 1) p = (8, P.2) := by
          rw [begF, hP, if_neg (fun e => e p0), if_pos (by rw [f0]; decide), f0, f2]
        rw [hB]
        exact .inr ⟨rfl, .inl hgrow⟩
    · have hB : begF W.2.2 (g + 1) p = P := by
        rw [begF, hP, if_pos (by rw [p0]; decide)]
      rw [hB]
      exact .inr ⟨p0, .inl hgrow⟩
  · rw [hT, if_pos (by rw [w0]; decide)]
    exact .inr ⟨w0, .inl (h.grow w1 w2 w3)⟩
end Go.Proofs.YtoefhdaenaiomaaGreatDoor

/- The document's example of the reel. -/
namespace Go.Proofs.YtoefhdaenaiomaaGreatDoor
open Go
set_option maxRecDepth 20000

section
variable {P : Program} {w : World} {m : Fm} {n : Nat} {t ty t2 : TypeId} {ps : String} {af : Array Edge}
theorem ro_bytesStr (E : Env P) {s t e : TypeId} {x : Operand} {G : Nat → Prop} {v : Value} {l : List UInt8} {q q2 q3 : Nat} (hs : E.ty s = some (.slice e, q)) (he : E.ty e = some (.int .u8, q2)) (ht : E.ty t = some (.string, q3)) (hx : ev m x = some v) (hv : BS w G v l) (hl : 0 < l.length) {dst : Option Tmp} {gd : Option (Nat × Bool)} :
    ∀ a, Fits a n m → (execOp a.eval { dst := dst, op := .convert s t x, type := ty, pos := ps, after := af, guard := gd }).run P w = .ok (.value (.string ⟨l.toArray⟩)) w := by
  intro a ha
  obtain ⟨_, _, A, c, rfl, _, h5⟩ := hv
  rcases h5 with h5 | ⟨b, o, rfl, _, _, hseg⟩
  · omega
  · have hr := run_convert_bytes_back (P := P) w s t e ⟨b, o, none⟩ c l (E.ok _ _ _ hs).1 (E.ok _ _ _ he).1 (E.ok _ _ _ ht).1 (fun j hj => by
      rw [addr_add]
      exact hseg j _ (get_enc hj))
    simp only [execOp, ha.eval hx, Sem.run_bind, hr, Result.andThen_ok, Sem.run_pure]
end

/-- A byte's slice of its own. -/
theorem byte_bs {w' : World} {b : Nat} {x : UInt8} (h : Sl w' (fun j => j = b) (.slice (some ⟨b, 0, none⟩) 1 1) 1 1 [encB x]) {G : Nat → Prop} (hG : ¬ G b) : BS w' (fun j => ¬ G j) (.slice (some ⟨b, 0, none⟩) 1 1) [x] :=
  h.mono (fun _ _ e e2 => hG (by rw [← show _ = b from e]; exact e2))

set_option maxHeartbeats 8000000 in
theorem awake15_c (w : World) : Calls Tryz.prog 4 [].toArray w (Ret fun r w' => r = .bool true ∧ Kept none0 w w') := by
  have hfl : ∀ (g i : Nat) (b : UInt8), g < 30 → i < 30 → [b].length ≤ 100000 ∧ ¬ zz (frm (sdr g i) [b]) := fun g i b hg hi => rec_ok hg hi (by simp)
  refine calls_T Tryz.func4 rfl rfl rfl ?_
  repeat (first | (with_reducible first | apply T_seq | apply T_region | apply U_nil | apply T_skip | apply T_block | apply T_inBlock | apply Cnd_t | apply Cnd_f | apply Cnd_not | apply Cnd_some | apply Cnd_none | apply Gd_nt | apply Gd_nf | apply Gd_some | apply Gd_none | apply Gd_want) | refine U_ar rfl rfl rfl (wrap_k (by simp only [wrapOk]; omega)) rfl ?_ | refine U_cv E rfl rfl rfl (wrap_k (by simp only [wrapOk]; omega)) rfl ?_ | refine U_pure E rfl rfl ?_ | refine T_exit rfl ?_ | refine T_condV rfl ?_ | refine U_guard rfl rfl ?_ | ((with_reducible refine Gd_skipT ?_ ?_); exact rfl) | ((with_reducible refine Gd_skipF ?_ ?_); exact rfl))
  refine U_call rfl rfl (Tryz.call6 _) (new_c w 12 (by decide)) ?_
  rintro r w1 ⟨k1, hb, rfl, hD1⟩
  have hD1 := hD1.dm
  unfold ptr at *
  have s1 := k1.size
  repeat (first | (with_reducible first | apply T_seq | apply T_region | apply U_nil | apply T_skip | apply T_block | apply T_inBlock | apply Cnd_t | apply Cnd_f | apply Cnd_not | apply Cnd_some | apply Cnd_none | apply Gd_nt | apply Gd_nf | apply Gd_some | apply Gd_none | apply Gd_want) | refine U_ar rfl rfl rfl (wrap_k (by simp only [wrapOk]; omega)) rfl ?_ | refine U_cv E rfl rfl rfl (wrap_k (by simp only [wrapOk]; omega)) rfl ?_ | refine U_pure E rfl rfl ?_ | refine T_exit rfl ?_ | refine T_condV rfl ?_ | refine U_guard rfl rfl ?_ | ((with_reducible refine Gd_skipT ?_ ?_); exact rfl) | ((with_reducible refine Gd_skipF ?_ ?_); exact rfl))
  refine U_buildSlice (sz := 1) E rfl rfl rfl rfl rfl rfl rfl rfl (segs := [[.int .u8 102]]) rfl (by simp) rfl ?_
  intro b2 w2 hn2
  have e2 := hn2.at_
  have s2 := hn2.size
  repeat (first | (with_reducible first | apply T_seq | apply T_region | apply U_nil | apply T_skip | apply T_block | apply T_inBlock | apply Cnd_t | apply Cnd_f | apply Cnd_not | apply Cnd_some | apply Cnd_none | apply Gd_nt | apply Gd_nf | apply Gd_some | apply Gd_none | apply Gd_want) | refine U_ar rfl rfl rfl (wrap_k (by simp only [wrapOk]; omega)) rfl ?_ | refine U_cv E rfl rfl rfl (wrap_k (by simp only [wrapOk]; omega)) rfl ?_ | refine U_pure E rfl rfl ?_ | refine T_exit rfl ?_ | refine T_condV rfl ?_ | refine U_guard rfl rfl ?_ | ((with_reducible refine Gd_skipT ?_ ?_); exact rfl) | ((with_reducible refine Gd_skipF ?_ ?_); exact rfl))
  refine U_convBytes E hn2.blk rfl (by decide) rfl rfl rfl rfl ?_
  intro w3 k3 s3 hs3
  have k13 : Kept none0 w1 w3 := hn2.kept.tr k3 (fun j hj (e : j = b2) => by omega)
  have hD3 := hD1.same k13
  have hmk := make_on w3 _ hb _ (.slice (some ⟨b2, 0, none⟩) 1 1) [102] hD3 (drNew_on _) (by rw [drNew_len]; decide) (byte_bs hs3 (fun e => by have := e.2; omega)) (hfl 1 0 _ (by decide) (by decide)) (by rw [drNew_hsz]; decide) (by simp [drNew])
  unfold ptr at *
  repeat (first | (with_reducible first | apply T_seq | apply T_region | apply U_nil | apply T_skip | apply T_block | apply T_inBlock | apply Cnd_t | apply Cnd_f | apply Cnd_not | apply Cnd_some | apply Cnd_none | apply Gd_nt | apply Gd_nf | apply Gd_some | apply Gd_none | apply Gd_want) | refine U_ar rfl rfl rfl (wrap_k (by simp only [wrapOk]; omega)) rfl ?_ | refine U_cv E rfl rfl rfl (wrap_k (by simp only [wrapOk]; omega)) rfl ?_ | refine U_pure E rfl rfl ?_ | refine T_exit rfl ?_ | refine T_condV rfl ?_ | refine U_guard rfl rfl ?_ | ((with_reducible refine Gd_skipT ?_ ?_); exact rfl) | ((with_reducible refine Gd_skipF ?_ ?_); exact rfl))
  refine U_call rfl rfl (Tryz.call7 _) (hmk) ?_
  rintro r w4 ⟨F4, Fr4, rb, D4, rfl, o4, h4, hFr4, l4, q4, _⟩
  have hn4 : ∀ b, uni F4 Fr4 b → w.heap.size ≤ b := by
    intro b e
    rcases e with e | e
    · exact (o4.newer (w0 := w) (by have := k13.size; omega) (fun b e => e.1)) b e
    · have := hFr4 b e
      have := k13.size
      omega
  have k04 : Kept none0 w w4 := o4.done (k1.tr k13 (fun _ _ x => x)) (fun b e => e.1)
  rw [drNew_len] at l4
  have z4 : hsz D4 = 5 := by rw [hsz, l4]; rfl
  repeat (first | (with_reducible first | apply T_seq | apply T_region | apply U_nil | apply T_skip | apply T_block | apply T_inBlock | apply Cnd_t | apply Cnd_f | apply Cnd_not | apply Cnd_some | apply Cnd_none | apply Gd_nt | apply Gd_nf | apply Gd_some | apply Gd_none | apply Gd_want) | refine U_ar rfl rfl rfl (wrap_k (by simp only [wrapOk]; omega)) rfl ?_ | refine U_cv E rfl rfl rfl (wrap_k (by simp only [wrapOk]; omega)) rfl ?_ | refine U_pure E rfl rfl ?_ | refine T_exit rfl ?_ | refine T_condV rfl ?_ | refine U_guard rfl rfl ?_ | refine U_guardU rfl rfl rfl ?_ | ((with_reducible refine Gd_skipT ?_ ?_); exact rfl) | ((with_reducible refine Gd_skipF ?_ ?_); exact rfl))
  refine U_buildSlice (sz := 1) E rfl rfl rfl rfl rfl rfl rfl rfl (segs := [[.int .u8 97]]) rfl (by simp) rfl ?_
  intro b5 w5 hn5
  have e5 := hn5.at_
  have s5 := hn5.size
  repeat (first | (with_reducible first | apply T_seq | apply T_region | apply U_nil | apply T_skip | apply T_block | apply T_inBlock | apply Cnd_t | apply Cnd_f | apply Cnd_not | apply Cnd_some | apply Cnd_none | apply Gd_nt | apply Gd_nf | apply Gd_some | apply Gd_none | apply Gd_want) | refine U_ar rfl rfl rfl (wrap_k (by simp only [wrapOk]; omega)) rfl ?_ | refine U_cv E rfl rfl rfl (wrap_k (by simp only [wrapOk]; omega)) rfl ?_ | refine U_pure E rfl rfl ?_ | refine T_exit rfl ?_ | refine T_condV rfl ?_ | refine U_guard rfl rfl ?_ | refine U_guardU rfl rfl rfl ?_ | ((with_reducible refine Gd_skipT ?_ ?_); exact rfl) | ((with_reducible refine Gd_skipF ?_ ?_); exact rfl))
  refine U_convBytes E hn5.blk rfl (by decide) rfl rfl rfl rfl ?_
  intro w6 k6 s6 hs6
  have k46 : Kept none0 w4 w6 := hn5.kept.tr k6 (fun j hj (e : j = b5) => by omega)
  have h6 := h4.same k46
  have hap := append_on (.slice (some ⟨b5, 0, none⟩) 1 1) [97] h6 (byte_bs hs6 (fun e => by have := h4.lt _ e; omega)) (hfl 1 1 _ (by decide) (by decide)) (by rw [z4]; decide) (by rw [q4]; decide)
  unfold ptr at *
  repeat (first | (with_reducible first | apply T_seq | apply T_region | apply U_nil | apply T_skip | apply T_block | apply T_inBlock | apply Cnd_t | apply Cnd_f | apply Cnd_not | apply Cnd_some | apply Cnd_none | apply Gd_nt | apply Gd_nf | apply Gd_some | apply Gd_none | apply Gd_want) | refine U_ar rfl rfl rfl (wrap_k (by simp only [wrapOk]; omega)) rfl ?_ | refine U_cv E rfl rfl rfl (wrap_k (by simp only [wrapOk]; omega)) rfl ?_ | refine U_pure E rfl rfl ?_ | refine T_exit rfl ?_ | refine T_condV rfl ?_ | refine U_guard rfl rfl ?_ | refine U_guardU rfl rfl rfl ?_ | ((with_reducible refine Gd_skipT ?_ ?_); exact rfl) | ((with_reducible refine Gd_skipF ?_ ?_); exact rfl))
  refine U_call rfl rfl (Tryz.call20 _) (hap) ?_
  rintro r w7 ⟨rfl, F7, Fr7, D7, o7, h7, l7, _⟩
  have hfs := flush_on h7
  unfold ptr at *
  repeat (first | (with_reducible first | apply T_seq | apply T_region | apply U_nil | apply T_skip | apply T_block | apply T_inBlock | apply Cnd_t | apply Cnd_f | apply Cnd_not | apply Cnd_some | apply Cnd_none | apply Gd_nt | apply Gd_nf | apply Gd_some | apply Gd_none | apply Gd_want) | refine U_ar rfl rfl rfl (wrap_k (by simp only [wrapOk]; omega)) rfl ?_ | refine U_cv E rfl rfl rfl (wrap_k (by simp only [wrapOk]; omega)) rfl ?_ | refine U_pure E rfl rfl ?_ | refine T_exit rfl ?_ | refine T_condV rfl ?_ | refine U_guard rfl rfl ?_ | refine U_guardU rfl rfl rfl ?_ | ((with_reducible refine Gd_skipT ?_ ?_); exact rfl) | ((with_reducible refine Gd_skipF ?_ ?_); exact rfl))
  refine U_call rfl rfl (Tryz.call9 _) (hfs) ?_
  rintro r w8 ⟨rfl, F8, D8, o8, h8, l8, q8, d8, v8⟩
  have z8 : hsz D8 = 5 := by rw [hsz, l8, l7, l4]; rfl
  have o8' := ((Own.same h4.lt k46).tr o7).tr o8
  repeat (first | (with_reducible first | apply T_seq | apply T_region | apply U_nil | apply T_skip | apply T_block | apply T_inBlock | apply Cnd_t | apply Cnd_f | apply Cnd_not | apply Cnd_some | apply Cnd_none | apply Gd_nt | apply Gd_nf | apply Gd_some | apply Gd_none | apply Gd_want) | refine U_ar rfl rfl rfl (wrap_k (by simp only [wrapOk]; omega)) rfl ?_ | refine U_cv E rfl rfl rfl (wrap_k (by simp only [wrapOk]; omega)) rfl ?_ | refine U_pure E rfl rfl ?_ | refine T_exit rfl ?_ | refine T_condV rfl ?_ | refine U_guard rfl rfl ?_ | refine U_guardU rfl rfl rfl ?_ | ((with_reducible refine Gd_skipT ?_ ?_); exact rfl) | ((with_reducible refine Gd_skipF ?_ ?_); exact rfl))
  refine U_buildSlice (sz := 1) E rfl rfl rfl rfl rfl rfl rfl rfl (segs := [[.int .u8 98]]) rfl (by simp) rfl ?_
  intro b9 w9 hn9
  have e9 := hn9.at_
  have s9 := hn9.size
  repeat (first | (with_reducible first | apply T_seq | apply T_region | apply U_nil | apply T_skip | apply T_block | apply T_inBlock | apply Cnd_t | apply Cnd_f | apply Cnd_not | apply Cnd_some | apply Cnd_none | apply Gd_nt | apply Gd_nf | apply Gd_some | apply Gd_none | apply Gd_want) | refine U_ar rfl rfl rfl (wrap_k (by simp only [wrapOk]; omega)) rfl ?_ | refine U_cv E rfl rfl rfl (wrap_k (by simp only [wrapOk]; omega)) rfl ?_ | refine U_pure E rfl rfl ?_ | refine T_exit rfl ?_ | refine T_condV rfl ?_ | refine U_guard rfl rfl ?_ | refine U_guardU rfl rfl rfl ?_ | ((with_reducible refine Gd_skipT ?_ ?_); exact rfl) | ((with_reducible refine Gd_skipF ?_ ?_); exact rfl))
  refine U_convBytes E hn9.blk rfl (by decide) rfl rfl rfl rfl ?_
  intro w10 k10 s10 hs10
  have k810 : Kept none0 w8 w10 := hn9.kept.tr k10 (fun j hj (e : j = b9) => by omega)
  have h10 := h8.same k810
  have hap2 := append_on (.slice (some ⟨b9, 0, none⟩) 1 1) [98] h10 (byte_bs hs10 (fun e => by have := h8.lt _ e; omega)) (hfl 1 2 _ (by decide) (by decide)) (by rw [z8]; decide) (by rw [q8]; decide)
  unfold ptr at *
  repeat (first | (with_reducible first | apply T_seq | apply T_region | apply U_nil | apply T_skip | apply T_block | apply T_inBlock | apply Cnd_t | apply Cnd_f | apply Cnd_not | apply Cnd_some | apply Cnd_none | apply Gd_nt | apply Gd_nf | apply Gd_some | apply Gd_none | apply Gd_want) | refine U_ar rfl rfl rfl (wrap_k (by simp only [wrapOk]; omega)) rfl ?_ | refine U_cv E rfl rfl rfl (wrap_k (by simp only [wrapOk]; omega)) rfl ?_ | refine U_pure E rfl rfl ?_ | refine T_exit rfl ?_ | refine T_condV rfl ?_ | refine U_guard rfl rfl ?_ | refine U_guardU rfl rfl rfl ?_ | ((with_reducible refine Gd_skipT ?_ ?_); exact rfl) | ((with_reducible refine Gd_skipF ?_ ?_); exact rfl))
  refine U_call rfl rfl (Tryz.call20 _) (hap2) ?_
  rintro r w11 ⟨rfl, F11, Fr11, D11, o11, h11, l11, _⟩
  have o11' := (o8'.tr (Own.same h8.lt k810)).tr o11
  have k011 : Kept none0 w w11 := o11'.done k04 hn4
  have hfall := fall_c w11 F11 hb D11 (fun _ => True) (.slice none 0 0) [] (-1) h11.dm.isD ⟨by decide, rfl, _, _, rfl, Nat.le_refl _, .inl rfl⟩
  unfold ptr at *
  repeat (first | (with_reducible first | apply T_seq | apply T_region | apply U_nil | apply T_skip | apply T_block | apply T_inBlock | apply Cnd_t | apply Cnd_f | apply Cnd_not | apply Cnd_some | apply Cnd_none | apply Gd_nt | apply Gd_nf | apply Gd_some | apply Gd_none | apply Gd_want) | refine U_ar rfl rfl rfl (wrap_k (by simp only [wrapOk]; omega)) rfl ?_ | refine U_cv E rfl rfl rfl (wrap_k (by simp only [wrapOk]; omega)) rfl ?_ | refine U_pure E rfl rfl ?_ | refine T_exit rfl ?_ | refine T_condV rfl ?_ | refine U_guard rfl rfl ?_ | refine U_guardU rfl rfl rfl ?_ | ((with_reducible refine Gd_skipT ?_ ?_); exact rfl) | ((with_reducible refine Gd_skipF ?_ ?_); exact rfl))
  refine U_call rfl rfl (Tryz.call13 _) (hfall) ?_
  rintro r w12 ⟨k12, hb2, rfl, hD12⟩
  have hD12 := hD12.dm
  obtain ⟨f1, f2, f3⟩ := fall_on D11
  have hr12 : Ri (drFall D11 [] (-1)) 1 ([[102]] ++ [[97]]) := h8.ri.same (by rw [f2, l11]) (fun j => by rw [f3]; unfold dv; rw [l11]; exact d8 j)
  have hop := open_on w12 _ hb2 _ 1 _ hD12 f1 hr12 (by rw [fall_none]; exact (by decide : (0 : Nat) + 400000 < 1000000))
  unfold ptr at *
  repeat (first | (with_reducible first | apply T_seq | apply T_region | apply U_nil | apply T_skip | apply T_block | apply T_inBlock | apply Cnd_t | apply Cnd_f | apply Cnd_not | apply Cnd_some | apply Cnd_none | apply Gd_nt | apply Gd_nf | apply Gd_some | apply Gd_none | apply Gd_want) | refine U_ar rfl rfl rfl (wrap_k (by simp only [wrapOk]; omega)) rfl ?_ | refine U_cv E rfl rfl rfl (wrap_k (by simp only [wrapOk]; omega)) rfl ?_ | refine U_pure E rfl rfl ?_ | refine T_exit rfl ?_ | refine T_condV rfl ?_ | refine U_guard rfl rfl ?_ | refine U_guardU rfl rfl rfl ?_ | ((with_reducible refine Gd_skipT ?_ ?_); exact rfl) | ((with_reducible refine Gd_skipF ?_ ?_); exact rfl))
  refine U_call rfl rfl (Tryz.call14 _) (hop) ?_
  rintro r w13 ⟨F13, Fr13, rb2, rfl, o13, h13, hFr13⟩
  have k013 : Kept none0 w w13 := o13.done (k011.tr k12 (fun _ _ x => x)) (fun b e => by have := k011.size; have := e.1; omega)
  have hct := count_c h13.rl
  unfold ptr at *
  repeat (first | (with_reducible first | apply T_seq | apply T_region | apply U_nil | apply T_skip | apply T_block | apply T_inBlock | apply Cnd_t | apply Cnd_f | apply Cnd_not | apply Cnd_some | apply Cnd_none | apply Gd_nt | apply Gd_nf | apply Gd_some | apply Gd_none | apply Gd_want) | refine U_ar rfl rfl rfl (wrap_k (by simp only [wrapOk]; omega)) rfl ?_ | refine U_cv E rfl rfl rfl (wrap_k (by simp only [wrapOk]; omega)) rfl ?_ | refine U_pure E rfl rfl ?_ | refine T_exit rfl ?_ | refine T_condV rfl ?_ | refine U_guard rfl rfl ?_ | refine U_guardU rfl rfl rfl ?_ | ((with_reducible refine Gd_skipT ?_ ?_); exact rfl) | ((with_reducible refine Gd_skipF ?_ ?_); exact rfl))
  refine U_call rfl rfl (Tryz.call23 _) (hct) ?_
  rintro r w14 ⟨rfl, rfl⟩
  have hrc := records_c h13.rl
  unfold ptr at *
  repeat (first | (with_reducible first | apply T_seq | apply T_region | apply U_nil | apply T_skip | apply T_block | apply T_inBlock | apply Cnd_t | apply Cnd_f | apply Cnd_not | apply Cnd_some | apply Cnd_none | apply Gd_nt | apply Gd_nf | apply Gd_some | apply Gd_none | apply Gd_want) | refine U_ar rfl rfl rfl (wrap_k (by simp only [wrapOk]; omega)) rfl ?_ | refine U_cv E rfl rfl rfl (wrap_k (by simp only [wrapOk]; omega)) rfl ?_ | refine U_pure E rfl rfl ?_ | refine T_exit rfl ?_ | refine T_condV rfl ?_ | refine U_guard rfl rfl ?_ | refine U_guardU rfl rfl rfl ?_ | ((with_reducible refine Gd_skipT ?_ ?_); exact rfl) | ((with_reducible refine Gd_skipF ?_ ?_); exact rfl))
  refine Gd_b (fun _ => ?_) (fun e => absurd e (by decide))
  repeat (first | (with_reducible first | apply T_seq | apply T_region | apply U_nil | apply T_skip | apply T_block | apply T_inBlock | apply Cnd_t | apply Cnd_f | apply Cnd_not | apply Cnd_some | apply Cnd_none | apply Gd_nt | apply Gd_nf | apply Gd_some | apply Gd_none | apply Gd_want) | refine U_ar rfl rfl rfl (wrap_k (by simp only [wrapOk]; omega)) rfl ?_ | refine U_cv E rfl rfl rfl (wrap_k (by simp only [wrapOk]; omega)) rfl ?_ | refine U_pure E rfl rfl ?_ | refine T_exit rfl ?_ | refine T_condV rfl ?_ | refine U_guard rfl rfl ?_ | refine U_guardU rfl rfl rfl ?_ | ((with_reducible refine Gd_skipT ?_ ?_); exact rfl) | ((with_reducible refine Gd_skipF ?_ ?_); exact rfl))
  refine U_call rfl rfl (Tryz.call15 _) (hrc) ?_
  rintro r w15 ⟨k15, vs, v1, v2, v3⟩
  have v1' : vs.length = 2 := v1
  obtain ⟨A15, c15, rfl⟩ := v2.len
  have hg1 : vs[(1 : Int).toNat]? = some (vs[1]'(by omega)) := List.getElem?_eq_getElem (by omega)
  have hx := v3 1 _ [97] (List.getElem?_eq_getElem (by omega)) rfl
  repeat (first | (with_reducible first | apply T_seq | apply T_region | apply U_nil | apply T_skip | apply T_block | apply T_inBlock | apply Cnd_t | apply Cnd_f | apply Cnd_not | apply Cnd_some | apply Cnd_none | apply Gd_nt | apply Gd_nf | apply Gd_some | apply Gd_none | apply Gd_want) | refine U_ar rfl rfl rfl (wrap_k (by simp only [wrapOk]; omega)) rfl ?_ | refine U_cv E rfl rfl rfl (wrap_k (by simp only [wrapOk]; omega)) rfl ?_ | refine U_pure E rfl rfl ?_ | refine T_exit rfl ?_ | refine T_condV rfl ?_ | refine U_guard rfl rfl ?_ | refine U_guardU rfl rfl rfl ?_ | ((with_reducible refine Gd_skipT ?_ ?_); exact rfl) | ((with_reducible refine Gd_skipF ?_ ?_); exact rfl))
  refine U_idx E (v2) rfl rfl rfl rfl (by omega) (by omega) (hg1) rfl (fun p hp => ?_)
  repeat (first | (with_reducible first | apply T_seq | apply T_region | apply U_nil | apply T_skip | apply T_block | apply T_inBlock | apply Cnd_t | apply Cnd_f | apply Cnd_not | apply Cnd_some | apply Cnd_none | apply Gd_nt | apply Gd_nf | apply Gd_some | apply Gd_none | apply Gd_want) | refine U_ar rfl rfl rfl (wrap_k (by simp only [wrapOk]; omega)) rfl ?_ | refine U_cv E rfl rfl rfl (wrap_k (by simp only [wrapOk]; omega)) rfl ?_ | refine U_pure E rfl rfl ?_ | refine T_exit rfl ?_ | refine T_condV rfl ?_ | refine U_guard rfl rfl ?_ | refine U_guardU rfl rfl rfl ?_ | ((with_reducible refine Gd_skipT ?_ ?_); exact rfl) | ((with_reducible refine Gd_skipF ?_ ?_); exact rfl))
  obtain ⟨Ax, cx, hxe⟩ := hx.len
  rw [hxe] at hp hx
  repeat (first | (with_reducible first | apply T_seq | apply T_region | apply U_nil | apply T_skip | apply T_block | apply T_inBlock | apply Cnd_t | apply Cnd_f | apply Cnd_not | apply Cnd_some | apply Cnd_none | apply Gd_nt | apply Gd_nf | apply Gd_some | apply Gd_none | apply Gd_want) | refine U_ar rfl rfl rfl (wrap_k (by simp only [wrapOk]; omega)) rfl ?_ | refine U_cv E rfl rfl rfl (wrap_k (by simp only [wrapOk]; omega)) rfl ?_ | refine U_pure E rfl rfl ?_ | refine T_exit rfl ?_ | refine T_condV rfl ?_ | refine U_guard rfl rfl ?_ | refine U_guardU rfl rfl rfl ?_ | ((with_reducible refine Gd_skipT ?_ ?_); exact rfl) | ((with_reducible refine Gd_skipF ?_ ?_); exact rfl))
  refine U_load E rfl rfl rfl hp rfl ?_
  repeat (first | (with_reducible first | apply T_seq | apply T_region | apply U_nil | apply T_skip | apply T_block | apply T_inBlock | apply Cnd_t | apply Cnd_f | apply Cnd_not | apply Cnd_some | apply Cnd_none | apply Gd_nt | apply Gd_nf | apply Gd_some | apply Gd_none | apply Gd_want) | refine U_ar rfl rfl rfl (wrap_k (by simp only [wrapOk]; omega)) rfl ?_ | refine U_cv E rfl rfl rfl (wrap_k (by simp only [wrapOk]; omega)) rfl ?_ | refine U_pure E rfl rfl ?_ | refine T_exit rfl ?_ | refine T_condV rfl ?_ | refine U_guard rfl rfl ?_ | refine U_guardU rfl rfl rfl ?_ | ((with_reducible refine Gd_skipT ?_ ?_); exact rfl) | ((with_reducible refine Gd_skipF ?_ ?_); exact rfl))
  refine U_run rfl rfl rfl (ro_bytesStr E rfl rfl rfl rfl hx (by decide)) ?_
  repeat (first | (with_reducible first | apply T_seq | apply T_region | apply U_nil | apply T_skip | apply T_block | apply T_inBlock | apply Cnd_t | apply Cnd_f | apply Cnd_not | apply Cnd_some | apply Cnd_none | apply Gd_nt | apply Gd_nf | apply Gd_some | apply Gd_none | apply Gd_want) | refine U_ar rfl rfl rfl (wrap_k (by simp only [wrapOk]; omega)) rfl ?_ | refine U_cv E rfl rfl rfl (wrap_k (by simp only [wrapOk]; omega)) rfl ?_ | refine U_pure E rfl rfl ?_ | refine T_exit rfl ?_ | refine T_condV rfl ?_ | refine U_guard rfl rfl ?_ | refine U_guardU rfl rfl rfl ?_ | ((with_reducible refine Gd_skipT ?_ ?_); exact rfl) | ((with_reducible refine Gd_skipF ?_ ?_); exact rfl))
  refine U_run rfl rfl rfl (ro_strEq (b := true) rfl rfl (by kernel_rfl)) ?_
  repeat (first | (with_reducible first | apply T_seq | apply T_region | apply U_nil | apply T_skip | apply T_block | apply T_inBlock | apply Cnd_t | apply Cnd_f | apply Cnd_not | apply Cnd_some | apply Cnd_none | apply Gd_nt | apply Gd_nf | apply Gd_some | apply Gd_none | apply Gd_want) | refine U_ar rfl rfl rfl (wrap_k (by simp only [wrapOk]; omega)) rfl ?_ | refine U_cv E rfl rfl rfl (wrap_k (by simp only [wrapOk]; omega)) rfl ?_ | refine U_pure E rfl rfl ?_ | refine T_exit rfl ?_ | refine T_condV rfl ?_ | refine U_guard rfl rfl ?_ | refine U_guardU rfl rfl rfl ?_ | ((with_reducible refine Gd_skipT ?_ ?_); exact rfl) | ((with_reducible refine Gd_skipF ?_ ?_); exact rfl))
  exact T_ret1 Tryz.func4 rfl rfl ⟨_, rfl, rfl, k013.tr k15 (fun _ _ x => x)⟩
end Go.Proofs.YtoefhdaenaiomaaGreatDoor

/- Turned. -/
namespace Go.Proofs.YtoefhdaenaiomaaGreatDoor
open Go
set_option maxRecDepth 20000

theorem T_cut {P : Program} {f : FuncId} {R : Ending → World → Prop} {n : Nat} {k : List Item} {m : Fm} {w : World} {α : Type} {it : Item} (fm : α → Fm) (X : α → World → Prop) (fin : ∀ x w', X x w' → T P f R n k (fm x) w') (h : (∀ x w', X x w' → T P f R n k (fm x) w') → T P f R n (it :: k) m w) : T P f R n (it :: k) m w := h fin

def tbl8 : List Value := [.int .u8 1, .int .u8 2, .int .u8 4, .int .u8 8, .int .u8 16, .int .u8 32, .int .u8 64, .int .u8 128]
theorem tbl_get : ∀ r, r < 8 → tbl8[r]? = some (.int .u8 ((2 ^ r : Nat) : Int))
  | 0, _ => rfl
  | 1, _ => rfl
  | 2, _ => rfl
  | 3, _ => rfl
  | 4, _ => rfl
  | 5, _ => rfl
  | 6, _ => rfl
  | 7, _ => rfl
  | r + 8, h => by omega

/-- Bits from at on are turned where the mask says so, the first k of them. -/
def TurnedTo (l l' : List UInt8) (at_ k mask : Nat) : Prop := l'.length = l.length ∧ ∀ j, j < l.length * 8 → bitAt l' j = (bitAt l j ^^ (decide (at_ ≤ j ∧ j < at_ + k) && mask.testBit (j - at_)))
theorem TurnedTo.zero (l : List UInt8) (at_ mask : Nat) : TurnedTo l l at_ 0 mask := by
  refine ⟨rfl, fun j _ => ?_⟩
  rw [decide_eq_false (by omega)]
  simp
theorem TurnedTo.off {l l' : List UInt8} {at_ k mask : Nat} (h : TurnedTo l l' at_ k mask) (hb : l.length * 8 ≤ at_ + k ∨ mask.testBit k = false) : TurnedTo l l' at_ (k + 1) mask := by
  refine ⟨h.1, fun j hj => ?_⟩
  rw [h.2 j hj]
  congr 1
  by_cases hk : j = at_ + k
  · rcases hb with hb | hb
    · omega
    · rw [show j - at_ = k by omega, hb, Bool.and_false, Bool.and_false]
  · congr 1
    by_cases h1 : at_ ≤ j ∧ j < at_ + k
    · rw [decide_eq_true h1, decide_eq_true (by omega)]
    · rw [decide_eq_false h1, decide_eq_false (by omega)]
theorem TurnedTo.on {l l' : List UInt8} {at_ k mask : Nat} (h : TurnedTo l l' at_ k mask) (hb : mask.testBit k = true) (hi : (at_ + k) / 8 < l'.length) :
    TurnedTo l (l'.set ((at_ + k) / 8) (UInt8.ofNat (l'[(at_ + k) / 8].toNat ^^^ 2 ^ ((at_ + k) % 8)))) at_ (k + 1) mask := by
  refine ⟨by rw [List.length_set]; exact h.1, fun j hj => ?_⟩
  have := bit_step (s := l') (k := at_ + k) (M := 1) hi j
  rw [show (1 &&& 1) * 2 ^ ((at_ + k) % 8) = 2 ^ ((at_ + k) % 8) by simp] at this
  rw [this, h.2 j hj, Bool.xor_assoc]
  congr 1
  by_cases hk : j = at_ + k
  · rw [decide_eq_false (by omega), decide_eq_true hk, decide_eq_true (by omega), show j - at_ = k by omega, hb]
    rfl
  · rw [decide_eq_false hk, Bool.false_and, Bool.xor_false]
    congr 1
    by_cases h1 : at_ ≤ j ∧ j < at_ + k
    · rw [decide_eq_true h1, decide_eq_true (by omega)]
    · rw [decide_eq_false h1, decide_eq_false (by omega)]

theorem TurnedTo.onB {l l' : List UInt8} {at_ k mask B : Nat} (hB : at_ + k = B) (h : TurnedTo l l' at_ k mask) (hb : mask.testBit k = true) (hi : B / 8 < l'.length) :
    TurnedTo l (l'.set (B / 8) (UInt8.ofNat (l'[B / 8].toNat ^^^ 2 ^ (B % 8)))) at_ (k + 1) mask := by
  subst hB
  exact h.on hb hi

theorem idx1 (n : Nat) : 0 + ((n : Nat) : Int).toNat * 1 = n := by rw [Int.toNat_natCast, Nat.zero_add, Nat.mul_one]
theorem bit_of (mask k : Nat) : (mask / 2 ^ k) % 2 = 1 ↔ mask.testBit k = true := by
  rw [Nat.testBit_eq_decide_div_mod_eq, decide_eq_true_iff]

end Go.Proofs.YtoefhdaenaiomaaGreatDoor

/- What a law keeps of its own beside a drum and a reel. -/
namespace Go.Proofs.YtoefhdaenaiomaaGreatDoor
open Go
set_option maxRecDepth 20000

/-- What comes behind is walked once, and isn't seen here. -/
theorem T_viaK {P : Program} {f : FuncId} {R : Ending → World → Prop} {n : Nat} {k : List Item} {m : Fm} {w : World} {α : Type} {it : Item} (fm : α → Fm) (X : α → World → Prop) (fin : ∀ x w', X x w' → T P f R n k (fm x) w') (h : ∀ k', (∀ x w', X x w' → T P f R n k' (fm x) w') → T P f R n (it :: k') m w) : T P f R n (it :: k) m w := h k fin

theorem Own.slK {F F' : Nat → Prop} {w w' : World} (o : Own F w F' w') {G : Nat → Prop} {v : Value} {sz n : Nat} {cs : List Value} (h : Sl w (fun b => G b ∧ ¬ F b) v sz n cs) : Sl w' (fun b => (G b ∧ b < w.heap.size) ∧ ¬ F' b) v sz n cs :=
  ((h.mono (G := fun b => (G b ∧ ¬ F b) ∧ b < w.heap.size) (fun _ hb h => ⟨h, hb⟩)).mv o.kept (fun _ _ h e => h.1.2 e)).mono (fun b _ h => ⟨⟨h.1.1, h.2⟩, fun e => o.out h.2 h.1.2 e⟩)
theorem Own.osK {F F' : Nat → Prop} {w w' : World} (o : Own F w F' w') {G : Nat → Prop} {v : Value} {l : List (List UInt8)} (h : OS w (fun b => G b ∧ ¬ F b) v l) : OS w' (fun b => (G b ∧ b < w.heap.size) ∧ ¬ F' b) v l := by
  obtain ⟨vs, h1, h2, h3⟩ := h
  refine ⟨vs, h1, ((h2.mono (G := fun b => (G b ∧ ¬ F b) ∧ b < w.heap.size) (fun _ hb h => ⟨h, hb⟩)).mv o.kept (fun _ _ h e => h.1.2 e)).mono (fun b _ h => ⟨⟨h.1.1, h.2⟩, fun e => o.out h.2 h.1.2 e⟩), fun j u p hu hp => ?_⟩
  exact (((h3 j u p hu hp).mono (G := fun b => ((G b ∧ ¬ F b) ∧ v.ownBlock ≠ some b) ∧ b < w.heap.size) (fun _ hb h => ⟨h, hb⟩)).mv o.kept (fun _ _ h e => h.1.1.2 e)).mono (fun b _ h => ⟨⟨⟨h.1.1.1, h.2⟩, fun e => o.out h.2 h.1.1.2 e⟩, h.1.2⟩)
/-- Slices are appended, in any room. -/
theorem OS.appG {G : Nat → Prop} {w3 w4 : World} {vo vo' : Value} {vs ns : List Value} {l l' : List (List UInt8)} (hG : ∀ b, w3.heap.size ≤ b → G b) (h1 : vs.length = l.length)
    (h3 : ∀ (j : Nat) u p, vs[j]? = some u → l[j]? = some p → BS w3 (fun b => G b ∧ vo.ownBlock ≠ some b) u p) (n1 : ns.length = l'.length)
    (n3 : ∀ (j : Nat) u p, ns[j]? = some u → l'[j]? = some p → BS w3 (fun b => G b ∧ vo.ownBlock ≠ some b) u p)
    (hr : Row w4 (fun b => G b ∨ w3.heap.size ≤ b) vo' 1 (vs.length + ns.length) (vs ++ ns) 22) (k : Kept (fun b => vo.ownBlock = some b) w3 w4) (hob : ∀ b, vo'.ownBlock = some b → vo.ownBlock = some b ∨ w3.heap.size ≤ b) : OS w4 G vo' (l ++ l') := by
  have past : ∀ u p, BS w3 (fun b => G b ∧ vo.ownBlock ≠ some b) u p → BS w4 (fun b => G b ∧ vo'.ownBlock ≠ some b) u p := fun u p hx =>
    ((hx.mono (G := fun b => (G b ∧ vo.ownBlock ≠ some b) ∧ b < w3.heap.size) (fun _ hb h => ⟨h, hb⟩)).mv k (fun _ _ h e => h.1.2 e)).mono (fun b _ h => ⟨h.1.1, fun e => (hob b e).elim h.1.2 (fun e => by omega)⟩)
  refine ⟨vs ++ ns, by rw [List.length_append, List.length_append, h1, n1], ?_, fun j u p hu hp => ?_⟩
  · rw [List.length_append]
    exact hr.mono (fun b _ e => e.elim (fun x => x) (hG b))
  · rcases Nat.lt_or_ge j vs.length with hj | hj
    · rw [List.getElem?_append_left hj] at hu
      rw [List.getElem?_append_left (by omega)] at hp
      exact past u p (h3 j u p hu hp)
    · rw [List.getElem?_append_right hj] at hu
      rw [List.getElem?_append_right (by omega), ← h1] at hp
      exact past u p (n3 _ u p hu hp)
theorem OS.snoc {G : Nat → Prop} {w w1 w2 : World} {vo vo' vp : Value} {us : List Value} {b : Nat} {t : TypeId} {l : List (List UInt8)} {p : List UInt8} (hG : ∀ b, w.heap.size ≤ b → G b) (h1 : us.length = l.length)
    (h3 : ∀ (j : Nat) u q, us[j]? = some u → l[j]? = some q → BS w (fun b => G b ∧ vo.ownBlock ≠ some b) u q) (hp : BS w (fun b => G b ∧ vo.ownBlock ≠ some b) vp p) (hn : New w w1 b [vp] t)
    (hr : Row w2 (fun b => G b ∨ w1.heap.size ≤ b) vo' 1 (us.length + 1) (us ++ [vp]) 22) (k : Kept (fun b => vo.ownBlock = some b) w1 w2) (hob : ∀ b, vo'.ownBlock = some b → vo.ownBlock = some b ∨ w1.heap.size ≤ b) : OS w2 G vo' (l ++ [p]) :=
  OS.appG (ns := [vp]) (fun b e => hG b (Nat.le_trans hn.kept.size e)) h1 (fun j u q hu hq => (h3 j u q hu hq).mv hn.kept (fun _ _ _ x => x)) rfl (fun j u q hu hq => by
    match j with
    | 0 =>
      injection hu with hu
      injection hq with hq
      subst hu
      subst hq
      exact hp.mv hn.kept (fun _ _ _ x => x)
    | j + 1 => simp at hu) hr k hob
theorem OS.own {w : World} {G : Nat → Prop} {v : Value} {l : List (List UInt8)} (h : OS w G v l) : ∀ b, v.ownBlock = some b → b < w.heap.size := by
  obtain ⟨vs, h1, h2, h3⟩ := h
  exact fun b e => (h2.own b e).2
/-- A slice of one. -/
theorem one_sl {w : World} {b : Nat} {t : TypeId} {u : Value} (h : Blk w b [u] t) : Sl w (fun x => x = b) (.slice (some ⟨b, 0, none⟩) 1 1) 1 1 [u] :=
  ⟨by decide, rfl, _, 1, rfl, Nat.le_refl _, .inr ⟨b, 0, rfl, rfl, h.lt, h.whole⟩⟩
theorem bs_one {w : World} {G : Nat → Prop} {v : Value} {l : List UInt8} (h : BS w G v l) : v.oneCell' = true := by
  obtain ⟨A, c, rfl⟩ := h.len
  rfl
theorem bs_cells {w : World} {G : Nat → Prop} {v : Value} {l : List UInt8} (h : BS w G v l) : v.cells = #[v] := by
  obtain ⟨A, c, rfl⟩ := h.len
  rfl
/-- A slice of one record. -/
theorem RS.one {w w' : World} {b : Nat} {t : TypeId} {v : Value} {p : List UInt8} {H : Nat → Prop} (hn : New w w' b [v] t) (hp : BS w H v p) : RS w' (fun _ => True) (.slice (some ⟨b, 0, none⟩) 1 1) [p] :=
  ⟨[v], rfl, (one_sl hn.blk).mono (fun _ _ _ => trivial), fun j u q hu hq => by
    match j with
    | 0 =>
      injection hu with hu
      injection hq with hq
      subst hu
      subst hq
      exact (hp.mv hn.kept (fun _ _ _ x => x)).mono (fun _ _ _ => trivial)
    | j + 1 => simp at hu⟩
theorem nil_bits (w : World) : Sl w (fun _ => True) (.slice none 0 0) 1 ([] : List Bool).length (encBools []) := ⟨by decide, rfl, _, _, rfl, Nat.le_refl _, .inl rfl⟩
end Go.Proofs.YtoefhdaenaiomaaGreatDoor
