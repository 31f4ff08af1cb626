/- Work in plain Lean: what stays valid, runs, deeds that return and clear; the lists of deeds of the program. (Taken out of WorkD.) -/
import Derived.Test.YtcmnjaccapbhfaaWkA
namespace Go.Proofs.Ytcmnjaccapbhfaa
set_option linter.unusedVariables false
set_option linter.unusedSimpArgs false

theorem gset {α : Type} {l : List α} {k : Nat} {y d : α} (hk : k < l.length) : (l.set k y).getD k d = y := by simp [List.getD, hk]
theorem gset_ne {α : Type} {l : List α} {i j : Nat} {y d : α} (h : i ≠ j) : (l.set i y).getD j d = l.getD j d := by simp [List.getD, List.getElem?_set_ne h]
theorem gout {α : Type} {l : List α} {k : Nat} {d : α} (h : l.length ≤ k) : l.getD k d = d := by simp [List.getD, List.getElem?_eq_none h]
theorem sub_take {α : Type} (l : List α) (k : Nat) : subL l 0 (k : Int) = l.take k := by simp [subL]
theorem sub_drop {α : Type} (l : List α) (k : Nat) : subL l (k : Int) (l.length : Int) = l.drop k := by
  unfold subL; rw [List.take_of_length_le (by simp), Int.toNat_natCast]
/-- Valid work, without indices. -/
structure WOk (w : Wk) : Prop where
  l0 : 1 ≤ w.1.length
  l1 : w.1.length ≤ 10
  le : w.2.1.length = w.1.length
  lp : w.2.2.length ≤ 6
  ne : ∀ k, w.1.getD k false = true → w.2.1.getD k false = false
  pm : ∀ p ∈ w.2.2, (0 ≤ p.1 ∧ p.1 ≤ 9) ∧ (0 ≤ p.2 ∧ p.2 < (w.1.length : Int)) ∧ w.2.1.getD p.2.toNat false = true
  nd : w.2.2.Nodup
theorem wok_iff {w : Wk} : workV w.1 w.2.1 w.2.2 = true ↔ WOk w := by
  rw [workV_iff]
  constructor
  · intro h
    refine ⟨h.l0, h.l1, h.le, h.lp, h.ne, fun p hp => ?_, ?_⟩
    · obtain ⟨k, hk, rfl⟩ := List.mem_iff_getElem.1 hp
      have := h.pm k hk
      rw [getD_ge hk] at this
      exact ⟨this.1, this.2.1, this.2.2.1⟩
    · rw [List.nodup_iff_pairwise_ne, List.pairwise_iff_getElem]
      intro i j hi hj hij e
      refine (h.pm j hj).2.2.2 (mem_take_get.2 ⟨i, hij, hi, ?_⟩)
      rw [getD_ge hi, getD_ge hj, e]
  · intro h
    refine ⟨h.l0, h.l1, h.le, h.lp, h.ne, fun k hk => ?_⟩
    have hm := h.pm (w.2.2.getD k (0, 0)) (by rw [getD_ge hk]; exact List.getElem_mem hk)
    refine ⟨hm.1, hm.2.1, hm.2.2, fun ht => ?_⟩
    obtain ⟨j, h1, h2, h3⟩ := mem_take_get.1 ht
    have hp := h.nd
    rw [List.nodup_iff_pairwise_ne, List.pairwise_iff_getElem] at hp
    rw [getD_ge h2, getD_ge hk] at h3
    exact hp j k h2 hk h1 h3
/-- A permit that is returned. -/
theorem ret_split {w : Wk} {a who : Int} (hm : (who, a) ∈ w.2.2) : ∃ A B, w.2.2 = A ++ (who, a) :: B ∧ wkPut w 5 a who = (w.1, w.2.1, A ++ B) := by
  rcases fnd_spec w.2.2 (who, a) with ⟨h1, h2⟩ | ⟨k, hk, h1, h2, h3⟩
  · exact absurd hm h2
  refine ⟨w.2.2.take k, w.2.2.drop (k + 1), ?_, ?_⟩
  · rw [← h2, getD_ge hk]; simp
  · unfold wkPut
    rw [if_neg (by decide), if_neg (by decide), if_neg (by decide), if_neg (by decide), if_neg (by decide), h1, Int.toNat_natCast]
theorem held_app (A B : Pm) (line : Int) : heldOf (A ++ B) line = heldOf A line ++ heldOf B line := by simp [heldOf]
theorem held_mem {pm : Pm} {line x : Int} : x ∈ heldOf pm line ↔ (x, line) ∈ pm := by
  simp only [heldOf, List.mem_map, List.mem_filter, beq_iff_eq]
  constructor
  · rintro ⟨p, ⟨h1, h2⟩, h3⟩
    rw [← h3, ← h2]; exact h1
  · intro h; exact ⟨(x, line), ⟨h, rfl⟩, rfl⟩
theorem nd_mid {A B : Pm} {p : Int × Int} (h : (A ++ p :: B).Nodup) : (A ++ B).Nodup ∧ p ∉ A ++ B := by
  rw [List.nodup_append] at h
  obtain ⟨h1, h2, h3⟩ := h
  rw [List.nodup_cons] at h2
  refine ⟨List.nodup_append.2 ⟨h1, h2.2, fun a ha b hb => h3 a ha b (by simp [hb])⟩, fun hm => ?_⟩
  rcases List.mem_append.1 hm with hm | hm
  · exact h3 p hm p (by simp) rfl
  · exact h2.1 hm
theorem put_ok {w : Wk} {kd a who : Int} (h : WOk w) (ha : 0 ≤ a ∧ a < (w.1.length : Int)) (hm : wkMay w kd a who = true) : WOk (wkPut w kd a who) ∧ wkPut w kd a who ≠ w ∧ wkMay (wkPut w kd a who) kd a who = false := by
  have hal : a.toNat < w.1.length := by omega
  have hae : a.toNat < w.2.1.length := by have := h.le; omega
  by_cases k0 : kd = 0
  · subst k0
    have hm : w.1.getD a.toNat false = false ∧ w.2.1.getD a.toNat false = false := by simpa only [wkMay, true_or, if_true, Bool.and_eq_true, Bool.not_eq_true'] using hm
    have e : wkPut w 0 a who = (w.1.set a.toNat true, w.2.1, w.2.2) := rfl
    rw [e]
    refine ⟨⟨by simpa using h.l0, by simpa using h.l1, by simpa using h.le, h.lp, fun k hk => ?_, fun p hp => by simpa using h.pm p hp, h.nd⟩, fun hc => ?_, ?_⟩
    · by_cases hka : a.toNat = k
      · rw [← hka]; exact hm.2
      · exact h.ne k (by rwa [gset_ne hka] at hk)
    · have := congrArg (fun w : Wk => w.1.getD a.toNat false) hc
      simp only [gset hal, hm.1] at this
      cases this
    · simp only [wkMay, true_or, if_true, gset hal]; rfl
  by_cases k1 : kd = 1
  · subst k1
    have hm : w.1.getD a.toNat false = true := hm
    have e : wkPut w 1 a who = (w.1.set a.toNat false, w.2.1, w.2.2) := rfl
    rw [e]
    refine ⟨⟨by simpa using h.l0, by simpa using h.l1, by simpa using h.le, h.lp, fun k hk => ?_, fun p hp => by simpa using h.pm p hp, h.nd⟩, fun hc => ?_, ?_⟩
    · by_cases hka : a.toNat = k
      · rw [← hka] at hk; rw [gset hal] at hk; cases hk
      · exact h.ne k (by rwa [gset_ne hka] at hk)
    · have := congrArg (fun w : Wk => w.1.getD a.toNat false) hc
      simp only [gset hal, hm] at this
      cases this
    · exact gset hal
  by_cases k2 : kd = 2
  · subst k2
    have hm : w.1.getD a.toNat false = false ∧ w.2.1.getD a.toNat false = false := by simpa only [wkMay, or_true, if_true, Bool.and_eq_true, Bool.not_eq_true'] using hm
    have e : wkPut w 2 a who = (w.1, w.2.1.set a.toNat true, w.2.2) := rfl
    rw [e]
    refine ⟨⟨h.l0, h.l1, by simpa using h.le, h.lp, fun k hk => ?_, fun p hp => ?_, h.nd⟩, fun hc => ?_, ?_⟩
    · by_cases hka : a.toNat = k
      · rw [← hka] at hk; rw [hm.1] at hk; cases hk
      · rw [gset_ne hka]; exact h.ne k hk
    · obtain ⟨p1, p2, p3⟩ := h.pm p hp
      refine ⟨p1, p2, ?_⟩
      by_cases hka : a.toNat = p.2.toNat
      · rw [← hka, gset hae]
      · rw [gset_ne hka]; exact p3
    · have := congrArg (fun w : Wk => w.2.1.getD a.toNat false) hc
      simp only [gset hae, hm.2] at this
      cases this
    · simp only [wkMay, or_true, if_true, gset hae]; simp
  by_cases k3 : kd = 3
  · subst k3
    have hm : w.2.1.getD a.toNat false = true ∧ heldOf w.2.2 a = [] := by
      have : (w.2.1.getD a.toNat false && decide (heldOf w.2.2 a = [])) = true := hm
      simpa only [Bool.and_eq_true, decide_eq_true_eq] using this
    have e : wkPut w 3 a who = (w.1, w.2.1.set a.toNat false, w.2.2) := rfl
    rw [e]
    refine ⟨⟨h.l0, h.l1, by simpa using h.le, h.lp, fun k hk => ?_, fun p hp => ?_, h.nd⟩, fun hc => ?_, ?_⟩
    · by_cases hka : a.toNat = k
      · rw [← hka, gset hae]
      · rw [gset_ne hka]; exact h.ne k hk
    · obtain ⟨p1, p2, p3⟩ := h.pm p hp
      refine ⟨p1, p2, ?_⟩
      have hka : a.toNat ≠ p.2.toNat := fun hka => by
        have hpa : p.2 = a := by omega
        have : p.1 ∈ heldOf w.2.2 a := held_mem.2 (by rw [← hpa]; exact hp)
        rw [hm.2] at this; simp at this
      rw [gset_ne hka]; exact p3
    · have := congrArg (fun w : Wk => w.2.1.getD a.toNat false) hc
      simp only [gset hae, hm.1] at this
      cases this
    · show ((w.2.1.set a.toNat false).getD a.toNat false && _) = false
      rw [gset hae]; rfl
  by_cases k4 : kd = 4
  · subst k4
    have hm : w.2.1.getD a.toNat false = true ∧ (0 ≤ who ∧ who ≤ 9) ∧ (who, a) ∉ w.2.2 ∧ w.2.2.length < 6 := by
      have : (w.2.1.getD a.toNat false && (inB who 0 9 && !decide ((who, a) ∈ w.2.2) && decide (w.2.2.length < 6))) = true := hm
      simp only [Bool.and_eq_true, decide_eq_true_eq, inB_iff, Bool.not_eq_true', decide_eq_false_iff_not] at this
      exact ⟨this.1, this.2.1.1, this.2.1.2, this.2.2⟩
    have e : wkPut w 4 a who = (w.1, w.2.1, w.2.2 ++ [(who, a)]) := rfl
    rw [e]
    refine ⟨⟨h.l0, h.l1, h.le, by simp; omega, h.ne, fun p hp => ?_, ?_⟩, fun hc => ?_, ?_⟩
    · rcases List.mem_append.1 hp with hp | hp
      · exact h.pm p hp
      · have hp : p = (who, a) := by simpa using hp
        subst hp
        exact ⟨hm.2.1, ha, hm.1⟩
    · refine List.nodup_append.2 ⟨h.nd, by simp, fun x hx y hy e => ?_⟩
      have hy : y = (who, a) := by simpa using hy
      rw [e, hy] at hx
      exact hm.2.2.1 hx
    · have := congrArg (fun w : Wk => w.2.2.length) hc
      simp at this
    · show (w.2.1.getD a.toNat false && (inB who 0 9 && !decide ((who, a) ∈ w.2.2 ++ [(who, a)]) && decide ((w.2.2 ++ [(who, a)]).length < 6))) = false
      simp
  by_cases k5 : kd = 5
  · subst k5
    have hmem : (who, a) ∈ w.2.2 := by
      have : decide ((who, a) ∈ w.2.2) = true := hm
      simpa using this
    obtain ⟨A, B, e1, e2⟩ := ret_split hmem
    have hnd := h.nd
    rw [e1] at hnd
    obtain ⟨n1, n2⟩ := nd_mid hnd
    rw [e2]
    have hlp := h.lp
    rw [e1] at hlp
    refine ⟨⟨h.l0, h.l1, h.le, by simp at hlp ⊢; omega, h.ne, fun p hp => h.pm p ?_, n1⟩, fun hc => ?_, ?_⟩
    · rw [e1]
      rcases List.mem_append.1 hp with hp | hp
      · simp [hp]
      · simp [hp]
    · have := congrArg (fun w : Wk => w.2.2.length) hc
      rw [e1] at this
      simp at this <;> omega
    · show decide ((who, a) ∈ A ++ B) = false
      exact decide_eq_false n2
  · simp [wkMay, k0, k1, k2, k3, k4, k5] at hm
/-- What WorkDo gives, of valid work. -/
theorem do_cases {w : Wk} (h : WOk w) (kd a who : Int) : (wkDo w kd a who = (wkPut w kd a who, true) ∧ (0 ≤ a ∧ a < (w.1.length : Int)) ∧ wkMay w kd a who = true ∧ WOk (wkPut w kd a who)) ∨ (wkDo w kd a who = (w, false) ∧ ¬ ((0 ≤ a ∧ a < (w.1.length : Int)) ∧ wkMay w kd a who = true)) := by
  unfold wkDo
  rw [if_pos (wok_iff.2 h)]
  by_cases hc : 0 ≤ a ∧ a < (w.1.length : Int) ∧ wkMay w kd a who = true
  · rw [if_pos hc]; exact .inl ⟨rfl, ⟨hc.1, hc.2.1⟩, hc.2.2, (put_ok h ⟨hc.1, hc.2.1⟩ hc.2.2).1⟩
  · rw [if_neg hc]; exact .inr ⟨rfl, fun hh => hc ⟨hh.1.1, hh.1.2, hh.2⟩⟩
theorem do_bad {w : Wk} (h : workV w.1 w.2.1 w.2.2 = false) (kd a who : Int) : wkDo w kd a who = (([], [], []), false) := by
  unfold wkDo; rw [h]; rfl
theorem step_ok {s : Int × Wk} (h : WOk s.2) (d : Int × Int × Int) : WOk (wkStep s d).2 := by
  unfold wkStep
  rcases do_cases h d.1 d.2.1 d.2.2 with ⟨f1, f2, f3, f4⟩ | ⟨f1, f2⟩
  · rw [f1, if_pos rfl]; exact f4
  · rw [f1, if_neg (by simp)]; exact h
theorem fold_wok (l : List (Int × Int × Int)) : ∀ s : Int × Wk, WOk s.2 → WOk (l.foldl wkStep s).2 := by
  induction l with
  | nil => intro s h; exact h
  | cons d l ih => intro s h; exact ih _ (step_ok h d)
theorem step_shift (c : Int) (s : Int × Wk) (d : Int × Int × Int) : wkStep (c + s.1, s.2) d = (c + (wkStep s d).1, (wkStep s d).2) := by
  unfold wkStep
  dsimp only
  split
  · rw [Int.add_assoc]
  · rfl
theorem fold_shift (c : Int) (l : List (Int × Int × Int)) : ∀ s : Int × Wk, l.foldl wkStep (c + s.1, s.2) = (c + (l.foldl wkStep s).1, (l.foldl wkStep s).2) := by
  induction l with
  | nil => intro s; rfl
  | cons d l ih => intro s; simp only [List.foldl_cons]; rw [step_shift, ih]
theorem run_app {w : Wk} (h : WOk w) (A B : List (Int × Int × Int)) : wkRun w (A ++ B) = ((wkRun w A).1 + (wkRun (wkRun w A).2 B).1, (wkRun (wkRun w A).2 B).2) := by
  have hv := wok_iff.2 h
  have e1 : ∀ l, wkRun w l = l.foldl wkStep (0, w) := fun l => by unfold wkRun; rw [if_pos hv]
  have h2 := fold_wok A (0, w) h
  have e2 : wkRun (A.foldl wkStep (0, w)).2 B = B.foldl wkStep (0, (A.foldl wkStep (0, w)).2) := by unfold wkRun; rw [if_pos (wok_iff.2 h2)]
  rw [e1, e1, e2, List.foldl_append]
  have := fold_shift (A.foldl wkStep (0, w)).1 B (0, (A.foldl wkStep (0, w)).2)
  simp only [Int.add_zero] at this
  exact this
def retsOf (pm : Pm) : List (Int × Int × Int) := pm.map fun p => (5, p.2, p.1)
theorem rets_take {pm : Pm} {k : Nat} (hk : k < pm.length) : retsOf (pm.take (k + 1)) = retsOf (pm.take k) ++ [(5, (pm.getD k (0, 0)).2, (pm.getD k (0, 0)).1)] := by
  rw [List.take_succ_eq_append_getElem hk, getD_ge hk]
  simp only [retsOf, List.map_append, List.map_cons, List.map_nil]
/-- A deed for each line of which something is as told. -/
def forOf (kd : Int) (l : List Bool) (b : Bool) : Nat → List (Int × Int × Int)
  | 0 => []
  | k + 1 => if (l.getD k false == b) = true then forOf kd l b k ++ [(kd, (k : Int), 0)] else forOf kd l b k
theorem for_len (kd : Int) (l : List Bool) (b : Bool) : ∀ k, (forOf kd l b k).length ≤ k
  | 0 => by simp [forOf]
  | k + 1 => by have := for_len kd l b k; simp only [forOf]; split <;> simp <;> omega
def closeOf (w : Wk) : List (Int × Int × Int) := retsOf w.2.2 ++ forOf 3 w.2.1 true w.2.1.length ++ forOf 0 w.1 false w.1.length
theorem step_true {s : Int × Wk} {kd a who : Int} (h : WOk s.2) (ha : 0 ≤ a ∧ a < (s.2.1.length : Int)) (hm : wkMay s.2 kd a who = true) : wkStep s (kd, a, who) = (s.1 + 1, wkPut s.2 kd a who) := by
  unfold wkStep
  dsimp only
  rcases do_cases h kd a who with ⟨f1, f2, f3, f4⟩ | ⟨f1, f2⟩
  · rw [f1, if_pos rfl]
  · exact absurd ⟨ha, hm⟩ f2
theorem rets_run : ∀ (pm : Pm) (c : Int) (on earth : List Bool), WOk (on, earth, pm) → (retsOf pm).foldl wkStep (c, on, earth, pm) = (c + (pm.length : Int), on, earth, [])
  | [], c, on, earth, _ => by simp [retsOf]
  | p :: pm, c, on, earth, h => by
    have hm : wkMay (on, earth, p :: pm) 5 p.2 p.1 = true := by
      show decide ((p.1, p.2) ∈ p :: pm) = true
      exact decide_eq_true (by simp)
    have ha := (h.pm p (by simp)).2.1
    have hst := step_true (s := (c, on, earth, p :: pm)) h ha hm
    have hput : wkPut (on, earth, p :: pm) 5 p.2 p.1 = (on, earth, pm) := by
      rcases fnd_spec (p :: pm) (p.1, p.2) with ⟨h1, h2⟩ | ⟨k, hk, h1, h2, h3⟩
      · exact absurd (by simp) h2
      · have hk0 : k = 0 := by
          rcases Nat.eq_zero_or_pos k with h | h
          · exact h
          · exact absurd (by simp) (h3 0 h)
        subst hk0
        unfold wkPut
        rw [if_neg (by decide), if_neg (by decide), if_neg (by decide), if_neg (by decide), if_neg (by decide)]
        dsimp only
        rw [h1]; simp
    have hok := (put_ok h ha hm).1
    rw [hput] at hst hok
    show (retsOf pm).foldl wkStep (wkStep (c, on, earth, p :: pm) (5, p.2, p.1)) = _
    rw [hst, rets_run pm (c + 1) on earth hok]
    simp; omega
theorem rep_set {l : List Bool} {b : Bool} {k : Nat} (hk : k < l.length) : (List.replicate k b ++ l.drop k).set k b = List.replicate (k + 1) b ++ l.drop (k + 1) := by
  rw [List.set_append_right _ _ (by simp), List.length_replicate, Nat.sub_self, List.drop_eq_getElem_cons hk, List.set_cons_zero, List.replicate_succ', List.append_assoc]; rfl
theorem rep_get {l : List Bool} {b : Bool} {k : Nat} (hk : k < l.length) : (List.replicate k b ++ l.drop k).getD k false = l.getD k false := by
  simp [List.getD, List.getElem?_append_right]
theorem rep_same {l : List Bool} {b : Bool} {k : Nat} (hk : k < l.length) (h : l.getD k false = b) : List.replicate k b ++ l.drop k = List.replicate (k + 1) b ++ l.drop (k + 1) := by
  rw [← rep_set hk]
  have h2 := rep_get (b := b) hk
  have hl : k < (List.replicate k b ++ l.drop k).length := by simp; omega
  rw [getD_ge hl, h] at h2
  have e := List.set_getElem_self hl
  rw [h2] at e
  exact e.symm
theorem clear_run {on earth : List Bool} (h : WOk (on, earth, [])) (c : Int) : ∀ k, k ≤ earth.length → (forOf 3 earth true k).foldl wkStep (c, on, earth, []) = (c + ((forOf 3 earth true k).length : Int), on, List.replicate k false ++ earth.drop k, []) ∧ WOk (on, List.replicate k false ++ earth.drop k, [])
  | 0, _ => by simpa [forOf] using h
  | k + 1, hk => by
    obtain ⟨i1, i2⟩ := clear_run h c k (by omega)
    have hle := h.le
    dsimp only at hle
    simp only [forOf]
    cases he : earth.getD k false
    · simp only [show (false == true) = false from rfl, Bool.false_eq_true, if_false]
      rw [← rep_same (by omega) he]
      exact ⟨i1, i2⟩
    · simp only [beq_self_eq_true, if_true, List.foldl_append, List.foldl_cons, List.foldl_nil, i1, List.length_append, List.length_singleton]
      have hm : wkMay (on, List.replicate k false ++ earth.drop k, []) 3 (k : Int) 0 = true := by
        show ((List.replicate k false ++ earth.drop k).getD (k : Int).toNat false && decide (heldOf [] (k : Int) = [])) = true
        rw [Int.toNat_natCast, rep_get (by omega), he]; rfl
      have ha : 0 ≤ (k : Int) ∧ (k : Int) < (on.length : Int) := by omega
      have hst := step_true (s := (c + ((forOf 3 earth true k).length : Int), on, List.replicate k false ++ earth.drop k, [])) i2 ha hm
      have hput : wkPut (on, List.replicate k false ++ earth.drop k, []) 3 (k : Int) 0 = (on, List.replicate (k + 1) false ++ earth.drop (k + 1), []) := by
        show (on, (List.replicate k false ++ earth.drop k).set (k : Int).toNat false, []) = _
        rw [Int.toNat_natCast, rep_set (by omega)]
      have hok := (put_ok i2 ha hm).1
      dsimp only at hst
      rw [hput] at hst hok
      rw [hst]
      refine ⟨?_, hok⟩
      congr 1
      omega
end Go.Proofs.Ytcmnjaccapbhfaa
