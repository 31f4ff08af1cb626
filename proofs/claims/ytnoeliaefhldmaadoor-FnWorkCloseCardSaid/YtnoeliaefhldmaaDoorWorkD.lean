/- The laws of laws.go on work, in plain Lean. -/
import Derived.Test.YtnoeliaefhldmaaDoorWorkM
import Derived.Test.YtnoeliaefhldmaaDoorSm
namespace Go.Proofs.YtnoeliaefhldmaaDoor
set_option linter.unusedVariables false
set_option linter.unusedSimpArgs false

theorem gset {α : Type} {l : List α} {k : Nat} {y d : α} (hk : k < l.length) : (l.set k y).getD k d = y := by simp [List.getD, hk]
theorem gset_ne {α : Type} {l : List α} {i j : Nat} {y d : α} (h : i ≠ j) : (l.set i y).getD j d = l.getD j d := by simp [List.getD, List.getElem?_set_ne h]
theorem gout {α : Type} {l : List α} {k : Nat} {d : α} (h : l.length ≤ k) : l.getD k d = d := by simp [List.getD, List.getElem?_eq_none h]
theorem sub_take {α : Type} (l : List α) (k : Nat) : subL l 0 (k : Int) = l.take k := by simp [subL]
theorem sub_drop {α : Type} (l : List α) (k : Nat) : subL l (k : Int) (l.length : Int) = l.drop k := by
  unfold subL; rw [List.take_of_length_le (by simp), Int.toNat_natCast]
/-- Valid work, without indices. -/
structure WOk (w : Wk) : Prop where
  l0 : 1 ≤ w.1.length
  l1 : w.1.length ≤ 10
  le : w.2.1.length = w.1.length
  lp : w.2.2.length ≤ 6
  ne : ∀ k, w.1.getD k false = true → w.2.1.getD k false = false
  pm : ∀ p ∈ w.2.2, (0 ≤ p.1 ∧ p.1 ≤ 9) ∧ (0 ≤ p.2 ∧ p.2 < (w.1.length : Int)) ∧ w.2.1.getD p.2.toNat false = true
  nd : w.2.2.Nodup
theorem wok_iff {w : Wk} : workV w.1 w.2.1 w.2.2 = true ↔ WOk w := by
  rw [workV_iff]
  constructor
  · intro h
    refine ⟨h.l0, h.l1, h.le, h.lp, h.ne, fun p hp => ?_, ?_⟩
    · obtain ⟨k, hk, rfl⟩ := List.mem_iff_getElem.1 hp
      have := h.pm k hk
      rw [getD_ge hk] at this
      exact ⟨this.1, this.2.1, this.2.2.1⟩
    · rw [List.nodup_iff_pairwise_ne, List.pairwise_iff_getElem]
      intro i j hi hj hij e
      refine (h.pm j hj).2.2.2 (mem_take_get.2 ⟨i, hij, hi, ?_⟩)
      rw [getD_ge hi, getD_ge hj, e]
  · intro h
    refine ⟨h.l0, h.l1, h.le, h.lp, h.ne, fun k hk => ?_⟩
    have hm := h.pm (w.2.2.getD k (0, 0)) (by rw [getD_ge hk]; exact List.getElem_mem hk)
    refine ⟨hm.1, hm.2.1, hm.2.2, fun ht => ?_⟩
    obtain ⟨j, h1, h2, h3⟩ := mem_take_get.1 ht
    have hp := h.nd
    rw [List.nodup_iff_pairwise_ne, List.pairwise_iff_getElem] at hp
    rw [getD_ge h2, getD_ge hk] at h3
    exact hp j k h2 hk h1 h3
/-- A permit that is returned. -/
theorem ret_split {w : Wk} {a who : Int} (hm : (who, a) ∈ w.2.2) : ∃ A B, w.2.2 = A ++ (who, a) :: B ∧ wkPut w 5 a who = (w.1, w.2.1, A ++ B) := by
  rcases fnd_spec w.2.2 (who, a) with ⟨h1, h2⟩ | ⟨k, hk, h1, h2, h3⟩
  · exact absurd hm h2
  refine ⟨w.2.2.take k, w.2.2.drop (k + 1), ?_, ?_⟩
  · rw [← h2, getD_ge hk]; simp
  · unfold wkPut
    rw [if_neg (by decide), if_neg (by decide), if_neg (by decide), if_neg (by decide), if_neg (by decide), h1, Int.toNat_natCast]
theorem held_app (A B : Pm) (line : Int) : heldOf (A ++ B) line = heldOf A line ++ heldOf B line := by simp [heldOf]
theorem held_mem {pm : Pm} {line x : Int} : x ∈ heldOf pm line ↔ (x, line) ∈ pm := by
  simp only [heldOf, List.mem_map, List.mem_filter, beq_iff_eq]
  constructor
  · rintro ⟨p, ⟨h1, h2⟩, h3⟩
    rw [← h3, ← h2]; exact h1
  · intro h; exact ⟨(x, line), ⟨h, rfl⟩, rfl⟩
theorem nd_mid {A B : Pm} {p : Int × Int} (h : (A ++ p :: B).Nodup) : (A ++ B).Nodup ∧ p ∉ A ++ B := by
  rw [List.nodup_append] at h
  obtain ⟨h1, h2, h3⟩ := h
  rw [List.nodup_cons] at h2
  refine ⟨List.nodup_append.2 ⟨h1, h2.2, fun a ha b hb => h3 a ha b (by simp [hb])⟩, fun hm => ?_⟩
  rcases List.mem_append.1 hm with hm | hm
  · exact h3 p hm p (by simp) rfl
  · exact h2.1 hm
theorem put_ok {w : Wk} {kd a who : Int} (h : WOk w) (ha : 0 ≤ a ∧ a < (w.1.length : Int)) (hm : wkMay w kd a who = true) : WOk (wkPut w kd a who) ∧ wkPut w kd a who ≠ w ∧ wkMay (wkPut w kd a who) kd a who = false := by
  have hal : a.toNat < w.1.length := by omega
  have hae : a.toNat < w.2.1.length := by have := h.le; omega
  by_cases k0 : kd = 0
  · subst k0
    have hm : w.1.getD a.toNat false = false ∧ w.2.1.getD a.toNat false = false := by simpa only [wkMay, true_or, if_true, Bool.and_eq_true, Bool.not_eq_true'] using hm
    have e : wkPut w 0 a who = (w.1.set a.toNat true, w.2.1, w.2.2) := rfl
    rw [e]
    refine ⟨⟨by simpa using h.l0, by simpa using h.l1, by simpa using h.le, h.lp, fun k hk => ?_, fun p hp => by simpa using h.pm p hp, h.nd⟩, fun hc => ?_, ?_⟩
    · by_cases hka : a.toNat = k
      · rw [← hka]; exact hm.2
      · exact h.ne k (by rwa [gset_ne hka] at hk)
    · have := congrArg (fun w : Wk => w.1.getD a.toNat false) hc
      simp only [gset hal, hm.1] at this
      cases this
    · simp only [wkMay, true_or, if_true, gset hal]; rfl
  by_cases k1 : kd = 1
  · subst k1
    have hm : w.1.getD a.toNat false = true := hm
    have e : wkPut w 1 a who = (w.1.set a.toNat false, w.2.1, w.2.2) := rfl
    rw [e]
    refine ⟨⟨by simpa using h.l0, by simpa using h.l1, by simpa using h.le, h.lp, fun k hk => ?_, fun p hp => by simpa using h.pm p hp, h.nd⟩, fun hc => ?_, ?_⟩
    · by_cases hka : a.toNat = k
      · rw [← hka] at hk; rw [gset hal] at hk; cases hk
      · exact h.ne k (by rwa [gset_ne hka] at hk)
    · have := congrArg (fun w : Wk => w.1.getD a.toNat false) hc
      simp only [gset hal, hm] at this
      cases this
    · exact gset hal
  by_cases k2 : kd = 2
  · subst k2
    have hm : w.1.getD a.toNat false = false ∧ w.2.1.getD a.toNat false = false := by simpa only [wkMay, or_true, if_true, Bool.and_eq_true, Bool.not_eq_true'] using hm
    have e : wkPut w 2 a who = (w.1, w.2.1.set a.toNat true, w.2.2) := rfl
    rw [e]
    refine ⟨⟨h.l0, h.l1, by simpa using h.le, h.lp, fun k hk => ?_, fun p hp => ?_, h.nd⟩, fun hc => ?_, ?_⟩
    · by_cases hka : a.toNat = k
      · rw [← hka] at hk; rw [hm.1] at hk; cases hk
      · rw [gset_ne hka]; exact h.ne k hk
    · obtain ⟨p1, p2, p3⟩ := h.pm p hp
      refine ⟨p1, p2, ?_⟩
      by_cases hka : a.toNat = p.2.toNat
      · rw [← hka, gset hae]
      · rw [gset_ne hka]; exact p3
    · have := congrArg (fun w : Wk => w.2.1.getD a.toNat false) hc
      simp only [gset hae, hm.2] at this
      cases this
    · simp only [wkMay, or_true, if_true, gset hae]; simp
  by_cases k3 : kd = 3
  · subst k3
    have hm : w.2.1.getD a.toNat false = true ∧ heldOf w.2.2 a = [] := by
      have : (w.2.1.getD a.toNat false && decide (heldOf w.2.2 a = [])) = true := hm
      simpa only [Bool.and_eq_true, decide_eq_true_eq] using this
    have e : wkPut w 3 a who = (w.1, w.2.1.set a.toNat false, w.2.2) := rfl
    rw [e]
    refine ⟨⟨h.l0, h.l1, by simpa using h.le, h.lp, fun k hk => ?_, fun p hp => ?_, h.nd⟩, fun hc => ?_, ?_⟩
    · by_cases hka : a.toNat = k
      · rw [← hka, gset hae]
      · rw [gset_ne hka]; exact h.ne k hk
    · obtain ⟨p1, p2, p3⟩ := h.pm p hp
      refine ⟨p1, p2, ?_⟩
      have hka : a.toNat ≠ p.2.toNat := fun hka => by
        have hpa : p.2 = a := by omega
        have : p.1 ∈ heldOf w.2.2 a := held_mem.2 (by rw [← hpa]; exact hp)
        rw [hm.2] at this; simp at this
      rw [gset_ne hka]; exact p3
    · have := congrArg (fun w : Wk => w.2.1.getD a.toNat false) hc
      simp only [gset hae, hm.1] at this
      cases this
    · show ((w.2.1.set a.toNat false).getD a.toNat false && _) = false
      rw [gset hae]; rfl
  by_cases k4 : kd = 4
  · subst k4
    have hm : w.2.1.getD a.toNat false = true ∧ (0 ≤ who ∧ who ≤ 9) ∧ (who, a) ∉ w.2.2 ∧ w.2.2.length < 6 := by
      have : (w.2.1.getD a.toNat false && (inB who 0 9 && !decide ((who, a) ∈ w.2.2) && decide (w.2.2.length < 6))) = true := hm
      simp only [Bool.and_eq_true, decide_eq_true_eq, inB_iff, Bool.not_eq_true', decide_eq_false_iff_not] at this
      exact ⟨this.1, this.2.1.1, this.2.1.2, this.2.2⟩
    have e : wkPut w 4 a who = (w.1, w.2.1, w.2.2 ++ [(who, a)]) := rfl
    rw [e]
    refine ⟨⟨h.l0, h.l1, h.le, by simp; omega, h.ne, fun p hp => ?_, ?_⟩, fun hc => ?_, ?_⟩
    · rcases List.mem_append.1 hp with hp | hp
      · exact h.pm p hp
      · have hp : p = (who, a) := by simpa using hp
        subst hp
        exact ⟨hm.2.1, ha, hm.1⟩
    · refine List.nodup_append.2 ⟨h.nd, by simp, fun x hx y hy e => ?_⟩
      have hy : y = (who, a) := by simpa using hy
      rw [e, hy] at hx
      exact hm.2.2.1 hx
    · have := congrArg (fun w : Wk => w.2.2.length) hc
      simp at this
    · show (w.2.1.getD a.toNat false && (inB who 0 9 && !decide ((who, a) ∈ w.2.2 ++ [(who, a)]) && decide ((w.2.2 ++ [(who, a)]).length < 6))) = false
      simp
  by_cases k5 : kd = 5
  · subst k5
    have hmem : (who, a) ∈ w.2.2 := by
      have : decide ((who, a) ∈ w.2.2) = true := hm
      simpa using this
    obtain ⟨A, B, e1, e2⟩ := ret_split hmem
    have hnd := h.nd
    rw [e1] at hnd
    obtain ⟨n1, n2⟩ := nd_mid hnd
    rw [e2]
    have hlp := h.lp
    rw [e1] at hlp
    refine ⟨⟨h.l0, h.l1, h.le, by simp at hlp ⊢; omega, h.ne, fun p hp => h.pm p ?_, n1⟩, fun hc => ?_, ?_⟩
    · rw [e1]
      rcases List.mem_append.1 hp with hp | hp
      · simp [hp]
      · simp [hp]
    · have := congrArg (fun w : Wk => w.2.2.length) hc
      rw [e1] at this
      simp at this <;> omega
    · show decide ((who, a) ∈ A ++ B) = false
      exact decide_eq_false n2
  · simp [wkMay, k0, k1, k2, k3, k4, k5] at hm
/-- What WorkDo gives, of valid work. -/
theorem do_cases {w : Wk} (h : WOk w) (kd a who : Int) : (wkDo w kd a who = (wkPut w kd a who, true) ∧ (0 ≤ a ∧ a < (w.1.length : Int)) ∧ wkMay w kd a who = true ∧ WOk (wkPut w kd a who)) ∨ (wkDo w kd a who = (w, false) ∧ ¬ ((0 ≤ a ∧ a < (w.1.length : Int)) ∧ wkMay w kd a who = true)) := by
  unfold wkDo
  rw [if_pos (wok_iff.2 h)]
  by_cases hc : 0 ≤ a ∧ a < (w.1.length : Int) ∧ wkMay w kd a who = true
  · rw [if_pos hc]; exact .inl ⟨rfl, ⟨hc.1, hc.2.1⟩, hc.2.2, (put_ok h ⟨hc.1, hc.2.1⟩ hc.2.2).1⟩
  · rw [if_neg hc]; exact .inr ⟨rfl, fun hh => hc ⟨hh.1.1, hh.1.2, hh.2⟩⟩
theorem do_bad {w : Wk} (h : workV w.1 w.2.1 w.2.2 = false) (kd a who : Int) : wkDo w kd a who = (([], [], []), false) := by
  unfold wkDo; rw [h]; rfl

/-! Draws. -/
theorem wlines_ok {b : List Int} (hb : Code b) {n p : Int} (hn : 1 ≤ n ∧ n ≤ 5) (hp : 0 ≤ p ∧ p ≤ 1000) : Ys (m_spec_l20Work_l1 b FUEL (n, p, [], [])) fun r => (0 ≤ r.1 ∧ r.1 ≤ p + 5) ∧ (1 ≤ r.2.1.length ∧ r.2.1.length ≤ 5) ∧ r.2.2.length = r.2.1.length := by
  refine ys_loop (m_spec_l20Work_l1 b) (fun s => s.1.toNat) (fun s => (0 ≤ s.1 ∧ s.1 + s.2.2.1.length = n) ∧ (0 ≤ s.2.1 ∧ s.2.1 + s.1 ≤ p + n) ∧ s.2.2.2.length = s.2.2.1.length) (fun fuel s hs ih => ?_) FUEL _ ⟨by (try dsimp only); simp; omega, by (try dsimp only); omega, rfl⟩ (by (try dsimp only); unfold FUEL; omega)
  obtain ⟨k, q, on, earth⟩ := s
  dsimp only at hs ih ⊢
  obtain ⟨h1, h2, h3⟩ := hs
  rw [m_spec_l20Work_l1.eq_2]
  dsimp only
  refine ys_bif (fun hc => ?_) (fun hc => ?_)
  · have hc := ltB_t hc
    refine ys_then (ys_pick hb (by (try dsimp only); omega) (by omega) fun v v0 v1 _ => ?_)
    refine ys_chk (by simp [apB]; omega) (ys_chk (by simp [apB]; omega) ?_)
    dsimp only
    rw [wM (n := k - 1) (by omega)]
    exact ih _ ⟨by simp; omega, by (try dsimp only); omega, by simp; omega⟩ (by (try dsimp only); omega)
  · have hc := ltB_f hc
    exact ys_some ⟨by (try dsimp only); omega, by (try dsimp only); omega, h3⟩
theorem wdeeds_ok {b : List Int} (hb : Code b) {n p : Int} {a : Wk} (hn : 0 ≤ n ∧ n ≤ 20) (hp : 0 ≤ p ∧ p ≤ 1000) (ha : (1 ≤ a.1.length ∧ a.1.length ≤ 5) ∧ a.2.1.length = a.1.length ∧ a.2.2.length ≤ 7) :
    Ys (m_spec_l20Work_l2 b FUEL (n, p, a)) fun r => (0 ≤ r.1 ∧ r.1 ≤ p + 40) ∧ (1 ≤ r.2.1.length ∧ r.2.1.length ≤ 5) ∧ r.2.2.1.length = r.2.1.length ∧ r.2.2.2.length ≤ 7 := by
  refine ys_loop (m_spec_l20Work_l2 b) (fun s => s.1.toNat) (fun s => 0 ≤ s.1 ∧ (0 ≤ s.2.1 ∧ s.2.1 + 2 * s.1 ≤ p + 2 * n) ∧ (1 ≤ s.2.2.1.length ∧ s.2.2.1.length ≤ 5) ∧ s.2.2.2.1.length = s.2.2.1.length ∧ s.2.2.2.2.length ≤ 7) (fun fuel s hs ih => ?_) FUEL _ ⟨by (try dsimp only); omega, by (try dsimp only); omega, ha⟩ (by (try dsimp only); unfold FUEL; omega)
  obtain ⟨k, q, x⟩ := s
  dsimp only at hs ih ⊢
  obtain ⟨h1, h2, h3, h4, h5⟩ := hs
  rw [m_spec_l20Work_l2.eq_2]
  dsimp only
  refine ys_bif (fun hc => ?_) (fun hc => ?_)
  · have hc := ltB_t hc
    refine ys_then (ys_pick hb (by (try dsimp only); omega) (by omega) fun v v0 v1 _ => ?_)
    refine ys_then (ys_pick hb (by (try dsimp only); omega) (by omega) fun u u0 u1 _ => ?_)
    refine ys_then (ys_eq (sDo x 4 v u (by omega) (by omega) (by omega)) ?_)
    refine ys_bind (Q := fun r => (1 ≤ r.1.length ∧ r.1.length ≤ 5) ∧ r.2.1.length = r.1.length ∧ r.2.2.length ≤ 7) (ys_bif (fun hd => ys_some ?_) fun _ => ys_some ⟨h3, h4, h5⟩) fun r hr => ?_
    · have hlen := wkDo_len x 4 v u
      have hput := put_len x 4 v u
      simp only [out4w] at hd ⊢
      have e : (wkDo x 4 v u).1 = wkPut x 4 v u := by
        unfold wkDo at hd ⊢
        split at hd
        · rename_i hv; rw [if_pos hv]
          split at hd
          · rename_i hc2; rw [if_pos hc2]
          · cases hd
        · cases hd
      rw [e] at hlen ⊢
      exact ⟨by rw [hput.1]; exact h3, by rw [hput.2.1, hput.1, h4], by omega⟩
    dsimp only
    rw [wM (n := k - 1) (by omega)]
    exact ih _ ⟨by (try dsimp only); omega, by (try dsimp only); omega, hr⟩ (by (try dsimp only); omega)
  · have hc := ltB_f hc
    exact ys_some ⟨by (try dsimp only); omega, h3, h4, h5⟩
theorem drawWork_ok {b : List Int} (hb : Code b) : Ys (m_spec_l20Work b 0 9) fun r => (r.1.length ≤ 8 ∧ r.2.1.length ≤ 8 ∧ r.2.2.1.length ≤ 8) ∧ (0 ≤ r.2.2.2 ∧ r.2.2.2 ≤ 300) := by
  unfold m_spec_l20Work
  refine ys_then (ys_pick hb (by omega) (by omega) fun v v0 v1 _ => ?_)
  have v2 := v1 (by omega)
  dsimp only
  rw [wM (n := 1 + v) (by omega)]
  refine ys_bind (wlines_ok hb (by omega) (by omega)) fun r hr => ?_
  obtain ⟨q, on, earth⟩ := r
  obtain ⟨hq, hl, he⟩ := hr
  dsimp only at hq hl he ⊢
  refine ys_then (ys_pick hb (by (try dsimp only); omega) (by omega) fun v v0 v1 _ => ?_)
  have v2 := v1 (by omega)
  refine ys_bind (wdeeds_ok hb (a := (on, earth, [])) (by (try dsimp only); omega) (by (try dsimp only); omega) ⟨hl, he, by simp⟩) fun r hr => ?_
  obtain ⟨q', on', earth', pm'⟩ := r
  obtain ⟨hq', l1, l2, l3⟩ := hr
  dsimp only at hq' l1 l2 l3 ⊢
  refine ys_then (ys_odd hb (by (try dsimp only); omega) (by omega) fun o => ?_)
  refine ys_bind (Q := fun r => (r.2.1.length ≤ 8 ∧ r.2.2.1.length ≤ 8 ∧ r.2.2.2.length ≤ 8) ∧ (0 ≤ r.1 ∧ r.1 ≤ 300)) ?_ fun r hr => ys_some hr
  refine ys_bif (fun _ => ?_) (fun _ => ys_some ⟨⟨by (try dsimp only); omega, by (try dsimp only); omega, by (try dsimp only); omega⟩, by (try dsimp only); omega⟩)
  refine ys_then (ys_pick hb (by (try dsimp only); omega) (by omega) fun v v0 v1 _ => ?_)
  have i0 : ixB 0 on'.length = true := by simp [ixB]; omega
  have i1 : ixB 0 earth'.length = true := by simp [ixB]; omega
  refine ys_bind (Q := fun r => r.1.length ≤ 8 ∧ r.2.1.length ≤ 8 ∧ r.2.2.length ≤ 8) ?_ fun r hr => ys_some ⟨hr, by (try dsimp only); omega⟩
  refine ys_bif (fun _ => ys_chk i0 (ys_chk i1 (ys_some ⟨by simp; omega, by simp; omega, by (try dsimp only); omega⟩))) (fun _ => ?_)
  refine ys_bind (Q := fun r => r.1.length ≤ 8 ∧ r.2.1.length ≤ 8 ∧ r.2.2.length ≤ 8) ?_ fun r hr => ys_some hr
  refine ys_bif (fun _ => ys_chk (by simp [apB]; omega) (ys_some ⟨by (try dsimp only); omega, by simp; omega, by (try dsimp only); omega⟩)) (fun _ => ?_)
  refine ys_bind (Q := fun r => r.1.length ≤ 8 ∧ r.2.1.length ≤ 8 ∧ r.2.2.length ≤ 8) ?_ fun r hr => ys_some hr
  refine ys_bif (fun _ => ys_chk (by simp [apB]; omega) (ys_some ⟨by (try dsimp only); omega, by (try dsimp only); omega, by simp; omega⟩)) (fun _ => ?_)
  refine ys_bind (Q := fun r => r.1.length ≤ 8 ∧ r.2.1.length ≤ 8 ∧ r.2.2.length ≤ 8) ?_ fun r hr => ys_some hr
  refine ys_bif (fun _ => ys_chk (by simp [apB]; omega) (ys_some ⟨by (try dsimp only); omega, by (try dsimp only); omega, by simp; omega⟩)) (fun _ => ?_)
  exact ys_chk i1 (ys_chk i0 (ys_some ⟨by simp; omega, by simp; omega, by simp⟩))
theorem wdeed_ok {b : List Int} (hb : Code b) {p : Int} {on earth : List Bool} {pm : Pm} (hp : 0 ≤ p ∧ p ≤ 900000) (hl : on.length ≤ 1000) : Ys (m_spec_l20WorkDeed b p on earth pm) fun r => r.2.2.2 = p + 5 := by
  unfold m_spec_l20WorkDeed
  rw [wM (n := (on.length : Int) + 1) (by omega)]
  refine ys_then (ys_pick hb (by omega) (by omega) fun _ _ _ _ => ?_)
  refine ys_then (ys_pick hb (by (try dsimp only); omega) (by omega) fun _ _ _ _ => ?_)
  refine ys_then (ys_pick hb (by (try dsimp only); omega) (by omega) fun _ _ _ _ => ?_)
  refine ys_then (ys_pick hb (by (try dsimp only); omega) (by omega) fun _ _ _ _ => ?_)
  refine ys_then (ys_pick hb (by (try dsimp only); omega) (by omega) fun _ _ _ _ => ?_)
  exact ys_some (by (try dsimp only); omega)
section
variable {b : List Int} (hb : ∀ z ∈ b, inU z)
include hb
theorem drawHeld_ok : Ys (m_spec_DrawWorkHeld b) fun r => r.1.length ≤ 8 ∧ r.2.1.length ≤ 8 ∧ r.2.2.1.length ≤ 8 := by
  unfold m_spec_DrawWorkHeld
  refine ys_bind (drawWork_ok (code_of hb)) fun r hr => ?_
  have h1 := hr.1; have h2 := hr.2
  rw [wM (n := (r.1.length : Int) + 1) (by omega)]
  exact ys_then (ys_pick (code_of hb) (by omega) (by omega) fun _ _ _ _ => ys_some hr.1)
theorem drawWDo_ok : Ys (m_spec_DrawWorkDo b) fun r => r.1.length ≤ 8 ∧ r.2.1.length ≤ 8 ∧ r.2.2.1.length ≤ 8 := by
  unfold m_spec_DrawWorkDo
  refine ys_bind (drawWork_ok (code_of hb)) fun r hr => ?_
  have h1 := hr.1; have h2 := hr.2
  refine ys_bind (Q := fun q => (0 ≤ q.2 ∧ q.2 ≤ 301) ∧ (q.1 = true → 1 ≤ r.2.2.1.length)) (ys_bif (fun hc => ?_) fun _ => ys_some ⟨by (try dsimp only); omega, fun h => by cases h⟩) fun q hq => ?_
  · have hc := ltB_t hc
    exact ys_then (ys_pick (code_of hb) (by omega) (by omega) fun _ _ _ _ => ys_some ⟨by (try dsimp only); omega, fun _ => by omega⟩)
  refine ys_bif (fun hc => ?_) fun _ => ?_
  · have hl := hq.2 hc
    refine ys_then (ys_pick (code_of hb) (by omega) (by omega) fun v v0 v1 _ => ?_)
    exact ys_chk (by have := v1 (by omega); simp [ixB]; omega) (ys_some hr.1)
  · exact ys_bind (wdeed_ok (code_of hb) (by omega) (by omega)) fun _ _ => ys_some hr.1
theorem wdrawList_ok {r : List Bool × List Bool × Pm × Int} (hr : r.1.length ≤ 8) {n p : Int} (hn : 0 ≤ n ∧ n ≤ 20) (hp : 0 ≤ p ∧ p ≤ 1000) : Ys (m_spec_DrawWorkRun_l1 b r FUEL ([], n, p)) fun r => r.length ≤ 20 := by
  refine ys_loop (m_spec_DrawWorkRun_l1 b r) (fun s => s.2.1.toNat) (fun s => (0 ≤ s.2.1 ∧ s.2.1 + s.1.length = n) ∧ (0 ≤ s.2.2 ∧ s.2.2 + 5 * s.2.1 ≤ p + 5 * n)) (fun fuel s hs ih => ?_) FUEL _ ⟨by (try dsimp only); simp; omega, by (try dsimp only); omega⟩ (by (try dsimp only); unfold FUEL; omega)
  obtain ⟨l, k, q⟩ := s
  dsimp only at hs ih ⊢
  obtain ⟨h1, h2⟩ := hs
  rw [m_spec_DrawWorkRun_l1.eq_2]
  dsimp only
  refine ys_bif (fun hc => ?_) (fun hc => ?_)
  · have hc := ltB_t hc
    refine ys_bind (wdeed_ok (code_of hb) (by omega) (by omega)) fun d hd => ?_
    refine ys_chk (by simp [apB]; omega) ?_
    rw [wM (n := k - 1) (by omega)]
    exact ih _ ⟨by simp; omega, by (try dsimp only); omega⟩ (by (try dsimp only); omega)
  · exact ys_some (by (try dsimp only); omega)
theorem drawWRun_ok : Ys (m_spec_DrawWorkRun b) fun r => (r.1.length ≤ 8 ∧ r.2.1.length ≤ 8 ∧ r.2.2.1.length ≤ 8) ∧ r.2.2.2.length ≤ 20 := by
  unfold m_spec_DrawWorkRun
  refine ys_bind (drawWork_ok (code_of hb)) fun r hr => ?_
  have h1 := hr.1; have h2 := hr.2
  refine ys_then (ys_pick (code_of hb) (by omega) (by omega) fun v v0 v1 _ => ?_)
  have v2 := v1 (by omega)
  exact ys_bind (wdrawList_ok hb h1.1 (by (try dsimp only); omega) (by (try dsimp only); omega)) fun d hd => ys_some ⟨hr.1, hd⟩
theorem drawClose_ok : Ys (m_spec_DrawWorkClose b) fun r => r.1.length ≤ 8 ∧ r.2.1.length ≤ 8 ∧ r.2.2.length ≤ 8 := by
  unfold m_spec_DrawWorkClose
  exact ys_bind (drawWork_ok (code_of hb)) fun r hr => ys_some hr.1
end

/-! Comparisons. -/
theorem samePm_eq (a b : Pm) (hn : a.length ≤ 1099511627776) : m_laws_samePermits a b = some (decide (a = b)) := by
  unfold m_laws_samePermits
  by_cases h : a.length = b.length
  · rw [show ((a.length : Int) != (b.length : Int)) = false by simp [h]]
    rw [same_loop (m_laws_samePermits_l1 a b) a b (0, 0) (some (.inr false)) (some (.inl ())) hn h (fun fuel k hk => by
      rw [m_laws_samePermits_l1.eq_2]
      simp only [lt_dec hk, ix_dec hk, ix_dec (show k < b.length by omega), chk_true, cond_true, Int.toNat_natCast, w64_succ (by omega : k < 4611686018427387904)]
      rw [show (a.getD k (0, 0) != b.getD k (0, 0)) = !((a.getD k (0, 0)).1 == (b.getD k (0, 0)).1 && (a.getD k (0, 0)).2 == (b.getD k (0, 0)).2) from rfl]
      cases ((a.getD k (0, 0)).1 == (b.getD k (0, 0)).1 && (a.getD k (0, 0)).2 == (b.getD k (0, 0)).2) <;> rfl) (fun fuel => by rw [m_laws_samePermits_l1.eq_2]; simp only [nlt_dec, cond_false]), any_ne a b (0, 0) h]
    cases decide (a = b) <;> rfl
  · rw [show ((a.length : Int) != (b.length : Int)) = true by simp; omega]
    have : a ≠ b := fun e => h (by rw [e])
    simp [this]
theorem sameWork_eq (a b : Wk) (h1 : a.1.length ≤ 1048576) (h2 : a.2.1.length ≤ 1048576) (h3 : a.2.2.length ≤ 1048576) : m_laws_sameWork a.1 a.2.1 a.2.2 b.1 b.2.1 b.2.2 = some (decide (a = b)) := by
  obtain ⟨x, y, z⟩ := a
  obtain ⟨x', y', z'⟩ := b
  dsimp only at h1 h2 h3 ⊢
  unfold m_laws_sameWork
  rw [sameBools_eq x x' (by omega), sameBools_eq y y' (by omega), samePm_eq z z' (by omega)]
  by_cases e1 : x = x'
  · by_cases e2 : y = y'
    · simp [e1, e2, gb]
    · simp [e1, e2, gb]
  · simp [e1, gb]

/-! The laws. -/
theorem door_FnWorkDo (x0 : List Int) (h0 : x0.length ≤ maxLen) (h1 : ∀ z ∈ x0, inU z) : m_laws_FnWorkDo x0 = some true := by
  unfold m_laws_FnWorkDo
  rcases Bool.eq_false_or_eq_true (ltB 1048576 (x0.length : Int)) with h | h <;> rw [h]
  · rfl
  obtain ⟨⟨on, earth, pm, kd, a, who⟩, e, l1, l2, l3⟩ := drawWDo_ok h1
  dsimp only at l1 l2 l3
  have hi := iDo (on, earth, pm) kd a who (by (try dsimp only); omega) (by (try dsimp only); omega) (by (try dsimp only); omega)
  have hs := sDo (on, earth, pm) kd a who (by (try dsimp only); omega) (by (try dsimp only); omega) (by (try dsimp only); omega)
  have hlen := wkDo_len (on, earth, pm) kd a who
  dsimp only at hi hs hlen
  simp only [cond_false, e, Option.bind_some, hi, hs, out4w]
  have s1 := sameWork_eq (wkDo (on, earth, pm) kd a who).1 (wkDo (on, earth, pm) kd a who).1 (by omega) (by omega) (by omega)
  have s2 := sameWork_eq (wkDo (on, earth, pm) kd a who).1 (on, earth, pm) (by omega) (by omega) (by omega)
  dsimp only at s2
  simp only [s1, s2, decide_true, Option.bind_some, bne_self_eq_false, Bool.not_true, Bool.or_self, cond_false, alive_ok]
  cases hv : workV on earth pm
  · rw [do_bad (w := (on, earth, pm)) hv]
    simp [gb]
  have hok : WOk (on, earth, pm) := wok_iff.1 hv
  rcases do_cases hok kd a who with ⟨e1, e2, e3, e4⟩ | ⟨e1, e2⟩
  · obtain ⟨_, p2, p3⟩ := put_ok hok e2 e3
    have hl := put_len (on, earth, pm) kd a who
    dsimp only at hl
    have again := iDo (wkPut (on, earth, pm) kd a who) kd a who (by omega) (by omega) (by omega)
    have hag : (wkDo (wkPut (on, earth, pm) kd a who) kd a who).2 = false := by
      rcases do_cases e4 kd a who with ⟨f1, f2, f3, f4⟩ | ⟨f1, f2⟩
      · rw [p3] at f3; cases f3
      · rw [f1]
    rw [e1]
    dsimp only
    simp only [cond_true, again, out4w, Option.bind_some, hag, iValid _ _ (wkPut (on, earth, pm) kd a who).2.2 (show (wkPut (on, earth, pm) kd a who).1.length ≤ 1048576 by omega) (by omega), wok_iff.2 e4, gb, decide_eq_false p2, Bool.not_false, Bool.and_self]
  · rw [e1]; simp [gb]
theorem door_FnWorkHeld (x0 : List Int) (h0 : x0.length ≤ maxLen) (h1 : ∀ z ∈ x0, inU z) : m_laws_FnWorkHeld x0 = some true := by
  unfold m_laws_FnWorkHeld
  rcases Bool.eq_false_or_eq_true (ltB 1048576 (x0.length : Int)) with h | h <;> rw [h]
  · rfl
  obtain ⟨⟨on, earth, pm, line⟩, e, l1, l2, l3⟩ := drawHeld_ok h1
  dsimp only at l1 l2 l3
  have hhl := held_len pm line
  simp only [cond_false, e, Option.bind_some, iHeld on earth pm line (by omega) (by omega), sHeld on earth pm line (by omega) (by omega)]
  have hloop : ∀ L : List Int, L = (if workV on earth pm then heldOf pm line else []) → L.length ≤ 8 → m_laws_FnWorkHeld_l1 (on, earth, pm, line) L FUEL 0 = some (.inl ()) := by
    intro L hL hLl
    have := loop_all (m_laws_FnWorkHeld_l1 (on, earth, pm, line) L) (fun k => (k : Int)) L.length (some (.inl ())) (by omega) (fun k fuel hk => ?_) (fun fuel => ?_)
    · simpa using this
    · cases hv : workV on earth pm
      · rw [hv] at hL; simp at hL; rw [hL] at hk; simp at hk
      rw [hv] at hL
      simp only [if_true] at hL
      have hok : WOk (on, earth, pm) := wok_iff.1 hv
      have hmem : L.getD k 0 ∈ heldOf pm line := by rw [← hL, getD_ge hk]; exact List.getElem_mem hk
      have hpm := held_mem.1 hmem
      obtain ⟨p1, p2, p3⟩ := hok.pm _ hpm
      dsimp only at p2 p3
      have hon : on.getD line.toNat false = false := by
        cases ho : on.getD line.toNat false
        · rfl
        · have := hok.ne _ ho; dsimp only at this; rw [p3] at this; cases this
      have d1 : (wkDo (on, earth, pm) 0 line 0).2 = false := by
        rcases do_cases hok 0 line 0 with ⟨f1, f2, f3, f4⟩ | ⟨f1, f2⟩
        · simp [wkMay] at f3
          rw [List.getD_eq_getElem?_getD] at p3
          rw [f3.2] at p3; cases p3
        · rw [f1]
      have d2 : (wkDo (on, earth, pm) 3 line 0).2 = false := by
        rcases do_cases hok 3 line 0 with ⟨f1, f2, f3, f4⟩ | ⟨f1, f2⟩
        · have f3 : (earth.getD line.toNat false && decide (heldOf pm line = [])) = true := f3
          simp only [Bool.and_eq_true, decide_eq_true_eq] at f3
          rw [f3.2] at hmem; simp at hmem
        · rw [f1]
      have hmay : wkMay (on, earth, pm) 5 line (L.getD k 0) = true := by
        show decide ((L.getD k 0, line) ∈ pm) = true
        exact decide_eq_true hpm
      have d3 : wkDo (on, earth, pm) 5 line (L.getD k 0) = (wkPut (on, earth, pm) 5 line (L.getD k 0), true) := by
        rcases do_cases hok 5 line (L.getD k 0) with ⟨f1, f2, f3, f4⟩ | ⟨f1, f2⟩
        · exact f1
        · exact absurd ⟨p2, hmay⟩ f2
      have hput := (put_ok hok p2 hmay).1
      obtain ⟨A, B, q1, q2⟩ := ret_split (w := (on, earth, pm)) hpm
      dsimp only at q1
      have hx : m_impl_WorkHeld (wkPut (on, earth, pm) 5 line (L.getD k 0)).1 (wkPut (on, earth, pm) 5 line (L.getD k 0)).2.1 (wkPut (on, earth, pm) 5 line (L.getD k 0)).2.2 line = some (heldOf (A ++ B) line) := by
        have hl := put_len (on, earth, pm) 5 line (L.getD k 0)
        dsimp only at hl
        rw [iHeld _ _ _ _ (by omega) (by omega), wok_iff.2 hput, q2]; rfl
      have hlen : (heldOf (A ++ B) line).length + 1 = L.length := by
        rw [hL, q1, held_app, held_app]
        simp [heldOf]; omega
      have hnot : L.getD k 0 ∉ heldOf (A ++ B) line := fun hm => by
        have hnd := hok.nd
        dsimp only at hnd
        rw [q1] at hnd
        exact (nd_mid hnd).2 (held_mem.1 hm)
      have hhas : m_laws_hasInt (heldOf (A ++ B) line) (L.getD k 0) = some false := by
        unfold m_laws_hasInt
        have hh := loop_all (m_laws_hasInt_l1 (heldOf (A ++ B) line) (L.getD k 0)) (fun k => (k : Int)) (heldOf (A ++ B) line).length (some (.inl ())) (by omega) (fun j fuel hj => by
          rw [m_laws_hasInt_l1.eq_2]
          have : ((heldOf (A ++ B) line).getD j 0 == L.getD k 0) = false := by
            rw [beq_eq_false_iff_ne]
            intro e
            exact hnot (by rw [← e, getD_ge hj]; exact List.getElem_mem hj)
          simp only [lt_dec hj, ix_dec hj, chk_true, cond_true, Int.toNat_natCast, this, cond_false, w64_succ (by omega : j < 4611686018427387904)]) (fun fuel => by rw [m_laws_hasInt_l1.eq_2]; simp only [nlt_dec, cond_false])
        rw [show m_laws_hasInt_l1 (heldOf (A ++ B) line) (L.getD k 0) FUEL 0 = _ from hh]; rfl
      have g1 := iDo (on, earth, pm) 0 line 0 (by (try dsimp only); omega) (by (try dsimp only); omega) (by (try dsimp only); omega)
      have g2 := iDo (on, earth, pm) 3 line 0 (by (try dsimp only); omega) (by (try dsimp only); omega) (by (try dsimp only); omega)
      have g3 := iDo (on, earth, pm) 5 line (L.getD k 0) (by (try dsimp only); omega) (by (try dsimp only); omega) (by (try dsimp only); omega)
      rw [d3] at g3
      dsimp only at g1 g2 g3
      rw [m_laws_FnWorkHeld_l1.eq_2]
      have e9 : (((heldOf (A ++ B) line).length : Int) != w64 ((L.length : Int) - 1)) = false := by
        rw [wM (by omega)]
        simp; omega
      simp only [lt_dec hk, ix_dec hk, chk_true, cond_true, Int.toNat_natCast, g1, g2, g3, out4w, Option.bind_some, d1, d2, Bool.or_self, Bool.not_true, cond_false, hx, e9, hhas, w64_succ (by omega : k < 4611686018427387904)]
    · rw [m_laws_FnWorkHeld_l1.eq_2]; simp only [nlt_dec, cond_false]
  have hL : (if workV on earth pm then heldOf pm line else []).length ≤ 8 := by
    split
    · omega
    · simp
  rw [sameInts_eq _ _ (by omega), hloop _ rfl hL]
  simp only [Option.bind_some, decide_true, cond_true, Sum.elim_inl, alive_ok]

/-! Runs. -/
theorem step_ok {s : Int × Wk} (h : WOk s.2) (d : Int × Int × Int) : WOk (wkStep s d).2 := by
  unfold wkStep
  rcases do_cases h d.1 d.2.1 d.2.2 with ⟨f1, f2, f3, f4⟩ | ⟨f1, f2⟩
  · rw [f1, if_pos rfl]; exact f4
  · rw [f1, if_neg (by simp)]; exact h
theorem fold_wok (l : List (Int × Int × Int)) : ∀ s : Int × Wk, WOk s.2 → WOk (l.foldl wkStep s).2 := by
  induction l with
  | nil => intro s h; exact h
  | cons d l ih => intro s h; exact ih _ (step_ok h d)
theorem step_shift (c : Int) (s : Int × Wk) (d : Int × Int × Int) : wkStep (c + s.1, s.2) d = (c + (wkStep s d).1, (wkStep s d).2) := by
  unfold wkStep
  dsimp only
  split
  · rw [Int.add_assoc]
  · rfl
theorem fold_shift (c : Int) (l : List (Int × Int × Int)) : ∀ s : Int × Wk, l.foldl wkStep (c + s.1, s.2) = (c + (l.foldl wkStep s).1, (l.foldl wkStep s).2) := by
  induction l with
  | nil => intro s; rfl
  | cons d l ih => intro s; simp only [List.foldl_cons]; rw [step_shift, ih]
theorem run_app {w : Wk} (h : WOk w) (A B : List (Int × Int × Int)) : wkRun w (A ++ B) = ((wkRun w A).1 + (wkRun (wkRun w A).2 B).1, (wkRun (wkRun w A).2 B).2) := by
  have hv := wok_iff.2 h
  have e1 : ∀ l, wkRun w l = l.foldl wkStep (0, w) := fun l => by unfold wkRun; rw [if_pos hv]
  have h2 := fold_wok A (0, w) h
  have e2 : wkRun (A.foldl wkStep (0, w)).2 B = B.foldl wkStep (0, (A.foldl wkStep (0, w)).2) := by unfold wkRun; rw [if_pos (wok_iff.2 h2)]
  rw [e1, e1, e2, List.foldl_append]
  have := fold_shift (A.foldl wkStep (0, w)).1 B (0, (A.foldl wkStep (0, w)).2)
  simp only [Int.add_zero] at this
  exact this
theorem door_FnWorkRun (x0 : List Int) (h0 : x0.length ≤ maxLen) (h1 : ∀ z ∈ x0, inU z) : m_laws_FnWorkRun x0 = some true := by
  unfold m_laws_FnWorkRun
  rcases Bool.eq_false_or_eq_true (ltB 1048576 (x0.length : Int)) with h | h <;> rw [h]
  · rfl
  obtain ⟨⟨on, earth, pm, l⟩, e, ⟨l1, l2, l3⟩, l4⟩ := drawWRun_ok h1
  dsimp only at l1 l2 l3 l4
  have hi := fun m (hm : m.length ≤ 1048576) => iRunW m hm (on, earth, pm) (by (try dsimp only); omega) (by (try dsimp only); omega) (by (try dsimp only); omega)
  have hs := sRunW l (by omega) (on, earth, pm) (by (try dsimp only); omega) (by (try dsimp only); omega) (by (try dsimp only); omega)
  have hlen := fun m => wkRun_len (on, earth, pm) m
  dsimp only at hi hs hlen
  have hln := hlen l
  simp only [cond_false, e, Option.bind_some, hi l (by omega), hs, outW, sValid on earth pm (by omega) (by omega)]
  have s1 := sameWork_eq (wkRun (on, earth, pm) l).2 (wkRun (on, earth, pm) l).2 (by omega) (by omega) (by omega)
  simp only [s1, decide_true, Option.bind_some, bne_self_eq_false, Bool.not_true, Bool.or_self, cond_false, alive_ok]
  cases hv : workV on earth pm
  · have : wkRun (on, earth, pm) l = (0, [], [], []) := by simp [wkRun, hv]
    simp [this, gb]
  have hok : WOk (on, earth, pm) := wok_iff.1 hv
  have hrun : ∀ m, WOk (wkRun (on, earth, pm) m).2 := fun m => by
    have : wkRun (on, earth, pm) m = m.foldl wkStep (0, on, earth, pm) := by unfold wkRun; rw [if_pos hv]
    rw [this]; exact fold_wok m _ hok
  have hx := hrun l
  have hloop : m_laws_FnWorkRun_l1 ((wkRun (on, earth, pm) l).2.1, (wkRun (on, earth, pm) l).2.2.1, (wkRun (on, earth, pm) l).2.2.2, (wkRun (on, earth, pm) l).1) FUEL 0 = some (.inl ()) := by
    generalize wkRun (on, earth, pm) l = x at *
    have := loop_all (m_laws_FnWorkRun_l1 (x.2.1, x.2.2.1, x.2.2.2, x.1)) (fun k => (k : Int)) x.2.2.2.length (some (.inl ())) (by omega) (fun k fuel hk => ?_) (fun fuel => ?_)
    · simpa using this
    · rw [m_laws_FnWorkRun_l1.eq_2]
      obtain ⟨p1, p2, p3⟩ := hx.pm (x.2.2.2.getD k (0, 0)) (by rw [getD_ge hk]; exact List.getElem_mem hk)
      have hle := hx.le
      have c1 : ltB (x.2.2.2.getD k (0, 0)).2 0 = false := decide_eq_false (by omega)
      have c2 : leB (x.2.1.length : Int) (x.2.2.2.getD k (0, 0)).2 = false := decide_eq_false (by omega)
      have c3 : leB (x.2.2.1.length : Int) (x.2.2.2.getD k (0, 0)).2 = false := decide_eq_false (by omega)
      have c4 : ixB (x.2.2.2.getD k (0, 0)).2 x.2.1.length = true := decide_eq_true (by omega)
      have c5 : ixB (x.2.2.2.getD k (0, 0)).2 x.2.2.1.length = true := decide_eq_true (by omega)
      have hon : x.2.1.getD (x.2.2.2.getD k (0, 0)).2.toNat false = false := by
        cases ho : x.2.1.getD (x.2.2.2.getD k (0, 0)).2.toNat false
        · rfl
        · have := hx.ne _ ho; rw [p3] at this; cases this
      simp only [lt_dec hk, ix_dec hk, chk_true, cond_true, Int.toNat_natCast, c1, c2, c3, c4, c5, hon, p3, Bool.or_self, Bool.or_true, Bool.not_true, cond_false, w64_succ (by omega : k < 4611686018427387904)]
    · rw [m_laws_FnWorkRun_l1.eq_2]; simp only [nlt_dec, cond_false]
  have hq : (l.length : Int).tdiv 2 = ((l.length / 2 : Nat) : Int) := rfl
  have wq : w64 (((l.length / 2 : Nat) : Int)) = ((l.length / 2 : Nat) : Int) := wM (by omega)
  have b1 : slB 0 ((l.length / 2 : Nat) : Int) l.length = true := decide_eq_true (by omega)
  have b2 : slB ((l.length / 2 : Nat) : Int) (l.length : Int) l.length = true := decide_eq_true (by omega)
  have t1 : subL l 0 ((l.length / 2 : Nat) : Int) = l.take (l.length / 2) := sub_take l _
  have t2 : subL l ((l.length / 2 : Nat) : Int) (l.length : Int) = l.drop (l.length / 2) := sub_drop l _
  have hz := hlen (l.take (l.length / 2))
  have hi2 := iRunW (l.drop (l.length / 2)) (by simp; omega) (wkRun (on, earth, pm) (l.take (l.length / 2))).2 (by omega) (by omega) (by omega)
  have happ := run_app hok (l.take (l.length / 2)) (l.drop (l.length / 2))
  rw [List.take_append_drop] at happ
  have hpx : m_impl_WorkValid (wkRun (on, earth, pm) l).2.1 (wkRun (on, earth, pm) l).2.2.1 (wkRun (on, earth, pm) l).2.2.2 = some true := by rw [iValid _ _ _ (by omega) (by omega)]; exact congrArg some (wok_iff.2 hx)
  have hcnt := wkFold_len l (0, on, earth, pm)
  have hrl : wkRun (on, earth, pm) l = l.foldl wkStep (0, on, earth, pm) := by unfold wkRun; rw [if_pos hv]
  rw [← hrl] at hcnt
  dsimp only at hcnt
  simp only [cond_true, hloop, Option.bind_some, Sum.elim_inl, hq, wq, b1, b2, t1, t2, chk_true, hi (l.take (l.length / 2)) (by simp; omega), outW, hi2, hpx, gb]
  have hlv := wkRun_len (wkRun (on, earth, pm) (l.take (l.length / 2))).2 (l.drop (l.length / 2))
  have hv2 : (wkRun (wkRun (on, earth, pm) (l.take (l.length / 2))).2 (l.drop (l.length / 2))).2 = (wkRun (on, earth, pm) l).2 := by rw [happ]
  have hn2 : (wkRun (on, earth, pm) (l.take (l.length / 2))).1 + (wkRun (wkRun (on, earth, pm) (l.take (l.length / 2))).2 (l.drop (l.length / 2))).1 = (wkRun (on, earth, pm) l).1 := by rw [happ]
  rw [hv2, s1, hn2, wM (by omega)]
  simp

/-! All work ends. -/
def retsOf (pm : Pm) : List (Int × Int × Int) := pm.map fun p => (5, p.2, p.1)
theorem rets_take {pm : Pm} {k : Nat} (hk : k < pm.length) : retsOf (pm.take (k + 1)) = retsOf (pm.take k) ++ [(5, (pm.getD k (0, 0)).2, (pm.getD k (0, 0)).1)] := by
  rw [List.take_succ_eq_append_getElem hk, getD_ge hk]
  simp only [retsOf, List.map_append, List.map_cons, List.map_nil]
/-- A deed for each line of which something is as told. -/
def forOf (kd : Int) (l : List Bool) (b : Bool) : Nat → List (Int × Int × Int)
  | 0 => []
  | k + 1 => if (l.getD k false == b) = true then forOf kd l b k ++ [(kd, (k : Int), 0)] else forOf kd l b k
theorem for_len (kd : Int) (l : List Bool) (b : Bool) : ∀ k, (forOf kd l b k).length ≤ k
  | 0 => by simp [forOf]
  | k + 1 => by have := for_len kd l b k; simp only [forOf]; split <;> simp <;> omega
def closeOf (w : Wk) : List (Int × Int × Int) := retsOf w.2.2 ++ forOf 3 w.2.1 true w.2.1.length ++ forOf 0 w.1 false w.1.length
section
variable (w : Wk) (ho : w.1.length ≤ 1000) (he : w.2.1.length ≤ 1000) (hp : w.2.2.length ≤ 1000)
include ho he hp
omit ho he in
theorem iRets : m_impl_Work_returns w.1 w.2.1 w.2.2 = some (retsOf w.2.2) := by
  unfold m_impl_Work_returns
  have h := loop_all (m_impl_Work_returns_l1 w.2.2) (fun k => (retsOf (w.2.2.take k), (k : Int))) w.2.2.length (some (retsOf w.2.2)) (by omega) (fun k fuel hk => ?_) (fun fuel => ?_)
  · rw [show (([] : List (Int × Int × Int)), (0 : Int)) = (retsOf (w.2.2.take 0), ((0 : Nat) : Int)) from rfl, h]; rfl
  · rw [m_impl_Work_returns_l1.eq_2]
    have ha : apB (retsOf (w.2.2.take k)).length 1 = true := by simp [apB, retsOf]; omega
    simp only [lt_dec hk, ix_dec hk, chk_true, cond_true, Int.toNat_natCast, List.length_singleton, ha, w64_succ (by omega : k < 4611686018427387904)]
    rw [rets_take hk]
  · rw [m_impl_Work_returns_l1.eq_2]; simp [nlt_dec]
omit he hp ho in
theorem iFor (kd : Int) (l : List Bool) (b : Bool) (hl : l.length ≤ 1000) : m_impl_deedsFor kd l b = some (forOf kd l b l.length) := by
  unfold m_impl_deedsFor
  have h := loop_all (m_impl_deedsFor_l1 kd l b) (fun k => (forOf kd l b k, (k : Int))) l.length (some (forOf kd l b l.length)) (by omega) (fun k fuel hk => ?_) (fun fuel => ?_)
  · rw [show (([] : List (Int × Int × Int)), (0 : Int)) = (forOf kd l b 0, ((0 : Nat) : Int)) from rfl, h]; rfl
  · rw [m_impl_deedsFor_l1.eq_2]
    have hb := for_len kd l b k
    have ha : apB (forOf kd l b k).length 1 = true := by simp [apB]; omega
    simp only [lt_dec hk, ix_dec hk, chk_true, cond_true, Int.toNat_natCast, List.length_singleton, ha, w64_succ (by omega : k < 4611686018427387904)]
    simp only [forOf]
    cases (l.getD k false == b) <;> rfl
  · rw [m_impl_deedsFor_l1.eq_2]; simp only [nlt_dec, cond_false]
theorem iClose : m_impl_WorkClose w.1 w.2.1 w.2.2 = some (if workV w.1 w.2.1 w.2.2 then closeOf w else []) := by
  unfold m_impl_WorkClose
  rw [iValid _ _ _ (by omega) (by omega), iRets w hp, iFor 3 w.2.1 true he, iFor 0 w.1 false ho]
  have b1 := for_len 3 w.2.1 true w.2.1.length
  have b2 := for_len 0 w.1 false w.1.length
  have b3 : (retsOf w.2.2).length = w.2.2.length := by simp [retsOf]
  have a1 : apB (retsOf w.2.2).length (forOf 3 w.2.1 true w.2.1.length).length = true := by simp [apB]; omega
  have a2 : apB (retsOf w.2.2 ++ forOf 3 w.2.1 true w.2.1.length).length (forOf 0 w.1 false w.1.length).length = true := by simp [apB]; omega
  cases workV w.1 w.2.1 w.2.2
  · rfl
  · simp only [Option.bind_some, cond_true, a1, a2, chk_true, if_true]; rfl
omit he in
theorem sClose : m_spec_WorkClose w.1 w.2.1 w.2.2 = some (if workV w.1 w.2.1 w.2.2 then closeOf w else []) := by
  unfold m_spec_WorkClose
  rw [sValid _ _ _ (by omega) (by omega)]
  cases hv : workV w.1 w.2.1 w.2.2
  · rfl
  have hle : w.2.1.length = w.1.length := (wok_iff.1 hv).le
  have b3 : (retsOf w.2.2).length = w.2.2.length := by simp [retsOf]
  have b1 := for_len 3 w.2.1 true w.2.1.length
  have h1 := loop_all (m_spec_WorkClose_l1 w.2.2) (fun k => (retsOf (w.2.2.take k), (k : Int))) w.2.2.length (some (retsOf w.2.2)) (by omega) (fun k fuel hk => by
    rw [m_spec_WorkClose_l1.eq_2]
    have ha : apB (retsOf (w.2.2.take k)).length 1 = true := by simp [apB, retsOf]; omega
    simp only [lt_dec hk, ix_dec hk, chk_true, cond_true, Int.toNat_natCast, List.length_singleton, ha, w64_succ (by omega : k < 4611686018427387904)]
    rw [rets_take hk]) (fun fuel => by rw [m_spec_WorkClose_l1.eq_2]; simp [nlt_dec])
  have h2 := loop_all (m_spec_WorkClose_l2 w.1 w.2.1) (fun k => (retsOf w.2.2 ++ forOf 3 w.2.1 true k, (k : Int))) w.1.length (some (retsOf w.2.2 ++ forOf 3 w.2.1 true w.2.1.length)) (by omega) (fun k fuel hk => by
    rw [m_spec_WorkClose_l2.eq_2]
    have hb := for_len 3 w.2.1 true k
    have ha : apB (retsOf w.2.2 ++ forOf 3 w.2.1 true k).length 1 = true := by simp [apB]; omega
    simp only [lt_dec hk, ix_dec (show k < w.2.1.length by omega), chk_true, cond_true, Int.toNat_natCast, List.length_singleton, ha, w64_succ (by omega : k < 4611686018427387904)]
    simp only [forOf]
    cases w.2.1.getD k false <;> simp) (fun fuel => by rw [m_spec_WorkClose_l2.eq_2]; simp [nlt_dec, hle])
  have h3 := loop_all (m_spec_WorkClose_l3 w.1) (fun k => (retsOf w.2.2 ++ forOf 3 w.2.1 true w.2.1.length ++ forOf 0 w.1 false k, (k : Int))) w.1.length (some (closeOf w)) (by omega) (fun k fuel hk => by
    rw [m_spec_WorkClose_l3.eq_2]
    have hb := for_len 0 w.1 false k
    have ha : apB (retsOf w.2.2 ++ forOf 3 w.2.1 true w.2.1.length ++ forOf 0 w.1 false k).length 1 = true := by simp [apB]; omega
    simp only [lt_dec hk, ix_dec hk, chk_true, cond_true, Int.toNat_natCast, List.length_singleton, ha, w64_succ (by omega : k < 4611686018427387904)]
    simp only [forOf]
    cases w.1.getD k false <;> simp) (fun fuel => by rw [m_spec_WorkClose_l3.eq_2]; simp only [nlt_dec, cond_false]; rfl)
  have h2' : m_spec_WorkClose_l2 w.1 w.2.1 FUEL (retsOf w.2.2, 0) = some (retsOf w.2.2 ++ forOf 3 w.2.1 true w.2.1.length) := by
    have := h2; simp only [forOf, List.append_nil] at this; exact this
  have h3' : m_spec_WorkClose_l3 w.1 FUEL (retsOf w.2.2 ++ forOf 3 w.2.1 true w.2.1.length, 0) = some (closeOf w) := by
    have := h3; simp only [forOf, List.append_nil] at this; exact this
  simp only [Option.bind_some, cond_true, if_true]
  rw [show m_spec_WorkClose_l1 w.2.2 FUEL ([], 0) = _ from h1]
  simp only [Option.bind_some, h2', h3']
end
theorem step_true {s : Int × Wk} {kd a who : Int} (h : WOk s.2) (ha : 0 ≤ a ∧ a < (s.2.1.length : Int)) (hm : wkMay s.2 kd a who = true) : wkStep s (kd, a, who) = (s.1 + 1, wkPut s.2 kd a who) := by
  unfold wkStep
  dsimp only
  rcases do_cases h kd a who with ⟨f1, f2, f3, f4⟩ | ⟨f1, f2⟩
  · rw [f1, if_pos rfl]
  · exact absurd ⟨ha, hm⟩ f2
theorem rets_run : ∀ (pm : Pm) (c : Int) (on earth : List Bool), WOk (on, earth, pm) → (retsOf pm).foldl wkStep (c, on, earth, pm) = (c + (pm.length : Int), on, earth, [])
  | [], c, on, earth, _ => by simp [retsOf]
  | p :: pm, c, on, earth, h => by
    have hm : wkMay (on, earth, p :: pm) 5 p.2 p.1 = true := by
      show decide ((p.1, p.2) ∈ p :: pm) = true
      exact decide_eq_true (by simp)
    have ha := (h.pm p (by simp)).2.1
    have hst := step_true (s := (c, on, earth, p :: pm)) h ha hm
    have hput : wkPut (on, earth, p :: pm) 5 p.2 p.1 = (on, earth, pm) := by
      rcases fnd_spec (p :: pm) (p.1, p.2) with ⟨h1, h2⟩ | ⟨k, hk, h1, h2, h3⟩
      · exact absurd (by simp) h2
      · have hk0 : k = 0 := by
          rcases Nat.eq_zero_or_pos k with h | h
          · exact h
          · exact absurd (by simp) (h3 0 h)
        subst hk0
        unfold wkPut
        rw [if_neg (by decide), if_neg (by decide), if_neg (by decide), if_neg (by decide), if_neg (by decide)]
        dsimp only
        rw [h1]; simp
    have hok := (put_ok h ha hm).1
    rw [hput] at hst hok
    show (retsOf pm).foldl wkStep (wkStep (c, on, earth, p :: pm) (5, p.2, p.1)) = _
    rw [hst, rets_run pm (c + 1) on earth hok]
    simp; omega
theorem rep_set {l : List Bool} {b : Bool} {k : Nat} (hk : k < l.length) : (List.replicate k b ++ l.drop k).set k b = List.replicate (k + 1) b ++ l.drop (k + 1) := by
  rw [List.set_append_right _ _ (by simp), List.length_replicate, Nat.sub_self, List.drop_eq_getElem_cons hk, List.set_cons_zero, List.replicate_succ', List.append_assoc]; rfl
theorem rep_get {l : List Bool} {b : Bool} {k : Nat} (hk : k < l.length) : (List.replicate k b ++ l.drop k).getD k false = l.getD k false := by
  simp [List.getD, List.getElem?_append_right]
theorem rep_same {l : List Bool} {b : Bool} {k : Nat} (hk : k < l.length) (h : l.getD k false = b) : List.replicate k b ++ l.drop k = List.replicate (k + 1) b ++ l.drop (k + 1) := by
  rw [← rep_set hk]
  have h2 := rep_get (b := b) hk
  have hl : k < (List.replicate k b ++ l.drop k).length := by simp; omega
  rw [getD_ge hl, h] at h2
  have e := List.set_getElem_self hl
  rw [h2] at e
  exact e.symm
theorem clear_run {on earth : List Bool} (h : WOk (on, earth, [])) (c : Int) : ∀ k, k ≤ earth.length → (forOf 3 earth true k).foldl wkStep (c, on, earth, []) = (c + ((forOf 3 earth true k).length : Int), on, List.replicate k false ++ earth.drop k, []) ∧ WOk (on, List.replicate k false ++ earth.drop k, [])
  | 0, _ => by simpa [forOf] using h
  | k + 1, hk => by
    obtain ⟨i1, i2⟩ := clear_run h c k (by omega)
    have hle := h.le
    dsimp only at hle
    simp only [forOf]
    cases he : earth.getD k false
    · simp only [show (false == true) = false from rfl, Bool.false_eq_true, if_false]
      rw [← rep_same (by omega) he]
      exact ⟨i1, i2⟩
    · simp only [beq_self_eq_true, if_true, List.foldl_append, List.foldl_cons, List.foldl_nil, i1, List.length_append, List.length_singleton]
      have hm : wkMay (on, List.replicate k false ++ earth.drop k, []) 3 (k : Int) 0 = true := by
        show ((List.replicate k false ++ earth.drop k).getD (k : Int).toNat false && decide (heldOf [] (k : Int) = [])) = true
        rw [Int.toNat_natCast, rep_get (by omega), he]; rfl
      have ha : 0 ≤ (k : Int) ∧ (k : Int) < (on.length : Int) := by omega
      have hst := step_true (s := (c + ((forOf 3 earth true k).length : Int), on, List.replicate k false ++ earth.drop k, [])) i2 ha hm
      have hput : wkPut (on, List.replicate k false ++ earth.drop k, []) 3 (k : Int) 0 = (on, List.replicate (k + 1) false ++ earth.drop (k + 1), []) := by
        show (on, (List.replicate k false ++ earth.drop k).set (k : Int).toNat false, []) = _
        rw [Int.toNat_natCast, rep_set (by omega)]
      have hok := (put_ok i2 ha hm).1
      dsimp only at hst
      rw [hput] at hst hok
      rw [hst]
      refine ⟨?_, hok⟩
      congr 1
      omega
theorem on_run {on : List Bool} {n : Nat} (h : WOk (on, List.replicate n false, [])) (c : Int) : ∀ k, k ≤ on.length → (forOf 0 on false k).foldl wkStep (c, on, List.replicate n false, []) = (c + ((forOf 0 on false k).length : Int), List.replicate k true ++ on.drop k, List.replicate n false, []) ∧ WOk (List.replicate k true ++ on.drop k, List.replicate n false, [])
  | 0, _ => by simpa [forOf] using h
  | k + 1, hk => by
    obtain ⟨i1, i2⟩ := on_run h c k (by omega)
    have hle := i2.le
    simp only [forOf]
    cases he : on.getD k false
    · simp only [beq_self_eq_true, if_true, List.foldl_append, List.foldl_cons, List.foldl_nil, i1, List.length_append, List.length_singleton]
      have hm : wkMay (List.replicate k true ++ on.drop k, List.replicate n false, []) 0 (k : Int) 0 = true := by
        show (!(List.replicate k true ++ on.drop k).getD (k : Int).toNat false && !(List.replicate n false).getD (k : Int).toNat false) = true
        rw [Int.toNat_natCast, rep_get (by omega), he]
        have : (List.replicate n false).getD k false = false := by
          simp only [List.getD, List.getElem?_replicate]; split <;> rfl
        rw [this]; rfl
      have ha : 0 ≤ (k : Int) ∧ (k : Int) < ((List.replicate k true ++ on.drop k).length : Int) := by simp; omega
      have hst := step_true (s := (c + ((forOf 0 on false k).length : Int), List.replicate k true ++ on.drop k, List.replicate n false, [])) i2 ha hm
      have hput : wkPut (List.replicate k true ++ on.drop k, List.replicate n false, []) 0 (k : Int) 0 = (List.replicate (k + 1) true ++ on.drop (k + 1), List.replicate n false, []) := by
        show ((List.replicate k true ++ on.drop k).set (k : Int).toNat true, List.replicate n false, ([] : Pm)) = _
        rw [Int.toNat_natCast, rep_set (by omega)]
      have hok := (put_ok i2 ha hm).1
      dsimp only at hst
      rw [hput] at hst hok
      rw [hst]
      refine ⟨?_, hok⟩
      congr 1
      omega
    · simp only [show (true == false) = false from rfl, Bool.false_eq_true, if_false]
      rw [← rep_same (by omega) he]
      exact ⟨i1, i2⟩
theorem close_run {w : Wk} (h : WOk w) : wkRun w (closeOf w) = (((closeOf w).length : Int), List.replicate w.1.length true, List.replicate w.1.length false, []) := by
  obtain ⟨on, earth, pm⟩ := w
  have hle := h.le
  dsimp only at hle
  have hv := wok_iff.2 h
  have e1 : wkRun (on, earth, pm) (closeOf (on, earth, pm)) = (closeOf (on, earth, pm)).foldl wkStep (0, on, earth, pm) := by unfold wkRun; rw [if_pos hv]
  rw [e1]
  unfold closeOf
  rw [List.foldl_append, List.foldl_append, rets_run pm 0 on earth h]
  have h1 : WOk (on, earth, []) := ⟨h.l0, h.l1, h.le, by simp, h.ne, fun p hp => by simp at hp, List.nodup_nil⟩
  obtain ⟨c1, c2⟩ := clear_run h1 (0 + (pm.length : Int)) earth.length (Nat.le_refl _)
  rw [c1]
  simp only [List.drop_length, List.append_nil] at c2 ⊢
  obtain ⟨d1, d2⟩ := on_run c2 (0 + (pm.length : Int) + ((forOf 3 earth true earth.length).length : Int)) on.length (Nat.le_refl _)
  rw [d1]
  simp only [List.drop_length, List.append_nil]
  rw [hle]
  congr 1
  simp [retsOf]
  omega
theorem count_eq (l : List Bool) (hl : l.length ≤ 1000) : m_laws_count l = some ((l.countP (fun b => b) : Nat) : Int) := by
  unfold m_laws_count
  have h := loop_all (m_laws_count_l1 l) (fun k => (((l.take k).countP (fun b => b) : Nat), (k : Int))) l.length (some ((l.countP (fun b => b) : Nat) : Int)) (by omega) (fun k fuel hk => ?_) (fun fuel => ?_)
  · rw [show m_laws_count_l1 l FUEL (0, 0) = _ from h]; rfl
  · rw [m_laws_count_l1.eq_2]
    have hc := List.countP_le_length (p := fun b => b) (l := l.take k)
    have hlk : (l.take k).length = k := by simp; omega
    simp only [lt_dec hk, ix_dec hk, chk_true, cond_true, Int.toNat_natCast, w64_succ (by omega : k < 4611686018427387904)]
    rw [List.take_succ_eq_append_getElem hk, List.countP_append, ← getD_ge (d := false) hk, List.countP_singleton]
    cases l.getD k false
    · simp
    · simp only [cond_true, if_true]
      rw [w64_succ (by omega)]; simp
  · rw [m_laws_count_l1.eq_2]; simp [nlt_dec]
theorem sameDeeds_eq (a : List (Int × Int × Int)) (hn : a.length ≤ 1048576) : m_laws_sameDeeds a a = some true := by
  unfold m_laws_sameDeeds
  have h := loop_all (m_laws_sameDeeds_l1 a a) (fun k => (k : Int)) a.length (some (.inl ())) (by omega) (fun k fuel hk => ?_) (fun fuel => ?_)
  · simp only [bne_self_eq_false, cond_false]
    rw [show m_laws_sameDeeds_l1 a a FUEL 0 = _ from h]; rfl
  · rw [m_laws_sameDeeds_l1.eq_2]
    simp only [lt_dec hk, ix_dec hk, chk_true, cond_true, Int.toNat_natCast, w64_succ (by omega : k < 4611686018427387904), beq_self_eq_true, Bool.and_self]
  · rw [m_laws_sameDeeds_l1.eq_2]; simp only [nlt_dec, cond_false]
theorem door_FnWorkClose (x0 : List Int) (h0 : x0.length ≤ maxLen) (h1 : ∀ z ∈ x0, inU z) : m_laws_FnWorkClose x0 = some true := by
  unfold m_laws_FnWorkClose
  rcases Bool.eq_false_or_eq_true (ltB 1048576 (x0.length : Int)) with h | h <;> rw [h]
  · rfl
  obtain ⟨⟨on, earth, pm⟩, e, l1, l2, l3⟩ := drawClose_ok h1
  dsimp only at l1 l2 l3
  have hi := iClose (on, earth, pm) (by (try dsimp only); omega) (by (try dsimp only); omega) (by (try dsimp only); omega)
  have hs := sClose (on, earth, pm) (by (try dsimp only); omega) (by (try dsimp only); omega)
  have hcl : (closeOf (on, earth, pm)).length ≤ 100 := by
    have b1 := for_len 3 earth true earth.length
    have b2 := for_len 0 on false on.length
    simp [closeOf, retsOf]; omega
  dsimp only at hi hs
  simp only [cond_false, e, Option.bind_some, hi, hs, sValid on earth pm (by omega) (by omega)]
  cases hv : workV on earth pm
  · simp [sameDeeds_eq [] (by simp), gb, alive_ok]
  have hok : WOk (on, earth, pm) := wok_iff.1 hv
  have hrun := iRunW (closeOf (on, earth, pm)) (by omega) (on, earth, pm) (by (try dsimp only); omega) (by (try dsimp only); omega) (by (try dsimp only); omega)
  rw [close_run hok] at hrun
  dsimp only [outW] at hrun
  simp only [if_true, sameDeeds_eq _ (show (closeOf (on, earth, pm)).length ≤ 1048576 by omega), Option.bind_some, cond_true, hrun, count_eq _ (show (List.replicate on.length true).length ≤ 1000 by simp; omega), count_eq _ (show (List.replicate on.length false).length ≤ 1000 by simp; omega)]
  have k1 : (List.replicate on.length true).countP (fun b => b) = on.length := by rw [List.countP_replicate]; rfl
  have k2 : (List.replicate on.length false).countP (fun b => b) = 0 := by rw [List.countP_replicate]; rfl
  rw [k1, k2]
  simp [gb]
end Go.Proofs.YtnoeliaefhldmaaDoor
