/- The laws of laws.go on bars, in plain Lean. -/
import Derived.Test.YtandfbpanaldcaaDoorBvM
import Derived.Test.YtandfbpanaldcaaDoorSm
namespace Go.Proofs.YtandfbpanaldcaaDoor
set_option linter.unusedVariables false
set_option linter.unusedSimpArgs false

theorem sub_take {α : Type} (l : List α) (k : Nat) : subL l 0 (k : Int) = l.take k := by simp [subL]
theorem sub_drop {α : Type} (l : List α) (k : Nat) : subL l (k : Int) (l.length : Int) = l.drop k := by
  unfold subL; rw [List.take_of_length_le (by simp), Int.toNat_natCast]
theorem sameBars_eq (a : List Int) (ca : Bool) (b : List Int) (cb : Bool) (hn : a.length ≤ 1000) : m_laws_sameBars a ca b cb = some ((ca == cb) && decide (a = b)) := by
  unfold m_laws_sameBars
  rw [sameInts_eq a b (by omega)]
  cases h : ca == cb <;> simp [gb]

/-! A deed and its contrary. -/
def contrary (d : Int) : Int := d + 1 - 2 * (d % 2)
theorem contrary_bay {d : Int} (h : 2 ≤ d) : deedBay (contrary d) = deedBay d ∧ deedBar (contrary d) = deedBar d ∧ shuts (contrary d) = !shuts d := by
  unfold deedBay deedBar shuts contrary
  refine ⟨by omega, by omega, ?_⟩
  rw [Bool.eq_iff_iff]; simp; omega
theorem flip_ok {x b : Int} {c c' : Bool} (hx : sideOk c x = true) (hb : b = 1 ∨ b = 2) (hy : sideOk c' (flipBar x b) = true) : onBar (flipBar x b) b = !onBar x b ∧ flipBar (flipBar x b) b = x ∧ flipBar x b ≠ x := by
  have h1 : x = 1 ∨ x = 2 ∨ x = 3 := by simp [sideOk, inB] at hx; omega
  rcases h1 with rfl | rfl | rfl <;> rcases hb with rfl | rfl <;> first | decide | (exfalso; revert hy; cases c' <;> decide)
theorem set_back {s : List Int} {k : Nat} {y : Int} (hk : k < s.length) : (s.set k y).set k (sideAt s k) = s := by
  have : sideAt s k = s[k] := by simp [sideAt, hk]
  rw [List.set_set, this, List.set_getElem_self]
theorem undo {s s' : List Int} {c c' : Bool} {d : Int} (h : barsDo s c d = (s', c', true)) : (0 ≤ d ∧ d < 2 + 4 * (s.length : Int)) ∧ barsValid s' c' = true ∧ ¬ (s' = s ∧ c' = c) ∧ barsDo s' c' (contrary d) = (s, c, true) := by
  cases hv : barsValid s c
  · rw [barsDo_invalid hv] at h; simp at h
  by_cases ho : d < 0 ∨ 2 + 4 * (s.length : Int) ≤ d
  · rw [barsDo_out hv ho] at h; simp at h
  refine ⟨by omega, ?_⟩
  by_cases h2 : d < 2
  · rw [barsDo_coupler hv (by omega) h2] at h
    split at h
    · simp at h
    rename_i hc
    split at h
    · rename_i hv'
      simp only [Prod.mk.injEq, and_true] at h
      obtain ⟨rfl, rfl⟩ := h
      have e : shuts (contrary d) = c := by
        have : shuts (contrary d) = !shuts d := by
          unfold shuts contrary; rw [Bool.eq_iff_iff]; simp; omega
        rw [this]; revert hc; cases c <;> cases shuts d <;> simp
      refine ⟨hv', fun hh => hc (by simp [hh.2]), ?_⟩
      rw [barsDo_coupler hv' (by unfold contrary; omega) (by unfold contrary; omega), e, if_neg (by revert hc; cases c <;> cases shuts d <;> simp), if_pos hv]
    · simp at h
  · rw [barsDo_side hv (by omega) (by omega)] at h
    have hk : deedBay d < s.length := by unfold deedBay; omega
    have hb : deedBar d = 1 ∨ deedBar d = 2 := by unfold deedBar; omega
    split at h
    · simp at h
    rename_i hc
    split at h
    · rename_i hv'
      simp only [Prod.mk.injEq, and_true] at h
      obtain ⟨rfl, rfl⟩ := h
      have hx : sideOk c (sideAt s (deedBay d)) = true := by
        have := valid_sides hv s[deedBay d] (List.getElem_mem hk)
        simpa [sideAt, hk] using this
      have hy : sideOk c (flipBar (sideAt s (deedBay d)) (deedBar d)) = true := valid_sides hv' _ (List.mem_set hk _)
      obtain ⟨f1, f2, f3⟩ := flip_ok hx hb hy
      obtain ⟨e1, e2, e3⟩ := contrary_bay (d := d) (by omega)
      have hat : sideAt (s.set (deedBay d) (flipBar (sideAt s (deedBay d)) (deedBar d))) (deedBay d) = flipBar (sideAt s (deedBay d)) (deedBar d) := by simp [sideAt, hk]
      refine ⟨hv', fun hh => f3 ?_, ?_⟩
      · have := congrArg (fun l => sideAt l (deedBay d)) hh.1
        simp only [hat] at this
        exact this
      rw [barsDo_side hv' (by unfold contrary; omega) (by simp; unfold contrary; omega), e1, e2, e3, hat, f1, f2, set_back hk, if_neg (by revert hc; cases onBar (sideAt s (deedBay d)) (deedBar d) <;> cases shuts d <;> simp), if_pos hv]
    · simp at h
theorem do_false {s s' : List Int} {c c' : Bool} {d : Int} (h : barsDo s c d = (s', c', false)) : (s' = s ∧ c' = c) ∨ s' = [] := by
  unfold barsDo at h
  repeat' split at h
  all_goals simp at h
  all_goals first | exact .inl ⟨h.1.symm, h.2.symm⟩ | exact .inr (by simp [h])

/-! Runs. -/
theorem step_valid {st : List Int × Bool × Nat} (h : barsValid st.1 st.2.1 = true) (d : Int) : barsValid (runStep st d).1 (runStep st d).2.1 = true := by
  unfold runStep
  split
  · rename_i hr
    obtain ⟨_, hv, _⟩ := undo (s := st.1) (c := st.2.1) (d := d) (s' := (barsDo st.1 st.2.1 d).1) (c' := (barsDo st.1 st.2.1 d).2.1) (by rw [← hr])
    exact hv
  · exact h
theorem fold_valid (ds : List Int) : ∀ st : List Int × Bool × Nat, barsValid st.1 st.2.1 = true → barsValid (ds.foldl runStep st).1 (ds.foldl runStep st).2.1 = true := by
  induction ds with
  | nil => intro st h; exact h
  | cons d l ih => intro st h; exact ih _ (step_valid h d)
theorem step_plus (s : List Int) (c : Bool) (n m : Nat) (d : Int) : runStep (s, c, m + n) d = ((runStep (s, c, n) d).1, (runStep (s, c, n) d).2.1, m + (runStep (s, c, n) d).2.2) := by
  unfold runStep
  split <;> rfl
theorem fold_plus (m : Nat) (ds : List Int) : ∀ (s : List Int) (c : Bool) (n : Nat), ds.foldl runStep (s, c, m + n) = ((ds.foldl runStep (s, c, n)).1, (ds.foldl runStep (s, c, n)).2.1, m + (ds.foldl runStep (s, c, n)).2.2) := by
  induction ds with
  | nil => intro s c n; rfl
  | cons d l ih =>
    intro s c n
    simp only [List.foldl_cons]
    rw [step_plus]
    exact ih _ _ _
theorem bars_app {s : List Int} {c : Bool} (h : barsValid s c = true) (A B : List Int) :
    barsRun s c (A ++ B) = ((barsRun (barsRun s c A).1 (barsRun s c A).2.1 B).1, (barsRun (barsRun s c A).1 (barsRun s c A).2.1 B).2.1, (barsRun s c A).2.2 + (barsRun (barsRun s c A).1 (barsRun s c A).2.1 B).2.2) := by
  have hv := fold_valid A (s, c, 0) h
  rw [barsRun_fold _ h, barsRun_fold _ h, barsRun_fold _ hv, List.foldl_append]
  have := fold_plus (A.foldl runStep (s, c, 0)).2.2 B (A.foldl runStep (s, c, 0)).1 (A.foldl runStep (s, c, 0)).2.1 0
  exact this
theorem bars_valid {s : List Int} {c : Bool} (h : barsValid s c = true) (ds : List Int) : barsValid (barsRun s c ds).1 (barsRun s c ds).2.1 = true := by
  rw [barsRun_fold _ h]; exact fold_valid ds _ h
theorem empty_run {s : List Int} {c : Bool} {bar : Int} (h : barsValid s c = true) (hb : bar = 1 ∨ bar = 2) : ∀ k, k ≤ s.length → barsRun s c (emptyTo s c bar k) = (movedTo s (3 - bar) k, c, (emptyTo s c bar k).length) := by
  intro k
  induction k with
  | zero => intro _; simp [emptyTo, movedTo, barsRun, h, runTo]
  | succ k ih =>
    intro hk
    have hm := movedTo_valid (bar := 3 - bar) h (by omega) (Nat.le_of_lt hk)
    obtain ⟨n, h1, h2⟩ := moves_run (k := k) (bar := 3 - bar) hm (by rw [movedTo_len _ _ (Nat.le_of_lt hk)]; exact hk) (by omega)
    rw [movedTo_succ hk] at h1
    rw [emptyTo, bars_app h, ih (Nat.le_of_lt hk)]
    simp only [h1, h2, List.length_append]
theorem moved_all (s : List Int) (bar : Int) : movedTo s bar s.length = List.replicate s.length bar := by simp [movedTo]
theorem emptyTo_bd {s : List Int} {c : Bool} {bar : Int} (hb : bar = 1 ∨ bar = 2) : ∀ k, k ≤ 100 → BdOk (emptyTo s c bar k) := by
  intro k
  induction k with
  | zero => intro _ d hd; simp [emptyTo] at hd
  | succ k ih =>
    intro hk d hd
    rw [emptyTo] at hd
    rcases List.mem_append.1 hd with hd | hd
    · exact ih (by omega) d hd
    · exact move_bd (by omega) (by omega) d hd

/-! Draws. -/
theorem barsl_ok {b : List Int} (hb : Code b) {q : Int × Int} {n p : Int} (hn : 1 ≤ n ∧ n ≤ 6) (hp : 0 ≤ p ∧ p ≤ 1000) : Ys (m_spec_l20Bars_l1 b q FUEL (n, p, [])) fun r => (0 ≤ r.1 ∧ r.1 ≤ p + 12) ∧ 1 ≤ r.2.length ∧ r.2.length ≤ 6 := by
  refine ys_loop (m_spec_l20Bars_l1 b q) (fun s => s.1.toNat) (fun s => (0 ≤ s.1 ∧ s.1 + s.2.2.length = n) ∧ (0 ≤ s.2.1 ∧ s.2.1 + 2 * s.1 ≤ p + 2 * n)) (fun fuel s hs ih => ?_) FUEL _ ⟨by (try dsimp only); simp; omega, by (try dsimp only); omega⟩ (by (try dsimp only); unfold FUEL; omega)
  obtain ⟨k, q, l⟩ := s
  dsimp only at hs ih ⊢
  obtain ⟨h1, h2⟩ := hs
  rw [m_spec_l20Bars_l1.eq_2]
  dsimp only
  refine ys_bif (fun hc => ?_) (fun hc => ?_)
  · have hc := ltB_t hc
    refine ys_then (ys_pick hb (by (try dsimp only); omega) (by omega) fun v v0 v1 _ => ?_)
    refine ys_bind (Q := fun r => 0 ≤ r.2 ∧ r.2 ≤ q + 2) (ys_bif (fun _ => ys_then (ys_pick hb (by (try dsimp only); omega) (by omega) fun u u0 u1 _ => ys_some (by (try dsimp only); omega))) fun _ => ys_some (by (try dsimp only); omega)) fun r hr => ?_
    refine ys_bind (Q := fun _ => True) (ys_bif (fun _ => ys_some trivial) fun _ => ys_some trivial) fun z _ => ?_
    refine ys_chk (by simp [apB]; omega) ?_
    rw [wM (n := k - 1) (by omega)]
    exact ih _ ⟨by simp; omega, by (try dsimp only); omega⟩ (by (try dsimp only); omega)
  · have hc := ltB_f hc
    exact ys_some ⟨by (try dsimp only); omega, by (try dsimp only); omega, by (try dsimp only); omega⟩
theorem drawBars_ok {b : List Int} (hb : Code b) : Ys (m_spec_l20Bars b 0 9) fun r => r.1.length ≤ 7 ∧ (0 ≤ r.2.2 ∧ r.2.2 ≤ 300) := by
  unfold m_spec_l20Bars
  refine ys_then (ys_pick hb (by omega) (by omega) fun v v0 v1 _ => ?_)
  refine ys_then (ys_pick hb (by (try dsimp only); omega) (by omega) fun v v0 v1 _ => ?_)
  have v2 := v1 (by omega)
  dsimp only
  rw [wM (n := 1 + v) (by omega)]
  refine ys_bind (barsl_ok hb (by omega) (by omega)) fun r hr => ?_
  obtain ⟨q, l⟩ := r
  obtain ⟨hq, hl⟩ := hr
  dsimp only at hq hl ⊢
  refine ys_then (ys_odd hb (by (try dsimp only); omega) (by omega) fun o => ?_)
  have i0 : ixB 0 l.length = true := by simp [ixB]; omega
  refine ys_bind (Q := fun r => r.2.1.length ≤ 7 ∧ (0 ≤ r.1 ∧ r.1 ≤ 300)) ?_ fun r hr => ys_some hr
  refine ys_bif (fun _ => ?_) (fun _ => ys_some ⟨by (try dsimp only); omega, by (try dsimp only); omega⟩)
  refine ys_then (ys_pick hb (by (try dsimp only); omega) (by omega) fun v v0 v1 _ => ?_)
  refine ys_bind (Q := fun r => r.2.1.length ≤ 7 ∧ (0 ≤ r.1 ∧ r.1 ≤ 300)) ?_ fun r hr => ys_some hr
  refine ys_bif (fun _ => ?_) (fun _ => ?_)
  · refine ys_then (ys_pick hb (by (try dsimp only); omega) (by omega) fun u u0 u1 _ => ?_)
    have u2 := u1 (by omega)
    exact ys_chk (decide_eq_true (by simp; omega)) (ys_chk i0 (ys_some ⟨by simp; omega, by (try dsimp only); omega⟩))
  · refine ys_bind (Q := fun r => r.1.length ≤ 7) ?_ fun r hr => ys_some ⟨hr, by (try dsimp only); omega⟩
    refine ys_bif (fun _ => ys_chk i0 (ys_some (by simp; omega))) (fun _ => ys_chk (by decide) (ys_some (by simp)))
section
variable {b : List Int} (hb : ∀ z ∈ b, inU z)
include hb
theorem drawBDo_ok : Ys (m_spec_DrawBarsDo b) fun r => r.1.length ≤ 7 ∧ (-1000 ≤ r.2.2 ∧ r.2.2 ≤ 1000) := by
  unfold m_spec_DrawBarsDo
  refine ys_bind (drawBars_ok (code_of hb)) fun r hr => ?_
  obtain ⟨h1, h2⟩ := hr
  rw [wM (n := 4 * (r.1.length : Int)) (by omega), wM (n := 4 * (r.1.length : Int) + 4) (by omega)]
  refine ys_then (ys_pick (code_of hb) (by omega) (by omega) fun v v0 v1 _ => ?_)
  refine ys_then (ys_pick (code_of hb) (by (try dsimp only); omega) (by omega) fun u u0 u1 _ => ?_)
  have v2 := v1 (by omega)
  have u2 := tdiv_in u0 (u1 (by omega)) (k := 8) (by omega)
  dsimp only
  rw [wM (n := u.tdiv 8) (by omega), wM (n := v - u.tdiv 8) (by omega)]
  exact ys_some ⟨h1, by (try dsimp only); omega⟩
theorem drawMove_ok : Ys (m_spec_DrawMoveDeeds b) fun r => r.1.length ≤ 7 ∧ (-1000 ≤ r.2.2.1 ∧ r.2.2.1 ≤ 1000) ∧ (-1000 ≤ r.2.2.2 ∧ r.2.2.2 ≤ 1000) := by
  unfold m_spec_DrawMoveDeeds
  refine ys_bind (drawBars_ok (code_of hb)) fun r hr => ?_
  obtain ⟨h1, h2⟩ := hr
  rw [wM (n := (r.1.length : Int) + 1) (by omega)]
  refine ys_then (ys_pick (code_of hb) (by omega) (by omega) fun v v0 v1 _ => ?_)
  refine ys_then (ys_pick (code_of hb) (by (try dsimp only); omega) (by omega) fun u u0 u1 _ => ?_)
  refine ys_then (ys_pick (code_of hb) (by (try dsimp only); omega) (by omega) fun x x0 x1 _ => ?_)
  refine ys_then (ys_pick (code_of hb) (by (try dsimp only); omega) (by omega) fun y y0 y1 _ => ?_)
  have v2 := v1 (by omega)
  have x2 := x1 (by omega)
  have u2 := tdiv_in u0 (u1 (by omega)) (k := 11) (by omega)
  have y2 := tdiv_in y0 (y1 (by omega)) (k := 8) (by omega)
  dsimp only
  rw [wM (n := u.tdiv 11) (by omega), wM (n := v - u.tdiv 11) (by omega), wM (n := y.tdiv 8) (by omega), wM (n := 1 + x) (by omega), wM (n := 1 + x + y.tdiv 8) (by omega)]
  exact ys_some ⟨h1, by (try dsimp only); omega, by (try dsimp only); omega⟩
theorem drawEmpty_ok : Ys (m_spec_DrawEmptyDeeds b) fun r => r.1.length ≤ 7 ∧ (-1000 ≤ r.2.2 ∧ r.2.2 ≤ 1000) := by
  unfold m_spec_DrawEmptyDeeds
  refine ys_bind (drawBars_ok (code_of hb)) fun r hr => ?_
  obtain ⟨h1, h2⟩ := hr
  refine ys_then (ys_pick (code_of hb) (by omega) (by omega) fun x x0 x1 _ => ?_)
  refine ys_then (ys_pick (code_of hb) (by (try dsimp only); omega) (by omega) fun y y0 y1 _ => ?_)
  have x2 := x1 (by omega)
  have y2 := tdiv_in y0 (y1 (by omega)) (k := 8) (by omega)
  dsimp only
  rw [wM (n := y.tdiv 8) (by omega), wM (n := 1 + x) (by omega), wM (n := 1 + x + y.tdiv 8) (by omega)]
  exact ys_some ⟨h1, by (try dsimp only); omega⟩
theorem drawBList_ok {r : List Int × Bool × Int} (hr : r.1.length ≤ 7) {n p : Int} (hn : 0 ≤ n ∧ n ≤ 20) (hp : 0 ≤ p ∧ p ≤ 1000) : Ys (m_spec_DrawBarsRun_l1 b r FUEL ([], n, p)) fun l => l.length ≤ 20 ∧ BdOk l := by
  refine ys_loop (m_spec_DrawBarsRun_l1 b r) (fun s => s.2.1.toNat) (fun s => (0 ≤ s.2.1 ∧ s.2.1 + s.1.length = n) ∧ (0 ≤ s.2.2 ∧ s.2.2 + s.2.1 ≤ p + n) ∧ BdOk s.1) (fun fuel s hs ih => ?_) FUEL _ ⟨by (try dsimp only); simp; omega, by (try dsimp only); omega, fun d hd => by simp at hd⟩ (by (try dsimp only); unfold FUEL; omega)
  obtain ⟨l, k, q⟩ := s
  dsimp only at hs ih ⊢
  obtain ⟨h1, h2, h3⟩ := hs
  rw [m_spec_DrawBarsRun_l1.eq_2]
  dsimp only
  refine ys_bif (fun hc => ?_) (fun hc => ?_)
  · have hc := ltB_t hc
    rw [wM (n := 4 * (r.1.length : Int)) (by omega), wM (n := 4 * (r.1.length : Int) + 3) (by omega)]
    refine ys_then (ys_pick (code_of hb) (by (try dsimp only); omega) (by omega) fun v v0 v1 _ => ?_)
    have v2 := v1 (by omega)
    refine ys_chk (by simp [apB]; omega) ?_
    rw [wM (n := k - 1) (by omega)]
    refine ih _ ⟨by simp; omega, by (try dsimp only); omega, fun d hd => ?_⟩ (by (try dsimp only); omega)
    rcases List.mem_append.1 hd with hd | hd
    · exact h3 d hd
    · simp at hd; omega
  · exact ys_some ⟨by (try dsimp only); omega, h3⟩
theorem drawBRun_ok : Ys (m_spec_DrawBarsRun b) fun r => r.1.length ≤ 7 ∧ r.2.2.length ≤ 20 ∧ BdOk r.2.2 := by
  unfold m_spec_DrawBarsRun
  refine ys_bind (drawBars_ok (code_of hb)) fun r hr => ?_
  obtain ⟨h1, h2⟩ := hr
  refine ys_then (ys_pick (code_of hb) (by (try dsimp only); omega) (by omega) fun v v0 v1 _ => ?_)
  have v2 := v1 (by omega)
  exact ys_bind (drawBList_ok hb h1 (by (try dsimp only); omega) (by (try dsimp only); omega)) fun d hd => ys_some ⟨h1, hd⟩
end

/-! The laws. -/
theorem door_FnBarsDo (x0 : List Int) (h0 : x0.length ≤ maxLen) (h1 : ∀ z ∈ x0, inU z) : m_laws_FnBarsDo x0 = some true := by
  unfold m_laws_FnBarsDo
  rcases Bool.eq_false_or_eq_true (ltB 1048576 (x0.length : Int)) with h | h <;> rw [h]
  · rfl
  obtain ⟨⟨s, c, d⟩, e, l1, l2⟩ := drawBDo_ok h1
  dsimp only at l1 l2
  simp only [cond_false, e, Option.bind_some, iBd s c d (by omega) l2, sBd s c d (by omega) l2]
  generalize hr : barsDo s c d = r
  obtain ⟨s', c', b⟩ := r
  have hlen := barsDo_len' hr
  simp only [sameBars_eq s' c' _ _ (by omega), beq_self_eq_true, decide_true, Option.bind_some, Bool.and_self, bne_self_eq_false, Bool.not_true, Bool.or_self, cond_false, alive_ok]
  cases b
  · rcases do_false hr with ⟨rfl, rfl⟩ | rfl
    · simp [gb]
    · simp [gb]
  · obtain ⟨u0, u1, u2, u3⟩ := undo hr
    have ed : w64 (w64 (d + 1) - w64 (2 * Int.tmod d 2)) = contrary d := by
      rw [Int.tmod_eq_emod_of_nonneg u0.1, wM (n := d + 1) (by omega), wM (n := 2 * (d % 2)) (by omega), wM (n := d + 1 - 2 * (d % 2)) (by omega)]; rfl
    have hne : ((c' == c) && decide (s' = s)) = false := by
      rw [Bool.eq_false_iff]
      simp only [ne_eq, Bool.and_eq_true, beq_iff_eq, decide_eq_true_eq]
      exact fun hh => u2 ⟨hh.2, hh.1⟩
    simp only [cond_true, ed, iBd s' c' (contrary d) (by omega) (by unfold contrary; omega), iBv s' c' (by omega), u1, u3, Option.bind_some, gb, hne, sameBars_eq s c s c (by omega), Bool.not_false, Bool.and_self, beq_self_eq_true, decide_true]
theorem door_FnMoveDeeds (x0 : List Int) (h0 : x0.length ≤ maxLen) (h1 : ∀ z ∈ x0, inU z) : m_laws_FnMoveDeeds x0 = some true := by
  unfold m_laws_FnMoveDeeds
  rcases Bool.eq_false_or_eq_true (ltB 1048576 (x0.length : Int)) with h | h <;> rw [h]
  · rfl
  obtain ⟨⟨s, c, bay, bar⟩, e, l1, l2, l3⟩ := drawMove_ok h1
  dsimp only at l1 l2 l3
  have hml := moveDeeds_len s c bay bar
  simp only [cond_false, e, Option.bind_some, iMv s c bay bar (by omega) l2 l3, sMv s c bay bar (by omega) l2 l3, sameInts_eq (moveDeeds s c bay bar) (moveDeeds s c bay bar) (by omega), decide_true, cond_true, alive_ok]
  by_cases hm : barsValid s c = true ∧ 0 ≤ bay ∧ bay < s.length ∧ 1 ≤ bar ∧ bar ≤ 2 ∧ sideAt s bay.toNat ≠ bar
  · obtain ⟨hv, b0, b1, r0, r1, _⟩ := hm
    obtain ⟨k, rfl⟩ := Int.eq_ofNat_of_zero_le b0
    obtain ⟨n, e1, e2⟩ := moves_run (s := s) (cp := c) (k := k) (bar := bar) hv (by omega) (by omega)
    have i1 : ixB (k : Int) s.length = true := decide_eq_true (by omega)
    have i2 : apB ([] : List Int).length s.length = true := decide_eq_true (by simp; omega)
    simp only [iBr s c (moveDeeds s c k bar) (by omega) (by omega) (move_bd (by omega) (by omega)), e1, e2, outBr, i1, i2, chk_true, Option.bind_some, Int.toNat_natCast, List.nil_append, beq_self_eq_true, gb, cond_true, sameBars_eq (s.set k bar) c (s.set k bar) c (by simp; omega), decide_true, Bool.and_self]
    cases ((moveDeeds s c (k : Int) bar).length : Int) == 0 <;> rfl
  · have : moveDeeds s c bay bar = [] := by unfold moveDeeds; rw [if_neg hm]
    rw [this]; rfl
theorem door_FnBarsRun (x0 : List Int) (h0 : x0.length ≤ maxLen) (h1 : ∀ z ∈ x0, inU z) : m_laws_FnBarsRun x0 = some true := by
  unfold m_laws_FnBarsRun
  rcases Bool.eq_false_or_eq_true (ltB 1048576 (x0.length : Int)) with h | h <;> rw [h]
  · rfl
  obtain ⟨⟨s, c, ds⟩, e, l1, l2, l3⟩ := drawBRun_ok h1
  dsimp only at l1 l2 l3
  have hb := barsRun_len s c ds
  simp only [cond_false, e, Option.bind_some, iBr s c ds (by omega) (by omega) l3, sBr s c ds (by omega) (by omega) l3, outBr, sameBars_eq (barsRun s c ds).1 (barsRun s c ds).2.1 (barsRun s c ds).1 (barsRun s c ds).2.1 (by omega), beq_self_eq_true, decide_true, Bool.and_self, Bool.not_true, bne_self_eq_false, Bool.or_self, sBv s c (by omega), alive_ok]
  cases hv : barsValid s c
  · have : barsRun s c ds = ([], false, 0) := by simp [barsRun, hv]
    simp [this, gb]
  have ehalf : w64 (Int.tdiv (ds.length : Int) 2) = ((ds.length / 2 : Nat) : Int) := by
    rw [Int.tdiv_eq_ediv_of_nonneg (by omega), wM (n := (ds.length : Int) / 2) (by omega)]; rfl
  have k1 : slB 0 ((ds.length / 2 : Nat) : Int) ds.length = true := decide_eq_true (by omega)
  have k2 : slB ((ds.length / 2 : Nat) : Int) (ds.length : Int) ds.length = true := decide_eq_true (by omega)
  have t1 : subL ds 0 ((ds.length / 2 : Nat) : Int) = ds.take (ds.length / 2) := sub_take ds _
  have t2 : subL ds ((ds.length / 2 : Nat) : Int) (ds.length : Int) = ds.drop (ds.length / 2) := sub_drop ds _
  generalize ds.length / 2 = hf at *
  have hb1 := barsRun_len s c (ds.take hf)
  have hb2 := barsRun_len (barsRun s c (ds.take hf)).1 (barsRun s c (ds.take hf)).2.1 (ds.drop hf)
  have ht : (ds.take hf).length ≤ ds.length := by simp; omega
  have hd : (ds.drop hf).length ≤ ds.length := by simp
  have happ := bars_app hv (ds.take hf) (ds.drop hf)
  rw [List.take_append_drop] at happ
  simp only [cond_true, ehalf, k1, k2, t1, t2, chk_true, Option.bind_some, iBr s c (ds.take hf) (by omega) (by omega) (fun z hz => l3 z (List.mem_of_mem_take hz)), outBr, cond_false]
  rw [iBr (barsRun s c (ds.take hf)).1 (barsRun s c (ds.take hf)).2.1 (ds.drop hf) (by omega) (by omega) (fun z hz => l3 z (List.mem_of_mem_drop hz))]
  have hbv := bars_valid hv ds
  rw [iBv (barsRun s c ds).1 (barsRun s c ds).2.1 (by omega), hbv]
  simp only [Option.bind_some, outBr]
  rw [sameBars_eq _ _ _ _ (by omega)]
  have hle : leB ((barsRun s c ds).2.2 : Int) (ds.length : Int) = true := decide_eq_true (by omega)
  rw [hle]
  simp only [Bool.and_self, gb, cond_true, Option.bind_some]
  rw [wM (by omega), happ]
  simp
theorem door_FnEmptyDeeds (x0 : List Int) (h0 : x0.length ≤ maxLen) (h1 : ∀ z ∈ x0, inU z) : m_laws_FnEmptyDeeds x0 = some true := by
  unfold m_laws_FnEmptyDeeds
  rcases Bool.eq_false_or_eq_true (ltB 1048576 (x0.length : Int)) with h | h <;> rw [h]
  · rfl
  obtain ⟨⟨s, c, bar⟩, e, l1, l2⟩ := drawEmpty_ok h1
  dsimp only at l1 l2
  have hel : (emptyDeeds s c bar).length ≤ 28 := by
    have := emptyTo_len s c bar s.length
    unfold emptyDeeds; split
    · omega
    · simp
  simp only [cond_false, e, Option.bind_some, iEm s c bar (by omega) l2, sEm s c bar (by omega) l2, sameInts_eq (emptyDeeds s c bar) (emptyDeeds s c bar) (by omega), decide_true, cond_true, alive_ok, sBv s c (by omega)]
  by_cases hc : barsValid s c = true ∧ 1 ≤ bar ∧ bar ≤ 2
  · obtain ⟨hv, r0, r1⟩ := hc
    have e0 : emptyDeeds s c bar = emptyTo s c bar s.length := by unfold emptyDeeds; rw [if_pos ⟨hv, r0, r1⟩]
    have c0 : ((!barsValid s c || ltB bar 1) || ltB 2 bar) = false := by rw [hv]; simp [ltB]; omega
    have hrun := empty_run (bar := bar) hv (by omega) s.length (Nat.le_refl _)
    rw [moved_all] at hrun
    rw [e0] at hel ⊢
    simp only [c0, cond_false, iBr s c (emptyTo s c bar s.length) (by omega) (by omega) (emptyTo_bd (by omega) s.length (by omega)), hrun, outBr, Option.bind_some]
    have w1 : w64 (3 - bar) = 3 - bar := wM (by omega)
    have hloop := loop_all (m_laws_FnEmptyDeeds_l1 (s, c, bar) (List.replicate s.length (3 - bar), c, ((emptyTo s c bar s.length).length : Int))) (fun k => (k : Int)) s.length (some (.inl ())) (by omega) (fun k fuel hk => ?_) (fun fuel => ?_)
    · rw [show m_laws_FnEmptyDeeds_l1 (s, c, bar) (List.replicate s.length (3 - bar), c, ((emptyTo s c bar s.length).length : Int)) FUEL 0 = _ from hloop]
      simp
    · rw [m_laws_FnEmptyDeeds_l1.eq_2]
      have hk' : k < (List.replicate s.length (3 - bar)).length := by simpa using hk
      simp only [lt_dec hk', ix_dec hk', chk_true, cond_true, Int.toNat_natCast, w1, w64_succ (by omega : k < 4611686018427387904)]
      rw [getD_ge hk', List.getElem_replicate]
      simp
    · rw [m_laws_FnEmptyDeeds_l1.eq_2]
      have c1 : ltB (s.length : Int) ((List.replicate s.length (3 - bar)).length : Int) = false := decide_eq_false (by simp)
      simp only [c1, cond_false]
  · have e0 : emptyDeeds s c bar = [] := by unfold emptyDeeds; rw [if_neg hc]
    have c0 : ((!barsValid s c || ltB bar 1) || ltB 2 bar) = true := by
      cases hv : barsValid s c
      · rfl
      · have : ¬ (1 ≤ bar ∧ bar ≤ 2) := fun h => hc ⟨hv, h⟩
        simp [ltB]; omega
    rw [e0, c0]; rfl
end Go.Proofs.YtandfbpanaldcaaDoor
