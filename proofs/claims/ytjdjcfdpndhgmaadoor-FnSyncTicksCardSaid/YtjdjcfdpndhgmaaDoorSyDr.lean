/- The laws of laws.go on synchronism: the answers, in plain Lean. -/
import Derived.Test.YtjdjcfdpndhgmaaDoorDraw
namespace Go.Proofs.YtjdjcfdpndhgmaaDoor
set_option linter.unusedVariables false
set_option linter.unusedSimpArgs false

theorem wS {n : Int} (h : -1000000000 ≤ n ∧ n ≤ 1000000000) : w64 n = n := w64_in (by omega) (by omega)
theorem turning_ok {b : List Int} (hb : Code b) {p n : Int} (hp : 0 ≤ p ∧ p ≤ 900000) (hn : 1 ≤ n ∧ n ≤ 1000) : ∃ s m q, m_spec_l20Turning b p n = some (s, m, q) ∧ p ≤ q ∧ q ≤ p + 5 ∧ (-1 ≤ s ∧ s ≤ 1000) ∧ (0 ≤ m ∧ m ≤ 100) := by
  obtain ⟨a, ha, a0, a1, _⟩ := pick_ok hb (p := p) (n := 200) (by omega) (by omega)
  obtain ⟨c, hc, c0, c1, _⟩ := pick_ok hb (p := p + 1) (n := 50) (by omega) (by omega)
  obtain ⟨o, ho⟩ := odd_ok hb (p := p + 1 + 1) (n := n) (by omega) (by omega)
  have a2 := a1 (by omega); have c2 := c1 (by omega)
  have e1 : w64 (400 + a) = 400 + a := wS (by omega)
  have e2 : w64 (1 + c) = 1 + c := wS (by omega)
  unfold m_spec_l20Turning
  simp only [ha, hc, ho, Option.bind_some, e1, e2]
  cases o
  · exact ⟨400 + a, 1 + c, p + 1 + 1 + 1, rfl, by omega, by omega, by omega, by omega⟩
  obtain ⟨v, hv, v0, v1, _⟩ := pick_ok hb (p := p + 1 + 1 + 1) (n := 2) (by omega) (by omega)
  obtain ⟨u, hu, u0, u1, _⟩ := pick_ok hb (p := p + 1 + 1 + 1 + 1) (n := 2) (by omega) (by omega)
  have u2 := u1 (by omega); have v2 := v1 (by omega)
  simp only [cond_true, hv, hu, Option.bind_some]
  rcases (show v = 0 ∨ v = 1 by omega) with rfl | rfl <;> rcases (show u = 0 ∨ u = 1 by omega) with rfl | rfl
  · exact ⟨-1, 1 + c, p + 1 + 1 + 1 + 1 + 1, rfl, by omega, by omega, by omega, by omega⟩
  · exact ⟨1000, 1 + c, p + 1 + 1 + 1 + 1 + 1, rfl, by omega, by omega, by omega, by omega⟩
  · exact ⟨400 + a, 0, p + 1 + 1 + 1 + 1 + 1, rfl, by omega, by omega, by omega, by omega⟩
  · exact ⟨400 + a, 100, p + 1 + 1 + 1 + 1 + 1, rfl, by omega, by omega, by omega, by omega⟩
theorem turnings_ok {b : List Int} (hb : Code b) : ∃ s m s' m' w q, m_spec_l20Turnings b 0 = some (s, m, s', m', w, q) ∧ 0 ≤ q ∧ q ≤ 20 ∧ (-10 ≤ s ∧ s ≤ 1010) ∧ (0 ≤ m ∧ m ≤ 100) ∧ (-10 ≤ s' ∧ s' ≤ 1010) ∧ (0 ≤ m' ∧ m' ≤ 100) ∧ (-10 ≤ w ∧ w ≤ 20) := by
  obtain ⟨s, m, q, h1, q0, q1, hs, hm⟩ := turning_ok hb (p := 0) (n := 12) (by omega) (by omega)
  obtain ⟨s', m', q', h2, q0', q1', hs', hm'⟩ := turning_ok hb (p := q) (n := 12) (by omega) (by omega)
  obtain ⟨v, hv, v0, v1, _⟩ := pick_ok hb (p := q') (n := 2) (by omega) (by omega)
  have v2 := v1 (by omega)
  unfold m_spec_l20Turnings
  simp only [h1, h2, hv, Option.bind_some]
  have tail : ∀ (q2 s2 : Int), 0 ≤ q2 ∧ q2 ≤ 15 → -10 ≤ s2 ∧ s2 ≤ 1010 → ∃ S m1 s1 m1' w q3, (Option.bind (m_spec_l20Rd_pick b q2 12) (fun (p113 : Int × Int) => Option.bind (m_spec_l20Rd_pick b p113.2 12) (fun (p114 : Int × Int) => some (s, m, s2, m', w64 (p113.1 - (w64 ((w64 (Int.tdiv p114.1 11)) * 3))), p114.2))) : Option (Int × Int × Int × Int × Int × Int)) = some (S, m1, s1, m1', w, q3) ∧ 0 ≤ q3 ∧ q3 ≤ 20 ∧ (-10 ≤ S ∧ S ≤ 1010) ∧ (0 ≤ m1 ∧ m1 ≤ 100) ∧ (-10 ≤ s1 ∧ s1 ≤ 1010) ∧ (0 ≤ m1' ∧ m1' ≤ 100) ∧ (-10 ≤ w ∧ w ≤ 20) := by
    intro q2 s2 hq2 hs2
    obtain ⟨x, hx, x0, x1, _⟩ := pick_ok hb (p := q2) (n := 12) (by omega) (by omega)
    obtain ⟨y, hy, y0, y1, _⟩ := pick_ok hb (p := q2 + 1) (n := 12) (by omega) (by omega)
    have x2 := x1 (by omega); have y2 := y1 (by omega)
    simp only [hx, hy, Option.bind_some]
    have d0 : 0 ≤ y.tdiv 11 := Int.tdiv_nonneg y0 (by omega)
    have d1 : y.tdiv 11 ≤ 1 := by rw [Int.tdiv_eq_ediv_of_nonneg y0]; omega
    rw [wS (n := y.tdiv 11) (by omega), wS (n := y.tdiv 11 * 3) (by omega), wS (by omega)]
    exact ⟨s, m, s2, m', _, _, rfl, by omega, by omega, by omega, by omega, by omega, by omega, by omega⟩
  rcases (show v = 0 ∨ v = 1 by omega) with rfl | rfl
  · obtain ⟨z, hz, z0, z1, _⟩ := pick_ok hb (p := q' + 1) (n := 9) (by omega) (by omega)
    have z2 := z1 (by omega)
    simp only [hz, Option.bind_some, show ((0 : Int) == 0) = true from rfl, cond_true]
    rw [wS (n := s + z) (by omega), wS (n := s + z - 4) (by omega)]
    exact tail _ _ (by omega) (by omega)
  · simp only [show ((1 : Int) == 0) = false from rfl, cond_false, Option.bind_some]
    exact tail _ _ (by omega) (by omega)

/-- A turning in order. -/
def Vt (s m : Int) : Prop := 0 ≤ s ∧ s ≤ 999 ∧ 1 ≤ m ∧ m ≤ 99
instance (s m : Int) : Decidable (Vt s m) := inferInstanceAs (Decidable (_ ∧ _ ∧ _ ∧ _))
theorem itv (s m : Int) : m_impl_TurningValid s m = some (decide (Vt s m)) := by
  unfold m_impl_TurningValid m_impl_powerValid
  simp only [Option.bind_some, leB]
  congr 1; rw [Bool.eq_iff_iff, decide_eq_true_iff]; simp [and_assoc, Vt]
theorem stv (s m : Int) : m_spec_TurningValid s m = some (decide (Vt s m)) := by
  unfold m_spec_TurningValid m_spec_l1In
  simp only [Option.bind_some, leB]
  rcases Bool.eq_false_or_eq_true (decide (0 ≤ s) && decide (s ≤ 999)) with h | h <;> rw [h]
  · simp only [gb, cond_true, Option.bind_some, Bool.true_and]
    congr 1; rw [Bool.eq_iff_iff]; simp at h ⊢; unfold Vt; omega
  · simp only [gb, cond_false, Option.bind_some, Bool.false_and]
    congr 1; symm; simp at h ⊢; unfold Vt; omega
def May (s m s' m' w : Int) : Prop := Vt s m ∧ Vt s' m' ∧ s - s' ≤ w ∧ s' - s ≤ w ∧ m + m' ≤ 99
instance (s m s' m' w : Int) : Decidable (May s m s' m' w) := inferInstanceAs (Decidable (_ ∧ _ ∧ _ ∧ _ ∧ _))
theorem imay {s m s' m' w : Int} (hs : -10 ≤ s ∧ s ≤ 1010) (hm : 0 ≤ m ∧ m ≤ 100) (hs' : -10 ≤ s' ∧ s' ≤ 1010) (hm' : 0 ≤ m' ∧ m' ≤ 100) : m_impl_SyncMay s m s' m' w = some (decide (May s m s' m' w)) := by
  unfold m_impl_SyncMay m_impl_distance
  rw [itv, itv, wS (n := s - s') (by omega), wS (n := s' - s) (by omega), wS (n := m + m') (by omega)]
  by_cases h1 : Vt s m <;> by_cases h2 : Vt s' m' <;> simp only [gb, May, h1, h2, decide_true, decide_false, Option.bind_some, cond_true, cond_false, Bool.and_true, Bool.and_false, Bool.false_and, Bool.true_and, leB, true_and, false_and, and_false]
  congr 1; rw [Bool.eq_iff_iff]; simp; omega
theorem smay {s m s' m' w : Int} (hs : -10 ≤ s ∧ s ≤ 1010) (hm : 0 ≤ m ∧ m ≤ 100) (hs' : -10 ≤ s' ∧ s' ≤ 1010) (hm' : 0 ≤ m' ∧ m' ≤ 100) : m_spec_SyncMay s m s' m' w = some (decide (May s m s' m' w)) := by
  unfold m_spec_SyncMay
  rw [stv, stv, wS (n := s - s') (by omega), wS (n := s' - s) (by omega), wS (n := m + m') (by omega)]
  by_cases h1 : Vt s m <;> by_cases h2 : Vt s' m' <;> simp only [gb, May, h1, h2, decide_true, decide_false, Option.bind_some, cond_true, cond_false, Bool.and_true, Bool.and_false, Bool.false_and, Bool.true_and, leB, true_and, false_and, and_false]
  congr 1; rw [Bool.eq_iff_iff]; simp; omega
theorem may_swap (s m s' m' w : Int) : May s m s' m' w ↔ May s' m' s m w := by unfold May; constructor <;> (rintro ⟨a, b, c, d, e⟩; exact ⟨b, a, d, c, by omega⟩)

theorem door_FnTurningValid (x0 : List Int) (h0 : x0.length ≤ maxLen) (h1 : ∀ z ∈ x0, inU z) : m_laws_FnTurningValid x0 = some true := by
  unfold m_laws_FnTurningValid
  rcases Bool.eq_false_or_eq_true (ltB 1048576 (x0.length : Int)) with h | h <;> rw [h]
  · rfl
  obtain ⟨s, m, q, e, q0, q1, hs, hm⟩ := turning_ok (code_of h1) (p := 0) (n := 2) (by omega) (by omega)
  unfold m_spec_DrawTurningValid
  simp only [cond_false, e, Option.bind_some, itv, stv, alive_ok]
  have z : decide (Vt s 0) = false := by simp [Vt]
  have y : Vt s m → decide (Vt 0 m) = true := by intro h; unfold Vt at *; simp; omega
  by_cases hv : Vt s m
  · simp [hv, z, y hv, gb]
  · simp [hv, z, gb]
theorem door_FnSyncMay (x0 : List Int) (h0 : x0.length ≤ maxLen) (h1 : ∀ z ∈ x0, inU z) : m_laws_FnSyncMay x0 = some true := by
  unfold m_laws_FnSyncMay
  rcases Bool.eq_false_or_eq_true (ltB 1048576 (x0.length : Int)) with h | h <;> rw [h]
  · rfl
  obtain ⟨s, m, s', m', w, q, e, q0, q1, hs, hm, hs', hm', hw⟩ := turnings_ok (code_of h1)
  unfold m_spec_DrawSyncMay
  simp only [cond_false, e, Option.bind_some, imay hs hm hs' hm', smay hs hm hs' hm', imay hs' hm' hs hm, alive_ok]
  rw [wS (n := w + 1) (by omega)]
  have sw : decide (May s' m' s m w) = decide (May s m s' m' w) := decide_eq_decide.2 (may_swap _ _ _ _ _)
  rw [sw]
  by_cases hv : May s m s' m' w
  · have y : May s m s' m' (w + 1) := ⟨hv.1, hv.2.1, by have := hv.2.2.1; omega, by have := hv.2.2.2.1; omega, hv.2.2.2.2⟩
    simp [hv, y, gb]
  · simp [hv, gb]
/-- One tick of tuning. -/
def tune (s g k : Int) : Int := if max (s - g) (g - s) ≤ k then g else if s < g then s + k else s - k
theorem itune {s m g k : Int} (hs : -10 ≤ s ∧ s ≤ 1010) (hg : -2000 ≤ g ∧ g ≤ 2000) (hk : -10 ≤ k ∧ k ≤ 2000) : m_impl_SyncTune s m g k = some (if Vt s m ∧ (0 ≤ g ∧ g ≤ 999) ∧ 1 ≤ k ∧ k ≤ 999 then (tune s g k, m) else (0, 0)) := by
  unfold m_impl_SyncTune m_impl_powerValid m_impl_distance
  rw [itv, wS (n := s - g) (by omega), wS (n := g - s) (by omega), wS (n := s + k) (by omega), wS (n := s - k) (by omega)]
  by_cases h1 : Vt s m
  · by_cases h2 : (0 ≤ g ∧ g ≤ 999) ∧ 1 ≤ k ∧ k ≤ 999
    · have c1 : (leB 0 g && leB g 999) = true := by simp [leB]; omega
      have c2 : ltB k 1 = false := by simp [ltB]; omega
      have c3 : ltB 999 k = false := by simp [ltB]; omega
      rw [if_pos ⟨h1, h2⟩]
      simp only [h1, decide_true, Option.bind_some, gb, Bool.not_true, Bool.not_false, cond_true, cond_false, c1, c2, c3, Bool.or_self]
      unfold tune
      by_cases h3 : max (s - g) (g - s) ≤ k
      · simp [leB, h3]
      · by_cases h4 : s < g <;> simp [leB, ltB, h3, h4]
    · rw [if_neg (fun h => h2 h.2)]
      simp only [h1, decide_true, Option.bind_some, gb, Bool.not_true, Bool.not_false, cond_true, cond_false, Bool.false_or]
      have : (((!(leB 0 g && leB g 999)) || ltB k 1) || ltB 999 k) = true := by simp [leB, ltB]; omega
      rw [this]; rfl
  · rw [if_neg (fun h => h1 h.1)]
    simp [h1, gb]
theorem stune {s m g k : Int} (hs : -10 ≤ s ∧ s ≤ 1010) (hg : -2000 ≤ g ∧ g ≤ 2000) (hk : -10 ≤ k ∧ k ≤ 2000) : m_spec_SyncTune s m g k = some (if Vt s m ∧ (0 ≤ g ∧ g ≤ 999) ∧ 1 ≤ k ∧ k ≤ 999 then (tune s g k, m) else (0, 0)) := by
  unfold m_spec_SyncTune m_spec_l1In
  rw [stv, wS (n := s + k) (by omega), wS (n := s - k) (by omega)]
  by_cases h1 : Vt s m
  · by_cases h2 : 0 ≤ g ∧ g ≤ 999
    · have c1 : (leB 0 g && leB g 999) = true := by simp [leB]; omega
      simp only [h1, decide_true, Option.bind_some, gb, Bool.not_true, Bool.not_false, cond_true, cond_false, c1, Bool.or_self, Bool.false_or]
      by_cases h3 : 1 ≤ k ∧ k ≤ 999
      · have c2 : (leB 1 k && leB k 999) = true := by simp [leB]; omega
        rw [if_pos ⟨trivial, h2, h3⟩, c2]
        unfold tune
        by_cases h4 : s < g
        · simp only [ltB, h4, decide_true, cond_true, Bool.not_true, cond_false, if_true]
          congr 2; split <;> omega
        · simp only [ltB, h4, decide_false, cond_true, Bool.not_true, cond_false, if_false]
          congr 2; split <;> omega
      · have c2 : (leB 1 k && leB k 999) = false := by simp [leB]; omega
        rw [if_neg (fun h => h3 h.2.2), c2]; rfl
    · have c1 : (leB 0 g && leB g 999) = false := by simp [leB]; omega
      rw [if_neg (fun h => h2 h.2.1)]
      simp [h1, gb, c1]
  · rw [if_neg (fun h => h1 h.1)]
    simp [h1, gb]
theorem tune_dist (s g k : Int) (hk : 0 ≤ k) : max (tune s g k - g) (g - tune s g k) = max (max (s - g) (g - s) - k) 0 := by
  unfold tune; split
  · omega
  · split <;> omega
theorem mul_small {a b : Int} (ha : -3000 ≤ a ∧ a ≤ 3000) (hb : -3000 ≤ b ∧ b ≤ 3000) (h : (0 ≤ a ∧ 0 ≤ b) ∨ (a ≤ 0 ∧ b ≤ 0)) : 0 ≤ a * b ∧ a * b ≤ 9000000 := by
  rcases h with ⟨h1, h2⟩ | ⟨h1, h2⟩
  · exact ⟨Int.mul_nonneg h1 h2, Int.mul_le_mul ha.2 hb.2 h2 (by omega)⟩
  · rw [← Int.neg_mul_neg]
    exact ⟨Int.mul_nonneg (by omega) (by omega), Int.mul_le_mul (show -a ≤ 3000 by omega) (show -b ≤ 3000 by omega) (by omega) (by omega)⟩
theorem drawTune_ok {b : List Int} (hb : ∀ z ∈ b, inU z) : ∃ s m g k, m_spec_DrawSyncTune b = some (s, m, g, k) ∧ (-10 ≤ s ∧ s ≤ 1010) ∧ (0 ≤ m ∧ m ≤ 100) ∧ (-2000 ≤ g ∧ g ≤ 2000) ∧ (0 ≤ k ∧ k ≤ 30) := by
  have hc := code_of hb
  obtain ⟨s, m, q, h1, q0, q1, hs, hm⟩ := turning_ok hc (p := 0) (n := 9) (by omega) (by omega)
  obtain ⟨v, hv, v0, v1, _⟩ := pick_ok hc (p := q) (n := 240) (by omega) (by omega)
  obtain ⟨x, hx, x0, x1, _⟩ := pick_ok hc (p := q + 1) (n := 20) (by omega) (by omega)
  obtain ⟨y, hy, y0, y1, _⟩ := pick_ok hc (p := q + 1 + 1) (n := 30) (by omega) (by omega)
  have v2 := v1 (by omega); have x2 := x1 (by omega); have y2 := y1 (by omega)
  have d0 : 0 ≤ x.tdiv 19 := Int.tdiv_nonneg x0 (by omega)
  have d1 : x.tdiv 19 ≤ 1 := by rw [Int.tdiv_eq_ediv_of_nonneg x0]; omega
  unfold m_spec_DrawSyncTune
  simp only [h1, hv, hx, hy, Option.bind_some]
  rw [wS (n := x.tdiv 19) (by omega), wS (n := x.tdiv 19 * 999) (by omega), wS (n := 380 + v) (by omega), wS (by omega)]
  exact ⟨s, m, _, y, rfl, by omega, by omega, by omega, by omega⟩
theorem door_FnSyncTune (x0 : List Int) (h0 : x0.length ≤ maxLen) (h1 : ∀ z ∈ x0, inU z) : m_laws_FnSyncTune x0 = some true := by
  unfold m_laws_FnSyncTune
  rcases Bool.eq_false_or_eq_true (ltB 1048576 (x0.length : Int)) with h | h <;> rw [h]
  · rfl
  obtain ⟨s, m, g, k, e, hs, hm, hg, hk⟩ := drawTune_ok h1
  simp only [cond_false, e, Option.bind_some, itune (m := m) hs hg (k := k) (by omega), stune (m := m) hs hg (k := k) (by omega), alive_ok, beq_self_eq_true, Bool.and_self, cond_true]
  by_cases hv : Vt s m ∧ (0 ≤ g ∧ g ≤ 999) ∧ 1 ≤ k ∧ k ≤ 999
  · rw [if_pos hv]
    have hm0 : (m == 0) = false := by have := hv.1.2.2.1; simp; omega
    simp only [hm0, cond_false, itv, beq_self_eq_true]
    have ht : 0 ≤ tune s g k ∧ tune s g k ≤ 999 := by
      have := hv.1; unfold Vt at this; unfold tune; split
      · omega
      · split <;> omega
    have hd := tune_dist s g k (by omega)
    have hmul : 0 ≤ (tune s g k - g) * (s - g) ∧ (tune s g k - g) * (s - g) ≤ 9000000 := by
      refine mul_small (by omega) (by omega) ?_
      unfold tune; split
      · omega
      · split <;> omega
    rw [wS (n := tune s g k - g) (by omega), wS (n := g - tune s g k) (by omega), wS (n := s - g) (by omega), wS (n := g - s) (by omega), wS (n := max (s - g) (g - s) - k) (by omega), wS (n := (tune s g k - g) * (s - g)) (by omega), hd]
    have hV : Vt (tune s g k) m := ⟨ht.1, ht.2, hv.1.2.2⟩
    simp [leB, hmul.1, gb, hV]
  · rw [if_neg hv]; simp [gb]
theorem mul_b {a b : Int} (ha : 0 ≤ a ∧ a ≤ 1010) (hb : 0 ≤ b ∧ b ≤ 100) : 0 ≤ a * b ∧ a * b ≤ 101000 :=
  ⟨Int.mul_nonneg ha.1 hb.1, Int.mul_le_mul ha.2 hb.2 hb.1 (by omega)⟩
def joinS (s m s' m' : Int) : Int := (s * m + s' * m').tdiv (m + m')
theorem join_facts {s m s' m' w : Int} (h : May s m s' m' w) : min s s' ≤ joinS s m s' m' ∧ joinS s m s' m' ≤ max s s' ∧ 0 ≤ s * m + s' * m' - joinS s m s' m' * (m + m') ∧ s * m + s' * m' - joinS s m s' m' * (m + m') < m + m' ∧ joinS s m s' m' = joinS s' m' s m ∧ 0 ≤ joinS s m s' m' * (m + m') ∧ joinS s m s' m' * (m + m') ≤ 202000 := by
  obtain ⟨⟨a0, a1, a2, a3⟩, ⟨b0, b1, b2, b3⟩, c1, c2, c3⟩ := h
  have p1 := mul_b (a := s) (b := m) (by omega) (by omega)
  have p2 := mul_b (a := s') (b := m') (by omega) (by omega)
  have hM : 0 < m + m' := by omega
  have e : joinS s m s' m' = (s * m + s' * m') / (m + m') := Int.tdiv_eq_ediv_of_nonneg (by omega)
  have d1 := Int.mul_ediv_add_emod (s * m + s' * m') (m + m')
  have d2 := Int.emod_nonneg (s * m + s' * m') (show m + m' ≠ 0 by omega)
  have d3 := Int.emod_lt_of_pos (s * m + s' * m') hM
  have l1 : min s s' * (m + m') ≤ s * m + s' * m' := by
    rw [Int.mul_add]
    exact Int.add_le_add (Int.mul_le_mul_of_nonneg_right (by omega) (by omega)) (Int.mul_le_mul_of_nonneg_right (by omega) (by omega))
  have l2 : s * m + s' * m' ≤ max s s' * (m + m') := by
    rw [Int.mul_add]
    exact Int.add_le_add (Int.mul_le_mul_of_nonneg_right (by omega) (by omega)) (Int.mul_le_mul_of_nonneg_right (by omega) (by omega))
  have e2 : joinS s m s' m' = joinS s' m' s m := by unfold joinS; rw [Int.add_comm (s * m), Int.add_comm m]
  rw [Int.mul_comm] at d1
  have q1 : min s s' ≤ (s * m + s' * m') / (m + m') := (Int.le_ediv_iff_mul_le hM).2 l1
  have q2 : (s * m + s' * m') / (m + m') ≤ max s s' := Int.ediv_le_of_le_mul hM l2
  have q0 : 0 ≤ (s * m + s' * m') / (m + m') * (m + m') := Int.mul_nonneg (by omega) (by omega)
  refine ⟨by rw [e]; exact q1, by rw [e]; exact q2, ?_, ?_, e2, ?_, ?_⟩ <;> rw [e] <;> omega
section
variable {s m s' m' w : Int} (hs : -10 ≤ s ∧ s ≤ 1010) (hm : 0 ≤ m ∧ m ≤ 100) (hs' : -10 ≤ s' ∧ s' ≤ 1010) (hm' : 0 ≤ m' ∧ m' ≤ 100)
include hs hm hs' hm'
theorem join_w (h : May s m s' m' w) : w64 (m + m') = m + m' ∧ nzB (m + m') = true ∧ w64 (s * m) = s * m ∧ w64 (s' * m') = s' * m' ∧ w64 (s * m + s' * m') = s * m + s' * m' ∧ w64 ((s * m + s' * m').tdiv (m + m')) = joinS s m s' m' := by
  have hj := join_facts h
  obtain ⟨⟨a0, a1, a2, a3⟩, ⟨b0, b1, b2, b3⟩, c1, c2, c3⟩ := h
  have p1 := mul_b (a := s) (b := m) (by omega) (by omega)
  have p2 := mul_b (a := s') (b := m') (by omega) (by omega)
  refine ⟨wS (by omega), decide_eq_true (by omega), wS (by omega), wS (by omega), wS (by omega), ?_⟩
  have := hj.1; have := hj.2.1
  exact wS (n := joinS s m s' m') (by omega)
theorem ijoin : m_impl_SyncJoin s m s' m' w = some (if May s m s' m' w then (joinS s m s' m', m + m', true) else (0, 0, false)) := by
  unfold m_impl_SyncJoin
  rw [imay hs hm hs' hm']
  by_cases h : May s m s' m' w
  · obtain ⟨e1, e2, e3, e4, e5, e6⟩ := join_w hs hm hs' hm' h
    simp only [h, decide_true, Option.bind_some, cond_true, e1, e2, e3, e4, e5, e6, chk_true, if_true]
  · simp only [h, decide_false, Option.bind_some, cond_false, if_false]
theorem sjoin : m_spec_SyncJoin s m s' m' w = some (if May s m s' m' w then (joinS s m s' m', m + m', true) else (0, 0, false)) := by
  unfold m_spec_SyncJoin
  rw [smay hs hm hs' hm']
  by_cases h : May s m s' m' w
  · obtain ⟨e1, e2, e3, e4, e5, e6⟩ := join_w hs hm hs' hm' h
    simp only [h, decide_true, Option.bind_some, cond_true, e1, e2, e3, e4, e5, e6, chk_true, if_true]
  · simp only [h, decide_false, Option.bind_some, cond_false, if_false]
end
theorem door_FnSyncJoin (x0 : List Int) (h0 : x0.length ≤ maxLen) (h1 : ∀ z ∈ x0, inU z) : m_laws_FnSyncJoin x0 = some true := by
  unfold m_laws_FnSyncJoin
  rcases Bool.eq_false_or_eq_true (ltB 1048576 (x0.length : Int)) with h | h <;> rw [h]
  · rfl
  obtain ⟨s, m, s', m', w, q, e, q0, q1, hs, hm, hs', hm', hw⟩ := turnings_ok (code_of h1)
  unfold m_spec_DrawSyncJoin
  simp only [cond_false, e, Option.bind_some, ijoin hs hm hs' hm', sjoin hs hm hs' hm', ijoin hs' hm' hs hm, alive_ok, beq_self_eq_true, Bool.and_self, Bool.not_true, Bool.false_or, bne_self_eq_false]
  by_cases hv : May s m s' m' w
  · have hv' := (may_swap _ _ _ _ _).1 hv
    obtain ⟨f1, f2, f3, f4, f5, f6, f7⟩ := join_facts hv
    obtain ⟨e1, e2, e3, e4, e5, e6⟩ := join_w hs hm hs' hm' hv
    have c := hv.2.2
    simp only [if_pos hv, if_pos hv', cond_true, ← f5, Int.add_comm m' m, beq_self_eq_true, Bool.true_and, e1, e3, e4, e5]
    rw [wS (n := max s s' - min s s') (by omega), wS (n := joinS s m s' m' * (m + m')) (by omega), wS (n := s * m + s' * m' - joinS s m s' m' * (m + m')) (by omega)]
    have k1 : leB (min s s') (joinS s m s' m') = true := decide_eq_true f1
    have k2 : leB (joinS s m s' m') (max s s') = true := decide_eq_true f2
    have k3 : leB (max s s' - min s s') w = true := decide_eq_true (by omega)
    have k4 : leB 0 (s * m + s' * m' - joinS s m s' m' * (m + m')) = true := decide_eq_true f3
    have k5 : ltB (s * m + s' * m' - joinS s m s' m' * (m + m')) (m + m') = true := decide_eq_true f4
    simp only [k1, k2, k3, k4, k5, Bool.and_self, cond_false]
  · simp [hv, gb]

/-! Ticks. -/
def tuneN (s g k : Int) : Nat → Int
  | 0 => s
  | j + 1 => tune (tuneN s g k j) g k
theorem tune_in {s g k : Int} (hs : 0 ≤ s ∧ s ≤ 999) (hg : 0 ≤ g ∧ g ≤ 999) (hk : 1 ≤ k ∧ k ≤ 999) : 0 ≤ tune s g k ∧ tune s g k ≤ 999 := by
  unfold tune; split
  · omega
  · split <;> omega
theorem tuneN_ok {s g k : Int} (hs : 0 ≤ s ∧ s ≤ 999) (hg : 0 ≤ g ∧ g ≤ 999) (hk : 1 ≤ k ∧ k ≤ 999) : ∀ j : Nat, (0 ≤ tuneN s g k j ∧ tuneN s g k j ≤ 999) ∧ max (tuneN s g k j - g) (g - tuneN s g k j) ≤ max (1000 - (j : Int)) 0
  | 0 => ⟨hs, by simp only [tuneN]; omega⟩
  | j + 1 => by
    obtain ⟨h1, h2⟩ := tuneN_ok hs hg hk j
    have h3 := tune_dist (tuneN s g k j) g k (by omega)
    exact ⟨tune_in h1 hg hk, by simp only [tuneN]; omega⟩
theorem least_of {P : Nat → Prop} [DecidablePred P] : ∀ B : Nat, P B → ∃ N, N ≤ B ∧ P N ∧ ∀ j, j < N → ¬ P j
  | 0, h => ⟨0, Nat.le_refl _, h, fun j hj => by omega⟩
  | B + 1, h => by
    by_cases hB : ∃ j, j < B + 1 ∧ P j
    · obtain ⟨j, hj, hP⟩ := hB
      obtain ⟨N, h1, h2, h3⟩ := least_of j hP
      exact ⟨N, by omega, h2, h3⟩
    · exact ⟨B + 1, Nat.le_refl _, h, fun j hj hP => hB ⟨j, hj, hP⟩⟩
  termination_by B => B
structure Tk (s m s' m' k w : Int) : Prop where
  v : Vt s m
  v' : Vt s' m'
  k : 1 ≤ k ∧ k ≤ 999
  w : 0 ≤ w
  m : m + m' ≤ 99
theorem first_may {s m s' m' k w : Int} (h : Tk s m s' m' k w) : ∃ N : Nat, N ≤ 1000 ∧ May (tuneN s s' k N) m s' m' w ∧ ∀ j, j < N → ¬ May (tuneN s s' k j) m s' m' w := by
  refine least_of (P := fun j => May (tuneN s s' k j) m s' m' w) 1000 ?_
  obtain ⟨a0, a1, a2, a3⟩ := h.v
  obtain ⟨b0, b1, b2, b3⟩ := h.v'
  obtain ⟨h1, h2⟩ := tuneN_ok ⟨a0, a1⟩ ⟨b0, b1⟩ h.k 1000
  have hw := h.w
  have hm := h.m
  exact ⟨⟨h1.1, h1.2, a2, a3⟩, h.v', by omega, by omega, by omega⟩
section
variable {s m s' m' k w : Int} (h : Tk s m s' m' k w) {N : Nat} (hN : N ≤ 1000) (h1 : May (tuneN s s' k N) m s' m' w) (h2 : ∀ j, j < N → ¬ May (tuneN s s' k j) m s' m' w)
include h
theorem tk_v (j : Nat) : Vt (tuneN s s' k j) m ∧ (-10 ≤ tuneN s s' k j ∧ tuneN s s' k j ≤ 1010) ∧ (0 ≤ m ∧ m ≤ 100) ∧ (-10 ≤ s' ∧ s' ≤ 1010) ∧ (0 ≤ m' ∧ m' ≤ 100) ∧ (0 ≤ s' ∧ s' ≤ 999) := by
  obtain ⟨a0, a1, a2, a3⟩ := h.v
  obtain ⟨b0, b1, b2, b3⟩ := h.v'
  obtain ⟨e1, e2⟩ := tuneN_ok ⟨a0, a1⟩ ⟨b0, b1⟩ h.k j
  exact ⟨⟨e1.1, e1.2, a2, a3⟩, by omega, by omega, by omega, by omega, by omega⟩
include hN h1 h2
theorem iticks_l : m_impl_SyncTicks_l1 s' m' k w FUEL (0, s, m) = some ((N : Int), tuneN s s' k N, m) := by
  have hk := h.k
  refine loop_all (m_impl_SyncTicks_l1 s' m' k w) (fun j => ((j : Int), tuneN s s' k j, m)) N _ (by omega) (fun j fuel hj => ?_) (fun fuel => ?_)
  · obtain ⟨v1, v2, v3, v4, v5, v6⟩ := tk_v h j
    rw [m_impl_SyncTicks_l1.eq_2]
    simp only [imay v2 v3 v4 v5, h2 j hj, decide_false, Option.bind_some, cond_false, itune (m := m) v2 (show -2000 ≤ s' ∧ s' ≤ 2000 by omega) (show -10 ≤ k ∧ k ≤ 2000 by omega)]
    rw [if_pos ⟨v1, v6, hk⟩, w64_succ (by omega)]; rfl
  · obtain ⟨v1, v2, v3, v4, v5, v6⟩ := tk_v h N
    rw [m_impl_SyncTicks_l1.eq_2]
    simp only [imay v2 v3 v4 v5, h1, decide_true, Option.bind_some, cond_true]
theorem sticks_l : m_spec_SyncTicks_l1 s' m' k w FUEL (0, s, m) = some ((N : Int), tuneN s s' k N, m) := by
  have hk := h.k
  refine loop_all (m_spec_SyncTicks_l1 s' m' k w) (fun j => ((j : Int), tuneN s s' k j, m)) N _ (by omega) (fun j fuel hj => ?_) (fun fuel => ?_)
  · obtain ⟨v1, v2, v3, v4, v5, v6⟩ := tk_v h j
    rw [m_spec_SyncTicks_l1.eq_2]
    simp only [smay v2 v3 v4 v5, h2 j hj, decide_false, Option.bind_some, cond_false, stune (m := m) v2 (show -2000 ≤ s' ∧ s' ≤ 2000 by omega) (show -10 ≤ k ∧ k ≤ 2000 by omega)]
    rw [if_pos ⟨v1, v6, hk⟩, w64_succ (by omega)]; rfl
  · obtain ⟨v1, v2, v3, v4, v5, v6⟩ := tk_v h N
    rw [m_spec_SyncTicks_l1.eq_2]
    simp only [smay v2 v3 v4 v5, h1, decide_true, Option.bind_some, cond_true]
omit h1 in
theorem law_l (q : Int) : m_laws_FnSyncTicks_l1 (s, m, s', m', k, w) (N : Int) FUEL (0, s, m) = some (.inl (tuneN s s' k N, m)) := by
  have hk := h.k
  refine loop_all (m_laws_FnSyncTicks_l1 (s, m, s', m', k, w) (N : Int)) (fun j => ((j : Int), tuneN s s' k j, m)) N _ (by omega) (fun j fuel hj => ?_) (fun fuel => ?_)
  · obtain ⟨v1, v2, v3, v4, v5, v6⟩ := tk_v h j
    rw [m_laws_FnSyncTicks_l1.eq_2]
    have c : ltB (j : Int) (N : Int) = true := decide_eq_true (by omega)
    simp only [c, cond_true, imay v2 v3 v4 v5, h2 j hj, decide_false, Option.bind_some, cond_false, itune (m := m) v2 (show -2000 ≤ s' ∧ s' ≤ 2000 by omega) (show -10 ≤ k ∧ k ≤ 2000 by omega)]
    rw [if_pos ⟨v1, v6, hk⟩, w64_succ (by omega)]; rfl
  · rw [m_laws_FnSyncTicks_l1.eq_2]
    have c : ltB (N : Int) (N : Int) = false := decide_eq_false (by omega)
    simp only [c, cond_false]
end
theorem door_FnSyncTicks (x0 : List Int) (h0 : x0.length ≤ maxLen) (h1 : ∀ z ∈ x0, inU z) : m_laws_FnSyncTicks x0 = some true := by
  unfold m_laws_FnSyncTicks
  rcases Bool.eq_false_or_eq_true (ltB 1048576 (x0.length : Int)) with h | h <;> rw [h]
  · rfl
  obtain ⟨s, m, s', m', w, q, e, q0, q1, hs, hm, hs', hm', hw⟩ := turnings_ok (code_of h1)
  obtain ⟨k, hk, k0, k1, _⟩ := pick_ok (code_of h1) (p := q) (n := 12) (by omega) (by omega)
  have k2 := k1 (by omega)
  unfold m_spec_DrawSyncTicks
  simp only [cond_false, e, hk, Option.bind_some]
  have wm : w64 (m + m') = m + m' := wS (by omega)
  by_cases hc : Tk s m s' m' k w
  · obtain ⟨N, n1, n2, n3⟩ := first_may hc
    obtain ⟨v1, v2, v3, v4, v5, v6⟩ := tk_v hc N
    have c1 : ltB k 1 = false := decide_eq_false (by have := hc.k; omega)
    have c2 : ltB 999 k = false := decide_eq_false (by have := hc.k; omega)
    have c3 : ltB w 0 = false := decide_eq_false (by have := hc.w; omega)
    have c4 : ltB 99 (m + m') = false := decide_eq_false (by have := hc.m; omega)
    have c5 : (leB 1 k && leB k 999) = true := by have := hc.k; simp [leB]; omega
    have hi : m_impl_SyncTicks s m s' m' k w = some (N : Int) := by
      unfold m_impl_SyncTicks
      simp only [itv, hc.v, hc.v', decide_true, Option.bind_some, Bool.not_true, Bool.not_false, gb, cond_true, c1, c2, c3, c4, wm, Bool.or_self, cond_false, iticks_l hc n1 n2 n3]
    have hsp : m_spec_SyncTicks s m s' m' k w = some (N : Int) := by
      unfold m_spec_SyncTicks m_spec_l1In
      simp only [stv, hc.v, hc.v', decide_true, Option.bind_some, Bool.not_true, Bool.not_false, gb, cond_true, c1, c2, c3, c4, c5, wm, Bool.or_self, cond_false, sticks_l hc n1 n2 n3]
    have c6 : ltB (N : Int) 0 = false := ltB0 (by omega)
    simp only [hi, hsp, Option.bind_some, bne_self_eq_false, cond_false, c6, law_l hc n1 n3 0, Sum.elim_inl, imay v2 v3 v4 v5, n2, decide_true]
  · have hi : m_impl_SyncTicks s m s' m' k w = some (-1) := by
      unfold m_impl_SyncTicks
      by_cases a1 : Vt s m
      · by_cases a2 : Vt s' m'
        · have : (((ltB k 1 || ltB 999 k) || ltB w 0) || ltB 99 (m + m')) = true := by
            rcases Bool.eq_false_or_eq_true ((((ltB k 1 || ltB 999 k) || ltB w 0) || ltB 99 (m + m'))) with h | h
            · exact h
            · simp [ltB] at h
              exact absurd ⟨a1, a2, by omega, by omega, by omega⟩ hc
          simp only [itv, a1, a2, decide_true, Option.bind_some, Bool.not_true, Bool.not_false, gb, cond_true, wm, Bool.false_or, this]
        · simp [itv, a1, a2, gb]
      · simp [itv, a1, gb]
    have hsp : m_spec_SyncTicks s m s' m' k w = some (-1) := by
      unfold m_spec_SyncTicks m_spec_l1In
      by_cases a1 : Vt s m
      · by_cases a2 : Vt s' m'
        · by_cases a3 : ltB 99 (m + m') = true
          · simp [stv, a1, a2, gb, wm, a3]
          · have a3 : ltB 99 (m + m') = false := by simpa using a3
            have : (!(leB 1 k && leB k 999) || ltB w 0) = true := by
              rcases Bool.eq_false_or_eq_true (!(leB 1 k && leB k 999) || ltB w 0) with h | h
              · exact h
              · simp [ltB, leB] at h a3
                exact absurd ⟨a1, a2, by omega, by omega, by omega⟩ hc
            simp only [stv, a1, a2, a3, decide_true, Option.bind_some, Bool.not_true, Bool.not_false, gb, cond_true, wm, Bool.false_or, this]
        · simp [stv, a1, a2, gb]
      · simp [stv, a1, gb]
    simp only [hi, hsp, Option.bind_some, alive_ok, gb]
    rfl
end Go.Proofs.YtjdjcfdpndhgmaaDoor
