/- Work: what the functions compute, in plain Lean; the models are these functions. -/
import Derived.Test.YtnoeliaefhldmaaDoorDaM
import Derived.Test.YtnoeliaefhldmaaDoorPu
import Derived.Test.YtnoeliaefhldmaaDoorPre
namespace Go.Proofs.YtnoeliaefhldmaaDoor
set_option linter.unusedVariables false
set_option linter.unusedSimpArgs false

/-- A loop that looks for the first. -/
theorem loop_first {σ Out : Type} (L : Nat → σ → Option Out) (st : Nat → σ) (n : Nat) (P : Nat → Bool) (fv : Nat → Option Out) (out : Option Out) (hn : n ≤ 1099511627776) (hstep : ∀ k fuel, k < n → L (fuel + 1) (st k) = bif P k then fv k else L fuel (st (k + 1))) (hend : ∀ fuel, L (fuel + 1) (st n) = out) :
    L FUEL (st 0) = match (List.range n).find? P with | some k => fv k | none => out := by
  have key : ∀ j k fuel, k + j = n → j < fuel → L fuel (st k) = match (List.range' k j).find? P with | some k => fv k | none => out := by
    intro j
    induction j with
    | zero =>
      intro k fuel hk hf
      obtain ⟨f, rfl⟩ : ∃ f, fuel = f + 1 := ⟨fuel - 1, by omega⟩
      obtain rfl : k = n := by omega
      simpa using hend f
    | succ j ih =>
      intro k fuel hk hf
      obtain ⟨f, rfl⟩ : ∃ f, fuel = f + 1 := ⟨fuel - 1, by omega⟩
      rw [hstep k f (by omega), ih (k + 1) f (by omega) (by omega), List.range'_succ, List.find?_cons]
      cases P k <;> simp
  rw [key n 0 FUEL (by omega) (fuel_gt hn), List.range_eq_range']

abbrev Pm := List (Int × Int)
abbrev Wk := List Bool × List Bool × Pm
def fnd (l : Pm) (p : Int × Int) : Int := match (List.range l.length).find? (fun k => (l.getD k (0, 0)).1 == p.1 && (l.getD k (0, 0)).2 == p.2) with | some k => (k : Int) | none => -1
theorem fnd_spec (l : Pm) (p : Int × Int) : (fnd l p = -1 ∧ p ∉ l) ∨ (∃ k, k < l.length ∧ fnd l p = (k : Int) ∧ l.getD k (0, 0) = p ∧ ∀ j, j < k → l.getD j (0, 0) ≠ p) := by
  unfold fnd
  cases h : (List.range l.length).find? (fun k => (l.getD k (0, 0)).1 == p.1 && (l.getD k (0, 0)).2 == p.2) with
  | none =>
    left
    refine ⟨rfl, fun hp => ?_⟩
    obtain ⟨k, hk, rfl⟩ := List.mem_iff_getElem.1 hp
    have := List.find?_eq_none.1 h k (by simpa using hk)
    rw [getD_ge hk] at this
    simp at this
  | some k =>
    right
    obtain ⟨h1, h2, h3⟩ := List.find?_range_eq_some.1 h
    have hk : k < l.length := by simpa using h2
    simp only [Bool.and_eq_true, beq_iff_eq] at h1
    refine ⟨k, hk, rfl, Prod.ext h1.1 h1.2, fun j hj e => ?_⟩
    have := h3 j hj
    rw [e] at this
    simp at this
theorem fnd_mem {l : Pm} {p : Int × Int} : leB 0 (fnd l p) = decide (p ∈ l) := by
  rcases fnd_spec l p with ⟨h1, h2⟩ | ⟨k, hk, h1, h2, h3⟩
  · rw [h1]; simp [leB, h2]
  · have : p ∈ l := by rw [← h2, getD_ge hk]; exact List.getElem_mem hk
    rw [h1]; simp [leB, this]
theorem mem_take_get {l : Pm} {p : Int × Int} {k : Nat} : p ∈ l.take k ↔ ∃ j, j < k ∧ j < l.length ∧ l.getD j (0, 0) = p := by
  constructor
  · intro h
    obtain ⟨j, hj, rfl⟩ := List.mem_iff_getElem.1 h
    have hj' : j < k ∧ j < l.length := by rw [List.length_take] at hj; omega
    exact ⟨j, hj'.1, hj'.2, by rw [getD_ge hj'.2]; simp⟩
  · rintro ⟨j, h1, h2, rfl⟩
    rw [getD_ge h2]
    exact List.mem_iff_getElem.2 ⟨j, by simp; omega, by simp⟩
theorem fnd_take {l : Pm} {k : Nat} (hk : k < l.length) : ltB (fnd l (l.getD k (0, 0))) (k : Int) = decide (l.getD k (0, 0) ∈ l.take k) := by
  rcases fnd_spec l (l.getD k (0, 0)) with ⟨h1, h2⟩ | ⟨i, hi, h1, h2, h3⟩
  · exact absurd (by rw [getD_ge hk]; exact List.getElem_mem hk) h2
  · rw [h1]
    have hle : i ≤ k := by
      rcases Nat.lt_or_ge k i with h | h
      · exact absurd rfl (h3 k h)
      · exact h
    rcases Nat.lt_or_ge i k with h | h
    · have : l.getD k (0, 0) ∈ l.take k := mem_take_get.2 ⟨i, h, hi, h2⟩
      rw [decide_eq_true this]; exact decide_eq_true (by omega)
    · obtain rfl : i = k := by omega
      have : ¬ l.getD i (0, 0) ∈ l.take i := fun hm => by
        obtain ⟨j, j1, j2, j3⟩ := mem_take_get.1 hm
        exact h3 j j1 j3
      rw [decide_eq_false this]; exact decide_eq_false (by omega)
section
variable (l : Pm) (a b : Int) (hn : l.length ≤ 1099511627776)
include hn
theorem sFind : m_spec_l12Find l a b = some (fnd l (a, b)) := by
  unfold m_spec_l12Find fnd
  have h := loop_first (m_spec_l12Find_l1 l a b) (fun k => (k : Int)) l.length (fun k => (l.getD k (0, 0)).1 == a && (l.getD k (0, 0)).2 == b) (fun k => some (.inr (k : Int))) (some (.inl ())) hn (fun k fuel hk => by
    rw [m_spec_l12Find_l1.eq_2]
    simp only [lt_dec hk, ix_dec hk, chk_true, cond_true, Int.toNat_natCast, w64_succ (by omega : k < 4611686018427387904)]) (fun fuel => by rw [m_spec_l12Find_l1.eq_2]; simp only [nlt_dec, cond_false])
  rw [show m_spec_l12Find_l1 l a b FUEL 0 = _ from h]
  cases (List.range l.length).find? (fun k => (l.getD k (0, 0)).1 == a && (l.getD k (0, 0)).2 == b) <;> rfl
theorem iFind : m_slices_Index_impl_Permit_impl_Permit l a b = some (fnd l (a, b)) := by
  unfold m_slices_Index_impl_Permit_impl_Permit fnd
  have h := loop_first (m_slices_Index_impl_Permit_impl_Permit_l1 l a b) (fun k => (k : Int)) l.length (fun k => (l.getD k (0, 0)).1 == a && (l.getD k (0, 0)).2 == b) (fun k => some (.inr (k : Int))) (some (.inl ())) hn (fun k fuel hk => by
    rw [m_slices_Index_impl_Permit_impl_Permit_l1.eq_2]
    simp only [lt_dec hk, ix_dec hk, chk_true, cond_true, Int.toNat_natCast, w64_succ (by omega : k < 4611686018427387904)]
    rw [show (a == (l.getD k (0, 0)).1) = ((l.getD k (0, 0)).1 == a) from Bool.beq_comm .., show (b == (l.getD k (0, 0)).2) = ((l.getD k (0, 0)).2 == b) from Bool.beq_comm ..]) (fun fuel => by rw [m_slices_Index_impl_Permit_impl_Permit_l1.eq_2]; simp only [nlt_dec, cond_false])
  rw [show m_slices_Index_impl_Permit_impl_Permit_l1 l a b FUEL 0 = _ from h]
  cases (List.range l.length).find? (fun k => (l.getD k (0, 0)).1 == a && (l.getD k (0, 0)).2 == b) <;> rfl
theorem iHas : m_slices_Contains_impl_Permit_impl_Permit l a b = some (decide ((a, b) ∈ l)) := by
  unfold m_slices_Contains_impl_Permit_impl_Permit
  rw [iFind l a b hn, Option.bind_some, fnd_mem]
end

/-! Valid work. -/
def pmOk (on earth : List Bool) (pm : Pm) (k : Nat) : Bool :=
  inB (pm.getD k (0, 0)).1 0 9 && (decide (0 ≤ (pm.getD k (0, 0)).2) && decide ((pm.getD k (0, 0)).2 < (on.length : Int))) && earth.getD (pm.getD k (0, 0)).2.toNat false && !decide (pm.getD k (0, 0) ∈ pm.take k)
def workV (on earth : List Bool) (pm : Pm) : Bool :=
  inB (on.length : Int) 1 10 && (earth.length == on.length) && decide (pm.length ≤ 6) && (!(List.range on.length).any fun k => on.getD k false && earth.getD k false) && !(List.range pm.length).any fun k => !pmOk on earth pm k
structure WorkOk (on earth : List Bool) (pm : Pm) : Prop where
  l0 : 1 ≤ on.length
  l1 : on.length ≤ 10
  le : earth.length = on.length
  lp : pm.length ≤ 6
  ne : ∀ k, on.getD k false = true → earth.getD k false = false
  pm : ∀ k, k < pm.length → (0 ≤ (pm.getD k (0, 0)).1 ∧ (pm.getD k (0, 0)).1 ≤ 9) ∧ (0 ≤ (pm.getD k (0, 0)).2 ∧ (pm.getD k (0, 0)).2 < (on.length : Int)) ∧ earth.getD (pm.getD k (0, 0)).2.toNat false = true ∧ pm.getD k (0, 0) ∉ pm.take k
theorem pmOk_iff {on earth : List Bool} {pm : Pm} {k : Nat} : pmOk on earth pm k = true ↔ (0 ≤ (pm.getD k (0, 0)).1 ∧ (pm.getD k (0, 0)).1 ≤ 9) ∧ (0 ≤ (pm.getD k (0, 0)).2 ∧ (pm.getD k (0, 0)).2 < (on.length : Int)) ∧ earth.getD (pm.getD k (0, 0)).2.toNat false = true ∧ pm.getD k (0, 0) ∉ pm.take k := by
  simp only [pmOk, Bool.and_eq_true, inB_iff, decide_eq_true_eq, Bool.not_eq_true', decide_eq_false_iff_not, and_assoc]
theorem any_f {n : Nat} {f : Nat → Bool} : (!(List.range n).any f) = true ↔ ∀ k, k < n → f k = false := by
  rw [Bool.not_eq_true', List.any_eq_false]
  simp only [List.mem_range, Bool.not_eq_true]
theorem workV_iff {on earth : List Bool} {pm : Pm} : workV on earth pm = true ↔ WorkOk on earth pm := by
  unfold workV
  rw [Bool.and_eq_true, any_f, Bool.and_eq_true, any_f, Bool.and_eq_true, Bool.and_eq_true, inB_iff, beq_iff_eq, decide_eq_true_eq]
  constructor
  · rintro ⟨⟨⟨⟨h1, h2⟩, h3⟩, h4⟩, h5⟩
    refine ⟨by omega, by omega, h2, h3, fun k hk => ?_, fun k hk => pmOk_iff.1 (by have := h5 k hk; simpa using this)⟩
    by_cases hl : k < on.length
    · have := h4 k hl
      rw [hk] at this
      simpa using this
    · simp [List.getD, List.getElem?_eq_none (Nat.le_of_not_lt hl)] at hk
  · intro h
    have := h.l0; have := h.l1
    refine ⟨⟨⟨⟨by omega, h.le⟩, h.lp⟩, fun k hk => ?_⟩, fun k hk => by rw [pmOk_iff.2 (h.pm k hk)]; rfl⟩
    cases ho : on.getD k false
    · rfl
    · rw [h.ne k ho]; rfl
theorem inB10 (n : Int) : inB n 1 10 = (!ltB n 1 && !ltB 10 n) := by rw [Bool.eq_iff_iff]; simp [inB, ltB]
theorem lt6 (n : Nat) : ltB 6 (n : Int) = !decide (n ≤ 6) := by rw [Bool.eq_iff_iff]; simp [ltB]; omega
theorem bne_len (a b : Nat) : ((a : Int) != (b : Int)) = !(a == b) := by rw [Bool.eq_iff_iff]; simp; omega
section
variable (on earth : List Bool) (pm : Pm) (ho : on.length ≤ 1048576) (hp : pm.length ≤ 1048576) (hl : earth.length = on.length)
include ho hl
theorem sV1 : m_spec_WorkValid_l1 on earth FUEL 0 = bif (List.range on.length).any (fun k => on.getD k false && earth.getD k false) then some (.inr false) else some (.inl ()) := by
  have h := loop_find (m_spec_WorkValid_l1 on earth) (fun k => (k : Int)) on.length (fun k => on.getD k false && earth.getD k false) (some (.inr false)) (some (.inl ())) (by omega) (fun k fuel hk => ?_) (fun fuel => ?_)
  · exact h
  · rw [m_spec_WorkValid_l1.eq_2]
    simp only [lt_dec hk, ix_dec hk, ix_dec (show k < earth.length by omega), chk_true, cond_true, Int.toNat_natCast, Bool.or_true, w64_succ (by omega : k < 4611686018427387904)]
  · rw [m_spec_WorkValid_l1.eq_2]; simp only [nlt_dec, cond_false]
theorem iV1 : m_impl_WorkValid_l1 on earth FUEL 0 = bif (List.range on.length).any (fun k => on.getD k false && earth.getD k false) then some (.inr false) else some (.inl ()) := by
  have h := loop_find (m_impl_WorkValid_l1 on earth) (fun k => (k : Int)) on.length (fun k => on.getD k false && earth.getD k false) (some (.inr false)) (some (.inl ())) (by omega) (fun k fuel hk => ?_) (fun fuel => ?_)
  · exact h
  · rw [m_impl_WorkValid_l1.eq_2]
    simp only [lt_dec hk, ix_dec hk, ix_dec (show k < earth.length by omega), chk_true, cond_true, Int.toNat_natCast, Bool.or_true, w64_succ (by omega : k < 4611686018427387904)]
  · rw [m_impl_WorkValid_l1.eq_2]; simp only [nlt_dec, cond_false]
include hp
theorem sV2 : m_spec_WorkValid_l2 on earth pm FUEL 0 = bif (List.range pm.length).any (fun k => !pmOk on earth pm k) then some (.inr false) else some (.inl ()) := by
  have h := loop_find (m_spec_WorkValid_l2 on earth pm) (fun k => (k : Int)) pm.length (fun k => !pmOk on earth pm k) (some (.inr false)) (some (.inl ())) (by omega) (fun k fuel hk => ?_) (fun fuel => ?_)
  · exact h
  · rw [m_spec_WorkValid_l2.eq_2]
    simp only [lt_dec hk, ix_dec hk, chk_true, cond_true, Int.toNat_natCast, w64_succ (by omega : k < 4611686018427387904), sFind pm _ _ (by omega), m_spec_l1In]
    have w1 : w64 ((on.length : Int) - 1) = (on.length : Int) - 1 := w64_in (by omega) (by omega)
    have hft := fnd_take hk
    rw [w1]
    unfold pmOk
    rw [inB_le]
    generalize pm.getD k (0, 0) = p at *
    cases h1 : (leB 0 p.1 && leB p.1 9)
    · simp [gb]
    have e2 : (leB 0 p.2 && leB p.2 ((on.length : Int) - 1)) = (decide (0 ≤ p.2) && decide (p.2 < (on.length : Int))) := by rw [Bool.eq_iff_iff]; simp [leB]; omega
    rw [e2]
    cases h2 : (decide (0 ≤ p.2) && decide (p.2 < (on.length : Int)))
    · simp [gb]
    have hx : ixB p.2 earth.length = true := by simp at h2; simp [ixB]; omega
    simp only [gb, Option.bind_some, Bool.not_true, Bool.not_false, cond_true, Bool.or_self, hx, Bool.or_true, chk_true, Bool.false_or, Bool.true_and]
    cases earth.getD p.2.toNat false
    · simp
    · simp [hft]
  · rw [m_spec_WorkValid_l2.eq_2]; simp only [nlt_dec, cond_false]
omit ho in
theorem iV2 : m_impl_WorkValid_l2 on earth pm FUEL 0 = bif (List.range pm.length).any (fun k => !pmOk on earth pm k) then some (.inr false) else some (.inl ()) := by
  have h := loop_find (m_impl_WorkValid_l2 on earth pm) (fun k => (k : Int)) pm.length (fun k => !pmOk on earth pm k) (some (.inr false)) (some (.inl ())) (by omega) (fun k fuel hk => ?_) (fun fuel => ?_)
  · exact h
  · rw [m_impl_WorkValid_l2.eq_2]
    have hs : slB 0 (k : Int) pm.length = true := decide_eq_true (by omega)
    have ht : subL pm 0 (k : Int) = pm.take k := by simp [subL]
    simp only [lt_dec hk, ix_dec hk, chk_true, cond_true, Int.toNat_natCast, w64_succ (by omega : k < 4611686018427387904), hs, ht, Bool.or_true, iHas (pm.take k) _ _ (by simp; omega)]
    unfold pmOk
    rw [inB_le]
    generalize pm.getD k (0, 0) = p
    rw [show ((p.1, p.2) : Int × Int) = p from rfl]
    cases h1 : (leB 0 p.1 && leB p.1 9)
    · have : (ltB p.1 0 || ltB 9 p.1) = true := by simp [leB] at h1; simp [ltB]; omega
      simp [gb, this]
    have e1 : (ltB p.1 0 || ltB 9 p.1) = false := by simp [leB] at h1; simp [ltB]; omega
    rw [e1]
    cases h2 : (decide (0 ≤ p.2) && decide (p.2 < (on.length : Int)))
    · have : (ltB p.2 0 || leB (on.length : Int) p.2) = true := by simp at h2; simp [ltB, leB]; omega
      simp only [Bool.false_or, this, Bool.not_true, Bool.true_or, Bool.not_false, chk_true, gb, cond_false, Option.bind_some, cond_true, Bool.and_false, Bool.false_and]
    have e2 : (ltB p.2 0 || leB (on.length : Int) p.2) = false := by simp at h2; simp [ltB, leB]; omega
    have hx : ixB p.2 earth.length = true := by simp at h2; simp [ixB]; omega
    simp only [Bool.false_or, e2, gb, Option.bind_some, Bool.not_true, Bool.not_false, cond_true, Bool.or_self, hx, Bool.or_true, chk_true, Bool.true_and]
    cases earth.getD p.2.toNat false <;> simp
  · rw [m_impl_WorkValid_l2.eq_2]; simp only [nlt_dec, cond_false]
end
section
variable (on earth : List Bool) (pm : Pm) (ho : on.length ≤ 1048576) (hp : pm.length ≤ 1048576)
include ho hp
theorem sValid : m_spec_WorkValid on earth pm = some (workV on earth pm) := by
  unfold m_spec_WorkValid m_spec_l1In workV
  rw [inB_le, lt6, bne_len]
  cases h1 : (leB 1 (on.length : Int) && leB (on.length : Int) 10)
  · simp
  by_cases h2 : earth.length = on.length
  · rw [show (earth.length == on.length) = true by simpa using h2, show (on.length == earth.length) = true by simpa using h2.symm]
    cases h3 : decide (pm.length ≤ 6)
    · simp
    simp only [Option.bind_some, Bool.not_true, Bool.or_self, cond_false, sV1 on earth ho h2, sV2 on earth pm ho hp h2, Bool.true_and]
    cases (List.range on.length).any fun k => on.getD k false && earth.getD k false
    · cases (List.range pm.length).any fun k => !pmOk on earth pm k <;> rfl
    · rfl
  · rw [show (earth.length == on.length) = false by simpa using h2, show (on.length == earth.length) = false by simpa using fun e => h2 e.symm]
    simp
theorem iValid : m_impl_WorkValid on earth pm = some (workV on earth pm) := by
  unfold m_impl_WorkValid workV
  rw [inB10, lt6, bne_len]
  cases h1 : ltB (on.length : Int) 1
  · cases h4 : ltB 10 (on.length : Int)
    · by_cases h2 : earth.length = on.length
      · rw [show (earth.length == on.length) = true by simpa using h2]
        cases h3 : decide (pm.length ≤ 6)
        · simp
        simp only [Option.bind_some, Bool.not_true, Bool.not_false, Bool.or_self, cond_false, iV1 on earth ho h2, iV2 on earth pm hp h2, Bool.true_and]
        cases (List.range on.length).any fun k => on.getD k false && earth.getD k false
        · cases (List.range pm.length).any fun k => !pmOk on earth pm k <;> rfl
        · rfl
      · rw [show (earth.length == on.length) = false by simpa using h2]
        simp
    · simp
  · simp
end

/-! Who works at a line. -/
def heldOf (pm : Pm) (line : Int) : List Int := (pm.filter (·.2 == line)).map (·.1)
theorem held_step {pm : Pm} {line : Int} {k : Nat} (hk : k < pm.length) : heldOf (pm.take (k + 1)) line = if (pm.getD k (0, 0)).2 == line then heldOf (pm.take k) line ++ [(pm.getD k (0, 0)).1] else heldOf (pm.take k) line := by
  unfold heldOf
  rw [List.take_succ_eq_append_getElem hk, List.filter_append, List.map_append, getD_ge hk]
  cases h : pm[k].2 == line <;> simp [h]
theorem held_len (pm : Pm) (line : Int) : (heldOf pm line).length ≤ pm.length := by
  unfold heldOf; rw [List.length_map]; exact List.length_filter_le _ _
section
variable (on earth : List Bool) (pm : Pm) (line : Int) (ho : on.length ≤ 1048576) (hp : pm.length ≤ 1048576)
include ho hp
theorem sHeld : m_spec_WorkHeld on earth pm line = some (if workV on earth pm then heldOf pm line else []) := by
  unfold m_spec_WorkHeld
  cases hv : workV on earth pm
  · rw [show FUEL = 4611686018427387903 + 1 from rfl, m_spec_WorkHeld_l1.eq_2]
    simp only [sValid on earth pm ho hp, hv]
    cases ltB (0 : Int) (pm.length : Int) <;> simp [gb]
  · have h := loop_all (m_spec_WorkHeld_l1 on earth pm line) (fun k => (heldOf (pm.take k) line, (k : Int))) pm.length (some (heldOf pm line)) (by omega) (fun k fuel hk => ?_) (fun fuel => ?_)
    · rw [show (([] : List Int), (0 : Int)) = (heldOf (pm.take 0) line, ((0 : Nat) : Int)) from rfl, h]; rfl
    · rw [m_spec_WorkHeld_l1.eq_2]
      have hb := held_len (pm.take k) line
      have ha : ∀ x : Int, apB (heldOf (pm.take k) line).length [x].length = true := fun x => by simp [apB]; simp at hb; omega
      simp only [lt_dec hk, ix_dec hk, chk_true, cond_true, Int.toNat_natCast, sValid on earth pm ho hp, hv, gb, Option.bind_some, Bool.and_self, ha, w64_succ (by omega : k < 4611686018427387904)]
      rw [held_step hk]
      cases (pm.getD k (0, 0)).2 == line <;> rfl
    · rw [m_spec_WorkHeld_l1.eq_2]; simp [nlt_dec, gb]
theorem iHeld : m_impl_WorkHeld on earth pm line = some (if workV on earth pm then heldOf pm line else []) := by
  unfold m_impl_WorkHeld
  rw [iValid on earth pm ho hp]
  cases hv : workV on earth pm
  · rfl
  · have h := loop_all (m_impl_WorkHeld_l1 pm line) (fun k => (heldOf (pm.take k) line, (k : Int))) pm.length (some (heldOf pm line)) (by omega) (fun k fuel hk => ?_) (fun fuel => ?_)
    · simp only [Option.bind_some, cond_true]
      rw [show (([] : List Int), (0 : Int)) = (heldOf (pm.take 0) line, ((0 : Nat) : Int)) from rfl, h]; rfl
    · rw [m_impl_WorkHeld_l1.eq_2]
      have hb := held_len (pm.take k) line
      have ha : ∀ x : Int, apB (heldOf (pm.take k) line).length [x].length = true := fun x => by simp [apB]; simp at hb; omega
      simp only [lt_dec hk, ix_dec hk, chk_true, cond_true, Int.toNat_natCast, ha, w64_succ (by omega : k < 4611686018427387904)]
      rw [held_step hk]
      cases (pm.getD k (0, 0)).2 == line <;> rfl
    · rw [m_impl_WorkHeld_l1.eq_2]; simp [nlt_dec]
end

/-! A deed. -/
def wkMay (w : Wk) (kd a who : Int) : Bool :=
  if kd = 0 ∨ kd = 2 then !w.1.getD a.toNat false && !w.2.1.getD a.toNat false
  else if kd = 1 then w.1.getD a.toNat false
  else if kd = 3 then w.2.1.getD a.toNat false && decide (heldOf w.2.2 a = [])
  else if kd = 4 then w.2.1.getD a.toNat false && (inB who 0 9 && !decide ((who, a) ∈ w.2.2) && decide (w.2.2.length < 6))
  else if kd = 5 then decide ((who, a) ∈ w.2.2)
  else false
def wkPut (w : Wk) (kd a who : Int) : Wk :=
  if kd = 0 then (w.1.set a.toNat true, w.2.1, w.2.2)
  else if kd = 1 then (w.1.set a.toNat false, w.2.1, w.2.2)
  else if kd = 2 then (w.1, w.2.1.set a.toNat true, w.2.2)
  else if kd = 3 then (w.1, w.2.1.set a.toNat false, w.2.2)
  else if kd = 4 then (w.1, w.2.1, w.2.2 ++ [(who, a)])
  else (w.1, w.2.1, w.2.2.take (fnd w.2.2 (who, a)).toNat ++ w.2.2.drop ((fnd w.2.2 (who, a)).toNat + 1))
def wkDo (w : Wk) (kd a who : Int) : Wk × Bool :=
  if workV w.1 w.2.1 w.2.2 then (if 0 ≤ a ∧ a < (w.1.length : Int) ∧ wkMay w kd a who = true then (wkPut w kd a who, true) else (w, false)) else (([], [], []), false)
def out4w (r : Wk × Bool) : List Bool × List Bool × Pm × Bool := (r.1.1, r.1.2.1, r.1.2.2, r.2)
theorem len0 {α : Type} (l : List α) : ((l.length : Int) == 0) = decide (l.length = 0) := by rw [Bool.eq_iff_iff]; simp
theorem nil_dec (l : List Int) : ((l.length : Int) == 0) = decide (l = []) := by cases l <;> simp; omega
section
variable (w : Wk) (kd a who : Int) (ho : w.1.length ≤ 1048576) (he : w.2.1.length ≤ 1048576) (hp : w.2.2.length ≤ 1048576)
include ho hp he
omit he in
theorem iMayP (hv : workV w.1 w.2.1 w.2.2 = true) (ha : 0 ≤ a ∧ a < (w.1.length : Int)) : m_impl_Work_may w.1 w.2.1 w.2.2 kd a who = some (wkMay w kd a who) := by
  have ok := workV_iff.1 hv
  have c1 : ixB a w.1.length = true := decide_eq_true (by omega)
  have c2 : ixB a w.2.1.length = true := decide_eq_true (by have := ok.le; omega)
  unfold m_impl_Work_may wkMay
  rw [c1, c2, iHas _ _ _ (by omega), iHeld _ _ _ _ ho hp, hv]
  simp only [chk_true, Option.bind_some, if_true, nil_dec]
  by_cases k0 : kd = 0
  · subst k0; simp
  by_cases k1 : kd = 1
  · subst k1; simp
  by_cases k2 : kd = 2
  · subst k2; simp
  by_cases k3 : kd = 3
  · subst k3; cases w.2.1.getD a.toNat false <;> simp
  by_cases k4 : kd = 4
  · subst k4
    simp only [show ((4 : Int) == 0) = false from rfl, show ((4 : Int) == 2) = false from rfl, show ((4 : Int) == 1) = false from rfl, show ((4 : Int) == 3) = false from rfl, show ((4 : Int) == 4) = true from rfl, cond_false, cond_true, Option.bind_some]
    rw [if_neg (by omega), if_neg (by omega), if_neg (by omega), if_pos trivial, inB_le]
    have c6 : ltB (w.2.2.length : Int) 6 = decide (w.2.2.length < 6) := by simp only [ltB]; exact decide_eq_decide.2 (by omega)
    rw [c6]
    cases w.2.1.getD a.toNat false <;> cases decide ((who, a) ∈ w.2.2) <;> simp
  by_cases k5 : kd = 5
  · subst k5; simp
  · have e0 : (kd == 0) = false := by simpa using k0
    have e1 : (kd == 1) = false := by simpa using k1
    have e2 : (kd == 2) = false := by simpa using k2
    have e3 : (kd == 3) = false := by simpa using k3
    have e4 : (kd == 4) = false := by simpa using k4
    have e5 : (kd == 5) = false := by simpa using k5
    simp [k0, k1, k2, k3, k4, k5, e0, e1, e2, e3, e4, e5]
omit he in
theorem sMayP (hv : workV w.1 w.2.1 w.2.2 = true) (ha : 0 ≤ a ∧ a < (w.1.length : Int)) : m_spec_l12May w.1 w.2.1 w.2.2 kd a who = some (wkMay w kd a who) := by
  have ok := workV_iff.1 hv
  have c1 : ixB a w.1.length = true := decide_eq_true (by omega)
  have c2 : ixB a w.2.1.length = true := decide_eq_true (by have := ok.le; omega)
  have c3 : ltB (fnd w.2.2 (who, a)) 0 = !decide ((who, a) ∈ w.2.2) := by rw [← fnd_mem]; rw [Bool.eq_iff_iff]; simp [ltB, leB]
  unfold m_spec_l12May wkMay m_spec_l1In
  rw [c1, c2, sFind _ _ _ (by omega), sHeld _ _ _ _ ho hp, hv]
  simp only [chk_true, Option.bind_some, if_true, nil_dec, Bool.or_true, c3, fnd_mem]
  by_cases k0 : kd = 0
  · subst k0; simp
  by_cases k1 : kd = 1
  · subst k1; simp
  by_cases k2 : kd = 2
  · subst k2; simp
  by_cases k3 : kd = 3
  · subst k3; cases w.2.1.getD a.toNat false <;> simp
  by_cases k4 : kd = 4
  · subst k4
    simp only [show ((4 : Int) == 0) = false from rfl, show ((4 : Int) == 2) = false from rfl, show ((4 : Int) == 1) = false from rfl, show ((4 : Int) == 3) = false from rfl, show ((4 : Int) == 4) = true from rfl, cond_false, cond_true, Option.bind_some]
    rw [if_neg (by omega), if_neg (by omega), if_neg (by omega), if_pos trivial, inB_le]
    have c6 : ltB (w.2.2.length : Int) 6 = decide (w.2.2.length < 6) := by simp only [ltB]; exact decide_eq_decide.2 (by omega)
    rw [c6]
    cases w.2.1.getD a.toNat false <;> simp [gb, Bool.and_assoc]
  by_cases k5 : kd = 5
  · subst k5; simp
  · have e0 : (kd == 0) = false := by simpa using k0
    have e1 : (kd == 1) = false := by simpa using k1
    have e2 : (kd == 2) = false := by simpa using k2
    have e3 : (kd == 3) = false := by simpa using k3
    have e4 : (kd == 4) = false := by simpa using k4
    have e5 : (kd == 5) = false := by simpa using k5
    simp [k0, k1, k2, k3, k4, k5, e0, e1, e2, e3, e4, e5]
theorem wcloneP : m_impl_Work_clone w.1 w.2.1 w.2.2 = some w := by
  have a1 : apB ([] : List Bool).length w.1.length = true := by simp [apB]; omega
  have a2 : apB ([] : List Bool).length w.2.1.length = true := by simp [apB]; omega
  have a3 : apB ([] : Pm).length w.2.2.length = true := by simp [apB]; omega
  simp only [m_impl_Work_clone, m_slices_Clone_bool_bool, m_slices_Clone_impl_Permit_impl_Permit, a1, a2, a3, chk_true, Option.bind_some]
theorem wcopyP : m_spec_l12Copy w.1 w.2.1 w.2.2 = some w := by
  have a1 : apB ([] : List Bool).length w.1.length = true := by simp [apB]; omega
  have a2 : apB ([] : List Bool).length w.2.1.length = true := by simp [apB]; omega
  have a3 : apB ([] : Pm).length w.2.2.length = true := by simp [apB]; omega
  simp only [m_spec_l12Copy, m_spec_l2Copy, a1, a2, a3, chk_true, Option.bind_some, List.nil_append]
theorem iDo : m_impl_WorkDo w.1 w.2.1 w.2.2 kd a who = some (out4w (wkDo w kd a who)) := by
  unfold m_impl_WorkDo wkDo
  rw [iValid _ _ _ ho hp]
  cases hv : workV w.1 w.2.1 w.2.2
  · rfl
  have ok := workV_iff.1 hv
  simp only [Option.bind_some, cond_true, if_true, wcloneP w ho he hp]
  by_cases ha : 0 ≤ a ∧ a < (w.1.length : Int)
  · have c0 : (ltB a 0 || leB (w.1.length : Int) a) = false := by simp [ltB, leB]; omega
    have c1 : ixB a w.1.length = true := decide_eq_true (by omega)
    have c2 : ixB a w.2.1.length = true := decide_eq_true (by have := ok.le; omega)
    simp only [c0, Bool.not_false, gb, cond_true, iMayP w kd a who ho hp hv ha, Option.bind_some, Bool.false_or]
    cases hm : wkMay w kd a who
    · rw [if_neg (fun h => by cases h.2.2)]; rfl
    rw [if_pos ⟨ha.1, ha.2, rfl⟩]
    simp only [Bool.not_true, cond_false]
    by_cases k0 : kd = 0
    · subst k0; simp [c1, wkPut, out4w]
    by_cases k1 : kd = 1
    · subst k1; simp [c1, wkPut, out4w]
    by_cases k2 : kd = 2
    · subst k2; simp [c2, wkPut, out4w]
    by_cases k3 : kd = 3
    · subst k3; simp [c2, wkPut, out4w]
    by_cases k4 : kd = 4
    · subst k4
      have a4 : apB w.2.2.length 1 = true := by simp [apB]; omega
      simp [wkPut, out4w, a4]
    by_cases k5 : kd = 5
    · subst k5
      have hmem : (who, a) ∈ w.2.2 := by simpa [wkMay] using hm
      rcases fnd_spec w.2.2 (who, a) with ⟨h1, h2⟩ | ⟨k, hk, h1, h2, h3⟩
      · exact absurd hmem h2
      have wk : w64 ((k : Int) + 1) = (k : Int) + 1 := w64_in (by omega) (by omega)
      have b1 : slB (k : Int) ((k : Int) + 1) w.2.2.length = true := decide_eq_true (by omega)
      have b2 : slB 0 (k : Int) w.2.2.length = true := decide_eq_true (by omega)
      have b3 : slB ((k : Int) + 1) (w.2.2.length : Int) w.2.2.length = true := decide_eq_true (by omega)
      have b4 : ((k : Int) == (k : Int) + 1) = false := by simp; omega
      have s1 : subL w.2.2 0 (k : Int) = w.2.2.take k := by simp [subL]
      have s2 : subL w.2.2 ((k : Int) + 1) (w.2.2.length : Int) = w.2.2.drop (k + 1) := by
        unfold subL; rw [show ((k : Int) + 1).toNat = k + 1 by omega, List.take_of_length_le (by simp <;> omega)]
      have b5 : apB (w.2.2.take k).length (w.2.2.drop (k + 1)).length = true := by simp [apB]; omega
      simp only [show ((5 : Int) == 0) = false from rfl, show ((5 : Int) == 1) = false from rfl, show ((5 : Int) == 2) = false from rfl, show ((5 : Int) == 3) = false from rfl, show ((5 : Int) == 4) = false from rfl, show ((5 : Int) == 5) = true from rfl, cond_false, cond_true, Option.bind_some, iFind w.2.2 who a (by omega), h1, m_slices_Delete_impl_Permit_impl_Permit, wk, b1, b2, b3, b4, s1, s2, b5, chk_true]
      simp [wkPut, out4w, h1]
    · exfalso
      simp [wkMay, k0, k1, k2, k3, k4, k5] at hm
  · have c0 : (ltB a 0 || leB (w.1.length : Int) a) = true := by simp [ltB, leB]; omega
    rw [if_neg (fun h => ha ⟨h.1, h.2.1⟩)]
    simp [c0, gb, out4w]
theorem sDo : m_spec_WorkDo w.1 w.2.1 w.2.2 kd a who = some (out4w (wkDo w kd a who)) := by
  unfold m_spec_WorkDo wkDo m_spec_l1In
  rw [sValid _ _ _ ho hp]
  cases hv : workV w.1 w.2.1 w.2.2
  · rfl
  have ok := workV_iff.1 hv
  have w1 : w64 ((w.1.length : Int) - 1) = (w.1.length : Int) - 1 := w64_in (by omega) (by omega)
  simp only [Option.bind_some, cond_true, if_true, wcopyP w ho he hp, w1]
  by_cases ha : 0 ≤ a ∧ a < (w.1.length : Int)
  · have c0 : (leB 0 a && leB a ((w.1.length : Int) - 1)) = true := by simp [leB]; omega
    have c1 : ixB a w.1.length = true := decide_eq_true (by omega)
    have c2 : ixB a w.2.1.length = true := decide_eq_true (by have := ok.le; omega)
    simp only [c0, Bool.not_true, Bool.not_false, gb, cond_true, sMayP w kd a who ho hp hv ha, Option.bind_some, Bool.false_or]
    cases hm : wkMay w kd a who
    · rw [if_neg (fun h => by cases h.2.2)]; rfl
    rw [if_pos ⟨ha.1, ha.2, rfl⟩]
    simp only [Bool.not_true, cond_false]
    by_cases k0 : kd = 0
    · subst k0; simp [c1, wkPut, out4w]
    by_cases k1 : kd = 1
    · subst k1; simp [c1, wkPut, out4w]
    by_cases k2 : kd = 2
    · subst k2; simp [c2, wkPut, out4w]
    by_cases k3 : kd = 3
    · subst k3; simp [c2, wkPut, out4w]
    by_cases k4 : kd = 4
    · subst k4
      have a4 : apB w.2.2.length 1 = true := by simp [apB]; omega
      simp [wkPut, out4w, a4]
    by_cases k5 : kd = 5
    · subst k5
      have hmem : (who, a) ∈ w.2.2 := by simpa [wkMay] using hm
      rcases fnd_spec w.2.2 (who, a) with ⟨h1, h2⟩ | ⟨k, hk, h1, h2, h3⟩
      · exact absurd hmem h2
      have wk : w64 ((k : Int) + 1) = (k : Int) + 1 := w64_in (by omega) (by omega)
      have b2 : slB 0 (k : Int) w.2.2.length = true := decide_eq_true (by omega)
      have b3 : slB ((k : Int) + 1) (w.2.2.length : Int) w.2.2.length = true := decide_eq_true (by omega)
      have s1 : subL w.2.2 0 (k : Int) = w.2.2.take k := by simp [subL]
      have s2 : subL w.2.2 ((k : Int) + 1) (w.2.2.length : Int) = w.2.2.drop (k + 1) := by
        unfold subL; rw [show ((k : Int) + 1).toNat = k + 1 by omega, List.take_of_length_le (by simp <;> omega)]
      have b5 : apB (w.2.2.take k).length (w.2.2.drop (k + 1)).length = true := by simp [apB]; omega
      simp only [show ((5 : Int) == 0) = false from rfl, show ((5 : Int) == 1) = false from rfl, show ((5 : Int) == 2) = false from rfl, show ((5 : Int) == 3) = false from rfl, show ((5 : Int) == 4) = false from rfl, cond_false, cond_true, Option.bind_some, sFind w.2.2 who a (by omega), h1, wk, b2, b3, s1, s2, b5, chk_true]
      simp [wkPut, out4w, h1]
    · exfalso
      simp [wkMay, k0, k1, k2, k3, k4, k5] at hm
  · have c0 : (leB 0 a && leB a ((w.1.length : Int) - 1)) = false := by simp [leB]; omega
    rw [if_neg (fun h => ha ⟨h.1, h.2.1⟩)]
    simp [c0, gb, out4w]
end
theorem put_len (w : Wk) (kd a who : Int) : (wkPut w kd a who).1.length = w.1.length ∧ (wkPut w kd a who).2.1.length = w.2.1.length ∧ (wkPut w kd a who).2.2.length ≤ w.2.2.length + 1 := by
  unfold wkPut
  repeat' split
  all_goals simp
  omega
theorem wkDo_len (w : Wk) (kd a who : Int) : (wkDo w kd a who).1.1.length ≤ w.1.length ∧ (wkDo w kd a who).1.2.1.length ≤ w.2.1.length ∧ (wkDo w kd a who).1.2.2.length ≤ max w.2.2.length 7 := by
  unfold wkDo
  have h := put_len w kd a who
  split
  · rename_i hv
    have := (workV_iff.1 hv).lp
    split
    · exact ⟨by rw [h.1]; exact Nat.le_refl _, by rw [h.2.1]; exact Nat.le_refl _, by dsimp only; omega⟩
    · exact ⟨Nat.le_refl _, Nat.le_refl _, by dsimp only; omega⟩
  · simp
theorem core_ExactWorkDo (on earth : List Bool) (pm : Pm) (kd a who : Int) (ho : on.length ≤ 1048576) (he : earth.length ≤ 1048576) (hp : pm.length ≤ 1048576) (_ : ∀ z ∈ on, True) (_ : ∀ z ∈ earth, True) (_ : ∀ z ∈ pm, inR z.1 ∧ inR z.2) (_ : inR kd) (_ : inR a) (_ : inR who) :
    ∃ r, m_spec_WorkDo on earth pm kd a who = some r ∧ m_impl_WorkDo on earth pm kd a who = some r ∧ r.1.length ≤ 1048576 ∧ r.2.1.length ≤ 1048576 ∧ r.2.2.1.length ≤ 1048576 := by
  have h := wkDo_len (on, earth, pm) kd a who
  dsimp only at h
  exact ⟨_, sDo (on, earth, pm) kd a who ho he hp, iDo (on, earth, pm) kd a who ho he hp, by simp only [out4w]; omega, by simp only [out4w]; omega, by simp only [out4w]; omega⟩

/-! Deeds one after the other. -/
def wkStep (s : Int × Wk) (d : Int × Int × Int) : Int × Wk := if (wkDo s.2 d.1 d.2.1 d.2.2).2 = true then (s.1 + 1, (wkDo s.2 d.1 d.2.1 d.2.2).1) else s
theorem wkStep_len (s : Int × Wk) (d : Int × Int × Int) : (wkStep s d).2.1.length ≤ s.2.1.length ∧ (wkStep s d).2.2.1.length ≤ s.2.2.1.length ∧ (wkStep s d).2.2.2.length ≤ max s.2.2.2.length 7 ∧ s.1 ≤ (wkStep s d).1 ∧ (wkStep s d).1 ≤ s.1 + 1 := by
  unfold wkStep
  have h := wkDo_len s.2 d.1 d.2.1 d.2.2
  split
  · exact ⟨h.1, h.2.1, h.2.2, by (try dsimp only); omega, by (try dsimp only); omega⟩
  · exact ⟨Nat.le_refl _, Nat.le_refl _, by omega, by omega, by omega⟩
theorem wkFold_len (l : List (Int × Int × Int)) : ∀ s : Int × Wk, (l.foldl wkStep s).2.1.length ≤ s.2.1.length ∧ (l.foldl wkStep s).2.2.1.length ≤ s.2.2.1.length ∧ (l.foldl wkStep s).2.2.2.length ≤ max s.2.2.2.length 7 ∧ s.1 ≤ (l.foldl wkStep s).1 ∧ (l.foldl wkStep s).1 ≤ s.1 + (l.length : Int) := by
  induction l with
  | nil => intro s; exact ⟨Nat.le_refl _, Nat.le_refl _, by simp only [List.foldl_nil]; omega, by simp, by simp⟩
  | cons d l ih =>
    intro s
    have h1 := wkStep_len s d
    have h2 := ih (wkStep s d)
    simp only [List.foldl_cons, List.length_cons]
    refine ⟨by omega, by omega, by omega, by omega, by omega⟩
section
variable (l : List (Int × Int × Int)) (hl : l.length ≤ 1048576) (w : Wk) (ho : w.1.length ≤ 1048576) (he : w.2.1.length ≤ 1048576) (hp : w.2.2.length ≤ 1048576)
include hl ho he hp
theorem sRunW_l : m_spec_WorkRun_l1 l FUEL (0, 0, w) = some (l.foldl wkStep (0, w)) := by
  have h := loop_all (m_spec_WorkRun_l1 l) (fun k => (((l.take k).foldl wkStep (0, w)).1, (k : Int), ((l.take k).foldl wkStep (0, w)).2)) l.length (some (l.foldl wkStep (0, w))) (by omega) (fun k fuel hk => ?_) (fun fuel => ?_)
  · simpa using h
  · have hb := wkFold_len (l.take k) (0, w)
    have hlk : (l.take k).length = k := by simp; omega
    rw [hlk] at hb
    dsimp only at hb
    rw [m_spec_WorkRun_l1.eq_2, take_fold wkStep l (0, w) (0, 0, 0) hk]
    simp only [lt_dec hk, ix_dec hk, chk_true, cond_true, Int.toNat_natCast, w64_succ (by omega : k < 4611686018427387904)]
    rw [sDo _ _ _ _ (by omega) (by omega) (by omega)]
    generalize (l.take k).foldl wkStep (0, w) = s at *
    generalize l.getD k (0, 0, 0) = d
    have w1 : w64 (s.1 + 1) = s.1 + 1 := w64_in (by omega) (by omega)
    simp only [Option.bind_some, out4w, w1, wkStep]
    cases (wkDo s.2 d.1 d.2.1 d.2.2).2 <;> rfl
  · rw [m_spec_WorkRun_l1.eq_2]; simp [nlt_dec]
theorem iRunW_l : m_impl_WorkRun_l1 l FUEL (0, 0, w) = some (l.foldl wkStep (0, w)) := by
  have h := loop_all (m_impl_WorkRun_l1 l) (fun k => (((l.take k).foldl wkStep (0, w)).1, (k : Int), ((l.take k).foldl wkStep (0, w)).2)) l.length (some (l.foldl wkStep (0, w))) (by omega) (fun k fuel hk => ?_) (fun fuel => ?_)
  · simpa using h
  · have hb := wkFold_len (l.take k) (0, w)
    have hlk : (l.take k).length = k := by simp; omega
    rw [hlk] at hb
    dsimp only at hb
    rw [m_impl_WorkRun_l1.eq_2, take_fold wkStep l (0, w) (0, 0, 0) hk]
    simp only [lt_dec hk, ix_dec hk, chk_true, cond_true, Int.toNat_natCast, w64_succ (by omega : k < 4611686018427387904)]
    rw [iDo _ _ _ _ (by omega) (by omega) (by omega)]
    generalize (l.take k).foldl wkStep (0, w) = s at *
    generalize l.getD k (0, 0, 0) = d
    have w1 : w64 (s.1 + 1) = s.1 + 1 := w64_in (by omega) (by omega)
    simp only [Option.bind_some, out4w, w1, wkStep]
    cases (wkDo s.2 d.1 d.2.1 d.2.2).2 <;> rfl
  · rw [m_impl_WorkRun_l1.eq_2]; simp [nlt_dec]
def wkRun (w : Wk) (l : List (Int × Int × Int)) : Int × Wk := if workV w.1 w.2.1 w.2.2 then l.foldl wkStep (0, w) else (0, [], [], [])
def outW (s : Int × Wk) : List Bool × List Bool × Pm × Int := (s.2.1, s.2.2.1, s.2.2.2, s.1)
theorem sRunW : m_spec_WorkRun w.1 w.2.1 w.2.2 l = some (outW (wkRun w l)) := by
  unfold m_spec_WorkRun wkRun
  rw [sValid _ _ _ ho hp]
  cases workV w.1 w.2.1 w.2.2
  · rfl
  · simp only [Option.bind_some, cond_true, if_true, wcopyP w ho he hp]
    rw [show ((0 : Int), (0 : Int), w.1, w.2.1, w.2.2) = (0, 0, w) from rfl, sRunW_l l hl w ho he hp]; rfl
theorem iRunW : m_impl_WorkRun w.1 w.2.1 w.2.2 l = some (outW (wkRun w l)) := by
  unfold m_impl_WorkRun wkRun
  rw [iValid _ _ _ ho hp]
  cases workV w.1 w.2.1 w.2.2
  · rfl
  · simp only [Option.bind_some, cond_true, if_true, wcloneP w ho he hp]
    rw [show ((0 : Int), (0 : Int), w.1, w.2.1, w.2.2) = (0, 0, w) from rfl, iRunW_l l hl w ho he hp]; rfl
end
theorem wkRun_len (w : Wk) (l : List (Int × Int × Int)) : (wkRun w l).2.1.length ≤ w.1.length ∧ (wkRun w l).2.2.1.length ≤ w.2.1.length ∧ (wkRun w l).2.2.2.length ≤ max w.2.2.length 7 := by
  unfold wkRun
  have h := wkFold_len l (0, w)
  split
  · exact ⟨h.1, h.2.1, h.2.2.1⟩
  · simp
theorem core_ExactWorkRun (on earth : List Bool) (pm : Pm) (l : List (Int × Int × Int)) (ho : on.length ≤ 1048576) (he : earth.length ≤ 1048576) (hp : pm.length ≤ 1048576) (hl : l.length ≤ 1048576) (_ : ∀ z ∈ on, True) (_ : ∀ z ∈ earth, True) (_ : ∀ z ∈ pm, inR z.1 ∧ inR z.2) (_ : ∀ z ∈ l, inR z.1 ∧ inR z.2.1 ∧ inR z.2.2) :
    ∃ r, m_spec_WorkRun on earth pm l = some r ∧ m_impl_WorkRun on earth pm l = some r ∧ r.1.length ≤ 1048576 ∧ r.2.1.length ≤ 1048576 ∧ r.2.2.1.length ≤ 1048576 := by
  have h := wkRun_len (on, earth, pm) l
  dsimp only at h
  exact ⟨_, sRunW l hl (on, earth, pm) ho he hp, iRunW l hl (on, earth, pm) ho he hp, by simp only [outW]; omega, by simp only [outW]; omega, by simp only [outW]; omega⟩
end Go.Proofs.YtnoeliaefhldmaaDoor
