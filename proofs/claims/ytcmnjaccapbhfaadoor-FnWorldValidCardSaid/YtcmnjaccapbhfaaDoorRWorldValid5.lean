/- Texts of the claim, one behind the other: WkV, WvM, WkD, BsM, WrM, WdD, DaH, WvD, DaO, Law. -/
import Derived.ChangeSame
import Derived.ChangeMaps5
import Derived.Carry
import Derived.Lib.SmallJoins
import Derived.JoinedOf
import Derived.Test.YtcmnjaccapbhfaaDoorRWorldValid4
namespace Go.Proofs.YtcmnjaccapbhfaaDoor
set_option linter.unusedVariables false
set_option linter.unusedSimpArgs false
section
variable (l : Pm) (a b : Int) (hn : l.length ≤ 1099511627776)
include hn
theorem sFind : m_spec_l12Find l a b = some (fnd l (a, b)) := by
  unfold m_spec_l12Find fnd
  have h := loop_first (m_spec_l12Find_l1 l a b) (fun k => (k : Int)) l.length (fun k => (l.getD k (0, 0)).1 == a && (l.getD k (0, 0)).2 == b) (fun k => some (.inr (k : Int))) (some (.inl ())) hn (fun k fuel hk => by
    rw [m_spec_l12Find_l1.eq_2]
    simp only [lt_dec hk, ix_dec hk, chk_true, cond_true, Int.toNat_natCast, w64_succ (by omega : k < 4611686018427387904)]) (fun fuel => by rw [m_spec_l12Find_l1.eq_2]; simp only [nlt_dec, cond_false])
  rw [show m_spec_l12Find_l1 l a b FUEL 0 = _ from h]
  cases (List.range l.length).find? (fun k => (l.getD k (0, 0)).1 == a && (l.getD k (0, 0)).2 == b) <;> rfl
theorem iFind : m_slices_Index_impl_Permit_impl_Permit l a b = some (fnd l (a, b)) := by
  unfold m_slices_Index_impl_Permit_impl_Permit fnd
  have h := loop_first (m_slices_Index_impl_Permit_impl_Permit_l1 l a b) (fun k => (k : Int)) l.length (fun k => (l.getD k (0, 0)).1 == a && (l.getD k (0, 0)).2 == b) (fun k => some (.inr (k : Int))) (some (.inl ())) hn (fun k fuel hk => by
    rw [m_slices_Index_impl_Permit_impl_Permit_l1.eq_2]
    simp only [lt_dec hk, ix_dec hk, chk_true, cond_true, Int.toNat_natCast, w64_succ (by omega : k < 4611686018427387904)]
    rw [show (a == (l.getD k (0, 0)).1) = ((l.getD k (0, 0)).1 == a) from Bool.beq_comm .., show (b == (l.getD k (0, 0)).2) = ((l.getD k (0, 0)).2 == b) from Bool.beq_comm ..]) (fun fuel => by rw [m_slices_Index_impl_Permit_impl_Permit_l1.eq_2]; simp only [nlt_dec, cond_false])
  rw [show m_slices_Index_impl_Permit_impl_Permit_l1 l a b FUEL 0 = _ from h]
  cases (List.range l.length).find? (fun k => (l.getD k (0, 0)).1 == a && (l.getD k (0, 0)).2 == b) <;> rfl
theorem iHas : m_slices_Contains_impl_Permit_impl_Permit l a b = some (decide ((a, b) ∈ l)) := by
  unfold m_slices_Contains_impl_Permit_impl_Permit
  rw [iFind l a b hn, Option.bind_some, fnd_mem]
end
section
variable (on earth : List Bool) (pm : Pm) (ho : on.length ≤ 1048576) (hp : pm.length ≤ 1048576) (hl : earth.length = on.length)
include ho hl
theorem sV1 : m_spec_WorkValid_l1 on earth FUEL 0 = bif (List.range on.length).any (fun k => on.getD k false && earth.getD k false) then some (.inr false) else some (.inl ()) := by
  have h := loop_find (m_spec_WorkValid_l1 on earth) (fun k => (k : Int)) on.length (fun k => on.getD k false && earth.getD k false) (some (.inr false)) (some (.inl ())) (by omega) (fun k fuel hk => ?_) (fun fuel => ?_)
  · exact h
  · rw [m_spec_WorkValid_l1.eq_2]
    simp only [lt_dec hk, ix_dec hk, ix_dec (show k < earth.length by omega), chk_true, cond_true, Int.toNat_natCast, Bool.or_true, w64_succ (by omega : k < 4611686018427387904)]
  · rw [m_spec_WorkValid_l1.eq_2]; simp only [nlt_dec, cond_false]
theorem iV1 : m_impl_WorkValid_l1 on earth FUEL 0 = bif (List.range on.length).any (fun k => on.getD k false && earth.getD k false) then some (.inr false) else some (.inl ()) := by
  have h := loop_find (m_impl_WorkValid_l1 on earth) (fun k => (k : Int)) on.length (fun k => on.getD k false && earth.getD k false) (some (.inr false)) (some (.inl ())) (by omega) (fun k fuel hk => ?_) (fun fuel => ?_)
  · exact h
  · rw [m_impl_WorkValid_l1.eq_2]
    simp only [lt_dec hk, ix_dec hk, ix_dec (show k < earth.length by omega), chk_true, cond_true, Int.toNat_natCast, Bool.or_true, w64_succ (by omega : k < 4611686018427387904)]
  · rw [m_impl_WorkValid_l1.eq_2]; simp only [nlt_dec, cond_false]
include hp
theorem sV2 : m_spec_WorkValid_l2 on earth pm FUEL 0 = bif (List.range pm.length).any (fun k => !pmOk on earth pm k) then some (.inr false) else some (.inl ()) := by
  have h := loop_find (m_spec_WorkValid_l2 on earth pm) (fun k => (k : Int)) pm.length (fun k => !pmOk on earth pm k) (some (.inr false)) (some (.inl ())) (by omega) (fun k fuel hk => ?_) (fun fuel => ?_)
  · exact h
  · rw [m_spec_WorkValid_l2.eq_2]
    simp only [lt_dec hk, ix_dec hk, chk_true, cond_true, Int.toNat_natCast, w64_succ (by omega : k < 4611686018427387904), sFind pm _ _ (by omega), m_spec_l1In]
    have w1 : w64 ((on.length : Int) - 1) = (on.length : Int) - 1 := w64_in (by omega) (by omega)
    have hft := fnd_take hk
    rw [w1]
    unfold pmOk
    rw [inB_le]
    generalize pm.getD k (0, 0) = p at *
    cases h1 : (leB 0 p.1 && leB p.1 9)
    · simp [gb]
    have e2 : (leB 0 p.2 && leB p.2 ((on.length : Int) - 1)) = (decide (0 ≤ p.2) && decide (p.2 < (on.length : Int))) := by rw [Bool.eq_iff_iff]; simp [leB]; omega
    rw [e2]
    cases h2 : (decide (0 ≤ p.2) && decide (p.2 < (on.length : Int)))
    · simp [gb]
    have hx : ixB p.2 earth.length = true := by simp at h2; simp [ixB]; omega
    simp only [gb, Option.bind_some, Bool.not_true, Bool.not_false, cond_true, Bool.or_self, hx, Bool.or_true, chk_true, Bool.false_or, Bool.true_and]
    cases earth.getD p.2.toNat false
    · simp
    · simp [hft]
  · rw [m_spec_WorkValid_l2.eq_2]; simp only [nlt_dec, cond_false]
omit ho in
theorem iV2 : m_impl_WorkValid_l2 on earth pm FUEL 0 = bif (List.range pm.length).any (fun k => !pmOk on earth pm k) then some (.inr false) else some (.inl ()) := by
  have h := loop_find (m_impl_WorkValid_l2 on earth pm) (fun k => (k : Int)) pm.length (fun k => !pmOk on earth pm k) (some (.inr false)) (some (.inl ())) (by omega) (fun k fuel hk => ?_) (fun fuel => ?_)
  · exact h
  · rw [m_impl_WorkValid_l2.eq_2]
    have hs : slB 0 (k : Int) pm.length = true := decide_eq_true (by omega)
    have ht : subL pm 0 (k : Int) = pm.take k := by simp [subL]
    simp only [lt_dec hk, ix_dec hk, chk_true, cond_true, Int.toNat_natCast, w64_succ (by omega : k < 4611686018427387904), hs, ht, Bool.or_true, iHas (pm.take k) _ _ (by simp; omega)]
    unfold pmOk
    rw [inB_le]
    generalize pm.getD k (0, 0) = p
    rw [show ((p.1, p.2) : Int × Int) = p from rfl]
    cases h1 : (leB 0 p.1 && leB p.1 9)
    · have : (ltB p.1 0 || ltB 9 p.1) = true := by simp [leB] at h1; simp [ltB]; omega
      simp [gb, this]
    have e1 : (ltB p.1 0 || ltB 9 p.1) = false := by simp [leB] at h1; simp [ltB]; omega
    rw [e1]
    cases h2 : (decide (0 ≤ p.2) && decide (p.2 < (on.length : Int)))
    · have : (ltB p.2 0 || leB (on.length : Int) p.2) = true := by simp at h2; simp [ltB, leB]; omega
      simp only [Bool.false_or, this, Bool.not_true, Bool.true_or, Bool.not_false, chk_true, gb, cond_false, Option.bind_some, cond_true, Bool.and_false, Bool.false_and]
    have e2 : (ltB p.2 0 || leB (on.length : Int) p.2) = false := by simp at h2; simp [ltB, leB]; omega
    have hx : ixB p.2 earth.length = true := by simp at h2; simp [ixB]; omega
    simp only [Bool.false_or, e2, gb, Option.bind_some, Bool.not_true, Bool.not_false, cond_true, Bool.or_self, hx, Bool.or_true, chk_true, Bool.true_and]
    cases earth.getD p.2.toNat false <;> simp
  · rw [m_impl_WorkValid_l2.eq_2]; simp only [nlt_dec, cond_false]
end
section
variable (on earth : List Bool) (pm : Pm) (ho : on.length ≤ 1048576) (hp : pm.length ≤ 1048576)
include ho hp
theorem sValid : m_spec_WorkValid on earth pm = some (workV on earth pm) := by
  unfold m_spec_WorkValid m_spec_l1In workV
  rw [inB_le, lt6, bne_len]
  cases h1 : (leB 1 (on.length : Int) && leB (on.length : Int) 10)
  · simp
  by_cases h2 : earth.length = on.length
  · rw [show (earth.length == on.length) = true by simpa using h2, show (on.length == earth.length) = true by simpa using h2.symm]
    cases h3 : decide (pm.length ≤ 6)
    · simp
    simp only [Option.bind_some, Bool.not_true, Bool.or_self, cond_false, sV1 on earth ho h2, sV2 on earth pm ho hp h2, Bool.true_and]
    cases (List.range on.length).any fun k => on.getD k false && earth.getD k false
    · cases (List.range pm.length).any fun k => !pmOk on earth pm k <;> rfl
    · rfl
  · rw [show (earth.length == on.length) = false by simpa using h2, show (on.length == earth.length) = false by simpa using fun e => h2 e.symm]
    simp
theorem iValid : m_impl_WorkValid on earth pm = some (workV on earth pm) := by
  unfold m_impl_WorkValid workV
  rw [inB10, lt6, bne_len]
  cases h1 : ltB (on.length : Int) 1
  · cases h4 : ltB 10 (on.length : Int)
    · by_cases h2 : earth.length = on.length
      · rw [show (earth.length == on.length) = true by simpa using h2]
        cases h3 : decide (pm.length ≤ 6)
        · simp
        simp only [Option.bind_some, Bool.not_true, Bool.not_false, Bool.or_self, cond_false, iV1 on earth ho h2, iV2 on earth pm hp h2, Bool.true_and]
        cases (List.range on.length).any fun k => on.getD k false && earth.getD k false
        · cases (List.range pm.length).any fun k => !pmOk on earth pm k <;> rfl
        · rfl
      · rw [show (earth.length == on.length) = false by simpa using h2]
        simp
    · simp
  · simp
end
end Go.Proofs.YtcmnjaccapbhfaaDoor
namespace Go.Proofs.YtcmnjaccapbhfaaDoor
set_option linter.unusedVariables false
set_option linter.unusedSimpArgs false
theorem brAt_0 (on : List Bool) (br : List Int) : brAt on br 0 = ((decide (0 ≤ br.getD 0 0) && decide (br.getD 0 0 < (on.length : Int))) && !on.getD (br.getD 0 0).toNat false) := by
  unfold brAt; simp
theorem brAt_s (on : List Bool) (br : List Int) (j : Nat) : brAt on br (j + 1) = ((decide (0 ≤ br.getD (j + 1) 0) && decide (br.getD (j + 1) 0 < (on.length : Int))) && !on.getD (br.getD (j + 1) 0).toNat false && !leB (br.getD (j + 1) 0) (br.getD j 0)) := by
  unfold brAt
  have : decide (br.getD j 0 < br.getD (j + 1) 0) = !leB (br.getD (j + 1) 0) (br.getD j 0) := by rw [Bool.eq_iff_iff]; simp [leB]
  simp only [Nat.add_sub_cancel, this]
  have e : decide (j + 1 = 0) = false := by simp
  rw [e, Bool.false_or]
section
variable (b : Int) (ls : List Ln) (pts : List (Int × Int)) (on earth : List Bool) (pm : Pm) (br : List Int) (hp : pts.length ≤ 1048576) (ho : on.length ≤ 1048576) (hm : pm.length ≤ 1048576) (hb : br.length ≤ 1048576)
include hb
theorem iBr (hl : on.length = ls.length) : m_impl_WorldValid_l1 b ls on br FUEL 0 = bif (List.range br.length).any (fun k => !brAt on br k) then some (.inr false) else some (.inl ()) := by
  have hh := loop_find (m_impl_WorldValid_l1 b ls on br) (fun k => (k : Int)) br.length (fun k => !brAt on br k) (some (.inr false)) (some (.inl ())) (by omega) (fun k fuel hk => ?_) (fun fuel => ?_)
  · exact hh
  · rw [m_impl_WorldValid_l1.eq_2]
    simp only [lt_dec hk, ix_dec hk, cond_true, chk_true, Int.toNat_natCast, m_impl_Net_hasLine, Option.bind_some, w64_succ (by omega : k < 4611686018427387904)]
    have e1 : (leB 0 (br.getD k 0) && ltB (br.getD k 0) (ls.length : Int)) = (decide (0 ≤ br.getD k 0) && decide (br.getD k 0 < (on.length : Int))) := by rw [hl]; rfl
    rw [e1]
    have hx : (decide (0 ≤ br.getD k 0) && decide (br.getD k 0 < (on.length : Int))) = true → ixB (br.getD k 0) on.length = true := by intro h; simp at h; simp [ixB]; omega
    rcases k with _ | j
    · rw [brAt_0]
      have : ltB 0 ((0 : Nat) : Int) = false := rfl
      simp only [this, Bool.and_false, Bool.not_false, Bool.true_or, chk_true, Bool.or_false]
      cases h1 : decide (0 ≤ br.getD 0 0) && decide (br.getD 0 0 < (on.length : Int))
      · rfl
      · rw [hx h1]
        cases on.getD (br.getD 0 0).toNat false <;> rfl
    · rw [brAt_s]
      have e2 : w64 (((j + 1 : Nat) : Int) - 1) = (j : Int) := by rw [w64_in (by omega) (by omega)]; omega
      have e3 : ltB 0 ((j + 1 : Nat) : Int) = true := decide_eq_true (by omega)
      simp only [e2, e3, ix_dec (show j < br.length by omega), Bool.or_true, chk_true, Bool.true_and, Int.toNat_natCast]
      cases h1 : decide (0 ≤ br.getD (j + 1) 0) && decide (br.getD (j + 1) 0 < (on.length : Int))
      · rfl
      · rw [hx h1]
        cases on.getD (br.getD (j + 1) 0).toNat false <;> cases leB (br.getD (j + 1) 0) (br.getD j 0) <;> rfl
  · rw [m_impl_WorldValid_l1.eq_2]; simp only [nlt_dec, cond_false]
include ho in
theorem sBr : m_spec_WorldValid_l1 on br FUEL 0 = bif (List.range br.length).any (fun k => !brAt on br k) then some (.inr false) else some (.inl ()) := by
  have hh := loop_find (m_spec_WorldValid_l1 on br) (fun k => (k : Int)) br.length (fun k => !brAt on br k) (some (.inr false)) (some (.inl ())) (by omega) (fun k fuel hk => ?_) (fun fuel => ?_)
  · exact hh
  · rw [m_spec_WorldValid_l1.eq_2]
    have w1 : w64 ((on.length : Int) - 1) = (on.length : Int) - 1 := w64_in (by omega) (by omega)
    simp only [lt_dec hk, ix_dec hk, cond_true, chk_true, Int.toNat_natCast, m_spec_l1In, Option.bind_some, w64_succ (by omega : k < 4611686018427387904), w1]
    have e1 : (leB 0 (br.getD k 0) && leB (br.getD k 0) ((on.length : Int) - 1)) = (decide (0 ≤ br.getD k 0) && decide (br.getD k 0 < (on.length : Int))) := by rw [Bool.eq_iff_iff]; simp [leB]; omega
    rw [e1]
    have hx : (decide (0 ≤ br.getD k 0) && decide (br.getD k 0 < (on.length : Int))) = true → ixB (br.getD k 0) on.length = true := by intro h; simp at h; simp [ixB]; omega
    rcases k with _ | j
    · rw [brAt_0]
      have : ltB 0 ((0 : Nat) : Int) = false := rfl
      simp only [this, Bool.and_false, Bool.not_false, Bool.true_or, chk_true, Bool.or_false, Bool.false_and]
      cases h1 : decide (0 ≤ br.getD 0 0) && decide (br.getD 0 0 < (on.length : Int))
      · rfl
      · rw [hx h1]
        cases on.getD (br.getD 0 0).toNat false <;> simp
    · rw [brAt_s]
      have e2 : w64 (((j + 1 : Nat) : Int) - 1) = (j : Int) := by rw [w64_in (by omega) (by omega)]; omega
      have e3 : ltB 0 ((j + 1 : Nat) : Int) = true := decide_eq_true (by omega)
      simp only [e2, e3, ix_dec hk, ix_dec (show j < br.length by omega), Bool.or_true, chk_true, Bool.true_and, Int.toNat_natCast]
      cases h1 : decide (0 ≤ br.getD (j + 1) 0) && decide (br.getD (j + 1) 0 < (on.length : Int))
      · rfl
      · rw [hx h1]
        cases on.getD (br.getD (j + 1) 0).toNat false <;> cases leB (br.getD (j + 1) 0) (br.getD j 0) <;> rfl
  · rw [m_spec_WorldValid_l1.eq_2]; simp only [nlt_dec, cond_false]
include hp ho hm
theorem iWv : m_impl_WorldValid b ls pts on earth pm br = some (wv ⟨b, ls, pts, on, earth, pm, br⟩) := by
  unfold m_impl_WorldValid wv brV
  rw [iBuses b ls pts hp, iValid on earth pm ho hm]
  have e : ((on.length : Int) != (ls.length : Int)) = !decide (on.length = ls.length) := by rw [Bool.eq_iff_iff]; simp; omega
  rw [e]
  cases h1 : busesV b ls pts
  · rfl
  cases h2 : workV on earth pm
  · rfl
  by_cases h3 : on.length = ls.length
  · rw [decide_eq_true h3]
    simp only [Option.bind_some, Bool.not_true, Bool.not_false, gb_true, Bool.or_self, cond_false, iBr b ls on br hb h3, iRadial b ls on pts hp]
    have hok : radB b ls on pts = radP ls on pts := by
      have := busesV_iff.1 h1
      unfold radB
      rw [okV_iff.2 ⟨⟨this.net, h3⟩, this⟩]; rfl
    rw [hok]
    cases (List.range br.length).any fun k => !brAt on br k <;> cases radP ls on pts <;> rfl
  · rw [decide_eq_false h3]; simp
theorem sWv : m_spec_WorldValid b ls pts on earth pm br = some (wv ⟨b, ls, pts, on, earth, pm, br⟩) := by
  unfold m_spec_WorldValid wv brV
  rw [sBuses b ls pts hp, sValid on earth pm ho hm]
  have e : ((on.length : Int) != (ls.length : Int)) = !decide (on.length = ls.length) := by rw [Bool.eq_iff_iff]; simp; omega
  rw [e]
  cases h1 : busesV b ls pts
  · rfl
  cases h2 : workV on earth pm
  · rfl
  by_cases h3 : on.length = ls.length
  · rw [decide_eq_true h3]
    simp only [Option.bind_some, Bool.not_true, Bool.not_false, gb_true, Bool.or_self, cond_false, sBr on br ho hb, sRadial b ls on pts hp]
    have hok : radB b ls on pts = radP ls on pts := by
      have := busesV_iff.1 h1
      unfold radB
      rw [okV_iff.2 ⟨⟨this.net, h3⟩, this⟩]; rfl
    rw [hok]
    cases (List.range br.length).any fun k => !brAt on br k <;> cases radP ls on pts <;> rfl
  · rw [decide_eq_false h3]; simp
end
end Go.Proofs.YtcmnjaccapbhfaaDoor
namespace Go.Proofs.YtcmnjaccapbhfaaDoor
set_option linter.unusedVariables false
set_option linter.unusedSimpArgs false
section
variable (on earth : List Bool) (pm : Pm) (line : Int) (ho : on.length ≤ 1048576) (hp : pm.length ≤ 1048576)
include ho hp
theorem sHeld : m_spec_WorkHeld on earth pm line = some (if workV on earth pm then heldOf pm line else []) := by
  unfold m_spec_WorkHeld
  cases hv : workV on earth pm
  · rw [FUEL_succ, m_spec_WorkHeld_l1.eq_2]
    simp only [sValid on earth pm ho hp, hv]
    cases ltB (0 : Int) (pm.length : Int) <;> simp [gb]
  · have h := loop_all (m_spec_WorkHeld_l1 on earth pm line) (fun k => (heldOf (pm.take k) line, (k : Int))) pm.length (some (heldOf pm line)) (by omega) (fun k fuel hk => ?_) (fun fuel => ?_)
    · rw [show (([] : List Int), (0 : Int)) = (heldOf (pm.take 0) line, ((0 : Nat) : Int)) from rfl, h]; rfl
    · rw [m_spec_WorkHeld_l1.eq_2]
      have hb := held_len (pm.take k) line
      have ha : ∀ x : Int, apB (heldOf (pm.take k) line).length [x].length = true := fun x => by simp [apB]; simp at hb; omega
      simp only [lt_dec hk, ix_dec hk, chk_true, cond_true, Int.toNat_natCast, sValid on earth pm ho hp, hv, gb, Option.bind_some, Bool.and_self, ha, w64_succ (by omega : k < 4611686018427387904)]
      rw [held_step hk]
      cases (pm.getD k (0, 0)).2 == line <;> rfl
    · rw [m_spec_WorkHeld_l1.eq_2]; simp [nlt_dec, gb]
end
section
variable (w : Wk) (kd a who : Int) (ho : w.1.length ≤ 1048576) (he : w.2.1.length ≤ 1048576) (hp : w.2.2.length ≤ 1048576)
include ho hp he
omit he in
theorem sMayP (hv : workV w.1 w.2.1 w.2.2 = true) (ha : 0 ≤ a ∧ a < (w.1.length : Int)) : m_spec_l12May w.1 w.2.1 w.2.2 kd a who = some (wkMay w kd a who) := by
  have ok := workV_iff.1 hv
  have c1 : ixB a w.1.length = true := decide_eq_true (by omega)
  have c2 : ixB a w.2.1.length = true := decide_eq_true (by have := ok.le; omega)
  have c3 : ltB (fnd w.2.2 (who, a)) 0 = !decide ((who, a) ∈ w.2.2) := by rw [← fnd_mem]; rw [Bool.eq_iff_iff]; simp [ltB, leB]
  unfold m_spec_l12May wkMay m_spec_l1In
  rw [c1, c2, sFind _ _ _ (by omega), sHeld _ _ _ _ ho hp, hv]
  simp only [chk_true, Option.bind_some, if_true, nil_dec, Bool.or_true, c3, fnd_mem]
  by_cases k0 : kd = 0
  · subst k0; simp
  by_cases k1 : kd = 1
  · subst k1; simp
  by_cases k2 : kd = 2
  · subst k2; simp
  by_cases k3 : kd = 3
  · subst k3; cases w.2.1.getD a.toNat false <;> simp
  by_cases k4 : kd = 4
  · subst k4
    simp only [show ((4 : Int) == 0) = false from rfl, show ((4 : Int) == 2) = false from rfl, show ((4 : Int) == 1) = false from rfl, show ((4 : Int) == 3) = false from rfl, show ((4 : Int) == 4) = true from rfl, cond_false, cond_true, Option.bind_some]
    rw [if_neg (by omega), if_neg (by omega), if_neg (by omega), if_pos trivial, inB_le]
    have c6 : ltB (w.2.2.length : Int) 6 = decide (w.2.2.length < 6) := by simp only [ltB]; exact decide_eq_decide.2 (by omega)
    rw [c6]
    cases w.2.1.getD a.toNat false <;> simp [gb, Bool.and_assoc]
  by_cases k5 : kd = 5
  · subst k5; simp
  · have e0 : (kd == 0) = false := by simpa using k0
    have e1 : (kd == 1) = false := by simpa using k1
    have e2 : (kd == 2) = false := by simpa using k2
    have e3 : (kd == 3) = false := by simpa using k3
    have e4 : (kd == 4) = false := by simpa using k4
    have e5 : (kd == 5) = false := by simpa using k5
    simp [k0, k1, k2, k3, k4, k5, e0, e1, e2, e3, e4, e5]
theorem wcopyP : m_spec_l12Copy w.1 w.2.1 w.2.2 = some w := by
  have a1 : apB ([] : List Bool).length w.1.length = true := by simp [apB]; omega
  have a2 : apB ([] : List Bool).length w.2.1.length = true := by simp [apB]; omega
  have a3 : apB ([] : Pm).length w.2.2.length = true := by simp [apB]; omega
  simp only [m_spec_l12Copy, m_spec_l2Copy, a1, a2, a3, chk_true, Option.bind_some, List.nil_append]
theorem sDo : m_spec_WorkDo w.1 w.2.1 w.2.2 kd a who = some (out4w (wkDo w kd a who)) := by
  unfold m_spec_WorkDo wkDo m_spec_l1In
  rw [sValid _ _ _ ho hp]
  cases hv : workV w.1 w.2.1 w.2.2
  · rfl
  have ok := workV_iff.1 hv
  have w1 : w64 ((w.1.length : Int) - 1) = (w.1.length : Int) - 1 := w64_in (by omega) (by omega)
  simp only [Option.bind_some, cond_true, if_true, wcopyP w ho he hp, w1]
  by_cases ha : 0 ≤ a ∧ a < (w.1.length : Int)
  · have c0 : (leB 0 a && leB a ((w.1.length : Int) - 1)) = true := by simp [leB]; omega
    have c1 : ixB a w.1.length = true := decide_eq_true (by omega)
    have c2 : ixB a w.2.1.length = true := decide_eq_true (by have := ok.le; omega)
    simp only [c0, Bool.not_true, Bool.not_false, gb, cond_true, sMayP w kd a who ho hp hv ha, Option.bind_some, Bool.false_or]
    cases hm : wkMay w kd a who
    · rw [if_neg (fun h => by cases h.2.2)]; rfl
    rw [if_pos ⟨ha.1, ha.2, rfl⟩]
    simp only [Bool.not_true, cond_false]
    by_cases k0 : kd = 0
    · subst k0; simp [c1, wkPut, out4w]
    by_cases k1 : kd = 1
    · subst k1; simp [c1, wkPut, out4w]
    by_cases k2 : kd = 2
    · subst k2; simp [c2, wkPut, out4w]
    by_cases k3 : kd = 3
    · subst k3; simp [c2, wkPut, out4w]
    by_cases k4 : kd = 4
    · subst k4
      have a4 : apB w.2.2.length 1 = true := by simp [apB]; omega
      simp [wkPut, out4w, a4]
    by_cases k5 : kd = 5
    · subst k5
      have hmem : (who, a) ∈ w.2.2 := by simpa [wkMay] using hm
      rcases fnd_spec w.2.2 (who, a) with ⟨h1, h2⟩ | ⟨k, hk, h1, h2, h3⟩
      · exact absurd hmem h2
      have wk : w64 ((k : Int) + 1) = (k : Int) + 1 := w64_in (by omega) (by omega)
      have b2 : slB 0 (k : Int) w.2.2.length = true := decide_eq_true (by omega)
      have b3 : slB ((k : Int) + 1) (w.2.2.length : Int) w.2.2.length = true := decide_eq_true (by omega)
      have s1 : subL w.2.2 0 (k : Int) = w.2.2.take k := by simp [subL]
      have s2 : subL w.2.2 ((k : Int) + 1) (w.2.2.length : Int) = w.2.2.drop (k + 1) := by
        unfold subL; rw [show ((k : Int) + 1).toNat = k + 1 by omega, List.take_of_length_le (by simp <;> omega)]
      have b5 : apB (w.2.2.take k).length (w.2.2.drop (k + 1)).length = true := by simp [apB]; omega
      simp only [show ((5 : Int) == 0) = false from rfl, show ((5 : Int) == 1) = false from rfl, show ((5 : Int) == 2) = false from rfl, show ((5 : Int) == 3) = false from rfl, show ((5 : Int) == 4) = false from rfl, cond_false, cond_true, Option.bind_some, sFind w.2.2 who a (by omega), h1, wk, b2, b3, s1, s2, b5, chk_true]
      simp [wkPut, out4w, h1]
    · exfalso
      simp [wkMay, k0, k1, k2, k3, k4, k5] at hm
  · have c0 : (leB 0 a && leB a ((w.1.length : Int) - 1)) = false := by simp [leB]; omega
    rw [if_neg (fun h => ha ⟨h.1, h.2.1⟩)]
    simp [c0, gb, out4w]
end
end Go.Proofs.YtcmnjaccapbhfaaDoor
namespace Go.Proofs.YtcmnjaccapbhfaaDoor
set_option linter.unusedVariables false
set_option linter.unusedSimpArgs false
structure At (l : List Int) (x : Int) (p : Nat) : Prop where
  le : p ≤ l.length
  lo : ∀ k, k < p → l.getD k 0 < x
  hi : ∀ k, p ≤ k → k < l.length → x ≤ l.getD k 0
end Go.Proofs.YtcmnjaccapbhfaaDoor
namespace Go.Proofs.YtcmnjaccapbhfaaDoor
set_option linter.unusedVariables false
set_option linter.unusedSimpArgs false
abbrev W7 := Int × List Ln × List (Int × Int) × List Bool × List Bool × Pm × List Int
def o7 (w : Wd) : W7 := (w.b, w.ls, w.pts, w.on, w.earth, w.pm, w.br)
abbrev W8 := Int × List Ln × List (Int × Int) × List Bool × List Bool × Pm × List Int × Bool
def o8 (r : Wd × Bool) : W8 := (r.1.b, r.1.ls, r.1.pts, r.1.on, r.1.earth, r.1.pm, r.1.br, r.2)
structure Sm (w : Wd) : Prop where
  l : w.ls.length ≤ 1048576
  p : w.pts.length ≤ 1048576
  o : w.on.length ≤ 1048576
  e : w.earth.length ≤ 1048576
  m : w.pm.length ≤ 1048576
  b : w.br.length ≤ 1048576
theorem bl_of {w : Wd} (h : WdOk w) : w.br.length ≤ w.on.length := by
  have h1 : ∀ k, k < w.br.length → (k : Int) ≤ w.br.getD k 0 := by
    intro k
    induction k with
    | zero =>
      intro hk
      have := (h.inn (w.br.getD 0 0) (by rw [getD_ge hk]; exact List.getElem_mem hk)).1
      omega
    | succ k ih =>
      intro hk
      have h1 := ih (by omega)
      have h2 := adj_of_sorted h.sor hk
      omega
  rcases Nat.eq_zero_or_pos w.br.length with h0 | h0
  · omega
  · have h2 := h1 (w.br.length - 1) (by omega)
    have h3 := (h.inn (w.br.getD (w.br.length - 1) 0) (by rw [getD_ge (by omega)]; exact List.getElem_mem _)).1
    omega
theorem sm_of {w : Wd} (h : WdOk w) : Sm w := by
  have h1 := h.bus.net.ll; have h2 := h.bus.lp; have h3 := h.bus.net.b1; have h4 := h.work.l1; have h5 := h.work.le; have h6 := h.work.lp; have h7 := bl_of h
  simp only [Wd.wk] at h4 h5 h6
  exact ⟨by omega, by omega, by omega, by omega, by omega, by omega⟩
theorem radB_ok {w : Wd} (h : WdOk w) {on' : List Bool} (hl : on'.length = w.ls.length) : radB w.b w.ls on' w.pts = radP w.ls on' w.pts := by
  unfold radB
  rw [okV_iff.2 ⟨⟨h.bus.net, hl⟩, h.bus⟩]; rfl
section
variable {w : Wd} (h : Sm w)
include h
theorem sCopy7 : m_spec_l39Copy w.b w.ls w.pts w.on w.earth w.pm w.br = some (o7 w) := by
  have a1 : apB ([] : List Ln).length w.ls.length = true := by have := h.l; simp [apB]; omega
  have a2 : apB ([] : List (Int × Int)).length w.pts.length = true := by have := h.p; simp [apB]; omega
  have a3 : apB ([] : List Int).length w.br.length = true := by have := h.b; simp [apB]; omega
  have := wcopyP (w.on, w.earth, w.pm) h.o h.e h.m
  simp only [m_spec_l39Copy, a1, a2, a3, chk_true, Option.bind_some, List.nil_append, this]
  rfl
end
section
variable {w : Wd} (h : WdOk w) (kd a who : Int) (ha : 0 ≤ a ∧ a < (w.on.length : Int))
include h ha
end
def bkL (br : List Int) (a : Int) (k : Nat) : List Int := ((List.range k).map fun (i : Nat) => (i : Int)).filter fun i => i == a || decide (i ∈ br)
theorem bkL_len (br : List Int) (a : Int) (k : Nat) : (bkL br a k).length ≤ k := by
  unfold bkL
  refine Nat.le_trans (List.length_filter_le _ _) ?_
  simp
theorem bkL_succ (br : List Int) (a : Int) (k : Nat) : bkL br a (k + 1) = bif (k : Int) == a || decide ((k : Int) ∈ br) then bkL br a k ++ [(k : Int)] else bkL br a k := by
  unfold bkL
  rw [List.range_succ, List.map_append, List.filter_append]
  cases hc : ((k : Int) == a || decide ((k : Int) ∈ br)) <;> simp [List.filter_cons, hc]
theorem bkL_eq {w : Wd} (h : WdOk w) {a : Int} (ha : 0 ≤ a ∧ a < (w.on.length : Int)) : bkL w.br a w.on.length = insS a w.br := by
  refine sorted_ext ?_ (insS_sorted h.sor) (fun x => ?_)
  · refine List.Pairwise.sublist List.filter_sublist ?_
    rw [List.pairwise_map]
    exact List.pairwise_lt_range.imp (fun h => by omega)
  · unfold bkL
    rw [insS_mem, List.mem_filter, List.mem_map]
    simp only [List.mem_range, Bool.or_eq_true, beq_iff_eq, decide_eq_true_eq]
    constructor
    · exact fun e => e.2
    · intro e
      refine ⟨?_, e⟩
      have : 0 ≤ x ∧ x < (w.on.length : Int) := by
        rcases e with rfl | e
        · exact ha
        · exact (h.inn x e).1
      exact ⟨x.toNat, by omega, by omega⟩
section
variable {w : Wd} (h : WdOk w) {a : Int} (ha : 0 ≤ a ∧ a < (w.on.length : Int))
include h ha
theorem sBreak : m_spec_l39Break w.b w.ls w.pts w.on w.earth w.pm w.br a = some (o7 { w with on := w.on.set a.toNat false, br := insS a w.br }) := by
  have sm := sm_of h
  have ho := sm.o; have hb := sm.b
  have hix : ixB a w.on.length = true := decide_eq_true ha
  have hh := loop_all (m_spec_l39Break_l1 w.on w.br a) (fun k => ((k : Int), bkL w.br a k)) w.on.length (some (insS a w.br)) (by omega) (fun k fuel hk => ?_) (fun fuel => ?_)
  · unfold m_spec_l39Break
    rw [sCopy7 sm]
    simp only [Option.bind_some, o7, hix, chk_true]
    rw [show m_spec_l39Break_l1 w.on w.br a FUEL (0, []) = _ from hh]
    rfl
  · rw [m_spec_l39Break_l1.eq_2]
    have hl := bkL_len w.br a k
    have ap : apB (bkL w.br a k).length ([(k : Int)] : List Int).length = true := by simp [apB]; omega
    simp only [lt_dec hk, cond_true, sHas w.br (k : Int) (by omega), w64_succ (by omega : k < 4611686018427387904), ap, chk_true]
    rw [bkL_succ]
    cases hc : ((k : Int) == a)
    · simp only [Bool.not_false, gb_true, Option.bind_some, Bool.false_or]
      cases decide ((k : Int) ∈ w.br) <;> rfl
    · simp only [Bool.not_true, gb_false, Option.bind_some, Bool.true_or, cond_true]
  · rw [m_spec_l39Break_l1.eq_2]
    simp only [nlt_dec, cond_false, bkL_eq h ha]
omit ha in
theorem sMend : m_spec_l39Mend w.b w.ls w.pts w.on w.earth w.pm w.br a = some (o7 { w with br := w.br.filter fun x => x != a }) := by
  have sm := sm_of h
  have hb := sm.b
  have hh := loop_all (m_spec_l39Mend_l1 w.br a) (fun k => ((k : Int), (w.br.take k).filter fun x => x != a)) w.br.length (some (w.br.filter fun x => x != a)) (by omega) (fun k fuel hk => ?_) (fun fuel => ?_)
  · unfold m_spec_l39Mend
    rw [sCopy7 sm]
    simp only [Option.bind_some, o7]
    rw [show m_spec_l39Mend_l1 w.br a FUEL (0, []) = _ from hh]
    rfl
  · rw [m_spec_l39Mend_l1.eq_2]
    have hl := List.length_filter_le (fun x => x != a) (w.br.take k)
    rw [List.length_take] at hl
    have ap : ∀ x : Int, apB ((w.br.take k).filter fun x => x != a).length ([x] : List Int).length = true := fun x => by simp only [apB, decide_eq_true_eq, List.length_singleton]; omega
    simp only [lt_dec hk, ix_dec hk, cond_true, chk_true, Int.toNat_natCast, ap, w64_succ (by omega : k < 4611686018427387904)]
    rw [List.take_succ_eq_append_getElem hk, List.filter_append, ← getD_ge hk (d := (0 : Int))]
    cases hc : (w.br.getD k 0 != a)
    · simp only [List.filter_cons, List.filter_nil, hc, Bool.false_eq_true, if_false, cond_false, Option.bind_some, List.append_nil]
    · simp only [List.filter_cons, List.filter_nil, hc, if_true, cond_true, Option.bind_some]
  · rw [m_spec_l39Mend_l1.eq_2]
    simp only [nlt_dec, cond_false, List.take_length]
end
theorem held_iff {pm : Pm} {a who : Int} : who ∈ heldOf pm a ↔ (who, a) ∈ pm := by
  unfold heldOf
  rw [List.mem_map]
  constructor
  · rintro ⟨p, hp, rfl⟩
    obtain ⟨h1, h2⟩ := List.mem_filter.1 hp
    have : p.2 = a := by simpa using h2
    rw [← this]; exact h1
  · intro hm
    exact ⟨(who, a), List.mem_filter.2 ⟨hm, by simp⟩, rfl⟩
theorem sWorldDo {w : Wd} (sm : Sm w) (kd a who : Int) : m_spec_WorldDo w.b w.ls w.pts w.on w.earth w.pm w.br kd a who = some (o8 (wdDo w kd a who)) := by
  unfold m_spec_WorldDo
  rw [sWv w.b w.ls w.pts w.on w.earth w.pm w.br sm.p sm.o sm.m sm.b, Option.bind_some]
  cases hv : wv w
  · unfold wdDo
    rw [if_neg (by rw [hv]; decide)]
    rfl
  rw [cond_true]
  have h := wv_iff.1 hv
  have hol := h.work.l1
  simp only [Wd.wk] at hol
  have e1 : w64 ((w.on.length : Int) - 1) = (w.on.length : Int) - 1 := w64_in (by omega) (by omega)
  simp only [m_spec_l1In, e1, Option.bind_some]
  by_cases hna : ¬ (0 ≤ a ∧ a < (w.on.length : Int))
  · have hc : (leB 0 a && leB a ((w.on.length : Int) - 1)) = false := by simp [leB]; omega
    have hf : wdDo w kd a who = (w, false) := by unfold wdDo; rw [if_pos hv, if_neg hna]
    rw [hc, hf, cond_false, sCopy7 sm]; rfl
  have ha : 0 ≤ a ∧ a < (w.on.length : Int) := Classical.byContradiction hna
  have hc : (leB 0 a && leB a ((w.on.length : Int) - 1)) = true := by simp [leB]; omega
  rw [hc, cond_true, sHas w.br a (by have := sm.b; omega), Option.bind_some]
  by_cases h6 : kd = 6 ∧ a ∉ w.br
  · have hf : wdDo w kd a who = ({ w with on := w.on.set a.toNat false, br := insS a w.br }, true) := by unfold wdDo; rw [if_pos hv, if_pos ha, if_pos h6]
    rw [hf, decide_eq_false h6.2, h6.1, show (((6 : Int) == 6) && !false) = true from rfl, cond_true, sBreak h ha]; rfl
  have c6 : ((kd == 6) && !decide (a ∈ w.br)) = false := by
    cases hk : (kd == 6)
    · rfl
    · have : a ∈ w.br := Classical.byContradiction fun hn => h6 ⟨by simpa using hk, hn⟩
      rw [decide_eq_true this]; rfl
  rw [c6, cond_false]
  have hheld : m_spec_WorkHeld w.on w.earth w.pm a = some (heldOf w.pm a) := by
    rw [sHeld w.on w.earth w.pm a sm.o sm.m, if_pos (show workV w.on w.earth w.pm = true from wok_iff.2 h.work)]
  have hhl := held_len w.pm a
  have hml := sm.m
  have c7 : (bif (kd == 7) && decide (a ∈ w.br) then Option.bind (m_spec_WorkHeld w.on w.earth w.pm a) (fun (p133 : List Int) => Option.bind (m_spec_l1Has p133 who) (fun (p137 : Bool) => some p137)) else some false) = some (decide (kd = 7 ∧ a ∈ w.br ∧ (who, a) ∈ w.pm)) := by
    rw [hheld]
    simp only [Option.bind_some, sHas (heldOf w.pm a) who (by omega)]
    by_cases hk : kd = 7
    · subst hk
      by_cases hb : a ∈ w.br
      · simp [hb, held_iff]
      · simp [hb]
    · have : (kd == 7) = false := by simpa using hk
      simp [this, hk]
  rw [c7, Option.bind_some]
  by_cases h7 : kd = 7 ∧ a ∈ w.br ∧ (who, a) ∈ w.pm
  · have hf : wdDo w kd a who = ({ w with br := w.br.filter fun x => x != a }, true) := by unfold wdDo; rw [if_pos hv, if_pos ha, if_neg h6, if_pos h7]
    rw [hf, decide_eq_true h7, cond_true, sMend h]; rfl
  rw [decide_eq_false h7, cond_false]
  by_cases h0 : kd = 0 ∧ a ∈ w.br
  · have hf : wdDo w kd a who = (w, false) := by unfold wdDo; rw [if_pos hv, if_pos ha, if_neg h6, if_neg h7, if_pos h0]
    rw [hf, h0.1, decide_eq_true h0.2, show (((0 : Int) == 0) && true) = true from rfl, cond_true, sCopy7 sm]; rfl
  have c0 : ((kd == 0) && decide (a ∈ w.br)) = false := by
    cases hk : (kd == 0)
    · rfl
    · have : a ∉ w.br := fun hn => h0 ⟨by simpa using hk, hn⟩
      rw [decide_eq_false this]; rfl
  rw [c0, cond_false, sCopy7 sm, Option.bind_some]
  have hdo := sDo w.wk kd a who sm.o sm.e sm.m
  have hlen := (wkDo_on h.work (kd := kd) (a := a) (who := who)).1
  have hrad : m_spec_Radial w.b w.ls (wkDo w.wk kd a who).1.1 w.pts = some (radP w.ls (wkDo w.wk kd a who).1.1 w.pts) := by
    rw [sRadial _ _ _ _ sm.p, radB_ok h (hlen.trans h.len)]
  have hf : wdDo w kd a who = if (wkDo w.wk kd a who).2 = true ∧ radP w.ls (wkDo w.wk kd a who).1.1 w.pts = true then (w.put (wkDo w.wk kd a who).1, true) else (w, false) := by
    unfold wdDo
    rw [if_pos hv, if_pos ha, if_neg h6, if_neg h7, if_neg h0]
  rw [hf]
  change Option.bind (m_spec_WorkDo w.wk.1 w.wk.2.1 w.wk.2.2 kd a who) _ = _
  rw [hdo, Option.bind_some]
  simp only [out4w, o7, hrad]
  cases h1 : (wkDo w.wk kd a who).2
  · simp only [Bool.not_false, Bool.not_true, gb_false, Option.bind_some, Bool.true_or, cond_true, Bool.false_eq_true, false_and, if_false]; rfl
  · cases h2 : radP w.ls (wkDo w.wk kd a who).1.1 w.pts
    · rfl
    · rfl
end Go.Proofs.YtcmnjaccapbhfaaDoor
namespace Go.Proofs.YtcmnjaccapbhfaaDoor
set_option linter.unusedVariables false
set_option linter.unusedSimpArgs false
structure Sz (m : Nat) (w : Wd) : Prop where
  ls : w.ls.length ≤ m
  pts : w.pts.length ≤ m
  on : w.on.length ≤ m
  earth : w.earth.length ≤ m
  pm : w.pm.length ≤ m
  br : w.br.length ≤ m
theorem Sz.mono {m n : Nat} {w : Wd} (h : Sz m w) (hm : m ≤ n) : Sz n w := by
  obtain ⟨h1, h2, h3, h4, h5, h6⟩ := h
  exact ⟨by omega, by omega, by omega, by omega, by omega, by omega⟩
theorem Sz.sm {w : Wd} (h : Sz 40 w) : Sm w := by
  obtain ⟨h1, h2, h3, h4, h5, h6⟩ := h
  exact ⟨by omega, by omega, by omega, by omega, by omega, by omega⟩
theorem sz_ok {w : Wd} (h : WdOk w) : Sz 30 w := by
  have h1 := h.bus.net.ll; have h2 := h.bus.lp; have h3 := h.bus.net.b1; have h4 := h.work.l1; have h5 := h.work.le; have h6 := h.work.lp; have h7 := bl_of h
  simp only [Wd.wk] at h4 h5 h6
  exact ⟨by omega, by omega, by omega, by omega, by omega, by omega⟩
theorem wdDo_v {w : Wd} {kd a who : Int} (ht : (wdDo w kd a who).2 = true) : wv w = true := by
  unfold wdDo at ht
  split at ht
  · assumption
  · cases ht
theorem sz_do {w : Wd} {kd a who : Int} (ht : (wdDo w kd a who).2 = true) : Sz 30 (wdDo w kd a who).1 ∧ (wdDo w kd a who).1.pts = w.pts :=
  ⟨sz_ok (wdDo_ok (wv_iff.1 (wdDo_v ht)) kd a who), (wdDo_net w (wdDo_v ht) kd a who).2.2⟩
def of7 (t : Int × List Ln × List (Int × Int) × List Bool × List Bool × Pm × List Int) : Wd := ⟨t.1, t.2.1, t.2.2.1, t.2.2.2.1, t.2.2.2.2.1, t.2.2.2.2.2.1, t.2.2.2.2.2.2⟩
theorem rl1 {b : List Int} (hb : Code b) {u w : Int × Int} (hu : 0 ≤ u.1 ∧ u.1 < 6) {p : Int} (hp : 0 ≤ p ∧ p ≤ 1000) :
    Ys (m_spec_l20Radial_l1 b u w FUEL ([], [], 0, p, [])) fun r => r.1.length + 1 = (2 + u.1).toNat ∧ r.2.1.length = (2 + u.1).toNat ∧ (0 ≤ r.2.2.1 ∧ r.2.2.1 ≤ p + 50) ∧ r.2.2.2.length + 1 = (2 + u.1).toNat := by
  have wu : w64 (2 + u.1) = 2 + u.1 := wM (by omega)
  refine ys_loop (m_spec_l20Radial_l1 b u w) (fun s => (2 + u.1 - s.2.2.1).toNat) (fun s => (0 ≤ s.2.2.1 ∧ s.2.2.1 ≤ 2 + u.1) ∧ s.1.length = s.2.2.1.toNat - 1 ∧ s.2.1.length = s.2.2.1.toNat ∧ (0 ≤ s.2.2.2.1 ∧ s.2.2.2.1 ≤ p + 5 * s.2.2.1) ∧ s.2.2.2.2.length = s.2.2.1.toNat - 1) (fun fuel s hs ih => ?_) FUEL _ ⟨by (try dsimp only); omega, rfl, rfl, by (try dsimp only); omega, rfl⟩ (by (try dsimp only); rw [FUEL_eq]; omega)
  obtain ⟨on, bs, k, q, ln⟩ := s
  dsimp only at hs ih ⊢
  obtain ⟨h1, h2, h3, h4, h5⟩ := hs
  rw [m_spec_l20Radial_l1.eq_2]
  dsimp only
  rw [wu]
  refine ys_bif (fun hc => ?_) (fun hc => ?_)
  · have hc := ltB_t hc
    refine ys_bind (Q := fun r => r.1.length = k.toNat ∧ (0 ≤ r.2.1 ∧ r.2.1 ≤ q + 4) ∧ r.2.2.length = k.toNat) ?_ fun r hr => ?_
    · refine ys_bif (fun hk => ?_) (fun hk => ?_)
      · have hk := ltB_t hk
        refine ys_then (ys_pick hb (by omega) (by omega) fun v v0 v1 _ => ?_)
        refine ys_then (ys_pick hb (by (try dsimp only); omega) (by omega) fun v' v0' v1' _ => ?_)
        refine ys_chk (by simp [apB]; omega) ?_
        refine ys_bind (Q := fun r => r.1.length = k.toNat ∧ (0 ≤ r.2 ∧ r.2 ≤ q + 4)) ?_ fun r hr => ys_some ⟨hr.1, hr.2, by simp; omega⟩
        refine ys_bif (fun _ => ys_chk (by simp [apB]; omega) (ys_some ⟨by simp; omega, by (try dsimp only); omega⟩)) (fun _ => ?_)
        refine ys_then (ys_pick hb (by (try dsimp only); omega) (by omega) fun v2 v20 v21 _ => ?_)
        exact ys_chk (by simp [apB]; omega) (ys_some ⟨by simp; omega, by (try dsimp only); omega⟩)
      · have hk := ltB_f hk
        exact ys_some ⟨by (try dsimp only); omega, by (try dsimp only); omega, by (try dsimp only); omega⟩
    · obtain ⟨r1, r2, r3⟩ := hr
      refine ys_then (ys_pick hb (by (try dsimp only); omega) (by omega) fun v v0 v1 _ => ?_)
      refine ys_chk (by simp [apB]; omega) ?_
      dsimp only
      rw [wM (n := k + 1) (by omega)]
      exact ih _ ⟨by (try dsimp only); omega, by (try dsimp only); omega, by simp; omega, by (try dsimp only); omega, by (try dsimp only); omega⟩ (by (try dsimp only); omega)
  · have hc := ltB_f hc
    exact ys_some ⟨by (try dsimp only); omega, by (try dsimp only); omega, by (try dsimp only); omega, by (try dsimp only); omega⟩
theorem rl2 {b : List Int} (hb : Code b) {u : Int × Int} (hu : 0 ≤ u.1 ∧ u.1 < 6) {n p : Int} {on : List Bool} {ln : List Ln} (hn : 0 ≤ n ∧ n ≤ 3) (hp : 0 ≤ p ∧ p ≤ 1000) (ho : on.length ≤ 10) (hl : ln.length ≤ 10) :
    Ys (m_spec_l20Radial_l2 b u FUEL (on, n, p, ln)) fun r => (on.length ≤ r.1.length ∧ r.1.length ≤ 13) ∧ (0 ≤ r.2.1 ∧ r.2.1 ≤ p + 9) ∧ r.2.2.length ≤ 13 := by
  have wu : w64 (2 + u.1) = 2 + u.1 := wM (by omega)
  have wu1 : w64 (2 + u.1 - 1) = 2 + u.1 - 1 := wM (by omega)
  refine ys_loop (m_spec_l20Radial_l2 b u) (fun s => s.2.1.toNat) (fun s => (0 ≤ s.2.1 ∧ s.2.1 ≤ 3) ∧ (on.length ≤ s.1.length ∧ s.1.length + s.2.1 ≤ 13) ∧ (0 ≤ s.2.2.1 ∧ s.2.2.1 + 3 * s.2.1 ≤ p + 9) ∧ s.2.2.2.length + s.2.1 ≤ 13) (fun fuel s hs ih => ?_) FUEL _ ⟨hn, by (try dsimp only); omega, by (try dsimp only); omega, by (try dsimp only); omega⟩ (by (try dsimp only); rw [FUEL_eq]; omega)
  obtain ⟨on', k, q, ln'⟩ := s
  dsimp only at hs ih ⊢
  obtain ⟨h1, h2, h3, h4⟩ := hs
  rw [m_spec_l20Radial_l2.eq_2]
  dsimp only
  rw [wu, wu1]
  refine ys_bif (fun hc => ?_) (fun hc => ?_)
  · have hc := ltB_t hc
    refine ys_then (ys_pick hb (by omega) (by omega) fun v v0 v1 _ => ?_)
    refine ys_then (ys_pick hb (by (try dsimp only); omega) (by omega) fun v' v0' v1' _ => ?_)
    refine ys_chk (decide_eq_true (by omega)) ?_
    refine ys_then (ys_pick hb (by (try dsimp only); omega) (by omega) fun v2 v20 v21 _ => ?_)
    refine ys_chk (by simp [apB]; omega) (ys_chk (by simp [apB]; omega) ?_)
    dsimp only
    rw [wM (n := k - 1) (by omega)]
    exact ih _ ⟨by (try dsimp only); omega, by simp; omega, by (try dsimp only); omega, by simp; omega⟩ (by (try dsimp only); omega)
  · have hc := ltB_f hc
    exact ys_some ⟨by (try dsimp only); omega, by (try dsimp only); omega, by (try dsimp only); omega⟩
theorem odd0 (b : List Int) (p : Int) : m_spec_l20Rd_odd b p 0 = some (false, p) := rfl
theorem drawRadial {b : List Int} (hb : Code b) {p : Int} (hp : 0 ≤ p ∧ p ≤ 100) : Ys (m_spec_l20Radial b p 0) fun r => r.2.1.length ≤ 13 ∧ r.2.2.1.length ≤ 13 ∧ (2 ≤ r.2.2.2.1.length ∧ r.2.2.2.1.length ≤ 7) ∧ (0 ≤ r.2.2.2.2 ∧ r.2.2.2.2 ≤ p + 100) := by
  unfold m_spec_l20Radial
  refine ys_then (ys_pick hb (by omega) (by omega) fun v v0 v1 _ => ?_)
  have v2 := v1 (by omega)
  refine ys_then (ys_pick hb (by (try dsimp only); omega) (by omega) fun w w0 w1 _ => ?_)
  refine ys_bind (rl1 hb (by (try dsimp only); omega) (by (try dsimp only); omega)) fun r1 hr1 => ?_
  obtain ⟨a1, a2, a3, a4⟩ := hr1
  dsimp only at a1 a2 a3 a4
  refine ys_then (ys_pick hb (by (try dsimp only); omega) (by omega) fun w w0 w1 _ => ?_)
  have w2 := w1 (by omega)
  refine ys_bind (rl2 hb (u := (v, p + 1)) (by (try dsimp only); omega) (by (try dsimp only); omega) (by (try dsimp only); omega) (by omega) (by omega)) fun r2 hr2 => ?_
  obtain ⟨b1, b2, b3⟩ := hr2
  refine ys_then (ys_pick hb (by (try dsimp only); omega) (by omega) fun x x0 x1 _ => ?_)
  refine ys_chk (decide_eq_true (by omega)) ?_
  refine ys_then (ys_pick hb (by (try dsimp only); omega) (by omega) fun x x0 x1 _ => ?_)
  dsimp only
  rw [wM (n := 2 + v) (by omega), wM (n := 2 + v - 1) (by omega)]
  refine ys_bind (Q := fun r => r.1.length ≤ 13 ∧ (2 ≤ r.2.1.length ∧ r.2.1.length ≤ 7) ∧ (0 ≤ r.2.2 ∧ r.2.2 ≤ p + 90)) ?_ fun r hr => ?_
  · refine ys_bif (fun _ => ?_) (fun _ => ys_some ⟨by (try dsimp only); omega, by simp; omega, by (try dsimp only); omega⟩)
    refine ys_then (ys_pick hb (by (try dsimp only); omega) (by omega) fun y y0 y1 _ => ?_)
    have y2 := y1 (by omega)
    refine ys_then (ys_pick hb (by (try dsimp only); omega) (by omega) fun z z0 z1 _ => ?_)
    dsimp only
    rw [wM (n := 1 + y) (by omega), wM (n := 1 + y - 1) (by omega)]
    exact ys_chk (decide_eq_true (by omega)) (ys_chk (decide_eq_true (by omega)) (ys_some ⟨by simp; omega, by simp; omega, by (try dsimp only); omega⟩))
  · obtain ⟨c1, c2, c3⟩ := hr
    refine ys_then (ys_eq (odd0 _ _) ?_)
    refine ys_bind (Q := fun q => q.1.length ≤ 13 ∧ (2 ≤ q.2.1.length ∧ q.2.1.length ≤ 7) ∧ (0 ≤ q.2.2 ∧ q.2.2 ≤ p + 90)) (ys_bif (fun h => by cases h) fun _ => ys_some ⟨c1, c2, c3⟩) fun q hq => ys_some ⟨by (try dsimp only); omega, hq.1, hq.2.1, by have := hq.2.2; (try dsimp only); omega⟩
theorem drawDeed {b : List Int} (hb : Code b) {p : Int} (hp : 0 ≤ p ∧ p ≤ 1000) {w : Wd} (hw : Sz 40 w) : Ys (m_spec_l20WorldDeed b p w.b w.ls w.pts w.on w.earth w.pm w.br) fun r => 0 ≤ r.2.2.2 ∧ r.2.2.2 ≤ p + 8 := by
  have h1 := hw.on; have h2 := hw.pm
  unfold m_spec_l20WorldDeed
  refine ys_then (ys_pick hb (by omega) (by omega) fun v v0 v1 _ => ?_)
  have v2 := v1 (by omega)
  refine ys_chk (decide_eq_true (by (try dsimp only); simp only [List.length_cons, List.length_nil]; omega)) ?_
  refine ys_then (ys_pick hb (by (try dsimp only); omega) (by omega) fun _ _ _ _ => ?_)
  dsimp only
  rw [wM (n := (w.on.length : Int) + 1) (by omega)]
  refine ys_then (ys_pick hb (by (try dsimp only); omega) (by omega) fun _ _ _ _ => ?_)
  refine ys_then (ys_pick hb (by (try dsimp only); omega) (by omega) fun _ _ _ _ => ?_)
  refine ys_then (ys_pick hb (by (try dsimp only); omega) (by omega) fun _ _ _ _ => ?_)
  dsimp only
  refine ys_bind (Q := fun r => (r.1 = true → 0 < w.pm.length) ∧ (0 ≤ r.2 ∧ r.2 ≤ p + 6)) ?_ fun r hr => ?_
  · refine ys_bif (fun hc => ?_) (fun _ => ys_some ⟨nofun, by (try dsimp only); omega⟩)
    have hc := ltB_t hc
    exact ys_then (ys_pick hb (by (try dsimp only); omega) (by omega) fun _ _ _ _ => ys_some ⟨fun _ => by omega, by (try dsimp only); omega⟩)
  · obtain ⟨r1, r2⟩ := hr
    refine ys_bif (fun hc => ?_) (fun _ => ys_some (by (try dsimp only); omega))
    have r1 := r1 hc
    refine ys_then (ys_pick hb (by (try dsimp only); omega) (by omega) fun y y0 y1 _ => ?_)
    have y2 := y1 (by omega)
    refine ys_chk (decide_eq_true (by (try dsimp only); omega)) ?_
    refine ys_then (ys_pick hb (by (try dsimp only); omega) (by omega) fun z z0 z1 _ => ?_)
    have z2 := z1 (by omega)
    exact ys_chk (decide_eq_true (by (try dsimp only); simp only [List.length_cons, List.length_nil]; omega)) (ys_some (by (try dsimp only); omega))
theorem wl1 {b : List Int} (hb : Code b) {n p : Int} (hn : 0 ≤ n ∧ n ≤ 10) (hp : 0 ≤ p ∧ p ≤ 500) {w : Wd} (hw : Sz 30 w) (h2 : 2 ≤ w.pts.length) :
    Ys (m_spec_l20World_l1 b FUEL (n, p, o7 w)) fun r => (0 ≤ r.1 ∧ r.1 ≤ p + 80) ∧ Sz 30 (of7 r.2) ∧ 2 ≤ (of7 r.2).pts.length := by
  refine ys_loop (m_spec_l20World_l1 b) (fun s => s.1.toNat) (fun s => (0 ≤ s.1 ∧ s.1 ≤ 10) ∧ (0 ≤ s.2.1 ∧ s.2.1 + 8 * s.1 ≤ p + 80) ∧ Sz 30 (of7 s.2.2) ∧ 2 ≤ (of7 s.2.2).pts.length) (fun fuel s hs ih => ?_) FUEL _ ⟨hn, by (try dsimp only); omega, hw, h2⟩ (by (try dsimp only); rw [FUEL_eq]; omega)
  obtain ⟨k, q, s⟩ := s
  obtain ⟨x, rfl⟩ : ∃ x, s = o7 x := ⟨of7 s, rfl⟩
  dsimp only at hs ih ⊢
  obtain ⟨h1, h3, h4, h5⟩ := hs
  have h4 : Sz 30 x := h4
  have h5 : 2 ≤ x.pts.length := h5
  rw [m_spec_l20World_l1.eq_2]
  dsimp only
  refine ys_bif (fun hc => ?_) (fun hc => ?_)
  · have hc := ltB_t hc
    refine ys_bind (drawDeed hb (by omega) (h4.mono (by decide))) fun d hd => ?_
    refine ys_then (ys_eq (sWorldDo (h4.mono (by decide)).sm d.1 d.2.1 d.2.2.1) ?_)
    refine ys_bind (Q := fun r => Sz 30 (of7 r) ∧ 2 ≤ (of7 r).pts.length) ?_ fun r hr => ?_
    · refine ys_bif (fun ht => ys_some ?_) (fun _ => ys_some ⟨h4, h5⟩)
      obtain ⟨z1, z2⟩ := sz_do (w := x) (kd := d.1) (a := d.2.1) (who := d.2.2.1) ht
      exact ⟨z1, by show 2 ≤ (wdDo x d.1 d.2.1 d.2.2.1).1.pts.length; rw [z2]; exact h5⟩
    · (try dsimp only)
      rw [wM (n := k - 1) (by omega)]
      exact ih _ ⟨by (try dsimp only); omega, by (try dsimp only); omega, hr.1, hr.2⟩ (by (try dsimp only); omega)
  · have hc := ltB_f hc
    exact ys_some ⟨by (try dsimp only); omega, h4, h5⟩
theorem wl2 (t : Int × Int × List (Int × Int × Int) × List (Int × Int) × List Bool × List Bool × List (Int × Int) × List Int) (ht : t.2.2.2.2.1.length ≤ 30) {l : List Int} (hl : l.length ≤ 30) : Ys (m_spec_l20World_l2 t FUEL (0, l)) fun r => r.length ≤ 30 := by
  refine ys_loop (m_spec_l20World_l2 t) (fun s => ((t.2.2.2.2.1.length : Int) - s.1).toNat) (fun s => (0 ≤ s.1 ∧ s.1 ≤ t.2.2.2.2.1.length) ∧ s.2.length ≤ 30) (fun fuel s hs ih => ?_) FUEL _ ⟨by (try dsimp only); omega, hl⟩ (by (try dsimp only); rw [FUEL_eq]; omega)
  obtain ⟨k, m⟩ := s
  dsimp only at hs ih ⊢
  rw [m_spec_l20World_l2.eq_2]
  dsimp only
  refine ys_bif (fun hc => ?_) (fun hc => ys_some hs.2)
  have hc := ltB_t hc
  refine ys_chk (decide_eq_true (by omega)) ?_
  refine ys_bind (Q := fun r => r.length ≤ 30) (ys_bif (fun _ => ys_some (by simp)) fun _ => ys_some hs.2) fun r hr => ?_
  rw [wM (n := k + 1) (by omega)]
  exact ih _ ⟨by (try dsimp only); omega, hr⟩ (by (try dsimp only); omega)
theorem drawWorld {b : List Int} (hb : Code b) {n : Int} (hn : 1 ≤ n ∧ n ≤ 100) : Ys (m_spec_l20World b 0 n) fun r => Sz 40 ⟨r.1, r.2.1, r.2.2.1, r.2.2.2.1, r.2.2.2.2.1, r.2.2.2.2.2.1, r.2.2.2.2.2.2.1⟩ ∧ (0 ≤ r.2.2.2.2.2.2.2 ∧ r.2.2.2.2.2.2.2 ≤ 400) := by
  unfold m_spec_l20World
  refine ys_bind (drawRadial hb (by omega)) fun r hr => ?_
  obtain ⟨a1, a2, a3, a4⟩ := hr
  refine ys_chk (by simp [mkB]; omega) ?_
  refine ys_then (ys_pick hb (by omega) (by omega) fun v v0 v1 _ => ?_)
  have v2 := v1 (by omega)
  refine ys_bind (wl1 hb (w := ⟨r.1, r.2.1, r.2.2.2.1, r.2.2.1, List.replicate r.2.2.1.length false, [], []⟩) (by (try dsimp only); omega) (by (try dsimp only); omega) ⟨by (try dsimp only); omega, by (try dsimp only); omega, by (try dsimp only); omega, by simp; omega, by simp, by simp⟩ (by (try dsimp only); omega)) fun s hs => ?_
  obtain ⟨b1, b2, b3⟩ := hs
  obtain ⟨c1, c2, c3, c4, c5, c6⟩ := b2
  simp only [of7] at c1 c2 c3 c4 c5 c6 b3
  refine ys_then (ys_odd hb (by omega) (by omega) fun o => ?_)
  refine ys_bind (Q := fun q => (q.2.1.length ≤ 40 ∧ q.2.2.1.length ≤ 40 ∧ q.2.2.2.1.length ≤ 40 ∧ q.2.2.2.2.length ≤ 40) ∧ (0 ≤ q.1 ∧ q.1 ≤ 400)) ?_ fun q hq => ys_some ⟨⟨by (try dsimp only); omega, hq.1.1, hq.1.2.1, hq.1.2.2.1, by (try dsimp only); omega, hq.1.2.2.2⟩, hq.2⟩
  refine ys_bif (fun _ => ?_) (fun _ => ys_some ⟨⟨by (try dsimp only); omega, by (try dsimp only); omega, by (try dsimp only); omega, by (try dsimp only); omega⟩, by (try dsimp only); omega⟩)
  refine ys_then (ys_pick hb (by (try dsimp only); omega) (by omega) fun x x0 x1 _ => ?_)
  refine ys_bind (Q := fun q => q.1.length ≤ 40 ∧ q.2.1.length ≤ 40 ∧ q.2.2.1.length ≤ 40 ∧ q.2.2.2.length ≤ 40) ?_ fun q hq => ys_some ⟨hq, by (try dsimp only); omega⟩
  refine ys_bif (fun _ => ys_chk (decide_eq_true (by omega)) (ys_some ⟨by simp [subL]; omega, by (try dsimp only); omega, by (try dsimp only); omega, by (try dsimp only); omega⟩)) (fun _ => ?_)
  refine ys_bind (Q := fun q => q.1.length ≤ 40 ∧ q.2.1.length ≤ 40 ∧ q.2.2.1.length ≤ 40 ∧ q.2.2.2.length ≤ 40) ?_ fun q hq => ys_some hq
  refine ys_bif (fun _ => ys_chk (by simp [apB]; omega) (ys_some ⟨by (try dsimp only); omega, by (try dsimp only); omega, by (try dsimp only); omega, by simp; omega⟩)) (fun _ => ?_)
  refine ys_bind (Q := fun q => q.1.length ≤ 40 ∧ q.2.1.length ≤ 40 ∧ q.2.2.1.length ≤ 40 ∧ q.2.2.2.length ≤ 40) ?_ fun q hq => ys_some hq
  refine ys_bif (fun _ => ys_bind (wl2 s c3 c6) fun z hz => ys_some ⟨by (try dsimp only); omega, by (try dsimp only); omega, by (try dsimp only); omega, by (try dsimp only); omega⟩) (fun _ => ?_)
  refine ys_bind (Q := fun q => q.1.length ≤ 40 ∧ q.2.1.length ≤ 40 ∧ q.2.2.length ≤ 40) ?_ fun q hq => ys_some ⟨hq.1, hq.2.1, hq.2.2, by (try dsimp only); omega⟩
  refine ys_bif (fun _ => ys_chk (by simp [apB]; omega) (ys_chk (by simp [apB]; omega) (ys_some ⟨by (try dsimp only); omega, by simp; omega, by simp; omega⟩))) (fun _ => ?_)
  exact ys_chk (decide_eq_true (by omega)) (ys_chk (decide_eq_true (by omega)) (ys_some ⟨by simp; omega, by (try dsimp only); omega, by (try dsimp only); omega⟩))
end Go.Proofs.YtcmnjaccapbhfaaDoor
namespace Go.Proofs.YtcmnjaccapbhfaaDoor
set_option linter.unusedVariables false
set_option linter.unusedSimpArgs false
theorem code_sub {x : List Int} (h : ∀ z ∈ x, inU z) : Code (subL x 0 (opH x.length)) := by rw [opH_take]; exact code_of h
theorem drawValid {x0 : List Int} (h1 : ∀ z ∈ x0, inU z) : Ys (m_spec_DrawWorldValid x0) fun r => Sz 40 (of7 r) := by
  unfold m_spec_DrawWorldValid
  exact ys_bind (drawWorld (code_sub h1) (by omega)) fun r hr => ys_some hr.1
theorem wv1 {w : Wd} (h : WdOk w) (hz : Sz 40 w) : m_laws_FnWorldValid_l1 (o7 w) FUEL 0 = some (.inl ()) := by
  have hb := hz.br
  refine loop_all (m_laws_FnWorldValid_l1 (o7 w)) (fun k => (k : Int)) w.br.length (some (.inl ())) (by omega) (fun k fuel hk => ?_) (fun fuel => ?_)
  · rw [m_laws_FnWorldValid_l1.eq_2]
    dsimp only [o7]
    have hm := h.inn (w.br.getD k 0) (by rw [getD_ge hk]; exact List.getElem_mem hk)
    have h2 : ixB (w.br.getD k 0) w.on.length = true := decide_eq_true hm.1
    simp only [lt_dec hk, ix_dec hk, chk_true, cond_true, Int.toNat_natCast, w64_succ (by omega : k < 4611686018427387904), h2, hm.2, cond_false]
  · rw [m_laws_FnWorldValid_l1.eq_2]; dsimp only [o7]; simp only [nlt_dec, cond_false]
theorem wv2 {w : Wd} (h : WdOk w) (hz : Sz 40 w) : m_laws_FnWorldValid_l2 (o7 w) FUEL 0 = some (.inl ()) := by
  have hb := hz.pm
  refine loop_all (m_laws_FnWorldValid_l2 (o7 w)) (fun k => (k : Int)) w.pm.length (some (.inl ())) (by omega) (fun k fuel hk => ?_) (fun fuel => ?_)
  · rw [m_laws_FnWorldValid_l2.eq_2]
    dsimp only [o7]
    obtain ⟨p1, p2, p3⟩ := h.work.pm (w.pm.getD k (0, 0)) (by rw [getD_ge hk]; exact List.getElem_mem hk)
    have p2 : 0 ≤ (w.pm.getD k (0, 0)).2 ∧ (w.pm.getD k (0, 0)).2 < (w.on.length : Int) := p2
    have p3 : w.earth.getD (w.pm.getD k (0, 0)).2.toNat false = true := p3
    have h2 : ixB (w.pm.getD k (0, 0)).2 w.on.length = true := decide_eq_true p2
    have h3 : w.on.getD (w.pm.getD k (0, 0)).2.toNat false = false := by
      cases hc : w.on.getD (w.pm.getD k (0, 0)).2.toNat false
      · rfl
      · have : w.earth.getD (w.pm.getD k (0, 0)).2.toNat false = false := h.work.ne _ hc
        rw [p3] at this; cases this
    simp only [lt_dec hk, ix_dec hk, chk_true, cond_true, Int.toNat_natCast, w64_succ (by omega : k < 4611686018427387904), h2, h3, cond_false]
  · rw [m_laws_FnWorldValid_l2.eq_2]; dsimp only [o7]; simp only [nlt_dec, cond_false]
theorem door_FnWorldValid (x0 : List Int) (h0 : x0.length ≤ maxLen) (h1 : ∀ z ∈ x0, inU z) : m_laws_FnWorldValid x0 = some true := by
  unfold m_laws_FnWorldValid
  rcases Bool.eq_false_or_eq_true (ltB 1048576 (x0.length : Int)) with h | h <;> rw [h]
  · rfl
  obtain ⟨r, e, hz⟩ := drawValid h1
  obtain ⟨w, rfl⟩ : ∃ w, r = o7 w := ⟨of7 r, rfl⟩
  have hz : Sz 40 w := hz
  obtain ⟨s1, s2, s3, s4, s5, s6⟩ := hz.sm
  have hi : m_impl_WorldValid w.b w.ls w.pts w.on w.earth w.pm w.br = some (wv w) := iWv w.b w.ls w.pts w.on w.earth w.pm w.br s2 s3 s5 s6
  have hs : m_spec_WorldValid w.b w.ls w.pts w.on w.earth w.pm w.br = some (wv w) := sWv w.b w.ls w.pts w.on w.earth w.pm w.br s2 s3 s5 s6
  have he : m_impl_WorldValid w.b w.ls w.pts w.on w.earth w.pm [] = some (wv { w with br := [] }) := iWv w.b w.ls w.pts w.on w.earth w.pm [] s2 s3 s5 (by decide)
  have h0' : m_impl_WorldValid 0 [] [] [] [] [] [] = some (wv .zero) := iWv 0 [] [] [] [] [] [] (by decide) (by decide) (by decide) (by decide)
  have hz0 : wv .zero = false := rfl
  rw [e]
  simp only [cond_false, Option.bind_some]
  rw [show m_impl_WorldValid (o7 w).1 (o7 w).2.1 (o7 w).2.2.1 (o7 w).2.2.2.1 (o7 w).2.2.2.2.1 (o7 w).2.2.2.2.2.1 (o7 w).2.2.2.2.2.2 = some (wv w) from hi, show m_spec_WorldValid (o7 w).1 (o7 w).2.1 (o7 w).2.2.1 (o7 w).2.2.2.1 (o7 w).2.2.2.2.1 (o7 w).2.2.2.2.2.1 (o7 w).2.2.2.2.2.2 = some (wv w) from hs]
  rw [show m_impl_WorldValid (o7 w).1 (o7 w).2.1 (o7 w).2.2.1 (o7 w).2.2.2.1 (o7 w).2.2.2.2.1 (o7 w).2.2.2.2.2.1 [] = some (wv { w with br := [] }) from he, h0', hz0]
  cases hv : wv w
  · simp [gb, alive_ok]
  have ok : WdOk w := wv_iff.1 hv
  have ok2 : wv { w with br := [] } = true := wv_iff.2 ⟨ok.bus, ok.work, ok.len, nofun, List.Pairwise.nil, ok.rad⟩
  have hr : m_impl_Radial (o7 w).1 (o7 w).2.1 (o7 w).2.2.2.1 (o7 w).2.2.1 = some true := by
    have := iRadial w.b w.ls w.on w.pts s2
    rw [radB_ok ok ok.len, ok.rad] at this
    exact this
  simp [wv1 ok hz, wv2 ok hz, ok2, hr, gb]
end Go.Proofs.YtcmnjaccapbhfaaDoor
namespace Go.Proofs.YtcmnjaccapbhfaaDoor
open Go.ChangeShapes Go.WideShapes Go.ChangeAt Go.RowKit Go.Deep
set_option linter.unusedVariables false
set_option linter.unusedSimpArgs false
set_option maxRecDepth 100000
section
variable {H : Type} {enc : TypeId × Value → H} {w : World} {base : Nat} {spare : Nat → Bool} {held : Bool}
theorem tr5 {fuel : Nat} {cs : List Value} {x : DataW H × List MemPlace} (h : DataW.trod enc Tryd.prog w base spare held fuel 5 cs = some x) :
    ∃ (y0 : Int), cs = [.int .u8 y0] ∧ inU y0 := by
  obtain ⟨n, rfl, _, hw⟩ := DataW.trod_int Tryd.underlying5 h
  exact ⟨n, rfl, u8_bounds hw⟩
theorem tr22 {fuel : Nat} {cs : List Value} {x : DataW H × List MemPlace} (h : DataW.trod enc Tryd.prog w base spare held fuel 22 cs = some x) :
    ∃ (A0 : Option Addr) (y0 : List Int) (k0 : Nat), cs = [.slice A0 y0.length k0] ∧ Rc w 1 A0 y0.length k0 (y0.flatMap eU) ∧ y0.length ≤ maxLen ∧ (∀ z ∈ y0, inU z) := by
  obtain ⟨A, l, cap, e1, e2, e3, e4⟩ := open_list (fun b : {y : Int // inU y} => eU b.1) (size := 1) (fun b => eU_len b.1) (by decide) Tryd.underlying22 (by kernel_rfl) (fun fuel cs x hx => by
    obtain ⟨z0, rfl, g0⟩ := tr5 hx
    exact ⟨⟨z0, g0⟩, rfl⟩) h
  refine ⟨A, l.map (·.1), cap, by simpa using e1, ⟨by simpa [List.flatMap_map] using e2, by simpa using e3⟩, by simpa using Nat.le_trans e3 e4, fun z hz => ?_⟩
  obtain ⟨q, _, rfl⟩ := List.mem_map.1 hz
  exact q.2
theorem op22 {r : Reach} {b0 : Nat} {v : Value} {d : DataW H} {p : List MemPlace} (hval : Value.okWide Tryd.prog w r b0 22 v) (h : DataW.Trod enc Tryd.prog w base spare held 22 v d p) :
    ∃ (A0 : Option Addr) (y0 : List Int) (k0 : Nat), v = .slice A0 y0.length k0 ∧ Rc w 1 A0 y0.length k0 (y0.flatMap eU) ∧ y0.length ≤ maxLen ∧ (∀ z ∈ y0, inU z) := by
  obtain ⟨A', n', k', rfl⟩ := okWide_slice Tryd.underlying22 hval
  obtain ⟨fuel, hf⟩ := h
  obtain ⟨A0, y0, k0, e, w0, w1, w2⟩ := tr22 hf
  simp [Value.cells] at e
  exact ⟨A0, y0, k0, by simp [e], w0, w1, w2⟩
end
end Go.Proofs.YtcmnjaccapbhfaaDoor
namespace Go.Proofs.YtcmnjaccapbhfaaDoor
open Go.ChangeShapes Go.WideShapes Go.ChangeAt Go.RowKit
theorem own : ownKnob Tryd.prog.godebug = none := by kernel_rfl
theorem laidOut : laidOutB Tryd.prog = true := by kernel_rfl
section
variable {H : Type} {enc : TypeId × Value → H} {P : Program}
theorem trodAll_below (hl : laidOutB P = true) {W W' : World} (hb : Below W.heap.size W W') : ∀ {ts : List TypeId} {vs : List Value} {ds : List (DataW H)} {ps : List MemPlace},
    (ts.all fun t => P.readableRec t && decide (t < P.types.size)) = true → DataW.TrodAll enc P W 0 (fun _ => true) true ts vs ds ps → (∀ x ∈ ps, x.block < W.heap.size) →
    DataW.TrodAll enc P W' 0 (fun b => decide (b < W.heap.size)) true ts vs ds ps
  | [], [], [], _, _, h, _ => h
  | t :: ts, v :: vs, d :: ds, ps, ht, h, hlt => by
    obtain ⟨p, q, h1, h2, rfl⟩ := h
    simp only [List.all_cons, Bool.and_eq_true, decide_eq_true_eq] at ht
    exact ⟨p, q, Below.trod hl ht.1.1 ht.1.2 h1 hb (fun x hx => hlt x (by simp [hx])), trodAll_below hl hb (by simpa using ht.2) h2 (fun x hx => hlt x (by simp [hx])), rfl⟩
theorem law_post {f : Func} {s : ChangeSpec} {W W' : World} {args : Array Value} {ds gs : List (DataW H)} {before : List MemPlace} {tb : TypeId} (hl : laidOutB P = true)
    (hW : DataW.Whole enc P f.params.toList s.vars false W args.toList ds gs before)
    (hts : (f.params.toList.all fun t => P.readableRec t && decide (t < P.types.size)) = true) (hvs : s.vars = []) (hrt : f.resultTypes = #[tb]) (hub : P.underlying tb = some .bool)
    (hfn : s.fn H (ds ++ []) = { results := [.lit (.bool true)], args := ds }) (hb : Below W.heap.size W W') :
    s.post enc P f false true false false W args (.bool true) W' := by
  have hW' := hW
  obtain ⟨p, q, hA, hV, rfl, hfz, hnd⟩ := hW
  rw [hvs] at hV
  obtain ⟨rfl, rfl⟩ := trodVars_none hV
  refine ⟨ds, [], p ++ [], [], p, [], hW', ?_, ?_, ?_, hb.frame _, fun h => by cases h⟩
  · rw [hfn, hrt]
    exact trodAll_cons_mk (shut_bool hub _) trodAll_mk0
  · rw [hfn]
    exact trodAll_below hl hb hts hA (fun x hx => hW'.lt x (by simp [hx]))
  · rw [hfn, hvs]
    rfl
end
end Go.Proofs.YtcmnjaccapbhfaaDoor
