/- The laws, from what the models give. -/
import Derived.Test.YtnoeliaefhldmaaDaH
namespace Go.Proofs.Ytnoeliaefhldmaa
set_option linter.unusedVariables false
set_option linter.unusedSimpArgs false

theorem exactWorkDo_of (x0 : List Bool) (x1 : List Bool) (x2 : List (Int × Int)) (x3 : Int) (x4 : Int) (x5 : Int) (hx0 : x0.length ≤ 9223372036854775807) (hx1 : x1.length ≤ 9223372036854775807) (hx2 : x2.length ≤ 9223372036854775807) (hcore : x0.length ≤ 1048576 → x1.length ≤ 1048576 → x2.length ≤ 1048576 → ∃ r, m_spec_WorkDo x0 x1 x2 x3 x4 x5 = some r ∧ m_impl_WorkDo x0 x1 x2 x3 x4 x5 = some r ∧ r.1.length ≤ 1048576 ∧ r.2.1.length ≤ 1048576 ∧ r.2.2.1.length ≤ 1048576) : m_laws_FnExactWorkDo x0 x1 x2 x3 x4 x5 = some true := by
  unfold m_laws_FnExactWorkDo
  rw [sz_Work x0 x1 x2 1048576 hx0 hx1 hx2 (by omega)]
  by_cases s0 : 1048576 < (x0.length : Int) + (x1.length : Int) + (x2.length : Int)
  · simp [s0, ltB]
  rw [if_neg s0, Option.bind_some, ltB0 (by omega), cond_false]
  obtain ⟨r, hs, hi, b0, b1, b2⟩ := hcore (by omega) (by omega) (by omega)
  simp (disch := omega) only [Option.bind_some, cond_false, cond_true, hs, hi, bne_self_eq_false, Bool.not_true, Bool.not_false, Bool.or_false, Bool.false_or, Bool.or_self, gb, ltB0, to_BoolS, to_Permit, to_PermitS, to_Work, to_WorkDeed, eq_BoolS, eq_Permit, eq_PermitS, eq_Work, mark_BoolS, mark_PermitS, m_laws_markWork, held_BoolS, held_PermitS, m_laws_heldWork, to_WorkDeedS, eq_WorkDeed, eq_WorkDeedS, mark_WorkDeedS]
theorem exactWorkRun_of (x0 : List Bool) (x1 : List Bool) (x2 : List (Int × Int)) (x3 : List (Int × Int × Int)) (hx0 : x0.length ≤ 9223372036854775807) (hx1 : x1.length ≤ 9223372036854775807) (hx2 : x2.length ≤ 9223372036854775807) (hx3 : x3.length ≤ 9223372036854775807) (hcore : x0.length ≤ 1048576 → x1.length ≤ 1048576 → x2.length ≤ 1048576 → x3.length ≤ 1048576 → ∃ r, m_spec_WorkRun x0 x1 x2 x3 = some r ∧ m_impl_WorkRun x0 x1 x2 x3 = some r ∧ r.1.length ≤ 1048576 ∧ r.2.1.length ≤ 1048576 ∧ r.2.2.1.length ≤ 1048576) : m_laws_FnExactWorkRun x0 x1 x2 x3 = some true := by
  unfold m_laws_FnExactWorkRun
  rw [sz_Work x0 x1 x2 1048576 hx0 hx1 hx2 (by omega)]
  by_cases s0 : 1048576 < (x0.length : Int) + (x1.length : Int) + (x2.length : Int)
  · simp [s0, ltB]
  rw [if_neg s0, Option.bind_some, ltB0 (by omega), cond_false]
  rw [sz_WorkDeedS x3 (1048576 - ((x0.length : Int) + (x1.length : Int) + (x2.length : Int))) hx3 (by omega)]
  by_cases s1 : 1048576 - ((x0.length : Int) + (x1.length : Int) + (x2.length : Int)) < (x3.length : Int)
  · simp [s1, ltB]
  rw [if_neg s1, Option.bind_some, ltB0 (by omega), cond_false]
  obtain ⟨r, hs, hi, b0, b1, b2⟩ := hcore (by omega) (by omega) (by omega) (by omega)
  simp (disch := omega) only [Option.bind_some, cond_false, cond_true, hs, hi, bne_self_eq_false, Bool.not_true, Bool.not_false, Bool.or_false, Bool.false_or, Bool.or_self, gb, ltB0, to_BoolS, to_Permit, to_PermitS, to_Work, to_WorkDeed, eq_BoolS, eq_Permit, eq_PermitS, eq_Work, mark_BoolS, mark_PermitS, m_laws_markWork, held_BoolS, held_PermitS, m_laws_heldWork, to_WorkDeedS, eq_WorkDeed, eq_WorkDeedS, mark_WorkDeedS]

end Go.Proofs.Ytnoeliaefhldmaa
