/- The laws, from what the models give. -/
import Derived.Test.YtapkaobelejkkaaDaH
namespace Go.Proofs.Ytapkaobelejkkaa
set_option linter.unusedVariables false
set_option linter.unusedSimpArgs false

theorem exactPanelDo_of (x0 : List Bool) (x1 : Int) (x2 : Int) (x3 : Bool) (x4 : Int) (x5 : Int) (x6 : Int) (x7 : Int) (x8 : Bool) (hx0 : x0.length ≤ 9223372036854775807) (hcore : x0.length ≤ 1048576 → ∃ r, m_spec_PanelDo x0 x1 x2 x3 x4 x5 x6 x7 x8 = some r ∧ m_impl_PanelDo x0 x1 x2 x3 x4 x5 x6 x7 x8 = some r ∧ r.1.length ≤ 1048576) : m_laws_FnExactPanelDo x0 x1 x2 x3 x4 x5 x6 x7 x8 = some true := by
  unfold m_laws_FnExactPanelDo
  rw [sz_Panel x0 x1 x2 x3 x4 1048576 hx0 (by omega)]
  by_cases s0 : 1048576 < (x0.length : Int)
  · simp [s0, ltB]
  rw [if_neg s0, Option.bind_some, ltB0 (by omega), cond_false]
  obtain ⟨r, hs, hi, b0⟩ := hcore (by omega)
  simp (disch := omega) only [Option.bind_some, cond_false, cond_true, hs, hi, bne_self_eq_false, Bool.not_true, Bool.not_false, Bool.or_false, Bool.false_or, Bool.or_self, gb, ltB0, to_BoolS, to_Panel, to_Command, eq_BoolS, eq_Panel, mark_BoolS, m_laws_markPanel, held_BoolS, m_laws_heldPanel, to_CommandS, eq_Command, eq_CommandS, mark_CommandS, eq_Step, eq_StepS, mark_StepS, held_StepS]
theorem exactPanelRun_of (x0 : List Bool) (x1 : Int) (x2 : Int) (x3 : Bool) (x4 : Int) (x5 : List (Int × Int × Int × Bool)) (hx0 : x0.length ≤ 9223372036854775807) (hx5 : x5.length ≤ 9223372036854775807) (hcore : x0.length ≤ 1048576 → x5.length ≤ 1048576 → ∃ r, m_spec_PanelRun x0 x1 x2 x3 x4 x5 = some r ∧ m_impl_PanelRun x0 x1 x2 x3 x4 x5 = some r ∧ r.1.length ≤ 1048576 ∧ r.2.2.2.2.2.length ≤ 1048576) : m_laws_FnExactPanelRun x0 x1 x2 x3 x4 x5 = some true := by
  unfold m_laws_FnExactPanelRun
  rw [sz_Panel x0 x1 x2 x3 x4 1048576 hx0 (by omega)]
  by_cases s0 : 1048576 < (x0.length : Int)
  · simp [s0, ltB]
  rw [if_neg s0, Option.bind_some, ltB0 (by omega), cond_false]
  rw [sz_CommandS x5 (1048576 - ((x0.length : Int))) hx5 (by omega)]
  by_cases s1 : 1048576 - ((x0.length : Int)) < (x5.length : Int)
  · simp [s1, ltB]
  rw [if_neg s1, Option.bind_some, ltB0 (by omega), cond_false]
  obtain ⟨r, hs, hi, b0, b5⟩ := hcore (by omega) (by omega)
  simp (disch := omega) only [Option.bind_some, cond_false, cond_true, hs, hi, bne_self_eq_false, Bool.not_true, Bool.not_false, Bool.or_false, Bool.false_or, Bool.or_self, gb, ltB0, to_BoolS, to_Panel, to_Command, eq_BoolS, eq_Panel, mark_BoolS, m_laws_markPanel, held_BoolS, m_laws_heldPanel, to_CommandS, eq_Command, eq_CommandS, mark_CommandS, eq_Step, eq_StepS, mark_StepS, held_StepS]
theorem exactOperations_of (x0 : List Bool) (x1 : Int) (x2 : Int) (x3 : Bool) (x4 : Int) (x5 : List (Int × Int × Int × Bool)) (hx0 : x0.length ≤ 9223372036854775807) (hx5 : x5.length ≤ 9223372036854775807) (hcore : x0.length ≤ 1048576 → x5.length ≤ 1048576 → ∃ r, m_spec_Operations x0 x1 x2 x3 x4 x5 = some r ∧ m_impl_Operations x0 x1 x2 x3 x4 x5 = some r ∧ r.length ≤ 1048576) : m_laws_FnExactOperations x0 x1 x2 x3 x4 x5 = some true := by
  unfold m_laws_FnExactOperations
  rw [sz_Panel x0 x1 x2 x3 x4 1048576 hx0 (by omega)]
  by_cases s0 : 1048576 < (x0.length : Int)
  · simp [s0, ltB]
  rw [if_neg s0, Option.bind_some, ltB0 (by omega), cond_false]
  rw [sz_CommandS x5 (1048576 - ((x0.length : Int))) hx5 (by omega)]
  by_cases s1 : 1048576 - ((x0.length : Int)) < (x5.length : Int)
  · simp [s1, ltB]
  rw [if_neg s1, Option.bind_some, ltB0 (by omega), cond_false]
  obtain ⟨r, hs, hi, b0⟩ := hcore (by omega) (by omega)
  simp (disch := omega) only [Option.bind_some, cond_false, cond_true, hs, hi, bne_self_eq_false, Bool.not_true, Bool.not_false, Bool.or_false, Bool.false_or, Bool.or_self, gb, ltB0, to_BoolS, to_Panel, to_Command, eq_BoolS, eq_Panel, mark_BoolS, m_laws_markPanel, held_BoolS, m_laws_heldPanel, to_CommandS, eq_Command, eq_CommandS, mark_CommandS, eq_Step, eq_StepS, mark_StepS, held_StepS]

end Go.Proofs.Ytapkaobelejkkaa
