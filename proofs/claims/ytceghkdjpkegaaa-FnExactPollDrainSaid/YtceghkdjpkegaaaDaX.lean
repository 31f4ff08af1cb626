/- The laws, from what the models give. -/
import Derived.Test.YtceghkdjpkegaaaDaH
namespace Go.Proofs.Ytceghkdjpkegaaa
set_option linter.unusedVariables false
set_option linter.unusedSimpArgs false

theorem exactPollDo_of (x0 : Int) (x1 : List Int) (x2 : Int) (x3 : List Int) (x4 : Int) (x5 : Int) (x6 : Int) (x7 : Int) (x8 : Int) (x9 : Int) (hx1 : x1.length ≤ 9223372036854775807) (hx3 : x3.length ≤ 9223372036854775807) (hcore : x1.length ≤ 1048576 → x3.length ≤ 1048576 → ∃ r, m_spec_PollDo x0 x1 x2 x3 x4 x5 x6 x7 x8 x9 = some r ∧ m_impl_PollDo x0 x1 x2 x3 x4 x5 x6 x7 x8 x9 = some r ∧ r.2.1.length ≤ 1048576 ∧ r.2.2.2.1.length ≤ 1048576) : m_laws_FnExactPollDo x0 x1 x2 x3 x4 x5 x6 x7 x8 x9 = some true := by
  unfold m_laws_FnExactPollDo
  rw [sz_Poll x0 x1 x2 x3 x4 x5 x6 x7 1048576 hx1 hx3 (by omega)]
  by_cases s0 : 1048576 < (x1.length : Int) + (x3.length : Int)
  · simp [s0, ltB]
  rw [if_neg s0, Option.bind_some, ltB0 (by omega), cond_false]
  obtain ⟨r, hs, hi, b1, b3⟩ := hcore (by omega) (by omega)
  simp (disch := omega) only [Option.bind_some, cond_false, cond_true, hs, hi, bne_self_eq_false, Bool.not_true, Bool.not_false, Bool.or_false, Bool.false_or, Bool.or_self, gb, ltB0, to_IntS, to_Poll, to_PollDeed, eq_IntS, eq_Poll, mark_IntS, m_laws_markPoll, held_IntS, m_laws_heldPoll, to_PollDeedS, eq_PollDeed, eq_PollDeedS, mark_PollDeedS]
theorem exactPollRun_of (x0 : Int) (x1 : List Int) (x2 : Int) (x3 : List Int) (x4 : Int) (x5 : Int) (x6 : Int) (x7 : Int) (x8 : List (Int × Int)) (hx1 : x1.length ≤ 9223372036854775807) (hx3 : x3.length ≤ 9223372036854775807) (hx8 : x8.length ≤ 9223372036854775807) (hcore : x1.length ≤ 1048576 → x3.length ≤ 1048576 → x8.length ≤ 1048576 → ∃ r, m_spec_PollRun x0 x1 x2 x3 x4 x5 x6 x7 x8 = some r ∧ m_impl_PollRun x0 x1 x2 x3 x4 x5 x6 x7 x8 = some r ∧ r.2.1.length ≤ 1048576 ∧ r.2.2.2.1.length ≤ 1048576) : m_laws_FnExactPollRun x0 x1 x2 x3 x4 x5 x6 x7 x8 = some true := by
  unfold m_laws_FnExactPollRun
  rw [sz_Poll x0 x1 x2 x3 x4 x5 x6 x7 1048576 hx1 hx3 (by omega)]
  by_cases s0 : 1048576 < (x1.length : Int) + (x3.length : Int)
  · simp [s0, ltB]
  rw [if_neg s0, Option.bind_some, ltB0 (by omega), cond_false]
  rw [sz_PollDeedS x8 (1048576 - ((x1.length : Int) + (x3.length : Int))) hx8 (by omega)]
  by_cases s1 : 1048576 - ((x1.length : Int) + (x3.length : Int)) < (x8.length : Int)
  · simp [s1, ltB]
  rw [if_neg s1, Option.bind_some, ltB0 (by omega), cond_false]
  obtain ⟨r, hs, hi, b1, b3⟩ := hcore (by omega) (by omega) (by omega)
  simp (disch := omega) only [Option.bind_some, cond_false, cond_true, hs, hi, bne_self_eq_false, Bool.not_true, Bool.not_false, Bool.or_false, Bool.false_or, Bool.or_self, gb, ltB0, to_IntS, to_Poll, to_PollDeed, eq_IntS, eq_Poll, mark_IntS, m_laws_markPoll, held_IntS, m_laws_heldPoll, to_PollDeedS, eq_PollDeed, eq_PollDeedS, mark_PollDeedS]
theorem exactPollDrain_of (x0 : Int) (x1 : List Int) (x2 : Int) (x3 : List Int) (x4 : Int) (x5 : Int) (x6 : Int) (x7 : Int) (hx1 : x1.length ≤ 9223372036854775807) (hx3 : x3.length ≤ 9223372036854775807) (hcore : x1.length ≤ 1048576 → x3.length ≤ 1048576 → ∃ r, m_spec_PollDrain x0 x1 x2 x3 x4 x5 x6 x7 = some r ∧ m_impl_PollDrain x0 x1 x2 x3 x4 x5 x6 x7 = some r ∧ r.2.1.length ≤ 1048576 ∧ r.2.2.2.1.length ≤ 1048576) : m_laws_FnExactPollDrain x0 x1 x2 x3 x4 x5 x6 x7 = some true := by
  unfold m_laws_FnExactPollDrain
  rw [sz_Poll x0 x1 x2 x3 x4 x5 x6 x7 1048576 hx1 hx3 (by omega)]
  by_cases s0 : 1048576 < (x1.length : Int) + (x3.length : Int)
  · simp [s0, ltB]
  rw [if_neg s0, Option.bind_some, ltB0 (by omega), cond_false]
  obtain ⟨r, hs, hi, b1, b3⟩ := hcore (by omega) (by omega)
  simp (disch := omega) only [Option.bind_some, cond_false, cond_true, hs, hi, bne_self_eq_false, Bool.not_true, Bool.not_false, Bool.or_false, Bool.false_or, Bool.or_self, gb, ltB0, to_IntS, to_Poll, to_PollDeed, eq_IntS, eq_Poll, mark_IntS, m_laws_markPoll, held_IntS, m_laws_heldPoll, to_PollDeedS, eq_PollDeed, eq_PollDeedS, mark_PollDeedS]

end Go.Proofs.Ytceghkdjpkegaaa
