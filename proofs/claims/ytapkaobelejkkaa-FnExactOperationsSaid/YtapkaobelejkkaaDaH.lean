/- Plain laws of the helpers of the laws. -/
import Derived.Test.YtapkaobelejkkaaPu
import Derived.Test.YtapkaobelejkkaaDaM
namespace Go.Proofs.Ytapkaobelejkkaa
set_option linter.unusedVariables false
set_option linter.unusedSimpArgs false

theorem sz_BoolS (x0 : List Bool) (x1 : Int) (hx0 : x0.length ≤ 9223372036854775807) (h0 : 0 ≤ x1 ∧ x1 ≤ 1048576) : m_laws_szBoolS x0 x1 = some (if x1 < (x0.length : Int) then -1 else x1 - ((x0.length : Int))) := by
  simp (disch := omega) [m_laws_szBoolS, chk, gb, w64_succ, w64_id, Int.toNat_natCast, getD_ge, Bool.cond_decide, ltB, leB, ixB, nzB, nnB]
  try (repeat' split)
  all_goals first | rfl | omega | (congr 1; omega)
theorem sz_Panel (x0 : List Bool) (x1 : Int) (x2 : Int) (x3 : Bool) (x4 : Int) (x5 : Int) (hx0 : x0.length ≤ 9223372036854775807) (h0 : 0 ≤ x5 ∧ x5 ≤ 1048576) : m_laws_szPanel x0 x1 x2 x3 x4 x5 = some (if x5 < (x0.length : Int) then -1 else x5 - ((x0.length : Int))) := by
  simp (disch := omega) [m_laws_szPanel, chk, gb, w64_succ, w64_id, Int.toNat_natCast, getD_ge, Bool.cond_decide, ltB, leB, ixB, nzB, nnB, sz_BoolS]
  try (repeat' split)
  all_goals first | rfl | omega | (congr 1; omega)
theorem to_BoolS (x0 : List Bool) (hx0 : x0.length ≤ 1048576) : m_laws_toBoolS x0 = some x0 := by
  have h := to_loop (m_laws_toBoolS_l1 x0) x0 (List.replicate x0.length false) (by simp) hx0 (fun fuel l j hj hl => by simp (disch := omega) [m_laws_toBoolS_l1, hj, hl, chk, gb, w64_succ, w64_id, Int.toNat_natCast, getD_ge, Bool.cond_decide, ltB, leB, ixB, nzB, nnB, sz_BoolS, sz_Panel]) (fun fuel l hl => by simp [m_laws_toBoolS_l1, ltB])
  have hc : mkB (x0.length : Int) = true := by simp [mkB]; omega
  simp only [m_laws_toBoolS, hc, chk_true, h, Option.bind_some]
theorem to_Panel (x0 : List Bool) (x1 : Int) (x2 : Int) (x3 : Bool) (x4 : Int) (hx0 : x0.length ≤ 1048576) : m_laws_toPanel x0 x1 x2 x3 x4 = some (x0, x1, x2, x3, x4) := by
  simp (disch := omega) [m_laws_toPanel, chk, gb, w64_succ, w64_id, Int.toNat_natCast, getD_ge, Bool.cond_decide, ltB, leB, ixB, nzB, nnB, sz_BoolS, sz_Panel, to_BoolS]
theorem to_Command (x0 : Int) (x1 : Int) (x2 : Int) (x3 : Bool)  : m_laws_toCommand x0 x1 x2 x3 = some (x0, x1, x2, x3) := by
  simp (disch := omega) [m_laws_toCommand, chk, gb, w64_succ, w64_id, Int.toNat_natCast, getD_ge, Bool.cond_decide, ltB, leB, ixB, nzB, nnB, sz_BoolS, sz_Panel, to_BoolS, to_Panel]
theorem eq_BoolS (x0 : List Bool) (hx0 : x0.length ≤ 1048576) : m_laws_eqBoolS x0 x0 = some true := by
  have h := eq_loop (m_laws_eqBoolS_l1 x0 x0) x0.length hx0 (some (.inl ())) (fun fuel j hj => by simp (disch := omega) [m_laws_eqBoolS_l1, hj, chk, gb, w64_succ, w64_id, Int.toNat_natCast, getD_ge, Bool.cond_decide, ltB, leB, ixB, nzB, nnB, sz_BoolS, sz_Panel, to_BoolS, to_Panel, to_Command]) (fun fuel => by simp [m_laws_eqBoolS_l1, ltB])
  simp [m_laws_eqBoolS, h]
theorem eq_Panel (x0 : List Bool) (x1 : Int) (x2 : Int) (x3 : Bool) (x4 : Int) (hx0 : x0.length ≤ 1048576) : m_laws_eqPanel x0 x1 x2 x3 x4 x0 x1 x2 x3 x4 = some true := by
  simp (disch := omega) [m_laws_eqPanel, chk, gb, w64_succ, w64_id, Int.toNat_natCast, getD_ge, Bool.cond_decide, ltB, leB, ixB, nzB, nnB, sz_BoolS, sz_Panel, to_BoolS, to_Panel, to_Command, eq_BoolS]
def mkBoolS (q : Int) : Bool := (Int.tmod q 3 == 0)
theorem mark_BoolS (x0 : List Bool) (x1 : Int) (hx0 : x0.length ≤ 1048576) (hk : 0 ≤ x1 ∧ x1 ≤ 33554432) : m_laws_markBoolS x0 x1 = some (x1 + 1 * (x0.length : Int), marksG mkBoolS 1 x1 x0.length) := by
  have h := mark_loop (m_laws_markBoolS_l1 x0) mkBoolS 1 (by decide) x0 x1 hx0 hk (fun fuel l q j hj hl h0 h1 => by simp (disch := omega) [m_laws_markBoolS_l1, hj, hl, mkBoolS, Int.add_assoc, chk, gb, w64_succ, w64_id, Int.toNat_natCast, getD_ge, Bool.cond_decide, ltB, leB, ixB, nzB, nnB]) (fun fuel l q hl => by simp [m_laws_markBoolS_l1, ltB])
  simp [m_laws_markBoolS, h]
theorem held_BoolS (n : Nat) (k : Int) (hn : n ≤ 1048576) (hk : 0 ≤ k ∧ k ≤ 33554432) : m_laws_heldBoolS (marksG mkBoolS 1 k n) k = some (k + 1 * (n : Int)) := by
  have h := held_loop (m_laws_heldBoolS_l1 (marksG mkBoolS 1 k n)) mkBoolS 1 (by decide) n k hn hk (fun fuel q j hj hq h0 h1 => by simp (disch := omega) [m_laws_heldBoolS_l1, hj, hq, marksG_len, mkBoolS, Int.add_assoc, chk, gb, w64_succ, w64_id, Int.toNat_natCast, ltB, leB, ixB]) (fun fuel q => by simp [m_laws_heldBoolS_l1, marksG_len, ltB])
  simp [m_laws_heldBoolS, h]
theorem sz_CommandS (x0 : List (Int × Int × Int × Bool)) (x1 : Int) (hx0 : x0.length ≤ 9223372036854775807) (h0 : 0 ≤ x1 ∧ x1 ≤ 1048576) : m_laws_szCommandS x0 x1 = some (if x1 < (x0.length : Int) then -1 else x1 - ((x0.length : Int))) := by
  simp (disch := omega) [m_laws_szCommandS, chk, gb, w64_succ, w64_id, Int.toNat_natCast, getD_ge, Bool.cond_decide, ltB, leB, ixB, nzB, nnB, sz_BoolS, sz_Panel, to_BoolS, to_Panel, to_Command, eq_BoolS, eq_Panel, mark_BoolS, m_laws_markPanel, held_BoolS, m_laws_heldPanel]
  try (repeat' split)
  all_goals first | rfl | omega | (congr 1; omega)
theorem to_CommandS (x0 : List (Int × Int × Int × Bool)) (hx0 : x0.length ≤ 1048576) : m_laws_toCommandS x0 = some x0 := by
  have h := to_loop (m_laws_toCommandS_l1 x0) x0 (List.replicate x0.length ((0, 0, 0, false) : Int × Int × Int × Bool)) (by simp) hx0 (fun fuel l j hj hl => by simp (disch := omega) [m_laws_toCommandS_l1, hj, hl, chk, gb, w64_succ, w64_id, Int.toNat_natCast, getD_ge, Bool.cond_decide, ltB, leB, ixB, nzB, nnB, sz_BoolS, sz_Panel, to_BoolS, to_Panel, to_Command, eq_BoolS, eq_Panel, mark_BoolS, m_laws_markPanel, held_BoolS, m_laws_heldPanel, sz_CommandS]) (fun fuel l hl => by simp [m_laws_toCommandS_l1, ltB])
  have hc : mkB (x0.length : Int) = true := by simp [mkB]; omega
  simp only [m_laws_toCommandS, hc, chk_true, h, Option.bind_some]
theorem eq_Command (x0 : Int) (x1 : Int) (x2 : Int) (x3 : Bool)  : m_laws_eqCommand x0 x1 x2 x3 x0 x1 x2 x3 = some true := by
  simp (disch := omega) [m_laws_eqCommand, chk, gb, w64_succ, w64_id, Int.toNat_natCast, getD_ge, Bool.cond_decide, ltB, leB, ixB, nzB, nnB, sz_BoolS, sz_Panel, to_BoolS, to_Panel, to_Command, eq_BoolS, eq_Panel, mark_BoolS, m_laws_markPanel, held_BoolS, m_laws_heldPanel, sz_CommandS, to_CommandS]
theorem eq_CommandS (x0 : List (Int × Int × Int × Bool)) (hx0 : x0.length ≤ 1048576) : m_laws_eqCommandS x0 x0 = some true := by
  have h := eq_loop (m_laws_eqCommandS_l1 x0 x0) x0.length hx0 (some (.inl ())) (fun fuel j hj => by simp (disch := omega) [m_laws_eqCommandS_l1, hj, chk, gb, w64_succ, w64_id, Int.toNat_natCast, getD_ge, Bool.cond_decide, ltB, leB, ixB, nzB, nnB, sz_BoolS, sz_Panel, to_BoolS, to_Panel, to_Command, eq_BoolS, eq_Panel, mark_BoolS, m_laws_markPanel, held_BoolS, m_laws_heldPanel, sz_CommandS, to_CommandS, eq_Command]) (fun fuel => by simp [m_laws_eqCommandS_l1, ltB])
  simp [m_laws_eqCommandS, h]
def mkCommandS (q : Int) : Int × Int × Int × Bool := (q, (q + 1), (q + 2), (Int.tmod (q + 3) 3 == 0))
theorem mark_CommandS (x0 : List (Int × Int × Int × Bool)) (x1 : Int) (hx0 : x0.length ≤ 1048576) (hk : 0 ≤ x1 ∧ x1 ≤ 33554432) : m_laws_markCommandS x0 x1 = some (x1 + 4 * (x0.length : Int), marksG mkCommandS 4 x1 x0.length) := by
  have h := mark_loop (m_laws_markCommandS_l1 x0) mkCommandS 4 (by decide) x0 x1 hx0 hk (fun fuel l q j hj hl h0 h1 => by simp (disch := omega) [m_laws_markCommandS_l1, hj, hl, mkCommandS, Int.add_assoc, chk, gb, w64_succ, w64_id, Int.toNat_natCast, getD_ge, Bool.cond_decide, ltB, leB, ixB, nzB, nnB]) (fun fuel l q hl => by simp [m_laws_markCommandS_l1, ltB])
  simp [m_laws_markCommandS, h]
theorem eq_Step (x0 : Int) (x1 : Bool)  : m_laws_eqStep x0 x1 x0 x1 = some true := by
  simp (disch := omega) [m_laws_eqStep, chk, gb, w64_succ, w64_id, Int.toNat_natCast, getD_ge, Bool.cond_decide, ltB, leB, ixB, nzB, nnB, sz_BoolS, sz_Panel, to_BoolS, to_Panel, to_Command, eq_BoolS, eq_Panel, mark_BoolS, m_laws_markPanel, held_BoolS, m_laws_heldPanel, sz_CommandS, to_CommandS, eq_Command, eq_CommandS, mark_CommandS]
theorem eq_StepS (x0 : List (Int × Bool)) (hx0 : x0.length ≤ 1048576) : m_laws_eqStepS x0 x0 = some true := by
  have h := eq_loop (m_laws_eqStepS_l1 x0 x0) x0.length hx0 (some (.inl ())) (fun fuel j hj => by simp (disch := omega) [m_laws_eqStepS_l1, hj, chk, gb, w64_succ, w64_id, Int.toNat_natCast, getD_ge, Bool.cond_decide, ltB, leB, ixB, nzB, nnB, sz_BoolS, sz_Panel, to_BoolS, to_Panel, to_Command, eq_BoolS, eq_Panel, mark_BoolS, m_laws_markPanel, held_BoolS, m_laws_heldPanel, sz_CommandS, to_CommandS, eq_Command, eq_CommandS, mark_CommandS, eq_Step]) (fun fuel => by simp [m_laws_eqStepS_l1, ltB])
  simp [m_laws_eqStepS, h]
def mkStepS (q : Int) : Int × Bool := (q, (Int.tmod (q + 1) 3 == 0))
theorem mark_StepS (x0 : List (Int × Bool)) (x1 : Int) (hx0 : x0.length ≤ 1048576) (hk : 0 ≤ x1 ∧ x1 ≤ 33554432) : m_laws_markStepS x0 x1 = some (x1 + 2 * (x0.length : Int), marksG mkStepS 2 x1 x0.length) := by
  have h := mark_loop (m_laws_markStepS_l1 x0) mkStepS 2 (by decide) x0 x1 hx0 hk (fun fuel l q j hj hl h0 h1 => by simp (disch := omega) [m_laws_markStepS_l1, hj, hl, mkStepS, Int.add_assoc, chk, gb, w64_succ, w64_id, Int.toNat_natCast, getD_ge, Bool.cond_decide, ltB, leB, ixB, nzB, nnB]) (fun fuel l q hl => by simp [m_laws_markStepS_l1, ltB])
  simp [m_laws_markStepS, h]
theorem held_StepS (n : Nat) (k : Int) (hn : n ≤ 1048576) (hk : 0 ≤ k ∧ k ≤ 33554432) : m_laws_heldStepS (marksG mkStepS 2 k n) k = some (k + 2 * (n : Int)) := by
  have h := held_loop (m_laws_heldStepS_l1 (marksG mkStepS 2 k n)) mkStepS 2 (by decide) n k hn hk (fun fuel q j hj hq h0 h1 => by simp (disch := omega) [m_laws_heldStepS_l1, hj, hq, marksG_len, mkStepS, Int.add_assoc, chk, gb, w64_succ, w64_id, Int.toNat_natCast, ltB, leB, ixB]) (fun fuel q => by simp [m_laws_heldStepS_l1, marksG_len, ltB])
  simp [m_laws_heldStepS, h]
end Go.Proofs.Ytapkaobelejkkaa
