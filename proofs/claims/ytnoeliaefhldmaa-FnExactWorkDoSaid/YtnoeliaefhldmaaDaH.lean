/- Plain laws of the helpers of the laws. -/
import Derived.Test.YtnoeliaefhldmaaPu
import Derived.Test.YtnoeliaefhldmaaDaM
namespace Go.Proofs.Ytnoeliaefhldmaa
set_option linter.unusedVariables false
set_option linter.unusedSimpArgs false

theorem sz_BoolS (x0 : List Bool) (x1 : Int) (hx0 : x0.length ≤ 9223372036854775807) (h0 : 0 ≤ x1 ∧ x1 ≤ 1048576) : m_laws_szBoolS x0 x1 = some (if x1 < (x0.length : Int) then -1 else x1 - ((x0.length : Int))) := by
  simp (disch := omega) [m_laws_szBoolS, chk, gb, w64_succ, w64_id, Int.toNat_natCast, getD_ge, Bool.cond_decide, ltB, leB, ixB, nzB, nnB]
  try (repeat' split)
  all_goals first | rfl | omega | (congr 1; omega)
theorem sz_PermitS (x0 : List (Int × Int)) (x1 : Int) (hx0 : x0.length ≤ 9223372036854775807) (h0 : 0 ≤ x1 ∧ x1 ≤ 1048576) : m_laws_szPermitS x0 x1 = some (if x1 < (x0.length : Int) then -1 else x1 - ((x0.length : Int))) := by
  simp (disch := omega) [m_laws_szPermitS, chk, gb, w64_succ, w64_id, Int.toNat_natCast, getD_ge, Bool.cond_decide, ltB, leB, ixB, nzB, nnB, sz_BoolS]
  try (repeat' split)
  all_goals first | rfl | omega | (congr 1; omega)
theorem sz_Work (x0 : List Bool) (x1 : List Bool) (x2 : List (Int × Int)) (x3 : Int) (hx0 : x0.length ≤ 9223372036854775807) (hx1 : x1.length ≤ 9223372036854775807) (hx2 : x2.length ≤ 9223372036854775807) (h0 : 0 ≤ x3 ∧ x3 ≤ 1048576) : m_laws_szWork x0 x1 x2 x3 = some (if x3 < (x0.length : Int) + (x1.length : Int) + (x2.length : Int) then -1 else x3 - ((x0.length : Int) + (x1.length : Int) + (x2.length : Int))) := by
  simp (disch := omega) [m_laws_szWork, chk, gb, w64_succ, w64_id, Int.toNat_natCast, getD_ge, Bool.cond_decide, ltB, leB, ixB, nzB, nnB, sz_BoolS, sz_PermitS]
  try (repeat' split)
  all_goals first | rfl | omega | (congr 1; omega)
theorem to_BoolS (x0 : List Bool) (hx0 : x0.length ≤ 1048576) : m_laws_toBoolS x0 = some x0 := by
  have h := to_loop (m_laws_toBoolS_l1 x0) x0 (List.replicate x0.length false) (by simp) hx0 (fun fuel l j hj hl => by simp (disch := omega) [m_laws_toBoolS_l1, hj, hl, chk, gb, w64_succ, w64_id, Int.toNat_natCast, getD_ge, Bool.cond_decide, ltB, leB, ixB, nzB, nnB, sz_BoolS, sz_PermitS, sz_Work]) (fun fuel l hl => by simp [m_laws_toBoolS_l1, ltB])
  have hc : mkB (x0.length : Int) = true := by simp [mkB]; omega
  simp only [m_laws_toBoolS, hc, chk_true, h, Option.bind_some]
theorem to_Permit (x0 : Int) (x1 : Int)  : m_laws_toPermit x0 x1 = some (x0, x1) := by
  simp (disch := omega) [m_laws_toPermit, chk, gb, w64_succ, w64_id, Int.toNat_natCast, getD_ge, Bool.cond_decide, ltB, leB, ixB, nzB, nnB, sz_BoolS, sz_PermitS, sz_Work, to_BoolS]
theorem to_PermitS (x0 : List (Int × Int)) (hx0 : x0.length ≤ 1048576) : m_laws_toPermitS x0 = some x0 := by
  have h := to_loop (m_laws_toPermitS_l1 x0) x0 (List.replicate x0.length ((0, 0) : Int × Int)) (by simp) hx0 (fun fuel l j hj hl => by simp (disch := omega) [m_laws_toPermitS_l1, hj, hl, chk, gb, w64_succ, w64_id, Int.toNat_natCast, getD_ge, Bool.cond_decide, ltB, leB, ixB, nzB, nnB, sz_BoolS, sz_PermitS, sz_Work, to_BoolS, to_Permit]) (fun fuel l hl => by simp [m_laws_toPermitS_l1, ltB])
  have hc : mkB (x0.length : Int) = true := by simp [mkB]; omega
  simp only [m_laws_toPermitS, hc, chk_true, h, Option.bind_some]
theorem to_Work (x0 : List Bool) (x1 : List Bool) (x2 : List (Int × Int)) (hx0 : x0.length ≤ 1048576) (hx1 : x1.length ≤ 1048576) (hx2 : x2.length ≤ 1048576) : m_laws_toWork x0 x1 x2 = some (x0, x1, x2) := by
  simp (disch := omega) [m_laws_toWork, chk, gb, w64_succ, w64_id, Int.toNat_natCast, getD_ge, Bool.cond_decide, ltB, leB, ixB, nzB, nnB, sz_BoolS, sz_PermitS, sz_Work, to_BoolS, to_Permit, to_PermitS]
theorem to_WorkDeed (x0 : Int) (x1 : Int) (x2 : Int)  : m_laws_toWorkDeed x0 x1 x2 = some (x0, x1, x2) := by
  simp (disch := omega) [m_laws_toWorkDeed, chk, gb, w64_succ, w64_id, Int.toNat_natCast, getD_ge, Bool.cond_decide, ltB, leB, ixB, nzB, nnB, sz_BoolS, sz_PermitS, sz_Work, to_BoolS, to_Permit, to_PermitS, to_Work]
theorem eq_BoolS (x0 : List Bool) (hx0 : x0.length ≤ 1048576) : m_laws_eqBoolS x0 x0 = some true := by
  have h := eq_loop (m_laws_eqBoolS_l1 x0 x0) x0.length hx0 (some (.inl ())) (fun fuel j hj => by simp (disch := omega) [m_laws_eqBoolS_l1, hj, chk, gb, w64_succ, w64_id, Int.toNat_natCast, getD_ge, Bool.cond_decide, ltB, leB, ixB, nzB, nnB, sz_BoolS, sz_PermitS, sz_Work, to_BoolS, to_Permit, to_PermitS, to_Work, to_WorkDeed]) (fun fuel => by simp [m_laws_eqBoolS_l1, ltB])
  simp [m_laws_eqBoolS, h]
theorem eq_Permit (x0 : Int) (x1 : Int)  : m_laws_eqPermit x0 x1 x0 x1 = some true := by
  simp (disch := omega) [m_laws_eqPermit, chk, gb, w64_succ, w64_id, Int.toNat_natCast, getD_ge, Bool.cond_decide, ltB, leB, ixB, nzB, nnB, sz_BoolS, sz_PermitS, sz_Work, to_BoolS, to_Permit, to_PermitS, to_Work, to_WorkDeed, eq_BoolS]
theorem eq_PermitS (x0 : List (Int × Int)) (hx0 : x0.length ≤ 1048576) : m_laws_eqPermitS x0 x0 = some true := by
  have h := eq_loop (m_laws_eqPermitS_l1 x0 x0) x0.length hx0 (some (.inl ())) (fun fuel j hj => by simp (disch := omega) [m_laws_eqPermitS_l1, hj, chk, gb, w64_succ, w64_id, Int.toNat_natCast, getD_ge, Bool.cond_decide, ltB, leB, ixB, nzB, nnB, sz_BoolS, sz_PermitS, sz_Work, to_BoolS, to_Permit, to_PermitS, to_Work, to_WorkDeed, eq_BoolS, eq_Permit]) (fun fuel => by simp [m_laws_eqPermitS_l1, ltB])
  simp [m_laws_eqPermitS, h]
theorem eq_Work (x0 : List Bool) (x1 : List Bool) (x2 : List (Int × Int)) (hx0 : x0.length ≤ 1048576) (hx1 : x1.length ≤ 1048576) (hx2 : x2.length ≤ 1048576) : m_laws_eqWork x0 x1 x2 x0 x1 x2 = some true := by
  simp (disch := omega) [m_laws_eqWork, chk, gb, w64_succ, w64_id, Int.toNat_natCast, getD_ge, Bool.cond_decide, ltB, leB, ixB, nzB, nnB, sz_BoolS, sz_PermitS, sz_Work, to_BoolS, to_Permit, to_PermitS, to_Work, to_WorkDeed, eq_BoolS, eq_Permit, eq_PermitS]
def mkBoolS (q : Int) : Bool := (Int.tmod q 3 == 0)
theorem mark_BoolS (x0 : List Bool) (x1 : Int) (hx0 : x0.length ≤ 1048576) (hk : 0 ≤ x1 ∧ x1 ≤ 33554432) : m_laws_markBoolS x0 x1 = some (x1 + 1 * (x0.length : Int), marksG mkBoolS 1 x1 x0.length) := by
  have h := mark_loop (m_laws_markBoolS_l1 x0) mkBoolS 1 (by decide) x0 x1 hx0 hk (fun fuel l q j hj hl h0 h1 => by simp (disch := omega) [m_laws_markBoolS_l1, hj, hl, mkBoolS, Int.add_assoc, chk, gb, w64_succ, w64_id, Int.toNat_natCast, getD_ge, Bool.cond_decide, ltB, leB, ixB, nzB, nnB]) (fun fuel l q hl => by simp [m_laws_markBoolS_l1, ltB])
  simp [m_laws_markBoolS, h]
def mkPermitS (q : Int) : Int × Int := (q, (q + 1))
theorem mark_PermitS (x0 : List (Int × Int)) (x1 : Int) (hx0 : x0.length ≤ 1048576) (hk : 0 ≤ x1 ∧ x1 ≤ 33554432) : m_laws_markPermitS x0 x1 = some (x1 + 2 * (x0.length : Int), marksG mkPermitS 2 x1 x0.length) := by
  have h := mark_loop (m_laws_markPermitS_l1 x0) mkPermitS 2 (by decide) x0 x1 hx0 hk (fun fuel l q j hj hl h0 h1 => by simp (disch := omega) [m_laws_markPermitS_l1, hj, hl, mkPermitS, Int.add_assoc, chk, gb, w64_succ, w64_id, Int.toNat_natCast, getD_ge, Bool.cond_decide, ltB, leB, ixB, nzB, nnB]) (fun fuel l q hl => by simp [m_laws_markPermitS_l1, ltB])
  simp [m_laws_markPermitS, h]
theorem held_BoolS (n : Nat) (k : Int) (hn : n ≤ 1048576) (hk : 0 ≤ k ∧ k ≤ 33554432) : m_laws_heldBoolS (marksG mkBoolS 1 k n) k = some (k + 1 * (n : Int)) := by
  have h := held_loop (m_laws_heldBoolS_l1 (marksG mkBoolS 1 k n)) mkBoolS 1 (by decide) n k hn hk (fun fuel q j hj hq h0 h1 => by simp (disch := omega) [m_laws_heldBoolS_l1, hj, hq, marksG_len, mkBoolS, Int.add_assoc, chk, gb, w64_succ, w64_id, Int.toNat_natCast, ltB, leB, ixB]) (fun fuel q => by simp [m_laws_heldBoolS_l1, marksG_len, ltB])
  simp [m_laws_heldBoolS, h]
theorem held_PermitS (n : Nat) (k : Int) (hn : n ≤ 1048576) (hk : 0 ≤ k ∧ k ≤ 33554432) : m_laws_heldPermitS (marksG mkPermitS 2 k n) k = some (k + 2 * (n : Int)) := by
  have h := held_loop (m_laws_heldPermitS_l1 (marksG mkPermitS 2 k n)) mkPermitS 2 (by decide) n k hn hk (fun fuel q j hj hq h0 h1 => by simp (disch := omega) [m_laws_heldPermitS_l1, hj, hq, marksG_len, mkPermitS, Int.add_assoc, chk, gb, w64_succ, w64_id, Int.toNat_natCast, ltB, leB, ixB]) (fun fuel q => by simp [m_laws_heldPermitS_l1, marksG_len, ltB])
  simp [m_laws_heldPermitS, h]
theorem sz_WorkDeedS (x0 : List (Int × Int × Int)) (x1 : Int) (hx0 : x0.length ≤ 9223372036854775807) (h0 : 0 ≤ x1 ∧ x1 ≤ 1048576) : m_laws_szWorkDeedS x0 x1 = some (if x1 < (x0.length : Int) then -1 else x1 - ((x0.length : Int))) := by
  simp (disch := omega) [m_laws_szWorkDeedS, chk, gb, w64_succ, w64_id, Int.toNat_natCast, getD_ge, Bool.cond_decide, ltB, leB, ixB, nzB, nnB, sz_BoolS, sz_PermitS, sz_Work, to_BoolS, to_Permit, to_PermitS, to_Work, to_WorkDeed, eq_BoolS, eq_Permit, eq_PermitS, eq_Work, mark_BoolS, mark_PermitS, m_laws_markWork, held_BoolS, held_PermitS, m_laws_heldWork]
  try (repeat' split)
  all_goals first | rfl | omega | (congr 1; omega)
theorem to_WorkDeedS (x0 : List (Int × Int × Int)) (hx0 : x0.length ≤ 1048576) : m_laws_toWorkDeedS x0 = some x0 := by
  have h := to_loop (m_laws_toWorkDeedS_l1 x0) x0 (List.replicate x0.length ((0, 0, 0) : Int × Int × Int)) (by simp) hx0 (fun fuel l j hj hl => by simp (disch := omega) [m_laws_toWorkDeedS_l1, hj, hl, chk, gb, w64_succ, w64_id, Int.toNat_natCast, getD_ge, Bool.cond_decide, ltB, leB, ixB, nzB, nnB, sz_BoolS, sz_PermitS, sz_Work, to_BoolS, to_Permit, to_PermitS, to_Work, to_WorkDeed, eq_BoolS, eq_Permit, eq_PermitS, eq_Work, mark_BoolS, mark_PermitS, m_laws_markWork, held_BoolS, held_PermitS, m_laws_heldWork, sz_WorkDeedS]) (fun fuel l hl => by simp [m_laws_toWorkDeedS_l1, ltB])
  have hc : mkB (x0.length : Int) = true := by simp [mkB]; omega
  simp only [m_laws_toWorkDeedS, hc, chk_true, h, Option.bind_some]
theorem eq_WorkDeed (x0 : Int) (x1 : Int) (x2 : Int)  : m_laws_eqWorkDeed x0 x1 x2 x0 x1 x2 = some true := by
  simp (disch := omega) [m_laws_eqWorkDeed, chk, gb, w64_succ, w64_id, Int.toNat_natCast, getD_ge, Bool.cond_decide, ltB, leB, ixB, nzB, nnB, sz_BoolS, sz_PermitS, sz_Work, to_BoolS, to_Permit, to_PermitS, to_Work, to_WorkDeed, eq_BoolS, eq_Permit, eq_PermitS, eq_Work, mark_BoolS, mark_PermitS, m_laws_markWork, held_BoolS, held_PermitS, m_laws_heldWork, sz_WorkDeedS, to_WorkDeedS]
theorem eq_WorkDeedS (x0 : List (Int × Int × Int)) (hx0 : x0.length ≤ 1048576) : m_laws_eqWorkDeedS x0 x0 = some true := by
  have h := eq_loop (m_laws_eqWorkDeedS_l1 x0 x0) x0.length hx0 (some (.inl ())) (fun fuel j hj => by simp (disch := omega) [m_laws_eqWorkDeedS_l1, hj, chk, gb, w64_succ, w64_id, Int.toNat_natCast, getD_ge, Bool.cond_decide, ltB, leB, ixB, nzB, nnB, sz_BoolS, sz_PermitS, sz_Work, to_BoolS, to_Permit, to_PermitS, to_Work, to_WorkDeed, eq_BoolS, eq_Permit, eq_PermitS, eq_Work, mark_BoolS, mark_PermitS, m_laws_markWork, held_BoolS, held_PermitS, m_laws_heldWork, sz_WorkDeedS, to_WorkDeedS, eq_WorkDeed]) (fun fuel => by simp [m_laws_eqWorkDeedS_l1, ltB])
  simp [m_laws_eqWorkDeedS, h]
def mkWorkDeedS (q : Int) : Int × Int × Int := (q, (q + 1), (q + 2))
theorem mark_WorkDeedS (x0 : List (Int × Int × Int)) (x1 : Int) (hx0 : x0.length ≤ 1048576) (hk : 0 ≤ x1 ∧ x1 ≤ 33554432) : m_laws_markWorkDeedS x0 x1 = some (x1 + 3 * (x0.length : Int), marksG mkWorkDeedS 3 x1 x0.length) := by
  have h := mark_loop (m_laws_markWorkDeedS_l1 x0) mkWorkDeedS 3 (by decide) x0 x1 hx0 hk (fun fuel l q j hj hl h0 h1 => by simp (disch := omega) [m_laws_markWorkDeedS_l1, hj, hl, mkWorkDeedS, Int.add_assoc, chk, gb, w64_succ, w64_id, Int.toNat_natCast, getD_ge, Bool.cond_decide, ltB, leB, ixB, nzB, nnB]) (fun fuel l q hl => by simp [m_laws_markWorkDeedS_l1, ltB])
  simp [m_laws_markWorkDeedS, h]
end Go.Proofs.Ytnoeliaefhldmaa
