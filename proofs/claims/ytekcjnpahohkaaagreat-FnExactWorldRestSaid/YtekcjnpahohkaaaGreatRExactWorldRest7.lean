/- Texts of the claim, one behind the other: DaH, DaX, DaO, Law. -/
import Derived.ChangeSame
import Derived.ChangeMaps5
import Derived.Carry
import Derived.Lib.SmallJoins
import Derived.JoinedOf
import Derived.Test.YtekcjnpahohkaaaGreatRExactWorldRest6
namespace Go.Proofs.YtekcjnpahohkaaaGreat
set_option linter.unusedVariables false
set_option linter.unusedSimpArgs false
theorem sz_LineS (x0 : List (Int × Int × Int)) (x1 : Int) (hx0 : x0.length ≤ 9223372036854775807) (h0 : 0 ≤ x1 ∧ x1 ≤ 1048576) : m_laws_szLineS x0 x1 = some (if x1 < (x0.length : Int) then -1 else x1 - ((x0.length : Int))) := by
  simp (disch := omega) [m_laws_szLineS, chk, gb, w64_succ, w64_id, Int.toNat_natCast, getD_ge, Bool.cond_decide, ltB, leB, ixB, nzB, nnB]
  try (repeat' split)
  all_goals first | rfl | omega | (congr 1; omega)
theorem sz_Net (x0 : Int) (x1 : List (Int × Int × Int)) (x2 : Int) (hx1 : x1.length ≤ 9223372036854775807) (h0 : 0 ≤ x2 ∧ x2 ≤ 1048576) : m_laws_szNet x0 x1 x2 = some (if x2 < (x1.length : Int) then -1 else x2 - ((x1.length : Int))) := by
  simp (disch := omega) [m_laws_szNet, chk, gb, w64_succ, w64_id, Int.toNat_natCast, getD_ge, Bool.cond_decide, ltB, leB, ixB, nzB, nnB, sz_LineS]
  try (repeat' split)
  all_goals first | rfl | omega | (congr 1; omega)
theorem sz_BusS (x0 : List (Int × Int)) (x1 : Int) (hx0 : x0.length ≤ 9223372036854775807) (h0 : 0 ≤ x1 ∧ x1 ≤ 1048576) : m_laws_szBusS x0 x1 = some (if x1 < (x0.length : Int) then -1 else x1 - ((x0.length : Int))) := by
  simp (disch := omega) [m_laws_szBusS, chk, gb, w64_succ, w64_id, Int.toNat_natCast, getD_ge, Bool.cond_decide, ltB, leB, ixB, nzB, nnB, sz_LineS, sz_Net]
  try (repeat' split)
  all_goals first | rfl | omega | (congr 1; omega)
theorem sz_BoolS (x0 : List Bool) (x1 : Int) (hx0 : x0.length ≤ 9223372036854775807) (h0 : 0 ≤ x1 ∧ x1 ≤ 1048576) : m_laws_szBoolS x0 x1 = some (if x1 < (x0.length : Int) then -1 else x1 - ((x0.length : Int))) := by
  simp (disch := omega) [m_laws_szBoolS, chk, gb, w64_succ, w64_id, Int.toNat_natCast, getD_ge, Bool.cond_decide, ltB, leB, ixB, nzB, nnB, sz_LineS, sz_Net, sz_BusS]
  try (repeat' split)
  all_goals first | rfl | omega | (congr 1; omega)
theorem sz_PermitS (x0 : List (Int × Int)) (x1 : Int) (hx0 : x0.length ≤ 9223372036854775807) (h0 : 0 ≤ x1 ∧ x1 ≤ 1048576) : m_laws_szPermitS x0 x1 = some (if x1 < (x0.length : Int) then -1 else x1 - ((x0.length : Int))) := by
  simp (disch := omega) [m_laws_szPermitS, chk, gb, w64_succ, w64_id, Int.toNat_natCast, getD_ge, Bool.cond_decide, ltB, leB, ixB, nzB, nnB, sz_LineS, sz_Net, sz_BusS, sz_BoolS]
  try (repeat' split)
  all_goals first | rfl | omega | (congr 1; omega)
theorem sz_Work (x0 : List Bool) (x1 : List Bool) (x2 : List (Int × Int)) (x3 : Int) (hx0 : x0.length ≤ 9223372036854775807) (hx1 : x1.length ≤ 9223372036854775807) (hx2 : x2.length ≤ 9223372036854775807) (h0 : 0 ≤ x3 ∧ x3 ≤ 1048576) : m_laws_szWork x0 x1 x2 x3 = some (if x3 < (x0.length : Int) + (x1.length : Int) + (x2.length : Int) then -1 else x3 - ((x0.length : Int) + (x1.length : Int) + (x2.length : Int))) := by
  simp (disch := omega) [m_laws_szWork, chk, gb, w64_succ, w64_id, Int.toNat_natCast, getD_ge, Bool.cond_decide, ltB, leB, ixB, nzB, nnB, sz_LineS, sz_Net, sz_BusS, sz_BoolS, sz_PermitS]
  try (repeat' split)
  all_goals first | rfl | omega | (congr 1; omega)
theorem sz_IntS (x0 : List Int) (x1 : Int) (hx0 : x0.length ≤ 9223372036854775807) (h0 : 0 ≤ x1 ∧ x1 ≤ 1048576) : m_laws_szIntS x0 x1 = some (if x1 < (x0.length : Int) then -1 else x1 - ((x0.length : Int))) := by
  simp (disch := omega) [m_laws_szIntS, chk, gb, w64_succ, w64_id, Int.toNat_natCast, getD_ge, Bool.cond_decide, ltB, leB, ixB, nzB, nnB, sz_LineS, sz_Net, sz_BusS, sz_BoolS, sz_PermitS, sz_Work]
  try (repeat' split)
  all_goals first | rfl | omega | (congr 1; omega)
theorem sz_World (x0 : Int) (x1 : List (Int × Int × Int)) (x2 : List (Int × Int)) (x3 : List Bool) (x4 : List Bool) (x5 : List (Int × Int)) (x6 : List Int) (x7 : Int) (hx1 : x1.length ≤ 9223372036854775807) (hx2 : x2.length ≤ 9223372036854775807) (hx3 : x3.length ≤ 9223372036854775807) (hx4 : x4.length ≤ 9223372036854775807) (hx5 : x5.length ≤ 9223372036854775807) (hx6 : x6.length ≤ 9223372036854775807) (h0 : 0 ≤ x7 ∧ x7 ≤ 1048576) : m_laws_szWorld x0 x1 x2 x3 x4 x5 x6 x7 = some (if x7 < (x1.length : Int) + (x2.length : Int) + (x3.length : Int) + (x4.length : Int) + (x5.length : Int) + (x6.length : Int) then -1 else x7 - ((x1.length : Int) + (x2.length : Int) + (x3.length : Int) + (x4.length : Int) + (x5.length : Int) + (x6.length : Int))) := by
  simp (disch := omega) [m_laws_szWorld, chk, gb, w64_succ, w64_id, Int.toNat_natCast, getD_ge, Bool.cond_decide, ltB, leB, ixB, nzB, nnB, sz_LineS, sz_Net, sz_BusS, sz_BoolS, sz_PermitS, sz_Work, sz_IntS]
  try (repeat' split)
  all_goals first | rfl | omega | (congr 1; omega)
theorem to_Line (x0 : Int) (x1 : Int) (x2 : Int)  : m_laws_toLine x0 x1 x2 = some (x0, x1, x2) := by
  simp (disch := omega) [m_laws_toLine, chk, gb, w64_succ, w64_id, Int.toNat_natCast, getD_ge, Bool.cond_decide, ltB, leB, ixB, nzB, nnB, sz_LineS, sz_Net, sz_BusS, sz_BoolS, sz_PermitS, sz_Work, sz_IntS, sz_World]
theorem to_LineS (x0 : List (Int × Int × Int)) (hx0 : x0.length ≤ 1048576) : m_laws_toLineS x0 = some x0 := by
  have h := to_loop (m_laws_toLineS_l1 x0) x0 (List.replicate x0.length ((0, 0, 0) : Int × Int × Int)) (by simp) hx0 (fun fuel l j hj hl => by simp (disch := omega) [e_laws_toLineS_l1, m_laws_toLineS_l1s, hj, hl, chk, gb, w64_succ, w64_id, Int.toNat_natCast, getD_ge, Bool.cond_decide, ltB, leB, ixB, nzB, nnB, sz_LineS, sz_Net, sz_BusS, sz_BoolS, sz_PermitS, sz_Work, sz_IntS, sz_World, to_Line]) (fun fuel l hl => by simp [e_laws_toLineS_l1, m_laws_toLineS_l1s, ltB])
  have hc : mkB (x0.length : Int) = true := by simp [mkB]; omega
  simp only [m_laws_toLineS, hc, chk_true, h, Option.bind_some]
theorem to_Net (x0 : Int) (x1 : List (Int × Int × Int)) (hx1 : x1.length ≤ 1048576) : m_laws_toNet x0 x1 = some (x0, x1) := by
  simp (disch := omega) [m_laws_toNet, chk, gb, w64_succ, w64_id, Int.toNat_natCast, getD_ge, Bool.cond_decide, ltB, leB, ixB, nzB, nnB, sz_LineS, sz_Net, sz_BusS, sz_BoolS, sz_PermitS, sz_Work, sz_IntS, sz_World, to_Line, to_LineS]
theorem to_Bus (x0 : Int) (x1 : Int)  : m_laws_toBus x0 x1 = some (x0, x1) := by
  simp (disch := omega) [m_laws_toBus, chk, gb, w64_succ, w64_id, Int.toNat_natCast, getD_ge, Bool.cond_decide, ltB, leB, ixB, nzB, nnB, sz_LineS, sz_Net, sz_BusS, sz_BoolS, sz_PermitS, sz_Work, sz_IntS, sz_World, to_Line, to_LineS, to_Net]
theorem to_BusS (x0 : List (Int × Int)) (hx0 : x0.length ≤ 1048576) : m_laws_toBusS x0 = some x0 := by
  have h := to_loop (m_laws_toBusS_l1 x0) x0 (List.replicate x0.length ((0, 0) : Int × Int)) (by simp) hx0 (fun fuel l j hj hl => by simp (disch := omega) [e_laws_toBusS_l1, m_laws_toBusS_l1s, hj, hl, chk, gb, w64_succ, w64_id, Int.toNat_natCast, getD_ge, Bool.cond_decide, ltB, leB, ixB, nzB, nnB, sz_LineS, sz_Net, sz_BusS, sz_BoolS, sz_PermitS, sz_Work, sz_IntS, sz_World, to_Line, to_LineS, to_Net, to_Bus]) (fun fuel l hl => by simp [e_laws_toBusS_l1, m_laws_toBusS_l1s, ltB])
  have hc : mkB (x0.length : Int) = true := by simp [mkB]; omega
  simp only [m_laws_toBusS, hc, chk_true, h, Option.bind_some]
theorem to_BoolS (x0 : List Bool) (hx0 : x0.length ≤ 1048576) : m_laws_toBoolS x0 = some x0 := by
  have h := to_loop (m_laws_toBoolS_l1 x0) x0 (List.replicate x0.length false) (by simp) hx0 (fun fuel l j hj hl => by simp (disch := omega) [e_laws_toBoolS_l1, m_laws_toBoolS_l1s, hj, hl, chk, gb, w64_succ, w64_id, Int.toNat_natCast, getD_ge, Bool.cond_decide, ltB, leB, ixB, nzB, nnB, sz_LineS, sz_Net, sz_BusS, sz_BoolS, sz_PermitS, sz_Work, sz_IntS, sz_World, to_Line, to_LineS, to_Net, to_Bus, to_BusS]) (fun fuel l hl => by simp [e_laws_toBoolS_l1, m_laws_toBoolS_l1s, ltB])
  have hc : mkB (x0.length : Int) = true := by simp [mkB]; omega
  simp only [m_laws_toBoolS, hc, chk_true, h, Option.bind_some]
theorem to_Permit (x0 : Int) (x1 : Int)  : m_laws_toPermit x0 x1 = some (x0, x1) := by
  simp (disch := omega) [m_laws_toPermit, chk, gb, w64_succ, w64_id, Int.toNat_natCast, getD_ge, Bool.cond_decide, ltB, leB, ixB, nzB, nnB, sz_LineS, sz_Net, sz_BusS, sz_BoolS, sz_PermitS, sz_Work, sz_IntS, sz_World, to_Line, to_LineS, to_Net, to_Bus, to_BusS, to_BoolS]
theorem to_PermitS (x0 : List (Int × Int)) (hx0 : x0.length ≤ 1048576) : m_laws_toPermitS x0 = some x0 := by
  have h := to_loop (m_laws_toPermitS_l1 x0) x0 (List.replicate x0.length ((0, 0) : Int × Int)) (by simp) hx0 (fun fuel l j hj hl => by simp (disch := omega) [e_laws_toPermitS_l1, m_laws_toPermitS_l1s, hj, hl, chk, gb, w64_succ, w64_id, Int.toNat_natCast, getD_ge, Bool.cond_decide, ltB, leB, ixB, nzB, nnB, sz_LineS, sz_Net, sz_BusS, sz_BoolS, sz_PermitS, sz_Work, sz_IntS, sz_World, to_Line, to_LineS, to_Net, to_Bus, to_BusS, to_BoolS, to_Permit]) (fun fuel l hl => by simp [e_laws_toPermitS_l1, m_laws_toPermitS_l1s, ltB])
  have hc : mkB (x0.length : Int) = true := by simp [mkB]; omega
  simp only [m_laws_toPermitS, hc, chk_true, h, Option.bind_some]
theorem to_Work (x0 : List Bool) (x1 : List Bool) (x2 : List (Int × Int)) (hx0 : x0.length ≤ 1048576) (hx1 : x1.length ≤ 1048576) (hx2 : x2.length ≤ 1048576) : m_laws_toWork x0 x1 x2 = some (x0, x1, x2) := by
  simp (disch := omega) [m_laws_toWork, chk, gb, w64_succ, w64_id, Int.toNat_natCast, getD_ge, Bool.cond_decide, ltB, leB, ixB, nzB, nnB, sz_LineS, sz_Net, sz_BusS, sz_BoolS, sz_PermitS, sz_Work, sz_IntS, sz_World, to_Line, to_LineS, to_Net, to_Bus, to_BusS, to_BoolS, to_Permit, to_PermitS]
theorem to_IntS (x0 : List Int) (hx0 : x0.length ≤ 1048576) : m_laws_toIntS x0 = some x0 := by
  have h := to_loop (m_laws_toIntS_l1 x0) x0 (List.replicate x0.length (0 : Int)) (by simp) hx0 (fun fuel l j hj hl => by simp (disch := omega) [e_laws_toIntS_l1, m_laws_toIntS_l1s, hj, hl, chk, gb, w64_succ, w64_id, Int.toNat_natCast, getD_ge, Bool.cond_decide, ltB, leB, ixB, nzB, nnB, sz_LineS, sz_Net, sz_BusS, sz_BoolS, sz_PermitS, sz_Work, sz_IntS, sz_World, to_Line, to_LineS, to_Net, to_Bus, to_BusS, to_BoolS, to_Permit, to_PermitS, to_Work]) (fun fuel l hl => by simp [e_laws_toIntS_l1, m_laws_toIntS_l1s, ltB])
  have hc : mkB (x0.length : Int) = true := by simp [mkB]; omega
  simp only [m_laws_toIntS, hc, chk_true, h, Option.bind_some]
theorem to_World (x0 : Int) (x1 : List (Int × Int × Int)) (x2 : List (Int × Int)) (x3 : List Bool) (x4 : List Bool) (x5 : List (Int × Int)) (x6 : List Int) (hx1 : x1.length ≤ 1048576) (hx2 : x2.length ≤ 1048576) (hx3 : x3.length ≤ 1048576) (hx4 : x4.length ≤ 1048576) (hx5 : x5.length ≤ 1048576) (hx6 : x6.length ≤ 1048576) : m_laws_toWorld x0 x1 x2 x3 x4 x5 x6 = some (x0, x1, x2, x3, x4, x5, x6) := by
  simp (disch := omega) [m_laws_toWorld, chk, gb, w64_succ, w64_id, Int.toNat_natCast, getD_ge, Bool.cond_decide, ltB, leB, ixB, nzB, nnB, sz_LineS, sz_Net, sz_BusS, sz_BoolS, sz_PermitS, sz_Work, sz_IntS, sz_World, to_Line, to_LineS, to_Net, to_Bus, to_BusS, to_BoolS, to_Permit, to_PermitS, to_Work, to_IntS]
theorem eq_Line (x0 : Int) (x1 : Int) (x2 : Int)  : m_laws_eqLine x0 x1 x2 x0 x1 x2 = some true := by
  simp (disch := omega) [m_laws_eqLine, chk, gb, w64_succ, w64_id, Int.toNat_natCast, getD_ge, Bool.cond_decide, ltB, leB, ixB, nzB, nnB, sz_LineS, sz_Net, sz_BusS, sz_BoolS, sz_PermitS, sz_Work, sz_IntS, sz_World, to_Line, to_LineS, to_Net, to_Bus, to_BusS, to_BoolS, to_Permit, to_PermitS, to_Work, to_IntS, to_World]
theorem eq_LineS (x0 : List (Int × Int × Int)) (hx0 : x0.length ≤ 1048576) : m_laws_eqLineS x0 x0 = some true := by
  have h := eq_loop (m_laws_eqLineS_l1 x0 x0) x0.length hx0 (some (.inl ())) (fun fuel j hj => by simp (disch := omega) [e_laws_eqLineS_l1, m_laws_eqLineS_l1s, hj, chk, gb, w64_succ, w64_id, Int.toNat_natCast, getD_ge, Bool.cond_decide, ltB, leB, ixB, nzB, nnB, sz_LineS, sz_Net, sz_BusS, sz_BoolS, sz_PermitS, sz_Work, sz_IntS, sz_World, to_Line, to_LineS, to_Net, to_Bus, to_BusS, to_BoolS, to_Permit, to_PermitS, to_Work, to_IntS, to_World, eq_Line]) (fun fuel => by simp [e_laws_eqLineS_l1, m_laws_eqLineS_l1s, ltB])
  simp [m_laws_eqLineS, h]
theorem eq_Net (x0 : Int) (x1 : List (Int × Int × Int)) (hx1 : x1.length ≤ 1048576) : m_laws_eqNet x0 x1 x0 x1 = some true := by
  simp (disch := omega) [m_laws_eqNet, chk, gb, w64_succ, w64_id, Int.toNat_natCast, getD_ge, Bool.cond_decide, ltB, leB, ixB, nzB, nnB, sz_LineS, sz_Net, sz_BusS, sz_BoolS, sz_PermitS, sz_Work, sz_IntS, sz_World, to_Line, to_LineS, to_Net, to_Bus, to_BusS, to_BoolS, to_Permit, to_PermitS, to_Work, to_IntS, to_World, eq_Line, eq_LineS]
theorem eq_Bus (x0 : Int) (x1 : Int)  : m_laws_eqBus x0 x1 x0 x1 = some true := by
  simp (disch := omega) [m_laws_eqBus, chk, gb, w64_succ, w64_id, Int.toNat_natCast, getD_ge, Bool.cond_decide, ltB, leB, ixB, nzB, nnB, sz_LineS, sz_Net, sz_BusS, sz_BoolS, sz_PermitS, sz_Work, sz_IntS, sz_World, to_Line, to_LineS, to_Net, to_Bus, to_BusS, to_BoolS, to_Permit, to_PermitS, to_Work, to_IntS, to_World, eq_Line, eq_LineS, eq_Net]
theorem eq_BusS (x0 : List (Int × Int)) (hx0 : x0.length ≤ 1048576) : m_laws_eqBusS x0 x0 = some true := by
  have h := eq_loop (m_laws_eqBusS_l1 x0 x0) x0.length hx0 (some (.inl ())) (fun fuel j hj => by simp (disch := omega) [e_laws_eqBusS_l1, m_laws_eqBusS_l1s, hj, chk, gb, w64_succ, w64_id, Int.toNat_natCast, getD_ge, Bool.cond_decide, ltB, leB, ixB, nzB, nnB, sz_LineS, sz_Net, sz_BusS, sz_BoolS, sz_PermitS, sz_Work, sz_IntS, sz_World, to_Line, to_LineS, to_Net, to_Bus, to_BusS, to_BoolS, to_Permit, to_PermitS, to_Work, to_IntS, to_World, eq_Line, eq_LineS, eq_Net, eq_Bus]) (fun fuel => by simp [e_laws_eqBusS_l1, m_laws_eqBusS_l1s, ltB])
  simp [m_laws_eqBusS, h]
theorem eq_BoolS (x0 : List Bool) (hx0 : x0.length ≤ 1048576) : m_laws_eqBoolS x0 x0 = some true := by
  have h := eq_loop (m_laws_eqBoolS_l1 x0 x0) x0.length hx0 (some (.inl ())) (fun fuel j hj => by simp (disch := omega) [e_laws_eqBoolS_l1, m_laws_eqBoolS_l1s, hj, chk, gb, w64_succ, w64_id, Int.toNat_natCast, getD_ge, Bool.cond_decide, ltB, leB, ixB, nzB, nnB, sz_LineS, sz_Net, sz_BusS, sz_BoolS, sz_PermitS, sz_Work, sz_IntS, sz_World, to_Line, to_LineS, to_Net, to_Bus, to_BusS, to_BoolS, to_Permit, to_PermitS, to_Work, to_IntS, to_World, eq_Line, eq_LineS, eq_Net, eq_Bus, eq_BusS]) (fun fuel => by simp [e_laws_eqBoolS_l1, m_laws_eqBoolS_l1s, ltB])
  simp [m_laws_eqBoolS, h]
theorem eq_Permit (x0 : Int) (x1 : Int)  : m_laws_eqPermit x0 x1 x0 x1 = some true := by
  simp (disch := omega) [m_laws_eqPermit, chk, gb, w64_succ, w64_id, Int.toNat_natCast, getD_ge, Bool.cond_decide, ltB, leB, ixB, nzB, nnB, sz_LineS, sz_Net, sz_BusS, sz_BoolS, sz_PermitS, sz_Work, sz_IntS, sz_World, to_Line, to_LineS, to_Net, to_Bus, to_BusS, to_BoolS, to_Permit, to_PermitS, to_Work, to_IntS, to_World, eq_Line, eq_LineS, eq_Net, eq_Bus, eq_BusS, eq_BoolS]
theorem eq_PermitS (x0 : List (Int × Int)) (hx0 : x0.length ≤ 1048576) : m_laws_eqPermitS x0 x0 = some true := by
  have h := eq_loop (m_laws_eqPermitS_l1 x0 x0) x0.length hx0 (some (.inl ())) (fun fuel j hj => by simp (disch := omega) [e_laws_eqPermitS_l1, m_laws_eqPermitS_l1s, hj, chk, gb, w64_succ, w64_id, Int.toNat_natCast, getD_ge, Bool.cond_decide, ltB, leB, ixB, nzB, nnB, sz_LineS, sz_Net, sz_BusS, sz_BoolS, sz_PermitS, sz_Work, sz_IntS, sz_World, to_Line, to_LineS, to_Net, to_Bus, to_BusS, to_BoolS, to_Permit, to_PermitS, to_Work, to_IntS, to_World, eq_Line, eq_LineS, eq_Net, eq_Bus, eq_BusS, eq_BoolS, eq_Permit]) (fun fuel => by simp [e_laws_eqPermitS_l1, m_laws_eqPermitS_l1s, ltB])
  simp [m_laws_eqPermitS, h]
theorem eq_Work (x0 : List Bool) (x1 : List Bool) (x2 : List (Int × Int)) (hx0 : x0.length ≤ 1048576) (hx1 : x1.length ≤ 1048576) (hx2 : x2.length ≤ 1048576) : m_laws_eqWork x0 x1 x2 x0 x1 x2 = some true := by
  simp (disch := omega) [m_laws_eqWork, chk, gb, w64_succ, w64_id, Int.toNat_natCast, getD_ge, Bool.cond_decide, ltB, leB, ixB, nzB, nnB, sz_LineS, sz_Net, sz_BusS, sz_BoolS, sz_PermitS, sz_Work, sz_IntS, sz_World, to_Line, to_LineS, to_Net, to_Bus, to_BusS, to_BoolS, to_Permit, to_PermitS, to_Work, to_IntS, to_World, eq_Line, eq_LineS, eq_Net, eq_Bus, eq_BusS, eq_BoolS, eq_Permit, eq_PermitS]
theorem eq_IntS (x0 : List Int) (hx0 : x0.length ≤ 1048576) : m_laws_eqIntS x0 x0 = some true := by
  have h := eq_loop (m_laws_eqIntS_l1 x0 x0) x0.length hx0 (some (.inl ())) (fun fuel j hj => by simp (disch := omega) [e_laws_eqIntS_l1, m_laws_eqIntS_l1s, hj, chk, gb, w64_succ, w64_id, Int.toNat_natCast, getD_ge, Bool.cond_decide, ltB, leB, ixB, nzB, nnB, sz_LineS, sz_Net, sz_BusS, sz_BoolS, sz_PermitS, sz_Work, sz_IntS, sz_World, to_Line, to_LineS, to_Net, to_Bus, to_BusS, to_BoolS, to_Permit, to_PermitS, to_Work, to_IntS, to_World, eq_Line, eq_LineS, eq_Net, eq_Bus, eq_BusS, eq_BoolS, eq_Permit, eq_PermitS, eq_Work]) (fun fuel => by simp [e_laws_eqIntS_l1, m_laws_eqIntS_l1s, ltB])
  simp [m_laws_eqIntS, h]
theorem eq_World (x0 : Int) (x1 : List (Int × Int × Int)) (x2 : List (Int × Int)) (x3 : List Bool) (x4 : List Bool) (x5 : List (Int × Int)) (x6 : List Int) (hx1 : x1.length ≤ 1048576) (hx2 : x2.length ≤ 1048576) (hx3 : x3.length ≤ 1048576) (hx4 : x4.length ≤ 1048576) (hx5 : x5.length ≤ 1048576) (hx6 : x6.length ≤ 1048576) : m_laws_eqWorld x0 x1 x2 x3 x4 x5 x6 x0 x1 x2 x3 x4 x5 x6 = some true := by
  simp (disch := omega) [m_laws_eqWorld, chk, gb, w64_succ, w64_id, Int.toNat_natCast, getD_ge, Bool.cond_decide, ltB, leB, ixB, nzB, nnB, sz_LineS, sz_Net, sz_BusS, sz_BoolS, sz_PermitS, sz_Work, sz_IntS, sz_World, to_Line, to_LineS, to_Net, to_Bus, to_BusS, to_BoolS, to_Permit, to_PermitS, to_Work, to_IntS, to_World, eq_Line, eq_LineS, eq_Net, eq_Bus, eq_BusS, eq_BoolS, eq_Permit, eq_PermitS, eq_Work, eq_IntS]
def mkLineS (q : Int) : Int × Int × Int := (q, (q + 1), (q + 2))
theorem mark_LineS (x0 : List (Int × Int × Int)) (x1 : Int) (hx0 : x0.length ≤ 1048576) (hk : 0 ≤ x1 ∧ x1 ≤ 33554432) : m_laws_markLineS x0 x1 = some (x1 + 3 * (x0.length : Int), marksG mkLineS 3 x1 x0.length) := by
  have h := mark_loop (m_laws_markLineS_l1 x0) mkLineS 3 (by decide) x0 x1 hx0 hk (fun fuel l q j hj hl h0 h1 => by simp (disch := omega) [e_laws_markLineS_l1, m_laws_markLineS_l1s, hj, hl, mkLineS, Int.add_assoc, chk, gb, w64_succ, w64_id, Int.toNat_natCast, getD_ge, Bool.cond_decide, ltB, leB, ixB, nzB, nnB]) (fun fuel l q hl => by simp [e_laws_markLineS_l1, m_laws_markLineS_l1s, ltB])
  simp [m_laws_markLineS, h]
def mkBusS (q : Int) : Int × Int := (q, (q + 1))
theorem mark_BusS (x0 : List (Int × Int)) (x1 : Int) (hx0 : x0.length ≤ 1048576) (hk : 0 ≤ x1 ∧ x1 ≤ 33554432) : m_laws_markBusS x0 x1 = some (x1 + 2 * (x0.length : Int), marksG mkBusS 2 x1 x0.length) := by
  have h := mark_loop (m_laws_markBusS_l1 x0) mkBusS 2 (by decide) x0 x1 hx0 hk (fun fuel l q j hj hl h0 h1 => by simp (disch := omega) [e_laws_markBusS_l1, m_laws_markBusS_l1s, hj, hl, mkBusS, Int.add_assoc, chk, gb, w64_succ, w64_id, Int.toNat_natCast, getD_ge, Bool.cond_decide, ltB, leB, ixB, nzB, nnB]) (fun fuel l q hl => by simp [e_laws_markBusS_l1, m_laws_markBusS_l1s, ltB])
  simp [m_laws_markBusS, h]
def mkBoolS (q : Int) : Bool := (Int.tmod q 3 == 0)
theorem mark_BoolS (x0 : List Bool) (x1 : Int) (hx0 : x0.length ≤ 1048576) (hk : 0 ≤ x1 ∧ x1 ≤ 33554432) : m_laws_markBoolS x0 x1 = some (x1 + 1 * (x0.length : Int), marksG mkBoolS 1 x1 x0.length) := by
  have h := mark_loop (m_laws_markBoolS_l1 x0) mkBoolS 1 (by decide) x0 x1 hx0 hk (fun fuel l q j hj hl h0 h1 => by simp (disch := omega) [e_laws_markBoolS_l1, m_laws_markBoolS_l1s, hj, hl, mkBoolS, Int.add_assoc, chk, gb, w64_succ, w64_id, Int.toNat_natCast, getD_ge, Bool.cond_decide, ltB, leB, ixB, nzB, nnB]) (fun fuel l q hl => by simp [e_laws_markBoolS_l1, m_laws_markBoolS_l1s, ltB])
  simp [m_laws_markBoolS, h]
def mkPermitS (q : Int) : Int × Int := (q, (q + 1))
theorem mark_PermitS (x0 : List (Int × Int)) (x1 : Int) (hx0 : x0.length ≤ 1048576) (hk : 0 ≤ x1 ∧ x1 ≤ 33554432) : m_laws_markPermitS x0 x1 = some (x1 + 2 * (x0.length : Int), marksG mkPermitS 2 x1 x0.length) := by
  have h := mark_loop (m_laws_markPermitS_l1 x0) mkPermitS 2 (by decide) x0 x1 hx0 hk (fun fuel l q j hj hl h0 h1 => by simp (disch := omega) [e_laws_markPermitS_l1, m_laws_markPermitS_l1s, hj, hl, mkPermitS, Int.add_assoc, chk, gb, w64_succ, w64_id, Int.toNat_natCast, getD_ge, Bool.cond_decide, ltB, leB, ixB, nzB, nnB]) (fun fuel l q hl => by simp [e_laws_markPermitS_l1, m_laws_markPermitS_l1s, ltB])
  simp [m_laws_markPermitS, h]
def mkIntS (q : Int) : Int := q
theorem mark_IntS (x0 : List Int) (x1 : Int) (hx0 : x0.length ≤ 1048576) (hk : 0 ≤ x1 ∧ x1 ≤ 33554432) : m_laws_markIntS x0 x1 = some (x1 + 1 * (x0.length : Int), marksG mkIntS 1 x1 x0.length) := by
  have h := mark_loop (m_laws_markIntS_l1 x0) mkIntS 1 (by decide) x0 x1 hx0 hk (fun fuel l q j hj hl h0 h1 => by simp (disch := omega) [e_laws_markIntS_l1, m_laws_markIntS_l1s, hj, hl, mkIntS, Int.add_assoc, chk, gb, w64_succ, w64_id, Int.toNat_natCast, getD_ge, Bool.cond_decide, ltB, leB, ixB, nzB, nnB]) (fun fuel l q hl => by simp [e_laws_markIntS_l1, m_laws_markIntS_l1s, ltB])
  simp [m_laws_markIntS, h]
theorem held_LineS (n : Nat) (k : Int) (hn : n ≤ 1048576) (hk : 0 ≤ k ∧ k ≤ 33554432) : m_laws_heldLineS (marksG mkLineS 3 k n) k = some (k + 3 * (n : Int)) := by
  have h := held_loop (m_laws_heldLineS_l1 (marksG mkLineS 3 k n)) mkLineS 3 (by decide) n k hn hk (fun fuel q j hj hq h0 h1 => by simp (disch := omega) [e_laws_heldLineS_l1, m_laws_heldLineS_l1s, hj, hq, marksG_len, mkLineS, Int.add_assoc, chk, gb, w64_succ, w64_id, Int.toNat_natCast, ltB, leB, ixB]) (fun fuel q => by simp [e_laws_heldLineS_l1, m_laws_heldLineS_l1s, marksG_len, ltB])
  simp [m_laws_heldLineS, h]
theorem held_BusS (n : Nat) (k : Int) (hn : n ≤ 1048576) (hk : 0 ≤ k ∧ k ≤ 33554432) : m_laws_heldBusS (marksG mkBusS 2 k n) k = some (k + 2 * (n : Int)) := by
  have h := held_loop (m_laws_heldBusS_l1 (marksG mkBusS 2 k n)) mkBusS 2 (by decide) n k hn hk (fun fuel q j hj hq h0 h1 => by simp (disch := omega) [e_laws_heldBusS_l1, m_laws_heldBusS_l1s, hj, hq, marksG_len, mkBusS, Int.add_assoc, chk, gb, w64_succ, w64_id, Int.toNat_natCast, ltB, leB, ixB]) (fun fuel q => by simp [e_laws_heldBusS_l1, m_laws_heldBusS_l1s, marksG_len, ltB])
  simp [m_laws_heldBusS, h]
theorem held_BoolS (n : Nat) (k : Int) (hn : n ≤ 1048576) (hk : 0 ≤ k ∧ k ≤ 33554432) : m_laws_heldBoolS (marksG mkBoolS 1 k n) k = some (k + 1 * (n : Int)) := by
  have h := held_loop (m_laws_heldBoolS_l1 (marksG mkBoolS 1 k n)) mkBoolS 1 (by decide) n k hn hk (fun fuel q j hj hq h0 h1 => by simp (disch := omega) [e_laws_heldBoolS_l1, m_laws_heldBoolS_l1s, hj, hq, marksG_len, mkBoolS, Int.add_assoc, chk, gb, w64_succ, w64_id, Int.toNat_natCast, ltB, leB, ixB]) (fun fuel q => by simp [e_laws_heldBoolS_l1, m_laws_heldBoolS_l1s, marksG_len, ltB])
  simp [m_laws_heldBoolS, h]
theorem held_PermitS (n : Nat) (k : Int) (hn : n ≤ 1048576) (hk : 0 ≤ k ∧ k ≤ 33554432) : m_laws_heldPermitS (marksG mkPermitS 2 k n) k = some (k + 2 * (n : Int)) := by
  have h := held_loop (m_laws_heldPermitS_l1 (marksG mkPermitS 2 k n)) mkPermitS 2 (by decide) n k hn hk (fun fuel q j hj hq h0 h1 => by simp (disch := omega) [e_laws_heldPermitS_l1, m_laws_heldPermitS_l1s, hj, hq, marksG_len, mkPermitS, Int.add_assoc, chk, gb, w64_succ, w64_id, Int.toNat_natCast, ltB, leB, ixB]) (fun fuel q => by simp [e_laws_heldPermitS_l1, m_laws_heldPermitS_l1s, marksG_len, ltB])
  simp [m_laws_heldPermitS, h]
theorem held_IntS (n : Nat) (k : Int) (hn : n ≤ 1048576) (hk : 0 ≤ k ∧ k ≤ 33554432) : m_laws_heldIntS (marksG mkIntS 1 k n) k = some (k + 1 * (n : Int)) := by
  have h := held_loop (m_laws_heldIntS_l1 (marksG mkIntS 1 k n)) mkIntS 1 (by decide) n k hn hk (fun fuel q j hj hq h0 h1 => by simp (disch := omega) [e_laws_heldIntS_l1, m_laws_heldIntS_l1s, hj, hq, marksG_len, mkIntS, Int.add_assoc, chk, gb, w64_succ, w64_id, Int.toNat_natCast, ltB, leB, ixB]) (fun fuel q => by simp [e_laws_heldIntS_l1, m_laws_heldIntS_l1s, marksG_len, ltB])
  simp [m_laws_heldIntS, h]
end Go.Proofs.YtekcjnpahohkaaaGreat
namespace Go.Proofs.YtekcjnpahohkaaaGreat
set_option linter.unusedVariables false
set_option linter.unusedSimpArgs false
set_option maxHeartbeats 4000000
theorem exactWorldRest_of (x0 : Int) (x1 : List (Int × Int × Int)) (x2 : List (Int × Int)) (x3 : List Bool) (x4 : List Bool) (x5 : List (Int × Int)) (x6 : List Int) (hx1 : x1.length ≤ 9223372036854775807) (hx2 : x2.length ≤ 9223372036854775807) (hx3 : x3.length ≤ 9223372036854775807) (hx4 : x4.length ≤ 9223372036854775807) (hx5 : x5.length ≤ 9223372036854775807) (hx6 : x6.length ≤ 9223372036854775807) (hcore : x1.length ≤ 1048576 → x2.length ≤ 1048576 → x3.length ≤ 1048576 → x4.length ≤ 1048576 → x5.length ≤ 1048576 → x6.length ≤ 1048576 → ∃ r, m_spec_WorldRest x0 x1 x2 x3 x4 x5 x6 = some r ∧ m_impl_WorldRest x0 x1 x2 x3 x4 x5 x6 = some r ∧ r.2.1.length ≤ 1048576 ∧ r.2.2.1.length ≤ 1048576 ∧ r.2.2.2.1.length ≤ 1048576 ∧ r.2.2.2.2.1.length ≤ 1048576 ∧ r.2.2.2.2.2.1.length ≤ 1048576 ∧ r.2.2.2.2.2.2.length ≤ 1048576) : m_laws_FnExactWorldRest x0 x1 x2 x3 x4 x5 x6 = some true := by
  unfold m_laws_FnExactWorldRest
  rw [sz_World x0 x1 x2 x3 x4 x5 x6 1048576 hx1 hx2 hx3 hx4 hx5 hx6 (by omega)]
  by_cases s0 : 1048576 < (x1.length : Int) + (x2.length : Int) + (x3.length : Int) + (x4.length : Int) + (x5.length : Int) + (x6.length : Int)
  · simp [s0, ltB]
  rw [if_neg s0, Option.bind_some, ltB0 (by omega), cond_false]
  obtain ⟨r, hs, hi, b1, b2, b3, b4, b5, b6⟩ := hcore (by omega) (by omega) (by omega) (by omega) (by omega) (by omega)
  simp (disch := omega) only [Option.bind_some, cond_false, cond_true, hs, hi, bne_self_eq_false, Bool.not_true, Bool.not_false, Bool.or_false, Bool.false_or, Bool.or_self, gb, ltB0, to_Line, to_LineS, to_Net, to_Bus, to_BusS, to_BoolS, to_Permit, to_PermitS, to_Work, to_IntS, to_World, eq_Line, eq_LineS, eq_Net, eq_Bus, eq_BusS, eq_BoolS, eq_Permit, eq_PermitS, eq_Work, eq_IntS, eq_World, mark_LineS, m_laws_markNet, mark_BusS, mark_BoolS, mark_PermitS, m_laws_markWork, mark_IntS, m_laws_markWorld, held_LineS, m_laws_heldNet, held_BusS, held_BoolS, held_PermitS, m_laws_heldWork, held_IntS, m_laws_heldWorld]
end Go.Proofs.YtekcjnpahohkaaaGreat
namespace Go.Proofs.YtekcjnpahohkaaaGreat
open Go.ChangeShapes Go.WideShapes Go.ChangeAt Go.RowKit Go.Deep
set_option linter.unusedVariables false
set_option linter.unusedSimpArgs false
set_option maxRecDepth 100000
section
variable {H : Type} {enc : TypeId × Value → H} {w : World} {base : Nat} {spare : Nat → Bool} {held : Bool}
theorem tr3 {fuel : Nat} {cs : List Value} {x : DataW H × List MemPlace} (h : DataW.trod enc Tryz.prog w base spare held fuel 3 cs = some x) :
    ∃ (y0 : Int), cs = [.int .i64 y0] ∧ inR y0 := by
  obtain ⟨n, rfl, _, hw⟩ := DataW.trod_int Tryz.underlying3 h
  exact ⟨n, rfl, Go.bounds_i64 hw⟩
theorem tr115 {fuel : Nat} {cs : List Value} {x : DataW H × List MemPlace} (h : DataW.trod enc Tryz.prog w base spare held fuel 115 cs = some x) :
    ∃ (y0 : Int) (y1 : Int) (y2 : Int), cs = [.int .i64 y0, .int .i64 y1, .int .i64 y2] ∧ inR y0 ∧ inR y1 ∧ inR y2 := by
  obtain ⟨xs, n, _, rfl, hl, hlen, hf⟩ := DataW.trod_struct Tryz.underlying115 h
  have hc : Tryz.prog.cellsOf 115 = 3 := by kernel_rfl
  rw [hc] at hl
  have h0 : DataW.trod enc Tryz.prog w base spare held n 3 ((cs.drop 0).take (Tryz.prog.cellsOf 3)) = xs[0]? := hf 0 _ rfl
  have c0 : Tryz.prog.cellsOf 3 = 1 := by kernel_rfl
  obtain ⟨q0, hq0⟩ : ∃ q, xs[0]? = some q := ⟨_, List.getElem?_eq_getElem (by rw [hlen]; decide)⟩
  rw [hq0, c0] at h0
  obtain ⟨y0, e0, w0_0⟩ := tr3 h0
  have h1 : DataW.trod enc Tryz.prog w base spare held n 3 ((cs.drop 1).take (Tryz.prog.cellsOf 3)) = xs[1]? := hf 1 _ rfl
  have c1 : Tryz.prog.cellsOf 3 = 1 := by kernel_rfl
  obtain ⟨q1, hq1⟩ : ∃ q, xs[1]? = some q := ⟨_, List.getElem?_eq_getElem (by rw [hlen]; decide)⟩
  rw [hq1, c1] at h1
  obtain ⟨y1, e1, w1_0⟩ := tr3 h1
  have h2 : DataW.trod enc Tryz.prog w base spare held n 3 ((cs.drop 2).take (Tryz.prog.cellsOf 3)) = xs[2]? := hf 2 _ rfl
  have c2 : Tryz.prog.cellsOf 3 = 1 := by kernel_rfl
  obtain ⟨q2, hq2⟩ : ∃ q, xs[2]? = some q := ⟨_, List.getElem?_eq_getElem (by rw [hlen]; decide)⟩
  rw [hq2, c2] at h2
  obtain ⟨y2, e2, w2_0⟩ := tr3 h2
  match cs, hl with
  | [u0, u1, u2], _ =>
    simp at e0 e1 e2
    subst e0; subst e1; subst e2
    exact ⟨y0, y1, y2, rfl, w0_0, w1_0, w2_0⟩
theorem tr22 {fuel : Nat} {cs : List Value} {x : DataW H × List MemPlace} (h : DataW.trod enc Tryz.prog w base spare held fuel 22 cs = some x) :
    ∃ (A0 : Option Addr) (y0 : List (Int × Int × Int)) (k0 : Nat), cs = [.slice A0 y0.length k0] ∧ Rc w 3 A0 y0.length k0 (y0.flatMap eLLine) ∧ y0.length ≤ maxLen ∧ (∀ z ∈ y0, inR z.1 ∧ inR z.2.1 ∧ inR z.2.2) := by
  obtain ⟨A, l, cap, e1, e2, e3, e4⟩ := open_list (fun b : {y : Int × Int × Int // inR y.1 ∧ inR y.2.1 ∧ inR y.2.2} => eLLine b.1) (size := 3) (fun b => eLLine_len b.1) (by decide) Tryz.underlying22 (by kernel_rfl) (fun fuel cs x hx => by
    obtain ⟨z0, z1, z2, rfl, g0, g1, g2⟩ := tr115 hx
    exact ⟨⟨(z0, z1, z2), ⟨g0, g1, g2⟩⟩, rfl⟩) h
  refine ⟨A, l.map (·.1), cap, by simpa using e1, ⟨by simpa [List.flatMap_map] using e2, by simpa using e3⟩, by simpa using Nat.le_trans e3 e4, fun z hz => ?_⟩
  obtain ⟨q, _, rfl⟩ := List.mem_map.1 hz
  exact q.2
theorem tr24 {fuel : Nat} {cs : List Value} {x : DataW H × List MemPlace} (h : DataW.trod enc Tryz.prog w base spare held fuel 24 cs = some x) :
    ∃ (y0 : Int) (A1 : Option Addr) (y1 : List (Int × Int × Int)) (k1 : Nat), cs = [.int .i64 y0, .slice A1 y1.length k1] ∧ inR y0 ∧ Rc w 3 A1 y1.length k1 (y1.flatMap eLLine) ∧ y1.length ≤ maxLen ∧ (∀ z ∈ y1, inR z.1 ∧ inR z.2.1 ∧ inR z.2.2) := by
  obtain ⟨xs, n, _, rfl, hl, hlen, hf⟩ := DataW.trod_struct Tryz.underlying24 h
  have hc : Tryz.prog.cellsOf 24 = 2 := by kernel_rfl
  rw [hc] at hl
  have h0 : DataW.trod enc Tryz.prog w base spare held n 3 ((cs.drop 0).take (Tryz.prog.cellsOf 3)) = xs[0]? := hf 0 _ rfl
  have c0 : Tryz.prog.cellsOf 3 = 1 := by kernel_rfl
  obtain ⟨q0, hq0⟩ : ∃ q, xs[0]? = some q := ⟨_, List.getElem?_eq_getElem (by rw [hlen]; decide)⟩
  rw [hq0, c0] at h0
  obtain ⟨y0, e0, w0_0⟩ := tr3 h0
  have h1 : DataW.trod enc Tryz.prog w base spare held n 22 ((cs.drop 1).take (Tryz.prog.cellsOf 22)) = xs[1]? := hf 1 _ rfl
  have c1 : Tryz.prog.cellsOf 22 = 1 := by kernel_rfl
  obtain ⟨q1, hq1⟩ : ∃ q, xs[1]? = some q := ⟨_, List.getElem?_eq_getElem (by rw [hlen]; decide)⟩
  rw [hq1, c1] at h1
  obtain ⟨A1, y1, k1, e1, w1_0, w1_1, w1_2⟩ := tr22 h1
  match cs, hl with
  | [u0, u1], _ =>
    simp at e0 e1
    subst e0; subst e1
    exact ⟨y0, A1, y1, k1, rfl, w0_0, w1_0, w1_1, w1_2⟩
theorem tr87 {fuel : Nat} {cs : List Value} {x : DataW H × List MemPlace} (h : DataW.trod enc Tryz.prog w base spare held fuel 87 cs = some x) :
    ∃ (y0 : Int) (y1 : Int), cs = [.int .i64 y0, .int .i64 y1] ∧ inR y0 ∧ inR y1 := by
  obtain ⟨xs, n, _, rfl, hl, hlen, hf⟩ := DataW.trod_struct Tryz.underlying87 h
  have hc : Tryz.prog.cellsOf 87 = 2 := by kernel_rfl
  rw [hc] at hl
  have h0 : DataW.trod enc Tryz.prog w base spare held n 3 ((cs.drop 0).take (Tryz.prog.cellsOf 3)) = xs[0]? := hf 0 _ rfl
  have c0 : Tryz.prog.cellsOf 3 = 1 := by kernel_rfl
  obtain ⟨q0, hq0⟩ : ∃ q, xs[0]? = some q := ⟨_, List.getElem?_eq_getElem (by rw [hlen]; decide)⟩
  rw [hq0, c0] at h0
  obtain ⟨y0, e0, w0_0⟩ := tr3 h0
  have h1 : DataW.trod enc Tryz.prog w base spare held n 3 ((cs.drop 1).take (Tryz.prog.cellsOf 3)) = xs[1]? := hf 1 _ rfl
  have c1 : Tryz.prog.cellsOf 3 = 1 := by kernel_rfl
  obtain ⟨q1, hq1⟩ : ∃ q, xs[1]? = some q := ⟨_, List.getElem?_eq_getElem (by rw [hlen]; decide)⟩
  rw [hq1, c1] at h1
  obtain ⟨y1, e1, w1_0⟩ := tr3 h1
  match cs, hl with
  | [u0, u1], _ =>
    simp at e0 e1
    subst e0; subst e1
    exact ⟨y0, y1, rfl, w0_0, w1_0⟩
theorem tr25 {fuel : Nat} {cs : List Value} {x : DataW H × List MemPlace} (h : DataW.trod enc Tryz.prog w base spare held fuel 25 cs = some x) :
    ∃ (A0 : Option Addr) (y0 : List (Int × Int)) (k0 : Nat), cs = [.slice A0 y0.length k0] ∧ Rc w 2 A0 y0.length k0 (y0.flatMap eLBus) ∧ y0.length ≤ maxLen ∧ (∀ z ∈ y0, inR z.1 ∧ inR z.2) := by
  obtain ⟨A, l, cap, e1, e2, e3, e4⟩ := open_list (fun b : {y : Int × Int // inR y.1 ∧ inR y.2} => eLBus b.1) (size := 2) (fun b => eLBus_len b.1) (by decide) Tryz.underlying25 (by kernel_rfl) (fun fuel cs x hx => by
    obtain ⟨z0, z1, rfl, g0, g1⟩ := tr87 hx
    exact ⟨⟨(z0, z1), ⟨g0, g1⟩⟩, rfl⟩) h
  refine ⟨A, l.map (·.1), cap, by simpa using e1, ⟨by simpa [List.flatMap_map] using e2, by simpa using e3⟩, by simpa using Nat.le_trans e3 e4, fun z hz => ?_⟩
  obtain ⟨q, _, rfl⟩ := List.mem_map.1 hz
  exact q.2
theorem tr4 {fuel : Nat} {cs : List Value} {x : DataW H × List MemPlace} (h : DataW.trod enc Tryz.prog w base spare held fuel 4 cs = some x) :
    ∃ (y0 : Bool), cs = [.bool y0] := by
  obtain ⟨n, rfl, _⟩ := DataW.trod_bool Tryz.underlying4 h
  exact ⟨n, rfl⟩
theorem tr26 {fuel : Nat} {cs : List Value} {x : DataW H × List MemPlace} (h : DataW.trod enc Tryz.prog w base spare held fuel 26 cs = some x) :
    ∃ (A0 : Option Addr) (y0 : List Bool) (k0 : Nat), cs = [.slice A0 y0.length k0] ∧ Rc w 1 A0 y0.length k0 (y0.flatMap eB) ∧ y0.length ≤ maxLen ∧ (∀ z ∈ y0, True) := by
  obtain ⟨A, l, cap, e1, e2, e3, e4⟩ := open_list (fun b : {y : Bool // True} => eB b.1) (size := 1) (fun b => eB_len b.1) (by decide) Tryz.underlying26 (by kernel_rfl) (fun fuel cs x hx => by
    obtain ⟨z0, rfl⟩ := tr4 hx
    exact ⟨⟨z0, trivial⟩, rfl⟩) h
  refine ⟨A, l.map (·.1), cap, by simpa using e1, ⟨by simpa [List.flatMap_map] using e2, by simpa using e3⟩, by simpa using Nat.le_trans e3 e4, fun z hz => ?_⟩
  obtain ⟨q, _, rfl⟩ := List.mem_map.1 hz
  exact q.2
theorem tr117 {fuel : Nat} {cs : List Value} {x : DataW H × List MemPlace} (h : DataW.trod enc Tryz.prog w base spare held fuel 117 cs = some x) :
    ∃ (y0 : Int) (y1 : Int), cs = [.int .i64 y0, .int .i64 y1] ∧ inR y0 ∧ inR y1 := by
  obtain ⟨xs, n, _, rfl, hl, hlen, hf⟩ := DataW.trod_struct Tryz.underlying117 h
  have hc : Tryz.prog.cellsOf 117 = 2 := by kernel_rfl
  rw [hc] at hl
  have h0 : DataW.trod enc Tryz.prog w base spare held n 3 ((cs.drop 0).take (Tryz.prog.cellsOf 3)) = xs[0]? := hf 0 _ rfl
  have c0 : Tryz.prog.cellsOf 3 = 1 := by kernel_rfl
  obtain ⟨q0, hq0⟩ : ∃ q, xs[0]? = some q := ⟨_, List.getElem?_eq_getElem (by rw [hlen]; decide)⟩
  rw [hq0, c0] at h0
  obtain ⟨y0, e0, w0_0⟩ := tr3 h0
  have h1 : DataW.trod enc Tryz.prog w base spare held n 3 ((cs.drop 1).take (Tryz.prog.cellsOf 3)) = xs[1]? := hf 1 _ rfl
  have c1 : Tryz.prog.cellsOf 3 = 1 := by kernel_rfl
  obtain ⟨q1, hq1⟩ : ∃ q, xs[1]? = some q := ⟨_, List.getElem?_eq_getElem (by rw [hlen]; decide)⟩
  rw [hq1, c1] at h1
  obtain ⟨y1, e1, w1_0⟩ := tr3 h1
  match cs, hl with
  | [u0, u1], _ =>
    simp at e0 e1
    subst e0; subst e1
    exact ⟨y0, y1, rfl, w0_0, w1_0⟩
theorem tr27 {fuel : Nat} {cs : List Value} {x : DataW H × List MemPlace} (h : DataW.trod enc Tryz.prog w base spare held fuel 27 cs = some x) :
    ∃ (A0 : Option Addr) (y0 : List (Int × Int)) (k0 : Nat), cs = [.slice A0 y0.length k0] ∧ Rc w 2 A0 y0.length k0 (y0.flatMap eLPermit) ∧ y0.length ≤ maxLen ∧ (∀ z ∈ y0, inR z.1 ∧ inR z.2) := by
  obtain ⟨A, l, cap, e1, e2, e3, e4⟩ := open_list (fun b : {y : Int × Int // inR y.1 ∧ inR y.2} => eLPermit b.1) (size := 2) (fun b => eLPermit_len b.1) (by decide) Tryz.underlying27 (by kernel_rfl) (fun fuel cs x hx => by
    obtain ⟨z0, z1, rfl, g0, g1⟩ := tr117 hx
    exact ⟨⟨(z0, z1), ⟨g0, g1⟩⟩, rfl⟩) h
  refine ⟨A, l.map (·.1), cap, by simpa using e1, ⟨by simpa [List.flatMap_map] using e2, by simpa using e3⟩, by simpa using Nat.le_trans e3 e4, fun z hz => ?_⟩
  obtain ⟨q, _, rfl⟩ := List.mem_map.1 hz
  exact q.2
theorem tr29 {fuel : Nat} {cs : List Value} {x : DataW H × List MemPlace} (h : DataW.trod enc Tryz.prog w base spare held fuel 29 cs = some x) :
    ∃ (A0 : Option Addr) (y0 : List Bool) (k0 : Nat) (A1 : Option Addr) (y1 : List Bool) (k1 : Nat) (A2 : Option Addr) (y2 : List (Int × Int)) (k2 : Nat), cs = [.slice A0 y0.length k0, .slice A1 y1.length k1, .slice A2 y2.length k2] ∧ Rc w 1 A0 y0.length k0 (y0.flatMap eB) ∧ y0.length ≤ maxLen ∧ (∀ z ∈ y0, True) ∧ Rc w 1 A1 y1.length k1 (y1.flatMap eB) ∧ y1.length ≤ maxLen ∧ (∀ z ∈ y1, True) ∧ Rc w 2 A2 y2.length k2 (y2.flatMap eLPermit) ∧ y2.length ≤ maxLen ∧ (∀ z ∈ y2, inR z.1 ∧ inR z.2) := by
  obtain ⟨xs, n, _, rfl, hl, hlen, hf⟩ := DataW.trod_struct Tryz.underlying29 h
  have hc : Tryz.prog.cellsOf 29 = 3 := by kernel_rfl
  rw [hc] at hl
  have h0 : DataW.trod enc Tryz.prog w base spare held n 26 ((cs.drop 0).take (Tryz.prog.cellsOf 26)) = xs[0]? := hf 0 _ rfl
  have c0 : Tryz.prog.cellsOf 26 = 1 := by kernel_rfl
  obtain ⟨q0, hq0⟩ : ∃ q, xs[0]? = some q := ⟨_, List.getElem?_eq_getElem (by rw [hlen]; decide)⟩
  rw [hq0, c0] at h0
  obtain ⟨A0, y0, k0, e0, w0_0, w0_1, w0_2⟩ := tr26 h0
  have h1 : DataW.trod enc Tryz.prog w base spare held n 26 ((cs.drop 1).take (Tryz.prog.cellsOf 26)) = xs[1]? := hf 1 _ rfl
  have c1 : Tryz.prog.cellsOf 26 = 1 := by kernel_rfl
  obtain ⟨q1, hq1⟩ : ∃ q, xs[1]? = some q := ⟨_, List.getElem?_eq_getElem (by rw [hlen]; decide)⟩
  rw [hq1, c1] at h1
  obtain ⟨A1, y1, k1, e1, w1_0, w1_1, w1_2⟩ := tr26 h1
  have h2 : DataW.trod enc Tryz.prog w base spare held n 27 ((cs.drop 2).take (Tryz.prog.cellsOf 27)) = xs[2]? := hf 2 _ rfl
  have c2 : Tryz.prog.cellsOf 27 = 1 := by kernel_rfl
  obtain ⟨q2, hq2⟩ : ∃ q, xs[2]? = some q := ⟨_, List.getElem?_eq_getElem (by rw [hlen]; decide)⟩
  rw [hq2, c2] at h2
  obtain ⟨A2, y2, k2, e2, w2_0, w2_1, w2_2⟩ := tr27 h2
  match cs, hl with
  | [u0, u1, u2], _ =>
    simp at e0 e1 e2
    subst e0; subst e1; subst e2
    exact ⟨A0, y0, k0, A1, y1, k1, A2, y2, k2, rfl, w0_0, w0_1, w0_2, w1_0, w1_1, w1_2, w2_0, w2_1, w2_2⟩
theorem tr30 {fuel : Nat} {cs : List Value} {x : DataW H × List MemPlace} (h : DataW.trod enc Tryz.prog w base spare held fuel 30 cs = some x) :
    ∃ (A0 : Option Addr) (y0 : List Int) (k0 : Nat), cs = [.slice A0 y0.length k0] ∧ Rc w 1 A0 y0.length k0 (y0.flatMap eI) ∧ y0.length ≤ maxLen ∧ (∀ z ∈ y0, inR z) := by
  obtain ⟨A, l, cap, e1, e2, e3, e4⟩ := open_list (fun b : {y : Int // inR y} => eI b.1) (size := 1) (fun b => eI_len b.1) (by decide) Tryz.underlying30 (by kernel_rfl) (fun fuel cs x hx => by
    obtain ⟨z0, rfl, g0⟩ := tr3 hx
    exact ⟨⟨z0, g0⟩, rfl⟩) h
  refine ⟨A, l.map (·.1), cap, by simpa using e1, ⟨by simpa [List.flatMap_map] using e2, by simpa using e3⟩, by simpa using Nat.le_trans e3 e4, fun z hz => ?_⟩
  obtain ⟨q, _, rfl⟩ := List.mem_map.1 hz
  exact q.2
theorem tr32 {fuel : Nat} {cs : List Value} {x : DataW H × List MemPlace} (h : DataW.trod enc Tryz.prog w base spare held fuel 32 cs = some x) :
    ∃ (y0 : Int) (A1 : Option Addr) (y1 : List (Int × Int × Int)) (k1 : Nat) (A2 : Option Addr) (y2 : List (Int × Int)) (k2 : Nat) (A3 : Option Addr) (y3 : List Bool) (k3 : Nat) (A4 : Option Addr) (y4 : List Bool) (k4 : Nat) (A5 : Option Addr) (y5 : List (Int × Int)) (k5 : Nat) (A6 : Option Addr) (y6 : List Int) (k6 : Nat), cs = [.int .i64 y0, .slice A1 y1.length k1, .slice A2 y2.length k2, .slice A3 y3.length k3, .slice A4 y4.length k4, .slice A5 y5.length k5, .slice A6 y6.length k6] ∧ inR y0 ∧ Rc w 3 A1 y1.length k1 (y1.flatMap eLLine) ∧ y1.length ≤ maxLen ∧ (∀ z ∈ y1, inR z.1 ∧ inR z.2.1 ∧ inR z.2.2) ∧ Rc w 2 A2 y2.length k2 (y2.flatMap eLBus) ∧ y2.length ≤ maxLen ∧ (∀ z ∈ y2, inR z.1 ∧ inR z.2) ∧ Rc w 1 A3 y3.length k3 (y3.flatMap eB) ∧ y3.length ≤ maxLen ∧ (∀ z ∈ y3, True) ∧ Rc w 1 A4 y4.length k4 (y4.flatMap eB) ∧ y4.length ≤ maxLen ∧ (∀ z ∈ y4, True) ∧ Rc w 2 A5 y5.length k5 (y5.flatMap eLPermit) ∧ y5.length ≤ maxLen ∧ (∀ z ∈ y5, inR z.1 ∧ inR z.2) ∧ Rc w 1 A6 y6.length k6 (y6.flatMap eI) ∧ y6.length ≤ maxLen ∧ (∀ z ∈ y6, inR z) := by
  obtain ⟨xs, n, _, rfl, hl, hlen, hf⟩ := DataW.trod_struct Tryz.underlying32 h
  have hc : Tryz.prog.cellsOf 32 = 7 := by kernel_rfl
  rw [hc] at hl
  have h0 : DataW.trod enc Tryz.prog w base spare held n 24 ((cs.drop 0).take (Tryz.prog.cellsOf 24)) = xs[0]? := hf 0 _ rfl
  have c0 : Tryz.prog.cellsOf 24 = 2 := by kernel_rfl
  obtain ⟨q0, hq0⟩ : ∃ q, xs[0]? = some q := ⟨_, List.getElem?_eq_getElem (by rw [hlen]; decide)⟩
  rw [hq0, c0] at h0
  obtain ⟨y0, A1, y1, k1, e0, w0_0, w0_1, w0_2, w0_3⟩ := tr24 h0
  have h1 : DataW.trod enc Tryz.prog w base spare held n 25 ((cs.drop 2).take (Tryz.prog.cellsOf 25)) = xs[1]? := hf 1 _ rfl
  have c1 : Tryz.prog.cellsOf 25 = 1 := by kernel_rfl
  obtain ⟨q1, hq1⟩ : ∃ q, xs[1]? = some q := ⟨_, List.getElem?_eq_getElem (by rw [hlen]; decide)⟩
  rw [hq1, c1] at h1
  obtain ⟨A2, y2, k2, e1, w1_0, w1_1, w1_2⟩ := tr25 h1
  have h2 : DataW.trod enc Tryz.prog w base spare held n 29 ((cs.drop 3).take (Tryz.prog.cellsOf 29)) = xs[2]? := hf 2 _ rfl
  have c2 : Tryz.prog.cellsOf 29 = 3 := by kernel_rfl
  obtain ⟨q2, hq2⟩ : ∃ q, xs[2]? = some q := ⟨_, List.getElem?_eq_getElem (by rw [hlen]; decide)⟩
  rw [hq2, c2] at h2
  obtain ⟨A3, y3, k3, A4, y4, k4, A5, y5, k5, e2, w2_0, w2_1, w2_2, w2_3, w2_4, w2_5, w2_6, w2_7, w2_8⟩ := tr29 h2
  have h3 : DataW.trod enc Tryz.prog w base spare held n 30 ((cs.drop 6).take (Tryz.prog.cellsOf 30)) = xs[3]? := hf 3 _ rfl
  have c3 : Tryz.prog.cellsOf 30 = 1 := by kernel_rfl
  obtain ⟨q3, hq3⟩ : ∃ q, xs[3]? = some q := ⟨_, List.getElem?_eq_getElem (by rw [hlen]; decide)⟩
  rw [hq3, c3] at h3
  obtain ⟨A6, y6, k6, e3, w3_0, w3_1, w3_2⟩ := tr30 h3
  match cs, hl with
  | [u0, u1, u2, u3, u4, u5, u6], _ =>
    simp at e0 e1 e2 e3
    obtain ⟨rfl, rfl⟩ := e0; subst e1; obtain ⟨rfl, rfl, rfl⟩ := e2; subst e3
    exact ⟨y0, A1, y1, k1, A2, y2, k2, A3, y3, k3, A4, y4, k4, A5, y5, k5, A6, y6, k6, rfl, w0_0, w0_1, w0_2, w0_3, w1_0, w1_1, w1_2, w2_0, w2_1, w2_2, w2_3, w2_4, w2_5, w2_6, w2_7, w2_8, w3_0, w3_1, w3_2⟩
theorem op32 {r : Reach} {b0 : Nat} {v : Value} {d : DataW H} {p : List MemPlace} (hval : Value.okWide Tryz.prog w r b0 32 v) (h : DataW.Trod enc Tryz.prog w base spare held 32 v d p) :
    ∃ (y0 : Int) (A1 : Option Addr) (y1 : List (Int × Int × Int)) (k1 : Nat) (A2 : Option Addr) (y2 : List (Int × Int)) (k2 : Nat) (A3 : Option Addr) (y3 : List Bool) (k3 : Nat) (A4 : Option Addr) (y4 : List Bool) (k4 : Nat) (A5 : Option Addr) (y5 : List (Int × Int)) (k5 : Nat) (A6 : Option Addr) (y6 : List Int) (k6 : Nat), v = .agg #[.int .i64 y0, .slice A1 y1.length k1, .slice A2 y2.length k2, .slice A3 y3.length k3, .slice A4 y4.length k4, .slice A5 y5.length k5, .slice A6 y6.length k6] ∧ inR y0 ∧ Rc w 3 A1 y1.length k1 (y1.flatMap eLLine) ∧ y1.length ≤ maxLen ∧ (∀ z ∈ y1, inR z.1 ∧ inR z.2.1 ∧ inR z.2.2) ∧ Rc w 2 A2 y2.length k2 (y2.flatMap eLBus) ∧ y2.length ≤ maxLen ∧ (∀ z ∈ y2, inR z.1 ∧ inR z.2) ∧ Rc w 1 A3 y3.length k3 (y3.flatMap eB) ∧ y3.length ≤ maxLen ∧ (∀ z ∈ y3, True) ∧ Rc w 1 A4 y4.length k4 (y4.flatMap eB) ∧ y4.length ≤ maxLen ∧ (∀ z ∈ y4, True) ∧ Rc w 2 A5 y5.length k5 (y5.flatMap eLPermit) ∧ y5.length ≤ maxLen ∧ (∀ z ∈ y5, inR z.1 ∧ inR z.2) ∧ Rc w 1 A6 y6.length k6 (y6.flatMap eI) ∧ y6.length ≤ maxLen ∧ (∀ z ∈ y6, inR z) := by
  obtain ⟨cs, rfl, _⟩ := okWide_struct Tryz.underlying32 hval
  obtain ⟨fuel, hf⟩ := h
  obtain ⟨y0, A1, y1, k1, A2, y2, k2, A3, y3, k3, A4, y4, k4, A5, y5, k5, A6, y6, k6, e, w0, w1, w2, w3, w4, w5, w6, w7, w8, w9, w10, w11, w12, w13, w14, w15, w16, w17, w18⟩ := tr32 hf
  simp [Value.cells] at e
  exact ⟨y0, A1, y1, k1, A2, y2, k2, A3, y3, k3, A4, y4, k4, A5, y5, k5, A6, y6, k6, congrArg Value.agg (Array.ext' e), w0, w1, w2, w3, w4, w5, w6, w7, w8, w9, w10, w11, w12, w13, w14, w15, w16, w17, w18⟩
end
end Go.Proofs.YtekcjnpahohkaaaGreat
namespace Go.Proofs.YtekcjnpahohkaaaGreat
open Go.ChangeShapes Go.WideShapes Go.ChangeAt Go.RowKit
theorem own : ownKnob Tryz.prog.godebug = none := by kernel_rfl
theorem laidOut : laidOutB Tryz.prog = true := by kernel_rfl
section
variable {H : Type} {enc : TypeId × Value → H} {P : Program}
theorem trodAll_below (hl : laidOutB P = true) {W W' : World} (hb : Below W.heap.size W W') : ∀ {ts : List TypeId} {vs : List Value} {ds : List (DataW H)} {ps : List MemPlace},
    (ts.all fun t => P.readableRec t && decide (t < P.types.size)) = true → DataW.TrodAll enc P W 0 (fun _ => true) true ts vs ds ps → (∀ x ∈ ps, x.block < W.heap.size) →
    DataW.TrodAll enc P W' 0 (fun b => decide (b < W.heap.size)) true ts vs ds ps
  | [], [], [], _, _, h, _ => h
  | t :: ts, v :: vs, d :: ds, ps, ht, h, hlt => by
    obtain ⟨p, q, h1, h2, rfl⟩ := h
    simp only [List.all_cons, Bool.and_eq_true, decide_eq_true_eq] at ht
    exact ⟨p, q, Below.trod hl ht.1.1 ht.1.2 h1 hb (fun x hx => hlt x (by simp [hx])), trodAll_below hl hb (by simpa using ht.2) h2 (fun x hx => hlt x (by simp [hx])), rfl⟩
theorem law_post {f : Func} {s : ChangeSpec} {W W' : World} {args : Array Value} {ds gs : List (DataW H)} {before : List MemPlace} {tb : TypeId} (hl : laidOutB P = true)
    (hW : DataW.Whole enc P f.params.toList s.vars false W args.toList ds gs before)
    (hts : (f.params.toList.all fun t => P.readableRec t && decide (t < P.types.size)) = true) (hvs : s.vars = []) (hrt : f.resultTypes = #[tb]) (hub : P.underlying tb = some .bool)
    (hfn : s.fn H (ds ++ []) = { results := [.lit (.bool true)], args := ds }) (hb : Below W.heap.size W W') :
    s.post enc P f false true false false W args (.bool true) W' := by
  have hW' := hW
  obtain ⟨p, q, hA, hV, rfl, hfz, hnd⟩ := hW
  rw [hvs] at hV
  obtain ⟨rfl, rfl⟩ := trodVars_none hV
  refine ⟨ds, [], p ++ [], [], p, [], hW', ?_, ?_, ?_, hb.frame _, fun h => by cases h⟩
  · rw [hfn, hrt]
    exact trodAll_cons_mk (shut_bool hub _) trodAll_mk0
  · rw [hfn]
    exact trodAll_below hl hb hts hA (fun x hx => hW'.lt x (by simp [hx]))
  · rw [hfn, hvs]
    rfl
end
end Go.Proofs.YtekcjnpahohkaaaGreat
