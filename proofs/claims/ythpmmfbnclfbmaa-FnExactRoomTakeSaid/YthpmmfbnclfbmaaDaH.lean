/- Plain laws of the helpers of the laws. -/
import Derived.Test.YthpmmfbnclfbmaaPu
import Derived.Test.YthpmmfbnclfbmaaDaM
namespace Go.Proofs.Ythpmmfbnclfbmaa
set_option linter.unusedVariables false
set_option linter.unusedSimpArgs false

theorem sz_IntS (x0 : List Int) (x1 : Int) (hx0 : x0.length ≤ 9223372036854775807) (h0 : 0 ≤ x1 ∧ x1 ≤ 1048576) : m_laws_szIntS x0 x1 = some (if x1 < (x0.length : Int) then -1 else x1 - ((x0.length : Int))) := by
  simp (disch := omega) [m_laws_szIntS, chk, gb, w64_succ, w64_id, Int.toNat_natCast, getD_ge, Bool.cond_decide, ltB, leB, ixB, nzB, nnB]
  try (repeat' split)
  all_goals first | rfl | omega | (congr 1; omega)
theorem sz_Rooms (x0 : Int) (x1 : Int) (x2 : List Int) (x3 : Int) (hx2 : x2.length ≤ 9223372036854775807) (h0 : 0 ≤ x3 ∧ x3 ≤ 1048576) : m_laws_szRooms x0 x1 x2 x3 = some (if x3 < (x2.length : Int) then -1 else x3 - ((x2.length : Int))) := by
  simp (disch := omega) [m_laws_szRooms, chk, gb, w64_succ, w64_id, Int.toNat_natCast, getD_ge, Bool.cond_decide, ltB, leB, ixB, nzB, nnB, sz_IntS]
  try (repeat' split)
  all_goals first | rfl | omega | (congr 1; omega)
theorem to_IntS (x0 : List Int) (hx0 : x0.length ≤ 1048576) : m_laws_toIntS x0 = some x0 := by
  have h := to_loop (m_laws_toIntS_l1 x0) x0 (List.replicate x0.length (0 : Int)) (by simp) hx0 (fun fuel l j hj hl => by simp (disch := omega) [m_laws_toIntS_l1, hj, hl, chk, gb, w64_succ, w64_id, Int.toNat_natCast, getD_ge, Bool.cond_decide, ltB, leB, ixB, nzB, nnB, sz_IntS, sz_Rooms]) (fun fuel l hl => by simp [m_laws_toIntS_l1, ltB])
  have hc : mkB (x0.length : Int) = true := by simp [mkB]; omega
  simp only [m_laws_toIntS, hc, chk_true, h, Option.bind_some]
theorem to_Rooms (x0 : Int) (x1 : Int) (x2 : List Int) (hx2 : x2.length ≤ 1048576) : m_laws_toRooms x0 x1 x2 = some (x0, x1, x2) := by
  simp (disch := omega) [m_laws_toRooms, chk, gb, w64_succ, w64_id, Int.toNat_natCast, getD_ge, Bool.cond_decide, ltB, leB, ixB, nzB, nnB, sz_IntS, sz_Rooms, to_IntS]
theorem to_RoomDeed (x0 : Int) (x1 : Int) (x2 : Int)  : m_laws_toRoomDeed x0 x1 x2 = some (x0, x1, x2) := by
  simp (disch := omega) [m_laws_toRoomDeed, chk, gb, w64_succ, w64_id, Int.toNat_natCast, getD_ge, Bool.cond_decide, ltB, leB, ixB, nzB, nnB, sz_IntS, sz_Rooms, to_IntS, to_Rooms]
theorem eq_IntS (x0 : List Int) (hx0 : x0.length ≤ 1048576) : m_laws_eqIntS x0 x0 = some true := by
  have h := eq_loop (m_laws_eqIntS_l1 x0 x0) x0.length hx0 (some (.inl ())) (fun fuel j hj => by simp (disch := omega) [m_laws_eqIntS_l1, hj, chk, gb, w64_succ, w64_id, Int.toNat_natCast, getD_ge, Bool.cond_decide, ltB, leB, ixB, nzB, nnB, sz_IntS, sz_Rooms, to_IntS, to_Rooms, to_RoomDeed]) (fun fuel => by simp [m_laws_eqIntS_l1, ltB])
  simp [m_laws_eqIntS, h]
theorem eq_Rooms (x0 : Int) (x1 : Int) (x2 : List Int) (hx2 : x2.length ≤ 1048576) : m_laws_eqRooms x0 x1 x2 x0 x1 x2 = some true := by
  simp (disch := omega) [m_laws_eqRooms, chk, gb, w64_succ, w64_id, Int.toNat_natCast, getD_ge, Bool.cond_decide, ltB, leB, ixB, nzB, nnB, sz_IntS, sz_Rooms, to_IntS, to_Rooms, to_RoomDeed, eq_IntS]
def mkIntS (q : Int) : Int := q
theorem mark_IntS (x0 : List Int) (x1 : Int) (hx0 : x0.length ≤ 1048576) (hk : 0 ≤ x1 ∧ x1 ≤ 33554432) : m_laws_markIntS x0 x1 = some (x1 + 1 * (x0.length : Int), marksG mkIntS 1 x1 x0.length) := by
  have h := mark_loop (m_laws_markIntS_l1 x0) mkIntS 1 (by decide) x0 x1 hx0 hk (fun fuel l q j hj hl h0 h1 => by simp (disch := omega) [m_laws_markIntS_l1, hj, hl, mkIntS, Int.add_assoc, chk, gb, w64_succ, w64_id, Int.toNat_natCast, getD_ge, Bool.cond_decide, ltB, leB, ixB, nzB, nnB]) (fun fuel l q hl => by simp [m_laws_markIntS_l1, ltB])
  simp [m_laws_markIntS, h]
theorem held_IntS (n : Nat) (k : Int) (hn : n ≤ 1048576) (hk : 0 ≤ k ∧ k ≤ 33554432) : m_laws_heldIntS (marksG mkIntS 1 k n) k = some (k + 1 * (n : Int)) := by
  have h := held_loop (m_laws_heldIntS_l1 (marksG mkIntS 1 k n)) mkIntS 1 (by decide) n k hn hk (fun fuel q j hj hq h0 h1 => by simp (disch := omega) [m_laws_heldIntS_l1, hj, hq, marksG_len, mkIntS, Int.add_assoc, chk, gb, w64_succ, w64_id, Int.toNat_natCast, ltB, leB, ixB]) (fun fuel q => by simp [m_laws_heldIntS_l1, marksG_len, ltB])
  simp [m_laws_heldIntS, h]
theorem sz_RoomDeedS (x0 : List (Int × Int × Int)) (x1 : Int) (hx0 : x0.length ≤ 9223372036854775807) (h0 : 0 ≤ x1 ∧ x1 ≤ 1048576) : m_laws_szRoomDeedS x0 x1 = some (if x1 < (x0.length : Int) then -1 else x1 - ((x0.length : Int))) := by
  simp (disch := omega) [m_laws_szRoomDeedS, chk, gb, w64_succ, w64_id, Int.toNat_natCast, getD_ge, Bool.cond_decide, ltB, leB, ixB, nzB, nnB, sz_IntS, sz_Rooms, to_IntS, to_Rooms, to_RoomDeed, eq_IntS, eq_Rooms, mark_IntS, m_laws_markRooms, held_IntS, m_laws_heldRooms]
  try (repeat' split)
  all_goals first | rfl | omega | (congr 1; omega)
theorem to_RoomDeedS (x0 : List (Int × Int × Int)) (hx0 : x0.length ≤ 1048576) : m_laws_toRoomDeedS x0 = some x0 := by
  have h := to_loop (m_laws_toRoomDeedS_l1 x0) x0 (List.replicate x0.length ((0, 0, 0) : Int × Int × Int)) (by simp) hx0 (fun fuel l j hj hl => by simp (disch := omega) [m_laws_toRoomDeedS_l1, hj, hl, chk, gb, w64_succ, w64_id, Int.toNat_natCast, getD_ge, Bool.cond_decide, ltB, leB, ixB, nzB, nnB, sz_IntS, sz_Rooms, to_IntS, to_Rooms, to_RoomDeed, eq_IntS, eq_Rooms, mark_IntS, m_laws_markRooms, held_IntS, m_laws_heldRooms, sz_RoomDeedS]) (fun fuel l hl => by simp [m_laws_toRoomDeedS_l1, ltB])
  have hc : mkB (x0.length : Int) = true := by simp [mkB]; omega
  simp only [m_laws_toRoomDeedS, hc, chk_true, h, Option.bind_some]
theorem eq_RoomDeed (x0 : Int) (x1 : Int) (x2 : Int)  : m_laws_eqRoomDeed x0 x1 x2 x0 x1 x2 = some true := by
  simp (disch := omega) [m_laws_eqRoomDeed, chk, gb, w64_succ, w64_id, Int.toNat_natCast, getD_ge, Bool.cond_decide, ltB, leB, ixB, nzB, nnB, sz_IntS, sz_Rooms, to_IntS, to_Rooms, to_RoomDeed, eq_IntS, eq_Rooms, mark_IntS, m_laws_markRooms, held_IntS, m_laws_heldRooms, sz_RoomDeedS, to_RoomDeedS]
theorem eq_RoomDeedS (x0 : List (Int × Int × Int)) (hx0 : x0.length ≤ 1048576) : m_laws_eqRoomDeedS x0 x0 = some true := by
  have h := eq_loop (m_laws_eqRoomDeedS_l1 x0 x0) x0.length hx0 (some (.inl ())) (fun fuel j hj => by simp (disch := omega) [m_laws_eqRoomDeedS_l1, hj, chk, gb, w64_succ, w64_id, Int.toNat_natCast, getD_ge, Bool.cond_decide, ltB, leB, ixB, nzB, nnB, sz_IntS, sz_Rooms, to_IntS, to_Rooms, to_RoomDeed, eq_IntS, eq_Rooms, mark_IntS, m_laws_markRooms, held_IntS, m_laws_heldRooms, sz_RoomDeedS, to_RoomDeedS, eq_RoomDeed]) (fun fuel => by simp [m_laws_eqRoomDeedS_l1, ltB])
  simp [m_laws_eqRoomDeedS, h]
def mkRoomDeedS (q : Int) : Int × Int × Int := (q, (q + 1), (q + 2))
theorem mark_RoomDeedS (x0 : List (Int × Int × Int)) (x1 : Int) (hx0 : x0.length ≤ 1048576) (hk : 0 ≤ x1 ∧ x1 ≤ 33554432) : m_laws_markRoomDeedS x0 x1 = some (x1 + 3 * (x0.length : Int), marksG mkRoomDeedS 3 x1 x0.length) := by
  have h := mark_loop (m_laws_markRoomDeedS_l1 x0) mkRoomDeedS 3 (by decide) x0 x1 hx0 hk (fun fuel l q j hj hl h0 h1 => by simp (disch := omega) [m_laws_markRoomDeedS_l1, hj, hl, mkRoomDeedS, Int.add_assoc, chk, gb, w64_succ, w64_id, Int.toNat_natCast, getD_ge, Bool.cond_decide, ltB, leB, ixB, nzB, nnB]) (fun fuel l q hl => by simp [m_laws_markRoomDeedS_l1, ltB])
  simp [m_laws_markRoomDeedS, h]
end Go.Proofs.Ythpmmfbnclfbmaa
