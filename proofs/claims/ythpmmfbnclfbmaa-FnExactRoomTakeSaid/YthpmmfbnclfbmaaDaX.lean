/- The laws, from what the models give. -/
import Derived.Test.YthpmmfbnclfbmaaDaH
namespace Go.Proofs.Ythpmmfbnclfbmaa
set_option linter.unusedVariables false
set_option linter.unusedSimpArgs false

theorem exactRoomsDo_of (x0 : Int) (x1 : Int) (x2 : List Int) (x3 : Int) (x4 : Int) (x5 : Int) (hx2 : x2.length ≤ 9223372036854775807) (hcore : x2.length ≤ 1048576 → ∃ r, m_spec_RoomsDo x0 x1 x2 x3 x4 x5 = some r ∧ m_impl_RoomsDo x0 x1 x2 x3 x4 x5 = some r ∧ r.2.2.1.length ≤ 1048576) : m_laws_FnExactRoomsDo x0 x1 x2 x3 x4 x5 = some true := by
  unfold m_laws_FnExactRoomsDo
  rw [sz_Rooms x0 x1 x2 1048576 hx2 (by omega)]
  by_cases s0 : 1048576 < (x2.length : Int)
  · simp [s0, ltB]
  rw [if_neg s0, Option.bind_some, ltB0 (by omega), cond_false]
  obtain ⟨r, hs, hi, b2⟩ := hcore (by omega)
  simp (disch := omega) only [Option.bind_some, cond_false, cond_true, hs, hi, bne_self_eq_false, Bool.not_true, Bool.not_false, Bool.or_false, Bool.false_or, Bool.or_self, gb, ltB0, to_IntS, to_Rooms, to_RoomDeed, eq_IntS, eq_Rooms, mark_IntS, m_laws_markRooms, held_IntS, m_laws_heldRooms, to_RoomDeedS, eq_RoomDeed, eq_RoomDeedS, mark_RoomDeedS]
theorem exactRoomsRun_of (x0 : Int) (x1 : Int) (x2 : List Int) (x3 : List (Int × Int × Int)) (hx2 : x2.length ≤ 9223372036854775807) (hx3 : x3.length ≤ 9223372036854775807) (hcore : x2.length ≤ 1048576 → x3.length ≤ 1048576 → ∃ r, m_spec_RoomsRun x0 x1 x2 x3 = some r ∧ m_impl_RoomsRun x0 x1 x2 x3 = some r ∧ r.2.2.length ≤ 1048576) : m_laws_FnExactRoomsRun x0 x1 x2 x3 = some true := by
  unfold m_laws_FnExactRoomsRun
  rw [sz_Rooms x0 x1 x2 1048576 hx2 (by omega)]
  by_cases s0 : 1048576 < (x2.length : Int)
  · simp [s0, ltB]
  rw [if_neg s0, Option.bind_some, ltB0 (by omega), cond_false]
  rw [sz_RoomDeedS x3 (1048576 - ((x2.length : Int))) hx3 (by omega)]
  by_cases s1 : 1048576 - ((x2.length : Int)) < (x3.length : Int)
  · simp [s1, ltB]
  rw [if_neg s1, Option.bind_some, ltB0 (by omega), cond_false]
  obtain ⟨r, hs, hi, b2⟩ := hcore (by omega) (by omega)
  simp (disch := omega) only [Option.bind_some, cond_false, cond_true, hs, hi, bne_self_eq_false, Bool.not_true, Bool.not_false, Bool.or_false, Bool.false_or, Bool.or_self, gb, ltB0, to_IntS, to_Rooms, to_RoomDeed, eq_IntS, eq_Rooms, mark_IntS, m_laws_markRooms, held_IntS, m_laws_heldRooms, to_RoomDeedS, eq_RoomDeed, eq_RoomDeedS, mark_RoomDeedS]
theorem exactRoomTake_of (x0 : Int) (x1 : Int) (x2 : List Int) (x3 : Int) (hx2 : x2.length ≤ 9223372036854775807) (hcore : x2.length ≤ 1048576 → ∃ r, m_spec_RoomTake x0 x1 x2 x3 = some r ∧ m_impl_RoomTake x0 x1 x2 x3 = some r ∧ r.2.2.1.length ≤ 1048576) : m_laws_FnExactRoomTake x0 x1 x2 x3 = some true := by
  unfold m_laws_FnExactRoomTake
  rw [sz_Rooms x0 x1 x2 1048576 hx2 (by omega)]
  by_cases s0 : 1048576 < (x2.length : Int)
  · simp [s0, ltB]
  rw [if_neg s0, Option.bind_some, ltB0 (by omega), cond_false]
  obtain ⟨r, hs, hi, b2⟩ := hcore (by omega)
  simp (disch := omega) only [Option.bind_some, cond_false, cond_true, hs, hi, bne_self_eq_false, Bool.not_true, Bool.not_false, Bool.or_false, Bool.false_or, Bool.or_self, gb, ltB0, to_IntS, to_Rooms, to_RoomDeed, eq_IntS, eq_Rooms, mark_IntS, m_laws_markRooms, held_IntS, m_laws_heldRooms, to_RoomDeedS, eq_RoomDeed, eq_RoomDeedS, mark_RoomDeedS]

end Go.Proofs.Ythpmmfbnclfbmaa
