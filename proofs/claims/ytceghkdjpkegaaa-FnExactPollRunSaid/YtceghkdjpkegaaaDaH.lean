/- Plain laws of the helpers of the laws. -/
import Derived.Test.YtceghkdjpkegaaaPu
import Derived.Test.YtceghkdjpkegaaaDaM
namespace Go.Proofs.Ytceghkdjpkegaaa
set_option linter.unusedVariables false
set_option linter.unusedSimpArgs false

theorem sz_IntS (x0 : List Int) (x1 : Int) (hx0 : x0.length ≤ 9223372036854775807) (h0 : 0 ≤ x1 ∧ x1 ≤ 1048576) : m_laws_szIntS x0 x1 = some (if x1 < (x0.length : Int) then -1 else x1 - ((x0.length : Int))) := by
  simp (disch := omega) [m_laws_szIntS, chk, gb, w64_succ, w64_id, Int.toNat_natCast, getD_ge, Bool.cond_decide, ltB, leB, ixB, nzB, nnB]
  try (repeat' split)
  all_goals first | rfl | omega | (congr 1; omega)
theorem sz_Poll (x0 : Int) (x1 : List Int) (x2 : Int) (x3 : List Int) (x4 : Int) (x5 : Int) (x6 : Int) (x7 : Int) (x8 : Int) (hx1 : x1.length ≤ 9223372036854775807) (hx3 : x3.length ≤ 9223372036854775807) (h0 : 0 ≤ x8 ∧ x8 ≤ 1048576) : m_laws_szPoll x0 x1 x2 x3 x4 x5 x6 x7 x8 = some (if x8 < (x1.length : Int) + (x3.length : Int) then -1 else x8 - ((x1.length : Int) + (x3.length : Int))) := by
  simp (disch := omega) [m_laws_szPoll, chk, gb, w64_succ, w64_id, Int.toNat_natCast, getD_ge, Bool.cond_decide, ltB, leB, ixB, nzB, nnB, sz_IntS]
  try (repeat' split)
  all_goals first | rfl | omega | (congr 1; omega)
theorem to_IntS (x0 : List Int) (hx0 : x0.length ≤ 1048576) : m_laws_toIntS x0 = some x0 := by
  have h := to_loop (m_laws_toIntS_l1 x0) x0 (List.replicate x0.length (0 : Int)) (by simp) hx0 (fun fuel l j hj hl => by simp (disch := omega) [m_laws_toIntS_l1, hj, hl, chk, gb, w64_succ, w64_id, Int.toNat_natCast, getD_ge, Bool.cond_decide, ltB, leB, ixB, nzB, nnB, sz_IntS, sz_Poll]) (fun fuel l hl => by simp [m_laws_toIntS_l1, ltB])
  have hc : mkB (x0.length : Int) = true := by simp [mkB]; omega
  simp only [m_laws_toIntS, hc, chk_true, h, Option.bind_some]
theorem to_Poll (x0 : Int) (x1 : List Int) (x2 : Int) (x3 : List Int) (x4 : Int) (x5 : Int) (x6 : Int) (x7 : Int) (hx1 : x1.length ≤ 1048576) (hx3 : x3.length ≤ 1048576) : m_laws_toPoll x0 x1 x2 x3 x4 x5 x6 x7 = some (x0, x1, x2, x3, x4, x5, x6, x7) := by
  simp (disch := omega) [m_laws_toPoll, chk, gb, w64_succ, w64_id, Int.toNat_natCast, getD_ge, Bool.cond_decide, ltB, leB, ixB, nzB, nnB, sz_IntS, sz_Poll, to_IntS]
theorem to_PollDeed (x0 : Int) (x1 : Int)  : m_laws_toPollDeed x0 x1 = some (x0, x1) := by
  simp (disch := omega) [m_laws_toPollDeed, chk, gb, w64_succ, w64_id, Int.toNat_natCast, getD_ge, Bool.cond_decide, ltB, leB, ixB, nzB, nnB, sz_IntS, sz_Poll, to_IntS, to_Poll]
theorem eq_IntS (x0 : List Int) (hx0 : x0.length ≤ 1048576) : m_laws_eqIntS x0 x0 = some true := by
  have h := eq_loop (m_laws_eqIntS_l1 x0 x0) x0.length hx0 (some (.inl ())) (fun fuel j hj => by simp (disch := omega) [m_laws_eqIntS_l1, hj, chk, gb, w64_succ, w64_id, Int.toNat_natCast, getD_ge, Bool.cond_decide, ltB, leB, ixB, nzB, nnB, sz_IntS, sz_Poll, to_IntS, to_Poll, to_PollDeed]) (fun fuel => by simp [m_laws_eqIntS_l1, ltB])
  simp [m_laws_eqIntS, h]
theorem eq_Poll (x0 : Int) (x1 : List Int) (x2 : Int) (x3 : List Int) (x4 : Int) (x5 : Int) (x6 : Int) (x7 : Int) (hx1 : x1.length ≤ 1048576) (hx3 : x3.length ≤ 1048576) : m_laws_eqPoll x0 x1 x2 x3 x4 x5 x6 x7 x0 x1 x2 x3 x4 x5 x6 x7 = some true := by
  simp (disch := omega) [m_laws_eqPoll, chk, gb, w64_succ, w64_id, Int.toNat_natCast, getD_ge, Bool.cond_decide, ltB, leB, ixB, nzB, nnB, sz_IntS, sz_Poll, to_IntS, to_Poll, to_PollDeed, eq_IntS]
def mkIntS (q : Int) : Int := q
theorem mark_IntS (x0 : List Int) (x1 : Int) (hx0 : x0.length ≤ 1048576) (hk : 0 ≤ x1 ∧ x1 ≤ 33554432) : m_laws_markIntS x0 x1 = some (x1 + 1 * (x0.length : Int), marksG mkIntS 1 x1 x0.length) := by
  have h := mark_loop (m_laws_markIntS_l1 x0) mkIntS 1 (by decide) x0 x1 hx0 hk (fun fuel l q j hj hl h0 h1 => by simp (disch := omega) [m_laws_markIntS_l1, hj, hl, mkIntS, Int.add_assoc, chk, gb, w64_succ, w64_id, Int.toNat_natCast, getD_ge, Bool.cond_decide, ltB, leB, ixB, nzB, nnB]) (fun fuel l q hl => by simp [m_laws_markIntS_l1, ltB])
  simp [m_laws_markIntS, h]
theorem held_IntS (n : Nat) (k : Int) (hn : n ≤ 1048576) (hk : 0 ≤ k ∧ k ≤ 33554432) : m_laws_heldIntS (marksG mkIntS 1 k n) k = some (k + 1 * (n : Int)) := by
  have h := held_loop (m_laws_heldIntS_l1 (marksG mkIntS 1 k n)) mkIntS 1 (by decide) n k hn hk (fun fuel q j hj hq h0 h1 => by simp (disch := omega) [m_laws_heldIntS_l1, hj, hq, marksG_len, mkIntS, Int.add_assoc, chk, gb, w64_succ, w64_id, Int.toNat_natCast, ltB, leB, ixB]) (fun fuel q => by simp [m_laws_heldIntS_l1, marksG_len, ltB])
  simp [m_laws_heldIntS, h]
theorem sz_PollDeedS (x0 : List (Int × Int)) (x1 : Int) (hx0 : x0.length ≤ 9223372036854775807) (h0 : 0 ≤ x1 ∧ x1 ≤ 1048576) : m_laws_szPollDeedS x0 x1 = some (if x1 < (x0.length : Int) then -1 else x1 - ((x0.length : Int))) := by
  simp (disch := omega) [m_laws_szPollDeedS, chk, gb, w64_succ, w64_id, Int.toNat_natCast, getD_ge, Bool.cond_decide, ltB, leB, ixB, nzB, nnB, sz_IntS, sz_Poll, to_IntS, to_Poll, to_PollDeed, eq_IntS, eq_Poll, mark_IntS, m_laws_markPoll, held_IntS, m_laws_heldPoll]
  try (repeat' split)
  all_goals first | rfl | omega | (congr 1; omega)
theorem to_PollDeedS (x0 : List (Int × Int)) (hx0 : x0.length ≤ 1048576) : m_laws_toPollDeedS x0 = some x0 := by
  have h := to_loop (m_laws_toPollDeedS_l1 x0) x0 (List.replicate x0.length ((0, 0) : Int × Int)) (by simp) hx0 (fun fuel l j hj hl => by simp (disch := omega) [m_laws_toPollDeedS_l1, hj, hl, chk, gb, w64_succ, w64_id, Int.toNat_natCast, getD_ge, Bool.cond_decide, ltB, leB, ixB, nzB, nnB, sz_IntS, sz_Poll, to_IntS, to_Poll, to_PollDeed, eq_IntS, eq_Poll, mark_IntS, m_laws_markPoll, held_IntS, m_laws_heldPoll, sz_PollDeedS]) (fun fuel l hl => by simp [m_laws_toPollDeedS_l1, ltB])
  have hc : mkB (x0.length : Int) = true := by simp [mkB]; omega
  simp only [m_laws_toPollDeedS, hc, chk_true, h, Option.bind_some]
theorem eq_PollDeed (x0 : Int) (x1 : Int)  : m_laws_eqPollDeed x0 x1 x0 x1 = some true := by
  simp (disch := omega) [m_laws_eqPollDeed, chk, gb, w64_succ, w64_id, Int.toNat_natCast, getD_ge, Bool.cond_decide, ltB, leB, ixB, nzB, nnB, sz_IntS, sz_Poll, to_IntS, to_Poll, to_PollDeed, eq_IntS, eq_Poll, mark_IntS, m_laws_markPoll, held_IntS, m_laws_heldPoll, sz_PollDeedS, to_PollDeedS]
theorem eq_PollDeedS (x0 : List (Int × Int)) (hx0 : x0.length ≤ 1048576) : m_laws_eqPollDeedS x0 x0 = some true := by
  have h := eq_loop (m_laws_eqPollDeedS_l1 x0 x0) x0.length hx0 (some (.inl ())) (fun fuel j hj => by simp (disch := omega) [m_laws_eqPollDeedS_l1, hj, chk, gb, w64_succ, w64_id, Int.toNat_natCast, getD_ge, Bool.cond_decide, ltB, leB, ixB, nzB, nnB, sz_IntS, sz_Poll, to_IntS, to_Poll, to_PollDeed, eq_IntS, eq_Poll, mark_IntS, m_laws_markPoll, held_IntS, m_laws_heldPoll, sz_PollDeedS, to_PollDeedS, eq_PollDeed]) (fun fuel => by simp [m_laws_eqPollDeedS_l1, ltB])
  simp [m_laws_eqPollDeedS, h]
def mkPollDeedS (q : Int) : Int × Int := (q, (q + 1))
theorem mark_PollDeedS (x0 : List (Int × Int)) (x1 : Int) (hx0 : x0.length ≤ 1048576) (hk : 0 ≤ x1 ∧ x1 ≤ 33554432) : m_laws_markPollDeedS x0 x1 = some (x1 + 2 * (x0.length : Int), marksG mkPollDeedS 2 x1 x0.length) := by
  have h := mark_loop (m_laws_markPollDeedS_l1 x0) mkPollDeedS 2 (by decide) x0 x1 hx0 hk (fun fuel l q j hj hl h0 h1 => by simp (disch := omega) [m_laws_markPollDeedS_l1, hj, hl, mkPollDeedS, Int.add_assoc, chk, gb, w64_succ, w64_id, Int.toNat_natCast, getD_ge, Bool.cond_decide, ltB, leB, ixB, nzB, nnB]) (fun fuel l q hl => by simp [m_laws_markPollDeedS_l1, ltB])
  simp [m_laws_markPollDeedS, h]
end Go.Proofs.Ytceghkdjpkegaaa
