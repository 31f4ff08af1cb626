/- markBoolS and heldBoolS, on a row that is the caller's own. -/
import Derived.Test.YtpbloofmeebgiaaStateA
import Derived.Test.YtpbloofmeebgiaaOwn
namespace Go.Proofs.Ytpbloofmeebgiaa
open Go.ChangeShapes Go.WideShapes Go.ChangeAt Go.RowKit

def mkB (k : Int) : Value := .bool (k % 3 == 0)

set_option maxHeartbeats 1000000 in
theorem markBoolS_row (g n c : Nat) (cs : List Value) (k : Int) (w : World) (B : Bk w g 4 cs.toArray) (hn : n ≤ cs.length) (hb : n ≤ 1048576) (h0 : 0 ≤ k) (h1 : k ≤ 1099511627776) :
    Calls Try.prog 22 #[.slice (some ⟨g, 0, none⟩) n c, .int .i64 k] w fun e w' => e = .returned (.int .i64 (k + n)) ∧ Bk w' g 4 (marked mkB k cs n).toArray ∧ w.grownBy w' (some g) := by
  go_enter Try.func22, Try.ntmps22
  go_wp2
  go_loopw [1, 5] (fun s i wr => ∃ j : Nat, j ≤ n ∧ i = .int .i64 j ∧ s = .int .i64 (k + j) ∧ Bk wr g 4 (marked mkB k cs j).toArray ∧ w.grownBy wr (some g)) (fun _ i _ => n - (intOf i).toNat)
  case atStart => exact ⟨0, Nat.zero_le _, rfl, by simp, by rw [marked_zero]; exact B, grown_refl _ _⟩
  case round =>
    obtain ⟨j, hj, rfl, rfl, B0, hg⟩ := hrel
    by_cases hlt : j < n
    · obtain ⟨f1, f2⟩ := B0.atl (marked_get mkB k cs (i := j) (by omega))
      have HS := Lib.hid (marked_set mkB k cs (i := j) (by omega))
      have hm : ((k + j) % 3 == 0) = decide ((k + j) % 3 = 0) := by rw [Bool.eq_iff_iff]; simp
      have HM := Lib.hid hm
      clear hm
      go_wp2
      go_roundw
      case rel =>
        refine ⟨j + 1, by omega, by go_num, by go_num, ?_, grown_set hg _ _⟩
        rw [← HS.out]
        exact B0.setl j _
      case measure => simp [intOf]; omega
    · go_wp2
      go_ret
      obtain rfl : j = n := by omega
      exact ⟨rfl, B0, hg⟩

set_option maxHeartbeats 1000000 in
theorem heldBoolS_row (A : Option Addr) (n c : Nat) (k : Int) (w : World) (h : Rd w 1 A n (marks mkB k n)) (hb : n ≤ 1048576) (h0 : 0 ≤ k) (h1 : k ≤ 1099511627776) :
    Calls Try.prog 23 #[.slice A n c, .int .i64 k] w fun e w' => e = .returned (.int .i64 (k + n)) ∧ w = w' := by
  go_enter Try.func23, Try.ntmps23
  go_wp2
  go_loop [1, 5] (fun s i => ∃ j : Nat, j ≤ n ∧ i = .int .i64 j ∧ s = .int .i64 (k + j)) (fun _ i => n - (intOf i).toNat)
  case atStart => exact ⟨0, Nat.zero_le _, rfl, by simp⟩
  case round =>
    obtain ⟨j, hj, rfl, rfl⟩ := hrel
    by_cases hlt : j < n
    · obtain ⟨b, off, rfl, hb0, u, hu, hc⟩ := h.at1 hlt
      obtain rfl : mkB (k + j) = u := by rw [marks_get mkB k hlt] at hu; injection hu
      unfold mkB at hc
      have hne : (((k + j) % 3 == 0) != ((k + j) % 3 == 0)) = false := by simp
      go_wp2
      go_round
      case rel => exact ⟨j + 1, by omega, by go_num, by go_num⟩
      case measure => simp [intOf]; omega
    · go_wp2
      go_ret
      obtain rfl : j = n := by omega
      exact ⟨rfl, rfl⟩

end Go.Proofs.Ytpbloofmeebgiaa
