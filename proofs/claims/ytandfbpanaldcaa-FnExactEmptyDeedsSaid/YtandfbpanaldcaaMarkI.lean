/- markIntS and heldIntS, on a row that is the caller's own. -/
import Derived.Test.YtandfbpanaldcaaIntA
import Derived.Test.YtandfbpanaldcaaOwn
namespace Go.Proofs.Ytandfbpanaldcaa
open Go.ChangeShapes Go.WideShapes Go.ChangeAt Go.RowKit

def mkI (k : Int) : Value := .int .i64 k

set_option maxHeartbeats 1000000 in
theorem markIntS_row (g n c : Nat) (cs : List Value) (k : Int) (w : World) (B : Bk w g 3 cs.toArray) (hn : n ≤ cs.length) (hb : n ≤ 1048576) (h0 : 0 ≤ k) (h1 : k ≤ 1099511627776) :
    Calls Try.prog 17 #[.slice (some ⟨g, 0, none⟩) n c, .int .i64 k] w fun e w' => e = .returned (.int .i64 (k + n)) ∧ Bk w' g 3 (marked mkI k cs n).toArray ∧ w.grownBy w' (some g) := by
  go_enter Try.func17, Try.ntmps17
  go_wp2
  go_loopw [1, 5] (fun s i wr => ∃ j : Nat, j ≤ n ∧ i = .int .i64 j ∧ s = .int .i64 (k + j) ∧ Bk wr g 3 (marked mkI k cs j).toArray ∧ w.grownBy wr (some g)) (fun _ i _ => n - (intOf i).toNat)
  case atStart => exact ⟨0, Nat.zero_le _, rfl, by simp, by rw [marked_zero]; exact B, grown_refl _ _⟩
  case round =>
    obtain ⟨j, hj, rfl, rfl, B0, hg⟩ := hrel
    by_cases hlt : j < n
    · obtain ⟨f1, f2⟩ := B0.atl (marked_get mkI k cs (i := j) (by omega))
      have HS := Lib.hid (marked_set mkI k cs (i := j) (by omega))
      go_wp2
      go_roundw
      case rel =>
        refine ⟨j + 1, by omega, by go_num, by go_num, ?_, grown_set hg _ _⟩
        rw [← HS.out]
        exact B0.setl j _
      case measure => simp [intOf]; omega
    · go_wp2
      go_ret
      obtain rfl : j = n := by omega
      exact ⟨rfl, B0, hg⟩

set_option maxHeartbeats 1000000 in
theorem heldIntS_row (A : Option Addr) (n c : Nat) (k : Int) (w : World) (h : Rd w 1 A n (marks mkI k n)) (hb : n ≤ 1048576) (h0 : 0 ≤ k) (h1 : k ≤ 1099511627776) :
    Calls Try.prog 20 #[.slice A n c, .int .i64 k] w fun e w' => e = .returned (.int .i64 (k + n)) ∧ w = w' := by
  go_enter Try.func20, Try.ntmps20
  go_wp2
  go_loop [1, 5] (fun s i => ∃ j : Nat, j ≤ n ∧ i = .int .i64 j ∧ s = .int .i64 (k + j)) (fun _ i => n - (intOf i).toNat)
  case atStart => exact ⟨0, Nat.zero_le _, rfl, by simp⟩
  case round =>
    obtain ⟨j, hj, rfl, rfl⟩ := hrel
    by_cases hlt : j < n
    · obtain ⟨b, off, rfl, hb0, u, hu, hc⟩ := h.at1 hlt
      obtain rfl : mkI (k + j) = u := by rw [marks_get mkI k hlt] at hu; injection hu
      unfold mkI at hc
      have hne : ((k + (j : Int)) != (k + (j : Int))) = false := by simp
      go_wp2
      go_round
      case rel => exact ⟨j + 1, by omega, by go_num, by go_num⟩
      case measure => simp [intOf]; omega
    · go_wp2
      go_ret
      obtain rfl : j = n := by omega
      exact ⟨rfl, rfl⟩

set_option maxHeartbeats 400000 in
theorem markIntS_own (A : Option Addr) (lo n c : Nat) (xs : List Value) (k : Int) (w : World) (h : w.ownsRow lo 3 1 (.slice A n c) n xs) (hb : n ≤ 1048576) (h0 : 0 ≤ k) (h1 : k ≤ 1099511627776) :
    Calls Try.prog 17 #[.slice A n c, .int .i64 k] w fun e w' => e = .returned (.int .i64 (k + n)) ∧ w'.ownsRow lo 3 1 (.slice A n c) n (marks mkI k n) ∧ w.grownBy w' (Value.slice A n c).ownBlock := by
  rcases h.2 with ⟨hv, hn⟩ | ⟨g, cap, cur, hv, hlo, hg, g1, g2, g3, g4⟩
  · injection hv with hA _ hc
    subst hA; subst hc; subst hn
    go_enter Try.func17, Try.ntmps17
    go_wp2
    go_loopw [1, 5] (fun s i wr => i = .int .i64 0 ∧ s = .int .i64 k ∧ wr = w) (fun _ i _ => 0)
    case atStart => exact ⟨rfl, rfl, rfl⟩
    case round =>
      obtain ⟨rfl, rfl, rfl⟩ := hrel
      go_wp2
      go_ret
      exact ⟨by simp, ⟨by simp [marks], .inl ⟨rfl, rfl⟩⟩, grown_refl _ _⟩
  · injection hv with hA _ hc
    subst hA; subst hc
    have hcur : cur.toList.length = c * 1 := by simpa using g3
    refine (markIntS_row g n c cur.toList k w (show Bk w g 3 cur.toList.toArray from by rw [Array.toArray_toList]; exact hg) (by omega) hb h0 h1).mono ?_
    rintro e w' ⟨rfl, B, hgr⟩
    refine ⟨rfl, ⟨by simp [marks_length], .inr ⟨g, c, (marked mkI k cur.toList n).toArray, rfl, hlo, B, g1, g2, ?_, ?_⟩⟩, hgr⟩
    · simp [marked_length mkI k cur.toList (i := n) (by omega), g3]
    · simp only [marked, Nat.mul_one]
      rw [List.take_append_of_le_length (by rw [marks_length]; exact Nat.le_refl _)]
      simp [marks_length, List.take_of_length_le]


end Go.Proofs.Ytandfbpanaldcaa
