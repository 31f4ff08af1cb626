/- The law FnExactStateText: it returns true. -/
import Derived.Test.YtpbloofmeebgiaaStateB
namespace Go.Proofs.Ytpbloofmeebgiaa
open Go.ChangeShapes Go.WideShapes Go.ChangeAt Go.RowKit

set_option maxHeartbeats 1000000 in
theorem exactStateText_walk (bs : List Bool) (A : Option Addr) (c : Nat) (w : World) (h : Rd w 1 A bs.length (bs.map .bool)) (hm : bs.length ≤ 9223372036854775807) :
    Calls Try.prog 3 #[.slice A bs.length c] w fun e w' => e = .returned (.bool true) ∧ Below w.heap.size w w' := by
  by_cases hbig : 1048576 < bs.length
  · have hb' : (1048576 : Int) < bs.length := by omega
    go_enter Try.func3, Try.ntmps3
    go_wp2
    go_ret
    exact ⟨rfl, Below.refl _ _⟩
  have hn : bs.length ≤ 1048576 := by omega
  have hb' : ¬ (1048576 : Int) < bs.length := by omega
  go_enter Try.func3, Try.ntmps3
  go_wp2_with fail
  refine (toBoolS_calls bs A c _ h hn).mono ?_
  rintro e w1 ⟨rfl, X1, b1⟩
  have R1 := X1.rd1
  simp only [List.length_map] at R1
  go_wp2_with fail
  refine (sStateText_calls bs _ _ _ R1 hn).mono ?_
  rintro e w2 ⟨rfl, b2⟩
  replace b2 := below_after' b2 b1
  clear R1 X1 b1
  go_wp2_with fail
  refine (toBoolS_calls bs A c _ (h.after b2) hn).mono ?_
  rintro e w3 ⟨rfl, X3, b3⟩
  replace b3 := below_after' b3 b2
  have R3 := X3.rd1
  simp only [List.length_map] at R3
  go_wp2_with fail
  refine (iStateText_calls bs _ _ _ R3 hn).mono ?_
  rintro e w4 ⟨rfl, b4⟩
  replace R3 := R3.after b4
  replace b4 := below_after' b4 b3
  clear X3 b3 b2
  go_wp2_with fail
  refine (toBoolS_calls bs A c _ (h.after b4) hn).mono ?_
  rintro e w5 ⟨rfl, X5, b5⟩
  have R5 := X5.rd1
  simp only [List.length_map] at R5
  go_wp2_with fail
  refine (eqBoolS_same bs _ _ _ _ _ (R3.after b5) R5 hn).mono ?_
  rintro e w6 ⟨rfl, b6⟩
  go_wp2_with fail
  go_ret
  exact ⟨rfl, below_after' b6 (below_after' b5 b4)⟩

end Go.Proofs.Ytpbloofmeebgiaa
