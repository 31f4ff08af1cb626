/- The opening of a code: at most 2000 bytes of it are read. -/
import Derived.Test.YtccacgplfcnpkaaDoorDel
namespace Go.Proofs.YtccacgplfcnpkaaDoor
open Go.ChangeShapes Go.WideShapes Go.ChangeAt Go.RowKit
def opA (c n : Nat) (A : Option Addr) : Option Addr := if 2000 < n then subA c (0 : Int).toNat 1 A else A
theorem take_sub (l : List Int) : l.take 2000 = subL l 0 2000 := by simp [subL]
theorem op_rc {w : World} {A : Option Addr} {n c : Nat} {l : List Int} (h : Rc w 1 A n c (l.flatMap eU)) (hn : n = l.length) : Rc w 1 (opA c n A) (l.take 2000).length c ((l.take 2000).flatMap eU) := by
  unfold opA
  by_cases h1 : 2000 < n
  · rw [if_pos h1, take_sub]
    exact rc_sub eU_len ⟨by omega, by omega, by omega⟩ hn h
  · rw [if_neg h1, List.take_of_length_le (by omega), ← hn]; exact h
end Go.Proofs.YtccacgplfcnpkaaDoor
