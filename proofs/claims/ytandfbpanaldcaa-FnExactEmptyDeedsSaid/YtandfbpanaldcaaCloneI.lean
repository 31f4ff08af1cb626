/- slices.Clone at []int. -/
import Derived.Test.YtandfbpanaldcaaApp
import Derived.Test.YtandfbpanaldcaaIntA
import Derived.WalkSpells
namespace Go.Proofs.Ytandfbpanaldcaa
open Go.ChangeShapes Go.WideShapes Go.ChangeAt Go.RowKit

/-- The clone lies in new memory (or is nil), and reads as what was cloned. -/
theorem cloneI_calls (xs : List Int) (A : Option Addr) (c : Nat) (w : World) (h : Rd w 1 A xs.length (xs.map (Value.int .i64))) (hn : xs.length ≤ 1048576) (hA : A = none → c = 0) :
    Calls Try.prog 29 #[.slice A xs.length c] w fun e w' => ∃ B d, e = .returned (.slice B xs.length d) ∧ w'.ownsRow w.heap.size 3 1 (.slice B xs.length d) xs.length (xs.map (Value.int .i64)) ∧ Below w.heap.size w w' := by
  obtain ⟨i0, hi0, hz0, hz1, hz2⟩ := info_parts info_int
  cases A with
  | none =>
    obtain rfl := hA rfl
    have hx : xs = [] := by
      rcases Nat.eq_zero_or_pos xs.length with h0 | h0
      · exact List.eq_nil_of_length_eq_zero h0
      · obtain ⟨b, off, h, _⟩ := h.2 h0; cases h
    subst hx
    have hnil := fun W a n c => Lib.run_eql_slice_nil (P := Try.prog) W 22 3 a n c 0 0 Try.underlying22
    go_enter Try.func29, Try.ntmps29
    go_wp2
    go_ret
    exact ⟨none, 0, rfl, World.ownsRow_nil _ _ _ _, Below.refl _ _⟩
  | some ad =>
    have hnil := fun W a n c => Lib.run_eql_slice_nil (P := Try.prog) W 22 3 a n c 0 0 Try.underlying22
    have hown : (w.alloc (.cells #[] 3)).ownsRow w.heap.size 3 1 (.slice (some ⟨w.heap.size, 0, none⟩) 0 0) 0 [] := World.ownsRow_made _ _ _ (Nat.le_refl _) (Nat.zero_le _) (by simp)
    go_enter Try.func29, Try.ntmps29
    go_wp2_with (at_builtin; refine wpList_append_src _ rfl _ _ 22 rfl w.heap.size 3 i0 (.int .i64 0) 1 8 Try.underlying22 hi0 hz0 hz1 hz2 rfl (by decide) _ _ _ rfl hown _ _ _ _ rfl (h.alloc _) (oneCell_ints xs) (by unfold maxLen; omega) (by omega) (by simp) ?_; intro v1 w1 hown1 hgrow1)
    go_ret
    simp only [Nat.zero_add, List.nil_append] at hown1
    obtain ⟨B, d, rfl, _, _, _⟩ := own_form hown1
    exact ⟨B, d, rfl, hown1, own_src_below (by repeat' (first | exact Below.refl _ _ | assumption | refine Below.drew ?_ | refine cell_drew ?_ | refine Below.setCell ?_ (by (try simp); (try omega)) _ | refine Below.alloc ?_ (by (try simp); (try omega)) _ | refine below_step (by assumption) (by (try simp); (try omega)) ?_)) hown hgrow1⟩

end Go.Proofs.Ytandfbpanaldcaa
