/- The contracts of MoveDeeds. -/
import Derived.Test.YtandfbpanaldcaaMoveW
namespace Go.Proofs.Ytandfbpanaldcaa
open Go.ChangeShapes Go.WideShapes Go.ChangeAt Go.RowKit
set_option linter.unusedVariables false

theorem move_forms {s : List Int} {cp : Bool} {k : Nat} {bar : Int} (hv : barsValid s cp = true) (hk : k < s.length) (hb : bar = 1 ∨ bar = 2) (hx : sideAt s k ≠ bar) :
    (cp = false ∧ s[k] = 3 - bar ∧ moveDeeds s cp k bar = [1, 2 + 4 * (k : Int) + 2 * (bar - 1) + 1, 2 + 4 * (k : Int) + 2 * (2 - bar), 0]) ∨
    (cp = true ∧ s[k] = 3 - bar ∧ moveDeeds s cp k bar = [2 + 4 * (k : Int) + 2 * (bar - 1) + 1, 2 + 4 * (k : Int) + 2 * (2 - bar)]) ∨
    (cp = true ∧ s[k] = 3 ∧ moveDeeds s cp k bar = [2 + 4 * (k : Int) + 2 * (2 - bar)]) := by
  have e0 : sideAt s k = s[k] := by simp [sideAt, hk]
  have hside := barsValid_side hv hk
  unfold moveDeeds
  rw [if_pos ⟨hv, by omega, by omega, by omega, by omega, by simpa using hx⟩]
  simp only [Int.toNat_natCast]
  rw [e0] at hx
  have hok := valid_sides hv s[k] (List.getElem_mem _)
  cases cp
  · have h3 : s[k] ≠ 3 := by intro e; rw [e] at hok; revert hok; decide
    refine .inl ⟨rfl, by omega, ?_⟩
    rw [if_neg (c := sideAt s k = 3) (by rw [e0]; exact h3)]; rfl
  · by_cases h3 : s[k] = 3
    · refine .inr (.inr ⟨rfl, h3, ?_⟩)
      rw [if_pos (c := sideAt s k = 3) (by rw [e0]; exact h3)]; rfl
    · refine .inr (.inl ⟨rfl, by omega, ?_⟩)
      rw [if_neg (c := sideAt s k = 3) (by rw [e0]; exact h3)]; rfl

theorem iMove_calls (s : List Int) (cp : Bool) (A : Option Addr) (c : Nat) (bay bar : Int) (w : World) (h : Rd w 1 A s.length (s.map (Value.int .i64))) (hn : s.length ≤ 1048576) :
    Calls Try.prog 28 #[.agg #[.slice A s.length c, .bool cp], .int .i64 bay, .int .i64 bar] w (ListPost w (moveDeeds s cp bay bar)) := by
  by_cases hc : barsValid s cp = true ∧ 0 ≤ bay ∧ bay < s.length ∧ 1 ≤ bar ∧ bar ≤ 2 ∧ sideAt s bay.toNat ≠ bar
  · obtain ⟨hv, h0, h1, h2, h3, h4⟩ := hc
    obtain ⟨k, rfl⟩ : ∃ k : Nat, bay = (k : Int) := ⟨bay.toNat, by omega⟩
    have hk : k < s.length := by omega
    have e3 : (2 + 4 * (k : Int) + 2 * (2 - bar)) = 2 + 4 * (k : Int) + 2 * (3 - bar - 1) := by omega
    rcases move_forms (bar := bar) hv hk (by omega) (by simpa using h4) with ⟨rfl, hx, e⟩ | ⟨rfl, hx, e⟩ | ⟨rfl, hx, e⟩
    · rw [e, e3]; exact iMove_false_x s A c k bar w h hn hv hk (by omega) hx
    · rw [e, e3]; exact iMove_true_x s A c k bar w h hn hv hk (by omega) hx
    · rw [e, e3]; exact iMove_true_3 s A c k bar w h hn hv hk (by omega) hx
  · exact iMove_none s cp A c bay bar w h hn (by unfold moveDeeds; rw [if_neg hc]) hc
theorem sMove_calls (s : List Int) (cp : Bool) (A : Option Addr) (c : Nat) (bay bar : Int) (w : World) (h : Rd w 1 A s.length (s.map (Value.int .i64))) (hn : s.length ≤ 1048576) :
    Calls Try.prog 27 #[.agg #[.slice A s.length c, .bool cp], .int .i64 bay, .int .i64 bar] w (ListPost w (moveDeeds s cp bay bar)) := by
  by_cases hc : barsValid s cp = true ∧ 0 ≤ bay ∧ bay < s.length ∧ 1 ≤ bar ∧ bar ≤ 2 ∧ sideAt s bay.toNat ≠ bar
  · obtain ⟨hv, h0, h1, h2, h3, h4⟩ := hc
    obtain ⟨k, rfl⟩ : ∃ k : Nat, bay = (k : Int) := ⟨bay.toNat, by omega⟩
    have hk : k < s.length := by omega
    rcases move_forms (bar := bar) hv hk (by omega) (by simpa using h4) with ⟨rfl, hx, e⟩ | ⟨rfl, hx, e⟩ | ⟨rfl, hx, e⟩
    · rw [e]; exact sMove_false_x s A c k bar w h hn hv hk (by omega) hx
    · rw [e]; exact sMove_true_x s A c k bar w h hn hv hk (by omega) hx
    · rw [e]; exact sMove_true_3 s A c k bar w h hn hv hk (by omega) hx
  · exact sMove_none s cp A c bay bar w h hn (by unfold moveDeeds; rw [if_neg hc]) hc

end Go.Proofs.Ytandfbpanaldcaa
