/- The comparisons of the laws. -/
import Derived.Test.YtccacgplfcnpkaaDoorYd
namespace Go.Proofs.YtccacgplfcnpkaaDoor
set_option linter.unusedVariables false
set_option linter.unusedSimpArgs false

theorem same_loop {α Out : Type} [BEq α] (L : Nat → Int → Option Out) (a b : List α) (d : α) (no yes : Option Out) (hn : a.length ≤ 1099511627776) (hab : a.length = b.length)
    (hstep : ∀ fuel (k : Nat), k < a.length → L (fuel + 1) (k : Int) = bif (a.getD k d != b.getD k d) then no else L fuel ((k + 1 : Nat) : Int)) (hend : ∀ fuel, L (fuel + 1) (a.length : Int) = yes) :
    L FUEL 0 = bif (List.range a.length).any (fun k => a.getD k d != b.getD k d) then no else yes := by
  have h := loop_find L (fun k => (k : Int)) a.length (fun k => a.getD k d != b.getD k d) no yes hn (fun k fuel hk => hstep fuel k hk) hend
  simpa using h
theorem any_ne {α : Type} [BEq α] [LawfulBEq α] [DecidableEq α] (a b : List α) (d : α) (hab : a.length = b.length) : (List.range a.length).any (fun k => a.getD k d != b.getD k d) = !decide (a = b) := by
  rw [Bool.eq_iff_iff]
  simp only [List.any_eq_true, List.mem_range, bne_iff_ne, ne_eq, Bool.not_eq_true', decide_eq_false_iff_not]
  constructor
  · rintro ⟨k, hk, h⟩ rfl; exact h rfl
  · intro h
    refine Classical.byContradiction fun hc => h (List.ext_getElem hab fun k h1 h2 => ?_)
    have := Classical.byContradiction fun hk => hc ⟨k, h1, hk⟩
    rwa [getD_ge h1, getD_ge h2] at this
theorem sameBools_eq (a b : List Bool) (hn : a.length ≤ 1099511627776) : m_laws_sameBools a b = some (decide (a = b)) := by
  unfold m_laws_sameBools
  by_cases h : a.length = b.length
  · rw [show ((a.length : Int) != (b.length : Int)) = false by simp [h]]
    rw [same_loop (m_laws_sameBools_l1 a b) a b false (some (.inr false)) (some (.inl ())) hn h (fun fuel k hk => by
      rw [m_laws_sameBools_l1.eq_2]
      simp only [lt_dec hk, ix_dec hk, ix_dec (show k < b.length by omega), chk_true, cond_true, Int.toNat_natCast, w64_succ (by omega : k < 4611686018427387904)]) (fun fuel => by rw [m_laws_sameBools_l1.eq_2]; simp [nlt_dec]), any_ne a b false h]
    cases decide (a = b) <;> rfl
  · rw [show ((a.length : Int) != (b.length : Int)) = true by simp; omega]
    have : a ≠ b := fun e => h (by rw [e])
    simp [this]
end Go.Proofs.YtccacgplfcnpkaaDoor
