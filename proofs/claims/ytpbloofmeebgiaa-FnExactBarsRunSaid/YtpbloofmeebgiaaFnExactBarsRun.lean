/- The statement on 'laws.FnExactBarsRun': for every argument the call returns true, and each argument reads behind the call as it did before. No condition. -/
import Derived.Test.YtpbloofmeebgiaaBarsT
import Derived.Test.YtpbloofmeebgiaaOpensB
import Derived.Test.YtpbloofmeebgiaaLaw
namespace Go.Proofs.Ytpbloofmeebgiaa.fnExactBarsRun
open Go.ChangeShapes Go.WideShapes Go.ChangeAt Go.RowKit Go.Joins
set_option linter.unusedVariables false


theorem contract (H : Type) (enc : TypeId × Value → H) (W : World) (base : Nat) (args : Array Value) (ds gs : List (DataW H)) (before : List MemPlace)
    (hval : ∀ (j : Nat) t v, Try.f9.params[j]? = some t → args[j]? = some v → Value.okWide Try.prog W .any base t v)
    (hW : DataW.Whole enc Try.prog Try.f9.params.toList Rows.fnExactBarsRunSpec.vars false W args.toList ds gs before) :
    Calls Try.prog 9 args W fun e W' => e = .returned (.bool true) ∧ Below W.heap.size W W' ∧ Rows.fnExactBarsRunSpec.fn H (ds ++ []) = { results := [.lit (.bool true)], args := ds } := by
  obtain ⟨p, q, hA0, hV, rfl, hfz, hnd⟩ := hW
  have hA : DataW.TrodAll enc Try.prog W 0 (fun _ => true) true Try.f9.params.toList args.toList ds p := hA0
  clear hA0 hV hfz hnd
  rw [Try.params9] at hA hval
  obtain ⟨v0, vs0, d0, ds0, p0, q0, hargs, rfl, rfl, h0, r0⟩ := trodAll_cons hA
  obtain ⟨v1, vs1, d1, ds1, p1, q1, rfl, rfl, rfl, h1, r1⟩ := trodAll_cons r0
  obtain ⟨rfl, rfl, rfl⟩ := trodAll_nil r1
  obtain rfl : args = #[v0, v1] := by cases args; simp_all
  have hspec : Rows.fnExactBarsRunSpec.fn H ([d0, d1] ++ []) = { results := [.lit (.bool true)], args := [d0, d1] } := rfl
  obtain ⟨A0, l0, k0, cp0, ev0, R0, hc0, hm0⟩ := open_bars (hval 0 45 _ rfl rfl) h0
  subst ev0
  unfold maxLen at hm0
  obtain ⟨A1, l1, k1, ev1, R1, hc1, hm1, hin1⟩ := open_numsR (hval 1 43 _ rfl rfl) h1
  subst ev1
  unfold maxLen at hm1
  exact (exactBarsRun_walk l0 cp0 A0 k0 l1 A1 k1 W R0 (by omega) R1 (by omega) hin1).mono fun e W' h => ⟨h.1, h.2, hspec⟩

set_option maxRecDepth 100000 in
theorem lifted (os : Os) (started : os.Started) (H : Type) (enc : TypeId × Value → H) :
    ReturnsInHanded {} Try.checked os 9 .any (Rows.fnExactBarsRunSpec.pre6 enc Try.prog Try.f9 Rows.fnExactBarsRunRow.domain false) (Rows.fnExactBarsRunSpec.post enc Try.prog Try.f9 false true false false) := by
  refine returnsInHanded_of_change (C := Try.checked) own started (by kernel_rfl) Try.func9
    (ChangeSpec.witness6 (enc := enc) (C := Try.checked) false ⟨#[], #[.agg #[.slice none 0 0, .bool false], .slice none 0 0], []⟩ 8 (by kernel_rfl) (by kernel_rfl) (by kernel_rfl) (by kernel_rfl)) ?_
  intro W base args ds gs before hval hW _ _
  refine (contract H enc W base args ds gs before hval hW).mono ?_
  rintro e W' ⟨rfl, hb, hfn⟩
  exact ⟨_, rfl, law_post laidOut hW (by kernel_rfl) rfl rfl Try.underlying4 hfn hb⟩

theorem over : Rows.fnExactBarsRunRow.holds Try.pinned (OpenSpec.ofChange Rows.fnExactBarsRunSpec) :=
  OpenClaim.holds_of_wide 9 Try.f9 rfl rfl rfl rfl rfl rfl rfl ⟨rfl, rfl, rfl, rfl, rfl⟩ rfl rfl rfl rfl rfl (by kernel_rfl) Try.func9 (by kernel_rfl)
    (of_decide_eq_true (by kernel_rfl)) (by unfold Func.isWrapper; first | (rw [if_pos (by decide +kernel)]; kernel_rfl) | (rw [if_neg (by decide +kernel)]; exact ⟨rfl, rfl⟩))
    (fun os started H enc _ => lifted os started H enc)

/-- THE STATEMENT -/
theorem proved : Rows.FnExactBarsRunSaid :=
  over
#print axioms proved
end Go.Proofs.Ytpbloofmeebgiaa.fnExactBarsRun
