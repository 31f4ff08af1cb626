/- The statement on 'laws.FnExactWorkDo': for every argument the call returns true, and each argument reads behind the call as it did before. No condition. -/
import Derived.Test.YtnoeliaefhldmaaDa4
import Derived.Test.YtnoeliaefhldmaaWorkM
import Derived.Test.YtnoeliaefhldmaaDaX
import Derived.Test.YtnoeliaefhldmaaDaO
import Derived.Test.YtnoeliaefhldmaaLaw
namespace Go.Proofs.Ytnoeliaefhldmaa.fnExactWorkDo
open Go.ChangeShapes Go.WideShapes Go.ChangeAt Go.RowKit Go.Joins
set_option linter.unusedVariables false


theorem contract (H : Type) (enc : TypeId × Value → H) (W : World) (base : Nat) (args : Array Value) (ds gs : List (DataW H)) (before : List MemPlace)
    (hval : ∀ (j : Nat) t v, Try.f3.params[j]? = some t → args[j]? = some v → Value.okWide Try.prog W .any base t v)
    (hW : DataW.Whole enc Try.prog Try.f3.params.toList Rows.fnExactWorkDoSpec.vars false W args.toList ds gs before) :
    Calls Try.prog 3 args W fun e W' => e = .returned (.bool true) ∧ Below W.heap.size W W' ∧ Rows.fnExactWorkDoSpec.fn H (ds ++ []) = { results := [.lit (.bool true)], args := ds } := by
  obtain ⟨p, q, hA0, hV, rfl, hfz, hnd⟩ := hW
  have hA : DataW.TrodAll enc Try.prog W 0 (fun _ => true) true Try.f3.params.toList args.toList ds p := hA0
  clear hA0 hV hfz hnd
  rw [Try.params3] at hA hval
  obtain ⟨v0, vs0, d0, ds0, p0, q0, hargs, rfl, rfl, h0, r0⟩ := trodAll_cons hA
  obtain ⟨v1, vs1, d1, ds1, p1, q1, rfl, rfl, rfl, h1, r1⟩ := trodAll_cons r0
  obtain ⟨rfl, rfl, rfl⟩ := trodAll_nil r1
  obtain rfl : args = #[v0, v1] := by cases args; simp_all
  have hspec : Rows.fnExactWorkDoSpec.fn H ([d0, d1] ++ []) = { results := [.lit (.bool true)], args := [d0, d1] } := rfl
  obtain ⟨A0_0, y0_0, k0_0, A0_1, y0_1, k0_1, A0_2, y0_2, k0_2, ev0, w0_0, w0_1, w0_2, w0_3, w0_4, w0_5, w0_6, w0_7, w0_8⟩ := op25 (hval 0 25 _ rfl rfl) h0
  subst ev0
  obtain ⟨y1_0, y1_1, y1_2, ev1, w1_0, w1_1, w1_2⟩ := op27 (hval 1 27 _ rfl rfl) h1
  subst ev1
  exact (c_laws_FnExactWorkDo ⟨w0_0, rfl⟩ ⟨w0_3, rfl⟩ ⟨w0_6, rfl⟩ (exactWorkDo_of y0_0 y0_1 y0_2 y1_0 y1_1 y1_2 (by have h := w0_1; unfold maxLen at h; omega) (by have h := w0_4; unfold maxLen at h; omega) (by have h := w0_7; unfold maxLen at h; omega) (fun s0 s1 s2 => core_ExactWorkDo y0_0 y0_1 y0_2 y1_0 y1_1 y1_2 s0 s1 s2 w0_2 w0_5 w0_8 w1_0 w1_1 w1_2))).mono fun e W' h => ⟨h.1, h.2.below, hspec⟩

set_option maxRecDepth 100000 in
theorem lifted (os : Os) (started : os.Started) (H : Type) (enc : TypeId × Value → H) :
    ReturnsInHanded {} Try.checked os 3 .any (Rows.fnExactWorkDoSpec.pre6 enc Try.prog Try.f3 Rows.fnExactWorkDoRow.domain false) (Rows.fnExactWorkDoSpec.post enc Try.prog Try.f3 false true false false) := by
  refine returnsInHanded_of_change (C := Try.checked) own started (by kernel_rfl) Try.func3
    (ChangeSpec.witness6 (enc := enc) (C := Try.checked) false ⟨#[], #[.agg #[.slice none 0 0, .slice none 0 0, .slice none 0 0], .agg #[.int .i64 0, .int .i64 0, .int .i64 0]], []⟩ 8 (by kernel_rfl) (by kernel_rfl) (by kernel_rfl) (by kernel_rfl)) ?_
  intro W base args ds gs before hval hW _ _
  refine (contract H enc W base args ds gs before hval hW).mono ?_
  rintro e W' ⟨rfl, hb, hfn⟩
  exact ⟨_, rfl, law_post laidOut hW (by kernel_rfl) rfl rfl Try.underlying4 hfn hb⟩

theorem over : Rows.fnExactWorkDoRow.holds Try.pinned (OpenSpec.ofChange Rows.fnExactWorkDoSpec) :=
  OpenClaim.holds_of_wide 3 Try.f3 rfl rfl rfl rfl rfl rfl rfl ⟨rfl, rfl, rfl, rfl, rfl⟩ rfl rfl rfl rfl rfl (by kernel_rfl) Try.func3 (by kernel_rfl)
    (of_decide_eq_true (by kernel_rfl)) (by unfold Func.isWrapper; first | (rw [if_pos (by decide +kernel)]; kernel_rfl) | (rw [if_neg (by decide +kernel)]; exact ⟨rfl, rfl⟩))
    (fun os started H enc _ => lifted os started H enc)

/-- THE STATEMENT -/
theorem proved : Rows.FnExactWorkDoSaid :=
  over
#print axioms proved
end Go.Proofs.Ytnoeliaefhldmaa.fnExactWorkDo
