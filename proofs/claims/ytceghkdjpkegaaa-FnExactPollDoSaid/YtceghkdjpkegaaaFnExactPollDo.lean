/- The statement on 'laws.FnExactPollDo': for every argument the call returns true, and each argument reads behind the call as it did before. No condition. -/
import Derived.Test.YtceghkdjpkegaaaDa4
import Derived.Test.YtceghkdjpkegaaaPollC
import Derived.Test.YtceghkdjpkegaaaDaX
import Derived.Test.YtceghkdjpkegaaaDaO
import Derived.Test.YtceghkdjpkegaaaLaw
namespace Go.Proofs.Ytceghkdjpkegaaa.fnExactPollDo
open Go.ChangeShapes Go.WideShapes Go.ChangeAt Go.RowKit Go.Joins
set_option linter.unusedVariables false


theorem contract (H : Type) (enc : TypeId × Value → H) (W : World) (base : Nat) (args : Array Value) (ds gs : List (DataW H)) (before : List MemPlace)
    (hval : ∀ (j : Nat) t v, Try.f3.params[j]? = some t → args[j]? = some v → Value.okWide Try.prog W .any base t v)
    (hW : DataW.Whole enc Try.prog Try.f3.params.toList Rows.fnExactPollDoSpec.vars false W args.toList ds gs before) :
    Calls Try.prog 3 args W fun e W' => e = .returned (.bool true) ∧ Below W.heap.size W W' ∧ Rows.fnExactPollDoSpec.fn H (ds ++ []) = { results := [.lit (.bool true)], args := ds } := by
  obtain ⟨p, q, hA0, hV, rfl, hfz, hnd⟩ := hW
  have hA : DataW.TrodAll enc Try.prog W 0 (fun _ => true) true Try.f3.params.toList args.toList ds p := hA0
  clear hA0 hV hfz hnd
  rw [Try.params3] at hA hval
  obtain ⟨v0, vs0, d0, ds0, p0, q0, hargs, rfl, rfl, h0, r0⟩ := trodAll_cons hA
  obtain ⟨v1, vs1, d1, ds1, p1, q1, rfl, rfl, rfl, h1, r1⟩ := trodAll_cons r0
  obtain ⟨rfl, rfl, rfl⟩ := trodAll_nil r1
  obtain rfl : args = #[v0, v1] := by cases args; simp_all
  have hspec : Rows.fnExactPollDoSpec.fn H ([d0, d1] ++ []) = { results := [.lit (.bool true)], args := [d0, d1] } := rfl
  obtain ⟨y0_0, A0_1, y0_1, k0_1, y0_2, A0_3, y0_3, k0_3, y0_4, y0_5, y0_6, y0_7, ev0, w0_0, w0_1, w0_2, w0_3, w0_4, w0_5, w0_6, w0_7, w0_8, w0_9, w0_10, w0_11⟩ := op24 (hval 0 24 _ rfl rfl) h0
  subst ev0
  obtain ⟨y1_0, y1_1, ev1, w1_0, w1_1⟩ := op26 (hval 1 26 _ rfl rfl) h1
  subst ev1
  exact (c_laws_FnExactPollDo ⟨w0_1, rfl⟩ ⟨w0_5, rfl⟩ (exactPollDo_of y0_0 y0_1 y0_2 y0_3 y0_4 y0_5 y0_6 y0_7 y1_0 y1_1 (by have h := w0_2; unfold maxLen at h; omega) (by have h := w0_6; unfold maxLen at h; omega) (fun s0 s1 => core_ExactPollDo y0_0 y0_1 y0_2 y0_3 y0_4 y0_5 y0_6 y0_7 y1_0 y1_1 s0 s1 w0_0 w0_3 w0_4 w0_7 w0_8 w0_9 w0_10 w0_11 w1_0 w1_1))).mono fun e W' h => ⟨h.1, h.2.below, hspec⟩

set_option maxRecDepth 100000 in
theorem lifted (os : Os) (started : os.Started) (H : Type) (enc : TypeId × Value → H) :
    ReturnsInHanded {} Try.checked os 3 .any (Rows.fnExactPollDoSpec.pre6 enc Try.prog Try.f3 Rows.fnExactPollDoRow.domain false) (Rows.fnExactPollDoSpec.post enc Try.prog Try.f3 false true false false) := by
  refine returnsInHanded_of_change (C := Try.checked) own started (by kernel_rfl) Try.func3
    (ChangeSpec.witness6 (enc := enc) (C := Try.checked) false ⟨#[], #[.agg #[.int .i64 0, .slice none 0 0, .int .i64 0, .slice none 0 0, .int .i64 0, .int .i64 0, .int .i64 0, .int .i64 0], .agg #[.int .i64 0, .int .i64 0]], []⟩ 8 (by kernel_rfl) (by kernel_rfl) (by kernel_rfl) (by kernel_rfl)) ?_
  intro W base args ds gs before hval hW _ _
  refine (contract H enc W base args ds gs before hval hW).mono ?_
  rintro e W' ⟨rfl, hb, hfn⟩
  exact ⟨_, rfl, law_post laidOut hW (by kernel_rfl) rfl rfl Try.underlying4 hfn hb⟩

theorem over : Rows.fnExactPollDoRow.holds Try.pinned (OpenSpec.ofChange Rows.fnExactPollDoSpec) :=
  OpenClaim.holds_of_wide 3 Try.f3 rfl rfl rfl rfl rfl rfl rfl ⟨rfl, rfl, rfl, rfl, rfl⟩ rfl rfl rfl rfl rfl (by kernel_rfl) Try.func3 (by kernel_rfl)
    (of_decide_eq_true (by kernel_rfl)) (by unfold Func.isWrapper; first | (rw [if_pos (by decide +kernel)]; kernel_rfl) | (rw [if_neg (by decide +kernel)]; exact ⟨rfl, rfl⟩))
    (fun os started H enc _ => lifted os started H enc)

/-- THE STATEMENT -/
theorem proved : Rows.FnExactPollDoSaid :=
  over
#print axioms proved
end Go.Proofs.Ytceghkdjpkegaaa.fnExactPollDo
