/- The statement on 'laws.FnExactWorldRest': for every argument the call returns true, and each argument reads behind the call as it did before. No condition. -/
import Derived.Test.YtekcjnpahohkaaaGreatRExactWorldRest7
namespace Go.Proofs.YtekcjnpahohkaaaGreat.fnExactWorldRest
open Go.ChangeShapes Go.WideShapes Go.ChangeAt Go.RowKit Go.Joins
set_option linter.unusedVariables false
set_option maxRecDepth 100000 in
theorem contract (H : Type) (enc : TypeId × Value → H) (W : World) (base : Nat) (args : Array Value) (ds gs : List (DataW H)) (before : List MemPlace)
    (hval : ∀ (j : Nat) t v, Tryz.f3.params[j]? = some t → args[j]? = some v → Value.okWide Tryz.prog W .any base t v)
    (hW : DataW.Whole enc Tryz.prog Tryz.f3.params.toList Rows.fnExactWorldRestSpec.vars false W args.toList ds gs before) :
    Calls Tryz.prog 3 args W fun e W' => e = .returned (.bool true) ∧ Below W.heap.size W W' ∧ Rows.fnExactWorldRestSpec.fn H (ds ++ []) = { results := [.lit (.bool true)], args := ds } := by
  obtain ⟨p, q, hA0, hV, rfl, hfz, hnd⟩ := hW
  have hA : DataW.TrodAll enc Tryz.prog W 0 (fun _ => true) true Tryz.f3.params.toList args.toList ds p := hA0
  clear hA0 hV hfz hnd
  rw [Tryz.params3] at hA hval
  obtain ⟨v0, vs0, d0, ds0, p0, q0, hargs, rfl, rfl, h0, r0⟩ := trodAll_cons hA
  obtain ⟨rfl, rfl, rfl⟩ := trodAll_nil r0
  obtain rfl : args = #[v0] := by cases args; simp_all
  have hspec : Rows.fnExactWorldRestSpec.fn H ([d0] ++ []) = { results := [.lit (.bool true)], args := [d0] } := rfl
  obtain ⟨y0_0, A0_1, y0_1, k0_1, A0_2, y0_2, k0_2, A0_3, y0_3, k0_3, A0_4, y0_4, k0_4, A0_5, y0_5, k0_5, A0_6, y0_6, k0_6, ev0, w0_0, w0_1, w0_2, w0_3, w0_4, w0_5, w0_6, w0_7, w0_8, w0_9, w0_10, w0_11, w0_12, w0_13, w0_14, w0_15, w0_16, w0_17, w0_18⟩ := op32 (hval 0 32 _ rfl rfl) h0
  subst ev0
  exact (c_laws_FnExactWorldRest ⟨w0_1, rfl⟩ ⟨w0_4, rfl⟩ ⟨w0_7, rfl⟩ ⟨w0_10, rfl⟩ ⟨w0_13, rfl⟩ ⟨w0_16, rfl⟩ (exactWorldRest_of y0_0 y0_1 y0_2 y0_3 y0_4 y0_5 y0_6 (by have h := w0_2; unfold maxLen at h; omega) (by have h := w0_5; unfold maxLen at h; omega) (by have h := w0_8; unfold maxLen at h; omega) (by have h := w0_11; unfold maxLen at h; omega) (by have h := w0_14; unfold maxLen at h; omega) (by have h := w0_17; unfold maxLen at h; omega) (fun s0 s1 s2 s3 s4 s5 => core_ExactWorldRest y0_0 y0_1 y0_2 y0_3 y0_4 y0_5 y0_6 s0 s1 s2 s3 s4 s5 w0_0 w0_3 w0_6 w0_9 w0_12 w0_15 w0_18))).mono fun e W' h => ⟨h.1, h.2.below, hspec⟩
set_option maxRecDepth 100000 in
theorem lifted (os : Os) (started : os.Started) (H : Type) (enc : TypeId × Value → H) :
    ReturnsInHanded {} Tryz.checked os 3 .any (Rows.fnExactWorldRestSpec.pre6 enc Tryz.prog Tryz.f3 Rows.fnExactWorldRestRow.domain false) (Rows.fnExactWorldRestSpec.post enc Tryz.prog Tryz.f3 false true false false) := by
  refine returnsInHanded_of_change (C := Tryz.checked) own started (by kernel_rfl) Tryz.func3
    (ChangeSpec.witness6 (enc := enc) (C := Tryz.checked) false ⟨#[], #[.agg #[.int .i64 0, .slice none 0 0, .slice none 0 0, .slice none 0 0, .slice none 0 0, .slice none 0 0, .slice none 0 0]], []⟩ 8 (by kernel_rfl) (by kernel_rfl) (by kernel_rfl) (by kernel_rfl)) ?_
  intro W base args ds gs before hval hW _ _
  refine (contract H enc W base args ds gs before hval hW).mono ?_
  rintro e W' ⟨rfl, hb, hfn⟩
  exact ⟨_, rfl, law_post laidOut hW (by kernel_rfl) rfl rfl Tryz.underlying4 hfn hb⟩
theorem over : Rows.fnExactWorldRestRow.holds Tryz.pinned (OpenSpec.ofChange Rows.fnExactWorldRestSpec) :=
  OpenClaim.holds_of_wide 3 Tryz.f3 rfl rfl rfl rfl rfl rfl rfl ⟨rfl, rfl, rfl, rfl, rfl⟩ rfl rfl rfl rfl rfl (by kernel_rfl) Tryz.func3 (by kernel_rfl)
    (of_decide_eq_true (by kernel_rfl)) (by unfold Func.isWrapper; first | (rw [if_pos (by decide +kernel)]; kernel_rfl) | (rw [if_neg (by decide +kernel)]; exact ⟨rfl, rfl⟩))
    (fun os started H enc _ => lifted os started H enc)
theorem proved : Rows.FnExactWorldRestSaid :=
  over
#print axioms proved
end Go.Proofs.YtekcjnpahohkaaaGreat.fnExactWorldRest
