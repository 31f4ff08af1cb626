/- The statement on 'laws.FnExactSyncJoin': for every argument the call returns true, and each argument reads behind the call as it did before. No condition. -/
import Derived.Test.YtpbloofmeebgiaaSyncE
import Derived.Test.YtpbloofmeebgiaaLaw
namespace Go.Proofs.Ytpbloofmeebgiaa.fnExactSyncJoin
open Go.ChangeShapes Go.WideShapes Go.ChangeAt Go.RowKit Go.Joins
set_option linter.unusedVariables false


theorem contract (H : Type) (enc : TypeId × Value → H) (W : World) (base : Nat) (args : Array Value) (ds gs : List (DataW H)) (before : List MemPlace)
    (hval : ∀ (j : Nat) t v, Try.f4.params[j]? = some t → args[j]? = some v → Value.okWide Try.prog W .any base t v)
    (hW : DataW.Whole enc Try.prog Try.f4.params.toList Rows.fnExactSyncJoinSpec.vars false W args.toList ds gs before) :
    Calls Try.prog 4 args W fun e W' => e = .returned (.bool true) ∧ Below W.heap.size W W' ∧ Rows.fnExactSyncJoinSpec.fn H (ds ++ []) = { results := [.lit (.bool true)], args := ds } := by
  obtain ⟨p, q, hA0, hV, rfl, hfz, hnd⟩ := hW
  have hA : DataW.TrodAll enc Try.prog W 0 (fun _ => true) true Try.f4.params.toList args.toList ds p := hA0
  clear hA0 hV hfz hnd
  rw [Try.params4] at hA hval
  obtain ⟨v0, vs0, d0, ds0, p0, q0, hargs, rfl, rfl, h0, r0⟩ := trodAll_cons hA
  obtain ⟨v1, vs1, d1, ds1, p1, q1, rfl, rfl, rfl, h1, r1⟩ := trodAll_cons r0
  obtain ⟨v2, vs2, d2, ds2, p2, q2, rfl, rfl, rfl, h2, r2⟩ := trodAll_cons r1
  obtain ⟨rfl, rfl, rfl⟩ := trodAll_nil r2
  obtain rfl : args = #[v0, v1, v2] := by cases args; simp_all
  have hspec : Rows.fnExactSyncJoinSpec.fn H ([d0, d1, d2] ++ []) = { results := [.lit (.bool true)], args := [d0, d1, d2] } := rfl
  obtain ⟨c00, c01, y00, y01, m0, rfl, rfl, rfl, hy00, hy01⟩ := open_agg2 Try.underlying28 (by kernel_rfl) (by kernel_rfl) (hval 0 28 _ rfl rfl) h0
  obtain ⟨a0, e0, _, _⟩ := DataW.trod_int Try.underlying3 hy00
  obtain ⟨b0, g0, _, _⟩ := DataW.trod_int Try.underlying3 hy01
  injection e0 with e0 _
  injection g0 with g0 _
  subst e0
  subst g0
  obtain ⟨c10, c11, y10, y11, m1, rfl, rfl, rfl, hy10, hy11⟩ := open_agg2 Try.underlying28 (by kernel_rfl) (by kernel_rfl) (hval 1 28 _ rfl rfl) h1
  obtain ⟨a1, e1, _, _⟩ := DataW.trod_int Try.underlying3 hy10
  obtain ⟨b1, g1, _, _⟩ := DataW.trod_int Try.underlying3 hy11
  injection e1 with e1 _
  injection g1 with g1 _
  subst e1
  subst g1
  obtain ⟨a2, rfl, rfl, rfl, wf2⟩ := open_int Try.underlying3 (hval 2 3 _ rfl rfl) h2
  exact (exactSyncJoin_walk a0 b0 a1 b1 a2 W).mono fun e W' h => ⟨h.1, h.2, hspec⟩

set_option maxRecDepth 100000 in
theorem lifted (os : Os) (started : os.Started) (H : Type) (enc : TypeId × Value → H) :
    ReturnsInHanded {} Try.checked os 4 .any (Rows.fnExactSyncJoinSpec.pre6 enc Try.prog Try.f4 Rows.fnExactSyncJoinRow.domain false) (Rows.fnExactSyncJoinSpec.post enc Try.prog Try.f4 false true false false) := by
  refine returnsInHanded_of_change (C := Try.checked) own started (by kernel_rfl) Try.func4
    (ChangeSpec.witness6 (enc := enc) (C := Try.checked) false ⟨#[], #[.agg #[.int .i64 0, .int .i64 0], .agg #[.int .i64 0, .int .i64 0], .int .i64 0], []⟩ 8 (by kernel_rfl) (by kernel_rfl) (by kernel_rfl) (by kernel_rfl)) ?_
  intro W base args ds gs before hval hW _ _
  refine (contract H enc W base args ds gs before hval hW).mono ?_
  rintro e W' ⟨rfl, hb, hfn⟩
  exact ⟨_, rfl, law_post laidOut hW (by kernel_rfl) rfl rfl Try.underlying4 hfn hb⟩

theorem over : Rows.fnExactSyncJoinRow.holds Try.pinned (OpenSpec.ofChange Rows.fnExactSyncJoinSpec) :=
  OpenClaim.holds_of_wide 4 Try.f4 rfl rfl rfl rfl rfl rfl rfl ⟨rfl, rfl, rfl, rfl, rfl⟩ rfl rfl rfl rfl rfl (by kernel_rfl) Try.func4 (by kernel_rfl)
    (of_decide_eq_true (by kernel_rfl)) (by unfold Func.isWrapper; first | (rw [if_pos (by decide +kernel)]; kernel_rfl) | (rw [if_neg (by decide +kernel)]; exact ⟨rfl, rfl⟩))
    (fun os started H enc _ => lifted os started H enc)

/-- THE STATEMENT -/
theorem proved : Rows.FnExactSyncJoinSaid :=
  over
#print axioms proved
end Go.Proofs.Ytpbloofmeebgiaa.fnExactSyncJoin
