/- The statement on 'laws.FnLinesHeal': for every code the call returns true, and each argument reads behind the call as it did before; the listed package-level variables start as the program's text lays them (the card ties them). No other condition. -/
import Derived.Test.YtjdlgannencchaaGreatDoorTie
import Derived.Test.YtjdlgannencchaaGreatDoorCards
import Derived.LaidMore
import Derived.Stop.Joined
import Derived.SevenTiedAt
import Derived.Lay
import Derived.Test.YtjdlgannencchaaGreatDoorRLinesHeal5
namespace Go.Proofs.YtjdlgannencchaaGreatDoor.fnLinesHeal
open Go.ChangeShapes Go.WideShapes Go.ChangeAt Go.RowKit Go.Joins
set_option linter.unusedVariables false
set_option maxRecDepth 100000 in
theorem contract (H : Type) (enc : TypeId × Value → H) (W : World) (hbs : Bs W) (base : Nat) (args : Array Value) (ds gs : List (DataW H)) (before : List MemPlace)
    (hval : ∀ (j : Nat) t v, Tryz.f3.params[j]? = some t → args[j]? = some v → Value.okWide Tryz.prog W .any base t v)
    (hW : DataW.Whole enc Tryz.prog Tryz.f3.params.toList Rows.fnLinesHealSpec.vars false W args.toList ds gs before) :
    Calls Tryz.prog 3 args W fun e W' => e = .returned (.bool true) ∧ Below W.heap.size W W' ∧ Rows.fnLinesHealSpec.fn H (ds ++ []) = { results := [.lit (.bool true)], args := ds } := by
  obtain ⟨p, q, hA0, hV, rfl, hfz, hnd⟩ := hW
  have hA : DataW.TrodAll enc Tryz.prog W 0 (fun _ => true) true Tryz.f3.params.toList args.toList ds p := hA0
  clear hA0 hV hfz hnd
  rw [Tryz.params3] at hA hval
  obtain ⟨v0, vs0, d0, ds0, p0, q0, hargs, rfl, rfl, h0, r0⟩ := trodAll_cons hA
  obtain ⟨rfl, rfl, rfl⟩ := trodAll_nil r0
  obtain rfl : args = #[v0] := by cases args; simp_all
  have hspec : Rows.fnLinesHealSpec.fn H ([d0] ++ []) = { results := [.lit (.bool true)], args := [d0] } := rfl
  obtain ⟨A0_0, y0_0, k0_0, ev0, w0_0, w0_1, w0_2⟩ := Xa (hval 0 22 _ rfl rfl) h0
  subst ev0
  exact (sD hbs ⟨w0_0, rfl⟩ (uF y0_0 w0_1 w0_2)).mono fun e W' h => ⟨h.1, h.2.below, hspec⟩
theorem door_met (os : Os) (args : Array Value) : laidMetH Tryz.prog Rows.fnLinesHealRow.laid ((World.laidAll Tryz.prog os Rows.fnLinesHealRow.laid).forCall (fun _ _ => 0) ⟨#[], args, []⟩).memory := by
  rw [MakeChecks.laidMetH_plain _ _ _ (by kernel_rfl)]; exact laidMet_laidAll _ (by kernel_rfl) (by kernel_rfl)
set_option maxRecDepth 100000 in
theorem lifted (os : Os) (started : os.Started) (H : Type) (enc : TypeId × Value → H) :
    ReturnsInHanded {} Tryz.checked os 3 .any (fun w args => (Rows.fnLinesHealSpec.pre enc Tryz.prog Tryz.f3 [] false w args ∧ laidMetH Tryz.prog Rows.fnLinesHealRow.laid w) ∧ sizedMet enc Tryz.prog Tryz.f3 (OpenSpec.ofChange Rows.fnLinesHealSpec) false w args)
      (Rows.fnLinesHealSpec.post enc Tryz.prog Tryz.f3 false true false false) := by
  refine vS (C := Tryz.checked) (X := fun w _ => laidMetH Tryz.prog Rows.fnLinesHealRow.laid w) (fun _ _ _ hh h => h.of_heap hh) own started (by kernel_rfl) Tryz.func3
    (ChangeSpec.witness_shaped (enc := enc) (C := Tryz.checked) (os := os) (X := fun w _ => laidMetH Tryz.prog Rows.fnLinesHealRow.laid w) false (World.laidAll Tryz.prog os Rows.fnLinesHealRow.laid) #[.slice none 0 0] 8 (World.laidAll_os _ _ _) (World.shaped_of_ZipB (by kernel_rfl) (by kernel_rfl)) (by kernel_rfl) (by kernel_rfl) (by kernel_rfl) (door_met os _)) ?_
  intro W base args ds gs before hval hW hL hsh
  refine (contract H enc W (SM hL hsh) base args ds gs before hval hW).mono ?_
  rintro e W' ⟨rfl, hb, hfn⟩
  exact ⟨_, rfl, LK Ot hW (by kernel_rfl) rfl rfl Tryz.underlying4 hfn hb⟩
theorem jk1 : (Rows.fnLinesHealRow.inPlace == Tryz.prog.inPlace 3) = true := by kernel_rfl
theorem jk2 : (Rows.fnLinesHealRow.unfollowed == Tryz.prog.unfollowed 3) = true := by kernel_rfl
theorem jk3 : (Rows.fnLinesHealRow.recurses == Tryz.prog.recurses 3) = true := by kernel_rfl
theorem jk4 : (Rows.fnLinesHealRow.named == Tryz.prog.varsNamed 3) = true := by kernel_rfl
theorem closed : joinedFacts Tryz.prog 3 Tryz.f3 Rows.fnLinesHealSpec Rows.fnLinesHealRow = true := by
  unfold joinedFacts
  rw [jk1, jk2, jk3, jk4]
  kernel_rfl
theorem pk1 : false = Tryz.prog.looks [] := by kernel_rfl
theorem pk2 : false = Rows.fnLinesHealRow.goesBy Tryz.prog := by kernel_rfl
theorem over : Rows.fnLinesHealRow.holds Tryz.pinned (OpenSpec.ofChange Rows.fnLinesHealSpec) :=
  OpenClaim.holds_of_wide 3 Tryz.f3 rfl rfl rfl rfl rfl rfl rfl ⟨rfl, rfl, rfl, rfl, rfl⟩ rfl rfl rfl rfl rfl (by kernel_rfl) Tryz.func3 closed
    (of_decide_eq_true (by kernel_rfl)) (by unfold Func.isWrapper; first | (rw [if_pos (by decide +kernel)]; kernel_rfl) | (rw [if_neg (by decide +kernel)]; exact ⟨rfl, rfl⟩))
    (fun os started H enc _ => lifted os started H enc)
theorem proved : Rows.FnLinesHealCardSaid :=
  Claim7.holds_tied_plain_at .later [] [.data, .data, .data, .data, .pinned] true (true, "05958c7bd3cf4ae6049e28535a6b206e3d3a6bdf858ccb397d68b6b6ee9802ed") false
    over (fun _ h => by cases h) (by kernel_rfl) (fun _ h => by cases h) fnLinesHeal_row_tie rfl ⟨rfl, rfl⟩ (by kernel_rfl) rfl
    (fun f fn hf hfn => by
      obtain rfl : f = 3 := Option.some.inj ((show Tryz.prog.funcNamed "loop.example/powercontrol/laws.FnLinesHeal" = some 3 by kernel_rfl).symm.trans hf) |>.symm
      obtain rfl : fn = Tryz.f3 := (Option.some.inj (Tryz.func3.symm.trans hfn)).symm
      exact ⟨pk1, fun j t ht => by
        rw [Tryz.params3] at ht
        have hm : t ∈ [22] := by simpa using Array.mem_of_getElem? ht
        have hall : ([22].all fun u => !Tryz.prog.wantsStandIn u) = true := by kernel_rfl
        exact (show Tryz.prog.wantsStandIn t = false by simpa using List.all_eq_true.1 hall t hm)⟩)
    pk2
#print axioms proved
end Go.Proofs.YtjdlgannencchaaGreatDoor.fnLinesHeal
