/- The statement on 'laws.FnExactWorldLine': for all arguments the call returns true, and each argument reads behind the call as it did before; the listed package-level variables start as the program's text lays them (the card ties them). No other condition. -/
import Derived.Test.YtjdlgannencchaaGreatDoorTie
import Derived.Test.YtjdlgannencchaaGreatDoorCards
import Derived.LaidMore
import Derived.Stop.Joined
import Derived.SevenTiedAt
import Derived.Lay
import Derived.Test.YtjdlgannencchaaGreatDoorRExactWorldLine6
namespace Go.Proofs.YtjdlgannencchaaGreatDoor.fnExactWorldLine
open Go.ChangeShapes Go.WideShapes Go.ChangeAt Go.RowKit Go.Joins
set_option linter.unusedVariables false
set_option maxRecDepth 100000 in
theorem contract (H : Type) (enc : TypeId × Value → H) (W : World) (hbs : Bs W) (base : Nat) (args : Array Value) (ds gs : List (DataW H)) (before : List MemPlace)
    (hval : ∀ (j : Nat) t v, Tryz.f6.params[j]? = some t → args[j]? = some v → Value.okWide Tryz.prog W .any base t v)
    (hW : DataW.Whole enc Tryz.prog Tryz.f6.params.toList Rows.fnExactWorldLineSpec.vars false W args.toList ds gs before) :
    Calls Tryz.prog 6 args W fun e W' => e = .returned (.bool true) ∧ Below W.heap.size W W' ∧ Rows.fnExactWorldLineSpec.fn H (ds ++ []) = { results := [.lit (.bool true)], args := ds } := by
  obtain ⟨p, q, hA0, hV, rfl, hfz, hnd⟩ := hW
  have hA : DataW.TrodAll enc Tryz.prog W 0 (fun _ => true) true Tryz.f6.params.toList args.toList ds p := hA0
  clear hA0 hV hfz hnd
  rw [Tryz.params6] at hA hval
  obtain ⟨v0, vs0, d0, ds0, p0, q0, hargs, rfl, rfl, h0, r0⟩ := trodAll_cons hA
  obtain ⟨v1, vs1, d1, ds1, p1, q1, rfl, rfl, rfl, h1, r1⟩ := trodAll_cons r0
  obtain ⟨rfl, rfl, rfl⟩ := trodAll_nil r1
  obtain rfl : args = #[v0, v1] := by cases args; simp_all
  have hspec : Rows.fnExactWorldLineSpec.fn H ([d0, d1] ++ []) = { results := [.lit (.bool true)], args := [d0, d1] } := rfl
  obtain ⟨y0_0, A0_1, y0_1, k0_1, A0_2, y0_2, k0_2, A0_3, y0_3, k0_3, A0_4, y0_4, k0_4, A0_5, y0_5, k0_5, A0_6, y0_6, k0_6, ev0, w0_0, w0_1, w0_2, w0_3, w0_4, w0_5, w0_6, w0_7, w0_8, w0_9, w0_10, w0_11, w0_12, w0_13, w0_14, w0_15, w0_16, w0_17, w0_18⟩ := aeY (hval 0 57 _ rfl rfl) h0
  subst ev0
  obtain ⟨y1_0, ev1, w1_0⟩ := op9 (hval 1 9 _ rfl rfl) h1
  subst ev1
  exact (uH hbs ⟨w0_1, rfl⟩ ⟨w0_4, rfl⟩ ⟨w0_7, rfl⟩ ⟨w0_10, rfl⟩ ⟨w0_13, rfl⟩ ⟨w0_16, rfl⟩ (Eg y0_0 y0_1 y0_2 y0_3 y0_4 y0_5 y0_6 y1_0 (by have h := w0_2; unfold maxLen at h; omega) (by have h := w0_5; unfold maxLen at h; omega) (by have h := w0_8; unfold maxLen at h; omega) (by have h := w0_11; unfold maxLen at h; omega) (by have h := w0_14; unfold maxLen at h; omega) (by have h := w0_17; unfold maxLen at h; omega))).mono fun e W' h => ⟨h.1, h.2.below, hspec⟩
theorem door_met (os : Os) (args : Array Value) : laidMetH Tryz.prog Rows.fnExactWorldLineRow.laid ((World.laidAll Tryz.prog os Rows.fnExactWorldLineRow.laid).forCall (fun _ _ => 0) ⟨#[], args, []⟩).memory := by
  rw [MakeChecks.laidMetH_plain _ _ _ (by kernel_rfl)]; exact laidMet_laidAll _ (by kernel_rfl) (by kernel_rfl)
set_option maxRecDepth 100000 in
theorem lifted (os : Os) (started : os.Started) (H : Type) (enc : TypeId × Value → H) :
    ReturnsInHanded {} Tryz.checked os 6 .any (fun w args => (Rows.fnExactWorldLineSpec.pre enc Tryz.prog Tryz.f6 [] false w args ∧ laidMetH Tryz.prog Rows.fnExactWorldLineRow.laid w) ∧ sizedMet enc Tryz.prog Tryz.f6 (OpenSpec.ofChange Rows.fnExactWorldLineSpec) false w args)
      (Rows.fnExactWorldLineSpec.post enc Tryz.prog Tryz.f6 false true false false) := by
  refine GX (C := Tryz.checked) (X := fun w _ => laidMetH Tryz.prog Rows.fnExactWorldLineRow.laid w) (fun _ _ _ hh h => h.of_heap hh) own started (by kernel_rfl) Tryz.func6
    (ChangeSpec.witness_shaped (enc := enc) (C := Tryz.checked) (os := os) (X := fun w _ => laidMetH Tryz.prog Rows.fnExactWorldLineRow.laid w) false (World.laidAll Tryz.prog os Rows.fnExactWorldLineRow.laid) #[.agg #[.int .i64 0, .slice none 0 0, .slice none 0 0, .slice none 0 0, .slice none 0 0, .slice none 0 0, .slice none 0 0], .string ⟨#[]⟩] 8 (World.laidAll_os _ _ _) (World.shaped_of_ZipB (by kernel_rfl) (by kernel_rfl)) (by kernel_rfl) (by kernel_rfl) (by kernel_rfl) (door_met os _)) ?_
  intro W base args ds gs before hval hW hL hsh
  refine (contract H enc W (aaD hL hsh) base args ds gs before hval hW).mono ?_
  rintro e W' ⟨rfl, hb, hfn⟩
  exact ⟨_, rfl, Uq WR hW (by kernel_rfl) rfl rfl Tryz.underlying4 hfn hb⟩
theorem jk1 : (Rows.fnExactWorldLineRow.inPlace == Tryz.prog.inPlace 6) = true := by kernel_rfl
theorem jk2 : (Rows.fnExactWorldLineRow.unfollowed == Tryz.prog.unfollowed 6) = true := by kernel_rfl
theorem jk3 : (Rows.fnExactWorldLineRow.recurses == Tryz.prog.recurses 6) = true := by kernel_rfl
theorem jk4 : (Rows.fnExactWorldLineRow.named == Tryz.prog.varsNamed 6) = true := by kernel_rfl
theorem closed : joinedFacts Tryz.prog 6 Tryz.f6 Rows.fnExactWorldLineSpec Rows.fnExactWorldLineRow = true := by
  unfold joinedFacts
  rw [jk1, jk2, jk3, jk4]
  kernel_rfl
theorem pk1 : false = Tryz.prog.looks [] := by kernel_rfl
theorem pk2 : false = Rows.fnExactWorldLineRow.goesBy Tryz.prog := by kernel_rfl
theorem over : Rows.fnExactWorldLineRow.holds Tryz.pinned (OpenSpec.ofChange Rows.fnExactWorldLineSpec) :=
  OpenClaim.holds_of_wide 6 Tryz.f6 rfl rfl rfl rfl rfl rfl rfl ⟨rfl, rfl, rfl, rfl, rfl⟩ rfl rfl rfl rfl rfl (by kernel_rfl) Tryz.func6 closed
    (of_decide_eq_true (by kernel_rfl)) (by unfold Func.isWrapper; first | (rw [if_pos (by decide +kernel)]; kernel_rfl) | (rw [if_neg (by decide +kernel)]; exact ⟨rfl, rfl⟩))
    (fun os started H enc _ => lifted os started H enc)
theorem proved : Rows.FnExactWorldLineCardSaid :=
  Claim7.holds_tied_plain_at .later [] [.data, .data, .data, .data, .pinned] true (true, "05958c7bd3cf4ae6049e28535a6b206e3d3a6bdf858ccb397d68b6b6ee9802ed") false
    over (fun _ h => by cases h) (by kernel_rfl) (fun _ h => by cases h) fnExactWorldLine_row_tie rfl ⟨rfl, rfl⟩ (by kernel_rfl) rfl
    (fun f fn hf hfn => by
      obtain rfl : f = 6 := Option.some.inj ((show Tryz.prog.funcNamed "loop.example/powercontrol/laws.FnExactWorldLine" = some 6 by kernel_rfl).symm.trans hf) |>.symm
      obtain rfl : fn = Tryz.f6 := (Option.some.inj (Tryz.func6.symm.trans hfn)).symm
      exact ⟨pk1, fun j t ht => by
        rw [Tryz.params6] at ht
        have hm : t ∈ [57, 9] := by simpa using Array.mem_of_getElem? ht
        have hall : ([57, 9].all fun u => !Tryz.prog.wantsStandIn u) = true := by kernel_rfl
        exact (show Tryz.prog.wantsStandIn t = false by simpa using List.all_eq_true.1 hall t hm)⟩)
    pk2
#print axioms proved
end Go.Proofs.YtjdlgannencchaaGreatDoor.fnExactWorldLine
