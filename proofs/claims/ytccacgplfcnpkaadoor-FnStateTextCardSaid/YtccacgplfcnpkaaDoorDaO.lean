/- How the arguments of the laws are opened. -/
import Derived.Test.YtccacgplfcnpkaaDoorDaM
import Derived.Test.YtccacgplfcnpkaaDoorOpens
import Derived.ChangeSame
import Derived.ChangeMaps5
namespace Go.Proofs.YtccacgplfcnpkaaDoor
open Go.ChangeShapes Go.WideShapes Go.ChangeAt Go.RowKit Go.Deep
set_option linter.unusedVariables false
set_option linter.unusedSimpArgs false
set_option maxRecDepth 100000
section
variable {H : Type} {enc : TypeId × Value → H} {w : World} {base : Nat} {spare : Nat → Bool} {held : Bool}
theorem tr5 {fuel : Nat} {cs : List Value} {x : DataW H × List MemPlace} (h : DataW.trod enc Tryd.prog w base spare held fuel 5 cs = some x) :
    ∃ (y0 : Int), cs = [.int .u8 y0] ∧ inU y0 := by
  obtain ⟨n, rfl, _, hw⟩ := DataW.trod_int Tryd.underlying5 h
  exact ⟨n, rfl, u8_bounds hw⟩

theorem tr22 {fuel : Nat} {cs : List Value} {x : DataW H × List MemPlace} (h : DataW.trod enc Tryd.prog w base spare held fuel 22 cs = some x) :
    ∃ (A0 : Option Addr) (y0 : List Int) (k0 : Nat), cs = [.slice A0 y0.length k0] ∧ Rc w 1 A0 y0.length k0 (y0.flatMap eU) ∧ y0.length ≤ maxLen ∧ (∀ z ∈ y0, inU z) := by
  obtain ⟨A, l, cap, e1, e2, e3, e4⟩ := open_list (fun b : {y : Int // inU y} => eU b.1) (size := 1) (fun b => eU_len b.1) (by decide) Tryd.underlying22 (by kernel_rfl) (fun fuel cs x hx => by
    obtain ⟨z0, rfl, g0⟩ := tr5 hx
    exact ⟨⟨z0, g0⟩, rfl⟩) h
  refine ⟨A, l.map (·.1), cap, by simpa using e1, ⟨by simpa [List.flatMap_map] using e2, by simpa using e3⟩, by simpa using Nat.le_trans e3 e4, fun z hz => ?_⟩
  obtain ⟨q, _, rfl⟩ := List.mem_map.1 hz
  exact q.2

theorem op22 {r : Reach} {b0 : Nat} {v : Value} {d : DataW H} {p : List MemPlace} (hval : Value.okWide Tryd.prog w r b0 22 v) (h : DataW.Trod enc Tryd.prog w base spare held 22 v d p) :
    ∃ (A0 : Option Addr) (y0 : List Int) (k0 : Nat), v = .slice A0 y0.length k0 ∧ Rc w 1 A0 y0.length k0 (y0.flatMap eU) ∧ y0.length ≤ maxLen ∧ (∀ z ∈ y0, inU z) := by
  obtain ⟨A', n', k', rfl⟩ := okWide_slice Tryd.underlying22 hval
  obtain ⟨fuel, hf⟩ := h
  obtain ⟨A0, y0, k0, e, w0, w1, w2⟩ := tr22 hf
  simp [Value.cells] at e
  exact ⟨A0, y0, k0, by simp [e], w0, w1, w2⟩
end
end Go.Proofs.YtccacgplfcnpkaaDoor
