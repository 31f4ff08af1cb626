/- How an argument of laws.Bars is opened. -/
import Derived.Test.YtandfbpanaldcaaOpens
import Derived.ChangeSame
namespace Go.Proofs.Ytandfbpanaldcaa
open Go.ChangeShapes Go.WideShapes Go.ChangeAt Go.RowKit Go.Deep
section
variable {H : Type} {enc : TypeId × Value → H} {w : World} {base : Nat} {spare : Nat → Bool} {held : Bool}
theorem trod_nums {fuel : Nat} {cs : List Value} {x : DataW H × List MemPlace} (h : DataW.trod enc Try.prog w base spare held fuel 22 cs = some x) :
    ∃ (A : Option Addr) (l : List Int) (cap : Nat), cs = [.slice A l.length cap] ∧ Rd w 1 A l.length (l.map (Value.int .i64)) ∧ l.length ≤ cap ∧ cap ≤ maxLen := by
  obtain ⟨A, l, cap, h1, h2, h3⟩ := open_list (fun b : Int => [Value.int .i64 b]) (size := 1) (fun _ => rfl) (by omega) Try.underlying22 (by kernel_rfl) (fun fuel cs x hx => by obtain ⟨b, rfl, _, _⟩ := DataW.trod_int Try.underlying3 hx; exact ⟨b, rfl⟩) h
  rw [flatMap_single] at h2
  exact ⟨A, l, cap, h1, h2, h3⟩
/-- A slice of int as a list of numbers in their range. -/
theorem trod_numsR {fuel : Nat} {cs : List Value} {x : DataW H × List MemPlace} (h : DataW.trod enc Try.prog w base spare held fuel 22 cs = some x) :
    ∃ (A : Option Addr) (l : List Int) (cap : Nat), cs = [.slice A l.length cap] ∧ Rd w 1 A l.length (l.map (Value.int .i64)) ∧ l.length ≤ cap ∧ cap ≤ maxLen ∧ ∀ y ∈ l, -9223372036854775808 ≤ y ∧ y ≤ 9223372036854775807 := by
  obtain ⟨A, l, cap, h1, h2, h3, h4⟩ := open_list (fun b : {y : Int // -9223372036854775808 ≤ y ∧ y ≤ 9223372036854775807} => [Value.int .i64 b.1]) (size := 1) (fun _ => rfl) (by omega) Try.underlying22 (by kernel_rfl) (fun fuel cs x hx => by obtain ⟨b, rfl, _, hw⟩ := DataW.trod_int Try.underlying3 hx; exact ⟨⟨b, Go.bounds_i64 hw⟩, rfl⟩) h
  rw [flatMap_single (fun b : {y : Int // -9223372036854775808 ≤ y ∧ y ≤ 9223372036854775807} => Value.int .i64 b.1)] at h2
  refine ⟨A, l.map (·.1), cap, by simpa using h1, ?_, by simpa using h3, h4, fun y hy => ?_⟩
  · simpa [List.map_map, Function.comp_def] using h2
  · obtain ⟨z, _, rfl⟩ := List.mem_map.1 hy
    exact z.2
theorem open_numsR {r : Reach} {b0 : Nat} {v : Value} {d : DataW H} {p : List MemPlace} (hval : Value.okWide Try.prog w r b0 22 v) (h : DataW.Trod enc Try.prog w base spare held 22 v d p) :
    ∃ (A : Option Addr) (l : List Int) (cap : Nat), v = .slice A l.length cap ∧ Rd w 1 A l.length (l.map (Value.int .i64)) ∧ l.length ≤ cap ∧ cap ≤ maxLen ∧ ∀ y ∈ l, -9223372036854775808 ≤ y ∧ y ≤ 9223372036854775807 := by
  obtain ⟨A', n', k', rfl⟩ := okWide_slice Try.underlying22 hval
  obtain ⟨fuel, hf⟩ := h
  obtain ⟨A, l, cap, e, R⟩ := trod_numsR hf
  simp [Value.cells] at e
  exact ⟨A, l, cap, by simp [e], R⟩
theorem cells_bars : Try.prog.cellsOf 24 = 2 := by kernel_rfl
theorem cells_ints : Try.prog.cellsOf 22 = 1 := by kernel_rfl
theorem cells_bool : Try.prog.cellsOf 4 = 1 := by kernel_rfl
theorem trod_bars {fuel : Nat} {cs : List Value} {x : DataW H × List MemPlace} (h : DataW.trod enc Try.prog w base spare held fuel 24 cs = some x) :
    ∃ (A : Option Addr) (l : List Int) (cap : Nat) (cp : Bool), cs = [.slice A l.length cap, .bool cp] ∧ Rd w 1 A l.length (l.map (Value.int .i64)) ∧ l.length ≤ cap ∧ cap ≤ maxLen := by
  obtain ⟨y0, y1, n, rfl, hl, h0, h1⟩ := Go.ChangeShapes.trod_struct2 Try.underlying24 h
  rw [cells_bars] at hl
  simp only [cells_ints, cells_bool] at h0 h1
  match cs, hl with
  | [a, b], _ =>
    obtain ⟨A, l, cap, e, R⟩ := trod_nums h0
    obtain ⟨cp, e1, _⟩ := DataW.trod_bool Try.underlying4 h1
    simp at e e1
    subst e; subst e1
    exact ⟨A, l, cap, cp, rfl, R⟩
theorem open_bars {r : Reach} {b0 : Nat} {v : Value} {d : DataW H} {p : List MemPlace} (hval : Value.okWide Try.prog w r b0 24 v) (h : DataW.Trod enc Try.prog w base spare held 24 v d p) :
    ∃ (A : Option Addr) (l : List Int) (cap : Nat) (cp : Bool), v = .agg #[.slice A l.length cap, .bool cp] ∧ Rd w 1 A l.length (l.map (Value.int .i64)) ∧ l.length ≤ cap ∧ cap ≤ maxLen := by
  obtain ⟨cs, rfl, _⟩ := okWide_struct Try.underlying24 hval
  obtain ⟨fuel, hf⟩ := h
  obtain ⟨A, l, cap, cp, e, R⟩ := trod_bars hf
  simp [Value.cells] at e
  refine ⟨A, l, cap, cp, ?_, R⟩
  congr 1
  exact Array.ext' e
end
end Go.Proofs.Ytandfbpanaldcaa
