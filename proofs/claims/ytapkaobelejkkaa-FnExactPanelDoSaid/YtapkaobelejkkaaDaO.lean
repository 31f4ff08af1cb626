/- How the arguments of the laws are opened. -/
import Derived.Test.YtapkaobelejkkaaDaM
import Derived.Test.YtapkaobelejkkaaOpens
import Derived.ChangeSame
import Derived.ChangeMaps5
namespace Go.Proofs.Ytapkaobelejkkaa
open Go.ChangeShapes Go.WideShapes Go.ChangeAt Go.RowKit Go.Deep
set_option linter.unusedVariables false
set_option linter.unusedSimpArgs false
section
variable {H : Type} {enc : TypeId × Value → H} {w : World} {base : Nat} {spare : Nat → Bool} {held : Bool}
theorem tr4 {fuel : Nat} {cs : List Value} {x : DataW H × List MemPlace} (h : DataW.trod enc Try.prog w base spare held fuel 4 cs = some x) :
    ∃ (y0 : Bool), cs = [.bool y0] := by
  obtain ⟨n, rfl, _⟩ := DataW.trod_bool Try.underlying4 h
  exact ⟨n, rfl⟩

theorem tr22 {fuel : Nat} {cs : List Value} {x : DataW H × List MemPlace} (h : DataW.trod enc Try.prog w base spare held fuel 22 cs = some x) :
    ∃ (A0 : Option Addr) (y0 : List Bool) (k0 : Nat), cs = [.slice A0 y0.length k0] ∧ Rc w 1 A0 y0.length k0 (y0.flatMap eB) ∧ y0.length ≤ maxLen ∧ (∀ z ∈ y0, True) := by
  obtain ⟨A, l, cap, e1, e2, e3, e4⟩ := open_list (fun b : {y : Bool // True} => eB b.1) (size := 1) (fun b => eB_len b.1) (by decide) Try.underlying22 (by kernel_rfl) (fun fuel cs x hx => by
    obtain ⟨z0, rfl⟩ := tr4 hx
    exact ⟨⟨z0, trivial⟩, rfl⟩) h
  refine ⟨A, l.map (·.1), cap, by simpa using e1, ⟨by simpa [List.flatMap_map] using e2, by simpa using e3⟩, by simpa using Nat.le_trans e3 e4, fun z hz => ?_⟩
  obtain ⟨q, _, rfl⟩ := List.mem_map.1 hz
  exact q.2

theorem tr3 {fuel : Nat} {cs : List Value} {x : DataW H × List MemPlace} (h : DataW.trod enc Try.prog w base spare held fuel 3 cs = some x) :
    ∃ (y0 : Int), cs = [.int .i64 y0] ∧ inR y0 := by
  obtain ⟨n, rfl, _, hw⟩ := DataW.trod_int Try.underlying3 h
  exact ⟨n, rfl, Go.bounds_i64 hw⟩

theorem tr24 {fuel : Nat} {cs : List Value} {x : DataW H × List MemPlace} (h : DataW.trod enc Try.prog w base spare held fuel 24 cs = some x) :
    ∃ (A0 : Option Addr) (y0 : List Bool) (k0 : Nat) (y1 : Int) (y2 : Int) (y3 : Bool) (y4 : Int), cs = [.slice A0 y0.length k0, .int .i64 y1, .int .i64 y2, .bool y3, .int .i64 y4] ∧ Rc w 1 A0 y0.length k0 (y0.flatMap eB) ∧ y0.length ≤ maxLen ∧ (∀ z ∈ y0, True) ∧ inR y1 ∧ inR y2 ∧ inR y4 := by
  obtain ⟨xs, n, _, rfl, hl, hlen, hf⟩ := DataW.trod_struct Try.underlying24 h
  have hc : Try.prog.cellsOf 24 = 5 := by kernel_rfl
  rw [hc] at hl
  have h0 : DataW.trod enc Try.prog w base spare held n 22 ((cs.drop 0).take (Try.prog.cellsOf 22)) = xs[0]? := hf 0 _ rfl
  have c0 : Try.prog.cellsOf 22 = 1 := by kernel_rfl
  obtain ⟨q0, hq0⟩ : ∃ q, xs[0]? = some q := ⟨_, List.getElem?_eq_getElem (by rw [hlen]; decide)⟩
  rw [hq0, c0] at h0
  obtain ⟨A0, y0, k0, e0, w0_0, w0_1, w0_2⟩ := tr22 h0
  have h1 : DataW.trod enc Try.prog w base spare held n 3 ((cs.drop 1).take (Try.prog.cellsOf 3)) = xs[1]? := hf 1 _ rfl
  have c1 : Try.prog.cellsOf 3 = 1 := by kernel_rfl
  obtain ⟨q1, hq1⟩ : ∃ q, xs[1]? = some q := ⟨_, List.getElem?_eq_getElem (by rw [hlen]; decide)⟩
  rw [hq1, c1] at h1
  obtain ⟨y1, e1, w1_0⟩ := tr3 h1
  have h2 : DataW.trod enc Try.prog w base spare held n 3 ((cs.drop 2).take (Try.prog.cellsOf 3)) = xs[2]? := hf 2 _ rfl
  have c2 : Try.prog.cellsOf 3 = 1 := by kernel_rfl
  obtain ⟨q2, hq2⟩ : ∃ q, xs[2]? = some q := ⟨_, List.getElem?_eq_getElem (by rw [hlen]; decide)⟩
  rw [hq2, c2] at h2
  obtain ⟨y2, e2, w2_0⟩ := tr3 h2
  have h3 : DataW.trod enc Try.prog w base spare held n 4 ((cs.drop 3).take (Try.prog.cellsOf 4)) = xs[3]? := hf 3 _ rfl
  have c3 : Try.prog.cellsOf 4 = 1 := by kernel_rfl
  obtain ⟨q3, hq3⟩ : ∃ q, xs[3]? = some q := ⟨_, List.getElem?_eq_getElem (by rw [hlen]; decide)⟩
  rw [hq3, c3] at h3
  obtain ⟨y3, e3⟩ := tr4 h3
  have h4 : DataW.trod enc Try.prog w base spare held n 3 ((cs.drop 4).take (Try.prog.cellsOf 3)) = xs[4]? := hf 4 _ rfl
  have c4 : Try.prog.cellsOf 3 = 1 := by kernel_rfl
  obtain ⟨q4, hq4⟩ : ∃ q, xs[4]? = some q := ⟨_, List.getElem?_eq_getElem (by rw [hlen]; decide)⟩
  rw [hq4, c4] at h4
  obtain ⟨y4, e4, w4_0⟩ := tr3 h4
  match cs, hl with
  | [u0, u1, u2, u3, u4], _ =>
    simp at e0 e1 e2 e3 e4
    subst e0; subst e1; subst e2; subst e3; subst e4
    exact ⟨A0, y0, k0, y1, y2, y3, y4, rfl, w0_0, w0_1, w0_2, w1_0, w2_0, w4_0⟩

theorem op24 {r : Reach} {b0 : Nat} {v : Value} {d : DataW H} {p : List MemPlace} (hval : Value.okWide Try.prog w r b0 24 v) (h : DataW.Trod enc Try.prog w base spare held 24 v d p) :
    ∃ (A0 : Option Addr) (y0 : List Bool) (k0 : Nat) (y1 : Int) (y2 : Int) (y3 : Bool) (y4 : Int), v = .agg #[.slice A0 y0.length k0, .int .i64 y1, .int .i64 y2, .bool y3, .int .i64 y4] ∧ Rc w 1 A0 y0.length k0 (y0.flatMap eB) ∧ y0.length ≤ maxLen ∧ (∀ z ∈ y0, True) ∧ inR y1 ∧ inR y2 ∧ inR y4 := by
  obtain ⟨cs, rfl, _⟩ := okWide_struct Try.underlying24 hval
  obtain ⟨fuel, hf⟩ := h
  obtain ⟨A0, y0, k0, y1, y2, y3, y4, e, w0, w1, w2, w3, w4, w5⟩ := tr24 hf
  simp [Value.cells] at e
  exact ⟨A0, y0, k0, y1, y2, y3, y4, congrArg Value.agg (Array.ext' e), w0, w1, w2, w3, w4, w5⟩

theorem tr26 {fuel : Nat} {cs : List Value} {x : DataW H × List MemPlace} (h : DataW.trod enc Try.prog w base spare held fuel 26 cs = some x) :
    ∃ (y0 : Int) (y1 : Int) (y2 : Int) (y3 : Bool), cs = [.int .i64 y0, .int .i64 y1, .int .i64 y2, .bool y3] ∧ inR y0 ∧ inR y1 ∧ inR y2 := by
  obtain ⟨xs, n, _, rfl, hl, hlen, hf⟩ := DataW.trod_struct Try.underlying26 h
  have hc : Try.prog.cellsOf 26 = 4 := by kernel_rfl
  rw [hc] at hl
  have h0 : DataW.trod enc Try.prog w base spare held n 3 ((cs.drop 0).take (Try.prog.cellsOf 3)) = xs[0]? := hf 0 _ rfl
  have c0 : Try.prog.cellsOf 3 = 1 := by kernel_rfl
  obtain ⟨q0, hq0⟩ : ∃ q, xs[0]? = some q := ⟨_, List.getElem?_eq_getElem (by rw [hlen]; decide)⟩
  rw [hq0, c0] at h0
  obtain ⟨y0, e0, w0_0⟩ := tr3 h0
  have h1 : DataW.trod enc Try.prog w base spare held n 3 ((cs.drop 1).take (Try.prog.cellsOf 3)) = xs[1]? := hf 1 _ rfl
  have c1 : Try.prog.cellsOf 3 = 1 := by kernel_rfl
  obtain ⟨q1, hq1⟩ : ∃ q, xs[1]? = some q := ⟨_, List.getElem?_eq_getElem (by rw [hlen]; decide)⟩
  rw [hq1, c1] at h1
  obtain ⟨y1, e1, w1_0⟩ := tr3 h1
  have h2 : DataW.trod enc Try.prog w base spare held n 3 ((cs.drop 2).take (Try.prog.cellsOf 3)) = xs[2]? := hf 2 _ rfl
  have c2 : Try.prog.cellsOf 3 = 1 := by kernel_rfl
  obtain ⟨q2, hq2⟩ : ∃ q, xs[2]? = some q := ⟨_, List.getElem?_eq_getElem (by rw [hlen]; decide)⟩
  rw [hq2, c2] at h2
  obtain ⟨y2, e2, w2_0⟩ := tr3 h2
  have h3 : DataW.trod enc Try.prog w base spare held n 4 ((cs.drop 3).take (Try.prog.cellsOf 4)) = xs[3]? := hf 3 _ rfl
  have c3 : Try.prog.cellsOf 4 = 1 := by kernel_rfl
  obtain ⟨q3, hq3⟩ : ∃ q, xs[3]? = some q := ⟨_, List.getElem?_eq_getElem (by rw [hlen]; decide)⟩
  rw [hq3, c3] at h3
  obtain ⟨y3, e3⟩ := tr4 h3
  match cs, hl with
  | [u0, u1, u2, u3], _ =>
    simp at e0 e1 e2 e3
    subst e0; subst e1; subst e2; subst e3
    exact ⟨y0, y1, y2, y3, rfl, w0_0, w1_0, w2_0⟩

theorem op26 {r : Reach} {b0 : Nat} {v : Value} {d : DataW H} {p : List MemPlace} (hval : Value.okWide Try.prog w r b0 26 v) (h : DataW.Trod enc Try.prog w base spare held 26 v d p) :
    ∃ (y0 : Int) (y1 : Int) (y2 : Int) (y3 : Bool), v = .agg #[.int .i64 y0, .int .i64 y1, .int .i64 y2, .bool y3] ∧ inR y0 ∧ inR y1 ∧ inR y2 := by
  obtain ⟨cs, rfl, _⟩ := okWide_struct Try.underlying26 hval
  obtain ⟨fuel, hf⟩ := h
  obtain ⟨y0, y1, y2, y3, e, w0, w1, w2⟩ := tr26 hf
  simp [Value.cells] at e
  exact ⟨y0, y1, y2, y3, congrArg Value.agg (Array.ext' e), w0, w1, w2⟩

theorem tr37 {fuel : Nat} {cs : List Value} {x : DataW H × List MemPlace} (h : DataW.trod enc Try.prog w base spare held fuel 37 cs = some x) :
    ∃ (A0 : Option Addr) (y0 : List (Int × Int × Int × Bool)) (k0 : Nat), cs = [.slice A0 y0.length k0] ∧ Rc w 4 A0 y0.length k0 (y0.flatMap eLCommand) ∧ y0.length ≤ maxLen ∧ (∀ z ∈ y0, inR z.1 ∧ inR z.2.1 ∧ inR z.2.2.1) := by
  obtain ⟨A, l, cap, e1, e2, e3, e4⟩ := open_list (fun b : {y : Int × Int × Int × Bool // inR y.1 ∧ inR y.2.1 ∧ inR y.2.2.1} => eLCommand b.1) (size := 4) (fun b => eLCommand_len b.1) (by decide) Try.underlying37 (by kernel_rfl) (fun fuel cs x hx => by
    obtain ⟨z0, z1, z2, z3, rfl, g0, g1, g2⟩ := tr26 hx
    exact ⟨⟨(z0, z1, z2, z3), ⟨g0, g1, g2⟩⟩, rfl⟩) h
  refine ⟨A, l.map (·.1), cap, by simpa using e1, ⟨by simpa [List.flatMap_map] using e2, by simpa using e3⟩, by simpa using Nat.le_trans e3 e4, fun z hz => ?_⟩
  obtain ⟨q, _, rfl⟩ := List.mem_map.1 hz
  exact q.2

theorem op37 {r : Reach} {b0 : Nat} {v : Value} {d : DataW H} {p : List MemPlace} (hval : Value.okWide Try.prog w r b0 37 v) (h : DataW.Trod enc Try.prog w base spare held 37 v d p) :
    ∃ (A0 : Option Addr) (y0 : List (Int × Int × Int × Bool)) (k0 : Nat), v = .slice A0 y0.length k0 ∧ Rc w 4 A0 y0.length k0 (y0.flatMap eLCommand) ∧ y0.length ≤ maxLen ∧ (∀ z ∈ y0, inR z.1 ∧ inR z.2.1 ∧ inR z.2.2.1) := by
  obtain ⟨A', n', k', rfl⟩ := okWide_slice Try.underlying37 hval
  obtain ⟨fuel, hf⟩ := h
  obtain ⟨A0, y0, k0, e, w0, w1, w2⟩ := tr37 hf
  simp [Value.cells] at e
  exact ⟨A0, y0, k0, by simp [e], w0, w1, w2⟩
end
end Go.Proofs.Ytapkaobelejkkaa
