/- How the arguments of the laws are opened. -/
import Derived.Test.YtceghkdjpkegaaaDaM
import Derived.Test.YtceghkdjpkegaaaOpens
import Derived.ChangeSame
import Derived.ChangeMaps5
namespace Go.Proofs.Ytceghkdjpkegaaa
open Go.ChangeShapes Go.WideShapes Go.ChangeAt Go.RowKit Go.Deep
set_option linter.unusedVariables false
set_option linter.unusedSimpArgs false
set_option maxRecDepth 100000
section
variable {H : Type} {enc : TypeId × Value → H} {w : World} {base : Nat} {spare : Nat → Bool} {held : Bool}
theorem tr3 {fuel : Nat} {cs : List Value} {x : DataW H × List MemPlace} (h : DataW.trod enc Try.prog w base spare held fuel 3 cs = some x) :
    ∃ (y0 : Int), cs = [.int .i64 y0] ∧ inR y0 := by
  obtain ⟨n, rfl, _, hw⟩ := DataW.trod_int Try.underlying3 h
  exact ⟨n, rfl, Go.bounds_i64 hw⟩

theorem tr22 {fuel : Nat} {cs : List Value} {x : DataW H × List MemPlace} (h : DataW.trod enc Try.prog w base spare held fuel 22 cs = some x) :
    ∃ (A0 : Option Addr) (y0 : List Int) (k0 : Nat), cs = [.slice A0 y0.length k0] ∧ Rc w 1 A0 y0.length k0 (y0.flatMap eI) ∧ y0.length ≤ maxLen ∧ (∀ z ∈ y0, inR z) := by
  obtain ⟨A, l, cap, e1, e2, e3, e4⟩ := open_list (fun b : {y : Int // inR y} => eI b.1) (size := 1) (fun b => eI_len b.1) (by decide) Try.underlying22 (by kernel_rfl) (fun fuel cs x hx => by
    obtain ⟨z0, rfl, g0⟩ := tr3 hx
    exact ⟨⟨z0, g0⟩, rfl⟩) h
  refine ⟨A, l.map (·.1), cap, by simpa using e1, ⟨by simpa [List.flatMap_map] using e2, by simpa using e3⟩, by simpa using Nat.le_trans e3 e4, fun z hz => ?_⟩
  obtain ⟨q, _, rfl⟩ := List.mem_map.1 hz
  exact q.2

theorem tr24 {fuel : Nat} {cs : List Value} {x : DataW H × List MemPlace} (h : DataW.trod enc Try.prog w base spare held fuel 24 cs = some x) :
    ∃ (y0 : Int) (A1 : Option Addr) (y1 : List Int) (k1 : Nat) (y2 : Int) (A3 : Option Addr) (y3 : List Int) (k3 : Nat) (y4 : Int) (y5 : Int) (y6 : Int) (y7 : Int), cs = [.int .i64 y0, .slice A1 y1.length k1, .int .i64 y2, .slice A3 y3.length k3, .int .i64 y4, .int .i64 y5, .int .i64 y6, .int .i64 y7] ∧ inR y0 ∧ Rc w 1 A1 y1.length k1 (y1.flatMap eI) ∧ y1.length ≤ maxLen ∧ (∀ z ∈ y1, inR z) ∧ inR y2 ∧ Rc w 1 A3 y3.length k3 (y3.flatMap eI) ∧ y3.length ≤ maxLen ∧ (∀ z ∈ y3, inR z) ∧ inR y4 ∧ inR y5 ∧ inR y6 ∧ inR y7 := by
  obtain ⟨xs, n, _, rfl, hl, hlen, hf⟩ := DataW.trod_struct Try.underlying24 h
  have hc : Try.prog.cellsOf 24 = 8 := by kernel_rfl
  rw [hc] at hl
  have h0 : DataW.trod enc Try.prog w base spare held n 3 ((cs.drop 0).take (Try.prog.cellsOf 3)) = xs[0]? := hf 0 _ rfl
  have c0 : Try.prog.cellsOf 3 = 1 := by kernel_rfl
  obtain ⟨q0, hq0⟩ : ∃ q, xs[0]? = some q := ⟨_, List.getElem?_eq_getElem (by rw [hlen]; decide)⟩
  rw [hq0, c0] at h0
  obtain ⟨y0, e0, w0_0⟩ := tr3 h0
  have h1 : DataW.trod enc Try.prog w base spare held n 22 ((cs.drop 1).take (Try.prog.cellsOf 22)) = xs[1]? := hf 1 _ rfl
  have c1 : Try.prog.cellsOf 22 = 1 := by kernel_rfl
  obtain ⟨q1, hq1⟩ : ∃ q, xs[1]? = some q := ⟨_, List.getElem?_eq_getElem (by rw [hlen]; decide)⟩
  rw [hq1, c1] at h1
  obtain ⟨A1, y1, k1, e1, w1_0, w1_1, w1_2⟩ := tr22 h1
  have h2 : DataW.trod enc Try.prog w base spare held n 3 ((cs.drop 2).take (Try.prog.cellsOf 3)) = xs[2]? := hf 2 _ rfl
  have c2 : Try.prog.cellsOf 3 = 1 := by kernel_rfl
  obtain ⟨q2, hq2⟩ : ∃ q, xs[2]? = some q := ⟨_, List.getElem?_eq_getElem (by rw [hlen]; decide)⟩
  rw [hq2, c2] at h2
  obtain ⟨y2, e2, w2_0⟩ := tr3 h2
  have h3 : DataW.trod enc Try.prog w base spare held n 22 ((cs.drop 3).take (Try.prog.cellsOf 22)) = xs[3]? := hf 3 _ rfl
  have c3 : Try.prog.cellsOf 22 = 1 := by kernel_rfl
  obtain ⟨q3, hq3⟩ : ∃ q, xs[3]? = some q := ⟨_, List.getElem?_eq_getElem (by rw [hlen]; decide)⟩
  rw [hq3, c3] at h3
  obtain ⟨A3, y3, k3, e3, w3_0, w3_1, w3_2⟩ := tr22 h3
  have h4 : DataW.trod enc Try.prog w base spare held n 3 ((cs.drop 4).take (Try.prog.cellsOf 3)) = xs[4]? := hf 4 _ rfl
  have c4 : Try.prog.cellsOf 3 = 1 := by kernel_rfl
  obtain ⟨q4, hq4⟩ : ∃ q, xs[4]? = some q := ⟨_, List.getElem?_eq_getElem (by rw [hlen]; decide)⟩
  rw [hq4, c4] at h4
  obtain ⟨y4, e4, w4_0⟩ := tr3 h4
  have h5 : DataW.trod enc Try.prog w base spare held n 3 ((cs.drop 5).take (Try.prog.cellsOf 3)) = xs[5]? := hf 5 _ rfl
  have c5 : Try.prog.cellsOf 3 = 1 := by kernel_rfl
  obtain ⟨q5, hq5⟩ : ∃ q, xs[5]? = some q := ⟨_, List.getElem?_eq_getElem (by rw [hlen]; decide)⟩
  rw [hq5, c5] at h5
  obtain ⟨y5, e5, w5_0⟩ := tr3 h5
  have h6 : DataW.trod enc Try.prog w base spare held n 3 ((cs.drop 6).take (Try.prog.cellsOf 3)) = xs[6]? := hf 6 _ rfl
  have c6 : Try.prog.cellsOf 3 = 1 := by kernel_rfl
  obtain ⟨q6, hq6⟩ : ∃ q, xs[6]? = some q := ⟨_, List.getElem?_eq_getElem (by rw [hlen]; decide)⟩
  rw [hq6, c6] at h6
  obtain ⟨y6, e6, w6_0⟩ := tr3 h6
  have h7 : DataW.trod enc Try.prog w base spare held n 3 ((cs.drop 7).take (Try.prog.cellsOf 3)) = xs[7]? := hf 7 _ rfl
  have c7 : Try.prog.cellsOf 3 = 1 := by kernel_rfl
  obtain ⟨q7, hq7⟩ : ∃ q, xs[7]? = some q := ⟨_, List.getElem?_eq_getElem (by rw [hlen]; decide)⟩
  rw [hq7, c7] at h7
  obtain ⟨y7, e7, w7_0⟩ := tr3 h7
  match cs, hl with
  | [u0, u1, u2, u3, u4, u5, u6, u7], _ =>
    simp at e0 e1 e2 e3 e4 e5 e6 e7
    subst e0; subst e1; subst e2; subst e3; subst e4; subst e5; subst e6; subst e7
    exact ⟨y0, A1, y1, k1, y2, A3, y3, k3, y4, y5, y6, y7, rfl, w0_0, w1_0, w1_1, w1_2, w2_0, w3_0, w3_1, w3_2, w4_0, w5_0, w6_0, w7_0⟩

theorem op24 {r : Reach} {b0 : Nat} {v : Value} {d : DataW H} {p : List MemPlace} (hval : Value.okWide Try.prog w r b0 24 v) (h : DataW.Trod enc Try.prog w base spare held 24 v d p) :
    ∃ (y0 : Int) (A1 : Option Addr) (y1 : List Int) (k1 : Nat) (y2 : Int) (A3 : Option Addr) (y3 : List Int) (k3 : Nat) (y4 : Int) (y5 : Int) (y6 : Int) (y7 : Int), v = .agg #[.int .i64 y0, .slice A1 y1.length k1, .int .i64 y2, .slice A3 y3.length k3, .int .i64 y4, .int .i64 y5, .int .i64 y6, .int .i64 y7] ∧ inR y0 ∧ Rc w 1 A1 y1.length k1 (y1.flatMap eI) ∧ y1.length ≤ maxLen ∧ (∀ z ∈ y1, inR z) ∧ inR y2 ∧ Rc w 1 A3 y3.length k3 (y3.flatMap eI) ∧ y3.length ≤ maxLen ∧ (∀ z ∈ y3, inR z) ∧ inR y4 ∧ inR y5 ∧ inR y6 ∧ inR y7 := by
  obtain ⟨cs, rfl, _⟩ := okWide_struct Try.underlying24 hval
  obtain ⟨fuel, hf⟩ := h
  obtain ⟨y0, A1, y1, k1, y2, A3, y3, k3, y4, y5, y6, y7, e, w0, w1, w2, w3, w4, w5, w6, w7, w8, w9, w10, w11⟩ := tr24 hf
  simp [Value.cells] at e
  exact ⟨y0, A1, y1, k1, y2, A3, y3, k3, y4, y5, y6, y7, congrArg Value.agg (Array.ext' e), w0, w1, w2, w3, w4, w5, w6, w7, w8, w9, w10, w11⟩

theorem tr26 {fuel : Nat} {cs : List Value} {x : DataW H × List MemPlace} (h : DataW.trod enc Try.prog w base spare held fuel 26 cs = some x) :
    ∃ (y0 : Int) (y1 : Int), cs = [.int .i64 y0, .int .i64 y1] ∧ inR y0 ∧ inR y1 := by
  obtain ⟨xs, n, _, rfl, hl, hlen, hf⟩ := DataW.trod_struct Try.underlying26 h
  have hc : Try.prog.cellsOf 26 = 2 := by kernel_rfl
  rw [hc] at hl
  have h0 : DataW.trod enc Try.prog w base spare held n 3 ((cs.drop 0).take (Try.prog.cellsOf 3)) = xs[0]? := hf 0 _ rfl
  have c0 : Try.prog.cellsOf 3 = 1 := by kernel_rfl
  obtain ⟨q0, hq0⟩ : ∃ q, xs[0]? = some q := ⟨_, List.getElem?_eq_getElem (by rw [hlen]; decide)⟩
  rw [hq0, c0] at h0
  obtain ⟨y0, e0, w0_0⟩ := tr3 h0
  have h1 : DataW.trod enc Try.prog w base spare held n 3 ((cs.drop 1).take (Try.prog.cellsOf 3)) = xs[1]? := hf 1 _ rfl
  have c1 : Try.prog.cellsOf 3 = 1 := by kernel_rfl
  obtain ⟨q1, hq1⟩ : ∃ q, xs[1]? = some q := ⟨_, List.getElem?_eq_getElem (by rw [hlen]; decide)⟩
  rw [hq1, c1] at h1
  obtain ⟨y1, e1, w1_0⟩ := tr3 h1
  match cs, hl with
  | [u0, u1], _ =>
    simp at e0 e1
    subst e0; subst e1
    exact ⟨y0, y1, rfl, w0_0, w1_0⟩

theorem op26 {r : Reach} {b0 : Nat} {v : Value} {d : DataW H} {p : List MemPlace} (hval : Value.okWide Try.prog w r b0 26 v) (h : DataW.Trod enc Try.prog w base spare held 26 v d p) :
    ∃ (y0 : Int) (y1 : Int), v = .agg #[.int .i64 y0, .int .i64 y1] ∧ inR y0 ∧ inR y1 := by
  obtain ⟨cs, rfl, _⟩ := okWide_struct Try.underlying26 hval
  obtain ⟨fuel, hf⟩ := h
  obtain ⟨y0, y1, e, w0, w1⟩ := tr26 hf
  simp [Value.cells] at e
  exact ⟨y0, y1, congrArg Value.agg (Array.ext' e), w0, w1⟩

theorem tr39 {fuel : Nat} {cs : List Value} {x : DataW H × List MemPlace} (h : DataW.trod enc Try.prog w base spare held fuel 39 cs = some x) :
    ∃ (A0 : Option Addr) (y0 : List (Int × Int)) (k0 : Nat), cs = [.slice A0 y0.length k0] ∧ Rc w 2 A0 y0.length k0 (y0.flatMap eLPollDeed) ∧ y0.length ≤ maxLen ∧ (∀ z ∈ y0, inR z.1 ∧ inR z.2) := by
  obtain ⟨A, l, cap, e1, e2, e3, e4⟩ := open_list (fun b : {y : Int × Int // inR y.1 ∧ inR y.2} => eLPollDeed b.1) (size := 2) (fun b => eLPollDeed_len b.1) (by decide) Try.underlying39 (by kernel_rfl) (fun fuel cs x hx => by
    obtain ⟨z0, z1, rfl, g0, g1⟩ := tr26 hx
    exact ⟨⟨(z0, z1), ⟨g0, g1⟩⟩, rfl⟩) h
  refine ⟨A, l.map (·.1), cap, by simpa using e1, ⟨by simpa [List.flatMap_map] using e2, by simpa using e3⟩, by simpa using Nat.le_trans e3 e4, fun z hz => ?_⟩
  obtain ⟨q, _, rfl⟩ := List.mem_map.1 hz
  exact q.2

theorem op39 {r : Reach} {b0 : Nat} {v : Value} {d : DataW H} {p : List MemPlace} (hval : Value.okWide Try.prog w r b0 39 v) (h : DataW.Trod enc Try.prog w base spare held 39 v d p) :
    ∃ (A0 : Option Addr) (y0 : List (Int × Int)) (k0 : Nat), v = .slice A0 y0.length k0 ∧ Rc w 2 A0 y0.length k0 (y0.flatMap eLPollDeed) ∧ y0.length ≤ maxLen ∧ (∀ z ∈ y0, inR z.1 ∧ inR z.2) := by
  obtain ⟨A', n', k', rfl⟩ := okWide_slice Try.underlying39 hval
  obtain ⟨fuel, hf⟩ := h
  obtain ⟨A0, y0, k0, e, w0, w1, w2⟩ := tr39 hf
  simp [Value.cells] at e
  exact ⟨A0, y0, k0, by simp [e], w0, w1, w2⟩
end
end Go.Proofs.Ytceghkdjpkegaaa
