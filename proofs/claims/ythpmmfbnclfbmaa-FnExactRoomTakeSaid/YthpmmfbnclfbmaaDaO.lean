/- How the arguments of the laws are opened. -/
import Derived.Test.YthpmmfbnclfbmaaDaM
import Derived.Test.YthpmmfbnclfbmaaOpens
import Derived.ChangeSame
import Derived.ChangeMaps5
namespace Go.Proofs.Ythpmmfbnclfbmaa
open Go.ChangeShapes Go.WideShapes Go.ChangeAt Go.RowKit Go.Deep
set_option linter.unusedVariables false
set_option linter.unusedSimpArgs false
section
variable {H : Type} {enc : TypeId × Value → H} {w : World} {base : Nat} {spare : Nat → Bool} {held : Bool}
theorem tr3 {fuel : Nat} {cs : List Value} {x : DataW H × List MemPlace} (h : DataW.trod enc Try.prog w base spare held fuel 3 cs = some x) :
    ∃ (y0 : Int), cs = [.int .i64 y0] ∧ inR y0 := by
  obtain ⟨n, rfl, _, hw⟩ := DataW.trod_int Try.underlying3 h
  exact ⟨n, rfl, Go.bounds_i64 hw⟩

theorem tr22 {fuel : Nat} {cs : List Value} {x : DataW H × List MemPlace} (h : DataW.trod enc Try.prog w base spare held fuel 22 cs = some x) :
    ∃ (A0 : Option Addr) (y0 : List Int) (k0 : Nat), cs = [.slice A0 y0.length k0] ∧ Rc w 1 A0 y0.length k0 (y0.flatMap eI) ∧ y0.length ≤ maxLen ∧ (∀ z ∈ y0, inR z) := by
  obtain ⟨A, l, cap, e1, e2, e3, e4⟩ := open_list (fun b : {y : Int // inR y} => eI b.1) (size := 1) (fun b => eI_len b.1) (by decide) Try.underlying22 (by kernel_rfl) (fun fuel cs x hx => by
    obtain ⟨z0, rfl, g0⟩ := tr3 hx
    exact ⟨⟨z0, g0⟩, rfl⟩) h
  refine ⟨A, l.map (·.1), cap, by simpa using e1, ⟨by simpa [List.flatMap_map] using e2, by simpa using e3⟩, by simpa using Nat.le_trans e3 e4, fun z hz => ?_⟩
  obtain ⟨q, _, rfl⟩ := List.mem_map.1 hz
  exact q.2

theorem tr24 {fuel : Nat} {cs : List Value} {x : DataW H × List MemPlace} (h : DataW.trod enc Try.prog w base spare held fuel 24 cs = some x) :
    ∃ (y0 : Int) (y1 : Int) (A2 : Option Addr) (y2 : List Int) (k2 : Nat), cs = [.int .i64 y0, .int .i64 y1, .slice A2 y2.length k2] ∧ inR y0 ∧ inR y1 ∧ Rc w 1 A2 y2.length k2 (y2.flatMap eI) ∧ y2.length ≤ maxLen ∧ (∀ z ∈ y2, inR z) := by
  obtain ⟨xs, n, _, rfl, hl, hlen, hf⟩ := DataW.trod_struct Try.underlying24 h
  have hc : Try.prog.cellsOf 24 = 3 := by kernel_rfl
  rw [hc] at hl
  have h0 : DataW.trod enc Try.prog w base spare held n 3 ((cs.drop 0).take (Try.prog.cellsOf 3)) = xs[0]? := hf 0 _ rfl
  have c0 : Try.prog.cellsOf 3 = 1 := by kernel_rfl
  obtain ⟨q0, hq0⟩ : ∃ q, xs[0]? = some q := ⟨_, List.getElem?_eq_getElem (by rw [hlen]; decide)⟩
  rw [hq0, c0] at h0
  obtain ⟨y0, e0, w0_0⟩ := tr3 h0
  have h1 : DataW.trod enc Try.prog w base spare held n 3 ((cs.drop 1).take (Try.prog.cellsOf 3)) = xs[1]? := hf 1 _ rfl
  have c1 : Try.prog.cellsOf 3 = 1 := by kernel_rfl
  obtain ⟨q1, hq1⟩ : ∃ q, xs[1]? = some q := ⟨_, List.getElem?_eq_getElem (by rw [hlen]; decide)⟩
  rw [hq1, c1] at h1
  obtain ⟨y1, e1, w1_0⟩ := tr3 h1
  have h2 : DataW.trod enc Try.prog w base spare held n 22 ((cs.drop 2).take (Try.prog.cellsOf 22)) = xs[2]? := hf 2 _ rfl
  have c2 : Try.prog.cellsOf 22 = 1 := by kernel_rfl
  obtain ⟨q2, hq2⟩ : ∃ q, xs[2]? = some q := ⟨_, List.getElem?_eq_getElem (by rw [hlen]; decide)⟩
  rw [hq2, c2] at h2
  obtain ⟨A2, y2, k2, e2, w2_0, w2_1, w2_2⟩ := tr22 h2
  match cs, hl with
  | [u0, u1, u2], _ =>
    simp at e0 e1 e2
    subst e0; subst e1; subst e2
    exact ⟨y0, y1, A2, y2, k2, rfl, w0_0, w1_0, w2_0, w2_1, w2_2⟩

theorem op24 {r : Reach} {b0 : Nat} {v : Value} {d : DataW H} {p : List MemPlace} (hval : Value.okWide Try.prog w r b0 24 v) (h : DataW.Trod enc Try.prog w base spare held 24 v d p) :
    ∃ (y0 : Int) (y1 : Int) (A2 : Option Addr) (y2 : List Int) (k2 : Nat), v = .agg #[.int .i64 y0, .int .i64 y1, .slice A2 y2.length k2] ∧ inR y0 ∧ inR y1 ∧ Rc w 1 A2 y2.length k2 (y2.flatMap eI) ∧ y2.length ≤ maxLen ∧ (∀ z ∈ y2, inR z) := by
  obtain ⟨cs, rfl, _⟩ := okWide_struct Try.underlying24 hval
  obtain ⟨fuel, hf⟩ := h
  obtain ⟨y0, y1, A2, y2, k2, e, w0, w1, w2, w3, w4⟩ := tr24 hf
  simp [Value.cells] at e
  exact ⟨y0, y1, A2, y2, k2, congrArg Value.agg (Array.ext' e), w0, w1, w2, w3, w4⟩

theorem tr26 {fuel : Nat} {cs : List Value} {x : DataW H × List MemPlace} (h : DataW.trod enc Try.prog w base spare held fuel 26 cs = some x) :
    ∃ (y0 : Int) (y1 : Int) (y2 : Int), cs = [.int .i64 y0, .int .i64 y1, .int .i64 y2] ∧ inR y0 ∧ inR y1 ∧ inR y2 := by
  obtain ⟨xs, n, _, rfl, hl, hlen, hf⟩ := DataW.trod_struct Try.underlying26 h
  have hc : Try.prog.cellsOf 26 = 3 := by kernel_rfl
  rw [hc] at hl
  have h0 : DataW.trod enc Try.prog w base spare held n 3 ((cs.drop 0).take (Try.prog.cellsOf 3)) = xs[0]? := hf 0 _ rfl
  have c0 : Try.prog.cellsOf 3 = 1 := by kernel_rfl
  obtain ⟨q0, hq0⟩ : ∃ q, xs[0]? = some q := ⟨_, List.getElem?_eq_getElem (by rw [hlen]; decide)⟩
  rw [hq0, c0] at h0
  obtain ⟨y0, e0, w0_0⟩ := tr3 h0
  have h1 : DataW.trod enc Try.prog w base spare held n 3 ((cs.drop 1).take (Try.prog.cellsOf 3)) = xs[1]? := hf 1 _ rfl
  have c1 : Try.prog.cellsOf 3 = 1 := by kernel_rfl
  obtain ⟨q1, hq1⟩ : ∃ q, xs[1]? = some q := ⟨_, List.getElem?_eq_getElem (by rw [hlen]; decide)⟩
  rw [hq1, c1] at h1
  obtain ⟨y1, e1, w1_0⟩ := tr3 h1
  have h2 : DataW.trod enc Try.prog w base spare held n 3 ((cs.drop 2).take (Try.prog.cellsOf 3)) = xs[2]? := hf 2 _ rfl
  have c2 : Try.prog.cellsOf 3 = 1 := by kernel_rfl
  obtain ⟨q2, hq2⟩ : ∃ q, xs[2]? = some q := ⟨_, List.getElem?_eq_getElem (by rw [hlen]; decide)⟩
  rw [hq2, c2] at h2
  obtain ⟨y2, e2, w2_0⟩ := tr3 h2
  match cs, hl with
  | [u0, u1, u2], _ =>
    simp at e0 e1 e2
    subst e0; subst e1; subst e2
    exact ⟨y0, y1, y2, rfl, w0_0, w1_0, w2_0⟩

theorem op26 {r : Reach} {b0 : Nat} {v : Value} {d : DataW H} {p : List MemPlace} (hval : Value.okWide Try.prog w r b0 26 v) (h : DataW.Trod enc Try.prog w base spare held 26 v d p) :
    ∃ (y0 : Int) (y1 : Int) (y2 : Int), v = .agg #[.int .i64 y0, .int .i64 y1, .int .i64 y2] ∧ inR y0 ∧ inR y1 ∧ inR y2 := by
  obtain ⟨cs, rfl, _⟩ := okWide_struct Try.underlying26 hval
  obtain ⟨fuel, hf⟩ := h
  obtain ⟨y0, y1, y2, e, w0, w1, w2⟩ := tr26 hf
  simp [Value.cells] at e
  exact ⟨y0, y1, y2, congrArg Value.agg (Array.ext' e), w0, w1, w2⟩

theorem tr39 {fuel : Nat} {cs : List Value} {x : DataW H × List MemPlace} (h : DataW.trod enc Try.prog w base spare held fuel 39 cs = some x) :
    ∃ (A0 : Option Addr) (y0 : List (Int × Int × Int)) (k0 : Nat), cs = [.slice A0 y0.length k0] ∧ Rc w 3 A0 y0.length k0 (y0.flatMap eLRoomDeed) ∧ y0.length ≤ maxLen ∧ (∀ z ∈ y0, inR z.1 ∧ inR z.2.1 ∧ inR z.2.2) := by
  obtain ⟨A, l, cap, e1, e2, e3, e4⟩ := open_list (fun b : {y : Int × Int × Int // inR y.1 ∧ inR y.2.1 ∧ inR y.2.2} => eLRoomDeed b.1) (size := 3) (fun b => eLRoomDeed_len b.1) (by decide) Try.underlying39 (by kernel_rfl) (fun fuel cs x hx => by
    obtain ⟨z0, z1, z2, rfl, g0, g1, g2⟩ := tr26 hx
    exact ⟨⟨(z0, z1, z2), ⟨g0, g1, g2⟩⟩, rfl⟩) h
  refine ⟨A, l.map (·.1), cap, by simpa using e1, ⟨by simpa [List.flatMap_map] using e2, by simpa using e3⟩, by simpa using Nat.le_trans e3 e4, fun z hz => ?_⟩
  obtain ⟨q, _, rfl⟩ := List.mem_map.1 hz
  exact q.2

theorem op39 {r : Reach} {b0 : Nat} {v : Value} {d : DataW H} {p : List MemPlace} (hval : Value.okWide Try.prog w r b0 39 v) (h : DataW.Trod enc Try.prog w base spare held 39 v d p) :
    ∃ (A0 : Option Addr) (y0 : List (Int × Int × Int)) (k0 : Nat), v = .slice A0 y0.length k0 ∧ Rc w 3 A0 y0.length k0 (y0.flatMap eLRoomDeed) ∧ y0.length ≤ maxLen ∧ (∀ z ∈ y0, inR z.1 ∧ inR z.2.1 ∧ inR z.2.2) := by
  obtain ⟨A', n', k', rfl⟩ := okWide_slice Try.underlying39 hval
  obtain ⟨fuel, hf⟩ := h
  obtain ⟨A0, y0, k0, e, w0, w1, w2⟩ := tr39 hf
  simp [Value.cells] at e
  exact ⟨A0, y0, k0, by simp [e], w0, w1, w2⟩

theorem op3 {r : Reach} {b0 : Nat} {v : Value} {d : DataW H} {p : List MemPlace} (hval : Value.okWide Try.prog w r b0 3 v) (h : DataW.Trod enc Try.prog w base spare held 3 v d p) :
    ∃ (y0 : Int), v = .int .i64 y0 ∧ inR y0 := by
  obtain ⟨n, rfl, rfl, rfl, wf⟩ := open_int Try.underlying3 hval h
  exact ⟨n, rfl, Go.bounds_i64 wf⟩
end
end Go.Proofs.Ythpmmfbnclfbmaa
