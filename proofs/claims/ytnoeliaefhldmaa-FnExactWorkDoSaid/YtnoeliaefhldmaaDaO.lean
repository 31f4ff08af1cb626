/- How the arguments of the laws are opened. -/
import Derived.Test.YtnoeliaefhldmaaDaM
import Derived.Test.YtnoeliaefhldmaaOpens
import Derived.ChangeSame
import Derived.ChangeMaps5
namespace Go.Proofs.Ytnoeliaefhldmaa
open Go.ChangeShapes Go.WideShapes Go.ChangeAt Go.RowKit Go.Deep
set_option linter.unusedVariables false
set_option linter.unusedSimpArgs false
section
variable {H : Type} {enc : TypeId × Value → H} {w : World} {base : Nat} {spare : Nat → Bool} {held : Bool}
theorem tr4 {fuel : Nat} {cs : List Value} {x : DataW H × List MemPlace} (h : DataW.trod enc Try.prog w base spare held fuel 4 cs = some x) :
    ∃ (y0 : Bool), cs = [.bool y0] := by
  obtain ⟨n, rfl, _⟩ := DataW.trod_bool Try.underlying4 h
  exact ⟨n, rfl⟩

theorem tr22 {fuel : Nat} {cs : List Value} {x : DataW H × List MemPlace} (h : DataW.trod enc Try.prog w base spare held fuel 22 cs = some x) :
    ∃ (A0 : Option Addr) (y0 : List Bool) (k0 : Nat), cs = [.slice A0 y0.length k0] ∧ Rc w 1 A0 y0.length k0 (y0.flatMap eB) ∧ y0.length ≤ maxLen ∧ (∀ z ∈ y0, True) := by
  obtain ⟨A, l, cap, e1, e2, e3, e4⟩ := open_list (fun b : {y : Bool // True} => eB b.1) (size := 1) (fun b => eB_len b.1) (by decide) Try.underlying22 (by kernel_rfl) (fun fuel cs x hx => by
    obtain ⟨z0, rfl⟩ := tr4 hx
    exact ⟨⟨z0, trivial⟩, rfl⟩) h
  refine ⟨A, l.map (·.1), cap, by simpa using e1, ⟨by simpa [List.flatMap_map] using e2, by simpa using e3⟩, by simpa using Nat.le_trans e3 e4, fun z hz => ?_⟩
  obtain ⟨q, _, rfl⟩ := List.mem_map.1 hz
  exact q.2

theorem tr3 {fuel : Nat} {cs : List Value} {x : DataW H × List MemPlace} (h : DataW.trod enc Try.prog w base spare held fuel 3 cs = some x) :
    ∃ (y0 : Int), cs = [.int .i64 y0] ∧ inR y0 := by
  obtain ⟨n, rfl, _, hw⟩ := DataW.trod_int Try.underlying3 h
  exact ⟨n, rfl, Go.bounds_i64 hw⟩

theorem tr70 {fuel : Nat} {cs : List Value} {x : DataW H × List MemPlace} (h : DataW.trod enc Try.prog w base spare held fuel 70 cs = some x) :
    ∃ (y0 : Int) (y1 : Int), cs = [.int .i64 y0, .int .i64 y1] ∧ inR y0 ∧ inR y1 := by
  obtain ⟨xs, n, _, rfl, hl, hlen, hf⟩ := DataW.trod_struct Try.underlying70 h
  have hc : Try.prog.cellsOf 70 = 2 := by kernel_rfl
  rw [hc] at hl
  have h0 : DataW.trod enc Try.prog w base spare held n 3 ((cs.drop 0).take (Try.prog.cellsOf 3)) = xs[0]? := hf 0 _ rfl
  have c0 : Try.prog.cellsOf 3 = 1 := by kernel_rfl
  obtain ⟨q0, hq0⟩ : ∃ q, xs[0]? = some q := ⟨_, List.getElem?_eq_getElem (by rw [hlen]; decide)⟩
  rw [hq0, c0] at h0
  obtain ⟨y0, e0, w0_0⟩ := tr3 h0
  have h1 : DataW.trod enc Try.prog w base spare held n 3 ((cs.drop 1).take (Try.prog.cellsOf 3)) = xs[1]? := hf 1 _ rfl
  have c1 : Try.prog.cellsOf 3 = 1 := by kernel_rfl
  obtain ⟨q1, hq1⟩ : ∃ q, xs[1]? = some q := ⟨_, List.getElem?_eq_getElem (by rw [hlen]; decide)⟩
  rw [hq1, c1] at h1
  obtain ⟨y1, e1, w1_0⟩ := tr3 h1
  match cs, hl with
  | [u0, u1], _ =>
    simp at e0 e1
    subst e0; subst e1
    exact ⟨y0, y1, rfl, w0_0, w1_0⟩

theorem tr23 {fuel : Nat} {cs : List Value} {x : DataW H × List MemPlace} (h : DataW.trod enc Try.prog w base spare held fuel 23 cs = some x) :
    ∃ (A0 : Option Addr) (y0 : List (Int × Int)) (k0 : Nat), cs = [.slice A0 y0.length k0] ∧ Rc w 2 A0 y0.length k0 (y0.flatMap eLPermit) ∧ y0.length ≤ maxLen ∧ (∀ z ∈ y0, inR z.1 ∧ inR z.2) := by
  obtain ⟨A, l, cap, e1, e2, e3, e4⟩ := open_list (fun b : {y : Int × Int // inR y.1 ∧ inR y.2} => eLPermit b.1) (size := 2) (fun b => eLPermit_len b.1) (by decide) Try.underlying23 (by kernel_rfl) (fun fuel cs x hx => by
    obtain ⟨z0, z1, rfl, g0, g1⟩ := tr70 hx
    exact ⟨⟨(z0, z1), ⟨g0, g1⟩⟩, rfl⟩) h
  refine ⟨A, l.map (·.1), cap, by simpa using e1, ⟨by simpa [List.flatMap_map] using e2, by simpa using e3⟩, by simpa using Nat.le_trans e3 e4, fun z hz => ?_⟩
  obtain ⟨q, _, rfl⟩ := List.mem_map.1 hz
  exact q.2

theorem tr25 {fuel : Nat} {cs : List Value} {x : DataW H × List MemPlace} (h : DataW.trod enc Try.prog w base spare held fuel 25 cs = some x) :
    ∃ (A0 : Option Addr) (y0 : List Bool) (k0 : Nat) (A1 : Option Addr) (y1 : List Bool) (k1 : Nat) (A2 : Option Addr) (y2 : List (Int × Int)) (k2 : Nat), cs = [.slice A0 y0.length k0, .slice A1 y1.length k1, .slice A2 y2.length k2] ∧ Rc w 1 A0 y0.length k0 (y0.flatMap eB) ∧ y0.length ≤ maxLen ∧ (∀ z ∈ y0, True) ∧ Rc w 1 A1 y1.length k1 (y1.flatMap eB) ∧ y1.length ≤ maxLen ∧ (∀ z ∈ y1, True) ∧ Rc w 2 A2 y2.length k2 (y2.flatMap eLPermit) ∧ y2.length ≤ maxLen ∧ (∀ z ∈ y2, inR z.1 ∧ inR z.2) := by
  obtain ⟨xs, n, _, rfl, hl, hlen, hf⟩ := DataW.trod_struct Try.underlying25 h
  have hc : Try.prog.cellsOf 25 = 3 := by kernel_rfl
  rw [hc] at hl
  have h0 : DataW.trod enc Try.prog w base spare held n 22 ((cs.drop 0).take (Try.prog.cellsOf 22)) = xs[0]? := hf 0 _ rfl
  have c0 : Try.prog.cellsOf 22 = 1 := by kernel_rfl
  obtain ⟨q0, hq0⟩ : ∃ q, xs[0]? = some q := ⟨_, List.getElem?_eq_getElem (by rw [hlen]; decide)⟩
  rw [hq0, c0] at h0
  obtain ⟨A0, y0, k0, e0, w0_0, w0_1, w0_2⟩ := tr22 h0
  have h1 : DataW.trod enc Try.prog w base spare held n 22 ((cs.drop 1).take (Try.prog.cellsOf 22)) = xs[1]? := hf 1 _ rfl
  have c1 : Try.prog.cellsOf 22 = 1 := by kernel_rfl
  obtain ⟨q1, hq1⟩ : ∃ q, xs[1]? = some q := ⟨_, List.getElem?_eq_getElem (by rw [hlen]; decide)⟩
  rw [hq1, c1] at h1
  obtain ⟨A1, y1, k1, e1, w1_0, w1_1, w1_2⟩ := tr22 h1
  have h2 : DataW.trod enc Try.prog w base spare held n 23 ((cs.drop 2).take (Try.prog.cellsOf 23)) = xs[2]? := hf 2 _ rfl
  have c2 : Try.prog.cellsOf 23 = 1 := by kernel_rfl
  obtain ⟨q2, hq2⟩ : ∃ q, xs[2]? = some q := ⟨_, List.getElem?_eq_getElem (by rw [hlen]; decide)⟩
  rw [hq2, c2] at h2
  obtain ⟨A2, y2, k2, e2, w2_0, w2_1, w2_2⟩ := tr23 h2
  match cs, hl with
  | [u0, u1, u2], _ =>
    simp at e0 e1 e2
    subst e0; subst e1; subst e2
    exact ⟨A0, y0, k0, A1, y1, k1, A2, y2, k2, rfl, w0_0, w0_1, w0_2, w1_0, w1_1, w1_2, w2_0, w2_1, w2_2⟩

theorem op25 {r : Reach} {b0 : Nat} {v : Value} {d : DataW H} {p : List MemPlace} (hval : Value.okWide Try.prog w r b0 25 v) (h : DataW.Trod enc Try.prog w base spare held 25 v d p) :
    ∃ (A0 : Option Addr) (y0 : List Bool) (k0 : Nat) (A1 : Option Addr) (y1 : List Bool) (k1 : Nat) (A2 : Option Addr) (y2 : List (Int × Int)) (k2 : Nat), v = .agg #[.slice A0 y0.length k0, .slice A1 y1.length k1, .slice A2 y2.length k2] ∧ Rc w 1 A0 y0.length k0 (y0.flatMap eB) ∧ y0.length ≤ maxLen ∧ (∀ z ∈ y0, True) ∧ Rc w 1 A1 y1.length k1 (y1.flatMap eB) ∧ y1.length ≤ maxLen ∧ (∀ z ∈ y1, True) ∧ Rc w 2 A2 y2.length k2 (y2.flatMap eLPermit) ∧ y2.length ≤ maxLen ∧ (∀ z ∈ y2, inR z.1 ∧ inR z.2) := by
  obtain ⟨cs, rfl, _⟩ := okWide_struct Try.underlying25 hval
  obtain ⟨fuel, hf⟩ := h
  obtain ⟨A0, y0, k0, A1, y1, k1, A2, y2, k2, e, w0, w1, w2, w3, w4, w5, w6, w7, w8⟩ := tr25 hf
  simp [Value.cells] at e
  exact ⟨A0, y0, k0, A1, y1, k1, A2, y2, k2, congrArg Value.agg (Array.ext' e), w0, w1, w2, w3, w4, w5, w6, w7, w8⟩

theorem tr27 {fuel : Nat} {cs : List Value} {x : DataW H × List MemPlace} (h : DataW.trod enc Try.prog w base spare held fuel 27 cs = some x) :
    ∃ (y0 : Int) (y1 : Int) (y2 : Int), cs = [.int .i64 y0, .int .i64 y1, .int .i64 y2] ∧ inR y0 ∧ inR y1 ∧ inR y2 := by
  obtain ⟨xs, n, _, rfl, hl, hlen, hf⟩ := DataW.trod_struct Try.underlying27 h
  have hc : Try.prog.cellsOf 27 = 3 := by kernel_rfl
  rw [hc] at hl
  have h0 : DataW.trod enc Try.prog w base spare held n 3 ((cs.drop 0).take (Try.prog.cellsOf 3)) = xs[0]? := hf 0 _ rfl
  have c0 : Try.prog.cellsOf 3 = 1 := by kernel_rfl
  obtain ⟨q0, hq0⟩ : ∃ q, xs[0]? = some q := ⟨_, List.getElem?_eq_getElem (by rw [hlen]; decide)⟩
  rw [hq0, c0] at h0
  obtain ⟨y0, e0, w0_0⟩ := tr3 h0
  have h1 : DataW.trod enc Try.prog w base spare held n 3 ((cs.drop 1).take (Try.prog.cellsOf 3)) = xs[1]? := hf 1 _ rfl
  have c1 : Try.prog.cellsOf 3 = 1 := by kernel_rfl
  obtain ⟨q1, hq1⟩ : ∃ q, xs[1]? = some q := ⟨_, List.getElem?_eq_getElem (by rw [hlen]; decide)⟩
  rw [hq1, c1] at h1
  obtain ⟨y1, e1, w1_0⟩ := tr3 h1
  have h2 : DataW.trod enc Try.prog w base spare held n 3 ((cs.drop 2).take (Try.prog.cellsOf 3)) = xs[2]? := hf 2 _ rfl
  have c2 : Try.prog.cellsOf 3 = 1 := by kernel_rfl
  obtain ⟨q2, hq2⟩ : ∃ q, xs[2]? = some q := ⟨_, List.getElem?_eq_getElem (by rw [hlen]; decide)⟩
  rw [hq2, c2] at h2
  obtain ⟨y2, e2, w2_0⟩ := tr3 h2
  match cs, hl with
  | [u0, u1, u2], _ =>
    simp at e0 e1 e2
    subst e0; subst e1; subst e2
    exact ⟨y0, y1, y2, rfl, w0_0, w1_0, w2_0⟩

theorem op27 {r : Reach} {b0 : Nat} {v : Value} {d : DataW H} {p : List MemPlace} (hval : Value.okWide Try.prog w r b0 27 v) (h : DataW.Trod enc Try.prog w base spare held 27 v d p) :
    ∃ (y0 : Int) (y1 : Int) (y2 : Int), v = .agg #[.int .i64 y0, .int .i64 y1, .int .i64 y2] ∧ inR y0 ∧ inR y1 ∧ inR y2 := by
  obtain ⟨cs, rfl, _⟩ := okWide_struct Try.underlying27 hval
  obtain ⟨fuel, hf⟩ := h
  obtain ⟨y0, y1, y2, e, w0, w1, w2⟩ := tr27 hf
  simp [Value.cells] at e
  exact ⟨y0, y1, y2, congrArg Value.agg (Array.ext' e), w0, w1, w2⟩

theorem tr40 {fuel : Nat} {cs : List Value} {x : DataW H × List MemPlace} (h : DataW.trod enc Try.prog w base spare held fuel 40 cs = some x) :
    ∃ (A0 : Option Addr) (y0 : List (Int × Int × Int)) (k0 : Nat), cs = [.slice A0 y0.length k0] ∧ Rc w 3 A0 y0.length k0 (y0.flatMap eLWorkDeed) ∧ y0.length ≤ maxLen ∧ (∀ z ∈ y0, inR z.1 ∧ inR z.2.1 ∧ inR z.2.2) := by
  obtain ⟨A, l, cap, e1, e2, e3, e4⟩ := open_list (fun b : {y : Int × Int × Int // inR y.1 ∧ inR y.2.1 ∧ inR y.2.2} => eLWorkDeed b.1) (size := 3) (fun b => eLWorkDeed_len b.1) (by decide) Try.underlying40 (by kernel_rfl) (fun fuel cs x hx => by
    obtain ⟨z0, z1, z2, rfl, g0, g1, g2⟩ := tr27 hx
    exact ⟨⟨(z0, z1, z2), ⟨g0, g1, g2⟩⟩, rfl⟩) h
  refine ⟨A, l.map (·.1), cap, by simpa using e1, ⟨by simpa [List.flatMap_map] using e2, by simpa using e3⟩, by simpa using Nat.le_trans e3 e4, fun z hz => ?_⟩
  obtain ⟨q, _, rfl⟩ := List.mem_map.1 hz
  exact q.2

theorem op40 {r : Reach} {b0 : Nat} {v : Value} {d : DataW H} {p : List MemPlace} (hval : Value.okWide Try.prog w r b0 40 v) (h : DataW.Trod enc Try.prog w base spare held 40 v d p) :
    ∃ (A0 : Option Addr) (y0 : List (Int × Int × Int)) (k0 : Nat), v = .slice A0 y0.length k0 ∧ Rc w 3 A0 y0.length k0 (y0.flatMap eLWorkDeed) ∧ y0.length ≤ maxLen ∧ (∀ z ∈ y0, inR z.1 ∧ inR z.2.1 ∧ inR z.2.2) := by
  obtain ⟨A', n', k', rfl⟩ := okWide_slice Try.underlying40 hval
  obtain ⟨fuel, hf⟩ := h
  obtain ⟨A0, y0, k0, e, w0, w1, w2⟩ := tr40 hf
  simp [Value.cells] at e
  exact ⟨A0, y0, k0, by simp [e], w0, w1, w2⟩
end
end Go.Proofs.Ytnoeliaefhldmaa
