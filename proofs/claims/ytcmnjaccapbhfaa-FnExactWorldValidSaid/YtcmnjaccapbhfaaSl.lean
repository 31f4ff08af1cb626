/- Slices: a slice that reads as a list of cells; a block as a list; lists that are filled from the left. -/
import Derived.Test.YtcmnjaccapbhfaaPre
import Derived.Deep.OwnRows
namespace Go.Proofs.Ytcmnjaccapbhfaa
open Go.ChangeShapes Go.WideShapes Go.ChangeAt Go.RowKit

/-- The slice '.slice A n c' reads as the cells xs, size cells an element. -/
def Rd (w : World) (size : Nat) (A : Option Addr) (n : Nat) (xs : List Value) : Prop :=
  xs.length = n * size ∧ (0 < n → ∃ b off, A = some ⟨b, off, none⟩ ∧ ∀ j u, xs[j]? = some u → w.cell? ⟨b, off + j, none⟩ = some u)

section
variable {w w' : World} {size n : Nat} {A : Option Addr} {xs : List Value}
theorem Rd.nil : Rd w size A 0 [] := ⟨by simp, fun h => absurd h (by omega)⟩
theorem Rd.after (h : Rd w size A n xs) (hb : Below w.heap.size w w') : Rd w' size A n xs :=
  ⟨h.1, fun hn => by
    obtain ⟨b, off, e, hc⟩ := h.2 hn
    exact ⟨b, off, e, fun j u hu => (hb.cell (World.block_lt_of_cell? _ _ (hc j u hu))).trans (hc j u hu)⟩⟩
theorem Rd.drew (h : Rd w size A n xs) : Rd w.drew size A n xs := h
theorem Rd.alloc (h : Rd w size A n xs) (o : Obj) : Rd (w.alloc o) size A n xs := h.after ((Below.refl _ _).alloc (Nat.le_refl _) _)
theorem Rd.below {B : Nat} (h : Rd w size A n xs) (hb : Below B w w') (hB : ∀ b off, A = some ⟨b, off, none⟩ → 0 < n → b < B) : Rd w' size A n xs :=
  ⟨h.1, fun hn => by
    obtain ⟨b, off, e, hc⟩ := h.2 hn
    exact ⟨b, off, e, fun j u hu => (hb.cell (hB b off e hn)).trans (hc j u hu)⟩⟩
/-- The k-th cell of a slice of one-cell elements. -/
theorem Rd.at1 {k : Nat} (h : Rd w 1 A n xs) (hk : k < n) : ∃ b off, A = some ⟨b, off, none⟩ ∧ b < w.heap.size ∧ ∃ u, xs[k]? = some u ∧ w.cell? ⟨b, off + k, none⟩ = some u := by
  obtain ⟨b, off, e, hc⟩ := h.2 (by omega)
  have hl : k < xs.length := by have := h.1; omega
  have hx := List.getElem?_eq_getElem hl
  exact ⟨b, off, e, World.block_lt_of_cell? _ _ (hc k _ hx), _, hx, hc k _ hx⟩
/-- A block of one's own, as a slice. -/
theorem Rd.of_bk {g : Nat} {t : TypeId} {cs : Array Value} (h : Bk w g t cs) (hl : xs.length = n * size) (hx : ∀ (j : Nat) (u : Value), xs[j]? = some u → cs[j]? = some u) : Rd w size (some ⟨g, 0, none⟩) n xs :=
  ⟨hl, fun _ => ⟨g, 0, rfl, fun j u hu => by rw [Nat.zero_add, (h.at_ j).1]; exact hx j u hu⟩⟩
end

theorem Bk.setl {w : World} {g : Nat} {t : TypeId} {l : List Value} (h : Bk w g t l.toArray) (k : Nat) (u : Value) : Bk (w.setCell ⟨g, k, none⟩ u) g t (l.set k u).toArray := by
  simpa using h.set_ k u
theorem Bk.atl {w : World} {g : Nat} {t : TypeId} {l : List Value} (h : Bk w g t l.toArray) {k : Nat} {u : Value} (hk : l[k]? = some u) : w.cell? ⟨g, k, none⟩ = some u ∧ w.frozen? ⟨g, k, none⟩ = false := by
  have := h.at_ k; simp only [List.getElem?_toArray, hk] at this; exact this
theorem Bk.rd1 {w : World} {g : Nat} {t : TypeId} {l : List Value} (h : Bk w g t l.toArray) : Rd w 1 (some ⟨g, 0, none⟩) l.length l :=
  Rd.of_bk h (by simp) (fun j u hu => by simpa using hu)

/-- The first k of l, and d for the rest. -/
def filled {α : Type} (l : List α) (d : α) (k : Nat) : List α := l.take k ++ List.replicate (l.length - k) d
theorem filled_zero {α : Type} (l : List α) (d : α) : filled l d 0 = List.replicate l.length d := by simp [filled]
theorem filled_all {α : Type} (l : List α) (d : α) {k : Nat} (hk : l.length ≤ k) : filled l d k = l := by
  unfold filled; rw [List.take_of_length_le hk, show l.length - k = 0 from by omega]; simp
theorem filled_length {α : Type} (l : List α) (d : α) {k : Nat} (hk : k ≤ l.length) : (filled l d k).length = l.length := by simp [filled]; omega
theorem filled_get {α : Type} (l : List α) (d : α) {k : Nat} (hk : k < l.length) : (filled l d k)[k]? = some d := by
  simp only [filled]
  rw [List.getElem?_append_right (by simp; omega)]
  simp [List.getElem?_replicate]
  omega
theorem filled_set {α : Type} (l : List α) (d : α) {k : Nat} (hk : k < l.length) : (filled l d k).set k l[k] = filled l d (k + 1) := by
  unfold filled
  rw [List.set_append_right _ _ (by simp; omega)]
  have e : k - (List.take k l).length = 0 := by simp; omega
  rw [e, show l.length - k = (l.length - (k + 1)) + 1 from by omega, List.replicate_succ, List.set_cons_zero]
  have e2 : List.take (k + 1) l = List.take k l ++ [l[k]] := List.take_succ_eq_append_getElem hk
  rw [e2, List.append_assoc]
  rfl
theorem filled_map {α β : Type} (f : α → β) (l : List α) (d : α) (k : Nat) : (filled l d k).map f = filled (l.map f) (f d) k := by simp [filled]
theorem made_one (z : Value) (n : Nat) : madeCells #[z] n = (List.replicate n z).toArray := by
  apply Array.ext'; rw [toList_madeCells_one]

end Go.Proofs.Ytcmnjaccapbhfaa
