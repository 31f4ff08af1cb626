/- Rows that a call made itself, handed on and written. -/
import Derived.Test.YtcmnjaccapbhfaaSl
import Derived.Test.YtcmnjaccapbhfaaRg
import Derived.Laws.OwnMore
namespace Go.Proofs.Ytcmnjaccapbhfaa
open Go.ChangeShapes Go.WideShapes Go.ChangeAt Go.RowKit

section
variable {w w' : World} {lo : Nat} {t : TypeId} {size n : Nat} {v : Value} {xs : List Value}
theorem own_form (h : w.ownsRow lo t size v n xs) : ∃ A c, v = .slice A n c ∧ n ≤ c ∧ c ≤ maxLen ∧ Rd w size A n xs := by
  rcases h.2 with ⟨rfl, rfl⟩ | ⟨g, cap, cur, rfl, _, hg, h1, h2, h3, h4⟩
  · have : xs = [] := List.eq_nil_of_length_eq_zero (by simpa using h.1)
    subst this
    exact ⟨none, 0, rfl, Nat.le_refl _, Nat.zero_le _, Rd.nil⟩
  · refine ⟨_, cap, rfl, h1, h2, Rd.of_bk (show Bk w g t cur from hg) h.1 fun j u hu => ?_⟩
    rw [← h4, List.getElem?_take] at hu
    split at hu
    · simpa using hu
    · cases hu
theorem own_after (h : w.ownsRow lo t size v n xs) (hb : Below w.heap.size w w') : w'.ownsRow lo t size v n xs := by
  refine ⟨h.1, ?_⟩
  rcases h.2 with h2 | ⟨g, cap, cur, rfl, hl, hg, r⟩
  · exact .inl h2
  · exact .inr ⟨g, cap, cur, rfl, hl, blk_below hg hb (blk_lt hg), r⟩
theorem own_mono {lo' : Nat} (h : w.ownsRow lo t size v n xs) (hl : lo' ≤ lo) : w.ownsRow lo' t size v n xs := by
  refine ⟨h.1, ?_⟩
  rcases h.2 with h2 | ⟨g, cap, cur, rfl, hl', hg, r⟩
  · exact .inl h2
  · exact .inr ⟨g, cap, cur, rfl, Nat.le_trans hl hl', hg, r⟩
theorem own_far {row : Option Nat} (h : w.ownsRow lo t size v n xs) (hg : w.grownBy w' row) (hr : ∀ g, row = some g → g < lo) : w'.ownsRow lo t size v n xs :=
  h.kept hg (by
    cases hv : v.ownBlock with
    | none => exact .inl rfl
    | some k =>
      refine .inr fun e => ?_
      have := (h.lt k hv).1
      have := hr k e.symm
      omega)
theorem own_bk {g : Nat} {l : List Value} (h : Bk w g t l.toArray) (hlo : lo ≤ g) (hs : l.length = n * size) (hm : n ≤ maxLen) : w.ownsRow lo t size (.slice (some ⟨g, 0, none⟩) n n) n l :=
  ⟨hs, .inr ⟨g, n, l.toArray, rfl, hlo, h, Nat.le_refl _, hm, by simpa using hs, by simp [hs.symm]⟩⟩
end

theorem below_grown {B : Nat} {a w w' : World} {g : Nat} (h : Below B a w) (hg : w.grownBy w' (some g)) (hB : B ≤ g) (hs : B ≤ a.heap.size := by exact Nat.le_refl _) : Below B a w' :=
  h.grown hg (Nat.le_trans hs h.size) (fun k e => by injection e with e; omega)
theorem grown_set {w w' : World} {g : Nat} (h : w.grownBy w' (some g)) (i : Nat) (u : Value) : w.grownBy (w'.setCell ⟨g, i, none⟩ u) (some g) :=
  ⟨h.os, h.tape, h.output, by simpa [World.setCell] using h.size, fun k hk hne => (Below.heap_setCell w' ⟨g, i, none⟩ u k (fun e => hne (by rw [e]))).trans (h.block k hk hne)⟩
theorem grown_refl (w : World) (row : Option Nat) : w.grownBy w row := ⟨rfl, rfl, rfl, Nat.le_refl _, fun _ _ _ => rfl⟩
theorem grown_drew {w w' : World} {row : Option Nat} (h : w.grownBy w' row) : w.grownBy w'.drew row := ⟨h.os, h.tape, h.output, h.size, h.block⟩

theorem own_kept_lt {w w' : World} {lo B : Nat} {t : TypeId} {size n : Nat} {v : Value} {xs : List Value} {row : Option Nat} (h : w.ownsRow lo t size v n xs) (hlt : ∀ k, v.ownBlock = some k → k < B) (hg : w.grownBy w' row) (hr : ∀ g, row = some g → B ≤ g) : w'.ownsRow lo t size v n xs :=
  h.kept hg (by
    cases hv : v.ownBlock with
    | none => exact .inl rfl
    | some k =>
      refine .inr fun e => ?_
      have := hlt k hv
      have := hr k e.symm
      omega)
theorem own_rd {w : World} {lo : Nat} {t : TypeId} {size n c : Nat} {A : Option Addr} {xs : List Value} (h : w.ownsRow lo t size (.slice A n c) n xs) : Rd w size A n xs := by
  obtain ⟨_, _, e, _, _, R⟩ := own_form h
  injection e with e _ _
  subst e
  exact R
theorem below_row {B : Nat} {a w w' : World} {row : Option Nat} (h : Below B a w) (hg : w.grownBy w' row) (hr : ∀ g, row = some g → B ≤ g) (hs : B ≤ a.heap.size := by exact Nat.le_refl _) : Below B a w' :=
  h.grown hg (Nat.le_trans hs h.size) hr


/-- i marks from k on. -/
def marks (f : Int → Value) (k : Int) (i : Nat) : List Value := (List.range i).map fun (j : Nat) => f (k + (j : Int))
theorem marks_length (f : Int → Value) (k : Int) (i : Nat) : (marks f k i).length = i := by simp [marks]
theorem marks_succ (f : Int → Value) (k : Int) (i : Nat) : marks f k (i + 1) = marks f k i ++ [f (k + i)] := by simp [marks, List.range_succ]
theorem marks_get (f : Int → Value) (k : Int) {i j : Nat} (h : j < i) : (marks f k i)[j]? = some (f (k + j)) := by simp [marks, h]
/-- The first i of cs, marked. -/
def marked (f : Int → Value) (k : Int) (cs : List Value) (i : Nat) : List Value := marks f k i ++ cs.drop i
theorem marked_zero (f : Int → Value) (k : Int) (cs : List Value) : marked f k cs 0 = cs := by simp [marked, marks]
theorem marked_length (f : Int → Value) (k : Int) (cs : List Value) {i : Nat} (h : i ≤ cs.length) : (marked f k cs i).length = cs.length := by simp [marked, marks_length]; omega
theorem marked_get (f : Int → Value) (k : Int) (cs : List Value) {i : Nat} (h : i < cs.length) : (marked f k cs i)[i]? = some cs[i] := by
  simp only [marked]
  rw [List.getElem?_append_right (by rw [marks_length]; exact Nat.le_refl _), marks_length]
  simp [h]
theorem marked_set (f : Int → Value) (k : Int) (cs : List Value) {i : Nat} (h : i < cs.length) : (marked f k cs i).set i (f (k + i)) = marked f k cs (i + 1) := by
  simp only [marked]
  rw [List.set_append_right _ _ (by rw [marks_length]; exact Nat.le_refl _), marks_length, Nat.sub_self, marks_succ, List.drop_eq_getElem_cons h, List.set_cons_zero, List.append_assoc]
  rfl

end Go.Proofs.Ytcmnjaccapbhfaa
