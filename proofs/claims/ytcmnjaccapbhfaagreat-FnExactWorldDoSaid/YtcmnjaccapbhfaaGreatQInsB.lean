/- slices.Insert at []int: the contract on rows (first part: cells that are written over). -/
import Derived.Test.YtcmnjaccapbhfaaGreatQInsA
import Derived.Test.YtcmnjaccapbhfaaGreatQDel
namespace Go.Proofs.YtcmnjaccapbhfaaGreat
open Go.ChangeShapes Go.WideShapes Go.ChangeAt Go.RowKit
set_option linter.unusedVariables false
set_option linter.unusedSimpArgs false
def over : Array Value → Nat → List Value → Array Value
  | cs, _, [] => cs
  | cs, o, v :: vs => over (cs.setIfInBounds o v) (o + 1) vs
theorem over_size : ∀ (vs : List Value) (cs : Array Value) (o : Nat), (over cs o vs).size = cs.size
  | [], _, _ => rfl
  | v :: vs, cs, o => by rw [over, over_size vs]; simp
theorem over_get : ∀ (vs : List Value) (cs : Array Value) (o k : Nat), o + vs.length ≤ cs.size → (over cs o vs)[k]? = if o ≤ k ∧ k < o + vs.length then vs[k - o]? else cs[k]?
  | [], cs, o, k, _ => by rw [over, if_neg (by simp only [List.length_nil]; omega)]
  | v :: vs, cs, o, k, h => by
    simp only [List.length_cons] at h ⊢
    rw [over, over_get vs _ _ k (by simp; omega)]
    by_cases h1 : k = o
    · subst h1
      rw [if_neg (by omega), if_pos (by omega)]
      simp [show k < cs.size by omega]
    · by_cases h2 : o + 1 ≤ k ∧ k < o + 1 + vs.length
      · rw [if_pos h2, if_pos (by omega), show k - o = (k - (o + 1)) + 1 by omega]; rfl
      · rw [if_neg h2, if_neg (by omega)]
        rw [Array.getElem?_setIfInBounds_ne (by omega)]
theorem put_bk {g : Nat} {E : TypeId} : ∀ (vs : List Value) (cs : Array Value) (o : Nat) (w : World), Bk w g E cs → Bk (w.setCells g o vs) g E (over cs o vs) ∧ Grown w (w.setCells g o vs) [g]
  | [], cs, o, w, h => ⟨h, ⟨rfl, rfl, rfl, Nat.le_refl _, fun _ _ _ => rfl⟩⟩
  | v :: vs, cs, o, w, h => by
    have h1 : Bk (w.setCell ⟨g, o, none⟩ v) g E (cs.setIfInBounds o v) := h.set_ o v
    obtain ⟨a, b⟩ := put_bk vs _ (o + 1) _ h1
    exact ⟨a, (Grown.set w g o v).trans b⟩
theorem ins_cells {cur : Array Value} {xs : List Value} {y : Value} {off n i c : Nat} (hx : (cur.toList.drop off).take n = xs) (hl : xs.length = n) (hi : i ≤ n) (hc : n + 1 ≤ c) (hs : off + c ≤ cur.size) :
    ((over (over cur (off + (i + 1)) (xs.drop i)) (off + i) [y]).toList.drop off).take (n + 1) = xs.take i ++ [y] ++ xs.drop i := by
  have hd : (xs.drop i).length = n - i := by rw [List.length_drop, hl]
  apply List.ext_getElem?
  intro k
  by_cases hk : k < n + 1
  · rw [List.getElem?_take, if_pos hk, List.getElem?_drop, Array.getElem?_toList, over_get _ _ _ _ (by rw [over_size]; simp; omega), over_get _ _ _ _ (by rw [hd]; omega)]
    have hxk : ∀ j, j < n → xs[j]? = cur[off + j]? := fun j hj => by rw [← hx, List.getElem?_take, if_pos hj, List.getElem?_drop, Array.getElem?_toList]
    simp only [List.length_singleton, hd]
    by_cases h1 : k < i
    · rw [if_neg (by omega), if_neg (by omega), List.append_assoc, List.getElem?_append_left (by rw [List.length_take]; omega), List.getElem?_take, if_pos h1, hxk k (by omega)]
    · have hti : (xs.take i).length = i := by rw [List.length_take]; omega
      rw [List.append_assoc, List.getElem?_append_right (by omega), hti]
      by_cases h2 : k = i
      · subst h2
        rw [if_pos (by omega)]; simp
      · rw [if_neg (by omega), if_pos (by omega), show k - i = (k - i - 1) + 1 by omega]
        show (xs.drop i)[off + k - (off + (i + 1))]? = (xs.drop i)[k - i - 1]?
        congr 1; omega
  · rw [List.getElem?_eq_none (by rw [List.length_take]; omega), List.getElem?_eq_none (by simp only [List.length_append, List.length_take, List.length_drop, List.length_singleton]; omega)]
end Go.Proofs.YtcmnjaccapbhfaaGreat
