/- What BarsDo computes, as a function on lists. -/
import Derived.Test.YtandfbpanaldcaaBarsA
namespace Go.Proofs.Ytandfbpanaldcaa

/-- Is a bay with side x on bar b (1 or 2)? -/
def onBar (x b : Int) : Bool := x / b % 2 == 1
def flipBar (x b : Int) : Int := if onBar x b then x - b else x + b
def deedBay (deed : Int) : Nat := ((deed - 2) / 4).toNat
def deedBar (deed : Int) : Int := 1 + (deed - 2) / 2 % 2
def shuts (deed : Int) : Bool := deed % 2 == 1
def sideAt (s : List Int) (k : Nat) : Int := (s[k]?).getD 0
def barsDo (s : List Int) (c : Bool) (deed : Int) : List Int × Bool × Bool :=
  if barsValid s c then
    if deed < 0 ∨ 2 + 4 * (s.length : Int) ≤ deed then (s, c, false)
    else if deed < 2 then (if c == shuts deed then (s, c, false) else if barsValid s (shuts deed) then (s, shuts deed, true) else (s, c, false))
    else if onBar (sideAt s (deedBay deed)) (deedBar deed) == shuts deed then (s, c, false)
    else if barsValid (s.set (deedBay deed) (flipBar (sideAt s (deedBay deed)) (deedBar deed))) c then (s.set (deedBay deed) (flipBar (sideAt s (deedBay deed)) (deedBar deed)), c, true)
    else (s, c, false)
  else ([], false, false)

theorem barsDo_invalid {s : List Int} {c : Bool} {deed : Int} (h : barsValid s c = false) : barsDo s c deed = ([], false, false) := by simp [barsDo, h]
theorem barsDo_out {s : List Int} {c : Bool} {deed : Int} (h : barsValid s c = true) (hd : deed < 0 ∨ 2 + 4 * (s.length : Int) ≤ deed) : barsDo s c deed = (s, c, false) := by simp [barsDo, h, hd]
theorem barsDo_coupler {s : List Int} {c : Bool} {deed : Int} (h : barsValid s c = true) (h0 : 0 ≤ deed) (h2 : deed < 2) :
    barsDo s c deed = if c == shuts deed then (s, c, false) else if barsValid s (shuts deed) then (s, shuts deed, true) else (s, c, false) := by
  unfold barsDo
  rw [if_pos h, if_neg (by omega), if_pos h2]
theorem barsDo_side {s : List Int} {c : Bool} {deed : Int} (h : barsValid s c = true) (h0 : 2 ≤ deed) (h2 : deed < 2 + 4 * (s.length : Int)) :
    barsDo s c deed = if onBar (sideAt s (deedBay deed)) (deedBar deed) == shuts deed then (s, c, false)
    else if barsValid (s.set (deedBay deed) (flipBar (sideAt s (deedBay deed)) (deedBar deed))) c then (s.set (deedBay deed) (flipBar (sideAt s (deedBay deed)) (deedBar deed)), c, true)
    else (s, c, false) := by
  unfold barsDo
  rw [if_pos h, if_neg (by omega), if_neg (by omega)]
theorem barsDo_len {s : List Int} {c : Bool} {deed : Int} : (barsDo s c deed).1.length = s.length ∨ (barsDo s c deed).1 = [] := by
  unfold barsDo
  repeat' split
  all_goals first | exact .inl rfl | exact .inr rfl | (left; simp)
theorem barsValid_side {s : List Int} {c : Bool} (h : barsValid s c = true) {k : Nat} (hk : k < s.length) : s[k] = 1 ∨ s[k] = 2 ∨ s[k] = 3 := by
  rw [barsValid_eq, Bool.and_eq_true] at h
  have := List.all_eq_true.1 h.2 s[k] (List.getElem_mem _)
  simp [sideOk, inB] at this
  omega
theorem barsValid_length {s : List Int} {c : Bool} (h : barsValid s c = true) : 1 ≤ s.length ∧ s.length ≤ 6 := by
  rw [barsValid_eq, Bool.and_eq_true] at h
  have := h.1
  simp [inB] at this
  omega

end Go.Proofs.Ytandfbpanaldcaa
