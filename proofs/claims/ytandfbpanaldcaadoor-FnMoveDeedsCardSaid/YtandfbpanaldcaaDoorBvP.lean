/- Bars: what the functions compute, as plain functions on lists. -/
import Derived.Test.YtandfbpanaldcaaDoorPu
import Derived.Test.YtandfbpanaldcaaDoorPre
namespace Go.Proofs.YtandfbpanaldcaaDoor
set_option linter.unusedVariables false
set_option linter.unusedSimpArgs false

def sideOk (c : Bool) (x : Int) : Bool := inB x 1 3 && (c || !(x == 3))
def barsValid (s : List Int) (c : Bool) : Bool := inB s.length 1 6 && s.all (sideOk c)
theorem barsValid_eq (s : List Int) (c : Bool) : barsValid s c = (inB s.length 1 6 && s.all (sideOk c)) := rfl

/-- Is a bay with side x on bar b (1 or 2)? -/
def onBar (x b : Int) : Bool := x / b % 2 == 1
def flipBar (x b : Int) : Int := if onBar x b then x - b else x + b
def deedBay (deed : Int) : Nat := ((deed - 2) / 4).toNat
def deedBar (deed : Int) : Int := 1 + (deed - 2) / 2 % 2
def shuts (deed : Int) : Bool := deed % 2 == 1
def sideAt (s : List Int) (k : Nat) : Int := (s[k]?).getD 0
def barsDo (s : List Int) (c : Bool) (deed : Int) : List Int × Bool × Bool :=
  if barsValid s c then
    if deed < 0 ∨ 2 + 4 * (s.length : Int) ≤ deed then (s, c, false)
    else if deed < 2 then (if c == shuts deed then (s, c, false) else if barsValid s (shuts deed) then (s, shuts deed, true) else (s, c, false))
    else if onBar (sideAt s (deedBay deed)) (deedBar deed) == shuts deed then (s, c, false)
    else if barsValid (s.set (deedBay deed) (flipBar (sideAt s (deedBay deed)) (deedBar deed))) c then (s.set (deedBay deed) (flipBar (sideAt s (deedBay deed)) (deedBar deed)), c, true)
    else (s, c, false)
  else ([], false, false)

theorem barsDo_invalid {s : List Int} {c : Bool} {deed : Int} (h : barsValid s c = false) : barsDo s c deed = ([], false, false) := by simp [barsDo, h]
theorem barsDo_out {s : List Int} {c : Bool} {deed : Int} (h : barsValid s c = true) (hd : deed < 0 ∨ 2 + 4 * (s.length : Int) ≤ deed) : barsDo s c deed = (s, c, false) := by simp [barsDo, h, hd]
theorem barsDo_coupler {s : List Int} {c : Bool} {deed : Int} (h : barsValid s c = true) (h0 : 0 ≤ deed) (h2 : deed < 2) :
    barsDo s c deed = if c == shuts deed then (s, c, false) else if barsValid s (shuts deed) then (s, shuts deed, true) else (s, c, false) := by
  unfold barsDo
  rw [if_pos h, if_neg (by omega), if_pos h2]
theorem barsDo_side {s : List Int} {c : Bool} {deed : Int} (h : barsValid s c = true) (h0 : 2 ≤ deed) (h2 : deed < 2 + 4 * (s.length : Int)) :
    barsDo s c deed = if onBar (sideAt s (deedBay deed)) (deedBar deed) == shuts deed then (s, c, false)
    else if barsValid (s.set (deedBay deed) (flipBar (sideAt s (deedBay deed)) (deedBar deed))) c then (s.set (deedBay deed) (flipBar (sideAt s (deedBay deed)) (deedBar deed)), c, true)
    else (s, c, false) := by
  unfold barsDo
  rw [if_pos h, if_neg (by omega), if_neg (by omega)]
theorem barsDo_len {s : List Int} {c : Bool} {deed : Int} : (barsDo s c deed).1.length = s.length ∨ (barsDo s c deed).1 = [] := by
  unfold barsDo
  repeat' split
  all_goals first | exact .inl rfl | exact .inr rfl | (left; simp)
theorem barsValid_side {s : List Int} {c : Bool} (h : barsValid s c = true) {k : Nat} (hk : k < s.length) : s[k] = 1 ∨ s[k] = 2 ∨ s[k] = 3 := by
  rw [barsValid_eq, Bool.and_eq_true] at h
  have := List.all_eq_true.1 h.2 s[k] (List.getElem_mem _)
  simp [sideOk, inB] at this
  omega
theorem barsValid_length {s : List Int} {c : Bool} (h : barsValid s c = true) : 1 ≤ s.length ∧ s.length ≤ 6 := by
  rw [barsValid_eq, Bool.and_eq_true] at h
  have := h.1
  simp [inB] at this
  omega

def runStep (st : List Int × Bool × Nat) (deed : Int) : List Int × Bool × Nat :=
  if (barsDo st.1 st.2.1 deed).2.2 then ((barsDo st.1 st.2.1 deed).1, (barsDo st.1 st.2.1 deed).2.1, st.2.2 + 1) else st
def runTo (s : List Int) (cp : Bool) (ds : List Int) (k : Nat) : List Int × Bool × Nat := (ds.take k).foldl runStep (s, cp, 0)
def barsRun (s : List Int) (cp : Bool) (ds : List Int) : List Int × Bool × Nat := if barsValid s cp then runTo s cp ds ds.length else ([], false, 0)
theorem runTo_succ {s : List Int} {cp : Bool} {ds : List Int} {k : Nat} (h : k < ds.length) : runTo s cp ds (k + 1) = runStep (runTo s cp ds k) ds[k] := by
  unfold runTo
  rw [List.take_succ_eq_append_getElem h, List.foldl_append]
  rfl
theorem run_yes {s s' r1 : List Int} {cp cp' r2 : Bool} {ds : List Int} {k n' : Nat} (h : k < ds.length) (hs : runTo s cp ds k = (s', cp', n')) (hr : barsDo s' cp' ds[k] = (r1, r2, true)) : runTo s cp ds (k + 1) = (r1, r2, n' + 1) := by
  rw [runTo_succ h, hs]; simp [runStep, hr]
theorem run_no {s s' r1 : List Int} {cp cp' r2 : Bool} {ds : List Int} {k n' : Nat} (h : k < ds.length) (hs : runTo s cp ds k = (s', cp', n')) (hr : barsDo s' cp' ds[k] = (r1, r2, false)) : runTo s cp ds (k + 1) = (s', cp', n') := by
  rw [runTo_succ h, hs]; simp [runStep, hr]
theorem barsDo_len' {s r1 : List Int} {c r2 r3 : Bool} {deed : Int} (h : barsDo s c deed = (r1, r2, r3)) : r1.length ≤ s.length := by
  have := barsDo_len (s := s) (c := c) (deed := deed)
  rw [h] at this
  rcases this with h1 | h1
  · simp at h1; omega
  · simp at h1; simp [h1]
theorem runTo_len (s : List Int) (cp : Bool) (ds : List Int) (k : Nat) : (runTo s cp ds k).1.length ≤ s.length ∧ (runTo s cp ds k).2.2 ≤ k := by
  induction k with
  | zero => simp [runTo]
  | succ k ih =>
    by_cases h : k < ds.length
    · rw [runTo_succ h]
      unfold runStep
      split
      · have := barsDo_len (s := (runTo s cp ds k).1) (c := (runTo s cp ds k).2.1) (deed := ds[k])
        refine ⟨?_, by simp; omega⟩
        rcases this with h1 | h1
        · simp only [h1]; omega
        · simp [h1]
      · exact ⟨ih.1, by omega⟩
    · have e : runTo s cp ds (k + 1) = runTo s cp ds k := by unfold runTo; rw [List.take_of_length_le (by omega), List.take_of_length_le (by omega)]
      rw [e]; exact ⟨ih.1, by omega⟩
theorem barsRun_len (s : List Int) (cp : Bool) (ds : List Int) : (barsRun s cp ds).1.length ≤ s.length ∧ (barsRun s cp ds).2.2 ≤ ds.length := by
  unfold barsRun
  split
  · exact runTo_len _ _ _ _
  · simp

theorem valid_sides {s : List Int} {c : Bool} (h : barsValid s c = true) : ∀ x ∈ s, sideOk c x = true := by
  rw [barsValid_eq, Bool.and_eq_true] at h
  exact List.all_eq_true.1 h.2
theorem valid_of {s s' : List Int} {c c' : Bool} (h : barsValid s c = true) (hl : s'.length = s.length) (hs : ∀ x ∈ s', sideOk c' x = true) : barsValid s' c' = true := by
  rw [barsValid_eq, Bool.and_eq_true] at h ⊢
  exact ⟨by rw [hl]; exact h.1, List.all_eq_true.2 hs⟩
theorem valid_true {s : List Int} {c : Bool} (h : barsValid s c = true) : barsValid s true = true :=
  valid_of h rfl fun x hx => by have := valid_sides h x hx; simp [sideOk] at this ⊢; exact this.1
theorem valid_set {s : List Int} {c : Bool} (h : barsValid s c = true) (k : Nat) {y : Int} (hy : sideOk c y = true) : barsValid (s.set k y) c = true :=
  valid_of h (by simp) fun x hx => by
    rcases List.mem_or_eq_of_mem_set hx with h1 | rfl
    · exact valid_sides h x h1
    · exact hy

def moveDeeds (s : List Int) (cp : Bool) (bay bar : Int) : List Int :=
  if barsValid s cp = true ∧ 0 ≤ bay ∧ bay < s.length ∧ 1 ≤ bar ∧ bar ≤ 2 ∧ sideAt s bay.toNat ≠ bar then
    (if cp then [] else [1]) ++ ((if sideAt s bay.toNat = 3 then [] else [2 + 4 * bay + 2 * (bar - 1) + 1]) ++ ([2 + 4 * bay + 2 * (2 - bar)] ++ (if cp then [] else [0])))
  else []

theorem barsRun_fold {s : List Int} {cp : Bool} (ds : List Int) (h : barsValid s cp = true) : barsRun s cp ds = ds.foldl runStep (s, cp, 0) := by
  simp [barsRun, h, runTo]
theorem step_ok {s r1 : List Int} {c r2 : Bool} {n : Nat} {d : Int} (h : barsDo s c d = (r1, r2, true)) : runStep (s, c, n) d = (r1, r2, n + 1) := by simp [runStep, h]

theorem do_close {s : List Int} (h : barsValid s false = true) : barsDo s false 1 = (s, true, true) := by
  rw [barsDo_coupler h (by omega) (by omega)]
  simp [shuts, valid_true h]
theorem do_open {s : List Int} (h : barsValid s true = true) (h' : barsValid s false = true) : barsDo s true 0 = (s, false, true) := by
  rw [barsDo_coupler h (by omega) (by omega)]
  simp [shuts, h']
theorem do_shut {s : List Int} {k : Nat} {bar : Int} (h : barsValid s true = true) (hk : k < s.length) (hb : bar = 1 ∨ bar = 2) (hx : s[k] = 3 - bar) : barsDo s true (2 + 4 * (k : Int) + 2 * (bar - 1) + 1) = (s.set k 3, true, true) := by
  have e1 : deedBay (2 + 4 * (k : Int) + 2 * (bar - 1) + 1) = k := by unfold deedBay; omega
  have e2 : deedBar (2 + 4 * (k : Int) + 2 * (bar - 1) + 1) = bar := by unfold deedBar; omega
  have e3 : shuts (2 + 4 * (k : Int) + 2 * (bar - 1) + 1) = true := by unfold shuts; simp; omega
  have e4 : sideAt s k = 3 - bar := by simp [sideAt, hk, hx]
  have e5 : onBar (3 - bar) bar = false := by rcases hb with rfl | rfl <;> decide
  have e6 : flipBar (3 - bar) bar = 3 := by unfold flipBar; rw [e5]; simp
  rw [barsDo_side h (by omega) (by omega), e1, e2, e3, e4, e5, e6]
  simp [valid_set h k (y := 3) (by decide)]
theorem do_part {s : List Int} {k : Nat} {bar : Int} (h : barsValid s true = true) (hk : k < s.length) (hb : bar = 1 ∨ bar = 2) (hx : s[k] = 3) : barsDo s true (2 + 4 * (k : Int) + 2 * (2 - bar)) = (s.set k bar, true, true) := by
  have e1 : deedBay (2 + 4 * (k : Int) + 2 * (2 - bar)) = k := by unfold deedBay; omega
  have e2 : deedBar (2 + 4 * (k : Int) + 2 * (2 - bar)) = 3 - bar := by unfold deedBar; omega
  have e3 : shuts (2 + 4 * (k : Int) + 2 * (2 - bar)) = false := by unfold shuts; simp; omega
  have e4 : sideAt s k = 3 := by simp [sideAt, hk, hx]
  have e5 : onBar 3 (3 - bar) = true := by rcases hb with rfl | rfl <;> decide
  have e6 : flipBar 3 (3 - bar) = bar := by unfold flipBar; rw [e5]; simp; omega
  have e7 : sideOk true bar = true := by rcases hb with rfl | rfl <;> decide
  rw [barsDo_side h (by omega) (by omega), e1, e2, e3, e4, e5, e6]
  simp [valid_set h k e7]

/-- Behind MoveDeeds the bay is on the bar alone, and nothing else is changed. -/
theorem moves_run {s : List Int} {cp : Bool} {k : Nat} {bar : Int} (h : barsValid s cp = true) (hk : k < s.length) (hb : bar = 1 ∨ bar = 2) :
    ∃ n, barsRun s cp (moveDeeds s cp k bar) = (s.set k bar, cp, n) ∧ n = (moveDeeds s cp k bar).length := by
  have e0 : sideAt s k = s[k] := by simp [sideAt, hk]
  rw [barsRun_fold _ h]
  have hx := barsValid_side h hk
  have hok : ∀ c, sideOk c bar = true := by intro c; rcases hb with rfl | rfl <;> cases c <;> decide
  have ht := valid_true h
  unfold moveDeeds
  by_cases hne : s[k] = bar
  · rw [if_neg (by simp [e0, hne])]
    refine ⟨0, ?_, rfl⟩
    have : s.set k bar = s := by rw [← hne]; simp
    rw [this]; rfl
  · rw [if_pos ⟨h, by omega, by omega, by omega, by omega, by simpa [e0] using hne⟩]
    simp only [Int.toNat_natCast, e0]
    have hs1 : (s.set k bar) = (s.set k 3).set k bar := by simp
    by_cases h3 : s[k] = 3
    · rw [if_pos h3]
      cases cp
      · exfalso
        have := valid_sides h s[k] (List.getElem_mem _)
        rw [h3] at this
        revert this; decide
      · simp only [if_true, List.nil_append, List.append_nil, List.foldl_cons, List.foldl_nil, step_ok (do_part ht hk hb h3)]
        exact ⟨_, rfl, rfl⟩
    · rw [if_neg h3]
      have h3' : s[k] = 3 - bar := by omega
      have hv3 : barsValid (s.set k 3) true = true := valid_set ht k (by decide)
      have hp := do_part (s := s.set k 3) (k := k) (bar := bar) hv3 (by simpa using hk) hb (by simp)
      rw [← hs1] at hp
      cases cp
      · simp only [Bool.false_eq_true, if_false, List.cons_append, List.nil_append, List.foldl_cons, List.foldl_nil, step_ok (do_close h), step_ok (do_shut ht hk hb h3'), step_ok hp, step_ok (do_open (valid_set ht k (hok true)) (valid_set h k (hok false)))]
        exact ⟨_, rfl, rfl⟩
      · simp only [if_true, List.cons_append, List.nil_append, List.append_nil, List.foldl_cons, List.foldl_nil, step_ok (do_shut ht hk hb h3'), step_ok hp]
        exact ⟨_, rfl, rfl⟩

/-- The bars after the first k bays are moved to a bar. -/
def movedTo (s : List Int) (bar : Int) (k : Nat) : List Int := List.replicate (min k s.length) bar ++ s.drop k
theorem movedTo_len (s : List Int) (bar : Int) {k : Nat} (h : k ≤ s.length) : (movedTo s bar k).length = s.length := by simp [movedTo]; omega
theorem movedTo_get {s : List Int} {bar : Int} {k : Nat} (h : k < s.length) : (movedTo s bar k)[k]? = some s[k] := by
  unfold movedTo
  rw [List.getElem?_append_right (by simp; omega)]
  simp [Nat.min_eq_left (Nat.le_of_lt h), h]
theorem movedTo_succ {s : List Int} {bar : Int} {k : Nat} (h : k < s.length) : (movedTo s bar k).set k bar = movedTo s bar (k + 1) := by
  unfold movedTo
  rw [Nat.min_eq_left (by omega), Nat.min_eq_left (by omega), List.set_append_right _ _ (by simp), List.drop_eq_getElem_cons h]
  rw [List.length_replicate, Nat.sub_self, List.set_cons_zero, List.replicate_succ', List.append_assoc]
  rfl
def emptyTo (s : List Int) (cp : Bool) (bar : Int) : Nat → List Int
  | 0 => []
  | k + 1 => emptyTo s cp bar k ++ moveDeeds (movedTo s (3 - bar) k) cp k (3 - bar)
def emptyDeeds (s : List Int) (cp : Bool) (bar : Int) : List Int := if barsValid s cp = true ∧ 1 ≤ bar ∧ bar ≤ 2 then emptyTo s cp bar s.length else []
theorem movedTo_valid {s : List Int} {cp : Bool} {bar : Int} (h : barsValid s cp = true) (hb : bar = 1 ∨ bar = 2) {k : Nat} (hk : k ≤ s.length) : barsValid (movedTo s bar k) cp = true :=
  valid_of h (movedTo_len s bar hk) fun x hx => by
    unfold movedTo at hx
    rcases List.mem_append.1 hx with h1 | h1
    · have := List.eq_of_mem_replicate h1
      subst this
      rcases hb with rfl | rfl <;> cases cp <;> decide
    · exact valid_sides h x (List.mem_of_mem_drop h1)
theorem moveDeeds_len (s : List Int) (cp : Bool) (bay bar : Int) : (moveDeeds s cp bay bar).length ≤ 4 := by
  unfold moveDeeds
  split
  · cases cp <;> simp <;> split <;> simp
  · simp
theorem emptyTo_len (s : List Int) (cp : Bool) (bar : Int) (k : Nat) : (emptyTo s cp bar k).length ≤ 4 * k := by
  induction k with
  | zero => simp [emptyTo]
  | succ k ih => simp only [emptyTo, List.length_append]; have := moveDeeds_len (movedTo s (3 - bar) k) cp k (3 - bar); omega
theorem run_moved {s : List Int} {cp : Bool} {bar : Int} {k : Nat} (h : barsValid s cp = true) (hb : bar = 1 ∨ bar = 2) (hk : k < s.length) :
    ∃ n, barsRun (movedTo s bar k) cp (moveDeeds (movedTo s bar k) cp k bar) = (movedTo s bar (k + 1), cp, n) := by
  obtain ⟨n, h1, _⟩ := moves_run (s := movedTo s bar k) (k := k) (bar := bar) (movedTo_valid h hb (Nat.le_of_lt hk)) (by rw [movedTo_len _ _ (Nat.le_of_lt hk)]; exact hk) hb
  rw [movedTo_succ hk] at h1
  exact ⟨n, h1⟩

end Go.Proofs.YtandfbpanaldcaaDoor
