/- BarsValid of both. -/
import Derived.Test.YtandfbpanaldcaaCloneI
import Derived.Test.YtandfbpanaldcaaMarkI
namespace Go.Proofs.Ytandfbpanaldcaa
open Go.ChangeShapes Go.WideShapes Go.ChangeAt Go.RowKit

theorem bl1In_calls (n lo hi : Int) (w : World) :
    Calls Try.prog 26 #[.int .i64 n, .int .i64 lo, .int .i64 hi] w fun e w' => e = .returned (.bool (inB n lo hi)) ∧ w = w' := by
  go_enter Try.func26, Try.ntmps26
  go_wp2
  all_goals go_ret
  all_goals (simp [inB]; try omega)

def sideOk (c : Bool) (x : Int) : Bool := inB x 1 3 && (c || !(x == 3))
def barsValid (s : List Int) (c : Bool) : Bool := inB s.length 1 6 && s.all (sideOk c)
theorem barsValid_eq (s : List Int) (c : Bool) : barsValid s c = (inB s.length 1 6 && s.all (sideOk c)) := rfl

theorem all_take_succ {α : Type} (p : α → Bool) (l : List α) {k : Nat} (h : k < l.length) : (l.take (k + 1)).all p = ((l.take k).all p && p l[k]) := by
  rw [List.take_succ_eq_append_getElem h, List.all_append, List.all_cons, List.all_nil, Bool.and_true]
theorem all_false {α : Type} (p : α → Bool) (l : List α) {k : Nat} (h : k < l.length) (hp : p l[k] = false) : l.all p = false :=
  List.all_eq_false.2 ⟨l[k], List.getElem_mem _, by simp [hp]⟩

/-- Which way a side's test goes. -/
theorem side_cases (c : Bool) (x : Int) : (sideOk c x = false ∧ x < 1) ∨ (sideOk c x = false ∧ 1 ≤ x ∧ 3 < x) ∨ (sideOk c x = false ∧ 1 ≤ x ∧ x ≤ 3 ∧ (x == 3) = true ∧ c = false) ∨ (sideOk c x = true ∧ 1 ≤ x ∧ x ≤ 3 ∧ (x == 3) = true ∧ c = true) ∨ (sideOk c x = true ∧ 1 ≤ x ∧ x ≤ 3 ∧ (x == 3) = false) := by
  by_cases h1 : x < 1
  · exact .inl ⟨by simp [sideOk, inB]; omega, h1⟩
  by_cases h2 : 3 < x
  · exact .inr (.inl ⟨by simp [sideOk, inB]; omega, by omega, h2⟩)
  by_cases h3 : x = 3
  · subst h3
    cases c
    · exact .inr (.inr (.inl ⟨rfl, by omega, by omega, rfl, rfl⟩))
    · exact .inr (.inr (.inr (.inl ⟨rfl, by omega, by omega, rfl, rfl⟩)))
  · have h3' : (x == 3) = false := by simpa using h3
    exact .inr (.inr (.inr (.inr ⟨by simp [sideOk, inB, h3]; omega, by omega, by omega, h3'⟩)))

set_option maxHeartbeats 1000000 in
theorem iBarsValid_calls (s : List Int) (cp : Bool) (A : Option Addr) (c : Nat) (w : World) (h : Rd w 1 A s.length (s.map (Value.int .i64))) (hn : s.length ≤ 1048576) :
    Calls Try.prog 24 #[.agg #[.slice A s.length c, .bool cp]] w fun e w' => e = .returned (.bool (barsValid s cp)) ∧ Below w.heap.size w w' := by
  by_cases h1 : s.length < 1
  · have hv : barsValid s cp = false := by simp [barsValid, inB]; omega
    rw [hv]; clear hv
    have h1' : (s.length : Int) < 1 := by omega
    go_enter Try.func24, Try.ntmps24
    go_wp2
    go_ret
    exact ⟨rfl, (by repeat' (first | exact Below.refl _ _ | assumption | refine Below.drew ?_ | refine cell_drew ?_ | refine Below.setCell ?_ (by (try simp); (try omega)) _ | refine Below.alloc ?_ (by (try simp); (try omega)) _ | refine below_step (by assumption) (by (try simp); (try omega)) ?_))⟩
  by_cases h6 : 6 < s.length
  · have hv : barsValid s cp = false := by simp [barsValid, inB]; omega
    rw [hv]; clear hv
    have h1' : ¬ (s.length : Int) < 1 := by omega
    have h6' : (6 : Int) < s.length := by omega
    go_enter Try.func24, Try.ntmps24
    go_wp2
    go_ret
    exact ⟨rfl, (by repeat' (first | exact Below.refl _ _ | assumption | refine Below.drew ?_ | refine cell_drew ?_ | refine Below.setCell ?_ (by (try simp); (try omega)) _ | refine Below.alloc ?_ (by (try simp); (try omega)) _ | refine below_step (by assumption) (by (try simp); (try omega)) ?_))⟩
  have h1' : decide ((s.length : Int) < 1) = false := by simp; omega
  have h6' : decide ((6 : Int) < s.length) = false := by simp; omega
  have hal := h.alloc (.cells #[.slice A s.length c, .bool cp] 26)
  go_enter Try.func24, Try.ntmps24
  go_wp2
  go_loop [18] (fun i => ∃ k : Nat, k ≤ s.length ∧ i = .int .i64 k ∧ (s.take k).all (sideOk cp) = true) (fun i => s.length - (intOf i).toNat)
  case atStart => exact ⟨0, Nat.zero_le _, rfl, by simp⟩
  case round =>
    obtain ⟨k, hk, rfl, hall⟩ := hrel
    by_cases hlt : k < s.length
    · obtain ⟨b, off, rfl, hb0, u, hu, hc⟩ := hal.at1 hlt
      obtain rfl : u = .int .i64 s[k] := by simpa [hlt] using hu.symm
      have HA := Lib.hid (all_take_succ (sideOk cp) s hlt)
      have HF := Lib.hid (all_false (sideOk cp) s hlt)
      generalize s[k] = x at hc HA HF
      clear hu
      rcases side_cases cp x with ⟨p0, p1⟩ | ⟨p0, p1, p2⟩ | ⟨p0, p1, p2, p3, p4⟩ | ⟨p0, p1, p2, p3, p4⟩ | ⟨p0, p1, p2, p3⟩
      · have P0 := Lib.hid p0
        clear p0
        go_wp2
        go_ret
        refine ⟨ret_bool ?_, (by repeat' (first | exact Below.refl _ _ | assumption | refine Below.drew ?_ | refine cell_drew ?_ | refine Below.setCell ?_ (by (try simp); (try omega)) _ | refine Below.alloc ?_ (by (try simp); (try omega)) _ | refine below_step (by assumption) (by (try simp); (try omega)) ?_))⟩
        rw [barsValid_eq, HF.out P0.out]; simp
      · have P0 := Lib.hid p0
        clear p0
        go_wp2
        go_ret
        refine ⟨ret_bool ?_, (by repeat' (first | exact Below.refl _ _ | assumption | refine Below.drew ?_ | refine cell_drew ?_ | refine Below.setCell ?_ (by (try simp); (try omega)) _ | refine Below.alloc ?_ (by (try simp); (try omega)) _ | refine below_step (by assumption) (by (try simp); (try omega)) ?_))⟩
        rw [barsValid_eq, HF.out P0.out]; simp
      · have P0 := Lib.hid p0
        clear p0
        subst p4
        go_wp2
        go_ret
        refine ⟨ret_bool ?_, (by repeat' (first | exact Below.refl _ _ | assumption | refine Below.drew ?_ | refine cell_drew ?_ | refine Below.setCell ?_ (by (try simp); (try omega)) _ | refine Below.alloc ?_ (by (try simp); (try omega)) _ | refine below_step (by assumption) (by (try simp); (try omega)) ?_))⟩
        rw [barsValid_eq, HF.out P0.out]; simp
      · have P0 := Lib.hid p0
        clear p0
        subst p4
        go_wp2
        refine ⟨⟨k + 1, hlt, by go_num, by rw [HA.out, hall, P0.out]; rfl⟩, by simp [intOf]; omega⟩
      · have P0 := Lib.hid p0
        clear p0
        go_wp2
        refine ⟨⟨k + 1, hlt, by go_num, by rw [HA.out, hall, P0.out]; rfl⟩, by simp [intOf]; omega⟩
    · obtain rfl : k = s.length := by omega
      rw [List.take_of_length_le (Nat.le_refl _)] at hall
      go_wp2
      go_ret
      refine ⟨ret_bool ?_, (by repeat' (first | exact Below.refl _ _ | assumption | refine Below.drew ?_ | refine cell_drew ?_ | refine Below.setCell ?_ (by (try simp); (try omega)) _ | refine Below.alloc ?_ (by (try simp); (try omega)) _ | refine below_step (by assumption) (by (try simp); (try omega)) ?_))⟩
      rw [barsValid_eq, hall]; simp [inB]; omega

set_option maxHeartbeats 1000000 in
theorem sBarsValid_calls (s : List Int) (cp : Bool) (A : Option Addr) (c : Nat) (w : World) (h : Rd w 1 A s.length (s.map (Value.int .i64))) (hn : s.length ≤ 1048576) :
    Calls Try.prog 22 #[.agg #[.slice A s.length c, .bool cp]] w fun e w' => e = .returned (.bool (barsValid s cp)) ∧ Below w.heap.size w w' := by
  have hal := h.alloc (.cells #[.slice A s.length c, .bool cp] 26)
  go_enter Try.func22, Try.ntmps22
  go_wp2
  go_loop [3] (fun i => ∃ k : Nat, k ≤ s.length ∧ i = .int .i64 k ∧ (s.take k).all (sideOk cp) = true) (fun i => s.length - (intOf i).toNat)
  case atStart => exact ⟨0, Nat.zero_le _, rfl, by simp⟩
  case round =>
    obtain ⟨k, hk, rfl, hall⟩ := hrel
    by_cases hlt : k < s.length
    · obtain ⟨b, off, rfl, hb0, u, hu, hc⟩ := hal.at1 hlt
      obtain rfl : u = .int .i64 s[k] := by simpa [hlt] using hu.symm
      have HA := Lib.hid (all_take_succ (sideOk cp) s hlt)
      have HF := Lib.hid (all_false (sideOk cp) s hlt)
      generalize s[k] = x at hc HA HF
      clear hu
      rcases side_cases cp x with ⟨p0, p1⟩ | ⟨p0, p1, p2⟩ | ⟨p0, p1, p2, p3, p4⟩ | ⟨p0, p1, p2, p3, p4⟩ | ⟨p0, p1, p2, p3⟩
      · have P0 := Lib.hid p0
        have q : inB x 1 3 = false := by simp [inB]; omega
        clear p0 p1
        go_wp2_with (go_at_call 26; refine (bl1In_calls _ _ _ _).mono ?_; rintro e w' ⟨rfl, rfl⟩)
        go_ret
        refine ⟨ret_bool ?_, (by repeat' (first | exact Below.refl _ _ | assumption | refine Below.drew ?_ | refine cell_drew ?_ | refine Below.setCell ?_ (by (try simp); (try omega)) _ | refine Below.alloc ?_ (by (try simp); (try omega)) _ | refine below_step (by assumption) (by (try simp); (try omega)) ?_))⟩
        rw [barsValid_eq, HF.out P0.out]; simp
      · have P0 := Lib.hid p0
        have q : inB x 1 3 = false := by simp [inB]; omega
        clear p0 p1 p2
        go_wp2_with (go_at_call 26; refine (bl1In_calls _ _ _ _).mono ?_; rintro e w' ⟨rfl, rfl⟩)
        go_ret
        refine ⟨ret_bool ?_, (by repeat' (first | exact Below.refl _ _ | assumption | refine Below.drew ?_ | refine cell_drew ?_ | refine Below.setCell ?_ (by (try simp); (try omega)) _ | refine Below.alloc ?_ (by (try simp); (try omega)) _ | refine below_step (by assumption) (by (try simp); (try omega)) ?_))⟩
        rw [barsValid_eq, HF.out P0.out]; simp
      · have P0 := Lib.hid p0
        have q : inB x 1 3 = true := by simp [inB]; omega
        clear p0 p1 p2
        subst p4
        go_wp2_with (go_at_call 26; refine (bl1In_calls _ _ _ _).mono ?_; rintro e w' ⟨rfl, rfl⟩)
        go_ret
        refine ⟨ret_bool ?_, (by repeat' (first | exact Below.refl _ _ | assumption | refine Below.drew ?_ | refine cell_drew ?_ | refine Below.setCell ?_ (by (try simp); (try omega)) _ | refine Below.alloc ?_ (by (try simp); (try omega)) _ | refine below_step (by assumption) (by (try simp); (try omega)) ?_))⟩
        rw [barsValid_eq, HF.out P0.out]; simp
      · have P0 := Lib.hid p0
        have q : inB x 1 3 = true := by simp [inB]; omega
        clear p0 p1 p2
        subst p4
        go_wp2_with (go_at_call 26; refine (bl1In_calls _ _ _ _).mono ?_; rintro e w' ⟨rfl, rfl⟩)
        refine ⟨⟨k + 1, hlt, by go_num, by rw [HA.out, hall, P0.out]; rfl⟩, by simp [intOf]; omega⟩
      · have P0 := Lib.hid p0
        have q : inB x 1 3 = true := by simp [inB]; omega
        clear p0 p1 p2
        go_wp2_with (go_at_call 26; refine (bl1In_calls _ _ _ _).mono ?_; rintro e w' ⟨rfl, rfl⟩)
        refine ⟨⟨k + 1, hlt, by go_num, by rw [HA.out, hall, P0.out]; rfl⟩, by simp [intOf]; omega⟩
    · obtain rfl : k = s.length := by omega
      rw [List.take_of_length_le (Nat.le_refl _)] at hall
      go_wp2_with (go_at_call 26; refine (bl1In_calls _ _ _ _).mono ?_; rintro e w' ⟨rfl, rfl⟩)
      go_ret
      refine ⟨ret_bool ?_, (by repeat' (first | exact Below.refl _ _ | assumption | refine Below.drew ?_ | refine cell_drew ?_ | refine Below.setCell ?_ (by (try simp); (try omega)) _ | refine Below.alloc ?_ (by (try simp); (try omega)) _ | refine below_step (by assumption) (by (try simp); (try omega)) ?_))⟩
      rw [barsValid_eq, hall]; simp

end Go.Proofs.Ytandfbpanaldcaa
