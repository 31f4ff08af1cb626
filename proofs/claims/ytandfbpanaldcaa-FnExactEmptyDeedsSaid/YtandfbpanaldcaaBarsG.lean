/- The laws' own helpers on bars. -/
import Derived.Test.YtandfbpanaldcaaBarsF
import Derived.Test.YtandfbpanaldcaaMarkI
namespace Go.Proofs.Ytandfbpanaldcaa
open Go.ChangeShapes Go.WideShapes Go.ChangeAt Go.RowKit
set_option linter.unusedVariables false

def szV (k : Int) (n : Nat) : Int := if k < (n : Int) then -1 else k - n
theorem grown_pre {w w1 w' : World} {row : Option Nat} (b : Below w.heap.size w w1) (h : w1.grownBy w' row) : w.grownBy w' row :=
  ⟨h.os.trans b.os, h.tape.trans b.tape, h.output.trans b.output, Nat.le_trans b.size h.size, fun k hk hne => (h.block k (Nat.lt_of_lt_of_le hk b.size) hne).trans (b.block k hk)⟩
theorem grown_post {w w1 w' : World} {row : Option Nat} (h : w.grownBy w1 row) (b : Below w1.heap.size w1 w') : w.grownBy w' row :=
  ⟨b.os.trans h.os, b.tape.trans h.tape, b.output.trans h.output, Nat.le_trans h.size b.size, fun k hk hne => (b.block k (Nat.lt_of_lt_of_le hk h.size)).trans (h.block k hk hne)⟩

theorem szIntS_calls (A : Option Addr) (n c : Nat) (k : Int) (w : World) (hn : n ≤ 9223372036854775807) (h0 : 0 ≤ k) (h1 : k ≤ 1099511627776) : Calls Try.prog 21 #[.slice A n c, .int .i64 k] w fun e w' => e = .returned (.int .i64 (szV k n)) ∧ w = w' := by
  unfold szV
  by_cases hk : k < (n : Int)
  · rw [if_pos hk]
    have hk' : k - (n : Int) < 0 := by omega
    go_enter Try.func21, Try.ntmps21
    go_wp2
    go_ret
    exact ⟨rfl, rfl⟩
  · rw [if_neg hk]
    have hk' : ¬ k - (n : Int) < 0 := by omega
    go_enter Try.func21, Try.ntmps21
    go_wp2
    go_ret
    exact ⟨rfl, rfl⟩

theorem szIntS_calls' (A : Option Addr) (n c : Nat) (k : Int) (w : World) (hn : n ≤ 9223372036854775807) (h0 : 0 ≤ k) (h1 : k ≤ 1099511627776) (z : Int) (hz : szV k n = z) : Calls Try.prog 21 #[.slice A n c, .int .i64 k] w fun e w' => e = .returned (.int .i64 z) ∧ w = w' := hz ▸ szIntS_calls A n c k w hn h0 h1

set_option maxHeartbeats 1000000 in
theorem szBars_calls (A : Option Addr) (n c : Nat) (cp : Bool) (k : Int) (w : World) (hn : n ≤ 9223372036854775807) (h0 : 0 ≤ k) (h1 : k ≤ 1099511627776) (z : Int) (hz : szV k n = z) :
    Calls Try.prog 6 #[.agg #[.slice A n c, .bool cp], .int .i64 k] w fun e w' => e = .returned (.int .i64 z) ∧ Below w.heap.size w w' := by
  by_cases hk : z < 0
  · have hv : z = -1 := by unfold szV at hz; split at hz <;> omega
    subst hv
    go_enter Try.func6, Try.ntmps6
    go_wp2_with fail
    refine (szIntS_calls' A n c k _ hn h0 h1 _ hz).mono ?_
    rintro e w1 ⟨rfl, rfl⟩
    go_wp2_with fail
    go_ret
    exact ⟨rfl, (by repeat' (first | exact Below.refl _ _ | assumption | refine Below.drew ?_ | refine cell_drew ?_ | refine Below.setCell ?_ (by (try simp); (try omega)) _ | refine Below.alloc ?_ (by (try simp); (try omega)) _ | refine below_step (by assumption) (by (try simp); (try omega)) ?_))⟩
  · go_enter Try.func6, Try.ntmps6
    go_wp2_with fail
    refine (szIntS_calls' A n c k _ hn h0 h1 _ hz).mono ?_
    rintro e w1 ⟨rfl, rfl⟩
    clear hz
    go_wp2_with fail
    go_ret
    exact ⟨rfl, (by repeat' (first | exact Below.refl _ _ | assumption | refine Below.drew ?_ | refine cell_drew ?_ | refine Below.setCell ?_ (by (try simp); (try omega)) _ | refine Below.alloc ?_ (by (try simp); (try omega)) _ | refine below_step (by assumption) (by (try simp); (try omega)) ?_))⟩

set_option maxHeartbeats 1000000 in
theorem toBars_calls (s : List Int) (cp : Bool) (A : Option Addr) (c : Nat) (w : World) (h : Rd w 1 A s.length (s.map (Value.int .i64))) (hn : s.length ≤ 1048576) :
    Calls Try.prog 8 #[.agg #[.slice A s.length c, .bool cp]] w fun e w' => ∃ B d, e = .returned (.agg #[.slice B s.length d, .bool cp]) ∧ w'.ownsRow w.heap.size 3 1 (.slice B s.length d) s.length (s.map (Value.int .i64)) ∧ (B = none → d = 0) ∧ Below w.heap.size w w' := by
  have B0 := ((Bk.new w 24 #[.slice A s.length c, .bool cp]).alloc (.cells #[.slice none 0 0, .bool false] 26)).alloc (.cells #[.slice none 0 0, .bool false] 26)
  have B1 : Bk (((w.alloc (.cells #[.slice A s.length c, .bool cp] 24)).alloc (.cells #[.slice none 0 0, .bool false] 26)).alloc (.cells #[.slice none 0 0, .bool false] 26)) (w.heap.size + 1) 26 #[.slice none 0 0, .bool false] := by simpa using (Bk.new (w.alloc (.cells #[.slice A s.length c, .bool cp] 24)) 26 #[.slice none 0 0, .bool false]).alloc (.cells #[.slice none 0 0, .bool false] 26)
  have B2 : Bk (((w.alloc (.cells #[.slice A s.length c, .bool cp] 24)).alloc (.cells #[.slice none 0 0, .bool false] 26)).alloc (.cells #[.slice none 0 0, .bool false] 26)) (w.heap.size + 2) 26 #[.slice none 0 0, .bool false] := by simpa using Bk.new ((w.alloc (.cells #[.slice A s.length c, .bool cp] 24)).alloc (.cells #[.slice none 0 0, .bool false] 26)) 26 #[.slice none 0 0, .bool false]
  have b7 : Below w.heap.size w (((w.alloc (.cells #[.slice A s.length c, .bool cp] 24)).alloc (.cells #[.slice none 0 0, .bool false] 26)).alloc (.cells #[.slice none 0 0, .bool false] 26)) := (by repeat' (first | exact Below.refl _ _ | assumption | refine Below.drew ?_ | refine cell_drew ?_ | refine Below.setCell ?_ (by (try simp); (try omega)) _ | refine Below.alloc ?_ (by (try simp); (try omega)) _ | refine below_step (by assumption) (by (try simp); (try omega)) ?_))
  have C := toIntS_calls s A c _ (h.after b7) hn
  rw [show (((w.alloc (.cells #[.slice A s.length c, .bool cp] 24)).alloc (.cells #[.slice none 0 0, .bool false] 26)).alloc (.cells #[.slice none 0 0, .bool false] 26)).heap.size = w.heap.size + 3 by simp] at C
  go_enter Try.func8, Try.ntmps8
  go_wp2_with fail
  refine C.mono ?_
  rintro e w1 ⟨rfl, Bg, b1⟩
  replace b1 : Below _ _ w1 := b1
  replace B0 := B0.below b1 (by omega)
  replace B1 := B1.below b1 (by omega)
  replace B2 := B2.below b1 (by omega)
  replace b7 : Below w.heap.size w w1 := b7.trans (b1.mono (by omega))
  clear b1
  have f0 := B0.c2
  have f1 := B1.c2
  have f2 := B2.c2
  have hs1 := Bg.lt
  have hown := own_bk Bg (lo := w.heap.size + 3) (n := s.length) (size := 1) (by omega) (by simp) (by unfold maxLen; omega)
  clear Bg h C
  generalize hgg : w.heap.size + 3 = g at *
  go_wp2
  refine bodyPost_ret (v := .agg #[.slice (some ⟨g, 0, none⟩) s.length s.length, .bool cp]) (by simp [results, Try.results8, go_sem, *]) rfl ?_
  refine ⟨some ⟨g, 0, none⟩, s.length, rfl, ?_, by simp, ?_⟩
  · exact own_mono (ownsRow_setCell_below (ownsRow_setCell_below (ownsRow_setCell_below (ownsRow_setCell_below hown (by simp; omega) _) (by simp; omega) _) (by simp; omega) _) (by simp; omega) _) (by omega)
  · exact (((b7.setCell (by simp; omega) _).setCell (by simp; omega) _).setCell (by simp) _).setCell (by simp) _

set_option maxHeartbeats 1000000 in
theorem eqBars_same (s : List Int) (cp : Bool) (A B : Option Addr) (c d : Nat) (w : World) (h : Rd w 1 A s.length (s.map (Value.int .i64))) (h' : Rd w 1 B s.length (s.map (Value.int .i64))) (hn : s.length ≤ 1048576) :
    Calls Try.prog 10 #[.agg #[.slice A s.length c, .bool cp], .agg #[.slice B s.length d, .bool cp]] w fun e w' => e = .returned (.bool true) ∧ Below w.heap.size w w' := by
  have B0 := (Bk.new w 26 #[.slice A s.length c, .bool cp]).alloc (.cells #[.slice B s.length d, .bool cp] 26)
  have B1 : Bk ((w.alloc (.cells #[.slice A s.length c, .bool cp] 26)).alloc (.cells #[.slice B s.length d, .bool cp] 26)) (w.heap.size + 1) 26 #[.slice B s.length d, .bool cp] := by simpa using Bk.new (w.alloc (.cells #[.slice A s.length c, .bool cp] 26)) 26 #[.slice B s.length d, .bool cp]
  have b7 : Below w.heap.size w ((w.alloc (.cells #[.slice A s.length c, .bool cp] 26)).alloc (.cells #[.slice B s.length d, .bool cp] 26)) := (by repeat' (first | exact Below.refl _ _ | assumption | refine Below.drew ?_ | refine cell_drew ?_ | refine Below.setCell ?_ (by (try simp); (try omega)) _ | refine Below.alloc ?_ (by (try simp); (try omega)) _ | refine below_step (by assumption) (by (try simp); (try omega)) ?_))
  have hcc : (cp != cp) = false := by simp
  go_enter Try.func10, Try.ntmps10
  go_wp2_with fail
  refine (eqIntS_same s A B c d _ (h.after b7) (h'.after b7) hn).mono ?_
  rintro e w1 ⟨rfl, b1⟩
  replace B0 := B0.after b1
  replace B1 := B1.after b1
  replace b7 := below_after' b1 b7
  have f0 := B0.c2
  have f1 := B1.c2
  go_wp2
  go_ret
  exact ⟨rfl, (by repeat' (first | exact Below.refl _ _ | assumption | refine Below.drew ?_ | refine cell_drew ?_ | refine Below.setCell ?_ (by (try simp); (try omega)) _ | refine Below.alloc ?_ (by (try simp); (try omega)) _ | refine below_step (by assumption) (by (try simp); (try omega)) ?_))⟩

set_option maxHeartbeats 1000000 in
theorem markBars_own (A : Option Addr) (lo n c : Nat) (cp : Bool) (xs : List Value) (k : Int) (w : World) (h : w.ownsRow lo 3 1 (.slice A n c) n xs) (hb : n ≤ 1048576) (h0 : 0 ≤ k) (h1 : k ≤ 1099511627776) :
    Calls Try.prog 11 #[.agg #[.slice A n c, .bool cp], .int .i64 k] w fun e w' => e = .returned (.int .i64 (k + n)) ∧ w'.ownsRow lo 3 1 (.slice A n c) n (marks mkI k n) ∧ w.grownBy w' (Value.slice A n c).ownBlock := by
  have b7 : Below w.heap.size w (w.alloc (.cells #[.slice A n c, .bool cp] 26)) := (by repeat' (first | exact Below.refl _ _ | assumption | refine Below.drew ?_ | refine cell_drew ?_ | refine Below.setCell ?_ (by (try simp); (try omega)) _ | refine Below.alloc ?_ (by (try simp); (try omega)) _ | refine below_step (by assumption) (by (try simp); (try omega)) ?_))
  have o := h.alloc (.cells #[.slice A n c, .bool cp] 26)
  go_enter Try.func11, Try.ntmps11
  go_wp2_with fail
  refine (markIntS_own A lo n c xs k _ o hb h0 h1).mono ?_
  rintro e w1 ⟨rfl, o', hg⟩
  go_wp2_with fail
  go_ret
  exact ⟨rfl, o', grown_pre b7 hg⟩

set_option maxHeartbeats 1000000 in
theorem heldBars_row (A : Option Addr) (n c : Nat) (cp : Bool) (k : Int) (w : World) (h : Rd w 1 A n (marks mkI k n)) (hb : n ≤ 1048576) (h0 : 0 ≤ k) (h1 : k ≤ 1099511627776) :
    Calls Try.prog 12 #[.agg #[.slice A n c, .bool cp], .int .i64 k] w fun e w' => e = .returned (.int .i64 (k + n)) ∧ Below w.heap.size w w' := by
  have b7 : Below w.heap.size w (w.alloc (.cells #[.slice A n c, .bool cp] 26)) := (by repeat' (first | exact Below.refl _ _ | assumption | refine Below.drew ?_ | refine cell_drew ?_ | refine Below.setCell ?_ (by (try simp); (try omega)) _ | refine Below.alloc ?_ (by (try simp); (try omega)) _ | refine below_step (by assumption) (by (try simp); (try omega)) ?_))
  have q1 : decide (k + (n : Int) < 0) = false := by simp; omega
  go_enter Try.func12, Try.ntmps12
  go_wp2_with fail
  refine (heldIntS_row A n c k _ (h.after b7) hb h0 h1).mono ?_
  rintro e w1 ⟨rfl, rfl⟩
  go_wp2_with fail
  go_ret
  exact ⟨rfl, (by repeat' (first | exact Below.refl _ _ | assumption | refine Below.drew ?_ | refine cell_drew ?_ | refine Below.setCell ?_ (by (try simp); (try omega)) _ | refine Below.alloc ?_ (by (try simp); (try omega)) _ | refine below_step (by assumption) (by (try simp); (try omega)) ?_))⟩

end Go.Proofs.Ytandfbpanaldcaa
