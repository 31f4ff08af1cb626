/- The law FnExactReadState: it returns true. -/
import Derived.Test.YtpbloofmeebgiaaReadB
namespace Go.Proofs.Ytpbloofmeebgiaa
open Go.ChangeShapes Go.WideShapes Go.ChangeAt Go.RowKit

theorem own_kept_lt {w w' : World} {lo B : Nat} {t : TypeId} {size n : Nat} {v : Value} {xs : List Value} {row : Option Nat} (h : w.ownsRow lo t size v n xs) (hlt : ∀ k, v.ownBlock = some k → k < B) (hg : w.grownBy w' row) (hr : ∀ g, row = some g → B ≤ g) : w'.ownsRow lo t size v n xs :=
  h.kept hg (by
    cases hv : v.ownBlock with
    | none => exact .inl rfl
    | some k =>
      refine .inr fun e => ?_
      have := hlt k hv
      have := hr k e.symm
      omega)
theorem own_rd {w : World} {lo : Nat} {t : TypeId} {size n c : Nat} {A : Option Addr} {xs : List Value} (h : w.ownsRow lo t size (.slice A n c) n xs) : Rd w size A n xs := by
  obtain ⟨_, _, e, _, _, R⟩ := own_form h
  injection e with e _ _
  subst e
  exact R
theorem below_row {B : Nat} {a w w' : World} {row : Option Nat} (h : Below B a w) (hg : w.grownBy w' row) (hr : ∀ g, row = some g → B ≤ g) (hs : B ≤ a.heap.size := by exact Nat.le_refl _) : Below B a w' :=
  h.grown hg (Nat.le_trans hs h.size) hr

set_option maxHeartbeats 400000 in
theorem markBoolS_own (A : Option Addr) (lo n c : Nat) (xs : List Value) (k : Int) (w : World) (h : w.ownsRow lo 4 1 (.slice A n c) n xs) (hb : n ≤ 1048576) (h0 : 0 ≤ k) (h1 : k ≤ 1099511627776) :
    Calls Try.prog 22 #[.slice A n c, .int .i64 k] w fun e w' => e = .returned (.int .i64 (k + n)) ∧ w'.ownsRow lo 4 1 (.slice A n c) n (marks mkB k n) ∧ w.grownBy w' (Value.slice A n c).ownBlock := by
  rcases h.2 with ⟨hv, hn⟩ | ⟨g, cap, cur, hv, hlo, hg, g1, g2, g3, g4⟩
  · injection hv with hA _ hc
    subst hA; subst hc; subst hn
    go_enter Try.func22, Try.ntmps22
    go_wp2
    go_loopw [1, 5] (fun s i wr => i = .int .i64 0 ∧ s = .int .i64 k ∧ wr = w) (fun _ i _ => 0)
    case atStart => exact ⟨rfl, rfl, rfl⟩
    case round =>
      obtain ⟨rfl, rfl, rfl⟩ := hrel
      go_wp2
      go_ret
      exact ⟨by simp, ⟨by simp [marks], .inl ⟨rfl, rfl⟩⟩, grown_refl _ _⟩
  · injection hv with hA _ hc
    subst hA; subst hc
    have hcur : cur.toList.length = c * 1 := by simpa using g3
    refine (markBoolS_row g n c cur.toList k w (show Bk w g 4 cur.toList.toArray from by rw [Array.toArray_toList]; exact hg) (by omega) hb h0 h1).mono ?_
    rintro e w' ⟨rfl, B, hgr⟩
    refine ⟨rfl, ⟨by simp [marks_length], .inr ⟨g, c, (marked mkB k cur.toList n).toArray, rfl, hlo, B, g1, g2, ?_, ?_⟩⟩, hgr⟩
    · simp [marked_length mkB k cur.toList (i := n) (by omega), g3]
    · simp only [marked, Nat.mul_one]
      rw [List.take_append_of_le_length (by rw [marks_length]; exact Nat.le_refl _)]
      simp [marks_length, List.take_of_length_le]

set_option maxHeartbeats 1000000 in
theorem exactReadState_walk (s : ByteArray) (w : World) (hm : s.size ≤ 9223372036854775807) :
    Calls Try.prog 6 #[.string s] w fun e w' => e = .returned (.bool true) ∧ Below w.heap.size w w' := by
  by_cases hbig : 1048576 < s.size
  · have hb' : (1048576 : Int) < s.size := by omega
    go_enter Try.func6, Try.ntmps6
    go_wp2
    go_ret
    exact ⟨rfl, Below.refl _ _⟩
  have hn : s.size ≤ 1048576 := by omega
  have hb' : ¬ (1048576 : Int) < s.size := by omega
  have hl : (rsVal s.data.toList).length ≤ 1048576 := by unfold rsVal; split <;> simp; omega
  go_enter Try.func6, Try.ntmps6
  go_wp2_with fail
  refine (sReadState_calls s _ hn).mono ?_
  rintro e w1 ⟨A0, c0, rfl, own0, b1⟩
  have lt0 : ∀ k, (Value.slice A0 (rsVal s.data.toList).length c0).ownBlock = some k → k < w1.heap.size := fun k e => (own0.lt k e).2
  go_wp2_with fail
  refine (iReadState_calls s _ hn).mono ?_
  rintro e w2 ⟨A1, c1, rfl, own1, b2⟩
  replace own0 := own_after own0 b2
  have b3 := below_after' b2 b1
  have R0 := own_rd own0
  have R1 := own_rd own1
  have hze := b1.size
  go_wp2_with fail
  refine (eqBoolS_same (rsVal s.data.toList) _ _ _ _ _ R1 R0 hl).mono ?_
  rintro e w3 ⟨rfl, b4⟩
  replace own0 := own_after own0 b4
  replace own1 := own_after own1 b4
  replace b3 := below_after' b4 b3
  clear R0 R1
  have hoo : (rsOk s.data.toList != rsOk s.data.toList) = false := by simp
  go_wp2_with fail
  refine (markBoolS_own _ _ _ _ _ 1 _ own1 hl (by omega) (by omega)).mono ?_
  rintro e w4 ⟨rfl, own1', hg⟩
  have hrow : ∀ g, (Value.slice A1 (rsVal s.data.toList).length c1).ownBlock = some g → w1.heap.size ≤ g := fun g e => (own1.lt g e).1
  replace own0 := own_kept_lt own0 lt0 hg hrow
  replace b3 := below_row b3 hg (fun g e => Nat.le_trans hze (hrow g e))
  clear own1
  have R1 := own_rd own1'
  go_wp2_with fail
  refine (heldBoolS_row _ _ _ 1 _ R1 hl (by omega) (by omega)).mono ?_
  rintro e w5 ⟨rfl, rfl⟩
  have q1 : decide ((1 : Int) + ((rsVal s.data.toList).length : Int) < 0) = false := by simp; omega
  go_wp2_with fail
  refine (iReadState_calls s _ hn).mono ?_
  rintro e w6 ⟨A2, c2, rfl, own2, b6⟩
  replace own0 := own_after own0 b6
  replace R1 := R1.after b6
  replace b3 := below_after' b6 b3
  have R0 := own_rd own0
  have R2 := own_rd own2
  go_wp2_with fail
  refine (eqBoolS_same (rsVal s.data.toList) _ _ _ _ _ R2 R0 hl).mono ?_
  rintro e w7 ⟨rfl, b7⟩
  go_wp2_with fail
  refine (heldBoolS_row _ _ _ 1 _ (R1.after b7) hl (by omega) (by omega)).mono ?_
  rintro e w8 ⟨rfl, rfl⟩
  go_wp2_with fail
  go_ret
  exact ⟨rfl, below_after' b7 b3⟩

end Go.Proofs.Ytpbloofmeebgiaa
