/- The walk of laws.FnExactBarsDo. -/
import Derived.Test.YtandfbpanaldcaaBarsG
namespace Go.Proofs.Ytandfbpanaldcaa
open Go.ChangeShapes Go.WideShapes Go.ChangeAt Go.RowKit
set_option linter.unusedVariables false

theorem Bk.row {w w' : World} {g : Nat} {t : TypeId} {cs : Array Value} {row : Option Nat} (h : Bk w g t cs) (hg : w.grownBy w' row) (hne : ∀ r, row = some r → g ≠ r) : Bk w' g t cs := by
  refine (hg.block g h.lt ?_).trans h
  cases row with
  | none => simp
  | some r => have := hne r rfl; simp; omega

theorem iBarsDo_calls' (s : List Int) (cp : Bool) (A : Option Addr) (c : Nat) (deed : Int) (w : World) (h : Rd w 1 A s.length (s.map (Value.int .i64))) (hn : s.length ≤ 1048576) (hA : A = none → c = 0) (r1 : List Int) (r2 r3 : Bool) (hr : barsDo s cp deed = (r1, r2, r3)) :
    Calls Try.prog 9 #[.agg #[.slice A s.length c, .bool cp], .int .i64 deed] w (fun e w' => ∃ B d, e = .returned (.tuple #[.agg #[.slice B r1.length d, .bool r2], .bool r3]) ∧ w'.ownsRow w.heap.size 3 1 (.slice B r1.length d) r1.length (r1.map (Value.int .i64)) ∧ Below w.heap.size w w') := by
  have := iBarsDo_calls s cp A c deed w h hn hA
  rw [hr] at this
  exact this
theorem sBarsDo_calls' (s : List Int) (cp : Bool) (A : Option Addr) (c : Nat) (deed : Int) (w : World) (h : Rd w 1 A s.length (s.map (Value.int .i64))) (hn : s.length ≤ 1048576) (hdl : -9223372036854775808 ≤ deed) (hdh : deed ≤ 9223372036854775807) (r1 : List Int) (r2 r3 : Bool) (hr : barsDo s cp deed = (r1, r2, r3)) :
    Calls Try.prog 7 #[.agg #[.slice A s.length c, .bool cp], .int .i64 deed] w (fun e w' => ∃ B d, e = .returned (.tuple #[.agg #[.slice B r1.length d, .bool r2], .bool r3]) ∧ w'.ownsRow w.heap.size 3 1 (.slice B r1.length d) r1.length (r1.map (Value.int .i64)) ∧ Below w.heap.size w w') := by
  have := sBarsDo_calls s cp A c deed w h hn hdl hdh
  rw [hr] at this
  exact this

/-- The region that compares the program's argument with the one laid anew. -/
def fsSame (s : List Int) (cp : Bool) (v8 va : Value) : Nat → Nat → Value → World → Prop
  | _, 0, v, _ => v = v8
  | _, 1, v, _ => v = va
  | _, 2, v, w => ∃ B d, v = .agg #[.slice B s.length d, .bool cp] ∧ Rd w 1 B s.length (s.map (Value.int .i64))
  | _, 3, v, _ => v = .bool true
  | _, 4, v, _ => v = .bool false
  | _, _, _, _ => True

set_option maxHeartbeats 4000000 in
theorem exactBarsDo_walk (s : List Int) (cp : Bool) (A : Option Addr) (c : Nat) (deed : Int) (w : World) (h : Rd w 1 A s.length (s.map (Value.int .i64))) (hm : s.length ≤ 9223372036854775807) (hdl : -9223372036854775808 ≤ deed) (hdh : deed ≤ 9223372036854775807) :
    Calls Try.prog 3 #[.agg #[.slice A s.length c, .bool cp], .int .i64 deed] w fun e w' => e = .returned (.bool true) ∧ Below w.heap.size w w' := by
  have B2 : Bk (w.alloc (.cells #[.slice A s.length c, .bool cp] 24)) w.heap.size 24 #[.slice A s.length c, .bool cp] := Bk.new _ _ _
  have b7 : Below w.heap.size w (w.alloc (.cells #[.slice A s.length c, .bool cp] 24)) := (by repeat' (first | exact Below.refl _ _ | assumption | refine Below.drew ?_ | refine cell_drew ?_ | refine Below.setCell ?_ (by (try simp); (try omega)) _ | refine Below.alloc ?_ (by (try simp); (try omega)) _ | refine below_step (by assumption) (by (try simp); (try omega)) ?_))
  by_cases hbig : (1048576 : Int) < s.length
  · have hz : szV 1048576 s.length = -1 := by unfold szV; rw [if_pos hbig]
    go_enter Try.func3, Try.ntmps3
    go_wp2_with fail
    refine (szBars_calls A s.length c cp 1048576 _ hm (by omega) (by omega) (-1) hz).mono ?_
    rintro e w1 ⟨rfl, b1⟩
    replace b7 := below_after' b1 b7
    go_wp2_with fail
    go_ret
    exact ⟨rfl, b7⟩
  have hz : szV 1048576 s.length = 1048576 - s.length := by unfold szV; rw [if_neg hbig]
  have hz0 : ¬ (1048576 - (s.length : Int) < 0) := by omega
  have hn : s.length ≤ 1048576 := by omega
  obtain ⟨r1, r2, r3, hr⟩ : ∃ r1 r2 r3, barsDo s cp deed = (r1, r2, r3) := ⟨_, _, _, rfl⟩
  have hrl : r1.length ≤ 1048576 := by
    have := barsDo_len (s := s) (c := cp) (deed := deed)
    rw [hr] at this
    rcases this with h1 | h1
    · simp at h1; omega
    · simp at h1; simp [h1]
  have HR := Lib.hid hr
  clear hr hbig
  go_enter Try.func3, Try.ntmps3
  go_wp2_with fail
  refine (szBars_calls A s.length c cp 1048576 _ hm (by omega) (by omega) _ hz).mono ?_
  rintro e w1 ⟨rfl, b1⟩
  clear hz
  replace B2 := B2.after b1
  replace b7 := below_after' b1 b7
  have f2 := B2.c2
  clear b1
  go_wp2_with fail
  refine (toBars_calls s cp A c _ (h.after b7) hn).mono ?_
  rintro e w2 ⟨B1, d1, rfl, own1, hB1, b1⟩
  replace B2 := B2.after b1
  replace b7 := below_after' b1 b7
  clear b1 f2
  go_wp2_with fail
  refine (sBarsDo_calls' s cp B1 d1 deed _ (own_rd own1) hn hdl hdh r1 r2 r3 HR.out).mono ?_
  clear own1 hB1
  rintro e w3 ⟨B6, d6, rfl, own6, b1⟩
  replace own6 := own_mono own6 (show w.heap.size ≤ _ from b7.size)
  replace B2 := B2.after b1
  replace b7 := below_after' b1 b7
  clear b1
  have f2 := B2.c2
  have z2 := B2.lt
  have o23 := z2
  have lt6 : ∀ k, (Value.slice B6 r1.length d6).ownBlock = some k → k < w3.heap.size := fun k e => (own6.lt k e).2
  have n1 : ¬ w.heap.size = w3.heap.size := by omega
  have n2 : ¬ w3.heap.size = w.heap.size := by omega
  have X6 : Bk (w3.alloc (.cells #[.slice B6 r1.length d6, .bool r2] 26)) w3.heap.size 26 #[.slice B6 r1.length d6, .bool r2] := Bk.new _ _ _
  replace B2 := B2.alloc (.cells #[.slice B6 r1.length d6, .bool r2] 26)
  replace own6 := own6.alloc (.cells #[.slice B6 r1.length d6, .bool r2] 26)
  replace b7 : Below w.heap.size w (w3.alloc (.cells #[.slice B6 r1.length d6, .bool r2] 26)) := b7.alloc (by omega) _
  have C3 := toBars_calls s cp A c _ (h.after b7) hn
  rw [World.size_alloc] at C3
  go_wp2_with fail
  refine C3.mono ?_
  clear C3
  rintro e w4 ⟨B8, d8, rfl, own8, hB8, b1⟩
  replace b1 : Below (w3.alloc (.cells #[.slice B6 r1.length d6, .bool r2] 26)).heap.size (w3.alloc (.cells #[.slice B6 r1.length d6, .bool r2] 26)) w4 := by rw [World.size_alloc]; exact b1
  replace B2 := B2.after b1
  replace X6 := X6.after b1
  replace own6 := own_after own6 b1
  replace b7 := below_after' b1 b7
  clear b1 f2 n1 n2
  have lt8 : ∀ k, (Value.slice B8 s.length d8).ownBlock = some k → w3.heap.size + 1 ≤ k ∧ k < w4.heap.size := fun k e => own8.lt k e
  have z6 := X6.lt
  have o36 := z6
  replace z2 := B2.lt
  have n1 : ¬ w.heap.size = w4.heap.size := by omega
  have n2 : ¬ w4.heap.size = w.heap.size := by omega
  have n3 : ¬ w3.heap.size = w4.heap.size := by omega
  have n4 : ¬ w4.heap.size = w3.heap.size := by omega
  have X8 : Bk (w4.alloc (.cells #[.slice B8 s.length d8, .bool cp] 26)) w4.heap.size 26 #[.slice B8 s.length d8, .bool cp] := Bk.new _ _ _
  replace B2 := B2.alloc (.cells #[.slice B8 s.length d8, .bool cp] 26)
  replace X6 := X6.alloc (.cells #[.slice B8 s.length d8, .bool cp] 26)
  replace own6 := own6.alloc (.cells #[.slice B8 s.length d8, .bool cp] 26)
  replace own8 := own8.alloc (.cells #[.slice B8 s.length d8, .bool cp] 26)
  replace b7 : Below w.heap.size w (w4.alloc (.cells #[.slice B8 s.length d8, .bool cp] 26)) := b7.alloc (by omega) _
  have C3 := iBarsDo_calls' s cp B8 d8 deed _ (own_rd own8) hn hB8 r1 r2 r3 HR.out
  rw [World.size_alloc] at C3
  go_wp2_with fail
  refine C3.mono ?_
  clear C3
  rintro e w5 ⟨B9, d9, rfl, own9, b1⟩
  replace b1 : Below (w4.alloc (.cells #[.slice B8 s.length d8, .bool cp] 26)).heap.size (w4.alloc (.cells #[.slice B8 s.length d8, .bool cp] 26)) w5 := by rw [World.size_alloc]; exact b1
  replace B2 := B2.after b1
  replace X6 := X6.after b1
  replace X8 := X8.after b1
  replace own6 := own_after own6 b1
  replace own8 := own_after own8 b1
  replace b7 := below_after' b1 b7
  clear b1 n1 n2 n3 n4 hB8
  have lt9 : ∀ k, (Value.slice B9 r1.length d9).ownBlock = some k → w4.heap.size + 1 ≤ k ∧ k < w5.heap.size := fun k e => own9.lt k e
  have z8 := X8.lt
  have o48 := z8
  replace z6 := X6.lt
  replace z2 := B2.lt
  have f6 := X6.c2
  have n3 : ¬ w3.heap.size = w5.heap.size := by omega
  have n4 : ¬ w5.heap.size = w3.heap.size := by omega
  have X9 : Bk (w5.alloc (.cells #[.slice B9 r1.length d9, .bool r2] 26)) w5.heap.size 26 #[.slice B9 r1.length d9, .bool r2] := Bk.new _ _ _
  replace B2 := B2.alloc (.cells #[.slice B9 r1.length d9, .bool r2] 26)
  replace X6 := X6.alloc (.cells #[.slice B9 r1.length d9, .bool r2] 26)
  replace X8 := X8.alloc (.cells #[.slice B9 r1.length d9, .bool r2] 26)
  replace own6 := own6.alloc (.cells #[.slice B9 r1.length d9, .bool r2] 26)
  replace own8 := own8.alloc (.cells #[.slice B9 r1.length d9, .bool r2] 26)
  replace own9 := own9.alloc (.cells #[.slice B9 r1.length d9, .bool r2] 26)
  replace b7 : Below w.heap.size w (w5.alloc (.cells #[.slice B9 r1.length d9, .bool r2] 26)) := b7.alloc (by omega) _
  have hoo : (r3 != r3) = false := by simp
  go_wp2_with fail
  refine (eqBars_same r1 r2 B9 B6 d9 d6 _ (own_rd own9) (own_rd own6) hrl).mono ?_
  rintro e w6 ⟨rfl, b1⟩
  replace B2 := B2.after b1
  replace X6 := X6.after b1
  replace X8 := X8.after b1
  replace X9 := X9.after b1
  replace own6 := own_after own6 b1
  replace own8 := own_after own8 b1
  replace own9 := own_after own9 b1
  replace b7 := below_after' b1 b7
  clear b1 n3 n4 f6
  go_wp2
  refine region_grow [45, 46, 47, 48, 49] [] (fun | 0 => 45 | 1 => 46 | 2 => 47 | 3 => 48 | 4 => 49 | _ => 0) (fun w w' => Below w.heap.size w w') (fsSame s cp (.agg #[.slice B8 s.length d8, .bool cp]) (.agg #[.slice A s.length c, .bool cp])) mixed (by kernel_rfl) ?_ ?_ ?_
  · intro B j hj a w1 w2 hR hF
    unfold Fact at hF ⊢
    match j with
    | 0 | 1 | 3 | 4 => exact hF
    | 2 => obtain ⟨B, d, e, o⟩ := hF; exact ⟨B, d, e, o.after hR⟩
    | n + 5 => trivial
  · refine ⟨?_, ?_, ?_, ?_, ?_, trivial⟩ <;> rintro a wx ⟨hs, hd, hB⟩ I hp
    · have e1 : a.tmps[8]?.getD undef = .pointer (some ⟨w4.heap.size, 0, none⟩) := hB 8 rfl
      have f := (X8.after I).c2
      exact .inl ⟨rfl, _, wx, by simp [go_sem, e1, f], I, rfl, .inl rfl⟩
    · have e1 : a.tmps[2]?.getD undef = .pointer (some ⟨w.heap.size, 0, none⟩) := hB 2 rfl
      have f := (B2.after I).c2
      exact .inl ⟨rfl, _, wx, by simp [go_sem, e1, f], I, rfl, .inl rfl⟩
    · have e4 : a.tmps[46]?.getD undef = _ := hp 1 rfl
      refine .inr (.inr (.inl ⟨rfl, _, _, by simp [go_sem, e4]; exact ⟨rfl, rfl⟩, ?_⟩))
      refine (toBars_calls s cp A c _ (h.after (below_after' I b7)) hn).mono ?_
      rintro e w1 ⟨B, d, rfl, o, _, hb1⟩
      exact ⟨_, rfl, below_after' hb1 I, ⟨B, d, rfl, own_rd o⟩, .inr ⟨hb1, rfl⟩⟩
    · have e4 : a.tmps[45]?.getD undef = _ := hp 0 rfl
      obtain ⟨B, d, e5, o⟩ := hp 2 rfl
      have e5 : a.tmps[47]?.getD undef = _ := e5
      refine .inr (.inr (.inl ⟨rfl, _, _, by simp [go_sem, e4, e5]; exact ⟨rfl, rfl⟩, ?_⟩))
      refine (eqBars_same s cp B8 B d8 d _ ((own_rd own8).after I) o hn).mono ?_
      rintro e w1 ⟨rfl, hb1⟩
      exact ⟨_, rfl, below_after' hb1 I, rfl, .inr ⟨hb1, rfl⟩⟩
    · have e4 : a.tmps[48]?.getD undef = _ := hp 3 rfl
      exact .inl ⟨rfl, _, wx, by simp [go_sem, e4], I, rfl, .inl rfl⟩
  · intro a w7 hB b1 hF
    have e49 : sl a 49 = .bool false := hF 4 (by decide)
    have e48 : sl a 48 = .bool true := hF 3 (by decide)
    rw [base_eq hB]
    simp only [List.foldl, e49, e48]
    generalize sl a 45 = v45
    generalize sl a 46 = v46
    generalize sl a 47 = v47
    clear hB hF e49 e48
    replace B2 := B2.after b1
    replace X6 := X6.after b1
    replace X8 := X8.after b1
    replace X9 := X9.after b1
    replace own6 := own_after own6 b1
    replace own8 := own_after own8 b1
    replace own9 := own_after own9 b1
    replace b7 := below_after' b1 b7
    clear b1
    have f8 := X8.c2
    go_simp
    go_wp2_with fail
    refine (markBars_own B8 _ s.length d8 cp _ 1 _ own8 hn (by omega) (by omega)).mono ?_
    rintro e w8 ⟨rfl, own8', hg⟩
    clear own8 own8' f8
    replace own6 := own_kept_lt own6 lt6 hg (fun g e => by have := (lt8 g e).1; omega)
    replace own9 := own_far own9 hg (fun g e => by have := (lt8 g e).2; omega)
    replace B2 := B2.row hg (fun r e => by have := (lt8 r e).1; omega)
    replace X6 := X6.row hg (fun r e => by have := (lt8 r e).1; omega)
    replace X9 := X9.row hg (fun r e => by have := (lt8 r e).2; omega)
    replace b7 := below_row b7 hg (fun r e => by have := (lt8 r e).1; omega)
    clear hg X8 lt8
    have f6 := X6.c2
    have f9 := X9.c2
    have q1 : decide ((1 : Int) + (s.length : Int) < 0) = false := by simp; omega
    go_wp2_with fail
    refine (eqBars_same r1 r2 B9 B6 d9 d6 _ (own_rd own9) (own_rd own6) hrl).mono ?_
    rintro e w9 ⟨rfl, b1⟩
    replace B2 := B2.after b1
    replace X6 := X6.after b1
    replace X9 := X9.after b1
    replace own6 := own_after own6 b1
    replace own9 := own_after own9 b1
    replace b7 := below_after' b1 b7
    clear b1 f6 
    replace f9 := X9.c2
    go_wp2_with fail
    refine (markBars_own B9 _ r1.length d9 r2 _ 1 _ own9 hrl (by omega) (by omega)).mono ?_
    rintro e w10 ⟨rfl, own9', hg⟩
    clear own9 f9 q1
    replace own6 := own_kept_lt own6 lt6 hg (fun g e => by have := (lt9 g e).1; omega)
    replace B2 := B2.row hg (fun r e => by have := (lt9 r e).1; omega)
    replace X6 := X6.row hg (fun r e => by have := (lt9 r e).1; omega)
    replace X9 := X9.row hg (fun r e => by have := (lt9 r e).2; omega)
    replace b7 := below_row b7 hg (fun r e => by have := (lt9 r e).1; omega)
    clear hg lt9
    have f9 := X9.c2
    have q1 : decide ((1 : Int) + (r1.length : Int) < 0) = false := by simp; omega
    go_wp2_with fail
    refine (heldBars_row B9 r1.length d9 r2 1 _ (own_rd own9') hrl (by omega) (by omega)).mono ?_
    rintro e w11 ⟨rfl, b1⟩
    replace B2 := B2.after b1
    replace X6 := X6.after b1
    replace X9 := X9.after b1
    replace own6 := own_after own6 b1
    replace own9' := own_after own9' b1
    replace b7 := below_after' b1 b7
    clear b1 f9
    have f2 := B2.c2
    go_wp2_with fail
    refine (toBars_calls s cp A c _ (h.after b7) hn).mono ?_
    rintro e w12 ⟨B1, d1, rfl, own1, hB1, b1⟩
    replace X6 := X6.after b1
    replace X9 := X9.after b1
    replace own6 := own_after own6 b1
    replace own9' := own_after own9' b1
    replace b7 := below_after' b1 b7
    clear b1 f2 B2
    go_wp2_with fail
    refine (iBarsDo_calls' s cp B1 d1 deed _ (own_rd own1) hn hB1 r1 r2 r3 HR.out).mono ?_
    clear own1 hB1
    rintro e w13 ⟨B14, d14, rfl, own14, b1⟩
    replace X6 := X6.after b1
    replace X9 := X9.after b1
    replace own6 := own_after own6 b1
    replace own9' := own_after own9' b1
    replace b7 := below_after' b1 b7
    clear b1
    have f6 := X6.c2
    replace z6 := X6.lt
    have z9 := X9.lt
    have n3 : ¬ w3.heap.size = w13.heap.size := by omega
    have n4 : ¬ w13.heap.size = w3.heap.size := by omega
    replace X6 := X6.alloc (.cells #[.slice B14 r1.length d14, .bool r2] 26)
    replace X9 := X9.alloc (.cells #[.slice B14 r1.length d14, .bool r2] 26)
    replace own6 := own6.alloc (.cells #[.slice B14 r1.length d14, .bool r2] 26)
    replace own9' := own9'.alloc (.cells #[.slice B14 r1.length d14, .bool r2] 26)
    replace own14 := own14.alloc (.cells #[.slice B14 r1.length d14, .bool r2] 26)
    replace b7 : Below w.heap.size w (w13.alloc (.cells #[.slice B14 r1.length d14, .bool r2] 26)) := b7.alloc (by omega) _
    go_wp2_with fail
    refine (eqBars_same r1 r2 B14 B6 d14 d6 _ (own_rd own14) (own_rd own6) hrl).mono ?_
    rintro e w14 ⟨rfl, b1⟩
    replace X9 := X9.after b1
    replace own9' := own_after own9' b1
    replace b7 := below_after' b1 b7
    clear b1 n3 n4 f6
    have f9 := X9.c2
    go_wp2_with fail
    refine (heldBars_row B9 r1.length d9 r2 1 _ (own_rd own9') hrl (by omega) (by omega)).mono ?_
    rintro e w15 ⟨rfl, b1⟩
    replace b7 := below_after' b1 b7
    go_wp2_with fail
    go_ret
    exact ⟨rfl, b7⟩

end Go.Proofs.Ytandfbpanaldcaa
