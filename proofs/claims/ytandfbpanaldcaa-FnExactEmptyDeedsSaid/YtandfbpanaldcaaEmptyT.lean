/- The walk of laws.FnExactEmptyDeeds. -/
import Derived.Test.YtandfbpanaldcaaEmptyS
namespace Go.Proofs.Ytandfbpanaldcaa
open Go.ChangeShapes Go.WideShapes Go.ChangeAt Go.RowKit
set_option linter.unusedVariables false

set_option maxHeartbeats 4000000 in
theorem exactEmpty_walk (s : List Int) (cp : Bool) (A : Option Addr) (c : Nat) (bar : Int) (w : World) (h : Rd w 1 A s.length (s.map (Value.int .i64))) (hm : s.length ≤ 9223372036854775807) :
    Calls Try.prog 5 #[.agg #[.slice A s.length c, .bool cp], .int .i64 bar] w fun e w' => e = .returned (.bool true) ∧ Below w.heap.size w w' := by
  have B2 : Bk (w.alloc (.cells #[.slice A s.length c, .bool cp] 24)) w.heap.size 24 #[.slice A s.length c, .bool cp] := Bk.new _ _ _
  have b7 : Below w.heap.size w (w.alloc (.cells #[.slice A s.length c, .bool cp] 24)) := (by repeat' (first | exact Below.refl _ _ | assumption | refine Below.drew ?_ | refine cell_drew ?_ | refine Below.setCell ?_ (by (try simp); (try omega)) _ | refine Below.alloc ?_ (by (try simp); (try omega)) _ | refine below_step (by assumption) (by (try simp); (try omega)) ?_))
  by_cases hbig : (1048576 : Int) < s.length
  · have hz : szV 1048576 s.length = -1 := by unfold szV; rw [if_pos hbig]
    go_enter Try.func5, Try.ntmps5
    go_wp2_with fail
    refine (szBars_calls A s.length c cp 1048576 _ hm (by omega) (by omega) (-1) hz).mono ?_
    rintro e w1 ⟨rfl, b1⟩
    replace b7 := below_after' b1 b7
    go_wp2_with fail
    go_ret
    exact ⟨rfl, b7⟩
  have hz : szV 1048576 s.length = 1048576 - s.length := by unfold szV; rw [if_neg hbig]
  have hz0 : ¬ (1048576 - (s.length : Int) < 0) := by omega
  have hn : s.length ≤ 1048576 := by omega
  obtain ⟨r1, hr⟩ : ∃ r1, emptyDeeds s cp bar = r1 := ⟨_, rfl⟩
  have hrl : r1.length ≤ 1048576 := by
    rw [← hr]; unfold emptyDeeds
    split
    · rename_i hh
      have := emptyTo_len s cp bar s.length
      have := (barsValid_length hh.1).2
      omega
    · simp
  have HR := Lib.hid hr
  have CS := fun B d w h => sEmpty_calls s cp B d bar w h hn
  have CI := fun B d w h hA => iEmpty_calls s cp B d bar w h hn hA
  rw [hr] at CS CI
  clear hr hbig
  go_enter Try.func5, Try.ntmps5
  go_wp2_with fail
  refine (szBars_calls A s.length c cp 1048576 _ hm (by omega) (by omega) _ hz).mono ?_
  rintro e w1 ⟨rfl, b1⟩
  clear hz
  replace B2 := B2.after b1
  replace b7 := below_after' b1 b7
  have f2 := B2.c2
  clear b1
  go_wp2_with fail
  refine (toBars_calls s cp A c _ (h.after b7) hn).mono ?_
  rintro e w2 ⟨B1, d1, rfl, own1, hB1, b1⟩
  replace B2 := B2.after b1
  replace b7 := below_after' b1 b7
  clear b1 f2
  go_wp2_with fail
  refine (CS B1 d1 _ (own_rd own1)).mono ?_
  clear own1 hB1
  rintro e w3 ⟨B6, d6, rfl, own6, b1⟩
  replace own6 := own_mono own6 (show w.heap.size ≤ _ from b7.size)
  replace B2 := B2.after b1
  replace b7 := below_after' b1 b7
  clear b1
  have f2 := B2.c2
  have z2 := B2.lt
  have o23 := z2
  have lt6 : ∀ k, (Value.slice B6 r1.length d6).ownBlock = some k → k < w3.heap.size := fun k e => (own6.lt k e).2
  go_wp2_with fail
  refine (toBars_calls s cp A c _ (h.after b7) hn).mono ?_
  rintro e w4 ⟨B8, d8, rfl, own8, hB8, b1⟩
  replace B2 := B2.after b1
  replace own6 := own_after own6 b1
  replace b7 := below_after' b1 b7
  have o34 := b1.size
  clear b1 f2
  have lt8 : ∀ k, (Value.slice B8 s.length d8).ownBlock = some k → w3.heap.size ≤ k ∧ k < w4.heap.size := fun k e => own8.lt k e
  replace z2 := B2.lt
  have X8 : Bk (w4.alloc (.cells #[.slice B8 s.length d8, .bool cp] 26)) w4.heap.size 26 #[.slice B8 s.length d8, .bool cp] := Bk.new _ _ _
  replace B2 := B2.alloc (.cells #[.slice B8 s.length d8, .bool cp] 26)
  replace own6 := own6.alloc (.cells #[.slice B8 s.length d8, .bool cp] 26)
  replace own8 := own8.alloc (.cells #[.slice B8 s.length d8, .bool cp] 26)
  replace b7 : Below w.heap.size w (w4.alloc (.cells #[.slice B8 s.length d8, .bool cp] 26)) := b7.alloc (by omega) _
  have C3 := CI B8 d8 _ (own_rd own8) hB8
  go_wp2_with fail
  refine C3.mono ?_
  clear C3
  rintro e w5 ⟨B9, d9, rfl, own9, b1⟩
  rw [World.size_alloc] at own9
  replace B2 := B2.after b1
  replace X8 := X8.after b1
  replace own6 := own_after own6 b1
  replace own8 := own_after own8 b1
  replace b7 := below_after' b1 b7
  clear b1 hB8
  have lt9 : ∀ k, (Value.slice B9 r1.length d9).ownBlock = some k → w4.heap.size + 1 ≤ k ∧ k < w5.heap.size := fun k e => own9.lt k e
  have z8 := X8.lt
  have o48 := z8
  go_wp2_with fail
  refine (eqIntS_same r1 B9 B6 d9 d6 _ (own_rd own9) (own_rd own6) hrl).mono ?_
  rintro e w6 ⟨rfl, b1⟩
  replace B2 := B2.after b1
  replace X8 := X8.after b1
  replace own6 := own_after own6 b1
  replace own8 := own_after own8 b1
  replace own9 := own_after own9 b1
  replace b7 := below_after' b1 b7
  clear b1
  go_wp2
  refine region_grow [31, 32, 33, 34, 35] [] (fun | 0 => 31 | 1 => 32 | 2 => 33 | 3 => 34 | 4 => 35 | _ => 0) (fun w w' => Below w.heap.size w w') (fsSame s cp (.agg #[.slice B8 s.length d8, .bool cp]) (.agg #[.slice A s.length c, .bool cp])) mixed (by kernel_rfl) ?_ ?_ ?_
  · intro B j hj a w1 w2 hR hF
    unfold Fact at hF ⊢
    match j with
    | 0 | 1 | 3 | 4 => exact hF
    | 2 => obtain ⟨B, d, e, o⟩ := hF; exact ⟨B, d, e, o.after hR⟩
    | n + 5 => trivial
  · refine ⟨?_, ?_, ?_, ?_, ?_, trivial⟩ <;> rintro a wx ⟨hs, hd, hB⟩ I hp
    · have e1 : a.tmps[7]?.getD undef = .pointer (some ⟨w4.heap.size, 0, none⟩) := hB 7 rfl
      have f := (X8.after I).c2
      exact .inl ⟨rfl, _, wx, by simp [go_sem, e1, f], I, rfl, .inl rfl⟩
    · have e1 : a.tmps[2]?.getD undef = .pointer (some ⟨w.heap.size, 0, none⟩) := hB 2 rfl
      have f := (B2.after I).c2
      exact .inl ⟨rfl, _, wx, by simp [go_sem, e1, f], I, rfl, .inl rfl⟩
    · have e4 : a.tmps[32]?.getD undef = _ := hp 1 rfl
      refine .inr (.inr (.inl ⟨rfl, _, _, by simp [go_sem, e4]; exact ⟨rfl, rfl⟩, ?_⟩))
      refine (toBars_calls s cp A c _ (h.after (below_after' I b7)) hn).mono ?_
      rintro e w1 ⟨B, d, rfl, o, _, hb1⟩
      exact ⟨_, rfl, below_after' hb1 I, ⟨B, d, rfl, own_rd o⟩, .inr ⟨hb1, rfl⟩⟩
    · have e4 : a.tmps[31]?.getD undef = _ := hp 0 rfl
      obtain ⟨B, d, e5, o⟩ := hp 2 rfl
      have e5 : a.tmps[33]?.getD undef = _ := e5
      refine .inr (.inr (.inl ⟨rfl, _, _, by simp [go_sem, e4, e5]; exact ⟨rfl, rfl⟩, ?_⟩))
      refine (eqBars_same s cp B8 B d8 d _ ((own_rd own8).after I) o hn).mono ?_
      rintro e w1 ⟨rfl, hb1⟩
      exact ⟨_, rfl, below_after' hb1 I, rfl, .inr ⟨hb1, rfl⟩⟩
    · have e4 : a.tmps[34]?.getD undef = _ := hp 3 rfl
      exact .inl ⟨rfl, _, wx, by simp [go_sem, e4], I, rfl, .inl rfl⟩
  · intro a w7 hB b1 hF
    have e49 : sl a 35 = .bool false := hF 4 (by decide)
    have e48 : sl a 34 = .bool true := hF 3 (by decide)
    rw [base_eq hB]
    simp only [List.foldl, e49, e48]
    generalize sl a 31 = v45
    generalize sl a 32 = v46
    generalize sl a 33 = v47
    clear hB hF e49 e48
    replace B2 := B2.after b1
    replace X8 := X8.after b1
    replace own6 := own_after own6 b1
    replace own8 := own_after own8 b1
    replace own9 := own_after own9 b1
    replace b7 := below_after' b1 b7
    clear b1
    have f8 := X8.c2
    go_simp
    go_wp2_with fail
    refine (markBars_own B8 _ s.length d8 cp _ 1 _ own8 hn (by omega) (by omega)).mono ?_
    rintro e w8 ⟨rfl, own8', hg⟩
    clear own8 own8' f8
    replace own6 := own_kept_lt own6 lt6 hg (fun g e => by have := (lt8 g e).1; omega)
    replace own9 := own_far own9 hg (fun g e => by have := (lt8 g e).2; omega)
    replace B2 := B2.row hg (fun r e => by have := lt8 r e; omega)
    replace b7 := below_row b7 hg (fun r e => by have := (lt8 r e).1; omega)
    clear hg
    clear lt8 X8
    have q1 : decide ((1 : Int) + (s.length : Int) < 0) = false := by simp; omega
    go_wp2_with fail
    refine (eqIntS_same r1 B9 B6 d9 d6 _ (own_rd own9) (own_rd own6) hrl).mono ?_
    rintro e w9 ⟨rfl, b1⟩
    replace B2 := B2.after b1
    replace own6 := own_after own6 b1
    replace own9 := own_after own9 b1
    replace b7 := below_after' b1 b7
    clear b1
    go_wp2_with fail
    refine (markIntS_own B9 _ r1.length d9 _ 1 _ own9 hrl (by omega) (by omega)).mono ?_
    rintro e w10 ⟨rfl, own9', hg⟩
    clear own9 q1
    replace own6 := own_kept_lt own6 lt6 hg (fun g e => by have := (lt9 g e).1; omega)
    replace B2 := B2.row hg (fun r e => by have := lt9 r e; omega)
    replace b7 := below_row b7 hg (fun r e => by have := (lt9 r e).1; omega)
    clear hg
    clear lt9
    have q1 : decide ((1 : Int) + (r1.length : Int) < 0) = false := by simp; omega
    go_wp2_with fail
    refine (heldIntS_row B9 r1.length d9 1 _ (own_rd own9') hrl (by omega) (by omega)).mono ?_
    rintro e w11 ⟨rfl, rfl⟩
    have f2 := B2.c2
    go_wp2_with fail
    refine (toBars_calls s cp A c _ (h.after b7) hn).mono ?_
    rintro e w12 ⟨B1, d1, rfl, own1, hB1, b1⟩
    replace own6 := own_after own6 b1
    replace own9' := own_after own9' b1
    replace b7 := below_after' b1 b7
    clear b1 f2 B2
    go_wp2_with fail
    refine (CI B1 d1 _ (own_rd own1) hB1).mono ?_
    clear own1 hB1
    rintro e w13 ⟨B14, d14, rfl, own14, b1⟩
    replace own6 := own_after own6 b1
    replace own9' := own_after own9' b1
    replace b7 := below_after' b1 b7
    clear b1
    go_wp2_with fail
    refine (eqIntS_same r1 B14 B6 d14 d6 _ (own_rd own14) (own_rd own6) hrl).mono ?_
    rintro e w14 ⟨rfl, b1⟩
    replace own9' := own_after own9' b1
    replace b7 := below_after' b1 b7
    clear b1
    go_wp2_with fail
    refine (heldIntS_row B9 r1.length d9 1 _ (own_rd own9') hrl (by omega) (by omega)).mono ?_
    rintro e w15 ⟨rfl, rfl⟩
    go_wp2_with fail
    go_ret
    exact ⟨rfl, b7⟩

end Go.Proofs.Ytandfbpanaldcaa
