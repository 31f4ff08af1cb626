/- EmptyDeeds of the program. -/
import Derived.Test.YtandfbpanaldcaaMoveX
namespace Go.Proofs.Ytandfbpanaldcaa
open Go.ChangeShapes Go.WideShapes Go.ChangeAt Go.RowKit
set_option linter.unusedVariables false

theorem side_and {x bar : Int} (hx : x = 1 ∨ x = 2 ∨ x = 3) (hb : bar = 1 ∨ bar = 2) : (bits .and .i64 x bar != 0) = (x != 3 - bar) := by
  rcases hx with rfl | rfl | rfl <;> rcases hb with rfl | rfl <;> decide

set_option maxHeartbeats 2000000 in
theorem iEmpty_valid (s : List Int) (cp : Bool) (A : Option Addr) (c : Nat) (bar : Int) (w : World) (h : Rd w 1 A s.length (s.map (Value.int .i64))) (hn : s.length ≤ 1048576) (hA : A = none → c = 0) (hv : barsValid s cp = true) (hb : bar = 1 ∨ bar = 2) :
    Calls Try.prog 19 #[.agg #[.slice A s.length c, .bool cp], .int .i64 bar] w (ListPost w (emptyTo s cp bar s.length)) := by
  obtain ⟨i0, hi0, hz0, hz1, hz2⟩ := info_parts info_int
  obtain ⟨hl1, hl6⟩ := barsValid_length hv
  have hb1 : decide (bar < 1) = false := decide_eq_false (by omega)
  have hb2 : decide (2 < bar) = false := decide_eq_false (by omega)
  have B2 : Bk (w.alloc (.cells #[.slice A s.length c, .bool cp] 26)) w.heap.size 26 #[.slice A s.length c, .bool cp] := Bk.new _ _ _
  have b7 : Below w.heap.size w (w.alloc (.cells #[.slice A s.length c, .bool cp] 26)) := (by repeat' (first | exact Below.refl _ _ | assumption | refine Below.drew ?_ | refine cell_drew ?_ | refine Below.setCell ?_ (by (try simp); (try omega)) _ | refine Below.alloc ?_ (by (try simp); (try omega)) _ | refine below_step (by assumption) (by (try simp); (try omega)) ?_))
  go_enter Try.func19, Try.ntmps19
  go_wp2_with fail
  refine (iBarsValid_calls s cp _ c _ (h.after b7) hn).mono ?_
  rw [hv]
  rintro e w0 ⟨rfl, bb⟩
  replace B2 := B2.after bb
  replace b7 := below_after' bb b7
  clear bb
  have ff := B2.c2
  have hw0 := B2.lt
  go_wp2
  go_loopw [5, 23] (fun v5 i wr => ∃ (k : Nat) (B : Option Addr) (d : Nat), k ≤ s.length ∧ i = .int .i64 k ∧ Bk wr w.heap.size 26 #[.slice B (movedTo s (3 - bar) k).length d, .bool cp] ∧ wr.ownsRow (w.heap.size + 1) 3 1 v5 (emptyTo s cp bar k).length ((emptyTo s cp bar k).map (Value.int .i64)) ∧ (∀ w', wr.grownBy w' v5.ownBlock → Rd w' 1 B (movedTo s (3 - bar) k).length ((movedTo s (3 - bar) k).map (Value.int .i64))) ∧ (B = none → d = 0) ∧ Below w.heap.size w wr) (fun _ i _ => s.length - (intOf i).toNat)
  case atStart =>
    have e0 : movedTo s (3 - bar) 0 = s := by simp [movedTo]
    refine ⟨0, A, c, Nat.zero_le _, rfl, by rw [e0]; exact B2, World.ownsRow_nil _ _ _ _, fun w' hg => ?_, hA, b7⟩
    rw [e0]
    exact h.after (below_row b7 hg (fun g e => by cases e))
  case round =>
    clear B2 b7 ff
    obtain ⟨k, B, d, hk, rfl, B2, own5, hB, hBd, b7⟩ := hrel
    have hwr := B2.lt
    by_cases hlt : k < s.length
    · obtain ⟨b, off, rfl, hb0, u, hu, hc⟩ := h.at1 hlt
      obtain rfl : u = .int .i64 s[k] := by simpa [hlt] using hu.symm
      have hside := barsValid_side hv hlt
      have hmk : sideAt (movedTo s (3 - bar) k) k = s[k] := by simp [sideAt, movedTo_get hlt]
      have hand := side_and hside hb
      obtain ⟨nn, hrun⟩ := run_moved (bar := 3 - bar) hv (by omega) hlt
      have hml := movedTo_len s (3 - bar) hk
      have hml' := movedTo_len s (3 - bar) (k := k + 1) hlt
      have hel := emptyTo_len s cp bar k
      have hdl := moveDeeds_len (movedTo s (3 - bar) k) cp k (3 - bar)
      have hmv := movedTo_valid hv (bar := 3 - bar) (by omega) hk
      have hcc : wr.cell? ⟨b, off + k, none⟩ = some (.int .i64 s[k]) := (b7.cell (p := ⟨b, off + k, none⟩) hb0).trans hc
      have HE := Lib.hid (show emptyTo s cp bar (k + 1) = emptyTo s cp bar k ++ moveDeeds (movedTo s (3 - bar) k) cp k (3 - bar) from rfl)
      have ff := B2.c2
      have hk0 : (0 : Int) ≤ (k : Int) := by omega
      have hk1 : (k : Int) < (s.length : Int) := by omega
      by_cases hq : s[k] = 3 - bar
      · have hno : moveDeeds (movedTo s (3 - bar) k) cp k (3 - bar) = [] := by
          unfold moveDeeds
          rw [if_neg]
          rintro ⟨_, _, _, _, _, hh⟩
          exact hh (by rw [Int.toNat_natCast, hmk, hq])
        rw [hno, barsRun_fold _ hmv] at hrun
        simp only [List.foldl_nil, Prod.mk.injEq] at hrun
        have HM := Lib.hid hrun.1.symm
        replace HE := Lib.hid (HE.out.trans (by rw [hno, List.append_nil]))
        have q1 : (bits .and .i64 s[k] bar != 0) = false := by rw [hand, hq]; simp
        clear hrun hno hand hmk hu hc hdl hq
        generalize s[k] = x at *
        go_wp2
        go_roundw
        case rel => exact ⟨k + 1, B, d, hlt, by go_num, by rw [HM.out]; exact B2, by rw [HE.out]; exact own5, by rw [HM.out]; exact hB, hBd, b7⟩
        case measure => simp [intOf]; omega
      · have q1 : (bits .and .i64 s[k] bar != 0) = true := by rw [hand]; simpa using hq
        have RB : Rd wr 1 B _ _ := hB wr ⟨rfl, rfl, rfl, Nat.le_refl _, fun _ _ _ => rfl⟩
        have CM := iMove_calls (movedTo s (3 - bar) k) cp B d (k : Int) (3 - bar) wr RB (by omega)
        have hm6 : (movedTo s (3 - bar) k).length ≤ 1048576 := by omega
        clear hml hml'
        have HRUN := Lib.hid hrun
        clear hrun hand hmk hu hc hq
        generalize s[k] = x at *
        generalize movedTo s (3 - bar) k = m at *
        generalize moveDeeds m cp k (3 - bar) = ds at *
        generalize emptyTo s cp bar k = es at *
        go_wp2_with fail
        refine CM.mono ?_
        rintro e w1 ⟨B8, d8, rfl, own8, b1⟩
        have lt5 := fun r e => (own5.lt r e).2
        have hs1 := b1.size
        have own5' := own_after own5 b1
        replace B2 := B2.after b1
        replace b7 := below_after' b1 b7
        clear ff CM
        go_wp2_with (at_builtin; refine wpList_append_src _ rfl _ _ 22 rfl (w.heap.size + 1) 3 i0 (.int .i64 0) 1 8 Try.underlying22 hi0 hz0 hz1 hz2 rfl (by decide) _ _ _ rfl own5' _ _ _ _ rfl (own_rd own8) (oneCell_ints ds) (by unfold maxLen; omega) (by omega) (by omega) ?_; intro v1 w2 own1 hg; replace B2 := B2.row hg (fun r e => by have := (own5.lt r e).1; omega); have ff := B2.c2)
        have R8 := own_rd (own_far own8 hg (fun r e => lt5 r e))
        have RB2 := hB w2 (grown_pre b1 hg)
        replace b7 := below_row b7 hg (fun r e => by have := (own5.lt r e).1; omega)
        have CR := iBarsRun_calls m cp B d ds B8 d8 w2 RB2 hm6 hBd R8 (by omega)
        rw [HRUN.out] at CR
        have lt1 := fun r e => (own1.lt r e).2
        have hw2 := B2.lt
        refine CR.mono ?_
        rintro e w3 ⟨B9, d9, rfl, own9, b3⟩
        have hs3 := b3.size
        replace B2 := B2.after b3
        replace own1 := own_after own1 b3
        replace b7 := below_after' b3 b7
        replace ff := B2.c2
        clear CR hB RB RB2 R8 own5 own5' own8 b3 hg hcc
        go_wp2
        go_roundw
        case rel =>
          refine ⟨k + 1, B9, d9, hlt, by go_num, by simpa using (B2.set_ 0 _).set_ 1 _, ?_, ?_, own_none own9, (b7.setCell (by simp) _).setCell (by simp) _⟩
          · rw [HE.out]
            simpa using ownsRow_setCell_below (ownsRow_setCell_below own1 (by simp) _) (by simp) _
          · intro w' hg
            exact own_rd (own_far (ownsRow_setCell_below (ownsRow_setCell_below own9 (show w.heap.size < w2.heap.size by omega) _) (show w.heap.size < w2.heap.size by omega) _) hg (fun r e => lt1 r e))
        case measure => simp [intOf]; omega
    · obtain rfl : k = s.length := by omega
      go_wp2
      go_ret
      exact listPost_of own5 (by omega) rfl rfl b7

set_option maxHeartbeats 1000000 in
theorem iEmpty_calls (s : List Int) (cp : Bool) (A : Option Addr) (c : Nat) (bar : Int) (w : World) (h : Rd w 1 A s.length (s.map (Value.int .i64))) (hn : s.length ≤ 1048576) (hA : A = none → c = 0) :
    Calls Try.prog 19 #[.agg #[.slice A s.length c, .bool cp], .int .i64 bar] w (ListPost w (emptyDeeds s cp bar)) := by
  by_cases hc : barsValid s cp = true ∧ 1 ≤ bar ∧ bar ≤ 2
  · have e : emptyDeeds s cp bar = emptyTo s cp bar s.length := by unfold emptyDeeds; rw [if_pos hc]
    rw [e]
    exact iEmpty_valid s cp A c bar w h hn hA hc.1 (by omega)
  have e : emptyDeeds s cp bar = [] := by unfold emptyDeeds; rw [if_neg hc]
  rw [e]
  have b7 : Below w.heap.size w (w.alloc (.cells #[.slice A s.length c, .bool cp] 26)) := (by repeat' (first | exact Below.refl _ _ | assumption | refine Below.drew ?_ | refine cell_drew ?_ | refine Below.setCell ?_ (by (try simp); (try omega)) _ | refine Below.alloc ?_ (by (try simp); (try omega)) _ | refine below_step (by assumption) (by (try simp); (try omega)) ?_))
  cases hv : barsValid s cp
  · clear hc e
    go_enter Try.func19, Try.ntmps19
    go_wp2_with fail
    refine (iBarsValid_calls s cp _ c _ (h.after b7) hn).mono ?_
    rw [hv]
    rintro e w0 ⟨rfl, bb⟩
    replace b7 := below_after' bb b7
    go_wp2
    go_ret
    exact ⟨none, 0, rfl, World.ownsRow_nil _ _ _ _, b7⟩
  by_cases h2 : bar < 1
  · clear hc e
    go_enter Try.func19, Try.ntmps19
    go_wp2_with fail
    refine (iBarsValid_calls s cp _ c _ (h.after b7) hn).mono ?_
    rw [hv]
    rintro e w0 ⟨rfl, bb⟩
    replace b7 := below_after' bb b7
    go_wp2
    go_ret
    exact ⟨none, 0, rfl, World.ownsRow_nil _ _ _ _, b7⟩
  by_cases h3 : 2 < bar
  · clear hc e
    go_enter Try.func19, Try.ntmps19
    go_wp2_with fail
    refine (iBarsValid_calls s cp _ c _ (h.after b7) hn).mono ?_
    rw [hv]
    rintro e w0 ⟨rfl, bb⟩
    replace b7 := below_after' bb b7
    go_wp2
    go_ret
    exact ⟨none, 0, rfl, World.ownsRow_nil _ _ _ _, b7⟩
  · exact absurd ⟨hv, by omega, by omega⟩ hc

end Go.Proofs.Ytandfbpanaldcaa
