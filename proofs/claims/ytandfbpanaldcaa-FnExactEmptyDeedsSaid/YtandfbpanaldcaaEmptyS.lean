/- EmptyDeeds of the reference. -/
import Derived.Test.YtandfbpanaldcaaEmptyI
import Derived.Test.YtandfbpanaldcaaAppAt
import Derived.Test.YtandfbpanaldcaaBarsS
namespace Go.Proofs.Ytandfbpanaldcaa
open Go.ChangeShapes Go.WideShapes Go.ChangeAt Go.RowKit
set_option linter.unusedVariables false

theorem moveDeeds_in (s : List Int) (cp : Bool) (bay bar : Int) (hl : s.length ≤ 1048576) : ∀ x ∈ moveDeeds s cp bay bar, -9223372036854775808 ≤ x ∧ x ≤ 9223372036854775807 := by
  intro x hx
  unfold moveDeeds at hx
  split at hx
  · rename_i h
    simp only [List.mem_append] at hx
    rcases hx with hx | hx | hx | hx
    · split at hx <;> simp at hx; omega
    · split at hx <;> simp at hx; omega
    · simp at hx; omega
    · split at hx <;> simp at hx; omega
  · simp at hx

set_option maxHeartbeats 2000000 in
theorem sEmpty_valid (s : List Int) (cp : Bool) (A : Option Addr) (c : Nat) (bar : Int) (w : World) (h : Rd w 1 A s.length (s.map (Value.int .i64))) (hn : s.length ≤ 1048576) (hv : barsValid s cp = true) (hb : bar = 1 ∨ bar = 2) :
    Calls Try.prog 18 #[.agg #[.slice A s.length c, .bool cp], .int .i64 bar] w (ListPost w (emptyTo s cp bar s.length)) := by
  obtain ⟨i0, hi0, hz0, hz1, hz2⟩ := info_parts info_int
  obtain ⟨hl1, hl6⟩ := barsValid_length hv
  have q0 : inB bar 1 2 = true := by simp [inB]; omega
  have B2 : Bk ((w.alloc (.cells #[.slice A s.length c, .bool cp] 26)).alloc (.cells #[] 3)) w.heap.size 26 #[.slice A s.length c, .bool cp] := (Bk.new _ _ _).alloc _
  have b7 : Below w.heap.size w ((w.alloc (.cells #[.slice A s.length c, .bool cp] 26)).alloc (.cells #[] 3)) := (by repeat' (first | exact Below.refl _ _ | assumption | refine Below.drew ?_ | refine cell_drew ?_ | refine Below.setCell ?_ (by (try simp); (try omega)) _ | refine Below.alloc ?_ (by (try simp); (try omega)) _ | refine below_step (by assumption) (by (try simp); (try omega)) ?_))
  have own0 : (((w.alloc (.cells #[.slice A s.length c, .bool cp] 26)).alloc (.cells #[] 3))).ownsRow (w.heap.size + 1) 3 1 (.slice (some ⟨w.heap.size + 1, 0, none⟩) 0 0) 0 [] := by simpa using World.ownsRow_made (base := w.heap.size + 1) (e := 3) (size := 1) (w.alloc (.cells #[.slice A s.length c, .bool cp] 26)) #[] 0 (by simp) (Nat.zero_le _) (by simp)
  go_enter Try.func18, Try.ntmps18
  go_wp2_with fail
  refine (sBarsValid_calls s cp _ c _ (h.after b7) hn).mono ?_
  rw [hv]
  rintro e w0 ⟨rfl, bb⟩
  replace B2 := B2.after bb
  replace own0 := own_after own0 bb
  replace b7 := below_after' bb b7
  clear bb
  have ff := B2.c2
  have hw0 := B2.lt
  go_wp2_with (go_at_call 26; refine (bl1In_calls _ _ _ _).mono ?_; rintro e w' ⟨rfl, rfl⟩)
  go_loopw [5, 6] (fun v5 i wr => ∃ (k : Nat) (B : Option Addr) (d : Nat), k ≤ s.length ∧ i = .int .i64 k ∧ Bk wr w.heap.size 26 #[.slice B (movedTo s (3 - bar) k).length d, .bool cp] ∧ wr.ownsRow (w.heap.size + 1) 3 1 v5 (emptyTo s cp bar k).length ((emptyTo s cp bar k).map (Value.int .i64)) ∧ (∀ w', wr.grownBy w' v5.ownBlock → Rd w' 1 B (movedTo s (3 - bar) k).length ((movedTo s (3 - bar) k).map (Value.int .i64))) ∧ Below w.heap.size w wr) (fun _ i _ => s.length - (intOf i).toNat)
  case atStart =>
    have e0 : movedTo s (3 - bar) 0 = s := by simp [movedTo]
    refine ⟨0, A, c, Nat.zero_le _, rfl, by rw [e0]; exact B2, own0, fun w' hg => ?_, b7⟩
    rw [e0]
    exact h.after (below_row b7 hg (fun g e => by have := (own0.lt g e).1; omega))
  case round =>
    clear B2 b7 ff own0
    obtain ⟨k, B, d, hk, rfl, B2, own5, hB, b7⟩ := hrel
    have hwr := B2.lt
    by_cases hlt : k < s.length
    · obtain ⟨nn, hrun⟩ := run_moved (bar := 3 - bar) hv (by omega) hlt
      have hml := movedTo_len s (3 - bar) hk
      have hel := emptyTo_len s cp bar k
      have hdl := moveDeeds_len (movedTo s (3 - bar) k) cp k (3 - bar)
      have HE := Lib.hid (show emptyTo s cp bar (k + 1) = emptyTo s cp bar k ++ moveDeeds (movedTo s (3 - bar) k) cp k (3 - bar) from rfl)
      have RB : Rd wr 1 B _ _ := hB wr ⟨rfl, rfl, rfl, Nat.le_refl _, fun _ _ _ => rfl⟩
      have CM := sMove_calls (movedTo s (3 - bar) k) cp B d (k : Int) (3 - bar) wr RB (by omega)
      have hin := moveDeeds_in (movedTo s (3 - bar) k) cp k (3 - bar) (by omega)
      have hlt' : (k : Int) < ((movedTo s (3 - bar) k).length : Int) := by omega
      have hm6 : (movedTo s (3 - bar) k).length ≤ 1048576 := by omega
      have HRUN := Lib.hid hrun
      have ff := B2.c2
      clear hrun hml hB
      generalize movedTo s (3 - bar) k = m at *
      generalize hm' : movedTo s (3 - bar) (k + 1) = m' at *
      have HM := Lib.hid hm'
      clear hm'
      generalize moveDeeds m cp k (3 - bar) = ds at *
      generalize emptyTo s cp bar k = es at *
      go_wp2_with fail
      refine CM.mono ?_
      rintro e w1 ⟨B8, d8, rfl, own8, b1⟩
      have lt5 := fun r e => own5.lt r e
      have hs1 := b1.size
      replace own5 := own_after own5 b1
      replace B2 := B2.after b1
      replace b7 := below_after' b1 b7
      have CR := sBarsRun_calls m cp B d ds B8 d8 w1 (RB.after b1) hm6 (own_rd own8) (by omega) hin
      rw [HRUN.out] at CR
      clear ff CM b1 RB
      have ff := B2.c2
      go_wp2_with fail
      refine CR.mono ?_
      rintro e w2 ⟨B9, d9, rfl, own9, b2⟩
      have hs2 := b2.size
      replace own5 := own_after own5 b2
      replace own8 := own_after own8 b2
      replace B2 := B2.after b2
      replace b7 := below_after' b2 b7
      replace ff := B2.c2
      have z2 := B2.lt
      have n1 : ¬ w.heap.size = w2.heap.size := by omega
      have n2 : ¬ w2.heap.size = w.heap.size := by omega
      have lt9 := fun r e => own9.lt r e
      clear CR b2
      have o5 : ((((w2.setCell ⟨w.heap.size, 0, none⟩ (.slice B9 m'.length d9)).setCell ⟨w.heap.size, 1, none⟩ (.bool cp)).alloc (.cells #[.slice B9 m'.length d9, .bool cp] 26))).ownsRow (w.heap.size + 1) _ _ _ _ _ := (ownsRow_setCell_below (ownsRow_setCell_below own5 (show w.heap.size < _ by omega) _) (show w.heap.size < _ by omega) _).alloc _
      have o8 : ((((w2.setCell ⟨w.heap.size, 0, none⟩ (.slice B9 m'.length d9)).setCell ⟨w.heap.size, 1, none⟩ (.bool cp)).alloc (.cells #[.slice B9 m'.length d9, .bool cp] 26))).ownsRow wr.heap.size _ _ _ _ _ := (ownsRow_setCell_below (ownsRow_setCell_below own8 (show w.heap.size < _ by omega) _) (show w.heap.size < _ by omega) _).alloc _
      have o9 : ((((w2.setCell ⟨w.heap.size, 0, none⟩ (.slice B9 m'.length d9)).setCell ⟨w.heap.size, 1, none⟩ (.bool cp)).alloc (.cells #[.slice B9 m'.length d9, .bool cp] 26))).ownsRow w1.heap.size _ _ _ _ _ := (ownsRow_setCell_below (ownsRow_setCell_below own9 (show w.heap.size < _ by omega) _) (show w.heap.size < _ by omega) _).alloc _
      have B2' : Bk (((w2.setCell ⟨w.heap.size, 0, none⟩ (.slice B9 m'.length d9)).setCell ⟨w.heap.size, 1, none⟩ (.bool cp)).alloc (.cells #[.slice B9 m'.length d9, .bool cp] 26)) w.heap.size 26 #[.slice B9 m'.length d9, .bool cp] := by simpa using ((B2.set_ 0 (.slice B9 m'.length d9)).set_ 1 (.bool cp)).alloc _
      have b73 : Below w.heap.size w (((w2.setCell ⟨w.heap.size, 0, none⟩ (.slice B9 m'.length d9)).setCell ⟨w.heap.size, 1, none⟩ (.bool cp)).alloc (.cells #[.slice B9 m'.length d9, .bool cp] 26)) := ((b7.setCell (by simp) _).setCell (by simp) _).alloc (by simp; omega) _
      have hw3 : ((((w2.setCell ⟨w.heap.size, 0, none⟩ (.slice B9 m'.length d9)).setCell ⟨w.heap.size, 1, none⟩ (.bool cp)).alloc (.cells #[.slice B9 m'.length d9, .bool cp] 26))).heap.size = w2.heap.size + 1 := by simp
      go_wp2_with (at_builtin; refine wpList_append_src_at _ rfl _ _ 22 rfl (w.heap.size + 1) 3 i0 (.int .i64 0) 1 8 Try.underlying22 hi0 hz0 hz1 hz2 rfl (by decide) _ _ _ rfl o5 _ _ _ _ rfl (own_rd o8) (oneCell_ints ds) (by unfold maxLen; omega) (by omega) (by rw [hw3]; omega) ?_; intro v1 w4 own1 hg hat)
      go_roundw
      case rel =>
        refine ⟨k + 1, B9, d9, hlt, by go_num, ?_, by rw [HE.out]; simpa using own1, ?_, below_row b73 hg (fun r e => by have := (lt5 r e).1; omega)⟩
        · rw [HM.out]
          exact B2'.row hg (fun r e => by have := (lt5 r e).1; omega)
        · rw [HM.out]
          intro w' hg'
          have o := own_far o9 hg (fun r e => by have := (lt5 r e).2; omega)
          rcases hat with hat | hat
          · rw [hat] at hg'
            exact own_rd (own_far o hg' (fun r e => by have := (lt5 r e).2; omega))
          · rw [hat] at hg'
            exact own_rd (own_kept_lt o (B := w2.heap.size) (fun r e => (lt9 r e).2) hg' (fun g e => by rw [hw3] at e; injection e with e; omega))
      case measure => simp [intOf]; omega
    · obtain rfl : k = s.length := by omega
      have hml := movedTo_len s (3 - bar) hk
      have ff := B2.c2
      go_wp2
      go_ret
      exact listPost_of own5 (by omega) rfl rfl b7

set_option maxHeartbeats 1000000 in
theorem sEmpty_calls (s : List Int) (cp : Bool) (A : Option Addr) (c : Nat) (bar : Int) (w : World) (h : Rd w 1 A s.length (s.map (Value.int .i64))) (hn : s.length ≤ 1048576) :
    Calls Try.prog 18 #[.agg #[.slice A s.length c, .bool cp], .int .i64 bar] w (ListPost w (emptyDeeds s cp bar)) := by
  by_cases hc : barsValid s cp = true ∧ 1 ≤ bar ∧ bar ≤ 2
  · have e : emptyDeeds s cp bar = emptyTo s cp bar s.length := by unfold emptyDeeds; rw [if_pos hc]
    rw [e]
    exact sEmpty_valid s cp A c bar w h hn hc.1 (by omega)
  have e : emptyDeeds s cp bar = [] := by unfold emptyDeeds; rw [if_neg hc]
  rw [e]
  have b7 : Below w.heap.size w ((w.alloc (.cells #[.slice A s.length c, .bool cp] 26)).alloc (.cells #[] 3)) := (by repeat' (first | exact Below.refl _ _ | assumption | refine Below.drew ?_ | refine cell_drew ?_ | refine Below.setCell ?_ (by (try simp); (try omega)) _ | refine Below.alloc ?_ (by (try simp); (try omega)) _ | refine below_step (by assumption) (by (try simp); (try omega)) ?_))
  have own0 : (((w.alloc (.cells #[.slice A s.length c, .bool cp] 26)).alloc (.cells #[] 3))).ownsRow (w.heap.size + 1) 3 1 (.slice (some ⟨w.heap.size + 1, 0, none⟩) 0 0) 0 [] := by simpa using World.ownsRow_made (base := w.heap.size + 1) (e := 3) (size := 1) (w.alloc (.cells #[.slice A s.length c, .bool cp] 26)) #[] 0 (by simp) (Nat.zero_le _) (by simp)
  cases hv : barsValid s cp
  · clear hc e
    go_enter Try.func18, Try.ntmps18
    go_wp2_with fail
    refine (sBarsValid_calls s cp _ c _ (h.after b7) hn).mono ?_
    rw [hv]
    rintro e w0 ⟨rfl, bb⟩
    replace b7 := below_after' bb b7
    replace own0 := own_after own0 bb
    go_wp2_with (go_at_call 26; refine (bl1In_calls _ _ _ _).mono ?_; rintro e w' ⟨rfl, rfl⟩)
    go_ret
    exact listPost_of own0 (by omega) rfl rfl b7
  · have q0 : inB bar 1 2 = false := by
      cases hq : inB bar 1 2
      · rfl
      · simp [inB] at hq; exact absurd ⟨hv, by omega, by omega⟩ hc
    clear hc e
    go_enter Try.func18, Try.ntmps18
    go_wp2_with fail
    refine (sBarsValid_calls s cp _ c _ (h.after b7) hn).mono ?_
    rw [hv]
    rintro e w0 ⟨rfl, bb⟩
    replace b7 := below_after' bb b7
    replace own0 := own_after own0 bb
    go_wp2_with (go_at_call 26; refine (bl1In_calls _ _ _ _).mono ?_; rintro e w' ⟨rfl, rfl⟩)
    go_ret
    exact listPost_of own0 (by omega) rfl rfl b7

end Go.Proofs.Ytandfbpanaldcaa
