/- BarsRun of the program. -/
import Derived.Test.YtandfbpanaldcaaBarsH
namespace Go.Proofs.Ytandfbpanaldcaa
open Go.ChangeShapes Go.WideShapes Go.ChangeAt Go.RowKit
set_option linter.unusedVariables false

def runStep (st : List Int × Bool × Nat) (deed : Int) : List Int × Bool × Nat :=
  if (barsDo st.1 st.2.1 deed).2.2 then ((barsDo st.1 st.2.1 deed).1, (barsDo st.1 st.2.1 deed).2.1, st.2.2 + 1) else st
def runTo (s : List Int) (cp : Bool) (ds : List Int) (k : Nat) : List Int × Bool × Nat := (ds.take k).foldl runStep (s, cp, 0)
def barsRun (s : List Int) (cp : Bool) (ds : List Int) : List Int × Bool × Nat := if barsValid s cp then runTo s cp ds ds.length else ([], false, 0)
theorem runTo_succ {s : List Int} {cp : Bool} {ds : List Int} {k : Nat} (h : k < ds.length) : runTo s cp ds (k + 1) = runStep (runTo s cp ds k) ds[k] := by
  unfold runTo
  rw [List.take_succ_eq_append_getElem h, List.foldl_append]
  rfl
theorem run_yes {s s' r1 : List Int} {cp cp' r2 : Bool} {ds : List Int} {k n' : Nat} (h : k < ds.length) (hs : runTo s cp ds k = (s', cp', n')) (hr : barsDo s' cp' ds[k] = (r1, r2, true)) : runTo s cp ds (k + 1) = (r1, r2, n' + 1) := by
  rw [runTo_succ h, hs]; simp [runStep, hr]
theorem run_no {s s' r1 : List Int} {cp cp' r2 : Bool} {ds : List Int} {k n' : Nat} (h : k < ds.length) (hs : runTo s cp ds k = (s', cp', n')) (hr : barsDo s' cp' ds[k] = (r1, r2, false)) : runTo s cp ds (k + 1) = (s', cp', n') := by
  rw [runTo_succ h, hs]; simp [runStep, hr]
theorem barsDo_len' {s r1 : List Int} {c r2 r3 : Bool} {deed : Int} (h : barsDo s c deed = (r1, r2, r3)) : r1.length ≤ s.length := by
  have := barsDo_len (s := s) (c := c) (deed := deed)
  rw [h] at this
  rcases this with h1 | h1
  · simp at h1; omega
  · simp at h1; simp [h1]
theorem runTo_len (s : List Int) (cp : Bool) (ds : List Int) (k : Nat) : (runTo s cp ds k).1.length ≤ s.length ∧ (runTo s cp ds k).2.2 ≤ k := by
  induction k with
  | zero => simp [runTo]
  | succ k ih =>
    by_cases h : k < ds.length
    · rw [runTo_succ h]
      unfold runStep
      split
      · have := barsDo_len (s := (runTo s cp ds k).1) (c := (runTo s cp ds k).2.1) (deed := ds[k])
        refine ⟨?_, by simp; omega⟩
        rcases this with h1 | h1
        · simp only [h1]; omega
        · simp [h1]
      · exact ⟨ih.1, by omega⟩
    · have e : runTo s cp ds (k + 1) = runTo s cp ds k := by unfold runTo; rw [List.take_of_length_le (by omega), List.take_of_length_le (by omega)]
      rw [e]; exact ⟨ih.1, by omega⟩
theorem barsRun_len (s : List Int) (cp : Bool) (ds : List Int) : (barsRun s cp ds).1.length ≤ s.length ∧ (barsRun s cp ds).2.2 ≤ ds.length := by
  unfold barsRun
  split
  · exact runTo_len _ _ _ _
  · simp

def RunPost (w : World) (r : List Int × Bool × Nat) (e : Ending) (w' : World) : Prop :=
  ∃ B d, e = .returned (.tuple #[.agg #[.slice B r.1.length d, .bool r.2.1], .int .i64 (r.2.2 : Int)]) ∧ w'.ownsRow w.heap.size 3 1 (.slice B r.1.length d) r.1.length (r.1.map (Value.int .i64)) ∧ Below w.heap.size w w'

theorem own_none {w : World} {lo : Nat} {t : TypeId} {n d m : Nat} {B : Option Addr} {xs : List Value} (h : w.ownsRow lo t 1 (.slice B n d) m xs) (hB : B = none) : d = 0 := by
  rcases h.2 with ⟨h1, _⟩ | ⟨g, cap, cur, hv, _⟩
  · injection h1 with _ _ h1
  · injection hv with hv _ _
    rw [hB] at hv; cases hv

set_option maxHeartbeats 1000000 in
theorem iBarsRun_invalid (s : List Int) (cp : Bool) (A : Option Addr) (c : Nat) (ds : List Int) (D : Option Addr) (cd : Nat) (w : World) (h : Rd w 1 A s.length (s.map (Value.int .i64))) (hn : s.length ≤ 1048576) (hA : A = none → c = 0) (hd : Rd w 1 D ds.length (ds.map (Value.int .i64))) (hdn : ds.length ≤ 1048576) (hv : barsValid s cp = false) : Calls Try.prog 15 #[.agg #[.slice A s.length c, .bool cp], .slice D ds.length cd] w (RunPost w (barsRun s cp ds)) := by
  have HR : barsRun s cp ds = ([], false, 0) := by simp [barsRun, hv]
  rw [HR]
  clear HR
  have B1 : Bk ((w.alloc (.cells #[.slice A s.length c, .bool cp] 26)).alloc (.cells #[.slice none 0 0, .bool false] 26)) (w.heap.size + 1) 26 #[.slice none 0 0, .bool false] := by simpa using Bk.new (w.alloc _) _ _
  have b7 : Below w.heap.size w ((w.alloc (.cells #[.slice A s.length c, .bool cp] 26)).alloc (.cells #[.slice none 0 0, .bool false] 26)) := (by repeat' (first | exact Below.refl _ _ | assumption | refine Below.drew ?_ | refine cell_drew ?_ | refine Below.setCell ?_ (by (try simp); (try omega)) _ | refine Below.alloc ?_ (by (try simp); (try omega)) _ | refine below_step (by assumption) (by (try simp); (try omega)) ?_))
  have hr := (h.alloc (.cells #[.slice A s.length c, .bool cp] 26)).alloc (.cells #[.slice none 0 0, .bool false] 26)
  go_enter Try.func15, Try.ntmps15
  go_wp2_with fail
  refine (iBarsValid_calls s cp A c _ hr hn).mono ?_
  rintro e w1 ⟨rfl, b1⟩
  replace B1 := B1.after b1
  have f1 := B1.c2
  go_wp2
  exact bodyPost_ret (v := .tuple #[.agg #[.slice none 0 0, .bool false], .int .i64 0]) (by simp [results, Try.results15, go_sem, *]) rfl ⟨none, 0, rfl, World.ownsRow_nil _ _ _ _, (by repeat' (first | exact Below.refl _ _ | assumption | refine Below.drew ?_ | refine cell_drew ?_ | refine Below.setCell ?_ (by (try simp); (try omega)) _ | refine Below.alloc ?_ (by (try simp); (try omega)) _ | refine below_step (by assumption) (by (try simp); (try omega)) ?_))⟩

set_option maxHeartbeats 2000000 in
theorem iBarsRun_valid (s : List Int) (cp : Bool) (A : Option Addr) (c : Nat) (ds : List Int) (D : Option Addr) (cd : Nat) (w : World) (h : Rd w 1 A s.length (s.map (Value.int .i64))) (hn : s.length ≤ 1048576) (hA : A = none → c = 0) (hd : Rd w 1 D ds.length (ds.map (Value.int .i64))) (hdn : ds.length ≤ 1048576) (hv : barsValid s cp = true) : Calls Try.prog 15 #[.agg #[.slice A s.length c, .bool cp], .slice D ds.length cd] w (RunPost w (barsRun s cp ds)) := by
  have HR := Lib.hid (show barsRun s cp ds = runTo s cp ds ds.length by simp [barsRun, hv])
  have B0 : Bk ((w.alloc (.cells #[.slice A s.length c, .bool cp] 26)).alloc (.cells #[.slice none 0 0, .bool false] 26)) w.heap.size 26 #[.slice A s.length c, .bool cp] := (Bk.new w _ _).alloc _
  have B1 : Bk ((w.alloc (.cells #[.slice A s.length c, .bool cp] 26)).alloc (.cells #[.slice none 0 0, .bool false] 26)) (w.heap.size + 1) 26 #[.slice none 0 0, .bool false] := by simpa using Bk.new (w.alloc _) _ _
  have b7 : Below w.heap.size w ((w.alloc (.cells #[.slice A s.length c, .bool cp] 26)).alloc (.cells #[.slice none 0 0, .bool false] 26)) := (by repeat' (first | exact Below.refl _ _ | assumption | refine Below.drew ?_ | refine cell_drew ?_ | refine Below.setCell ?_ (by (try simp); (try omega)) _ | refine Below.alloc ?_ (by (try simp); (try omega)) _ | refine below_step (by assumption) (by (try simp); (try omega)) ?_))
  have hr := (h.alloc (.cells #[.slice A s.length c, .bool cp] 26)).alloc (.cells #[.slice none 0 0, .bool false] 26)
  have hsz : w.heap.size + 2 ≤ (((w.alloc (.cells #[.slice A s.length c, .bool cp] 26)).alloc (.cells #[.slice none 0 0, .bool false] 26))).heap.size := by simp
  go_enter Try.func15, Try.ntmps15
  go_wp2_with fail
  refine (iBarsValid_calls s cp A c _ hr hn).mono ?_
  rw [hv]
  rintro e w1 ⟨rfl, b1⟩
  replace B0 := B0.after b1
  replace B1 := B1.after b1
  replace hr := hr.after b1
  have f0 := B0.c2
  replace hsz := Nat.le_trans hsz b1.size
  replace b7 := below_after' b1 b7
  clear b1
  go_wp2_with fail
  refine (iBarsClone_calls s cp A c _ hr hn hA).mono ?_
  rintro e w2 ⟨B, d, rfl, own, b2⟩
  replace own := own_mono own hsz
  replace B1 := B1.after b2
  replace hsz := Nat.le_trans hsz b2.size
  replace b7 := below_after' b2 b7
  clear b2 B0 f0 hr
  go_wp2
  go_loopw [7, 20] (fun t i wr => ∃ (k n' : Nat) (s' : List Int) (cp' : Bool) (B' : Option Addr) (d' : Nat), k ≤ ds.length ∧ i = .int .i64 k ∧ t = .int .i64 n' ∧ runTo s cp ds k = (s', cp', n') ∧ n' ≤ k ∧ s'.length ≤ 1048576 ∧ Bk wr w2.heap.size 26 #[.slice B' s'.length d', .bool cp'] ∧ Bk wr (w.heap.size + 1) 26 #[.slice none 0 0, .bool false] ∧ wr.ownsRow (w.heap.size + 2) 3 1 (.slice B' s'.length d') s'.length (s'.map (Value.int .i64)) ∧ Below w.heap.size w wr) (fun _ i _ => ds.length - (intOf i).toNat)
  case atStart =>
    exact ⟨0, 0, s, cp, B, d, Nat.zero_le _, rfl, rfl, by simp [runTo], Nat.le_refl _, hn, Bk.new _ _ _, B1.alloc _, own.alloc _, b7.alloc (by omega) _⟩
  case round =>
    clear own B1 b7
    obtain ⟨k, n', s', cp', B', d', hk, rfl, rfl, hst, hnk, hs', B6, B1, own, b7⟩ := hrel
    by_cases hlt : k < ds.length
    · obtain ⟨b, off, rfl, hb0, u, hu, hc⟩ := hd.at1 hlt
      obtain rfl : u = .int .i64 ds[k] := by simpa [hlt] using hu.symm
      have hc' : wr.cell? ⟨b, off + k, none⟩ = some (.int .i64 ds[k]) := (b7.cell (p := ⟨b, off + k, none⟩) hb0).trans hc
      obtain ⟨r1, r2, r3, hr⟩ : ∃ r1 r2 r3, barsDo s' cp' ds[k] = (r1, r2, r3) := ⟨_, _, _, rfl⟩
      have hrl : r1.length ≤ 1048576 := by have := barsDo_len' hr; omega
      have HN := Lib.hid (run_no (s := s) (cp := cp) (r1 := r1) (r2 := r2) hlt hst)
      have HY := Lib.hid (run_yes (s := s) (cp := cp) (r1 := r1) (r2 := r2) hlt hst)
      have CD := iBarsDo_calls' s' cp' B' d' ds[k] wr (own_rd own) hs' (own_none own) r1 r2 r3 hr
      have HB := Lib.hid hr
      clear hr hu hc
      generalize ds[k] = x at *
      have f6 := B6.c2
      have hk0 : (0 : Int) ≤ (k : Int) := by omega
      have hk1 : (k : Int) < (ds.length : Int) := by omega
      go_wp2_with fail
      refine CD.mono ?_
      rintro e w3 ⟨B9, d9, rfl, own9, b1⟩
      have hw6 := B6.lt
      have hw1 := B1.lt
      have hwr := b7.size
      replace B6 := B6.after b1
      replace B1 := B1.after b1
      replace own := own_after own b1
      replace b7 := below_after' b1 b7
      clear b1 CD f6
      have f6 := B6.c2
      have z6 := B6.lt
      have n3 : ¬ w2.heap.size = w3.heap.size := by omega
      have n4 : ¬ w3.heap.size = w2.heap.size := by omega
      cases r3
      · go_wp2
        go_roundw
        case rel => exact ⟨k + 1, n', s', cp', B', d', hlt, by go_num, rfl, HN.out HB.out, by omega, hs', B6.alloc _, B1.alloc _, own.alloc _, b7.alloc (by omega) _⟩
        case measure => simp [intOf]; omega
      · go_wp2
        go_roundw
        case rel =>
          refine ⟨k + 1, n' + 1, r1, r2, B9, d9, hlt, by go_num, by go_num, HY.out HB.out, by omega, hrl, ?_, ?_, ?_, ?_⟩
          · simpa using ((B6.set_ 0 (.slice B9 r1.length d9)).set_ 1 (.bool r2)).alloc (.cells #[.slice B9 r1.length d9, .bool r2] 26)
          · exact ((B1.far (by simp; omega) _).far (by simp; omega) _).alloc _
          · exact own_mono ((ownsRow_setCell_below (ownsRow_setCell_below own9 (by simp; omega) _) (by simp; omega) _).alloc _) (by omega)
          · exact ((b7.setCell (by simp; omega) _).setCell (by simp; omega) _).alloc (by simp; omega) _
        case measure => simp [intOf]; omega
    · obtain rfl : k = ds.length := by omega
      have f6 := B6.c2
      have f1 := B1.c2
      replace HR := Lib.hid (HR.out.trans hst)
      clear hst
      have z6 := B6.lt
      go_wp2
      exact bodyPost_ret (v := .tuple #[.agg #[.slice B' s'.length d', .bool cp'], .int .i64 n']) (by simp [results, Try.results15, go_sem, *]) rfl (by rw [HR.out]; exact ⟨B', d', rfl, (by refine own_mono (lo := w.heap.size + 2) ?_ (by omega); repeat' (first | assumption | refine World.ownsRow.alloc ?_ _ | refine ownsRow_setCell_below ?_ (by (try simp); (try omega)) _)), (by repeat' (first | exact Below.refl _ _ | assumption | refine Below.drew ?_ | refine cell_drew ?_ | refine Below.setCell ?_ (by (try simp); (try omega)) _ | refine Below.alloc ?_ (by (try simp); (try omega)) _ | refine below_step (by assumption) (by (try simp); (try omega)) ?_))⟩)

theorem iBarsRun_calls (s : List Int) (cp : Bool) (A : Option Addr) (c : Nat) (ds : List Int) (D : Option Addr) (cd : Nat) (w : World) (h : Rd w 1 A s.length (s.map (Value.int .i64))) (hn : s.length ≤ 1048576) (hA : A = none → c = 0) (hd : Rd w 1 D ds.length (ds.map (Value.int .i64))) (hdn : ds.length ≤ 1048576) : Calls Try.prog 15 #[.agg #[.slice A s.length c, .bool cp], .slice D ds.length cd] w (RunPost w (barsRun s cp ds)) := by
  cases hv : barsValid s cp with
  | false => exact iBarsRun_invalid s cp A c ds D cd w h hn hA hd hdn hv
  | true => exact iBarsRun_valid s cp A c ds D cd w h hn hA hd hdn hv

end Go.Proofs.Ytandfbpanaldcaa
