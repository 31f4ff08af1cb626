/- BarsDo of the spec. -/
import Derived.Test.YtandfbpanaldcaaBarsD
namespace Go.Proofs.Ytandfbpanaldcaa
open Go.ChangeShapes Go.WideShapes Go.ChangeAt Go.RowKit
set_option linter.unusedVariables false

set_option maxHeartbeats 1000000 in
theorem sBarsDo_invalid (s : List Int) (cp : Bool) (A : Option Addr) (c : Nat) (deed : Int) (w : World) (h : Rd w 1 A s.length (s.map (Value.int .i64))) (hn : s.length ≤ 1048576) (hdl : -9223372036854775808 ≤ deed) (hdh : deed ≤ 9223372036854775807) (hv : barsValid s cp = false) : Calls Try.prog 7 #[.agg #[.slice A s.length c, .bool cp], .int .i64 deed] w (DoPost w (barsDo s cp deed)) := by
  rw [barsDo_invalid hv]
  have B0 : Bk ((w.alloc (.cells #[.slice A s.length c, .bool cp] 26)).alloc (.cells #[.slice none 0 0, .bool false] 26)) w.heap.size 26 #[.slice A s.length c, .bool cp] := (Bk.new w _ _).alloc _
  have B1 : Bk ((w.alloc (.cells #[.slice A s.length c, .bool cp] 26)).alloc (.cells #[.slice none 0 0, .bool false] 26)) (w.heap.size + 1) 26 #[.slice none 0 0, .bool false] := by simpa using Bk.new (w.alloc _) _ _
  have b7 : Below w.heap.size w ((w.alloc (.cells #[.slice A s.length c, .bool cp] 26)).alloc (.cells #[.slice none 0 0, .bool false] 26)) := (by repeat' (first | exact Below.refl _ _ | assumption | refine Below.drew ?_ | refine cell_drew ?_ | refine Below.setCell ?_ (by (try simp); (try omega)) _ | refine Below.alloc ?_ (by (try simp); (try omega)) _ | refine below_step (by assumption) (by (try simp); (try omega)) ?_))
  have hr := (h.alloc (.cells #[.slice A s.length c, .bool cp] 26)).alloc (.cells #[.slice none 0 0, .bool false] 26)
  go_enter Try.func7, Try.ntmps7
  go_wp2_with fail
  refine (sBarsValid_calls s cp A c _ hr hn).mono ?_
  rintro e w1 ⟨rfl, b1⟩
  replace B1 := B1.after b1
  have f1 := B1.c2
  go_wp2
  exact bodyPost_ret (v := .tuple #[.agg #[.slice none 0 0, .bool false], .bool false]) (by simp [results, Try.results7, go_sem, *]) rfl ⟨none, 0, rfl, World.ownsRow_nil _ _ _ _, (by repeat' (first | exact Below.refl _ _ | assumption | refine Below.drew ?_ | refine cell_drew ?_ | refine Below.setCell ?_ (by (try simp); (try omega)) _ | refine Below.alloc ?_ (by (try simp); (try omega)) _ | refine below_step (by assumption) (by (try simp); (try omega)) ?_))⟩

set_option maxHeartbeats 1000000 in
theorem sBarsDo_out (s : List Int) (cp : Bool) (A : Option Addr) (c : Nat) (deed : Int) (w : World) (h : Rd w 1 A s.length (s.map (Value.int .i64))) (hn : s.length ≤ 1048576) (hdl : -9223372036854775808 ≤ deed) (hdh : deed ≤ 9223372036854775807) (hv : barsValid s cp = true) (hd : deed < 0 ∨ 2 + 4 * (s.length : Int) ≤ deed) : Calls Try.prog 7 #[.agg #[.slice A s.length c, .bool cp], .int .i64 deed] w (DoPost w (barsDo s cp deed)) := by
  have B0 : Bk ((w.alloc (.cells #[.slice A s.length c, .bool cp] 26)).alloc (.cells #[.slice none 0 0, .bool false] 26)) w.heap.size 26 #[.slice A s.length c, .bool cp] := (Bk.new w _ _).alloc _
  have B1 : Bk ((w.alloc (.cells #[.slice A s.length c, .bool cp] 26)).alloc (.cells #[.slice none 0 0, .bool false] 26)) (w.heap.size + 1) 26 #[.slice none 0 0, .bool false] := by simpa using Bk.new (w.alloc _) _ _
  have b7 : Below w.heap.size w ((w.alloc (.cells #[.slice A s.length c, .bool cp] 26)).alloc (.cells #[.slice none 0 0, .bool false] 26)) := (by repeat' (first | exact Below.refl _ _ | assumption | refine Below.drew ?_ | refine cell_drew ?_ | refine Below.setCell ?_ (by (try simp); (try omega)) _ | refine Below.alloc ?_ (by (try simp); (try omega)) _ | refine below_step (by assumption) (by (try simp); (try omega)) ?_))
  have hr := (h.alloc (.cells #[.slice A s.length c, .bool cp] 26)).alloc (.cells #[.slice none 0 0, .bool false] 26)
  obtain ⟨hl1, hl6⟩ := barsValid_length hv
  have hsz : w.heap.size + 2 ≤ (((w.alloc (.cells #[.slice A s.length c, .bool cp] 26)).alloc (.cells #[.slice none 0 0, .bool false] 26))).heap.size := by simp
  go_enter Try.func7, Try.ntmps7
  go_wp2_with fail
  refine (sBarsValid_calls s cp A c _ hr hn).mono ?_
  rintro e w1 ⟨rfl, b1⟩
  replace B0 := B0.after b1
  replace B1 := B1.after b1
  replace hr := hr.after b1
  have f0 := B0.c2
  replace hsz := Nat.le_trans hsz b1.size
  replace b7 := below_after' b1 b7
  clear b1
  go_wp2_with fail
  refine (sCopy_calls s cp A c _ hr hn).mono ?_
  rintro e w2 ⟨B, d, rfl, own, b2⟩
  replace own := own_mono own hsz
  replace B0 := B0.after b2
  replace B1 := B1.after b2
  replace hr := hr.after b2
  replace f0 := B0.c2
  have f1 := B1.c2
  replace hsz := Nat.le_trans hsz b2.size
  replace b7 := below_after' b2 b7
  clear b2
  have z0 : w.heap.size < w2.heap.size := by omega
  have z1 : w.heap.size + 1 < w2.heap.size := by omega
  have n1 : ¬ w.heap.size = w2.heap.size := by omega
  have n2 : ¬ w2.heap.size = w.heap.size := by omega
  have n3 : ¬ w.heap.size + 1 = w2.heap.size := by omega
  have n4 : ¬ w2.heap.size = w.heap.size + 1 := by omega
  have HR := Lib.hid (barsDo_out hv hd : barsDo s cp deed = (s, cp, false))
  have hd01 : (deed == 0) = false := by simp; omega
  have hd02 : (deed == 1) = false := by simp; omega
  rcases hd with hd | hd
  · go_wp2
    exact bodyPost_ret (v := .tuple #[.agg #[.slice B s.length d, .bool cp], .bool false]) (by simp [results, Try.results7, go_sem, *]) rfl (by rw [HR.out]; exact ⟨B, d, rfl, (by refine own_mono (lo := w.heap.size + 2) ?_ (by omega); repeat' (first | assumption | refine World.ownsRow.alloc ?_ _ | refine ownsRow_setCell_below ?_ (by (try simp); (try omega)) _)), (by repeat' (first | exact Below.refl _ _ | assumption | refine Below.drew ?_ | refine cell_drew ?_ | refine Below.setCell ?_ (by (try simp); (try omega)) _ | refine Below.alloc ?_ (by (try simp); (try omega)) _ | refine below_step (by assumption) (by (try simp); (try omega)) ?_))⟩)
  · have hq : (s.length : Int) ≤ (deed - 2) / 4 := by omega
    have hq0 : ¬ deed < 0 := by omega
    have hq1 : 0 ≤ deed - 2 := by omega
    go_wp2
    exact bodyPost_ret (v := .tuple #[.agg #[.slice B s.length d, .bool cp], .bool false]) (by simp [results, Try.results7, go_sem, *]) rfl (by rw [HR.out]; exact ⟨B, d, rfl, (by refine own_mono (lo := w.heap.size + 2) ?_ (by omega); repeat' (first | assumption | refine World.ownsRow.alloc ?_ _ | refine ownsRow_setCell_below ?_ (by (try simp); (try omega)) _)), (by repeat' (first | exact Below.refl _ _ | assumption | refine Below.drew ?_ | refine cell_drew ?_ | refine Below.setCell ?_ (by (try simp); (try omega)) _ | refine Below.alloc ?_ (by (try simp); (try omega)) _ | refine below_step (by assumption) (by (try simp); (try omega)) ?_))⟩)

set_option maxHeartbeats 1000000 in
theorem sBarsDo_c0false (s : List Int) (A : Option Addr) (c : Nat) (w : World) (h : Rd w 1 A s.length (s.map (Value.int .i64))) (hn : s.length ≤ 1048576) (hv : barsValid s false = true) : Calls Try.prog 7 #[.agg #[.slice A s.length c, .bool false], .int .i64 0] w (DoPost w (barsDo s false 0)) := by
  have B0 : Bk ((w.alloc (.cells #[.slice A s.length c, .bool false] 26)).alloc (.cells #[.slice none 0 0, .bool false] 26)) w.heap.size 26 #[.slice A s.length c, .bool false] := (Bk.new w _ _).alloc _
  have B1 : Bk ((w.alloc (.cells #[.slice A s.length c, .bool false] 26)).alloc (.cells #[.slice none 0 0, .bool false] 26)) (w.heap.size + 1) 26 #[.slice none 0 0, .bool false] := by simpa using Bk.new (w.alloc _) _ _
  have b7 : Below w.heap.size w ((w.alloc (.cells #[.slice A s.length c, .bool false] 26)).alloc (.cells #[.slice none 0 0, .bool false] 26)) := (by repeat' (first | exact Below.refl _ _ | assumption | refine Below.drew ?_ | refine cell_drew ?_ | refine Below.setCell ?_ (by (try simp); (try omega)) _ | refine Below.alloc ?_ (by (try simp); (try omega)) _ | refine below_step (by assumption) (by (try simp); (try omega)) ?_))
  have hr := (h.alloc (.cells #[.slice A s.length c, .bool false] 26)).alloc (.cells #[.slice none 0 0, .bool false] 26)
  obtain ⟨hl1, hl6⟩ := barsValid_length hv
  have hsz : w.heap.size + 2 ≤ (((w.alloc (.cells #[.slice A s.length c, .bool false] 26)).alloc (.cells #[.slice none 0 0, .bool false] 26))).heap.size := by simp
  go_enter Try.func7, Try.ntmps7
  go_wp2_with fail
  refine (sBarsValid_calls s false A c _ hr hn).mono ?_
  rintro e w1 ⟨rfl, b1⟩
  replace B0 := B0.after b1
  replace B1 := B1.after b1
  replace hr := hr.after b1
  have f0 := B0.c2
  replace hsz := Nat.le_trans hsz b1.size
  replace b7 := below_after' b1 b7
  clear b1
  go_wp2_with fail
  refine (sCopy_calls s false A c _ hr hn).mono ?_
  rintro e w2 ⟨B, d, rfl, own, b2⟩
  replace own := own_mono own hsz
  replace B0 := B0.after b2
  replace B1 := B1.after b2
  replace hr := hr.after b2
  replace f0 := B0.c2
  have f1 := B1.c2
  replace hsz := Nat.le_trans hsz b2.size
  replace b7 := below_after' b2 b7
  clear b2
  have z0 : w.heap.size < w2.heap.size := by omega
  have z1 : w.heap.size + 1 < w2.heap.size := by omega
  have n1 : ¬ w.heap.size = w2.heap.size := by omega
  have n2 : ¬ w2.heap.size = w.heap.size := by omega
  have n3 : ¬ w.heap.size + 1 = w2.heap.size := by omega
  have n4 : ¬ w2.heap.size = w.heap.size + 1 := by omega
  have B6 : Bk (w2.alloc (.cells #[.slice B s.length d, .bool false] 26)) w2.heap.size 26 #[.slice B s.length d, .bool false] := Bk.new _ _ _
  replace B0 := B0.alloc (.cells #[.slice B s.length d, .bool false] 26)
  replace B1 := B1.alloc (.cells #[.slice B s.length d, .bool false] 26)
  replace own := own.alloc (.cells #[.slice B s.length d, .bool false] 26)
  replace hr := hr.alloc (.cells #[.slice B s.length d, .bool false] 26)
  replace b7 : Below w.heap.size w (w2.alloc (.cells #[.slice B s.length d, .bool false] 26)) := b7.alloc (by omega) _
  have HR := Lib.hid (show barsDo s false 0 = (s, false, false) by rw [barsDo_coupler hv (by omega) (by omega)]; simp [shuts])
  have HV := Lib.hid hv
  clear hv
  go_wp2_with fail
  refine (sBarsValid_calls s false B d _ (own_rd own) hn).mono ?_
  rw [HV.out]
  rintro e w3 ⟨rfl, b3⟩
  replace B0 := B0.after b3
  replace B1 := B1.after b3
  replace B6 := B6.after b3
  replace hr := hr.after b3
  replace own := own_after own b3
  replace b7 := below_after' b3 b7
  have f6 := B6.c2
  replace f0 := B0.c2
  replace f1 := B1.c2
  have hs3 := b3.size
  simp at hs3
  clear b3
  go_wp2_with fail
  refine (sCopy_calls s false A c _ hr hn).mono ?_
  rintro e w4 ⟨B', d', rfl, own', b4⟩
  replace own' := own_mono own' (show w.heap.size + 2 ≤ w3.heap.size by omega)
  replace B1 := B1.after b4
  replace b7 := below_after' b4 b7
  have f1 := B1.c2
  clear f0 n1 n2 n3 n4 z0 z1
  go_wp2
  exact bodyPost_ret (v := .tuple #[.agg #[.slice B' s.length d', .bool false], .bool false]) (by simp [results, Try.results7, go_sem, *]) rfl (by rw [HR.out]; exact ⟨B', d', rfl, (by refine own_mono (lo := w.heap.size + 2) ?_ (by omega); repeat' (first | assumption | refine World.ownsRow.alloc ?_ _ | refine ownsRow_setCell_below ?_ (by (try simp); (try omega)) _)), (by repeat' (first | exact Below.refl _ _ | assumption | refine Below.drew ?_ | refine cell_drew ?_ | refine Below.setCell ?_ (by (try simp); (try omega)) _ | refine Below.alloc ?_ (by (try simp); (try omega)) _ | refine below_step (by assumption) (by (try simp); (try omega)) ?_))⟩)

set_option maxHeartbeats 1000000 in
theorem sBarsDo_c0true (s : List Int) (A : Option Addr) (c : Nat) (w : World) (h : Rd w 1 A s.length (s.map (Value.int .i64))) (hn : s.length ≤ 1048576) (hv : barsValid s true = true) : Calls Try.prog 7 #[.agg #[.slice A s.length c, .bool true], .int .i64 0] w (DoPost w (barsDo s true 0)) := by
  have B0 : Bk ((w.alloc (.cells #[.slice A s.length c, .bool true] 26)).alloc (.cells #[.slice none 0 0, .bool false] 26)) w.heap.size 26 #[.slice A s.length c, .bool true] := (Bk.new w _ _).alloc _
  have B1 : Bk ((w.alloc (.cells #[.slice A s.length c, .bool true] 26)).alloc (.cells #[.slice none 0 0, .bool false] 26)) (w.heap.size + 1) 26 #[.slice none 0 0, .bool false] := by simpa using Bk.new (w.alloc _) _ _
  have b7 : Below w.heap.size w ((w.alloc (.cells #[.slice A s.length c, .bool true] 26)).alloc (.cells #[.slice none 0 0, .bool false] 26)) := (by repeat' (first | exact Below.refl _ _ | assumption | refine Below.drew ?_ | refine cell_drew ?_ | refine Below.setCell ?_ (by (try simp); (try omega)) _ | refine Below.alloc ?_ (by (try simp); (try omega)) _ | refine below_step (by assumption) (by (try simp); (try omega)) ?_))
  have hr := (h.alloc (.cells #[.slice A s.length c, .bool true] 26)).alloc (.cells #[.slice none 0 0, .bool false] 26)
  obtain ⟨hl1, hl6⟩ := barsValid_length hv
  have hsz : w.heap.size + 2 ≤ (((w.alloc (.cells #[.slice A s.length c, .bool true] 26)).alloc (.cells #[.slice none 0 0, .bool false] 26))).heap.size := by simp
  go_enter Try.func7, Try.ntmps7
  go_wp2_with fail
  refine (sBarsValid_calls s true A c _ hr hn).mono ?_
  rintro e w1 ⟨rfl, b1⟩
  replace B0 := B0.after b1
  replace B1 := B1.after b1
  replace hr := hr.after b1
  have f0 := B0.c2
  replace hsz := Nat.le_trans hsz b1.size
  replace b7 := below_after' b1 b7
  clear b1
  go_wp2_with fail
  refine (sCopy_calls s true A c _ hr hn).mono ?_
  rintro e w2 ⟨B, d, rfl, own, b2⟩
  replace own := own_mono own hsz
  replace B0 := B0.after b2
  replace B1 := B1.after b2
  replace hr := hr.after b2
  replace f0 := B0.c2
  have f1 := B1.c2
  replace hsz := Nat.le_trans hsz b2.size
  replace b7 := below_after' b2 b7
  clear b2
  have z0 : w.heap.size < w2.heap.size := by omega
  have z1 : w.heap.size + 1 < w2.heap.size := by omega
  have n1 : ¬ w.heap.size = w2.heap.size := by omega
  have n2 : ¬ w2.heap.size = w.heap.size := by omega
  have n3 : ¬ w.heap.size + 1 = w2.heap.size := by omega
  have n4 : ¬ w2.heap.size = w.heap.size + 1 := by omega
  have B6 : Bk (w2.alloc (.cells #[.slice B s.length d, .bool false] 26)) w2.heap.size 26 #[.slice B s.length d, .bool false] := Bk.new _ _ _
  replace B0 := B0.alloc (.cells #[.slice B s.length d, .bool false] 26)
  replace B1 := B1.alloc (.cells #[.slice B s.length d, .bool false] 26)
  replace own := own.alloc (.cells #[.slice B s.length d, .bool false] 26)
  replace hr := hr.alloc (.cells #[.slice B s.length d, .bool false] 26)
  replace b7 : Below w.heap.size w (w2.alloc (.cells #[.slice B s.length d, .bool false] 26)) := b7.alloc (by omega) _
  cases hv2 : barsValid s false
  · have HR := Lib.hid (show barsDo s true 0 = (s, true, false) by rw [barsDo_coupler hv (by omega) (by omega)]; simp [shuts, hv2])
    have HV := Lib.hid hv2
    clear hv2
    go_wp2_with fail
    refine (sBarsValid_calls s false B d _ (own_rd own) hn).mono ?_
    rw [HV.out]
    rintro e w3 ⟨rfl, b3⟩
    replace B0 := B0.after b3
    replace B1 := B1.after b3
    replace B6 := B6.after b3
    replace hr := hr.after b3
    replace own := own_after own b3
    replace b7 := below_after' b3 b7
    have f6 := B6.c2
    replace f0 := B0.c2
    replace f1 := B1.c2
    have hs3 := b3.size
    simp at hs3
    clear b3
    go_wp2_with fail
    refine (sCopy_calls s true A c _ hr hn).mono ?_
    rintro e w4 ⟨B', d', rfl, own', b4⟩
    replace own' := own_mono own' (show w.heap.size + 2 ≤ w3.heap.size by omega)
    replace B1 := B1.after b4
    replace b7 := below_after' b4 b7
    have f1 := B1.c2
    clear f0 n1 n2 n3 n4 z0 z1
    go_wp2
    exact bodyPost_ret (v := .tuple #[.agg #[.slice B' s.length d', .bool true], .bool false]) (by simp [results, Try.results7, go_sem, *]) rfl (by rw [HR.out]; exact ⟨B', d', rfl, (by refine own_mono (lo := w.heap.size + 2) ?_ (by omega); repeat' (first | assumption | refine World.ownsRow.alloc ?_ _ | refine ownsRow_setCell_below ?_ (by (try simp); (try omega)) _)), (by repeat' (first | exact Below.refl _ _ | assumption | refine Below.drew ?_ | refine cell_drew ?_ | refine Below.setCell ?_ (by (try simp); (try omega)) _ | refine Below.alloc ?_ (by (try simp); (try omega)) _ | refine below_step (by assumption) (by (try simp); (try omega)) ?_))⟩)
  · have HR := Lib.hid (show barsDo s true 0 = (s, false, true) by rw [barsDo_coupler hv (by omega) (by omega)]; simp [shuts, hv2])
    have HV := Lib.hid hv2
    clear hv2
    go_wp2_with fail
    refine (sBarsValid_calls s false B d _ (own_rd own) hn).mono ?_
    rw [HV.out]
    rintro e w3 ⟨rfl, b3⟩
    replace B0 := B0.after b3
    replace B1 := B1.after b3
    replace B6 := B6.after b3
    replace hr := hr.after b3
    replace own := own_after own b3
    replace b7 := below_after' b3 b7
    have f6 := B6.c2
    replace f0 := B0.c2
    replace f1 := B1.c2
    have hs3 := b3.size
    simp at hs3
    clear b3
    go_wp2
    exact bodyPost_ret (v := .tuple #[.agg #[.slice B s.length d, .bool false], .bool true]) (by simp [results, Try.results7, go_sem, *]) rfl (by rw [HR.out]; exact ⟨B, d, rfl, (by refine own_mono (lo := w.heap.size + 2) ?_ (by omega); repeat' (first | assumption | refine World.ownsRow.alloc ?_ _ | refine ownsRow_setCell_below ?_ (by (try simp); (try omega)) _)), (by repeat' (first | exact Below.refl _ _ | assumption | refine Below.drew ?_ | refine cell_drew ?_ | refine Below.setCell ?_ (by (try simp); (try omega)) _ | refine Below.alloc ?_ (by (try simp); (try omega)) _ | refine below_step (by assumption) (by (try simp); (try omega)) ?_))⟩)

set_option maxHeartbeats 1000000 in
theorem sBarsDo_c1false (s : List Int) (A : Option Addr) (c : Nat) (w : World) (h : Rd w 1 A s.length (s.map (Value.int .i64))) (hn : s.length ≤ 1048576) (hv : barsValid s false = true) : Calls Try.prog 7 #[.agg #[.slice A s.length c, .bool false], .int .i64 1] w (DoPost w (barsDo s false 1)) := by
  have B0 : Bk ((w.alloc (.cells #[.slice A s.length c, .bool false] 26)).alloc (.cells #[.slice none 0 0, .bool false] 26)) w.heap.size 26 #[.slice A s.length c, .bool false] := (Bk.new w _ _).alloc _
  have B1 : Bk ((w.alloc (.cells #[.slice A s.length c, .bool false] 26)).alloc (.cells #[.slice none 0 0, .bool false] 26)) (w.heap.size + 1) 26 #[.slice none 0 0, .bool false] := by simpa using Bk.new (w.alloc _) _ _
  have b7 : Below w.heap.size w ((w.alloc (.cells #[.slice A s.length c, .bool false] 26)).alloc (.cells #[.slice none 0 0, .bool false] 26)) := (by repeat' (first | exact Below.refl _ _ | assumption | refine Below.drew ?_ | refine cell_drew ?_ | refine Below.setCell ?_ (by (try simp); (try omega)) _ | refine Below.alloc ?_ (by (try simp); (try omega)) _ | refine below_step (by assumption) (by (try simp); (try omega)) ?_))
  have hr := (h.alloc (.cells #[.slice A s.length c, .bool false] 26)).alloc (.cells #[.slice none 0 0, .bool false] 26)
  obtain ⟨hl1, hl6⟩ := barsValid_length hv
  have hsz : w.heap.size + 2 ≤ (((w.alloc (.cells #[.slice A s.length c, .bool false] 26)).alloc (.cells #[.slice none 0 0, .bool false] 26))).heap.size := by simp
  go_enter Try.func7, Try.ntmps7
  go_wp2_with fail
  refine (sBarsValid_calls s false A c _ hr hn).mono ?_
  rintro e w1 ⟨rfl, b1⟩
  replace B0 := B0.after b1
  replace B1 := B1.after b1
  replace hr := hr.after b1
  have f0 := B0.c2
  replace hsz := Nat.le_trans hsz b1.size
  replace b7 := below_after' b1 b7
  clear b1
  go_wp2_with fail
  refine (sCopy_calls s false A c _ hr hn).mono ?_
  rintro e w2 ⟨B, d, rfl, own, b2⟩
  replace own := own_mono own hsz
  replace B0 := B0.after b2
  replace B1 := B1.after b2
  replace hr := hr.after b2
  replace f0 := B0.c2
  have f1 := B1.c2
  replace hsz := Nat.le_trans hsz b2.size
  replace b7 := below_after' b2 b7
  clear b2
  have z0 : w.heap.size < w2.heap.size := by omega
  have z1 : w.heap.size + 1 < w2.heap.size := by omega
  have n1 : ¬ w.heap.size = w2.heap.size := by omega
  have n2 : ¬ w2.heap.size = w.heap.size := by omega
  have n3 : ¬ w.heap.size + 1 = w2.heap.size := by omega
  have n4 : ¬ w2.heap.size = w.heap.size + 1 := by omega
  have B6 : Bk (w2.alloc (.cells #[.slice B s.length d, .bool true] 26)) w2.heap.size 26 #[.slice B s.length d, .bool true] := Bk.new _ _ _
  replace B0 := B0.alloc (.cells #[.slice B s.length d, .bool true] 26)
  replace B1 := B1.alloc (.cells #[.slice B s.length d, .bool true] 26)
  replace own := own.alloc (.cells #[.slice B s.length d, .bool true] 26)
  replace hr := hr.alloc (.cells #[.slice B s.length d, .bool true] 26)
  replace b7 : Below w.heap.size w (w2.alloc (.cells #[.slice B s.length d, .bool true] 26)) := b7.alloc (by omega) _
  cases hv2 : barsValid s true
  · have HR := Lib.hid (show barsDo s false 1 = (s, false, false) by rw [barsDo_coupler hv (by omega) (by omega)]; simp [shuts, hv2])
    have HV := Lib.hid hv2
    clear hv2
    go_wp2_with fail
    refine (sBarsValid_calls s true B d _ (own_rd own) hn).mono ?_
    rw [HV.out]
    rintro e w3 ⟨rfl, b3⟩
    replace B0 := B0.after b3
    replace B1 := B1.after b3
    replace B6 := B6.after b3
    replace hr := hr.after b3
    replace own := own_after own b3
    replace b7 := below_after' b3 b7
    have f6 := B6.c2
    replace f0 := B0.c2
    replace f1 := B1.c2
    have hs3 := b3.size
    simp at hs3
    clear b3
    go_wp2_with fail
    refine (sCopy_calls s false A c _ hr hn).mono ?_
    rintro e w4 ⟨B', d', rfl, own', b4⟩
    replace own' := own_mono own' (show w.heap.size + 2 ≤ w3.heap.size by omega)
    replace B1 := B1.after b4
    replace b7 := below_after' b4 b7
    have f1 := B1.c2
    clear f0 n1 n2 n3 n4 z0 z1
    go_wp2
    exact bodyPost_ret (v := .tuple #[.agg #[.slice B' s.length d', .bool false], .bool false]) (by simp [results, Try.results7, go_sem, *]) rfl (by rw [HR.out]; exact ⟨B', d', rfl, (by refine own_mono (lo := w.heap.size + 2) ?_ (by omega); repeat' (first | assumption | refine World.ownsRow.alloc ?_ _ | refine ownsRow_setCell_below ?_ (by (try simp); (try omega)) _)), (by repeat' (first | exact Below.refl _ _ | assumption | refine Below.drew ?_ | refine cell_drew ?_ | refine Below.setCell ?_ (by (try simp); (try omega)) _ | refine Below.alloc ?_ (by (try simp); (try omega)) _ | refine below_step (by assumption) (by (try simp); (try omega)) ?_))⟩)
  · have HR := Lib.hid (show barsDo s false 1 = (s, true, true) by rw [barsDo_coupler hv (by omega) (by omega)]; simp [shuts, hv2])
    have HV := Lib.hid hv2
    clear hv2
    go_wp2_with fail
    refine (sBarsValid_calls s true B d _ (own_rd own) hn).mono ?_
    rw [HV.out]
    rintro e w3 ⟨rfl, b3⟩
    replace B0 := B0.after b3
    replace B1 := B1.after b3
    replace B6 := B6.after b3
    replace hr := hr.after b3
    replace own := own_after own b3
    replace b7 := below_after' b3 b7
    have f6 := B6.c2
    replace f0 := B0.c2
    replace f1 := B1.c2
    have hs3 := b3.size
    simp at hs3
    clear b3
    go_wp2
    exact bodyPost_ret (v := .tuple #[.agg #[.slice B s.length d, .bool true], .bool true]) (by simp [results, Try.results7, go_sem, *]) rfl (by rw [HR.out]; exact ⟨B, d, rfl, (by refine own_mono (lo := w.heap.size + 2) ?_ (by omega); repeat' (first | assumption | refine World.ownsRow.alloc ?_ _ | refine ownsRow_setCell_below ?_ (by (try simp); (try omega)) _)), (by repeat' (first | exact Below.refl _ _ | assumption | refine Below.drew ?_ | refine cell_drew ?_ | refine Below.setCell ?_ (by (try simp); (try omega)) _ | refine Below.alloc ?_ (by (try simp); (try omega)) _ | refine below_step (by assumption) (by (try simp); (try omega)) ?_))⟩)

set_option maxHeartbeats 1000000 in
theorem sBarsDo_c1true (s : List Int) (A : Option Addr) (c : Nat) (w : World) (h : Rd w 1 A s.length (s.map (Value.int .i64))) (hn : s.length ≤ 1048576) (hv : barsValid s true = true) : Calls Try.prog 7 #[.agg #[.slice A s.length c, .bool true], .int .i64 1] w (DoPost w (barsDo s true 1)) := by
  have B0 : Bk ((w.alloc (.cells #[.slice A s.length c, .bool true] 26)).alloc (.cells #[.slice none 0 0, .bool false] 26)) w.heap.size 26 #[.slice A s.length c, .bool true] := (Bk.new w _ _).alloc _
  have B1 : Bk ((w.alloc (.cells #[.slice A s.length c, .bool true] 26)).alloc (.cells #[.slice none 0 0, .bool false] 26)) (w.heap.size + 1) 26 #[.slice none 0 0, .bool false] := by simpa using Bk.new (w.alloc _) _ _
  have b7 : Below w.heap.size w ((w.alloc (.cells #[.slice A s.length c, .bool true] 26)).alloc (.cells #[.slice none 0 0, .bool false] 26)) := (by repeat' (first | exact Below.refl _ _ | assumption | refine Below.drew ?_ | refine cell_drew ?_ | refine Below.setCell ?_ (by (try simp); (try omega)) _ | refine Below.alloc ?_ (by (try simp); (try omega)) _ | refine below_step (by assumption) (by (try simp); (try omega)) ?_))
  have hr := (h.alloc (.cells #[.slice A s.length c, .bool true] 26)).alloc (.cells #[.slice none 0 0, .bool false] 26)
  obtain ⟨hl1, hl6⟩ := barsValid_length hv
  have hsz : w.heap.size + 2 ≤ (((w.alloc (.cells #[.slice A s.length c, .bool true] 26)).alloc (.cells #[.slice none 0 0, .bool false] 26))).heap.size := by simp
  go_enter Try.func7, Try.ntmps7
  go_wp2_with fail
  refine (sBarsValid_calls s true A c _ hr hn).mono ?_
  rintro e w1 ⟨rfl, b1⟩
  replace B0 := B0.after b1
  replace B1 := B1.after b1
  replace hr := hr.after b1
  have f0 := B0.c2
  replace hsz := Nat.le_trans hsz b1.size
  replace b7 := below_after' b1 b7
  clear b1
  go_wp2_with fail
  refine (sCopy_calls s true A c _ hr hn).mono ?_
  rintro e w2 ⟨B, d, rfl, own, b2⟩
  replace own := own_mono own hsz
  replace B0 := B0.after b2
  replace B1 := B1.after b2
  replace hr := hr.after b2
  replace f0 := B0.c2
  have f1 := B1.c2
  replace hsz := Nat.le_trans hsz b2.size
  replace b7 := below_after' b2 b7
  clear b2
  have z0 : w.heap.size < w2.heap.size := by omega
  have z1 : w.heap.size + 1 < w2.heap.size := by omega
  have n1 : ¬ w.heap.size = w2.heap.size := by omega
  have n2 : ¬ w2.heap.size = w.heap.size := by omega
  have n3 : ¬ w.heap.size + 1 = w2.heap.size := by omega
  have n4 : ¬ w2.heap.size = w.heap.size + 1 := by omega
  have B6 : Bk (w2.alloc (.cells #[.slice B s.length d, .bool true] 26)) w2.heap.size 26 #[.slice B s.length d, .bool true] := Bk.new _ _ _
  replace B0 := B0.alloc (.cells #[.slice B s.length d, .bool true] 26)
  replace B1 := B1.alloc (.cells #[.slice B s.length d, .bool true] 26)
  replace own := own.alloc (.cells #[.slice B s.length d, .bool true] 26)
  replace hr := hr.alloc (.cells #[.slice B s.length d, .bool true] 26)
  replace b7 : Below w.heap.size w (w2.alloc (.cells #[.slice B s.length d, .bool true] 26)) := b7.alloc (by omega) _
  have HR := Lib.hid (show barsDo s true 1 = (s, true, false) by rw [barsDo_coupler hv (by omega) (by omega)]; simp [shuts])
  have HV := Lib.hid hv
  clear hv
  go_wp2_with fail
  refine (sBarsValid_calls s true B d _ (own_rd own) hn).mono ?_
  rw [HV.out]
  rintro e w3 ⟨rfl, b3⟩
  replace B0 := B0.after b3
  replace B1 := B1.after b3
  replace B6 := B6.after b3
  replace hr := hr.after b3
  replace own := own_after own b3
  replace b7 := below_after' b3 b7
  have f6 := B6.c2
  replace f0 := B0.c2
  replace f1 := B1.c2
  have hs3 := b3.size
  simp at hs3
  clear b3
  go_wp2_with fail
  refine (sCopy_calls s true A c _ hr hn).mono ?_
  rintro e w4 ⟨B', d', rfl, own', b4⟩
  replace own' := own_mono own' (show w.heap.size + 2 ≤ w3.heap.size by omega)
  replace B1 := B1.after b4
  replace b7 := below_after' b4 b7
  have f1 := B1.c2
  clear f0 n1 n2 n3 n4 z0 z1
  go_wp2
  exact bodyPost_ret (v := .tuple #[.agg #[.slice B' s.length d', .bool true], .bool false]) (by simp [results, Try.results7, go_sem, *]) rfl (by rw [HR.out]; exact ⟨B', d', rfl, (by refine own_mono (lo := w.heap.size + 2) ?_ (by omega); repeat' (first | assumption | refine World.ownsRow.alloc ?_ _ | refine ownsRow_setCell_below ?_ (by (try simp); (try omega)) _)), (by repeat' (first | exact Below.refl _ _ | assumption | refine Below.drew ?_ | refine cell_drew ?_ | refine Below.setCell ?_ (by (try simp); (try omega)) _ | refine Below.alloc ?_ (by (try simp); (try omega)) _ | refine below_step (by assumption) (by (try simp); (try omega)) ?_))⟩)

end Go.Proofs.Ytandfbpanaldcaa
