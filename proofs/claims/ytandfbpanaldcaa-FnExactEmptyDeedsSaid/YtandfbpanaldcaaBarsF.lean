/- BarsDo of the spec: a deed with an isolator. -/
import Derived.Test.YtandfbpanaldcaaBarsE
namespace Go.Proofs.Ytandfbpanaldcaa
open Go.ChangeShapes Go.WideShapes Go.ChangeAt Go.RowKit
set_option linter.unusedVariables false

theorem side_nums (x bar : Int) (hx : x = 1 ∨ x = 2 ∨ x = 3) (hb : bar = 1 ∨ bar = 2) (deed : Int) : (x / bar % 2 == deed % 2) = (onBar x bar == shuts deed) := by
  have h1 : x / bar % 2 = 0 ∨ x / bar % 2 = 1 := by omega
  have h2 : deed % 2 = 0 ∨ deed % 2 = 1 := by omega
  unfold onBar shuts
  rcases h1 with h1 | h1 <;> rcases h2 with h2 | h2 <;> rw [h1, h2] <;> decide

set_option maxHeartbeats 2000000 in
theorem sBarsDo_side (s : List Int) (cp : Bool) (A : Option Addr) (c : Nat) (deed : Int) (w : World) (h : Rd w 1 A s.length (s.map (Value.int .i64))) (hn : s.length ≤ 1048576) (hdl : -9223372036854775808 ≤ deed) (hdh : deed ≤ 9223372036854775807) (hv : barsValid s cp = true) (hd0 : 2 ≤ deed) (hd1 : deed < 2 + 4 * (s.length : Int)) : Calls Try.prog 7 #[.agg #[.slice A s.length c, .bool cp], .int .i64 deed] w (DoPost w (barsDo s cp deed)) := by
  have B0 : Bk ((w.alloc (.cells #[.slice A s.length c, .bool cp] 26)).alloc (.cells #[.slice none 0 0, .bool false] 26)) w.heap.size 26 #[.slice A s.length c, .bool cp] := (Bk.new w _ _).alloc _
  have B1 : Bk ((w.alloc (.cells #[.slice A s.length c, .bool cp] 26)).alloc (.cells #[.slice none 0 0, .bool false] 26)) (w.heap.size + 1) 26 #[.slice none 0 0, .bool false] := by simpa using Bk.new (w.alloc _) _ _
  have b7 : Below w.heap.size w ((w.alloc (.cells #[.slice A s.length c, .bool cp] 26)).alloc (.cells #[.slice none 0 0, .bool false] 26)) := (by repeat' (first | exact Below.refl _ _ | assumption | refine Below.drew ?_ | refine cell_drew ?_ | refine Below.setCell ?_ (by (try simp); (try omega)) _ | refine Below.alloc ?_ (by (try simp); (try omega)) _ | refine below_step (by assumption) (by (try simp); (try omega)) ?_))
  have hr := (h.alloc (.cells #[.slice A s.length c, .bool cp] 26)).alloc (.cells #[.slice none 0 0, .bool false] 26)
  obtain ⟨hl1, hl6⟩ := barsValid_length hv
  have hsz : w.heap.size + 2 ≤ (((w.alloc (.cells #[.slice A s.length c, .bool cp] 26)).alloc (.cells #[.slice none 0 0, .bool false] 26))).heap.size := by simp
  go_enter Try.func7, Try.ntmps7
  go_wp2_with fail
  refine (sBarsValid_calls s cp A c _ hr hn).mono ?_
  rintro e w1 ⟨rfl, b1⟩
  replace B0 := B0.after b1
  replace B1 := B1.after b1
  replace hr := hr.after b1
  have f0 := B0.c2
  replace hsz := Nat.le_trans hsz b1.size
  replace b7 := below_after' b1 b7
  clear b1
  go_wp2_with fail
  refine (sCopy_calls s cp A c _ hr hn).mono ?_
  rintro e w2 ⟨B, d, rfl, own, b2⟩
  replace own := own_mono own hsz
  replace B0 := B0.after b2
  replace B1 := B1.after b2
  replace hr := hr.after b2
  replace f0 := B0.c2
  have f1 := B1.c2
  replace hsz := Nat.le_trans hsz b2.size
  replace b7 := below_after' b2 b7
  clear b2
  have z0 : w.heap.size < w2.heap.size := by omega
  have z1 : w.heap.size + 1 < w2.heap.size := by omega
  have n1 : ¬ w.heap.size = w2.heap.size := by omega
  have n2 : ¬ w2.heap.size = w.heap.size := by omega
  have n3 : ¬ w.heap.size + 1 = w2.heap.size := by omega
  have n4 : ¬ w2.heap.size = w.heap.size + 1 := by omega
  obtain ⟨g, cs, rfl, hlo, Bg, hcs, hnd, hdm, htk⟩ := own_some own (by omega)
  have hk : deedBay deed < s.length := by unfold deedBay; omega
  have hbay : (deed - 2) / 4 = ((deedBay deed : Nat) : Int) := by unfold deedBay; omega
  have hx := barsValid_side hv hk
  have hb01 : deedBar deed = 1 ∨ deedBar deed = 2 := by unfold deedBar; omega
  have hsx : sideAt s (deedBay deed) = s[deedBay deed] := by simp [sideAt, hk]
  have hrule := barsDo_side hv hd0 hd1
  rw [hsx, ← side_nums _ _ hx hb01] at hrule
  have hfl : onBar s[deedBay deed] (deedBar deed) ≠ shuts deed → flipBar s[deedBay deed] (deedBar deed) = if shuts deed then s[deedBay deed] + deedBar deed else s[deedBay deed] - deedBar deed := by
    unfold flipBar
    cases onBar s[deedBay deed] (deedBar deed) <;> cases shuts deed <;> simp
  have hfl' : (s[deedBay deed] / deedBar deed % 2 == deed % 2) = false → flipBar s[deedBay deed] (deedBar deed) = if shuts deed then s[deedBay deed] + deedBar deed else s[deedBay deed] - deedBar deed := by
    intro e
    apply hfl
    rw [side_nums _ _ hx hb01] at e
    simpa using e
  obtain ⟨b, off, rfl, hb, u, hu, hc⟩ := hr.at1 hk
  have hue : u = .int .i64 s[deedBay deed] := by
    rw [List.getElem?_map, List.getElem?_eq_getElem hk] at hu
    injection hu with hu
    exact hu.symm
  subst hue
  have hcell : cs[deedBay deed]? = some (.int .i64 s[deedBay deed]) := by
    have h1 : (cs.take s.length)[deedBay deed]? = cs[deedBay deed]? := by rw [List.getElem?_take, if_pos hk]
    rw [← h1, htk]
    simp [hk]
  obtain ⟨fg, fz⟩ := Bg.atl hcell
  have zg := Bg.lt
  have ng : ¬ g = w2.heap.size := by omega
  have ng' : ¬ w2.heap.size = g := by omega
  have nb : ¬ b = w2.heap.size := by omega
  have nb' : ¬ w2.heap.size = b := by omega
  have hkd : ((deedBay deed : Nat) : Int) < (d : Int) := by omega
  have hdb : 1 + (deed - 2) / 2 % 2 = deedBar deed := rfl
  have HR := Lib.hid hrule
  have HF := Lib.hid hfl'
  clear hrule hsx hcell hfl hfl' hu
  have hset : (s.set (deedBay deed) (flipBar s[deedBay deed] (deedBar deed))).length = s.length := by simp
  have hcsx : (cs.set (deedBay deed) (.int .i64 (flipBar s[deedBay deed] (deedBar deed)))).take s.length = (s.set (deedBay deed) (flipBar s[deedBay deed] (deedBar deed))).map (Value.int .i64) := by
    rw [List.take_set, htk, List.map_set]
  generalize deedBar deed = bar at *
  generalize deedBay deed = k at *
  generalize flipBar s[k] bar = x' at *
  generalize s[k] = x at *
  have H1 := Lib.hid hset
  have H2 := Lib.hid hcsx
  clear hset hcsx
  have hd01 : (deed == 0) = false := by simp; omega
  have hd02 : (deed == 1) = false := by simp; omega
  have hk0 : (0 : Int) ≤ (k : Int) := by omega
  have hk1 : (k : Int) < (s.length : Int) := by omega
  have hb1 : ¬ bar = 0 := by omega
  have hb2 : 0 ≤ bar := by omega
  have hx1 : 0 ≤ x := by omega
  have ht : (x / bar).tmod 2 = x / bar % 2 := Int.tmod_eq_emod_of_nonneg (Int.ediv_nonneg hx1 hb2)
  cases hq : (x / bar % 2 == deed % 2)
  · rw [← ht] at hq
    have HFx := HF.out (by rw [← ht]; exact hq)
    have HR2 := HR.out
    rw [← ht, hq] at HR2
    simp only [Bool.false_eq_true, if_false] at HR2
    replace HR2 := Lib.hid HR2
    clear HR HF ht
    cases hsd : shuts deed
    · have hsd' : (deed % 2 == 1) = false := hsd
      have hx' : x - bar = x' := by rw [HFx, hsd]; simp
      clear HFx hsd
      go_wp2
      go_region
      have W5B0 : Bk ((w2.setCell ⟨g, k, none⟩ (.int .i64 x')).alloc (.cells #[.slice (some ⟨g, 0, none⟩) s.length d, .bool cp] 26)).drew w.heap.size 26 #[.slice (some ⟨b, off, none⟩) s.length c, .bool cp] := ((B0.far (by simp; omega) _).alloc _).drew
      have W5B1 : Bk ((w2.setCell ⟨g, k, none⟩ (.int .i64 x')).alloc (.cells #[.slice (some ⟨g, 0, none⟩) s.length d, .bool cp] 26)).drew (w.heap.size + 1) 26 #[.slice none 0 0, .bool false] := ((B1.far (by simp; omega) _).alloc _).drew
      have B6 : Bk ((w2.setCell ⟨g, k, none⟩ (.int .i64 x')).alloc (.cells #[.slice (some ⟨g, 0, none⟩) s.length d, .bool cp] 26)).drew w2.heap.size 26 #[.slice (some ⟨g, 0, none⟩) s.length d, .bool cp] := by simpa using (Bk.new (w2.setCell ⟨g, k, none⟩ (.int .i64 x')) 26 #[.slice (some ⟨g, 0, none⟩) s.length d, .bool cp]).drew
      have b75 : Below w.heap.size w ((w2.setCell ⟨g, k, none⟩ (.int .i64 x')).alloc (.cells #[.slice (some ⟨g, 0, none⟩) s.length d, .bool cp] 26)).drew := (by repeat' (first | exact Below.refl _ _ | assumption | refine Below.drew ?_ | refine cell_drew ?_ | refine Below.setCell ?_ (by (try simp); (try omega)) _ | refine Below.alloc ?_ (by (try simp); (try omega)) _ | refine below_step (by assumption) (by (try simp); (try omega)) ?_))
      have hr5 : Rd ((w2.setCell ⟨g, k, none⟩ (.int .i64 x')).alloc (.cells #[.slice (some ⟨g, 0, none⟩) s.length d, .bool cp] 26)).drew 1 (some ⟨b, off, none⟩) s.length (s.map (Value.int .i64)) := h.after b75
      have own5 : (((w2.setCell ⟨g, k, none⟩ (.int .i64 x')).alloc (.cells #[.slice (some ⟨g, 0, none⟩) s.length d, .bool cp] 26)).drew).ownsRow (w.heap.size + 2) 3 1 (.slice (some ⟨g, 0, none⟩) (s.set k x').length d) (s.set k x').length ((s.set k x').map (Value.int .i64)) := by
        rw [H1.out]
        exact own_cap (((Bg.setl k (.int .i64 x')).alloc _).drew) hlo hnd hdm (by simpa using hcs) H2.out
      have hsz5 : w.heap.size + 2 ≤ (((w2.setCell ⟨g, k, none⟩ (.int .i64 x')).alloc (.cells #[.slice (some ⟨g, 0, none⟩) s.length d, .bool cp] 26)).drew).heap.size := by simp; omega
      have H1' := H1.out
      generalize ((w2.setCell ⟨g, k, none⟩ (.int .i64 x')).alloc (.cells #[.slice (some ⟨g, 0, none⟩) s.length d, .bool cp] 26)).drew = w5 at *
      generalize s.set k x' = s' at *
      clear B0 B1 hr b7 own Bg f0 f1 fg fz H2 htk hc
      have f6 := B6.c2
      have hn' : s'.length ≤ 1048576 := by omega
      have CV := sBarsValid_calls s' cp _ d w5 (own_rd own5) hn'
      rw [H1'] at CV
      cases hv2 : barsValid s' cp
      · have HR := HR2.out
        rw [hv2] at HR
        simp only [Bool.false_eq_true, if_false] at HR
        replace HR := Lib.hid HR
        rw [hv2] at CV
        clear HR2 hv2
        go_wp2_with fail
        refine CV.mono ?_
        rintro e w3 ⟨rfl, b3⟩
        replace B0 := W5B0.after b3
        replace B1 := W5B1.after b3
        replace hr := hr5.after b3
        replace b7 := below_after' b3 b75
        have f0 := B0.c2
        have hs3 := b3.size
        clear own5 B6 b3 f6 W5B0 W5B1 b75 hr5 CV
        go_wp2_with fail
        refine (sCopy_calls s cp (some ⟨b, off, none⟩) c _ hr hn).mono ?_
        rintro e w4 ⟨B', d', rfl, own', b4⟩
        replace own' := own_mono own' (show w.heap.size + 2 ≤ w3.heap.size by omega)
        replace B1 := B1.after b4
        replace b7 := below_after' b4 b7
        have f1 := B1.c2
        clear f0 n1 n2 n3 n4 z0 z1
        go_wp2
        exact bodyPost_ret (v := .tuple #[.agg #[.slice B' s.length d', .bool cp], .bool false]) (by simp [results, Try.results7, go_sem, *]) rfl (by rw [HR.out]; exact ⟨B', d', rfl, (by refine own_mono (lo := w.heap.size + 2) ?_ (by omega); repeat' (first | assumption | refine World.ownsRow.alloc ?_ _ | refine ownsRow_setCell_below ?_ (by (try simp); (try omega)) _)), (by repeat' (first | exact Below.refl _ _ | assumption | refine Below.drew ?_ | refine cell_drew ?_ | refine Below.setCell ?_ (by (try simp); (try omega)) _ | refine Below.alloc ?_ (by (try simp); (try omega)) _ | refine below_step (by assumption) (by (try simp); (try omega)) ?_))⟩)
      · have HR := HR2.out
        rw [hv2] at HR
        simp only [if_true] at HR
        replace HR := Lib.hid HR
        rw [hv2] at CV
        clear HR2 hv2
        go_wp2_with fail
        refine CV.mono ?_
        rintro e w3 ⟨rfl, b3⟩
        replace B1 := W5B1.after b3
        replace B6 := B6.after b3
        replace own := own_after own5 b3
        replace b7 := below_after' b3 b75
        replace f6 := B6.c2
        have f1 := B1.c2
        clear b3 W5B0 W5B1 CV hr5 b75 own5
        go_wp2
        exact bodyPost_ret (v := .tuple #[.agg #[.slice (some ⟨g, 0, none⟩) s'.length d, .bool cp], .bool true]) (by simp [results, Try.results7, go_sem, *]) rfl (by rw [HR.out]; exact ⟨_, d, rfl, (by refine own_mono (lo := w.heap.size + 2) ?_ (by omega); repeat' (first | assumption | refine World.ownsRow.alloc ?_ _ | refine ownsRow_setCell_below ?_ (by (try simp); (try omega)) _)), (by repeat' (first | exact Below.refl _ _ | assumption | refine Below.drew ?_ | refine cell_drew ?_ | refine Below.setCell ?_ (by (try simp); (try omega)) _ | refine Below.alloc ?_ (by (try simp); (try omega)) _ | refine below_step (by assumption) (by (try simp); (try omega)) ?_))⟩)
    · have hsd' : (deed % 2 == 1) = true := hsd
      have hx' : x + bar = x' := by rw [HFx, hsd]; simp
      clear HFx hsd
      go_wp2
      go_region
      have W5B0 : Bk ((w2.setCell ⟨g, k, none⟩ (.int .i64 x')).alloc (.cells #[.slice (some ⟨g, 0, none⟩) s.length d, .bool cp] 26)).drew w.heap.size 26 #[.slice (some ⟨b, off, none⟩) s.length c, .bool cp] := ((B0.far (by simp; omega) _).alloc _).drew
      have W5B1 : Bk ((w2.setCell ⟨g, k, none⟩ (.int .i64 x')).alloc (.cells #[.slice (some ⟨g, 0, none⟩) s.length d, .bool cp] 26)).drew (w.heap.size + 1) 26 #[.slice none 0 0, .bool false] := ((B1.far (by simp; omega) _).alloc _).drew
      have B6 : Bk ((w2.setCell ⟨g, k, none⟩ (.int .i64 x')).alloc (.cells #[.slice (some ⟨g, 0, none⟩) s.length d, .bool cp] 26)).drew w2.heap.size 26 #[.slice (some ⟨g, 0, none⟩) s.length d, .bool cp] := by simpa using (Bk.new (w2.setCell ⟨g, k, none⟩ (.int .i64 x')) 26 #[.slice (some ⟨g, 0, none⟩) s.length d, .bool cp]).drew
      have b75 : Below w.heap.size w ((w2.setCell ⟨g, k, none⟩ (.int .i64 x')).alloc (.cells #[.slice (some ⟨g, 0, none⟩) s.length d, .bool cp] 26)).drew := (by repeat' (first | exact Below.refl _ _ | assumption | refine Below.drew ?_ | refine cell_drew ?_ | refine Below.setCell ?_ (by (try simp); (try omega)) _ | refine Below.alloc ?_ (by (try simp); (try omega)) _ | refine below_step (by assumption) (by (try simp); (try omega)) ?_))
      have hr5 : Rd ((w2.setCell ⟨g, k, none⟩ (.int .i64 x')).alloc (.cells #[.slice (some ⟨g, 0, none⟩) s.length d, .bool cp] 26)).drew 1 (some ⟨b, off, none⟩) s.length (s.map (Value.int .i64)) := h.after b75
      have own5 : (((w2.setCell ⟨g, k, none⟩ (.int .i64 x')).alloc (.cells #[.slice (some ⟨g, 0, none⟩) s.length d, .bool cp] 26)).drew).ownsRow (w.heap.size + 2) 3 1 (.slice (some ⟨g, 0, none⟩) (s.set k x').length d) (s.set k x').length ((s.set k x').map (Value.int .i64)) := by
        rw [H1.out]
        exact own_cap (((Bg.setl k (.int .i64 x')).alloc _).drew) hlo hnd hdm (by simpa using hcs) H2.out
      have hsz5 : w.heap.size + 2 ≤ (((w2.setCell ⟨g, k, none⟩ (.int .i64 x')).alloc (.cells #[.slice (some ⟨g, 0, none⟩) s.length d, .bool cp] 26)).drew).heap.size := by simp; omega
      have H1' := H1.out
      generalize ((w2.setCell ⟨g, k, none⟩ (.int .i64 x')).alloc (.cells #[.slice (some ⟨g, 0, none⟩) s.length d, .bool cp] 26)).drew = w5 at *
      generalize s.set k x' = s' at *
      clear B0 B1 hr b7 own Bg f0 f1 fg fz H2 htk hc
      have f6 := B6.c2
      have hn' : s'.length ≤ 1048576 := by omega
      have CV := sBarsValid_calls s' cp _ d w5 (own_rd own5) hn'
      rw [H1'] at CV
      cases hv2 : barsValid s' cp
      · have HR := HR2.out
        rw [hv2] at HR
        simp only [Bool.false_eq_true, if_false] at HR
        replace HR := Lib.hid HR
        rw [hv2] at CV
        clear HR2 hv2
        go_wp2_with fail
        refine CV.mono ?_
        rintro e w3 ⟨rfl, b3⟩
        replace B0 := W5B0.after b3
        replace B1 := W5B1.after b3
        replace hr := hr5.after b3
        replace b7 := below_after' b3 b75
        have f0 := B0.c2
        have hs3 := b3.size
        clear own5 B6 b3 f6 W5B0 W5B1 b75 hr5 CV
        go_wp2_with fail
        refine (sCopy_calls s cp (some ⟨b, off, none⟩) c _ hr hn).mono ?_
        rintro e w4 ⟨B', d', rfl, own', b4⟩
        replace own' := own_mono own' (show w.heap.size + 2 ≤ w3.heap.size by omega)
        replace B1 := B1.after b4
        replace b7 := below_after' b4 b7
        have f1 := B1.c2
        clear f0 n1 n2 n3 n4 z0 z1
        go_wp2
        exact bodyPost_ret (v := .tuple #[.agg #[.slice B' s.length d', .bool cp], .bool false]) (by simp [results, Try.results7, go_sem, *]) rfl (by rw [HR.out]; exact ⟨B', d', rfl, (by refine own_mono (lo := w.heap.size + 2) ?_ (by omega); repeat' (first | assumption | refine World.ownsRow.alloc ?_ _ | refine ownsRow_setCell_below ?_ (by (try simp); (try omega)) _)), (by repeat' (first | exact Below.refl _ _ | assumption | refine Below.drew ?_ | refine cell_drew ?_ | refine Below.setCell ?_ (by (try simp); (try omega)) _ | refine Below.alloc ?_ (by (try simp); (try omega)) _ | refine below_step (by assumption) (by (try simp); (try omega)) ?_))⟩)
      · have HR := HR2.out
        rw [hv2] at HR
        simp only [if_true] at HR
        replace HR := Lib.hid HR
        rw [hv2] at CV
        clear HR2 hv2
        go_wp2_with fail
        refine CV.mono ?_
        rintro e w3 ⟨rfl, b3⟩
        replace B1 := W5B1.after b3
        replace B6 := B6.after b3
        replace own := own_after own5 b3
        replace b7 := below_after' b3 b75
        replace f6 := B6.c2
        have f1 := B1.c2
        clear b3 W5B0 W5B1 CV hr5 b75 own5
        go_wp2
        exact bodyPost_ret (v := .tuple #[.agg #[.slice (some ⟨g, 0, none⟩) s'.length d, .bool cp], .bool true]) (by simp [results, Try.results7, go_sem, *]) rfl (by rw [HR.out]; exact ⟨_, d, rfl, (by refine own_mono (lo := w.heap.size + 2) ?_ (by omega); repeat' (first | assumption | refine World.ownsRow.alloc ?_ _ | refine ownsRow_setCell_below ?_ (by (try simp); (try omega)) _)), (by repeat' (first | exact Below.refl _ _ | assumption | refine Below.drew ?_ | refine cell_drew ?_ | refine Below.setCell ?_ (by (try simp); (try omega)) _ | refine Below.alloc ?_ (by (try simp); (try omega)) _ | refine below_step (by assumption) (by (try simp); (try omega)) ?_))⟩)
  · have HR2 := HR.out
    rw [hq] at HR2
    simp only [if_true] at HR2
    replace HR2 := Lib.hid HR2
    rw [← ht] at hq
    clear HR HF ht
    go_wp2
    exact bodyPost_ret (v := .tuple #[.agg #[.slice (some ⟨g, 0, none⟩) s.length d, .bool cp], .bool false]) (by simp [results, Try.results7, go_sem, *]) rfl (by rw [HR2.out]; exact ⟨_, d, rfl, (by refine own_mono (lo := w.heap.size + 2) ?_ (by omega); repeat' (first | assumption | refine World.ownsRow.alloc ?_ _ | refine ownsRow_setCell_below ?_ (by (try simp); (try omega)) _)), (by repeat' (first | exact Below.refl _ _ | assumption | refine Below.drew ?_ | refine cell_drew ?_ | refine Below.setCell ?_ (by (try simp); (try omega)) _ | refine Below.alloc ?_ (by (try simp); (try omega)) _ | refine below_step (by assumption) (by (try simp); (try omega)) ?_))⟩)

theorem sBarsDo_calls (s : List Int) (cp : Bool) (A : Option Addr) (c : Nat) (deed : Int) (w : World) (h : Rd w 1 A s.length (s.map (Value.int .i64))) (hn : s.length ≤ 1048576) (hdl : -9223372036854775808 ≤ deed) (hdh : deed ≤ 9223372036854775807) : Calls Try.prog 7 #[.agg #[.slice A s.length c, .bool cp], .int .i64 deed] w (DoPost w (barsDo s cp deed)) := by
  cases hv : barsValid s cp with
  | false => exact sBarsDo_invalid s cp A c deed w h hn hdl hdh hv
  | true =>
    by_cases h2 : deed < 0 ∨ 2 + 4 * (s.length : Int) ≤ deed
    · exact sBarsDo_out s cp A c deed w h hn hdl hdh hv h2
    · by_cases h3 : 2 ≤ deed
      · exact sBarsDo_side s cp A c deed w h hn hdl hdh hv h3 (by omega)
      · have h4 : deed = 0 ∨ deed = 1 := by omega
        rcases h4 with rfl | rfl <;> cases cp
        · exact sBarsDo_c0false s A c w h hn hv
        · exact sBarsDo_c0true s A c w h hn hv
        · exact sBarsDo_c1false s A c w h hn hv
        · exact sBarsDo_c1true s A c w h hn hv

end Go.Proofs.Ytandfbpanaldcaa
