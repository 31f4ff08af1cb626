/- BarsDo of the program: a deed with an isolator. -/
import Derived.Test.YtandfbpanaldcaaBarsC
import Derived.RegionTactic
import Derived.Deep.DeepCutAuto
namespace Go.Proofs.Ytandfbpanaldcaa
open Go.ChangeShapes Go.WideShapes Go.ChangeAt Go.RowKit
set_option linter.unusedVariables false

theorem own_some {w : World} {lo : Nat} {t : TypeId} {n d : Nat} {B : Option Addr} {xs : List Value} (h : w.ownsRow lo t 1 (.slice B n d) n xs) (hn : 0 < n) :
    ∃ (g : Nat) (cs : List Value), B = some ⟨g, 0, none⟩ ∧ lo ≤ g ∧ Bk w g t cs.toArray ∧ cs.length = d ∧ n ≤ d ∧ d ≤ maxLen ∧ cs.take n = xs := by
  rcases h.2 with ⟨_, h0⟩ | ⟨g, cap, cur, hv, hlo, hg, h1, h2, h3, h4⟩
  · omega
  · injection hv with hv _ hc
    subst hc
    exact ⟨g, cur.toList, hv, hlo, by simpa [Bk] using hg, by simpa using h3, h1, h2, by simpa using h4⟩

theorem side_bits (x : Int) (b : Int) (hx : x = 1 ∨ x = 2 ∨ x = 3) (hb : b = 0 ∨ b = 1) : ∃ y z m : Int,
    (∀ W, (Op.shift .shr .i64 x .i64 b).run Try.prog W = .ok (.int .i64 y) W) ∧ bits .and .i64 y 1 = z ∧ (z == 1) = onBar x (1 + b) ∧
    (∀ W, (Op.shift .shl .i64 1 .i64 b).run Try.prog W = .ok (.int .i64 m) W) ∧ bits .xor .i64 x m = flipBar x (1 + b) := by
  rcases hx with rfl | rfl | rfl <;> rcases hb with rfl | rfl
  · exact ⟨1, 1, 1, fun _ => by kernel_rfl, by decide, by decide, fun _ => by kernel_rfl, by decide⟩
  · exact ⟨0, 0, 2, fun _ => by kernel_rfl, by decide, by decide, fun _ => by kernel_rfl, by decide⟩
  · exact ⟨2, 0, 1, fun _ => by kernel_rfl, by decide, by decide, fun _ => by kernel_rfl, by decide⟩
  · exact ⟨1, 1, 2, fun _ => by kernel_rfl, by decide, by decide, fun _ => by kernel_rfl, by decide⟩
  · exact ⟨3, 1, 1, fun _ => by kernel_rfl, by decide, by decide, fun _ => by kernel_rfl, by decide⟩
  · exact ⟨1, 1, 2, fun _ => by kernel_rfl, by decide, by decide, fun _ => by kernel_rfl, by decide⟩

theorem own_cap {w : World} {lo g : Nat} {t : TypeId} {cs xs : List Value} {n d : Nat} (h : Bk w g t cs.toArray) (hlo : lo ≤ g) (hnd : n ≤ d) (hdm : d ≤ maxLen) (hcs : cs.length = d) (htk : cs.take n = xs) :
    w.ownsRow lo t 1 (.slice (some ⟨g, 0, none⟩) n d) n xs :=
  ⟨by rw [← htk, List.length_take]; omega, .inr ⟨g, d, cs.toArray, rfl, hlo, h, hnd, hdm, by simpa using hcs, by simpa using htk⟩⟩

set_option maxHeartbeats 2000000 in
theorem iBarsDo_side (s : List Int) (cp : Bool) (A : Option Addr) (c : Nat) (deed : Int) (w : World) (h : Rd w 1 A s.length (s.map (Value.int .i64))) (hn : s.length ≤ 1048576) (hA : A = none → c = 0) (hv : barsValid s cp = true) (hd0 : 2 ≤ deed) (hd1 : deed < 2 + 4 * (s.length : Int)) : Calls Try.prog 9 #[.agg #[.slice A s.length c, .bool cp], .int .i64 deed] w (DoPost w (barsDo s cp deed)) := by
  have B0 : Bk ((w.alloc (.cells #[.slice A s.length c, .bool cp] 26)).alloc (.cells #[.slice none 0 0, .bool false] 26)) w.heap.size 26 #[.slice A s.length c, .bool cp] := (Bk.new w _ _).alloc _
  have B1 : Bk ((w.alloc (.cells #[.slice A s.length c, .bool cp] 26)).alloc (.cells #[.slice none 0 0, .bool false] 26)) (w.heap.size + 1) 26 #[.slice none 0 0, .bool false] := by simpa using Bk.new (w.alloc _) _ _
  have b7 : Below w.heap.size w ((w.alloc (.cells #[.slice A s.length c, .bool cp] 26)).alloc (.cells #[.slice none 0 0, .bool false] 26)) := (by repeat' (first | exact Below.refl _ _ | assumption | refine Below.drew ?_ | refine cell_drew ?_ | refine Below.setCell ?_ (by (try simp); (try omega)) _ | refine Below.alloc ?_ (by (try simp); (try omega)) _ | refine below_step (by assumption) (by (try simp); (try omega)) ?_))
  have hr := (h.alloc (.cells #[.slice A s.length c, .bool cp] 26)).alloc (.cells #[.slice none 0 0, .bool false] 26)
  obtain ⟨hl1, hl6⟩ := barsValid_length hv
  have hsz : w.heap.size + 2 ≤ (((w.alloc (.cells #[.slice A s.length c, .bool cp] 26)).alloc (.cells #[.slice none 0 0, .bool false] 26))).heap.size := by simp
  go_enter Try.func9, Try.ntmps9
  go_wp2_with fail
  refine (iBarsValid_calls s cp A c _ hr hn).mono ?_
  rintro e w1 ⟨rfl, b1⟩
  replace B0 := B0.after b1
  replace B1 := B1.after b1
  replace hr := hr.after b1
  have f0 := B0.c2
  replace hsz := Nat.le_trans hsz b1.size
  replace b7 := below_after' b1 b7
  clear b1
  go_wp2_with fail
  refine (iBarsClone_calls s cp A c _ hr hn hA).mono ?_
  rintro e w2 ⟨B, d, rfl, own, b2⟩
  replace own := own_mono own hsz
  replace B0 := B0.after b2
  replace B1 := B1.after b2
  replace hr := hr.after b2
  replace f0 := B0.c2
  have f1 := B1.c2
  replace hsz := Nat.le_trans hsz b2.size
  replace b7 := below_after' b2 b7
  clear b2
  have z0 : w.heap.size < w2.heap.size := by omega
  have z1 : w.heap.size + 1 < w2.heap.size := by omega
  have n1 : ¬ w.heap.size = w2.heap.size := by omega
  have n2 : ¬ w2.heap.size = w.heap.size := by omega
  have n3 : ¬ w.heap.size + 1 = w2.heap.size := by omega
  have n4 : ¬ w2.heap.size = w.heap.size + 1 := by omega
  obtain ⟨g, cs, rfl, hlo, Bg, hcs, hnd, hdm, htk⟩ := own_some own (by omega)
  have hk : deedBay deed < s.length := by unfold deedBay; omega
  have hbay : (deed - 2) / 4 = ((deedBay deed : Nat) : Int) := by unfold deedBay; omega
  have hx := barsValid_side hv hk
  have hb01 : (deed - 2) / 2 % 2 = 0 ∨ (deed - 2) / 2 % 2 = 1 := by omega
  obtain ⟨y, z, m, q1, q2, q3, q4, q5⟩ := side_bits s[deedBay deed] ((deed - 2) / 2 % 2) hx hb01
  have hsx : sideAt s (deedBay deed) = s[deedBay deed] := by simp [sideAt, hk]
  have hrule := barsDo_side hv hd0 hd1
  rw [hsx] at hrule
  have hcell : cs[deedBay deed]? = some (.int .i64 s[deedBay deed]) := by
    have h1 : (cs.take s.length)[deedBay deed]? = cs[deedBay deed]? := by rw [List.getElem?_take, if_pos hk]
    rw [← h1, htk]
    simp [hk]
  obtain ⟨fg, fz⟩ := Bg.atl hcell
  have zg := Bg.lt
  have ng : ¬ g = w2.heap.size := by omega
  have ng' : ¬ w2.heap.size = g := by omega
  have hkd : ((deedBay deed : Nat) : Int) < (d : Int) := by omega
  have hdb : deedBar deed = 1 + (deed - 2) / 2 % 2 := rfl
  rw [hdb, ← q3] at hrule
  have HR := Lib.hid hrule
  clear hrule hdb hx hsx hcell
  have hset : (s.set (deedBay deed) (flipBar s[deedBay deed] (1 + (deed - 2) / 2 % 2))).length = s.length := by simp
  have hcsx : (cs.set (deedBay deed) (.int .i64 (flipBar s[deedBay deed] (1 + (deed - 2) / 2 % 2)))).take s.length = (s.set (deedBay deed) (flipBar s[deedBay deed] (1 + (deed - 2) / 2 % 2))).map (Value.int .i64) := by
    rw [List.take_set, htk, List.map_set]
  generalize (1 + (deed - 2) / 2 % 2) = bar at *
  generalize deedBay deed = k at *
  generalize flipBar s[k] bar = x' at *
  generalize s[k] = x at *
  generalize hbit : (deed - 2) / 2 % 2 = bit at *
  generalize hsd : shuts deed = sh at *
  have hsd' : (deed % 2 == 1) = sh := hsd
  clear hsd
  have H1 := Lib.hid hset
  have H2 := Lib.hid hcsx
  clear hset hcsx hb01 q3
  have hk0 : (0 : Int) ≤ (k : Int) := by omega
  have hk1 : (k : Int) < (s.length : Int) := by omega
  generalize hzz : (z == 1) = has at *
  go_upto_region 5 with fail
  go_cut [8, 9] (fun s8 s9 wx => s8 = .int .i64 (k : Int) ∧ s9 = .int .i64 bit ∧ wx = w2.alloc (.cells #[.slice (some ⟨g, 0, none⟩) s.length d, .bool cp] 26))
  case first =>
    go_wp2
    go_meet
    exact ⟨by rw [hbay], by rw [hbit], rfl⟩
  case rest =>
    obtain ⟨rfl, rfl, rfl⟩ := hcut
    clear hbay hbit
    by_cases hq : has = sh
    · have HR2 : barsDo s cp deed = (s, cp, false) := by rw [HR.out, if_pos (by simp [hq])]
      have HR3 := Lib.hid HR2
      clear HR2
      have hqb : (has == sh) = true := by simp [hq]
      go_wp2
      exact bodyPost_ret (v := .tuple #[.agg #[.slice (some ⟨g, 0, none⟩) s.length d, .bool cp], .bool false]) (by simp [results, Try.results9, go_sem, *]) rfl (by rw [HR3.out]; exact ⟨_, d, rfl, (by refine own_mono (lo := w.heap.size + 2) ?_ (by omega); repeat' (first | assumption | refine World.ownsRow.alloc ?_ _ | refine ownsRow_setCell_below ?_ (by (try simp); (try omega)) _)), (by repeat' (first | exact Below.refl _ _ | assumption | refine Below.drew ?_ | refine cell_drew ?_ | refine Below.setCell ?_ (by (try simp); (try omega)) _ | refine Below.alloc ?_ (by (try simp); (try omega)) _ | refine below_step (by assumption) (by (try simp); (try omega)) ?_))⟩)
    · have hqb : (has == sh) = false := by simpa using hq
      have HR2 := HR.out
      rw [if_neg (by simpa using hqb)] at HR2
      replace HR2 := Lib.hid HR2
      clear HR
      go_wp2
      go_region
      have W5B0 : Bk ((w2.setCell ⟨g, k, none⟩ (.int .i64 x')).alloc (.cells #[.slice (some ⟨g, 0, none⟩) s.length d, .bool cp] 26)).drew w.heap.size 26 #[.slice A s.length c, .bool cp] := ((B0.far (by simp; omega) _).alloc _).drew
      have W5B1 : Bk ((w2.setCell ⟨g, k, none⟩ (.int .i64 x')).alloc (.cells #[.slice (some ⟨g, 0, none⟩) s.length d, .bool cp] 26)).drew (w.heap.size + 1) 26 #[.slice none 0 0, .bool false] := ((B1.far (by simp; omega) _).alloc _).drew
      have B6 : Bk ((w2.setCell ⟨g, k, none⟩ (.int .i64 x')).alloc (.cells #[.slice (some ⟨g, 0, none⟩) s.length d, .bool cp] 26)).drew w2.heap.size 26 #[.slice (some ⟨g, 0, none⟩) s.length d, .bool cp] := by simpa using (Bk.new (w2.setCell ⟨g, k, none⟩ (.int .i64 x')) 26 #[.slice (some ⟨g, 0, none⟩) s.length d, .bool cp]).drew
      have b75 : Below w.heap.size w ((w2.setCell ⟨g, k, none⟩ (.int .i64 x')).alloc (.cells #[.slice (some ⟨g, 0, none⟩) s.length d, .bool cp] 26)).drew := (by repeat' (first | exact Below.refl _ _ | assumption | refine Below.drew ?_ | refine cell_drew ?_ | refine Below.setCell ?_ (by (try simp); (try omega)) _ | refine Below.alloc ?_ (by (try simp); (try omega)) _ | refine below_step (by assumption) (by (try simp); (try omega)) ?_))
      have hr5 : Rd ((w2.setCell ⟨g, k, none⟩ (.int .i64 x')).alloc (.cells #[.slice (some ⟨g, 0, none⟩) s.length d, .bool cp] 26)).drew 1 A s.length (s.map (Value.int .i64)) := h.after b75
      have own5 : (((w2.setCell ⟨g, k, none⟩ (.int .i64 x')).alloc (.cells #[.slice (some ⟨g, 0, none⟩) s.length d, .bool cp] 26)).drew).ownsRow (w.heap.size + 2) 3 1 (.slice (some ⟨g, 0, none⟩) (s.set k x').length d) (s.set k x').length ((s.set k x').map (Value.int .i64)) := by
        rw [H1.out]
        exact own_cap (((Bg.setl k (.int .i64 x')).alloc _).drew) hlo hnd hdm (by simpa using hcs) H2.out
      have hsz5 : w.heap.size + 2 ≤ (((w2.setCell ⟨g, k, none⟩ (.int .i64 x')).alloc (.cells #[.slice (some ⟨g, 0, none⟩) s.length d, .bool cp] 26)).drew).heap.size := by simp; omega
      have H1' := H1.out
      generalize ((w2.setCell ⟨g, k, none⟩ (.int .i64 x')).alloc (.cells #[.slice (some ⟨g, 0, none⟩) s.length d, .bool cp] 26)).drew = w5 at *
      generalize s.set k x' = s' at *
      clear B0 B1 hr b7 own Bg f0 f1 fg fz H2 htk
      have f6 := B6.c2
      have hn' : s'.length ≤ 1048576 := by omega
      have CV := iBarsValid_calls s' cp _ d w5 (own_rd own5) hn'
      rw [H1'] at CV
      cases hv2 : barsValid s' cp
      · have HR3 := HR2.out
        rw [hv2] at HR3
        simp only [Bool.false_eq_true, if_false] at HR3
        replace HR3 := Lib.hid HR3
        rw [hv2] at CV
        clear HR2 hv2
        go_wp2_with fail
        refine CV.mono ?_
        rintro e w3 ⟨rfl, b3⟩
        replace B0 := W5B0.after b3
        replace B1 := W5B1.after b3
        replace hr := hr5.after b3
        replace b7 := below_after' b3 b75
        have f0 := B0.c2
        have hs3 := b3.size
        clear own5 B6 b3 f6 W5B0 W5B1 b75 hr5 CV
        go_wp2_with fail
        refine (iBarsClone_calls s cp A c _ hr hn hA).mono ?_
        rintro e w4 ⟨B', d', rfl, own', b4⟩
        replace own' := own_mono own' (show w.heap.size + 2 ≤ w3.heap.size by omega)
        replace B1 := B1.after b4
        replace b7 := below_after' b4 b7
        have f1 := B1.c2
        clear f0 n1 n2 n3 n4 z0 z1
        go_wp2
        exact bodyPost_ret (v := .tuple #[.agg #[.slice B' s.length d', .bool cp], .bool false]) (by simp [results, Try.results9, go_sem, *]) rfl (by rw [HR3.out]; exact ⟨B', d', rfl, (by refine own_mono (lo := w.heap.size + 2) ?_ (by omega); repeat' (first | assumption | refine World.ownsRow.alloc ?_ _ | refine ownsRow_setCell_below ?_ (by (try simp); (try omega)) _)), (by repeat' (first | exact Below.refl _ _ | assumption | refine Below.drew ?_ | refine cell_drew ?_ | refine Below.setCell ?_ (by (try simp); (try omega)) _ | refine Below.alloc ?_ (by (try simp); (try omega)) _ | refine below_step (by assumption) (by (try simp); (try omega)) ?_))⟩)
      · have HR3 := HR2.out
        rw [hv2] at HR3
        simp only [if_true] at HR3
        replace HR3 := Lib.hid HR3
        rw [hv2] at CV
        clear HR2 hv2
        go_wp2_with fail
        refine CV.mono ?_
        rintro e w3 ⟨rfl, b3⟩
        replace B1 := W5B1.after b3
        replace B6 := B6.after b3
        replace own := own_after own5 b3
        replace b7 := below_after' b3 b75
        replace f6 := B6.c2
        have f1 := B1.c2
        clear b3 W5B0 W5B1 CV hr5 b75 own5
        go_wp2
        exact bodyPost_ret (v := .tuple #[.agg #[.slice (some ⟨g, 0, none⟩) s'.length d, .bool cp], .bool true]) (by simp [results, Try.results9, go_sem, *]) rfl (by rw [HR3.out]; exact ⟨_, d, rfl, (by refine own_mono (lo := w.heap.size + 2) ?_ (by omega); repeat' (first | assumption | refine World.ownsRow.alloc ?_ _ | refine ownsRow_setCell_below ?_ (by (try simp); (try omega)) _)), (by repeat' (first | exact Below.refl _ _ | assumption | refine Below.drew ?_ | refine cell_drew ?_ | refine Below.setCell ?_ (by (try simp); (try omega)) _ | refine Below.alloc ?_ (by (try simp); (try omega)) _ | refine below_step (by assumption) (by (try simp); (try omega)) ?_))⟩)

theorem iBarsDo_calls (s : List Int) (cp : Bool) (A : Option Addr) (c : Nat) (deed : Int) (w : World) (h : Rd w 1 A s.length (s.map (Value.int .i64))) (hn : s.length ≤ 1048576) (hA : A = none → c = 0) : Calls Try.prog 9 #[.agg #[.slice A s.length c, .bool cp], .int .i64 deed] w (DoPost w (barsDo s cp deed)) := by
  cases hv : barsValid s cp with
  | false => exact iBarsDo_invalid s cp A c deed w h hn hA hv
  | true =>
    by_cases h2 : deed < 2 ∨ 2 + 4 * (s.length : Int) ≤ deed
    · exact iBarsDo_other s cp A c deed w h hn hA hv h2
    · exact iBarsDo_side s cp A c deed w h hn hA hv (by omega) (by omega)

end Go.Proofs.Ytandfbpanaldcaa
