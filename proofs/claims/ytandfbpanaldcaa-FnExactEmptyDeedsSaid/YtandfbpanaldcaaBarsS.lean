/- BarsRun of the spec. -/
import Derived.Test.YtandfbpanaldcaaBarsR
namespace Go.Proofs.Ytandfbpanaldcaa
open Go.ChangeShapes Go.WideShapes Go.ChangeAt Go.RowKit
set_option linter.unusedVariables false

theorem own_R {w w' : World} {lo : Nat} {t : TypeId} {size n : Nat} {v : Value} {xs : List Value} (H : ∀ g cs, Bk w g t cs → Bk w' g t cs) (h : w.ownsRow lo t size v n xs) : w'.ownsRow lo t size v n xs := by
  refine ⟨h.1, ?_⟩
  rcases h.2 with h2 | ⟨g, cap, cur, hv, hl, hg, r⟩
  · exact .inl h2
  · exact .inr ⟨g, cap, cur, hv, hl, H g cur hg, r⟩

def fsRun (v6 vd : Value) (k x : Int) (b off : Nat) (r1 : List Int) (r2 r3 : Bool) (B : Nat) : Nat → Value → World → Prop
  | 0, v, _ => v = v6
  | 1, v, _ => v = vd
  | 2, v, _ => v = .int .i64 k
  | 3, v, _ => v = .pointer (some ⟨b, off, none⟩)
  | 4, v, _ => v = .int .i64 x
  | 5, v, w => ∃ B9 d9, v = .tuple #[.agg #[.slice B9 r1.length d9, .bool r2], .bool r3] ∧ w.ownsRow B 3 1 (.slice B9 r1.length d9) r1.length (r1.map (Value.int .i64))
  | 6, v, w => ∃ B9 d9, v = .tuple #[.agg #[.slice B9 r1.length d9, .bool r2], .bool r3] ∧ w.ownsRow B 3 1 (.slice B9 r1.length d9) r1.length (r1.map (Value.int .i64))
  | 7, v, w => ∃ B9 d9, v = .agg #[.slice B9 r1.length d9, .bool r2] ∧ w.ownsRow B 3 1 (.slice B9 r1.length d9) r1.length (r1.map (Value.int .i64))
  | 8, v, _ => v = .bool r3
  | 9, v, w => ∃ g x0 x1, v = .pointer (some ⟨g, 0, none⟩) ∧ B ≤ g ∧ Bk w g 26 #[x0, x1]
  | 10, v, w => ∃ g B9 d9, v = .pointer (some ⟨g, 0, none⟩) ∧ B ≤ g ∧ Bk w g 26 #[.slice B9 r1.length d9, .bool r2] ∧ w.ownsRow B 3 1 (.slice B9 r1.length d9) r1.length (r1.map (Value.int .i64))
  | 11, v, _ => v = .bool r3
  | _, _, _ => True
def depRun : Nat → Nat
  | 0 => 24 | 1 => 25 | 2 => 26 | 3 => 27 | 4 => 28 | 5 => 29 | 6 => 23 | 7 => 30 | 8 => 31 | 9 => 9 | 10 => 9 | 11 => 10 | _ => 0

set_option maxHeartbeats 1000000 in
theorem sBarsRun_invalid (s : List Int) (cp : Bool) (A : Option Addr) (c : Nat) (ds : List Int) (D : Option Addr) (cd : Nat) (w : World) (h : Rd w 1 A s.length (s.map (Value.int .i64))) (hn : s.length ≤ 1048576) (hd : Rd w 1 D ds.length (ds.map (Value.int .i64))) (hdn : ds.length ≤ 1048576) (hin : ∀ x ∈ ds, -9223372036854775808 ≤ x ∧ x ≤ 9223372036854775807) (hv : barsValid s cp = false) : Calls Try.prog 13 #[.agg #[.slice A s.length c, .bool cp], .slice D ds.length cd] w (RunPost w (barsRun s cp ds)) := by
  have HR : barsRun s cp ds = ([], false, 0) := by simp [barsRun, hv]
  rw [HR]
  clear HR
  have B1 : Bk ((w.alloc (.cells #[.slice A s.length c, .bool cp] 26)).alloc (.cells #[.slice none 0 0, .bool false] 26)) (w.heap.size + 1) 26 #[.slice none 0 0, .bool false] := by simpa using Bk.new (w.alloc _) _ _
  have b7 : Below w.heap.size w ((w.alloc (.cells #[.slice A s.length c, .bool cp] 26)).alloc (.cells #[.slice none 0 0, .bool false] 26)) := (by repeat' (first | exact Below.refl _ _ | assumption | refine Below.drew ?_ | refine cell_drew ?_ | refine Below.setCell ?_ (by (try simp); (try omega)) _ | refine Below.alloc ?_ (by (try simp); (try omega)) _ | refine below_step (by assumption) (by (try simp); (try omega)) ?_))
  have hr := (h.alloc (.cells #[.slice A s.length c, .bool cp] 26)).alloc (.cells #[.slice none 0 0, .bool false] 26)
  go_enter Try.func13, Try.ntmps13
  go_wp2_with fail
  refine (sBarsValid_calls s cp A c _ hr hn).mono ?_
  rintro e w1 ⟨rfl, b1⟩
  replace B1 := B1.after b1
  have f1 := B1.c2
  go_wp2
  exact bodyPost_ret (v := .tuple #[.agg #[.slice none 0 0, .bool false], .int .i64 0]) (by simp [results, Try.results13, go_sem, *]) rfl ⟨none, 0, rfl, World.ownsRow_nil _ _ _ _, (by repeat' (first | exact Below.refl _ _ | assumption | refine Below.drew ?_ | refine cell_drew ?_ | refine Below.setCell ?_ (by (try simp); (try omega)) _ | refine Below.alloc ?_ (by (try simp); (try omega)) _ | refine below_step (by assumption) (by (try simp); (try omega)) ?_))⟩

set_option maxHeartbeats 2000000 in
theorem sBarsRun_valid (s : List Int) (cp : Bool) (A : Option Addr) (c : Nat) (ds : List Int) (D : Option Addr) (cd : Nat) (w : World) (h : Rd w 1 A s.length (s.map (Value.int .i64))) (hn : s.length ≤ 1048576) (hd : Rd w 1 D ds.length (ds.map (Value.int .i64))) (hdn : ds.length ≤ 1048576) (hin : ∀ x ∈ ds, -9223372036854775808 ≤ x ∧ x ≤ 9223372036854775807) (hv : barsValid s cp = true) : Calls Try.prog 13 #[.agg #[.slice A s.length c, .bool cp], .slice D ds.length cd] w (RunPost w (barsRun s cp ds)) := by
  have HR := Lib.hid (show barsRun s cp ds = runTo s cp ds ds.length by simp [barsRun, hv])
  have B0 : Bk ((w.alloc (.cells #[.slice A s.length c, .bool cp] 26)).alloc (.cells #[.slice none 0 0, .bool false] 26)) w.heap.size 26 #[.slice A s.length c, .bool cp] := (Bk.new w _ _).alloc _
  have B1 : Bk ((w.alloc (.cells #[.slice A s.length c, .bool cp] 26)).alloc (.cells #[.slice none 0 0, .bool false] 26)) (w.heap.size + 1) 26 #[.slice none 0 0, .bool false] := by simpa using Bk.new (w.alloc _) _ _
  have b7 : Below w.heap.size w ((w.alloc (.cells #[.slice A s.length c, .bool cp] 26)).alloc (.cells #[.slice none 0 0, .bool false] 26)) := (by repeat' (first | exact Below.refl _ _ | assumption | refine Below.drew ?_ | refine cell_drew ?_ | refine Below.setCell ?_ (by (try simp); (try omega)) _ | refine Below.alloc ?_ (by (try simp); (try omega)) _ | refine below_step (by assumption) (by (try simp); (try omega)) ?_))
  have hr := (h.alloc (.cells #[.slice A s.length c, .bool cp] 26)).alloc (.cells #[.slice none 0 0, .bool false] 26)
  have hsz : w.heap.size + 2 ≤ (((w.alloc (.cells #[.slice A s.length c, .bool cp] 26)).alloc (.cells #[.slice none 0 0, .bool false] 26))).heap.size := by simp
  go_enter Try.func13, Try.ntmps13
  go_wp2_with fail
  refine (sBarsValid_calls s cp A c _ hr hn).mono ?_
  rw [hv]
  rintro e w1 ⟨rfl, b1⟩
  replace B0 := B0.after b1
  replace B1 := B1.after b1
  replace hr := hr.after b1
  have f0 := B0.c2
  replace hsz := Nat.le_trans hsz b1.size
  replace b7 := below_after' b1 b7
  clear b1
  go_wp2_with fail
  refine (sCopy_calls s cp A c _ hr hn).mono ?_
  rintro e w2 ⟨B, d, rfl, own, b2⟩
  replace own := own_mono own hsz
  replace B1 := B1.after b2
  replace hsz := Nat.le_trans hsz b2.size
  replace b7 := below_after' b2 b7
  clear b2 B0 f0 hr
  go_wp2
  go_loopw [7, 8] (fun t i wr => ∃ (k n' : Nat) (s' : List Int) (cp' : Bool) (B' : Option Addr) (d' : Nat), k ≤ ds.length ∧ i = .int .i64 k ∧ t = .int .i64 n' ∧ runTo s cp ds k = (s', cp', n') ∧ n' ≤ k ∧ s'.length ≤ 1048576 ∧ Bk wr w2.heap.size 26 #[.slice B' s'.length d', .bool cp'] ∧ Bk wr (w.heap.size + 1) 26 #[.slice none 0 0, .bool false] ∧ wr.ownsRow (w.heap.size + 2) 3 1 (.slice B' s'.length d') s'.length (s'.map (Value.int .i64)) ∧ Below w.heap.size w wr) (fun _ i _ => ds.length - (intOf i).toNat)
  case atStart =>
    exact ⟨0, 0, s, cp, B, d, Nat.zero_le _, rfl, rfl, by simp [runTo], Nat.le_refl _, hn, Bk.new _ _ _, B1.alloc _, own.alloc _, b7.alloc (by omega) _⟩
  case round =>
    clear own B1 b7
    obtain ⟨k, n', s', cp', B', d', hk, rfl, rfl, hst, hnk, hs', B6, B1, own, b7⟩ := hrel
    by_cases hlt : k < ds.length
    · obtain ⟨b, off, rfl, hb0, u, hu, hc⟩ := hd.at1 hlt
      obtain rfl : u = .int .i64 ds[k] := by simpa [hlt] using hu.symm
      have hc' : wr.cell? ⟨b, off + k, none⟩ = some (.int .i64 ds[k]) := (b7.cell (p := ⟨b, off + k, none⟩) hb0).trans hc
      obtain ⟨r1, r2, r3, hr⟩ : ∃ r1 r2 r3, barsDo s' cp' ds[k] = (r1, r2, r3) := ⟨_, _, _, rfl⟩
      have hrl : r1.length ≤ 1048576 := by have := barsDo_len' hr; omega
      have HN := Lib.hid (run_no (s := s) (cp := cp) (r1 := r1) (r2 := r2) hlt hst)
      have HY := Lib.hid (run_yes (s := s) (cp := cp) (r1 := r1) (r2 := r2) hlt hst)
      have hx := hin ds[k] (List.getElem_mem _)
      have HB := Lib.hid hr
      clear hr hu hc
      generalize ds[k] = x at *
      have f6 := B6.c2
      have hk0 : (0 : Int) ≤ (k : Int) := by omega
      have hk1 : (k : Int) < (ds.length : Int) := by omega
      go_wp2
      refine region_grow [24, 25, 26, 27, 28, 29, 23, 30, 31, 9, 10] [10] depRun (fun w w' => (∀ g cs, Bk w g 3 cs → Bk w' g 3 cs) ∧ (∀ g x0 x1, Bk w g 26 #[x0, x1] → ∃ y0 y1, Bk w' g 26 #[y0, y1])) (fsRun (.agg #[.slice B' s'.length d', .bool cp']) (.slice (some ⟨b, off, none⟩) ds.length cd) k x b (off + k) r1 r2 r3) mixed (by kernel_rfl) ?_ ?_ ?_
      · intro B j hj a w w' hR hF
        unfold Fact at hF ⊢
        match j with
        | 0 | 1 | 2 | 3 | 4 | 8 | 11 => exact hF
        | 5 | 6 | 7 => obtain ⟨B9, d9, e, o⟩ := hF; exact ⟨B9, d9, e, own_R hR.1 o⟩
        | 9 =>
          obtain ⟨g, x0, x1, h1, h0, h2⟩ := hF
          obtain ⟨y0, y1, h3⟩ := hR.2 g _ _ h2
          exact ⟨g, y0, y1, h1, h0, h3⟩
        | 10 => simp at hj
        | n + 12 => trivial
      · refine ⟨?_, ?_, ?_, ?_, ?_, ?_, ?_, ?_, ?_, ?_, ?_, ?_, trivial⟩ <;> rintro a wx ⟨hs, hdd, hB⟩ I hp
        · have e1 : a.tmps[6]?.getD undef = .pointer (some ⟨w2.heap.size, 0, none⟩) := hB 6 rfl
          have f := (B6.after I).c2
          exact .inl ⟨rfl, _, wx, by simp [go_sem, e1, f], I, rfl, .inl rfl⟩
        · have e1 : a.tmps[1]?.getD undef = .slice (some ⟨b, off, none⟩) ds.length cd := hB 1 rfl
          exact .inl ⟨rfl, _, wx, by simp [go_sem, e1], I, rfl, .inl rfl⟩
        · have e1 : a.tmps[8]?.getD undef = .int .i64 k := hB 8 rfl
          exact .inl ⟨rfl, _, wx, by simp [go_sem, e1], I, rfl, .inl rfl⟩
        · have e1 : a.tmps[25]?.getD undef = _ := hp 1 rfl
          have e2 : a.tmps[26]?.getD undef = _ := hp 2 rfl
          exact .inl ⟨rfl, _, wx, by simp [go_sem, e1, e2, hk0, hk1], I, rfl, .inl rfl⟩
        · have e1 : a.tmps[27]?.getD undef = _ := hp 3 rfl
          have f : wx.cell? ⟨b, off + k, none⟩ = some (.int .i64 x) := (I.cell (World.block_lt_of_cell? _ _ hc')).trans hc'
          exact .inl ⟨rfl, _, wx, by simp [go_sem, e1, f], I, rfl, .inl rfl⟩
        · have e1 : a.tmps[24]?.getD undef = _ := hp 0 rfl
          have e2 : a.tmps[28]?.getD undef = _ := hp 4 rfl
          refine .inr (.inr (.inl ⟨rfl, _, _, by simp [go_sem, e1, e2]; exact ⟨rfl, rfl⟩, ?_⟩))
          refine (sBarsDo_calls' s' cp' B' d' x _ ((own_rd own).after I) hs' hx.1 hx.2 r1 r2 r3 HB.out).mono ?_
          rintro e w1 ⟨B9, d9, rfl, o, hb1⟩
          exact ⟨_, rfl, below_after' hb1 I, ⟨B9, d9, rfl, own_mono o I.size⟩, .inr ⟨⟨fun g cs h => h.after hb1, fun g x0 x1 h => ⟨x0, x1, h.after hb1⟩⟩, rfl⟩⟩
        · obtain ⟨B9, d9, e1, o⟩ := hp 5 rfl
          have e1 : a.tmps[29]?.getD undef = _ := e1
          exact .inl ⟨rfl, _, wx, by simp [go_sem, e1], I, ⟨B9, d9, rfl, o⟩, .inl rfl⟩
        · obtain ⟨B9, d9, e1, o⟩ := hp 6 rfl
          have e1 : a.tmps[23]?.getD undef = _ := e1
          exact .inl ⟨rfl, _, wx, by simp [go_sem, e1], I, ⟨B9, d9, rfl, o⟩, .inl rfl⟩
        · obtain ⟨B9, d9, e1, o⟩ := hp 6 rfl
          have e1 : a.tmps[23]?.getD undef = _ := e1
          exact .inl ⟨rfl, _, wx, by simp [go_sem, e1], I, rfl, .inl rfl⟩
        · exact .inl ⟨rfl, _, _, by simp [go_sem]; rfl, below_alloc' I (Nat.le_refl _) _, ⟨_, _, _, rfl, I.size, Bk.new _ _ _⟩, .inr ⟨⟨fun g cs h => h.alloc _, fun g x0 x1 h => ⟨x0, x1, h.alloc _⟩⟩, rfl⟩⟩
        · obtain ⟨B9, d9, e1, o⟩ := hp 7 rfl
          have e1 : a.tmps[30]?.getD undef = _ := e1
          obtain ⟨g, x0, x1, e9, n2, h2⟩ := hp 9 rfl
          have e9 : a.tmps[9]?.getD undef = _ := e9
          have f := h2.c2
          have hR : ∀ (u v : Value) (g' : Nat) (cs : Array Value), Bk wx g' 3 cs → Bk ((wx.setCell ⟨g, 0, none⟩ u).setCell ⟨g, 1, none⟩ v) g' 3 cs := fun u v g' cs h => (h.far (h.ne_ h2 (by decide)) _).far (h.ne_ h2 (by decide)) _
          exact .inr (.inl ⟨rfl, _, by simp [go_sem, e1, e9, f]; rfl, (I.setCell n2 _).setCell n2 _, ⟨g, B9, d9, e9, n2, by simpa using (h2.set_ 0 _).set_ 1 _, own_R (hR _ _) o⟩, .inr ⟨⟨hR _ _, fun g' x0 x1 h => bk2_kept h g _ _⟩, rfl⟩⟩)
        · have e1 : a.tmps[31]?.getD undef = _ := hp 8 rfl
          exact .inl ⟨rfl, _, wx, by simp [go_sem, e1], I, rfl, .inl rfl⟩
      · intro a w3 hB b1 hF
        obtain ⟨g, B9, d9, e9, hg9, Bg, own9⟩ := hF 10 (by decide)
        have e9 : sl a 9 = .pointer (some ⟨g, 0, none⟩) := e9
        have e10 : sl a 10 = .bool r3 := hF 11 (by decide)
        rw [base_eq hB]
        simp only [List.foldl, e9, e10]
        generalize sl a 24 = v24
        generalize sl a 25 = v25
        generalize sl a 26 = v26
        generalize sl a 27 = v27
        generalize sl a 28 = v28
        generalize sl a 29 = v29
        generalize sl a 23 = v23
        generalize sl a 30 = v30
        generalize sl a 31 = v31
        clear hB hF e9 e10
        have hw6 := B6.lt
        have hw1 := B1.lt
        have hwr := b7.size
        replace B6 := B6.after b1
        replace B1 := B1.after b1
        replace own := own_after own b1
        replace b7 := below_after' b1 b7
        clear b1 f6
        have f6 := B6.c2
        have fg := Bg.c2
        have n3 : ¬ w2.heap.size = g := by omega
        have n4 : ¬ g = w2.heap.size := by omega
        cases r3
        · go_simp
          go_wp2
          go_roundw
          case rel => exact ⟨k + 1, n', s', cp', B', d', hlt, by go_num, rfl, HN.out HB.out, by omega, hs', B6, B1, own, b7⟩
          case measure => simp [intOf]; omega
        · go_simp
          go_wp2
          go_roundw
          case rel =>
            refine ⟨k + 1, n' + 1, r1, r2, B9, d9, hlt, by go_num, by go_num, HY.out HB.out, by omega, hrl, ?_, ?_, ?_, ?_⟩
            · simpa using (B6.set_ 0 (.slice B9 r1.length d9)).set_ 1 (.bool r2)
            · exact (B1.far (by simp; omega) _).far (by simp; omega) _
            · exact own_mono (ownsRow_setCell_below (ownsRow_setCell_below own9 (by simp; omega) _) (by simp; omega) _) (by omega)
            · exact (b7.setCell (by simp; omega) _).setCell (by simp; omega) _
          case measure => simp [intOf]; omega
    · obtain rfl : k = ds.length := by omega
      have f6 := B6.c2
      have f1 := B1.c2
      replace HR := Lib.hid (HR.out.trans hst)
      clear hst
      have z6 := B6.lt
      go_wp2
      exact bodyPost_ret (v := .tuple #[.agg #[.slice B' s'.length d', .bool cp'], .int .i64 n']) (by simp [results, Try.results13, go_sem, *]) rfl (by rw [HR.out]; exact ⟨B', d', rfl, (by refine own_mono (lo := w.heap.size + 2) ?_ (by omega); repeat' (first | assumption | refine World.ownsRow.alloc ?_ _ | refine ownsRow_setCell_below ?_ (by (try simp); (try omega)) _)), (by repeat' (first | exact Below.refl _ _ | assumption | refine Below.drew ?_ | refine cell_drew ?_ | refine Below.setCell ?_ (by (try simp); (try omega)) _ | refine Below.alloc ?_ (by (try simp); (try omega)) _ | refine below_step (by assumption) (by (try simp); (try omega)) ?_))⟩)

theorem sBarsRun_calls (s : List Int) (cp : Bool) (A : Option Addr) (c : Nat) (ds : List Int) (D : Option Addr) (cd : Nat) (w : World) (h : Rd w 1 A s.length (s.map (Value.int .i64))) (hn : s.length ≤ 1048576) (hd : Rd w 1 D ds.length (ds.map (Value.int .i64))) (hdn : ds.length ≤ 1048576) (hin : ∀ x ∈ ds, -9223372036854775808 ≤ x ∧ x ≤ 9223372036854775807) : Calls Try.prog 13 #[.agg #[.slice A s.length c, .bool cp], .slice D ds.length cd] w (RunPost w (barsRun s cp ds)) := by
  cases hv : barsValid s cp with
  | false => exact sBarsRun_invalid s cp A c ds D cd w h hn hd hdn hin hv
  | true => exact sBarsRun_valid s cp A c ds D cd w h hn hd hdn hin hv

end Go.Proofs.Ytandfbpanaldcaa
