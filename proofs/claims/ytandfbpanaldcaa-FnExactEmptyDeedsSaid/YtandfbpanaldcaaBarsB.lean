/- clone, l10Copy. -/
import Derived.Test.YtandfbpanaldcaaBarsA
import Derived.Test.YtandfbpanaldcaaAppN
namespace Go.Proofs.Ytandfbpanaldcaa
open Go.ChangeShapes Go.WideShapes Go.ChangeAt Go.RowKit

theorem own_row_kept {w w' : World} {lo : Nat} {t : TypeId} {size n : Nat} {v : Value} {xs : List Value} {r : Nat} (h : w.ownsRow lo t size v n xs) (hg : w.grownBy w' (some r)) (hr : r < lo) : w'.ownsRow lo t size v n xs :=
  own_far h hg (fun g e => by injection e with e; omega)
theorem rd_row_kept {w w' : World} {size n : Nat} {A : Option Addr} {xs : List Value} {r : Nat} (h : Rd w size A n xs) (hg : w.grownBy w' (some r)) (hr : ∀ b off, A = some ⟨b, off, none⟩ → 0 < n → b ≠ r) : Rd w' size A n xs :=
  ⟨h.1, fun hn => by
    obtain ⟨b, off, e, hc⟩ := h.2 hn
    exact ⟨b, off, e, fun j u hu => (World.cell?_of_block (hg.block b (World.block_lt_of_cell? _ _ (hc j u hu)) (by simpa using hr b off e hn))).trans (hc j u hu)⟩⟩

def fsCl (lo : Nat) (s : List Int) (cp : Bool) (A : Option Addr) (c : Nat) (b r : Nat) : Nat → Value → World → Prop
  | 0, v, _ => v = .pointer (some ⟨b, 0, none⟩)
  | 1, v, _ => v = .slice A s.length c
  | 2, v, w => ∃ B d, v = .slice B s.length d ∧ w.ownsRow lo 3 1 (.slice B s.length d) s.length (s.map (Value.int .i64))
  | 3, v, _ => v = .pointer (some ⟨b, 1, none⟩)
  | 4, v, _ => v = .bool cp
  | 5, v, w => ∃ B d, v = .agg #[.slice B s.length d, .bool cp] ∧ w.ownsRow lo 3 1 (.slice B s.length d) s.length (s.map (Value.int .i64))
  | 6, _, w => ∃ B d, Bk w r 26 #[.slice B s.length d, .bool cp] ∧ w.ownsRow lo 3 1 (.slice B s.length d) s.length (s.map (Value.int .i64))
  | _, _, _ => True
def depCl : Nat → Nat
  | 0 => 3 | 1 => 4 | 2 => 5 | 3 => 6 | 4 => 7 | 5 => 8 | 6 => 2 | _ => 0

set_option maxHeartbeats 1000000 in
theorem iBarsClone_calls (s : List Int) (cp : Bool) (A : Option Addr) (c : Nat) (w : World) (h : Rd w 1 A s.length (s.map (Value.int .i64))) (hn : s.length ≤ 1048576) (hA : A = none → c = 0) :
    Calls Try.prog 25 #[.agg #[.slice A s.length c, .bool cp]] w fun e w' => ∃ B d, e = .returned (.agg #[.slice B s.length d, .bool cp]) ∧ w'.ownsRow w.heap.size 3 1 (.slice B s.length d) s.length (s.map (Value.int .i64)) ∧ Below w.heap.size w w' := by
  have B0 : Bk ((w.alloc (.cells #[.slice A s.length c, .bool cp] 26)).alloc (.cells #[.slice none 0 0, .bool false] 26)) w.heap.size 26 #[.slice A s.length c, .bool cp] := (Bk.new w _ _).alloc _
  have B1 : Bk ((w.alloc (.cells #[.slice A s.length c, .bool cp] 26)).alloc (.cells #[.slice none 0 0, .bool false] 26)) (w.heap.size + 1) 26 #[.slice none 0 0, .bool false] := by simpa using Bk.new (w.alloc _) _ _
  have b7 : Below w.heap.size w ((w.alloc (.cells #[.slice A s.length c, .bool cp] 26)).alloc (.cells #[.slice none 0 0, .bool false] 26)) := (by repeat' (first | exact Below.refl _ _ | assumption | refine Below.drew ?_ | refine cell_drew ?_ | refine Below.setCell ?_ (by (try simp); (try omega)) _ | refine Below.alloc ?_ (by (try simp); (try omega)) _ | refine below_step (by assumption) (by (try simp); (try omega)) ?_))
  have hr := (h.alloc (.cells #[.slice A s.length c, .bool cp] 26)).alloc (.cells #[.slice none 0 0, .bool false] 26)
  have hlt : ∀ b off, A = some ⟨b, off, none⟩ → 0 < s.length → b ≠ w.heap.size + 1 := by
    intro b off e hp
    obtain ⟨b', off', e', hc⟩ := h.2 hp
    rw [e] at e'
    injection e' with e'
    injection e' with e1 e2
    subst e1; subst e2
    have hx : (s.map (Value.int .i64))[0]? = some ((s.map (Value.int .i64))[0]'(by simpa using hp)) := List.getElem?_eq_getElem _
    have := World.block_lt_of_cell? _ _ (hc 0 _ hx)
    have : b < w.heap.size := this
    omega
  go_enter Try.func25, Try.ntmps25
  go_wp2
  refine region_row (w.heap.size + 1) (fun wx => ∃ x y, Bk wx (w.heap.size + 1) 26 #[x, y]) [3, 4, 5, 6, 7, 8] [6] depCl (fsCl (w.heap.size + 2) s cp A c w.heap.size (w.heap.size + 1)) mixed (by kernel_rfl) ⟨_, _, B1⟩ ?_ ?_ ?_
  · intro j hj v w1 w2 hR hF
    match j with
    | 0 | 1 | 3 | 4 => exact hF
    | 2 => obtain ⟨B, d, e, o⟩ := hF; exact ⟨B, d, e, own_row_kept o hR (by omega)⟩
    | 5 => obtain ⟨B, d, e, o⟩ := hF; exact ⟨B, d, e, own_row_kept o hR (by omega)⟩
    | 6 => simp at hj
    | n + 7 => trivial
  · refine ⟨?_, ?_, ?_, ?_, ?_, ?_, ?_, trivial⟩ <;> rintro a wx ⟨hs, hd, hB⟩ I hp
    · have e1 : a.tmps[1]?.getD undef = .pointer (some ⟨w.heap.size, 0, none⟩) := hB 1 rfl
      exact .inl ⟨rfl, _, wx, by simp [go_sem, e1], I, rfl, .inl rfl⟩
    · have e3 : a.tmps[3]?.getD undef = _ := hp 0 rfl
      have f := (B0.grown' I.1 (by omega)).c2
      exact .inl ⟨rfl, _, wx, by simp [go_sem, e3, f], I, rfl, .inl rfl⟩
    · have e4 : a.tmps[4]?.getD undef = _ := hp 1 rfl
      refine .inr (.inr (.inl ⟨rfl, _, _, by simp [go_sem, e4]; exact ⟨rfl, rfl⟩, ?_⟩))
      refine (cloneI_calls s A c _ (rd_row_kept hr I.1 hlt) hn hA).mono ?_
      rintro e w1 ⟨B, d, rfl, o, hb1⟩
      obtain ⟨x, y, hx⟩ := I.2
      exact ⟨_, rfl, ⟨grown_trans' I.1 (grown_below hb1), x, y, hx.after hb1⟩, ⟨B, d, rfl, own_mono o (by have := I.1.size; simp at this; omega)⟩, .inr ⟨grown_below hb1, rfl⟩⟩
    · have e1 : a.tmps[1]?.getD undef = .pointer (some ⟨w.heap.size, 0, none⟩) := hB 1 rfl
      exact .inl ⟨rfl, _, wx, by simp [go_sem, e1], I, rfl, .inl rfl⟩
    · have e3 : a.tmps[6]?.getD undef = _ := hp 3 rfl
      have f := (B0.grown' I.1 (by omega)).c2
      exact .inl ⟨rfl, _, wx, by simp [go_sem, e3, f], I, rfl, .inl rfl⟩
    · obtain ⟨B, d, e5, o⟩ := hp 2 rfl
      have e5 : a.tmps[5]?.getD undef = _ := e5
      have e7 : a.tmps[7]?.getD undef = _ := hp 4 rfl
      exact .inl ⟨rfl, _, wx, by simp [go_sem, e5, e7], I, ⟨B, d, rfl, o⟩, .inl rfl⟩
    · obtain ⟨B, d, e8, o⟩ := hp 5 rfl
      have e8 : a.tmps[8]?.getD undef = _ := e8
      have e2 : a.tmps[2]?.getD undef = .pointer (some ⟨w.heap.size + 1, 0, none⟩) := hB 2 rfl
      obtain ⟨x, y, hx⟩ := I.2
      have f := hx.c2
      have hfar : ∀ u v : Value, ((wx.setCell ⟨w.heap.size + 1, 0, none⟩ u).setCell ⟨w.heap.size + 1, 1, none⟩ v).ownsRow (w.heap.size + 2) 3 1 (.slice B s.length d) s.length (s.map (Value.int .i64)) := fun u v =>
        own_row_kept o (grown_set' (grown_set' ⟨rfl, rfl, rfl, Nat.le_refl _, fun _ _ _ => rfl⟩ 0 u) 1 v) (by omega)
      exact .inr (.inl ⟨rfl, _, by simp [go_sem, e2, e8, f]; rfl, ⟨grown_set' (grown_set' I.1 0 _) 1 _, _, _, by simpa using (hx.set_ 0 _).set_ 1 _⟩, ⟨B, d, by simpa using (hx.set_ 0 _).set_ 1 _, hfar _ _⟩, .inr ⟨grown_set' (grown_set' ⟨rfl, rfl, rfl, Nat.le_refl _, fun _ _ _ => rfl⟩ 0 _) 1 _, rfl⟩⟩)
  · intro a wx hB I hF
    obtain ⟨B, d, hx, o⟩ := hF 6 (by decide)
    rw [base_eq hB]
    simp only [List.foldl]
    have f := hx.c2
    have f' := f
    go_simp
    go_wp2
    refine bodyPost_ret (v := .agg #[.slice B s.length d, .bool cp]) (by simp [results, Try.results25, go_sem, f]) rfl ⟨B, d, rfl, own_mono o (by omega), ?_⟩
    exact b7.grown I.1 (by simp; omega) (fun k e => by injection e with e; omega)

def fsCp (lo : Nat) (s : List Int) (cp : Bool) (A : Option Addr) (c : Nat) (b r : Nat) : Nat → Value → World → Prop
  | 0, v, w => ∃ g, v = .slice (some ⟨g, 0, none⟩) 0 0 ∧ w.ownsRow lo 3 1 (.slice (some ⟨g, 0, none⟩) 0 0) 0 []
  | 1, v, _ => v = .pointer (some ⟨b, 0, none⟩)
  | 2, v, _ => v = .slice A s.length c
  | 3, v, w => ∃ B d, v = .slice B s.length d ∧ w.ownsRow lo 3 1 (.slice B s.length d) s.length (s.map (Value.int .i64))
  | 4, v, _ => v = .pointer (some ⟨b, 1, none⟩)
  | 5, v, _ => v = .bool cp
  | 6, v, w => ∃ B d, v = .agg #[.slice B s.length d, .bool cp] ∧ w.ownsRow lo 3 1 (.slice B s.length d) s.length (s.map (Value.int .i64))
  | 7, _, w => ∃ B d, Bk w r 26 #[.slice B s.length d, .bool cp] ∧ w.ownsRow lo 3 1 (.slice B s.length d) s.length (s.map (Value.int .i64))
  | _, _, _ => True
def depCp : Nat → Nat
  | 0 => 3 | 1 => 4 | 2 => 5 | 3 => 6 | 4 => 7 | 5 => 8 | 6 => 9 | 7 => 2 | _ => 0

set_option maxHeartbeats 1000000 in
theorem sCopy_calls (s : List Int) (cp : Bool) (A : Option Addr) (c : Nat) (w : World) (h : Rd w 1 A s.length (s.map (Value.int .i64))) (hn : s.length ≤ 1048576) :
    Calls Try.prog 23 #[.agg #[.slice A s.length c, .bool cp]] w fun e w' => ∃ B d, e = .returned (.agg #[.slice B s.length d, .bool cp]) ∧ w'.ownsRow w.heap.size 3 1 (.slice B s.length d) s.length (s.map (Value.int .i64)) ∧ Below w.heap.size w w' := by
  have B0 : Bk ((w.alloc (.cells #[.slice A s.length c, .bool cp] 26)).alloc (.cells #[.slice none 0 0, .bool false] 26)) w.heap.size 26 #[.slice A s.length c, .bool cp] := (Bk.new w _ _).alloc _
  have B1 : Bk ((w.alloc (.cells #[.slice A s.length c, .bool cp] 26)).alloc (.cells #[.slice none 0 0, .bool false] 26)) (w.heap.size + 1) 26 #[.slice none 0 0, .bool false] := by simpa using Bk.new (w.alloc _) _ _
  have b7 : Below w.heap.size w ((w.alloc (.cells #[.slice A s.length c, .bool cp] 26)).alloc (.cells #[.slice none 0 0, .bool false] 26)) := (by repeat' (first | exact Below.refl _ _ | assumption | refine Below.drew ?_ | refine cell_drew ?_ | refine Below.setCell ?_ (by (try simp); (try omega)) _ | refine Below.alloc ?_ (by (try simp); (try omega)) _ | refine below_step (by assumption) (by (try simp); (try omega)) ?_))
  have hr := (h.alloc (.cells #[.slice A s.length c, .bool cp] 26)).alloc (.cells #[.slice none 0 0, .bool false] 26)
  have hlt : ∀ b off, A = some ⟨b, off, none⟩ → 0 < s.length → b ≠ w.heap.size + 1 := by
    intro b off e hp
    obtain ⟨b', off', e', hc⟩ := h.2 hp
    rw [e] at e'
    injection e' with e'
    injection e' with e1 e2
    subst e1; subst e2
    have hx : (s.map (Value.int .i64))[0]? = some ((s.map (Value.int .i64))[0]'(by simpa using hp)) := List.getElem?_eq_getElem _
    have := World.block_lt_of_cell? _ _ (hc 0 _ hx)
    have : b < w.heap.size := this
    omega
  go_enter Try.func23, Try.ntmps23
  go_wp2
  refine region_row (w.heap.size + 1) (fun wx => ∃ x y, Bk wx (w.heap.size + 1) 26 #[x, y]) [3, 4, 5, 6, 7, 8, 9] [7] depCp (fsCp (w.heap.size + 2) s cp A c w.heap.size (w.heap.size + 1)) mixed (by kernel_rfl) ⟨_, _, B1⟩ ?_ ?_ ?_
  · intro j hj v w1 w2 hR hF
    match j with
    | 1 | 2 | 4 | 5 => exact hF
    | 0 => obtain ⟨g, e, o⟩ := hF; exact ⟨g, e, own_row_kept o hR (by omega)⟩
    | 3 => obtain ⟨B, d, e, o⟩ := hF; exact ⟨B, d, e, own_row_kept o hR (by omega)⟩
    | 6 => obtain ⟨B, d, e, o⟩ := hF; exact ⟨B, d, e, own_row_kept o hR (by omega)⟩
    | 7 => simp at hj
    | n + 8 => trivial
  · obtain ⟨i0, hi0, hz0, hz1, hz2⟩ := info_parts info_int
    refine ⟨?_, ?_, ?_, ?_, ?_, ?_, ?_, ?_, trivial⟩ <;> rintro a wx ⟨hs, hd, hB⟩ I hp
    · obtain ⟨x, y, hx⟩ := I.2
      have hz : w.heap.size + 2 ≤ wx.heap.size := by have := I.1.size; simpa using this
      exact .inl ⟨rfl, _, _, by simp [go_sem]; rfl, ⟨grown_trans' I.1 (grown_below ((Below.refl _ _).alloc (Nat.le_refl _) _)), x, y, hx.alloc _⟩, ⟨_, rfl, World.ownsRow_made _ _ _ hz (Nat.zero_le _) (by simp)⟩, .inr ⟨grown_below ((Below.refl _ _).alloc (Nat.le_refl _) _), rfl⟩⟩
    · have e1 : a.tmps[1]?.getD undef = .pointer (some ⟨w.heap.size, 0, none⟩) := hB 1 rfl
      exact .inl ⟨rfl, _, wx, by simp [go_sem, e1], I, rfl, .inl rfl⟩
    · have e3 : a.tmps[4]?.getD undef = _ := hp 1 rfl
      have f := (B0.grown' I.1 (by omega)).c2
      exact .inl ⟨rfl, _, wx, by simp [go_sem, e3, f], I, rfl, .inl rfl⟩
    · obtain ⟨g, e3, o⟩ := hp 0 rfl
      have e5 : a.tmps[5]?.getD undef = _ := hp 2 rfl
      have e3 : a.tmps[3]?.getD undef = _ := e3
      have hz : w.heap.size + 2 ≤ wx.heap.size := by have := I.1.size; simpa using this
      obtain ⟨x, y, hx⟩ := I.2
      obtain ⟨B, d, w', hrun, o', hb1, _⟩ := run_append_new (P := Try.prog) wx (w.heap.size + 2) 22 22 3 i0 (.int .i64 0) 1 8 Try.underlying22 hi0 hz0 hz1 hz2 rfl (by decide) g o A s.length c (s.map (Value.int .i64)) (rd_row_kept hr I.1 hlt) (oneCell_ints s) (by unfold maxLen; omega) (by omega) hz
      refine .inl ⟨rfl, _, w', exec_append (.tmp 3) (.tmp 5) 22 rfl ?_, ⟨grown_trans' I.1 (grown_below hb1), x, y, hx.after hb1⟩, ⟨B, d, rfl, o'⟩, .inr ⟨grown_below hb1, rfl⟩⟩
      simp only [Act.eval, Array.getD_eq_getD_getElem?]
      rw [e3, e5]
      exact hrun
    · have e1 : a.tmps[1]?.getD undef = .pointer (some ⟨w.heap.size, 0, none⟩) := hB 1 rfl
      exact .inl ⟨rfl, _, wx, by simp [go_sem, e1], I, rfl, .inl rfl⟩
    · have e3 : a.tmps[7]?.getD undef = _ := hp 4 rfl
      have f := (B0.grown' I.1 (by omega)).c2
      exact .inl ⟨rfl, _, wx, by simp [go_sem, e3, f], I, rfl, .inl rfl⟩
    · obtain ⟨B, d, e5, o⟩ := hp 3 rfl
      have e5 : a.tmps[6]?.getD undef = _ := e5
      have e7 : a.tmps[8]?.getD undef = _ := hp 5 rfl
      exact .inl ⟨rfl, _, wx, by simp [go_sem, e5, e7], I, ⟨B, d, rfl, o⟩, .inl rfl⟩
    · obtain ⟨B, d, e8, o⟩ := hp 6 rfl
      have e8 : a.tmps[9]?.getD undef = _ := e8
      have e2 : a.tmps[2]?.getD undef = .pointer (some ⟨w.heap.size + 1, 0, none⟩) := hB 2 rfl
      obtain ⟨x, y, hx⟩ := I.2
      have f := hx.c2
      have hfar : ∀ u v : Value, ((wx.setCell ⟨w.heap.size + 1, 0, none⟩ u).setCell ⟨w.heap.size + 1, 1, none⟩ v).ownsRow (w.heap.size + 2) 3 1 (.slice B s.length d) s.length (s.map (Value.int .i64)) := fun u v =>
        own_row_kept o (grown_set' (grown_set' ⟨rfl, rfl, rfl, Nat.le_refl _, fun _ _ _ => rfl⟩ 0 u) 1 v) (by omega)
      exact .inr (.inl ⟨rfl, _, by simp [go_sem, e2, e8, f]; rfl, ⟨grown_set' (grown_set' I.1 0 _) 1 _, _, _, by simpa using (hx.set_ 0 _).set_ 1 _⟩, ⟨B, d, by simpa using (hx.set_ 0 _).set_ 1 _, hfar _ _⟩, .inr ⟨grown_set' (grown_set' ⟨rfl, rfl, rfl, Nat.le_refl _, fun _ _ _ => rfl⟩ 0 _) 1 _, rfl⟩⟩)
  · intro a wx hB I hF
    obtain ⟨B, d, hx, o⟩ := hF 7 (by decide)
    rw [base_eq hB]
    simp only [List.foldl]
    have f := hx.c2
    have f' := f
    go_simp
    go_wp2
    refine bodyPost_ret (v := .agg #[.slice B s.length d, .bool cp]) (by simp [results, Try.results23, go_sem, f]) rfl ⟨B, d, rfl, own_mono o (by omega), ?_⟩
    exact b7.grown I.1 (by simp; omega) (fun k e => by injection e with e; omega)

end Go.Proofs.Ytandfbpanaldcaa
