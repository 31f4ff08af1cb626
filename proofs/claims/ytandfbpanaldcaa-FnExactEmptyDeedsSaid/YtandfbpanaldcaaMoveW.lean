/- MoveDeeds of the program and of the spec. -/
import Derived.Test.YtandfbpanaldcaaMoveM
import Derived.OwnWalk
import Derived.Maps.AppendAt
namespace Go.Proofs.Ytandfbpanaldcaa
open Go.ChangeShapes Go.WideShapes Go.ChangeAt Go.RowKit
set_option linter.unusedVariables false

def ListPost (w : World) (l : List Int) (e : Ending) (w' : World) : Prop :=
  ∃ B d, e = .returned (.slice B l.length d) ∧ w'.ownsRow w.heap.size 3 1 (.slice B l.length d) l.length (l.map (Value.int .i64)) ∧ Below w.heap.size w w'
theorem listPost_of {w w' : World} {lo n : Nat} {v : Value} {l : List Int} {xs : List Value} (h : w'.ownsRow lo 3 1 v n xs) (hl : w.heap.size ≤ lo) (e1 : l.length = n) (e2 : l.map (Value.int .i64) = xs) (b : Below w.heap.size w w') : ListPost w l (.returned v) w' := by
  subst e1; subst e2
  obtain ⟨B, d, rfl, _⟩ := own_form h
  exact ⟨B, d, rfl, own_mono h hl, b⟩
theorem own_grown2 {B lo : Nat} {a w w' : World} {t : TypeId} {size n : Nat} {v : Value} {xs : List Value} {o : Obj} (h : Below B a w) (hown : w.ownsRow lo t size v n xs) (hlo : B ≤ lo) (hg : (w.alloc o).grownBy w' v.ownBlock) (hB : B ≤ a.heap.size := by exact Nat.le_refl _) : Below B a w' :=
  (h.alloc (Nat.le_trans hB h.size) o).grown hg (by have := h.size; simp; omega) (fun k e => Nat.le_trans hlo (hown.lt k e).1)
theorem isolatorDeed_calls (bay bar : Int) (w : World) (h0 : 0 ≤ bay) (h1 : bay ≤ 6) (h2 : 0 ≤ bar) (h3 : bar ≤ 3) :
    Calls Try.prog 30 #[.int .i64 bay, .int .i64 bar] w fun e w' => e = .returned (.int .i64 (2 + 4 * bay + 2 * (bar - 1))) ∧ w = w' := by
  go_enter Try.func30, Try.ntmps30
  go_wp2
  go_ret
  exact ⟨rfl, rfl⟩

set_option maxHeartbeats 2000000 in
theorem iMove_none (s : List Int) (cp : Bool) (A : Option Addr) (c : Nat) (bay bar : Int) (w : World) (h : Rd w 1 A s.length (s.map (Value.int .i64))) (hn : s.length ≤ 1048576) (hno : moveDeeds s cp bay bar = []) (hc : ¬ (barsValid s cp = true ∧ 0 ≤ bay ∧ bay < s.length ∧ 1 ≤ bar ∧ bar ≤ 2 ∧ sideAt s bay.toNat ≠ bar)) : Calls Try.prog 28 #[.agg #[.slice A s.length c, .bool cp], .int .i64 bay, .int .i64 bar] w (ListPost w (moveDeeds s cp bay bar)) := by
  rw [hno]
  have B3 : Bk (w.alloc (.cells #[.slice A s.length c, .bool cp] 26)) w.heap.size 26 #[.slice A s.length c, .bool cp] := Bk.new _ _ _
  have b7 : Below w.heap.size w (w.alloc (.cells #[.slice A s.length c, .bool cp] 26)) := (by repeat' (first | exact Below.refl _ _ | assumption | refine Below.drew ?_ | refine cell_drew ?_ | refine Below.setCell ?_ (by (try simp); (try omega)) _ | refine Below.alloc ?_ (by (try simp); (try omega)) _ | refine below_step (by assumption) (by (try simp); (try omega)) ?_))
  have own0 : ((w.alloc (.cells #[.slice A s.length c, .bool cp] 26))).ownsRow (w.heap.size + 1) 3 1 (.slice none 0 0) 0 [] := World.ownsRow_nil _ _ _ _
  cases hv : barsValid s cp
  · clear hc hno
    go_enter Try.func28, Try.ntmps28
    go_wp2_with fail
    refine (iBarsValid_calls s cp _ c _ (h.after b7) hn).mono ?_
    rw [hv]
    rintro e w0 ⟨rfl, bb⟩
    replace B3 := B3.after bb
    replace own0 := own_after own0 bb
    replace b7 := below_after' bb b7
    have ff := B3.c2
    go_wp2_with fail
    go_ret
    exact listPost_of own0 (by omega) rfl rfl b7
  by_cases h0 : bay < 0
  · clear hc hno
    go_enter Try.func28, Try.ntmps28
    go_wp2_with fail
    refine (iBarsValid_calls s cp _ c _ (h.after b7) hn).mono ?_
    rw [hv]
    rintro e w0 ⟨rfl, bb⟩
    replace B3 := B3.after bb
    replace own0 := own_after own0 bb
    replace b7 := below_after' bb b7
    have ff := B3.c2
    go_wp2_with fail
    go_ret
    exact listPost_of own0 (by omega) rfl rfl b7
  by_cases h1 : (s.length : Int) ≤ bay
  · clear hc hno
    go_enter Try.func28, Try.ntmps28
    go_wp2_with fail
    refine (iBarsValid_calls s cp _ c _ (h.after b7) hn).mono ?_
    rw [hv]
    rintro e w0 ⟨rfl, bb⟩
    replace B3 := B3.after bb
    replace own0 := own_after own0 bb
    replace b7 := below_after' bb b7
    have ff := B3.c2
    go_wp2_with fail
    go_ret
    exact listPost_of own0 (by omega) rfl rfl b7
  obtain ⟨k, rfl⟩ : ∃ k : Nat, bay = (k : Int) := ⟨bay.toNat, by omega⟩
  have hk : k < s.length := by omega
  have p1 : decide ((k : Int) < 0) = false := decide_eq_false (by omega)
  have p2 : decide ((s.length : Int) ≤ (k : Int)) = false := decide_eq_false (by omega)
  by_cases h2 : bar < 1
  · clear hc hno
    go_enter Try.func28, Try.ntmps28
    go_wp2_with fail
    refine (iBarsValid_calls s cp _ c _ (h.after b7) hn).mono ?_
    rw [hv]
    rintro e w0 ⟨rfl, bb⟩
    replace B3 := B3.after bb
    replace own0 := own_after own0 bb
    replace b7 := below_after' bb b7
    have ff := B3.c2
    go_wp2_with fail
    go_ret
    exact listPost_of own0 (by omega) rfl rfl b7
  by_cases h3 : 2 < bar
  · clear hc hno
    go_enter Try.func28, Try.ntmps28
    go_wp2_with fail
    refine (iBarsValid_calls s cp _ c _ (h.after b7) hn).mono ?_
    rw [hv]
    rintro e w0 ⟨rfl, bb⟩
    replace B3 := B3.after bb
    replace own0 := own_after own0 bb
    replace b7 := below_after' bb b7
    have ff := B3.c2
    go_wp2_with fail
    go_ret
    exact listPost_of own0 (by omega) rfl rfl b7
  have hside : s[k] = bar := by
    have e0 : sideAt s k = s[k] := by simp [sideAt, hk]
    rw [← e0]
    simp only [Int.toNat_natCast] at hc
    apply Classical.byContradiction
    intro hh
    exact hc ⟨hv, by omega, by omega, by omega, by omega, hh⟩
  obtain ⟨b, off, rfl, hb0, u, hu, hcl⟩ := h.at1 hk
  obtain rfl : u = .int .i64 s[k] := by simpa [hk] using hu.symm
  rw [hside] at hcl
  clear hu hc hno hside
  have hk0 : (0 : Int) ≤ (k : Int) := by omega
  have hk1 : (k : Int) < (s.length : Int) := by omega
  have p3 : decide (bar < 1) = false := by simp; omega
  have p4 : decide (2 < bar) = false := by simp; omega
  go_enter Try.func28, Try.ntmps28
  go_wp2_with fail
  refine (iBarsValid_calls s cp _ c _ (h.after b7) hn).mono ?_
  rw [hv]
  rintro e w0 ⟨rfl, bb⟩
  replace B3 := B3.after bb
  replace own0 := own_after own0 bb
  replace b7 := below_after' bb b7
  have ff := B3.c2
  have hcc : w0.cell? ⟨b, off + k, none⟩ = _ := (b7.cell (p := ⟨b, off + k, none⟩) hb0).trans hcl
  go_wp2_with fail
  go_ret
  exact listPost_of own0 (by omega) rfl rfl b7

set_option maxHeartbeats 2000000 in
theorem iMove_false_x (s : List Int) (A : Option Addr) (c : Nat) (k : Nat) (bar : Int) (w : World) (h : Rd w 1 A s.length (s.map (Value.int .i64))) (hn : s.length ≤ 1048576) (hv : barsValid s false = true) (hk : k < s.length) (hb : bar = 1 ∨ bar = 2) (hx : s[k] = 3 - bar) :
    Calls Try.prog 28 #[.agg #[.slice A s.length c, .bool false], .int .i64 (k : Int), .int .i64 bar] w (ListPost w [1, 2 + 4 * (k : Int) + 2 * (bar - 1) + 1, 2 + 4 * (k : Int) + 2 * (3 - bar - 1), 0]) := by
  obtain ⟨i0, hi0, hz0, hz1, hz2⟩ := info_parts info_int
  obtain ⟨hl1, hl6⟩ := barsValid_length hv
  obtain ⟨b, off, rfl, hb0, u, hu, hc⟩ := h.at1 hk
  obtain rfl : u = .int .i64 s[k] := by simpa [hk] using hu.symm
  rw [hx] at hc
  have hk0 : (0 : Int) ≤ (k : Int) := by omega
  have hk1 : (k : Int) < (s.length : Int) := by omega
  have hb1 : 1 ≤ bar := by omega
  have hb2 : bar ≤ 2 := by omega
  have q1 : (3 - bar == bar) = false := by simp; omega
  have q2 : bits .and .i64 (3 - bar) bar = 0 := by rcases hb with rfl | rfl <;> decide
  have q3 : (bar == 0) = false := by simp; omega
  have B3 : Bk (w.alloc (.cells #[.slice (some ⟨b, off, none⟩) s.length c, .bool false] 26)) w.heap.size 26 #[.slice (some ⟨b, off, none⟩) s.length c, .bool false] := Bk.new _ _ _
  have b7 : Below w.heap.size w (w.alloc (.cells #[.slice (some ⟨b, off, none⟩) s.length c, .bool false] 26)) := (by repeat' (first | exact Below.refl _ _ | assumption | refine Below.drew ?_ | refine cell_drew ?_ | refine Below.setCell ?_ (by (try simp); (try omega)) _ | refine Below.alloc ?_ (by (try simp); (try omega)) _ | refine below_step (by assumption) (by (try simp); (try omega)) ?_))
  have own0 : ((w.alloc (.cells #[.slice (some ⟨b, off, none⟩) s.length c, .bool false] 26))).ownsRow (w.heap.size + 1) 3 1 (.slice none 0 0) 0 [] := World.ownsRow_nil _ _ _ _
  clear hu
  go_enter Try.func28, Try.ntmps28
  go_wp2_with fail
  refine (iBarsValid_calls s false _ c _ (h.after b7) hn).mono ?_
  rw [hv]
  rintro e w0 ⟨rfl, bb⟩
  replace B3 := B3.after bb
  replace b7 := below_after' bb b7
  have hw0 := B3.lt
  replace own0 := own_after own0 bb
  clear bb
  have hcc : w0.cell? ⟨b, off + k, none⟩ = _ := (b7.cell (p := ⟨b, off + k, none⟩) hb0).trans hc
  have ff := B3.c2
  go_wp2_with (first
    | (at_builtin; refine wpList_append_own _ rfl _ _ 22 rfl (w.heap.size + 1) 3 i0 (.int .i64 0) 1 8 Try.underlying22 hi0 hz0 hz1 hz2 rfl (by decide) _ _ _ rfl (own0.alloc _) ⟨w0.heap.size, 0, none⟩ 1 1 [.int .i64 (1)] rfl rfl (cell_one_new _ _ _) (by intro u hu; simp at hu; subst hu; rfl) (by unfold maxLen; omega) (by omega) (by (try simp); omega) ?_; intro v1 w1 own1 hg1 hn1; replace B3 := (B3.alloc (.cells #[.int .i64 (1)] 3)).row hg1 (fun r e => by have := (own0.lt r e).1; omega); replace b7 : Below w.heap.size w w1 := own_grown2 b7 own0 (by omega) hg1; have hsz1 := b7.size; replace hcc : w1.cell? ⟨b, off + k, none⟩ = _ := (b7.cell (p := ⟨b, off + k, none⟩) hb0).trans hc; replace ff := B3.c2; clear hg1 hn1 own0)
    | (at_builtin; refine wpList_append_own _ rfl _ _ 22 rfl (w.heap.size + 1) 3 i0 (.int .i64 0) 1 8 Try.underlying22 hi0 hz0 hz1 hz2 rfl (by decide) _ _ _ rfl (own1.alloc _) ⟨w1.heap.size, 0, none⟩ 1 1 [.int .i64 (2 + 4 * (k : Int) + 2 * (bar - 1) + 1)] rfl rfl (cell_one_new _ _ _) (by intro u hu; simp at hu; subst hu; rfl) (by unfold maxLen; omega) (by omega) (by (try simp); omega) ?_; intro v2 w2 own2 hg2 hn2; replace B3 := (B3.alloc (.cells #[.int .i64 (2 + 4 * (k : Int) + 2 * (bar - 1) + 1)] 3)).row hg2 (fun r e => by have := (own1.lt r e).1; omega); replace b7 : Below w.heap.size w w2 := own_grown2 b7 own1 (by omega) hg2; have hsz2 := b7.size; replace hcc : w2.cell? ⟨b, off + k, none⟩ = _ := (b7.cell (p := ⟨b, off + k, none⟩) hb0).trans hc; replace ff := B3.c2; clear hg2 hn2 own1)
    | (at_builtin; refine wpList_append_own _ rfl _ _ 22 rfl (w.heap.size + 1) 3 i0 (.int .i64 0) 1 8 Try.underlying22 hi0 hz0 hz1 hz2 rfl (by decide) _ _ _ rfl (own2.alloc _) ⟨w2.heap.size, 0, none⟩ 1 1 [.int .i64 (2 + 4 * (k : Int) + 2 * (3 - bar - 1))] rfl rfl (cell_one_new _ _ _) (by intro u hu; simp at hu; subst hu; rfl) (by unfold maxLen; omega) (by omega) (by (try simp); omega) ?_; intro v3 w3 own3 hg3 hn3; replace B3 := (B3.alloc (.cells #[.int .i64 (2 + 4 * (k : Int) + 2 * (3 - bar - 1))] 3)).row hg3 (fun r e => by have := (own2.lt r e).1; omega); replace b7 : Below w.heap.size w w3 := own_grown2 b7 own2 (by omega) hg3; have hsz3 := b7.size; replace hcc : w3.cell? ⟨b, off + k, none⟩ = _ := (b7.cell (p := ⟨b, off + k, none⟩) hb0).trans hc; replace ff := B3.c2; clear hg3 hn3 own2)
    | (at_builtin; refine wpList_append_own _ rfl _ _ 22 rfl (w.heap.size + 1) 3 i0 (.int .i64 0) 1 8 Try.underlying22 hi0 hz0 hz1 hz2 rfl (by decide) _ _ _ rfl (own3.alloc _) ⟨w3.heap.size, 0, none⟩ 1 1 [.int .i64 (0)] rfl rfl (cell_one_new _ _ _) (by intro u hu; simp at hu; subst hu; rfl) (by unfold maxLen; omega) (by omega) (by (try simp); omega) ?_; intro v4 w4 own4 hg4 hn4; replace B3 := (B3.alloc (.cells #[.int .i64 (0)] 3)).row hg4 (fun r e => by have := (own3.lt r e).1; omega); replace b7 : Below w.heap.size w w4 := own_grown2 b7 own3 (by omega) hg4; have hsz4 := b7.size; replace hcc : w4.cell? ⟨b, off + k, none⟩ = _ := (b7.cell (p := ⟨b, off + k, none⟩) hb0).trans hc; replace ff := B3.c2; clear hg4 hn4 own3)
    | (go_at_call 30; refine (isolatorDeed_calls _ _ _ (by omega) (by omega) (by omega) (by omega)).mono ?_; rintro e w' ⟨rfl, rfl⟩)
    )
  go_ret
  exact listPost_of own4 (by omega) rfl rfl b7

set_option maxHeartbeats 2000000 in
theorem iMove_true_x (s : List Int) (A : Option Addr) (c : Nat) (k : Nat) (bar : Int) (w : World) (h : Rd w 1 A s.length (s.map (Value.int .i64))) (hn : s.length ≤ 1048576) (hv : barsValid s true = true) (hk : k < s.length) (hb : bar = 1 ∨ bar = 2) (hx : s[k] = 3 - bar) :
    Calls Try.prog 28 #[.agg #[.slice A s.length c, .bool true], .int .i64 (k : Int), .int .i64 bar] w (ListPost w [2 + 4 * (k : Int) + 2 * (bar - 1) + 1, 2 + 4 * (k : Int) + 2 * (3 - bar - 1)]) := by
  obtain ⟨i0, hi0, hz0, hz1, hz2⟩ := info_parts info_int
  obtain ⟨hl1, hl6⟩ := barsValid_length hv
  obtain ⟨b, off, rfl, hb0, u, hu, hc⟩ := h.at1 hk
  obtain rfl : u = .int .i64 s[k] := by simpa [hk] using hu.symm
  rw [hx] at hc
  have hk0 : (0 : Int) ≤ (k : Int) := by omega
  have hk1 : (k : Int) < (s.length : Int) := by omega
  have hb1 : 1 ≤ bar := by omega
  have hb2 : bar ≤ 2 := by omega
  have q1 : (3 - bar == bar) = false := by simp; omega
  have q2 : bits .and .i64 (3 - bar) bar = 0 := by rcases hb with rfl | rfl <;> decide
  have q3 : (bar == 0) = false := by simp; omega
  have B3 : Bk (w.alloc (.cells #[.slice (some ⟨b, off, none⟩) s.length c, .bool true] 26)) w.heap.size 26 #[.slice (some ⟨b, off, none⟩) s.length c, .bool true] := Bk.new _ _ _
  have b7 : Below w.heap.size w (w.alloc (.cells #[.slice (some ⟨b, off, none⟩) s.length c, .bool true] 26)) := (by repeat' (first | exact Below.refl _ _ | assumption | refine Below.drew ?_ | refine cell_drew ?_ | refine Below.setCell ?_ (by (try simp); (try omega)) _ | refine Below.alloc ?_ (by (try simp); (try omega)) _ | refine below_step (by assumption) (by (try simp); (try omega)) ?_))
  have own0 : ((w.alloc (.cells #[.slice (some ⟨b, off, none⟩) s.length c, .bool true] 26))).ownsRow (w.heap.size + 1) 3 1 (.slice none 0 0) 0 [] := World.ownsRow_nil _ _ _ _
  clear hu
  go_enter Try.func28, Try.ntmps28
  go_wp2_with fail
  refine (iBarsValid_calls s true _ c _ (h.after b7) hn).mono ?_
  rw [hv]
  rintro e w0 ⟨rfl, bb⟩
  replace B3 := B3.after bb
  replace b7 := below_after' bb b7
  have hw0 := B3.lt
  replace own0 := own_after own0 bb
  clear bb
  have hcc : w0.cell? ⟨b, off + k, none⟩ = _ := (b7.cell (p := ⟨b, off + k, none⟩) hb0).trans hc
  have ff := B3.c2
  go_wp2_with (first
    | (at_builtin; refine wpList_append_own _ rfl _ _ 22 rfl (w.heap.size + 1) 3 i0 (.int .i64 0) 1 8 Try.underlying22 hi0 hz0 hz1 hz2 rfl (by decide) _ _ _ rfl (own0.alloc _) ⟨w0.heap.size, 0, none⟩ 1 1 [.int .i64 (2 + 4 * (k : Int) + 2 * (bar - 1) + 1)] rfl rfl (cell_one_new _ _ _) (by intro u hu; simp at hu; subst hu; rfl) (by unfold maxLen; omega) (by omega) (by (try simp); omega) ?_; intro v1 w1 own1 hg1 hn1; replace B3 := (B3.alloc (.cells #[.int .i64 (2 + 4 * (k : Int) + 2 * (bar - 1) + 1)] 3)).row hg1 (fun r e => by have := (own0.lt r e).1; omega); replace b7 : Below w.heap.size w w1 := own_grown2 b7 own0 (by omega) hg1; have hsz1 := b7.size; replace hcc : w1.cell? ⟨b, off + k, none⟩ = _ := (b7.cell (p := ⟨b, off + k, none⟩) hb0).trans hc; replace ff := B3.c2; clear hg1 hn1 own0)
    | (at_builtin; refine wpList_append_own _ rfl _ _ 22 rfl (w.heap.size + 1) 3 i0 (.int .i64 0) 1 8 Try.underlying22 hi0 hz0 hz1 hz2 rfl (by decide) _ _ _ rfl (own1.alloc _) ⟨w1.heap.size, 0, none⟩ 1 1 [.int .i64 (2 + 4 * (k : Int) + 2 * (3 - bar - 1))] rfl rfl (cell_one_new _ _ _) (by intro u hu; simp at hu; subst hu; rfl) (by unfold maxLen; omega) (by omega) (by (try simp); omega) ?_; intro v2 w2 own2 hg2 hn2; replace B3 := (B3.alloc (.cells #[.int .i64 (2 + 4 * (k : Int) + 2 * (3 - bar - 1))] 3)).row hg2 (fun r e => by have := (own1.lt r e).1; omega); replace b7 : Below w.heap.size w w2 := own_grown2 b7 own1 (by omega) hg2; have hsz2 := b7.size; replace hcc : w2.cell? ⟨b, off + k, none⟩ = _ := (b7.cell (p := ⟨b, off + k, none⟩) hb0).trans hc; replace ff := B3.c2; clear hg2 hn2 own1)
    | (go_at_call 30; refine (isolatorDeed_calls _ _ _ (by omega) (by omega) (by omega) (by omega)).mono ?_; rintro e w' ⟨rfl, rfl⟩)
    )
  go_ret
  exact listPost_of own2 (by omega) rfl rfl b7

set_option maxHeartbeats 2000000 in
theorem iMove_true_3 (s : List Int) (A : Option Addr) (c : Nat) (k : Nat) (bar : Int) (w : World) (h : Rd w 1 A s.length (s.map (Value.int .i64))) (hn : s.length ≤ 1048576) (hv : barsValid s true = true) (hk : k < s.length) (hb : bar = 1 ∨ bar = 2) (hx : s[k] = 3) :
    Calls Try.prog 28 #[.agg #[.slice A s.length c, .bool true], .int .i64 (k : Int), .int .i64 bar] w (ListPost w [2 + 4 * (k : Int) + 2 * (3 - bar - 1)]) := by
  obtain ⟨i0, hi0, hz0, hz1, hz2⟩ := info_parts info_int
  obtain ⟨hl1, hl6⟩ := barsValid_length hv
  obtain ⟨b, off, rfl, hb0, u, hu, hc⟩ := h.at1 hk
  obtain rfl : u = .int .i64 s[k] := by simpa [hk] using hu.symm
  rw [hx] at hc
  have hk0 : (0 : Int) ≤ (k : Int) := by omega
  have hk1 : (k : Int) < (s.length : Int) := by omega
  have hb1 : 1 ≤ bar := by omega
  have hb2 : bar ≤ 2 := by omega
  have q1 : (3 == bar) = false := by simp; omega
  have q2 : bits .and .i64 (3) bar = bar := by rcases hb with rfl | rfl <;> decide
  have q3 : (bar == 0) = false := by simp; omega
  have B3 : Bk (w.alloc (.cells #[.slice (some ⟨b, off, none⟩) s.length c, .bool true] 26)) w.heap.size 26 #[.slice (some ⟨b, off, none⟩) s.length c, .bool true] := Bk.new _ _ _
  have b7 : Below w.heap.size w (w.alloc (.cells #[.slice (some ⟨b, off, none⟩) s.length c, .bool true] 26)) := (by repeat' (first | exact Below.refl _ _ | assumption | refine Below.drew ?_ | refine cell_drew ?_ | refine Below.setCell ?_ (by (try simp); (try omega)) _ | refine Below.alloc ?_ (by (try simp); (try omega)) _ | refine below_step (by assumption) (by (try simp); (try omega)) ?_))
  have own0 : ((w.alloc (.cells #[.slice (some ⟨b, off, none⟩) s.length c, .bool true] 26))).ownsRow (w.heap.size + 1) 3 1 (.slice none 0 0) 0 [] := World.ownsRow_nil _ _ _ _
  clear hu
  go_enter Try.func28, Try.ntmps28
  go_wp2_with fail
  refine (iBarsValid_calls s true _ c _ (h.after b7) hn).mono ?_
  rw [hv]
  rintro e w0 ⟨rfl, bb⟩
  replace B3 := B3.after bb
  replace b7 := below_after' bb b7
  have hw0 := B3.lt
  replace own0 := own_after own0 bb
  clear bb
  have hcc : w0.cell? ⟨b, off + k, none⟩ = _ := (b7.cell (p := ⟨b, off + k, none⟩) hb0).trans hc
  have ff := B3.c2
  go_wp2_with (first
    | (at_builtin; refine wpList_append_own _ rfl _ _ 22 rfl (w.heap.size + 1) 3 i0 (.int .i64 0) 1 8 Try.underlying22 hi0 hz0 hz1 hz2 rfl (by decide) _ _ _ rfl (own0.alloc _) ⟨w0.heap.size, 0, none⟩ 1 1 [.int .i64 (2 + 4 * (k : Int) + 2 * (3 - bar - 1))] rfl rfl (cell_one_new _ _ _) (by intro u hu; simp at hu; subst hu; rfl) (by unfold maxLen; omega) (by omega) (by (try simp); omega) ?_; intro v1 w1 own1 hg1 hn1; replace B3 := (B3.alloc (.cells #[.int .i64 (2 + 4 * (k : Int) + 2 * (3 - bar - 1))] 3)).row hg1 (fun r e => by have := (own0.lt r e).1; omega); replace b7 : Below w.heap.size w w1 := own_grown2 b7 own0 (by omega) hg1; have hsz1 := b7.size; replace hcc : w1.cell? ⟨b, off + k, none⟩ = _ := (b7.cell (p := ⟨b, off + k, none⟩) hb0).trans hc; replace ff := B3.c2; clear hg1 hn1 own0)
    | (go_at_call 30; refine (isolatorDeed_calls _ _ _ (by omega) (by omega) (by omega) (by omega)).mono ?_; rintro e w' ⟨rfl, rfl⟩)
    )
  go_ret
  exact listPost_of own1 (by omega) rfl rfl b7

set_option maxHeartbeats 2000000 in
theorem sMove_none (s : List Int) (cp : Bool) (A : Option Addr) (c : Nat) (bay bar : Int) (w : World) (h : Rd w 1 A s.length (s.map (Value.int .i64))) (hn : s.length ≤ 1048576) (hno : moveDeeds s cp bay bar = []) (hc : ¬ (barsValid s cp = true ∧ 0 ≤ bay ∧ bay < s.length ∧ 1 ≤ bar ∧ bar ≤ 2 ∧ sideAt s bay.toNat ≠ bar)) : Calls Try.prog 27 #[.agg #[.slice A s.length c, .bool cp], .int .i64 bay, .int .i64 bar] w (ListPost w (moveDeeds s cp bay bar)) := by
  rw [hno]
  have B3 : Bk ((w.alloc (.cells #[.slice A s.length c, .bool cp] 26)).alloc (.cells #[] 3)) w.heap.size 26 #[.slice A s.length c, .bool cp] := (Bk.new _ _ _).alloc _
  have b7 : Below w.heap.size w ((w.alloc (.cells #[.slice A s.length c, .bool cp] 26)).alloc (.cells #[] 3)) := (by repeat' (first | exact Below.refl _ _ | assumption | refine Below.drew ?_ | refine cell_drew ?_ | refine Below.setCell ?_ (by (try simp); (try omega)) _ | refine Below.alloc ?_ (by (try simp); (try omega)) _ | refine below_step (by assumption) (by (try simp); (try omega)) ?_))
  have own0 : (((w.alloc (.cells #[.slice A s.length c, .bool cp] 26)).alloc (.cells #[] 3))).ownsRow (w.heap.size + 1) 3 1 (.slice (some ⟨w.heap.size + 1, 0, none⟩) 0 0) 0 [] := by simpa using World.ownsRow_made (base := w.heap.size + 1) (e := 3) (size := 1) (w.alloc (.cells #[.slice A s.length c, .bool cp] 26)) #[] 0 (by simp) (Nat.zero_le _) (by simp)
  cases hv : barsValid s cp
  · clear hc hno
    go_enter Try.func27, Try.ntmps27
    go_wp2_with fail
    refine (sBarsValid_calls s cp _ c _ (h.after b7) hn).mono ?_
    rw [hv]
    rintro e w0 ⟨rfl, bb⟩
    replace B3 := B3.after bb
    replace own0 := own_after own0 bb
    replace b7 := below_after' bb b7
    have ff := B3.c2
    go_wp2_with (go_at_call 26; refine (bl1In_calls _ _ _ _).mono ?_; rintro e w' ⟨rfl, rfl⟩)
    go_ret
    exact listPost_of own0 (by omega) rfl rfl b7
  by_cases h0 : bay < 0
  · clear hc hno
    have p1 : inB bay 0 ((s.length : Int) - 1) = false := by simp [inB]; omega
    go_enter Try.func27, Try.ntmps27
    go_wp2_with fail
    refine (sBarsValid_calls s cp _ c _ (h.after b7) hn).mono ?_
    rw [hv]
    rintro e w0 ⟨rfl, bb⟩
    replace B3 := B3.after bb
    replace own0 := own_after own0 bb
    replace b7 := below_after' bb b7
    have ff := B3.c2
    go_wp2_with (go_at_call 26; refine (bl1In_calls _ _ _ _).mono ?_; rintro e w' ⟨rfl, rfl⟩)
    go_ret
    exact listPost_of own0 (by omega) rfl rfl b7
  by_cases h1 : (s.length : Int) ≤ bay
  · clear hc hno
    have p1 : inB bay 0 ((s.length : Int) - 1) = false := by simp [inB]; omega
    go_enter Try.func27, Try.ntmps27
    go_wp2_with fail
    refine (sBarsValid_calls s cp _ c _ (h.after b7) hn).mono ?_
    rw [hv]
    rintro e w0 ⟨rfl, bb⟩
    replace B3 := B3.after bb
    replace own0 := own_after own0 bb
    replace b7 := below_after' bb b7
    have ff := B3.c2
    go_wp2_with (go_at_call 26; refine (bl1In_calls _ _ _ _).mono ?_; rintro e w' ⟨rfl, rfl⟩)
    go_ret
    exact listPost_of own0 (by omega) rfl rfl b7
  obtain ⟨k, rfl⟩ : ∃ k : Nat, bay = (k : Int) := ⟨bay.toNat, by omega⟩
  have hk : k < s.length := by omega
  have p1 : inB (k : Int) 0 ((s.length : Int) - 1) = true := by simp [inB]; omega
  by_cases h2 : bar < 1
  · clear hc hno
    have p3 : inB bar 1 2 = false := by simp [inB]; omega
    go_enter Try.func27, Try.ntmps27
    go_wp2_with fail
    refine (sBarsValid_calls s cp _ c _ (h.after b7) hn).mono ?_
    rw [hv]
    rintro e w0 ⟨rfl, bb⟩
    replace B3 := B3.after bb
    replace own0 := own_after own0 bb
    replace b7 := below_after' bb b7
    have ff := B3.c2
    go_wp2_with (go_at_call 26; refine (bl1In_calls _ _ _ _).mono ?_; rintro e w' ⟨rfl, rfl⟩)
    go_ret
    exact listPost_of own0 (by omega) rfl rfl b7
  by_cases h3 : 2 < bar
  · clear hc hno
    have p3 : inB bar 1 2 = false := by simp [inB]; omega
    go_enter Try.func27, Try.ntmps27
    go_wp2_with fail
    refine (sBarsValid_calls s cp _ c _ (h.after b7) hn).mono ?_
    rw [hv]
    rintro e w0 ⟨rfl, bb⟩
    replace B3 := B3.after bb
    replace own0 := own_after own0 bb
    replace b7 := below_after' bb b7
    have ff := B3.c2
    go_wp2_with (go_at_call 26; refine (bl1In_calls _ _ _ _).mono ?_; rintro e w' ⟨rfl, rfl⟩)
    go_ret
    exact listPost_of own0 (by omega) rfl rfl b7
  have hside : s[k] = bar := by
    have e0 : sideAt s k = s[k] := by simp [sideAt, hk]
    rw [← e0]
    simp only [Int.toNat_natCast] at hc
    apply Classical.byContradiction
    intro hh
    exact hc ⟨hv, by omega, by omega, by omega, by omega, hh⟩
  obtain ⟨b, off, rfl, hb0, u, hu, hcl⟩ := h.at1 hk
  obtain rfl : u = .int .i64 s[k] := by simpa [hk] using hu.symm
  rw [hside] at hcl
  clear hu hc hno hside
  have hk0 : (0 : Int) ≤ (k : Int) := by omega
  have hk1 : (k : Int) < (s.length : Int) := by omega
  have p3 : inB bar 1 2 = true := by simp [inB]; omega
  go_enter Try.func27, Try.ntmps27
  go_wp2_with fail
  refine (sBarsValid_calls s cp _ c _ (h.after b7) hn).mono ?_
  rw [hv]
  rintro e w0 ⟨rfl, bb⟩
  replace B3 := B3.after bb
  replace own0 := own_after own0 bb
  replace b7 := below_after' bb b7
  have ff := B3.c2
  have hcc : w0.cell? ⟨b, off + k, none⟩ = _ := (b7.cell (p := ⟨b, off + k, none⟩) hb0).trans hcl
  go_wp2_with (go_at_call 26; refine (bl1In_calls _ _ _ _).mono ?_; rintro e w' ⟨rfl, rfl⟩)
  go_ret
  exact listPost_of own0 (by omega) rfl rfl b7

set_option maxHeartbeats 2000000 in
theorem sMove_false_x (s : List Int) (A : Option Addr) (c : Nat) (k : Nat) (bar : Int) (w : World) (h : Rd w 1 A s.length (s.map (Value.int .i64))) (hn : s.length ≤ 1048576) (hv : barsValid s false = true) (hk : k < s.length) (hb : bar = 1 ∨ bar = 2) (hx : s[k] = 3 - bar) :
    Calls Try.prog 27 #[.agg #[.slice A s.length c, .bool false], .int .i64 (k : Int), .int .i64 bar] w (ListPost w [1, 2 + 4 * (k : Int) + 2 * (bar - 1) + 1, 2 + 4 * (k : Int) + 2 * (2 - bar), 0]) := by
  obtain ⟨i0, hi0, hz0, hz1, hz2⟩ := info_parts info_int
  obtain ⟨hl1, hl6⟩ := barsValid_length hv
  obtain ⟨b, off, rfl, hb0, u, hu, hc⟩ := h.at1 hk
  obtain rfl : u = .int .i64 s[k] := by simpa [hk] using hu.symm
  rw [hx] at hc
  have hk0 : (0 : Int) ≤ (k : Int) := by omega
  have hk1 : (k : Int) < (s.length : Int) := by omega
  have hb1 : 1 ≤ bar := by omega
  have hb2 : bar ≤ 2 := by omega
  have q1 : (3 - bar == bar) = false := by simp; omega
  have q2 : ((3 - bar : Int) != 3) = true := by simp; omega
  have q4 : inB (k : Int) 0 ((s.length : Int) - 1) = true := by simp [inB]; omega
  have q5 : inB bar 1 2 = true := by simp [inB]; omega
  have B3 : Bk ((w.alloc (.cells #[.slice (some ⟨b, off, none⟩) s.length c, .bool false] 26)).alloc (.cells #[] 3)) w.heap.size 26 #[.slice (some ⟨b, off, none⟩) s.length c, .bool false] := (Bk.new _ _ _).alloc _
  have b7 : Below w.heap.size w ((w.alloc (.cells #[.slice (some ⟨b, off, none⟩) s.length c, .bool false] 26)).alloc (.cells #[] 3)) := (by repeat' (first | exact Below.refl _ _ | assumption | refine Below.drew ?_ | refine cell_drew ?_ | refine Below.setCell ?_ (by (try simp); (try omega)) _ | refine Below.alloc ?_ (by (try simp); (try omega)) _ | refine below_step (by assumption) (by (try simp); (try omega)) ?_))
  have own0 : (((w.alloc (.cells #[.slice (some ⟨b, off, none⟩) s.length c, .bool false] 26)).alloc (.cells #[] 3))).ownsRow (w.heap.size + 1) 3 1 (.slice (some ⟨w.heap.size + 1, 0, none⟩) 0 0) 0 [] := by simpa using World.ownsRow_made (base := w.heap.size + 1) (e := 3) (size := 1) (w.alloc (.cells #[.slice (some ⟨b, off, none⟩) s.length c, .bool false] 26)) #[] 0 (by simp) (Nat.zero_le _) (by simp)
  clear hu
  go_enter Try.func27, Try.ntmps27
  go_wp2_with fail
  refine (sBarsValid_calls s false _ c _ (h.after b7) hn).mono ?_
  rw [hv]
  rintro e w0 ⟨rfl, bb⟩
  replace B3 := B3.after bb
  replace b7 := below_after' bb b7
  have hw0 := B3.lt
  replace own0 := own_after own0 bb
  clear bb
  have hcc : w0.cell? ⟨b, off + k, none⟩ = _ := (b7.cell (p := ⟨b, off + k, none⟩) hb0).trans hc
  have ff := B3.c2
  go_wp2_with (first
    | (at_builtin; refine wpList_append_own _ rfl _ _ 22 rfl (w.heap.size + 1) 3 i0 (.int .i64 0) 1 8 Try.underlying22 hi0 hz0 hz1 hz2 rfl (by decide) _ _ _ rfl (own0.alloc _) ⟨w0.heap.size, 0, none⟩ 1 1 [.int .i64 (1)] rfl rfl (cell_one_new _ _ _) (by intro u hu; simp at hu; subst hu; rfl) (by unfold maxLen; omega) (by omega) (by (try simp); omega) ?_; intro v1 w1 own1 hg1 hn1; replace B3 := (B3.alloc (.cells #[.int .i64 (1)] 3)).row hg1 (fun r e => by have := (own0.lt r e).1; omega); replace b7 : Below w.heap.size w w1 := own_grown2 b7 own0 (by omega) hg1; have hsz1 := b7.size; replace hcc : w1.cell? ⟨b, off + k, none⟩ = _ := (b7.cell (p := ⟨b, off + k, none⟩) hb0).trans hc; replace ff := B3.c2; clear hg1 hn1 own0)
    | (at_builtin; refine wpList_append_own _ rfl _ _ 22 rfl (w.heap.size + 1) 3 i0 (.int .i64 0) 1 8 Try.underlying22 hi0 hz0 hz1 hz2 rfl (by decide) _ _ _ rfl (own1.alloc _) ⟨w1.heap.size, 0, none⟩ 1 1 [.int .i64 (2 + 4 * (k : Int) + 2 * (bar - 1) + 1)] rfl rfl (cell_one_new _ _ _) (by intro u hu; simp at hu; subst hu; rfl) (by unfold maxLen; omega) (by omega) (by (try simp); omega) ?_; intro v2 w2 own2 hg2 hn2; replace B3 := (B3.alloc (.cells #[.int .i64 (2 + 4 * (k : Int) + 2 * (bar - 1) + 1)] 3)).row hg2 (fun r e => by have := (own1.lt r e).1; omega); replace b7 : Below w.heap.size w w2 := own_grown2 b7 own1 (by omega) hg2; have hsz2 := b7.size; replace hcc : w2.cell? ⟨b, off + k, none⟩ = _ := (b7.cell (p := ⟨b, off + k, none⟩) hb0).trans hc; replace ff := B3.c2; clear hg2 hn2 own1)
    | (at_builtin; refine wpList_append_own _ rfl _ _ 22 rfl (w.heap.size + 1) 3 i0 (.int .i64 0) 1 8 Try.underlying22 hi0 hz0 hz1 hz2 rfl (by decide) _ _ _ rfl (own2.alloc _) ⟨w2.heap.size, 0, none⟩ 1 1 [.int .i64 (2 + 4 * (k : Int) + 2 * (2 - bar))] rfl rfl (cell_one_new _ _ _) (by intro u hu; simp at hu; subst hu; rfl) (by unfold maxLen; omega) (by omega) (by (try simp); omega) ?_; intro v3 w3 own3 hg3 hn3; replace B3 := (B3.alloc (.cells #[.int .i64 (2 + 4 * (k : Int) + 2 * (2 - bar))] 3)).row hg3 (fun r e => by have := (own2.lt r e).1; omega); replace b7 : Below w.heap.size w w3 := own_grown2 b7 own2 (by omega) hg3; have hsz3 := b7.size; replace hcc : w3.cell? ⟨b, off + k, none⟩ = _ := (b7.cell (p := ⟨b, off + k, none⟩) hb0).trans hc; replace ff := B3.c2; clear hg3 hn3 own2)
    | (at_builtin; refine wpList_append_own _ rfl _ _ 22 rfl (w.heap.size + 1) 3 i0 (.int .i64 0) 1 8 Try.underlying22 hi0 hz0 hz1 hz2 rfl (by decide) _ _ _ rfl (own3.alloc _) ⟨w3.heap.size, 0, none⟩ 1 1 [.int .i64 (0)] rfl rfl (cell_one_new _ _ _) (by intro u hu; simp at hu; subst hu; rfl) (by unfold maxLen; omega) (by omega) (by (try simp); omega) ?_; intro v4 w4 own4 hg4 hn4; replace B3 := (B3.alloc (.cells #[.int .i64 (0)] 3)).row hg4 (fun r e => by have := (own3.lt r e).1; omega); replace b7 : Below w.heap.size w w4 := own_grown2 b7 own3 (by omega) hg4; have hsz4 := b7.size; replace hcc : w4.cell? ⟨b, off + k, none⟩ = _ := (b7.cell (p := ⟨b, off + k, none⟩) hb0).trans hc; replace ff := B3.c2; clear hg4 hn4 own3)
    | (go_at_call 26; refine (bl1In_calls _ _ _ _).mono ?_; rintro e w' ⟨rfl, rfl⟩)
    )
  go_ret
  exact listPost_of own4 (by omega) rfl rfl b7

set_option maxHeartbeats 2000000 in
theorem sMove_true_x (s : List Int) (A : Option Addr) (c : Nat) (k : Nat) (bar : Int) (w : World) (h : Rd w 1 A s.length (s.map (Value.int .i64))) (hn : s.length ≤ 1048576) (hv : barsValid s true = true) (hk : k < s.length) (hb : bar = 1 ∨ bar = 2) (hx : s[k] = 3 - bar) :
    Calls Try.prog 27 #[.agg #[.slice A s.length c, .bool true], .int .i64 (k : Int), .int .i64 bar] w (ListPost w [2 + 4 * (k : Int) + 2 * (bar - 1) + 1, 2 + 4 * (k : Int) + 2 * (2 - bar)]) := by
  obtain ⟨i0, hi0, hz0, hz1, hz2⟩ := info_parts info_int
  obtain ⟨hl1, hl6⟩ := barsValid_length hv
  obtain ⟨b, off, rfl, hb0, u, hu, hc⟩ := h.at1 hk
  obtain rfl : u = .int .i64 s[k] := by simpa [hk] using hu.symm
  rw [hx] at hc
  have hk0 : (0 : Int) ≤ (k : Int) := by omega
  have hk1 : (k : Int) < (s.length : Int) := by omega
  have hb1 : 1 ≤ bar := by omega
  have hb2 : bar ≤ 2 := by omega
  have q1 : (3 - bar == bar) = false := by simp; omega
  have q2 : ((3 - bar : Int) != 3) = true := by simp; omega
  have q4 : inB (k : Int) 0 ((s.length : Int) - 1) = true := by simp [inB]; omega
  have q5 : inB bar 1 2 = true := by simp [inB]; omega
  have B3 : Bk ((w.alloc (.cells #[.slice (some ⟨b, off, none⟩) s.length c, .bool true] 26)).alloc (.cells #[] 3)) w.heap.size 26 #[.slice (some ⟨b, off, none⟩) s.length c, .bool true] := (Bk.new _ _ _).alloc _
  have b7 : Below w.heap.size w ((w.alloc (.cells #[.slice (some ⟨b, off, none⟩) s.length c, .bool true] 26)).alloc (.cells #[] 3)) := (by repeat' (first | exact Below.refl _ _ | assumption | refine Below.drew ?_ | refine cell_drew ?_ | refine Below.setCell ?_ (by (try simp); (try omega)) _ | refine Below.alloc ?_ (by (try simp); (try omega)) _ | refine below_step (by assumption) (by (try simp); (try omega)) ?_))
  have own0 : (((w.alloc (.cells #[.slice (some ⟨b, off, none⟩) s.length c, .bool true] 26)).alloc (.cells #[] 3))).ownsRow (w.heap.size + 1) 3 1 (.slice (some ⟨w.heap.size + 1, 0, none⟩) 0 0) 0 [] := by simpa using World.ownsRow_made (base := w.heap.size + 1) (e := 3) (size := 1) (w.alloc (.cells #[.slice (some ⟨b, off, none⟩) s.length c, .bool true] 26)) #[] 0 (by simp) (Nat.zero_le _) (by simp)
  clear hu
  go_enter Try.func27, Try.ntmps27
  go_wp2_with fail
  refine (sBarsValid_calls s true _ c _ (h.after b7) hn).mono ?_
  rw [hv]
  rintro e w0 ⟨rfl, bb⟩
  replace B3 := B3.after bb
  replace b7 := below_after' bb b7
  have hw0 := B3.lt
  replace own0 := own_after own0 bb
  clear bb
  have hcc : w0.cell? ⟨b, off + k, none⟩ = _ := (b7.cell (p := ⟨b, off + k, none⟩) hb0).trans hc
  have ff := B3.c2
  go_wp2_with (first
    | (at_builtin; refine wpList_append_own _ rfl _ _ 22 rfl (w.heap.size + 1) 3 i0 (.int .i64 0) 1 8 Try.underlying22 hi0 hz0 hz1 hz2 rfl (by decide) _ _ _ rfl (own0.alloc _) ⟨w0.heap.size, 0, none⟩ 1 1 [.int .i64 (2 + 4 * (k : Int) + 2 * (bar - 1) + 1)] rfl rfl (cell_one_new _ _ _) (by intro u hu; simp at hu; subst hu; rfl) (by unfold maxLen; omega) (by omega) (by (try simp); omega) ?_; intro v1 w1 own1 hg1 hn1; replace B3 := (B3.alloc (.cells #[.int .i64 (2 + 4 * (k : Int) + 2 * (bar - 1) + 1)] 3)).row hg1 (fun r e => by have := (own0.lt r e).1; omega); replace b7 : Below w.heap.size w w1 := own_grown2 b7 own0 (by omega) hg1; have hsz1 := b7.size; replace hcc : w1.cell? ⟨b, off + k, none⟩ = _ := (b7.cell (p := ⟨b, off + k, none⟩) hb0).trans hc; replace ff := B3.c2; clear hg1 hn1 own0)
    | (at_builtin; refine wpList_append_own _ rfl _ _ 22 rfl (w.heap.size + 1) 3 i0 (.int .i64 0) 1 8 Try.underlying22 hi0 hz0 hz1 hz2 rfl (by decide) _ _ _ rfl (own1.alloc _) ⟨w1.heap.size, 0, none⟩ 1 1 [.int .i64 (2 + 4 * (k : Int) + 2 * (2 - bar))] rfl rfl (cell_one_new _ _ _) (by intro u hu; simp at hu; subst hu; rfl) (by unfold maxLen; omega) (by omega) (by (try simp); omega) ?_; intro v2 w2 own2 hg2 hn2; replace B3 := (B3.alloc (.cells #[.int .i64 (2 + 4 * (k : Int) + 2 * (2 - bar))] 3)).row hg2 (fun r e => by have := (own1.lt r e).1; omega); replace b7 : Below w.heap.size w w2 := own_grown2 b7 own1 (by omega) hg2; have hsz2 := b7.size; replace hcc : w2.cell? ⟨b, off + k, none⟩ = _ := (b7.cell (p := ⟨b, off + k, none⟩) hb0).trans hc; replace ff := B3.c2; clear hg2 hn2 own1)
    | (go_at_call 26; refine (bl1In_calls _ _ _ _).mono ?_; rintro e w' ⟨rfl, rfl⟩)
    )
  go_ret
  exact listPost_of own2 (by omega) rfl rfl b7

set_option maxHeartbeats 2000000 in
theorem sMove_true_3 (s : List Int) (A : Option Addr) (c : Nat) (k : Nat) (bar : Int) (w : World) (h : Rd w 1 A s.length (s.map (Value.int .i64))) (hn : s.length ≤ 1048576) (hv : barsValid s true = true) (hk : k < s.length) (hb : bar = 1 ∨ bar = 2) (hx : s[k] = 3) :
    Calls Try.prog 27 #[.agg #[.slice A s.length c, .bool true], .int .i64 (k : Int), .int .i64 bar] w (ListPost w [2 + 4 * (k : Int) + 2 * (2 - bar)]) := by
  obtain ⟨i0, hi0, hz0, hz1, hz2⟩ := info_parts info_int
  obtain ⟨hl1, hl6⟩ := barsValid_length hv
  obtain ⟨b, off, rfl, hb0, u, hu, hc⟩ := h.at1 hk
  obtain rfl : u = .int .i64 s[k] := by simpa [hk] using hu.symm
  rw [hx] at hc
  have hk0 : (0 : Int) ≤ (k : Int) := by omega
  have hk1 : (k : Int) < (s.length : Int) := by omega
  have hb1 : 1 ≤ bar := by omega
  have hb2 : bar ≤ 2 := by omega
  have q1 : (3 == bar) = false := by simp; omega
  have q2 : ((3 : Int) != 3) = false := by decide
  have q4 : inB (k : Int) 0 ((s.length : Int) - 1) = true := by simp [inB]; omega
  have q5 : inB bar 1 2 = true := by simp [inB]; omega
  have B3 : Bk ((w.alloc (.cells #[.slice (some ⟨b, off, none⟩) s.length c, .bool true] 26)).alloc (.cells #[] 3)) w.heap.size 26 #[.slice (some ⟨b, off, none⟩) s.length c, .bool true] := (Bk.new _ _ _).alloc _
  have b7 : Below w.heap.size w ((w.alloc (.cells #[.slice (some ⟨b, off, none⟩) s.length c, .bool true] 26)).alloc (.cells #[] 3)) := (by repeat' (first | exact Below.refl _ _ | assumption | refine Below.drew ?_ | refine cell_drew ?_ | refine Below.setCell ?_ (by (try simp); (try omega)) _ | refine Below.alloc ?_ (by (try simp); (try omega)) _ | refine below_step (by assumption) (by (try simp); (try omega)) ?_))
  have own0 : (((w.alloc (.cells #[.slice (some ⟨b, off, none⟩) s.length c, .bool true] 26)).alloc (.cells #[] 3))).ownsRow (w.heap.size + 1) 3 1 (.slice (some ⟨w.heap.size + 1, 0, none⟩) 0 0) 0 [] := by simpa using World.ownsRow_made (base := w.heap.size + 1) (e := 3) (size := 1) (w.alloc (.cells #[.slice (some ⟨b, off, none⟩) s.length c, .bool true] 26)) #[] 0 (by simp) (Nat.zero_le _) (by simp)
  clear hu
  go_enter Try.func27, Try.ntmps27
  go_wp2_with fail
  refine (sBarsValid_calls s true _ c _ (h.after b7) hn).mono ?_
  rw [hv]
  rintro e w0 ⟨rfl, bb⟩
  replace B3 := B3.after bb
  replace b7 := below_after' bb b7
  have hw0 := B3.lt
  replace own0 := own_after own0 bb
  clear bb
  have hcc : w0.cell? ⟨b, off + k, none⟩ = _ := (b7.cell (p := ⟨b, off + k, none⟩) hb0).trans hc
  have ff := B3.c2
  go_wp2_with (first
    | (at_builtin; refine wpList_append_own _ rfl _ _ 22 rfl (w.heap.size + 1) 3 i0 (.int .i64 0) 1 8 Try.underlying22 hi0 hz0 hz1 hz2 rfl (by decide) _ _ _ rfl (own0.alloc _) ⟨w0.heap.size, 0, none⟩ 1 1 [.int .i64 (2 + 4 * (k : Int) + 2 * (2 - bar))] rfl rfl (cell_one_new _ _ _) (by intro u hu; simp at hu; subst hu; rfl) (by unfold maxLen; omega) (by omega) (by (try simp); omega) ?_; intro v1 w1 own1 hg1 hn1; replace B3 := (B3.alloc (.cells #[.int .i64 (2 + 4 * (k : Int) + 2 * (2 - bar))] 3)).row hg1 (fun r e => by have := (own0.lt r e).1; omega); replace b7 : Below w.heap.size w w1 := own_grown2 b7 own0 (by omega) hg1; have hsz1 := b7.size; replace hcc : w1.cell? ⟨b, off + k, none⟩ = _ := (b7.cell (p := ⟨b, off + k, none⟩) hb0).trans hc; replace ff := B3.c2; clear hg1 hn1 own0)
    | (go_at_call 26; refine (bl1In_calls _ _ _ _).mono ?_; rintro e w' ⟨rfl, rfl⟩)
    )
  go_ret
  exact listPost_of own1 (by omega) rfl rfl b7

end Go.Proofs.Ytandfbpanaldcaa
