/- Bars: the models of the program and of the reference are the plain functions of BvP. -/
import Derived.Test.YtandfbpanaldcaaDoorBvP
import Derived.Test.YtandfbpanaldcaaDoorDaM
namespace Go.Proofs.YtandfbpanaldcaaDoor
set_option linter.unusedVariables false
set_option linter.unusedSimpArgs false

theorem wK {n : Int} (h : -1000000000 ≤ n ∧ n ≤ 1000000000) : w64 n = n := w64_in (by omega) (by omega)
theorem inB16 (n : Int) : inB n 1 6 = (!ltB n 1 && !ltB 6 n) := by rw [Bool.eq_iff_iff]; simp [inB, ltB]
theorem side_i (c : Bool) (x : Int) : ((ltB x 1 || ltB 3 x) || ((x == 3) && !c)) = !sideOk c x := by
  rw [Bool.eq_iff_iff]; cases c <;> simp [sideOk, inB, ltB] <;> omega
theorem side_s (c : Bool) (x : Int) : (!(leB 1 x && leB x 3) || ((x == 3) && !c)) = !sideOk c x := by
  unfold sideOk inB leB; cases (decide (1 ≤ x) && decide (x ≤ 3)) <;> cases (x == 3) <;> cases c <;> rfl
theorem any_not {s : List Int} {c : Bool} : s.any (fun x => !sideOk c x) = !s.all (sideOk c) := by simp [List.all_eq_not_any_not]
section
variable (s : List Int) (c : Bool) (hn : s.length ≤ 1000)
include hn
theorem iBv : m_impl_BarsValid s c = some (barsValid s c) := by
  unfold m_impl_BarsValid barsValid
  have h := loop_find (m_impl_BarsValid_l1 s c) (fun k => (k : Int)) s.length (fun k => !sideOk c (s.getD k 0)) (some (.inr false)) (some (.inl ())) (by omega) (fun k fuel hk => by
    rw [m_impl_BarsValid_l1.eq_2]
    simp only [lt_dec hk, ix_dec hk, chk_true, cond_true, Int.toNat_natCast, side_i, w64_succ (by omega : k < 4611686018427387904)]) (fun fuel => by rw [m_impl_BarsValid_l1.eq_2]; simp only [nlt_dec, cond_false])
  rw [any_list s 0 (fun x => !sideOk c x), any_not] at h
  rw [show m_impl_BarsValid_l1 s c FUEL 0 = _ from h, inB16]
  cases ltB (s.length : Int) 1 <;> cases ltB 6 (s.length : Int) <;> cases s.all (sideOk c) <;> rfl
theorem sBv : m_spec_BarsValid s c = some (barsValid s c) := by
  unfold m_spec_BarsValid barsValid m_spec_l1In
  have h := loop_find (m_spec_BarsValid_l1 s c) (fun k => (k : Int)) s.length (fun k => !sideOk c (s.getD k 0)) (some (.inr false)) (some (.inl ())) (by omega) (fun k fuel hk => by
    rw [m_spec_BarsValid_l1.eq_2]
    simp only [lt_dec hk, ix_dec hk, chk_true, cond_true, Int.toNat_natCast, m_spec_l1In, Option.bind_some, Bool.or_true, side_s, w64_succ (by omega : k < 4611686018427387904)]) (fun fuel => by rw [m_spec_BarsValid_l1.eq_2]; simp only [nlt_dec, cond_false])
  rw [any_list s 0 (fun x => !sideOk c x), any_not] at h
  rw [show m_spec_BarsValid_l1 s c FUEL 0 = _ from h, inB_le]
  cases (leB 1 (s.length : Int) && leB (s.length : Int) 6) <;> cases s.all (sideOk c) <;> rfl
theorem iBc : m_impl_Bars_clone s c = some (s, c) := by
  have : apB ([] : List Int).length s.length = true := by simp [apB]; omega
  simp only [m_impl_Bars_clone, m_slices_Clone_int_int, this, chk_true, Option.bind_some]
theorem sBc : m_spec_l10Copy s c = some (s, c) := by
  have : apB ([] : List Int).length s.length = true := by simp [apB]; omega
  simp only [m_spec_l10Copy, this, chk_true, List.nil_append]
end
theorem bits_on {x b : Int} (hx : x = 1 ∨ x = 2 ∨ x = 3) (hb : b = 0 ∨ b = 1) : (bitsAnd .i64 (bitsShr .i64 x b) 1 == 1) = onBar x (1 + b) ∧ bitsXor .i64 x (bitsShl .i64 1 b) = flipBar x (1 + b) := by
  rcases hx with rfl | rfl | rfl <;> rcases hb with rfl | rfl <;> exact ⟨by decide, by decide⟩
theorem shut_t {d : Int} (h : 0 ≤ d) : (Int.tmod d 2 == 1) = shuts d := by rw [Int.tmod_eq_emod_of_nonneg h]; rfl
theorem set_len (s : List Int) (k : Nat) (x : Int) : (s.set k x).length = s.length := List.length_set
theorem getD_side {s : List Int} {k : Nat} : s.getD k 0 = sideAt s k := by simp [sideAt, List.getD]
section
variable (s : List Int) (c : Bool) (d : Int) (hn : s.length ≤ 1000) (hd : -1000 ≤ d ∧ d ≤ 1000)
include hn hd
theorem iBd : m_impl_BarsDo s c d = some (barsDo s c d) := by
  unfold m_impl_BarsDo
  rw [iBv s c hn, iBc s c hn]
  cases hv : barsValid s c
  · rw [barsDo_invalid hv]; rfl
  have hlen := barsValid_length hv
  have w1 : w64 (4 * (s.length : Int)) = 4 * (s.length : Int) := wK (by omega)
  have w2 : w64 (2 + 4 * (s.length : Int)) = 2 + 4 * (s.length : Int) := wK (by omega)
  simp only [Option.bind_some, cond_true, w1, w2]
  by_cases h1 : d < 0 ∨ 2 + 4 * (s.length : Int) ≤ d
  · have e : (ltB d 0 || leB (2 + 4 * (s.length : Int)) d) = true := by simp [ltB, leB]; omega
    rw [barsDo_out hv h1, e]; rfl
  have e : (ltB d 0 || leB (2 + 4 * (s.length : Int)) d) = false := by simp [ltB, leB]; omega
  rw [e]
  simp only [cond_false, shut_t (show 0 ≤ d by omega)]
  by_cases h2 : d < 2
  · rw [barsDo_coupler hv (by omega) h2, show ltB d 2 = true from decide_eq_true h2]
    simp only [cond_true]
    cases hq : c == shuts d
    · simp only [cond_false, Option.bind_some, Sum.elim_inl, iBv s (shuts d) hn, Bool.false_eq_true, if_false]
      cases barsValid s (shuts d) <;> rfl
    · rfl
  have h2' : 2 ≤ d := by omega
  have hlt : d < 2 + 4 * (s.length : Int) := by omega
  rw [barsDo_side hv h2' hlt, show ltB d 2 = false from decide_eq_false h2]
  have t1 : (d - 2).tdiv 4 = (d - 2) / 4 := Int.tdiv_eq_ediv_of_nonneg (by omega)
  have t2 : (d - 2).tdiv 2 = (d - 2) / 2 := Int.tdiv_eq_ediv_of_nonneg (by omega)
  have t3 : ((d - 2) / 2).tmod 2 = (d - 2) / 2 % 2 := Int.tmod_eq_emod_of_nonneg (by omega)
  have w3 : w64 (d - 2) = d - 2 := wK (by omega)
  have w4 : w64 ((d - 2) / 4) = (d - 2) / 4 := wK (by omega)
  have w5 : w64 ((d - 2) / 2) = (d - 2) / 2 := wK (by omega)
  have hk : deedBay d < s.length := by unfold deedBay; omega
  have i1 : ixB ((d - 2) / 4) s.length = true := decide_eq_true (by omega)
  have i2 : nnB ((d - 2) / 2 % 2) = true := decide_eq_true (by omega)
  have hx : sideAt s (deedBay d) = 1 ∨ sideAt s (deedBay d) = 2 ∨ sideAt s (deedBay d) = 3 := by
    have := barsValid_side hv hk
    simpa [sideAt, hk] using this
  obtain ⟨b1, b2⟩ := bits_on hx (show (d - 2) / 2 % 2 = 0 ∨ (d - 2) / 2 % 2 = 1 by omega)
  simp only [cond_false, w3, t1, t2, w4, w5, t3, i1, i2, chk_true]
  rw [show ((d - 2) / 4).toNat = deedBay d from rfl, getD_side, b1, b2, show (1 + (d - 2) / 2 % 2) = deedBar d from rfl]
  cases hq : onBar (sideAt s (deedBay d)) (deedBar d) == shuts d
  · simp only [cond_false, Option.bind_some, Sum.elim_inl, Bool.false_eq_true, if_false]
    rw [iBv _ c (by rw [set_len]; exact hn)]
    cases barsValid (s.set (deedBay d) (flipBar (sideAt s (deedBay d)) (deedBar d))) c <;> rfl
  · rfl
theorem sBd : m_spec_BarsDo s c d = some (barsDo s c d) := by
  unfold m_spec_BarsDo
  rw [sBv s c hn, sBc s c hn]
  cases hv : barsValid s c
  · rw [barsDo_invalid hv]; rfl
  have hlen := barsValid_length hv
  simp only [Option.bind_some, cond_true]
  by_cases h01 : d = 0 ∨ d = 1
  · have e : (d == 0 || d == 1) = true := by rcases h01 with rfl | rfl <;> rfl
    have e2 : (d == 1) = shuts d := by rcases h01 with rfl | rfl <;> rfl
    rw [barsDo_coupler hv (by omega) (by omega), e]
    simp only [cond_true, Option.bind_some, Sum.elim_inl, e2, sBv s (shuts d) hn, Bool.true_and]
    rw [show (shuts d == c) = (c == shuts d) from Bool.beq_comm ..]
    cases (c == shuts d) <;> cases barsValid s (shuts d) <;> rfl
  have e : (d == 0 || d == 1) = false := by simp; omega
  rw [e]
  have w3 : w64 (d - 2) = d - 2 := wK (by omega)
  simp only [cond_false, w3, Bool.false_and, Bool.or_false]
  by_cases h0 : d < 0
  · rw [barsDo_out hv (.inl h0), show ltB d 0 = true from decide_eq_true h0]; rfl
  rw [show ltB d 0 = false from decide_eq_false h0]
  have t1 : (d - 2).tdiv 4 = (d - 2) / 4 := Int.tdiv_eq_ediv_of_nonneg (by omega)
  have t2 : (d - 2).tdiv 2 = (d - 2) / 2 := Int.tdiv_eq_ediv_of_nonneg (by omega)
  have t3 : ((d - 2) / 2).tmod 2 = (d - 2) / 2 % 2 := Int.tmod_eq_emod_of_nonneg (by omega)
  have w4 : w64 ((d - 2) / 4) = (d - 2) / 4 := wK (by omega)
  have w5 : w64 ((d - 2) / 2) = (d - 2) / 2 := wK (by omega)
  have w6 : w64 (1 + (d - 2) / 2 % 2) = 1 + (d - 2) / 2 % 2 := wK (by omega)
  simp only [t1, t2, w4, w5, t3, w6, Bool.false_or]
  by_cases h1 : 2 + 4 * (s.length : Int) ≤ d
  · rw [barsDo_out hv (.inr h1), show leB (s.length : Int) ((d - 2) / 4) = true from decide_eq_true (by omega)]; rfl
  rw [barsDo_side hv (by omega) (by omega), show leB (s.length : Int) ((d - 2) / 4) = false from decide_eq_false (by omega)]
  have hk : deedBay d < s.length := by unfold deedBay; omega
  have i1 : ixB ((d - 2) / 4) s.length = true := decide_eq_true (by omega)
  have i2 : nzB (1 + (d - 2) / 2 % 2) = true := decide_eq_true (by omega)
  have hx : sideAt s (deedBay d) = 1 ∨ sideAt s (deedBay d) = 2 ∨ sideAt s (deedBay d) = 3 := by
    have := barsValid_side hv hk
    simpa [sideAt, hk] using this
  simp only [cond_false, i1, i2, chk_true]
  rw [show ((d - 2) / 4).toNat = deedBay d from rfl, getD_side, show (1 + (d - 2) / 2 % 2) = deedBar d from rfl, Int.tmod_eq_emod_of_nonneg (show 0 ≤ d by omega)]
  have hb : deedBar d = 1 ∨ deedBar d = 2 := by unfold deedBar; omega
  have hq0 : 0 ≤ (sideAt s (deedBay d)).tdiv (deedBar d) ∧ (sideAt s (deedBay d)).tdiv (deedBar d) ≤ 3 := by rcases hx with h | h | h <;> rcases hb with g | g <;> rw [h, g] <;> decide
  have hq1 : (sideAt s (deedBay d)).tdiv (deedBar d) = sideAt s (deedBay d) / deedBar d := Int.tdiv_eq_ediv_of_nonneg (by omega)
  rw [wK (n := (sideAt s (deedBay d)).tdiv (deedBar d)) (by omega), Int.tmod_eq_emod_of_nonneg hq0.1, hq1]
  have hon : (sideAt s (deedBay d) / deedBar d % 2 == d % 2) = (onBar (sideAt s (deedBay d)) (deedBar d) == shuts d) := by
    unfold onBar shuts
    rw [Bool.eq_iff_iff]
    rcases (show sideAt s (deedBay d) / deedBar d % 2 = 0 ∨ sideAt s (deedBay d) / deedBar d % 2 = 1 by omega) with h | h <;> rcases (show d % 2 = 0 ∨ d % 2 = 1 by omega) with g | g <;> rw [h, g] <;> decide
  rw [hon]
  cases hq : onBar (sideAt s (deedBay d)) (deedBar d) == shuts d
  · have hf : (bif d % 2 == 1 then some (s.set (deedBay d) (w64 (sideAt s (deedBay d) + deedBar d))) else some (s.set (deedBay d) (w64 (sideAt s (deedBay d) - deedBar d)))) = some (s.set (deedBay d) (flipBar (sideAt s (deedBay d)) (deedBar d))) := by
      rw [wK (n := sideAt s (deedBay d) + deedBar d) (by omega), wK (n := sideAt s (deedBay d) - deedBar d) (by omega), show (d % 2 == 1) = shuts d from rfl]
      unfold flipBar
      cases h3 : shuts d <;> rw [h3] at hq <;> simp at hq <;> simp [hq]
    simp only [cond_false, hf, Option.bind_some, Sum.elim_inl, Bool.false_eq_true, if_false]
    rw [sBv _ c (by rw [set_len]; exact hn)]
    cases barsValid (s.set (deedBay d) (flipBar (sideAt s (deedBay d)) (deedBar d))) c <;> rfl
  · rfl
end

/-! Runs. -/
def BdOk (ds : List Int) : Prop := ∀ d ∈ ds, -1000 ≤ d ∧ d ≤ 1000
theorem bd_at {ds : List Int} (h : BdOk ds) {k : Nat} (hk : k < ds.length) : -1000 ≤ ds.getD k 0 ∧ ds.getD k 0 ≤ 1000 := by rw [getD_ge hk]; exact h _ (List.getElem_mem hk)
def outBr (r : List Int × Bool × Nat) : List Int × Bool × Int := (r.1, r.2.1, (r.2.2 : Int))
section
variable (s : List Int) (c : Bool) (ds : List Int) (hn : s.length ≤ 1000) (hl : ds.length ≤ 1000) (hd : BdOk ds)
include hn hl hd
theorem iBr : m_impl_BarsRun s c ds = some (outBr (barsRun s c ds)) := by
  unfold m_impl_BarsRun
  rw [iBv s c hn, iBc s c hn]
  cases hv : barsValid s c
  · simp [barsRun, hv, outBr]
  have h := loop_all (m_impl_BarsRun_l1 ds) (fun k => (((runTo s c ds k).2.2 : Int), (k : Int), (runTo s c ds k).1, (runTo s c ds k).2.1)) ds.length (some (((runTo s c ds ds.length).2.2 : Int), (runTo s c ds ds.length).1, (runTo s c ds ds.length).2.1)) (by omega) (fun k fuel hk => ?_) (fun fuel => ?_)
  · simp only [Option.bind_some, cond_true]
    rw [show m_impl_BarsRun_l1 ds FUEL (0, 0, s, c) = _ from h]
    simp [barsRun, hv, outBr]
  · have hb := runTo_len s c ds k
    rw [m_impl_BarsRun_l1.eq_2]
    simp only [lt_dec hk, ix_dec hk, chk_true, cond_true, Int.toNat_natCast, w64_succ (by omega : k < 4611686018427387904)]
    rw [iBd _ _ _ (by omega) (bd_at hd hk), runTo_succ hk, ← getD_ge (d := 0) hk]
    generalize runTo s c ds k = r at *
    simp only [Option.bind_some, runStep]
    rw [w64_succ (by omega : r.2.2 < 4611686018427387904)]
    cases (barsDo r.1 r.2.1 (ds.getD k 0)).2.2 <;> rfl
  · rw [m_impl_BarsRun_l1.eq_2]; simp only [nlt_dec, cond_false]
theorem sBr : m_spec_BarsRun s c ds = some (outBr (barsRun s c ds)) := by
  unfold m_spec_BarsRun
  rw [sBv s c hn, sBc s c hn]
  cases hv : barsValid s c
  · simp [barsRun, hv, outBr]
  have h := loop_all (m_spec_BarsRun_l1 ds) (fun k => (((runTo s c ds k).2.2 : Int), (k : Int), (runTo s c ds k).1, (runTo s c ds k).2.1)) ds.length (some (((runTo s c ds ds.length).2.2 : Int), (runTo s c ds ds.length).1, (runTo s c ds ds.length).2.1)) (by omega) (fun k fuel hk => ?_) (fun fuel => ?_)
  · simp only [Option.bind_some, cond_true]
    rw [show m_spec_BarsRun_l1 ds FUEL (0, 0, s, c) = _ from h]
    simp [barsRun, hv, outBr]
  · have hb := runTo_len s c ds k
    rw [m_spec_BarsRun_l1.eq_2]
    simp only [lt_dec hk, ix_dec hk, chk_true, cond_true, Int.toNat_natCast, w64_succ (by omega : k < 4611686018427387904)]
    rw [sBd _ _ _ (by omega) (bd_at hd hk), runTo_succ hk, ← getD_ge (d := 0) hk]
    generalize runTo s c ds k = r at *
    simp only [Option.bind_some, runStep]
    rw [w64_succ (by omega : r.2.2 < 4611686018427387904)]
    cases (barsDo r.1 r.2.1 (ds.getD k 0)).2.2 <;> rfl
  · rw [m_spec_BarsRun_l1.eq_2]; simp only [nlt_dec, cond_false]
end

/-! Moving a bay. -/
theorem bits_no {x b : Int} (hx : x = 1 ∨ x = 2 ∨ x = 3) (hb : b = 1 ∨ b = 2) (hne : x ≠ b) : (bitsAnd .i64 x b == 0) = !decide (x = 3) := by
  rcases hx with rfl | rfl | rfl <;> rcases hb with rfl | rfl <;> first | exact absurd rfl hne | decide
theorem bits_has {x b : Int} (hx : x = 1 ∨ x = 2 ∨ x = 3) (hb : b = 1 ∨ b = 2) : (bitsAnd .i64 x b != 0) = !decide (x = 3 - b) := by
  rcases hx with rfl | rfl | rfl <;> rcases hb with rfl | rfl <;> decide
section
variable (s : List Int) (c : Bool) (bay bar : Int) (hn : s.length ≤ 1000) (h1 : -1000 ≤ bay ∧ bay ≤ 1000) (h2 : -1000 ≤ bar ∧ bar ≤ 1000)
include hn h1 h2
theorem iMv : m_impl_MoveDeeds s c bay bar = some (moveDeeds s c bay bar) := by
  unfold m_impl_MoveDeeds m_impl_isolatorDeed moveDeeds
  rw [iBv s c hn]
  simp only [Option.bind_some]
  by_cases hc : barsValid s c = true ∧ 0 ≤ bay ∧ bay < (s.length : Int) ∧ 1 ≤ bar ∧ bar ≤ 2
  · obtain ⟨hv, b0, b1, r0, r1⟩ := hc
    have e : ((((!barsValid s c || ltB bay 0) || leB (s.length : Int) bay) || ltB bar 1) || ltB 2 bar) = false := by rw [hv]; simp [ltB, leB]; omega
    have i1 : ixB bay s.length = true := decide_eq_true (by omega)
    rw [e, getD_side]
    simp only [Bool.not_false, Bool.not_true, Bool.false_or, i1, chk_true]
    by_cases hs : sideAt s bay.toNat = bar
    · rw [if_neg (fun h => h.2.2.2.2.2 hs), show (sideAt s bay.toNat == bar) = true by simpa using hs]; rfl
    rw [if_pos ⟨hv, b0, b1, r0, r1, hs⟩, show (sideAt s bay.toNat == bar) = false by simpa using hs]
    have hk : bay.toNat < s.length := by omega
    have hx : sideAt s bay.toNat = 1 ∨ sideAt s bay.toNat = 2 ∨ sideAt s bay.toNat = 3 := by
      have := barsValid_side hv hk
      simpa [sideAt, hk] using this
    rw [bits_no hx (by omega) hs]
    have v1 : w64 (4 * bay) = 4 * bay := wK (by omega)
    have v2 : w64 (2 + 4 * bay) = 2 + 4 * bay := wK (by omega)
    have v3 : w64 (bar - 1) = bar - 1 := wK (by omega)
    have v4 : w64 (2 * (bar - 1)) = 2 * (bar - 1) := wK (by omega)
    have v5 : w64 (2 + 4 * bay + 2 * (bar - 1)) = 2 + 4 * bay + 2 * (bar - 1) := wK (by omega)
    have v6 : w64 (2 + 4 * bay + 2 * (bar - 1) + 1) = 2 + 4 * bay + 2 * (bar - 1) + 1 := wK (by omega)
    have v7 : w64 (3 - bar) = 3 - bar := wK (by omega)
    have v8 : w64 (3 - bar - 1) = 2 - bar := by rw [wK (by omega)]; omega
    have v9 : w64 (2 * (2 - bar)) = 2 * (2 - bar) := wK (by omega)
    have v10 : w64 (2 + 4 * bay + 2 * (2 - bar)) = 2 + 4 * bay + 2 * (2 - bar) := wK (by omega)
    simp only [v1, v2, v3, v4, v5, v6, v7, v8, v9, v10, cond_false]
    cases c <;> by_cases h3 : sideAt s bay.toNat = 3 <;> simp [h3, chk, apB]
  · rw [if_neg (fun h => hc ⟨h.1, h.2.1, h.2.2.1, h.2.2.2.1, h.2.2.2.2.1⟩)]
    have e : ((((!barsValid s c || ltB bay 0) || leB (s.length : Int) bay) || ltB bar 1) || ltB 2 bar) = true := by
      cases hv : barsValid s c
      · rfl
      · have : ¬ (0 ≤ bay ∧ bay < (s.length : Int) ∧ 1 ≤ bar ∧ bar ≤ 2) := fun h => hc ⟨hv, h⟩
        simp [ltB, leB]; omega
    rw [e]; rfl
theorem sMv : m_spec_MoveDeeds s c bay bar = some (moveDeeds s c bay bar) := by
  unfold m_spec_MoveDeeds m_spec_l1In moveDeeds
  rw [sBv s c hn]
  have w0 : w64 ((s.length : Int) - 1) = (s.length : Int) - 1 := wK (by omega)
  simp only [Option.bind_some, w0]
  by_cases hc : barsValid s c = true ∧ 0 ≤ bay ∧ bay < (s.length : Int) ∧ 1 ≤ bar ∧ bar ≤ 2
  · obtain ⟨hv, b0, b1, r0, r1⟩ := hc
    have e1 : (leB 0 bay && leB bay ((s.length : Int) - 1)) = true := by simp [leB]; omega
    have e2 : (leB 1 bar && leB bar 2) = true := by simp [leB]; omega
    have i1 : ixB bay s.length = true := decide_eq_true (by omega)
    rw [getD_side]
    simp only [hv, e1, e2, gb, Bool.not_true, Bool.not_false, cond_true, Option.bind_some, Bool.or_self, Bool.false_or, i1, Bool.or_true, chk_true]
    by_cases hs : sideAt s bay.toNat = bar
    · rw [if_neg (fun h => h.2.2.2.2.2 hs), show (sideAt s bay.toNat == bar) = true by simpa using hs]; rfl
    rw [if_pos ⟨trivial, b0, b1, r0, r1, hs⟩, show (sideAt s bay.toNat == bar) = false by simpa using hs]
    have v1 : w64 (4 * bay) = 4 * bay := wK (by omega)
    have v2 : w64 (2 + 4 * bay) = 2 + 4 * bay := wK (by omega)
    have v3 : w64 (bar - 1) = bar - 1 := wK (by omega)
    have v4 : w64 (2 * (bar - 1)) = 2 * (bar - 1) := wK (by omega)
    have v5 : w64 (2 + 4 * bay + 2 * (bar - 1)) = 2 + 4 * bay + 2 * (bar - 1) := wK (by omega)
    have v6 : w64 (2 + 4 * bay + 2 * (bar - 1) + 1) = 2 + 4 * bay + 2 * (bar - 1) + 1 := wK (by omega)
    have v8 : w64 (2 - bar) = 2 - bar := wK (by omega)
    have v9 : w64 (2 * (2 - bar)) = 2 * (2 - bar) := wK (by omega)
    have v10 : w64 (2 + 4 * bay + 2 * (2 - bar)) = 2 + 4 * bay + 2 * (2 - bar) := wK (by omega)
    simp only [v1, v2, v3, v4, v5, v6, v8, v9, v10, cond_false]
    by_cases h3 : sideAt s bay.toNat = 3
    · have e3 : (sideAt s bay.toNat != 3) = false := by simpa using h3
      rw [e3]; cases c <;> simp [h3, chk, apB]
    · have e3 : (sideAt s bay.toNat != 3) = true := by simpa using h3
      rw [e3]; cases c <;> simp [h3, chk, apB]
  · rw [if_neg (fun h => hc ⟨h.1, h.2.1, h.2.2.1, h.2.2.2.1, h.2.2.2.2.1⟩)]
    cases hv : barsValid s c
    · simp [gb]
    have hno : ¬ (0 ≤ bay ∧ bay < (s.length : Int) ∧ 1 ≤ bar ∧ bar ≤ 2) := fun h => hc ⟨hv, h⟩
    cases e1 : (leB 0 bay && leB bay ((s.length : Int) - 1))
    · simp [gb, e1]
    · have e2 : (leB 1 bar && leB bar 2) = false := by simp [leB] at e1; simp [leB]; omega
      simp [gb, e1, e2]
end
theorem move_bd {s : List Int} {c : Bool} {k : Nat} {bar : Int} (hk : k < 100) (hb : bar = 1 ∨ bar = 2) : BdOk (moveDeeds s c k bar) := by
  intro d hd
  unfold moveDeeds at hd
  split at hd
  · simp only [List.mem_append] at hd
    rcases hd with hd | hd | hd | hd
    · split at hd
      · simp at hd
      · simp at hd; omega
    · split at hd
      · simp at hd
      · simp at hd; omega
    · simp at hd; omega
    · split at hd
      · simp at hd
      · simp at hd; omega
  · simp at hd
/-- Has a bay been moved so far? -/
def fl (s : List Int) (bar : Int) : Nat → Bool
  | 0 => false
  | k + 1 => if (bitsAnd .i64 (s.getD k 0) bar != 0) = true then true else fl s bar k
section
variable (s : List Int) (c : Bool) (bar : Int) (hn : s.length ≤ 100) (h2 : -1000 ≤ bar ∧ bar ≤ 1000)
include hn h2
theorem iEm : m_impl_EmptyDeeds s c bar = some (emptyDeeds s c bar) := by
  unfold m_impl_EmptyDeeds emptyDeeds
  rw [iBv s c (by omega)]
  simp only [Option.bind_some]
  by_cases hc : barsValid s c = true ∧ 1 ≤ bar ∧ bar ≤ 2
  · obtain ⟨hv, r0, r1⟩ := hc
    rw [if_pos ⟨hv, r0, r1⟩, show ((!barsValid s c || ltB bar 1) || ltB 2 bar) = false by rw [hv]; simp [ltB]; omega]
    have w1 : w64 (3 - bar) = 3 - bar := wK (by omega)
    have h := loop_all (m_impl_EmptyDeeds_l1 s bar) (fun k => (emptyTo s c bar k, (k : Int), movedTo s (3 - bar) k, fl s bar k, c)) s.length (some (emptyTo s c bar s.length)) (by omega) (fun k fuel hk => ?_) (fun fuel => ?_)
    · simp only [cond_false]
      rw [show m_impl_EmptyDeeds_l1 s bar FUEL ([], 0, s, false, c) = _ from by
        have e : movedTo s (3 - bar) 0 = s := by simp [movedTo]
        simp only [e] at h; exact h]
      rfl
    · have hb := emptyTo_len s c bar k
      have hm := moveDeeds_len (movedTo s (3 - bar) k) c k (3 - bar)
      have hml := movedTo_len s (3 - bar) (Nat.le_of_lt hk)
      have hx : s.getD k 0 = 1 ∨ s.getD k 0 = 2 ∨ s.getD k 0 = 3 := by rw [getD_ge hk]; exact barsValid_side hv hk
      obtain ⟨n, hrun⟩ := run_moved (bar := 3 - bar) hv (by omega) hk
      rw [m_impl_EmptyDeeds_l1.eq_2]
      simp only [lt_dec hk, ix_dec hk, chk_true, cond_true, Int.toNat_natCast, w1, w64_succ (by omega : k < 4611686018427387904)]
      simp only [emptyTo, fl]
      cases hq : (bitsAnd .i64 (s.getD k 0) bar != 0)
      · rw [bits_has hx (by omega)] at hq
        have hs : s.getD k 0 = 3 - bar := by simpa using hq
        have hg := movedTo_get (bar := 3 - bar) hk
        have hside : sideAt (movedTo s (3 - bar) k) k = 3 - bar := by
          unfold sideAt; rw [hg, ← getD_ge (d := 0) hk, hs]; rfl
        have hnil : moveDeeds (movedTo s (3 - bar) k) c k (3 - bar) = [] := by
          unfold moveDeeds; rw [if_neg (fun h => h.2.2.2.2.2 (by simpa using hside))]
        have hsame : movedTo s (3 - bar) (k + 1) = movedTo s (3 - bar) k := by
          rw [← movedTo_succ hk]
          have hl : k < (movedTo s (3 - bar) k).length := by omega
          have : (movedTo s (3 - bar) k)[k] = 3 - bar := by
            have := hg
            rw [List.getElem?_eq_getElem hl] at this
            injection this with this
            rw [this, ← getD_ge (d := 0) hk, hs]
          have e := List.set_getElem_self hl
          rw [this] at e; exact e
        simp [hnil, hsame]
      · have ha : apB (emptyTo s c bar k).length (moveDeeds (movedTo s (3 - bar) k) c k (3 - bar)).length = true := decide_eq_true (by omega)
        simp only [cond_true, iMv (movedTo s (3 - bar) k) c k (3 - bar) (by omega) (by omega) (by omega), Option.bind_some, ha, chk_true, iBr (movedTo s (3 - bar) k) c (moveDeeds (movedTo s (3 - bar) k) c k (3 - bar)) (by omega) (by omega) (move_bd (by omega) (show 3 - bar = 1 ∨ 3 - bar = 2 by omega)), hrun, outBr, if_true]
    · rw [m_impl_EmptyDeeds_l1.eq_2]; simp only [nlt_dec, cond_false]
  · rw [if_neg hc, show ((!barsValid s c || ltB bar 1) || ltB 2 bar) = true from by
      cases hv : barsValid s c
      · rfl
      · have : ¬ (1 ≤ bar ∧ bar ≤ 2) := fun h => hc ⟨hv, h⟩
        simp [ltB]; omega]; rfl
theorem sEm : m_spec_EmptyDeeds s c bar = some (emptyDeeds s c bar) := by
  unfold m_spec_EmptyDeeds emptyDeeds m_spec_l1In
  rw [sBv s c (by omega)]
  simp only [Option.bind_some]
  by_cases hc : barsValid s c = true ∧ 1 ≤ bar ∧ bar ≤ 2
  · obtain ⟨hv, r0, r1⟩ := hc
    have e2 : (leB 1 bar && leB bar 2) = true := by simp [leB]; omega
    rw [if_pos ⟨hv, r0, r1⟩, hv]
    have w1 : w64 (3 - bar) = 3 - bar := wK (by omega)
    have h := loop_all (m_spec_EmptyDeeds_l1 bar) (fun k => (emptyTo s c bar k, (k : Int), movedTo s (3 - bar) k, decide (0 < k), c)) s.length (some (emptyTo s c bar s.length)) (by omega) (fun k fuel hk => ?_) (fun fuel => ?_)
    · simp only [gb, Bool.not_true, Bool.not_false, cond_true, e2, Option.bind_some, Bool.or_self, cond_false]
      rw [show m_spec_EmptyDeeds_l1 bar FUEL ([], 0, s, false, c) = _ from by
        have e : movedTo s (3 - bar) 0 = s := by simp [movedTo]
        simp only [e] at h; exact h]
      rfl
    · have hb := emptyTo_len s c bar k
      have hm := moveDeeds_len (movedTo s (3 - bar) k) c k (3 - bar)
      have hml := movedTo_len s (3 - bar) (Nat.le_of_lt hk)
      obtain ⟨n, hrun⟩ := run_moved (bar := 3 - bar) hv (by omega) hk
      rw [m_spec_EmptyDeeds_l1.eq_2]
      have ha : apB (emptyTo s c bar k).length (moveDeeds (movedTo s (3 - bar) k) c k (3 - bar)).length = true := decide_eq_true (by omega)
      have c1 : ltB (k : Int) ((movedTo s (3 - bar) k).length : Int) = true := decide_eq_true (by omega)
      simp only [c1, cond_true, w1, sMv (movedTo s (3 - bar) k) c k (3 - bar) (by omega) (by omega) (by omega), Option.bind_some, ha, chk_true, sBr (movedTo s (3 - bar) k) c (moveDeeds (movedTo s (3 - bar) k) c k (3 - bar)) (by omega) (by omega) (move_bd (by omega) (show 3 - bar = 1 ∨ 3 - bar = 2 by omega)), hrun, outBr, w64_succ (by omega : k < 4611686018427387904)]
      simp [emptyTo]
    · rw [m_spec_EmptyDeeds_l1.eq_2]
      have hml := movedTo_len s (3 - bar) (Nat.le_refl s.length)
      have c1 : ltB (s.length : Int) ((movedTo s (3 - bar) s.length).length : Int) = false := decide_eq_false (by omega)
      simp only [c1, cond_false]
  · rw [if_neg hc]
    cases hv : barsValid s c
    · simp [gb]
    have e2 : (leB 1 bar && leB bar 2) = false := by
      have : ¬ (1 ≤ bar ∧ bar ≤ 2) := fun h => hc ⟨hv, h⟩
      simp [leB]; omega
    simp [gb, e2]
end
end Go.Proofs.YtandfbpanaldcaaDoor
