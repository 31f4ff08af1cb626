/- Plain laws of the draws: numbers out of a code. -/
import Derived.Test.YtccacgplfcnpkaaDoorPu
import Derived.Test.YtccacgplfcnpkaaDoorDaM
import Derived.Test.YtccacgplfcnpkaaDoorPre
namespace Go.Proofs.YtccacgplfcnpkaaDoor
set_option linter.unusedVariables false
set_option linter.unusedSimpArgs false

theorem bitsXor_nn {x y : Int} (hx : 0 ≤ x ∧ x < 4611686018427387904) (hy : 0 ≤ y ∧ y < 4611686018427387904) : 0 ≤ bitsXor .i64 x y ∧ bitsXor .i64 x y < 4611686018427387904 := by
  have hx' : (BitVec.ofInt 64 x).toNat = x.toNat := by rw [BitVec.toNat_ofInt]; omega
  have hy' : (BitVec.ofInt 64 y).toNat = y.toNat := by rw [BitVec.toNat_ofInt]; omega
  have h : (BitVec.ofInt 64 x ^^^ BitVec.ofInt 64 y).toNat < 2 ^ 62 := by
    rw [BitVec.toNat_xor, hx', hy']
    exact Nat.xor_lt_two_pow (by omega) (by omega)
  have e : bitsXor .i64 x y = w64 ((BitVec.ofInt 64 x ^^^ BitVec.ofInt 64 y).toNat : Int) := rfl
  rw [e, w64_in (by omega) (by omega)]
  omega
/-- A code: bytes, not many. -/
structure Code (b : List Int) : Prop where
  byte : ∀ z ∈ b, 0 ≤ z ∧ z ≤ 255
  len : b.length ≤ 2000
theorem Code.at_ {b : List Int} (h : Code b) (k : Nat) : 0 ≤ b.getD k 0 ∧ b.getD k 0 ≤ 255 := by
  by_cases hk : k < b.length
  · rw [getD_ge hk]; exact h.byte _ (List.getElem_mem hk)
  · simp [List.getD, List.getElem?_eq_none (Nat.le_of_not_lt hk)]
theorem code_of {x : List Int} (h : ∀ z ∈ x, inU z) : Code (x.take 2000) :=
  ⟨fun z hz => h z (List.mem_of_mem_take hz), by simp; omega⟩
theorem pick_ok {b : List Int} (hb : Code b) {p n : Int} (hp : 0 ≤ p ∧ p ≤ 1000000) (hn : n ≤ 1000000) : ∃ v, m_spec_l20Rd_pick b p n = some (v, p + 1) ∧ 0 ≤ v ∧ (1 ≤ n → v < n) ∧ (n < 1 → v = 0) := by
  unfold m_spec_l20Rd_pick
  have w1 : w64 (p + 1) = p + 1 := w64_in (by omega) (by omega)
  have w2 : w64 (p + 1 - 1) = p := by rw [w64_in (by omega) (by omega)]; omega
  rw [w1, w2]
  have hlen := hb.len
  by_cases h1 : n < 1
  · rw [show ltB n 1 = true from decide_eq_true h1]; exact ⟨0, rfl, by omega, by omega, by omega⟩
  by_cases h2 : (b.length : Int) = 0
  · rw [show ((b.length : Int) == 0) = true by simpa using h2, Bool.or_true]; exact ⟨0, rfl, by omega, by omega, by omega⟩
  rw [show ltB n 1 = false from decide_eq_false h1, show ((b.length : Int) == 0) = false by simpa using h2]
  have hz : nzB n = true := decide_eq_true (by omega)
  have hz2 : nzB (b.length : Int) = true := decide_eq_true (by omega)
  simp only [Bool.or_self, cond_false, hz, hz2, chk_true]
  by_cases h3 : p < (b.length : Int)
  · have hi : ixB p b.length = true := by simp [ixB]; omega
    have hv := hb.at_ p.toNat
    rw [show ltB p (b.length : Int) = true from decide_eq_true h3, cond_true, hi, chk_true, w64_in (by omega) (by omega)]
    exact ⟨_, rfl, Int.tmod_nonneg _ hv.1, fun h => Int.tmod_lt_of_pos _ (by omega), by omega⟩
  · rw [show ltB p (b.length : Int) = false from decide_eq_false h3, cond_false]
    have m1 : w64 (p * 7) = p * 7 := w64_in (by omega) (by omega)
    have m2 : w64 (p * 7 + 3) = p * 7 + 3 := w64_in (by omega) (by omega)
    rw [m1, m2]
    have t1 := Int.tmod_nonneg (b.length : Int) hp.1
    have t2 := Int.tmod_lt_of_pos p (show (0 : Int) < (b.length : Int) by omega)
    have t3 := Int.tmod_nonneg (b.length : Int) (show 0 ≤ p * 7 + 3 by omega)
    have t4 := Int.tmod_lt_of_pos (p * 7 + 3) (show (0 : Int) < (b.length : Int) by omega)
    have i1 : ixB (p.tmod (b.length : Int)) b.length = true := by simp [ixB]; omega
    have i2 : ixB ((p * 7 + 3).tmod (b.length : Int)) b.length = true := by simp [ixB]; omega
    rw [i1, i2]
    simp only [chk_true]
    have v1 := hb.at_ (p.tmod (b.length : Int)).toNat
    have v2 := hb.at_ ((p * 7 + 3).tmod (b.length : Int)).toNat
    generalize b.getD (p.tmod (b.length : Int)).toNat 0 = c1 at *
    generalize b.getD ((p * 7 + 3).tmod (b.length : Int)).toNat 0 = c2 at *
    have q0 : 0 ≤ p.tdiv (b.length : Int) := Int.tdiv_nonneg hp.1 (by omega)
    have q1 : p.tdiv (b.length : Int) ≤ p := Int.tdiv_le_self _ hp.1
    generalize p.tdiv (b.length : Int) = q at *
    have a1 : w64 c1 = c1 := w64_in (by omega) (by omega)
    have a2 : w64 c2 = c2 := w64_in (by omega) (by omega)
    have a3 : w64 (c1 * 131) = c1 * 131 := w64_in (by omega) (by omega)
    have a4 : w64 (c2 * 1117) = c2 * 1117 := w64_in (by omega) (by omega)
    have a5 : w64 (c1 * 131 + c2 * 1117) = c1 * 131 + c2 * 1117 := w64_in (by omega) (by omega)
    have a6 : w64 (p * 29) = p * 29 := w64_in (by omega) (by omega)
    have a7 : w64 (c1 * 131 + c2 * 1117 + p * 29) = c1 * 131 + c2 * 1117 + p * 29 := w64_in (by omega) (by omega)
    have a8 : w64 q = q := w64_in (by omega) (by omega)
    have a9 : w64 (q * 53) = q * 53 := w64_in (by omega) (by omega)
    have a10 : w64 (c1 * 131 + c2 * 1117 + p * 29 + q * 53) = c1 * 131 + c2 * 1117 + p * 29 + q * 53 := w64_in (by omega) (by omega)
    simp only [a1, a2, a3, a4, a5, a6, a7, a8, a9, a10]
    have b0 : 0 ≤ c1 * 131 + c2 * 1117 + p * 29 + q * 53 := by omega
    have b1 : c1 * 131 + c2 * 1117 + p * 29 + q * 53 < 1000000000 := by omega
    generalize c1 * 131 + c2 * 1117 + p * 29 + q * 53 = x at *
    have d0 : 0 ≤ x.tdiv 64 := Int.tdiv_nonneg b0 (by decide)
    have d1 : x.tdiv 64 ≤ x := Int.tdiv_le_self _ b0
    rw [w64_in (by omega : -9223372036854775808 ≤ x.tdiv 64) (by omega)]
    have hx := bitsXor_nn (x := x) (y := x.tdiv 64) ⟨b0, by omega⟩ ⟨d0, by omega⟩
    exact ⟨_, rfl, Int.tmod_nonneg _ hx.1, fun h => Int.tmod_lt_of_pos _ (by omega), by omega⟩
theorem odd_ok {b : List Int} (hb : Code b) {p n : Int} (hp : 0 ≤ p ∧ p ≤ 1000000) (hn : 1 ≤ n ∧ n ≤ 1000000) : ∃ v, m_spec_l20Rd_odd b p n = some (v, p + 1) := by
  obtain ⟨v, h1, _⟩ := pick_ok hb hp hn.2
  unfold m_spec_l20Rd_odd
  rw [show ltB 0 n = true from decide_eq_true (by omega), cond_true, h1]
  exact ⟨_, rfl⟩
theorem alive_ok : m_laws_alive = some true := by
  have h : ∀ fuel, m_impl_NetValid_l1 2 [(0, 1, 1)] (fuel + 2) 0 = some (.inl ()) := by
    intro fuel
    rw [m_impl_NetValid_l1.eq_2]
    have : m_impl_NetValid_l1 2 [(0, 1, 1)] (fuel + 1) 1 = some (.inl ()) := by rw [m_impl_NetValid_l1.eq_2]; rfl
    exact this
  have hF : FUEL = 4611686018427387902 + 2 := rfl
  have hv : m_impl_NetValid 2 [(0, 1, 1)] = some true := by unfold m_impl_NetValid; rw [hF, h]; rfl
  unfold m_laws_alive m_impl_OtherEnd
  rw [hv]
  simp [gb, m_impl_Net_hasLine, m_impl_Line_other, m_impl_NetValid, ltB, leB, ixB]
end Go.Proofs.YtccacgplfcnpkaaDoor
