/- Texts of the claim, one behind the other: Bst, WkR, HlM, RsM, HcD, DaO, Law. -/
import Derived.ChangeSame
import Derived.ChangeMaps5
import Derived.Carry
import Derived.Lib.SmallJoins
import Derived.JoinedOf
import Derived.Test.YtnplecoikgnpkaaGreatDoorRHealDeeds6
namespace Go.Proofs.YtnplecoikgnpkaaGreatDoor
set_option linter.unusedVariables false
set_option linter.unusedSimpArgs false
set_option linter.unusedSectionVars false
theorem swap_sum (E : Ed) (pts : List (Int × Int)) (f : Int × Int → Int) (p : Nat → Bool) (hl : ∀ c, c < pts.length → labs E c < 8) : ∀ k, k ≤ pts.length → ((List.range 8).map fun j => if p j = true then sumK E pts f k j else 0).sum = ((List.range k).map fun c => if p (labs E c) = true then f (pts.getD c (0, 0)) else 0).sum
  | 0, _ => by
    rw [sum_zero fun j _ => by rw [sumK_0]; simp]; rfl
  | k + 1, hk => by
    have ih := swap_sum E pts f p hl k (by omega)
    have hlk := hl k (by omega)
    rw [sum_zip (g := fun j => if p j = true then sumK E pts f k j else 0) (h := fun j => if j = labs E k then (if p j = true then f (pts.getD k (0, 0)) else 0) else 0) (fun j _ => by
      rw [sumK_s]
      by_cases h1 : p j = true
      · rw [if_pos h1, if_pos h1]
        by_cases h2 : labs E k = j
        · rw [if_pos h2, if_pos h2.symm, if_pos h1]
        · rw [if_neg h2, if_neg (Ne.symm h2)]
      · rw [if_neg h1, if_neg h1]; simp [h1]), ih, sum_one (fun j => if p j = true then f (pts.getD k (0, 0)) else 0) hlk, List.range_succ, List.map_append, List.sum_append]
    simp
theorem servP_eq {E : Ed} {pts : List (Int × Int)} (hl : ∀ c, c < pts.length → labs E c < 8) : ((List.range 8).map fun j => if leB (sumK E pts (·.2) pts.length j) (sumK E pts (·.1) pts.length j) = true then sumK E pts (·.2) pts.length j else 0).sum = servP E pts := by
  rw [swap_sum E pts (·.2) (fun j => leB (sumK E pts (·.2) pts.length j) (sumK E pts (·.1) pts.length j)) hl pts.length (Nat.le_refl _)]
  unfold servP
  refine sum_same fun b hb => ?_
  rw [sumE_K, sumE_K]
  by_cases h : sumK E pts (·.2) pts.length (labs E b) ≤ sumK E pts (·.1) pts.length (labs E b)
  · rw [if_pos h, if_pos (show leB _ _ = true from decide_eq_true h)]
  · rw [if_neg h, if_neg (by simp only [leB, decide_eq_true_eq]; exact h)]
theorem labs_lt8 {b : Int} {ls : List Ln} {pts : List (Int × Int)} (h : BusOk b ls pts) (E : Ed) : ∀ c, c < pts.length → labs E c < 8 := by
  intro c hc
  have h1 := (labs_fix E).1 c
  have := (b_len h).1
  omega
theorem iServed {b : Int} {ls : List Ln} {on : List Bool} {pts : List (Int × Int)} (h1 : StOk b ls on) (h2 : BusOk b ls pts) : m_impl_servedLoad b ls on pts = some (servP (onE ls on) pts) := by
  have hl8 := labs_lt8 h2 (onE ls on)
  obtain ⟨b1, b2⟩ := b_len h2
  unfold m_impl_servedLoad
  rw [iSums h1 h2, Option.bind_some, ← servP_eq hl8]
  have hb : ∀ j, 0 ≤ sumK (onE ls on) pts (·.2) pts.length j ∧ sumK (onE ls on) pts (·.2) pts.length j ≤ 7992 := fun j => by
    have := sumK_bound (onE ls on) pts (·.2) (fun c hc => (h2.bs c hc).2) j pts.length (Nat.le_refl _); omega
  generalize hS : sumK (onE ls on) pts (·.2) pts.length = S at *
  generalize sumK (onE ls on) pts (·.1) pts.length = F at *
  have hbd : ∀ k, 0 ≤ ((List.range k).map fun j => if leB (S j) (F j) = true then S j else 0).sum ∧ ((List.range k).map fun j => if leB (S j) (F j) = true then S j else 0).sum ≤ 7992 * k := by
    intro k
    induction k with
    | zero => simp
    | succ k ih =>
      have := hb k
      rw [List.range_succ, List.map_append, List.sum_append]
      simp only [List.map_cons, List.map_nil, List.sum_cons, List.sum_nil]
      split <;> omega
  have hh := loop_all (m_impl_servedLoad_l1 (t16 F S)) (fun k => (((List.range k).map fun j => if leB (S j) (F j) = true then S j else 0).sum, (k : Int))) 8 (some (((List.range 8).map fun j => if leB (S j) (F j) = true then S j else 0).sum)) (by omega) (fun k fuel hk => ?_) (fun fuel => ?_)
  · rw [show m_impl_servedLoad_l1 (t16 F S) FUEL (0, 0) = _ from hh]; rfl
  · rw [e_impl_servedLoad_l1, m_impl_servedLoad_l1s]
    have i1 := hbd k
    have i2 := hb k
    have w1 : w64 (((List.range k).map fun j => if leB (S j) (F j) = true then S j else 0).sum + S k) = ((List.range k).map fun j => if leB (S j) (F j) = true then S j else 0).sum + S k := w64_in (by omega) (by omega)
    have hlt : ltB (k : Int) 8 = true := decide_eq_true (by omega)
    dsimp only [t16]
    simp only [hlt, ix_dec hk, cond_true, chk_true, Int.toNat_natCast, get8 _ hk, w1, w64_succ (by omega : k < 4611686018427387904)]
    have e : ((List.range (k + 1)).map fun j => if leB (S j) (F j) = true then S j else 0).sum = ((List.range k).map fun j => if leB (S j) (F j) = true then S j else 0).sum + (if leB (S k) (F k) = true then S k else 0) := by
      rw [List.range_succ, List.map_append, List.sum_append]; simp
    rw [e]
    cases leB (S k) (F k) <;> simp only [cond_false, cond_true, Option.bind_some, Bool.false_eq_true, if_false, if_true, Int.add_zero, Int.natCast_add, Int.natCast_one, Int.ofNat_one]
  · rw [e_impl_servedLoad_l1, m_impl_servedLoad_l1s]; rfl
theorem servP_bound {b : Int} {ls : List Ln} {pts : List (Int × Int)} (h : BusOk b ls pts) (E : Ed) : 0 ≤ servP E pts ∧ servP E pts ≤ 7992 := by
  obtain ⟨b1, b2⟩ := b_len h
  have : ∀ k, k ≤ pts.length → 0 ≤ ((List.range k).map fun b => if sumE E pts (·.2) b ≤ sumE E pts (·.1) b then (pts.getD b (0, 0)).2 else 0).sum ∧ ((List.range k).map fun b => if sumE E pts (·.2) b ≤ sumE E pts (·.1) b then (pts.getD b (0, 0)).2 else 0).sum ≤ 999 * k := by
    intro k
    induction k with
    | zero => intro _; simp
    | succ k ih =>
      intro hk
      have i1 := ih (by omega)
      have i2 := (h.bs k (by omega)).2
      rw [List.range_succ, List.map_append, List.sum_append]
      simp only [List.map_cons, List.map_nil, List.sum_cons, List.sum_nil]
      split <;> omega
  have h2 := this pts.length (Nat.le_refl _)
  unfold servP
  omega
theorem sServed {ls : List Ln} {on : List Bool} {pts : List (Int × Int)} (h1 : StOk (pts.length : Int) ls on) (h2 : BusOk (pts.length : Int) ls pts) : m_spec_ServedLoad (pts.length : Int) ls on pts = some (servP (onE ls on) pts) := by
  obtain ⟨b1, b2⟩ := b_len h2
  unfold m_spec_ServedLoad
  rw [sFed _ ls pts (by omega), okV_iff.2 ⟨h1, h2⟩, Option.bind_some, cond_true]
  have hbd : ∀ k, k ≤ pts.length → 0 ≤ ((List.range k).map fun b => if sumE (onE ls on) pts (·.2) b ≤ sumE (onE ls on) pts (·.1) b then (pts.getD b (0, 0)).2 else 0).sum ∧ ((List.range k).map fun b => if sumE (onE ls on) pts (·.2) b ≤ sumE (onE ls on) pts (·.1) b then (pts.getD b (0, 0)).2 else 0).sum ≤ 999 * k := by
    intro k
    induction k with
    | zero => intro _; simp
    | succ k ih =>
      intro hk
      have i1 := ih (by omega)
      have i2 := (h2.bs k (by omega)).2
      rw [List.range_succ, List.map_append, List.sum_append]
      simp only [List.map_cons, List.map_nil, List.sum_cons, List.sum_nil]
      split <;> omega
  have hh := loop_all (m_spec_ServedLoad_l1 (pts.length : Int) ls on pts) (fun k => (((List.range k).map fun b => if sumE (onE ls on) pts (·.2) b ≤ sumE (onE ls on) pts (·.1) b then (pts.getD b (0, 0)).2 else 0).sum, (k : Int))) pts.length (some (servP (onE ls on) pts)) (by omega) (fun k fuel hk => ?_) (fun fuel => ?_)
  · rw [show m_spec_ServedLoad_l1 (pts.length : Int) ls on pts FUEL (0, 0) = _ from hh]; rfl
  · rw [e_spec_ServedLoad_l1, m_spec_ServedLoad_l1s]
    have i1 := hbd k (by omega)
    have i2 := (h2.bs k hk).2
    have w1 : w64 (((List.range k).map fun b => if sumE (onE ls on) pts (·.2) b ≤ sumE (onE ls on) pts (·.1) b then (pts.getD b (0, 0)).2 else 0).sum + (pts.getD k (0, 0)).2) = ((List.range k).map fun b => if sumE (onE ls on) pts (·.2) b ≤ sumE (onE ls on) pts (·.1) b then (pts.getD b (0, 0)).2 else 0).sum + (pts.getD k (0, 0)).2 := w64_in (by omega) (by omega)
    simp only [lt_dec hk, cond_true, sIslFeed h1 h2 hk, sIslLoad h1 h2 hk, Option.bind_some, ix_dec hk, chk_true, Int.toNat_natCast, w1, w64_succ (by omega : k < 4611686018427387904)]
    have e : ((List.range (k + 1)).map fun b => if sumE (onE ls on) pts (·.2) b ≤ sumE (onE ls on) pts (·.1) b then (pts.getD b (0, 0)).2 else 0).sum = ((List.range k).map fun b => if sumE (onE ls on) pts (·.2) b ≤ sumE (onE ls on) pts (·.1) b then (pts.getD b (0, 0)).2 else 0).sum + (if sumE (onE ls on) pts (·.2) k ≤ sumE (onE ls on) pts (·.1) k then (pts.getD k (0, 0)).2 else 0) := by
      rw [List.range_succ, List.map_append, List.sum_append]; simp
    rw [e]
    by_cases h : sumE (onE ls on) pts (·.2) k ≤ sumE (onE ls on) pts (·.1) k
    · rw [show leB (sumE (onE ls on) pts (·.2) k) (sumE (onE ls on) pts (·.1) k) = true from decide_eq_true h, if_pos h]; simp only [cond_true, Option.bind_some, Int.natCast_add, Int.natCast_one]
    · rw [show leB (sumE (onE ls on) pts (·.2) k) (sumE (onE ls on) pts (·.1) k) = false from decide_eq_false h, if_neg h]; simp only [cond_false, Option.bind_some, Int.add_zero, Int.natCast_add, Int.natCast_one]
  · rw [e_spec_ServedLoad_l1, m_spec_ServedLoad_l1s]; simp only [nlt_dec, cond_false]; rfl
section
variable {a c : List Bool} (hl : a.length = c.length) (ha : a.length ≤ 1048576)
include hl ha
theorem iChanges : m_impl_Changes a c = some (zl (chgs a c)) := by
  unfold m_impl_Changes
  have e : ((a.length : Int) != (c.length : Int)) = false := by rw [hl]; simp
  rw [e]
  have hh := loop_filter (m_impl_Changes_l1 a c) a.length (fun k => a.getD k false != c.getD k false) some (by omega) (fun k fuel l hk hp => ?_) (fun fuel l => ?_)
  · rw [hh]; rfl
  · rw [e_impl_Changes_l1, m_impl_Changes_l1s]
    simp only [lt_dec hk, ix_dec hk, ix_dec (show k < c.length by omega), cond_true, chk_true, Int.toNat_natCast, hp, w64_succ (by omega : k < 4611686018427387904)]
    cases a.getD k false != c.getD k false <;> rfl
  · rw [e_impl_Changes_l1, m_impl_Changes_l1s]; simp only [nlt_dec, cond_false]
theorem sChanges : m_spec_Changes a c = some (zl (chgs a c)) := by
  unfold m_spec_Changes
  have e : ((a.length : Int) == (c.length : Int)) = true := by rw [hl]; simp
  have hh := loop_filter (m_spec_Changes_l1 a c) a.length (fun k => a.getD k false != c.getD k false) some (by omega) (fun k fuel l hk hp => ?_) (fun fuel l => ?_)
  · rw [hh]; rfl
  · rw [e_spec_Changes_l1, m_spec_Changes_l1s]
    simp only [lt_dec hk, e, Bool.and_self, ix_dec hk, ix_dec (show k < c.length by omega), cond_true, chk_true, Int.toNat_natCast, hp, w64_succ (by omega : k < 4611686018427387904)]
    cases a.getD k false != c.getD k false <;> rfl
  · rw [e_spec_Changes_l1, m_spec_Changes_l1s]; simp only [nlt_dec, Bool.false_and, cond_false]
end
theorem chgs_len (a c : List Bool) : (chgs a c).length ≤ a.length := by
  unfold chgs
  have := List.length_filter_le (fun k => a.getD k false != c.getD k false) (List.range a.length)
  rwa [List.length_range] at this
theorem pow_shl {n : Nat} (h : n ≤ 10) : bitsShl .i64 1 (n : Int) = ((2 ^ n : Nat) : Int) := by
  have : n = 0 ∨ n = 1 ∨ n = 2 ∨ n = 3 ∨ n = 4 ∨ n = 5 ∨ n = 6 ∨ n = 7 ∨ n = 8 ∨ n = 9 ∨ n = 10 := by omega
  rcases this with rfl | rfl | rfl | rfl | rfl | rfl | rfl | rfl | rfl | rfl | rfl <;> decide
theorem shr_nat {x k : Nat} (hk : k ≤ 64) : bitsShr .i64 (x : Int) (k : Int) = ((x >>> k : Nat) : Int) := by
  unfold bitsShr
  rw [show min (k : Int).toNat (IntKind.bits .i64) = k by rw [Int.toNat_natCast]; exact Nat.min_eq_left hk, Nat.shiftRight_eq_div_pow]
  rw [Int.fdiv_eq_ediv_of_nonneg _ (by exact Int.le_of_lt (Int.pow_pos (by decide)))]
  norm_cast
theorem and_one {x : Nat} (h : x < 4611686018427387904) : bitsAnd .i64 (x : Int) 1 = ((x % 2 : Nat) : Int) := by
  have e : bitsAnd .i64 (x : Int) 1 = w64 ((BitVec.ofInt 64 (x : Int) &&& BitVec.ofInt 64 1).toNat : Int) := rfl
  have h1 : (BitVec.ofInt 64 (x : Int)).toNat = x := by rw [BitVec.ofInt_natCast, BitVec.toNat_ofNat, Nat.mod_eq_of_lt (by omega)]
  have h2 : (BitVec.ofInt 64 1).toNat = 1 := by decide
  rw [e, BitVec.toNat_and, h1, h2, Nat.and_one_is_mod, w64_in (by omega) (by omega)]
theorem bit_val {x k : Nat} (hx : x < 4611686018427387904) (hk : k ≤ 64) : (bitsAnd .i64 (bitsShr .i64 (x : Int) (k : Int)) 1 == 1) = x.testBit k := by
  have h1 : x >>> k ≤ x := Nat.shiftRight_le x k
  rw [shr_nat hk, and_one (by omega)]
  rw [Nat.testBit, Nat.one_and_eq_mod_two]
  rcases Nat.mod_two_eq_zero_or_one (x >>> k) with h | h <;> rw [h] <;> rfl
theorem iStateOf {x n : Nat} (hx : x < 4611686018427387904) (hn : n ≤ 10) : m_impl_stateOf (x : Int) (n : Int) = some (stOf n x) := by
  unfold m_impl_stateOf
  have hm : mkB (n : Int) = true := by simp [mkB]; omega
  rw [hm, chk_true, Int.toNat_natCast]
  have hh := loop_all (m_impl_stateOf_l1 (x : Int) (n : Int)) (fun k => (mix n k (fun i => x.testBit i) (fun _ => false), (k : Int))) n (some (stOf n x)) (by omega) (fun k fuel hk => ?_) (fun fuel => ?_)
  · have e : mix n 0 (fun i => x.testBit i) (fun _ => false) = List.replicate n false := by
      apply List.ext_getElem (by simp [mix])
      intro i h1 h2
      simp [mix]
    rw [e] at hh
    rw [show m_impl_stateOf_l1 (x : Int) (n : Int) FUEL (List.replicate n false, 0) = _ from hh]; rfl
  · rw [e_impl_stateOf_l1, m_impl_stateOf_l1s]
    have hnn : nnB (k : Int) = true := by simp [nnB]
    simp only [Int.toNat_natCast, lt_dec hk, hnn, ix_dec hk, cond_true, chk_true, bit_val hx (by omega : k ≤ 64), w64_succ (by omega : k < 4611686018427387904)]
    rw [mix_set (f := fun i => x.testBit i) (g := fun _ => false) hk]
  · rw [e_impl_stateOf_l1, m_impl_stateOf_l1s]
    simp only [Int.toNat_natCast, nlt_dec, cond_false]
    congr 1
    unfold mix stOf
    refine List.map_congr_left fun i hi => ?_
    rw [if_pos (by simpa using hi)]
theorem sStateOf {x n : Nat} (hx : x < 2 ^ n) (hn : n ≤ 10) : m_spec_StateOf (x : Int) (n : Int) = some (stOf n x, true) := by
  have hp : 2 ^ n ≤ 1024 := by
    have := Nat.pow_le_pow_right (show 0 < 2 by decide) hn
    omega
  unfold m_spec_StateOf m_spec_l1In
  have c1 : (leB 0 (n : Int) && leB (n : Int) 10) = true := by simp [leB]; omega
  have hnn : nnB (n : Int) = true := by simp [nnB]
  have w1 : w64 (((2 ^ n : Nat) : Int) - 1) = ((2 ^ n : Nat) : Int) - 1 := w64_in (by omega) (by omega)
  have c2 : (leB 0 (x : Int) && leB (x : Int) (((2 ^ n : Nat) : Int) - 1)) = true := by simp only [leB, Bool.and_eq_true, decide_eq_true_eq]; omega
  rw [c1, hnn, pow_shl hn, w1, c2]
  simp only [Option.bind_some, Bool.not_true, Bool.not_false, Bool.or_true, chk_true, gb_true, Bool.or_self, cond_false]
  have hh := loop_all (m_spec_StateOf_l1 (n : Int)) (fun k => (((x >>> k : Nat) : Int), (List.range k).map (fun i => x.testBit i), (k : Int))) n (some (stOf n x)) (by omega) (fun k fuel hk => ?_) (fun fuel => ?_)
  · rw [show m_spec_StateOf_l1 (n : Int) FUEL ((x : Int), ([] : List Bool), 0) = _ from hh]; rfl
  · rw [e_spec_StateOf_l1, m_spec_StateOf_l1s]
    have hle : x >>> k ≤ x := Nat.shiftRight_le x k
    have ha : ∀ z : Bool, apB ((List.range k).map (fun i => x.testBit i)).length ([z] : List Bool).length = true := fun z => by simp [apB]; omega
    have t1 : Int.tmod ((x >>> k : Nat) : Int) 2 = ((x >>> k % 2 : Nat) : Int) := by rw [Int.tmod_eq_emod_of_nonneg (Int.natCast_nonneg _)]; norm_cast
    have t2 : w64 (Int.tdiv ((x >>> k : Nat) : Int) 2) = ((x >>> (k + 1) : Nat) : Int) := by
      rw [Int.tdiv_eq_ediv_of_nonneg (Int.natCast_nonneg _), Nat.shiftRight_succ]
      generalize x >>> k = y at hle ⊢
      rw [w64_in (by omega) (by omega)]; norm_cast
    have t3 : ((((x >>> k % 2 : Nat) : Int)) == 1) = x.testBit k := by
      rw [Nat.testBit, Nat.one_and_eq_mod_two]
      rcases Nat.mod_two_eq_zero_or_one (x >>> k) with h | h <;> rw [h] <;> rfl
    simp only [lt_dec hk, cond_true, ha, chk_true, t1, t2, t3, w64_succ (by omega : k < 4611686018427387904)]
    rw [List.range_succ, List.map_append]; rfl
  · rw [e_spec_StateOf_l1, m_spec_StateOf_l1s]; simp only [nlt_dec, cond_false]; rfl
def encB (E : List Bool → Int) (C : List Bool → Nat) : Option (List Bool) → List Bool × Int × Int
  | none => ([], -1, 0)
  | some y => (y, E y, (C y : Int))
def outB : Option (List Bool) → List Bool × Bool
  | none => ([], false)
  | some y => (y, true)
theorem and_zero (x : Int) : bitsAnd .i64 x 0 = 0 := by
  unfold bitsAnd
  rw [show BitVec.ofInt (IntKind.bits .i64) 0 = 0#(IntKind.bits .i64) from rfl, BitVec.and_zero]; rfl
section
variable {ls : List Ln} {on : List Bool} {pts : List (Int × Int)} (h1 : StOk (pts.length : Int) ls on) (h2 : BusOk (pts.length : Int) ls pts) (h0 : 1 ≤ ls.length)
include h1 h2 h0
theorem bst_facts (num : Nat) : StOk (pts.length : Int) ls (stOf ls.length num) ∧ (on.length = (stOf ls.length num).length) ∧ okV (pts.length : Int) ls (stOf ls.length num) pts = true := by
  have e : (stOf ls.length num).length = ls.length := stOf_len _ _
  have hs : StOk (pts.length : Int) ls (stOf ls.length num) := ⟨h1.net, e⟩
  exact ⟨hs, h1.len.trans e.symm, okV_iff.2 ⟨hs, h2⟩⟩
theorem best_succ (num : Nat) : bestOf (fun x => goodP ls x pts) (fun x => servP (onE ls x) pts) (fun x => (chgs on x).length) ((List.range (num + 1)).map (stOf ls.length)) = bstep (fun x => goodP ls x pts) (fun x => servP (onE ls x) pts) (fun x => (chgs on x).length) (bestOf (fun x => goodP ls x pts) (fun x => servP (onE ls x) pts) (fun x => (chgs on x).length) ((List.range num).map (stOf ls.length))) (stOf ls.length num) := by
  rw [List.range_succ, List.map_append]; exact bestOf_snoc _ _ _ _ _
theorem iBest : m_impl_BestState (pts.length : Int) ls on pts [] = some (outB (bestP ls on pts)) := by
  have hll := h1.net.ll; have hB := h1.net.b1; have hl := h1.len
  have hp : 2 ^ ls.length ≤ 1024 := by
    have := Nat.pow_le_pow_right (show 0 < 2 by decide) hll
    omega
  unfold m_impl_BestState
  have l1 : m_impl_BestState_l1 (pts.length : Int) ls [] FUEL (0, 0) = some 0 := by rw [FUEL_succ]; rfl
  have hnn : nnB (ls.length : Int) = true := by simp [nnB]
  rw [iFed _ ls pts (by omega), okV_iff.2 ⟨h1, h2⟩, Option.bind_some, cond_true, l1, Option.bind_some, hnn, chk_true]
  have hh := loop_all (m_impl_BestState_l2 (pts.length : Int) ls on pts 0) (fun num => ((encB (fun x => servP (onE ls x) pts) (fun x => (chgs on x).length) (bestOf (fun x => goodP ls x pts) (fun x => servP (onE ls x) pts) (fun x => (chgs on x).length) ((List.range num).map (stOf ls.length)))).1, (encB (fun x => servP (onE ls x) pts) (fun x => (chgs on x).length) (bestOf (fun x => goodP ls x pts) (fun x => servP (onE ls x) pts) (fun x => (chgs on x).length) ((List.range num).map (stOf ls.length)))).2.1, (encB (fun x => servP (onE ls x) pts) (fun x => (chgs on x).length) (bestOf (fun x => goodP ls x pts) (fun x => servP (onE ls x) pts) (fun x => (chgs on x).length) ((List.range num).map (stOf ls.length)))).2.2, (num : Int))) (2 ^ ls.length)
    (some (encB (fun x => servP (onE ls x) pts) (fun x => (chgs on x).length) (bestP ls on pts)).1) (by omega) (fun num fuel hk => ?_) (fun fuel => ?_)
  · rw [show m_impl_BestState_l2 (pts.length : Int) ls on pts 0 FUEL (([] : List Bool), -1, 0, 0) = _ from hh, Option.bind_some]
    cases hb : bestP ls on pts with
    | none => rfl
    | some y =>
      have := (bestP_good hb).1
      cases y with
      | nil => simp at this; omega
      | cons z y => rfl
  · rw [e_impl_BestState_l2, m_impl_BestState_l2s, best_succ h1 h2 h0]
    obtain ⟨f1, f2, f3⟩ := bst_facts h1 h2 h0 num
    have hsv := servP_bound h2 (onE ls (stOf ls.length num))
    have hcl : (zl (chgs on (stOf ls.length num))).length = (chgs on (stOf ls.length num)).length := zl_len _
    have hlt : ltB (num : Int) ((2 ^ ls.length : Nat) : Int) = true := lt_dec hk
    have hne : (!(List.isEmpty (stOf ls.length num))) = true := by
      have : (stOf ls.length num).length = ls.length := stOf_len _ _
      cases hst : stOf ls.length num with
      | nil => rw [hst] at this; simp at this; omega
      | cons => rfl
    simp only [pow_shl hll, hlt, cond_true, and_zero, iStateOf (show num < 4611686018427387904 by omega) hll, Option.bind_some, iServed f1 h2, iChanges f2 (by omega), iNetGood _ ls _ pts (by omega), f3, Bool.true_and, hcl, hne, chk_true, w64_succ (by omega : num < 4611686018427387904)]
    generalize bestOf (fun x => goodP ls x pts) (fun x => servP (onE ls x) pts) (fun x => (chgs on x).length) ((List.range num).map (stOf ls.length)) = a
    have e0 : ((0 : Int) != 0) = false := rfl
    simp only [e0, cond_false]
    cases a with
    | none =>
      dsimp only [encB]
      have c1 : ltB (servP (onE ls (stOf ls.length num)) pts) (-1) = false := decide_eq_false (by omega)
      have c2 : ltB (-1) (servP (onE ls (stOf ls.length num)) pts) = true := decide_eq_true (by omega)
      have hb : bstep (fun x => goodP ls x pts) (fun x => servP (onE ls x) pts) (fun x => (chgs on x).length) none (stOf ls.length num) = if goodP ls (stOf ls.length num) pts = true then some (stOf ls.length num) else none := by
        unfold bstep better; simp only [Bool.and_true]
      simp only [c1, c2, cond_false, Bool.true_or, gb_true, Option.bind_some, Bool.true_and, hb]
      generalize goodP ls (stOf ls.length num) pts = g
      cases g <;> rfl
    | some z =>
      have hb : bstep (fun x => goodP ls x pts) (fun x => servP (onE ls x) pts) (fun x => (chgs on x).length) (some z) (stOf ls.length num) = if (goodP ls (stOf ls.length num) pts && (decide (servP (onE ls z) pts < servP (onE ls (stOf ls.length num)) pts) || (decide (servP (onE ls z) pts = servP (onE ls (stOf ls.length num)) pts) && decide ((chgs on (stOf ls.length num)).length < (chgs on z).length)))) = true then some (stOf ls.length num) else some z := rfl
      rw [hb]
      dsimp only [encB]
      generalize goodP ls (stOf ls.length num) pts = g
      by_cases c1 : servP (onE ls (stOf ls.length num)) pts < servP (onE ls z) pts
      · have d1 : decide (servP (onE ls z) pts < servP (onE ls (stOf ls.length num)) pts) = false := decide_eq_false (by omega)
        have d2 : decide (servP (onE ls z) pts = servP (onE ls (stOf ls.length num)) pts) = false := decide_eq_false (by omega)
        rw [show ltB (servP (onE ls (stOf ls.length num)) pts) (servP (onE ls z) pts) = true from decide_eq_true c1]
        simp only [cond_true, Option.bind_some, d1, d2, Bool.false_and, Bool.or_self, Bool.and_false, Bool.false_eq_true, if_false]
      · rw [show ltB (servP (onE ls (stOf ls.length num)) pts) (servP (onE ls z) pts) = false from decide_eq_false c1]
        have d3 : (ltB (servP (onE ls z) pts) (servP (onE ls (stOf ls.length num)) pts) || ltB ((chgs on (stOf ls.length num)).length : Int) ((chgs on z).length : Int)) = (decide (servP (onE ls z) pts < servP (onE ls (stOf ls.length num)) pts) || (decide (servP (onE ls z) pts = servP (onE ls (stOf ls.length num)) pts) && decide ((chgs on (stOf ls.length num)).length < (chgs on z).length))) := by
          rw [Bool.eq_iff_iff]; simp only [ltB, Bool.or_eq_true, Bool.and_eq_true, decide_eq_true_eq]; omega
        simp only [cond_false, d3]
        generalize (decide (servP (onE ls z) pts < servP (onE ls (stOf ls.length num)) pts) || (decide (servP (onE ls z) pts = servP (onE ls (stOf ls.length num)) pts) && decide ((chgs on (stOf ls.length num)).length < (chgs on z).length))) = d
        cases d <;> cases g <;> rfl
  · rw [e_impl_BestState_l2, m_impl_BestState_l2s]
    simp only [pow_shl hll, nlt_dec, cond_false]
    rfl
theorem sBest : m_spec_BestState (pts.length : Int) ls on pts [] = some (outB (bestP ls on pts)) := by
  have hll := h1.net.ll; have hB := h1.net.b1; have hl := h1.len
  have hp : 2 ^ ls.length ≤ 1024 := by
    have := Nat.pow_le_pow_right (show 0 < 2 by decide) hll
    omega
  unfold m_spec_BestState
  rw [sFed _ ls pts (by omega), okV_iff.2 ⟨h1, h2⟩, Option.bind_some, cond_true]
  have hh := loop_all (m_spec_BestState_l1 (pts.length : Int) ls on pts []) (fun num => ((encB (fun x => servP (onE ls x) pts) (fun x => (chgs on x).length) (bestOf (fun x => goodP ls x pts) (fun x => servP (onE ls x) pts) (fun x => (chgs on x).length) ((List.range num).map (stOf ls.length)))).1, (encB (fun x => servP (onE ls x) pts) (fun x => (chgs on x).length) (bestOf (fun x => goodP ls x pts) (fun x => servP (onE ls x) pts) (fun x => (chgs on x).length) ((List.range num).map (stOf ls.length)))).2.1, (encB (fun x => servP (onE ls x) pts) (fun x => (chgs on x).length) (bestOf (fun x => goodP ls x pts) (fun x => servP (onE ls x) pts) (fun x => (chgs on x).length) ((List.range num).map (stOf ls.length)))).2.2, (num : Int))) (2 ^ ls.length)
    (some ((encB (fun x => servP (onE ls x) pts) (fun x => (chgs on x).length) (bestP ls on pts)).1, (encB (fun x => servP (onE ls x) pts) (fun x => (chgs on x).length) (bestP ls on pts)).2.1)) (by omega) (fun num fuel hk => ?_) (fun fuel => ?_)
  · rw [show m_spec_BestState_l1 (pts.length : Int) ls on pts [] FUEL (([] : List Bool), -1, 0, 0) = _ from hh, Option.bind_some]
    cases hb : bestP ls on pts with
    | none => rfl
    | some y =>
      have := servP_bound h2 (onE ls y)
      have e : leB 0 (servP (onE ls y) pts) = true := decide_eq_true (by omega)
      dsimp only [encB, outB]
      rw [e]
  · rw [e_spec_BestState_l1, m_spec_BestState_l1s, best_succ h1 h2 h0]
    obtain ⟨f1, f2, f3⟩ := bst_facts h1 h2 h0 num
    have hsv := servP_bound h2 (onE ls (stOf ls.length num))
    have hcl : (zl (chgs on (stOf ls.length num))).length = (chgs on (stOf ls.length num)).length := zl_len _
    have hlt : ltB (num : Int) ((2 ^ ls.length : Nat) : Int) = true := lt_dec hk
    have hnn : nnB (ls.length : Int) = true := by simp [nnB]
    have l2 : m_spec_BestState_l2 on [] (stOf ls.length num, true) FUEL (true, 0) = some true := by rw [FUEL_succ]; rfl
    simp only [hnn, chk_true, hl, pow_shl hll, hlt, cond_true, sStateOf hk hll, Option.bind_some, l2, gb_true, sNetGood _ ls _ pts (by omega), f3, Bool.true_and, sServed f1 h2, sChanges f2 (by omega), hcl, m_spec_l14Better, w64_succ (by omega : num < 4611686018427387904)]
    generalize bestOf (fun x => goodP ls x pts) (fun x => servP (onE ls x) pts) (fun x => (chgs on x).length) ((List.range num).map (stOf ls.length)) = a
    cases a with
    | none =>
      have hb : bstep (fun x => goodP ls x pts) (fun x => servP (onE ls x) pts) (fun x => (chgs on x).length) none (stOf ls.length num) = if goodP ls (stOf ls.length num) pts = true then some (stOf ls.length num) else none := by
        unfold bstep better; simp only [Bool.and_true]
      have c2 : ltB (-1) (servP (onE ls (stOf ls.length num)) pts) = true := decide_eq_true (by omega)
      rw [hb]
      dsimp only [encB]
      generalize goodP ls (stOf ls.length num) pts = g
      cases g
      · rfl
      · simp only [gb_true, Option.bind_some, cond_true, c2, Bool.true_or, if_true]
    | some z =>
      have hb : bstep (fun x => goodP ls x pts) (fun x => servP (onE ls x) pts) (fun x => (chgs on x).length) (some z) (stOf ls.length num) = if (goodP ls (stOf ls.length num) pts && (decide (servP (onE ls z) pts < servP (onE ls (stOf ls.length num)) pts) || (decide (servP (onE ls z) pts = servP (onE ls (stOf ls.length num)) pts) && decide ((chgs on (stOf ls.length num)).length < (chgs on z).length)))) = true then some (stOf ls.length num) else some z := rfl
      have d3 : (ltB (servP (onE ls z) pts) (servP (onE ls (stOf ls.length num)) pts) || ((servP (onE ls (stOf ls.length num)) pts == servP (onE ls z) pts) && ltB ((chgs on (stOf ls.length num)).length : Int) ((chgs on z).length : Int))) = (decide (servP (onE ls z) pts < servP (onE ls (stOf ls.length num)) pts) || (decide (servP (onE ls z) pts = servP (onE ls (stOf ls.length num)) pts) && decide ((chgs on (stOf ls.length num)).length < (chgs on z).length))) := by
        rw [Bool.eq_iff_iff]; simp only [ltB, Bool.or_eq_true, Bool.and_eq_true, decide_eq_true_eq, beq_iff_eq]; omega
      rw [hb]
      dsimp only [encB]
      generalize goodP ls (stOf ls.length num) pts = g
      cases g
      · rfl
      · simp only [gb_true, Option.bind_some, cond_true, d3, Bool.true_and]
        generalize (decide (servP (onE ls z) pts < servP (onE ls (stOf ls.length num)) pts) || (decide (servP (onE ls z) pts = servP (onE ls (stOf ls.length num)) pts) && decide ((chgs on (stOf ls.length num)).length < (chgs on z).length))) = d
        cases d <;> rfl
  · rw [e_spec_BestState_l1, m_spec_BestState_l1s]
    have hnn : nnB (on.length : Int) = true := by simp [nnB]
    simp only [hnn, chk_true, hl, pow_shl hll, nlt_dec, cond_false]
    rfl
end
theorem ap_small {m n : Nat} (h : m + n ≤ 1099511627776) : apB m n = true := by simp only [apB, decide_eq_true_eq]; omega
def ordTo (a b : List Bool) : List (Int × Bool) := (((List.range a.length).filter fun i => a.getD i false && !b.getD i false).map fun (i : Nat) => ((i : Int), false)) ++ (((List.range a.length).filter fun i => b.getD i false && !a.getD i false).map fun (i : Nat) => ((i : Int), true))
def gat (n : Nat) (p : Nat → Bool) (t : Bool) : List (Int × Bool) := ((List.range n).filter p).map fun (i : Nat) => ((i : Int), t)
theorem gat_s (n : Nat) (p : Nat → Bool) (t : Bool) : gat (n + 1) p t = if p n then gat n p t ++ [((n : Int), t)] else gat n p t := by
  unfold gat
  rw [List.range_succ, List.filter_append, List.filter_cons, List.filter_nil]
  cases p n <;> simp
theorem gat_len (n : Nat) (p : Nat → Bool) (t : Bool) : (gat n p t).length ≤ n := by
  unfold gat
  rw [List.length_map]
  have := List.length_filter_le p (List.range n)
  rwa [List.length_range] at this
section
variable {a c : List Bool} (hl : a.length = c.length) (ha : a.length ≤ 10)
include hl ha
theorem iOrder : m_impl_OrderTo a c = some (ordTo a c) := by
  unfold m_impl_OrderTo
  have e : ((a.length : Int) != (c.length : Int)) = false := by rw [hl]; simp
  have e2 : ltB 10 (a.length : Int) = false := decide_eq_false (by omega)
  rw [e, e2]
  have hh := loop_all (m_impl_OrderTo_l1 a c) (fun k => (gat k (fun i => a.getD i false && !c.getD i false) false, gat k (fun i => c.getD i false && !a.getD i false) true, (k : Int))) a.length (some (gat a.length (fun i => a.getD i false && !c.getD i false) false, gat a.length (fun i => c.getD i false && !a.getD i false) true)) (by omega) (fun k fuel hk => ?_) (fun fuel => ?_)
  · have g1 := gat_len a.length (fun i => a.getD i false && !c.getD i false) false
    have g2 := gat_len a.length (fun i => c.getD i false && !a.getD i false) true
    have ap : apB (gat a.length (fun i => a.getD i false && !c.getD i false) false).length (gat a.length (fun i => c.getD i false && !a.getD i false) true).length = true := ap_small (by omega)
    simp only [Bool.or_self, cond_false]
    rw [show m_impl_OrderTo_l1 a c FUEL (([] : List (Int × Bool)), ([] : List (Int × Bool)), 0) = _ from hh, Option.bind_some, ap]; rfl
  · rw [e_impl_OrderTo_l1, m_impl_OrderTo_l1s]
    have g1 := gat_len k (fun i => a.getD i false && !c.getD i false) false
    have g2 := gat_len k (fun i => c.getD i false && !a.getD i false) true
    have p1 : ∀ x : Int × Bool, apB (gat k (fun i => a.getD i false && !c.getD i false) false).length ([x] : List (Int × Bool)).length = true := fun x => ap_small (by simp only [List.length_singleton]; omega)
    have p2 : ∀ x : Int × Bool, apB (gat k (fun i => c.getD i false && !a.getD i false) true).length ([x] : List (Int × Bool)).length = true := fun x => ap_small (by simp only [List.length_singleton]; omega)
    simp only [lt_dec hk, ix_dec hk, ix_dec (show k < c.length by omega), cond_true, chk_true, Bool.or_true, Int.toNat_natCast, p1, p2, gat_s, w64_succ (by omega : k < 4611686018427387904)]
    cases a.getD k false <;> cases c.getD k false <;> rfl
  · rw [e_impl_OrderTo_l1, m_impl_OrderTo_l1s]; simp only [nlt_dec, cond_false]
theorem sOrder : m_spec_OrderTo a c = some (ordTo a c) := by
  unfold m_spec_OrderTo
  have e2 : ltB 10 (a.length : Int) = false := decide_eq_false (by omega)
  rw [sChanges hl (by omega), Option.bind_some, e2]
  have hcl := chgs_len a c
  have hin : ∀ k, k < (chgs a c).length → (chgs a c).getD k 0 < a.length := fun k hk => by
    have : (chgs a c).getD k 0 ∈ chgs a c := by rw [getD_ge hk]; exact List.getElem_mem hk
    have := (List.mem_filter.1 this).1
    simpa using this
  have l1 := loop_all (m_spec_OrderTo_l1 a (zl (chgs a c))) (fun k => ((((chgs a c).take k).filter fun i => a.getD i false).map fun (i : Nat) => ((i : Int), false), (k : Int))) (chgs a c).length (some (((chgs a c).filter fun i => a.getD i false).map fun (i : Nat) => ((i : Int), false))) (by omega) (fun k fuel hk => ?_) (fun fuel => ?_)
  · have l2 := loop_all (m_spec_OrderTo_l2 c (zl (chgs a c))) (fun k => (((chgs a c).filter fun i => a.getD i false).map (fun (i : Nat) => ((i : Int), false)) ++ (((chgs a c).take k).filter fun i => c.getD i false).map (fun (i : Nat) => ((i : Int), true)), (k : Int))) (chgs a c).length (some (((chgs a c).filter fun i => a.getD i false).map (fun (i : Nat) => ((i : Int), false)) ++ ((chgs a c).filter fun i => c.getD i false).map (fun (i : Nat) => ((i : Int), true)))) (by omega) (fun k fuel hk => ?_) (fun fuel => ?_)
    · have x2 : m_spec_OrderTo_l2 c (zl (chgs a c)) FUEL (((chgs a c).filter fun i => a.getD i false).map (fun (i : Nat) => ((i : Int), false)), 0) = some (((chgs a c).filter fun i => a.getD i false).map (fun (i : Nat) => ((i : Int), false)) ++ ((chgs a c).filter fun i => c.getD i false).map (fun (i : Nat) => ((i : Int), true))) := by
        have := l2; simpa using this
      simp only [cond_false]
      rw [show m_spec_OrderTo_l1 a (zl (chgs a c)) FUEL (([] : List (Int × Bool)), 0) = _ from l1, Option.bind_some, x2, Option.bind_some]
      congr 1
      unfold ordTo chgs
      rw [List.filter_filter, List.filter_filter]
      congr 2
      · exact List.filter_congr fun i _ => by cases a.getD i false <;> cases c.getD i false <;> rfl
      · exact List.filter_congr fun i _ => by cases a.getD i false <;> cases c.getD i false <;> rfl
    · rw [e_spec_OrderTo_l2, m_spec_OrderTo_l2s]
      have hc := hin k hk
      have g1 := List.length_filter_le (fun i => a.getD i false) (chgs a c)
      have g2 := List.length_filter_le (fun i => c.getD i false) ((chgs a c).take k)
      have g3 : ((chgs a c).take k).length ≤ k := by rw [List.length_take]; omega
      have p1 : ∀ x : Int × Bool, apB (((chgs a c).filter fun i => a.getD i false).map (fun (i : Nat) => ((i : Int), false)) ++ (((chgs a c).take k).filter fun i => c.getD i false).map (fun (i : Nat) => ((i : Int), true))).length ([x] : List (Int × Bool)).length = true := fun x => ap_small (by simp only [List.length_append, List.length_map, List.length_singleton]; omega)
      simp only [zl_len, lt_dec hk, ix_dec hk, cond_true, chk_true, Int.toNat_natCast, zl_get, ix_dec (show (chgs a c).getD k 0 < c.length by omega), p1, w64_succ (by omega : k < 4611686018427387904)]
      rw [List.take_succ_eq_append_getElem hk, ← getD_ge hk (d := 0), List.filter_append, List.filter_cons, List.filter_nil]
      cases c.getD ((chgs a c).getD k 0) false <;> simp
    · rw [e_spec_OrderTo_l2, m_spec_OrderTo_l2s]; simp only [zl_len, nlt_dec, cond_false, List.take_length]
  · rw [e_spec_OrderTo_l1, m_spec_OrderTo_l1s]
    have hc := hin k hk
    have g2 := List.length_filter_le (fun i => a.getD i false) ((chgs a c).take k)
    have g3 : ((chgs a c).take k).length ≤ k := by rw [List.length_take]; omega
    have p1 : ∀ x : Int × Bool, apB ((((chgs a c).take k).filter fun i => a.getD i false).map (fun (i : Nat) => ((i : Int), false))).length ([x] : List (Int × Bool)).length = true := fun x => ap_small (by simp only [List.length_map, List.length_singleton]; omega)
    simp only [zl_len, lt_dec hk, ix_dec hk, cond_true, chk_true, Int.toNat_natCast, zl_get, ix_dec hc, p1, w64_succ (by omega : k < 4611686018427387904)]
    rw [List.take_succ_eq_append_getElem hk, ← getD_ge hk (d := 0), List.filter_append, List.filter_cons, List.filter_nil]
    cases a.getD ((chgs a c).getD k 0) false <;> simp
  · rw [e_spec_OrderTo_l1, m_spec_OrderTo_l1s]; simp only [zl_len, nlt_dec, cond_false, List.take_length]
end
def restO (on : List Bool) : Option (List Bool) → List (Int × Bool) × Bool
  | none => ([], false)
  | some y => (ordTo on y, true)
section
variable {ls : List Ln} {on : List Bool} {pts : List (Int × Int)} (h1 : StOk (pts.length : Int) ls on) (h2 : BusOk (pts.length : Int) ls pts) (h0 : 1 ≤ ls.length)
include h1 h2 h0
theorem iRestore : m_impl_RestoreOrder (pts.length : Int) ls on pts [] = some (restO on (bestP ls on pts)) := by
  have hll := h1.net.ll; have hl := h1.len
  unfold m_impl_RestoreOrder
  rw [iBest h1 h2 h0, Option.bind_some]
  cases hb : bestP ls on pts with
  | none => rfl
  | some y =>
    have hy := (bestP_good hb).1
    dsimp only [outB, restO]
    rw [iOrder (hl.trans hy.symm) (by omega)]; rfl
theorem sRestore : m_spec_RestoreOrder (pts.length : Int) ls on pts [] = some (restO on (bestP ls on pts)) := by
  have hll := h1.net.ll; have hl := h1.len
  unfold m_spec_RestoreOrder
  rw [sBest h1 h2 h0, Option.bind_some]
  cases hb : bestP ls on pts with
  | none => rfl
  | some y =>
    have hy := (bestP_good hb).1
    dsimp only [outB, restO]
    rw [sOrder (hl.trans hy.symm) (by omega)]; rfl
end
end Go.Proofs.YtnplecoikgnpkaaGreatDoor
namespace Go.Proofs.YtnplecoikgnpkaaGreatDoor
set_option linter.unusedVariables false
set_option linter.unusedSimpArgs false
section
variable (w : Wk) (ho : w.1.length ≤ 1000) (he : w.2.1.length ≤ 1000) (hp : w.2.2.length ≤ 1000)
include ho he hp
omit ho he in
theorem iRets : m_impl_Work_returns w.1 w.2.1 w.2.2 = some (retsOf w.2.2) := by
  unfold m_impl_Work_returns
  have h := loop_all (m_impl_Work_returns_l1 w.2.2) (fun k => (retsOf (w.2.2.take k), (k : Int))) w.2.2.length (some (retsOf w.2.2)) (by omega) (fun k fuel hk => ?_) (fun fuel => ?_)
  · rw [show (([] : List (Int × Int × Int)), (0 : Int)) = (retsOf (w.2.2.take 0), ((0 : Nat) : Int)) from rfl, h]; rfl
  · rw [e_impl_Work_returns_l1, m_impl_Work_returns_l1s]
    have ha : apB (retsOf (w.2.2.take k)).length 1 = true := by simp [apB, retsOf]; omega
    simp only [lt_dec hk, ix_dec hk, chk_true, cond_true, Int.toNat_natCast, List.length_singleton, ha, w64_succ (by omega : k < 4611686018427387904)]
    rw [rets_take hk]
  · rw [e_impl_Work_returns_l1, m_impl_Work_returns_l1s]; simp [nlt_dec]
omit he hp ho in
theorem iFor (kd : Int) (l : List Bool) (b : Bool) (hl : l.length ≤ 1000) : m_impl_deedsFor kd l b = some (forOf kd l b l.length) := by
  unfold m_impl_deedsFor
  have h := loop_all (m_impl_deedsFor_l1 kd l b) (fun k => (forOf kd l b k, (k : Int))) l.length (some (forOf kd l b l.length)) (by omega) (fun k fuel hk => ?_) (fun fuel => ?_)
  · rw [show (([] : List (Int × Int × Int)), (0 : Int)) = (forOf kd l b 0, ((0 : Nat) : Int)) from rfl, h]; rfl
  · rw [e_impl_deedsFor_l1, m_impl_deedsFor_l1s]
    have hb := for_len kd l b k
    have ha : apB (forOf kd l b k).length 1 = true := by simp [apB]; omega
    simp only [lt_dec hk, ix_dec hk, chk_true, cond_true, Int.toNat_natCast, List.length_singleton, ha, w64_succ (by omega : k < 4611686018427387904)]
    simp only [forOf]
    cases (l.getD k false == b) <;> rfl
  · rw [e_impl_deedsFor_l1, m_impl_deedsFor_l1s]; simp only [nlt_dec, cond_false]
end
end Go.Proofs.YtnplecoikgnpkaaGreatDoor
namespace Go.Proofs.YtnplecoikgnpkaaGreatDoor
set_option linter.unusedVariables false
set_option linter.unusedSimpArgs false
set_option linter.unusedSectionVars false
def ddOf (d : Int × Bool) : Dd := (bif d.2 then (0 : Int) else 1, d.1, 0)
theorem steps_rest (on : List Bool) (x : Option (List Bool)) : (restO on x).1.map ddOf = stepsTo on x := by
  cases x with
  | none => rfl
  | some y =>
    show (ordTo on y).map ddOf = offsTo on y on.length ++ onsTo on y on.length
    unfold ordTo offsTo onsTo
    rw [List.map_append, List.map_map, List.map_map]; rfl
theorem rest_len (on : List Bool) (x : Option (List Bool)) : (restO on x).1.length ≤ 2 * on.length := by
  cases x with
  | none => simp [restO]
  | some y =>
    have a := List.length_filter_le (fun i => on.getD i false && !y.getD i false) (List.range on.length)
    have b := List.length_filter_le (fun i => y.getD i false && !on.getD i false) (List.range on.length)
    rw [List.length_range] at a b
    simp only [restO, ordTo, List.length_append, List.length_map]
    omega
theorem fix_snoc (earth : List Bool) (br : List Int) {k : Nat} (hk : k < br.length) : fixOf earth (br.take (k + 1)) = fixOf earth (br.take k) ++ ((if earth.getD (br.getD k 0).toNat false then [] else [(2, br.getD k 0, 0)]) ++ [(4, br.getD k 0, 0), (7, br.getD k 0, 0), (5, br.getD k 0, 0)]) := by
  rw [List.take_succ_eq_append_getElem hk, ← getD_ge hk (d := 0)]
  unfold fixOf
  rw [List.flatMap_append]; simp
theorem earthd_snoc (earth : List Bool) (br : List Int) {k : Nat} (hk : k < br.length) : earthd earth (br.take (k + 1)) = (earthd earth (br.take k)).set (br.getD k 0).toNat true := by
  rw [List.take_succ_eq_append_getElem hk, ← getD_ge hk (d := 0)]
  unfold earthd
  rw [List.foldl_append]; rfl
theorem fixlen (earth : List Bool) : ∀ br : List Int, (fixOf earth br).length ≤ 4 * br.length
  | [] => by simp [fixOf]
  | l :: br => by
    have := fixlen earth br
    rw [fix_len]
    simp only [List.length_append, List.length_cons, List.length_nil]
    split <;> simp <;> omega
theorem earthd_keep : ∀ (br : List Int) (earth : List Bool) (m : Nat), (∀ x ∈ br, x.toNat ≠ m) → (earthd earth br).getD m false = earth.getD m false
  | [], _, _, _ => rfl
  | l :: br, earth, m, h => by
    show (earthd (earth.set l.toNat true) br).getD m false = _
    rw [earthd_keep br _ m fun x hx => h x (List.mem_cons_of_mem _ hx)]
    have := h l List.mem_cons_self
    simp [List.getD, List.getElem?_set_ne this]
theorem earthd_get : ∀ (br : List Int) (earth : List Bool) (k : Nat), (∀ x ∈ br, 0 ≤ x ∧ x < (earth.length : Int)) → (earthd earth br).getD k false = (earth.getD k false || decide ((k : Int) ∈ br))
  | [], _, _, _ => by simp [earthd]
  | l :: br, earth, k, h => by
    show (earthd (earth.set l.toNat true) br).getD k false = _
    have hl := h l List.mem_cons_self
    rw [earthd_get br _ k fun x hx => by rw [List.length_set]; exact h x (List.mem_cons_of_mem _ hx)]
    by_cases e : (k : Int) = l
    · have e2 : l.toNat = k := by omega
      have : (earth.set l.toNat true).getD k false = true := by rw [e2]; simp [List.getD, show k < earth.length by omega]
      rw [this]; simp [e]
    · have e2 : l.toNat ≠ k := by omega
      have : (earth.set l.toNat true).getD k false = earth.getD k false := by simp [List.getD, List.getElem?_set_ne e2]
      rw [this]; simp [e]
theorem sor_low {br : List Int} (h : br.Pairwise (· < ·)) (h0 : ∀ x ∈ br, 0 ≤ x) : ∀ k, k < br.length → (k : Int) ≤ br.getD k 0
  | 0, hk => h0 _ (by rw [getD_ge hk]; exact List.getElem_mem hk)
  | k + 1, hk => by
    have := sor_low h h0 k (by omega)
    have := adj_of_sorted h hk
    omega
theorem br_len {w : Wd} (h : WdOk w) : w.br.length ≤ w.on.length := by
  cases hb : w.br.length with
  | zero => omega
  | succ n =>
    have h1 := sor_low h.sor (fun x hx => (h.inn x hx).1.1) n (by omega)
    have h2 := (h.inn (w.br.getD n 0) (by rw [getD_ge (show n < w.br.length by omega)]; exact List.getElem_mem _)).1.2
    omega
theorem sor_ne {br : List Int} (h : br.Pairwise (· < ·)) (h0 : ∀ x ∈ br, 0 ≤ x) {k : Nat} (hk : k < br.length) : ∀ x ∈ br.take k, x.toNat ≠ (br.getD k 0).toNat := by
  intro x hx e
  have hk0 := h0 (br.getD k 0) (by rw [getD_ge hk]; exact List.getElem_mem hk)
  have hx0 := h0 x (List.mem_of_mem_take hx)
  have h2 : (br.take k ++ br.drop k).Pairwise (· < ·) := by rw [List.take_append_drop]; exact h
  have := (List.pairwise_append.1 h2).2.2 x hx (br.getD k 0) (by rw [List.drop_eq_getElem_cons hk, getD_ge hk]; exact List.mem_cons_self)
  omega
theorem iSteps (p : List (Int × Bool) × Bool) (L : List Dd) (h : L.length + p.1.length ≤ 1048576) : m_impl_HealDeeds_l3 p FUEL (L, 0) = some (L ++ p.1.map ddOf) := by
  have hh := loop_all (m_impl_HealDeeds_l3 p) (fun k => (L ++ (p.1.take k).map ddOf, (k : Int))) p.1.length (some (L ++ p.1.map ddOf)) (by omega) (fun k fuel hk => ?_) (fun fuel => ?_)
  · simpa using hh
  · rw [e_impl_HealDeeds_l3, m_impl_HealDeeds_l3s]
    have ap : ∀ x : Dd, apB (L ++ (p.1.take k).map ddOf).length ([x] : List Dd).length = true := fun x => ap_small (by simp only [List.length_append, List.length_map, List.length_take, List.length_singleton]; omega)
    simp only [lt_dec hk, ix_dec hk, cond_true, chk_true, Int.toNat_natCast, ap, w64_succ (by omega : k < 4611686018427387904)]
    rw [List.take_succ_eq_append_getElem hk, ← getD_ge hk (d := ((0, false) : Int × Bool)), List.map_append, List.map_cons, List.map_nil, ← List.append_assoc]
    unfold ddOf
    cases (p.1.getD k ((0, false) : Int × Bool)).2 <;> rfl
  · rw [e_impl_HealDeeds_l3, m_impl_HealDeeds_l3s]; simp only [nlt_dec, cond_false, List.take_length]
theorem sSteps (p : List (Int × Bool) × Bool) (L : List Dd) (h : L.length + p.1.length ≤ 1048576) : m_spec_HealDeeds_l4 p FUEL (L, 0) = some (L ++ p.1.map ddOf) := by
  have hh := loop_all (m_spec_HealDeeds_l4 p) (fun k => (L ++ (p.1.take k).map ddOf, (k : Int))) p.1.length (some (L ++ p.1.map ddOf)) (by omega) (fun k fuel hk => ?_) (fun fuel => ?_)
  · simpa using hh
  · rw [e_spec_HealDeeds_l4, m_spec_HealDeeds_l4s]
    have ap : ∀ x : Dd, apB (L ++ (p.1.take k).map ddOf).length ([x] : List Dd).length = true := fun x => ap_small (by simp only [List.length_append, List.length_map, List.length_take, List.length_singleton]; omega)
    simp only [lt_dec hk, ix_dec hk, cond_true, chk_true, Int.toNat_natCast, ap, w64_succ (by omega : k < 4611686018427387904)]
    rw [List.take_succ_eq_append_getElem hk, ← getD_ge hk (d := ((0, false) : Int × Bool)), List.map_append, List.map_cons, List.map_nil, ← List.append_assoc]
    unfold ddOf
    cases (p.1.getD k ((0, false) : Int × Bool)).2 <;> rfl
  · rw [e_spec_HealDeeds_l4, m_spec_HealDeeds_l4s]; simp only [nlt_dec, cond_false, List.take_length]
theorem iThree (br : List Int) (p : List Dd × List Bool × Int) (L : List Dd) (h : L.length ≤ 1048576) : m_impl_HealDeeds_l2 br p FUEL (L, 0) = some (L ++ [(4, br.getD p.2.2.toNat 0, 0), (7, br.getD p.2.2.toNat 0, 0), (5, br.getD p.2.2.toNat 0, 0)]) := by
  have hh := loop_all (m_impl_HealDeeds_l2 br p) (fun k => (L ++ (([4, 7, 5] : List Int).take k).map (fun kd => (kd, br.getD p.2.2.toNat 0, 0)), (k : Int))) 3 (some (L ++ [(4, br.getD p.2.2.toNat 0, 0), (7, br.getD p.2.2.toNat 0, 0), (5, br.getD p.2.2.toNat 0, 0)])) (by omega) (fun k fuel hk => ?_) (fun fuel => ?_)
  · simpa using hh
  · rw [e_impl_HealDeeds_l2, m_impl_HealDeeds_l2s]
    have ap : ∀ x : Dd, apB (L ++ (([4, 7, 5] : List Int).take k).map (fun kd => (kd, br.getD p.2.2.toNat 0, (0 : Int)))).length ([x] : List Dd).length = true := fun x => ap_small (by simp only [List.length_append, List.length_map, List.length_take, List.length_singleton]; omega)
    have hlt : ltB (k : Int) 3 = true := decide_eq_true (by omega)
    have hix : ixB (k : Int) 3 = true := ix_dec hk
    simp only [hlt, hix, cond_true, chk_true, Int.toNat_natCast, ap, w64_succ (by omega : k < 4611686018427387904)]
    have : k = 0 ∨ k = 1 ∨ k = 2 := by omega
    rcases this with rfl | rfl | rfl <;> simp
  · rw [e_impl_HealDeeds_l2, m_impl_HealDeeds_l2s]; rfl
section
variable {earth : List Bool} {br : List Int} (hs : br.Pairwise (· < ·)) (hi : ∀ x ∈ br, 0 ≤ x ∧ x < (earth.length : Int)) (hb : br.length ≤ 1000) (L : List Dd) (hL : L.length ≤ 1000)
include hs hi hb hL
theorem iFix : m_impl_HealDeeds_l1 br earth FUEL (L, earth, 0) = some (L ++ fixOf earth br, earthd earth br) := by
  have hh := loop_all (m_impl_HealDeeds_l1 br earth) (fun k => (L ++ fixOf earth (br.take k), earthd earth (br.take k), (k : Int))) br.length (some (L ++ fixOf earth br, earthd earth br)) (by omega) (fun k fuel hk => ?_) (fun fuel => ?_)
  · simpa [fixOf, earthd] using hh
  · rw [e_impl_HealDeeds_l1, m_impl_HealDeeds_l1s]
    have hg := hi (br.getD k 0) (by rw [getD_ge hk]; exact List.getElem_mem hk)
    have hix : ixB (br.getD k 0) earth.length = true := by simp only [ixB, Bool.and_eq_true, decide_eq_true_eq]; omega
    have hfl := fixlen earth (br.take k)
    have htl : (br.take k).length ≤ k := by rw [List.length_take]; omega
    have hkeep := earthd_keep (br.take k) earth (br.getD k 0).toNat (sor_ne hs (fun x hx => (hi x hx).1) hk)
    have ap : ∀ x : Dd, apB (L ++ fixOf earth (br.take k)).length ([x] : List Dd).length = true := fun x => ap_small (by simp only [List.length_append, List.length_singleton]; omega)
    simp only [lt_dec hk, ix_dec hk, cond_true, chk_true, Int.toNat_natCast, hix, ap, w64_succ (by omega : k < 4611686018427387904)]
    rw [hkeep, fix_snoc earth br hk, earthd_snoc earth br hk]
    cases he : earth.getD (br.getD k 0).toNat false
    · simp only [cond_false, Option.bind_some, Bool.false_eq_true, if_false]
      rw [iThree _ _ _ (by simp only [List.length_append, List.length_singleton]; omega)]
      simp only [Option.bind_some, Int.toNat_natCast, List.append_assoc]
    · simp only [cond_true, Option.bind_some, if_true]
      rw [iThree _ _ _ (by simp only [List.length_append]; omega), set_true_self (hkeep.trans he)]
      simp only [Option.bind_some, Int.toNat_natCast, List.append_assoc, List.nil_append]
  · rw [e_impl_HealDeeds_l1, m_impl_HealDeeds_l1s]; simp only [nlt_dec, cond_false, List.take_length]
theorem sFix : m_spec_HealDeeds_l2 earth br FUEL (L, 0) = some (L ++ fixOf earth br) := by
  have hh := loop_all (m_spec_HealDeeds_l2 earth br) (fun k => (L ++ fixOf earth (br.take k), (k : Int))) br.length (some (L ++ fixOf earth br)) (by omega) (fun k fuel hk => ?_) (fun fuel => ?_)
  · simpa [fixOf] using hh
  · rw [e_spec_HealDeeds_l2, m_spec_HealDeeds_l2s]
    have hg := hi (br.getD k 0) (by rw [getD_ge hk]; exact List.getElem_mem hk)
    have hix : ixB (br.getD k 0) earth.length = true := by simp only [ixB, Bool.and_eq_true, decide_eq_true_eq]; omega
    have hfl := fixlen earth (br.take k)
    have htl : (br.take k).length ≤ k := by rw [List.length_take]; omega
    have ap : ∀ x : Dd, apB (L ++ fixOf earth (br.take k)).length ([x] : List Dd).length = true := fun x => ap_small (by simp only [List.length_append, List.length_singleton]; omega)
    have ap3 : ∀ x y z : Dd, apB (L ++ fixOf earth (br.take k)).length ([x, y, z] : List Dd).length = true := fun x y z => ap_small (by simp only [List.length_append, List.length_cons, List.length_nil]; omega)
    have ap4 : ∀ t x y z : Dd, apB (L ++ fixOf earth (br.take k) ++ [t]).length ([x, y, z] : List Dd).length = true := fun t x y z => ap_small (by simp only [List.length_append, List.length_cons, List.length_nil]; omega)
    simp only [lt_dec hk, ix_dec hk, cond_true, chk_true, Int.toNat_natCast, hix, ap, w64_succ (by omega : k < 4611686018427387904)]
    rw [fix_snoc earth br hk]
    cases he : earth.getD (br.getD k 0).toNat false
    · simp only [cond_false, Option.bind_some, Bool.false_eq_true, if_false, ap4, chk_true]
      simp only [List.append_assoc]
    · simp only [cond_true, Option.bind_some, if_true, ap3, chk_true, List.append_assoc, List.nil_append]
  · rw [e_spec_HealDeeds_l2, m_spec_HealDeeds_l2s]; simp only [nlt_dec, cond_false, List.take_length]
theorem sEarth (on : List Bool) (hl : earth.length = on.length) (ho : on.length ≤ 1000) : m_spec_HealDeeds_l3 on earth br FUEL (L, 0) = some (L ++ forOf 3 (earthd earth br) true on.length) := by
  have hh := loop_all (m_spec_HealDeeds_l3 on earth br) (fun k => (L ++ forOf 3 (earthd earth br) true k, (k : Int))) on.length (some (L ++ forOf 3 (earthd earth br) true on.length)) (by omega) (fun k fuel hk => ?_) (fun fuel => ?_)
  · simpa [forOf] using hh
  · rw [e_spec_HealDeeds_l3, m_spec_HealDeeds_l3s]
    have hfl := for_len 3 (earthd earth br) true k
    have ap : ∀ x : Dd, apB (L ++ forOf 3 (earthd earth br) true k).length ([x] : List Dd).length = true := fun x => ap_small (by simp only [List.length_append, List.length_singleton]; omega)
    have hg := earthd_get br earth k hi
    simp only [lt_dec hk, ix_dec (show k < earth.length by omega), cond_true, chk_true, Int.toNat_natCast, sHas br _ (by omega), ap, w64_succ (by omega : k < 4611686018427387904), forOf, hg]
    cases earth.getD k false
    · simp only [Bool.not_false, gb_true, Option.bind_some, Bool.false_or]
      cases decide ((k : Int) ∈ br)
      · rfl
      · simp only [cond_true, Option.bind_some, beq_self_eq_true, if_true, List.append_assoc]
    · simp only [Bool.not_true, gb_false, Option.bind_some, Bool.true_or, cond_true, beq_self_eq_true, if_true, List.append_assoc]
  · rw [e_spec_HealDeeds_l3, m_spec_HealDeeds_l3s]; simp only [nlt_dec, cond_false]
end
theorem sRets (pm : Pm) (hp : pm.length ≤ 1000) : m_spec_HealDeeds_l1 pm FUEL (([] : List Dd), 0) = some (retsOf pm) := by
  have h := loop_all (m_spec_HealDeeds_l1 pm) (fun k => (retsOf (pm.take k), (k : Int))) pm.length (some (retsOf pm)) (by omega) (fun k fuel hk => ?_) (fun fuel => ?_)
  · rw [show (([] : List (Int × Int × Int)), (0 : Int)) = (retsOf (pm.take 0), ((0 : Nat) : Int)) from rfl, h]
  · rw [e_spec_HealDeeds_l1, m_spec_HealDeeds_l1s]
    have ha : ∀ x : Dd, apB (retsOf (pm.take k)).length ([x] : List Dd).length = true := fun x => ap_small (by simp only [retsOf, List.length_map, List.length_take, List.length_singleton]; omega)
    simp only [lt_dec hk, ix_dec hk, chk_true, cond_true, Int.toNat_natCast, ha, w64_succ (by omega : k < 4611686018427387904)]
    rw [rets_take hk]
  · rw [e_spec_HealDeeds_l1, m_spec_HealDeeds_l1s]; simp only [nlt_dec, cond_false, List.take_length]
theorem heal_len {w : Wd} (h : WdOk w) : (healP w).length ≤ 1000 := by
  have h1 := br_len h
  have h2 := fixlen w.earth w.br
  have h3 := for_len 3 (earthd w.earth w.br) true w.on.length
  have h4 := rest_len w.on (bestP w.ls w.on w.pts)
  have h5 := h.work.lp
  have h6 := h.work.l1
  have h7 : (stepsTo w.on (bestP w.ls w.on w.pts)).length = (restO w.on (bestP w.ls w.on w.pts)).1.length := by rw [← steps_rest, List.length_map]
  simp only [Wd.wk] at h5 h6
  simp only [healP, List.length_append, retsOf, List.length_map, h7]
  omega
section
variable (b : Int) (ls : List Ln) (pts : List (Int × Int)) (on earth : List Bool) (pm : Pm) (br : List Int) (hp : pts.length ≤ 1048576) (ho : on.length ≤ 1048576) (hm : pm.length ≤ 1048576) (hb : br.length ≤ 1048576)
include hp ho hm hb
theorem iHeal : m_impl_HealDeeds b ls pts on earth pm br = some (if wv ⟨b, ls, pts, on, earth, pm, br⟩ then healP ⟨b, ls, pts, on, earth, pm, br⟩ else []) := by
  unfold m_impl_HealDeeds
  rw [iWv b ls pts on earth pm br hp ho hm hb, Option.bind_some]
  cases hv : wv ⟨b, ls, pts, on, earth, pm, br⟩
  · rfl
  have hw := wv_iff.1 hv
  have hbl := br_len hw
  have hlp := hw.bus.lp
  have w0 := hw.work.l0; have w1 := hw.work.l1; have we := hw.work.le; have wp := hw.work.lp; have hlen := hw.len
  have hin := hw.inn; have hsor := hw.sor
  simp only [Wd.wk] at w0 w1 we wp
  dsimp only at hlp hbl hlen hin hsor
  subst hlp
  have h01 : 1 ≤ ls.length := by omega
  have hel := earthd_len br earth
  have hfl := fixlen earth br
  have hol := for_len 3 (earthd earth br) true earth.length
  have hrl := rest_len on (bestP ls on pts)
  have hrt : (retsOf pm).length = pm.length := by simp [retsOf]
  have a1 : apB ([] : List Bool).length earth.length = true := ap_small (by simp only [List.length_nil]; omega)
  have a2 : apB (retsOf pm ++ fixOf earth br).length (forOf 3 (earthd earth br) true earth.length).length = true := ap_small (by simp only [List.length_append]; omega)
  simp only [cond_true, iRets (on, earth, pm) (show pm.length ≤ 1000 by omega), m_slices_Clone_bool_bool, a1, chk_true, Option.bind_some, if_true]
  rw [iFix hsor (fun x hx => by have := (hin x hx).1; omega) (by omega) _ (by omega), Option.bind_some]
  dsimp only
  rw [iFor 3 (earthd earth br) true (by omega), Option.bind_some, hel, a2, chk_true, iRestore ⟨hw.bus.net, hlen⟩ hw.bus h01, Option.bind_some, iSteps _ _ (by simp only [List.length_append]; omega), Option.bind_some, steps_rest]
  simp only [healP, we]
theorem sHeal : m_spec_HealDeeds b ls pts on earth pm br = some (if wv ⟨b, ls, pts, on, earth, pm, br⟩ then healP ⟨b, ls, pts, on, earth, pm, br⟩ else []) := by
  unfold m_spec_HealDeeds
  rw [sWv b ls pts on earth pm br hp ho hm hb, Option.bind_some]
  cases hv : wv ⟨b, ls, pts, on, earth, pm, br⟩
  · rfl
  have hw := wv_iff.1 hv
  have hbl := br_len hw
  have hlp := hw.bus.lp
  have w0 := hw.work.l0; have w1 := hw.work.l1; have we := hw.work.le; have wp := hw.work.lp; have hlen := hw.len
  have hin := hw.inn; have hsor := hw.sor
  simp only [Wd.wk] at w0 w1 we wp
  dsimp only at hlp hbl hlen hin hsor
  subst hlp
  have h01 : 1 ≤ ls.length := by omega
  have hfl := fixlen earth br
  have hol := for_len 3 (earthd earth br) true on.length
  have hrl := rest_len on (bestP ls on pts)
  have hrt : (retsOf pm).length = pm.length := by simp [retsOf]
  have hi2 : ∀ x ∈ br, 0 ≤ x ∧ x < (earth.length : Int) := fun x hx => by have := (hin x hx).1; omega
  rw [cond_true, sRets pm (by omega), Option.bind_some, sFix hsor hi2 (by omega) _ (by omega), Option.bind_some, sEarth hsor hi2 (by omega) _ (by simp only [List.length_append]; omega) on we (by omega), Option.bind_some, sRestore ⟨hw.bus.net, hlen⟩ hw.bus h01, Option.bind_some, sSteps _ _ (by simp only [List.length_append]; omega), Option.bind_some, steps_rest]
  rfl
end
end Go.Proofs.YtnplecoikgnpkaaGreatDoor
namespace Go.Proofs.YtnplecoikgnpkaaGreatDoor
set_option linter.unusedVariables false
set_option linter.unusedSimpArgs false
def hdP (w : Wd) : List Dd := if wv w = true then healP w else []
theorem hd_len (w : Wd) : (hdP w).length ≤ 1000 := by
  unfold hdP
  split
  · rename_i h; exact heal_len (wv_iff.1 h)
  · simp
theorem iHeal' {w : Wd} (h : Sm w) : m_impl_HealDeeds w.b w.ls w.pts w.on w.earth w.pm w.br = some (hdP w) := iHeal w.b w.ls w.pts w.on w.earth w.pm w.br h.p h.o h.m h.b
theorem sHeal' {w : Wd} (h : Sm w) : m_spec_HealDeeds w.b w.ls w.pts w.on w.earth w.pm w.br = some (hdP w) := sHeal w.b w.ls w.pts w.on w.earth w.pm w.br h.p h.o h.m h.b
end Go.Proofs.YtnplecoikgnpkaaGreatDoor
namespace Go.Proofs.YtnplecoikgnpkaaGreatDoor
set_option linter.unusedVariables false
set_option linter.unusedSimpArgs false
theorem sameDeeds_eq (a : List (Int × Int × Int)) (hn : a.length ≤ 1048576) : m_laws_sameDeeds a a = some true := by
  unfold m_laws_sameDeeds
  have h := loop_all (m_laws_sameDeeds_l1 a a) (fun k => (k : Int)) a.length (some (.inl ())) (by omega) (fun k fuel hk => by
    rw [e_laws_sameDeeds_l1, m_laws_sameDeeds_l1s]
    simp only [lt_dec hk, ix_dec hk, chk_true, cond_true, Int.toNat_natCast, w64_succ (by omega : k < 4611686018427387904), beq_self_eq_true, Bool.and_self]) (fun fuel => by
    rw [e_laws_sameDeeds_l1, m_laws_sameDeeds_l1s]; simp only [nlt_dec, cond_false])
  simp only [bne_self_eq_false, cond_false]
  rw [show m_laws_sameDeeds_l1 a a FUEL 0 = _ from h]; rfl
theorem drawHeal {x0 : List Int} (h1 : ∀ z ∈ x0, inU z) : Ys (m_spec_DrawHealDeeds x0) fun r => Sm (of7 r) := by
  unfold m_spec_DrawHealDeeds
  exact ys_bind (drawWorld (code_sub h1) (by omega)) fun r hr => ys_some hr.1.sm
theorem door_FnHealDeeds (x0 : List Int) (h0 : x0.length ≤ maxLen) (h1 : ∀ z ∈ x0, inU z) : m_laws_FnHealDeeds x0 = some true := by
  unfold m_laws_FnHealDeeds
  rcases Bool.eq_false_or_eq_true (ltB 1048576 (x0.length : Int)) with h | h <;> rw [h]
  · rfl
  obtain ⟨r, e, hz⟩ := drawHeal h1
  obtain ⟨w, rfl⟩ : ∃ w, r = o7 w := ⟨of7 r, rfl⟩
  have hs : Sm w := hz
  have hl := hd_len w
  rw [e]
  simp only [cond_false, Option.bind_some]
  rw [show m_impl_HealDeeds (o7 w).1 (o7 w).2.1 (o7 w).2.2.1 (o7 w).2.2.2.1 (o7 w).2.2.2.2.1 (o7 w).2.2.2.2.2.1 (o7 w).2.2.2.2.2.2 = _ from iHeal' hs, show m_spec_HealDeeds (o7 w).1 (o7 w).2.1 (o7 w).2.2.1 (o7 w).2.2.2.1 (o7 w).2.2.2.2.1 (o7 w).2.2.2.2.2.1 (o7 w).2.2.2.2.2.2 = _ from sHeal' hs, show m_spec_WorldValid (o7 w).1 (o7 w).2.1 (o7 w).2.2.1 (o7 w).2.2.2.1 (o7 w).2.2.2.2.1 (o7 w).2.2.2.2.2.1 (o7 w).2.2.2.2.2.2 = _ from sWv' w hs]
  have hr := iWorldRun hs (hdP w) (by omega)
  simp only [Option.bind_some]
  rw [sameDeeds_eq _ (by omega), show m_impl_WorldRun (o7 w).1 (o7 w).2.1 (o7 w).2.2.1 (o7 w).2.2.2.1 (o7 w).2.2.2.2.1 (o7 w).2.2.2.2.2.1 (o7 w).2.2.2.2.2.2 (hdP w) = _ from hr]
  cases hv : wv w
  · have : hdP w = [] := by unfold hdP; rw [hv]; rfl
    rw [this]; simp [gb, alive_ok]
  have ok : WdOk w := wv_iff.1 hv
  have e1 : hdP w = healP w := by unfold hdP; rw [if_pos hv]
  rw [e1, heal_run ok]
  simp [o8n]
end Go.Proofs.YtnplecoikgnpkaaGreatDoor
namespace Go.Proofs.YtnplecoikgnpkaaGreatDoor
open Go.ChangeShapes Go.WideShapes Go.ChangeAt Go.RowKit Go.Deep
set_option linter.unusedVariables false
set_option linter.unusedSimpArgs false
set_option maxRecDepth 100000
section
variable {H : Type} {enc : TypeId × Value → H} {w : World} {base : Nat} {spare : Nat → Bool} {held : Bool}
theorem tr5 {fuel : Nat} {cs : List Value} {x : DataW H × List MemPlace} (h : DataW.trod enc Tryz.prog w base spare held fuel 5 cs = some x) :
    ∃ (y0 : Int), cs = [.int .u8 y0] ∧ inU y0 := by
  obtain ⟨n, rfl, _, hw⟩ := DataW.trod_int Tryz.underlying5 h
  exact ⟨n, rfl, u8_bounds hw⟩
theorem tr22 {fuel : Nat} {cs : List Value} {x : DataW H × List MemPlace} (h : DataW.trod enc Tryz.prog w base spare held fuel 22 cs = some x) :
    ∃ (A0 : Option Addr) (y0 : List Int) (k0 : Nat), cs = [.slice A0 y0.length k0] ∧ Rc w 1 A0 y0.length k0 (y0.flatMap eU) ∧ y0.length ≤ maxLen ∧ (∀ z ∈ y0, inU z) := by
  obtain ⟨A, l, cap, e1, e2, e3, e4⟩ := open_list (fun b : {y : Int // inU y} => eU b.1) (size := 1) (fun b => eU_len b.1) (by decide) Tryz.underlying22 (by kernel_rfl) (fun fuel cs x hx => by
    obtain ⟨z0, rfl, g0⟩ := tr5 hx
    exact ⟨⟨z0, g0⟩, rfl⟩) h
  refine ⟨A, l.map (·.1), cap, by simpa using e1, ⟨by simpa [List.flatMap_map] using e2, by simpa using e3⟩, by simpa using Nat.le_trans e3 e4, fun z hz => ?_⟩
  obtain ⟨q, _, rfl⟩ := List.mem_map.1 hz
  exact q.2
theorem op22 {r : Reach} {b0 : Nat} {v : Value} {d : DataW H} {p : List MemPlace} (hval : Value.okWide Tryz.prog w r b0 22 v) (h : DataW.Trod enc Tryz.prog w base spare held 22 v d p) :
    ∃ (A0 : Option Addr) (y0 : List Int) (k0 : Nat), v = .slice A0 y0.length k0 ∧ Rc w 1 A0 y0.length k0 (y0.flatMap eU) ∧ y0.length ≤ maxLen ∧ (∀ z ∈ y0, inU z) := by
  obtain ⟨A', n', k', rfl⟩ := okWide_slice Tryz.underlying22 hval
  obtain ⟨fuel, hf⟩ := h
  obtain ⟨A0, y0, k0, e, w0, w1, w2⟩ := tr22 hf
  simp [Value.cells] at e
  exact ⟨A0, y0, k0, by simp [e], w0, w1, w2⟩
end
end Go.Proofs.YtnplecoikgnpkaaGreatDoor
namespace Go.Proofs.YtnplecoikgnpkaaGreatDoor
open Go.ChangeShapes Go.WideShapes Go.ChangeAt Go.RowKit
theorem own : ownKnob Tryz.prog.godebug = none := by kernel_rfl
theorem laidOut : laidOutB Tryz.prog = true := by kernel_rfl
section
variable {H : Type} {enc : TypeId × Value → H} {P : Program}
theorem trodAll_below (hl : laidOutB P = true) {W W' : World} (hb : Below W.heap.size W W') : ∀ {ts : List TypeId} {vs : List Value} {ds : List (DataW H)} {ps : List MemPlace},
    (ts.all fun t => P.readableRec t && decide (t < P.types.size)) = true → DataW.TrodAll enc P W 0 (fun _ => true) true ts vs ds ps → (∀ x ∈ ps, x.block < W.heap.size) →
    DataW.TrodAll enc P W' 0 (fun b => decide (b < W.heap.size)) true ts vs ds ps
  | [], [], [], _, _, h, _ => h
  | t :: ts, v :: vs, d :: ds, ps, ht, h, hlt => by
    obtain ⟨p, q, h1, h2, rfl⟩ := h
    simp only [List.all_cons, Bool.and_eq_true, decide_eq_true_eq] at ht
    exact ⟨p, q, Below.trod hl ht.1.1 ht.1.2 h1 hb (fun x hx => hlt x (by simp [hx])), trodAll_below hl hb (by simpa using ht.2) h2 (fun x hx => hlt x (by simp [hx])), rfl⟩
theorem law_post {f : Func} {s : ChangeSpec} {W W' : World} {args : Array Value} {ds gs : List (DataW H)} {before : List MemPlace} {tb : TypeId} (hl : laidOutB P = true)
    (hW : DataW.Whole enc P f.params.toList s.vars false W args.toList ds gs before)
    (hts : (f.params.toList.all fun t => P.readableRec t && decide (t < P.types.size)) = true) (hvs : s.vars = []) (hrt : f.resultTypes = #[tb]) (hub : P.underlying tb = some .bool)
    (hfn : s.fn H (ds ++ []) = { results := [.lit (.bool true)], args := ds }) (hb : Below W.heap.size W W') :
    s.post enc P f false true false false W args (.bool true) W' := by
  have hW' := hW
  obtain ⟨p, q, hA, hV, rfl, hfz, hnd⟩ := hW
  rw [hvs] at hV
  obtain ⟨rfl, rfl⟩ := trodVars_none hV
  refine ⟨ds, [], p ++ [], [], p, [], hW', ?_, ?_, ?_, hb.frame _, fun h => by cases h⟩
  · rw [hfn, hrt]
    exact trodAll_cons_mk (shut_bool hub _) trodAll_mk0
  · rw [hfn]
    exact trodAll_below hl hb hts hA (fun x hx => hW'.lt x (by simp [hx]))
  · rw [hfn, hvs]
    rfl
end
end Go.Proofs.YtnplecoikgnpkaaGreatDoor
