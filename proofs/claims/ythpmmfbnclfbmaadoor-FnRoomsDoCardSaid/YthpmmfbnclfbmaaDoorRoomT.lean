/- Rooms: RoomTake. -/
import Derived.Test.YthpmmfbnclfbmaaDoorRoomP
namespace Go.Proofs.YthpmmfbnclfbmaaDoor
set_option linter.unusedVariables false
set_option linter.unusedSimpArgs false

def tkf (kd room : Int) (k : Nat) (a : R3) : Option R3 := if (roomsDo a.1 a.2.1 a.2.2 kd room k).2 then some (roomsDo a.1 a.2.1 a.2.2 kd room k).1 else none
def roomTake (a : R3) (room : Int) : R3 × Bool :=
  if roomsValid a.1 a.2.1 a.2.2 then elimO (fun b => (b, true)) (a, false) ((iterO (tkf 1 room) a.2.2.length a).bind (iterO (tkf 2 room) a.2.2.length)) else ((0, 0, []), false)
theorem tkf_len {kd room : Int} {k : Nat} {a b : R3} (h : tkf kd room k a = some b) : b.2.2.length ≤ a.2.2.length := by
  unfold tkf at h
  split at h
  · injection h with h; subst h; exact doLen _ _ _ _ _ _
  · cases h
theorem iter_len {kd room : Int} : ∀ (n : Nat) {a b : R3}, iterO (tkf kd room) n a = some b → b.2.2.length ≤ a.2.2.length
  | 0, a, b, h => by injection h with h; subst h; exact Nat.le_refl _
  | n + 1, a, b, h => by
    obtain ⟨c, h1, h2⟩ := Option.bind_eq_some_iff.1 h
    exact Nat.le_trans (tkf_len h2) (iter_len n h1)
section
variable (a : R3) (ha : a.2.2.length ≤ 1048576) (room : Int)
include ha
theorem sTake_l2 (q : Int × R3) (b : R3) (hb : b.2.2.length ≤ 1048576) : m_spec_RoomTake_l2 a.1 a.2.1 a.2.2 room q FUEL (0, b) = elimO (fun c => some (.inl c)) (some (.inr (a.1, a.2.1, a.2.2, false))) (iterO (tkf q.1 room) a.2.2.length b) := by
  refine loop_try (m_spec_RoomTake_l2 a.1 a.2.1 a.2.2 room q) (fun k c => ((k : Int), c)) (tkf q.1 room) a.2.2.length (some (.inr (a.1, a.2.1, a.2.2, false))) (fun c => some (.inl c)) (fun c => c.2.2.length ≤ 1048576) (by omega) b hb (fun k c d hc hd => Nat.le_trans (tkf_len hd) hc) (fun k fuel c hk hc => ?_) (fun fuel c hc => ?_)
  · rw [m_spec_RoomTake_l2.eq_2]
    simp only [lt_dec hk, cond_true, w64_succ (by omega : k < 4611686018427387904)]
    rw [sDoP _ _ _ _ _ _ hc, setP _ _ _ _ _ ha]
    simp only [Option.bind_some, out4, tkf]
    cases (roomsDo c.1 c.2.1 c.2.2 q.1 room k).2 <;> rfl
  · rw [m_spec_RoomTake_l2.eq_2]; simp [nlt_dec]
theorem iTake_l2 (q : Int × Int × Int × List Int × Bool) (b : R3) (fl : Bool) (hb : b.2.2.length ≤ 1048576) :
    m_impl_RoomTake_l2 a.1 a.2.1 a.2.2 room q FUEL (0, b.1, b.2.1, b.2.2, fl) = elimO (fun c => some (.inl (c.1, c.2.1, c.2.2, fl || decide (0 < a.2.2.length)))) (some (.inr (a.1, a.2.1, a.2.2, false))) (iterO (tkf (([1, 2] : List Int).getD q.1.toNat (0 : Int)) room) a.2.2.length b) := by
  have key : ∀ (n : Nat) (hn : n ≤ a.2.2.length) (x : R3 × Bool), iterO (fun k (c : R3 × Bool) => (tkf (([1, 2] : List Int).getD q.1.toNat (0 : Int)) room k c.1).map fun d => (d, true)) n x = (iterO (tkf (([1, 2] : List Int).getD q.1.toNat (0 : Int)) room) n x.1).map fun d => (d, x.2 || decide (0 < n)) := by
    intro n
    induction n with
    | zero => intro _ x; simp [iterO]
    | succ n ih =>
      intro hn x
      simp only [iterO]
      rw [ih (by omega)]
      cases iterO (tkf (([1, 2] : List Int).getD q.1.toNat (0 : Int)) room) n x.1 <;> simp
  have h := loop_try (m_impl_RoomTake_l2 a.1 a.2.1 a.2.2 room q) (fun k (c : R3 × Bool) => ((k : Int), c.1.1, c.1.2.1, c.1.2.2, c.2)) (fun k c => (tkf (([1, 2] : List Int).getD q.1.toNat (0 : Int)) room k c.1).map fun d => (d, true)) a.2.2.length (some (.inr (a.1, a.2.1, a.2.2, false))) (fun c => some (.inl (c.1.1, c.1.2.1, c.1.2.2, c.2))) (fun c => c.1.2.2.length ≤ 1048576) (by omega) (b, fl) hb (fun k c d hc hd => ?_) (fun k fuel c hk hc => ?_) (fun fuel c hc => ?_)
  · rw [key _ (Nat.le_refl _)] at h
    rw [show ((0 : Int), b.1, b.2.1, b.2.2, fl) = (((0 : Nat) : Int), b.1, b.2.1, b.2.2, fl) from rfl, h]
    cases iterO (tkf (([1, 2] : List Int).getD q.1.toNat (0 : Int)) room) a.2.2.length b <;> rfl
  · obtain ⟨e, h1, h2⟩ := Option.map_eq_some_iff.1 hd
    subst h2
    exact Nat.le_trans (tkf_len h1) hc
  · rw [m_impl_RoomTake_l2.eq_2]
    simp only [lt_dec hk, cond_true, w64_succ (by omega : k < 4611686018427387904)]
    rw [iDoP _ _ _ _ _ _ hc, cloneP _ _ _ ha]
    simp only [Option.bind_some, out4, tkf]
    cases (roomsDo c.1.1 c.1.2.1 c.1.2.2 (([1, 2] : List Int).getD q.1.toNat (0 : Int)) room k).2 <;> rfl
  · rw [m_impl_RoomTake_l2.eq_2]; simp [nlt_dec]
theorem sTakeP : m_spec_RoomTake a.1 a.2.1 a.2.2 room = some (out4 (roomTake a room)) := by
  unfold m_spec_RoomTake roomTake
  rw [sValidP _ _ _ ha, setP _ _ _ _ _ ha]
  cases roomsValid a.1 a.2.1 a.2.2
  · rfl
  · simp only [Option.bind_some, cond_true, if_true, beq_self_eq_true]
    obtain ⟨n, hfu⟩ : ∃ n, FUEL = n + 3 := ⟨4611686018427387901, rfl⟩
    rw [hfu]
    rw [m_spec_RoomTake_l1.eq_2]
    simp only [show leB 1 2 = true from rfl, cond_true]
    rw [show ((0 : Int), a.1, a.2.1, a.2.2) = ((0 : Int), a) from rfl, sTake_l2 a ha room _ a ha]
    cases h1 : iterO (tkf 1 room) a.2.2.length a with
    | none => rfl
    | some b =>
      have hb := Nat.le_trans (iter_len _ h1) ha
      simp only [elimO, Option.bind_some, Sum.elim_inl]
      rw [m_spec_RoomTake_l1.eq_2]
      simp only [show w64 (1 + 1) = 2 from rfl, show leB 2 2 = true from rfl, cond_true]
      rw [show ((0 : Int), b.1, b.2.1, b.2.2) = ((0 : Int), b) from rfl, sTake_l2 a ha room _ b hb]
      cases h2 : iterO (tkf 2 room) a.2.2.length b with
      | none => rfl
      | some c =>
        simp only [h2, elimO, Option.bind_some, Sum.elim_inl]
        rw [m_spec_RoomTake_l1.eq_2]; rfl
theorem iTakeP : m_impl_RoomTake a.1 a.2.1 a.2.2 room = some (out4 (roomTake a room)) := by
  unfold m_impl_RoomTake roomTake
  rw [iValidP _ _ _ ha]
  cases hv : roomsValid a.1 a.2.1 a.2.2
  · rfl
  · have hok := rooms_ok hv
    have hpos : decide (0 < a.2.2.length) = true := by have := hok.l0; simp; omega
    simp only [Option.bind_some, cond_true, if_true]
    obtain ⟨n, hfu⟩ : ∃ n, FUEL = n + 3 := ⟨4611686018427387901, rfl⟩
    rw [hfu]
    rw [m_impl_RoomTake_l1.eq_2]
    simp only [show ltB 0 2 = true from rfl, show ixB 0 2 = true from rfl, cond_true, chk_true]
    rw [iTake_l2 a ha room _ a _ ha, show ([1, 2] : List Int).getD (0 : Int).toNat (0 : Int) = 1 from rfl]
    cases h1 : iterO (tkf 1 room) a.2.2.length a with
    | none => rfl
    | some b =>
      have hb := Nat.le_trans (iter_len _ h1) ha
      simp only [elimO, Option.bind_some, Sum.elim_inl]
      rw [m_impl_RoomTake_l1.eq_2]
      simp only [show w64 (0 + 1) = 1 from rfl, show ltB 1 2 = true from rfl, show ixB 1 2 = true from rfl, cond_true, chk_true]
      rw [iTake_l2 a ha room _ b _ hb, show ([1, 2] : List Int).getD (1 : Int).toNat (0 : Int) = 2 from rfl]
      cases h2 : iterO (tkf 2 room) a.2.2.length b with
      | none => rfl
      | some c =>
        simp only [h2, elimO, Option.bind_some, Sum.elim_inl]
        rw [m_impl_RoomTake_l1.eq_2]
        simp only [show w64 (1 + 1) = 2 from rfl, show ltB 2 2 = false from rfl, cond_false, Option.bind_some, Sum.elim_inl, hpos, Bool.or_true, chk_true]; rfl
theorem take_len : (roomTake a room).1.2.2.length ≤ 1048576 := by
  unfold roomTake
  split
  · cases h : (iterO (tkf 1 room) a.2.2.length a).bind (iterO (tkf 2 room) a.2.2.length) with
    | none => exact ha
    | some c =>
      obtain ⟨b, h1, h2⟩ := Option.bind_eq_some_iff.1 h
      exact Nat.le_trans (iter_len _ h2) (Nat.le_trans (iter_len _ h1) ha)
  · simp
end
theorem core_ExactRoomTake (x0 x1 : Int) (x2 : List Int) (x3 : Int) (hn : x2.length ≤ 1048576) (_ : inR x0) (_ : inR x1) (_ : ∀ z ∈ x2, inR z) (_ : inR x3) : ∃ r, m_spec_RoomTake x0 x1 x2 x3 = some r ∧ m_impl_RoomTake x0 x1 x2 x3 = some r ∧ r.2.2.1.length ≤ 1048576 :=
  ⟨_, sTakeP (x0, x1, x2) hn x3, iTakeP (x0, x1, x2) hn x3, take_len (x0, x1, x2) hn x3⟩
end Go.Proofs.YthpmmfbnclfbmaaDoor
