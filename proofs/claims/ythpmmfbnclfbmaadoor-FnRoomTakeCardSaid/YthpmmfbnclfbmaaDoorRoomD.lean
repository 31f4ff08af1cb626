/- The laws of laws.go on rooms, in plain Lean. -/
import Derived.Test.YthpmmfbnclfbmaaDoorRoomT
import Derived.Test.YthpmmfbnclfbmaaDoorSm
namespace Go.Proofs.YthpmmfbnclfbmaaDoor
set_option linter.unusedVariables false
set_option linter.unusedSimpArgs false

def Ok3 (a : R3) : Prop := RoomsOk a.1 a.2.1 a.2.2
/-- Nothing is less than before. -/
def Up (a b : R3) : Prop := a.1 ≤ b.1 ∧ a.2.1 ≤ b.2.1 ∧ b.2.2.length = a.2.2.length ∧ ∀ k, a.2.2.getD k 0 ≤ b.2.2.getD k 0
theorem Up.refl (a : R3) : Up a a := ⟨Int.le_refl _, Int.le_refl _, rfl, fun _ => Int.le_refl _⟩
theorem Up.trans {a b c : R3} (h : Up a b) (k : Up b c) : Up a c := ⟨Int.le_trans h.1 k.1, Int.le_trans h.2.1 k.2.1, k.2.2.1.trans h.2.2.1, fun i => Int.le_trans (h.2.2.2 i) (k.2.2.2 i)⟩
theorem getD_set_ne {α : Type} {l : List α} {i j : Nat} {y d : α} (h : i ≠ j) : (l.set i y).getD j d = l.getD j d := by simp [List.getD, List.getElem?_set_ne h]
theorem step_up {f s : Int} {xs : List Int} {kd room st : Int} {r : R3} (he : roomsStep f s xs kd room st = some r) : Up (f, s, xs) r := by
  have hput : ∀ n : Int, roomOwn f s room ≤ n → ∀ q : R3, (if n ≤ 99 then some (if room == 0 then (n, s, xs) else (f, n, xs)) else none) = some q → Up (f, s, xs) q := by
    intro n hn q hq
    by_cases h : n ≤ 99
    · rw [if_pos h] at hq
      injection hq with hq
      subst hq
      unfold roomOwn at hn
      cases hr : room == 0 <;> rw [hr] at hn
      · exact ⟨Int.le_refl _, by simpa using hn, rfl, fun _ => Int.le_refl _⟩
      · exact ⟨by simpa using hn, Int.le_refl _, rfl, fun _ => Int.le_refl _⟩
    · rw [if_neg h] at hq; cases hq
  by_cases hk0 : kd = 0
  · rw [step_claim hk0] at he
    exact hput _ (by omega) _ he
  by_cases hst : st < 0 ∨ (xs.length : Int) ≤ st
  · rw [step_out hk0 hst] at he; cases he
  by_cases hk1 : kd = 1
  · rw [step_learn hk1 hst] at he
    exact hput _ (by split <;> omega) _ he
  by_cases hk2 : kd = 2
  · rw [step_tell hk2 hst] at he
    injection he with he
    subst he
    refine ⟨Int.le_refl _, Int.le_refl _, List.length_set, fun k => ?_⟩
    dsimp only
    by_cases hk : st.toNat = k
    · subst hk
      have hl : st.toNat < xs.length := by omega
      rw [getD_set hl]; omega
    · rw [getD_set_ne hk]; exact Int.le_refl _
  · rw [step_none hk0 hk1 hk2] at he; cases he
theorem rdo_ok {f s : Int} {xs : List Int} (kd room st : Int) (h : RoomsOk f s xs) : Ok3 (roomsDo f s xs kd room st).1 ∧ Up (f, s, xs) (roomsDo f s xs kd room st).1 ∧ ((roomsDo f s xs kd room st).2 = false → (roomsDo f s xs kd room st).1 = (f, s, xs)) := by
  have hv := rooms_mk h
  cases hr : inB room 0 1
  · rw [rdo_room hv hr]; exact ⟨h, Up.refl _, fun _ => rfl⟩
  cases hs : roomsStep f s xs kd room st with
  | none => rw [rdo_none hv hs]; exact ⟨h, Up.refl _, fun _ => rfl⟩
  | some r => rw [rdo_some hv hr hs]; exact ⟨rooms_step h hr hs, step_up hs, fun h => by cases h⟩
theorem fold_ok (l : List (Int × Int × Int)) : ∀ a : R3, Ok3 a → Ok3 (l.foldl rdo3 a) ∧ Up a (l.foldl rdo3 a) := by
  induction l with
  | nil => intro a h; exact ⟨h, Up.refl _⟩
  | cons d l ih =>
    intro a h
    have h1 := rdo_ok d.1 d.2.1 d.2.2 (f := a.1) (s := a.2.1) (xs := a.2.2) h
    have h2 := ih (rdo3 a d) h1.1
    exact ⟨h2.1, h1.2.1.trans h2.2⟩

/-! Who may command. -/
def mayR (a : R3) (room : Int) : Bool := roomsValid a.1 a.2.1 a.2.2 && inB room 0 1 && decide (a.2.2.length < 2 * a.2.2.countP (· == roomOwn a.1 a.2.1 room))
theorem iMay (a : R3) (room : Int) (hn : a.2.2.length ≤ 1048576) : m_impl_RoomMay a.1 a.2.1 a.2.2 room = some (mayR a room) := by
  unfold m_impl_RoomMay mayR
  rw [iValidP _ _ _ hn, bitP]
  cases hv : roomsValid a.1 a.2.1 a.2.2
  · simp [gb]
  cases hr : inB room 0 1
  · simp [gb]
  have h := loop_all (m_impl_RoomMay_l1 a.1 a.2.1 a.2.2 room) (fun k => (((a.2.2.take k).countP (· == roomOwn a.1 a.2.1 room) : Nat), (k : Int))) a.2.2.length (some ((a.2.2.countP (· == roomOwn a.1 a.2.1 room) : Nat) : Int)) (by omega) (fun k fuel hk => ?_) (fun fuel => ?_)
  · simp only [List.take_zero, List.countP_nil] at h
    simp only [gb, cond_true, Option.bind_some, Bool.not_true, Bool.not_false, Bool.or_self, cond_false, Bool.true_and]
    rw [show ((0 : Int), (0 : Int)) = (((0 : Nat) : Int), ((0 : Nat) : Int)) from rfl, h]
    have hc := List.countP_le_length (p := (· == roomOwn a.1 a.2.1 room)) (l := a.2.2)
    simp only [Option.bind_some]
    rw [w64_in (by omega) (by omega)]
    congr 1
    simp only [ltB]
    exact decide_eq_decide.2 (by omega)
  · rw [m_impl_RoomMay_l1.eq_2]
    have hc := List.countP_le_length (p := (· == roomOwn a.1 a.2.1 room)) (l := a.2.2.take k)
    have hl : (a.2.2.take k).length = k := by simp; omega
    have e : (bif room == 0 then some (a.2.2.getD k 0 == a.1) else some (a.2.2.getD k 0 == a.2.1)) = some (a.2.2.getD k 0 == roomOwn a.1 a.2.1 room) := by
      unfold roomOwn; cases room == 0 <;> rfl
    simp only [lt_dec hk, ix_dec hk, chk_true, cond_true, Int.toNat_natCast, w64_succ (by omega : k < 4611686018427387904), e, Option.bind_some]
    rw [List.take_succ_eq_append_getElem hk, List.countP_append, ← getD_ge (d := 0) hk, List.countP_singleton]
    cases a.2.2.getD k 0 == roomOwn a.1 a.2.1 room
    · simp
    · rw [w64_succ (by omega)]; simp
  · rw [m_impl_RoomMay_l1.eq_2]; simp [nlt_dec]
theorem count_idx (l : List Int) (p : Int → Bool) : l.countP p = (List.range l.length).countP (fun i => p (l.getD i 0)) := by
  have h : (List.range l.length).map (fun i => l.getD i 0) = l := by
    refine List.ext_getElem (by simp) fun k h1 h2 => ?_
    simp at h1
    simp [List.getD, h1]
  conv => lhs; rw [← h, List.countP_map]
  rfl
theorem both_le (p q : Nat → Bool) : ∀ l : List Nat, (∀ i ∈ l, ¬ (p i = true ∧ q i = true)) → l.countP p + l.countP q ≤ l.length
  | [], _ => by simp
  | x :: l, h => by
    have h1 := both_le p q l fun i hi => h i (by simp [hi])
    have h2 := h x (by simp)
    simp only [List.countP_cons, List.length_cons]
    cases hp : p x <;> cases hq : q x <;> simp_all <;> omega
theorem meet {a b : List Int} {p q : Int → Bool} (hl : b.length = a.length) (h1 : a.length < 2 * a.countP p) (h2 : b.length < 2 * b.countP q) : ∃ i, i < a.length ∧ p (a.getD i 0) = true ∧ q (b.getD i 0) = true := by
  refine Classical.byContradiction fun hc => ?_
  have := both_le (fun i => p (a.getD i 0)) (fun i => q (b.getD i 0)) (List.range a.length) fun i hi hpq => hc ⟨i, by simpa using hi, hpq.1, hpq.2⟩
  rw [count_idx] at h1 h2
  rw [hl] at h2
  simp only [List.length_range] at this
  omega
theorem may_iff {a : R3} {room : Int} : mayR a room = true ↔ roomsValid a.1 a.2.1 a.2.2 = true ∧ (room = 0 ∨ room = 1) ∧ a.2.2.length < 2 * a.2.2.countP (· == roomOwn a.1 a.2.1 room) := by
  simp only [mayR, Bool.and_eq_true, inB_iff, decide_eq_true_eq, and_assoc]
  constructor
  · rintro ⟨h1, h2, h3, h4⟩; exact ⟨h1, by omega, h4⟩
  · rintro ⟨h1, h2, h3⟩; exact ⟨h1, by omega, by omega, h3⟩
theorem own_parity {a : R3} {room : Int} (h : Ok3 a) (hr : room = 0 ∨ room = 1) : roomOwn a.1 a.2.1 room % 2 = room := by
  have := h.f2; have := h.s2
  rcases hr with rfl | rfl <;> simp [roomOwn] <;> omega
theorem may_one {a : R3} (h : mayR a 0 = true) : mayR a 1 = false := by
  cases h1 : mayR a 1
  · rfl
  obtain ⟨v, _, c⟩ := may_iff.1 h
  obtain ⟨_, _, c1⟩ := may_iff.1 h1
  have hok : Ok3 a := rooms_ok v
  obtain ⟨i, _, e1, e2⟩ := meet rfl c c1
  have p0 := own_parity hok (.inl rfl)
  have p1 := own_parity hok (.inr rfl)
  simp only [beq_iff_eq] at e1 e2
  omega
theorem may_between {a y x : R3} {room : Int} (hay : Up a y) (hyx : Up y x) (h : mayR a room = true) (hx : mayR x room = true) (he : roomOwn a.1 a.2.1 room = roomOwn x.1 x.2.1 room) : mayR y (1 - room) = false := by
  cases h1 : mayR y (1 - room)
  · rfl
  obtain ⟨v, hr, c⟩ := may_iff.1 h
  obtain ⟨vx, _, cx⟩ := may_iff.1 hx
  obtain ⟨vy, hr', cy⟩ := may_iff.1 h1
  obtain ⟨i, hi, e1, e2⟩ := meet hay.2.2.1 c cy
  obtain ⟨j, hj, e3, e4⟩ := meet hyx.2.2.1 cy cx
  have u1 := hay.2.2.2 i
  have u2 := hyx.2.2.2 j
  have p0 := own_parity (rooms_ok v) hr
  have p1 := own_parity (rooms_ok vy) hr'
  simp only [beq_iff_eq] at e1 e2 e3 e4
  omega

/-! Draws. -/
theorem deed_ok {b : List Int} (hb : Code b) {p f s : Int} {xs : List Int} (hp : 0 ≤ p ∧ p ≤ 900000) (hx : xs.length ≤ 1000) : Ys (m_spec_l20RoomDeed b p f s xs) fun r => r.2.2.2 = p + 6 := by
  unfold m_spec_l20RoomDeed
  refine ys_then (ys_pick hb (by omega) (by omega) fun v v0 v1 _ => ?_)
  refine ys_chk (by have := v1 (by omega); simp [ixB]; omega) ?_
  refine ys_then (ys_pick hb (by (try dsimp only); omega) (by omega) fun _ _ _ _ => ?_)
  refine ys_then (ys_pick hb (by (try dsimp only); omega) (by omega) fun _ _ _ _ => ?_)
  refine ys_then (ys_pick hb (by (try dsimp only); omega) (by omega) fun _ _ _ _ => ?_)
  refine ys_then (ys_pick hb (by (try dsimp only); omega) (by omega) fun _ _ _ _ => ?_)
  refine ys_then (ys_pick hb (by (try dsimp only); omega) (by omega) fun _ _ _ _ => ?_)
  exact ys_some (by (try dsimp only); omega)
theorem stations_ok {b : List Int} (hb : Code b) {n p : Int} (hn : 1 ≤ n ∧ n ≤ 5) (hp : 0 ≤ p ∧ p ≤ 1000) : Ys (m_spec_l20Rooms_l1 b FUEL (n, p, [])) fun r => (0 ≤ r.1 ∧ r.1 ≤ p + 5) ∧ (1 ≤ r.2.length ∧ r.2.length ≤ 5) ∧ ∀ z ∈ r.2, z = 0 ∨ z = 1 := by
  refine ys_loop (m_spec_l20Rooms_l1 b) (fun s => s.1.toNat) (fun s => (0 ≤ s.1 ∧ s.1 + s.2.2.length = n) ∧ (0 ≤ s.2.1 ∧ s.2.1 + s.1 ≤ p + n) ∧ ∀ z ∈ s.2.2, z = 0 ∨ z = 1) (fun fuel s hs ih => ?_) FUEL _ ⟨by (try dsimp only); simp; omega, by (try dsimp only); omega, by simp⟩ (by (try dsimp only); unfold FUEL; omega)
  obtain ⟨k, q, l⟩ := s
  dsimp only at hs ih ⊢
  obtain ⟨h1, h2, h3⟩ := hs
  rw [m_spec_l20Rooms_l1.eq_2]
  dsimp only
  refine ys_bif (fun hc => ?_) (fun hc => ?_)
  · have hc := ltB_t hc
    refine ys_then (ys_pick hb (by (try dsimp only); omega) (by omega) fun v v0 v1 _ => ?_)
    have v2 := v1 (by omega)
    refine ys_chk (by simp [apB]; omega) ?_
    dsimp only
    rw [wM (n := k - 1) (by omega)]
    refine ih _ ⟨by simp; omega, by (try dsimp only); omega, fun z hz => ?_⟩ (by (try dsimp only); omega)
    rcases List.mem_append.1 hz with hz | hz
    · exact h3 z hz
    · have hz : z = v := by simpa using hz
      omega
  · have hc := ltB_f hc
    exact ys_some ⟨by (try dsimp only); omega, by (try dsimp only); omega, h3⟩
theorem deeds_ok {b : List Int} (hb : Code b) {n p : Int} {a : R3} (hn : 0 ≤ n ∧ n ≤ 20) (hp : 0 ≤ p ∧ p ≤ 1000) (ha : Ok3 a) : Ys (m_spec_l20Rooms_l2 b FUEL (n, p, a)) fun r => (0 ≤ r.1 ∧ r.1 ≤ p + 120) ∧ Ok3 r.2 := by
  refine ys_loop (m_spec_l20Rooms_l2 b) (fun s => s.1.toNat) (fun s => 0 ≤ s.1 ∧ (0 ≤ s.2.1 ∧ s.2.1 + 6 * s.1 ≤ p + 6 * n) ∧ Ok3 s.2.2) (fun fuel s hs ih => ?_) FUEL _ ⟨by (try dsimp only); omega, by (try dsimp only); omega, ha⟩ (by (try dsimp only); unfold FUEL; omega)
  obtain ⟨k, q, f, s, xs⟩ := s
  dsimp only at hs ih ⊢
  obtain ⟨h1, h2, h3⟩ := hs
  have hl : xs.length ≤ 5 := h3.l1
  rw [m_spec_l20Rooms_l2.eq_2]
  dsimp only
  refine ys_bif (fun hc => ?_) (fun hc => ?_)
  · have hc := ltB_t hc
    refine ys_bind (deed_ok hb (by (try dsimp only); omega) (by (try dsimp only); omega)) fun d hd => ?_
    refine ys_then (ys_eq (sDoP _ _ _ _ _ _ (by (try dsimp only); omega)) ?_)
    dsimp only [out4]
    rw [wM (n := k - 1) (by omega)]
    exact ih _ ⟨by (try dsimp only); omega, by (try dsimp only); omega, (rdo_ok _ _ _ h3).1⟩ (by (try dsimp only); omega)
  · have hc := ltB_f hc
    exact ys_some ⟨by (try dsimp only); omega, h3⟩
theorem ok_start {f s : Int} {xs : List Int} (h : (f = 0 ∧ s = 1) ∨ (f = 90 ∧ (s = 93 ∨ s = 97))) (hl : 1 ≤ xs.length ∧ xs.length ≤ 5) (hx : ∀ z ∈ xs, z = 0 ∨ z = 1) : RoomsOk f s xs :=
  ⟨by omega, by omega, by omega, by omega, by omega, by omega, hl.1, hl.2, List.all_eq_true.2 fun z hz => stOk_iff.2 (by have := hx z hz; omega)⟩
theorem drawRooms_ok {b : List Int} (hb : Code b) : Ys (m_spec_l20Rooms b 0 9) fun r => r.2.2.1.length ≤ 5 ∧ (0 ≤ r.2.2.2 ∧ r.2.2.2 ≤ 300) := by
  unfold m_spec_l20Rooms
  refine ys_then (ys_pick hb (by omega) (by omega) fun v v0 v1 _ => ?_)
  refine ys_bind (Q := fun r => (0 ≤ r.1 ∧ r.1 ≤ 3) ∧ ((r.2.1 = 0 ∧ r.2.2 = 1) ∨ (r.2.1 = 90 ∧ (r.2.2 = 93 ∨ r.2.2 = 97)))) ?_ fun r hr => ?_
  · refine ys_bif (fun _ => ?_) (fun _ => ys_some ⟨by (try dsimp only); omega, .inl ⟨rfl, rfl⟩⟩)
    refine ys_then (ys_pick hb (by (try dsimp only); omega) (by omega) fun u u0 u1 _ => ys_some ?_)
    have u2 := u1 (by omega)
    refine ⟨by (try dsimp only); omega, .inr ⟨rfl, ?_⟩⟩
    rcases (show u = 0 ∨ u = 1 ∨ u = 2 by omega) with rfl | rfl | rfl
    · left; rfl
    · left; rfl
    · right; rfl
  obtain ⟨p, f, s⟩ := r
  obtain ⟨hp, hfs⟩ := hr
  dsimp only at hp hfs ⊢
  refine ys_then (ys_pick hb (by (try dsimp only); omega) (by omega) fun v v0 v1 _ => ?_)
  have v2 := v1 (by omega)
  dsimp only
  rw [wM (n := 1 + v) (by omega)]
  refine ys_bind (stations_ok hb (by omega) (by omega)) fun r hr => ?_
  obtain ⟨q, xs⟩ := r
  obtain ⟨hq, hl, hx⟩ := hr
  dsimp only at hq hl hx ⊢
  refine ys_then (ys_pick hb (by (try dsimp only); omega) (by omega) fun v v0 v1 _ => ?_)
  have v2 := v1 (by omega)
  refine ys_bind (deeds_ok hb (a := (f, s, xs)) (by (try dsimp only); omega) (by (try dsimp only); omega) (ok_start hfs hl hx)) fun r hr => ?_
  obtain ⟨q', f', s', xs'⟩ := r
  obtain ⟨hq', hok⟩ := hr
  dsimp only at hq' ⊢
  have l0 : 1 ≤ xs'.length := hok.l0
  have l1 : xs'.length ≤ 5 := hok.l1
  refine ys_then (ys_odd hb (by (try dsimp only); omega) (by omega) fun o => ?_)
  refine ys_bind (Q := fun r => r.2.2.2.length ≤ 5 ∧ (0 ≤ r.1 ∧ r.1 ≤ 300)) ?_ fun r hr => ys_some ⟨hr.1, hr.2⟩
  refine ys_bif (fun _ => ?_) (fun _ => ys_some ⟨l1, by (try dsimp only); omega⟩)
  refine ys_then (ys_pick hb (by (try dsimp only); omega) (by omega) fun v v0 v1 _ => ?_)
  refine ys_bind (Q := fun r => r.2.2.2.length ≤ 5 ∧ (0 ≤ r.1 ∧ r.1 ≤ 300)) ?_ fun r hr => ys_some hr
  refine ys_bif (fun _ => ys_some ⟨l1, by (try dsimp only); omega⟩) (fun _ => ?_)
  refine ys_bind (Q := fun r => r.2.2.length ≤ 5 ∧ (0 ≤ r.1 ∧ r.1 ≤ 300)) ?_ fun r hr => ys_some hr
  refine ys_bif (fun _ => ys_some ⟨by simp, by (try dsimp only); omega⟩) (fun _ => ?_)
  refine ys_bind (Q := fun r => r.2.2.length ≤ 5 ∧ (0 ≤ r.1 ∧ r.1 ≤ 300)) ?_ fun r hr => ys_some hr
  refine ys_bif (fun _ => ?_) (fun _ => ys_some ⟨l1, by (try dsimp only); omega⟩)
  refine ys_then (ys_pick hb (by (try dsimp only); omega) (by omega) fun v v0 v1 _ => ?_)
  have v2 := v1 (by omega)
  refine ys_chk (by simp [ixB]; omega) (ys_chk (by simp [ixB]; omega) (ys_some ⟨by simpa using l1, by (try dsimp only); omega⟩))
theorem drawDo_ok {b : List Int} (hb : ∀ z ∈ b, inU z) : Ys (m_spec_DrawRoomsDo b) fun r => r.2.2.1.length ≤ 5 := by
  unfold m_spec_DrawRoomsDo
  refine ys_bind (drawRooms_ok (code_of hb)) fun r hr => ?_
  refine ys_bind (deed_ok (code_of hb) (by have := hr.2; omega) (by have := hr.1; omega)) fun d _ => ys_some hr.1
theorem drawList_ok {b : List Int} (hb : ∀ z ∈ b, inU z) {r : Int × Int × List Int × Int} (hr : r.2.2.1.length ≤ 5) {n p : Int} (hn : 0 ≤ n ∧ n ≤ 20) (hp : 0 ≤ p ∧ p ≤ 1000) : Ys (m_spec_DrawRoomsRun_l1 b r FUEL ([], n, p)) fun r => r.1.length ≤ 20 := by
  refine ys_loop (m_spec_DrawRoomsRun_l1 b r) (fun s => s.2.1.toNat) (fun s => (0 ≤ s.2.1 ∧ s.2.1 + s.1.length = n) ∧ (0 ≤ s.2.2 ∧ s.2.2 + 6 * s.2.1 ≤ p + 6 * n)) (fun fuel s hs ih => ?_) FUEL _ ⟨by (try dsimp only); simp; omega, by (try dsimp only); omega⟩ (by (try dsimp only); unfold FUEL; omega)
  obtain ⟨l, k, q⟩ := s
  dsimp only at hs ih ⊢
  obtain ⟨h1, h2⟩ := hs
  rw [m_spec_DrawRoomsRun_l1.eq_2]
  dsimp only
  refine ys_bif (fun hc => ?_) (fun hc => ?_)
  · have hc := ltB_t hc
    refine ys_bind (deed_ok (code_of hb) (by (try dsimp only); omega) (by omega)) fun d hd => ?_
    refine ys_chk (by simp [apB]; omega) ?_
    rw [wM (n := k - 1) (by omega)]
    exact ih _ ⟨by simp; omega, by (try dsimp only); omega⟩ (by (try dsimp only); omega)
  · exact ys_some (by (try dsimp only); omega)
theorem drawRun_ok {b : List Int} (hb : ∀ z ∈ b, inU z) : Ys (m_spec_DrawRoomsRun b) fun r => r.2.2.1.length ≤ 5 ∧ r.2.2.2.length ≤ 20 := by
  unfold m_spec_DrawRoomsRun
  refine ys_bind (drawRooms_ok (code_of hb)) fun r hr => ?_
  refine ys_then (ys_pick (code_of hb) (by have := hr.2; omega) (by omega) fun v v0 v1 _ => ?_)
  have v2 := v1 (by omega)
  have hq := hr.2
  refine ys_bind (drawList_ok hb hr.1 (by (try dsimp only); omega) (by (try dsimp only); omega)) fun d hd => ys_some ⟨hr.1, hd⟩
theorem drawTake_ok {b : List Int} (hb : ∀ z ∈ b, inU z) : Ys (m_spec_DrawRoomTake b) fun r => r.2.2.1.length ≤ 5 := by
  unfold m_spec_DrawRoomTake
  refine ys_bind (drawRooms_ok (code_of hb)) fun r hr => ?_
  have hq := hr.2
  refine ys_then (ys_pick (code_of hb) (by omega) (by omega) fun v v0 v1 _ => ?_)
  refine ys_then (ys_pick (code_of hb) (by (try dsimp only); omega) (by omega) fun v v0 v1 _ => ys_some hr.1)

/-! The laws. -/
theorem sameRooms_eq (a b : R3) (ha : a.2.2.length ≤ 1048576) : m_laws_sameRooms a.1 a.2.1 a.2.2 b.1 b.2.1 b.2.2 = some (decide (a = b)) := by
  obtain ⟨f, s, xs⟩ := a
  obtain ⟨f', s', xs'⟩ := b
  dsimp only at ha ⊢
  unfold m_laws_sameRooms
  rw [sameInts_eq _ _ (by omega)]
  by_cases h1 : f = f'
  · by_cases h2 : s = s'
    · simp [h1, h2, gb]
    · have e2 : (s == s') = false := by simpa using h2
      simp [h1, h2, e2, gb]
  · have e1 : (f == f') = false := by simpa using h1
    simp [h1, e1, gb]
theorem door_FnRoomsDo (x0 : List Int) (h0 : x0.length ≤ maxLen) (h1 : ∀ z ∈ x0, inU z) : m_laws_FnRoomsDo x0 = some true := by
  unfold m_laws_FnRoomsDo
  rcases Bool.eq_false_or_eq_true (ltB 1048576 (x0.length : Int)) with h | h <;> rw [h]
  · rfl
  obtain ⟨⟨f, s, xs, kd, room, st⟩, e, hl⟩ := drawDo_ok h1
  dsimp only at hl
  simp only [cond_false, e, Option.bind_some, iDoP f s xs kd room st (by omega), sDoP f s xs kd room st (by omega), out4]
  have hlen : (roomsDo f s xs kd room st).1.2.2.length ≤ 5 := Nat.le_trans (doLen _ _ _ _ _ _) hl
  simp only [sameRooms_eq (roomsDo f s xs kd room st).1 (roomsDo f s xs kd room st).1 (by omega), sameRooms_eq (roomsDo f s xs kd room st).1 (f, s, xs) (by omega), decide_true, Option.bind_some, bne_self_eq_false, Bool.not_true, Bool.or_self, cond_false, iValidP f s xs (by omega), alive_ok]
  cases hv : roomsValid f s xs
  · have hb : roomsDo f s xs kd room st = ((0, 0, []), false) := rdo_bad hv
    simp [hb, gb]
  have hok := rooms_ok hv
  obtain ⟨k1, k2, k3⟩ := rdo_ok kd room st hok
  cases hq : (roomsDo f s xs kd room st).2
  · simp [k3 hq, gb]
  · have hloop : m_laws_FnRoomsDo_l1 (f, s, xs, kd, room, st) ((roomsDo f s xs kd room st).1.1, (roomsDo f s xs kd room st).1.2.1, (roomsDo f s xs kd room st).1.2.2, true) FUEL 0 = some (.inl ()) := by
      have := loop_all (m_laws_FnRoomsDo_l1 (f, s, xs, kd, room, st) ((roomsDo f s xs kd room st).1.1, (roomsDo f s xs kd room st).1.2.1, (roomsDo f s xs kd room st).1.2.2, true)) (fun k => (k : Int)) xs.length (some (.inl ())) (by omega) (fun k fuel hk => ?_) (fun fuel => ?_)
      · simpa using this
      · rw [m_laws_FnRoomsDo_l1.eq_2]
        have hk' : k < (roomsDo f s xs kd room st).1.2.2.length := by rw [k2.2.2.1]; exact hk
        have hle := k2.2.2.2 k
        dsimp only at hle
        simp only [lt_dec hk, ix_dec hk, ix_dec hk', chk_true, cond_true, Int.toNat_natCast, w64_succ (by omega : k < 4611686018427387904)]
        rw [show ltB ((roomsDo f s xs kd room st).1.2.2.getD k 0) (xs.getD k 0) = false from decide_eq_false (by omega)]; rfl
      · rw [m_laws_FnRoomsDo_l1.eq_2]; simp [nlt_dec]
    have e1 : leB f (roomsDo f s xs kd room st).1.1 = true := decide_eq_true k2.1
    have e2 : leB s (roomsDo f s xs kd room st).1.2.1 = true := decide_eq_true k2.2.1
    simp only [cond_true, hloop, Option.bind_some, Sum.elim_inl, iValidP _ _ _ (show (roomsDo f s xs kd room st).1.2.2.length ≤ 1048576 by omega), rooms_mk k1, e1, e2, Bool.and_self]
theorem door_FnRoomsRun (x0 : List Int) (h0 : x0.length ≤ maxLen) (h1 : ∀ z ∈ x0, inU z) : m_laws_FnRoomsRun x0 = some true := by
  unfold m_laws_FnRoomsRun
  rcases Bool.eq_false_or_eq_true (ltB 1048576 (x0.length : Int)) with h | h <;> rw [h]
  · rfl
  obtain ⟨⟨f, s, xs, l⟩, e, hl, hd⟩ := drawRun_ok h1
  dsimp only at hl hd
  have hi := iRunP l (by omega) (f, s, xs) (by (try dsimp only); omega)
  have hs := sRunP l (by omega) (f, s, xs) (by (try dsimp only); omega)
  dsimp only at hi hs
  have hlen := run_len l (f, s, xs) (by (try dsimp only); omega)
  generalize hx : roomsRun (f, s, xs) l = x at *
  simp only [cond_false, e, Option.bind_some, hi, hs, sameRooms_eq x x hlen, decide_true, cond_true, sValidP f s xs (by omega), alive_ok]
  cases hv : roomsValid f s xs
  · have hb : x = (0, 0, []) := by rw [← hx]; simp [roomsRun, hv]
    subst hb
    simp [gb]
  have hok : Ok3 (f, s, xs) := rooms_ok hv
  have hfold : ∀ m : List (Int × Int × Int), roomsRun (f, s, xs) m = m.foldl rdo3 (f, s, xs) := fun m => by simp [roomsRun, hv]
  have hxo := fold_ok l (f, s, xs) hok
  rw [← hfold, hx] at hxo
  have hmx : ∀ room, m_impl_RoomMay x.1 x.2.1 x.2.2 room = some (mayR x room) := fun room => iMay x room hlen
  have hma : ∀ room, m_impl_RoomMay f s xs room = some (mayR (f, s, xs) room) := fun room => iMay (f, s, xs) room (by (try dsimp only); omega)
  have hin : ∀ room : Int, (room = 0 ∨ room = 1) → mayR (f, s, xs) room = true → mayR x room = true → roomOwn f s room = roomOwn x.1 x.2.1 room → m_laws_FnRoomsRun_l2 (f, s, xs, l) room FUEL 0 = some (.inl ()) := by
    intro room hr m1 m2 he
    have := loop_all (m_laws_FnRoomsRun_l2 (f, s, xs, l) room) (fun k => (k : Int)) (l.length + 1) (some (.inl ())) (by omega) (fun k fuel hk => ?_) (fun fuel => ?_)
    · simpa using this
    · rw [m_laws_FnRoomsRun_l2.eq_2]
      have c1 : leB (k : Int) (l.length : Int) = true := decide_eq_true (by omega)
      have c2 : slB 0 (k : Int) l.length = true := decide_eq_true (by omega)
      have c3 : subL l 0 (k : Int) = l.take k := by simp [subL]
      have hi2 := iRunP (l.take k) (by simp; omega) (f, s, xs) (by (try dsimp only); omega)
      have hl2 := run_len (l.take k) (f, s, xs) (by (try dsimp only); omega)
      have ho2 := fold_ok (l.take k) (f, s, xs) hok
      have ho3 := fold_ok (l.drop k) ((l.take k).foldl rdo3 (f, s, xs)) ho2.1
      rw [← List.foldl_append, List.take_append_drop, ← hfold, ← hfold, hx] at ho3
      rw [← hfold] at ho2
      dsimp only at hi2
      have hb := may_between ho2.2 ho3.2 m1 m2 he
      have w1 : w64 (1 - room) = 1 - room := wM (by omega)
      have hmy := iMay (roomsRun (f, s, xs) (l.take k)) (1 - room) hl2
      simp only [c1, c2, c3, cond_true, chk_true, hi2, Option.bind_some, w1, hmy, hb, cond_false, w64_succ (by omega : k < 4611686018427387904)]
    · rw [m_laws_FnRoomsRun_l2.eq_2]
      have c1 : leB ((l.length + 1 : Nat) : Int) (l.length : Int) = false := decide_eq_false (by omega)
      simp only [c1, cond_false]
  have hround : ∀ (fuel : Nat) (room : Int), (room = 0 ∨ room = 1) → m_laws_FnRoomsRun_l1 (f, s, xs, l) x (fuel + 1) room = m_laws_FnRoomsRun_l1 (f, s, xs, l) x fuel (room + 1) := by
    intro fuel room hr
    rw [m_laws_FnRoomsRun_l1.eq_2]
    have c1 : ltB room 2 = true := decide_eq_true (by omega)
    have w1 : w64 (room + 1) = room + 1 := wM (by omega)
    simp only [c1, cond_true, hma, hmx, Option.bind_some, w1]
    cases m1 : mayR (f, s, xs) room
    · simp [gb]
    cases m2 : mayR x room
    · simp [gb]
    by_cases he : roomOwn f s room = roomOwn x.1 x.2.1 room
    · have c2 : ((room == 0 && f != x.1) || (room == 1 && s != x.2.1)) = false := by
        unfold roomOwn at he
        rcases hr with rfl | rfl <;> simp at he <;> simp [he]
      simp only [gb, cond_true, Bool.not_true, Bool.not_false, Option.bind_some, Bool.or_self, Bool.false_or, c2, cond_false, hin room hr m1 m2 he, Sum.elim_inl]
    · have c2 : ((room == 0 && f != x.1) || (room == 1 && s != x.2.1)) = true := by
        unfold roomOwn at he
        rcases hr with rfl | rfl <;> simp at he <;> simp [he]
      simp only [gb, cond_true, Bool.not_true, Bool.not_false, Option.bind_some, Bool.or_self, Bool.false_or, c2, Sum.elim_inl]
  have hall : m_laws_FnRoomsRun_l1 (f, s, xs, l) x FUEL 0 = some (.inl ()) := by
    rw [show FUEL = 4611686018427387903 + 1 from rfl, hround _ 0 (.inl rfl), show (4611686018427387903 : Nat) = 4611686018427387902 + 1 from rfl, hround _ (0 + 1) (.inr rfl), show (4611686018427387902 : Nat) = 4611686018427387901 + 1 from rfl, m_laws_FnRoomsRun_l1.eq_2]
    rfl
  simp only [cond_true, hall, Option.bind_some, Sum.elim_inl, iValidP x.1 x.2.1 x.2.2 hlen, hmx, rooms_mk hxo.1, gb, Bool.true_and]
  cases m0 : mayR x 0
  · simp
  · simp [may_one m0]

/-! RoomTake. -/
theorem tk_some {kd room : Int} {k : Nat} {a b : R3} (ha : Ok3 a) (h : tkf kd room k a = some b) : roomsStep a.1 a.2.1 a.2.2 kd room k = some b ∧ inB room 0 1 = true := by
  unfold tkf at h
  have hv := rooms_mk ha
  cases hr : inB room 0 1
  · rw [rdo_room hv hr] at h; simp at h
  cases hs : roomsStep a.1 a.2.1 a.2.2 kd room k with
  | none => rw [rdo_none hv hs] at h; simp at h
  | some r => rw [rdo_some hv hr (f' := r.1) (s' := r.2.1) (l' := r.2.2) hs] at h; simp at h; exact ⟨by rw [← h], rfl⟩
theorem own_put (f s n room : Int) (xs : List Int) : roomOwn (if room == 0 then (n, s, xs) else (f, n, xs)).1 (if room == 0 then (n, s, xs) else (f, n, xs)).2.1 room = n ∧ (if room == 0 then (n, s, xs) else (f, n, xs)).2.2 = xs := by
  unfold roomOwn; cases room == 0 <;> simp
theorem learn_step {room : Int} {k : Nat} {a b : R3} (ha : Ok3 a) (hk : k < a.2.2.length) (h : tkf 1 room k a = some b) : Ok3 b ∧ b.2.2 = a.2.2 ∧ roomOwn a.1 a.2.1 room ≤ roomOwn b.1 b.2.1 room ∧ a.2.2.getD k 0 ≤ roomOwn b.1 b.2.1 room := by
  obtain ⟨h1, hr⟩ := tk_some ha h
  have hok : Ok3 b := rooms_step ha hr h1
  have hst : ¬ ((k : Int) < 0 ∨ (a.2.2.length : Int) ≤ (k : Int)) := by omega
  rw [step_learn rfl hst, Int.toNat_natCast] at h1
  have hN : roomOwn a.1 a.2.1 room ≤ (if roomOwn a.1 a.2.1 room < a.2.2.getD k 0 then a.2.2.getD k 0 + 1 else roomOwn a.1 a.2.1 room) ∧ a.2.2.getD k 0 ≤ (if roomOwn a.1 a.2.1 room < a.2.2.getD k 0 then a.2.2.getD k 0 + 1 else roomOwn a.1 a.2.1 room) := by split <;> omega
  generalize (if roomOwn a.1 a.2.1 room < a.2.2.getD k 0 then a.2.2.getD k 0 + 1 else roomOwn a.1 a.2.1 room) = N at h1 hN
  by_cases h9 : N ≤ 99
  · rw [if_pos h9] at h1
    injection h1 with h1
    subst h1
    have := own_put a.1 a.2.1 N room a.2.2
    exact ⟨hok, this.2, by rw [this.1]; exact hN.1, by rw [this.1]; exact hN.2⟩
  · rw [if_neg h9] at h1; cases h1
theorem tell_step {room : Int} {k : Nat} {a b : R3} (ha : Ok3 a) (hk : k < a.2.2.length) (h : tkf 2 room k a = some b) : Ok3 b ∧ b.1 = a.1 ∧ b.2.1 = a.2.1 ∧ b.2.2 = a.2.2.set k (max (a.2.2.getD k 0) (roomOwn a.1 a.2.1 room)) := by
  obtain ⟨h1, hr⟩ := tk_some ha h
  have hok : Ok3 b := rooms_step ha hr h1
  have hst : ¬ ((k : Int) < 0 ∨ (a.2.2.length : Int) ≤ (k : Int)) := by omega
  rw [step_tell rfl hst, Int.toNat_natCast] at h1
  injection h1 with h1
  subst h1
  exact ⟨hok, rfl, rfl, rfl⟩
theorem learn_all {room : Int} (a : R3) (ha : Ok3 a) : ∀ (n : Nat) (b : R3), n ≤ a.2.2.length → iterO (tkf 1 room) n a = some b → Ok3 b ∧ b.2.2 = a.2.2 ∧ ∀ k, k < n → a.2.2.getD k 0 ≤ roomOwn b.1 b.2.1 room
  | 0, b, _, h => by injection h with h; subst h; exact ⟨ha, rfl, fun k hk => by omega⟩
  | n + 1, b, hn, h => by
    obtain ⟨c, h1, h2⟩ := Option.bind_eq_some_iff.1 h
    obtain ⟨i1, i2, i3⟩ := learn_all a ha n c (by omega) h1
    obtain ⟨j1, j2, j3, j4⟩ := learn_step i1 (by rw [i2]; omega) h2
    refine ⟨j1, j2.trans i2, fun k hk => ?_⟩
    rcases Nat.lt_succ_iff_lt_or_eq.1 hk with hk | rfl
    · exact Int.le_trans (i3 k hk) j3
    · rw [← i2]; exact j4
theorem tell_all {room : Int} (a : R3) (ha : Ok3 a) (hle : ∀ k, k < a.2.2.length → a.2.2.getD k 0 ≤ roomOwn a.1 a.2.1 room) : ∀ (n : Nat) (b : R3), n ≤ a.2.2.length → iterO (tkf 2 room) n a = some b → Ok3 b ∧ b.1 = a.1 ∧ b.2.1 = a.2.1 ∧ b.2.2.length = a.2.2.length ∧ (∀ k, k < n → b.2.2.getD k 0 = roomOwn a.1 a.2.1 room) ∧ (∀ k, n ≤ k → b.2.2.getD k 0 = a.2.2.getD k 0)
  | 0, b, _, h => by injection h with h; subst h; exact ⟨ha, rfl, rfl, rfl, fun k hk => by omega, fun _ _ => rfl⟩
  | n + 1, b, hn, h => by
    obtain ⟨c, h1, h2⟩ := Option.bind_eq_some_iff.1 h
    obtain ⟨i1, i2, i3, i4, i5, i6⟩ := tell_all a ha hle n c (by omega) h1
    obtain ⟨j1, j2, j3, j4⟩ := tell_step i1 (by rw [i4]; omega) h2
    rw [i2, i3, i6 n (Nat.le_refl _)] at j4
    have hm : max (a.2.2.getD n 0) (roomOwn a.1 a.2.1 room) = roomOwn a.1 a.2.1 room := by have := hle n (by omega); omega
    rw [hm] at j4
    refine ⟨j1, j2.trans i2, j3.trans i3, by rw [j4, List.length_set, i4], fun k hk => ?_, fun k hk => ?_⟩
    · rw [j4]
      by_cases hkn : n = k
      · subst hkn; rw [getD_set (by omega)]
      · rw [getD_set_ne hkn]; exact i5 k (by omega)
    · rw [j4, getD_set_ne (by omega)]; exact i6 k (by omega)
theorem take_all_ok {a : R3} {room : Int} (hv : roomsValid a.1 a.2.1 a.2.2 = true) (h : (roomTake a room).2 = true) :
    ∃ c : R3, (roomTake a room).1 = c ∧ Ok3 c ∧ (room = 0 ∨ room = 1) ∧ c.2.2.length = a.2.2.length ∧ ∀ k, k < c.2.2.length → c.2.2.getD k 0 = roomOwn c.1 c.2.1 room := by
  have ha : Ok3 a := rooms_ok hv
  unfold roomTake at h ⊢
  rw [if_pos hv] at h ⊢
  cases hb : (iterO (tkf 1 room) a.2.2.length a).bind (iterO (tkf 2 room) a.2.2.length) with
  | none => rw [hb] at h; cases h
  | some c =>
    obtain ⟨b, h1, h2⟩ := Option.bind_eq_some_iff.1 hb
    obtain ⟨i1, i2, i3⟩ := learn_all a ha _ b (Nat.le_refl _) h1
    have hr : room = 0 ∨ room = 1 := by
      have hl : 1 ≤ a.2.2.length := ha.l0
      obtain ⟨m, hm⟩ : ∃ m, a.2.2.length = m + 1 := ⟨a.2.2.length - 1, by omega⟩
      rw [hm] at h1
      obtain ⟨q, q1, q2⟩ := Option.bind_eq_some_iff.1 h1
      have qo := (learn_all a ha m q (by omega) q1).1
      have := inB_iff.1 (tk_some qo q2).2
      omega
    obtain ⟨j1, j2, j3, j4, j5, j6⟩ := tell_all b i1 (fun k hk => by rw [i2] at hk ⊢; exact i3 k hk) _ c (by rw [i2]; exact Nat.le_refl _) h2
    refine ⟨c, rfl, j1, hr, by rw [j4, i2], fun k hk => ?_⟩
    rw [j2, j3]
    exact j5 k (by rw [j4, i2] at hk; exact hk)
theorem all_count {l : List Int} {e : Int} (h : ∀ k, k < l.length → l.getD k 0 = e) : l.countP (· == e) = l.length := by
  rw [List.countP_eq_length]
  intro x hx
  obtain ⟨k, hk, rfl⟩ := List.mem_iff_getElem.1 hx
  have := h k hk
  rw [getD_ge hk] at this
  simpa using this
theorem none_count {l : List Int} {e e' : Int} (h : ∀ k, k < l.length → l.getD k 0 = e) (hne : e ≠ e') : l.countP (· == e') = 0 := by
  rw [List.countP_eq_zero]
  intro x hx
  obtain ⟨k, hk, rfl⟩ := List.mem_iff_getElem.1 hx
  have := h k hk
  rw [getD_ge hk] at this
  simp only [beq_iff_eq]
  omega
theorem door_FnRoomTake (x0 : List Int) (h0 : x0.length ≤ maxLen) (h1 : ∀ z ∈ x0, inU z) : m_laws_FnRoomTake x0 = some true := by
  unfold m_laws_FnRoomTake
  rcases Bool.eq_false_or_eq_true (ltB 1048576 (x0.length : Int)) with h | h <;> rw [h]
  · rfl
  obtain ⟨⟨f, s, xs, room⟩, e, hl⟩ := drawTake_ok h1
  dsimp only at hl
  have hi := iTakeP (f, s, xs) (by (try dsimp only); omega) room
  have hs := sTakeP (f, s, xs) (by (try dsimp only); omega) room
  have hlen := take_len (f, s, xs) (by (try dsimp only); omega) room
  dsimp only at hi hs
  simp only [cond_false, e, Option.bind_some, hi, hs, out4]
  simp only [sameRooms_eq (roomTake (f, s, xs) room).1 (roomTake (f, s, xs) room).1 hlen, sameRooms_eq (roomTake (f, s, xs) room).1 (f, s, xs) hlen, decide_true, Option.bind_some, bne_self_eq_false, Bool.not_true, Bool.or_self, cond_false, alive_ok]
  cases hv : roomsValid f s xs
  · have hb : roomTake (f, s, xs) room = ((0, 0, []), false) := by simp [roomTake, hv]
    simp [hb, gb]
  cases hq : (roomTake (f, s, xs) room).2
  · have hb : (roomTake (f, s, xs) room).1 = (f, s, xs) := by
      unfold roomTake at hq ⊢
      rw [if_pos hv] at hq ⊢
      cases hb : (iterO (tkf 1 room) xs.length (f, s, xs)).bind (iterO (tkf 2 room) xs.length) with
      | none => rfl
      | some c => rw [hb] at hq; cases hq
    simp [hb, gb]
  obtain ⟨c, hc, ok, hr, hlc, hall⟩ := take_all_ok (a := (f, s, xs)) hv hq
  rw [hc]
  rw [hc] at hlen
  dsimp only at hlc
  have p0 := own_parity ok hr
  have l0 : 1 ≤ c.2.2.length := ok.l0
  have hst : ∀ k, k < c.2.2.length → Int.tmod (c.2.2.getD k 0) 2 = room := fun k hk => by rw [tm (rooms_st ok hk).1, hall k hk, p0]
  have hloop : m_laws_FnRoomTake_l1 (f, s, xs, room) (c.1, c.2.1, c.2.2, true) FUEL 0 = some (.inl ()) := by
    have := loop_all (m_laws_FnRoomTake_l1 (f, s, xs, room) (c.1, c.2.1, c.2.2, true)) (fun k => (k : Int)) c.2.2.length (some (.inl ())) (by omega) (fun k fuel hk => ?_) (fun fuel => ?_)
    · simpa using this
    · rw [m_laws_FnRoomTake_l1.eq_2]
      have e0 : c.2.2.getD (0 : Int).toNat 0 = roomOwn c.1 c.2.1 room := hall 0 (by omega)
      have i0 : ixB 0 c.2.2.length = true := by simp [ixB]; omega
      have hst' : (roomOwn c.1 c.2.1 room).tmod 2 = room := by rw [← hall k hk]; exact hst k hk
      simp only [lt_dec hk, ix_dec hk, i0, chk_true, cond_true, Int.toNat_natCast, hst', bne_self_eq_false, Bool.not_false, Bool.not_true, Bool.false_or, Bool.or_true, e0, hall k hk, cond_false, w64_succ (by omega : k < 4611686018427387904)]
    · rw [m_laws_FnRoomTake_l1.eq_2]; simp [nlt_dec]
  have w1 : w64 (1 - room) = 1 - room := wM (by omega)
  have m1 : mayR c room = true := may_iff.2 ⟨rooms_mk ok, hr, by rw [all_count hall]; omega⟩
  have m2 : mayR c (1 - room) = false := by
    cases hm : mayR c (1 - room)
    · rfl
    obtain ⟨_, hr', cn⟩ := may_iff.1 hm
    have p1 := own_parity ok hr'
    rw [none_count hall (by omega)] at cn
    omega
  simp only [cond_true, hloop, Option.bind_some, Sum.elim_inl, iValidP c.1 c.2.1 c.2.2 hlen, rooms_mk ok, gb, w1, iMay c room hlen, iMay c (1 - room) hlen, m1, m2, Bool.and_self, Bool.not_false, hlc, beq_self_eq_true]
end Go.Proofs.YthpmmfbnclfbmaaDoor
