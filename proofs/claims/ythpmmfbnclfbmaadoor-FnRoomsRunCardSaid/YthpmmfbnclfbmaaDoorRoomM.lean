/- What the functions on rooms compute. -/
import Derived.Test.YthpmmfbnclfbmaaDoorPre
namespace Go.Proofs.YthpmmfbnclfbmaaDoor

def stOk (f s e : Int) : Bool := decide (0 ≤ e) && decide (e ≤ if e % 2 == 0 then f else s)
def roomsValid (f s : Int) (xs : List Int) : Bool := inB f 0 99 && inB s 0 99 && (f % 2 == 0) && (s % 2 == 1) && inB (xs.length : Int) 1 5 && xs.all (stOk f s)
def roomOwn (f s room : Int) : Int := if room == 0 then f else s
/-- What a deed of one of the two rooms makes of valid rooms, if it can be done. -/
def roomsStep (f s : Int) (xs : List Int) (kind room st : Int) : Option (Int × Int × List Int) :=
  let own := roomOwn f s room
  let put (n : Int) : Option (Int × Int × List Int) := if n ≤ 99 then some (if room == 0 then (n, s, xs) else (f, n, xs)) else none
  if kind = 0 then put (own + 2)
  else if st < 0 ∨ (xs.length : Int) ≤ st then none
  else if kind = 1 then put (if own < xs.getD st.toNat 0 then xs.getD st.toNat 0 + 1 else own)
  else if kind = 2 then some (f, s, xs.set st.toNat (max (xs.getD st.toNat 0) own))
  else none
def roomsDo (f s : Int) (xs : List Int) (kind room st : Int) : (Int × Int × List Int) × Bool :=
  if roomsValid f s xs then
    if inB room 0 1 then (match roomsStep f s xs kind room st with | some r => (r, true) | none => ((f, s, xs), false)) else ((f, s, xs), false)
  else ((0, 0, []), false)

theorem all_false_at {p : Int → Bool} {xs : List Int} {k : Nat} (hk : k < xs.length) (h : p (xs.getD k 0) = false) : xs.all p = false := by
  rw [List.all_eq_false]
  refine ⟨xs[k], List.getElem_mem _, ?_⟩
  simp only [List.getD, List.getElem?_eq_getElem hk, Option.getD_some] at h
  simp [h]
theorem all_take_succ {p : Int → Bool} {xs : List Int} {k : Nat} (hk : k < xs.length) (h : (xs.take k).all p = true) (h1 : p (xs.getD k 0) = true) : (xs.take (k + 1)).all p = true := by
  simp only [List.getD, List.getElem?_eq_getElem hk, Option.getD_some] at h1
  rw [List.take_succ_eq_append_getElem hk, List.all_append, h]
  simp [h1]

structure RoomsOk (f s : Int) (xs : List Int) : Prop where
  f0 : 0 ≤ f
  f1 : f ≤ 99
  s0 : 0 ≤ s
  s1 : s ≤ 99
  f2 : f % 2 = 0
  s2 : s % 2 = 1
  l0 : 1 ≤ xs.length
  l1 : xs.length ≤ 5
  all : xs.all (stOk f s) = true
theorem rooms_ok {f s : Int} {xs : List Int} (h : roomsValid f s xs = true) : RoomsOk f s xs := by
  simp only [roomsValid, Bool.and_eq_true, inB_iff, beq_iff_eq] at h
  obtain ⟨⟨⟨⟨⟨h1, h2⟩, h3⟩, h4⟩, h5⟩, h6⟩ := h
  exact ⟨h1.1, h1.2, h2.1, h2.2, h3, h4, by omega, by omega, h6⟩
theorem rooms_st {f s : Int} {xs : List Int} (h : RoomsOk f s xs) {k : Nat} (hk : k < xs.length) : 0 ≤ xs.getD k 0 ∧ xs.getD k 0 ≤ 99 ∧ (xs.getD k 0 % 2 = 0 → xs.getD k 0 ≤ f) ∧ (xs.getD k 0 % 2 ≠ 0 → xs.getD k 0 ≤ s) := by
  have h1 := List.all_eq_true.1 h.all xs[k] (List.getElem_mem _)
  simp only [List.getD, List.getElem?_eq_getElem hk, Option.getD_some]
  simp only [stOk, Bool.and_eq_true, decide_eq_true_eq] at h1
  have := h.f1; have := h.s1
  by_cases hp : xs[k] % 2 = 0
  · simp [hp] at h1 ⊢; omega
  · simp [hp] at h1 ⊢; omega

theorem rooms_mk {f s : Int} {xs : List Int} (h : RoomsOk f s xs) : roomsValid f s xs = true := by
  have := h.f0; have := h.f1; have := h.s0; have := h.s1; have := h.l0; have := h.l1
  simp only [roomsValid, Bool.and_eq_true, inB_iff, beq_iff_eq]
  exact ⟨⟨⟨⟨⟨⟨by omega, by omega⟩, ⟨by omega, by omega⟩⟩, h.f2⟩, h.s2⟩, ⟨by omega, by omega⟩⟩, h.all⟩
theorem stOk_iff {f s e : Int} : stOk f s e = true ↔ 0 ≤ e ∧ (e % 2 = 0 → e ≤ f) ∧ (e % 2 ≠ 0 → e ≤ s) := by
  simp only [stOk, Bool.and_eq_true, decide_eq_true_eq]
  by_cases hp : e % 2 = 0
  · simp [hp]
  · simp [hp]
theorem rooms_put0 {f s n : Int} {xs : List Int} (h : RoomsOk f s xs) (h1 : f ≤ n) (h2 : n ≤ 99) (h3 : n % 2 = 0) : RoomsOk n s xs :=
  ⟨by have := h.f0; omega, h2, h.s0, h.s1, h3, h.s2, h.l0, h.l1, by
    rw [List.all_eq_true]
    intro e he
    have h4 := stOk_iff.1 (List.all_eq_true.1 h.all e he)
    exact stOk_iff.2 ⟨h4.1, fun hp => by have := h4.2.1 hp; omega, h4.2.2⟩⟩
theorem rooms_put1 {f s n : Int} {xs : List Int} (h : RoomsOk f s xs) (h1 : s ≤ n) (h2 : n ≤ 99) (h3 : n % 2 = 1) : RoomsOk f n xs :=
  ⟨h.f0, h.f1, by have := h.s0; omega, h2, h.f2, h3, h.l0, h.l1, by
    rw [List.all_eq_true]
    intro e he
    have h4 := stOk_iff.1 (List.all_eq_true.1 h.all e he)
    exact stOk_iff.2 ⟨h4.1, h4.2.1, fun hp => by have := h4.2.2 hp; omega⟩⟩
theorem rooms_set {f s : Int} {xs : List Int} (h : RoomsOk f s xs) (k : Nat) {e : Int} (he : stOk f s e = true) : RoomsOk f s (xs.set k e) :=
  ⟨h.f0, h.f1, h.s0, h.s1, h.f2, h.s2, by rw [List.length_set]; exact h.l0, by rw [List.length_set]; exact h.l1, by
    rw [List.all_eq_true]
    intro x hx
    rcases List.mem_or_eq_of_mem_set hx with h1 | rfl
    · exact List.all_eq_true.1 h.all x h1
    · exact he⟩
theorem rooms_step {f s : Int} {xs : List Int} {kind room st : Int} (h : RoomsOk f s xs) (hr : inB room 0 1 = true) {r : Int × Int × List Int} (he : roomsStep f s xs kind room st = some r) : RoomsOk r.1 r.2.1 r.2.2 := by
  have hr := inB_iff.1 hr
  have f0 := h.f0; have f1 := h.f1; have f2 := h.f2; have s0 := h.s0; have s1 := h.s1; have s2 := h.s2
  have hroom : room = 0 ∨ room = 1 := by omega
  have e10 : ((1 : Int) == 0) = false := rfl
  have key : ∀ hlt : ¬ (st < 0 ∨ (xs.length : Int) ≤ st), 0 ≤ xs.getD st.toNat 0 ∧ xs.getD st.toNat 0 ≤ 99 ∧ (xs.getD st.toNat 0 % 2 = 0 → xs.getD st.toNat 0 ≤ f) ∧ (xs.getD st.toNat 0 % 2 ≠ 0 → xs.getD st.toNat 0 ≤ s) := fun hlt => rooms_st h (by omega)
  generalize hg : xs.getD st.toNat 0 = e at *
  rcases hroom with rfl | rfl
  · simp only [roomsStep, roomOwn, hg, beq_self_eq_true, if_true] at he
    by_cases hk0 : kind = 0
    · rw [if_pos hk0] at he
      by_cases hle : f + 2 ≤ 99
      · rw [if_pos hle] at he; injection he with he; subst he; exact rooms_put0 h (by dsimp only; omega) (by dsimp only; omega) (by dsimp only; omega)
      · rw [if_neg hle] at he; cases he
    rw [if_neg hk0] at he
    by_cases hst : st < 0 ∨ (xs.length : Int) ≤ st
    · rw [if_pos hst] at he; cases he
    rw [if_neg hst] at he
    obtain ⟨e0, e1, e2, e3⟩ := key hst
    by_cases hk1 : kind = 1
    · rw [if_pos hk1] at he
      by_cases hlt : f < e
      · rw [if_pos hlt] at he
        by_cases hle : e + 1 ≤ 99
        · rw [if_pos hle] at he; injection he with he; subst he; exact rooms_put0 h (by dsimp only; omega) (by dsimp only; omega) (by dsimp only; omega)
        · rw [if_neg hle] at he; cases he
      · rw [if_neg hlt, if_pos f1] at he; injection he with he; subst he; exact h
    rw [if_neg hk1] at he
    by_cases hk2 : kind = 2
    · rw [if_pos hk2] at he; injection he with he; subst he
      exact rooms_set h _ (stOk_iff.2 ⟨by omega, fun hp => by omega, fun hp => by omega⟩)
    · rw [if_neg hk2] at he; cases he
  · simp only [roomsStep, roomOwn, hg, e10, Bool.false_eq_true, if_false] at he
    by_cases hk0 : kind = 0
    · rw [if_pos hk0] at he
      by_cases hle : s + 2 ≤ 99
      · rw [if_pos hle] at he; injection he with he; subst he; exact rooms_put1 h (by dsimp only; omega) (by dsimp only; omega) (by dsimp only; omega)
      · rw [if_neg hle] at he; cases he
    rw [if_neg hk0] at he
    by_cases hst : st < 0 ∨ (xs.length : Int) ≤ st
    · rw [if_pos hst] at he; cases he
    rw [if_neg hst] at he
    obtain ⟨e0, e1, e2, e3⟩ := key hst
    by_cases hk1 : kind = 1
    · rw [if_pos hk1] at he
      by_cases hlt : s < e
      · rw [if_pos hlt] at he
        by_cases hle : e + 1 ≤ 99
        · rw [if_pos hle] at he; injection he with he; subst he; exact rooms_put1 h (by dsimp only; omega) (by dsimp only; omega) (by dsimp only; omega)
        · rw [if_neg hle] at he; cases he
      · rw [if_neg hlt, if_pos s1] at he; injection he with he; subst he; exact h
    rw [if_neg hk1] at he
    by_cases hk2 : kind = 2
    · rw [if_pos hk2] at he; injection he with he; subst he
      exact rooms_set h _ (stOk_iff.2 ⟨by omega, fun hp => by omega, fun hp => by omega⟩)
    · rw [if_neg hk2] at he; cases he
theorem roomsStep_len {f s : Int} {xs : List Int} {kind room st : Int} {r : Int × Int × List Int} (he : roomsStep f s xs kind room st = some r) : r.2.2.length = xs.length := by
  simp only [roomsStep] at he
  repeat' split at he
  all_goals first | cases he | (injection he with he; subst he; simp) | skip
  all_goals simp_all

theorem valid_false {f s : Int} {xs : List Int} (h : RoomsOk f s xs → False) : roomsValid f s xs = false := by
  cases hv : roomsValid f s xs
  · rfl
  · exact (h (rooms_ok hv)).elim
theorem valid_st {f s : Int} {xs : List Int} {k : Nat} (hk : k < xs.length) (h : ¬ (0 ≤ xs.getD k 0 ∧ (xs.getD k 0 % 2 = 0 → xs.getD k 0 ≤ f) ∧ (xs.getD k 0 % 2 ≠ 0 → xs.getD k 0 ≤ s))) : roomsValid f s xs = false :=
  valid_false fun hv => h (by have := rooms_st hv hk; omega)
theorem take_all {p : Int → Bool} {xs : List Int} {k : Nat} (hk : xs.length ≤ k) (h : (xs.take k).all p = true) : xs.all p = true := by rwa [List.take_of_length_le hk] at h

theorem step_claim {f s : Int} {xs : List Int} {kind room st : Int} (h : kind = 0) : roomsStep f s xs kind room st = if roomOwn f s room + 2 ≤ 99 then some (if room == 0 then (roomOwn f s room + 2, s, xs) else (f, roomOwn f s room + 2, xs)) else none := by
  simp [roomsStep, h]
theorem step_out {f s : Int} {xs : List Int} {kind room st : Int} (h : ¬ kind = 0) (h1 : st < 0 ∨ (xs.length : Int) ≤ st) : roomsStep f s xs kind room st = none := by
  simp [roomsStep, h, h1]
theorem step_learn {f s : Int} {xs : List Int} {kind room st : Int} (h : kind = 1) (h1 : ¬ (st < 0 ∨ (xs.length : Int) ≤ st)) : roomsStep f s xs kind room st =
    if (if roomOwn f s room < xs.getD st.toNat 0 then xs.getD st.toNat 0 + 1 else roomOwn f s room) ≤ 99 then some (if room == 0 then (if roomOwn f s room < xs.getD st.toNat 0 then xs.getD st.toNat 0 + 1 else roomOwn f s room, s, xs) else (f, if roomOwn f s room < xs.getD st.toNat 0 then xs.getD st.toNat 0 + 1 else roomOwn f s room, xs)) else none := by
  subst h
  simp only [roomsStep]
  rw [if_neg (by decide), if_neg h1, if_pos trivial]
theorem step_tell {f s : Int} {xs : List Int} {kind room st : Int} (h : kind = 2) (h1 : ¬ (st < 0 ∨ (xs.length : Int) ≤ st)) : roomsStep f s xs kind room st = some (f, s, xs.set st.toNat (max (xs.getD st.toNat 0) (roomOwn f s room))) := by
  subst h
  simp only [roomsStep]
  rw [if_neg (by decide), if_neg h1, if_neg (by decide), if_pos trivial]
theorem step_none {f s : Int} {xs : List Int} {kind room st : Int} (h : ¬ kind = 0) (h1 : ¬ kind = 1) (h2 : ¬ kind = 2) : roomsStep f s xs kind room st = none := by
  simp [roomsStep, h, h1, h2]

theorem quad {f' s' : Int} {l' : List Int} {b' : Bool} {f s : Int} {l : List Int} {b : Bool} {q : (Int × Int × List Int) × Bool} (h : q = ((f', s', l'), b')) (h2 : q = ((f, s, l), b)) : f' = f ∧ s' = s ∧ l' = l ∧ b' = b := by
  rw [h] at h2; injection h2 with h3 h4; injection h3 with h5 h6; injection h6 with h7 h8; exact ⟨h5, h7, h8, h4⟩
theorem rdo_bad {f s : Int} {xs : List Int} {kd room st : Int} (h : roomsValid f s xs = false) : roomsDo f s xs kd room st = ((0, 0, []), false) := by simp [roomsDo, h]
theorem rdo_room {f s : Int} {xs : List Int} {kd room st : Int} (h : roomsValid f s xs = true) (hr : inB room 0 1 = false) : roomsDo f s xs kd room st = ((f, s, xs), false) := by simp [roomsDo, h, hr]
theorem rdo_none {f s : Int} {xs : List Int} {kd room st : Int} (h : roomsValid f s xs = true) (hs : roomsStep f s xs kd room st = none) : roomsDo f s xs kd room st = ((f, s, xs), false) := by simp [roomsDo, h, hs]
theorem rdo_some {f s : Int} {xs : List Int} {kd room st : Int} (h : roomsValid f s xs = true) (hr : inB room 0 1 = true) {f' s' : Int} {l' : List Int} (hs : roomsStep f s xs kd room st = some (f', s', l')) : roomsDo f s xs kd room st = ((f', s', l'), true) := by simp [roomsDo, h, hr, hs]

theorem own_le {f s room : Int} {xs : List Int} (hv : RoomsOk f s xs) : 0 ≤ roomOwn f s room ∧ roomOwn f s room ≤ 99 := by
  have f0 := hv.f0; have f1 := hv.f1; have s0 := hv.s0; have s1 := hv.s1
  unfold roomOwn; split <;> omega
theorem step_same {f s : Int} {xs : List Int} {kind room st : Int} (hv : RoomsOk f s xs) (h : kind = 1) (h1 : ¬ (st < 0 ∨ (xs.length : Int) ≤ st)) (h2 : ¬ roomOwn f s room < xs.getD st.toNat 0) : roomsStep f s xs kind room st = some (f, s, xs) := by
  have h3 := own_le (room := room) hv
  rw [step_learn h h1, if_neg h2, if_pos h3.2]
  unfold roomOwn; split <;> rfl
theorem own_par {f s : Int} {xs : List Int} {room : Int} (hv : RoomsOk f s xs) (hr : inB room 0 1 = true) {k : Nat} (hk : k < xs.length) (h : xs.getD k 0 % 2 = room) : ¬ roomOwn f s room < xs.getD k 0 := by
  have hr := inB_iff.1 hr
  have h1 := rooms_st hv hk
  generalize xs.getD k 0 = e at *
  rcases (show room = 0 ∨ room = 1 by omega) with rfl | rfl <;> simp [roomOwn] <;> omega
theorem own_npar {f s : Int} {xs : List Int} {room : Int} (hv : RoomsOk f s xs) (hr : inB room 0 1 = true) {k : Nat} (hk : k < xs.length) (h : ¬ xs.getD k 0 % 2 = room) (h2 : ¬ xs.getD k 0 < roomOwn f s room) : roomOwn f s room < xs.getD k 0 := by
  have hr := inB_iff.1 hr
  have h1 := rooms_st hv hk
  have f2 := hv.f2; have s2 := hv.s2
  generalize xs.getD k 0 = e at *
  rcases (show room = 0 ∨ room = 1 by omega) with rfl | rfl <;> simp [roomOwn] at h2 ⊢ <;> omega
theorem step_put {f s : Int} {xs : List Int} {kind room st : Int} (h : kind = 1) (h1 : ¬ (st < 0 ∨ (xs.length : Int) ≤ st)) (h2 : roomOwn f s room < xs.getD st.toNat 0) : roomsStep f s xs kind room st = if xs.getD st.toNat 0 + 1 ≤ 99 then some (if room == 0 then (xs.getD st.toNat 0 + 1, s, xs) else (f, xs.getD st.toNat 0 + 1, xs)) else none := by
  rw [step_learn h h1, if_pos h2]

theorem rdo_len {f s : Int} {xs : List Int} {kd room st : Int} {f' s' : Int} {l' : List Int} {b' : Bool} (hq : roomsDo f s xs kd room st = ((f', s', l'), b')) : l'.length ≤ xs.length := by
  cases hv : roomsValid f s xs
  · obtain ⟨rfl, rfl, rfl, rfl⟩ := quad hq (rdo_bad hv); simp
  cases hr : inB room 0 1
  · obtain ⟨rfl, rfl, rfl, rfl⟩ := quad hq (rdo_room hv hr); simp
  cases hs : roomsStep f s xs kd room st with
  | none => obtain ⟨rfl, rfl, rfl, rfl⟩ := quad hq (rdo_none hv hs); simp
  | some r => obtain ⟨r1, r2, r3⟩ := r; obtain ⟨rfl, rfl, rfl, rfl⟩ := quad hq (rdo_some hv hr hs); exact Nat.le_of_eq (roomsStep_len hs)

end Go.Proofs.YthpmmfbnclfbmaaDoor
