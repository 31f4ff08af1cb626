/- The laws of laws.go on polls, in plain Lean. -/
import Derived.Test.YtceghkdjpkegaaaDoorPollC
import Derived.Test.YtceghkdjpkegaaaDoorSm
namespace Go.Proofs.YtceghkdjpkegaaaDoor
set_option linter.unusedVariables false
set_option linter.unusedSimpArgs false

/-! Valid polls, without a count of conditions. -/
structure POk (p : Pl) : Prop where
  bm : p.1 = 0 ∨ p.1 = 1
  bs : p.2.2.1 = 0 ∨ p.2.2.1 = 1
  ba : p.2.2.2.2.2.1 = -1 ∨ p.2.2.2.2.2.1 = 0 ∨ p.2.2.2.2.2.1 = 1
  bt : p.2.2.2.2.2.2.1 = -1 ∨ p.2.2.2.2.2.2.1 = 0 ∨ p.2.2.2.2.2.2.1 = 1
  bl : p.2.2.2.2.1 = -1 ∨ (0 ≤ p.2.2.2.2.1 ∧ p.2.2.2.2.1 ≤ 999)
  be : p.2.2.2.2.2.2.2 = -1 ∨ (0 ≤ p.2.2.2.2.2.2.2 ∧ p.2.2.2.2.2.2.2 ≤ 999)
  bet : p.2.2.2.2.2.2.2 = -1 ∨ p.2.2.2.2.2.2.1 ≠ -1
  all : ∀ x ∈ pevL p, 0 ≤ x ∧ x ≤ 999
  len : (pevL p).length ≤ 12
theorem given_of {p : Pl} : given p = if p.2.2.2.2.1 ≠ -1 ∧ p.1 = p.2.2.1 then [p.2.2.2.2.1] else [] := by
  unfold given
  by_cases h1 : p.2.2.2.2.1 = -1
  · simp [h1]
  · rw [show (p.2.2.2.2.1 != -1) = true by simpa using h1]
    by_cases h2 : p.1 = p.2.2.1
    · rw [if_pos ⟨h1, h2⟩, show (p.1 == p.2.2.1) = true by simpa using h2]; rfl
    · rw [if_neg (fun h => h2 h.2), show (p.1 == p.2.2.1) = false by simpa using h2]; rfl
theorem given_eq {p : Pl} (h : p.1 = p.2.2.1) (hl : p.2.2.2.2.1 ≠ -1) : given p = [p.2.2.2.2.1] := by rw [given_of, if_pos ⟨hl, h⟩]
theorem given_no {p : Pl} (h : p.1 ≠ p.2.2.1 ∨ p.2.2.2.2.1 = -1) : given p = [] := by rw [given_of, if_neg (fun k => by rcases h with h | h; exact h k.2; exact k.1 h)]
theorem pok_iff {p : Pl} : pollV p = true ↔ POk p := by
  unfold pollV
  simp only [Bool.and_eq_true, Bool.or_eq_true, beq_iff_eq, List.all_eq_true, bitE, okE, inB, decide_eq_true_eq, leB, Bool.not_eq_true']
  constructor
  · rintro ⟨⟨⟨⟨⟨⟨⟨⟨⟨a1, a2⟩, a3⟩, a4⟩, a5⟩, a6⟩, a7⟩, a8⟩, a9⟩, a10⟩
    refine ⟨by omega, by omega, by omega, by omega, by omega, by omega, ?_, fun x hx => ?_, by omega⟩
    · rcases a7 with h | h
      · exact .inl h
      · exact .inr (by simpa using h)
    · unfold pevL at hx
      rcases List.mem_append.1 hx with hx | hx
      · rcases List.mem_append.1 hx with hx | hx
        · exact a8 x hx
        · rw [given_of] at hx
          split at hx
          · rename_i hg
            simp at hx; subst hx
            have := hg.1; omega
          · simp at hx
      · exact a9 x hx
  · rintro ⟨a1, a2, a3, a4, a5, a6, a7, a8, a9⟩
    refine ⟨⟨⟨⟨⟨⟨⟨⟨⟨by omega, by omega⟩, by omega⟩, by omega⟩, by omega⟩, by omega⟩, ?_⟩, fun x hx => a8 x (by simp [pevL, hx])⟩, fun x hx => a8 x (by simp [pevL, hx])⟩, by omega⟩
    rcases a7 with h | h
    · exact .inl h
    · exact .inr (by simpa using h)
/-- The order of the bits. -/
structure PInv (p : Pl) : Prop extends POk p where
  i1 : p.1 = p.2.2.1 → p.2.2.2.2.2.1 = -1 ∨ p.2.2.2.2.2.1 = p.1
  i2 : p.1 ≠ p.2.2.1 → p.2.2.2.2.2.2.1 = -1 ∨ p.2.2.2.2.2.2.1 = p.2.2.1
  i3 : p.1 = p.2.2.1 → p.2.2.2.2.2.2.1 = -1 ∨ (p.2.2.2.2.2.2.1 = p.2.2.1 ∧ p.2.2.2.2.2.2.2 = p.2.2.2.2.1)
theorem hear_inv {m : Int} {got : List Int} {st : Int} {q : List Int} {la a t e : Int} (h : PInv (m, got, st, q, la, a, t, e)) (ha : a ≠ -1) : PInv (hearP (m, got, st, q, la, a, t, e)) ∧ pevL (hearP (m, got, st, q, la, a, t, e)) = pevL (m, got, st, q, la, a, t, e) := by
  obtain ⟨⟨bm, bs, ba, bt, bl, be, bet, all, len⟩, i1, i2, i3⟩ := h
  dsimp only at bm bs ba bt bl be bet i1 i2 i3
  by_cases hs : a = st
  · have e1 : hearP (m, got, st, q, la, a, t, e) = (m, got, st, q, la, a, st, la) := by unfold hearP; rw [if_pos hs]
    have e2 : pevL (m, got, st, q, la, a, st, la) = pevL (m, got, st, q, la, a, t, e) := rfl
    rw [e1]
    exact ⟨⟨⟨bm, bs, ba, by (try dsimp only); omega, bl, bl, by (try dsimp only); omega, by rw [e2]; exact all, by rw [e2]; exact len⟩, i1, fun _ => .inr rfl, fun _ => .inr ⟨rfl, rfl⟩⟩, e2⟩
  · have e1 : hearP (m, got, st, q, la, a, t, e) = (m, got, a, q.tail, q.headD (-1), a, a, q.headD (-1)) := by unfold hearP; rw [if_neg hs]
    have hms : m ≠ st := fun h => by have := i1 h; omega
    have ham : a = m := by omega
    have e2 : pevL (m, got, a, q.tail, q.headD (-1), a, a, q.headD (-1)) = pevL (m, got, st, q, la, a, t, e) := by
      unfold pevL
      dsimp only
      rw [given_no (p := (m, got, st, q, la, a, t, e)) (.inl hms)]
      cases q with
      | nil => rw [given_no (.inr rfl)]; simp
      | cons x q =>
        have hx : 0 ≤ x ∧ x ≤ 999 := all x (by simp [pevL])
        rw [given_eq (p := (m, got, a, (x :: q).tail, (x :: q).headD (-1), a, a, (x :: q).headD (-1))) ham.symm (by (try dsimp only); simp; omega)]
        simp
    have hq : q.headD (-1) = -1 ∨ (0 ≤ q.headD (-1) ∧ q.headD (-1) ≤ 999) := by
      cases q with
      | nil => exact .inl rfl
      | cons x q => exact .inr (all x (by simp [pevL]))
    rw [e1]
    refine ⟨⟨⟨bm, by (try dsimp only); omega, ba, ba, hq, hq, .inr ha, by rw [e2]; exact all, by rw [e2]; exact len⟩, fun _ => .inr ham, fun _ => .inr rfl, fun _ => .inr ⟨rfl, rfl⟩⟩, e2⟩
theorem take_inv {m : Int} {got : List Int} {st : Int} {q : List Int} {la a t e : Int} (h : PInv (m, got, st, q, la, a, t, e)) (ht : t ≠ -1) : PInv (takeP (m, got, st, q, la, a, t, e)) ∧ pevL (takeP (m, got, st, q, la, a, t, e)) = pevL (m, got, st, q, la, a, t, e) := by
  have h' := h
  obtain ⟨⟨bm, bs, ba, bt, bl, be, bet, all, len⟩, i1, i2, i3⟩ := h
  dsimp only at bm bs ba bt bl be bet i1 i2 i3
  by_cases hm : t = m
  · have hms : m = st := by
      refine Classical.byContradiction fun hn => ?_
      have := i2 hn; omega
    have he : e = la := by have := i3 hms; omega
    have e1 : takeP (m, got, st, q, la, a, t, e) = (1 - m, (if e = -1 then got else got ++ [e]), st, q, la, a, t, e) := by unfold takeP; rw [if_pos hm]
    have e2 : pevL (1 - m, (if e = -1 then got else got ++ [e]), st, q, la, a, t, e) = pevL (m, got, st, q, la, a, t, e) := by
      unfold pevL
      dsimp only
      rw [given_no (p := (1 - m, (if e = -1 then got else got ++ [e]), st, q, la, a, t, e)) (.inl (by (try dsimp only); omega))]
      by_cases hl : la = -1
      · rw [given_no (.inr hl), he, if_pos hl]
      · rw [given_eq (p := (m, got, st, q, la, a, t, e)) hms hl, he, if_neg hl]; simp
    rw [e1]
    exact ⟨⟨⟨by (try dsimp only); omega, bs, ba, bt, bl, be, bet, by rw [e2]; exact all, by rw [e2]; exact len⟩, fun hc => by (try dsimp only at hc); omega, fun _ => .inr (by (try dsimp only); omega), fun hc => by (try dsimp only at hc); omega⟩, e2⟩
  · have e1 : takeP (m, got, st, q, la, a, t, e) = (m, got, st, q, la, a, t, e) := by unfold takeP; rw [if_neg hm]
    rw [e1]; exact ⟨h', rfl⟩
theorem send_inv {m : Int} {got : List Int} {st : Int} {q : List Int} {la a t e : Int} (h : PInv (m, got, st, q, la, a, t, e)) : PInv (m, got, st, q, la, m, t, e) := by
  obtain ⟨⟨bm, bs, ba, bt, bl, be, bet, all, len⟩, i1, i2, i3⟩ := h
  exact ⟨⟨bm, bs, by dsimp only at bm ⊢; omega, bt, bl, be, bet, all, len⟩, fun _ => .inr rfl, i2, i3⟩
theorem lask_ok {m : Int} {got : List Int} {st : Int} {q : List Int} {la a t e : Int} (h : POk (m, got, st, q, la, a, t, e)) : POk (m, got, st, q, la, -1, t, e) := by
  obtain ⟨bm, bs, ba, bt, bl, be, bet, all, len⟩ := h
  exact ⟨bm, bs, .inl rfl, bt, bl, be, bet, all, len⟩
theorem ltell_ok {m : Int} {got : List Int} {st : Int} {q : List Int} {la a t e : Int} (h : POk (m, got, st, q, la, a, t, e)) : POk (m, got, st, q, la, a, -1, -1) := by
  obtain ⟨bm, bs, ba, bt, bl, be, bet, all, len⟩ := h
  exact ⟨bm, bs, ba, .inl rfl, bl, .inl rfl, .inl rfl, all, len⟩
theorem deed_inv {p r : Pl} {k v : Int} (h : PInv p) (hr : pollDeed p k v = some r) (hv : pollV r = true) : PInv r ∧ pevL r = if k = 0 then pevL p ++ [v] else pevL p := by
  obtain ⟨m, got, st, q, la, a, t, e⟩ := p
  have hok := pok_iff.1 hv
  by_cases n0 : k = 0
  · subst n0; rw [pd0] at hr; injection hr with hr; subst hr
    refine ⟨⟨hok, h.i1, h.i2, h.i3⟩, ?_⟩
    rw [if_pos rfl]
    simp [pevL, given]
  rw [if_neg n0]
  by_cases n1 : k = 1
  · subst n1; rw [pd1] at hr; injection hr with hr; subst hr
    exact ⟨send_inv h, rfl⟩
  by_cases n2 : k = 2
  · subst n2; rw [pd2] at hr
    split at hr
    · cases hr
    · rename_i ha; injection hr with hr; subst hr; exact hear_inv h ha
  by_cases n3 : k = 3
  · subst n3; rw [pd3] at hr
    split at hr
    · cases hr
    · rename_i ha; injection hr with hr; subst hr; exact take_inv h ha
  by_cases n4 : k = 4
  · subst n4; rw [pd4] at hr
    split at hr
    · cases hr
    · injection hr with hr; subst hr; exact ⟨⟨hok, fun _ => .inl rfl, h.i2, h.i3⟩, rfl⟩
  by_cases n5 : k = 5
  · subst n5; rw [pd5] at hr
    split at hr
    · cases hr
    · injection hr with hr; subst hr; exact ⟨⟨hok, h.i1, fun _ => .inl rfl, fun _ => .inl rfl⟩, rfl⟩
  rw [pd6 k v _ n0 n1 n2 n3 n4 n5] at hr; cases hr
def newP : Pl := (0, [], 1, [], -1, -1, -1, -1)
theorem new_inv : PInv newP := ⟨⟨.inl rfl, .inr rfl, .inl rfl, .inl rfl, .inl rfl, .inl rfl, .inl rfl, fun x hx => by simp [pevL, newP, given] at hx, by simp [pevL, newP, given]⟩, fun h => by simp [newP] at h, fun _ => .inl rfl, fun _ => .inl rfl⟩
theorem do_ok {p r : Pl} {k v : Int} (h : POk p) (hr : pollDeed p k v = some r) (hv : POk r) : pollDo p k v = (r, true) := by
  unfold pollDo; rw [if_pos (pok_iff.2 h), hr]; dsimp only; rw [if_pos (pok_iff.2 hv)]
/-- What is known behind a deed. -/
theorem do_inv {p : Pl} {k v : Int} (h : PInv p) : PInv (pollDo p k v).1 ∧ pevL (pollDo p k v).1 = if (pollDo p k v).2 && k == 0 then pevL p ++ [v] else pevL p := by
  have hv0 := pok_iff.2 h.toPOk
  cases hr : pollDeed p k v with
  | none =>
    have e : pollDo p k v = (p, false) := by unfold pollDo; rw [if_pos hv0, hr]
    rw [e]; exact ⟨h, by simp⟩
  | some r =>
    by_cases hv : pollV r = true
    · have := deed_inv h hr hv
      rw [do_ok h.toPOk hr (pok_iff.1 hv)]
      refine ⟨this.1, ?_⟩
      rw [this.2]
      by_cases hk : k = 0
      · simp [hk]
      · simp [hk]
    · have e : pollDo p k v = (p, false) := by unfold pollDo; rw [if_pos hv0, hr]; dsimp only; rw [if_neg hv]
      rw [e]; exact ⟨h, by simp⟩
def frStep (s : Pl × List Int) (d : Int × Int) : Pl × List Int := ((pollDo s.1 d.1 d.2).1, if (pollDo s.1 d.1 d.2).2 && d.1 == 0 then s.2 ++ [d.2] else s.2)
def frTo (l : List (Int × Int)) (k : Nat) : Pl × List Int := (l.take k).foldl frStep (newP, [])
theorem fr_inv (l : List (Int × Int)) : ∀ s : Pl × List Int, PInv s.1 → pevL s.1 = s.2 → PInv (l.foldl frStep s).1 ∧ pevL (l.foldl frStep s).1 = (l.foldl frStep s).2 := by
  induction l with
  | nil => intro s h1 h2; exact ⟨h1, h2⟩
  | cons d l ih =>
    intro s h1 h2
    have := do_inv (k := d.1) (v := d.2) h1
    exact ih _ this.1 (by show pevL (pollDo s.1 d.1 d.2).1 = _; rw [this.2, h2]; rfl)
theorem frTo_inv (l : List (Int × Int)) (k : Nat) : PInv (frTo l k).1 ∧ pevL (frTo l k).1 = (frTo l k).2 := fr_inv _ _ new_inv rfl
theorem frTo_succ {l : List (Int × Int)} {k : Nat} (h : k < l.length) : frTo l (k + 1) = frStep (frTo l k) (l.getD k (0, 0)) := by
  unfold frTo; rw [List.take_succ_eq_append_getElem h, List.foldl_append, getD_ge h]; rfl
theorem pl_len {p : Pl} (h : POk p) : p.2.1.length ≤ 12 ∧ p.2.2.2.1.length ≤ 12 := v_len (pok_iff.2 h)

/-! Draining. -/
theorem round_inv {p : Pl} (h : PInv p) : PInv (pollRun p acts).1 ∧ pevL (pollRun p acts).1 = pevL p ∧ (pollRun p acts).1.1 ≠ (pollRun p acts).1.2.2.1 ∧ (pollRun p acts).1.2.2.2.1.length ≤ p.2.2.2.1.length ∧ (p.1 ≠ p.2.2.1 → (pollRun p acts).1.2.2.2.1.length = p.2.2.2.1.length - 1) := by
  obtain ⟨m, got, st, q, la, a, t, e⟩ := p
  have hs := send_inv h
  have d1 : pollDo (m, got, st, q, la, a, t, e) 1 0 = ((m, got, st, q, la, m, t, e), true) := do_ok h.toPOk (pd1 0 _) hs.toPOk
  have hm1 : m ≠ -1 := by have := h.bm; dsimp only at this; omega
  have hh := hear_inv hs hm1
  have d2 : pollDo (m, got, st, q, la, m, t, e) 2 0 = (hearP (m, got, st, q, la, m, t, e), true) := do_ok hs.toPOk (by rw [pd2]; exact if_neg hm1) hh.1.toPOk
  have hform : ∃ s' q' la', hearP (m, got, st, q, la, m, t, e) = (m, got, m, q', la', m, m, la') ∧ q'.length ≤ q.length ∧ (m ≠ st → q'.length = q.length - 1) ∧ s' = m := by
    by_cases hms : m = st
    · exact ⟨m, q, la, by unfold hearP; rw [if_pos hms]; dsimp only; rw [← hms], Nat.le_refl _, fun hc => absurd hms hc, rfl⟩
    · exact ⟨m, q.tail, q.headD (-1), by unfold hearP; rw [if_neg hms], by simp, fun _ => by simp, rfl⟩
  obtain ⟨s', q', la', e1, e2, e3, _⟩ := hform
  rw [e1] at hh d2
  have ht := take_inv hh.1 hm1
  have d3 : pollDo (m, got, m, q', la', m, m, la') 3 0 = (takeP (m, got, m, q', la', m, m, la'), true) := do_ok hh.1.toPOk (by rw [pd3]; exact if_neg hm1) ht.1.toPOk
  have hrun : (pollRun (m, got, st, q, la, a, t, e) acts).1 = takeP (m, got, m, q', la', m, m, la') := by
    unfold pollRun
    rw [if_pos (pok_iff.2 h.toPOk)]
    simp only [acts, List.foldl_cons, List.foldl_nil, prStep, d1, d2, d3, if_true]
  have htk : takeP (m, got, m, q', la', m, m, la') = (1 - m, (if la' = -1 then got else got ++ [la']), m, q', la', m, m, la') := by unfold takeP; rw [if_pos rfl]
  rw [hrun]
  refine ⟨ht.1, by rw [ht.2, hh.2]; rfl, ?_, ?_, ?_⟩
  · rw [htk]; dsimp only; have := h.bm; dsimp only at this; omega
  · rw [htk]; exact e2
  · rw [htk]; exact e3
theorem drain_inv {p : Pl} (h : PInv p) : ∀ k, PInv (drTo p (k + 1)) ∧ pevL (drTo p (k + 1)) = pevL p ∧ (drTo p (k + 1)).1 ≠ (drTo p (k + 1)).2.2.1 ∧ (drTo p (k + 1)).2.2.2.1.length ≤ p.2.2.2.1.length - k := by
  intro k
  induction k with
  | zero =>
    have := round_inv h
    exact ⟨this.1, this.2.1, this.2.2.1, this.2.2.2.1⟩
  | succ k ih =>
    have := round_inv ih.1
    have h5 := this.2.2.2.2 ih.2.2.1
    refine ⟨this.1, this.2.1.trans ih.2.1, this.2.2.1, ?_⟩
    show (pollRun (drTo p (k + 1)) acts).1.2.2.2.1.length ≤ _
    rw [h5]
    have := ih.2.2.2
    omega
theorem drain_all {p : Pl} (h : PInv p) : (pollDrain p).2.1 = pevL p ∧ (pollDrain p).2.2.2.1 = [] := by
  unfold pollDrain
  rw [if_pos (pok_iff.2 h.toPOk)]
  obtain ⟨h1, h2, h3, h4⟩ := drain_inv h p.2.2.2.1.length
  have hq : (drTo p (p.2.2.2.1.length + 1)).2.2.2.1 = [] := List.eq_nil_of_length_eq_zero (by omega)
  refine ⟨?_, hq⟩
  rw [← h2]
  unfold pevL
  rw [given_no (.inl h3), hq]
  simp

/-! Comparing. -/
section
variable (p q : Pl) (hp : p.2.1.length ≤ 1000 ∧ p.2.2.2.1.length ≤ 1000)
include hp
theorem samePoll_any : ∃ b, m_laws_samePoll p.1 p.2.1 p.2.2.1 p.2.2.2.1 p.2.2.2.2.1 p.2.2.2.2.2.1 p.2.2.2.2.2.2.1 p.2.2.2.2.2.2.2 q.1 q.2.1 q.2.2.1 q.2.2.2.1 q.2.2.2.2.1 q.2.2.2.2.2.1 q.2.2.2.2.2.2.1 q.2.2.2.2.2.2.2 = some b := by
  unfold m_laws_samePoll
  rw [sameInts_eq p.2.1 q.2.1 (by omega), sameInts_eq p.2.2.2.1 q.2.2.2.1 (by omega)]
  simp only [gb_some, Option.bind_some]
  exact ⟨_, rfl⟩
theorem samePoll_refl : m_laws_samePoll p.1 p.2.1 p.2.2.1 p.2.2.2.1 p.2.2.2.2.1 p.2.2.2.2.2.1 p.2.2.2.2.2.2.1 p.2.2.2.2.2.2.2 p.1 p.2.1 p.2.2.1 p.2.2.2.1 p.2.2.2.2.1 p.2.2.2.2.2.1 p.2.2.2.2.2.2.1 p.2.2.2.2.2.2.2 = some true := by
  unfold m_laws_samePoll
  rw [sameInts_eq p.2.1 p.2.1 (by omega), sameInts_eq p.2.2.2.1 p.2.2.2.1 (by omega)]
  simp [gb_some]
end

/-! Draws. -/
theorem pdeeds_ok {b : List Int} (hb : Code b) {p : Int} (hp : 0 ≤ p ∧ p ≤ 1000) : Ys (m_spec_l20PollDeeds b p) fun r => r.1.length ≤ 40 ∧ (0 ≤ r.2 ∧ r.2 ≤ p + 81) := by
  unfold m_spec_l20PollDeeds
  refine ys_then (ys_pick hb (by omega) (by omega) fun v v0 v1 _ => ?_)
  have v2 := v1 (by omega)
  refine ys_bind (Q := fun r => r.1.length ≤ 40 ∧ (0 ≤ r.2 ∧ r.2 ≤ p + 81)) ?_ fun r hr => ys_some hr
  refine ys_loop (m_spec_l20PollDeeds_l1 b) (fun s => s.2.1.toNat) (fun s => (0 ≤ s.2.1 ∧ s.2.1 + s.1.length = v) ∧ (0 ≤ s.2.2 ∧ s.2.2 + 2 * s.2.1 ≤ p + 1 + 2 * v)) (fun fuel s hs ih => ?_) FUEL _ ⟨by (try dsimp only); simp; omega, by (try dsimp only); omega⟩ (by (try dsimp only); unfold FUEL; omega)
  obtain ⟨l, k, q⟩ := s
  dsimp only at hs ih ⊢
  obtain ⟨h1, h2⟩ := hs
  rw [m_spec_l20PollDeeds_l1.eq_2]
  dsimp only
  refine ys_bif (fun hc => ?_) (fun hc => ?_)
  · have hc := ltB_t hc
    refine ys_then (ys_pick hb (by (try dsimp only); omega) (by omega) fun u u0 u1 _ => ?_)
    have u2 := u1 (by omega)
    refine ys_chk (decide_eq_true (by simp; omega)) ?_
    refine ys_then (ys_pick hb (by (try dsimp only); omega) (by omega) fun x x0 x1 _ => ?_)
    refine ys_chk (by simp [apB]; omega) ?_
    dsimp only
    rw [wM (n := k - 1) (by omega)]
    exact ih _ ⟨by simp; omega, by (try dsimp only); omega⟩ (by (try dsimp only); omega)
  · have hc := ltB_f hc
    exact ys_some ⟨by (try dsimp only); omega, by (try dsimp only); omega⟩
abbrev PLen (p : Pl) : Prop := p.2.1.length ≤ 13 ∧ p.2.2.2.1.length ≤ 13
theorem ppoll_ok {b : List Int} (hb : Code b) {n : Int} (hn : 1 ≤ n ∧ n ≤ 1000) : Ys (m_spec_l20Poll b 0 n) fun r => (r.2.1.length ≤ 13 ∧ r.2.2.2.1.length ≤ 13) ∧ (0 ≤ r.2.2.2.2.2.2.2.2 ∧ r.2.2.2.2.2.2.2.2 ≤ 300) := by
  unfold m_spec_l20Poll m_spec_PollNew
  simp only [Option.bind_some]
  refine ys_bind (pdeeds_ok hb (by omega)) fun d hd => ?_
  refine ys_bind (Q := fun r => r.2.1.length ≤ 12 ∧ r.2.2.2.1.length ≤ 12) ?_ fun r hr => ?_
  · have hl := pollRun_len (0, [], 1, [], -1, -1, -1, -1) d.1
    exact ys_eq (sPr 0 [] 1 [] (-1) (-1) (-1) (-1) d.1 (by simp) (by simp) (by omega)) (by simp only [out9]; exact hl)
  refine ys_then (ys_odd hb (by omega) (by omega) fun o => ?_)
  dsimp only
  refine ys_bind (Q := fun x => (x.2.2.1.length ≤ 13 ∧ x.2.2.2.1.length ≤ 13) ∧ (0 ≤ x.1 ∧ x.1 ≤ 300)) ?_ fun x hx => ys_some ⟨hx.1, hx.2⟩
  refine ys_bif (fun _ => ?_) (fun _ => ys_some ⟨by (try dsimp only); omega, by (try dsimp only); omega⟩)
  refine ys_then (ys_pick hb (by (try dsimp only); omega) (by omega) fun u u0 u1 _ => ?_)
  dsimp only
  refine ys_bind (Q := fun x => (x.2.2.1.length ≤ 13 ∧ x.2.2.2.1.length ≤ 13) ∧ (0 ≤ x.1 ∧ x.1 ≤ 300)) ?_ fun x hx => ys_some hx
  refine ys_bif (fun _ => ys_some ⟨by (try dsimp only); omega, by (try dsimp only); omega⟩) (fun _ => ?_)
  refine ys_bind (Q := fun x => (x.2.1.length ≤ 13 ∧ x.2.2.1.length ≤ 13) ∧ (0 ≤ x.1 ∧ x.1 ≤ 300)) ?_ fun x hx => ys_some hx
  refine ys_bif (fun _ => ys_some ⟨by (try dsimp only); omega, by (try dsimp only); omega⟩) (fun _ => ?_)
  refine ys_bind (Q := fun x => (x.2.1.length ≤ 13 ∧ x.2.2.1.length ≤ 13) ∧ (0 ≤ x.1 ∧ x.1 ≤ 300)) ?_ fun x hx => ys_some hx
  refine ys_bif (fun _ => ys_chk (by simp [apB]; omega) (ys_some ⟨by simp; omega, by (try dsimp only); omega⟩)) (fun _ => ?_)
  refine ys_bind (Q := fun x => x.2.1.length ≤ 13 ∧ (0 ≤ x.1 ∧ x.1 ≤ 300)) ?_ fun x hx => ys_some ⟨by (try dsimp only); omega, hx.2⟩
  refine ys_bif (fun _ => ys_chk (by decide) (ys_some ⟨by simp, by (try dsimp only); omega⟩)) (fun _ => ?_)
  refine ys_then (ys_pick hb (by (try dsimp only); omega) (by omega) fun w w0 w1 _ => ?_)
  have w2 := w1 (by omega)
  exact ys_chk (decide_eq_true (by simp; omega)) (ys_some ⟨by (try dsimp only); omega, by (try dsimp only); omega⟩)
section
variable {b : List Int} (hb : ∀ z ∈ b, inU z)
include hb
theorem drawPDo_ok : Ys (m_spec_DrawPollDo b) fun r => r.2.1.length ≤ 13 ∧ r.2.2.2.1.length ≤ 13 := by
  unfold m_spec_DrawPollDo
  refine ys_bind (ppoll_ok (code_of hb) (by omega)) fun r hr => ?_
  obtain ⟨h1, h2⟩ := hr
  refine ys_then (ys_pick (code_of hb) (by (try dsimp only); omega) (by omega) fun _ _ _ _ => ?_)
  refine ys_then (ys_pick (code_of hb) (by (try dsimp only); omega) (by omega) fun _ _ _ _ => ?_)
  refine ys_then (ys_pick (code_of hb) (by (try dsimp only); omega) (by omega) fun _ _ _ _ => ?_)
  refine ys_then (ys_pick (code_of hb) (by (try dsimp only); omega) (by omega) fun _ _ _ _ => ?_)
  exact ys_some h1
theorem drawPRun_ok : Ys (m_spec_DrawPollRun b) fun r => (r.2.1.length ≤ 13 ∧ r.2.2.2.1.length ≤ 13) ∧ r.2.2.2.2.2.2.2.2.length ≤ 40 := by
  unfold m_spec_DrawPollRun
  refine ys_bind (ppoll_ok (code_of hb) (by omega)) fun r hr => ?_
  obtain ⟨h1, h2⟩ := hr
  exact ys_bind (pdeeds_ok (code_of hb) (by omega)) fun d hd => ys_some ⟨h1, hd.1⟩
theorem drawPDrain_ok : Ys (m_spec_DrawPollDrain b) fun r => r.2.1.length ≤ 13 ∧ r.2.2.2.1.length ≤ 13 := by
  unfold m_spec_DrawPollDrain
  exact ys_bind (ppoll_ok (code_of hb) (by omega)) fun r hr => ys_some hr.1
end
theorem fresh_eq (l : List (Int × Int)) (hl : l.length ≤ 1000) : m_laws_fresh l = some (out9 ((frTo l l.length).1, (frTo l l.length).2)) := by
  unfold m_laws_fresh m_impl_PollNew
  simp only [Option.bind_some]
  have h := loop_all (m_laws_fresh_l1 l) (fun k => ((frTo l k).2, (k : Int), (frTo l k).1)) l.length (some ((frTo l l.length).2, (frTo l l.length).1)) (by omega) (fun k fuel hk => ?_) (fun fuel => ?_)
  · rw [show m_laws_fresh_l1 l FUEL ([], 0, 0, [], 1, [], -1, -1, -1, -1) = _ from h]; rfl
  · have hf := frTo_inv l k
    rw [m_laws_fresh_l1.eq_2, frTo_succ hk]
    generalize frTo l k = r at *
    have hl2 := pl_len hf.1.toPOk
    have hl3 := hf.1.len
    rw [hf.2] at hl3
    have a1 : apB r.2.length ([(l.getD k (0, 0)).2] : List Int).length = true := decide_eq_true (by simp; omega)
    simp only [lt_dec hk, ix_dec hk, chk_true, cond_true, Int.toNat_natCast, a1, Bool.or_true, w64_succ (by omega : k < 4611686018427387904)]
    rw [iPd r.1.1 r.1.2.1 r.1.2.2.1 r.1.2.2.2.1 r.1.2.2.2.2.1 r.1.2.2.2.2.2.1 r.1.2.2.2.2.2.2.1 r.1.2.2.2.2.2.2.2 _ _ (by omega) (by omega)]
    simp only [Option.bind_some, frStep, out9]
    cases h9 : ((pollDo r.1 (l.getD k (0, 0)).1 (l.getD k (0, 0)).2).2 && (l.getD k (0, 0)).1 == 0)
    · rfl
    · rfl
  · rw [m_laws_fresh_l1.eq_2]; simp only [nlt_dec, cond_false]
theorem iAll (p : Pl) (h1 : p.2.1.length ≤ 1000) (h2 : p.2.2.2.1.length ≤ 1000) : m_impl_PollAll p.1 p.2.1 p.2.2.1 p.2.2.2.1 p.2.2.2.2.1 p.2.2.2.2.2.1 p.2.2.2.2.2.2.1 p.2.2.2.2.2.2.2 = some (if pollV p then pevL p else []) := by
  unfold m_impl_PollAll
  rw [iPv p.1 p.2.1 p.2.2.1 p.2.2.2.1 p.2.2.2.2.1 p.2.2.2.2.2.1 p.2.2.2.2.2.2.1 p.2.2.2.2.2.2.2 (by omega) (by omega), iEvL p.1 p.2.1 p.2.2.1 p.2.2.2.1 p.2.2.2.2.1 p.2.2.2.2.2.1 p.2.2.2.2.2.2.1 p.2.2.2.2.2.2.2 (by omega) (by omega)]
  simp only [Option.bind_some]
  cases h : pollV p
  · rfl
  · rfl

/-! The laws. -/
theorem door_FnPollNew (x0 : List Int) (h0 : x0.length ≤ maxLen) (h1 : ∀ z ∈ x0, inU z) : m_laws_FnPollNew x0 = some true := by
  unfold m_laws_FnPollNew m_impl_PollNew m_spec_PollNew
  rcases Bool.eq_false_or_eq_true (ltB 1048576 (x0.length : Int)) with h | h <;> rw [h]
  · rfl
  have e1 := iPd 0 [] 1 [] (-1) (-1) (-1) (-1) 2 0 (by simp) (by simp)
  have e2 := iPd 0 [] 1 [] (-1) (-1) (-1) (-1) 3 0 (by simp) (by simp)
  have e3 := iAll newP (by simp [newP]) (by simp [newP])
  have e4 := samePoll_refl newP (by simp [newP])
  have hn : pollV (0, [], 1, [], -1, -1, -1, -1) = true := pok_iff.2 new_inv.toPOk
  have f1 : pollDo (0, [], 1, [], -1, -1, -1, -1) 2 0 = (newP, false) := by unfold pollDo; rw [if_pos hn, pd2]; rfl
  have f2 : pollDo (0, [], 1, [], -1, -1, -1, -1) 3 0 = (newP, false) := by unfold pollDo; rw [if_pos hn, pd3]; rfl
  have f3 : pevL newP = [] := by decide
  rw [f3, if_pos (pok_iff.2 new_inv.toPOk)] at e3
  rw [f1] at e1; rw [f2] at e2
  simp only [newP] at e3 e4
  simp only [cond_false, Option.bind_some, e1, e2, e3, e4, cond_true, out9, alive_ok]
  simp [gb]
theorem door_FnPollDo (x0 : List Int) (h0 : x0.length ≤ maxLen) (h1 : ∀ z ∈ x0, inU z) : m_laws_FnPollDo x0 = some true := by
  unfold m_laws_FnPollDo
  rcases Bool.eq_false_or_eq_true (ltB 1048576 (x0.length : Int)) with h | h <;> rw [h]
  · rfl
  obtain ⟨⟨m, got, st, q, la, a, t, e, k, v⟩, ed, l1, l2⟩ := drawPDo_ok h1
  dsimp only at l1 l2
  simp only [cond_false, ed, Option.bind_some, iPd m got st q la a t e k v (by omega) (by omega), sPd m got st q la a t e k v (by omega) (by omega), out9, bne_self_eq_false, Bool.or_false]
  have hlen : (pollDo (m, got, st, q, la, a, t, e) k v).1.2.1.length ≤ 1000 ∧ (pollDo (m, got, st, q, la, a, t, e) k v).1.2.2.2.1.length ≤ 1000 := by
    unfold pollDo
    split
    · split
      · split
        · rename_i hv; have := v_len hv; dsimp only; omega
        · dsimp only; omega
      · dsimp only; omega
    · simp [zeroP]
  rw [samePoll_refl (pollDo (m, got, st, q, la, a, t, e) k v).1 hlen]
  simp only [Option.bind_some, Bool.not_true, cond_false]
  cases hd : (pollDo (m, got, st, q, la, a, t, e) k v).2
  · obtain ⟨bb, hb⟩ := samePoll_any (pollDo (m, got, st, q, la, a, t, e) k v).1 (m, got, st, q, la, a, t, e) hlen
    cases hv : pollV (m, got, st, q, la, a, t, e)
    · dsimp only at hb
      simp only [cond_false, hb, Option.bind_some, iPv m got st q la a t e (by omega) (by omega), hv, alive_ok]
      cases bb <;> rfl
    · have hx : (pollDo (m, got, st, q, la, a, t, e) k v).1 = (m, got, st, q, la, a, t, e) := by
        unfold pollDo at hd ⊢
        rw [if_pos hv] at hd ⊢
        split at hd
        · split at hd
          · cases hd
          · rename_i hr hc; rw [if_neg hc]
        · rfl
      have hr := samePoll_refl (m, got, st, q, la, a, t, e) (by (try dsimp only); omega)
      dsimp only at hr
      rw [hx]
      simp only [cond_false, hr, Option.bind_some, gb, Bool.not_true, alive_ok, Bool.true_or, cond_true]
      rfl
  · generalize hr : pollDo (m, got, st, q, la, a, t, e) k v = r at *
    obtain ⟨⟨m', got', st', q', la', a', t', e'⟩, bb⟩ := r
    dsimp only at hd hlen
    subst hd
    have hv := pollDo_valid hr
    have hok := pok_iff.1 hv
    dsimp only
    simp only [cond_true, iPd m' got' st' q' la' a' t' e' 4 0 (by omega) (by omega), iPd m' got' st' q' la' a' t' e' 5 0 (by omega) (by omega), iPv m' got' st' q' la' a' t' e' (by omega) (by omega), Option.bind_some, hv, out9]
    have d4 : (pollDo (m', got', st', q', la', a', t', e') 4 0).2 = leB 0 a' := by
      by_cases ha : a' = -1
      · unfold pollDo; rw [if_pos hv, pd4]; dsimp only; rw [if_pos ha, ha]; rfl
      · rw [do_ok hok (by rw [pd4]; dsimp only; exact if_neg ha) (lask_ok hok)]
        have := hok.ba; dsimp only at this
        exact (decide_eq_true (by omega)).symm
    have d5 : (pollDo (m', got', st', q', la', a', t', e') 5 0).2 = leB 0 t' := by
      by_cases ha : t' = -1
      · unfold pollDo; rw [if_pos hv, pd5]; dsimp only; rw [if_pos ha, ha]; rfl
      · rw [do_ok hok (by rw [pd5]; dsimp only; exact if_neg ha) (ltell_ok hok)]
        have := hok.bt; dsimp only at this
        exact (decide_eq_true (by omega)).symm
    rw [d4, d5]
    simp
theorem door_FnPollRun (x0 : List Int) (h0 : x0.length ≤ maxLen) (h1 : ∀ z ∈ x0, inU z) : m_laws_FnPollRun x0 = some true := by
  unfold m_laws_FnPollRun
  rcases Bool.eq_false_or_eq_true (ltB 1048576 (x0.length : Int)) with h | h <;> rw [h]
  · rfl
  obtain ⟨⟨m, got, st, q, la, a, t, e, l⟩, ed, ⟨l1, l2⟩, l3⟩ := drawPRun_ok h1
  dsimp only at l1 l2 l3
  have hlen := pollRun_len (m, got, st, q, la, a, t, e) l
  simp only [cond_false, ed, Option.bind_some, iPr m got st q la a t e l (by omega) (by omega) (by omega), sPr m got st q la a t e l (by omega) (by omega) (by omega), out9, bne_self_eq_false, Bool.or_false, samePoll_refl (pollRun (m, got, st, q, la, a, t, e) l).1 (by omega), Bool.not_true, fresh_eq l (by omega)]
  have hf := frTo_inv l l.length
  generalize frTo l l.length = z at *
  have hz := pl_len hf.1.toPOk
  have hz3 := hf.1.len
  rw [hf.2] at hz3
  rw [iAll z.1 (by omega) (by omega), if_pos (pok_iff.2 hf.1.toPOk), hf.2]
  have hgl : z.1.2.1.length ≤ z.2.length := by rw [← hf.2]; unfold pevL; rw [List.length_append, List.length_append]; omega
  have c1 : leB (z.1.2.1.length : Int) (z.2.length : Int) = true := decide_eq_true (by omega)
  have c2 : min (z.1.2.1.length : Int) (z.2.length : Int) = (z.1.2.1.length : Int) := by omega
  have c3 : slB 0 (z.1.2.1.length : Int) z.2.length = true := decide_eq_true (by omega)
  have c4 : subL z.2 0 (z.1.2.1.length : Int) = z.1.2.1 := by
    rw [← hf.2]; unfold subL pevL; simp
  simp only [Option.bind_some, sameInts_eq z.2 z.2 (by omega), decide_true, c1, c2, c3, c4, Bool.and_self, Bool.or_true, chk_true, gb, sameInts_eq z.1.2.1 z.1.2.1 (by omega), cond_true, alive_ok]
theorem door_FnPollDrain (x0 : List Int) (h0 : x0.length ≤ maxLen) (h1 : ∀ z ∈ x0, inU z) : m_laws_FnPollDrain x0 = some true := by
  unfold m_laws_FnPollDrain
  rcases Bool.eq_false_or_eq_true (ltB 1048576 (x0.length : Int)) with h | h <;> rw [h]
  · rfl
  obtain ⟨⟨m, got, st, q, la, a, t, e⟩, ed, l1, l2⟩ := drawPDrain_ok h1
  obtain ⟨⟨m2, got2, st2, q2, la2, a2, t2, e2, l⟩, ed2, ⟨l3, l4⟩, l5⟩ := drawPRun_ok h1
  dsimp only at l1 l2 l3 l4 l5
  have hdl : ∀ p : Pl, (pollDrain p).2.1.length ≤ 12 ∧ (pollDrain p).2.2.2.1.length ≤ 12 := fun p => by
    unfold pollDrain; split
    · rename_i h; exact v_len (drTo_valid h _)
    · simp [zeroP]
  have hlen := hdl (m, got, st, q, la, a, t, e)
  simp only [cond_false, ed, ed2, Option.bind_some, iPdr m got st q la a t e (by omega) (by omega), sPdr m got st q la a t e (by omega) (by omega), samePoll_refl (pollDrain (m, got, st, q, la, a, t, e)) (by omega), cond_true, fresh_eq l (by omega), out9]
  have hf := frTo_inv l l.length
  generalize frTo l l.length = z at *
  have hz := pl_len hf.1.toPOk
  have hz3 := hf.1.len
  rw [hf.2] at hz3
  rw [iPdr z.1.1 z.1.2.1 z.1.2.2.1 z.1.2.2.2.1 z.1.2.2.2.2.1 z.1.2.2.2.2.2.1 z.1.2.2.2.2.2.2.1 z.1.2.2.2.2.2.2.2 (by omega) (by omega)]
  have hdr := drain_all hf.1
  simp only [Option.bind_some]
  rw [show pollDrain (z.1.1, z.1.2.1, z.1.2.2.1, z.1.2.2.2.1, z.1.2.2.2.2.1, z.1.2.2.2.2.2.1, z.1.2.2.2.2.2.2.1, z.1.2.2.2.2.2.2.2) = pollDrain z.1 from rfl, hdr.1, hdr.2, hf.2, sameInts_eq z.2 z.2 (by omega)]
  simp [gb, alive_ok]
end Go.Proofs.YtceghkdjpkegaaaDoor
