/- Poll: what the functions compute, and that the models compute it. -/
import Derived.Test.YtceghkdjpkegaaaDoorPu
import Derived.Test.YtceghkdjpkegaaaDoorDaM
namespace Go.Proofs.YtceghkdjpkegaaaDoor
set_option linter.unusedVariables false
set_option linter.unusedSimpArgs false

/-- Master, Got, Station, Queue, Last, Ask, Tell, Event. -/
abbrev Pl := Int × List Int × Int × List Int × Int × Int × Int × Int
def okE (x : Int) : Bool := inB x 0 999
def bitE (x : Int) : Bool := inB x 0 1
def given (p : Pl) : List Int := bif p.2.2.2.2.1 != -1 && p.1 == p.2.2.1 then [p.2.2.2.2.1] else []
def pevL (p : Pl) : List Int := p.2.1 ++ given p ++ p.2.2.2.1
def pollV (p : Pl) : Bool :=
  bitE p.1 && bitE p.2.2.1 && (p.2.2.2.2.2.1 == -1 || bitE p.2.2.2.2.2.1) && (p.2.2.2.2.2.2.1 == -1 || bitE p.2.2.2.2.2.2.1) && (p.2.2.2.2.1 == -1 || okE p.2.2.2.2.1) &&
    (p.2.2.2.2.2.2.2 == -1 || okE p.2.2.2.2.2.2.2) && (p.2.2.2.2.2.2.2 == -1 || !(p.2.2.2.2.2.2.1 == -1)) && p.2.1.all okE && p.2.2.2.1.all okE && leB ((pevL p).length : Int) 12
def hearP (p : Pl) : Pl :=
  if p.2.2.2.2.2.1 = p.2.2.1 then (p.1, p.2.1, p.2.2.1, p.2.2.2.1, p.2.2.2.2.1, p.2.2.2.2.2.1, p.2.2.1, p.2.2.2.2.1)
  else (p.1, p.2.1, p.2.2.2.2.2.1, p.2.2.2.1.tail, p.2.2.2.1.headD (-1), p.2.2.2.2.2.1, p.2.2.2.2.2.1, p.2.2.2.1.headD (-1))
def takeP (p : Pl) : Pl :=
  if p.2.2.2.2.2.2.1 = p.1 then (1 - p.1, (if p.2.2.2.2.2.2.2 = -1 then p.2.1 else p.2.1 ++ [p.2.2.2.2.2.2.2]), p.2.2) else p
def pollDeed (p : Pl) (k v : Int) : Option Pl :=
  if k = 0 then some (p.1, p.2.1, p.2.2.1, p.2.2.2.1 ++ [v], p.2.2.2.2)
  else if k = 1 then some (p.1, p.2.1, p.2.2.1, p.2.2.2.1, p.2.2.2.2.1, p.1, p.2.2.2.2.2.2)
  else if k = 2 then (if p.2.2.2.2.2.1 = -1 then none else some (hearP p))
  else if k = 3 then (if p.2.2.2.2.2.2.1 = -1 then none else some (takeP p))
  else if k = 4 then (if p.2.2.2.2.2.1 = -1 then none else some (p.1, p.2.1, p.2.2.1, p.2.2.2.1, p.2.2.2.2.1, -1, p.2.2.2.2.2.2))
  else if k = 5 then (if p.2.2.2.2.2.2.1 = -1 then none else some (p.1, p.2.1, p.2.2.1, p.2.2.2.1, p.2.2.2.2.1, p.2.2.2.2.2.1, -1, -1))
  else none
def zeroP : Pl := (0, [], 0, [], 0, 0, 0, 0)
def pollDo (p : Pl) (k v : Int) : Pl × Bool :=
  if pollV p then (match pollDeed p k v with
    | some q => if pollV q then (q, true) else (p, false)
    | none => (p, false))
  else (zeroP, false)
def out9 {α : Type} (r : Pl × α) : Int × List Int × Int × List Int × Int × Int × Int × Int × α := (r.1.1, r.1.2.1, r.1.2.2.1, r.1.2.2.2.1, r.1.2.2.2.2.1, r.1.2.2.2.2.2.1, r.1.2.2.2.2.2.2.1, r.1.2.2.2.2.2.2.2, r.2)

theorem gb_some (g b : Bool) : gb g (some b) = some (g && b) := by cases g <;> rfl
theorem bit_i (x : Int) : ((x == 0) || (x == 1)) = bitE x := by rw [Bool.eq_iff_iff]; simp [bitE, inB]; omega
theorem pow_i (x : Int) : (leB 0 x && leB x 999) = okE x := rfl
theorem bit_s (x : Int) : (leB 0 x && leB x 1) = bitE x := rfl
theorem tri_s (x : Int) : (leB (-1) x && leB x 1) = (x == -1 || bitE x) := by rw [Bool.eq_iff_iff]; simp [bitE, inB, leB]; omega
theorem pw_s (x : Int) : (leB (-1) x && leB x 999) = (x == -1 || okE x) := by rw [Bool.eq_iff_iff]; simp [okE, inB, leB]; omega
theorem le_s {x : Int} (h : (x == -1 || bitE x) = true ∨ (x == -1 || okE x) = true) : leB 0 x = !(x == -1) := by
  rw [Bool.eq_iff_iff]
  rcases h with h | h <;> simp [bitE, okE, inB] at h <;> simp [leB] <;> omega
theorem hear_q (st : Int) (q : List Int) (la a : Int) : (bif a != st then Option.bind (bif ltB 0 (q.length : Int) then chk (ixB 0 q.length) (chk (slB 1 (q.length : Int) q.length) (some (subL q 1 (q.length : Int), (q.getD ((0 : Int).toNat) (0 : Int))))) else some (q, -1)) (fun (p109 : List Int × Int) => some (a, p109.1, p109.2)) else some (st, q, la)) = some (if a = st then (st, q, la) else (a, q.tail, q.headD (-1))) := by
  by_cases h : a = st
  · rw [if_pos h, show (a != st) = false by simpa using h]; rfl
  · rw [if_neg h, show (a != st) = true by simpa using h]
    cases q with
    | nil => rfl
    | cons x q =>
      have c1 : ltB 0 ((x :: q).length : Int) = true := decide_eq_true (by rw [List.length_cons]; omega)
      have c2 : ixB 0 (x :: q).length = true := decide_eq_true (by rw [List.length_cons]; omega)
      have c3 : slB 1 ((x :: q).length : Int) (x :: q).length = true := decide_eq_true (by rw [List.length_cons]; omega)
      simp only [c1, c2, c3, chk_true, cond_true, Option.bind_some]
      simp [subL]
theorem any_okE {s : List Int} : s.any (fun x => !okE x) = !s.all okE := by simp [List.all_eq_not_any_not]
section
variable (m : Int) (got : List Int) (st : Int) (q : List Int) (la a t e : Int) (h1 : got.length ≤ 2000000) (h2 : q.length ≤ 2000000)
theorem given_len : (given (m, got, st, q, la, a, t, e)).length ≤ 1 := by
  unfold given; cases ((la != -1) && (m == st)) <;> simp [given]
theorem sEv (l : List Int) (h : l.length ≤ 1099511627776) : m_spec_l27Events l = some (l.all okE) := by
  unfold m_spec_l27Events
  have h := loop_find (m_spec_l27Events_l1 l) (fun k => (k : Int)) l.length (fun k => !okE (l.getD k 0)) (some (.inr false)) (some (.inl ())) h (fun k fuel hk => by
    rw [m_spec_l27Events_l1.eq_2]
    simp only [lt_dec hk, ix_dec hk, chk_true, cond_true, Int.toNat_natCast, m_spec_l1In, Option.bind_some, pow_i, w64_succ (by omega : k < 4611686018427387904)]
    cases okE (l.getD k 0) <;> rfl) (fun fuel => by rw [m_spec_l27Events_l1.eq_2]; simp only [nlt_dec, cond_false])
  rw [any_list l 0 (fun x => !okE x), any_okE] at h
  rw [show m_spec_l27Events_l1 l FUEL 0 = _ from h]
  cases l.all okE <;> rfl
include h1 h2
theorem sPv : m_spec_PollValid m got st q la a t e = some (pollV (m, got, st, q, la, a, t, e)) := by
  unfold m_spec_PollValid
  simp only [m_spec_l1In, Option.bind_some, gb_some, sEv got (by omega), sEv q (by omega), bit_s, tri_s, pw_s]
  have hg := given_len m got st q la a t e
  have w1 : w64 ((got.length : Int) + (q.length : Int)) = (got.length : Int) + (q.length : Int) := w64_id (by omega)
  have w2 : w64 ((got.length : Int) + (q.length : Int) + 1) = (got.length : Int) + (q.length : Int) + 1 := w64_id (by omega)
  rw [w1, w2]
  have hp : pollV (m, got, st, q, la, a, t, e) = (bitE m && bitE st && (a == -1 || bitE a) && (t == -1 || bitE t) && (la == -1 || okE la) && (e == -1 || okE e) && (e == -1 || !(t == -1)) && got.all okE && q.all okE && leB ((pevL (m, got, st, q, la, a, t, e)).length : Int) 12) := rfl
  rw [hp]
  cases hla : (la == -1 || okE la)
  · cases (leB 0 la && (m == st)) <;> simp
  cases ht : (t == -1 || bitE t)
  · cases (leB 0 la && (m == st)) <;> simp
  rw [le_s (.inr hla), le_s (.inl ht)]
  have hl : (bif (!(la == -1)) && (m == st) then some ((got.length : Int) + (q.length : Int) + 1) else some ((got.length : Int) + (q.length : Int))) = some (((pevL (m, got, st, q, la, a, t, e)).length : Nat) : Int) := by
    unfold pevL given
    dsimp only
    rw [show (la != -1) = !(la == -1) from rfl]
    cases ((!(la == -1)) && (m == st))
    · simp
    · simp; omega
  rw [hl]
  simp only [Option.bind_some]
  generalize leB (((pevL (m, got, st, q, la, a, t, e)).length : Nat) : Int) 12 = z0
  generalize bitE m = z1; generalize bitE st = z2; generalize (a == -1 || bitE a) = z3; generalize (e == -1 || okE e) = z4; generalize got.all okE = z5; generalize q.all okE = z6
  generalize (t == -1) = z7; generalize (e == -1) = z8
  cases z1 <;> cases z2 <;> cases z3 <;> cases z4 <;> cases z5 <;> cases z6 <;> cases z7 <;> cases z8 <;> cases z0 <;> rfl
theorem iEvL : m_impl_Poll_events m got st q la a t e = some (pevL (m, got, st, q, la, a, t, e)) := by
  unfold m_impl_Poll_events pevL given
  dsimp only
  have a1 : apB ([] : List Int).length ([la] : List Int).length = true := rfl
  cases ((la != -1) && (m == st))
  · have c1 : decide (got.length + ([] : List Int).length + q.length ≤ 1099511627776) = true := decide_eq_true (by simp; omega)
    simp only [cond_false, Option.bind_some, c1, chk_true]
  · have c1 : decide (got.length + ([] ++ [la] : List Int).length + q.length ≤ 1099511627776) = true := decide_eq_true (by simp; omega)
    simp only [cond_true, a1, Option.bind_some, c1, chk_true]
    simp
theorem iPv : m_impl_PollValid m got st q la a t e = some (pollV (m, got, st, q, la, a, t, e)) := by
  unfold m_impl_PollValid m_impl_bitValid
  have c1 : decide (got.length + q.length ≤ 1099511627776) = true := decide_eq_true (by omega)
  have hlen : (got ++ q).length ≤ 1099511627776 := by simp; omega
  have h := loop_find (m_impl_PollValid_l1 got q) (fun k => (k : Int)) (got ++ q).length (fun k => !okE ((got ++ q).getD k 0)) (some (.inr false)) (some (.inl ())) hlen (fun k fuel hk => by
    rw [m_impl_PollValid_l1.eq_2]
    simp only [lt_dec hk, ix_dec hk, chk_true, cond_true, Int.toNat_natCast, m_impl_powerValid, Option.bind_some, pow_i, w64_succ (by omega : k < 4611686018427387904)]
    cases okE ((got ++ q).getD k 0) <;> rfl) (fun fuel => by rw [m_impl_PollValid_l1.eq_2]; simp only [nlt_dec, cond_false])
  rw [any_list (got ++ q) 0 (fun x => !okE x), any_okE, List.all_append] at h
  rw [show m_impl_PollValid_l1 got q FUEL 0 = _ from h]
  simp only [m_impl_powerValid, Option.bind_some, gb_some, c1, chk_true, bit_i, pow_i, iEvL m got st q la a t e h1 h2]
  have hp : pollV (m, got, st, q, la, a, t, e) = (bitE m && bitE st && (a == -1 || bitE a) && (t == -1 || bitE t) && (la == -1 || okE la) && (e == -1 || okE e) && (e == -1 || !(t == -1)) && got.all okE && q.all okE && leB ((pevL (m, got, st, q, la, a, t, e)).length : Int) 12) := rfl
  rw [hp]
  simp only [bne]
  generalize leB (((pevL (m, got, st, q, la, a, t, e)).length : Nat) : Int) 12 = z0
  generalize bitE m = z1; generalize bitE st = z2; generalize bitE a = z3; generalize bitE t = z4; generalize okE la = z5; generalize okE e = z6; generalize got.all okE = z7; generalize q.all okE = z8
  generalize (a == -1) = y1; generalize (t == -1) = y2; generalize (la == -1) = y3; generalize (e == -1) = y4
  cases z1
  · cases z2 <;> rfl
  cases z2
  · rfl
  cases y1 <;> cases z3 <;> cases y2 <;> cases z4 <;> try rfl
  all_goals cases y3 <;> cases z5 <;> cases y4 <;> cases z6 <;> try rfl
  all_goals cases z7 <;> cases z8 <;> rfl
theorem sPc : m_spec_l27Copy m got st q la a t e = some (m, got, st, q, la, a, t, e) := by
  have a1 : apB ([] : List Int).length got.length = true := decide_eq_true (by simp; omega)
  have a2 : apB ([] : List Int).length q.length = true := decide_eq_true (by simp; omega)
  unfold m_spec_l27Copy
  simp only [a1, a2, chk_true, List.nil_append]
theorem iPc : m_impl_Poll_clone m got st q la a t e = some (m, got, st, q, la, a, t, e) := by
  have a1 : apB ([] : List Int).length got.length = true := decide_eq_true (by simp; omega)
  have a2 : apB ([] : List Int).length q.length = true := decide_eq_true (by simp; omega)
  unfold m_impl_Poll_clone m_slices_Clone_int_int
  simp only [a1, a2, chk_true, Option.bind_some]
omit h1 h2 in
theorem sHear : m_spec_l27Hear m got st q la a t e = some (hearP (m, got, st, q, la, a, t, e)) := by
  unfold m_spec_l27Hear hearP
  rw [hear_q st q la a]
  by_cases h : a = st
  · subst h; simp
  · simp [h]
omit h1 h2 in
theorem iHear : m_impl_Poll_hear m got st q la a t e = some (hearP (m, got, st, q, la, a, t, e)) := by
  unfold m_impl_Poll_hear hearP
  rw [hear_q st q la a]
  by_cases h : a = st
  · subst h; simp
  · simp [h]
omit h2 in
theorem iTake (hm : bitE m = true) : m_impl_Poll_take m got st q la a t e = some (takeP (m, got, st, q, la, a, t, e)) := by
  unfold m_impl_Poll_take takeP
  have a1 : apB got.length ([e] : List Int).length = true := decide_eq_true (by simp; omega)
  have hm' : w64 (1 - m) = 1 - m := by simp [bitE, inB] at hm; exact w64_id (by omega)
  by_cases h : t = m
  · subst h
    by_cases h2 : e = -1
    · subst h2; simp [hm']
    · rw [show (e != -1) = true by simpa using h2, show (t != t) = false by simp]
      simp only [cond_true, cond_false, a1, chk_true, Option.bind_some, hm', h2, if_true, if_false]
  · rw [show (t != m) = true by simpa using h]; simp [h]
omit h2 in
theorem sTake (hm : bitE m = true) (he : (e == -1 || okE e) = true) : m_spec_l27Take m got st q la a t e = some (takeP (m, got, st, q, la, a, t, e)) := by
  unfold m_spec_l27Take takeP
  have a1 : apB got.length ([e] : List Int).length = true := decide_eq_true (by simp; omega)
  have hm' : w64 (1 - m) = 1 - m := by simp [bitE, inB] at hm; exact w64_id (by omega)
  rw [le_s (.inr he)]
  by_cases h : t = m
  · subst h
    by_cases h2 : e = -1
    · subst h2; simp [hm']
    · rw [show (!(e == -1)) = true by simpa using h2, show (t == t) = true by simp]
      simp only [cond_true, cond_false, a1, chk_true, Option.bind_some, hm', h2, if_true, if_false]
  · rw [show (t == m) = false by simpa using h]; simp [h]
omit h1 h2 in
theorem hear_len : (hearP (m, got, st, q, la, a, t, e)).2.1.length ≤ got.length ∧ (hearP (m, got, st, q, la, a, t, e)).2.2.2.1.length ≤ q.length := by
  unfold hearP; dsimp only; split <;> simp
omit h1 h2 in
theorem take_len : (takeP (m, got, st, q, la, a, t, e)).2.1.length ≤ got.length + 1 ∧ (takeP (m, got, st, q, la, a, t, e)).2.2.2.1.length ≤ q.length := by
  unfold takeP; dsimp only; split
  · dsimp only; split <;> simp
  · simp
end
theorem v_parts {p : Pl} (h : pollV p = true) : bitE p.1 = true ∧ bitE p.2.2.1 = true ∧ (p.2.2.2.2.2.1 == -1 || bitE p.2.2.2.2.2.1) = true ∧ (p.2.2.2.2.2.2.1 == -1 || bitE p.2.2.2.2.2.2.1) = true ∧ (p.2.2.2.2.1 == -1 || okE p.2.2.2.2.1) = true ∧ (p.2.2.2.2.2.2.2 == -1 || okE p.2.2.2.2.2.2.2) = true ∧ p.2.1.length + p.2.2.2.1.length ≤ 12 ∧ (∀ x ∈ p.2.1, okE x = true) ∧ (∀ x ∈ p.2.2.2.1, okE x = true) := by
  unfold pollV at h
  simp only [Bool.and_eq_true] at h
  obtain ⟨⟨⟨⟨⟨⟨⟨⟨⟨a1, a2⟩, a3⟩, a4⟩, a5⟩, a6⟩, a7⟩, a8⟩, a9⟩, a10⟩ := h
  refine ⟨a1, a2, a3, a4, a5, a6, ?_, List.all_eq_true.1 a8, List.all_eq_true.1 a9⟩
  simp [leB, pevL] at a10
  omega
end Go.Proofs.YtceghkdjpkegaaaDoor
