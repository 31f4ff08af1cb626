/- Poll: deeds, runs, draining: the models compute the plain functions. -/
import Derived.Test.YtceghkdjpkegaaaDoorPollM
namespace Go.Proofs.YtceghkdjpkegaaaDoor
set_option linter.unusedVariables false
set_option linter.unusedSimpArgs false

section
variable (m : Int) (got : List Int) (st : Int) (q : List Int) (la a t e k v : Int) (h1 : got.length ≤ 1048576) (h2 : q.length ≤ 1048576)
theorem pd0 (p : Pl) : pollDeed p 0 v = some (p.1, p.2.1, p.2.2.1, p.2.2.2.1 ++ [v], p.2.2.2.2) := rfl
theorem pd1 (p : Pl) : pollDeed p 1 v = some (p.1, p.2.1, p.2.2.1, p.2.2.2.1, p.2.2.2.2.1, p.1, p.2.2.2.2.2.2) := rfl
theorem pd2 (p : Pl) : pollDeed p 2 v = if p.2.2.2.2.2.1 = -1 then none else some (hearP p) := rfl
theorem pd3 (p : Pl) : pollDeed p 3 v = if p.2.2.2.2.2.2.1 = -1 then none else some (takeP p) := rfl
theorem pd4 (p : Pl) : pollDeed p 4 v = if p.2.2.2.2.2.1 = -1 then none else some (p.1, p.2.1, p.2.2.1, p.2.2.2.1, p.2.2.2.2.1, -1, p.2.2.2.2.2.2) := rfl
theorem pd5 (p : Pl) : pollDeed p 5 v = if p.2.2.2.2.2.2.1 = -1 then none else some (p.1, p.2.1, p.2.2.1, p.2.2.2.1, p.2.2.2.2.1, p.2.2.2.2.2.1, -1, -1) := rfl
theorem pd6 (p : Pl) (n0 : k ≠ 0) (n1 : k ≠ 1) (n2 : k ≠ 2) (n3 : k ≠ 3) (n4 : k ≠ 4) (n5 : k ≠ 5) : pollDeed p k v = none := by simp [pollDeed, n0, n1, n2, n3, n4, n5]
theorem deed_len {p r : Pl} (h : pollDeed p k v = some r) : r.2.1.length ≤ p.2.1.length + 1 ∧ r.2.2.2.1.length ≤ p.2.2.2.1.length + 1 := by
  obtain ⟨m, got, st, q, la, a, t, e⟩ := p
  have l1 := hear_len m got st q la a t e
  have l2 := take_len m got st q la a t e
  dsimp only
  by_cases n0 : k = 0
  · subst n0; rw [pd0] at h; injection h with h; subst h; simp
  by_cases n1 : k = 1
  · subst n1; rw [pd1] at h; injection h with h; subst h; simp
  by_cases n2 : k = 2
  · subst n2; rw [pd2] at h; split at h
    · cases h
    · injection h with h; subst h; omega
  by_cases n3 : k = 3
  · subst n3; rw [pd3] at h; split at h
    · cases h
    · injection h with h; subst h; omega
  by_cases n4 : k = 4
  · subst n4; rw [pd4] at h; split at h
    · cases h
    · injection h with h; subst h; simp
  by_cases n5 : k = 5
  · subst n5; rw [pd5] at h; split at h
    · cases h
    · injection h with h; subst h; simp
  rw [pd6 k v _ n0 n1 n2 n3 n4 n5] at h; cases h
theorem beq_no {x y : Int} (h : x ≠ y) : (x == y) = false := by simpa using h
include h1 h2
theorem iDoP (hv : pollV (m, got, st, q, la, a, t, e) = true) : m_impl_Poll_do m got st q la a t e k v = some (match pollDeed (m, got, st, q, la, a, t, e) k v with | some r => (true, r) | none => (false, (m, got, st, q, la, a, t, e))) := by
  have hp := v_parts hv
  dsimp only at hp
  obtain ⟨v1, v2, v3, v4, v5, v6, v7, _, _⟩ := hp
  unfold m_impl_Poll_do
  have a1 : apB q.length ([v] : List Int).length = true := decide_eq_true (by simp; omega)
  by_cases n0 : k = 0
  · subst n0; rw [pd0]; simp only [show ((0 : Int) == 0) = true from rfl, cond_true, a1, chk_true, Option.bind_some, Sum.elim_inl]
  by_cases n1 : k = 1
  · subst n1; rw [pd1]; simp only [show ((1 : Int) == 0) = false from rfl, show ((1 : Int) == 1) = true from rfl, cond_true, cond_false, Option.bind_some, Sum.elim_inl]
  by_cases n2 : k = 2
  · subst n2; rw [pd2]; simp only [show ((2 : Int) == 0) = false from rfl, show ((2 : Int) == 1) = false from rfl, show ((2 : Int) == 2) = true from rfl, cond_true, cond_false, iHear]
    by_cases ha : a = -1
    · simp only [ha, show ((-1 : Int) == -1) = true from rfl, cond_true, Option.bind_some, Sum.elim_inl, Sum.elim_inr, if_true]
    · simp only [beq_no ha, cond_false, Option.bind_some, Sum.elim_inl, Sum.elim_inr, if_neg ha]
  by_cases n3 : k = 3
  · subst n3; rw [pd3]; simp only [show ((3 : Int) == 0) = false from rfl, show ((3 : Int) == 1) = false from rfl, show ((3 : Int) == 2) = false from rfl, show ((3 : Int) == 3) = true from rfl, cond_true, cond_false, iTake m got st q la a t e (by omega) v1]
    by_cases ha : t = -1
    · simp only [ha, show ((-1 : Int) == -1) = true from rfl, cond_true, Option.bind_some, Sum.elim_inl, Sum.elim_inr, if_true]
    · simp only [beq_no ha, cond_false, Option.bind_some, Sum.elim_inl, Sum.elim_inr, if_neg ha]
  by_cases n4 : k = 4
  · subst n4; rw [pd4]; simp only [show ((4 : Int) == 0) = false from rfl, show ((4 : Int) == 1) = false from rfl, show ((4 : Int) == 2) = false from rfl, show ((4 : Int) == 3) = false from rfl, show ((4 : Int) == 4) = true from rfl, cond_true, cond_false]
    by_cases ha : a = -1
    · simp only [ha, show ((-1 : Int) == -1) = true from rfl, cond_true, Option.bind_some, Sum.elim_inl, Sum.elim_inr, if_true]
    · simp only [beq_no ha, cond_false, Option.bind_some, Sum.elim_inl, Sum.elim_inr, if_neg ha]
  by_cases n5 : k = 5
  · subst n5; rw [pd5]; simp only [show ((5 : Int) == 0) = false from rfl, show ((5 : Int) == 1) = false from rfl, show ((5 : Int) == 2) = false from rfl, show ((5 : Int) == 3) = false from rfl, show ((5 : Int) == 4) = false from rfl, show ((5 : Int) == 5) = true from rfl, cond_true, cond_false]
    by_cases ha : t = -1
    · simp only [ha, show ((-1 : Int) == -1) = true from rfl, cond_true, Option.bind_some, Sum.elim_inl, Sum.elim_inr, if_true]
    · simp only [beq_no ha, cond_false, Option.bind_some, Sum.elim_inl, Sum.elim_inr, if_neg ha]
  rw [pd6 k v _ n0 n1 n2 n3 n4 n5]
  simp only [beq_no n0, beq_no n1, beq_no n2, beq_no n3, beq_no n4, beq_no n5, cond_false, Option.bind_some, Sum.elim_inl, Sum.elim_inr]
theorem iPd : m_impl_PollDo m got st q la a t e k v = some (out9 (pollDo (m, got, st, q, la, a, t, e) k v)) := by
  unfold m_impl_PollDo pollDo
  rw [iPv m got st q la a t e (by omega) (by omega)]
  cases hv : pollV (m, got, st, q, la, a, t, e)
  · rfl
  simp only [Option.bind_some, cond_true, iPc m got st q la a t e (by omega) (by omega), iDoP m got st q la a t e k v h1 h2 hv, if_true]
  generalize hr : pollDeed (m, got, st, q, la, a, t, e) k v = o
  cases o with
  | none => simp [gb, out9]
  | some r =>
    have hl := deed_len k v hr
    dsimp only at hl
    simp only [iPv r.1 r.2.1 r.2.2.1 r.2.2.2.1 r.2.2.2.2.1 r.2.2.2.2.2.1 r.2.2.2.2.2.2.1 r.2.2.2.2.2.2.2 (by omega) (by omega), Bool.not_true, Bool.not_false, gb_some, Bool.true_and, Option.bind_some, Bool.false_or]
    cases pollV r <;> rfl
theorem sPd : m_spec_PollDo m got st q la a t e k v = some (out9 (pollDo (m, got, st, q, la, a, t, e) k v)) := by
  unfold m_spec_PollDo pollDo
  rw [sPv m got st q la a t e (by omega) (by omega)]
  cases hv : pollV (m, got, st, q, la, a, t, e)
  · rfl
  have hp := v_parts hv
  dsimp only at hp
  obtain ⟨v1, v2, v3, v4, v5, v6, v7, _, _⟩ := hp
  have a1 : apB q.length ([v] : List Int).length = true := decide_eq_true (by simp; omega)
  simp only [Option.bind_some, cond_true, sPc m got st q la a t e (by omega) (by omega), if_true]
  have fin : ∀ r : Pl, r.2.1.length ≤ 2000000 → r.2.2.2.1.length ≤ 2000000 → (Option.bind (m_spec_PollValid r.1 r.2.1 r.2.2.1 r.2.2.2.1 r.2.2.2.2.1 r.2.2.2.2.2.1 r.2.2.2.2.2.2.1 r.2.2.2.2.2.2.2) (fun (p169 : Bool) => (bif p169 then some (r.1, r.2.1, r.2.2.1, r.2.2.2.1, r.2.2.2.2.1, r.2.2.2.2.2.1, r.2.2.2.2.2.2.1, r.2.2.2.2.2.2.2, true) else some (m, got, st, q, la, a, t, e, false)))) = some (out9 (if pollV r = true then (r, true) else ((m, got, st, q, la, a, t, e), false))) := by
    intro r l1 l2
    rw [sPv r.1 r.2.1 r.2.2.1 r.2.2.2.1 r.2.2.2.2.1 r.2.2.2.2.2.1 r.2.2.2.2.2.2.1 r.2.2.2.2.2.2.2 l1 l2]
    simp only [Option.bind_some]
    cases hr : pollV r
    · rfl
    · rfl
  have l1 := hear_len m got st q la a t e
  have l2 := take_len m got st q la a t e
  rw [le_s (.inl v3), le_s (.inl v4)]
  by_cases n0 : k = 0
  · subst n0; rw [pd0]; simp only [show ((0 : Int) == 0) = true from rfl, cond_true, a1, chk_true, Option.bind_some, Sum.elim_inl]
    exact fin (m, got, st, q ++ [v], la, a, t, e) (by dsimp only; omega) (by simp; omega)
  by_cases n1 : k = 1
  · subst n1; rw [pd1]; simp only [show ((1 : Int) == 0) = false from rfl, show ((1 : Int) == 1) = true from rfl, cond_true, cond_false, Option.bind_some, Sum.elim_inl]
    exact fin (m, got, st, q, la, m, t, e) (by dsimp only; omega) (by dsimp only; omega)
  by_cases n2 : k = 2
  · subst n2; rw [pd2]; simp only [show ((2 : Int) == 0) = false from rfl, show ((2 : Int) == 1) = false from rfl, show ((2 : Int) == 2) = true from rfl, show ((2 : Int) == 3) = false from rfl, show ((2 : Int) == 4) = false from rfl, show ((2 : Int) == 5) = false from rfl, Bool.true_and, Bool.false_and, cond_true, cond_false, sHear]
    by_cases ha : a = -1
    · simp only [ha, show ((-1 : Int) == -1) = true from rfl, Bool.not_true, cond_false, cond_true, Option.bind_some, Sum.elim_inl, Sum.elim_inr, if_true]; rfl
    · simp only [beq_no ha, Bool.not_false, cond_true, cond_false, Option.bind_some, Sum.elim_inl, Sum.elim_inr, if_neg ha]
      exact fin (hearP (m, got, st, q, la, a, t, e)) (by omega) (by omega)
  by_cases n3 : k = 3
  · subst n3; rw [pd3]; simp only [show ((3 : Int) == 0) = false from rfl, show ((3 : Int) == 1) = false from rfl, show ((3 : Int) == 2) = false from rfl, show ((3 : Int) == 3) = true from rfl, show ((3 : Int) == 4) = false from rfl, show ((3 : Int) == 5) = false from rfl, Bool.true_and, Bool.false_and, cond_true, cond_false, sTake m got st q la a t e (by omega) v1 v6]
    by_cases ha : t = -1
    · simp only [ha, show ((-1 : Int) == -1) = true from rfl, Bool.not_true, cond_false, cond_true, Option.bind_some, Sum.elim_inl, Sum.elim_inr, if_true]; rfl
    · simp only [beq_no ha, Bool.not_false, cond_true, cond_false, Option.bind_some, Sum.elim_inl, Sum.elim_inr, if_neg ha]
      exact fin (takeP (m, got, st, q, la, a, t, e)) (by omega) (by omega)
  by_cases n4 : k = 4
  · subst n4; rw [pd4]; simp only [show ((4 : Int) == 0) = false from rfl, show ((4 : Int) == 1) = false from rfl, show ((4 : Int) == 2) = false from rfl, show ((4 : Int) == 3) = false from rfl, show ((4 : Int) == 4) = true from rfl, show ((4 : Int) == 5) = false from rfl, Bool.true_and, Bool.false_and, cond_true, cond_false]
    by_cases ha : a = -1
    · simp only [ha, show ((-1 : Int) == -1) = true from rfl, Bool.not_true, cond_false, cond_true, Option.bind_some, Sum.elim_inl, Sum.elim_inr, if_true]; rfl
    · simp only [beq_no ha, Bool.not_false, cond_true, cond_false, Option.bind_some, Sum.elim_inl, Sum.elim_inr, if_neg ha]
      exact fin (m, got, st, q, la, -1, t, e) (by dsimp only; omega) (by dsimp only; omega)
  by_cases n5 : k = 5
  · subst n5; rw [pd5]; simp only [show ((5 : Int) == 0) = false from rfl, show ((5 : Int) == 1) = false from rfl, show ((5 : Int) == 2) = false from rfl, show ((5 : Int) == 3) = false from rfl, show ((5 : Int) == 4) = false from rfl, show ((5 : Int) == 5) = true from rfl, Bool.true_and, Bool.false_and, cond_true, cond_false]
    by_cases ha : t = -1
    · simp only [ha, show ((-1 : Int) == -1) = true from rfl, Bool.not_true, cond_false, cond_true, Option.bind_some, Sum.elim_inl, Sum.elim_inr, if_true]; rfl
    · simp only [beq_no ha, Bool.not_false, cond_true, cond_false, Option.bind_some, Sum.elim_inl, Sum.elim_inr, if_neg ha]
      exact fin (m, got, st, q, la, a, -1, -1) (by dsimp only; omega) (by dsimp only; omega)
  rw [pd6 k v _ n0 n1 n2 n3 n4 n5]
  simp only [beq_no n0, beq_no n1, beq_no n2, beq_no n3, beq_no n4, beq_no n5, Bool.false_and, cond_false, Option.bind_some, Sum.elim_inl, Sum.elim_inr]
  rfl
end
/-! Runs. -/
theorem pollDo_valid {p r : Pl} {k v : Int} (h : pollDo p k v = (r, true)) : pollV r = true := by
  unfold pollDo at h
  split at h
  · split at h
    · split at h
      · injection h with h _; subst h; assumption
      · simp at h
    · simp at h
  · simp at h
def prStep (r : Pl × Nat) (d : Int × Int) : Pl × Nat := if (pollDo r.1 d.1 d.2).2 then ((pollDo r.1 d.1 d.2).1, r.2 + 1) else r
def prTo (p : Pl) (l : List (Int × Int)) (k : Nat) : Pl × Nat := (l.take k).foldl prStep (p, 0)
def pollRun (p : Pl) (l : List (Int × Int)) : Pl × Nat := if pollV p then l.foldl prStep (p, 0) else (zeroP, 0)
theorem prStep_valid {r : Pl × Nat} (h : pollV r.1 = true) (d : Int × Int) : pollV (prStep r d).1 = true ∧ (prStep r d).2 ≤ r.2 + 1 := by
  unfold prStep
  split
  · rename_i hd
    exact ⟨pollDo_valid (p := r.1) (k := d.1) (v := d.2) (r := (pollDo r.1 d.1 d.2).1) (by rw [← hd]), Nat.le_refl _⟩
  · exact ⟨h, Nat.le_succ _⟩
theorem fold_pr (l : List (Int × Int)) : ∀ r : Pl × Nat, pollV r.1 = true → pollV (l.foldl prStep r).1 = true ∧ (l.foldl prStep r).2 ≤ r.2 + l.length := by
  induction l with
  | nil => intro r h; exact ⟨h, Nat.le_refl _⟩
  | cons d l ih =>
    intro r h
    have h1 := prStep_valid h d
    have h2 := ih _ h1.1
    exact ⟨h2.1, by simp only [List.foldl_cons, List.length_cons]; omega⟩
theorem prTo_succ {p : Pl} {l : List (Int × Int)} {k : Nat} (h : k < l.length) : prTo p l (k + 1) = prStep (prTo p l k) (l.getD k (0, 0)) := by
  unfold prTo; rw [List.take_succ_eq_append_getElem h, List.foldl_append, getD_ge h]; rfl
theorem v_len {p : Pl} (h : pollV p = true) : p.2.1.length ≤ 12 ∧ p.2.2.2.1.length ≤ 12 := by
  have := (v_parts h).2.2.2.2.2.2.1
  omega
section
variable (m : Int) (got : List Int) (st : Int) (q : List Int) (la a t e : Int) (l : List (Int × Int)) (h1 : got.length ≤ 1048576) (h2 : q.length ≤ 1048576) (h3 : l.length ≤ 1048576)
include h1 h2 h3
theorem sPr : m_spec_PollRun m got st q la a t e l = some (out9 ((pollRun (m, got, st, q, la, a, t, e) l).1, ((pollRun (m, got, st, q, la, a, t, e) l).2 : Int))) := by
  unfold m_spec_PollRun pollRun
  rw [sPv m got st q la a t e (by omega) (by omega)]
  cases hv : pollV (m, got, st, q, la, a, t, e)
  · rfl
  simp only [Option.bind_some, cond_true, sPc m got st q la a t e (by omega) (by omega), if_true]
  have h := loop_all (m_spec_PollRun_l1 l) (fun k => (((prTo (m, got, st, q, la, a, t, e) l k).2 : Int), (k : Int), (prTo (m, got, st, q, la, a, t, e) l k).1)) l.length (some (((prTo (m, got, st, q, la, a, t, e) l l.length).2 : Int), (prTo (m, got, st, q, la, a, t, e) l l.length).1)) (by omega) (fun k fuel hk => ?_) (fun fuel => ?_)
  · rw [show m_spec_PollRun_l1 l FUEL (0, 0, m, got, st, q, la, a, t, e) = _ from h]
    have : prTo (m, got, st, q, la, a, t, e) l l.length = l.foldl prStep ((m, got, st, q, la, a, t, e), 0) := by unfold prTo; rw [List.take_length]
    rw [this]; rfl
  · have hf := fold_pr (l.take k) ((m, got, st, q, la, a, t, e), 0) hv
    have hf : pollV (prTo (m, got, st, q, la, a, t, e) l k).1 = true ∧ (prTo (m, got, st, q, la, a, t, e) l k).2 ≤ k := ⟨hf.1, by have := hf.2; simp at this; unfold prTo; omega⟩
    rw [m_spec_PollRun_l1.eq_2, prTo_succ hk]
    generalize prTo (m, got, st, q, la, a, t, e) l k = r at *
    have hl := v_len hf.1
    simp only [lt_dec hk, ix_dec hk, chk_true, cond_true, Int.toNat_natCast, w64_succ (by omega : k < 4611686018427387904), w64_succ (by omega : r.2 < 4611686018427387904)]
    rw [sPd r.1.1 r.1.2.1 r.1.2.2.1 r.1.2.2.2.1 r.1.2.2.2.2.1 r.1.2.2.2.2.2.1 r.1.2.2.2.2.2.2.1 r.1.2.2.2.2.2.2.2 _ _ (by omega) (by omega)]
    simp only [Option.bind_some, prStep, out9]
    cases (pollDo r.1 (l.getD k (0, 0)).1 (l.getD k (0, 0)).2).2 <;> rfl
  · rw [m_spec_PollRun_l1.eq_2]; simp only [nlt_dec, cond_false]
theorem iPr : m_impl_PollRun m got st q la a t e l = some (out9 ((pollRun (m, got, st, q, la, a, t, e) l).1, ((pollRun (m, got, st, q, la, a, t, e) l).2 : Int))) := by
  unfold m_impl_PollRun pollRun
  rw [iPv m got st q la a t e (by omega) (by omega)]
  cases hv : pollV (m, got, st, q, la, a, t, e)
  · rfl
  simp only [Option.bind_some, cond_true, iPc m got st q la a t e (by omega) (by omega), if_true]
  have h := loop_all (m_impl_PollRun_l1 l) (fun k => (((prTo (m, got, st, q, la, a, t, e) l k).2 : Int), (k : Int), (prTo (m, got, st, q, la, a, t, e) l k).1)) l.length (some (((prTo (m, got, st, q, la, a, t, e) l l.length).2 : Int), (prTo (m, got, st, q, la, a, t, e) l l.length).1)) (by omega) (fun k fuel hk => ?_) (fun fuel => ?_)
  · rw [show m_impl_PollRun_l1 l FUEL (0, 0, m, got, st, q, la, a, t, e) = _ from h]
    have : prTo (m, got, st, q, la, a, t, e) l l.length = l.foldl prStep ((m, got, st, q, la, a, t, e), 0) := by unfold prTo; rw [List.take_length]
    rw [this]; rfl
  · have hf := fold_pr (l.take k) ((m, got, st, q, la, a, t, e), 0) hv
    have hf : pollV (prTo (m, got, st, q, la, a, t, e) l k).1 = true ∧ (prTo (m, got, st, q, la, a, t, e) l k).2 ≤ k := ⟨hf.1, by have := hf.2; simp at this; unfold prTo; omega⟩
    rw [m_impl_PollRun_l1.eq_2, prTo_succ hk]
    generalize prTo (m, got, st, q, la, a, t, e) l k = r at *
    have hl := v_len hf.1
    simp only [lt_dec hk, ix_dec hk, chk_true, cond_true, Int.toNat_natCast, w64_succ (by omega : k < 4611686018427387904), w64_succ (by omega : r.2 < 4611686018427387904)]
    rw [iPd r.1.1 r.1.2.1 r.1.2.2.1 r.1.2.2.2.1 r.1.2.2.2.2.1 r.1.2.2.2.2.2.1 r.1.2.2.2.2.2.2.1 r.1.2.2.2.2.2.2.2 _ _ (by omega) (by omega)]
    simp only [Option.bind_some, prStep, out9]
    cases (pollDo r.1 (l.getD k (0, 0)).1 (l.getD k (0, 0)).2).2 <;> rfl
  · rw [m_impl_PollRun_l1.eq_2]; simp only [nlt_dec, cond_false]
end
theorem pollRun_len (p : Pl) (l : List (Int × Int)) : (pollRun p l).1.2.1.length ≤ 12 ∧ (pollRun p l).1.2.2.2.1.length ≤ 12 := by
  unfold pollRun
  split
  · rename_i h; exact v_len (fold_pr l (p, 0) h).1
  · simp [zeroP]
theorem pollRun_valid {p : Pl} (h : pollV p = true) (l : List (Int × Int)) : pollV (pollRun p l).1 = true := by
  unfold pollRun; rw [if_pos h]; exact (fold_pr l (p, 0) h).1
/-! Draining. -/
def acts : List (Int × Int) := [(1, 0), (2, 0), (3, 0)]
def drTo (p : Pl) : Nat → Pl
  | 0 => p
  | k + 1 => (pollRun (drTo p k) acts).1
def pollDrain (p : Pl) : Pl := if pollV p then drTo p (p.2.2.2.1.length + 1) else zeroP
theorem drTo_valid {p : Pl} (h : pollV p = true) (k : Nat) : pollV (drTo p k) = true := by
  induction k with
  | zero => exact h
  | succ k ih => exact pollRun_valid ih acts
section
variable (m : Int) (got : List Int) (st : Int) (q : List Int) (la a t e : Int) (h1 : got.length ≤ 1048576) (h2 : q.length ≤ 1048576)
include h1 h2
theorem sPdr : m_spec_PollDrain m got st q la a t e = some (pollDrain (m, got, st, q, la, a, t, e)) := by
  unfold m_spec_PollDrain pollDrain
  rw [sPv m got st q la a t e (by omega) (by omega)]
  cases hv : pollV (m, got, st, q, la, a, t, e)
  · rfl
  simp only [Option.bind_some, cond_true, sPc m got st q la a t e (by omega) (by omega), if_true]
  have h := loop_all (m_spec_PollDrain_l1 q) (fun k => ((k : Int), drTo (m, got, st, q, la, a, t, e) k)) (q.length + 1) (some (drTo (m, got, st, q, la, a, t, e) (q.length + 1))) (by omega) (fun k fuel hk => ?_) (fun fuel => ?_)
  · rw [show m_spec_PollDrain_l1 q FUEL (0, m, got, st, q, la, a, t, e) = _ from h]; rfl
  · rw [m_spec_PollDrain_l1.eq_2]
    have hl := v_len (drTo_valid hv k)
    have c1 : leB (k : Int) (q.length : Int) = true := decide_eq_true (by omega)
    simp only [drTo]
    generalize drTo (m, got, st, q, la, a, t, e) k = r at *
    simp only [c1, cond_true, w64_succ (by omega : k < 4611686018427387904)]
    rw [sPr r.1 r.2.1 r.2.2.1 r.2.2.2.1 r.2.2.2.2.1 r.2.2.2.2.2.1 r.2.2.2.2.2.2.1 r.2.2.2.2.2.2.2 _ (by omega) (by omega) (by simp)]
    rfl
  · rw [m_spec_PollDrain_l1.eq_2]
    have c1 : leB ((q.length + 1 : Nat) : Int) (q.length : Int) = false := decide_eq_false (by omega)
    simp only [c1, cond_false]
theorem iPdr : m_impl_PollDrain m got st q la a t e = some (pollDrain (m, got, st, q, la, a, t, e)) := by
  unfold m_impl_PollDrain pollDrain
  rw [iPv m got st q la a t e (by omega) (by omega)]
  cases hv : pollV (m, got, st, q, la, a, t, e)
  · rfl
  simp only [Option.bind_some, cond_true, if_true]
  let fl : Pl → Bool → Int × List Int × Bool × Int × List Int × Bool × Int × Int × Int × Int := fun r b => (r.1, r.2.1, b, r.2.2.1, r.2.2.2.1, b, r.2.2.2.2)
  have h := loop_all (m_impl_PollDrain_l1 q) (fun k => ((k : Int), fl (drTo (m, got, st, q, la, a, t, e) k) (decide (0 < k)))) (q.length + 1) (some (fl (drTo (m, got, st, q, la, a, t, e) (q.length + 1)) true)) (by omega) (fun k fuel hk => ?_) (fun fuel => ?_)
  · rw [show m_impl_PollDrain_l1 q FUEL (0, m, got, false, st, q, false, la, a, t, e) = _ from h]; rfl
  · rw [m_impl_PollDrain_l1.eq_2]
    have hl := v_len (drTo_valid hv k)
    have c1 : ltB (k : Int) (w64 ((q.length : Int) + 1)) = true := by rw [w64_succ (by omega)]; exact decide_eq_true (by omega)
    simp only [drTo]
    generalize drTo (m, got, st, q, la, a, t, e) k = r at *
    simp only [c1, cond_true, w64_succ (by omega : k < 4611686018427387904), fl]
    rw [iPr r.1 r.2.1 r.2.2.1 r.2.2.2.1 r.2.2.2.2.1 r.2.2.2.2.2.1 r.2.2.2.2.2.2.1 r.2.2.2.2.2.2.2 _ (by omega) (by omega) (by simp)]
    rw [show decide (0 < k + 1) = true from by simp]
    rfl
  · rw [m_impl_PollDrain_l1.eq_2]
    have c1 : ltB ((q.length + 1 : Nat) : Int) (w64 ((q.length : Int) + 1)) = false := by rw [w64_succ (by omega)]; exact decide_eq_false (by omega)
    rw [show decide (0 < q.length + 1) = true from by simp]
    simp only [c1, cond_false, fl]
theorem core_ExactPollDrain (_ : inR m) (_ : ∀ z ∈ got, inR z) (_ : inR st) (_ : ∀ z ∈ q, inR z) (_ : inR la) (_ : inR a) (_ : inR t) (_ : inR e) :
    ∃ r, m_spec_PollDrain m got st q la a t e = some r ∧ m_impl_PollDrain m got st q la a t e = some r ∧ r.2.1.length ≤ 1048576 ∧ r.2.2.2.1.length ≤ 1048576 := by
  have hl : (pollDrain (m, got, st, q, la, a, t, e)).2.1.length ≤ 12 ∧ (pollDrain (m, got, st, q, la, a, t, e)).2.2.2.1.length ≤ 12 := by
    unfold pollDrain; split
    · rename_i h; exact v_len (drTo_valid h _)
    · simp [zeroP]
  exact ⟨_, sPdr m got st q la a t e h1 h2, iPdr m got st q la a t e h1 h2, by omega, by omega⟩
theorem core_ExactPollDo' (k v : Int) (_ : inR m) (_ : ∀ z ∈ got, inR z) (_ : inR st) (_ : ∀ z ∈ q, inR z) (_ : inR la) (_ : inR a) (_ : inR t) (_ : inR e) :
    ∃ r, m_spec_PollDo m got st q la a t e k v = some r ∧ m_impl_PollDo m got st q la a t e k v = some r ∧ r.2.1.length ≤ 1048576 ∧ r.2.2.2.1.length ≤ 1048576 := by
  have hl : (pollDo (m, got, st, q, la, a, t, e) k v).1.2.1.length ≤ 12 ∧ (pollDo (m, got, st, q, la, a, t, e) k v).1.2.2.2.1.length ≤ 12 := by
    unfold pollDo; split
    · rename_i h
      split
      · split
        · rename_i h2; exact v_len h2
        · exact v_len h
      · exact v_len h
    · simp [zeroP]
  exact ⟨_, sPd m got st q la a t e k v h1 h2, iPd m got st q la a t e k v h1 h2, by simp only [out9]; omega, by simp only [out9]; omega⟩
end
theorem core_ExactPollDo (m : Int) (got : List Int) (st : Int) (q : List Int) (la a t e k v : Int) (h1 : got.length ≤ 1048576) (h2 : q.length ≤ 1048576) (r1 : inR m) (r2 : ∀ z ∈ got, inR z) (r3 : inR st) (r4 : ∀ z ∈ q, inR z) (r5 : inR la) (r6 : inR a) (r7 : inR t) (r8 : inR e) (_ : inR k) (_ : inR v) :
    ∃ r, m_spec_PollDo m got st q la a t e k v = some r ∧ m_impl_PollDo m got st q la a t e k v = some r ∧ r.2.1.length ≤ 1048576 ∧ r.2.2.2.1.length ≤ 1048576 := core_ExactPollDo' m got st q la a t e h1 h2 k v r1 r2 r3 r4 r5 r6 r7 r8
theorem core_ExactPollRun (m : Int) (got : List Int) (st : Int) (q : List Int) (la a t e : Int) (l : List (Int × Int)) (h1 : got.length ≤ 1048576) (h2 : q.length ≤ 1048576) (h3 : l.length ≤ 1048576) (_ : inR m) (_ : ∀ z ∈ got, inR z) (_ : inR st) (_ : ∀ z ∈ q, inR z) (_ : inR la) (_ : inR a) (_ : inR t) (_ : inR e) (_ : ∀ z ∈ l, inR z.1 ∧ inR z.2) :
    ∃ r, m_spec_PollRun m got st q la a t e l = some r ∧ m_impl_PollRun m got st q la a t e l = some r ∧ r.2.1.length ≤ 1048576 ∧ r.2.2.2.1.length ≤ 1048576 := by
  have hl := pollRun_len (m, got, st, q, la, a, t, e) l
  exact ⟨_, sPr m got st q la a t e l h1 h2 h3, iPr m got st q la a t e l h1 h2 h3, by simp only [out9]; omega, by simp only [out9]; omega⟩
end Go.Proofs.YtceghkdjpkegaaaDoor
