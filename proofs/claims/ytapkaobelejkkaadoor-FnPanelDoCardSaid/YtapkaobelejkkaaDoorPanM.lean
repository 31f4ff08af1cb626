/- Panels: what the functions compute, in plain Lean; the models are these functions. -/
import Derived.Test.YtapkaobelejkkaaDoorDaH
import Derived.Test.YtapkaobelejkkaaDoorPre
namespace Go.Proofs.YtapkaobelejkkaaDoor
set_option linter.unusedVariables false
set_option linter.unusedSimpArgs false


abbrev Pan := List Bool × Int × Int × Bool × Int
abbrev Cmd := Int × Int × Int × Bool
def panV (on : List Bool) (who at_ : Int) (to_ : Bool) (left : Int) : Bool :=
  inB (on.length : Int) 1 10 && (if who = -1 then (at_ == 0) && !to_ && (left == 0) else inB who 0 9 && inB at_ 0 ((on.length : Int) - 1) && (on.getD at_.toNat false != to_) && inB left 1 3)
structure PanOk (on : List Bool) (who at_ : Int) (to_ : Bool) (left : Int) : Prop where
  l0 : 1 ≤ on.length
  l1 : on.length ≤ 10
  none_ : who = -1 → at_ = 0 ∧ to_ = false ∧ left = 0
  some_ : who ≠ -1 → 0 ≤ who ∧ who ≤ 9 ∧ 0 ≤ at_ ∧ at_ < (on.length : Int) ∧ on.getD at_.toNat false ≠ to_ ∧ 1 ≤ left ∧ left ≤ 3
theorem pan_ok {on : List Bool} {who at_ : Int} {to_ : Bool} {left : Int} (h : panV on who at_ to_ left = true) : PanOk on who at_ to_ left := by
  simp only [panV, Bool.and_eq_true] at h
  obtain ⟨h1, h2⟩ := h
  have h1 := inB_iff.1 h1
  refine ⟨by omega, by omega, fun e => ?_, fun e => ?_⟩
  · rw [if_pos e] at h2; simpa [and_assoc] using h2
  · rw [if_neg e] at h2
    simp only [Bool.and_eq_true, inB_iff, bne_iff_ne] at h2
    obtain ⟨⟨⟨a, b⟩, c⟩, d⟩ := h2
    exact ⟨a.1, a.2, b.1, by omega, c, d.1, d.2⟩
def panDo (on : List Bool) (who at_ : Int) (to_ : Bool) (left kd w a : Int) (t : Bool) : Pan × Bool :=
  if kd = 0 then (if who = -1 ∧ 0 ≤ w ∧ w ≤ 9 ∧ 0 ≤ a ∧ a < (on.length : Int) ∧ on.getD a.toNat false ≠ t then ((on, w, a, t, 3), true) else ((on, who, at_, to_, left), false))
  else if kd = 1 then (if who ≠ -1 ∧ w = who ∧ a = at_ ∧ t = to_ then ((on.set a.toNat t, -1, 0, false, 0), true) else ((on, who, at_, to_, left), false))
  else if kd = 2 then (if who ≠ -1 ∧ w = who then ((on, -1, 0, false, 0), true) else ((on, who, at_, to_, left), false))
  else if kd = 3 then ((if who ≠ -1 then (if left = 1 then (on, -1, 0, false, 0) else (on, who, at_, to_, left - 1)) else (on, who, at_, to_, left)), true)
  else ((on, who, at_, to_, left), false)
def panDoV (p : Pan) (c : Cmd) : Pan × Bool := if panV p.1 p.2.1 p.2.2.1 p.2.2.2.1 p.2.2.2.2 then panDo p.1 p.2.1 p.2.2.1 p.2.2.2.1 p.2.2.2.2 c.1 c.2.1 c.2.2.1 c.2.2.2 else (([], 0, 0, false, 0), false)
def out6 (r : Pan × Bool) : List Bool × Int × Int × Bool × Int × Bool := (r.1.1, r.1.2.1, r.1.2.2.1, r.1.2.2.2.1, r.1.2.2.2.2, r.2)

section
variable (on : List Bool) (who at_ : Int) (to_ : Bool) (left : Int) (hn : on.length ≤ 1048576)
include hn
theorem iPanV : m_impl_PanelValid on who at_ to_ left = some (panV on who at_ to_ left) := by
  unfold m_impl_PanelValid panV
  by_cases h1 : (on.length : Int) < 1
  · have : inB (on.length : Int) 1 10 = false := by simp [inB]; omega
    simp [ltB, h1, this]
  by_cases h2 : 10 < (on.length : Int)
  · have : inB (on.length : Int) 1 10 = false := by simp [inB]; omega
    simp [ltB, h1, h2, this]
  have h3 : inB (on.length : Int) 1 10 = true := by simp [inB]; omega
  have e1 : ltB (on.length : Int) 1 = false := by simp [ltB]; omega
  have e2 : ltB 10 (on.length : Int) = false := by simp [ltB]; omega
  rw [e1, e2, h3]
  by_cases h4 : who = -1
  · simp [h4]
  · have e3 : (who == -1) = false := by simpa using h4
    have e4 : ltB at_ (on.length : Int) = leB at_ ((on.length : Int) - 1) := by simp only [ltB, leB]; congr 1; exact propext (by omega)
    have e5 : (!(leB 0 who && leB who 9 && leB 0 at_ && leB at_ ((on.length : Int) - 1)) || ixB at_ on.length) = true := by
      cases hx : ixB at_ on.length
      · have : ¬ (0 ≤ at_ ∧ at_ < (on.length : Int)) := of_decide_eq_false hx
        simp [leB]; omega
      · simp
    rw [if_neg h4, e3]
    simp only [Bool.or_false, cond_false, e4, e5, chk_true]
    simp only [inB_le, Bool.true_and, Bool.and_assoc]
theorem sPanV : m_spec_PanelValid on who at_ to_ left = some (panV on who at_ to_ left) := by
  unfold m_spec_PanelValid panV m_spec_l1In
  have w5 : w64 ((on.length : Int) - 1) = (on.length : Int) - 1 := w64_in (by omega) (by omega)
  rw [w5]
  simp only [inB_le]
  cases h3 : (leB 1 (on.length : Int) && leB (on.length : Int) 10)
  · simp
  · by_cases h4 : who = -1
    · simp [h4]
    · have e3 : (who == -1) = false := by simpa using h4
      have e5 : (leB 0 at_ && leB at_ ((on.length : Int) - 1)) = true → ixB at_ on.length = true := by simp [leB, ixB]; omega
      rw [if_neg h4, e3]
      cases h5 : (leB 0 who && leB who 9)
      · simp [gb]
      · cases h6 : (leB 0 at_ && leB at_ ((on.length : Int) - 1))
        · simp [gb, h6]
        · simp only [Option.bind_some, cond_true, cond_false, gb, Bool.and_self, h6, e5 h6, Bool.not_true, Bool.false_or, chk_true, Bool.true_and]
          cases (on.getD at_.toNat false != to_) <;> simp
theorem panClone : m_impl_Panel_clone on who at_ to_ left = some (on, who, at_, to_, left) := by
  have : apB ([] : List Bool).length on.length = true := by simp [apB]; omega
  simp only [m_impl_Panel_clone, m_slices_Clone_bool_bool, this, chk_true, Option.bind_some]
theorem panCopy : m_spec_l29Copy on who at_ to_ left = some (on, who, at_, to_, left) := by
  have : apB ([] : List Bool).length on.length = true := by simp [apB]; omega
  simp only [m_spec_l29Copy, m_spec_l2Copy, this, chk_true, Option.bind_some, List.nil_append]
theorem panClear : m_spec_l29Clear on who at_ to_ left = some (on, -1, 0, false, 0) := by
  have : apB ([] : List Bool).length on.length = true := by simp [apB]; omega
  simp only [m_spec_l29Clear, m_spec_l2Copy, this, chk_true, Option.bind_some, List.nil_append]
end
theorem iPanDo (p : Pan) (c : Cmd) (hn : p.1.length ≤ 1048576) : m_impl_PanelDo p.1 p.2.1 p.2.2.1 p.2.2.2.1 p.2.2.2.2 c.1 c.2.1 c.2.2.1 c.2.2.2 = some (out6 (panDoV p c)) := by
  obtain ⟨on, who, at_, to_, left⟩ := p
  obtain ⟨kd, w, a, t⟩ := c
  simp only at hn ⊢
  unfold m_impl_PanelDo panDoV m_impl_Panel_unselect
  simp only [iPanV _ _ _ _ _ hn, panClone _ _ _ _ _ hn]
  cases hv : panV on who at_ to_ left
  · simp [out6]
  have ok := pan_ok hv
  have l1 := ok.l1
  have w1 : who ≠ -1 → w64 (left - 1) = left - 1 := fun h => by have := ok.some_ h; exact w64_in (by omega) (by omega)
  simp only [Option.bind_some, cond_true, if_true]
  unfold panDo
  by_cases k0 : kd = 0
  · subst k0
    have e5 : (!(!(who != -1 || ltB w 0 || ltB 9 w || ltB a 0 || leB (on.length : Int) a)) || ixB a on.length) = true := by
      cases hx : ixB a on.length
      · have : ¬ (0 ≤ a ∧ a < (on.length : Int)) := of_decide_eq_false hx
        simp [leB, ltB]; omega
      · simp
    simp only [beq_self_eq_true, cond_true, e5, chk_true, if_true]
    by_cases hc : who = -1 ∧ 0 ≤ w ∧ w ≤ 9 ∧ 0 ≤ a ∧ a < (on.length : Int) ∧ on.getD a.toNat false ≠ t
    · have e6 : (who != -1 || ltB w 0 || ltB 9 w || ltB a 0 || leB (on.length : Int) a || on.getD a.toNat false == t) = false := by
        obtain ⟨c1, c2, c3, c4, c5, c6⟩ := hc
        have c6' : (on.getD a.toNat false == t) = false := by simpa using c6
        rw [c6']; simp [leB, ltB, c1]; omega
      rw [e6, if_pos hc]; rfl
    · have e6 : (who != -1 || ltB w 0 || ltB 9 w || ltB a 0 || leB (on.length : Int) a || on.getD a.toNat false == t) = true := by
        cases hx : (on.getD a.toNat false == t)
        · have hx : on.getD a.toNat false ≠ t := by simpa using hx
          by_cases hw : who = -1
          · have : ¬ (0 ≤ w ∧ w ≤ 9 ∧ 0 ≤ a ∧ a < (on.length : Int)) := fun h => hc ⟨hw, h.1, h.2.1, h.2.2.1, h.2.2.2, hx⟩
            simp [leB, ltB, hw]; omega
          · simp [hw]
        · simp
      rw [e6, if_neg hc]; rfl
  have k0' : (kd == 0) = false := by simpa using k0
  by_cases k1 : kd = 1
  · subst k1
    simp only [k0', cond_false, beq_self_eq_true, cond_true, if_neg k0, if_true]
    by_cases hc : who ≠ -1 ∧ w = who ∧ a = at_ ∧ t = to_
    · obtain ⟨c1, rfl, rfl, rfl⟩ := hc
      obtain ⟨o1, o2, o3, o4, _⟩ := ok.some_ c1
      have e6 : (w == -1 || w != w || a != a || t != t) = false := by simpa using c1
      have e7 : ixB a on.length = true := by simp [ixB]; omega
      rw [e6, if_pos ⟨c1, rfl, rfl, rfl⟩]
      simp only [cond_false, e7, chk_true]; rfl
    · have e6 : (who == -1 || w != who || a != at_ || t != to_) = true := by
        by_cases c1 : who = -1
        · simp [c1]
        · by_cases c2 : w = who
          · by_cases c3 : a = at_
            · have : t ≠ to_ := fun e => hc ⟨c1, c2, c3, e⟩
              simp [this]
            · simp [c3]
          · simp [c2]
      rw [e6, if_neg hc]; rfl
  have k1' : (kd == 1) = false := by simpa using k1
  by_cases k2 : kd = 2
  · subst k2
    simp only [k0', k1', cond_false, beq_self_eq_true, cond_true, if_neg k0, if_neg k1, if_true]
    by_cases hc : who ≠ -1 ∧ w = who
    · have e6 : (who == -1 || w != who) = false := by simp [hc.1, hc.2]
      rw [e6, if_pos hc]; rfl
    · have e6 : (who == -1 || w != who) = true := by
        by_cases c1 : who = -1
        · simp [c1]
        · have : w ≠ who := fun e => hc ⟨c1, e⟩
          simp [this]
      rw [e6, if_neg hc]; rfl
  have k2' : (kd == 2) = false := by simpa using k2
  by_cases k3 : kd = 3
  · subst k3
    simp only [k0', k1', k2', cond_false, beq_self_eq_true, cond_true, if_neg k0, if_neg k1, if_neg k2, if_true]
    by_cases hw : who = -1
    · have e6 : (who != -1) = false := by simp [hw]
      rw [e6, if_neg (by simp [hw])]; rfl
    · have e6 : (who != -1) = true := by simp [hw]
      rw [e6, if_pos hw]
      simp only [cond_true, w1 hw]
      by_cases hl : left = 1
      · have e7 : (left - 1 == 0) = true := by simp [hl]
        rw [e7, if_pos hl]; rfl
      · have e7 : (left - 1 == 0) = false := by simp; omega
        rw [e7, if_neg hl]; rfl
  have k3' : (kd == 3) = false := by simpa using k3
  simp only [k0', k1', k2', k3', cond_false, if_neg k0, if_neg k1, if_neg k2, if_neg k3]; rfl
theorem sPanDo (p : Pan) (c : Cmd) (hn : p.1.length ≤ 1048576) : m_spec_PanelDo p.1 p.2.1 p.2.2.1 p.2.2.2.1 p.2.2.2.2 c.1 c.2.1 c.2.2.1 c.2.2.2 = some (out6 (panDoV p c)) := by
  obtain ⟨on, who, at_, to_, left⟩ := p
  obtain ⟨kd, w, a, t⟩ := c
  simp only at hn ⊢
  unfold m_spec_PanelDo panDoV m_spec_l1In
  simp only [sPanV _ _ _ _ _ hn, panCopy _ _ _ _ _ hn, panClear _ _ _ _ _ hn]
  cases hv : panV on who at_ to_ left
  · simp [out6]
  have ok := pan_ok hv
  have l1 := ok.l1
  have w5 : w64 ((on.length : Int) - 1) = (on.length : Int) - 1 := w64_in (by omega) (by omega)
  have hwho : leB 0 who = !(who == -1) := by
    by_cases h : who = -1
    · simp [h, leB]
    · have := ok.some_ h; rw [show leB 0 who = true from decide_eq_true this.1]; simp [h]
  simp only [Option.bind_some, cond_true, if_true, w5, hwho]
  unfold panDo
  by_cases k0 : kd = 0
  · subst k0
    have e1 : ((0 : Int) == 1) = false := rfl
    have e2 : ((0 : Int) == 2) = false := rfl
    have e3 : ((0 : Int) == 3) = false := rfl
    simp only [beq_self_eq_true, Bool.true_and, e1, e2, e3, Bool.false_and, cond_false, Option.bind_some, Sum.elim_inr, if_true]
    by_cases hw : who = -1
    · have hw' : (who == -1) = true := by simpa using hw
      simp only [hw', cond_true, gb, Option.bind_some, Bool.true_and]
      cases hA : (leB 0 w && leB w 9)
      · have : ¬ (0 ≤ w ∧ w ≤ 9) := by simp [leB] at hA; omega
        rw [if_neg (fun h => this ⟨h.2.1, h.2.2.1⟩)]; simp [out6]
      · cases hB : (leB 0 a && leB a ((on.length : Int) - 1))
        · have : ¬ (0 ≤ a ∧ a < (on.length : Int)) := by simp [leB] at hB; omega
          rw [if_neg (fun h => this ⟨h.2.2.2.1, h.2.2.2.2.1⟩)]; simp [out6]
        · have hA' : 0 ≤ w ∧ w ≤ 9 := by simpa [leB] using hA
          have hB' : 0 ≤ a ∧ a < (on.length : Int) := by simp [leB] at hB; omega
          have e7 : ixB a on.length = true := by simp [ixB]; omega
          simp only [Option.bind_some, cond_true, Bool.and_self, Bool.not_true, Bool.false_or, e7, chk_true, Bool.true_and]
          by_cases hq : on.getD a.toNat false = t
          · have hq' : (on.getD a.toNat false != t) = false := by simpa using hq
            rw [hq', if_neg (fun h => h.2.2.2.2.2 hq)]; rfl
          · have hq' : (on.getD a.toNat false != t) = true := by simpa using hq
            rw [hq', if_pos ⟨hw, hA'.1, hA'.2, hB'.1, hB'.2, hq⟩]; rfl
    · have hw' : (who == -1) = false := by simpa using hw
      rw [if_neg (fun h => hw h.1)]
      simp [hw', gb, out6]
  have k0' : (kd == 0) = false := by simpa using k0
  simp only [k0', Bool.false_and, gb, cond_false, Option.bind_some, Bool.not_false, Bool.true_or, chk_true, if_neg k0]
  by_cases k1 : kd = 1
  · subst k1
    have e2 : ((1 : Int) == 2) = false := rfl
    have e3 : ((1 : Int) == 3) = false := rfl
    simp only [beq_self_eq_true, Bool.true_and, e2, e3, Bool.false_and, cond_false, Option.bind_some, Sum.elim_inr, if_true]
    by_cases hc : who ≠ -1 ∧ w = who ∧ a = at_ ∧ t = to_
    · obtain ⟨c1, rfl, rfl, rfl⟩ := hc
      obtain ⟨o1, o2, o3, o4, _⟩ := ok.some_ c1
      have e6 : (!(w == -1) && w == w && a == a && t == t) = true := by simpa using c1
      have e7 : ixB a on.length = true := by simp [ixB]; omega
      rw [e6, if_pos ⟨c1, rfl, rfl, rfl⟩]
      simp only [cond_true, e7, chk_true]; rfl
    · have e6 : (!(who == -1) && w == who && a == at_ && t == to_) = false := by
        by_cases c1 : who = -1
        · simp [c1]
        · by_cases c2 : w = who
          · by_cases c3 : a = at_
            · have : t ≠ to_ := fun e => hc ⟨c1, c2, c3, e⟩
              simp [this]
            · simp [c3]
          · simp [c2]
      rw [e6, if_neg hc]; rfl
  have k1' : (kd == 1) = false := by simpa using k1
  simp only [k1', Bool.false_and, cond_false, if_neg k1]
  by_cases k2 : kd = 2
  · subst k2
    have e3 : ((2 : Int) == 3) = false := rfl
    simp only [beq_self_eq_true, Bool.true_and, e3, Bool.false_and, cond_false, if_true]
    by_cases hc : who ≠ -1 ∧ w = who
    · have e6 : (!(who == -1) && w == who) = true := by simp [hc.1, hc.2]
      rw [e6, if_pos hc]; rfl
    · have e6 : (!(who == -1) && w == who) = false := by
        by_cases c1 : who = -1
        · simp [c1]
        · have : w ≠ who := fun e => hc ⟨c1, e⟩
          simp [this]
      rw [e6, if_neg hc]; rfl
  have k2' : (kd == 2) = false := by simpa using k2
  simp only [k2', Bool.false_and, cond_false, if_neg k2]
  by_cases k3 : kd = 3
  · subst k3
    simp only [beq_self_eq_true, Bool.true_and, cond_true, if_true]
    by_cases hw : who = -1
    · obtain ⟨rfl, rfl, rfl⟩ := ok.none_ hw
      rw [if_neg (by simp [hw]), show ltB 1 0 = false from rfl, hw]; rfl
    · have hs := ok.some_ hw
      have w1 : w64 (left - 1) = left - 1 := w64_in (by omega) (by omega)
      rw [if_pos hw, w1]
      by_cases hl : left = 1
      · rw [if_pos hl, hl, show ltB 1 1 = false from rfl]; rfl
      · rw [if_neg hl, show ltB 1 left = true by simp [ltB]; omega]; rfl
  have k3' : (kd == 3) = false := by simpa using k3
  simp only [k3', Bool.false_and, cond_false, if_neg k3]; rfl
theorem panDo_len (p : Pan) (c : Cmd) : (panDoV p c).1.1.length ≤ p.1.length := by
  unfold panDoV panDo
  repeat' split
  all_goals simp
theorem core_ExactPanelDo (on : List Bool) (who at_ : Int) (to_ : Bool) (left kd w a : Int) (t : Bool) (hn : on.length ≤ 1048576) (_ : ∀ z ∈ on, True) (_ : inR who) (_ : inR at_) (_ : inR left) (_ : inR kd) (_ : inR w) (_ : inR a) :
    ∃ r, m_spec_PanelDo on who at_ to_ left kd w a t = some r ∧ m_impl_PanelDo on who at_ to_ left kd w a t = some r ∧ r.1.length ≤ 1048576 :=
  ⟨_, sPanDo (on, who, at_, to_, left) (kd, w, a, t) hn, iPanDo (on, who, at_, to_, left) (kd, w, a, t) hn, Nat.le_trans (panDo_len (on, who, at_, to_, left) (kd, w, a, t)) hn⟩

/-! Commands one after the other. -/
abbrev PR := List Bool × Pan
def prun (s : PR) (c : Cmd) : PR := (s.1 ++ [(panDoV s.2 c).2], (panDoV s.2 c).1)
theorem prun_len (l : List Cmd) : ∀ s : PR, (l.foldl prun s).1.length = s.1.length + l.length ∧ (l.foldl prun s).2.1.length ≤ s.2.1.length := by
  induction l with
  | nil => intro s; simp
  | cons c l ih =>
    intro s
    have h := ih (prun s c)
    have h2 := panDo_len s.2 c
    simp only [List.foldl_cons]
    refine ⟨by rw [h.1]; simp [prun]; omega, Nat.le_trans h.2 h2⟩
section
variable (l : List Cmd) (hl : l.length ≤ 1048576) (p : Pan) (hp : p.1.length ≤ 1048576)
include hl hp
theorem sRun_l : m_spec_PanelRun_l1 l FUEL ([], 0, p) = some (l.foldl prun ([], p)) := by
  have h := loop_all (m_spec_PanelRun_l1 l) (fun k => ((((l.take k).foldl prun ([], p)).1, (k : Int), ((l.take k).foldl prun ([], p)).2) : List Bool × Int × Pan)) l.length (some (l.foldl prun ([], p))) (by omega) (fun k fuel hk => ?_) (fun fuel => ?_)
  · simpa using h
  · have hb := prun_len (l.take k) ([], p)
    have hb1 : ((l.take k).foldl prun ([], p)).1.length = k := by rw [hb.1]; simp; omega
    rw [m_spec_PanelRun_l1.eq_2, take_fold prun l ([], p) (0, 0, 0, false) hk]
    simp only [lt_dec hk, ix_dec hk, chk_true, cond_true, Int.toNat_natCast, w64_succ (by omega : k < 4611686018427387904)]
    rw [sPanDo _ _ (Nat.le_trans hb.2 hp)]
    have ha : ∀ b : Bool, apB ((l.take k).foldl prun ([], p)).1.length [b].length = true := fun b => by simp [apB, hb1]; omega
    simp only [Option.bind_some, ha, chk_true]
    rfl
  · rw [m_spec_PanelRun_l1.eq_2]; simp [nlt_dec]
theorem iRun_l : m_impl_PanelRun_l1 l FUEL (List.replicate l.length false, 0, p) = some (l.foldl prun ([], p)) := by
  have h := loop_all (m_impl_PanelRun_l1 l) (fun k => ((((l.take k).foldl prun ([], p)).1 ++ List.replicate (l.length - k) false, (k : Int), ((l.take k).foldl prun ([], p)).2) : List Bool × Int × Pan)) l.length (some (l.foldl prun ([], p))) (by omega) (fun k fuel hk => ?_) (fun fuel => ?_)
  · simpa using h
  · have hb := prun_len (l.take k) ([], p)
    have hb1 : ((l.take k).foldl prun ([], p)).1.length = k := by rw [hb.1]; simp; omega
    rw [m_impl_PanelRun_l1.eq_2, take_fold prun l ([], p) (0, 0, 0, false) hk]
    simp only [lt_dec hk, ix_dec hk, chk_true, cond_true, Int.toNat_natCast, w64_succ (by omega : k < 4611686018427387904)]
    rw [iPanDo _ _ (Nat.le_trans hb.2 hp)]
    have hs : ∀ b : Bool, (((l.take k).foldl prun ([], p)).1 ++ List.replicate (l.length - k) false).set k b = ((l.take k).foldl prun ([], p)).1 ++ [b] ++ List.replicate (l.length - (k + 1)) false := fun b => by
      rw [List.set_append_right _ _ (by omega), hb1, Nat.sub_self, show l.length - k = (l.length - (k + 1)) + 1 by omega, List.replicate_succ, List.set_cons_zero, List.append_assoc]; rfl
    simp only [Option.bind_some, hs]
    rfl
  · rw [m_impl_PanelRun_l1.eq_2]; simp [nlt_dec]
def panRun (p : Pan) (l : List Cmd) : PR := if panV p.1 p.2.1 p.2.2.1 p.2.2.2.1 p.2.2.2.2 then l.foldl prun ([], p) else ([], [], 0, 0, false, 0)
def outR (s : PR) : List Bool × Int × Int × Bool × Int × List Bool := (s.2.1, s.2.2.1, s.2.2.2.1, s.2.2.2.2.1, s.2.2.2.2.2, s.1)
theorem sRunP : m_spec_PanelRun p.1 p.2.1 p.2.2.1 p.2.2.2.1 p.2.2.2.2 l = some (outR (panRun p l)) := by
  unfold m_spec_PanelRun panRun
  rw [sPanV _ _ _ _ _ hp, panCopy _ _ _ _ _ hp]
  cases panV p.1 p.2.1 p.2.2.1 p.2.2.2.1 p.2.2.2.2
  · rfl
  · simp only [Option.bind_some, cond_true, if_true]
    rw [show (([] : List Bool), (0 : Int), p.1, p.2.1, p.2.2.1, p.2.2.2.1, p.2.2.2.2) = ([], 0, p) from rfl, sRun_l l hl p hp]; rfl
theorem iRunP : m_impl_PanelRun p.1 p.2.1 p.2.2.1 p.2.2.2.1 p.2.2.2.2 l = some (outR (panRun p l)) := by
  have hm : mkB (l.length : Int) = true := by simp [mkB]; omega
  unfold m_impl_PanelRun panRun
  rw [iPanV _ _ _ _ _ hp, panClone _ _ _ _ _ hp]
  cases panV p.1 p.2.1 p.2.2.1 p.2.2.2.1 p.2.2.2.2
  · rfl
  · simp only [Option.bind_some, cond_true, if_true, hm, chk_true]
    rw [show (List.replicate l.length false, (0 : Int), p.1, p.2.1, p.2.2.1, p.2.2.2.1, p.2.2.2.2) = (List.replicate l.length false, 0, p) from rfl, iRun_l l hl p hp]; rfl
omit hl in
theorem panRun_len : (panRun p l).1.length ≤ l.length ∧ (panRun p l).2.1.length ≤ 1048576 := by
  unfold panRun
  have h := prun_len l ([], p)
  split
  · exact ⟨by rw [h.1]; simp, Nat.le_trans h.2 hp⟩
  · simp
end
theorem core_ExactPanelRun (on : List Bool) (who at_ : Int) (to_ : Bool) (left : Int) (l : List Cmd) (hn : on.length ≤ 1048576) (hl : l.length ≤ 1048576) (_ : ∀ z ∈ on, True) (_ : inR who) (_ : inR at_) (_ : inR left) (_ : ∀ z ∈ l, inR z.1 ∧ inR z.2.1 ∧ inR z.2.2.1) :
    ∃ r, m_spec_PanelRun on who at_ to_ left l = some r ∧ m_impl_PanelRun on who at_ to_ left l = some r ∧ r.1.length ≤ 1048576 ∧ r.2.2.2.2.2.length ≤ 1048576 :=
  ⟨_, sRunP l hl (on, who, at_, to_, left) hn, iRunP l hl (on, who, at_, to_, left) hn, (panRun_len l (on, who, at_, to_, left) hn).2, Nat.le_trans (panRun_len l (on, who, at_, to_, left) hn).1 hl⟩

def opsTo (l : List Cmd) (done : List Bool) : Nat → List (Int × Bool)
  | 0 => []
  | k + 1 => if (done.getD k false && (l.getD k (0, 0, 0, false)).1 == 1) = true then opsTo l done k ++ [((l.getD k (0, 0, 0, false)).2.2.1, (l.getD k (0, 0, 0, false)).2.2.2)] else opsTo l done k
theorem opsTo_len (l : List Cmd) (done : List Bool) : ∀ k, (opsTo l done k).length ≤ k
  | 0 => by simp [opsTo]
  | k + 1 => by have := opsTo_len l done k; simp only [opsTo]; split <;> simp <;> omega
theorem opsTo_nil (l : List Cmd) : ∀ k, opsTo l [] k = []
  | 0 => rfl
  | k + 1 => by simp [opsTo, opsTo_nil l k]
section
variable (l : List Cmd) (hl : l.length ≤ 1048576) (r : List Bool × Int × Int × Bool × Int × List Bool) (hr : r.2.2.2.2.2.length ≤ l.length)
include hl hr
theorem sOps_l : m_spec_Operations_l1 l r FUEL ([], 0) = some (opsTo l r.2.2.2.2.2 r.2.2.2.2.2.length) := by
  have h := loop_all (m_spec_Operations_l1 l r) (fun k => (opsTo l r.2.2.2.2.2 k, (k : Int))) r.2.2.2.2.2.length (some (opsTo l r.2.2.2.2.2 r.2.2.2.2.2.length)) (by omega) (fun k fuel hk => ?_) (fun fuel => ?_)
  · exact h
  · have hb := opsTo_len l r.2.2.2.2.2 k
    have ha : ∀ b : Int × Bool, apB (opsTo l r.2.2.2.2.2 k).length [b].length = true := fun b => by simp [apB]; omega
    rw [m_spec_Operations_l1.eq_2]
    simp only [lt_dec hk, ix_dec hk, ix_dec (show k < l.length by omega), chk_true, cond_true, Bool.or_true, Int.toNat_natCast, w64_succ (by omega : k < 4611686018427387904), ha]
    simp only [opsTo]
    cases hc : (r.2.2.2.2.2.getD k false && (l.getD k (0, 0, 0, false)).1 == 1)
    · simp
    · simp
  · rw [m_spec_Operations_l1.eq_2]; simp [nlt_dec]
omit hr in
theorem iOps_l : m_impl_Operations_l1 l r FUEL ([], 0) = some (opsTo l r.2.2.2.2.2 l.length) := by
  have h := loop_all (m_impl_Operations_l1 l r) (fun k => (opsTo l r.2.2.2.2.2 k, (k : Int))) l.length (some (opsTo l r.2.2.2.2.2 l.length)) (by omega) (fun k fuel hk => ?_) (fun fuel => ?_)
  · exact h
  · have hb := opsTo_len l r.2.2.2.2.2 k
    have ha : ∀ b : Int × Bool, apB (opsTo l r.2.2.2.2.2 k).length [b].length = true := fun b => by simp [apB]; omega
    rw [m_impl_Operations_l1.eq_2]
    simp only [lt_dec hk, ix_dec hk, chk_true, cond_true, Int.toNat_natCast, w64_succ (by omega : k < 4611686018427387904), ha]
    simp only [opsTo]
    by_cases hd : k < r.2.2.2.2.2.length
    · simp only [lt_dec hd, ix_dec hd, Bool.or_true, chk_true, Bool.true_and]
      cases hc : (r.2.2.2.2.2.getD k false && (l.getD k (0, 0, 0, false)).1 == 1)
      · simp
      · simp
    · have e1 : ltB (k : Int) (r.2.2.2.2.2.length : Int) = false := by simp [ltB]; omega
      have e2 : r.2.2.2.2.2.getD k false = false := by simp [List.getD, List.getElem?_eq_none (Nat.le_of_not_lt hd)]
      rw [e1, e2]; simp
  · rw [m_impl_Operations_l1.eq_2]; simp [nlt_dec]
end
theorem core_ExactOperations (on : List Bool) (who at_ : Int) (to_ : Bool) (left : Int) (l : List Cmd) (hn : on.length ≤ 1048576) (hl : l.length ≤ 1048576) (_ : ∀ z ∈ on, True) (_ : inR who) (_ : inR at_) (_ : inR left) (_ : ∀ z ∈ l, inR z.1 ∧ inR z.2.1 ∧ inR z.2.2.1) :
    ∃ r, m_spec_Operations on who at_ to_ left l = some r ∧ m_impl_Operations on who at_ to_ left l = some r ∧ r.length ≤ 1048576 := by
  have hs := sRunP l hl (on, who, at_, to_, left) hn
  have hi := iRunP l hl (on, who, at_, to_, left) hn
  have hr := (panRun_len l (on, who, at_, to_, left) hn).1
  have hq : (panRun (on, who, at_, to_, left) l).1 = [] ∨ (panRun (on, who, at_, to_, left) l).1.length = l.length := by
    unfold panRun
    split
    · right; rw [(prun_len l ([], (on, who, at_, to_, left))).1]; simp
    · left; rfl
  generalize hg : panRun (on, who, at_, to_, left) l = q at *
  refine ⟨opsTo l q.1 l.length, ?_, ?_, Nat.le_trans (opsTo_len _ _ _) hl⟩
  · unfold m_spec_Operations
    simp only at hs
    rw [hs]
    simp only [Option.bind_some]
    rw [sOps_l l hl (outR q) hr]
    simp only [Option.bind_some, outR]
    rcases hq with hq | hq
    · rw [hq, opsTo_nil, opsTo_nil]
    · rw [hq]
  · unfold m_impl_Operations
    simp only at hi
    rw [hi]
    simp only [Option.bind_some]
    rw [iOps_l l hl (outR q)]
    rfl
end Go.Proofs.YtapkaobelejkkaaDoor
