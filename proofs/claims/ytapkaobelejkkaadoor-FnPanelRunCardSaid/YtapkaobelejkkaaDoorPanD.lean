/- The laws of laws.go on panels, in plain Lean. -/
import Derived.Test.YtapkaobelejkkaaDoorPanM
import Derived.Test.YtapkaobelejkkaaDoorSm
namespace Go.Proofs.YtapkaobelejkkaaDoor
set_option linter.unusedVariables false
set_option linter.unusedSimpArgs false

def PanV (p : Pan) : Prop := panV p.1 p.2.1 p.2.2.1 p.2.2.2.1 p.2.2.2.2 = true
theorem getD_set' {α : Type} {l : List α} {k : Nat} {y d : α} (hk : k < l.length) : (l.set k y).getD k d = y := by simp [List.getD, hk]
theorem getD_ne' {α : Type} {l : List α} {i j : Nat} {y d : α} (h : i ≠ j) : (l.set i y).getD j d = l.getD j d := by simp [List.getD, List.getElem?_set_ne h]
theorem panv_none {on : List Bool} (h : 1 ≤ on.length ∧ on.length ≤ 10) : PanV (on, -1, 0, false, 0) := by
  simp [PanV, panV, inB]; omega
theorem panv_some {on : List Bool} {w a : Int} {t : Bool} {f : Int} (h : 1 ≤ on.length ∧ on.length ≤ 10) (hw : 0 ≤ w ∧ w ≤ 9) (ha : 0 ≤ a ∧ a < (on.length : Int)) (ht : on.getD a.toNat false ≠ t) (hf : 1 ≤ f ∧ f ≤ 3) : PanV (on, w, a, t, f) := by
  have hw1 : w ≠ -1 := by omega
  have ht' : (on.getD a.toNat false != t) = true := by simpa using ht
  unfold PanV panV
  simp only [if_neg hw1, ht', Bool.and_true, Bool.and_eq_true, inB_iff]
  omega
theorem pd_kind (on : List Bool) (who at_ : Int) (to_ : Bool) (left kd w a : Int) (t : Bool) (hv : PanV (on, who, at_, to_, left)) :
    PanV (panDo on who at_ to_ left kd w a t).1 ∧ (panDo on who at_ to_ left kd w a t).1.1.length = on.length ∧ ((panDo on who at_ to_ left kd w a t).2 = false → (panDo on who at_ to_ left kd w a t).1 = (on, who, at_, to_, left)) ∧ (kd ≠ 1 → (panDo on who at_ to_ left kd w a t).1.1 = on) := by
  have ok : PanOk on who at_ to_ left := pan_ok hv
  have hl : 1 ≤ on.length ∧ on.length ≤ 10 := ⟨ok.l0, ok.l1⟩
  unfold panDo
  by_cases k0 : kd = 0
  · rw [if_pos k0]
    by_cases hc : who = -1 ∧ 0 ≤ w ∧ w ≤ 9 ∧ 0 ≤ a ∧ a < (on.length : Int) ∧ on.getD a.toNat false ≠ t
    · rw [if_pos hc]; exact ⟨panv_some hl ⟨hc.2.1, hc.2.2.1⟩ ⟨hc.2.2.2.1, hc.2.2.2.2.1⟩ hc.2.2.2.2.2 (by omega), rfl, fun h => (by cases h), fun _ => rfl⟩
    · rw [if_neg hc]; exact ⟨hv, rfl, fun _ => rfl, fun _ => rfl⟩
  rw [if_neg k0]
  by_cases k1 : kd = 1
  · rw [if_pos k1]
    by_cases hc : who ≠ -1 ∧ w = who ∧ a = at_ ∧ t = to_
    · rw [if_pos hc]; exact ⟨panv_none (by simpa using hl), by simp, fun h => (by cases h), fun h => absurd k1 h⟩
    · rw [if_neg hc]; exact ⟨hv, rfl, fun _ => rfl, fun _ => rfl⟩
  rw [if_neg k1]
  by_cases k2 : kd = 2
  · rw [if_pos k2]
    by_cases hc : who ≠ -1 ∧ w = who
    · rw [if_pos hc]; exact ⟨panv_none hl, rfl, fun h => (by cases h), fun _ => rfl⟩
    · rw [if_neg hc]; exact ⟨hv, rfl, fun _ => rfl, fun _ => rfl⟩
  rw [if_neg k2]
  by_cases k3 : kd = 3
  · rw [if_pos k3]
    by_cases hw : who ≠ -1
    · rw [if_pos hw]
      obtain ⟨o1, o2, o3, o4, o5, o6, o7⟩ := ok.some_ hw
      by_cases h1 : left = 1
      · rw [if_pos h1]; exact ⟨panv_none hl, rfl, fun h => (by cases h), fun _ => rfl⟩
      · rw [if_neg h1]; exact ⟨panv_some hl ⟨o1, o2⟩ ⟨o3, o4⟩ o5 (by omega), rfl, fun h => (by cases h), fun _ => rfl⟩
    · rw [if_neg hw]; exact ⟨hv, rfl, fun h => (by cases h), fun _ => rfl⟩
  · rw [if_neg k3]; exact ⟨hv, rfl, fun _ => rfl, fun _ => rfl⟩
theorem pdv {p : Pan} (c : Cmd) (hv : PanV p) : panDoV p c = panDo p.1 p.2.1 p.2.2.1 p.2.2.2.1 p.2.2.2.2 c.1 c.2.1 c.2.2.1 c.2.2.2 := by
  unfold panDoV; exact if_pos hv
theorem pdv_ok {p : Pan} (c : Cmd) (hv : PanV p) : PanV (panDoV p c).1 ∧ (panDoV p c).1.1.length = p.1.length ∧ ((panDoV p c).2 = false → (panDoV p c).1 = p) ∧ (c.1 ≠ 1 → (panDoV p c).1.1 = p.1) := by
  rw [pdv c hv]
  exact pd_kind p.1 p.2.1 p.2.2.1 p.2.2.2.1 p.2.2.2.2 c.1 c.2.1 c.2.2.1 c.2.2.2 hv
theorem pdv_op {p : Pan} {c : Cmd} (hv : PanV p) (h1 : c.1 = 1) (hd : (panDoV p c).2 = true) : p.2.1 ≠ -1 ∧ c.2.1 = p.2.1 ∧ c.2.2.1 = p.2.2.1 ∧ c.2.2.2 = p.2.2.2.1 ∧ (panDoV p c).1 = (p.1.set c.2.2.1.toNat c.2.2.2, -1, 0, false, 0) := by
  rw [pdv c hv] at hd ⊢
  unfold panDo at hd ⊢
  rw [if_neg (by omega), if_pos h1] at hd ⊢
  by_cases hc : p.2.1 ≠ -1 ∧ c.2.1 = p.2.1 ∧ c.2.2.1 = p.2.2.1 ∧ c.2.2.2 = p.2.2.2.1
  · rw [if_pos hc]; exact ⟨hc.1, hc.2.1, hc.2.2.1, hc.2.2.2, rfl⟩
  · rw [if_neg hc] at hd; cases hd

/-! What is different. -/
def chg (a b : List Bool) : Nat → List Int
  | 0 => []
  | k + 1 => if (a.getD k false != b.getD k false) = true then chg a b k ++ [(k : Int)] else chg a b k
theorem chg_len (a b : List Bool) : ∀ k, (chg a b k).length ≤ k
  | 0 => by simp [chg]
  | k + 1 => by have := chg_len a b k; simp only [chg]; split <;> simp <;> omega
theorem chg_same (a : List Bool) : ∀ k, chg a a k = []
  | 0 => rfl
  | k + 1 => by simp [chg, chg_same a k]
theorem chg_set {a : List Bool} {i : Nat} {t : Bool} (hi : i < a.length) (ht : a.getD i false ≠ t) : ∀ k, chg a (a.set i t) k = if i < k then [(i : Int)] else []
  | 0 => rfl
  | k + 1 => by
    simp only [chg, chg_set hi ht k]
    by_cases hk : i = k
    · subst hk
      rw [getD_set' hi, if_pos (by simpa using ht), if_neg (by omega), if_pos (by omega)]; rfl
    · rw [getD_ne' hk]
      simp only [bne_self_eq_false, Bool.false_eq_true, if_false]
      by_cases h2 : i < k
      · rw [if_pos h2, if_pos (by omega)]
      · rw [if_neg h2, if_neg (by omega)]
theorem iChg (a b : List Bool) (hl : a.length = b.length) (hn : a.length ≤ 1048576) : m_impl_Changes a b = some (chg a b a.length) := by
  unfold m_impl_Changes
  rw [show ((a.length : Int) != (b.length : Int)) = false by simp [hl]]
  have h := loop_all (m_impl_Changes_l1 a b) (fun k => (chg a b k, (k : Int))) a.length (some (chg a b a.length)) (by omega) (fun k fuel hk => ?_) (fun fuel => ?_)
  · simp only [cond_false]
    rw [show (([] : List Int), (0 : Int)) = (chg a b 0, ((0 : Nat) : Int)) from rfl, h]; rfl
  · rw [m_impl_Changes_l1.eq_2]
    have hb := chg_len a b k
    have ha : apB (chg a b k).length [(k : Int)].length = true := by simp [apB]; omega
    simp only [lt_dec hk, ix_dec hk, ix_dec (show k < b.length by omega), chk_true, cond_true, Int.toNat_natCast, w64_succ (by omega : k < 4611686018427387904), ha]
    simp only [chg]
    cases (a.getD k false != b.getD k false) <;> simp
  · rw [m_impl_Changes_l1.eq_2]; simp only [nlt_dec, cond_false]

/-! Draws. -/
theorem cmd_ok {b : List Int} (hb : Code b) {p : Int} {on : List Bool} {who at_ : Int} {to_ : Bool} {left : Int} (hp : 0 ≤ p ∧ p ≤ 900000) (hl : on.length ≤ 1000) : Ys (m_spec_l20Command b p on who at_ to_ left) fun r => p ≤ r.2.2.2.2 ∧ r.2.2.2.2 ≤ p + 8 := by
  unfold m_spec_l20Command
  refine ys_then (ys_pick hb (by omega) (by omega) fun v1 _ _ _ => ?_)
  refine ys_then (ys_pick hb (by (try dsimp only); omega) (by omega) fun v2 _ _ _ => ?_)
  rw [wM (n := (on.length : Int) + 1) (by omega)]
  refine ys_then (ys_pick hb (by (try dsimp only); omega) (by omega) fun v3 w0 w1 _ => ?_)
  refine ys_then (ys_pick hb (by (try dsimp only); omega) (by omega) fun v4 _ _ _ => ?_)
  refine ys_then (ys_pick hb (by (try dsimp only); omega) (by omega) fun v5 _ _ _ => ?_)
  refine ys_bind (Q := fun _ => True) (ys_bif (fun hc => ?_) fun _ => ys_some trivial) fun r _ => ?_
  · have hc := ltB_t (and_r hc)
    have t1 := Int.tmod_nonneg (on.length : Int) w0
    have t2 := Int.tmod_lt_of_pos v3 (show (0 : Int) < (on.length : Int) from hc)
    refine ys_chk (decide_eq_true (by omega)) (ys_chk (decide_eq_true ?_) (ys_some trivial))
    dsimp only; omega
  dsimp only
  refine ys_bind (Q := fun r => p ≤ r.2 ∧ r.2 ≤ p + 6) (ys_bif (fun _ => ?_) fun _ => ys_some (by (try dsimp only); omega)) fun r hr => ?_
  · exact ys_then (ys_pick hb (by (try dsimp only); omega) (by omega) fun _ _ _ _ => ys_some (by (try dsimp only); omega))
  refine ys_bif (fun _ => ?_) fun _ => ?_
  · refine ys_then (ys_pick hb (by (try dsimp only); omega) (by omega) fun v v0 v1 _ => ?_)
    exact ys_chk (by have := v1 (by omega); simp [ixB]; omega) (ys_some (by (try dsimp only); omega))
  · refine ys_then (ys_odd hb (by (try dsimp only); omega) (by omega) fun o => ?_)
    refine ys_bind (Q := fun q => p ≤ q.1 ∧ q.1 ≤ p + 8) (ys_bif (fun _ => ?_) fun _ => ys_some (by (try dsimp only); omega)) fun q hq => ys_some hq
    refine ys_then (ys_pick hb (by (try dsimp only); omega) (by omega) fun v v0 v1 _ => ?_)
    exact ys_chk (by have := v1 (by omega); simp [ixB]; omega) (ys_some (by (try dsimp only); omega))
theorem lines_ok {b : List Int} (hb : Code b) {n p : Int} (hn : 1 ≤ n ∧ n ≤ 4) (hp : 0 ≤ p ∧ p ≤ 1000) : Ys (m_spec_l20Panel_l1 b FUEL (n, p, [])) fun r => (0 ≤ r.1 ∧ r.1 ≤ p + 4) ∧ (1 ≤ r.2.length ∧ r.2.length ≤ 4) := by
  refine ys_loop (m_spec_l20Panel_l1 b) (fun s => s.1.toNat) (fun s => (0 ≤ s.1 ∧ s.1 + s.2.2.length = n) ∧ (0 ≤ s.2.1 ∧ s.2.1 + s.1 ≤ p + n)) (fun fuel s hs ih => ?_) FUEL _ ⟨by (try dsimp only); simp; omega, by (try dsimp only); omega⟩ (by (try dsimp only); unfold FUEL; omega)
  obtain ⟨k, q, l⟩ := s
  dsimp only at hs ih ⊢
  obtain ⟨h1, h2⟩ := hs
  rw [m_spec_l20Panel_l1.eq_2]
  dsimp only
  refine ys_bif (fun hc => ?_) (fun hc => ?_)
  · have hc := ltB_t hc
    refine ys_then (ys_pick hb (by (try dsimp only); omega) (by omega) fun v v0 v1 _ => ?_)
    refine ys_chk (by simp [apB]; omega) ?_
    dsimp only
    rw [wM (n := k - 1) (by omega)]
    exact ih _ ⟨by simp; omega, by (try dsimp only); omega⟩ (by (try dsimp only); omega)
  · have hc := ltB_f hc
    exact ys_some ⟨by (try dsimp only); omega, by (try dsimp only); omega⟩
theorem cmds_ok {b : List Int} (hb : Code b) {n p : Int} {a : Pan} (hn : 0 ≤ n ∧ n ≤ 20) (hp : 0 ≤ p ∧ p ≤ 1000) (ha : PanV a) : Ys (m_spec_l20Panel_l2 b FUEL (n, p, a)) fun r => (0 ≤ r.1 ∧ r.1 ≤ p + 160) ∧ PanV r.2 := by
  refine ys_loop (m_spec_l20Panel_l2 b) (fun s => s.1.toNat) (fun s => 0 ≤ s.1 ∧ (0 ≤ s.2.1 ∧ s.2.1 + 8 * s.1 ≤ p + 8 * n) ∧ PanV s.2.2) (fun fuel s hs ih => ?_) FUEL _ ⟨by (try dsimp only); omega, by (try dsimp only); omega, ha⟩ (by (try dsimp only); unfold FUEL; omega)
  obtain ⟨k, q, x⟩ := s
  dsimp only at hs ih ⊢
  obtain ⟨h1, h2, h3⟩ := hs
  have hl : x.1.length ≤ 10 := (pan_ok h3).l1
  rw [m_spec_l20Panel_l2.eq_2]
  dsimp only
  refine ys_bif (fun hc => ?_) (fun hc => ?_)
  · have hc := ltB_t hc
    refine ys_bind (cmd_ok hb (by omega) (by omega)) fun d hd => ?_
    refine ys_then (ys_eq (sPanDo x (d.1, d.2.1, d.2.2.1, d.2.2.2.1) (by omega)) ?_)
    dsimp only [out6]
    rw [wM (n := k - 1) (by omega)]
    exact ih _ ⟨by (try dsimp only); omega, by (try dsimp only); omega, (pdv_ok _ h3).1⟩ (by (try dsimp only); omega)
  · have hc := ltB_f hc
    exact ys_some ⟨by (try dsimp only); omega, h3⟩
theorem drawPanel_ok {b : List Int} (hb : Code b) : Ys (m_spec_l20Panel b 0 9) fun r => r.1.length ≤ 10 ∧ (0 ≤ r.2.2.2.2.2 ∧ r.2.2.2.2.2 ≤ 300) := by
  unfold m_spec_l20Panel
  refine ys_then (ys_pick hb (by omega) (by omega) fun v v0 v1 _ => ?_)
  have v2 := v1 (by omega)
  dsimp only
  rw [wM (n := 1 + v) (by omega)]
  refine ys_bind (lines_ok hb (by omega) (by omega)) fun r hr => ?_
  obtain ⟨q, on⟩ := r
  obtain ⟨hq, hl⟩ := hr
  dsimp only at hq hl ⊢
  refine ys_then (ys_pick hb (by (try dsimp only); omega) (by omega) fun v v0 v1 _ => ?_)
  have v2 := v1 (by omega)
  refine ys_bind (cmds_ok hb (a := (on, -1, 0, false, 0)) (by (try dsimp only); omega) (by (try dsimp only); omega) (panv_none (by omega))) fun r hr => ?_
  obtain ⟨q', on', who, at_, to_, left⟩ := r
  obtain ⟨hq', hok⟩ := hr
  dsimp only at hq' ⊢
  have ok := pan_ok hok
  have l0 : 1 ≤ on'.length := ok.l0
  have l1 : on'.length ≤ 10 := ok.l1
  refine ys_then (ys_odd hb (by (try dsimp only); omega) (by omega) fun o => ?_)
  refine ys_bind (Q := fun r => r.2.1.length ≤ 10 ∧ (0 ≤ r.1 ∧ r.1 ≤ 300)) ?_ fun r hr => ys_some hr
  refine ys_bif (fun _ => ?_) (fun _ => ys_some ⟨l1, by (try dsimp only); omega⟩)
  refine ys_then (ys_pick hb (by (try dsimp only); omega) (by omega) fun v v0 v1 _ => ?_)
  refine ys_bind (Q := fun r => r.2.1.length ≤ 10 ∧ (0 ≤ r.1 ∧ r.1 ≤ 300)) ?_ fun r hr => ys_some hr
  refine ys_bif (fun _ => ys_some ⟨by simp, by (try dsimp only); omega⟩) (fun _ => ?_)
  refine ys_bind (Q := fun r => 0 ≤ r.1 ∧ r.1 ≤ 300) ?_ fun r hr => ys_some ⟨l1, hr⟩
  refine ys_bif (fun _ => ys_some (by (try dsimp only); omega)) (fun _ => ?_)
  refine ys_bind (Q := fun r => 0 ≤ r.1 ∧ r.1 ≤ 300) ?_ fun r hr => ys_some hr
  refine ys_bif (fun _ => ?_) (fun _ => ys_chk (by simp [ixB]; omega) (ys_some (by (try dsimp only); omega)))
  refine ys_then (ys_pick hb (by (try dsimp only); omega) (by omega) fun v v0 v1 _ => ?_)
  have v2 := v1 (by omega)
  exact ys_chk (by simp [ixB]; omega) (ys_some (by (try dsimp only); omega))
theorem drawDo_ok {b : List Int} (hb : ∀ z ∈ b, inU z) : Ys (m_spec_DrawPanelDo b) fun r => r.1.length ≤ 10 := by
  unfold m_spec_DrawPanelDo
  refine ys_bind (drawPanel_ok (code_of hb)) fun r hr => ?_
  exact ys_bind (cmd_ok (code_of hb) (by have := hr.2; omega) (by have := hr.1; omega)) fun d _ => ys_some hr.1
theorem drawList_ok {b : List Int} (hb : ∀ z ∈ b, inU z) {on : List Bool} {who at_ : Int} {to_ : Bool} {left : Int} {po : List Bool} (ha : on.length ≤ 10) (hpo : po.length ≤ 10) {n p : Int} (hn : 0 ≤ n ∧ n ≤ 20) (hp : 0 ≤ p ∧ p ≤ 1000) : Ys (m_spec_DrawPanelRun_l1 b FUEL ([], n, p, on, who, at_, to_, left, po)) fun r => r.1.length ≤ 20 ∧ r.2.2.2.2.2.2.2.length ≤ 10 := by
  refine ys_loop (m_spec_DrawPanelRun_l1 b) (fun s => s.2.1.toNat) (fun s => (0 ≤ s.2.1 ∧ s.2.1 + s.1.length = n) ∧ (0 ≤ s.2.2.1 ∧ s.2.2.1 + 8 * s.2.1 ≤ p + 8 * n) ∧ s.2.2.2.1.length ≤ 10 ∧ s.2.2.2.2.2.2.2.2.length ≤ 10) (fun fuel s hs ih => ?_) FUEL _ ⟨by (try dsimp only); simp; omega, by (try dsimp only); omega, ha, hpo⟩ (by (try dsimp only); unfold FUEL; omega)
  obtain ⟨l, k, q, on, who, at_, to_, left, po⟩ := s
  dsimp only at hs ih ⊢
  obtain ⟨h1, h2, h3, h4⟩ := hs
  rw [m_spec_DrawPanelRun_l1.eq_2]
  dsimp only
  refine ys_bif (fun hc => ?_) (fun hc => ?_)
  · have hc := ltB_t hc
    refine ys_bind (cmd_ok (code_of hb) (by omega) (by omega)) fun d hd => ?_
    refine ys_then (ys_eq (sPanDo (on, who, at_, to_, left) (d.1, d.2.1, d.2.2.1, d.2.2.2.1) (by (try dsimp only); omega)) ?_)
    refine ys_bind (Q := fun r => r.2.1.length ≤ 10) (ys_bif (fun _ => ys_some ?_) fun _ => ys_some h3) fun r hr => ?_
    · exact Nat.le_trans (panDo_len (on, who, at_, to_, left) (d.1, d.2.1, d.2.2.1, d.2.2.2.1)) h3
    refine ys_chk (by simp [apB]; omega) ?_
    rw [wM (n := k - 1) (by omega)]
    exact ih _ ⟨by simp; omega, by (try dsimp only); omega, hr, h4⟩ (by (try dsimp only); omega)
  · exact ys_some ⟨by (try dsimp only); omega, h4⟩
theorem drawRun_ok {b : List Int} (hb : ∀ z ∈ b, inU z) : Ys (m_spec_DrawPanelRun b) fun r => r.1.length ≤ 10 ∧ r.2.2.2.2.2.length ≤ 20 := by
  unfold m_spec_DrawPanelRun
  refine ys_bind (drawPanel_ok (code_of hb)) fun r hr => ?_
  have hq := hr.2
  refine ys_then (ys_pick (code_of hb) (by omega) (by omega) fun v v0 v1 _ => ?_)
  have v2 := v1 (by omega)
  exact ys_bind (drawList_ok hb hr.1 hr.1 (by (try dsimp only); omega) (by (try dsimp only); omega)) fun d hd => ys_some ⟨hd.2, hd.1⟩

/-! The laws. -/
theorem samePanel_eq (a b : Pan) (ha : a.1.length ≤ 1048576) : m_laws_samePanel a.1 a.2.1 a.2.2.1 a.2.2.2.1 a.2.2.2.2 b.1 b.2.1 b.2.2.1 b.2.2.2.1 b.2.2.2.2 = some (decide (a = b)) := by
  obtain ⟨on, w, t, u, f⟩ := a
  obtain ⟨on', w', t', u', f'⟩ := b
  dsimp only at ha ⊢
  unfold m_laws_samePanel
  rw [sameBools_eq _ _ (by omega)]
  by_cases h : w = w' ∧ t = t' ∧ u = u' ∧ f = f'
  · obtain ⟨rfl, rfl, rfl, rfl⟩ := h
    simp [gb]
  · have e : (w == w' && t == t' && u == u' && f == f') = false := by
      rw [Bool.eq_false_iff]
      intro hc
      simp only [Bool.and_eq_true, beq_iff_eq, and_assoc] at hc
      exact h hc
    have e2 : ¬ ((on, w, t, u, f) = (on', w', t', u', f')) := by
      intro hc
      injection hc with h1 hc; injection hc with h2 hc; injection hc with h3 hc; injection hc with h4 h5
      exact h ⟨h2, h3, h4, h5⟩
    rw [decide_eq_false e2]
    simp [e, gb]
theorem door_FnPanelDo (x0 : List Int) (h0 : x0.length ≤ maxLen) (h1 : ∀ z ∈ x0, inU z) : m_laws_FnPanelDo x0 = some true := by
  unfold m_laws_FnPanelDo
  rcases Bool.eq_false_or_eq_true (ltB 1048576 (x0.length : Int)) with h | h <;> rw [h]
  · rfl
  obtain ⟨⟨on, who, at_, to_, left, kd, w, a, t⟩, e, hl⟩ := drawDo_ok h1
  dsimp only at hl
  have hi := iPanDo (on, who, at_, to_, left) (kd, w, a, t) (by (try dsimp only); omega)
  have hs := sPanDo (on, who, at_, to_, left) (kd, w, a, t) (by (try dsimp only); omega)
  have hlen := panDo_len (on, who, at_, to_, left) (kd, w, a, t)
  dsimp only at hi hs hlen
  have hpv : m_impl_PanelValid on who at_ to_ left = some (panV on who at_ to_ left) := iPanV _ _ _ _ _ (by omega)
  simp only [cond_false, e, Option.bind_some, hi, hs, out6, hpv]
  generalize hx : panDoV (on, who, at_, to_, left) (kd, w, a, t) = x at *
  have s1 := samePanel_eq x.1 x.1 (by omega)
  have s2 := samePanel_eq x.1 (on, who, at_, to_, left) (by omega)
  dsimp only at s2
  simp only [s1, s2, decide_true, Option.bind_some, bne_self_eq_false, Bool.not_true, Bool.or_self, cond_false, alive_ok]
  cases hv : panV on who at_ to_ left
  · have hb : x = (([], 0, 0, false, 0), false) := by rw [← hx]; simp [panDoV, hv]
    simp [hb, gb]
  obtain ⟨k1, k2, k3, k4⟩ := pdv_ok (p := (on, who, at_, to_, left)) (kd, w, a, t) hv
  rw [hx] at k1 k2 k3 k4
  dsimp only at k2 k3 k4
  cases hq : x.2
  · simp [k3 hq, gb]
  have hpx : m_impl_PanelValid x.1.1 x.1.2.1 x.1.2.2.1 x.1.2.2.2.1 x.1.2.2.2.2 = some true := by rw [iPanV _ _ _ _ _ (by omega)]; exact congrArg some k1
  simp only [cond_true, iChg on x.1.1 k2.symm (by omega), Option.bind_some, hpx]
  by_cases hk : kd = 1
  · obtain ⟨o1, o2, o3, o4, o5⟩ := pdv_op (p := (on, who, at_, to_, left)) (c := (kd, w, a, t)) hv hk (by rw [hx]; exact hq)
    rw [hx] at o5
    dsimp only at o1 o2 o3 o4 o5
    obtain ⟨q1, q2, q3, q4, q5, q6, q7⟩ := (pan_ok hv).some_ o1
    rw [← o3, ← o4] at q5
    have hc := chg_set (a := on) (i := a.toNat) (t := t) (by omega) q5 on.length
    rw [if_pos (by omega)] at hc
    have e1 : (kd != 1) = false := by simp [hk]
    have e2 : ((a.toNat : Nat) : Int) = a := by omega
    rw [o5]
    simp only [e1, cond_false, hc, e2, sameInts_eq [a] [a] (by simp), Option.bind_some, decide_true]
    rfl
  · have e1 : (kd != 1) = true := by simpa using hk
    rw [k4 hk, chg_same]
    simp [e1]

/-! What was selected. -/
def selR (l : List Cmd) (done : List Bool) (c : Cmd) : Nat → Int → Bool
  | 0, _ => false
  | k + 1, t =>
    if done.getD k false = true then
      (if (l.getD k (0, 0, 0, false)).1 = 3 then selR l done c k (t + 1)
       else (l.getD k (0, 0, 0, false)).1 == 0 && (l.getD k (0, 0, 0, false)).2.1 == c.2.1 && (l.getD k (0, 0, 0, false)).2.2.1 == c.2.2.1 && (l.getD k (0, 0, 0, false)).2.2.2 == c.2.2.2 && ltB t 3)
    else selR l done c k t
theorem sel_loop (l : List Cmd) (done : List Bool) (hl : l.length ≤ 1048576) (hd : done.length = l.length) (i : Nat) (hi : i < l.length) : ∀ (k : Nat) (t : Int) (fuel : Nat), k ≤ l.length → k < fuel → 0 ≤ t → t + k ≤ 1048576 →
    m_laws_selected_l1 l done (i : Int) fuel (t, (k : Int) - 1) = if selR l done (l.getD i (0, 0, 0, false)) k t = true then some (.inr true) else m_laws_selected_l1 l done (i : Int) fuel (t, (k : Int) - 1) := by
  intro k
  induction k with
  | zero => intro t fuel _ _ _ _; simp [selR]
  | succ k ih =>
    intro t fuel hk hf h0 h9
    by_cases hs : selR l done (l.getD i (0, 0, 0, false)) (k + 1) t = true
    · rw [if_pos hs]
      obtain ⟨f, rfl⟩ : ∃ f, fuel = f + 1 := ⟨fuel - 1, by omega⟩
      rw [m_laws_selected_l1.eq_2]
      have c1 : leB 0 (k : Int) = true := decide_eq_true (by omega)
      have c2 : (((k + 1 : Nat) : Int) - 1) = (k : Int) := by omega
      have hk1 : k < done.length := by omega
      have hk2 : k < l.length := by omega
      have w1 : w64 ((k : Int) - 1) = (k : Int) - 1 := wM (by omega)
      have w2 : w64 (t + 1) = t + 1 := wM (by omega)
      simp only [c2, c1, cond_true, ix_dec hk1, ix_dec hk2, ix_dec hi, chk_true, Int.toNat_natCast, w1, w2, Bool.or_true]
      simp only [selR] at hs
      cases hdn : done.getD k false
      · rw [hdn] at hs
        simp only [Bool.false_eq_true, if_false] at hs
        simp only [cond_false, Option.bind_some, Sum.elim_inl]
        rw [ih t f (by omega) (by omega) h0 (by omega), if_pos hs]
      · rw [hdn] at hs
        simp only [if_true] at hs
        simp only [cond_true]
        by_cases h3 : (l.getD k (0, 0, 0, false)).1 = 3
        · rw [if_pos h3] at hs
          have e3 : ((l.getD k (0, 0, 0, false)).1 == 3) = true := by simpa using h3
          simp only [e3, cond_true, Option.bind_some, Sum.elim_inl]
          rw [ih (t + 1) f (by omega) (by omega) (by omega) (by omega), if_pos hs]
        · rw [if_neg h3] at hs
          have e3 : ((l.getD k (0, 0, 0, false)).1 == 3) = false := by simpa using h3
          simp only [e3, cond_false, Option.bind_some, Sum.elim_inr, hs]
    · rw [if_neg hs]
theorem sel_true (l : List Cmd) (done : List Bool) (hl : l.length ≤ 1000000) (hd : done.length = l.length) (i : Nat) (hi : i < l.length) (h : selR l done (l.getD i (0, 0, 0, false)) i 0 = true) : m_laws_selected l done (i : Int) = some true := by
  unfold m_laws_selected
  rw [wM (n := (i : Int) - 1) (by omega), sel_loop l done (by omega) hd i hi i 0 FUEL (by omega) (by unfold FUEL; omega) (by omega) (by omega), if_pos h]
  rfl
/-- The panel after the first k commands, and what was done. -/
def pst (p : Pan) (l : List Cmd) (k : Nat) : PR := (l.take k).foldl prun ([], p)
theorem pst_succ (p : Pan) (l : List Cmd) {k : Nat} (hk : k < l.length) : pst p l (k + 1) = ((pst p l k).1 ++ [(panDoV (pst p l k).2 (l.getD k (0, 0, 0, false))).2], (panDoV (pst p l k).2 (l.getD k (0, 0, 0, false))).1) := by
  unfold pst; rw [take_fold prun l ([], p) (0, 0, 0, false) hk]; rfl
theorem pst_len (p : Pan) (l : List Cmd) : ∀ k, k ≤ l.length → (pst p l k).1.length = k
  | 0, _ => by simp [pst]
  | k + 1, h => by rw [pst_succ p l (by omega)]; simp [pst_len p l k (by omega)]
theorem pst_ok {p : Pan} (hv : PanV p) (l : List Cmd) : ∀ k, k ≤ l.length → PanV (pst p l k).2 ∧ (pst p l k).2.1.length = p.1.length
  | 0, _ => by simpa [pst] using hv
  | k + 1, h => by
    obtain ⟨h1, h2⟩ := pst_ok hv l k (by omega)
    obtain ⟨k1, k2, _, _⟩ := pdv_ok (l.getD k (0, 0, 0, false)) h1
    rw [pst_succ p l (by omega)]
    exact ⟨k1, k2.trans h2⟩
theorem pst_done (p : Pan) (l : List Cmd) {k : Nat} : ∀ m, k < m → m ≤ l.length → (pst p l m).1.getD k false = (panDoV (pst p l k).2 (l.getD k (0, 0, 0, false))).2
  | 0, h, _ => by omega
  | m + 1, h, hm => by
    rw [pst_succ p l (by omega)]
    have hlen := pst_len p l m (by omega)
    rcases Nat.lt_succ_iff_lt_or_eq.1 h with h2 | rfl
    · rw [← pst_done p l m h2 (by omega)]
      simp only [List.getD]
      rw [List.getElem?_append_left (by omega)]
    · simp only [List.getD]
      rw [List.getElem?_append_right (by omega), hlen]
      simp
theorem pst_all (p : Pan) (l : List Cmd) : l.foldl prun ([], p) = pst p l l.length := by simp [pst]
theorem sel_inv {p : Pan} (hv : PanV p) (hw : p.2.1 = -1) (l : List Cmd) : ∀ k, k ≤ l.length → (pst p l k).2.2.1 ≠ -1 → ∀ (c : Cmd) (t : Int), c.2.1 = (pst p l k).2.2.1 → c.2.2.1 = (pst p l k).2.2.2.1 → c.2.2.2 = (pst p l k).2.2.2.2.1 → selR l (pst p l l.length).1 c k t = decide (t + (3 - (pst p l k).2.2.2.2.2) < 3) := by
  intro k
  induction k with
  | zero => intro _ hne; exact absurd (by simpa [pst] using hw) hne
  | succ k ih =>
    intro hk hne c t e1 e2 e3
    have hpv := (pst_ok hv l k (by omega)).1
    have ih := ih (by omega)
    have hd := pst_done p l (k := k) l.length (by omega) (Nat.le_refl _)
    simp only [selR, hd]
    rw [pst_succ p l (by omega)] at hne e1 e2 e3 ⊢
    dsimp only at hne e1 e2 e3 ⊢
    generalize (pst p l k).2 = x at *
    generalize l.getD k (0, 0, 0, false) = d at *
    obtain ⟨on, who, at_, to_, left⟩ := x
    obtain ⟨kd, w, a, u⟩ := d
    rw [pdv _ hpv] at hne e1 e2 e3 ⊢
    dsimp only at hne e1 e2 e3 ih ⊢
    unfold panDo at hne e1 e2 e3 ⊢
    by_cases k0 : kd = 0
    · subst k0
      simp only [if_true] at hne e1 e2 e3 ⊢
      by_cases hc : who = -1 ∧ 0 ≤ w ∧ w ≤ 9 ∧ 0 ≤ a ∧ a < (on.length : Int) ∧ on.getD a.toNat false ≠ u
      · simp only [if_pos hc] at hne e1 e2 e3 ⊢
        simp [e1, e2, e3, ltB]
      · simp only [if_neg hc] at hne e1 e2 e3 ⊢
        simp only [Bool.false_eq_true, if_false]
        exact ih hne c t e1 e2 e3
    simp only [if_neg k0] at hne e1 e2 e3 ⊢
    by_cases k1 : kd = 1
    · subst k1
      simp only [if_true] at hne e1 e2 e3 ⊢
      by_cases hc : who ≠ -1 ∧ w = who ∧ a = at_ ∧ u = to_
      · simp only [if_pos hc] at hne; exact absurd rfl hne
      · simp only [if_neg hc] at hne e1 e2 e3 ⊢
        simp only [Bool.false_eq_true, if_false]
        exact ih hne c t e1 e2 e3
    simp only [if_neg k1] at hne e1 e2 e3 ⊢
    by_cases k2 : kd = 2
    · subst k2
      simp only [if_true] at hne e1 e2 e3 ⊢
      by_cases hc : who ≠ -1 ∧ w = who
      · simp only [if_pos hc] at hne; exact absurd rfl hne
      · simp only [if_neg hc] at hne e1 e2 e3 ⊢
        simp only [Bool.false_eq_true, if_false]
        exact ih hne c t e1 e2 e3
    simp only [if_neg k2] at hne e1 e2 e3 ⊢
    by_cases k3 : kd = 3
    · subst k3
      simp only [if_true] at hne e1 e2 e3 ⊢
      by_cases hw2 : who ≠ -1
      · simp only [if_pos hw2] at hne e1 e2 e3 ⊢
        by_cases hl1 : left = 1
        · simp only [if_pos hl1] at hne; exact absurd rfl hne
        · simp only [if_neg hl1] at hne e1 e2 e3 ⊢
          rw [ih hw2 c (t + 1) e1 e2 e3]
          exact decide_eq_decide.2 (by omega)
      · simp only [if_neg hw2] at hne
        exact absurd hne hw2
    · simp only [if_neg k3] at hne e1 e2 e3 ⊢
      simp only [Bool.false_eq_true, if_false]
      exact ih hne c t e1 e2 e3
theorem door_FnPanelRun (x0 : List Int) (h0 : x0.length ≤ maxLen) (h1 : ∀ z ∈ x0, inU z) : m_laws_FnPanelRun x0 = some true := by
  unfold m_laws_FnPanelRun
  rcases Bool.eq_false_or_eq_true (ltB 1048576 (x0.length : Int)) with h | h <;> rw [h]
  · rfl
  obtain ⟨⟨on, who, at_, to_, left, l⟩, e, hl, hd⟩ := drawRun_ok h1
  dsimp only at hl hd
  have hi := iRunP l (by omega) (on, who, at_, to_, left) (by (try dsimp only); omega)
  have hs := sRunP l (by omega) (on, who, at_, to_, left) (by (try dsimp only); omega)
  have hf := iRunP l (by omega) (on, -1, 0, false, 0) (by (try dsimp only); omega)
  have hlen := panRun_len l (on, who, at_, to_, left) (by (try dsimp only); omega)
  dsimp only at hi hs hf
  have hpv : m_spec_PanelValid on who at_ to_ left = some (panV on who at_ to_ left) := sPanV _ _ _ _ _ (by omega)
  simp only [cond_false, e, Option.bind_some, hi, hs, hf, outR, hpv]
  have s1 := samePanel_eq (panRun (on, who, at_, to_, left) l).2 (panRun (on, who, at_, to_, left) l).2 hlen.2
  have s2 := sameBools_eq (panRun (on, who, at_, to_, left) l).1 (panRun (on, who, at_, to_, left) l).1 (by omega)
  simp only [s1, s2, decide_true, Option.bind_some, Bool.not_true, Bool.not_false, gb, cond_true, Bool.or_self, cond_false, alive_ok]
  cases hv : panV on who at_ to_ left
  · have hb : panRun (on, who, at_, to_, left) l = ([], [], 0, 0, false, 0) := by simp [panRun, hv]
    simp [hb]
  have hv' : PanV (on, who, at_, to_, left) := hv
  have hok := pan_ok hv
  have hfree : PanV (on, -1, 0, false, 0) := panv_none ⟨hok.l0, hok.l1⟩
  have r1 : panRun (on, who, at_, to_, left) l = pst (on, who, at_, to_, left) l l.length := by rw [← pst_all]; simp [panRun, hv]
  have r2 : panRun (on, -1, 0, false, 0) l = pst (on, -1, 0, false, 0) l l.length := by
    rw [← pst_all]; unfold panRun; rw [if_pos (show panV on (-1) 0 false 0 = true from hfree)]
  rw [r1, r2]
  rw [r1] at hlen
  have n1 := pst_len (on, who, at_, to_, left) l l.length (Nat.le_refl _)
  have n2 := pst_len (on, -1, 0, false, 0) l l.length (Nat.le_refl _)
  have o1 := pst_ok hv' l l.length (Nat.le_refl _)
  have c1 : (((pst (on, -1, 0, false, 0) l l.length).1.length : Int) != (l.length : Int)) = false := by simp [n2]
  have c2 : (((pst (on, who, at_, to_, left) l l.length).1.length : Int) == (l.length : Int)) = true := by simp [n1]
  have hloop : m_laws_FnPanelRun_l1 (on, who, at_, to_, left, l) ((pst (on, -1, 0, false, 0) l l.length).2.1, (pst (on, -1, 0, false, 0) l l.length).2.2.1, (pst (on, -1, 0, false, 0) l l.length).2.2.2.1, (pst (on, -1, 0, false, 0) l l.length).2.2.2.2.1, (pst (on, -1, 0, false, 0) l l.length).2.2.2.2.2, (pst (on, -1, 0, false, 0) l l.length).1) FUEL 0 = some (.inl ()) := by
    have := loop_all (m_laws_FnPanelRun_l1 (on, who, at_, to_, left, l) ((pst (on, -1, 0, false, 0) l l.length).2.1, (pst (on, -1, 0, false, 0) l l.length).2.2.1, (pst (on, -1, 0, false, 0) l l.length).2.2.2.1, (pst (on, -1, 0, false, 0) l l.length).2.2.2.2.1, (pst (on, -1, 0, false, 0) l l.length).2.2.2.2.2, (pst (on, -1, 0, false, 0) l l.length).1)) (fun k => (k : Int)) l.length (some (.inl ())) (by omega) (fun k fuel hk => ?_) (fun fuel => ?_)
    · simpa using this
    · rw [m_laws_FnPanelRun_l1.eq_2]
      simp only [lt_dec hk, ix_dec hk, ix_dec (show k < (pst (on, -1, 0, false, 0) l l.length).1.length by omega), chk_true, cond_true, Int.toNat_natCast, Bool.or_true, w64_succ (by omega : k < 4611686018427387904)]
      cases hb : ((pst (on, -1, 0, false, 0) l l.length).1.getD k false && (l.getD k (0, 0, 0, false)).1 == 1)
      · simp [gb]
      · simp only [Bool.and_eq_true, beq_iff_eq] at hb
        rw [pst_done _ l l.length hk (Nat.le_refl _)] at hb
        have hpk := (pst_ok hfree l k (by omega)).1
        obtain ⟨q1, q2, q3, q4, q5⟩ := pdv_op hpk hb.2 hb.1
        have hsel := sel_inv hfree rfl l k (by omega) q1 (l.getD k (0, 0, 0, false)) 0 q2 q3 q4
        have hleft := ((pan_ok hpk).some_ q1).2.2.2.2.2
        rw [decide_eq_true (by omega)] at hsel
        rw [sel_true l _ (by omega) n2 k hk hsel]
        simp [gb]
    · rw [m_laws_FnPanelRun_l1.eq_2]; simp only [nlt_dec, cond_false]
  have hpx : m_impl_PanelValid (pst (on, who, at_, to_, left) l l.length).2.1 (pst (on, who, at_, to_, left) l l.length).2.2.1 (pst (on, who, at_, to_, left) l l.length).2.2.2.1 (pst (on, who, at_, to_, left) l l.length).2.2.2.2.1 (pst (on, who, at_, to_, left) l l.length).2.2.2.2.2 = some true := by
    rw [iPanV _ _ _ _ _ hlen.2]; exact congrArg some o1.1
  simp only [cond_true, c1, c2, cond_false, hloop, Option.bind_some, Sum.elim_inl, hpx, Bool.and_self]

/-! Operations. -/
theorem out_b {x n : Int} (h : ¬ (0 ≤ x ∧ x < n)) : (ltB x 0 || leB n x) = true := by simp [ltB, leB]; omega
theorem opsP (p : Pan) (l : List Cmd) (hn : p.1.length ≤ 1048576) (hl : l.length ≤ 1048576) :
    m_spec_Operations p.1 p.2.1 p.2.2.1 p.2.2.2.1 p.2.2.2.2 l = some (opsTo l (panRun p l).1 l.length) ∧ m_impl_Operations p.1 p.2.1 p.2.2.1 p.2.2.2.1 p.2.2.2.2 l = some (opsTo l (panRun p l).1 l.length) := by
  have hs := sRunP l hl p hn
  have hi := iRunP l hl p hn
  have hr := (panRun_len l p hn).1
  have hq : (panRun p l).1 = [] ∨ (panRun p l).1.length = l.length := by
    unfold panRun
    split
    · right; rw [(prun_len l ([], p)).1]; simp
    · left; rfl
  generalize hg : panRun p l = q at *
  refine ⟨?_, ?_⟩
  · unfold m_spec_Operations
    rw [hs]
    simp only [Option.bind_some]
    rw [sOps_l l hl (outR q) hr]
    simp only [Option.bind_some, outR]
    rcases hq with hq | hq
    · rw [hq, opsTo_nil, opsTo_nil]
    · rw [hq]
  · unfold m_impl_Operations
    rw [hi]
    simp only [Option.bind_some]
    rw [iOps_l l hl (outR q)]
    rfl
theorem sameSteps_eq (a : List (Int × Bool)) (hn : a.length ≤ 1048576) : m_laws_sameSteps a a = some true := by
  unfold m_laws_sameSteps
  have h := loop_all (m_laws_sameSteps_l1 a a) (fun k => (k : Int)) a.length (some (.inl ())) (by omega) (fun k fuel hk => ?_) (fun fuel => ?_)
  · simp only [bne_self_eq_false, cond_false]
    rw [show (0 : Int) = ((0 : Nat) : Int) from rfl, h]; rfl
  · rw [m_laws_sameSteps_l1.eq_2]
    simp only [lt_dec hk, ix_dec hk, chk_true, cond_true, Int.toNat_natCast, w64_succ (by omega : k < 4611686018427387904), beq_self_eq_true, Bool.and_self]
  · rw [m_laws_sameSteps_l1.eq_2]; simp only [nlt_dec, cond_false]
def stepF (s : List (Int × Bool)) (k : Nat) (on : List Bool) : Option (List Bool) :=
  if 0 ≤ (s.getD k (0, false)).1 ∧ (s.getD k (0, false)).1 < (on.length : Int) ∧ on.getD (s.getD k (0, false)).1.toNat false ≠ (s.getD k (0, false)).2 then some (on.set (s.getD k (0, false)).1.toNat (s.getD k (0, false)).2) else none
theorem iterO_congr {α : Type} {f g : Nat → α → Option α} : ∀ (n : Nat) (a : α), (∀ k, k < n → f k = g k) → iterO f n a = iterO g n a
  | 0, _, _ => rfl
  | n + 1, a, h => by simp only [iterO]; rw [iterO_congr n a (fun k hk => h k (by omega)), h n (by omega)]
theorem step_app {s : List (Int × Bool)} {x : Int × Bool} {k : Nat} (h : k < s.length) : stepF (s ++ [x]) k = stepF s k := by
  funext on
  unfold stepF
  have : (s ++ [x]).getD k (0, false) = s.getD k (0, false) := by simp only [List.getD]; rw [List.getElem?_append_left h]
  rw [this]
theorem ops_iter {p : Pan} (hv : PanV p) (l : List Cmd) : ∀ k, k ≤ l.length → iterO (stepF (opsTo l (pst p l l.length).1 k)) (opsTo l (pst p l l.length).1 k).length p.1 = some (pst p l k).2.1
  | 0, _ => by simp [opsTo, iterO, pst]
  | k + 1, hk => by
    have ih := ops_iter hv l k (by omega)
    have hpv := (pst_ok hv l k (by omega)).1
    have hd := pst_done p l (k := k) l.length (by omega) (Nat.le_refl _)
    rw [pst_succ p l (by omega)]
    simp only [opsTo, hd]
    generalize hc : l.getD k (0, 0, 0, false) = c at *
    obtain ⟨j1, j2, j3, j4⟩ := pdv_ok c hpv
    cases hb : ((panDoV (pst p l k).2 c).2 && c.1 == 1)
    · simp only [Bool.false_eq_true, if_false]
      rw [ih]
      congr 1
      by_cases hk1 : c.1 = 1
      · have : (panDoV (pst p l k).2 c).2 = false := by simpa [hk1] using hb
        rw [j3 this]
      · rw [j4 hk1]
    · simp only [if_true]
      simp only [Bool.and_eq_true, beq_iff_eq] at hb
      obtain ⟨q1, q2, q3, q4, q5⟩ := pdv_op hpv hb.2 hb.1
      obtain ⟨u1, u2, u3, u4, u5, u6, u7⟩ := (pan_ok hpv).some_ q1
      rw [List.length_append, List.length_singleton]
      simp only [iterO]
      rw [iterO_congr _ _ (fun j hj => step_app hj), ih]
      simp only [Option.bind_some]
      have hg : (opsTo l (pst p l l.length).1 k ++ [(c.2.2.1, c.2.2.2)]).getD (opsTo l (pst p l l.length).1 k).length (0, false) = (c.2.2.1, c.2.2.2) := by simp [List.getD]
      unfold stepF
      rw [hg, if_pos ⟨by rw [q3]; exact u3, by rw [q3]; exact u4, by rw [q3, q4]; exact u5⟩, q5]
theorem door_FnOperations (x0 : List Int) (h0 : x0.length ≤ maxLen) (h1 : ∀ z ∈ x0, inU z) : m_laws_FnOperations x0 = some true := by
  unfold m_laws_FnOperations
  rcases Bool.eq_false_or_eq_true (ltB 1048576 (x0.length : Int)) with h | h <;> rw [h]
  · rfl
  obtain ⟨⟨on, who, at_, to_, left, l⟩, e, hl, hd⟩ := drawRun_ok h1
  dsimp only at hl hd
  obtain ⟨hs, hi⟩ := opsP (on, who, at_, to_, left) l (by (try dsimp only); omega) (by omega)
  have hf := iRunP l (by omega) (on, who, at_, to_, left) (by (try dsimp only); omega)
  have hlen := panRun_len l (on, who, at_, to_, left) (by (try dsimp only); omega)
  dsimp only at hi hs hf
  have hpv : m_spec_PanelValid on who at_ to_ left = some (panV on who at_ to_ left) := sPanV _ _ _ _ _ (by omega)
  have hol := opsTo_len l (panRun (on, who, at_, to_, left) l).1 l.length
  have ha : apB ([] : List Bool).length on.length = true := by simp [apB]; omega
  have hdr : m_spec_DrawOperations x0 = some (on, who, at_, to_, left, l) := by unfold m_spec_DrawOperations; rw [e]; rfl
  simp only [cond_false, hdr, Option.bind_some, hi, hs, hf, outR, hpv, sameSteps_eq _ (show (opsTo l (panRun (on, who, at_, to_, left) l).1 l.length).length ≤ 1048576 by omega), cond_true, alive_ok, ha, chk_true, List.nil_append]
  cases hv : panV on who at_ to_ left
  · have hb : panRun (on, who, at_, to_, left) l = ([], [], 0, 0, false, 0) := by simp [panRun, hv]
    simp [hb, opsTo_nil, gb]
  have hv' : PanV (on, who, at_, to_, left) := hv
  have r1 : panRun (on, who, at_, to_, left) l = pst (on, who, at_, to_, left) l l.length := by rw [← pst_all]; simp [panRun, hv]
  rw [r1] at hlen hol ⊢
  have hit := ops_iter hv' l l.length (Nat.le_refl _)
  dsimp only at hit
  generalize hst : opsTo l (pst (on, who, at_, to_, left) l l.length).1 l.length = s at *
  have hloop := loop_try (m_laws_FnOperations_l1 (on, who, at_, to_, left, l) s) (fun k (a : List Bool) => (a, (k : Int))) (stepF s) s.length (some (.inr false)) (fun a => some (.inl a)) (fun a => a.length = on.length) (by omega) on rfl (fun k a b ha hb => by
      unfold stepF at hb
      split at hb
      · injection hb with hb; subst hb; simpa using ha
      · cases hb) (fun k fuel a hk ha => by
      rw [m_laws_FnOperations_l1.eq_2]
      simp only [lt_dec hk, ix_dec hk, chk_true, cond_true, Int.toNat_natCast, Bool.or_true, w64_succ (by omega : k < 4611686018427387904), List.nil_append]
      unfold stepF
      rw [ha]
      by_cases hc : 0 ≤ (s.getD k (0, false)).1 ∧ (s.getD k (0, false)).1 < (on.length : Int)
      · have c1 : ltB (s.getD k (0, false)).1 0 = false := decide_eq_false (by omega)
        have c2 : leB (on.length : Int) (s.getD k (0, false)).1 = false := decide_eq_false (by omega)
        have c3 : ixB (s.getD k (0, false)).1 on.length = true := decide_eq_true (by omega)
        simp only [c1, c2, c3, Bool.or_self, Bool.not_false, Bool.not_true, Bool.false_or, chk_true]
        by_cases hq : a.getD (s.getD k (0, false)).1.toNat false = (s.getD k (0, false)).2
        · have c4 : (a.getD (s.getD k (0, false)).1.toNat false == (s.getD k (0, false)).2) = true := by simpa using hq
          rw [if_neg (fun h => h.2.2 hq), c4]; rfl
        · have c4 : (a.getD (s.getD k (0, false)).1.toNat false == (s.getD k (0, false)).2) = false := by simpa using hq
          rw [if_pos ⟨hc.1, hc.2, hq⟩, c4]; rfl
      · have c1 : (ltB (s.getD k (0, false)).1 0 || leB (on.length : Int) (s.getD k (0, false)).1) = true := out_b hc
        rw [if_neg (fun h => hc ⟨h.1, h.2.1⟩)]
        simp only [c1, Bool.not_true, Bool.true_or, chk_true, Bool.not_false, cond_true]
        cases ltB (s.getD k (0, false)).1 0 <;> rfl) (fun fuel a ha => by rw [m_laws_FnOperations_l1.eq_2]; simp only [nlt_dec, cond_false])
  rw [hit] at hloop
  rw [show (on, (0 : Int)) = (on, ((0 : Nat) : Int)) from rfl, hloop]
  simp only [cond_true, elimO, Option.bind_some, Sum.elim_inl, sameBools_eq _ _ (show (pst (on, who, at_, to_, left) l l.length).2.1.length ≤ 1099511627776 by omega), decide_true]
end Go.Proofs.YtapkaobelejkkaaDoor
