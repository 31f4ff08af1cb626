/- WorldDark: the models are darkL. -/
import Derived.Test.YtcmnjaccapbhfaaQSum
import Derived.Test.YtcmnjaccapbhfaaQWvM
namespace Go.Proofs.Ytcmnjaccapbhfaa
set_option linter.unusedVariables false
set_option linter.unusedSimpArgs false
def darkL (w : Wd) : List Nat := (List.range w.pts.length).filter fun k => ltB 0 (w.pts.getD k (0, 0)).2 && !ltB 0 (sumE (onE w.ls w.on) w.pts (·.1) k)
theorem iIdxI (l : List Int) (x : Int) (hl : l.length ≤ 1099511627776) : ∃ z, m_slices_Index_int_int l x = some z ∧ leB 0 z = decide (x ∈ l) := by
  unfold m_slices_Index_int_int
  have h := loop_first (m_slices_Index_int_int_l1 l x) (fun k => (k : Int)) l.length (fun k => x == l.getD k 0) (fun k => some (.inr (k : Int))) (some (.inl ())) hl (fun k fuel hk => by
    rw [m_slices_Index_int_int_l1.eq_2]
    simp only [lt_dec hk, ix_dec hk, chk_true, cond_true, Int.toNat_natCast, w64_succ (by omega : k < 4611686018427387904)]) (fun fuel => by rw [m_slices_Index_int_int_l1.eq_2]; simp only [nlt_dec, cond_false])
  rw [show m_slices_Index_int_int_l1 l x FUEL 0 = _ from h]
  cases hf : (List.range l.length).find? (fun k => x == l.getD k 0) with
  | none =>
    refine ⟨_, rfl, ?_⟩
    have : x ∉ l := fun hx => by
      obtain ⟨k, hk, rfl⟩ := List.mem_iff_getElem.1 hx
      have := List.find?_eq_none.1 hf k (by simpa using hk)
      rw [getD_ge hk] at this
      simp at this
    rw [decide_eq_false this]; rfl
  | some k =>
    obtain ⟨h1, h2, _⟩ := List.find?_range_eq_some.1 hf
    have hk : k < l.length := by simpa using h2
    refine ⟨_, rfl, ?_⟩
    have : x ∈ l := by
      rw [beq_iff_eq] at h1
      rw [h1, getD_ge hk]; exact List.getElem_mem hk
    rw [decide_eq_true this]; simp [leB]
theorem iHasI (l : List Int) (x : Int) (hl : l.length ≤ 1099511627776) : m_slices_Contains_int_int l x = some (decide (x ∈ l)) := by
  obtain ⟨z, h1, h2⟩ := iIdxI l x hl
  unfold m_slices_Contains_int_int
  rw [h1, Option.bind_some, h2]
theorem alive_mem {E : Ed} {pts : List (Int × Int)} {k : Nat} (hk : k < pts.length) : decide ((k : Int) ∈ zl (aliveL E pts)) = ltB 0 (sumE E pts (·.1) k) := by
  rw [Bool.eq_iff_iff, decide_eq_true_eq, zl_mem]
  simp [aliveL, hk]
section
variable (b : Int) (ls : List Ln) (pts : List (Int × Int)) (on earth : List Bool) (pm : Pm) (br : List Int) (hp : pts.length ≤ 1048576) (ho : on.length ≤ 1048576) (hm : pm.length ≤ 1048576) (hb : br.length ≤ 1048576)
include hp ho hm hb
theorem iDark : m_impl_WorldDark b ls pts on earth pm br = some (if wv ⟨b, ls, pts, on, earth, pm, br⟩ then zl (darkL ⟨b, ls, pts, on, earth, pm, br⟩) else []) := by
  unfold m_impl_WorldDark
  rw [iWv b ls pts on earth pm br hp ho hm hb, Option.bind_some]
  cases hv : wv ⟨b, ls, pts, on, earth, pm, br⟩
  · rfl
  have hw := wv_iff.1 hv
  have hok : okV b ls on pts = true := okV_iff.2 ⟨⟨hw.bus.net, hw.len⟩, hw.bus⟩
  simp only [cond_true, iAlive b ls on pts hp, hok, if_true, Option.bind_some]
  have hal : (zl (aliveL (onE ls on) pts)).length ≤ 1099511627776 := by
    rw [zl_len]; unfold aliveL
    have := List.length_filter_le (fun b => ltB 0 (sumE (onE ls on) pts (·.1) b)) (List.range pts.length)
    rw [List.length_range] at this; omega
  have hh := loop_filter (m_impl_WorldDark_l1 pts (zl (aliveL (onE ls on) pts))) pts.length (fun k => ltB 0 (pts.getD k (0, 0)).2 && !ltB 0 (sumE (onE ls on) pts (·.1) k)) some (by omega) (fun k fuel l hk ha => ?_) (fun fuel l => ?_)
  · rw [hh]; rfl
  · rw [m_impl_WorldDark_l1.eq_2]
    simp only [lt_dec hk, ix_dec hk, chk_true, cond_true, Int.toNat_natCast, iHasI _ _ hal, alive_mem hk, ha, w64_succ (by omega : k < 4611686018427387904)]
    cases ltB 0 (pts.getD k (0, 0)).2
    · rfl
    · cases ltB 0 (sumE (onE ls on) pts (·.1) k) <;> rfl
  · rw [m_impl_WorldDark_l1.eq_2]; simp only [nlt_dec, cond_false]
theorem sDark : m_spec_WorldDark b ls pts on earth pm br = some (if wv ⟨b, ls, pts, on, earth, pm, br⟩ then zl (darkL ⟨b, ls, pts, on, earth, pm, br⟩) else []) := by
  unfold m_spec_WorldDark
  rw [sWv b ls pts on earth pm br hp ho hm hb, Option.bind_some]
  cases hv : wv ⟨b, ls, pts, on, earth, pm, br⟩
  · rfl
  have hw := wv_iff.1 hv
  have hlp := hw.bus.lp
  dsimp only at hlp
  subst hlp
  simp only [cond_true, sAlive ⟨hw.bus.net, hw.len⟩ hw.bus, if_true, Option.bind_some]
  have hal : (zl (aliveL (onE ls on) pts)).length ≤ 1099511627776 := by
    rw [zl_len]; unfold aliveL
    have := List.length_filter_le (fun b => ltB 0 (sumE (onE ls on) pts (·.1) b)) (List.range pts.length)
    rw [List.length_range] at this; omega
  have hh := loop_filter (m_spec_WorldDark_l1 pts (zl (aliveL (onE ls on) pts))) pts.length (fun k => ltB 0 (pts.getD k (0, 0)).2 && !ltB 0 (sumE (onE ls on) pts (·.1) k)) some (by omega) (fun k fuel l hk ha => ?_) (fun fuel l => ?_)
  · rw [hh]; rfl
  · rw [m_spec_WorldDark_l1.eq_2]
    simp only [lt_dec hk, ix_dec hk, chk_true, cond_true, Int.toNat_natCast, sHas _ _ hal, alive_mem hk, ha, Bool.or_true, Option.bind_some, w64_succ (by omega : k < 4611686018427387904)]
    cases ltB 0 (pts.getD k (0, 0)).2 <;> cases ltB 0 (sumE (onE ls on) pts (·.1) k) <;> rfl
  · rw [m_spec_WorldDark_l1.eq_2]; simp only [nlt_dec, cond_false]
end
theorem core_ExactWorldDark (b : Int) (ls : List Ln) (pts : List (Int × Int)) (on earth : List Bool) (pm : Pm) (br : List Int) (hl : ls.length ≤ 1048576) (hp : pts.length ≤ 1048576) (ho : on.length ≤ 1048576) (he : earth.length ≤ 1048576) (hm : pm.length ≤ 1048576) (hb : br.length ≤ 1048576) (_ : inR b) (_ : ∀ z ∈ ls, inR z.1 ∧ inR z.2.1 ∧ inR z.2.2) (_ : ∀ z ∈ pts, inR z.1 ∧ inR z.2) (_ : ∀ z ∈ on, True) (_ : ∀ z ∈ earth, True) (_ : ∀ z ∈ pm, inR z.1 ∧ inR z.2) (_ : ∀ z ∈ br, inR z) :
    ∃ r, m_spec_WorldDark b ls pts on earth pm br = some r ∧ m_impl_WorldDark b ls pts on earth pm br = some r ∧ r.length ≤ 1048576 := by
  refine ⟨_, sDark b ls pts on earth pm br hp ho hm hb, iDark b ls pts on earth pm br hp ho hm hb, ?_⟩
  split
  · rw [zl_len]; unfold darkL
    have := List.length_filter_le (fun k => ltB 0 (pts.getD k (0, 0)).2 && !ltB 0 (sumE (onE ls on) pts (·.1) k)) (List.range pts.length)
    rw [List.length_range] at this
    exact Nat.le_trans this hp
  · simp
end Go.Proofs.Ytcmnjaccapbhfaa
