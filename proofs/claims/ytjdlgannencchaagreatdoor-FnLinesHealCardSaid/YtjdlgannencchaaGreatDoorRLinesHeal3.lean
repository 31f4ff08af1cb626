/- Texts of the claim, one behind the other: Ep, Eq, Er, Es, Et, Eu, Ev, Opn, Ew, LnA, LnM, Shf, LnH, InsA, InsB, InsC, InsD. -/
import Derived.Lib.Split
import Derived.Lib.SplitLaws
import Derived.Lib.Join
import Derived.Lib.ItoaMem
import Derived.Shelf.Strings.BuilderK
import Derived.Shelf.Strings.OnBuilder
import Derived.Shelf.Strconv.Itoa3
import Derived.Shelf.Strings.Split
import Derived.Test.YtjdlgannencchaaGreatDoorProg
import Derived.Shelf.Spec.SlicesInsertGrow
import Derived.Shelf.Spec.SlicesInsert
import Derived.Test.YtjdlgannencchaaGreatDoorRLinesHeal2
namespace Go.Proofs.YtjdlgannencchaaGreatDoor
open Go.ChangeShapes Go.WideShapes Go.ChangeAt Go.RowKit
set_option linter.unusedVariables false
set_option linter.unusedSimpArgs false
def AgrAt (e e' : Env) (g : Nat) : Prop := e'.b g = e.b g ∧ e'.a g = e.a g ∧ e'.c g = e.c g ∧ e'.y g = e.y g
section
variable {s s' : Sy} {e e' : Env}
theorem lf_agr {y : Lf} (h : ∀ g ∈ y.gs, AgrAt e e' g) : y.den e' = y.den e := by
  cases y with
  | pt g off => simp only [Lf.den, (h g (by simp [Lf.gs])).1]
  | sl g n' rt => have := h g (by simp [Lf.gs]); simp only [Lf.den, this.2.1, this.2.2.1]
  | zl g n' rt => have := h g (by simp [Lf.gs]); simp only [Lf.den, this.2.1, this.2.2.1]
  | vw g ct sz n' lo hi p => have := h g (by simp [Lf.gs]); simp only [Lf.den, this.2.1, this.2.2.1]
  | el g rt sz it i off => have := h g (by simp [Lf.gs]); simp only [Lf.den, this.2.1]
  | pa g off n' i => simp only [Lf.den, (h g (by simp [Lf.gs])).1]
  | al g ct n' f => have := h g (by simp [Lf.gs]); simp only [Lf.den, this.2.1, this.2.2.1]
  | _ => rfl
theorem lfs_gs {vs : List (Nat × Lf)} : ∀ {l : List Ax} {r : List Lf}, lfs vs l = some r → ∀ y ∈ r, ∀ g ∈ y.gs, g ∈ gsOf vs l
  | [], r, h, y, hy, g, hg => by injection h with h; subst h; cases hy
  | x :: l, r, h, y, hy, g, hg => by
    obtain ⟨z, q, h1, h2, rfl⟩ := lfs_cons.1 h
    simp only [gsOf, h1]
    rcases List.mem_cons.1 hy with rfl | hy
    · exact List.mem_append_left _ hg
    · exact List.mem_append_right _ (lfs_gs h2 y hy g hg)
theorem lfs_agr {l : List Ax} {q : List Lf} (hl : lfs s.vs l = some q) (h : ∀ g ∈ gsOf s.vs l, AgrAt e e' g) : q.map (Lf.den e') = q.map (Lf.den e) := List.map_congr_left fun y hy => lf_agr fun g hg => h g (lfs_gs hl y hy g hg)
theorem sv1_agr {x : SV1} {u : Value} (h : ∀ g ∈ gsOf s.vs (leafs x), AgrAt e e' g) (hd : x.den e s.vs = some u) : x.den e' s.vs = some u := by
  cases x with
  | a x =>
    simp only [SV1.den, Option.map_eq_some_iff] at hd ⊢
    obtain ⟨y, a, b⟩ := hd
    exact ⟨y, a, by rw [lf_agr fun g hg => h g (by simp [leafs, gsOf, a, hg])]; exact b⟩
  | g xs =>
    simp only [SV1.den, Option.map_eq_some_iff] at hd ⊢
    obtain ⟨y, a, b⟩ := hd
    exact ⟨y, a, by rw [lfs_agr a h]; exact b⟩
theorem dens_agr' : ∀ {l : List SV1} {us : List Value}, (∀ g ∈ l.flatMap fun x => gsOf s.vs (leafs x), AgrAt e e' g) → dens e s.vs l = some us → dens e' s.vs l = some us
  | [], us, _, h => h
  | x :: l, us, ha, h => by
    simp only [dens] at h
    split at h
    · rename_i u q h1 h2
      injection h with h; subst h
      simp only [List.flatMap_cons] at ha
      exact dens_cons (sv1_agr (fun g hg => ha g (List.mem_append_left _ hg)) h1) (dens_agr' (fun g hg => ha g (List.mem_append_right _ hg)) h2)
    · cases h
theorem denv_agr {x : SV} {u : Value} (h : ∀ g ∈ gsV s.vs x, AgrAt e e' g) (hd : DenV e s x u) : DenV e' s x u := by
  cases x with
  | v x => exact ⟨sv1_agr h hd.1, hd.2⟩
  | tu l => obtain ⟨us, a, b, c⟩ := hd; exact ⟨us, dens_agr' h a, b, c⟩
  | gv ls g x => obtain ⟨a, u', b, c⟩ := hd; exact ⟨a, u', b, fun hg => ⟨sv1_agr h (c hg).1, (c hg).2⟩⟩
  | un => exact hd
def thGs (vs : List (Nat × Lf)) : Th → List Nat
  | .box _ xs => gsOf vs xs | _ => []
theorem th_agr {g : Nat} {x : Th} {y : Asn} (hg : AgrAt e e' g) (h : ∀ g ∈ thGs s.vs x, AgrAt e e' g) (hd : x.den e s.vs s.ct g = some y) : x.den e' s.vs s.ct g = some y := by
  cases x with
  | box T cs =>
    simp only [Th.den, Option.map_eq_some_iff] at hd ⊢
    obtain ⟨l, a, b⟩ := hd
    exact ⟨l, a, by rw [lfs_agr a h, hg.1]; exact b⟩
  | row E ct => simpa only [Th.den, hg.2.1, hg.2.2.1] using hd
  | part ct => simpa only [Th.den, hg.2.1, hg.2.2.1] using hd
  | kp ct => simpa only [Th.den, hg.2.2.2] using hd
theorem ths_agr' : ∀ {T : List (Nat × Th)} {L : List Asn}, (∀ p ∈ T, AgrAt e e' p.1 ∧ ∀ g ∈ thGs s.vs p.2, AgrAt e e' g) → ths e s.vs s.ct T = some L → ths e' s.vs s.ct T = some L
  | [], L, _, h => h
  | (g, x) :: T, L, ha, h => by
    obtain ⟨y, q, a, b, rfl⟩ := ths_cons.1 h
    have h1 := ha (g, x) (by simp)
    exact ths_cons.2 ⟨y, q, th_agr h1.1 h1.2 a, ths_agr' (fun p hp => ha p (by simp [hp])) b, rfl⟩
theorem ths_env {e1 : Env} : ∀ {T : List (Nat × Th)} {L : List Asn}, ths e1 s.vs s.ct T = some L → ∃ L', ths e s.vs s.ct T = some L'
  | [], L, _ => ⟨[], rfl⟩
  | (g, x) :: T, L, h => by
    obtain ⟨y, q, a, b, rfl⟩ := ths_cons.1 h
    obtain ⟨q', hq'⟩ := ths_env b
    have : ∃ y', x.den e s.vs s.ct g = some y' := by
      cases x with
      | box T cs => simp only [Th.den, Option.map_eq_some_iff] at a; obtain ⟨l, a, _⟩ := a; exact ⟨_, by simp only [Th.den, a, Option.map_some]; rfl⟩
      | row E ct => simp only [Th.den, Option.map_eq_some_iff] at a; obtain ⟨l, a, _⟩ := a; exact ⟨_, by simp only [Th.den, a, Option.map_some]; rfl⟩
      | part ct => simp only [Th.den, Option.map_eq_some_iff] at a; obtain ⟨l, a, _⟩ := a; exact ⟨_, by simp only [Th.den, a, Option.map_some]; rfl⟩
      | kp ct => exact ⟨_, rfl⟩
    obtain ⟨y', hy'⟩ := this
    exact ⟨y' :: q', ths_cons.2 ⟨y', q', hy', hq', rfl⟩⟩
theorem gsOf_ext (E : Ext s s') : ∀ {xs : List Ax}, (∀ x ∈ xs, x.ok s) → gsOf s'.vs xs = gsOf s.vs xs
  | [], _ => rfl
  | x :: xs, h => by
    obtain ⟨y, hy, _⟩ := h x (by simp)
    have ih := gsOf_ext E (xs := xs) fun z hz => h z (by simp [hz])
    simp only [gsOf, hy, E.lf hy, ih]
theorem gsOf_lt : ∀ {xs : List Ax}, (∀ x ∈ xs, x.ok s) → ∀ g ∈ gsOf s.vs xs, g < s.n
  | [], _, g, hg => by cases hg
  | x :: xs, h, g, hg => by
    obtain ⟨y, hy, hk⟩ := h x (by simp)
    simp only [gsOf, hy] at hg
    rcases List.mem_append.1 hg with hg | hg
    · exact hk.2 g hg
    · exact gsOf_lt (fun z hz => h z (by simp [hz])) g hg
theorem pk_congr {T T' : List (Nat × Th)} : ∀ {gs : List Nat}, (∀ g ∈ gs, lk T g = lk T' g) → pk T gs = pk T' gs
  | [], _ => rfl
  | g :: gs, h => by
    have ih := pk_congr (gs := gs) fun g' hg' => h g' (by simp [hg'])
    simp only [pk, h g (by simp), ih]
end
theorem perm_of_lk : ∀ {T T' : List (Nat × Th)}, (T.map (·.1)).Nodup → (T'.map (·.1)).Nodup → (∀ g, lk T g = lk T' g) → T.Perm T'
  | [], T', _, _, h => by
    cases T' with
    | nil => exact List.Perm.refl _
    | cons p T' => obtain ⟨d, x⟩ := p; have := h d; rw [lk_same] at this; cases this
  | (d, x) :: T, T', h1, h2, h => by
    simp only [List.map_cons, List.nodup_cons] at h1
    have hd : lk T' d = some x := by rw [← h d]; exact lk_same
    have hp : T'.Perm ((d, x) :: rm1 d T') := by
      have : ∀ {T' : List (Nat × Th)}, lk T' d = some x → T'.Perm ((d, x) :: rm1 d T') := by
        intro T'
        induction T' with
        | nil => intro h; cases h
        | cons p T' ih =>
          obtain ⟨d', x'⟩ := p
          intro h
          simp only [lk] at h
          simp only [rm1]
          cases hb : Nat.beq d d' with
          | true =>
            rw [hb] at h; injection h with h; subst h
            rw [beqs hb]; exact List.Perm.refl _
          | false =>
            rw [hb] at h
            exact ((ih h).cons _).trans (List.Perm.swap _ _ _)
      exact this hd
    refine ((perm_of_lk h1.2 (h2.sublist (rm1_sublist.map _)) fun g => ?_).cons _).trans hp.symm
    by_cases hg : g = d
    · subst hg; rw [rm1_gone h2]; exact lk_none_iff.2 h1.1
    · rw [rm1_ne hg, ← h g, lk_ne hg]
theorem ths_perm {s : Sy} {e : Env} {T T' : List (Nat × Th)} (hp : T.Perm T') : ∀ {L : List Asn}, ths e s.vs s.ct T = some L → ∃ L', ths e s.vs s.ct T' = some L' ∧ L.Perm L' := by
  induction hp with
  | nil => intro L h; exact ⟨L, h, List.Perm.refl _⟩
  | cons p _ ih =>
    intro L h
    obtain ⟨y, q, a, b, rfl⟩ := ths_cons.1 h
    obtain ⟨q', c, d⟩ := ih b
    exact ⟨y :: q', ths_cons.2 ⟨y, q', a, c, rfl⟩, d.cons _⟩
  | swap p q l =>
    intro L h
    obtain ⟨y, L1, a, b, rfl⟩ := ths_cons.1 h
    obtain ⟨z, L2, c, d, rfl⟩ := ths_cons.1 b
    exact ⟨z :: y :: L2, ths_cons.2 ⟨z, _, c, ths_cons.2 ⟨y, _, a, d, rfl⟩, rfl⟩, List.Perm.swap _ _ _⟩
  | trans _ _ ih1 ih2 =>
    intro L h
    obtain ⟨L1, a, b⟩ := ih1 h
    obtain ⟨L2, c, d⟩ := ih2 a
    exact ⟨L2, c, b.trans d⟩
def Sx (tr : List Trc) (sN : Sy) (i : Nat) : Sy := match tr[i]? with | some t => t.s | none => sN
def Trc.wr (t : Trc) : List Nat := t.tk ++ t.nt.map (·.1)
structure DR (P : Program) (ops : Array Oper) (ds : List (Option Nat)) (r : Rn) (s0 sN : Sy) (tr : List Trc) : Prop where
  tf : ∀ k t, tr[k]? = some t → TF P ops ds r s0.n k (((tr.take k).map (·.l)).reverse) t ∧ Sx tr sN (k + 1) = t.s'
  op : ∀ k : Nat, (tr[k]?).map (fun t : Trc => t.o) = ops[k]?
  S0 : Sx tr sN 0 = s0
  wfN : Wf r sN
  ndN : nodupB (sN.th.map (·.1)) = true
section
variable {P : Program} {G : Cx} {ops : Array Oper} {ds : List (Option Nat)} {r : Rn} {s0 sN : Sy} {tr : List Trc} {n0 : Nat}
theorem tr_at : ∀ {tr : List Trc} {i : Nat} {lg : List Lg} {s s' : Sy}, TrOk P ops ds r n0 i lg s tr s' → Sx tr s' 0 = s ∧ ∀ k t, tr[k]? = some t → TF P ops ds r n0 (i + k) (((tr.take k).map (·.l)).reverse ++ lg) t ∧ Sx tr s' (k + 1) = t.s'
  | [], i, lg, s, s', h => ⟨h.symm, fun k t hk => by simp at hk⟩
  | t0 :: tr, i, lg, s, s', h => by
    obtain ⟨h1, h2, h3⟩ := h
    obtain ⟨q0, q1⟩ := tr_at h3
    refine ⟨h1, fun k t hk => ?_⟩
    cases k with
    | zero =>
      simp only [List.getElem?_cons_zero, Option.some.injEq] at hk
      subst hk
      exact ⟨by simpa using h2, by rw [← q0]; simp [Sx]⟩
    | succ k =>
      simp only [List.getElem?_cons_succ] at hk
      obtain ⟨a, b⟩ := q1 k t hk
      refine ⟨?_, by rw [← b]; simp [Sx]⟩
      rw [show i + (k + 1) = i + 1 + k by omega]
      simpa using a
section
theorem DR.sx (D : DR P ops ds r s0 sN tr) {k : Nat} {t : Trc} (h : tr[k]? = some t) : Sx tr sN k = t.s := by simp [Sx, h]
theorem DR.step (D : DR P ops ds r s0 sN tr) {k : Nat} (hk : k < tr.length) : Ext (Sx tr sN k) (Sx tr sN (k + 1)) := by
  obtain ⟨t, ht⟩ : ∃ t, tr[k]? = some t := ⟨tr[k], by simp [hk]⟩
  obtain ⟨a, b⟩ := D.tf k t ht
  rw [D.sx ht, b]; exact a.ext
theorem DR.ext (D : DR P ops ds r s0 sN tr) {i j : Nat} (hij : i ≤ j) (hj : j ≤ tr.length) : Ext (Sx tr sN i) (Sx tr sN j) := by
  induction j with
  | zero => obtain rfl : i = 0 := by omega
            exact .refl _
  | succ j ih =>
    rcases Nat.lt_or_ge i (j + 1) with h | h
    · exact (ih (by omega) (by omega)).trans (D.step (by omega))
    · obtain rfl : i = j + 1 := by omega
      exact .refl _
theorem DR.eN (D : DR P ops ds r s0 sN tr) : Sx tr sN tr.length = sN := by simp [Sx]
theorem DR.lt (D : DR P ops ds r s0 sN tr) {k : Nat} {t : Trc} (h : tr[k]? = some t) : k < tr.length := (List.getElem?_eq_some_iff.1 h).1
theorem DR.extN (D : DR P ops ds r s0 sN tr) {k : Nat} {t : Trc} (h : tr[k]? = some t) : Ext t.s' sN := by
  have := D.ext (i := k + 1) (j := tr.length) (D.lt h) (Nat.le_refl _)
  rwa [(D.tf k t h).2, D.eN] at this
theorem DR.ext0 (D : DR P ops ds r s0 sN tr) {k : Nat} {t : Trc} (h : tr[k]? = some t) : Ext s0 t.s := by
  have := D.ext (i := 0) (j := k) (Nat.zero_le _) (Nat.le_of_lt (D.lt h))
  rwa [D.S0, D.sx h] at this
theorem DR.exij (D : DR P ops ds r s0 sN tr) {i j : Nat} {t u : Trc} (hi : tr[i]? = some t) (hj : tr[j]? = some u) (hij : i < j) : Ext t.s' u.s := by
  have := D.ext (i := i + 1) (j := j) hij (Nat.le_of_lt (D.lt hj))
  rwa [(D.tf i t hi).2, D.sx hj] at this
theorem DR.lgf (D : DR P ops ds r s0 sN tr) {k : Nat} {t : Trc} (h : tr[k]? = some t) : t.l.i = k ∧ t.l.d = t.o.dst ∧ t.l.ks = ksO ds t.o ∧ t.l.n0 = t.s.n ∧ t.l.n1 = t.s'.n ∧ t.l.us = usd t.s t.o ∧ t.l.wr = t.wr ∧ rchE (((tr.take k).map (·.l)).reverse) t.o.after.toList = some t.l.rch := by
  have := (D.tf k t h).1.lo
  unfold lgOf at this
  split at this
  · rename_i q hq
    injection this with this
    rw [← this]
    exact ⟨rfl, rfl, rfl, rfl, rfl, rfl, rfl, hq⟩
  · cases this
theorem DR.mem (D : DR P ops ds r s0 sN tr) {i k : Nat} {t : Trc} (hi : tr[i]? = some t) (hik : i < k) : t.l ∈ ((tr.take k).map (·.l)).reverse := by
  rw [List.mem_reverse, List.mem_map]
  exact ⟨t, List.mem_of_getElem? (i := i) (by rw [List.getElem?_take, if_pos hik]; exact hi), rfl⟩
theorem DR.of_mem (D : DR P ops ds r s0 sN tr) {k : Nat} {l : Lg} (h : l ∈ ((tr.take k).map (·.l)).reverse) : ∃ i t, i < k ∧ tr[i]? = some t ∧ t.l = l := by
  rw [List.mem_reverse, List.mem_map] at h
  obtain ⟨t, ht, rfl⟩ := h
  obtain ⟨i, hi⟩ := List.mem_iff_getElem?.1 ht
  rw [List.getElem?_take] at hi
  split at hi
  · rename_i h; exact ⟨i, t, h, hi, rfl⟩
  · cases hi
theorem DR.pair (D : DR P ops ds r s0 sN tr) {i k : Nat} {t u : Trc} (hi : tr[i]? = some t) (hk : tr[k]? = some u) (hik : i < k) : lgPair u.l t.l = true := by
  have := (D.tf k u hk).1.ok
  simp only [lgOk, Bool.and_eq_true] at this
  exact List.all_eq_true.1 this.1 _ (D.mem hi hik)
theorem DR.touch (D : DR P ops ds r s0 sN tr) {i k : Nat} {t u : Trc} (hi : tr[i]? = some t) (hk : tr[k]? = some u) (hik : i < k) {g : Nat} (h : (g ∈ t.wr ∧ (g ∈ usd u.s u.o ∨ g ∈ u.wr)) ∨ (g ∈ usd t.s t.o ∧ g ∈ u.wr)) : i ∈ u.l.rch := by
  have hp := D.pair hi hk hik
  simp only [lgPair, Bool.and_eq_true, Bool.or_eq_true, Bool.not_eq_true'] at hp
  obtain ⟨a1, _, _, _, _, a6, a7, _⟩ := D.lgf hi
  obtain ⟨_, _, _, _, _, b6, b7, _⟩ := D.lgf hk
  rcases hp.2 with hp | hp
  · rw [memN_iff, a1] at hp; exact hp
  · exfalso
    have meet : ∀ {x y : List Nat}, g ∈ x → g ∈ y → meets x y = true := fun hx hy => List.any_eq_true.2 ⟨g, hx, memN_iff.2 hy⟩
    rw [a6, a7, b6, b7] at hp
    simp only [Bool.or_eq_false_iff] at hp
    rcases h with ⟨h1, h2 | h2⟩ | ⟨h1, h2⟩
    · rw [meet h1 h2] at hp; cases hp.1.1
    · rw [meet h1 h2] at hp; cases hp.1.2
    · rw [meet h1 h2] at hp; cases hp.2
theorem DR.slots (D : DR P ops ds r s0 sN tr) {i k : Nat} {t u : Trc} (hi : tr[i]? = some t) (hk : tr[k]? = some u) (hik : i < k) {d : Nat} : (u.o.dst = some d → t.o.dst ≠ some d) ∧ (u.o.dst = some d → d ∈ ksO ds t.o → i ∈ u.l.rch) ∧ (t.o.dst = some d → d ∈ ksO ds u.o → i ∈ u.l.rch) := by
  have hp := D.pair hi hk hik
  simp only [lgPair, Bool.and_eq_true] at hp
  have hp := hp.1
  obtain ⟨a1, a2, a3, _⟩ := D.lgf hi
  obtain ⟨b1, b2, b3, _⟩ := D.lgf hk
  simp only [dOk, a2, b2, a3, b3, Bool.and_eq_true] at hp
  refine ⟨fun h1 h2 => ?_, fun h1 h2 => ?_, fun h1 h2 => ?_⟩
  · rw [h1, h2] at hp
    have := hp.1
    simp only [Bool.and_eq_true, Bool.not_eq_true'] at this
    rw [Nat.beq_refl] at this; cases this.1
  · rw [h1] at hp
    have := hp.1
    simp only [Bool.and_eq_true, Bool.or_eq_true, Bool.not_eq_true'] at this
    rcases this.2 with h | h
    · rw [memN_iff.2 h2] at h; cases h
    · rw [memN_iff, a1] at h; exact h
  · rw [h1] at hp
    have := hp.2
    simp only [Bool.or_eq_true, Bool.not_eq_true'] at this
    rcases this with h | h
    · rw [memN_iff.2 h2] at h; cases h
    · rw [memN_iff, a1] at h; exact h
theorem rchE_ok {lg : List Lg} : ∀ {es : List Edge} {q : List Nat}, rchE lg es = some q → (∀ ed ∈ es, Region.binds .any ed = true → ∃ l ∈ lg, l.i = ed.on) ∧ ∀ j ∈ q, ∃ ed ∈ es, Region.binds .any ed = true ∧ (j = ed.on ∨ ∃ l ∈ lg, l.i = ed.on ∧ j ∈ l.rch)
  | [], q, h => by injection h with h; subst h; exact ⟨nofun, nofun⟩
  | ed :: es, q, h => by
    have at_ : ∀ {lg : List Lg} {i : Nat} {l : Lg}, lgAt lg i = some l → l ∈ lg ∧ l.i = i := by
      intro lg
      induction lg with
      | nil => intro i l h; cases h
      | cons x lg ih =>
        intro i l h
        simp only [lgAt] at h
        cases hb : Nat.beq x.i i with
        | true => rw [hb] at h; injection h with h; subst h; exact ⟨by simp, beqs hb⟩
        | false => rw [hb] at h; obtain ⟨a, b⟩ := ih h; exact ⟨by simp [a], b⟩
    simp only [rchE] at h
    cases hb : Region.binds .any ed with
    | false =>
      rw [hb] at h
      obtain ⟨a, b⟩ := rchE_ok (es := es) h
      refine ⟨fun ed' hed hbb => ?_, fun j hj => ?_⟩
      · rcases List.mem_cons.1 hed with rfl | hed
        · rw [hb] at hbb; cases hbb
        · exact a ed' hed hbb
      · obtain ⟨ed', h1, h2⟩ := b j hj
        exact ⟨ed', by simp [h1], h2⟩
    | true =>
      rw [hb] at h
      simp only [cond_true] at h
      split at h
      · rename_i l q' h1 h2
        injection h with h; subst h
        obtain ⟨a, b⟩ := rchE_ok (es := es) h2
        obtain ⟨l1, l2⟩ := at_ h1
        refine ⟨fun ed' hed hbb => ?_, fun j hj => ?_⟩
        · rcases List.mem_cons.1 hed with rfl | hed
          · exact ⟨l, l1, l2⟩
          · exact a ed' hed hbb
        · rcases List.mem_cons.1 hj with rfl | hj
          · exact ⟨ed, by simp, hb, .inl rfl⟩
          rcases List.mem_append.1 hj with hj | hj
          · exact ⟨ed, by simp, hb, .inr ⟨l, l1, l2, hj⟩⟩
          · obtain ⟨ed', h1, h2⟩ := b j hj
            exact ⟨ed', by simp [h1], h2⟩
      · cases h
theorem DR.early (D : DR P ops ds r s0 sN tr) {k : Nat} {t : Trc} (h : tr[k]? = some t) : ∀ ed ∈ t.o.after, Region.binds .any ed = true → ed.on < k := by
  obtain ⟨_, _, _, _, _, _, _, h8⟩ := D.lgf h
  intro ed hed hb
  obtain ⟨l, h1, h2⟩ := (rchE_ok h8).1 ed (by simpa using hed) hb
  obtain ⟨i, u, h3, h4, rfl⟩ := D.of_mem h1
  rw [(D.lgf h4).1] at h2
  omega
theorem DR.listed (D : DR P ops ds r s0 sN tr) {listed : Array Bool} (hcl : ∀ j oj i, ops[j]? = some oj → listed.getD j false = true → waitsOn oj i = true → listed.getD i false = true) : ∀ (k : Nat) {t : Trc}, tr[k]? = some t → (∀ j, waitsOn t.o j = true → listed.getD j false = true) → ∀ j ∈ t.l.rch, listed.getD j false = true := by
  intro k
  induction k using Nat.strongRecOn with
  | _ k ih =>
    intro t ht hw j hj
    obtain ⟨_, _, _, _, _, _, _, h8⟩ := D.lgf ht
    obtain ⟨ed, h1, h2, h3⟩ := (rchE_ok h8).2 j hj
    have hwe : waitsOn t.o ed.on = true := by
      unfold waitsOn
      exact List.any_eq_true.2 ⟨ed, h1, by simp [h2]⟩
    have hl := hw _ hwe
    rcases h3 with rfl | ⟨l, h4, h5, h6⟩
    · exact hl
    · obtain ⟨i, u, h7, h9, rfl⟩ := D.of_mem h4
      rw [(D.lgf h9).1] at h5
      subst h5
      have hop : ops[ed.on]? = some u.o := by rw [← D.op, h9]; rfl
      exact ih ed.on h7 h9 (fun j' hj' => hcl ed.on u.o j' hop hl hj') j h6
theorem DR.untouched (D : DR P ops ds r s0 sN tr) {k : Nat} {t : Trc} (h : tr[k]? = some t) {g : Nat} (hg : g ∉ t.wr) : lk t.s'.th g = lk t.s.th g := by
  simp only [Trc.wr, List.mem_append, not_or] at hg
  rw [(D.tf k t h).1.th, lk_app, lk_none_iff.2 hg.2, rmv_ne hg.1]
theorem DR.chain (D : DR P ops ds r s0 sN tr) {g : Nat} {i j : Nat} (hij : i ≤ j) (hj : j ≤ tr.length) (h : ∀ k t, i ≤ k → k < j → tr[k]? = some t → g ∉ t.wr) : lk (Sx tr sN j).th g = lk (Sx tr sN i).th g := by
  induction j with
  | zero => obtain rfl : i = 0 := by omega
            rfl
  | succ j ih =>
    rcases Nat.lt_or_ge i (j + 1) with hlt | hge
    · obtain ⟨t, ht⟩ : ∃ t, tr[j]? = some t := ⟨tr[j]'(by omega), List.getElem?_eq_getElem (by omega)⟩
      rw [(D.tf j t ht).2, D.untouched ht (h j t (by omega) (by omega) ht), ← D.sx ht]
      exact ih (by omega) (by omega) fun k t h1 h2 => h k t h1 (by omega)
    · obtain rfl : i = j + 1 := by omega
      rfl
theorem DR.chainS (D : DR P ops ds r s0 sN tr) {d : Nat} {i j : Nat} (hij : i ≤ j) (hj : j ≤ tr.length) (h : ∀ k t, i ≤ k → k < j → tr[k]? = some t → t.o.dst ≠ some d) : lk (Sx tr sN j).sl d = lk (Sx tr sN i).sl d := by
  induction j with
  | zero => obtain rfl : i = 0 := by omega
            rfl
  | succ j ih =>
    rcases Nat.lt_or_ge i (j + 1) with hlt | hge
    · obtain ⟨t, ht⟩ : ∃ t, tr[j]? = some t := ⟨tr[j]'(by omega), List.getElem?_eq_getElem (by omega)⟩
      have hne := h j t (by omega) (by omega) ht
      have F := (D.tf j t ht).1
      have : lk t.s'.sl d = lk t.s.sl d := by
        cases hd : t.o.dst with
        | none => rw [F.sl0 hd]
        | some d' =>
          obtain ⟨x, hx⟩ := F.sl1 d' hd
          rw [hx, lk_ne (fun e => hne (by rw [hd, e]))]
      rw [(D.tf j t ht).2, this, ← D.sx ht]
      exact ih (by omega) (by omega) fun k t h1 h2 => h k t h1 (by omega)
    · obtain rfl : i = j + 1 := by omega
      rfl
end
theorem last_or (p : Nat → Prop) : ∀ n : Nat, (∀ j, j < n → ¬ p j) ∨ ∃ j, j < n ∧ p j ∧ ∀ k, j < k → k < n → ¬ p k
  | 0 => .inl fun j h => by omega
  | n + 1 => by
    by_cases hp : p n
    · exact .inr ⟨n, by omega, hp, fun k h1 h2 => by omega⟩
    · rcases last_or p n with h | ⟨j, h1, h2, h3⟩
      · exact .inl fun j hj => by
          rcases Nat.lt_or_ge j n with h' | h'
          · exact h j h'
          · obtain rfl : j = n := by omega
            exact hp
      · exact .inr ⟨j, by omega, h2, fun k h4 h5 => by
          rcases Nat.lt_or_ge k n with h' | h'
          · exact h3 k h4 h'
          · obtain rfl : k = n := by omega
            exact hp⟩
def Env.mix (e e' : Env) (lo hi : Nat) : Env := ⟨fun k => if lo ≤ k ∧ k < hi then e'.b k else e.b k, fun k => if lo ≤ k ∧ k < hi then e'.a k else e.a k, fun k => if lo ≤ k ∧ k < hi then e'.c k else e.c k, fun k => if lo ≤ k ∧ k < hi then e'.y k else e.y k⟩
theorem mix_out {e e' : Env} {lo hi g : Nat} (h : g < lo ∨ hi ≤ g) : AgrAt e (e.mix e' lo hi) g := by
  have : ¬ (lo ≤ g ∧ g < hi) := by omega
  simp [AgrAt, Env.mix, this]
theorem mix_in {e e' : Env} {lo hi : Nat} (h : Agr lo e e') : Agr hi e' (e.mix e' lo hi) := by
  intro g hg
  by_cases hl : lo ≤ g
  · simp [Env.mix, hl, hg]
  · have := h g (by omega)
    simp [Env.mix, hl, this]
structure DI (r : Rn) (s0 sN : Sy) (tr : List Trc) (e0 : Env) (a0 : Act) (listed : Array Bool) (e : Env) (T : List (Nat × Th)) (a : Act) (w : World) : Prop where
  size : a.tmps.size = r.n
  df : a.defers = []
  ag : Agr s0.n e0 e
  old : ∀ k, (∀ (i : Nat) t, tr[i]? = some t → listed.getD i false = true → t.o.dst ≠ some k) → sl a k = sl a0 k
  new : ∀ (i : Nat) t d x, tr[i]? = some t → listed.getD i false = true → t.o.dst = some d → lk t.s'.sl d = some x → DenV e t.s' x (sl a d)
  st : ∃ L, ths e sN.vs sN.ct T = some L ∧ St r.w0 w (L ++ r.X)
  nd : (T.map (·.1)).Nodup
  src : ∀ p ∈ T, p ∈ s0.th ∨ ∃ (i : Nat) (t : Trc), tr[i]? = some t ∧ listed.getD i false = true ∧ p ∈ t.nt
  t0 : ∀ g, (∀ (i : Nat) t, tr[i]? = some t → listed.getD i false = true → g ∉ t.wr) → lk T g = lk s0.th g
  t1 : ∀ g (i : Nat) t, tr[i]? = some t → listed.getD i false = true → g ∈ t.wr → (∀ (j : Nat) t', tr[j]? = some t' → listed.getD j false = true → i < j → g ∉ t'.wr) → lk T g = lk t.s'.th g
theorem DR.drift (D : DR P ops ds r s0 sN tr) {listed : Array Bool} (hcl : ∀ j oj i, ops[j]? = some oj → listed.getD j false = true → waitsOn oj i = true → listed.getD i false = true) {j : Nat} {u : Trc} (hj : tr[j]? = some u) (hl : listed.getD j false = true) : ∀ k ∈ u.l.rch, listed.getD k false = true :=
  D.listed hcl j hj fun k hk => hcl j u.o k (by rw [← D.op, hj]; rfl) hl hk
theorem DR.fresh (D : DR P ops ds r s0 sN tr) {listed : Array Bool} (hcl : ∀ j oj i, ops[j]? = some oj → listed.getD j false = true → waitsOn oj i = true → listed.getD i false = true) {i j : Nat} {t u : Trc} (hi : tr[i]? = some t) (hun : listed.getD i false = false) (hj : tr[j]? = some u) (hl : listed.getD j false = true) : ∀ g ∈ newGs u.s' u.o.dst u.nt, g < t.s.n ∨ t.s'.n ≤ g := by
  intro g hg
  have rng : ∀ {k : Nat} {v : Trc}, tr[k]? = some v → listed.getD k false = true → v.s.n ≤ g → g < v.s'.n → g < t.s.n ∨ t.s'.n ≤ g := by
    intro k v hk hlk h1 h2
    rcases Nat.lt_trichotomy k i with h | h | h
    · exact .inl (Nat.lt_of_lt_of_le h2 (D.exij hk hi h).n)
    · subst h; rw [hun] at hlk; cases hlk
    · exact .inr (Nat.le_trans (D.exij hi hk h).n h1)
  have := (D.tf j u hj).1.ok
  simp only [lgOk, Bool.and_eq_true] at this
  have := List.all_eq_true.1 this.2 g hg
  simp only [gOk, Bool.or_eq_true, Bool.and_eq_true] at this
  obtain ⟨_, _, _, b4, b5, _⟩ := D.lgf hj
  rcases this with (h | ⟨h1, h2⟩) | h
  · have h : g < s0.n := by simpa using h
    exact .inl (Nat.lt_of_lt_of_le h (D.ext0 hi).n)
  · rw [b4] at h1; rw [b5] at h2
    exact rng hj hl (by simpa using h1) (by simpa using h2)
  · obtain ⟨l', h1, h2⟩ := List.any_eq_true.1 h
    obtain ⟨k, v, h3, h4, rfl⟩ := D.of_mem h1
    obtain ⟨c1, _, _, c4, c5, _⟩ := D.lgf h4
    simp only [Bool.and_eq_true, memN_iff, c1, c4, c5] at h2
    exact rng h4 (D.drift hcl hj hl k h2.2) (by simpa using h2.1.1) (by simpa using h2.1.2)
theorem newGs_sl {s' : Sy} {d : Nat} {nt : List (Nat × Th)} {x : SV} (h : lk s'.sl d = some x) : ∀ g ∈ gsV s'.vs x, g ∈ newGs s' (some d) nt := fun g hg => List.mem_append_left _ (by simp only [opGs, h]; exact hg)
theorem newGs_nt {s' : Sy} {d : Option Nat} {nt : List (Nat × Th)} {p : Nat × Th} (h : p ∈ nt) : p.1 ∈ newGs s' d nt ∧ ∀ g ∈ thGs s'.vs p.2, g ∈ newGs s' d nt := by
  refine ⟨List.mem_append_right _ (List.mem_flatMap.2 ⟨p, h, by simp⟩), fun g hg => List.mem_append_right _ (List.mem_flatMap.2 ⟨p, h, ?_⟩)⟩
  obtain ⟨q, x⟩ := p
  cases x with
  | box T xs => exact List.mem_cons_of_mem _ hg
  | _ => cases hg
theorem thGs_ext {s s' : Sy} (E : Ext s s') {x : Th} (h : x.ok s) : thGs s'.vs x = thGs s.vs x := by
  cases x with
  | box T xs => exact gsOf_ext E h
  | _ => rfl
theorem thGs_lt {s : Sy} {x : Th} (h : x.ok s) : ∀ g ∈ thGs s.vs x, g < s.n := by
  cases x with
  | box T xs => exact gsOf_lt h
  | _ => intro g hg; cases hg
theorem DR.all (D : DR P ops ds r s0 sN tr) {e0 : Env} {a0 : Act} {w00 : World} (I0 : Inv r e0 a0 w00 s0) {Q : Exit → Act → World → Prop} (hdl : ∀ o ∈ ops.toList, ∀ d, o.dst = some d → d < r.n) (hend : ∀ e a w, Agr s0.n e0 e → Inv r e a w sN → Q .normal a w) :
    ∀ (fuel : Nat) (listed : Array Bool) (e : Env) (T : List (Nat × Th)) (a : Act) (w : World), listed.size = ops.size → DI r s0 sN tr e0 a0 listed e T a w →
      (∀ j oj i, ops[j]? = some oj → listed.getD j false = true → waitsOn oj i = true → listed.getD i false = true) →
      ((List.range ops.size).filter fun i => !listed.getD i true).length ≤ fuel → wpAny P .any ops Q fuel listed a w := by
  have hlen : tr.length = ops.size := by
    refine Nat.le_antisymm ?_ ?_
    · rcases Nat.lt_or_ge ops.size tr.length with h | h
      · have := D.op ops.size
        rw [List.getElem?_eq_getElem h] at this
        simp at this
      · exact h
    · rcases Nat.lt_or_ge tr.length ops.size with h | h
      · have := D.op tr.length
        rw [List.getElem?_eq_none (Nat.le_refl _)] at this
        simp [h] at this
      · exact h
  have tat : ∀ {i : Nat} {o : Oper}, ops[i]? = some o → ∃ t, tr[i]? = some t ∧ t.o = o := by
    intro i o ho
    have := D.op i
    rw [ho] at this
    obtain ⟨t, h1, h2⟩ := Option.map_eq_some_iff.1 this
    exact ⟨t, h1, h2⟩
  -- where the listed are all, the end is reached
  have hfin : ∀ (listed : Array Bool) (e : Env) (T : List (Nat × Th)) (a : Act) (w : World), DI r s0 sN tr e0 a0 listed e T a w → (∀ i, i < ops.size → listed.getD i false = true) → Q .normal a w := by
    intro listed e T a w I hl
    have hll : ∀ {i : Nat} {t : Trc}, tr[i]? = some t → listed.getD i false = true := fun h => hl _ (by rw [← hlen]; exact D.lt h)
    refine hend e a w I.ag ⟨I.size, I.df, fun k v hv => ?_, ?_, D.wfN, I0.par.trans (I.ag.le I0.wf.np)⟩
    · rcases last_or (fun i => ∃ t, tr[i]? = some t ∧ t.o.dst = some k) tr.length with h | ⟨i, h1, ⟨t, h2, h3⟩, h4⟩
      · have hc := D.chainS (d := k) (i := 0) (Nat.zero_le _) (Nat.le_refl _) fun j t _ hj ht hd => h j hj ⟨t, ht, hd⟩
        rw [D.eN, D.S0] at hc
        rw [hc] at hv
        have ho := I.old k fun i t hi _ hd => h i (D.lt hi) ⟨t, hi, hd⟩
        rw [ho]
        have := D.ext (i := 0) (j := tr.length) (Nat.zero_le _) (Nat.le_refl _)
        rw [D.eN, D.S0] at this
        exact ((I0.slot k v hv).agr I.ag).mono this
      · have hc := D.chainS (d := k) (i := i + 1) h1 (Nat.le_refl _) fun j u hj1 hj2 hu hd => h4 j hj1 hj2 ⟨u, hu, hd⟩
        rw [D.eN, (D.tf i t h2).2] at hc
        rw [hc] at hv
        exact (I.new i t k v h2 (hll h2) h3 hv).mono (D.extN h2)
    · obtain ⟨L, h1, h2⟩ := I.st
      have hp : T.Perm sN.th := by
        refine perm_of_lk I.nd (nodup_iff.1 D.ndN) fun g => ?_
        rcases last_or (fun i => ∃ t, tr[i]? = some t ∧ g ∈ t.wr) tr.length with h | ⟨i, q1, ⟨t, q2, q3⟩, q4⟩
        · have hc := D.chain (g := g) (i := 0) (Nat.zero_le _) (Nat.le_refl _) fun j t _ hj ht hd => h j hj ⟨t, ht, hd⟩
          rw [D.eN, D.S0] at hc
          rw [hc]
          exact I.t0 g fun i t hi _ hg => h i (D.lt hi) ⟨t, hi, hg⟩
        · have hc := D.chain (g := g) (i := i + 1) q1 (Nat.le_refl _) fun j u hj1 hj2 hu hd => q4 j hj1 hj2 ⟨u, hu, hd⟩
          rw [D.eN, (D.tf i t q2).2] at hc
          rw [hc]
          exact I.t1 g i t q2 (hll q2) q3 fun j u hu _ hij hg => q4 j hij (D.lt hu) ⟨u, hu, hg⟩
      obtain ⟨L', h3, h4⟩ := ths_perm hp h1
      exact ⟨L', h3, h2.perm (h4.append_right _)⟩
  have hready : ∀ (listed : Array Bool), listed.size = ops.size → Region.ready .any ops listed = [] → ∀ m i, i ≤ m → i < ops.size → listed.getD i true = true := by
    intro listed hsz hr m
    induction m using Nat.strongRecOn with
    | _ m ih =>
      intro i hi hlt
      cases hl : listed.getD i true with
      | true => rfl
      | false =>
        exfalso
        obtain ⟨o, ho⟩ : ∃ o, ops[i]? = some o := ⟨ops[i], by simp [hlt]⟩
        obtain ⟨t, ht, rfl⟩ := tat ho
        have hm : i ∈ Region.ready .any ops listed := by
          unfold Region.ready
          rw [List.mem_filter]
          refine ⟨by simpa using hlt, ?_⟩
          rw [hl, ho]
          simp only [Bool.not_false, Bool.true_and, Option.map_some, Option.getD_some]
          refine Array.all_eq_true'.2 fun ed he => ?_
          cases hb : Region.binds .any ed with
          | false => rfl
          | true =>
            have h1 := D.early ht ed he hb
            have h2 := ih ed.on (by omega) ed.on (Nat.le_refl _) (by omega)
            have h3 : ed.on < listed.size := by omega
            simp [h3] at h2
            simp [h3, h2]
        rw [hr] at hm
        cases hm
  have t2f : ∀ (listed : Array Bool), listed.size = ops.size → (∀ i, i < ops.size → listed.getD i true = true) → ∀ i, i < ops.size → listed.getD i false = true := by
    intro listed hsz h i hi
    have h1 := h i hi
    have h2 : i < listed.size := by omega
    simp [h2] at h1 ⊢
    exact h1
  intro fuel
  induction fuel with
  | zero =>
    intro listed e T a w hsz I hcl hn
    have hnil : (List.range ops.size).filter (fun i => !listed.getD i true) = [] := List.eq_nil_of_length_eq_zero (by omega)
    have hl : ∀ i, i < ops.size → listed.getD i true = true := by
      intro i hi
      have := List.filter_eq_nil_iff.1 hnil i (by simpa using hi)
      simpa using this
    refine ⟨?_, hfin listed e T a w I (t2f listed hsz hl)⟩
    unfold Region.ready
    rw [List.filter_eq_nil_iff]
    intro i hi
    have := hl i (by simpa using hi)
    simp only [this, Bool.not_true, Bool.false_and, Bool.false_eq_true, not_false_eq_true]
  | succ fuel ih =>
    intro listed e T a w hsz I hcl hn
    refine ⟨fun hr => hfin listed e T a w I (t2f listed hsz fun i hi => hready listed hsz hr i i (Nat.le_refl _) hi), fun i hi => ?_⟩
    have hi' := hi
    unfold Region.ready at hi'
    rw [List.mem_filter] at hi'
    obtain ⟨hir, hib⟩ := hi'
    have hilt : i < ops.size := by simpa using hir
    obtain ⟨o, ho⟩ : ∃ o, ops[i]? = some o := ⟨ops[i], by simp [hilt]⟩
    rw [ho] at hib
    simp only [Option.map_some, Option.getD_some, Bool.and_eq_true, Bool.not_eq_true'] at hib
    obtain ⟨hun, hpre⟩ := hib
    have hil : i < listed.size := by omega
    have hun' : listed.getD i false = false := by simp [hil] at hun ⊢; exact hun
    obtain ⟨t, ht, hto⟩ := tat ho
    have hpre' : ∀ j, waitsOn t.o j = true → listed.getD j false = true := by
      intro j hj
      rw [hto] at hj
      unfold waitsOn at hj
      obtain ⟨ed, he, hb⟩ := List.any_eq_true.1 hj
      have he := Array.mem_toList_iff.1 he
      simp only [Bool.and_eq_true, beq_iff_eq] at hb
      have := Array.all_eq_true'.1 hpre ed he
      rw [hb.1] at this
      simpa [hb.2] using this
    have hrch : ∀ j ∈ t.l.rch, listed.getD j false = true := D.listed hcl i ht hpre'
    have hlater : ∀ {j : Nat} {u : Trc}, tr[j]? = some u → listed.getD j false = true → i ∉ u.l.rch := fun hj hl hm => by
      have := D.drift hcl hj hl i hm
      rw [hun'] at this; cases this
    obtain ⟨F, hnext⟩ := D.tf i t ht
    -- the things that the operation looks at are as in the text's order
    have curT : ∀ g, g ∈ usd t.s t.o ∨ g ∈ t.wr → lk T g = lk t.s.th g := by
      intro g hg
      have hgt : ∀ (j : Nat) u, tr[j]? = some u → listed.getD j false = true → i < j → g ∉ u.wr := by
        intro j u hj hl hij hgu
        refine hlater hj hl (D.touch ht hj hij (g := g) ?_)
        rcases hg with hg | hg
        · exact .inr ⟨hg, hgu⟩
        · exact .inl ⟨hg, .inr hgu⟩
      rcases last_or (fun j => ∃ u, tr[j]? = some u ∧ g ∈ u.wr) i with h | ⟨j, q1, ⟨u, q2, q3⟩, q4⟩
      · have hc := D.chain (g := g) (i := 0) (j := i) (Nat.zero_le _) (Nat.le_of_lt (D.lt ht)) fun j u _ hj hu hd => h j hj ⟨u, hu, hd⟩
        rw [D.sx ht, D.S0] at hc
        rw [hc]
        refine I.t0 g fun j u hj hl hgu => ?_
        rcases Nat.lt_trichotomy j i with hh | hh | hh
        · exact h j hh ⟨u, hj, hgu⟩
        · subst hh; rw [hun'] at hl; cases hl
        · exact hgt j u hj hl hh hgu
      · have hc := D.chain (g := g) (i := j + 1) (j := i) q1 (Nat.le_of_lt (D.lt ht)) fun k v hk1 hk2 hv hd => q4 k hk1 hk2 ⟨v, hv, hd⟩
        rw [D.sx ht, (D.tf j u q2).2] at hc
        rw [hc]
        have hlj : listed.getD j false = true := hrch j (D.touch q2 ht q1 (g := g) (.inl ⟨q3, hg⟩))
        refine I.t1 g j u q2 hlj q3 fun k v hk hl hjk hgv => ?_
        rcases Nat.lt_trichotomy k i with hh | hh | hh
        · exact q4 k hjk hh ⟨v, hk, hgv⟩
        · subst hh; rw [hun'] at hl; cases hl
        · exact hgt k v hk hl hh hgv
    have curS : ∀ k ∈ ksO ds t.o, ∀ v, lk t.s.sl k = some v → DenV e t.s v (sl a k) := by
      intro k hk v hv
      rcases last_or (fun j => ∃ u, tr[j]? = some u ∧ u.o.dst = some k) i with h | ⟨j, q1, ⟨u, q2, q3⟩, q4⟩
      · have hc := D.chainS (d := k) (i := 0) (j := i) (Nat.zero_le _) (Nat.le_of_lt (D.lt ht)) fun j u _ hj hu hd => h j hj ⟨u, hu, hd⟩
        rw [D.sx ht, D.S0] at hc
        rw [hc] at hv
        have ho := I.old k fun j u hj hl hd => by
          rcases Nat.lt_trichotomy j i with hh | hh | hh
          · exact h j hh ⟨u, hj, hd⟩
          · subst hh; rw [hun'] at hl; cases hl
          · exact hlater hj hl ((D.slots ht hj hh (d := k)).2.1 hd hk)
        rw [ho]
        exact ((I0.slot k v hv).agr I.ag).mono (D.ext0 ht)
      · have hc := D.chainS (d := k) (i := j + 1) (j := i) q1 (Nat.le_of_lt (D.lt ht)) fun k' u hj1 hj2 hu hd => q4 k' hj1 hj2 ⟨u, hu, hd⟩
        rw [D.sx ht, (D.tf j u q2).2] at hc
        rw [hc] at hv
        have hlj : listed.getD j false = true := hrch j ((D.slots q2 ht q1 (d := k)).2.2 q3 hk)
        exact (I.new j u k v q2 hlj q3 hv).mono (D.exij q2 ht q1)
    obtain ⟨L, hL, hS⟩ := I.st
    have hpk : pk T t.tk = pk t.s.th t.tk := pk_congr fun g hg => curT g (.inr (List.mem_append_left _ hg))
    obtain ⟨A, R, p1, p2, p3⟩ := pick hL F.ts.nd fun g hg => by
      rw [curT g (.inr (List.mem_append_left _ hg))]; exact F.ts.pr g hg
    have EsN : Ext t.s sN := F.ext.trans (D.extN ht)
    obtain ⟨e1, L1, hdn⟩ := F.dn
    have hden : ∀ g x, lk t.s.th g = some x → ∃ y, x.den e t.s.vs t.s.ct g = some y := by
      intro g x hx
      obtain ⟨L2, hL2⟩ := ths_env (e1 := e1) (e := e) hdn
      obtain ⟨y, _, hy, _⟩ := ths_get hL2 hx
      exact ⟨y, hy⟩
    have htk : ths e t.s.vs t.s.ct (pk t.s.th t.tk) = some A := by
      obtain ⟨A1, _, q1, _, _⟩ := pick hdn F.ts.nd F.ts.pr
      obtain ⟨A2, q2⟩ := ths_env (e1 := e1) (e := e) q1
      have := ths_mono EsN q2
      rw [← hpk, p1] at this
      injection this with this
      rw [this]; exact q2
    have H : Hyp ds r t.s t.o t.tk e a w (R ++ r.X) A := by
      refine ⟨I0.par.trans (I.ag.le I0.wf.np), curS, fun g hg => ?_, fun y hy => List.mem_append_right _ hy, htk, ?_⟩
      · by_cases hgt : g ∈ t.tk
        · exact .inl hgt
        · refine .inr fun x hx => ?_
          obtain ⟨y, hy⟩ := hden g x hx
          obtain ⟨y', R', b1, _, b3⟩ := ths_get p2 (by rw [rmv_ne hgt, curT g (.inl hg)]; exact hx)
          have := Th.den_mono EsN hy
          rw [b1] at this; injection this with this; subst this
          exact ⟨y', hy, List.mem_append_left _ (b3.mem_iff.2 (by simp))⟩
      · rw [← List.append_assoc]
        exact hS.perm (p3.append_right _)
    have st := F.ts.run e a w (R ++ r.X) A H
    have hgd : ∀ j d, (listed.setIfInBounds i true).getD j d = if j = i then true else listed.getD j d := by
      intro j d
      by_cases hji : j = i
      · subst hji; simp [hil]
      · rw [if_neg hji]
        simp only [Array.getD_eq_getD_getElem?]
        rw [Array.getElem?_setIfInBounds_ne (fun e => hji e.symm)]
    have hne : ∀ {j : Nat}, listed.getD j false = true → j ≠ i := fun h e => by subst e; rw [hun'] at h; cases h
    have hdi : ∀ d, t.o.dst = some d → d < r.n := fun d hd => hdl t.o (by rw [hto]; exact List.mem_of_getElem? (by simpa using ho)) d hd
    -- behind the operation
    have next : ∀ v w', GivO r e t.s t.s' t.o t.tk t.nt (R ++ r.X) v w' → wpAny P .any ops Q fuel (listed.setIfInBounds i true) (a.put t.o.dst v) w' := by
      intro v w' hg
      obtain ⟨e', g1, g2, g3, A', g4, g5⟩ := hg.env
      have h0n : s0.n ≤ t.s.n := (D.ext0 ht).n
      have mixIn := mix_in (hi := t.s'.n) g1
      have mixOut : ∀ g, g < t.s.n ∨ t.s'.n ≤ g → AgrAt e (e.mix e' t.s.n t.s'.n) g := fun g h => mix_out h
      have hsrc : ∀ p ∈ T, AgrAt e (e.mix e' t.s.n t.s'.n) p.1 ∧ ∀ g ∈ thGs sN.vs p.2, AgrAt e (e.mix e' t.s.n t.s'.n) g := by
        intro p hp
        rcases I.src p hp with h | ⟨j, u, h1, h2, h3⟩
        · have hw := I0.wf.th p h
          have E0 : Ext s0 sN := (D.ext0 ht).trans EsN
          refine ⟨mixOut _ (.inl (Nat.lt_of_lt_of_le hw.1 h0n)), fun g hg => mixOut _ (.inl ?_)⟩
          rw [thGs_ext E0 hw.2] at hg
          exact Nat.lt_of_lt_of_le (thGs_lt hw.2 g hg) h0n
        · have hw := (D.tf j u h1).1.ok' p h3
          have fr := D.fresh hcl ht hun' h1 h2
          obtain ⟨n1, n2⟩ := newGs_nt (s' := u.s') (d := u.o.dst) h3
          refine ⟨mixOut _ (fr _ n1), fun g hg => mixOut _ (fr _ (n2 g ?_))⟩
          rwa [thGs_ext (D.extN h1) hw.2] at hg
      have hndT : ((t.nt ++ rmv t.tk T).map (·.1)).Nodup := nd_step I.nd F.nt fun p hp hn hm => by
        obtain ⟨q, hq, hqe⟩ := List.mem_map.1 hm
        have hpl := (F.ok' p hp).1
        rcases I.src q hq with h | ⟨j, u, h1, h2, h3⟩
        · have := (I0.wf.th q h).1; omega
        · have := D.fresh hcl ht hun' h1 h2 _ (newGs_nt (s' := u.s') (d := u.o.dst) h3).1
          omega
      refine ih _ (e.mix e' t.s.n t.s'.n) (t.nt ++ rmv t.tk T) _ _ (by simp [hsz]) ⟨by rw [put_size, I.size], by rw [put_df, I.df], I.ag.trans (fun g hg => mixOut g (.inl (by omega))), fun k hk => ?_, fun j u d x hj hl hd hx => ?_, ⟨A' ++ R, ?_, by rw [List.append_assoc]; exact g5⟩, hndT, fun p hp => ?_, fun g hg => ?_, fun g j u hj hl hgu hlast => ?_⟩ ?_ ?_
      · have h1 := I.old k fun j u hj hl => hk j u hj (by rw [hgd, if_neg (hne hl)]; exact hl)
        rw [sl_put _ _ _ _ (fun hd => hk i t ht (by rw [hgd, if_pos rfl]) hd)]
        exact h1
      · rw [hgd] at hl
        by_cases hji : j = i
        · subst hji
          rw [ht] at hj; injection hj with hj; subst hj
          rw [hd, sl_put_same _ _ (by rw [I.size]; exact hdi d hd)]
          exact (g3 d x hd hx).agr mixIn
        · rw [if_neg hji] at hl
          have hdd : t.o.dst ≠ some d := by
            rcases Nat.lt_or_gt_of_ne hji with h | h
            · exact fun hd' => (D.slots hj ht h (d := d)).1 hd' hd
            · exact (D.slots ht hj h (d := d)).1 hd
          rw [sl_put _ _ _ _ hdd]
          refine denv_agr (fun g hg => mixOut g ?_) (I.new j u d x hj hl hd hx)
          refine D.fresh hcl ht hun' hj hl g ?_
          rw [hd]; exact newGs_sl hx g hg
      · refine ths_app.2 ⟨A', R, ?_, ths_agr' (fun p hp => hsrc p (rmv_sub hp)) p2, rfl⟩
        exact ths_mono (D.extN ht) (ths_agr mixIn (fun p hp => F.ok' p hp) g4)
      · rcases List.mem_append.1 hp with hp | hp
        · exact .inr ⟨i, t, ht, by rw [hgd, if_pos rfl], hp⟩
        · rcases I.src p (rmv_sub hp) with h | ⟨j, u, h1, h2, h3⟩
          · exact .inl h
          · exact .inr ⟨j, u, h1, by rw [hgd, if_neg (hne h2)]; exact h2, h3⟩
      · have hgi := hg i t ht (by rw [hgd, if_pos rfl])
        simp only [Trc.wr, List.mem_append, not_or] at hgi
        rw [lk_app, lk_none_iff.2 hgi.2, rmv_ne hgi.1]
        exact I.t0 g fun j u hj hl => hg j u hj (by rw [hgd, if_neg (hne hl)]; exact hl)
      · rw [hgd] at hl
        by_cases hji : j = i
        · subst hji
          rw [ht] at hj; injection hj with hj; subst hj
          rw [F.th, lk_app, lk_app]
          cases hn : lk t.nt g with
          | some x => rfl
          | none =>
            have : g ∈ t.tk := by
              rcases List.mem_append.1 hgu with h | h
              · exact h
              · exact absurd h (lk_none_iff.1 hn)
            simp only
            rw [rmv_gone I.nd this, rmv_gone (nodup_iff.1 F.nd) this]
        · rw [if_neg hji] at hl
          have hgi : g ∉ t.wr := by
            intro hgi
            rcases Nat.lt_or_gt_of_ne hji with h | h
            · exact hlast i t ht (by rw [hgd, if_pos rfl]) h hgi
            · exact hlater hj hl (D.touch ht hj h (g := g) (.inl ⟨hgi, .inr hgu⟩))
          simp only [Trc.wr, List.mem_append, not_or] at hgi
          rw [lk_app, lk_none_iff.2 hgi.2, rmv_ne hgi.1]
          exact I.t1 g j u hj hl hgu fun k v hk hlk hjk => hlast k v hk (by rw [hgd, if_neg (hne hlk)]; exact hlk) hjk
      · intro j oj k hoj hlj hw
        rw [hgd] at hlj ⊢
        by_cases hki : k = i
        · simp [hki]
        rw [if_neg hki]
        by_cases hji : j = i
        · subst hji
          rw [ho] at hoj
          injection hoj with hoj
          subst hoj
          exact hpre' k (by rw [hto]; exact hw)
        · rw [if_neg hji] at hlj
          exact hcl j oj k hoj hlj hw
      · have hsub : (List.range ops.size).filter (fun j => !(listed.setIfInBounds i true).getD j true) = ((List.range ops.size).filter fun j => !listed.getD j true).filter (fun j => !(j == i)) := by
          rw [List.filter_filter]
          refine List.filter_congr fun j _ => ?_
          rw [hgd]
          by_cases hji : j = i <;> simp [hji]
        rw [hsub]
        have hlt : (((List.range ops.size).filter fun j => !listed.getD j true).filter (fun j => !(j == i))).length < ((List.range ops.size).filter fun j => !listed.getD j true).length := by
          rw [List.length_filter_lt_length_iff_exists]
          exact ⟨i, List.mem_filter.2 ⟨hir, by simp [hun]⟩, by simp⟩
        omega
    unfold wpOp
    rw [ho]
    subst hto
    rcases st with ⟨hw, h⟩ | ⟨hw, h⟩
    · simp only [hw, if_true]
      exact .inl (run3_wp (h.mono next))
    · simp only [hw, Bool.false_eq_true, if_false]
      exact next _ _ h
end
theorem reg_ok {P : Program} {G : Cx} {ops : Array Oper} {r : Rn} {s : Sy} {e : Env} {a : Act} {w : World} {R : Type} {y : R} {Q : Exit → Act → World → Prop} {id : Nat} {dr : Bool} {K : Sy → Option R} (hm : P.follows .mixedOrders = true) (hQ : GQ P G) (I : Inv r e a w s)
    (h : (bif dstsOk r.n ops.toList then (bif dr then (bif nodupB (s.th.map (·.1)) then ropsD G (ops.toList.map Oper.dst) s.n K 0 [] ops.toList s else none) else rops G (ops.toList.map Oper.dst) K ops.toList s) else none) = some y)
    (hn : ∀ s' e' a' w', Ext s s' → Agr s.n e e' → K s' = some y → Inv r e' a' w' s' → Q .normal a' w') : (Code.region id ops dr).wp P Q a w := by
  cases hd : dstsOk r.n ops.toList with
  | false => rw [hd] at h; cases h
  | true =>
    rw [hd] at h
    simp only [cond_true] at h
    have hdl := dst_lt hd
    cases dr with
    | false => exact wp_region_list (rops_ok hQ rfl I h hdl hn)
    | true =>
      simp only [cond_true] at h
      cases hnd : nodupB (s.th.map (·.1)) with
      | false => rw [hnd] at h; cases h
      | true =>
        rw [hnd] at h
        simp only [cond_true] at h
        obtain ⟨tr, sN, q1, q2, q3, q4, q5, q6⟩ := dr_trace hQ rfl I h hdl hnd
        obtain ⟨z0, z1⟩ := tr_at q2
        have D : DR P ops (ops.toList.map Oper.dst) r s sN tr := ⟨fun k t hk => by have := z1 k t hk; rwa [Nat.zero_add, List.append_nil] at this, fun k => by rw [← List.getElem?_map, q1]; simp, z0, q4, q5⟩
        have Ee : Ext s sN := by
          have := D.ext (i := 0) (j := tr.length) (Nat.zero_le _) (Nat.le_refl _)
          rwa [D.eN, D.S0] at this
        refine wp_region_any hm (D.all I hdl (fun e' a' w' ha I' => hn sN e' a' w' Ee ha q3 I') ops.size _ e s.th a _ (by simp) ?_ (fun j oj i hj h => ?_) ?_)
        · have hno : ∀ i : Nat, (Array.replicate ops.size false).getD i false = true → False := by
            intro i h
            simp only [Array.getD_eq_getD_getElem?, Array.getElem?_replicate] at h
            split at h <;> cases h
          refine ⟨I.size, I.df, Agr.refl _ _, fun _ _ => rfl, fun i t d x _ hl => (hno i hl).elim, ?_, nodup_iff.1 hnd, fun p hp => .inl hp, fun _ _ => rfl, fun g i t _ hl => (hno i hl).elim⟩
          obtain ⟨L, h1, h2⟩ := I.st
          exact ⟨L, ths_mono Ee h1, h2.drew⟩
        · simp only [Array.getD_eq_getD_getElem?, Array.getElem?_replicate] at h
          split at h <;> cases h
        · have := List.length_filter_le (fun i => !(Array.replicate ops.size false).getD i true) (List.range ops.size); simpa using this
end Go.Proofs.YtjdlgannencchaaGreatDoor
namespace Go.Proofs.YtjdlgannencchaaGreatDoor
open Go.ChangeShapes Go.WideShapes Go.ChangeAt Go.RowKit
set_option linter.unusedVariables false
set_option linter.unusedSimpArgs false
def pcA (s0 : Sy) (e : Env) : P0 → Option Ax → Value → List PV → List Asn → Prop
  | .k, x0, u, vs, A => (∃ x, x0 = some x ∧ DenS e s0 (.a x) u) ∧ vs = [] ∧ A = []
  | .i _, x0, u, vs, A => ∃ k z, vs = [.int k z] ∧ u = .int k z ∧ A = []
  | .b, x0, u, vs, A => ∃ z, vs = [.b z] ∧ u = .bool z ∧ A = []
  | .s, x0, u, vs, A => ∃ z, vs = [.s z] ∧ u = .string z ∧ A = []
  | .r E k, x0, u, vs, A => ∃ v, vs = [v] ∧ (RK.row E k).res e (fun _ => 0) v u A
  | .w E k, x0, u, vs, A => ∃ (l : List k.ty) (x : Ax) (g n rt : Nat) (d : Ct), x0 = some x ∧ x.lf s0.vs = some (.sl g n rt) ∧ g < s0.n ∧ vs = [.sl k l] ∧ u = .slice (e.a g) l.length (e.c g) ∧ A = [.row E k.sz u l.length (l.flatMap k.enc)] ∧ lk s0.ct rt = some d ∧ n = d.l.length ∧ l.length = d.l.length ∧ k = d.k
  | .a _, _, _, _, _ => False
def pcAs (s0 : Sy) (e : Env) : List P0 → List Ax → List Value → List PV → List Asn → Prop
  | [], _, us, vs, A => us = [] ∧ vs = [] ∧ A = []
  | p :: ps, old, us, vs, A => ∃ u ur v vr A1 A2, us = u :: ur ∧ vs = v ++ vr ∧ A = A1 ++ A2 ∧ pcA s0 e p old.head? u v A1 ∧ pcAs s0 e ps old.tail ur vr A2
def oldA (s0 : Sy) (d : Nat) : Option Ax := match lk s0.sl d with | some (.v (.a x)) => some x | _ => none
def oldG (s0 : Sy) (d : Nat) : List Ax := match lk s0.sl d with | some (.v (.g xs)) => xs | _ => []
def pcV (s0 : Sy) (e : Env) (a : Act) (d : Nat) : P1 → List PV → List Asn → Prop
  | .o .k, vs, A => vs = [] ∧ A = [] ∧ ∃ v, lk s0.sl d = some v ∧ DenV e s0 v (sl a d)
  | .o (.a j), vs, A => vs = [] ∧ A = [] ∧ sl a d = sl a j
  | .o p, vs, A => pcA s0 e p (oldA s0 d) (sl a d) vs A
  | .z E k, vs, A => ∃ (l : List k.ty) (ad : Option Addr) (c : Nat), vs = [.sl k l] ∧ sl a d = .slice (ifA (!(Nat.beq l.length 0)) ad) l.length (ifN (!(Nat.beq l.length 0)) c) ∧ A = [.row E k.sz (.slice ad l.length c) l.length (l.flatMap k.enc)]
  | .g ps, vs, A => ∃ us : List Value, sl a d = .agg us.toArray ∧ pcAs s0 e ps (oldG s0 d) us vs A
def pcSl (s0 : Sy) (e : Env) (a : Act) : List (Nat × P1) → List PV → List Asn → Prop
  | [], vs, A => vs = [] ∧ A = []
  | (d, p) :: r, vs, A => ∃ v vr A1 A2, vs = v ++ vr ∧ A = A1 ++ A2 ∧ pcV s0 e a d p v A1 ∧ pcSl s0 e a r vr A2
def pcBx (s0 : Sy) (e : Env) : List (Nat × List P0) → List PV → List Asn → List Asn → Prop
  | [], vs, A, B => vs = [] ∧ A = [] ∧ B = []
  | (d, ps) :: r, vs, A, B => ∃ g T xs us v vr A1 A2 Br, boxOf s0 d = some g ∧ lk s0.th g = some (.box T xs) ∧ vs = v ++ vr ∧ A = A1 ++ A2 ∧ B = .box (e.b g) T us.toArray :: Br ∧ pcAs s0 e ps xs us v A1 ∧ pcBx s0 e r vr A2 Br
def pcPr (s0 : Sy) (e : Env) : List (Nat × P0) → List PV → List Asn → Prop
  | [], vs, A => vs = [] ∧ A = []
  | (j, .k) :: r, vs, A => pcPr s0 e r vs A
  | (j, .r E k) :: r, vs, A => ∃ (l : List k.ty) (vr : List PV) (A2 : List Asn) (n0 : Nat) (c0 d : Ct), lk s0.th j = some (.row E n0) ∧ lk s0.ct n0 = some c0 ∧ vs = .sl k l :: vr ∧ A = .row E k.sz (.slice (e.a j) l.length (e.c j)) l.length (l.flatMap k.enc) :: A2 ∧ lk s0.ct c0.rt = some d ∧ l.length = d.l.length ∧ k = d.k ∧ pcPr s0 e r vr A2
  | _ :: _, _, _ => False
def nilR (y : Asn) : Prop := ∃ E sz, y = .row E sz (.slice none 0 0) 0 [] ∨ y = .part sz (.slice none 0 0) 0 []
def Wkn (y z : Asn) : Prop := ∀ (w0 w : World) (A X : List Asn), St w0 w (A ++ y :: X) → St w0 w (A ++ z :: X)
theorem Wkn.refl (y : Asn) : Wkn y y := fun _ _ _ _ S => S
theorem Wkn.part {E sz : Nat} {v : Value} {n : Nat} {xs : List Value} : Wkn (.row E sz v n xs) (.part sz v n xs) := by
  intro w0 w A X S
  have hi : (A ++ Asn.row E sz v n xs :: X)[A.length]? = some (.row E sz v n xs) := by simp
  have hO : Ow w E sz v n xs := S.get hi
  obtain ⟨B, d, rfl, hR, hc⟩ := hO.form
  have := S.weak (b := .part sz (.slice B n d) n xs) hi ⟨⟨B, d, rfl, hO.cap, hO.rd⟩, fun g hg => Ow.lt hO g hg⟩ (fun g hg => hg) (fun g hg => by simp [Asn.wf] at hg)
  rwa [List.set_append_right _ _ (Nat.le_refl _), Nat.sub_self, List.set_cons_zero] at this
theorem Wkn.sub {k : EK} {E c : Nat} {lo hi : Int} {B : Option Addr} {l : List k.ty} (h : 0 ≤ lo ∧ lo ≤ hi ∧ hi ≤ (l.length : Int)) : Wkn (.row E k.sz (.slice B l.length c) l.length (l.flatMap k.enc)) (.row E k.sz (.slice (subA c lo.toNat k.sz B) (subL l lo hi).length (c - lo.toNat)) (subL l lo hi).length ((subL l lo hi).flatMap k.enc)) := by
  intro w0 w A X S
  have hi' : (A ++ Asn.row E k.sz (.slice B l.length c) l.length (l.flatMap k.enc) :: X)[A.length]? = some (.row E k.sz (.slice B l.length c) l.length (l.flatMap k.enc)) := by simp
  have := S.subrow A.length hi' k.enc_len rfl h
  rwa [List.set_append_right _ _ (Nat.le_refl _), Nat.sub_self, List.set_cons_zero] at this
theorem Wkn.nil {y : Asn} {E sz : Nat} : Wkn y (.row E sz (.slice none 0 0) 0 []) := by
  intro w0 w A X S
  have S1 : St w0 w (A ++ X) := S.sub (List.Sublist.append_left (List.sublist_cons_self _ _) A)
  exact (S1.nilrow E sz).perm List.perm_middle.symm
def Wkns : List Asn → List Asn → Prop
  | [], B => B = []
  | y :: A, B => ∃ z Br, B = z :: Br ∧ Wkn y z ∧ Wkns A Br
theorem Wkns.app : ∀ {A A' B B' : List Asn}, Wkns A B → Wkns A' B' → Wkns (A ++ A') (B ++ B')
  | [], A', B, B', h, k => by rw [show B = [] from h]; exact k
  | y :: A, A', B, B', h, k => by
    obtain ⟨z, Br, rfl, h1, h2⟩ := h
    exact ⟨z, Br ++ B', rfl, h1, h2.app k⟩
theorem Wkns.refl : ∀ (A : List Asn), Wkns A A
  | [] => rfl
  | y :: A => ⟨y, A, rfl, Wkn.refl y, Wkns.refl A⟩
theorem St.wkns {w0 w : World} {X : List Asn} : ∀ {A B P : List Asn}, St w0 w (P ++ (A ++ X)) → Wkns A B → St w0 w (P ++ (B ++ X))
  | [], B, P, S, h => by rw [show B = [] from h]; exact S
  | y :: A, B, P, S, h => by
    obtain ⟨z, Br, rfl, h1, h2⟩ := h
    have S1 : St w0 w (P ++ z :: (A ++ X)) := h1 _ _ _ _ S
    have S2 := St.wkns (A := A) (B := Br) (P := P ++ [z]) (by simpa using S1) h2
    simpa using S2
def IdsA (s : Sy) (e : Env) : List (Option Nat) → List Asn → Prop
  | [], A => A = []
  | none :: r, A => ∃ y Ar, A = y :: Ar ∧ nilR y ∧ IdsA s e r Ar
  | some g :: r, A => ∃ y Ar x, A = y :: Ar ∧ lk s.th g = some x ∧ (∃ y', x.den e s.vs s.ct g = some y' ∧ Wkn y' y) ∧ IdsA s e r Ar
section
variable {r : Rn} {s0 s s' : Sy} {e0 e e' : Env} {a : Act} {w : World} {X : List Asn}
theorem vw_sub {g ct sz n E ct1 : Nat} {lo hi : Int} {p : Bool} {k : EK} {l : List k.ty} {u : Value} (hk : (Lf.vw g ct sz n lo hi p).Ok s) (hth : lk s.th g = some (.row E ct1)) (hl : rdl s k (.vw g ct sz n lo hi p) = some l) (hu : (Lf.vw g ct sz n lo hi p).den e = u) :
    u = .slice (subA (e.c g) lo.toNat sz (e.a g)) l.length (e.c g - lo.toNat) ∧ ∃ y, (Th.row E ct1).den e s.vs s.ct g = some y ∧ Wkn y (.row E k.sz u l.length (l.flatMap k.enc)) := by
  simp only [rdl, rdc, hth] at hl
  split at hl
  · rename_i ct' c h1 h2
    injection h1 with h1; subst h1
    cases hb : Nat.beq ct1 ct with
    | false => rw [hb] at hl; cases hl
    | true =>
      have := Nat.eq_of_beq_eq_true hb; subst this
      simp only [hb, cond_true] at hl
      obtain ⟨_, c', q1, q2, q3, q4⟩ := hk.1
      rw [h2] at q1; injection q1 with q1; subst q1
      obtain ⟨ck, cl, crt, csi⟩ := c
      obtain ⟨q, hq⟩ := slGet_ok hl
      dsimp only at q; subst q; dsimp only at hq q2 q3 q4; subst hq; subst q4; subst q3
      refine ⟨hu.symm, _, by simp only [Th.den, h2, Option.map_some]; rfl, ?_⟩
      rw [← hu]
      exact Wkn.sub q2
  · cases hl
theorem IdsA.app : ∀ {i j : List (Option Nat)} {A B : List Asn}, IdsA s e i A → IdsA s e j B → IdsA s e (i ++ j) (A ++ B)
  | [], j, A, B, h, k => by rw [h]; exact k
  | none :: i, j, A, B, h, k => by
    obtain ⟨y, Ar, rfl, h1, h2⟩ := h
    exact ⟨y, Ar ++ B, rfl, h1, h2.app k⟩
  | some g :: i, j, A, B, h, k => by
    obtain ⟨y, Ar, x, rfl, h1, h2, h3⟩ := h
    exact ⟨y, Ar ++ B, x, rfl, h1, h2, h3.app k⟩
theorem IdsA.split : ∀ {i : List (Option Nat)} {A : List Asn}, IdsA s e i A → ∃ B B' N, ths e s.vs s.ct (pk s.th (i.filterMap id)) = some B ∧ Wkns B B' ∧ (∀ y ∈ N, nilR y) ∧ A.Perm (N ++ B')
  | [], A, h => by rw [h]; exact ⟨[], [], [], rfl, rfl, nofun, List.Perm.refl _⟩
  | none :: i, A, h => by
    obtain ⟨y, Ar, rfl, h1, h2⟩ := h
    obtain ⟨B, B', N, b1, b0, b2, b3⟩ := h2.split
    refine ⟨B, B', y :: N, b1, b0, fun z hz => ?_, b3.cons _⟩
    rcases List.mem_cons.1 hz with rfl | hz
    · exact h1
    · exact b2 z hz
  | some g :: i, A, h => by
    obtain ⟨y, Ar, x, rfl, h1, ⟨y', h2, h0⟩, h3⟩ := h
    obtain ⟨B, B', N, b1, b0, b2, b3⟩ := h3.split
    refine ⟨y' :: B, y :: B', N, ?_, ⟨y, B', rfl, h0, b0⟩, b2, (b3.cons y).trans List.perm_middle.symm⟩
    show ths e s.vs s.ct (pk s.th (g :: i.filterMap id)) = some (y' :: B)
    simp only [pk, h1]
    exact ths_cons.2 ⟨y', B, h2, b1, rfl⟩
theorem St.nils {w0 w : World} {L : List Asn} (S : St w0 w L) : ∀ {N : List Asn}, (∀ y ∈ N, nilR y) → St w0 w (N ++ L)
  | [], _ => S
  | y :: N, h => by
    have S1 := St.nils S (N := N) fun z hz => h z (by simp [hz])
    obtain ⟨E, sz, rfl | rfl⟩ := h y (by simp)
    · exact S1.nilrow E sz
    · refine ⟨S1.below, fun a ha => ?_, List.pairwise_cons.2 ⟨fun b _ => Asn.far.nil rfl, S1.apart⟩, fun a ha => ?_⟩
      · rcases List.mem_cons.1 ha with rfl | h
        · exact ⟨⟨⟨none, 0, rfl, Nat.le_refl _, Rd.nil⟩, fun g hg => by simp [Value.ownBlock] at hg⟩, fun g hg => by simp [Asn.foot, Value.ownBlock] at hg⟩
        · exact S1.all a h
      · rcases List.mem_cons.1 ha with rfl | h
        · exact Nat.zero_le _
        · exact S1.olds a h
theorem IdsA.has : ∀ {i : List (Option Nat)} {A : List Asn}, IdsA s e i A → ∀ g ∈ i.filterMap id, ∃ x, lk s.th g = some x
  | none :: i, A, h, g, hg => by obtain ⟨y, Ar, rfl, h1, h2⟩ := h; exact h2.has g (by simpa using hg)
  | some g' :: i, A, h, g, hg => by
    obtain ⟨y, Ar, x, rfl, h1, h2, h3⟩ := h
    have : g = g' ∨ g ∈ i.filterMap id := by simpa using hg
    rcases this with rfl | hg
    · exact ⟨x, h1⟩
    · exact h3.has g hg
theorem St.ids {L : List Asn} {i : List (Option Nat)} {A : List Asn} (hL : ths e s.vs s.ct s.th = some L) (S : St r.w0 w (L ++ X)) (h : IdsA s e i A) (hn : nodupB (i.filterMap id) = true) : St r.w0 w (A ++ X) := by
  obtain ⟨B, B1, N, b1, b0, b2, b3⟩ := h.split
  obtain ⟨B', R, c1, _, c3⟩ := pick hL hn h.has
  rw [b1] at c1; injection c1 with c1; subst c1
  have S1 : St r.w0 w (B ++ (R ++ X)) := by rw [← List.append_assoc]; exact S.perm (c3.append_right _)
  have S2 : St r.w0 w (B ++ X) := S1.sub (List.Sublist.append_left (List.sublist_append_right R X) B)
  have S2 : St r.w0 w (B1 ++ X) := St.wkns (P := []) S2 b0
  have S3 := S2.nils b2
  rw [← List.append_assoc] at S3
  exact S3.perm (b3.symm.append_right _)
end
structure Jn (r : Rn) (s0 : Sy) (e0 : Env) (a : Act) (w : World) (s : Sy) (e : Env) : Prop where
  w0 : Wf r s0
  sl0 : ∀ k v, lk s0.sl k = some v → ∃ u, DenV e0 s0 v u
  dn0 : ∃ L, ths e0 s0.vs s0.ct s0.th = some L
  E : Ext s0 s
  A : Agr s0.n e0 e
  I : Inv r e a w s
section
variable {r : Rn} {s0 s s' : Sy} {e0 e e' : Env} {a : Act} {w : World} {X : List Asn} (J : Jn r s0 e0 a w s e)
include J
theorem Jn.lf {x : Ax} {y : Lf} (hk : x.ok s0) (h : x.lf s.vs = some y) : x.lf s0.vs = some y ∧ y.Ok s0 := by
  obtain ⟨z, h1, h2⟩ := hk
  have := J.E.lf h1
  rw [h] at this; injection this with this; subst this
  exact ⟨h1, h2⟩
theorem Jn.row {g E : Nat} {ct : Nat} (h : lk s0.th g = some (.row E ct)) : ∃ c, lk s0.ct ct = some c := by
  obtain ⟨L, hL⟩ := J.dn0
  obtain ⟨y, R, a, _, _⟩ := ths_get hL h
  simp only [Th.den, Option.map_eq_some_iff] at a
  obtain ⟨c, hc, _⟩ := a
  exact ⟨c, hc⟩
theorem Jn.endA {p : P0} {x : Ax} {vs : List PV} {ids : List (Option Nat)} {u : Value} {x0 : Option Ax} (h : endA s p x = some (vs, ids)) (hd : DenS e s (.a x) u) : ∃ A, pcA s0 e p x0 u vs A ∧ IdsA s e ids A := by
  obtain ⟨y, hy, hk⟩ := hd.2
  have hu : y.den e = u := by have := hd.1; simpa [SV1.den, hy] using this
  cases p with
  | i k =>
    simp only [Go.Proofs.YtjdlgannencchaaGreatDoor.endA, hy] at h
    split at h
    · rename_i k' v hh
      injection h with h; injection h with h1 h2; subst h1; subst h2
      injection hh with hh; subst hh
      exact ⟨[], ⟨_, _, rfl, hu.symm, rfl⟩, rfl⟩
    · cases h
  | b =>
    simp only [Go.Proofs.YtjdlgannencchaaGreatDoor.endA, hy] at h
    split at h
    · rename_i b hb
      injection h with h; injection h with h1 h2; subst h1; subst h2
      exact ⟨[], ⟨_, rfl, by rw [← hu, bv_den hb], rfl⟩, rfl⟩
    · cases h
  | s =>
    simp only [Go.Proofs.YtjdlgannencchaaGreatDoor.endA, hy] at h
    split at h
    · rename_i v hh
      injection h with h; injection h with h1 h2; subst h1; subst h2
      injection hh with hh; subst hh
      exact ⟨[], ⟨_, rfl, hu.symm, rfl⟩, rfl⟩
    · cases h
  | r E k =>
    simp only [Go.Proofs.YtjdlgannencchaaGreatDoor.endA, hy] at h
    split at h
    · rename_i hh
      injection h with h; injection h with h1 h2; subst h1; subst h2
      injection hh with hh; subst hh
      exact ⟨[.row E k.sz (.slice none 0 0) 0 []], ⟨_, rfl, [], none, 0, rfl, hu.symm, by rw [← hu]; rfl⟩, _, [], rfl, ⟨E, k.sz, .inl rfl⟩, rfl⟩
    · rename_i g n rt hh
      injection hh with hh; subst hh
      split at h
      · rename_i ct l hth hl
        injection h with h; injection h with h1 h2; subst h1; subst h2
        obtain ⟨ct', c, q1, q2, q3, q4, q5, q6⟩ := sl_val J.I.wf hk hl
        have hth := thRow_ok hth
        obtain ⟨ck, cl, crt, csi⟩ := c
        dsimp only at q3; subst q3; dsimp only at q4; subst q4
        simp only [rdc, hth, Option.some.injEq] at q1
        subst q1
        subst q6
        exact ⟨[.row E ck.sz u cl.length (cl.flatMap ck.enc)], ⟨_, rfl, cl, e.a g, e.c g, rfl, hu.symm, rfl⟩, _, [], _, rfl, hth, ⟨_, by simp only [Th.den, q2, Option.map_some]; rw [← hu]; rfl, Wkn.refl _⟩, rfl⟩
      · cases h
    · rename_i g ct sz n lo hi pre hh
      injection hh with hh; subst hh
      split at h
      · rename_i ct1 l hth hl
        injection h with h; injection h with h1 h2; subst h1; subst h2
        obtain ⟨a1, a2⟩ := vw_sub hk (thRow_ok hth) hl hu
        exact ⟨[.row E k.sz u l.length (l.flatMap k.enc)], ⟨_, rfl, l, _, _, rfl, a1, rfl⟩, _, [], _, rfl, thRow_ok hth, a2, rfl⟩
      · cases h
    · cases h
  | _ => cases h
theorem Jn.keepA {x y : Ax} {g : List Nat} {u : Value} (h : keepA s0 s x y = some g) (hd : DenS e s (.a y) u) (hk : x.ok s0) : DenS e s0 (.a x) u ∧ ∀ q ∈ g, sameTh (lk s0.th q) (lk s.th q) = true := by
  unfold Go.Proofs.YtjdlgannencchaaGreatDoor.keepA at h
  cases hs : sameAt x y with
  | false => rw [hs] at h; cases h
  | true =>
    rw [hs] at h
    simp only [cond_true] at h
    split at h
    · rename_i l hl
      cases ha : (l.gs.all fun g => sameTh (lk s0.th g) (lk s.th g)) with
      | false => rw [ha] at h; cases h
      | true =>
        rw [ha] at h; injection h with h; subst h
        refine ⟨⟨?_, hk⟩, fun q hq => List.all_eq_true.1 ha q hq⟩
        have h1 := hd.1
        have e1 : x.lf s.vs = some l := J.E.lf hl
        rw [sameAt_lf hs] at e1
        simp only [SV1.den, e1, Option.map_some] at h1
        simpa only [SV1.den, hl, Option.map_some] using h1
    · cases h
theorem Jn.endW {E : Nat} {k : EK} {x y : Ax} {vs : List PV} {ids : List (Option Nat)} {u : Value} (h : endW s0 s E k x y = some (vs, ids)) (hd : DenS e s (.a y) u) (hk : x.ok s0) : ∃ A, pcA s0 e (.w E k) (some x) u vs A ∧ IdsA s e ids A := by
  unfold Go.Proofs.YtjdlgannencchaaGreatDoor.endW at h
  cases hs : sameAt x y with
  | false => rw [hs] at h; cases h
  | true =>
    rw [hs] at h
    simp only [cond_true] at h
    split at h
    · rename_i g n rt hy
      split at h
      · rename_i E' n0 ct h0 hth
        split at h
        · rename_i c hc
          cases hb : (Nat.beq E' E && Nat.beq c.rt rt) with
          | false => rw [hb] at h; cases h
          | true =>
            rw [hb] at h
            simp only [cond_true] at h
            simp only [Bool.and_eq_true] at hb
            split at h
            · rename_i l hl
              injection h with h; injection h with h1 h2; subst h1; subst h2
              have hth := thRow_ok hth
              have hxl : x.lf s.vs = some (.sl g n rt) := by rw [sameAt_lf hs]; exact hy
              obtain ⟨hx0, hok⟩ := J.lf hk hxl
              obtain ⟨d, d1, d2⟩ := hok.1
              obtain ⟨d', f1, f2, f3⟩ := J.I.wf.rt _ _ hc
              rw [beqs hb.2, J.E.c _ _ d1] at f1
              injection f1 with f1; subst f1
              obtain ⟨ck, cl, crt, csi⟩ := c
              obtain ⟨q, hq⟩ := slGet_ok hl
              dsimp only at q; subst q; dsimp only at hq; subst hq
              dsimp only at f2 f3
              have hu : (Lf.sl g n rt).den e = u := by have := hd.1; simpa [SV1.den, hy] using this
              have hn : n = cl.length := by rw [d2, f2]
              refine ⟨[.row E ck.sz u cl.length (cl.flatMap ck.enc)], ⟨cl, x, g, n, rt, d, rfl, hx0, hok.2 g (by simp [Lf.gs]), rfl, by rw [← hu, hn]; rfl, rfl, d1, d2, f2, f3⟩, _, [], _, rfl, hth, ⟨_, ?_, Wkn.refl _⟩, rfl⟩
              simp only [Th.den, hc, Option.map_some, ← hu, hn]; rfl
            · cases h
        · cases h
      · cases h
    · cases h
theorem Jn.endAs : ∀ {ps : List P0} {old ys : List Ax} {vs : List PV} {ids : List (Option Nat)} {gs : List Nat} {us : List Value}, endAs s0 s ps old ys = some (vs, ids, gs) → DenS e s (.g ys) (.agg us.toArray) → (∀ x ∈ old, x.ok s0) → ∃ A, pcAs s0 e ps old us vs A ∧ IdsA s e ids A ∧ ∀ q ∈ gs, sameTh (lk s0.th q) (lk s.th q) = true
  | [], old, [], vs, ids, gs, us, h, hd, _ => by
    injection h with h; injection h with h1 h; injection h with h2 h3; subst h1; subst h2; subst h3
    have hu : us = [] := by
      have := hd.1; simp [SV1.den, lfs] at this; exact this
    subst hu
    exact ⟨[], ⟨rfl, rfl, rfl⟩, rfl, nofun⟩
  | [], old, _ :: _, vs, ids, gs, us, h, _, _ => by cases h
  | p :: ps, old, [], vs, ids, gs, us, h, _, _ => by cases p <;> cases h
  | p :: ps, old, y :: ys, vs, ids, gs, us, h, hd, hok => by
    have hus : ∃ u ur, us = u :: ur := by
      have := hd.1
      simp only [SV1.den, Option.map_eq_some_iff, Value.agg.injEq] at this
      obtain ⟨ls, q1, q2⟩ := this
      obtain ⟨z, q, _, _, rfl⟩ := lfs_cons.1 q1
      have : List.map (Lf.den e) (z :: q) = us := by simpa using q2
      exact ⟨_, _, this.symm⟩
    obtain ⟨u, ur, rfl⟩ := hus
    obtain ⟨y', yr, he, hy, hyr⟩ := den_uncons hd
    injection he with e1 e2; subst e1; subst e2
    have hok' : ∀ x ∈ old.tail, x.ok s0 := fun x hx => hok x (List.mem_of_mem_tail hx)
    have hhd : ∀ x, old.head? = some x → x.ok s0 := fun x hx => hok x (List.mem_of_mem_head? hx)
    have gen : ∀ {v1 : List PV} {i1 : List (Option Nat)} {v2 : List PV} {i2 : List (Option Nat)} {k : List Nat}, (∃ A, pcA s0 e p old.head? u v1 A ∧ IdsA s e i1 A) → Go.Proofs.YtjdlgannencchaaGreatDoor.endAs s0 s ps old.tail ys = some (v2, i2, k) → vs = v1 ++ v2 → ids = i1 ++ i2 → gs = k → ∃ A, pcAs s0 e (p :: ps) old (u :: ur) vs A ∧ IdsA s e ids A ∧ ∀ q ∈ gs, sameTh (lk s0.th q) (lk s.th q) = true := by
      rintro v1 i1 v2 i2 k ⟨A1, a1, a2⟩ h2 rfl rfl rfl
      obtain ⟨A2, b1, b2, b3⟩ := Jn.endAs h2 hyr hok'
      exact ⟨A1 ++ A2, ⟨u, ur, v1, v2, A1, A2, rfl, rfl, rfl, a1, b1⟩, a2.app b2, b3⟩
    have pl : (match Go.Proofs.YtjdlgannencchaaGreatDoor.endA s p y, Go.Proofs.YtjdlgannencchaaGreatDoor.endAs s0 s ps old.tail ys with
        | some (a, b), some (v, t, k) => some (a ++ v, b ++ t, k)
        | _, _ => none) = some (vs, ids, gs) → ∃ A, pcAs s0 e (p :: ps) old (u :: ur) vs A ∧ IdsA s e ids A ∧ ∀ q ∈ gs, sameTh (lk s0.th q) (lk s.th q) = true := by
      intro h
      split at h
      · rename_i h1 h2
        injection h with h; injection h with h3 h; injection h with h4 h5
        exact gen (J.endA h1 hy) h2 h3.symm h4.symm h5.symm
      · cases h
    cases p with
    | k =>
      simp only [Go.Proofs.YtjdlgannencchaaGreatDoor.endAs] at h
      split at h
      · rename_i x hx
        split at h
        · rename_i g1 h1 h2
          injection h with h; injection h with h3 h; injection h with h4 h5; subst h3; subst h4; subst h5
          obtain ⟨d1, d2⟩ := J.keepA h1 hy (hhd x hx)
          obtain ⟨A2, b1, b2, b3⟩ := Jn.endAs h2 hyr hok'
          refine ⟨A2, ⟨u, ur, [], _, [], A2, rfl, rfl, rfl, ⟨⟨x, hx, d1⟩, rfl, rfl⟩, b1⟩, b2, fun q hq => ?_⟩
          rcases List.mem_append.1 hq with hq | hq
          · exact d2 q hq
          · exact b3 q hq
        · cases h
      · cases h
    | w E k =>
      simp only [Go.Proofs.YtjdlgannencchaaGreatDoor.endAs] at h
      split at h
      · rename_i x hx
        split at h
        · rename_i h1 h2
          injection h with h; injection h with h3 h; injection h with h4 h5
          have := J.endW h1 hy (hhd x hx)
          rw [← hx] at this
          exact gen this h2 h3.symm h4.symm h5.symm
        · cases h
      · cases h
    | i k => exact pl h
    | b => exact pl h
    | s => exact pl h
    | r E k => exact pl h
    | a j => exact pl h
theorem Jn.keepAs : ∀ {xs ys : List Ax} {gs : List Nat} {us : List Value}, keepAs s0 s xs ys = some gs → DenS e s (.g ys) (.agg us.toArray) → (∀ x ∈ xs, x.ok s0) → DenS e s0 (.g xs) (.agg us.toArray) ∧ ∀ q ∈ gs, sameTh (lk s0.th q) (lk s.th q) = true
  | [], [], gs, us, h, hd, _ => by
    injection h with h; subst h
    have hu : us = [] := by have := hd.1; simp [SV1.den, lfs] at this; exact this
    subst hu
    exact ⟨den_nil, nofun⟩
  | [], _ :: _, gs, us, h, _, _ => by cases h
  | _ :: _, [], gs, us, h, _, _ => by cases h
  | x :: xs, y :: ys, gs, us, h, hd, hok => by
    simp only [Go.Proofs.YtjdlgannencchaaGreatDoor.keepAs] at h
    split at h
    · rename_i g1 g2 h1 h2
      injection h with h; subst h
      have hus : ∃ u ur, us = u :: ur := by
        have := hd.1
        simp only [SV1.den, Option.map_eq_some_iff, Value.agg.injEq] at this
        obtain ⟨ls, q1, q2⟩ := this
        obtain ⟨z, q, _, _, rfl⟩ := lfs_cons.1 q1
        have : List.map (Lf.den e) (z :: q) = us := by simpa using q2
        exact ⟨_, _, this.symm⟩
      obtain ⟨u, ur, rfl⟩ := hus
      obtain ⟨y', yr, he, hy, hyr⟩ := den_uncons hd
      injection he with e1 e2; subst e1; subst e2
      obtain ⟨d1, d2⟩ := J.keepA h1 hy (hok x (by simp))
      obtain ⟨d3, d4⟩ := Jn.keepAs h2 hyr fun z hz => hok z (by simp [hz])
      refine ⟨den_cons d1 d3, fun q hq => ?_⟩
      rcases List.mem_append.1 hq with hq | hq
      · exact d2 q hq
      · exact d4 q hq
    · cases h
theorem Jn.keepS {x y : SV1} {gs : List Nat} {u : Value} (h : keepS s0 s x y = some gs) (hd : DenS e s y u) (hk : x.ok s0) : DenS e s0 x u ∧ ∀ q ∈ gs, sameTh (lk s0.th q) (lk s.th q) = true := by
  cases x with
  | a x =>
    cases y with
    | a y => exact J.keepA h hd hk
    | g ys => cases h
  | g xs =>
    cases y with
    | a y => cases h
    | g ys =>
      obtain ⟨us, rfl⟩ : ∃ us : List Value, u = .agg us.toArray := by
        have := hd.1
        simp only [SV1.den, Option.map_eq_some_iff] at this
        obtain ⟨l, _, rfl⟩ := this
        exact ⟨_, rfl⟩
      exact J.keepAs h hd hk
theorem Jn.keepSs : ∀ {xs ys : List SV1} {gs : List Nat} {us : List Value}, keepSs s0 s xs ys = some gs → dens e s.vs ys = some us → (∀ y ∈ ys, y.ok s) → (∀ x ∈ xs, x.ok s0) → dens e s0.vs xs = some us ∧ ∀ q ∈ gs, sameTh (lk s0.th q) (lk s.th q) = true
  | [], [], gs, us, h, hd, _, _ => by
    injection h with h; subst h
    exact ⟨hd, nofun⟩
  | [], _ :: _, gs, us, h, _, _, _ => by cases h
  | _ :: _, [], gs, us, h, _, _, _ => by cases h
  | x :: xs, y :: ys, gs, us, h, hd, hy, hok => by
    simp only [Go.Proofs.YtjdlgannencchaaGreatDoor.keepSs] at h
    split at h
    · rename_i g1 g2 h1 h2
      injection h with h; subst h
      simp only [dens] at hd
      split at hd
      · rename_i u q q1 q2
        injection hd with hd; subst hd
        obtain ⟨d1, d2⟩ := J.keepS h1 ⟨q1, hy y (by simp)⟩ (hok x (by simp))
        obtain ⟨d3, d4⟩ := Jn.keepSs h2 q2 (fun z hz => hy z (by simp [hz])) fun z hz => hok z (by simp [hz])
        refine ⟨dens_cons d1.1 d3, fun q hq => ?_⟩
        rcases List.mem_append.1 hq with hq | hq
        · exact d2 q hq
        · exact d4 q hq
      · cases hd
    · cases h
theorem Jn.endZ {E : Nat} {k : EK} {x : Ax} {vs : List PV} {ids : List (Option Nat)} {u : Value} (h : endZ s E k x = some (vs, ids)) (hd : DenS e s (.a x) u) (hz : ∀ b ∈ (match x.lf s.vs with
      | some (.sl g n rt) => (match rdl s k (.sl g n rt) with | some l => [!(List.isEmpty l)] | none => [])
      | _ => []), b = true) : ∃ (l : List k.ty) (ad : Option Addr) (c : Nat) (A : List Asn), vs = [.sl k l] ∧ u = .slice (ifA (!(Nat.beq l.length 0)) ad) l.length (ifN (!(Nat.beq l.length 0)) c) ∧ A = [.row E k.sz (.slice ad l.length c) l.length (l.flatMap k.enc)] ∧ IdsA s e ids A := by
  obtain ⟨y, hy, hk⟩ := hd.2
  have hu : y.den e = u := by have := hd.1; simpa [SV1.den, hy] using this
  have key : ∀ {g n rt : Nat} {l : List k.ty} {ct : Nat}, (Lf.sl g n rt).Ok s → thRow s g E = some ct → rdl s k (.sl g n rt) = some l → n = l.length ∧ IdsA s e [some g] [.row E k.sz (.slice (e.a g) l.length (e.c g)) l.length (l.flatMap k.enc)] := by
    intro g n rt l ct hk hth hl
    obtain ⟨ct', c, q1, q2, q3, q4, q5, q6⟩ := sl_val J.I.wf hk hl
    have hth := thRow_ok hth
    obtain ⟨ck, cl, crt, csi⟩ := c
    dsimp only at q3; subst q3; dsimp only at q4; subst q4
    simp only [rdc, hth, Option.some.injEq] at q1
    subst q1
    exact ⟨q6, _, [], _, rfl, hth, ⟨_, by simp only [Th.den, q2, Option.map_some]; rfl, Wkn.refl _⟩, rfl⟩
  simp only [Go.Proofs.YtjdlgannencchaaGreatDoor.endZ, hy] at h
  simp only [hy] at hz
  split at h
  · rename_i hh
    injection h with h; injection h with h1 h2; subst h1; subst h2
    injection hh with hh; subst hh
    exact ⟨[], none, 0, _, rfl, hu.symm, rfl, _, [], rfl, ⟨E, k.sz, .inl rfl⟩, rfl⟩
  · rename_i g n rt hh
    injection hh with hh; subst hh
    split at h
    · rename_i ct l hth hl
      injection h with h; injection h with h1 h2; subst h1; subst h2
      obtain ⟨k1, k2⟩ := key hk hth hl
      simp only [hl, List.mem_singleton, forall_eq] at hz
      have hf : (!(Nat.beq l.length 0)) = true := by cases l with | nil => cases hz | cons => rfl
      refine ⟨l, _, _, _, rfl, ?_, rfl, k2⟩
      rw [hf, ← hu, k1]; rfl
    · cases h
  · rename_i g n rt hh
    injection hh with hh; subst hh
    split at h
    · rename_i ct l hth hl
      injection h with h; injection h with h1 h2; subst h1; subst h2
      obtain ⟨k1, k2⟩ := key (rt := rt) (n := n) hk hth hl
      exact ⟨l, _, _, _, rfl, by rw [← hu, k1]; rfl, rfl, k2⟩
    · cases h
  · cases h
theorem Jn.endV {d : Nat} {p : P1} {vs : List PV} {ids : List (Option Nat)} {gs : List Nat} (h : endV s0 s d p = some (vs, ids, gs)) (hz : ∀ b ∈ zcV s d p, b = true) : ∃ A, pcV s0 e a d p vs A ∧ IdsA s e ids A ∧ ∀ q ∈ gs, sameTh (lk s0.th q) (lk s.th q) = true := by
  have ok0 : ∀ {x : SV1}, lk s0.sl d = some (.v x) → x.ok s0 := fun hx => by obtain ⟨u, hu⟩ := J.sl0 d _ hx; exact hu.2
  have keep : (keepV s0 s (lk s0.sl d) (lk s.sl d)).map (fun g => (([] : List PV), ([] : List (Option Nat)), g)) = some (vs, ids, gs) → ∃ A, pcV s0 e a d (.o .k) vs A ∧ IdsA s e ids A ∧ ∀ q ∈ gs, sameTh (lk s0.th q) (lk s.th q) = true := by
    intro h
    obtain ⟨g, h1, h2⟩ := Option.map_eq_some_iff.1 h
    injection h2 with h2 h3; injection h3 with h3 h4; subst h2; subst h3; subst h4
    unfold keepV at h1
    split at h1
    · rename_i x y hx hy
      obtain ⟨d1, d2⟩ := J.keepS h1 (J.I.slot d _ hy) (ok0 hx)
      exact ⟨[], ⟨rfl, rfl, _, hx, d1⟩, rfl, d2⟩
    · rename_i xs ys hx hy
      obtain ⟨us, q1, q2, q3⟩ := J.I.slot d _ hy
      obtain ⟨u0, us0, _, _, q4⟩ := J.sl0 d _ hx
      obtain ⟨d1, d2⟩ := J.keepSs h1 q1 q3 q4
      exact ⟨[], ⟨rfl, rfl, _, hx, us, d1, q2, q4⟩, rfl, d2⟩
    · cases h1
  have plain : ∀ {p0 : P0}, (match lk s.sl d with
      | some (.v (.a x)) => (Go.Proofs.YtjdlgannencchaaGreatDoor.endA s p0 x).map fun r => (r.1, r.2, ([] : List Nat))
      | _ => none) = some (vs, ids, gs) → ∃ A, pcA s0 e p0 (oldA s0 d) (sl a d) vs A ∧ IdsA s e ids A ∧ ∀ q ∈ gs, sameTh (lk s0.th q) (lk s.th q) = true := by
    intro p0 h
    split at h
    · rename_i x hx
      obtain ⟨q, h1, h2⟩ := Option.map_eq_some_iff.1 h
      injection h2 with h2 h3; injection h3 with h3 h4; subst h2; subst h3; subst h4
      obtain ⟨A, a1, a2⟩ := J.endA (x0 := oldA s0 d) (vs := q.1) (ids := q.2) h1 (J.I.slot d _ hx)
      exact ⟨A, a1, a2, nofun⟩
    · cases h
  cases p with
  | z E k =>
    simp only [Go.Proofs.YtjdlgannencchaaGreatDoor.endV] at h
    split at h
    · rename_i x hx
      obtain ⟨q, h1, h2⟩ := Option.map_eq_some_iff.1 h
      injection h2 with h2 h3; injection h3 with h3 h4; subst h2; subst h3; subst h4
      simp only [zcV, hx] at hz
      obtain ⟨l, ad, c, A, a1, a2, a3, a4⟩ := J.endZ (vs := q.1) (ids := q.2) h1 (J.I.slot d _ hx) hz
      exact ⟨A, ⟨l, ad, c, a1, a2, a3⟩, a4, nofun⟩
    · cases h
  | g ps =>
    have agg : ∀ {ys : List Ax} {old : List Ax}, lk s.sl d = some (.v (.g ys)) → oldG s0 d = old → (∀ x ∈ old, x.ok s0) → Go.Proofs.YtjdlgannencchaaGreatDoor.endAs s0 s ps old ys = some (vs, ids, gs) → ∃ A, pcV s0 e a d (.g ps) vs A ∧ IdsA s e ids A ∧ ∀ q ∈ gs, sameTh (lk s0.th q) (lk s.th q) = true := by
      intro ys old hy ho hok h
      have hd := J.I.slot d _ hy
      obtain ⟨us, hu⟩ : ∃ us : List Value, sl a d = .agg us.toArray := by
        have := hd.1
        simp only [SV1.den, Option.map_eq_some_iff] at this
        obtain ⟨l, _, h⟩ := this
        exact ⟨_, h.symm⟩
      rw [hu] at hd
      obtain ⟨A, a1, a2, a3⟩ := J.endAs h hd hok
      exact ⟨A, ⟨us, hu, by rw [ho]; exact a1⟩, a2, a3⟩
    simp only [Go.Proofs.YtjdlgannencchaaGreatDoor.endV] at h
    split at h
    · rename_i xs ys hx hy
      exact agg hy (by simp [oldG, hx]) (ok0 hx) h
    · rename_i ys hy hne
      refine agg (old := []) hy ?_ (fun _ h => by cases h) h
      unfold oldG
      split
      · rename_i xs hx; exact (hne xs hx).elim
      · rfl
    · cases h
  | o p =>
    cases p with
    | k => exact keep h
    | a j =>
      simp only [Go.Proofs.YtjdlgannencchaaGreatDoor.endV] at h
      cases hs : sameRow s (lk s.sl d) (lk s.sl j) with
      | false => rw [hs] at h; cases h
      | true =>
        rw [hs] at h
        injection h with h; injection h with h1 h; injection h with h2 h3; subst h1; subst h2; subst h3
        refine ⟨[], ⟨rfl, rfl, ?_⟩, rfl, nofun⟩
        unfold sameRow at hs
        split at hs
        · rename_i x y hx hy
          split at hs
          · rename_i g n rt g' n' rt' h1 h2
            simp only [Bool.and_eq_true] at hs
            have e1 := beqs hs.1; have e2 := beqs hs.2
            subst e1; subst e2
            have d1 := J.I.slot d _ hx
            have d2 := J.I.slot j _ hy
            obtain ⟨y1, q1, q2⟩ := d1.2
            rw [h1] at q1; injection q1 with q1; subst q1
            obtain ⟨y2, q3, q4⟩ := d2.2
            rw [h2] at q3; injection q3 with q3; subst q3
            obtain ⟨c1, c2, c3⟩ := q2.1
            obtain ⟨c4, c5, c6⟩ := q4.1
            rw [c2] at c5; injection c5 with c5; subst c5
            have v1 := d1.1; have v2 := d2.1
            simp only [SV1.den, h1, Option.map_some, Option.some.injEq, Lf.den] at v1
            simp only [SV1.den, h2, Option.map_some, Option.some.injEq, Lf.den] at v2
            rw [← v1, ← v2, c3, c6]
          · cases hs
        · cases hs
    | w E k =>
      simp only [Go.Proofs.YtjdlgannencchaaGreatDoor.endV] at h
      split at h
      · rename_i x y hx hy
        obtain ⟨q, h1, h2⟩ := Option.map_eq_some_iff.1 h
        injection h2 with h2 h3; injection h3 with h3 h4; subst h2; subst h3; subst h4
        obtain ⟨A, a1, a2⟩ := J.endW (vs := q.1) (ids := q.2) h1 (J.I.slot d _ hy) (ok0 hx)
        refine ⟨A, ?_, a2, nofun⟩
        show pcA s0 e (.w E k) (oldA s0 d) (sl a d) q.1 A
        rw [show oldA s0 d = some x by simp [oldA, hx]]
        exact a1
      · cases h
    | i k => exact plain h
    | b => exact plain h
    | s => exact plain h
    | r E k => exact plain h
theorem Jn.endSl : ∀ {l : List (Nat × P1)} {vs : List PV} {ids : List (Option Nat)} {gs : List Nat}, endSl s0 s l = some (vs, ids, gs) → (∀ b ∈ zcSl s l, b = true) → ∃ A, pcSl s0 e a l vs A ∧ IdsA s e ids A ∧ ∀ q ∈ gs, sameTh (lk s0.th q) (lk s.th q) = true
  | [], vs, ids, gs, h, _ => by
    injection h with h; injection h with h1 h; injection h with h2 h3; subst h1; subst h2; subst h3
    exact ⟨[], ⟨rfl, rfl⟩, rfl, nofun⟩
  | (d, p) :: l, vs, ids, gs, h, hz => by
    simp only [Go.Proofs.YtjdlgannencchaaGreatDoor.endSl] at h
    split at h
    · rename_i h1 h2
      injection h with h; injection h with h3 h; injection h with h4 h5; subst h3; subst h4; subst h5
      obtain ⟨A, a1, a2, a3⟩ := J.endV h1 fun b hb => hz b (by simp only [zcSl]; exact List.mem_append_left _ hb)
      obtain ⟨B, b1, b2, b3⟩ := Jn.endSl h2 fun b hb => hz b (by simp only [zcSl]; exact List.mem_append_right _ hb)
      refine ⟨A ++ B, ⟨_, _, A, B, rfl, rfl, a1, b1⟩, a2.app b2, fun q hq => ?_⟩
      rcases List.mem_append.1 hq with hq | hq
      · exact a3 q hq
      · exact b3 q hq
    · cases h
theorem Jn.endBx : ∀ {l : List (Nat × List P0)} {vs : List PV} {ids : List (Option Nat)} {gs bs : List Nat}, endBx s0 s l = some (vs, ids, gs, bs) → ∃ A B, pcBx s0 e l vs A B ∧ IdsA s e ids A ∧ IdsA s e (bs.map some) B ∧ ∀ q ∈ gs, sameTh (lk s0.th q) (lk s.th q) = true
  | [], vs, ids, gs, bs, h => by
    injection h with h; injection h with h1 h; injection h with h2 h; injection h with h3 h4; subst h1; subst h2; subst h3; subst h4
    exact ⟨[], [], ⟨rfl, rfl, rfl⟩, rfl, rfl, nofun⟩
  | (d, ps) :: l, vs, ids, gs, bs, h => by
    simp only [Go.Proofs.YtjdlgannencchaaGreatDoor.endBx] at h
    split at h
    · rename_i g hg
      split at h
      · rename_i T xs T' ys hx hy
        cases hb : Nat.beq T T' with
        | false => rw [hb] at h; cases h
        | true =>
          rw [hb] at h
          have eT := beqs hb; subst eT
          simp only [cond_true] at h
          split at h
          · rename_i h1 h2
            injection h with h; injection h with h3 h; injection h with h4 h; injection h with h5 h6; subst h3; subst h4; subst h5; subst h6
            have hok := (J.I.wf.th _ (lk_mem hy)).2
            obtain ⟨q, hq⟩ : ∃ q, lfs s.vs ys = some q := by
              obtain ⟨L, hL, _⟩ := J.I.st
              obtain ⟨y, R, h', _, _⟩ := ths_get hL hy
              simp only [Th.den, Option.map_eq_some_iff] at h'
              obtain ⟨l, h', _⟩ := h'
              exact ⟨l, h'⟩
            obtain ⟨A, a1, a2, a3⟩ := J.endAs (us := q.map (Lf.den e)) h1 ⟨by simp [SV1.den, hq], hok⟩ (J.w0.th _ (lk_mem hx)).2
            obtain ⟨A2, B2, b1, b2, b3, b4⟩ := Jn.endBx h2
            refine ⟨A ++ A2, _ :: B2, ⟨g, T, xs, q.map (Lf.den e), _, _, A, A2, B2, hg, hx, rfl, rfl, rfl, a1, b1⟩, a2.app b2, ⟨_, B2, _, rfl, hy, ⟨_, by simp only [Th.den, hq, Option.map_some], Wkn.refl _⟩, b3⟩, fun q hq => ?_⟩
            rcases List.mem_append.1 hq with hq | hq
            · exact a3 q hq
            · exact b4 q hq
          · cases h
      · cases h
    · cases h
theorem Jn.endPr : ∀ {l : List (Nat × P0)} {vs : List PV} {gs : List Nat}, endPr s0 s l = some (vs, gs) → ∃ A, pcPr s0 e l vs A ∧ IdsA s e ((prR l).map some) A ∧ ∀ q ∈ gs, sameTh (lk s0.th q) (lk s.th q) = true
  | [], vs, gs, h => by
    injection h with h; injection h with h1 h2; subst h1; subst h2
    exact ⟨[], ⟨rfl, rfl⟩, rfl, nofun⟩
  | (j, p) :: l, vs, gs, h => by
    simp only [Go.Proofs.YtjdlgannencchaaGreatDoor.endPr] at h
    split at h
    · rename_i v k h1
      cases hb : sameTh (lk s0.th j) (lk s.th j) with
      | false => rw [hb] at h; cases h
      | true =>
        rw [hb] at h
        injection h with h; injection h with h2 h3; subst h2; subst h3
        obtain ⟨A, a1, a2, a3⟩ := Jn.endPr h1
        refine ⟨A, a1, a2, fun q hq => ?_⟩
        rcases List.mem_cons.1 hq with rfl | hq
        · exact hb
        · exact a3 q hq
    · rename_i E kk v k h1
      split at h
      · rename_i E' n0 ct h0 hth
        split at h
        · rename_i c0 c hc0 hc
          cases hb : (Nat.beq E' E && Nat.beq c0.rt c.rt) with
          | false => rw [hb] at h; cases h
          | true =>
            rw [hb] at h
            simp only [cond_true] at h
            simp only [Bool.and_eq_true] at hb
            split at h
            · rename_i ll hl
              injection h with h; injection h with h2 h3; subst h2; subst h3
              obtain ⟨A, a1, a2, a3⟩ := Jn.endPr h1
              have hth := thRow_ok hth
              obtain ⟨c0', q0⟩ := J.row h0
              have := J.E.c _ _ q0
              rw [hc0] at this; injection this with this; subst this
              obtain ⟨d, d1, d2, d3⟩ := J.w0.rt _ _ q0
              obtain ⟨d', f1, f2, f3⟩ := J.I.wf.rt _ _ hc
              rw [← beqs hb.2, J.E.c _ _ d1] at f1
              injection f1 with f1; subst f1
              obtain ⟨ck, cl, crt, csi⟩ := c
              obtain ⟨q, hq⟩ := slGet_ok hl
              dsimp only at q; subst q; dsimp only at hq; subst hq
              have eE := beqs hb.1; subst eE
              refine ⟨_ :: A, ⟨cl, v, A, n0, c0, d, h0, q0, rfl, rfl, d1, f2, f3, a1⟩, ⟨_, A, _, rfl, hth, ⟨_, by simp only [Th.den, hc, Option.map_some]; rfl, Wkn.refl _⟩, a2⟩, a3⟩
            · cases h
        · cases h
      · cases h
    · cases h
end
end Go.Proofs.YtjdlgannencchaaGreatDoor
namespace Go.Proofs.YtjdlgannencchaaGreatDoor
open Go.ChangeShapes Go.WideShapes Go.ChangeAt Go.RowKit
set_option linter.unusedVariables false
set_option linter.unusedSimpArgs false
theorem rk_put {k : RK} {v : PV} {a : k.ty} (h : k.get v = some a) : k.put a = v := by
  cases k with
  | int k =>
    cases v <;> simp only [RK.get, reduceCtorEq] at h
    rename_i k' x
    cases hb : (k == k') with
    | false => rw [hb] at h; cases h
    | true =>
      rw [hb] at h; injection h with h; subst h
      have : k = k' := by simpa using hb
      subst this; rfl
  | b => cases v <;> simp only [RK.get, reduceCtorEq] at h; injection h with h; subst h; rfl
  | s => cases v <;> simp only [RK.get, reduceCtorEq] at h; injection h with h; subst h; rfl
  | al j => cases v <;> simp only [RK.get, reduceCtorEq] at h; injection h with h; subst h; rfl
  | row E e =>
    cases v with
    | sl e' l => obtain ⟨q, hq⟩ := slGet_ok h; subst q; dsimp only at hq; subst hq; rfl
    | _ => cases h
  | part e =>
    cases v with
    | sl e' l => obtain ⟨q, hq⟩ := slGet_ok h; subst q; dsimp only at hq; subst hq; rfl
    | _ => cases h
section
variable {r : Rn} {s0 s s' : Sy} {e0 e ec e' : Env} {a : Act} {w : World} {X : List Asn}
theorem zrow_den (hW : Wf r s) {E : Nat} {k : EK} (l : List k.ty) (e : Env) (ad : Option Addr) (c : Nat) :
    let s' : Sy := { s with n := s.n + 3, vs := (s.n + 2, .zl (s.n + 1) l.length s.n) :: s.vs, ct := (s.n, ⟨k, l, s.n, none⟩) :: s.ct }
    Gr2 r s s' ∧ DenS (e.up (s.n + 1) 0 ad c) s' (.a (.t (s.n + 2))) (.slice (ifA (!(Nat.beq l.length 0)) ad) l.length (ifN (!(Nat.beq l.length 0)) c)) ∧ ths (e.up (s.n + 1) 0 ad c) s'.vs s'.ct [(s.n + 1, .row E s.n)] = some [.row E k.sz (.slice ad l.length c) l.length (l.flatMap k.enc)] ∧ NtOk s.n s' [(s.n + 1, .row E s.n)] := by
  intro s'
  have Ex : Ext s s' := ext_lt hW (fun t h => lk_ne (by omega)) (fun t h => lk_ne (by omega)) (by simp [s'])
  refine ⟨⟨Ex, hW.grow Ex (fun t x h => ?_) (fun t c h => ?_) (fun p hp => .inl hp) rfl (fun t b h => .inl h), rfl, rfl, rfl, rfl⟩, ⟨by simp [SV1.den, Ax.lf, s', lk_same, Lf.den, Env.up], .zl (s.n + 1) l.length s.n, lk_same, ⟨_, lk_same, rfl⟩, fun g hg => ?_⟩, ths_cons.2 ⟨_, [], ?_, rfl, rfl⟩, fun p hp => ?_⟩
  · rcases lk_cons_or h with ⟨rfl, rfl⟩ | h
    · exact .inr ⟨by simp [s'], nofun⟩
    · exact .inl h
  · rcases lk_cons_or h with ⟨rfl, rfl⟩ | h
    · exact .inr ⟨by simp [s'], ⟨_, lk_same, rfl, rfl⟩, nofun⟩
    · exact .inl h
  · simp [Lf.gs] at hg; subst hg; simp [s']
  · simp [Th.den, s', lk_same, Env.up, Ct.cells]
  · simp only [List.mem_singleton] at hp; subst hp
    exact ⟨Nat.le_succ _, by simp [s'], trivial, nofun⟩
theorem insA_ok (hW0 : Wf r s0) (G : Gr2 r s0 s) (ha : Agr s0.n e ec) {p : P0} {x0 : Option Ax} {u : Value} {v rest : List PV} {A : List Asn} {f : In} (hp : pcA s0 e p x0 u v A) (h : insA s0 s p x0 (v ++ rest) = some f) :
    f.vs = rest ∧ ∃ ec' x, Agr s.n ec ec' ∧ Gr2 r s f.s ∧ f.xs = [x] ∧ DenS ec' f.s (.a x) u ∧ ths ec' f.s.vs f.s.ct f.ts = some A ∧ NtW s0 f.s f.ts := by
  cases p with
  | k =>
    obtain ⟨⟨x, rfl, hd⟩, rfl, rfl⟩ := hp
    simp only [insA, Option.map_some, Option.some.injEq] at h
    subst h
    exact ⟨rfl, ec, x, Agr.refl _ _, .refl G.wf, rfl, (hd.agr ha).mono G.ext, rfl, NtW.nil⟩
  | i ik =>
    obtain ⟨k, z, rfl, rfl, rfl⟩ := hp
    injection h with h; subst h
    obtain ⟨G1, D⟩ := nw_den (e := ec) G.wf (x := .int k z) rfl ⟨trivial, by simp [Lf.gs]⟩ rfl
    exact ⟨rfl, ec, _, Agr.refl _ _, G1, rfl, D, rfl, NtW.nil⟩
  | b =>
    obtain ⟨z, rfl, rfl, rfl⟩ := hp
    injection h with h; subst h
    obtain ⟨G1, D⟩ := nw_den (e := ec) G.wf (x := .bool z) rfl ⟨trivial, by simp [Lf.gs]⟩ rfl
    exact ⟨rfl, ec, _, Agr.refl _ _, G1, rfl, D, rfl, NtW.nil⟩
  | s =>
    obtain ⟨z, rfl, rfl, rfl⟩ := hp
    injection h with h; subst h
    obtain ⟨G1, D⟩ := nw_den (e := ec) G.wf (x := .str z) rfl ⟨trivial, by simp [Lf.gs]⟩ rfl
    exact ⟨rfl, ec, _, Agr.refl _ _, G1, rfl, D, rfl, NtW.nil⟩
  | r E k =>
    obtain ⟨v1, rfl, l, ad, c, rfl, rfl, rfl⟩ := hp
    injection h with h; subst h
    obtain ⟨d1, d2, d3⟩ := nrow_den G.wf (E := E) l false ec ad c
    exact ⟨rfl, _, _, agr_up (Nat.le_succ _), nrow_g2 G.wf E k l l.length, rfl, d1, d2, d3.w⟩
  | w E k =>
    obtain ⟨l, x, g, n, rt, d, rfl, hx, hg, rfl, rfl, rfl, h1, h2, h3, h4⟩ := hp
    simp only [insA, insW, List.cons_append, List.nil_append, hx, Option.some.injEq] at h
    subst h
    have G1 := ct_g2 (c := ⟨k, l, rt, none⟩) G.wf ⟨d, G.ext.c _ _ h1, h3, h4⟩ rfl
    have hh := ha g hg
    refine ⟨rfl, ec, x, Agr.refl _ _, G1, rfl, ⟨?_, _, (G.ext.trans G1.ext).lf hx, ⟨d, (G.ext.trans G1.ext).c _ _ h1, h2⟩, fun q hq => ?_⟩, ths_cons.2 ⟨_, [], ?_, rfl, rfl⟩, fun p hp => ?_⟩
    · simp only [SV1.den, (G.ext.trans G1.ext).lf hx, Option.map_some, Lf.den, hh.2.1, hh.2.2.1, h2, h3]
    · simp [Lf.gs] at hq; subst hq; exact Nat.lt_of_lt_of_le hg (G.ext.trans G1.ext).n
    · have : lk ((s.n, (⟨k, l, rt, none⟩ : Ct)) :: s.ct) s.n = some ⟨k, l, rt, none⟩ := lk_same
      simp only [Th.den, this, Option.map_some, Ct.cells, hh.2.1, hh.2.2.1]
    · simp only [List.mem_singleton] at hp; subst hp
      exact .inr ⟨Nat.lt_of_lt_of_le hg (G.ext.trans G1.ext).n, trivial, nofun⟩
  | a j => exact hp.elim
theorem insAs_ok (hW0 : Wf r s0) : ∀ {ps : List P0} {old : List Ax} {us : List Value} {v rest : List PV} {A : List Asn} {s : Sy} {ec : Env} {f : In}, Gr2 r s0 s → Agr s0.n e ec → pcAs s0 e ps old us v A → insAs s0 s ps old (v ++ rest) = some f →
    f.vs = rest ∧ ∃ ec', Agr s.n ec ec' ∧ Gr2 r s f.s ∧ DenS ec' f.s (.g f.xs) (.agg us.toArray) ∧ ths ec' f.s.vs f.s.ct f.ts = some A ∧ NtW s0 f.s f.ts
  | [], old, us, v, rest, A, s, ec, f, G, ha, hp, h => by
    obtain ⟨rfl, rfl, rfl⟩ := hp
    injection h with h; subst h
    exact ⟨rfl, ec, Agr.refl _ _, .refl G.wf, den_nil, rfl, NtW.nil⟩
  | p :: ps, old, us, v, rest, A, s, ec, f, G, ha, hp, h => by
    obtain ⟨u, ur, v1, v2, A1, A2, rfl, rfl, rfl, h1, h2⟩ := hp
    simp only [insAs, List.append_assoc] at h
    split at h
    · rename_i s1 x m vs1 hA
      split at h
      · rename_i s2 xs ms vs2 hB
        injection h with h; subst h
        obtain ⟨a1, ec1, y, a2, a3, a4, a5, a6, a7⟩ := insA_ok hW0 G ha h1 hA
        dsimp only at a1 a3 a4 a5 a6 a7
        subst a1; subst a4
        obtain ⟨b1, ec2, b2, b3, b4, b5, b6⟩ := insAs_ok hW0 (G.trans a3) (ha.trans (a2.le G.ext.n)) h2 hB
        dsimp only at b1 b3 b4 b5 b6
        subst b1
        exact ⟨rfl, ec2, a2.trans (b2.le a3.ext.n), a3.trans b3, den_cons ((a5.agr b2).mono b3.ext) b4, ths_app.2 ⟨A1, A2, ntw_agr hW0 (G.ext.trans a3.ext) a6 a7 b2 b3.ext, b5, rfl⟩, (a7.mono b3.ext).app b6⟩
      · cases h
    · cases h
theorem insV_ok (hW0 : Wf r s0) (G : Gr2 r s0 s) (ha : Agr s0.n e ec) {acc : List (Nat × SV)} (hacc : ∀ k v, lk acc k = some v → DenV ec s v (sl a k)) {d : Nat} {p : P1} {v rest : List PV} {A : List Asn} {q : Sy × SV × List (Nat × Th) × List PV} (hp : pcV s0 e a d p v A) (h : insV s0 s acc d (v ++ rest) p = some q) :
    q.2.2.2 = rest ∧ ∃ ec', Agr s.n ec ec' ∧ Gr2 r s q.1 ∧ DenV ec' q.1 q.2.1 (sl a d) ∧ ths ec' q.1.vs q.1.ct q.2.2.1 = some A ∧ NtW s0 q.1 q.2.2.1 := by
  have plain : ∀ {p0 : P0}, pcA s0 e p0 (oldA s0 d) (sl a d) v A → (match insA s0 s p0 (match lk s0.sl d with | some (.v (.a x)) => some x | _ => none) (v ++ rest) with
      | some ⟨s1, [x], m, vs1⟩ => some (s1, SV.v (.a x), m, vs1)
      | _ => none) = some q → q.2.2.2 = rest ∧ ∃ ec', Agr s.n ec ec' ∧ Gr2 r s q.1 ∧ DenV ec' q.1 q.2.1 (sl a d) ∧ ths ec' q.1.vs q.1.ct q.2.2.1 = some A ∧ NtW s0 q.1 q.2.2.1 := by
    intro p0 hp h
    split at h
    · rename_i s1 x m vs1 hA
      injection h with h; subst h
      obtain ⟨a1, ec1, y, a2, a3, a4, a5, a6, a7⟩ := insA_ok hW0 G ha hp hA
      dsimp only at a1 a3 a4 a5 a6 a7
      injection a4 with a4 _; subst a4
      exact ⟨a1, ec1, a2, a3, a5, a6, a7⟩
    · cases h
  cases p with
  | g ps =>
    obtain ⟨us, hu, hp⟩ := hp
    simp only [insV] at h
    split at h
    · rename_i s1 xs m vs1 hA
      injection h with h; subst h
      obtain ⟨a1, ec1, a2, a3, a4, a5, a6⟩ := insAs_ok hW0 G ha hp hA
      dsimp only at a1 a3 a4 a5 a6
      exact ⟨a1, ec1, a2, a3, by rw [hu]; exact a4, a5, a6⟩
    · cases h
  | z E k =>
    obtain ⟨l, ad, c, rfl, hu, rfl⟩ := hp
    injection h with h; subst h
    obtain ⟨G1, d1, d2, d3⟩ := zrow_den G.wf (E := E) l ec ad c
    exact ⟨rfl, _, agr_up (Nat.le_succ _), G1, by rw [hu]; exact d1, d2, d3.w⟩
  | o p =>
    cases p with
    | k =>
      obtain ⟨rfl, rfl, v0, hv0, hd⟩ := hp
      simp only [insV, hv0, Option.map_some, Option.some.injEq] at h
      subst h
      exact ⟨rfl, ec, Agr.refl _ _, .refl G.wf, (hd.agr ha).mono G.ext, rfl, NtW.nil⟩
    | a j =>
      obtain ⟨rfl, rfl, he⟩ := hp
      simp only [insV, Option.map_eq_some_iff] at h
      obtain ⟨v0, hv0, h⟩ := h
      subst h
      exact ⟨rfl, ec, Agr.refl _ _, .refl G.wf, by rw [he]; exact hacc j v0 hv0, rfl, NtW.nil⟩
    | i k => exact plain (p0 := .i k) hp h
    | b => exact plain (p0 := .b) hp h
    | s => exact plain (p0 := .s) hp h
    | r E k => exact plain (p0 := .r E k) hp h
    | w E k => exact plain (p0 := .w E k) hp h
theorem insSl_ok (hW0 : Wf r s0) : ∀ {l : List (Nat × P1)} {acc : List (Nat × SV)} {ts : List (Nat × Th)} {v rest : List PV} {A A0 : List Asn} {s : Sy} {ec : Env} {f : InS}, Gr2 r s0 s → Agr s0.n e ec → (∀ k v, lk acc k = some v → DenV ec s v (sl a k)) → ths ec s.vs s.ct ts = some A0 → NtW s0 s ts → pcSl s0 e a l v A → insSl s0 s acc ts l (v ++ rest) = some f →
    f.vs = rest ∧ ∃ ec', Agr s.n ec ec' ∧ Gr2 r s f.s ∧ (∀ k v, lk f.sl k = some v → DenV ec' f.s v (sl a k)) ∧ ths ec' f.s.vs f.s.ct f.ts = some (A0 ++ A) ∧ NtW s0 f.s f.ts
  | [], acc, ts, v, rest, A, A0, s, ec, f, G, ha, hacc, ht, hnt, hp, h => by
    obtain ⟨rfl, rfl⟩ := hp
    injection h with h; subst h
    exact ⟨rfl, ec, Agr.refl _ _, .refl G.wf, hacc, by rw [List.append_nil]; exact ht, hnt⟩
  | (d, p) :: l, acc, ts, v, rest, A, A0, s, ec, f, G, ha, hacc, ht, hnt, hp, h => by
    obtain ⟨v1, v2, A1, A2, rfl, rfl, h1, h2⟩ := hp
    simp only [insSl, List.append_assoc] at h
    split at h
    · rename_i s1 x m vs1 hV
      obtain ⟨a1, ec1, a2, a3, a4, a5, a6⟩ := insV_ok hW0 G ha hacc h1 hV
      dsimp only at a1 a3 a4 a5 a6
      subst a1
      obtain ⟨b1, ec2, b2, b3, b4, b5, b6⟩ := insSl_ok hW0 (A0 := A0 ++ A1) (G.trans a3) (ha.trans (a2.le G.ext.n)) (fun k v hk => by
        rcases lk_cons_or hk with ⟨rfl, rfl⟩ | hk
        · exact a4
        · exact ((hacc k v hk).agr a2).mono a3.ext) (ths_app.2 ⟨A0, A1, ntw_agr hW0 G.ext ht hnt a2 a3.ext, a5, rfl⟩) ((hnt.mono a3.ext).app a6) h2 h
      exact ⟨b1, ec2, a2.trans (b2.le a3.ext.n), a3.trans b3, b4, by rw [← List.append_assoc]; exact b5, b6⟩
    · cases h
theorem insBx_ok (hW0 : Wf r s0) : ∀ {l : List (Nat × List P0)} {v rest : List PV} {A B : List Asn} {s : Sy} {ec : Env} {q : Sy × List (Nat × Th) × List (Nat × Th) × List PV}, Gr2 r s0 s → Agr s0.n e ec → pcBx s0 e l v A B → insBx s0 s l (v ++ rest) = some q →
    q.2.2.2 = rest ∧ ∃ ec', Agr s.n ec ec' ∧ Gr2 r s q.1 ∧ ths ec' q.1.vs q.1.ct q.2.1 = some B ∧ ths ec' q.1.vs q.1.ct q.2.2.1 = some A ∧ NtW s0 q.1 q.2.1 ∧ NtW s0 q.1 q.2.2.1
  | [], v, rest, A, B, s, ec, q, G, ha, hp, h => by
    obtain ⟨rfl, rfl, rfl⟩ := hp
    injection h with h; subst h
    exact ⟨rfl, ec, Agr.refl _ _, .refl G.wf, rfl, rfl, NtW.nil, NtW.nil⟩
  | (d, ps) :: l, v, rest, A, B, s, ec, q, G, ha, hp, h => by
    obtain ⟨g, T, xs, us, v1, v2, A1, A2, Br, hg, hx, rfl, rfl, rfl, h1, h2⟩ := hp
    simp only [insBx, hg, hx, List.append_assoc] at h
    split at h
    · rename_i s1 ys m vs1 hA
      split at h
      · rename_i s2 bs ms vs2 hB
        injection h with h; subst h
        obtain ⟨a1, ec1, a2, a3, a4, a5, a6⟩ := insAs_ok hW0 G ha h1 hA
        dsimp only at a1 a3 a4 a5 a6
        subst a1
        obtain ⟨b1, ec2, b2, b3, b4, b5, b6, b7⟩ := insBx_ok hW0 (G.trans a3) (ha.trans (a2.le G.ext.n)) h2 hB
        dsimp only at b1 b3 b4 b5 b6 b7
        have hgn : g < s0.n := (hW0.th _ (lk_mem hx)).1
        have dx := (a4.agr b2).mono b3.ext
        refine ⟨b1, ec2, a2.trans (b2.le a3.ext.n), a3.trans b3, ths_cons.2 ⟨_, Br, ?_, b4, rfl⟩, ths_app.2 ⟨A1, A2, ntw_agr hW0 (G.ext.trans a3.ext) a5 a6 b2 b3.ext, b5, rfl⟩, fun p hp => ?_, (a6.mono b3.ext).app b7⟩
        · have hb : ec2.b g = e.b g := by
            rw [(b2 g (Nat.lt_of_lt_of_le hgn (Nat.le_trans G.ext.n a3.ext.n))).1, (a2 g (Nat.lt_of_lt_of_le hgn G.ext.n)).1, (ha g hgn).1]
          have := dx.1
          simp only [SV1.den, Option.map_eq_some_iff, Value.agg.injEq] at this
          obtain ⟨ls, l1, l2⟩ := this
          simp only [Th.den, l1, Option.map_some, l2, hb]
        · rcases List.mem_cons.1 hp with rfl | hp
          · exact .inr ⟨Nat.lt_of_lt_of_le hgn (Nat.le_trans G.ext.n (Nat.le_trans a3.ext.n b3.ext.n)), dx.2, nofun⟩
          · exact b6 p hp
      · cases h
    · cases h
theorem insPr_ok (hW0 : Wf r s0) : ∀ {l : List (Nat × P0)} {v rest : List PV} {A : List Asn} {s : Sy} {ec : Env} {q : Sy × List (Nat × Th)}, Gr2 r s0 s → Agr s0.n e ec → pcPr s0 e l v A → insPr s0 s l (v ++ rest) = some q →
    Gr2 r s q.1 ∧ ths ec q.1.vs q.1.ct q.2 = some A ∧ NtW s0 q.1 q.2
  | [], v, rest, A, s, ec, q, G, ha, hp, h => by
    obtain ⟨rfl, rfl⟩ := hp
    injection h with h; subst h
    exact ⟨.refl G.wf, rfl, NtW.nil⟩
  | (j, p) :: l, v, rest, A, s, ec, q, G, ha, hp, h => by
    cases p with
    | k =>
      have h : insPr s0 s l (v ++ rest) = some q := by simpa only [insPr] using h
      exact insPr_ok hW0 (rest := rest) G ha (show pcPr s0 e l v A from hp) h
    | r E k =>
      obtain ⟨ll, vr, A2, n0, c0, d, h1, h2, rfl, rfl, h3, h4, h5, h6⟩ := hp
      simp only [insPr, List.cons_append, h1, h2] at h
      split at h
      · rename_i s2 ms hB
        injection h with h; subst h
        have hj : j < s0.n := (hW0.th _ (lk_mem h1)).1
        have G1 := ct_g2 (c := ⟨k, ll, c0.rt, none⟩) G.wf ⟨d, G.ext.c _ _ h3, h4, h5⟩ rfl
        obtain ⟨b1, b2, b3⟩ := insPr_ok hW0 (rest := rest) (G.trans G1) ha h6 hB
        dsimp only at b1 b2 b3
        have hh := ha j hj
        refine ⟨G1.trans b1, ths_cons.2 ⟨_, A2, ?_, b2, rfl⟩, fun p hp => ?_⟩
        · have := b1.ext.c s.n _ lk_same
          simp only [Th.den, this, Option.map_some, Ct.cells, hh.2.1, hh.2.2.1]
        · rcases List.mem_cons.1 hp with rfl | hp
          · exact .inr ⟨Nat.lt_of_lt_of_le hj (Nat.le_trans G.ext.n (Nat.le_trans G1.ext.n b1.ext.n)), trivial, nofun⟩
          · exact b3 p hp
      · cases h
    | i _ => exact hp.elim
    | b => exact hp.elim
    | s => exact hp.elim
    | w _ _ => exact hp.elim
    | a _ => exact hp.elim
def JoinS (r : Rn) (s0 : Sy) (e0 : Env) (h : Shp) (a : Act) (w : World) (p : h.T) : Prop := ∀ s2, ins s0 h (keptS s0 h) (unT RK.put h.ks p) = some s2 → ∃ e2, Ext s0 s2 ∧ Agr s0.n e0 e2 ∧ Inv r e2 a w s2
theorem dedup_sub : ∀ {l seen : List Nat} {x : Nat}, x ∈ dedup l seen → x ∈ l
  | [], seen, x, h => by cases h
  | y :: l, seen, x, h => by
    simp only [dedup] at h
    cases hb : seen.any (Nat.beq y) with
    | true => rw [hb] at h; exact List.mem_cons_of_mem _ (dedup_sub h)
    | false =>
      rw [hb] at h
      rcases List.mem_cons.1 h with rfl | h
      · simp
      · exact List.mem_cons_of_mem _ (dedup_sub h)
theorem natsEq_t : ∀ {a b : List Nat}, natsEq a b = true → a = b
  | [], [], _ => rfl
  | x :: a, y :: b, h => by
    simp only [natsEq, Bool.and_eq_true] at h
    rw [beqs h.1, natsEq_t h.2]
  | [], _ :: _, h => by cases h
  | _ :: _, [], h => by cases h
theorem filterMap_some : ∀ (l : List Nat), (l.map some).filterMap id = l
  | [] => rfl
  | x :: l => by simp [filterMap_some l]
theorem chks_ok {R : Type} {m : Option R} {y : R} : ∀ {l : List Bool}, chks l m = some y → (∀ b ∈ l, b = true) ∧ m = some y
  | [], h => ⟨nofun, h⟩
  | b :: l, h => by
    cases b with
    | false => cases h
    | true =>
      obtain ⟨h1, h2⟩ := chks_ok (l := l) h
      exact ⟨fun c hc => by rcases List.mem_cons.1 hc with rfl | hc; · rfl
                            · exact h1 c hc, h2⟩
theorem wit_ok (J : Jn r s0 e0 a w s e) {hh : Shp} {R : Type} {f : hh.T → Option R} {y : R} (h : witK s0 s hh f = some y) : ∃ p, f p = some y ∧ JoinS r s0 e0 hh a w p := by
  unfold witK at h
  split at h
  · rename_i en hen
    cases hb : (idsOk en (prR hh.pr) && natsEq en.kept (keptS s0 hh)) with
    | false => rw [hb] at h; cases h
    | true =>
      rw [hb] at h
      simp only [cond_true] at h
      simp only [Bool.and_eq_true] at hb
      split at h
      · rename_i p hp
        obtain ⟨hz, h⟩ := chks_ok h
        refine ⟨p, h, fun s2 h2 => ?_⟩
        rw [unT_mk (put := RK.put) (fun k v a h => rk_put h) hp] at h2
        unfold wit at hen
        split at hen
        · rename_i v1 i1 g1 v2 i2 g2 bs v3 g3 q1 q2 q3
          injection hen with hen; subst hen
          dsimp only at hb h2 hp
          obtain ⟨A1, a1, a2, a3⟩ := J.endSl q1 hz
          obtain ⟨A2, B, b1, b2, b3, b4⟩ := J.endBx q2
          obtain ⟨A3, c1, c2, c3⟩ := J.endPr q3
          have hkept := natsEq_t hb.2
          rw [← hkept] at h2
          -- what is kept
          have hk : ∀ g ∈ keptR s0 (g1 ++ (g2 ++ g3)), ∃ x, lk s0.th g = some x ∧ lk s.th g = some x := by
            intro g hg
            have hg := List.mem_filter.1 hg
            have hm := dedup_sub hg.1
            have hs : sameTh (lk s0.th g) (lk s.th g) = true := by
              rcases List.mem_append.1 hm with hm | hm
              · exact a3 g hm
              · rcases List.mem_append.1 hm with hm | hm
                · exact b4 g hm
                · exact c3 g hm
            cases h0 : lk s0.th g with
            | none => rw [h0] at hg; cases hg.2
            | some x =>
              rw [h0] at hs hg
              cases h1 : lk s.th g with
              | none => rw [h1] at hs; cases x <;> cases hs
              | some x' =>
                rw [h1] at hs
                refine ⟨x, rfl, ?_⟩
                cases x with
                | box T cs => cases hg.2
                | row E c =>
                  cases x' <;> simp only [sameTh, Bool.false_eq_true] at hs
                  simp only [Bool.and_eq_true] at hs
                  rw [beqs hs.1, beqs hs.2]
                | part c =>
                  cases x' <;> simp only [sameTh, Bool.false_eq_true] at hs
                  rw [beqs hs]
                | kp c =>
                  cases x' <;> simp only [sameTh, Bool.false_eq_true] at hs
                  rw [beqs hs]
          generalize keptR s0 (g1 ++ (g2 ++ g3)) = kp at hb h2 hk
          obtain ⟨L, hL, hS⟩ := J.I.st
          obtain ⟨L0, hL0⟩ := J.dn0
          obtain ⟨L0', hL0'⟩ := ths_env (e := e) hL0
          obtain ⟨K, hK, hKi⟩ : ∃ K, ths e s0.vs s0.ct (pk s0.th kp) = some K ∧ IdsA s e (kp.map some) K := by
            clear hb h2
            induction kp with
            | nil => exact ⟨[], rfl, rfl⟩
            | cons g kp ih =>
              obtain ⟨K, k1, k2⟩ := ih fun g hg => hk g (by simp [hg])
              obtain ⟨x, x1, x2⟩ := hk g (by simp)
              obtain ⟨yd, _, hy, _, _⟩ := ths_get hL0' x1
              refine ⟨yd :: K, ?_, yd, K, x, rfl, x2, ⟨yd, Th.den_mono J.E hy, Wkn.refl _⟩, k2⟩
              simp only [pk, x1]
              exact ths_cons.2 ⟨yd, K, hy, k1, rfl⟩
          have hids := (a2.app b2).app (hKi.app (b3.app c2))
          have hnd : nodupB (((i1 ++ i2) ++ (kp.map some ++ (bs.map some ++ (prR hh.pr).map some))).filterMap id) = true := by
            rw [List.filterMap_append, List.filterMap_append (l := kp.map some), List.filterMap_append (l := bs.map some), filterMap_some, filterMap_some, filterMap_some]
            exact hb.1
          have hSt := St.ids hL hS hids hnd
          -- the new state
          unfold ins at h2
          split at h2
          · rename_i s1 slN m1 vs1 hI1
            split at h2
            · rename_i s2' bs' m2 vs2 hI2
              split at h2
              · rename_i s3 m3 hI3
                injection h2 with h2
                have G0 : Gr2 r s0 s0 := .refl J.w0
                obtain ⟨p1, ec1, p2, p3, p4, p5, p6⟩ := insSl_ok (A0 := []) J.w0 G0 (Agr.refl s0.n e) (fun k v hk => by cases hk) rfl NtW.nil a1 hI1
                dsimp only at p1 p3 p4 p5 p6
                subst p1
                obtain ⟨r1, ec2, r2, r3, r4, r5, r6, r7⟩ := insBx_ok J.w0 p3 p2 b1 hI2
                dsimp only at r1 r3 r4 r5 r6 r7
                subst r1
                have hI3' : insPr s0 s2' hh.pr (vs2 ++ []) = some (s3, m3) := by rw [List.append_nil]; exact hI3
                obtain ⟨t1, t2, t3⟩ := insPr_ok J.w0 (p3.trans r3) (p2.trans (r2.le p3.ext.n)) c1 hI3'
                dsimp only at t1 t2 t3
                have Gt := (p3.trans r3).trans t1
                have hag : Agr s0.n e ec2 := p2.trans (r2.le p3.ext.n)
                subst h2
                have E2 : Ext s3 { s3 with sl := slN, th := m1 ++ (m2 ++ (pk s0.th kp ++ (bs' ++ m3))), kn := [] } := ⟨fun _ _ h => h, fun _ _ h => h, Nat.le_refl _⟩
                have hntk : NtW s0 s3 (pk s0.th kp) := fun p hp => by
                  left
                  have : ∀ {gs : List Nat}, p ∈ pk s0.th gs → p ∈ s0.th := by
                    intro gs
                    induction gs with
                    | nil => intro h; cases h
                    | cons g gs ih =>
                      intro h
                      simp only [pk] at h
                      split at h
                      · rename_i x hx
                        rcases List.mem_cons.1 h with rfl | h
                        · exact lk_mem hx
                        · exact ih h
                      · exact ih h
                  exact this hp
                have hntall : NtW s0 s3 (m1 ++ (m2 ++ (pk s0.th kp ++ (bs' ++ m3)))) := (p6.mono (r3.ext.trans t1.ext)).app ((r7.mono t1.ext).app (hntk.app ((r6.mono t1.ext).app t3)))
                refine ⟨ec2, Gt.ext.trans E2, J.A.trans hag, J.I.size, J.I.df, fun k v hk => ?_, ⟨(A1 ++ A2) ++ (K ++ (B ++ A3)), ?_, hSt⟩, ?_, (J.I.par.trans (Agr.le (fun g hg => hag g hg) J.w0.np))⟩
                · exact ((((p4 k v hk).agr r2).mono r3.ext).mono t1.ext).mono E2
                · rw [List.append_assoc]
                  refine ths_app.2 ⟨A1, _, ?_, ths_app.2 ⟨A2, _, ths_mono t1.ext r5, ths_app.2 ⟨K, _, ?_, ths_app.2 ⟨B, A3, ths_mono t1.ext r4, t2, rfl⟩, rfl⟩, rfl⟩, rfl⟩
                  · exact ntw_agr (s' := s3) J.w0 p3.ext (by simpa using p5) p6 r2 (r3.ext.trans t1.ext)
                  · exact ntw_agr (s' := s3) J.w0 (.refl _) hK (fun p hp => by
                      rcases hntk p hp with h | h
                      · exact .inl h
                      · exact .inl (by
                          have : ∀ {gs : List Nat}, p ∈ pk s0.th gs → p ∈ s0.th := by
                            intro gs
                            induction gs with
                            | nil => intro h; cases h
                            | cons g gs ih =>
                              intro h
                              simp only [pk] at h
                              split at h
                              · rename_i x hx
                                rcases List.mem_cons.1 h with rfl | h
                                · exact lk_mem hx
                                · exact ih h
                              · exact ih h
                          exact this hp)) hag Gt.ext
                · refine Gt.wf.grow E2 (fun t x h => .inl h) (fun t c h => .inl h) (fun p hp => ?_) rfl (fun t b h => by cases h)
                  rw [Gt.th]
                  exact (hntall p hp).imp id fun h => ⟨h.1, h.2.1.mono E2, h.2.2⟩
              · cases h2
            · cases h2
          · cases h2
        · cases hen
      · cases h
  · cases h
end
end Go.Proofs.YtjdlgannencchaaGreatDoor
namespace Go.Proofs.YtjdlgannencchaaGreatDoor
open Go.ChangeShapes Go.WideShapes Go.ChangeAt Go.RowKit
set_option linter.unusedVariables false
set_option linter.unusedSimpArgs false
section
variable {P : Program} {G : Cx} {F : Sg} {r : Rn} {sI s s' : Sy} {e e' : Env} {a : Act} {w : World}
theorem inv_kn (I : Inv r e a w s) {q : Nat} {b : Bool} (h : lk s.vs q = some (.bool b)) : Inv r e a w (kn1 s q b) :=
  ⟨I.size, I.df, fun k v hk => (I.slot k v hk).mono (ext_kn s q b), I.st, wf_kn I.wf h, I.par⟩
theorem jn_self (I : Inv r e a w s) {e2 : Env} {a2 : Act} {w2 : World} {s2 : Sy} (E : Ext s s2) (A : Agr s.n e e2) (I2 : Inv r e2 a2 w2 s2) : Jn r s e a2 w2 s2 e2 :=
  ⟨I.wf, fun k v hk => ⟨_, I.slot k v hk⟩, by obtain ⟨L, h, _⟩ := I.st; exact ⟨L, h⟩, E, A, I2⟩
theorem insK_ok {h : Shp} {R : Type} {y : R} {p : h.T} {f : Sy → Option R} (hJ : JoinS r s e h a w p) (hk : insK s h p f = some y) : ∃ s2 e2, f s2 = some y ∧ Ext s s2 ∧ Agr s.n e e2 ∧ Inv r e2 a w s2 := by
  unfold insK at hk
  split at hk
  · rename_i s2 h2
    obtain ⟨e2, h3, h4, h5⟩ := hJ s2 h2
    exact ⟨s2, e2, hk, h3, h4, h5⟩
  · cases hk
theorem elimC_nrm {R Rf : Type} {K : Kt R Rf} {h : Shp} {l : List Alt} {p : h.T} : elimC s K h l (injN l p) = insK s h p K.nrm := by cases l <;> rfl
theorem elimC_res {R Rf : Type} {K : Kt R Rf} {h : Shp} {l : List Alt} {q : resT Rf l} {z : cutT Rf h l} (hz : injR l q = some z) : elimC s K h l z = elimR s K l q := by
  cases l with
  | nil => cases hz
  | cons a l => injection hz with hz; subst hz; rfl
theorem altR_ok {R Rf : Type} {K : Kt R Rf} {y : R} : ∀ {l : List Alt} {f : Rf} {q : resT Rf l}, altR l f = some q → elimR s K l q = some y → K.rt f = some y
  | [], f, q, h, _ => by cases h
  | [.rt], f, q, h, h2 => by injection h with h; subst h; exact h2
  | [.ex _ _], f, q, h, _ => by cases h
  | .rt :: b :: l, f, q, h, h2 => by injection h with h; subst h; exact h2
  | .ex i hh :: b :: l, f, q, h, h2 => by
    simp only [altR, Option.map_eq_some_iff] at h
    obtain ⟨q', h3, rfl⟩ := h
    exact altR_ok (l := b :: l) h3 h2
theorem altX_ok {R Rf : Type} {K : Kt R Rf} {y : R} {s2 : Sy} {e2 : Env} {a2 : Act} {w2 : World} (J : Jn r s e a2 w2 s2 e2) {i : Nat} : ∀ {l : List Alt} {q : resT Rf l}, altX s i s2 l = some q → elimR s K l q = some y → ∃ h, ∃ p : Shp.T h, JoinS r s e h a2 w2 p ∧ insK s h p (K.ex i) = some y
  | [], q, h, _ => by cases h
  | [.rt], q, h, _ => by cases h
  | [.ex j hh], q, h, h2 => by
    simp only [altX] at h
    cases hb : Nat.beq i j with
    | false => rw [hb] at h; cases h
    | true =>
      rw [hb] at h
      have := beqs hb; subst this
      obtain ⟨p, h3, h4⟩ := wit_ok J h
      injection h3 with h3; subst h3
      exact ⟨hh, p, h4, h2⟩
  | .rt :: b :: l, q, h, h2 => by
    simp only [altX, Option.map_eq_some_iff] at h
    obtain ⟨q', h3, rfl⟩ := h
    exact altX_ok J (l := b :: l) h3 h2
  | .ex j hh :: b :: l, q, h, h2 => by
    simp only [altX] at h
    cases hb : Nat.beq i j with
    | true =>
      rw [hb] at h
      have := beqs hb; subst this
      obtain ⟨p, h3, h4⟩ := wit_ok J h
      injection h3 with h3; subst h3
      exact ⟨hh, p, h4, h2⟩
    | false =>
      rw [hb] at h
      simp only [cond_false, Option.map_eq_some_iff] at h
      obtain ⟨q', h3, rfl⟩ := h
      exact altX_ok J (l := b :: l) h3 h2
theorem optR_ok {α β : Type} {x : Option α} {f : α → Option β} {y : β} (h : optR x f = some y) : ∃ a, x = some a ∧ f a = some y := by
  cases x with
  | none => cases h
  | some a => exact ⟨a, rfl, h⟩
theorem ex_ok (hm : P.follows .mixedOrders = true) (hQ : GQ P G) (hn0 : F.n = r.n) (FS : F.R → Act → World → Prop)
    (hfin : ∀ {R : Type} {y : R} {k : F.R → Option R} {s : Sy} {e : Env} {a : Act} {w : World}, Ext sI s → Inv r e a w s → fini G F s k = some y → ∃ f, k f = some y ∧ FS f a w) :
    ∀ (t : Crt) {R : Type} (c : Code) (K : Kt R F.R) (s : Sy) (y : R) (e : Env) (a : Act) (w : World) (Q : Exit → Act → World → Prop), ex G F t c K s = some y → Ext sI s → Inv r e a w s →
      (∀ s' e' a' w', Ext s s' → Agr s.n e e' → K.nrm s' = some y → Inv r e' a' w' s' → Q .normal a' w') →
      (∀ i s' e' a' w', Ext s s' → Agr s.n e e' → K.ex i s' = some y → Inv r e' a' w' s' → Q (.exit i) a' w') →
      (∀ f a' w', K.rt f = some y → FS f a' w' → Q .ret a' w') → c.wp P Q a w := by
  intro t
  induction t with
  | z =>
    intro R c K s y e a w Q h hE I hn hx hr
    cases c with
    | skip => exact wp_skip (hn s e a w (.refl _) (Agr.refl _ _) h I)
    | label l => exact wp_label (hn s e a w (.refl _) (Agr.refl _ _) h I)
    | ret =>
      obtain ⟨f, h1, h2⟩ := hfin hE I h
      exact wp_ret (hr f a w h1 h2)
    | exit i => exact wp_exit (hx i s e a w (.refl _) (Agr.refl _ _) h I)
    | region id ops dr =>
      simp only [ex, hn0] at h
      exact reg_ok hm hQ I h hn
    | _ => simp [ex] at h
  | q t1 t2 ih1 ih2 =>
    intro R c K s y e a w Q h hE I hn hx hr
    cases c with
    | seq x1 x2 =>
      refine wp_seq (ih1 x1 ⟨fun s => ex G F t2 x2 K s, K.ex, K.rt⟩ s y e a w _ h hE I (fun s' e' a' w' E1 A1 h1 I1 => ?_) (fun i s' e' a' w' E1 A1 h1 I1 => hx i s' e' a' w' E1 A1 h1 I1) (fun f a' w' h1 h2 => hr f a' w' h1 h2))
      exact ih2 x2 K s' y e' a' w' Q h1 (hE.trans E1) I1 (fun s2 e2 a2 w2 E2 A2 => hn s2 e2 a2 w2 (E1.trans E2) (A1.trans (A2.le E1.n))) (fun i s2 e2 a2 w2 E2 A2 => hx i s2 e2 a2 w2 (E1.trans E2) (A1.trans (A2.le E1.n))) hr
    | cond o x1 x2 =>
      cases o with
      | tmp k =>
        simp only [ex] at h
        split at h
        · rename_i v hv
          have hd : DenS e s (.a v) (sl a k) := I.slot k _ hv
          obtain ⟨z, hz, hzk⟩ := hd.2
          have hden : z.den e = sl a k := by have := hd.1; simpa [SV1.den, hz] using this
          split at h
          · rename_i hdec
            have hb := dec_bv I.wf hz hdec
            refine wp_cond_true (ev_sl (by rw [← hden, bv_den hb])) ?_
            exact ih1 x1 K s y e a w Q h hE I hn hx hr
          · rename_i hdec
            have hb := dec_bv I.wf hz hdec
            refine wp_cond_false (ev_sl (by rw [← hden, bv_den hb])) ?_
            exact ih2 x2 K s y e a w Q h hE I hn hx hr
          · split at h
            · rename_i n _
              have hval : ∀ {q : Nat} {u v : Bool}, inn s.vs 5 n = some (q, u, v) → sl a k = .bool (beqB u v) ∧ lk s.vs q = some (.bool u) := by
                intro q u v hi
                obtain ⟨h1, h2⟩ := inn_ok I.wf hi
                rw [bo_bv hz] at h2
                exact ⟨by rw [← hden, bv_den h2], h1⟩
              have go1 : ∀ {q : Nat} {u : Bool}, lk s.vs q = some (.bool u) → ex G F t1 x1 K (kn1 s q u) = some y → x1.wp P Q a w := fun hq h =>
                ih1 x1 K (kn1 s _ _) y e a w Q h (hE.trans (ext_kn _ _ _)) (inv_kn I hq) (fun s2 e2 a2 w2 E2 A2 => hn s2 e2 a2 w2 ((ext_kn _ _ _).trans E2) A2) (fun i s2 e2 a2 w2 E2 A2 => hx i s2 e2 a2 w2 ((ext_kn _ _ _).trans E2) A2) hr
              have go2 : ∀ {q : Nat} {u : Bool}, lk s.vs q = some (.bool u) → ex G F t2 x2 K (kn1 s q u) = some y → x2.wp P Q a w := fun hq h =>
                ih2 x2 K (kn1 s _ _) y e a w Q h (hE.trans (ext_kn _ _ _)) (inv_kn I hq) (fun s2 e2 a2 w2 E2 A2 => hn s2 e2 a2 w2 ((ext_kn _ _ _).trans E2) A2) (fun i s2 e2 a2 w2 E2 A2 => hx i s2 e2 a2 w2 ((ext_kn _ _ _).trans E2) A2) hr
              split at h
              · rename_i q u hi
                obtain ⟨v1, v2⟩ := hval hi
                cases u with
                | true => exact wp_cond_true (ev_sl v1) (go1 v2 h)
                | false => exact wp_cond_false (ev_sl v1) (go2 v2 h)
              · rename_i q u hi
                obtain ⟨v1, v2⟩ := hval hi
                cases u with
                | true => exact wp_cond_false (ev_sl v1) (go2 v2 h)
                | false => exact wp_cond_true (ev_sl v1) (go1 v2 h)
              · cases h
            · cases h
        · cases h
      | _ => simp [ex] at h
    | _ => simp [ex] at h
  | b t1 ih =>
    intro R c K s y e a w Q h hE I hn hx hr
    cases c with
    | block i x =>
      refine wp_block (ih x ⟨K.nrm, fun j s => bif Nat.beq j i then K.nrm s else K.ex j s, K.rt⟩ s y e a w _ h hE I (fun s' e' a' w' E1 A1 h1 I1 => hn s' e' a' w' E1 A1 h1 I1) (fun j s' e' a' w' E1 A1 h1 I1 => ?_) (fun f a' w' h1 h2 => hr f a' w' h1 h2))
      cases hb : Nat.beq j i with
      | true =>
        have := beqs hb; subst this
        simp only [hb, cond_true] at h1
        exact in_hit (hn s' e' a' w' E1 A1 h1 I1)
      | false =>
        simp only [hb, cond_false] at h1
        exact in_miss hb (hx j s' e' a' w' E1 A1 h1 I1)
    | _ => simp [ex] at h
  | lp hh t1 ih =>
    intro R c K s y e a w Q h hE I hn hx hr
    cases c with
    | loop x =>
      simp only [ex] at h
      obtain ⟨p0, h1, h2⟩ := wit_ok (jn_self I (.refl s) (Agr.refl _ _) I) h
      refine loop_gw (fun m a' w' => ∃ p, itr (fun rec p => insK s hh p fun s1 => ex G F t1 x ⟨fun s2 => witK s s2 hh rec, K.ex, K.rt⟩ s1) m p = some y ∧ JoinS r s e hh a' w' p) FUEL ⟨p0, h1, h2⟩ ?_
      rintro m a1 w1 ⟨p, h3, h4⟩
      cases m with
      | zero => cases h3
      | succ m =>
        obtain ⟨s1, e1, h5, E1, A1, I1⟩ := insK_ok h4 h3
        refine ih x ⟨fun s2 => witK s s2 hh (itr (fun rec p => insK s hh p fun s1 => ex G F t1 x ⟨fun s2 => witK s s2 hh rec, K.ex, K.rt⟩ s1) m), K.ex, K.rt⟩ s1 y e1 a1 w1 _ h5 (hE.trans E1) I1 (fun s2 e2 a2 w2 E2 A2 h6 I2 => ?_) (fun i s2 e2 a2 w2 E2 A2 h6 I2 => hx i s2 e2 a2 w2 (E1.trans E2) (A1.trans (A2.le E1.n)) h6 I2) (fun f a2 w2 h6 h7 => hr f a2 w2 h6 h7)
        obtain ⟨p', h7, h8⟩ := wit_ok (jn_self I (E1.trans E2) (A1.trans (A2.le E1.n)) I2) h6
        exact ⟨m, Nat.lt_succ_self m, p', h7, h8⟩
    | _ => simp [ex] at h
  | cut hh l t1 ih =>
    intro R c K s y e a w Q h hE I hn hx hr
    have h : Option.bind (ex G F t1 c (innerK s hh l) s) (elimC s K hh l) = some y := by
      cases c <;> simpa only [ex] using h
    obtain ⟨z, h1, h2⟩ := bind_ex h
    refine ih c (innerK s hh l) s z e a w Q h1 hE I (fun s' e' a' w' E1 A1 h3 I1 => ?_) (fun i s' e' a' w' E1 A1 h3 I1 => ?_) (fun f a' w' h3 h4 => ?_)
    · obtain ⟨p, h4, h5⟩ := wit_ok (jn_self I E1 A1 I1) h3
      injection h4 with h4; subst h4
      rw [elimC_nrm] at h2
      obtain ⟨s2, e2, h6, E2, A2, I2⟩ := insK_ok h5 h2
      exact hn s2 e2 a' w' E2 A2 h6 I2
    · obtain ⟨q, h4, h5⟩ := optR_ok h3
      rw [elimC_res h5] at h2
      obtain ⟨h', p, h6, h7⟩ := altX_ok (jn_self I E1 A1 I1) h4 h2
      obtain ⟨s2, e2, h8, E2, A2, I2⟩ := insK_ok h6 h7
      exact hx i s2 e2 a' w' E2 A2 h8 I2
    · obtain ⟨q, h5, h6⟩ := optR_ok h3
      rw [elimC_res h6] at h2
      exact hr f a' w' (altR_ok h5 h2) h4
end
end Go.Proofs.YtjdlgannencchaaGreatDoor
namespace Go.Proofs.YtjdlgannencchaaGreatDoor
open Go.ChangeShapes Go.WideShapes Go.ChangeAt Go.RowKit
set_option linter.unusedVariables false
set_option linter.unusedSimpArgs false
structure Ini (r : Rn) (s : Sy) (i j : Nat) (args : List Value) (L : List Asn) (v0 : List PV) : Prop where
  wf : Wf r s
  ct : ∀ t c, lk s.ct t = some c → t < j
  jp : j < PB
  sl : ∀ k v, lk s.sl k = some v → k < i ∧ ∃ u, args[k]? = some u ∧ DenV r.e0 s v u
  th : ∃ L', ths r.e0 s.vs s.ct s.th = some L' ∧ L'.Perm L
  v0 : ∀ q k l, nth v0 q = some (.sl k l) → q < j → lk s.ct q = some ⟨k, l, q, none⟩
section
variable {r : Rn} {s s' : Sy} {L : List Asn} {args : List Value} {v0 : List PV}
theorem Ini.grow {i j : Nat} (I : Ini r s i j args L v0) (G : Gr2 r s s') (hc : s'.ct = s.ct) (hj : j + 1 < PB) (hv : ∀ k l, nth v0 j ≠ some (.sl k l)) : Ini r s' i (j + 1) args L v0 := by
  refine ⟨G.wf, fun t c h => ?_, hj, fun k v h => ?_, ?_, fun q k l hq hlt => ?_⟩
  · rw [hc] at h; exact Nat.lt_succ_of_lt (I.ct t c h)
  · rw [G.sl] at h; obtain ⟨a, u, b, c⟩ := I.sl k v h; exact ⟨a, u, b, c.mono G.ext⟩
  · obtain ⟨L', a, b⟩ := I.th; exact ⟨L', by rw [G.th]; exact ths_mono G.ext a, b⟩
  · rw [hc]
    rcases Nat.lt_or_ge q j with h | h
    · exact I.v0 q k l hq h
    · obtain rfl : q = j := by omega
      exact absurd hq (hv k l)
theorem iniA_ok {i j : Nat} {k : PK} {v : PV} (I : Ini r s i j args L v0) (hp : leafP r.w0 r.X r.e0 j k v) (hv : nth v0 j = some v) (hj : j + 1 < PB) : Ini r (iniA s j k v).1 i (j + 1) args (leafT r.e0 j k v ++ L) v0 ∧ Ext s (iniA s j k v).1 ∧ (iniA s j k v).1.sl = s.sl ∧ DenS r.e0 (iniA s j k v).1 (.a (iniA s j k v).2) (argV r.e0 j v) := by
  have one : ∀ {x : Lf} {u : Value}, notNb x = true → x.Ok s → x.den r.e0 = u → (∀ kk l, v ≠ .sl kk l) → Ini r (nw s x) i (j + 1) args L v0 ∧ Ext s (nw s x) ∧ (nw s x).sl = s.sl ∧ DenS r.e0 (nw s x) (.a (.t s.n)) u := by
    intro x u h1 h2 h3 h4
    obtain ⟨G, D⟩ := nw_den (e := r.e0) I.wf h1 h2 h3
    exact ⟨I.grow G rfl hj (fun kk l h => h4 kk l (by rw [hv] at h; injection h)), G.ext, rfl, D⟩
  cases k with
  | int k =>
    obtain ⟨k', x, rfl⟩ := hp
    exact one (x := .int k' x) rfl ⟨trivial, by simp [Lf.gs]⟩ rfl (fun _ _ => nofun)
  | b =>
    obtain ⟨x, rfl⟩ := hp
    exact one (x := .bool x) rfl ⟨trivial, by simp [Lf.gs]⟩ rfl (fun _ _ => nofun)
  | s =>
    obtain ⟨x, rfl⟩ := hp
    exact one (x := .str x) rfl ⟨trivial, by simp [Lf.gs]⟩ rfl (fun _ _ => nofun)
  | sl m E kk =>
    obtain ⟨l, rfl, hm⟩ := hp
    have hjn : j < s.n := Nat.lt_of_lt_of_le (Nat.lt_of_lt_of_le I.jp (by decide)) I.wf.np
    have hjP : j < NP := Nat.lt_of_lt_of_le I.jp (by decide)
    have hfr : ∀ t, t < j → t ≠ j := fun t h => by omega
    -- whatever the thing is
    have gen : ∀ (th : List (Nat × Th)) (ro : List (Nat × Nat)) (T : List Asn), (∀ p ∈ th, p ∈ s.th ∨ p.1 = j ∧ ((p.2 = .row E j) ∨ (p.2 = .kp j ∧ ∀ u, (r.e0.y j).holds u → Rc u kk.sz (r.e0.a j) l.length (r.e0.c j) (l.flatMap kk.enc)))) →
        (∀ g t, lk ro g = some t → lk s.ro g = some t ∨ (g = j ∧ t = j ∧ ∀ u L, St r.w0 u L → (∀ y ∈ r.X, y ∈ L) → Rc u kk.sz (r.e0.a j) l.length (r.e0.c j) (l.flatMap kk.enc))) →
        (∀ L' vs ct, lk ct j = some ⟨kk, l, j, none⟩ → ths r.e0 vs ct s.th = some L' → ∃ L2, ths r.e0 vs ct th = some L2 ∧ L2.Perm (T ++ L')) →
        let s2 : Sy := { s with n := s.n + 1, vs := (s.n, .sl j l.length j) :: s.vs, ct := (j, ⟨kk, l, j, none⟩) :: s.ct, th := th, ro := ro }
        Ini r s2 i (j + 1) args (T ++ L) v0 ∧ Ext s s2 ∧ s2.sl = s.sl ∧ DenS r.e0 s2 (.a (.t s.n)) (.slice (r.e0.a j) l.length (r.e0.c j)) := by
      intro th ro T hth hro hT s2
      have E1 : Ext s s2 := ⟨fun t x h => by rw [show s2.vs = (s.n, .sl j l.length j) :: s.vs from rfl, lk_ne (by have := I.wf.vn t x h; omega)]; exact h, fun t c h => by rw [show s2.ct = (j, ⟨kk, l, j, none⟩) :: s.ct from rfl, lk_ne (hfr t (I.ct t c h))]; exact h, by simp [s2]⟩
      have hcj : lk s2.ct j = some ⟨kk, l, j, none⟩ := lk_same
      have W : Wf r s2 := by
        refine ⟨fun t x h => ?_, fun t c h => ?_, fun t m x h => ?_, fun t c h => ?_, fun t c h l0 it y0 hs => ?_, fun p hp => ?_, fun g ct hp => ?_, fun g t h => ?_, fun t b h => ?_, Nat.le_trans I.wf.np E1.n⟩
        · rcases lk_cons_or h with ⟨rfl, rfl⟩ | h
          · simp [s2]
          · exact Nat.lt_of_lt_of_le (I.wf.vn t x h) E1.n
        · rcases lk_cons_or h with ⟨rfl, rfl⟩ | h
          · exact Nat.lt_of_lt_of_le hjn E1.n
          · exact Nat.lt_of_lt_of_le (I.wf.cn t c h) E1.n
        · rcases lk_cons_or h with ⟨rfl, hx⟩ | h
          · cases hx
          · exact E1.bo (I.wf.nb t m x h)
        · rcases lk_cons_or h with ⟨rfl, rfl⟩ | h
          · exact ⟨_, hcj, rfl, rfl⟩
          · obtain ⟨d, a, b⟩ := I.wf.rt t c h; exact ⟨d, E1.c _ _ a, b⟩
        · rcases lk_cons_or h with ⟨rfl, rfl⟩ | h
          · cases hs
          · obtain ⟨k, ix, a, b⟩ := I.wf.si t c h l0 it y0 hs; exact ⟨k, ix, E1.v _ _ a, b⟩
        · rcases hth p hp with h | ⟨h1, h2⟩
          · exact ⟨Nat.lt_of_lt_of_le (I.wf.th p h).1 E1.n, (I.wf.th p h).2.mono E1⟩
          · refine ⟨by rw [h1]; exact Nat.lt_of_lt_of_le hjn E1.n, ?_⟩
            rcases h2 with h2 | ⟨h2, _⟩ <;> rw [h2] <;> trivial
        · rcases hth _ hp with h | ⟨h1, h2⟩
          · obtain ⟨a, c, b, d⟩ := I.wf.kp g ct h; exact ⟨a, c, E1.c _ _ b, d⟩
          · dsimp only at h1 h2
            subst h1
            rcases h2 with h2 | ⟨h2, h3⟩
            · cases h2
            · injection h2 with h2; subst h2
              exact ⟨hjP, _, hcj, h3⟩
        · rcases hro g t h with h | ⟨rfl, rfl, h3⟩
          · obtain ⟨a, c, b, d⟩ := I.wf.ro g t h; exact ⟨a, c, E1.c _ _ b, d⟩
          · exact ⟨hjP, _, hcj, h3⟩
        · exact E1.v _ _ (I.wf.kn t b h)
      refine ⟨⟨W, fun t c h => ?_, hj, fun k v h => ?_, ?_, fun q k l' hq hlt => ?_⟩, E1, rfl, ⟨?_, .sl j l.length j, lk_same, ⟨_, hcj, rfl⟩, fun g hg => ?_⟩⟩
      · rcases lk_cons_or h with ⟨rfl, rfl⟩ | h
        · exact Nat.lt_succ_self _
        · exact Nat.lt_succ_of_lt (I.ct t c h)
      · obtain ⟨a, u, b, c⟩ := I.sl k v h; exact ⟨a, u, b, c.mono E1⟩
      · obtain ⟨L', a, b⟩ := I.th
        obtain ⟨L2, c, d⟩ := hT L' s2.vs s2.ct hcj (ths_mono E1 a)
        exact ⟨L2, c, d.trans (b.append_left T)⟩
      · rcases Nat.lt_or_ge q j with h | h
        · exact E1.c _ _ (I.v0 q k l' hq h)
        · obtain rfl : q = j := by omega
          rw [hv] at hq; injection hq with hq; injection hq with hq1 hq2; subst hq1; subst hq2
          exact hcj
      · have : lk s2.vs s.n = some (.sl j l.length j) := lk_same
        simp only [SV1.den, Ax.lf, this, Option.map_some, Lf.den]
      · simp [Lf.gs] at hg; subst hg; exact Nat.lt_of_lt_of_le hjn E1.n
    have rowc : ∀ L' vs ct, lk ct j = some ⟨kk, l, j, none⟩ → ths r.e0 vs ct s.th = some L' → ∃ L2, ths r.e0 vs ct ((j, Th.row E j) :: s.th) = some L2 ∧ L2.Perm ([rowA r.e0 j E kk l] ++ L') := by
      intro L' vs ct h1 h2
      refine ⟨rowA r.e0 j E kk l :: L', ?_, List.Perm.refl _⟩
      have : Th.den r.e0 vs ct j (.row E j) = some (rowA r.e0 j E kk l) := by simp only [Th.den, h1, Option.map_some]; rfl
      simp only [ths, this, h2]
    cases m with
    | ro => exact gen s.th ((j, j) :: s.ro) [] (fun p hp => .inl hp) (fun g t h => by
        rcases lk_cons_or h with ⟨rfl, rfl⟩ | h
        · exact .inr ⟨rfl, rfl, hm⟩
        · exact .inl h) (fun L' vs ct _ h => ⟨L', h, List.Perm.refl _⟩)
    | kp => exact gen ((j, .kp j) :: s.th) s.ro [r.e0.y j] (fun p hp => by
        rcases List.mem_cons.1 hp with rfl | hp
        · exact .inr ⟨rfl, .inr ⟨rfl, hm⟩⟩
        · exact .inl hp) (fun g t h => .inl h) (fun L' vs ct _ h => ⟨r.e0.y j :: L', by simp only [ths, Th.den, h], List.Perm.refl _⟩)
    | mu => exact gen ((j, .row E j) :: s.th) s.ro [rowA r.e0 j E kk l] (fun p hp => by
        rcases List.mem_cons.1 hp with rfl | hp
        · exact .inr ⟨rfl, .inl rfl⟩
        · exact .inl hp) (fun g t h => .inl h) rowc
    | tk => exact gen ((j, .row E j) :: s.th) s.ro [rowA r.e0 j E kk l] (fun p hp => by
        rcases List.mem_cons.1 hp with rfl | hp
        · exact .inr ⟨rfl, .inl rfl⟩
        · exact .inl hp) (fun g t h => .inl h) rowc
theorem iniAs_ok : ∀ {ks : List PK} {vs : List PV} {s : Sy} {i j : Nat} {L : List Asn}, Ini r s i j args L v0 → leafPs r.w0 r.X r.e0 j ks vs → (∀ q v, nth vs q = some v → nth v0 (j + q) = some v) → j + ks.length < PB →
    ∃ L', L'.Perm (leafTs r.e0 j ks vs ++ L) ∧ Ini r (iniAs s j ks vs).1 i (j + ks.length) args L' v0 ∧ Ext s (iniAs s j ks vs).1 ∧ (iniAs s j ks vs).1.sl = s.sl ∧ DenS r.e0 (iniAs s j ks vs).1 (.g (iniAs s j ks vs).2) (.agg (argVs r.e0 j vs).toArray) ∧ vs.length = ks.length
  | [], vs, s, i, j, L, I, hp, hv, hj => by
    have : vs = [] := hp
    subst this
    exact ⟨L, List.Perm.refl _, I, .refl _, rfl, den_nil, rfl⟩
  | k :: ks, vs, s, i, j, L, I, hp, hv, hj => by
    obtain ⟨v, vr, rfl, h1, h2⟩ := hp
    simp only [List.length_cons] at hj
    obtain ⟨a1, a2, a3, a4⟩ := iniA_ok I h1 (hv 0 v rfl) (by omega)
    obtain ⟨L', b0, b1, b2, b3, b4, b5⟩ := iniAs_ok a1 h2 (fun q v' hq => by have := hv (q + 1) v' hq; rwa [show j + (q + 1) = j + 1 + q by omega] at this) (by omega)
    have e0 : iniAs s j (k :: ks) (v :: vr) = ((iniAs (iniA s j k v).1 (j + 1) ks vr).1, (iniA s j k v).2 :: (iniAs (iniA s j k v).1 (j + 1) ks vr).2) := rfl
    rw [e0]
    refine ⟨L', ?_, by rw [List.length_cons, show j + (ks.length + 1) = j + 1 + ks.length by omega]; exact b1, a2.trans b2, b3.trans a3, den_cons (a4.mono b2) b4, by simp [b5]⟩
    refine b0.trans ?_
    simp only [leafTs]
    rw [← List.append_assoc]
    exact (List.perm_append_comm).append_right _
theorem leafPs_split {w0 : World} {X : List Asn} {e1 : Env} : ∀ {ks ks' : List PK} {vs : List PV} {j : Nat}, leafPs w0 X e1 j (ks ++ ks') vs → ∃ v vr, vs = v ++ vr ∧ leafPs w0 X e1 j ks v ∧ leafPs w0 X e1 (j + ks.length) ks' vr
  | [], ks', vs, j, h => ⟨[], vs, rfl, rfl, h⟩
  | k :: ks, ks', vs, j, h => by
    obtain ⟨v, r, rfl, h1, h2⟩ := h
    obtain ⟨v', r', rfl, h3, h4⟩ := leafPs_split h2
    exact ⟨v :: v', r', rfl, ⟨v, v', rfl, h1, h3⟩, by rw [List.length_cons, show j + (ks.length + 1) = j + 1 + ks.length by omega]; exact h4⟩
theorem leafPs_len {w0 : World} {X : List Asn} {e1 : Env} : ∀ {ks : List PK} {vs : List PV} {j : Nat}, leafPs w0 X e1 j ks vs → vs.length = ks.length
  | [], vs, j, h => by rw [show vs = [] from h]; rfl
  | k :: ks, vs, j, h => by obtain ⟨v, r, rfl, _, h2⟩ := h; simp [leafPs_len h2]
theorem Ini.slot {i j : Nat} (I : Ini r s i j args L v0) {v : SV} {u : Value} (hu : args[i]? = some u) (hd : DenV r.e0 s v u) : Ini r (comm s (some i) v) (i + 1) j args L v0 := by
  have E := ext_comm s (some i) v
  refine ⟨wf_comm I.wf _ _, I.ct, I.jp, fun k v' h => ?_, by obtain ⟨L', a, b⟩ := I.th; exact ⟨L', ths_mono E a, b⟩, I.v0⟩
  rcases lk_cons_or h with ⟨rfl, rfl⟩ | h
  · exact ⟨Nat.lt_succ_self _, u, hu, hd.mono E⟩
  · obtain ⟨a, u', b, c⟩ := I.sl k v' h; exact ⟨Nat.lt_succ_of_lt a, u', b, c.mono E⟩
theorem Ini.perm {i j : Nat} {L2 : List Asn} (I : Ini r s i j args L v0) (h : L.Perm L2) : Ini r s i j args L2 v0 := ⟨I.wf, I.ct, I.jp, I.sl, by obtain ⟨L', a, b⟩ := I.th; exact ⟨L', a, b.trans h⟩, I.v0⟩
theorem iniP_ok : ∀ {ps : List Prm} {vs : List PV} {s : Sy} {i j : Nat} {L : List Asn}, Ini r s i j args L v0 → leafPs r.w0 r.X r.e0 j (pks ps) vs → (∀ q v, nth vs q = some v → nth v0 (j + q) = some v) → j + (pks ps).length < PB → i + ps.length ≤ PB → (∀ q u, (argsOf r.e0 i j ps vs)[q]? = some u → args[i + q]? = some u) →
    ∃ L', L'.Perm (thingsOf r.e0 i j ps vs ++ L) ∧ Ini r (iniP s i j ps vs) (i + ps.length) (j + (pks ps).length) args L' v0
  | [], vs, s, i, j, L, I, hp, hv, hj, hi, ha => ⟨L, List.Perm.refl _, by simpa [iniP, pks] using I⟩
  | p :: ps, vs, s, i, j, L, I, hp, hv, hj, hi, ha => by
    have hpk : pks (p :: ps) = p.ks ++ pks ps := by simp [pks]
    rw [hpk] at hp hj
    simp only [List.length_append] at hj
    simp only [List.length_cons] at hi
    obtain ⟨v, vr, rfl, h1, h2⟩ := leafPs_split hp
    have hl := leafPs_len h1
    obtain ⟨L1, b0, b1, b2, b3, b4, b5⟩ := iniAs_ok I h1 (fun q x hq => hv q x (nth_appl hq)) (by omega)
    have hv2 : ∀ q x, nth vr q = some x → nth v0 (j + p.ks.length + q) = some x := fun q x hq => by
      have := hv (p.ks.length + q) x (by rw [← hl, nth_app]; exact hq)
      rwa [← Nat.add_assoc] at this
    have fin : ∀ {s2 : Sy} {L2 : List Asn} {T : List Asn} {u : Value}, Ini r s2 (i + 1) (j + p.ks.length) args L2 v0 → L2.Perm (T ++ L) → argsOf r.e0 i j (p :: ps) (v ++ vr) = u :: argsOf r.e0 (i + 1) (j + p.ks.length) ps vr → thingsOf r.e0 i j (p :: ps) (v ++ vr) = T ++ thingsOf r.e0 (i + 1) (j + p.ks.length) ps vr → iniP s i j (p :: ps) (v ++ vr) = iniP s2 (i + 1) (j + p.ks.length) ps vr →
        ∃ L', L'.Perm (thingsOf r.e0 i j (p :: ps) (v ++ vr) ++ L) ∧ Ini r (iniP s i j (p :: ps) (v ++ vr)) (i + (p :: ps).length) (j + (pks (p :: ps)).length) args L' v0 := by
      intro s2 L2 T u I2 hL2 hargs hth hini
      obtain ⟨L', c1, c2⟩ := iniP_ok I2 h2 hv2 (by omega) (by omega) (fun q u' hq => by
        have := ha (q + 1) u' (by rw [hargs]; simpa using hq)
        rwa [show i + (q + 1) = i + 1 + q by omega] at this)
      refine ⟨L', ?_, ?_⟩
      · rw [hth]
        refine c1.trans ((hL2.append_left _).trans ?_)
        rw [← List.append_assoc]
        exact (List.perm_append_comm).append_right _
      · rw [hini, hpk, List.length_append, List.length_cons, show i + (ps.length + 1) = i + 1 + ps.length by omega, ← Nat.add_assoc]
        exact c2
    have hu0 : ∀ {u : Value} {tl : List Value}, argsOf r.e0 i j (p :: ps) (v ++ vr) = u :: tl → args[i]? = some u := fun h => by
      have := ha 0 _ (by rw [h]; rfl)
      simpa using this
    have ht : (v ++ vr).take p.ks.length = v := by rw [← hl]; simp
    have hdr : (v ++ vr).drop p.ks.length = vr := by rw [← hl]; simp
    cases p with
    | o k =>
      have hv1 : ∃ x, v = [x] := by
        cases v with
        | nil => simp [Prm.ks] at hl
        | cons x v => cases v with
          | nil => exact ⟨x, rfl⟩
          | cons => simp [Prm.ks] at hl
      obtain ⟨x, rfl⟩ := hv1
      have hxs : ∃ y, (iniAs s j [k] [x]).2 = [y] := ⟨_, rfl⟩
      obtain ⟨y, hy⟩ := hxs
      have hargs : argsOf r.e0 i j (.o k :: ps) ([x] ++ vr) = argV r.e0 j x :: argsOf r.e0 (i + 1) (j + 1) ps vr := rfl
      have d1 : DenS r.e0 (iniAs s j [k] [x]).1 (.a y) (argV r.e0 j x) := by
        obtain ⟨z, zr, he, q1, _⟩ := den_uncons (show DenS r.e0 (iniAs s j [k] [x]).1 (.g [y]) (.agg (argV r.e0 j x :: []).toArray) by rw [← hy]; exact b4)
        injection he with he _; subst he; exact q1
      exact fin (T := leafTs r.e0 j [k] [x]) (b1.slot (v := .v (.a y)) (hu0 hargs) d1) b0 hargs rfl (by
        have e1 : iniP s i j (.o k :: ps) ([x] ++ vr) = iniP (comm (iniAs s j [k] [x]).1 (some i) (.v (match (iniAs s j [k] [x]).2 with | x :: _ => .a x | [] => .g []))) (i + 1) (j + 1) ps vr := rfl
        rw [e1, hy]; rfl)
    | g ks =>
      have ht : (v ++ vr).take ks.length = v := ht
      have hdr : (v ++ vr).drop ks.length = vr := hdr
      have hargs : argsOf r.e0 i j (.g ks :: ps) (v ++ vr) = .agg (argVs r.e0 j v).toArray :: argsOf r.e0 (i + 1) (j + ks.length) ps vr := by simp only [argsOf, ht, hdr]
      exact fin (T := leafTs r.e0 j ks v) (b1.slot (v := .v (.g (iniAs s j ks v).2)) (hu0 hargs) b4) b0 hargs (by simp only [thingsOf, Prm.ks, ht, hdr]) (by simp only [iniP, ht, hdr]; rfl)
    | bx T ks =>
      have ht : (v ++ vr).take ks.length = v := ht
      have hdr : (v ++ vr).drop ks.length = vr := hdr
      have hargs : argsOf r.e0 i j (.bx T ks :: ps) (v ++ vr) = .pointer (some ⟨r.e0.b (PB + i), 0, none⟩) :: argsOf r.e0 (i + 1) (j + ks.length) ps vr := by simp only [argsOf, hdr]
      let s1 := (iniAs s j ks v).1
      let s2 : Sy := { s1 with n := s1.n + 1, vs := (s1.n, .pt (PB + i) 0) :: s1.vs, th := (PB + i, .box T (iniAs s j ks v).2) :: s1.th }
      have hbn : PB + i < s1.n := Nat.lt_of_lt_of_le (show PB + i < NP by unfold PB NP at *; omega) b1.wf.np
      have E2 : Ext s1 s2 := ext_lt b1.wf (fun t h => lk_ne (by omega)) (fun t h => rfl) (by simp [s2])
      have b4 : DenS r.e0 s1 (.g (iniAs s j ks v).2) (.agg (argVs r.e0 j v).toArray) := b4
      have b1 : Ini r s1 i (j + ks.length) args L1 v0 := b1
      have W : Wf r s2 := b1.wf.grow E2 (fun t x h => by
        rcases lk_cons_or h with ⟨rfl, rfl⟩ | h
        · exact .inr ⟨by simp [s2], nofun⟩
        · exact .inl h) (fun t c h => .inl h) (fun p hp => by
        rcases List.mem_cons.1 hp with rfl | hp
        · exact .inr ⟨Nat.lt_of_lt_of_le hbn E2.n, fun x hx => (b4.2 x hx).mono E2, nofun⟩
        · exact .inl hp) rfl (fun t b h => .inl h)
      have hden : Th.den r.e0 s2.vs s2.ct (PB + i) (.box T (iniAs s j ks v).2) = some (.box (r.e0.b (PB + i)) T (argVs r.e0 j v).toArray) := by
        have := b4.1
        simp only [SV1.den, Option.map_eq_some_iff, Value.agg.injEq] at this
        obtain ⟨ls, l1, l2⟩ := this
        simp only [Th.den, E2.lfs l1, Option.map_some, l2]
      have I2 : Ini r s2 i (j + ks.length) args (.box (r.e0.b (PB + i)) T (argVs r.e0 j v).toArray :: L1) v0 := by
        refine ⟨W, b1.ct, b1.jp, fun k v' h => ?_, ?_, b1.v0⟩
        · obtain ⟨a, u, b, c⟩ := b1.sl k v' h; exact ⟨a, u, b, c.mono E2⟩
        · obtain ⟨L', a, b⟩ := b1.th
          exact ⟨_ :: L', ths_cons.2 ⟨_, L', hden, ths_mono E2 a, rfl⟩, b.cons _⟩
      have d2 : DenS r.e0 s2 (.a (.t s1.n)) (.pointer (some ⟨r.e0.b (PB + i), 0, none⟩)) := by
        refine ⟨?_, .pt (PB + i) 0, lk_same, trivial, fun g hg => ?_⟩
        · have : lk s2.vs s1.n = some (.pt (PB + i) 0) := lk_same
          simp only [SV1.den, Ax.lf, this, Option.map_some, Lf.den]
        · simp [Lf.gs] at hg; subst hg; exact Nat.lt_of_lt_of_le hbn E2.n
      exact fin (T := .box (r.e0.b (PB + i)) T (argVs r.e0 j v).toArray :: leafTs r.e0 j ks v) (I2.slot (v := .v (.a (.t s1.n))) (hu0 hargs) d2) (b0.cons _) hargs (by simp only [thingsOf, ht, hdr]; rfl) (by simp only [iniP, ht, hdr]; rfl)
end
end Go.Proofs.YtjdlgannencchaaGreatDoor
namespace Go.Proofs.YtjdlgannencchaaGreatDoor
open Go.ChangeShapes Go.WideShapes Go.ChangeAt Go.RowKit
set_option linter.unusedVariables false
set_option linter.unusedSimpArgs false
structure Ou (P : Program) (G : Cx) (r : Rn) (sI s : Sy) (e : Env) (a : Act) (w : World) (v0 : List PV) : Prop where
  g : GP P G
  I : Inv r e a w s
  E : Ext sI s
  pv : ∀ q k l, nth v0 q = some (.sl k l) → lk sI.ct q = some ⟨k, l, q, none⟩
  lt : v0.length < PB
section
variable {P : Program} {G : Cx} {r : Rn} {sI s : Sy} {e : Env} {a : Act} {w : World} {v0 : List PV} (O : Ou P G r sI s e a w v0)
include O
theorem Ou.par {j n rt : Nat} {k : EK} {l : List k.ty} (hv : nth v0 j = some (.sl k l)) (hk : (Lf.sl j n rt).Ok s) (hrt : rt = j) : (Lf.sl j n rt).den e = argV r.e0 j (.sl k l) := by
  subst hrt
  have hj : rt < NP := Nat.lt_of_lt_of_le (nth_lt hv) (Nat.le_trans (Nat.le_of_lt O.lt) (show PB ≤ NP by decide))
  obtain ⟨c, c1, c2⟩ := hk.1
  rw [O.E.c _ _ (O.pv _ _ _ hv)] at c1
  injection c1 with c1; subst c1
  have := O.I.par rt hj
  simp only [Lf.den, argV, this.2.1, this.2.2.1, c2]
theorem Ou.outA {k : RK} {x : Ax} {v : PV} {ids : List (Option Nat)} {u : Value} (h : outA s k x = some (v, ids)) (hd : DenS e s (.a x) u) (hal : ∀ j, k = .al j → ∃ kk l, nth v0 j = some (.sl kk l)) : ∃ A0 A, k.res r.e0 (nlen v0) v u A ∧ IdsA s e ids A0 ∧ Wkns A0 A := by
  obtain ⟨y, hy, hk⟩ := hd.2
  have hu : y.den e = u := by have := hd.1; simpa [SV1.den, hy] using this
  cases k with
  | int k =>
    simp only [Go.Proofs.YtjdlgannencchaaGreatDoor.outA, hy] at h
    split at h
    · rename_i k' v hh
      injection h with h; injection h with h1 h2; subst h1; subst h2
      injection hh with hh; subst hh
      exact ⟨[], [], ⟨_, _, rfl, hu.symm, rfl⟩, rfl, rfl⟩
    · cases h
  | b =>
    simp only [Go.Proofs.YtjdlgannencchaaGreatDoor.outA, hy] at h
    split at h
    · rename_i b hb
      injection h with h; injection h with h1 h2; subst h1; subst h2
      exact ⟨[], [], ⟨_, rfl, by rw [← hu, bv_den hb], rfl⟩, rfl, rfl⟩
    · cases h
  | s =>
    simp only [Go.Proofs.YtjdlgannencchaaGreatDoor.outA, hy] at h
    split at h
    · rename_i v hh
      injection h with h; injection h with h1 h2; subst h1; subst h2
      injection hh with hh; subst hh
      exact ⟨[], [], ⟨_, rfl, hu.symm, rfl⟩, rfl, rfl⟩
    · cases h
  | al j =>
    simp only [Go.Proofs.YtjdlgannencchaaGreatDoor.outA, hy] at h
    split at h
    · rename_i hh
      injection h with h; injection h with h1 h2; subst h1; subst h2
      injection hh with hh; subst hh
      exact ⟨[], [], ⟨false, rfl, hu.symm, rfl⟩, rfl, rfl⟩
    · rename_i g n rt hh
      cases hb : (Nat.beq g j && Nat.beq rt j) with
      | false => rw [hb] at h; cases h
      | true =>
        rw [hb] at h
        injection h with h; injection h with h1 h2; subst h1; subst h2
        injection hh with hh; subst hh
        simp only [Bool.and_eq_true] at hb
        have e1 := beqs hb.1; have e2 := beqs hb.2
        subst e1
        obtain ⟨kk, l, hv⟩ := hal g rfl
        have := O.par hv hk e2
        rw [hu] at this
        refine ⟨[], [], ⟨true, rfl, ?_, rfl⟩, rfl, rfl⟩
        rw [this]
        simp only [argV, ifA, ifN, cond_true, nlen, hv]
    · cases h
  | row E k =>
    simp only [Go.Proofs.YtjdlgannencchaaGreatDoor.outA, hy] at h
    split at h
    · rename_i hh
      injection h with h; injection h with h1 h2; subst h1; subst h2
      injection hh with hh; subst hh
      exact ⟨_, [.row E k.sz (.slice none 0 0) 0 []], ⟨[], none, 0, rfl, hu.symm, by rw [← hu]; rfl⟩, ⟨_, [], rfl, ⟨E, k.sz, .inl rfl⟩, rfl⟩, Wkns.refl _⟩
    · rename_i g n rt hh
      injection hh with hh; subst hh
      split at h
      · rename_i ct l hth hl
        injection h with h; injection h with h1 h2; subst h1; subst h2
        obtain ⟨ct', c, q1, q2, q3, q4, q5, q6⟩ := sl_val O.I.wf hk hl
        have hth := thRow_ok hth
        obtain ⟨ck, cl, crt, csi⟩ := c
        dsimp only at q3; subst q3; dsimp only at q4; subst q4
        simp only [rdc, hth, Option.some.injEq] at q1
        subst q1
        subst q6
        exact ⟨_, [.row E ck.sz u cl.length (cl.flatMap ck.enc)], ⟨cl, e.a g, e.c g, rfl, hu.symm, rfl⟩, ⟨_, [], _, rfl, hth, ⟨_, by simp only [Th.den, q2, Option.map_some]; rw [← hu]; rfl, Wkn.refl _⟩, rfl⟩, Wkns.refl _⟩
      · cases h
    · rename_i g ct sz n lo hi pre hh
      injection hh with hh; subst hh
      split at h
      · rename_i ct1 l hth hl
        injection h with h; injection h with h1 h2; subst h1; subst h2
        obtain ⟨a1, a2⟩ := vw_sub hk (thRow_ok hth) hl hu
        exact ⟨_, [.row E k.sz u l.length (l.flatMap k.enc)], ⟨l, _, _, rfl, a1, rfl⟩, ⟨_, [], _, rfl, thRow_ok hth, a2, rfl⟩, Wkns.refl _⟩
      · cases h
    · rename_i g n rt hh
      injection hh with hh; subst hh
      split at h
      · rename_i ct1 l hth hl
        injection h with h; injection h with h1 h2; subst h1; subst h2
        obtain ⟨ct', c, q1, q2, q3, q4, q5, q6⟩ := sl_val (n := n) (rt := rt) O.I.wf hk hl
        have hth := thRow_ok hth
        obtain ⟨ck, cl, crt, csi⟩ := c
        dsimp only at q3; subst q3; dsimp only at q4; subst q4
        simp only [rdc, hth, Option.some.injEq] at q1
        subst q1
        subst q6
        refine ⟨_, [.row E ck.sz u cl.length (cl.flatMap ck.enc)], ⟨cl, _, _, rfl, hu.symm, rfl⟩, ⟨_, [], _, rfl, hth, ⟨_, by simp only [Th.den, q2, Option.map_some]; rfl, ?_⟩, rfl⟩, Wkns.refl _⟩
        rw [← hu]
        cases cl with
        | nil => exact Wkn.nil
        | cons x cl => exact Wkn.refl _
      · cases h
    · cases h
  | part k =>
    simp only [Go.Proofs.YtjdlgannencchaaGreatDoor.outA, hy] at h
    split at h
    · rename_i hh
      injection h with h; injection h with h1 h2; subst h1; subst h2
      injection hh with hh; subst hh
      exact ⟨_, [.part k.sz (.slice none 0 0) 0 []], ⟨[], none, 0, rfl, hu.symm, by rw [← hu]; rfl⟩, ⟨_, [], rfl, ⟨0, k.sz, .inr rfl⟩, rfl⟩, Wkns.refl _⟩
    · rename_i g n rt hh
      injection hh with hh; subst hh
      have fin : ∀ {l : List k.ty} {x : Th} {ct : Nat}, rdl s k (.sl g n rt) = some l → lk s.th g = some x → ((∃ E, x = .row E ct) ∨ x = .part ct) → v = .sl k l → ids = [some g] → ∃ A0 A, (RK.part k).res r.e0 (nlen v0) v u A ∧ IdsA s e ids A0 ∧ Wkns A0 A := by
        rintro l x ct hl hth hx rfl rfl
        obtain ⟨ct', c, q1, q2, q3, q4, q5, q6⟩ := sl_val O.I.wf hk hl
        obtain ⟨ck, cl, crt, csi⟩ := c
        dsimp only at q3; subst q3; dsimp only at q4; subst q4
        subst q6
        rcases hx with ⟨E, rfl⟩ | rfl
        · simp only [rdc, hth, Option.some.injEq] at q1
          subst q1
          exact ⟨[.row E ck.sz u cl.length (cl.flatMap ck.enc)], [.part ck.sz u cl.length (cl.flatMap ck.enc)], ⟨cl, e.a g, e.c g, rfl, hu.symm, rfl⟩, ⟨_, [], _, rfl, hth, ⟨_, by simp only [Th.den, q2, Option.map_some]; rw [← hu]; rfl, Wkn.refl _⟩, rfl⟩, ⟨_, [], rfl, Wkn.part, rfl⟩⟩
        · simp only [rdc, hth, Option.some.injEq] at q1
          subst q1
          exact ⟨_, [.part ck.sz u cl.length (cl.flatMap ck.enc)], ⟨cl, e.a g, e.c g, rfl, hu.symm, rfl⟩, ⟨_, [], _, rfl, hth, ⟨_, by simp only [Th.den, q2, Option.map_some]; rw [← hu]; rfl, Wkn.refl _⟩, rfl⟩, Wkns.refl _⟩
      split at h
      · rename_i hth hl
        injection h with h; injection h with h1 h2
        exact fin hl hth (.inl ⟨_, rfl⟩) h1.symm h2.symm
      · rename_i hth hl
        injection h with h; injection h with h1 h2
        exact fin hl hth (.inr rfl) h1.symm h2.symm
      · cases h
    · cases h
def AlP (v0 : List PV) (k : RK) : Prop := ∀ j, k = .al j → ∃ kk l, nth v0 j = some (.sl kk l)
theorem Ou.outAs : ∀ {ks : List RK} {xs : List Ax} {vs : List PV} {ids : List (Option Nat)} {us : List Value}, outAs s ks xs = some (vs, ids) → DenS e s (.g xs) (.agg us.toArray) → (∀ k ∈ ks, AlP v0 k) → ∃ A0 A, resL r.e0 (nlen v0) ks vs us A ∧ IdsA s e ids A0 ∧ Wkns A0 A
  | [], [], vs, ids, us, h, hd, _ => by
    injection h with h; injection h with h1 h2; subst h1; subst h2
    have hu : us = [] := by have := hd.1; simp [SV1.den, lfs] at this; exact this
    subst hu
    exact ⟨[], [], ⟨rfl, rfl, rfl⟩, rfl, rfl⟩
  | [], _ :: _, vs, ids, us, h, _, _ => by cases h
  | _ :: _, [], vs, ids, us, h, _, _ => by cases h
  | k :: ks, x :: xs, vs, ids, us, h, hd, hal => by
    simp only [Go.Proofs.YtjdlgannencchaaGreatDoor.outAs] at h
    split at h
    · rename_i v t vs' ts h1 h2
      injection h with h; injection h with h3 h4; subst h3; subst h4
      have hus : ∃ u ur, us = u :: ur := by
        have := hd.1
        simp only [SV1.den, Option.map_eq_some_iff, Value.agg.injEq] at this
        obtain ⟨ls, q1, q2⟩ := this
        obtain ⟨z, q, _, _, rfl⟩ := lfs_cons.1 q1
        have : List.map (Lf.den e) (z :: q) = us := by simpa using q2
        exact ⟨_, _, this.symm⟩
      obtain ⟨u, ur, rfl⟩ := hus
      obtain ⟨x', xr, he, hx, hxr⟩ := den_uncons hd
      injection he with e1 e2; subst e1; subst e2
      obtain ⟨A0, A, a1, a2, a3⟩ := O.outA h1 hx (hal k (by simp))
      obtain ⟨B0, B, b1, b2, b3⟩ := Ou.outAs h2 hxr fun k' hk' => hal k' (by simp [hk'])
      exact ⟨A0 ++ B0, A ++ B, ⟨v, vs', u, ur, A, B, rfl, rfl, rfl, a1, b1⟩, a2.app b2, a3.app b3⟩
    · cases h
theorem Ou.rvA {rv : ResultVar} {x : SV1} (h : rvA G s rv = some x) : ∃ u, (resV a rv).run P w = .ok u w ∧ DenS e s x u := by
  cases rv with
  | tmp k =>
    simp only [Go.Proofs.YtjdlgannencchaaGreatDoor.rvA] at h
    split at h
    · rename_i y hy
      injection h with h; subst h
      exact ⟨sl a k, res_tmp (ev_sl rfl), O.I.slot k _ hy⟩
    · cases h
  | cell k T =>
    simp only [Go.Proofs.YtjdlgannencchaaGreatDoor.rvA] at h
    split at h
    · rename_i z i hz hT
      split at h
      · rename_i g off hx
        split at h
        · rename_i T' cs hg
          have M := O.I.mem g
          obtain ⟨l, h4, h5⟩ := M.bk _ _ hg
          have hlen := lfs_len h4
          have ht := O.g.ty hT
          have hcs := (O.I.wf.th _ (lk_mem hg)).2
          have hp : a.eval (.tmp k) = .pointer (some ⟨e.b g, off, none⟩) := by
            have := (O.I.slot k _ hz).1
            simp only [SV1.den, hx, Option.map_some, Option.some.injEq] at this
            exact ev_sl this.symm
          cases ha : agT i.d with
          | true =>
            rw [ha] at h
            simp only [cond_true] at h
            cases hb : Nat.ble (off + i.sz) cs.length with
            | false => rw [hb] at h; cases h
            | true =>
              rw [hb] at h
              injection h with h; subst h
              have hle : off + i.sz ≤ cs.length := by simpa using hb
              have hs := lfs_sub off i.sz h4
              have hsz : ((subL1 l off i.sz).map (Lf.den e)).toArray.size = i.sz := by simp [sub_len (show off + i.sz ≤ l.length by omega)]
              refine ⟨.agg ((subL1 l off i.sz).map (Lf.den e)).toArray, res_cell hp (res_loadN (ht.agg ha) hsz (h5.cells off _ ?_)), by simp [SV1.den, hs], fun z hz => hcs z ?_⟩
              · rw [hsz, sub_map]; simp [subL1]
              · exact List.mem_of_mem_drop (List.mem_of_mem_take hz)
          | false =>
            rw [ha] at h
            simp only [cond_false] at h
            split at h
            · rename_i z' hz'
              injection h with h; subst h
              obtain ⟨u, h6, h7⟩ := lfs_nth h4 hz'
              have hc : w.cell? ⟨e.b g, off, none⟩ = some (u.den e) := h5.cell (by simp [h7])
              exact ⟨u.den e, res_cell hp (res_load1 (ht.tone ha) hc), by simp [SV1.den, h6], hcs z' (nth_mem hz')⟩
            · cases h
        · cases h
      · cases h
    · cases h
theorem Ou.outRs : ∀ {rs : List RSh} {rv : List ResultVar} {vs : List PV} {ids : List (Option Nat)}, outRs G s rs rv = some (vs, ids) → (∀ k ∈ rs.flatMap RSh.ks, AlP v0 k) → ∃ us A0 A, (rv.mapM (resV a)).run P w = .ok us w ∧ resS r.e0 (nlen v0) rs vs us A ∧ IdsA s e ids A0 ∧ Wkns A0 A
  | [], [], vs, ids, h, _ => by
    injection h with h; injection h with h1 h2; subst h1; subst h2
    exact ⟨[], [], [], rfl, ⟨rfl, rfl, rfl⟩, rfl, rfl⟩
  | [], _ :: _, vs, ids, h, _ => by cases h
  | p :: _, [], vs, ids, h, _ => by cases p <;> cases h
  | .o k :: rs, v :: rv, vs, ids, h, hal => by
    simp only [Go.Proofs.YtjdlgannencchaaGreatDoor.outRs] at h
    split at h
    · rename_i x b u h1 h2
      split at h
      · rename_i v1 t h3
        injection h with h; injection h with h4 h5; subst h4; subst h5
        obtain ⟨uv, c1, c2⟩ := O.rvA h1
        obtain ⟨A0, A, a1, a2, a3⟩ := O.outA h3 c2 (hal k (by simp [RSh.ks]))
        obtain ⟨us, B0, B, b0, b1, b2, b3⟩ := Ou.outRs h2 fun k' hk' => hal k' (by simp only [List.flatMap_cons]; exact List.mem_append_right _ hk')
        refine ⟨uv :: us, A0 ++ B0, A ++ B, ?_, ⟨v1, b, uv, us, A, B, rfl, rfl, rfl, a1, b1⟩, a2.app b2, a3.app b3⟩
        rw [List.mapM_cons]
        simp only [Sem.run_bind, c1, Result.andThen_ok, b0, Sem.run_pure]
      · cases h
    · cases h
  | .g ks :: rs, v :: rv, vs, ids, h, hal => by
    simp only [Go.Proofs.YtjdlgannencchaaGreatDoor.outRs] at h
    split at h
    · rename_i xs b u h1 h2
      split at h
      · rename_i v1 t h3
        injection h with h; injection h with h4 h5; subst h4; subst h5
        obtain ⟨uv, c1, c2⟩ := O.rvA h1
        obtain ⟨ul, rfl⟩ : ∃ ul : List Value, uv = .agg ul.toArray := by
          have := c2.1
          simp only [SV1.den, Option.map_eq_some_iff] at this
          obtain ⟨l, _, rfl⟩ := this
          exact ⟨_, rfl⟩
        obtain ⟨A0, A, a1, a2, a3⟩ := O.outAs h3 c2 fun k' hk' => hal k' (by simp only [List.flatMap_cons, RSh.ks]; exact List.mem_append_left _ hk')
        obtain ⟨us, B0, B, b0, b1, b2, b3⟩ := Ou.outRs h2 fun k' hk' => hal k' (by simp only [List.flatMap_cons]; exact List.mem_append_right _ hk')
        refine ⟨.agg ul.toArray :: us, A0 ++ B0, A ++ B, ?_, ⟨v1, b, ul, us, A, B, rfl, rfl, rfl, a1, b1⟩, a2.app b2, a3.app b3⟩
        rw [List.mapM_cons]
        simp only [Sem.run_bind, c1, Result.andThen_ok, b0, Sem.run_pure]
      · cases h
    · cases h
theorem Ou.outCs : ∀ {ks : List PK} {j : Nat} {xs : List Ax} {vs v : List PV} {ids : List (Option Nat)} {us : List Value}, outCs s j ks xs = some (v, ids) → DenS e s (.g xs) (.agg us.toArray) → leafPs r.w0 r.X r.e0 j ks vs → (∀ q x, nth vs q = some x → nth v0 (j + q) = some x) → ∃ A0 A, resC r.e0 (nlen v0) ks (argVs r.e0 j vs) v us A ∧ IdsA s e ids A0 ∧ Wkns A0 A
  | [], j, [], vs, v, ids, us, h, hd, hp, _ => by
    injection h with h; injection h with h1 h2; subst h1; subst h2
    have hu : us = [] := by have := hd.1; simp [SV1.den, lfs] at this; exact this
    subst hu
    rw [show vs = [] from hp]
    exact ⟨[], [], ⟨rfl, rfl, rfl, rfl⟩, rfl, rfl⟩
  | [], j, _ :: _, vs, v, ids, us, h, _, _, _ => by cases h
  | k :: _, j, [], vs, v, ids, us, h, _, _, _ => by cases h
  | k :: ks, j, x :: xs, vs, v, ids, us, h, hd, hp, hv => by
    obtain ⟨pv, pr, rfl, p1, p2⟩ := hp
    have hus : ∃ u ur, us = u :: ur := by
      have := hd.1
      simp only [SV1.den, Option.map_eq_some_iff, Value.agg.injEq] at this
      obtain ⟨ls, q1, q2⟩ := this
      obtain ⟨z, q, _, _, rfl⟩ := lfs_cons.1 q1
      have : List.map (Lf.den e) (z :: q) = us := by simpa using q2
      exact ⟨_, _, this.symm⟩
    obtain ⟨u, ur, rfl⟩ := hus
    obtain ⟨x', xr, he, hx, hxr⟩ := den_uncons hd
    injection he with e1 e2; subst e1; subst e2
    have hv' : ∀ q x, nth pr q = some x → nth v0 (j + 1 + q) = some x := fun q x hq => by
      have := hv (q + 1) x hq
      rwa [show j + (q + 1) = j + 1 + q by omega] at this
    simp only [Go.Proofs.YtjdlgannencchaaGreatDoor.outCs] at h
    split at h
    · rename_i rk rks b t hc h2
      split at h
      · rename_i v1 t1 h1
        injection h with h; injection h with h4 h5; subst h4; subst h5
        obtain ⟨A0, A, a1, a2, a3⟩ := O.outA h1 hx (fun q hq => by
          subst hq
          cases k with
          | sl m E kk => cases m <;> cases hc
          | _ => cases hc)
        obtain ⟨B0, B, b1, b2, b3⟩ := Ou.outCs h2 hxr p2 hv'
        refine ⟨A0 ++ B0, A ++ B, ⟨_, _, u, ur, rfl, rfl, ?_⟩, a2.app b2, a3.app b3⟩
        rw [hc]
        exact ⟨v1, b, A, B, rfl, rfl, a1, b1⟩
      · cases h
    · rename_i b t hc h2
      split at h
      · rename_i g n rt hh
        cases hb : (Nat.beq g j && Nat.beq rt j) with
        | false => rw [hb] at h; cases h
        | true =>
          rw [hb] at h
          injection h with h; injection h with h4 h5; subst h4; subst h5
          simp only [Bool.and_eq_true] at hb
          have e1 := beqs hb.1; have e2 := beqs hb.2
          subst e1
          obtain ⟨y, hy, hk⟩ := hx.2
          rw [hh] at hy; injection hy with hy; subst hy
          obtain ⟨B0, B, b1, b2, b3⟩ := Ou.outCs h2 hxr p2 hv'
          refine ⟨B0, B, ⟨_, _, u, ur, rfl, rfl, ?_⟩, b2, b3⟩
          rw [hc]
          refine ⟨?_, b1⟩
          have hsl : ∃ kk l, pv = .sl kk l := by
            cases k with
            | sl m E kk => obtain ⟨l, rfl, _⟩ := p1; exact ⟨kk, l, rfl⟩
            | _ => cases hc
          obtain ⟨kk, l, rfl⟩ := hsl
          have := O.par (hv 0 _ rfl) hk e2
          have hu := hx.1
          simp only [SV1.den, hh, Option.map_some, Option.some.injEq] at hu
          rw [← hu]; exact this
      · cases h
    · cases h
theorem Ou.outBs : ∀ {ps : List Prm} {i j : Nat} {vs v : List PV} {ids : List (Option Nat)}, outBs s i j ps = some (v, ids) → leafPs r.w0 r.X r.e0 j (pks ps) vs → (∀ q x, nth vs q = some x → nth v0 (j + q) = some x) → i + ps.length ≤ PB → ∃ A0 A, resB r.e0 (nlen v0) i j ps vs v A ∧ IdsA s e ids A0 ∧ Wkns A0 A
  | [], i, j, vs, v, ids, h, hp, _, _ => by
    injection h with h; injection h with h1 h2; subst h1; subst h2
    exact ⟨[], [], ⟨rfl, rfl⟩, rfl, rfl⟩
  | p :: ps, i, j, vs, v, ids, h, hp, hv, hi => by
    rw [show pks (p :: ps) = p.ks ++ pks ps by simp [pks]] at hp
    obtain ⟨va, vb, rfl, p1, p2⟩ := leafPs_split hp
    have hl := leafPs_len p1
    simp only [List.length_cons] at hi
    have ht : (va ++ vb).take p.ks.length = va := by rw [← hl]; simp
    have hdr : (va ++ vb).drop p.ks.length = vb := by rw [← hl]; simp
    have hv2 : ∀ q x, nth vb q = some x → nth v0 (j + p.ks.length + q) = some x := fun q x hq => by
      have := hv (p.ks.length + q) x (by rw [← hl, nth_app]; exact hq)
      rwa [← Nat.add_assoc] at this
    cases p with
    | o k =>
      obtain ⟨A0, A, a1, a2, a3⟩ := Ou.outBs (i := i + 1) (j := j + 1) (by simpa only [Go.Proofs.YtjdlgannencchaaGreatDoor.outBs, Prm.ks, List.length_singleton] using h) p2 hv2 (by omega)
      exact ⟨A0, A, by have hdr : (va ++ vb).drop 1 = vb := hdr
                       show resB r.e0 (nlen v0) (i + 1) (j + 1) ps ((va ++ vb).drop 1) v A
                       rw [hdr]; exact a1, a2, a3⟩
    | g ks =>
      obtain ⟨A0, A, a1, a2, a3⟩ := Ou.outBs (i := i + 1) (j := j + ks.length) (by simpa only [Go.Proofs.YtjdlgannencchaaGreatDoor.outBs, Prm.ks] using h) p2 hv2 (by omega)
      exact ⟨A0, A, by have hdr : (va ++ vb).drop ks.length = vb := hdr
                       show resB r.e0 (nlen v0) (i + 1) (j + ks.length) ps ((va ++ vb).drop ks.length) v A
                       rw [hdr]; exact a1, a2, a3⟩
    | bx T ks =>
      have hdr : (va ++ vb).drop ks.length = vb := hdr
      have ht : (va ++ vb).take ks.length = va := ht
      simp only [Go.Proofs.YtjdlgannencchaaGreatDoor.outBs] at h
      split at h
      · rename_i T' xs b u hg h2
        cases hb : Nat.beq T T' with
        | false => rw [hb] at h; cases h
        | true =>
          rw [hb] at h
          have eT := beqs hb; subst eT
          simp only [cond_true] at h
          split at h
          · rename_i v1 t1 h1
            injection h with h; injection h with h4 h5; subst h4; subst h5
            have hok := (O.I.wf.th _ (lk_mem hg)).2
            obtain ⟨q, hq⟩ : ∃ q, lfs s.vs xs = some q := by
              obtain ⟨L, hL, _⟩ := O.I.st
              obtain ⟨y, R, h', _, _⟩ := ths_get hL hg
              simp only [Th.den, Option.map_eq_some_iff] at h'
              obtain ⟨l, h', _⟩ := h'
              exact ⟨l, h'⟩
            obtain ⟨A0, A, a1, a2, a3⟩ := O.outCs (us := q.map (Lf.den e)) h1 ⟨by simp [SV1.den, hq], hok⟩ p1 (fun q x hq => hv q x (nth_appl hq))
            obtain ⟨B0, B, b1, b2, b3⟩ := Ou.outBs h2 p2 hv2 (by omega)
            have hbe : e.b (PB + i) = r.e0.b (PB + i) := (O.I.par (PB + i) (by unfold PB NP at *; omega)).1
            refine ⟨.box (r.e0.b (PB + i)) T (q.map (Lf.den e)).toArray :: (A0 ++ B0), _, ⟨v1, b, q.map (Lf.den e), A, B, rfl, rfl, by rw [ht]; exact a1, by rw [hdr]; exact b1⟩, ?_, ?_⟩
            · refine ⟨_, A0 ++ B0, _, rfl, hg, ⟨_, by simp only [Th.den, hq, hbe, Option.map_some], Wkn.refl _⟩, a2.app b2⟩
            · exact ⟨_, A ++ B, rfl, Wkn.refl _, a3.app b3⟩
          · cases h
      · cases h
theorem Ou.outRw : ∀ {ks : List PK} {j : Nat} {vs v : List PV} {ids : List (Option Nat)}, outRw s j ks = some (v, ids) → leafPs r.w0 r.X r.e0 j ks vs → (∀ q x, nth vs q = some x → nth v0 (j + q) = some x) → ∃ A, resR r.e0 j ks vs v A ∧ IdsA s e ids A
  | [], j, vs, v, ids, h, _, _ => by
    injection h with h; injection h with h1 h2; subst h1; subst h2
    exact ⟨[], ⟨rfl, rfl⟩, rfl⟩
  | k :: ks, j, vs, v, ids, h, hp, hv => by
    obtain ⟨pv, pr, rfl, p1, p2⟩ := hp
    have hv' : ∀ q x, nth pr q = some x → nth v0 (j + 1 + q) = some x := fun q x hq => by
      have := hv (q + 1) x hq
      rwa [show j + (q + 1) = j + 1 + q by omega] at this
    have hjv : nth v0 j = some pv := hv 0 pv rfl
    have hj : j < NP := Nat.lt_of_lt_of_le (nth_lt hjv) (Nat.le_trans (Nat.le_of_lt O.lt) (show PB ≤ NP by decide))
    have hpar := O.I.par j hj
    have gen : Go.Proofs.YtjdlgannencchaaGreatDoor.outRw s (j + 1) ks = some (v, ids) → ∃ A, resR r.e0 (j + 1) ks pr v A ∧ IdsA s e ids A := fun h => Ou.outRw h p2 hv'
    cases k with
    | int k => exact gen h
    | b => exact gen h
    | s => exact gen h
    | sl m E kk =>
      cases m with
      | ro => exact gen h
      | tk => exact gen h
      | mu =>
        obtain ⟨l0, rfl, _⟩ := p1
        simp only [Go.Proofs.YtjdlgannencchaaGreatDoor.outRw] at h
        split at h
        · rename_i ct b u hth h2
          split at h
          · rename_i c hc
            cases hb : Nat.beq c.rt j with
            | false => rw [hb] at h; cases h
            | true =>
              rw [hb] at h
              simp only [cond_true] at h
              split at h
              · rename_i l hl
                injection h with h; injection h with h4 h5; subst h4; subst h5
                obtain ⟨A, a1, a2⟩ := Ou.outRw h2 p2 hv'
                have hth := thRow_ok hth
                obtain ⟨d, d1, d2, d3⟩ := O.I.wf.rt _ _ hc
                rw [beqs hb, O.E.c _ _ (O.pv _ _ _ hjv)] at d1
                injection d1 with d1; subst d1
                obtain ⟨ck, cl, crt, csi⟩ := c
                obtain ⟨q, hq⟩ := slGet_ok hl
                dsimp only at q; subst q; dsimp only at hq; subst hq
                refine ⟨rowA r.e0 j E ck cl :: A, ⟨l0, cl, pr, b, A, rfl, rfl, d2, rfl, a1⟩, _, A, _, rfl, hth, ⟨_, ?_, Wkn.refl _⟩, a2⟩
                simp only [Th.den, hc, Option.map_some, rowA, hpar.2.1, hpar.2.2.1]; rfl
              · cases h
          · cases h
        · cases h
      | kp =>
        simp only [Go.Proofs.YtjdlgannencchaaGreatDoor.outRw] at h
        split at h
        · rename_i ct b u hth h2
          injection h with h; injection h with h4 h5; subst h4; subst h5
          obtain ⟨A, a1, a2⟩ := Ou.outRw h2 p2 hv'
          exact ⟨r.e0.y j :: A, ⟨A, rfl, a1⟩, _, A, _, rfl, hth, ⟨_, by simp only [Th.den, hpar.2.2.2], Wkn.refl _⟩, a2⟩
        · cases h
theorem Ou.outWs : ∀ {ps : List Prm} {j : Nat} {vs v : List PV} {ids : List (Option Nat)}, outWs s j ps = some (v, ids) → leafPs r.w0 r.X r.e0 j (pks ps) vs → (∀ q x, nth vs q = some x → nth v0 (j + q) = some x) → ∃ A, resW r.e0 j ps vs v A ∧ IdsA s e ids A
  | [], j, vs, v, ids, h, _, _ => by
    injection h with h; injection h with h1 h2; subst h1; subst h2
    exact ⟨[], ⟨rfl, rfl⟩, rfl⟩
  | p :: ps, j, vs, v, ids, h, hp, hv => by
    rw [show pks (p :: ps) = p.ks ++ pks ps by simp [pks]] at hp
    obtain ⟨va, vb, rfl, p1, p2⟩ := leafPs_split hp
    have hl := leafPs_len p1
    have ht : (va ++ vb).take p.ks.length = va := by rw [← hl]; simp
    have hdr : (va ++ vb).drop p.ks.length = vb := by rw [← hl]; simp
    have hv2 : ∀ q x, nth vb q = some x → nth v0 (j + p.ks.length + q) = some x := fun q x hq => by
      have := hv (p.ks.length + q) x (by rw [← hl, nth_app]; exact hq)
      rwa [← Nat.add_assoc] at this
    have gen : (match Go.Proofs.YtjdlgannencchaaGreatDoor.outRw s j p.ks, Go.Proofs.YtjdlgannencchaaGreatDoor.outWs s (j + p.ks.length) ps with
        | some (a, t), some (b, u) => some (a ++ b, t ++ u)
        | _, _ => none) = some (v, ids) → ∃ v1 v2 A1 A2, v = v1 ++ v2 ∧ resR r.e0 j p.ks va v1 A1 ∧ resW r.e0 (j + p.ks.length) ps vb v2 A2 ∧ IdsA s e ids (A1 ++ A2) := by
      intro h
      split at h
      · rename_i h1 h2
        injection h with h; injection h with h4 h5; subst h4; subst h5
        obtain ⟨A, a1, a2⟩ := O.outRw h1 p1 (fun q x hq => hv q x (nth_appl hq))
        obtain ⟨B, b1, b2⟩ := Ou.outWs h2 p2 hv2
        exact ⟨_, _, A, B, rfl, a1, b1, a2.app b2⟩
      · cases h
    cases p with
    | o k =>
      obtain ⟨v1, v2, A1, A2, rfl, a1, a2, a3⟩ := gen h
      exact ⟨A1 ++ A2, ⟨v1, v2, A1, A2, rfl, rfl, by rw [ht]; exact a1, by rw [hdr]; exact a2⟩, a3⟩
    | g ks =>
      obtain ⟨v1, v2, A1, A2, rfl, a1, a2, a3⟩ := gen h
      exact ⟨A1 ++ A2, ⟨v1, v2, A1, A2, rfl, rfl, by rw [ht]; exact a1, by rw [hdr]; exact a2⟩, a3⟩
    | bx T ks =>
      have hdr : (va ++ vb).drop ks.length = vb := hdr
      obtain ⟨A, a1, a2⟩ := Ou.outWs (j := j + ks.length) (by simpa only [Go.Proofs.YtjdlgannencchaaGreatDoor.outWs] using h) p2 hv2
      exact ⟨A, by show resW r.e0 (j + ks.length) ps ((va ++ vb).drop ks.length) v A
                   rw [hdr]; exact a1, a2⟩
end
def FinS (P : Program) (r : Rn) (F : Sg) (v0 : List PV) (f : F.R) (a : Act) (w : World) : Prop :=
  a.defers = [] ∧ ∃ us A, (F.rv.mapM (resV a)).run P w = .ok us w ∧ PostP r.e0 F.ps F.rs v0 (unT RK.put (outs F.ps F.rs) f) us A ∧ St r.w0 w (A ++ r.X)
theorem fini_ok {P : Program} {G : Cx} {F : Sg} {r : Rn} {sI s : Sy} {e : Env} {a : Act} {w : World} {v0 : List PV} {R : Type} {y : R} {k : F.R → Option R} (O : Ou P G r sI s e a w v0) (hp : leafPs r.w0 r.X r.e0 0 (pks F.ps) v0) (hi : F.ps.length ≤ PB) (hal : ∀ k ∈ F.rs.flatMap RSh.ks, AlP v0 k) (h : fini G F s k = some y) : ∃ f, k f = some y ∧ FinS P r F v0 f a w := by
  unfold fini at h
  split at h
  · rename_i v1 i1 v2 i2 v3 i3 h1 h2 h3
    cases hb : nodupB ((i1 ++ (i2 ++ i3)).filterMap id) with
    | false => rw [hb] at h; cases h
    | true =>
      rw [hb] at h
      simp only [cond_true] at h
      split at h
      · rename_i f hf
        have hv : ∀ q x, nth v0 q = some x → nth v0 (0 + q) = some x := fun q x h => by rw [Nat.zero_add]; exact h
        obtain ⟨us, A0, A, a0, a1, a2, a3⟩ := O.outRs h1 hal
        obtain ⟨B0, B, b1, b2, b3⟩ := O.outBs h2 hp hv (by omega)
        obtain ⟨C, c1, c2⟩ := O.outWs h3 hp hv
        obtain ⟨L, hL, hS⟩ := O.I.st
        have S1 := St.ids hL hS (a2.app (b2.app c2)) hb
        have S2 := St.wkns (P := []) (B := A ++ (B ++ C)) (by simpa using S1) (a3.app (b3.app (Wkns.refl C)))
        refine ⟨f, h, O.I.df, us, A ++ (B ++ C), a0, ⟨v1, v2, v3, A, B, C, ?_, rfl, a1, b1, c1⟩, by simpa using S2⟩
        exact unT_mk (put := RK.put) (fun k v a h => rk_put h) hf
      · cases h
  · cases h
def alK (ps : List PK) (k : RK) : Bool := match k with
  | .al j => (match nth ps j with | some (.sl _ _ _) => true | _ => false)
  | _ => true
theorem alK_ok {w0 : World} {X : List Asn} {e : Env} : ∀ {ks : List PK} {vs : List PV} {j q : Nat}, leafPs w0 X e j ks vs → (match nth ks q with | some (.sl _ _ _) => true | _ => false) = true → ∃ kk l, nth vs q = some (.sl kk l)
  | [], vs, j, q, _, h => by simp [nth] at h
  | k :: ks, vs, j, q, hp, h => by
    obtain ⟨v, vr, rfl, h1, h2⟩ := hp
    cases q with
    | zero =>
      cases k with
      | sl m E kk => obtain ⟨l, rfl, _⟩ := h1; exact ⟨kk, l, rfl⟩
      | _ => cases h
    | succ q => exact alK_ok (q := q) h2 h
theorem ctr_ok {P : Program} {G : Cx} {c : Ctr} {fn : Func} {body : Code} {rv : List ResultVar} {n : Nat} {crt : Crt} (hm : P.follows .mixedOrders = true) (hQ : GQ P G) (hf : P.funcs[c.f]? = some fn) (hb : fn.body = some body) (hn : fn.ntmps = n) (hr : fn.results = rv.toArray) (hal : (c.rs.flatMap RSh.ks).all (alK (pks c.ps)) = true)
    (he : ∀ x, c.m x = exF G ⟨c.ps, c.rs, rv, n⟩ crt body x) : CtrOk P c := by
  intro x res hx e w0 w X hbs hp hS
  rw [he] at hx
  unfold exF at hx
  dsimp only at hx
  cases hbb : (Nat.blt (pks c.ps).length PB && Nat.blt c.ps.length PB && Nat.ble c.ps.length n) with
  | false => rw [hbb] at hx; cases hx
  | true =>
    rw [hbb] at hx
    simp only [cond_true] at hx
    simp only [Bool.and_eq_true] at hbb
    obtain ⟨⟨k1, k2⟩, k3⟩ := hbb
    have k1 : (pks c.ps).length < PB := by simpa using k1
    have k2 : c.ps.length < PB := by simpa using k2
    have k3 : c.ps.length ≤ n := by simpa using k3
    let v0 := unT PK.put (pks c.ps) x
    let args := argsOf e 0 0 c.ps v0
    let r : Rn := ⟨w0, X, n, e, hbs⟩
    have hlen : ∀ {ps : List Prm} {vs : List PV} {i j : Nat}, leafPs w0 X e j (pks ps) vs → (argsOf e i j ps vs).length = ps.length := by
      intro ps
      induction ps with
      | nil => intro vs i j _; rfl
      | cons p ps ih =>
        intro vs i j h
        rw [show pks (p :: ps) = p.ks ++ pks ps by simp [pks]] at h
        obtain ⟨va, vb, rfl, p1, p2⟩ := leafPs_split h
        have hl := leafPs_len p1
        cases p with
        | o k =>
          have hdr : (va ++ vb).drop 1 = vb := by rw [show 1 = va.length from hl.symm]; simp
          have ht : (va ++ vb).take 1 = va := by rw [show 1 = va.length from hl.symm]; simp
          have hl : va.length = 1 := hl
          simp only [argsOf, hdr, ht, List.length_append, argVs_len, List.length_cons, ih (j := j + 1) p2, hl]
          omega
        | g ks =>
          have hdr : (va ++ vb).drop ks.length = vb := by rw [show ks.length = va.length from hl.symm]; simp
          simp only [argsOf, hdr, List.length_cons, ih (j := j + ks.length) p2]
        | bx T ks =>
          have hdr : (va ++ vb).drop ks.length = vb := by rw [show ks.length = va.length from hl.symm]; simp
          simp only [argsOf, hdr, List.length_cons, ih (j := j + ks.length) p2]
    have hal' : args.length = c.ps.length := hlen hp
    refine calls_of_wp hf hb ?_
    let a0 : Act := { tmps := args.toArray ++ Array.replicate (fn.ntmps - args.toArray.size) undef, defers := [] }
    have hW0 : Wf r sy0 := ⟨nofun, nofun, nofun, nofun, nofun, nofun, nofun, nofun, nofun, Nat.le_refl _⟩
    have I0 : Ini r sy0 0 0 args [] v0 := ⟨hW0, nofun, by decide, nofun, ⟨[], rfl, List.Perm.refl _⟩, fun q k l _ h => by omega⟩
    obtain ⟨L', h1, h2⟩ := iniP_ok I0 hp (fun q v h => by rw [Nat.zero_add]; exact h) (by omega) (by omega) (fun q u h => by rw [Nat.zero_add]; exact h)
    rw [List.append_nil] at h1
    have hI : Inv r e a0 w (iniP sy0 0 0 c.ps v0) := by
      refine ⟨?_, rfl, fun k v hk => ?_, ?_, h2.wf, Agr.refl _ _⟩
      · show (args.toArray ++ Array.replicate (fn.ntmps - args.toArray.size) undef).size = n
        simp only [Array.size_append, List.size_toArray, Array.size_replicate, hn]; omega
      · obtain ⟨q1, u, q2, q3⟩ := h2.sl k v hk
        obtain ⟨q4, _⟩ := List.getElem?_eq_some_iff.1 q2
        have : sl a0 k = u := by
          show (args.toArray ++ Array.replicate (fn.ntmps - args.toArray.size) undef)[k]?.getD undef = u
          rw [Array.getElem?_append_left (by simpa using q4)]
          simp [q2]
        rw [this]; exact q3
      · obtain ⟨L2, l1, l2⟩ := h2.th
        exact ⟨L2, l1, hS.perm ((l2.trans h1).symm.append_right _)⟩
    have hOu : ∀ {s : Sy} {e' : Env} {a : Act} {w' : World}, Ext (iniP sy0 0 0 c.ps v0) s → Inv r e' a w' s → Ou P G r (iniP sy0 0 0 c.ps v0) s e' a w' v0 := fun hE I => ⟨hQ.gp, I, hE, fun q k l hq => h2.v0 q k l hq (by
      have := nth_lt hq
      rw [leafPs_len hp] at this; omega), by rw [leafPs_len hp]; exact k1⟩
    have hAl : ∀ k ∈ c.rs.flatMap RSh.ks, AlP v0 k := by
      intro k hk j hj
      have := List.all_eq_true.1 hal k hk
      subst hj
      exact alK_ok (q := j) hp this
    have hend : ∀ {f : Tup ((outs c.ps c.rs).map RK.ty)} {a : Act} {w' : World}, f = res → FinS P r ⟨c.ps, c.rs, rv, n⟩ v0 f a w' → a.defers = [] ∧ ∃ v, (results fn a.tmps).run P w' = .ok v w' ∧ ∃ us A, Ending.returned v = .returned (retV us) ∧ PostP e c.ps c.rs v0 (unT RK.put (outs c.ps c.rs) res) us A ∧ St w0 w' (A ++ X) := by
      rintro f a w' rfl ⟨hd, us, A, g1, g2, g3⟩
      refine ⟨hd, retV us, ?_, us, A, rfl, g2, g3⟩
      rw [results_eq, hr, List.mapM_toArray, map_eq_pure_bind]
      have g1 : (rv.mapM (resV a)).run P w' = .ok us w' := g1
      simp only [Sem.run_bind, g1, Result.andThen_ok, Sem.run_pure]
      congr 1
      cases us with
      | nil => rfl
      | cons u us => cases us with
        | nil => rfl
        | cons u2 us => simp [retV]
    refine ex_ok (F := ⟨c.ps, c.rs, rv, n⟩) (sI := iniP sy0 0 0 c.ps v0) hm hQ rfl (FinS P r ⟨c.ps, c.rs, rv, n⟩ v0) (fun hE I h => fini_ok (hOu hE I) hp (Nat.le_of_lt k2) hAl h) crt body _ _ res e a0 w _ hx (.refl _) hI (fun s' e' a' w' E1 A1 h1 I1 => ?_) (fun i s' e' a' w' E1 A1 h1 I1 => by cases h1) (fun f a' w' h1 h2 => ?_)
    · obtain ⟨f, q1, q2⟩ := fini_ok (hOu E1 I1) hp (Nat.le_of_lt k2) hAl h1
      injection q1 with q1
      exact hend q1 q2
    · injection h1 with h1
      exact hend h1 h2
end Go.Proofs.YtjdlgannencchaaGreatDoor
namespace Go.Proofs.YtjdlgannencchaaGreatDoor
open Go.ChangeShapes Go.WideShapes Go.ChangeAt Go.RowKit
set_option linter.unusedVariables false
def Cok (P : Program) (c : Ctr) : Prop := CallOk P c.f ∧ CtrOk P c
def Coks (P : Program) : List Ctr → Prop
  | [] => True
  | c :: l => Cok P c ∧ Coks P l
theorem coks_mem {P : Program} : ∀ {l : List Ctr}, Coks P l → ∀ c ∈ l, Cok P c
  | c :: l, h, d, hd => by
    rcases List.mem_cons.1 hd with rfl | hd
    · exact h.1
    · exact coks_mem h.2 d hd
def Eqps (P : Program) : List (Nat × EK) → Prop
  | [] => True
  | p :: l => EqP P p.1 p.2 ∧ Eqps P l
theorem eqps_get {P : Program} : ∀ {l : List (Nat × EK)}, Eqps P l → ∀ {T k}, lk l T = some k → EqP P T k
  | [], _, T, k, h => by cases h
  | (d, x) :: l, h, T, k, hx => by
    rcases lk_cons_or hx with ⟨rfl, rfl⟩ | hx
    · exact h.1
    · exact eqps_get h.2 hx
theorem cok {P : Program} {ti : List (Nat × TyI)} {eq : List (Nat × EK)} {cs : List Ctr} {op : List (Nat × Nat)} {c : Ctr} {fn : Func} {body : Code} {rv : List ResultVar} {n : Nat} {crt : Crt} (ht : tysOk P ti = true) (hq : Eqps P eq) (hm : P.follows .mixedOrders = true) (hcs : Coks P cs) (hop : Opens P op) (hco : CallOk P c.f) (hf : P.funcs[c.f]? = some fn) (hb : fn.body = some body) (hn : fn.ntmps = n) (hr : fn.results = rv.toArray) (hal : (c.rs.flatMap RSh.ks).all (alK (pks c.ps)) = true)
    (he : ∀ x, c.m x = exF ⟨ti, eq, cs, op⟩ ⟨c.ps, c.rs, rv, n⟩ crt body x) : Cok P c :=
  ⟨hco, ctr_ok (G := ⟨ti, eq, cs, op⟩) hm ⟨⟨fun h => tysOk_get ht h, fun h => eqps_get hq h⟩, coks_mem hcs, hop⟩ hf hb hn hr hal he⟩
theorem law_c {P : Program} {f : FuncId} {ps : List Prm} {own : Bool} {m : Tup ((pks ps).map PK.ty) → Option (Tup ((outs ps [.o .b]).map RK.ty))} (hc : Cok P ⟨f, ps, [.o .b], own, m⟩) {x : Tup ((pks ps).map PK.ty)} {res : Tup ((outs ps [.o .b]).map RK.ty)} (hm : m x = some res) {e : Env} {w : World} {b : Bool} {args : List Value}
    (hbs : Bs w) (hp : leafPs w [] e 0 (pks ps) (unT PK.put (pks ps) x)) (ht : thingsOf e 0 0 ps (unT PK.put (pks ps) x) = []) (ha : argsOf e 0 0 ps (unT PK.put (pks ps) x) = args) (ho : unT RK.put (outs ps [.o .b]) res = [.b b]) : Calls P f args.toArray w fun en w' => en = .returned (.bool b) ∧ St w w' [] := by
  have h := hc.2 x res hm e w w [] hbs hp (by rw [ht]; exact St.nil w)
  rw [ha] at h
  refine h.mono ?_
  rintro en w' ⟨us, A, rfl, ⟨v1, v2, v3, A1, A2, A3, hv, rfl, h1, h2, h3⟩, S⟩
  obtain ⟨v, vr, u, ur, B1, B2, rfl, rfl, rfl, ⟨z, rfl, rfl, rfl⟩, rfl, rfl, rfl⟩ := h1
  rw [ho] at hv
  have : b = z := by
    simp only [List.cons_append, List.nil_append, List.cons.injEq, PV.b.injEq] at hv
    exact hv.1
  subst this
  exact ⟨rfl, S.sub (List.nil_sublist _)⟩
def parE (l : List (Option Addr × Nat)) : Env := ⟨fun _ => 0, fun j => (l.getD j (none, 0)).1, fun j => (l.getD j (none, 0)).2, fun _ => .box 0 0 #[]⟩
end Go.Proofs.YtjdlgannencchaaGreatDoor
namespace Go.Proofs.YtjdlgannencchaaGreatDoor
open Go.ChangeShapes Go.WideShapes Go.ChangeAt Go.RowKit
def opA (c n:Nat) (A:Option Addr):Option Addr:=if 2000 < n then subA c (0:Int).toNat 1 A else A
theorem take_sub (l:List Int) : l.take 2000=subL l 0 2000:=by simp [subL]
end Go.Proofs.YtjdlgannencchaaGreatDoor
namespace Go.Proofs.YtjdlgannencchaaGreatDoor
open Go.ChangeShapes Go.WideShapes Go.ChangeAt Go.RowKit
set_option linter.unusedVariables false
theorem subA_zero (c:Nat) (A:Option Addr) : subA c (0:Int).toNat 1 A=A:=by
 unfold subA
 split
 ·rfl
 ·cases A with
  | none=>rfl
  | some a=>simp [Addr.add]
theorem opA_sub (c n:Nat) (A:Option Addr) : opA c n A=subA c (0:Int).toNat 1 A:=by
 unfold opA
 split
 ·rfl
 ·exact (subA_zero c A).symm
theorem opH_take {α:Type} (l:List α) : subL l 0 (opH l.length)=l.take 2000:=by
 simp only [subL,opH,Int.toNat_zero,List.drop_zero,Nat.sub_zero,Int.toNat_natCast]
 rw [Nat.min_def]
 split
 ·rfl
 ·rw [List.take_length,List.take_of_length_le (by omega)]
theorem open_ok {P:Program} {f T:Nat} (hc:CallOk P f) (h : ∀ {x0:List Int} {A0:Option Addr} {n0 c0:Nat} {w:World},Rt w 1 eU A0 n0 c0 x0 → Calls P f #[.slice A0 n0 c0] w (fun e w'=>∃ G0,e=.returned (.pointer (some ⟨G0,0,none⟩))∧St w w' [.box G0 T #[.slice (opA c0 n0 A0) (x0.take 2000).length c0,.int .i64 0]])):OpenOk P f T :=
 ⟨hc,fun x0 A0 n0 c0 w hr=>by
  have:=h hr
  rw [opA_sub,← opH_take] at this
  exact this⟩
end Go.Proofs.YtjdlgannencchaaGreatDoor
namespace Go.Proofs.YtjdlgannencchaaGreatDoor
open Go.Lib
set_option linter.unusedVariables false
def cutB (c:UInt8):List UInt8 → List (List UInt8)
 | []=>[[]]
 | x :: l=>if x=c then [] :: cutB c l else match cutB c l with
  | []=>[[x]]
  | y :: r=>(x :: y) :: r
theorem cutB_ne (c:UInt8) : ∀ l,cutB c l ≠ []
 | []=>by simp [cutB]
 | x :: l=>by
  have:=cutB_ne c l
  unfold cutB; split
  ·simp
  ·split <;> simp
theorem cutB_len (c:UInt8) : ∀ l,(cutB c l).length=l.count c+1
 | []=>rfl
 | x :: l=>by
  have h:=cutB_len c l
  have hn:=cutB_ne c l
  unfold cutB; split
  ·rename_i e; subst e; simp [h]
  ·rename_i e
   rw [List.count_cons_of_ne e]
   split
   ·contradiction
   ·rename_i e2; rw [e2] at h; simpa using h
theorem join_cutB (c:UInt8) : ∀ l,join (cutB c l) [c]=l
 | []=>by simp [cutB,join_one]
 | x :: l=>by
  have h:=join_cutB c l
  have hn:=cutB_ne c l
  unfold cutB; split
  ·rename_i e; subst e
   rw [join_cons]
   cases hc : cutB x l with
   | nil=>contradiction
   | cons y r=>rw [hc,join_cons] at h; simp [joinTail,← h]
  ·split
   ·contradiction
   ·rename_i y r e2
    rw [e2,join_cons] at h
    rw [join_cons,← h]; simp
theorem cutB_none (c:UInt8) : ∀ l,c ∉ l → cutB c l=[l]
 | [],_=>rfl
 | x :: l,h=>by
  simp only [List.mem_cons,not_or] at h
  unfold cutB
  rw [if_neg (fun e=>h.1 e.symm),cutB_none c l h.2]
theorem cutB_cons (c x:UInt8) (l:List UInt8) : cutB c (x :: l)=if x=c then [] :: cutB c l else match cutB c l with
  | []=>[[x]]
  | y :: r=>(x :: y) :: r:=rfl
theorem cutB_app (c:UInt8) (b:List UInt8) : ∀ a,c ∉ a → cutB c (a++c :: b)=a :: cutB c b
 | [],_=>by simp [cutB]
 | x :: a,h=>by
  simp only [List.mem_cons,not_or] at h
  rw [List.cons_append,cutB_cons,if_neg (fun e=>h.1 e.symm),cutB_app c b a h.2]
theorem index_some (c:UInt8) (b:List UInt8) : ∀ a,c ∉ a → index (a++c :: b) [c]=(a.length:Int)
 | [],_=>by unfold index; simp [List.isPrefixOf]
 | x :: a,h=>by
  simp only [List.mem_cons,not_or] at h
  have ih:=index_some c b a h.2
  rw [List.cons_append]
  unfold index
  rw [ih]
  have h1:([c].isPrefixOf (x :: (a++c :: b)))=false:=by simp [List.isPrefixOf,h.1]
  have h2:(((a.length:Nat):Int) == -1)=false:=by rw [beq_eq_false_iff_ne]; omega
  rw [h1,h2]
  simp
theorem mem_cut {c:UInt8} {l:List UInt8} (h : c ∈ l) : ∃ a b,l=a++c :: b∧c ∉ a:=by
 induction l with
 | nil=>cases h
 | cons x l ih =>
  by_cases e : x=c
  ·subst e; exact ⟨[],l,rfl,by simp⟩
  ·obtain ⟨a,b,rfl,k⟩:=ih (by simpa [Ne.symm e] using h)
   exact ⟨x :: a,b,rfl,by simp [Ne.symm e,k]⟩
theorem splitK_cut (c:UInt8) : ∀ (k:Nat) (l:List UInt8),l.count c=k → splitK [c] 0 k l=cutB c l
 | 0,l,h=>by
  have : c ∉ l:=List.count_eq_zero.1 h
  rw [cutB_none c l this]; rfl
 | k+1,l,h=>by
  have hm : c ∈ l:=List.count_pos_iff.1 (by omega)
  obtain ⟨a,b,rfl,hn⟩:=mem_cut hm
  rw [cutB_app c b a hn]
  unfold splitK
  rw [index_some c b a hn]
  have h2:(((a.length:Nat):Int) == -1)=false:=by rw [beq_eq_false_iff_ne]; omega
  rw [h2]
  have hc : b.count c=k:=by
   rw [List.count_append,List.count_cons_self,List.count_eq_zero.2 hn] at h; omega
  have:=splitK_cut c k b hc
  simp [this]
def isDg (c:UInt8):Bool:=decide (48 ≤ c.toNat) && decide (c.toNat ≤ 57)
def dv (c:UInt8):Nat:=c.toNat - 48
def valB (l:List UInt8):Nat:=l.foldl (fun n c=>10 * n+dv c) 0
def dgs (l:List UInt8):Int:=if 1 ≤ l.length∧l.length ≤ 3∧l.all isDg=true then (valB l:Int) else -1
def num3 (l:List UInt8):Int:=if (1 ≤ l.length∧l.length ≤ 3∧l.all isDg=true)∧¬ (1 < l.length∧l.headD 0=48) then (valB l:Int) else -1
theorem isDg_iff {c:UInt8} (h : isDg c=true) : 48 ≤ c.toNat∧c.toNat ≤ 57:=by simpa [isDg] using h
theorem dv_lt {c:UInt8} (h : isDg c=true) : dv c < 10:=by have:=isDg_iff h; unfold dv; omega
theorem dv_back {c:UInt8} (h : isDg c=true):UInt8.ofNat (48+dv c)=c:=by
 have:=isDg_iff h
 have e : 48+dv c=c.toNat:=by unfold dv; omega
 rw [e]; simp
theorem dv_zero {c:UInt8} (h : isDg c=true) : c=48 ↔ dv c=0:=by
 have:=isDg_iff h
 constructor
 ·rintro rfl; rfl
 ·intro e
  have e1 : c.toNat=48:=by unfold dv at e; omega
  exact UInt8.toNat_inj.1 (by rw [e1]; rfl)
theorem dec_val (l : List UInt8) (h : 1 ≤ l.length ∧ l.length ≤ 3 ∧ l.all isDg = true) : decDigits (valB l) = l ↔ ¬ (1 < l.length ∧ l.headD 0 = 48) := by
  obtain ⟨h1, h2, h3⟩ := h
  match l, h1, h2, h3 with
  | [a], _, _, h3 =>
    have ha : isDg a = true := by simpa using h3
    have h0 : valB [a] = dv a := by simp [valB]
    rw [h0, decDigits_one (dv_lt ha), dv_back ha]; simp
  | [a, b], _, _, h3 =>
    simp only [List.all_cons, List.all_nil, Bool.and_true, Bool.and_eq_true] at h3
    obtain ⟨ha, hb⟩ := h3
    have la := dv_lt ha; have lb := dv_lt hb
    have h0 : valB [a, b] = 10 * dv a + dv b := by simp [valB]
    rw [h0]
    simp only [List.length_cons, List.length_nil, List.headD_cons, dv_zero ha]
    by_cases hz : dv a = 0
    · rw [hz, decDigits_one (by omega)]; simp
    · rw [decDigits_two (by omega) (by omega), show (10 * dv a + dv b) / 10 = dv a by omega, show (10 * dv a + dv b) % 10 = dv b by omega, dv_back ha, dv_back hb]; simp [hz]
  | [a, b, c], _, _, h3 =>
    simp only [List.all_cons, List.all_nil, Bool.and_true, Bool.and_eq_true] at h3
    obtain ⟨ha, hb, hc⟩ := h3
    have la := dv_lt ha; have lb := dv_lt hb; have lc := dv_lt hc
    have h0 : valB [a, b, c] = 10 * (10 * dv a + dv b) + dv c := by simp [valB]
    rw [h0]
    simp only [List.length_cons, List.length_nil, List.headD_cons, dv_zero ha]
    by_cases hz : dv a = 0
    · have hl : (decDigits (10 * (10 * dv a + dv b) + dv c)).length ≤ 2 := by
        rw [hz]
        by_cases h10 : 10 * (10 * 0 + dv b) + dv c < 10
        · rw [decDigits_one h10]; simp
        · rw [decDigits_two h10 (by omega)]; simp
      constructor
      · intro e; rw [e] at hl; simp at hl
      · intro e; exact absurd ⟨by omega, hz⟩ e
    · rw [decDigits, dif_neg (by omega), decDigits_two (by omega) (by omega), show (10 * (10 * dv a + dv b) + dv c) / 10 / 10 = dv a by omega, show (10 * (10 * dv a + dv b) + dv c) / 10 % 10 = dv b by omega, show (10 * (10 * dv a + dv b) + dv c) % 10 = dv c by omega, dv_back ha, dv_back hb, dv_back hc]; simp [hz]
theorem num3_iff (l:List UInt8):(0 ≤ dgs l∧decDigits (dgs l).toNat=l) ↔ 0 ≤ num3 l:=by
 unfold dgs num3
 by_cases h : 1 ≤ l.length∧l.length ≤ 3∧l.all isDg=true
 ·rw [if_pos h,Int.toNat_natCast,dec_val l h]
  by_cases h2 : 1 < l.length∧l.headD 0=48
  ·rw [if_neg (fun k=>k.2 h2)]; exact ⟨fun k=>absurd h2 k.2,fun k=>by omega⟩
  ·rw [if_pos ⟨h,h2⟩]; simp only [h2,not_false_eq_true,and_true]
 ·rw [if_neg h,if_neg (fun k=>h k.1)]; simp
theorem dgs_num3 {l:List UInt8} (h : 0 ≤ num3 l) : dgs l=num3 l:=by
 unfold num3 at *
 split at h
 ·rename_i k; rw [if_pos k]; unfold dgs; rw [if_pos k.1]
 ·omega
theorem val_lt (l:List UInt8) (h : l.length ≤ 3∧l.all isDg=true) : valB l < 1000:=by
 obtain ⟨h2,h3⟩:=h
 match l,h2,h3 with
 | [],_,_=>simp [valB]
 | [a],_,h3=>have:=dv_lt (c:=a) (by simpa using h3); simp [valB]; omega
 | [a,b],_,h3 =>
  simp only [List.all_cons,List.all_nil,Bool.and_true,Bool.and_eq_true] at h3
  have:=dv_lt h3.1; have:=dv_lt h3.2; simp [valB]; omega
 | [a,b,c],_,h3 =>
  simp only [List.all_cons,List.all_nil,Bool.and_true,Bool.and_eq_true] at h3
  have:=dv_lt h3.1; have:=dv_lt h3.2.1; have:=dv_lt h3.2.2; simp [valB]; omega
theorem dgs_lt (l:List UInt8) : -1 ≤ dgs l∧dgs l < 1000:=by
 unfold dgs; split
 ·rename_i h; have:=val_lt l h.2; omega
 ·omega
theorem num3_lt (l:List UInt8) : -1 ≤ num3 l∧num3 l < 1000:=by
 unfold num3; split
 ·rename_i h; have:=val_lt l h.1.2; omega
 ·omega
end Go.Proofs.YtjdlgannencchaaGreatDoor
namespace Go.Proofs.YtjdlgannencchaaGreatDoor
open Go.Lib
set_option linter.unusedVariables false
def bs8 (l:List UInt8):ByteArray:=⟨l.toArray⟩
theorem bs8_data (l:List UInt8):(bs8 l).data.toList=l:=by simp [bs8]
theorem bs8_list (l:List UInt8):(bs8 l).toList=l:=by rw [ByteArray.toList_eq]; exact bs8_data l
theorem bs8_size (l:List UInt8):(bs8 l).size=l.length:=by show l.toArray.size=l.length; simp
theorem bs8_back (s:ByteArray) : bs8 s.data.toList=s:=by cases s; simp [bs8]
def m_strconv_Itoa (n:Int):Option ByteArray:=chk (decide (-9223372036854775808 ≤ n∧n ≤ 9223372036854775807)) (some (bs8 (itoa n)))
def m_strings_Split (s sep:ByteArray):Option (List ByteArray):=chk (decide (s.size < 4294967281) && decide (sep=bs8 [32])) (some ((cutB 32 s.data.toList).map bs8))
def m_strings_Join (xs:List ByteArray) (sep:ByteArray):Option ByteArray:=chk (decide ((join (xs.map (·.data.toList)) sep.data.toList).length ≤ 140737488355328∧xs.length ≤ 140737488355328)) (some (bs8 (join (xs.map (·.data.toList)) sep.data.toList)))
def m_spec_l1Number (n:Int):Option ByteArray:=chk (decide (0 ≤ n∧n ≤ 9223372036854775807)) (some (bs8 (decDigits n.toNat)))
def netT (b:Int) (ls:List (Int×Int×Int)):List UInt8:=itoa b++ls.flatMap fun x=>32 :: (itoa x.1++45 :: (itoa x.2.1++58 :: itoa x.2.2))
def n64 (n:Int):Bool:=decide (-9223372036854775808 ≤ n∧n ≤ 9223372036854775807)
def netB (b:Int) (ls:List (Int×Int×Int)):Bool:=n64 b && decide (ls.length ≤ 1000) && ls.all fun x=>n64 x.1 && n64 x.2.1 && n64 x.2.2
def kd1:List (ByteArray×Int):=[(⟨#[111,110]⟩,0),(⟨#[111,102,102]⟩,1),(⟨#[101,97,114,116,104]⟩,2),(⟨#[99,108,101,97,114]⟩,3),(⟨#[98,114,101,97,107]⟩,6)]
def kd2:List (ByteArray×Int):=[(⟨#[105,115,115,117,101]⟩,4),(⟨#[114,101,116,117,114,110]⟩,5),(⟨#[109,101,110,100]⟩,7)]
def lkS:List (ByteArray×Int) → ByteArray → Int×Bool
 | [],_=>(0,false)
 | (k,v) :: l,s=>bif s == k then (v,true) else lkS l s
end Go.Proofs.YtjdlgannencchaaGreatDoor
namespace Go.Proofs
open Go.Shelf
def Tryz.lays169_ren:Go.Shelf.Ren:=⟨fun | 169=>104 | n=>n,fun | 70=>129 | 9=>9 | 0=>0 | 72=>131 | 37=>22 | 127=>193 | 3=>3 | 5=>5 | n=>n,fun | n=>n⟩
theorem Tryz.lays169:Go.Proofs.Lays.n169 Tryz.prog Tryz.lays169_ren:={
 mixed:=by kernel_rfl
 f169:=Tryz.func104.trans (congrArg some (by kernel_rfl))
 t0:=Tryz.underlying0
 a0:=Tryz.isAgg0
 z0:=Tryz.sizeOf0
 v0:=Tryz.zeroValue0
 t3:=Tryz.underlying3
 a3:=Tryz.isAgg3
 z3:=Tryz.sizeOf3
 v3:=Tryz.zeroValue3
 t9:=Tryz.underlying9
 a9:=Tryz.isAgg9
 z9:=Tryz.sizeOf9
 v9:=Tryz.zeroValue9
 t37:=Tryz.underlying22
 a37:=Tryz.isAgg22
 z37:=Tryz.sizeOf22
 v37:=Tryz.zeroValue22
 t70:=Tryz.underlying129
 a70:=Tryz.isAgg129
 z70:=Tryz.sizeOf129
 v70:=Tryz.zeroValue129
 t72:=Tryz.underlying131
 a72:=Tryz.isAgg131
 z72:=Tryz.sizeOf131
 v72:=Tryz.zeroValue131
 t127:=Tryz.underlying193
 a127:=Tryz.isAgg193
 z127:=Tryz.sizeOf193
 v127:=Tryz.zeroValue193 }
theorem Tryz.Builder_Extra_169:Builder.Extra Tryz.prog Tryz.lays169_ren:={
 sizeBuilder:=by kernel_rfl
 liesBuilder:=by kernel_rfl
 t5:=Tryz.underlying5
 a5:=Tryz.isAgg5
 z5:=Tryz.sizeOf5
 v5:=Tryz.zeroValue5
 infoByte:=by kernel_rfl
 cellsByte:=by kernel_rfl
 sizeByte:=by kernel_rfl
 neB5:=by decide }
def Tryz.lays156_ren:Go.Shelf.Ren:=⟨fun | 156=>122 | 165=>184 | 166=>102 | 169=>104 | 240=>166 | 241=>218 | 276=>202 | 277=>235 | n=>n,fun | 31=>34 | 9=>9 | 3=>3 | 4=>4 | 0=>0 | 20=>20 | 72=>131 | 76=>134 | 70=>129 | 37=>22 | 75=>133 | 127=>193 | 164=>217 | 5=>5 | 80=>136 | n=>n,fun | n=>n⟩
theorem Tryz.lays156:Go.Proofs.Lays.n156 Tryz.prog Tryz.lays156_ren:={
 mixed:=by kernel_rfl
 f156:=Tryz.func122.trans (congrArg some (by kernel_rfl))
 f165:=Tryz.func184.trans (congrArg some (by kernel_rfl))
 f166:=Tryz.func102.trans (congrArg some (by kernel_rfl))
 f169:=Tryz.func104.trans (congrArg some (by kernel_rfl))
 f240:=Tryz.func166.trans (congrArg some (by kernel_rfl))
 f241:=Tryz.func218.trans (congrArg some (by kernel_rfl))
 f276:=Tryz.func202.trans (congrArg some (by kernel_rfl))
 f277:=Tryz.func235.trans (congrArg some (by kernel_rfl))
 t0:=Tryz.underlying0
 a0:=Tryz.isAgg0
 z0:=Tryz.sizeOf0
 v0:=Tryz.zeroValue0
 t3:=Tryz.underlying3
 a3:=Tryz.isAgg3
 z3:=Tryz.sizeOf3
 v3:=Tryz.zeroValue3
 t4:=Tryz.underlying4
 a4:=Tryz.isAgg4
 z4:=Tryz.sizeOf4
 v4:=Tryz.zeroValue4
 t9:=Tryz.underlying9
 a9:=Tryz.isAgg9
 z9:=Tryz.sizeOf9
 v9:=Tryz.zeroValue9
 t20:=Tryz.underlying20
 a20:=Tryz.isAgg20
 z20:=Tryz.sizeOf20
 v20:=Tryz.zeroValue20
 t31:=Tryz.underlying34
 a31:=Tryz.isAgg34
 z31:=Tryz.sizeOf34
 v31:=Tryz.zeroValue34
 t37:=Tryz.underlying22
 a37:=Tryz.isAgg22
 z37:=Tryz.sizeOf22
 v37:=Tryz.zeroValue22
 t70:=Tryz.underlying129
 a70:=Tryz.isAgg129
 z70:=Tryz.sizeOf129
 v70:=Tryz.zeroValue129
 t72:=Tryz.underlying131
 a72:=Tryz.isAgg131
 z72:=Tryz.sizeOf131
 v72:=Tryz.zeroValue131
 t75:=Tryz.underlying133
 a75:=Tryz.isAgg133
 z75:=Tryz.sizeOf133
 v75:=Tryz.zeroValue133
 t76:=Tryz.underlying134
 a76:=Tryz.isAgg134
 z76:=Tryz.sizeOf134
 v76:=Tryz.zeroValue134
 t127:=Tryz.underlying193
 a127:=Tryz.isAgg193
 z127:=Tryz.sizeOf193
 v127:=Tryz.zeroValue193
 t164:=Tryz.underlying217
 a164:=Tryz.isAgg217
 z164:=Tryz.sizeOf217
 v164:=Tryz.zeroValue217 }
theorem Tryz.Builder_Extra_156:Builder.Extra Tryz.prog Tryz.lays156_ren:={
 sizeBuilder:=by kernel_rfl
 liesBuilder:=by kernel_rfl
 t5:=Tryz.underlying5
 a5:=Tryz.isAgg5
 z5:=Tryz.sizeOf5
 v5:=Tryz.zeroValue5
 infoByte:=by kernel_rfl
 cellsByte:=by kernel_rfl
 sizeByte:=by kernel_rfl
 neB5:=by decide }
open Go.RowKit in
theorem Tryz.strings_Join (bk o c:Nat) (xs:List ByteArray) (sep:ByteArray) (w:World) (hcells : ∀ (j:Nat) x,xs[j]?=some x → w.cell? ⟨bk,o+j,none⟩=some (.string x)) (hbk : bk < w.heap.size) (hN : xs.length ≤ 140737488355328) (hcap : xs.length ≤ c) (hlen:(Lib.join (xs.map (·.data.toList)) sep.data.toList).length ≤ 140737488355328) :
  Calls Tryz.prog 122 #[.slice (some ⟨bk,o,none⟩) xs.length c,.string sep] w fun e w'=>e=.returned (.string ⟨(Lib.join (xs.map (·.data.toList)) sep.data.toList).toArray⟩)∧Below w.heap.size w w':=Any.strings_Join Tryz.lays156 Tryz.Builder_Extra_156 bk o c xs sep w hcells hbk hN hcap hlen
open Go.RowKit in
theorem Tryz.Builder_String_any_k (B b:Nat) (l:List UInt8) (w:World) (h:Lib.IsBuilderF 131 5 B b (Lib.byteCells l) w) (hBw:B ≤ w.heap.size) :
  Calls Tryz.prog 104 #[.pointer (some ⟨b,0,none⟩)] w fun e w'=>e=.returned (.string ⟨l.toArray⟩)∧(Lib.IsBuilderF 131 5 B b (Lib.byteCells l) w'∧Below B w w'∧Lib.OthersKept 5 (some b) w w'):=Any.Builder_String_any_k Tryz.lays169 Tryz.Builder_Extra_169 B b l w h hBw
def Tryz.laysM171_ren:Go.Shelf.Ren:=⟨fun | 171=>103 | 243=>167 | 246=>203 | 283=>223 | 284=>224 | 285=>225 | 286=>226 | 129=>241 | 317=>240 | 318=>242 | 319=>243 | 320=>244 | 337=>249 | 338=>250 | n=>n,fun | 3=>3 | 9=>9 | 2=>2 | 4=>4 | 171=>230 | 0=>0 | 53=>231 | 37=>22 | 5=>5 | 173=>234 | 212=>240 | 51=>241 | 20=>20 | 213=>242 | 46=>227 | 232=>252 | 233=>253 | n=>n,fun | 17=>1 | 18=>4 | 19=>5 | n=>n⟩
theorem Tryz.laysM171:Go.Proofs.LaysM.n171 Tryz.prog Tryz.laysM171_ren:={
 mixed:=by kernel_rfl
 f129:=Tryz.func241.trans (congrArg some (by kernel_rfl))
 f171:=Tryz.func103.trans (congrArg some (by kernel_rfl))
 f243:=Tryz.func167.trans (congrArg some (by kernel_rfl))
 f246:=Tryz.func203.trans (congrArg some (by kernel_rfl))
 f283:=Tryz.func223.trans (congrArg some (by kernel_rfl))
 f284:=Tryz.func224.trans (congrArg some (by kernel_rfl))
 f285:=Tryz.func225.trans (congrArg some (by kernel_rfl))
 f286:=Tryz.func226.trans (congrArg some (by kernel_rfl))
 f317:=Tryz.func240.trans (congrArg some (by kernel_rfl))
 f318:=Tryz.func242.trans (congrArg some (by kernel_rfl))
 f319:=Tryz.func243.trans (congrArg some (by kernel_rfl))
 f320:=Tryz.func244.trans (congrArg some (by kernel_rfl))
 f337:=Tryz.func249.trans (congrArg some (by kernel_rfl))
 f338:=Tryz.func250.trans (congrArg some (by kernel_rfl))
 t0:=Tryz.underlying0
 a0:=Tryz.isAgg0
 z0:=Tryz.sizeOf0
 v0:=Tryz.zeroValue0
 t2:=Tryz.underlying2
 a2:=Tryz.isAgg2
 z2:=Tryz.sizeOf2
 v2:=Tryz.zeroValue2
 t3:=Tryz.underlying3
 a3:=Tryz.isAgg3
 z3:=Tryz.sizeOf3
 v3:=Tryz.zeroValue3
 t4:=Tryz.underlying4
 a4:=Tryz.isAgg4
 z4:=Tryz.sizeOf4
 v4:=Tryz.zeroValue4
 t5:=Tryz.underlying5
 a5:=Tryz.isAgg5
 z5:=Tryz.sizeOf5
 v5:=Tryz.zeroValue5
 t9:=Tryz.underlying9
 a9:=Tryz.isAgg9
 z9:=Tryz.sizeOf9
 v9:=Tryz.zeroValue9
 t20:=Tryz.underlying20
 a20:=Tryz.isAgg20
 z20:=Tryz.sizeOf20
 v20:=Tryz.zeroValue20
 t37:=Tryz.underlying22
 a37:=Tryz.isAgg22
 z37:=Tryz.sizeOf22
 v37:=Tryz.zeroValue22
 t46:=Tryz.underlying227
 a46:=Tryz.isAgg227
 z46:=Tryz.sizeOf227
 v46:=Tryz.zeroValue227
 t51:=Tryz.underlying241
 a51:=Tryz.isAgg241
 z51:=Tryz.sizeOf241
 v51:=Tryz.zeroValue241
 t53:=Tryz.underlying231
 a53:=Tryz.isAgg231
 z53:=Tryz.sizeOf231
 v53:=Tryz.zeroValue231
 t171:=Tryz.underlying230
 a171:=Tryz.isAgg230
 z171:=Tryz.sizeOf230
 v171:=Tryz.zeroValue230
 t173:=Tryz.underlying234
 a173:=Tryz.isAgg234
 z173:=Tryz.sizeOf234
 v173:=Tryz.zeroValue234
 t212:=Tryz.underlying240
 a212:=Tryz.isAgg240
 z212:=Tryz.sizeOf240
 v212:=Tryz.zeroValue240
 t213:=Tryz.underlying242
 a213:=Tryz.isAgg242
 z213:=Tryz.sizeOf242
 t232:=Tryz.underlying252
 a232:=Tryz.isAgg252
 z232:=Tryz.sizeOf252
 v232:=Tryz.zeroValue252
 t233:=Tryz.underlying253
 a233:=Tryz.isAgg253
 z233:=Tryz.sizeOf253
 v233:=Tryz.zeroValue253
 g17:=by kernel_rfl
 g18:=by kernel_rfl
 g19:=by kernel_rfl
 i0:=by kernel_rfl
 i2:=by kernel_rfl
 i3:=by kernel_rfl
 i4:=by kernel_rfl
 i5:=by kernel_rfl
 i9:=by kernel_rfl
 i20:=by kernel_rfl
 i37:=by kernel_rfl
 i46:=by kernel_rfl
 i51:=by kernel_rfl
 i53:=by kernel_rfl
 i171:=by kernel_rfl
 i173:=by kernel_rfl
 i212:=by kernel_rfl
 i232:=by kernel_rfl
 i233:=by kernel_rfl
 m17:=by kernel_rfl
 m18:=by kernel_rfl
 m19:=by kernel_rfl }
def Tryz.lays146_ren:Go.Shelf.Ren:=⟨fun | 146=>51 | 221=>117 | 268=>176 | 138=>177 | 143=>178 | 195=>208 | 197=>209 | 218=>210 | 219=>211 | 260=>227 | 217=>228 | 225=>229 | 224=>230 | 267=>231 | 266=>245 | 314=>246 | n=>n,fun | 9=>9 | 31=>34 | 3=>3 | 4=>4 | 0=>0 | 105=>224 | 21=>21 | 5=>5 | 46=>227 | 119=>244 | 139=>247 | 138=>246 | 146=>248 | 51=>241 | n=>n,fun | 1=>0 | 3=>2 | 4=>3 | n=>n⟩
theorem Tryz.lays146:Go.Proofs.Lays.n146 Tryz.prog Tryz.lays146_ren:={
 mixed:=by kernel_rfl
 f138:=Tryz.func177.trans (congrArg some (by kernel_rfl))
 f143:=Tryz.func178.trans (congrArg some (by kernel_rfl))
 f146:=Tryz.func51.trans (congrArg some (by kernel_rfl))
 f195:=Tryz.func208.trans (congrArg some (by kernel_rfl))
 f197:=Tryz.func209.trans (congrArg some (by kernel_rfl))
 f217:=Tryz.func228.trans (congrArg some (by kernel_rfl))
 f218:=Tryz.func210.trans (congrArg some (by kernel_rfl))
 f219:=Tryz.func211.trans (congrArg some (by kernel_rfl))
 f221:=Tryz.func117.trans (congrArg some (by kernel_rfl))
 f224:=Tryz.func230.trans (congrArg some (by kernel_rfl))
 f225:=Tryz.func229.trans (congrArg some (by kernel_rfl))
 f260:=Tryz.func227.trans (congrArg some (by kernel_rfl))
 f266:=Tryz.func245.trans (congrArg some (by kernel_rfl))
 f267:=Tryz.func231.trans (congrArg some (by kernel_rfl))
 f268:=Tryz.func176.trans (congrArg some (by kernel_rfl))
 f314:=Tryz.func246.trans (congrArg some (by kernel_rfl))
 t0:=Tryz.underlying0
 a0:=Tryz.isAgg0
 z0:=Tryz.sizeOf0
 v0:=Tryz.zeroValue0
 t3:=Tryz.underlying3
 a3:=Tryz.isAgg3
 z3:=Tryz.sizeOf3
 v3:=Tryz.zeroValue3
 t4:=Tryz.underlying4
 a4:=Tryz.isAgg4
 z4:=Tryz.sizeOf4
 v4:=Tryz.zeroValue4
 t5:=Tryz.underlying5
 a5:=Tryz.isAgg5
 z5:=Tryz.sizeOf5
 v5:=Tryz.zeroValue5
 t9:=Tryz.underlying9
 a9:=Tryz.isAgg9
 z9:=Tryz.sizeOf9
 v9:=Tryz.zeroValue9
 t21:=Tryz.underlying21
 a21:=Tryz.isAgg21
 z21:=Tryz.sizeOf21
 v21:=Tryz.zeroValue21
 t31:=Tryz.underlying34
 a31:=Tryz.isAgg34
 z31:=Tryz.sizeOf34
 v31:=Tryz.zeroValue34
 t46:=Tryz.underlying227
 a46:=Tryz.isAgg227
 z46:=Tryz.sizeOf227
 v46:=Tryz.zeroValue227
 t51:=Tryz.underlying241
 a51:=Tryz.isAgg241
 z51:=Tryz.sizeOf241
 v51:=Tryz.zeroValue241
 t105:=Tryz.underlying224
 a105:=Tryz.isAgg224
 z105:=Tryz.sizeOf224
 v105:=Tryz.zeroValue224
 t119:=Tryz.underlying244
 a119:=Tryz.isAgg244
 z119:=Tryz.sizeOf244
 t138:=Tryz.underlying246
 a138:=Tryz.isAgg246
 z138:=Tryz.sizeOf246
 v138:=Tryz.zeroValue246
 t139:=Tryz.underlying247
 a139:=Tryz.isAgg247
 z139:=Tryz.sizeOf247
 v139:=Tryz.zeroValue247
 t146:=Tryz.underlying248
 a146:=Tryz.isAgg248
 z146:=Tryz.sizeOf248
 v146:=Tryz.zeroValue248
 g1:=by kernel_rfl
 g3:=by kernel_rfl
 g4:=by kernel_rfl }
open Go.RowKit Go.Lib in
theorem Tryz.strings_Split (s sep:ByteArray) (m:Int) (w:World) (hs : s.size < 4294967281) (hm : w.cell? ⟨0,0,none⟩=some (.int .i64 m)) (h1 : 1 ≤ sep.size) :
  Calls Tryz.prog 51 #[.string s,.string sep] w fun e w' =>
   e=.returned (.slice (some ⟨w.heap.size,0,none⟩) (Lib.countB s sep+1) (Lib.countB s sep+1))∧w'=w.alloc (.cells ((Lib.splitB sep 0 (Lib.countB s sep) s).map Value.string).toArray 9):=Any.strings_Split Tryz.lays146 (by kernel_rfl) s sep m w hs hm h1
end Go.Proofs
namespace Go.Proofs.YtjdlgannencchaaGreatDoor
open Go.ChangeShapes Go.WideShapes Go.ChangeAt Go.RowKit
set_option linter.unusedVariables false
set_option linter.unusedSimpArgs false
theorem below_grow (w:World) (k:Nat) (os:Array Obj):Below w.heap.size w (Go.Sort.grow (w.drewN k) os):=by
 have h : ∀ k,(w.drewN k).heap=w.heap∧(w.drewN k).os=w.os∧(w.drewN k).tape=w.tape∧(w.drewN k).output=w.output:=by
  intro k
  induction k with
  | zero=>exact ⟨rfl,rfl,rfl,rfl⟩
  | succ k ih=>exact ih
 obtain ⟨h1,h2,h3,h4⟩:=h k
 refine ⟨h2,h3,h4,by simp [Go.Sort.grow,h1],fun b hb=>?_⟩
 show ((w.drewN k).heap++os)[b]?=_
 rw [h1,Array.getElem?_append_left hb]
theorem itoa_calls {w:World} (hb:Bs w) {n:Int} (h : -9223372036854775808 ≤ n∧n ≤ 9223372036854775807) {w1:World} (h1:Below w.heap.size w w1):Calls Tryz.prog 103 #[.int .i64 n] w1 fun e w'=>e=.returned (.string (bs8 (Lib.itoa n)))∧Below w1.heap.size w1 w':=by
 refine (Any.strconv_Itoa Tryz.laysM171 n h.1 h.2 w1 (hb.1 w1 h1)).mono ?_
 rintro e w' ⟨rfl,k,os,rfl⟩
 exact ⟨rfl,below_grow _ _ _⟩
theorem itoa_m {n:Int} {r:ByteArray} (h : m_strconv_Itoa n=some r):(-9223372036854775808 ≤ n∧n ≤ 9223372036854775807)∧bs8 (Lib.itoa n)=r:=by
 obtain ⟨h,hm⟩:=chk_ex h
 injection hm with hm
 exact ⟨of_decide_eq_true h,hm⟩
theorem post_s {e:Env} {ps:List Prm} {x:Tup ((pks ps).map PK.ty)} (s:ByteArray) (hps : resB e (nlen (unT PK.put (pks ps) x)) 0 0 ps (unT PK.put (pks ps) x) [] []) (hw : resW e 0 ps (unT PK.put (pks ps) x) [] []):PostP e ps [.o .s] (unT PK.put (pks ps) x) [.s s] [.string s] [] :=
 ⟨[_],[],[],[],[],[],rfl,rfl,⟨_,[],_,[],[],[],rfl,rfl,rfl,⟨_,rfl,rfl,rfl⟩,rfl,rfl,rfl⟩,hps,hw⟩
theorem hd_Itoa (co:CallOk Tryz.prog 103):Cok Tryz.prog ⟨103,[.o (.int .i64)],[.o .s],false,fun x=>m_strconv_Itoa x⟩:=⟨co,fun x res hm e w0 w X hbs hp hS=>by
 obtain ⟨h,hm⟩:=itoa_m (n:=x) hm
 subst hm
 refine (itoa_calls hbs h hS.below).mono ?_
 rintro en w' ⟨rfl,hb⟩
 exact ⟨[_],[],rfl,post_s (ps:=[.o (.int .i64)]) (x:=x) _ ⟨rfl,rfl⟩ ⟨[],[],[],[],rfl,rfl,⟨rfl,rfl⟩,⟨rfl,rfl⟩⟩,hS.quiet hb⟩⟩
theorem split_cut (s:ByteArray):Lib.splitB (bs8 [32]) 0 (Lib.countB s (bs8 [32])) s=(cutB 32 s.data.toList).map bs8:=by
 have h:=Lib.splitB_data (bs8 [32]) 0 (Lib.countB s (bs8 [32])) s
 have hc:Lib.countB s (bs8 [32])=s.data.toList.count 32:=Lib.count_one 32 s.data.toList
 rw [bs8_data,splitK_cut 32 _ _ hc.symm] at h
 rw [← h,List.map_map]
 conv=>lhs; rw [← List.map_id (Lib.splitB _ _ _ _)]
 exact List.map_congr_left fun a _=>(bs8_back a).symm
theorem hd_Split (co:CallOk Tryz.prog 51):Cok Tryz.prog ⟨51,[.o .s,.o .s],[.o (.row 9 .s)],false,fun x=>m_strings_Split x.1 x.2⟩:=⟨co,fun x res hm e w0 w X hbs hp hS=>by
 obtain ⟨s,sep⟩:=x
 obtain ⟨h,hm⟩:=chk_ex (show m_strings_Split s sep=some res from hm)
 injection hm with hm
 subst hm
 simp only [Bool.and_eq_true,decide_eq_true_eq] at h
 obtain ⟨h1,rfl⟩:=h
 obtain ⟨m,hm⟩:=hbs.2
 refine (Tryz.strings_Split s (bs8 [32]) m w h1 (hm w hS.below) (by decide)).mono ?_
 rintro en w' ⟨rfl,rfl⟩
 rw [split_cut]
 have hl:Lib.countB s (bs8 [32])+1=((cutB 32 s.data.toList).map bs8).length:=by
  rw [List.length_map,cutB_len]; exact congrArg (·+ 1) (Lib.count_one 32 s.data.toList)
 rw [hl]
 have hle:((cutB 32 s.data.toList).map bs8).length ≤ 1099511627776:=by
  rw [List.length_map,cutB_len]
  have:=List.count_le_length (a:=(32:UInt8)) (l:=s.data.toList)
  have h2 : s.data.toList.length=s.size:=by simp
  omega
 have hf:((cutB 32 s.data.toList).map bs8).map Value.string=((cutB 32 s.data.toList).map bs8).flatMap (EK.s).enc:=by
  rw [List.map_eq_flatMap]; rfl
 rw [hf]
 have S:=(St.nil w).newrowL (e:=(EK.s).enc) (ls:=(cutB 32 s.data.toList).map bs8) (E:=9) (size:=1) (m:=((cutB 32 s.data.toList).map bs8).length) rfl (fun _=>rfl) hle
 exact ⟨[_],[_],rfl,⟨[_],[],[],[_],[],[],rfl,rfl,⟨_,[],_,[],[_],[],rfl,rfl,rfl,⟨_,_,_,rfl,rfl,rfl⟩,rfl,rfl,rfl⟩,⟨rfl,rfl⟩,⟨[],[],[],[],rfl,rfl,⟨rfl,rfl⟩,⟨[],[],[],[],rfl,rfl,⟨rfl,rfl⟩,⟨rfl,rfl⟩⟩⟩⟩,hS.call S⟩⟩
theorem join_m {xs:List ByteArray} {sep r:ByteArray} (h : m_strings_Join xs sep=some r):((Lib.join (xs.map (·.data.toList)) sep.data.toList).length ≤ 140737488355328∧xs.length ≤ 140737488355328)∧bs8 (Lib.join (xs.map (·.data.toList)) sep.data.toList)=r:=by
 obtain ⟨h,hm⟩:=chk_ex h
 injection hm with hm
 exact ⟨of_decide_eq_true h,hm⟩
theorem hd_Join (co:CallOk Tryz.prog 122):Cok Tryz.prog ⟨122,[.o (.sl .ro 9 .s),.o .s],[.o .s],false,fun x=>m_strings_Join x.1 x.2⟩:=⟨co,fun x res hm e w0 w X hbs hp hS=>by
 obtain ⟨xs,sep⟩:=x
 obtain ⟨h,hm⟩:=join_m (xs:=xs) (sep:=sep) hm
 subst hm
 obtain ⟨v,vr,hv,⟨l,hl,hro⟩,_⟩:=hp
 have hl:=(List.head_eq_of_cons_eq hv).trans hl
 injection hl with _ hl
 subst hl
 have R:=hro w _ hS (fun y hy=>List.mem_append_right _ hy)
 have fin : ∀ {en:Ending} {w':World},(en=.returned (.string (bs8 (Lib.join (xs.map (·.data.toList)) sep.data.toList)))∧Below w.heap.size w w') → ∃ us A,en=.returned (retV us)∧PostP e [.o (.sl .ro 9 .s),.o .s] [.o .s] (unT PK.put (pks [.o (.sl .ro 9 .s),.o .s]) (xs,sep)) [.s (bs8 (Lib.join (xs.map (·.data.toList)) sep.data.toList))] us A∧St w0 w' (A++X):=by
  rintro en w' ⟨rfl,hb⟩
  exact ⟨[_],[],rfl,post_s (ps:=[.o (.sl .ro 9 .s),.o .s]) (x:=(xs,sep)) _ ⟨rfl,rfl⟩ ⟨[],[],[],[],rfl,rfl,⟨rfl,rfl⟩,⟨[],[],[],[],rfl,rfl,⟨rfl,rfl⟩,⟨rfl,rfl⟩⟩⟩,hS.quiet hb⟩
 show Calls Tryz.prog 122 #[.slice (e.a 0) xs.length (e.c 0),.string sep] w _
 cases xs with
 | nil =>
  refine (Any.strings_Join_none Tryz.lays156 Tryz.Builder_Extra_156 (e.a 0) (e.c 0) sep w).mono ?_
  rintro en w' ⟨rfl,rfl⟩
  exact fin ⟨rfl,Below.refl _ _⟩
 | cons y r =>
  obtain ⟨b,off,hA,hcell⟩:=R.rd.2 (by simp)
  rw [hA]
  have hf : ∀ (l:List ByteArray),l.flatMap (EK.s).enc=l.map Value.string:=fun l=>by rw [List.map_eq_flatMap]; rfl
  rw [hf] at hcell
  have hc : ∀ (j:Nat) z,(y :: r)[j]?=some z → w.cell? ⟨b,off+j,none⟩=some (.string z):=fun j z hz=>hcell j _ (by rw [List.getElem?_map,hz]; rfl)
  have hbk : b < w.heap.size:=by
   have:=hc 0 y rfl
   rcases Nat.lt_or_ge b w.heap.size with h | h
   ·exact h
   ·simp [World.cell?,Array.getElem?_eq_none h] at this
  refine (Tryz.strings_Join b off (e.c 0) (y :: r) sep w hc hbk h.2 R.cap h.1).mono ?_
  rintro en w' hh
  exact fin hh⟩
end Go.Proofs.YtjdlgannencchaaGreatDoor
namespace Go.Proofs.YtjdlgannencchaaGreatDoor
open Go.Shelf
set_option maxRecDepth 100000
def insRen : Ren where
  f := fun x => match x with | 21 => 181 | 27 => 214 | 28 => 215 | 35 => 233 | 39 => 247 | n => n
  t := fun x => match x with | 22 => 31 | 3 => 3 | 4 => 4 | 0 => 0 | n => n
  g := fun n => n
theorem insLays : Lays2.n21 Tryz.prog insRen :=
{ mixed := Eq.refl true, f21 := Eq.trans Tryz.func181 (congrArg some (Eq.refl (Body2.n21 insRen))),
  f27 := Eq.trans Tryz.func214 (congrArg some (Eq.refl (Body2.n27 insRen))),
  f28 := Eq.trans Tryz.func215 (congrArg some (Eq.refl (Body2.n28 insRen))),
  f35 := Eq.trans Tryz.func233 (congrArg some (Eq.refl (Body2.n35 insRen))),
  f39 := Eq.trans Tryz.func247 (congrArg some (Eq.refl (Body2.n39 insRen))), t0 := Tryz.underlying0,
  a0 := Tryz.isAgg0, z0 := Tryz.sizeOf0, v0 := Tryz.zeroValue0, t3 := Tryz.underlying3, a3 := Tryz.isAgg3,
  z3 := Tryz.sizeOf3, v3 := Tryz.zeroValue3, t4 := Tryz.underlying4, a4 := Tryz.isAgg4, z4 := Tryz.sizeOf4,
  v4 := Tryz.zeroValue4, t22 := Tryz.underlying31, a22 := Tryz.isAgg31, z22 := Tryz.sizeOf31, v22 := Tryz.zeroValue31,
  i3 := Eq.refl (some (some (Value.int IntKind.i64 0), 1, 8)) }
end Go.Proofs.YtjdlgannencchaaGreatDoor
namespace Go.Proofs.YtjdlgannencchaaGreatDoor
open Go.ChangeShapes Go.WideShapes Go.ChangeAt Go.RowKit
set_option linter.unusedVariables false
set_option linter.unusedSimpArgs false
def over : Array Value → Nat → List Value → Array Value
  | cs, _, [] => cs
  | cs, o, v :: vs => over (cs.setIfInBounds o v) (o + 1) vs
theorem over_size : ∀ (vs : List Value) (cs : Array Value) (o : Nat), (over cs o vs).size = cs.size
  | [], _, _ => rfl
  | v :: vs, cs, o => by rw [over, over_size vs]; simp
theorem over_get : ∀ (vs : List Value) (cs : Array Value) (o k : Nat), o + vs.length ≤ cs.size → (over cs o vs)[k]? = if o ≤ k ∧ k < o + vs.length then vs[k - o]? else cs[k]?
  | [], cs, o, k, _ => by rw [over, if_neg (by simp only [List.length_nil]; omega)]
  | v :: vs, cs, o, k, h => by
    simp only [List.length_cons] at h ⊢
    rw [over, over_get vs _ _ k (by simp; omega)]
    by_cases h1 : k = o
    · subst h1
      rw [if_neg (by omega), if_pos (by omega)]
      simp [show k < cs.size by omega]
    · by_cases h2 : o + 1 ≤ k ∧ k < o + 1 + vs.length
      · rw [if_pos h2, if_pos (by omega), show k - o = (k - (o + 1)) + 1 by omega]; rfl
      · rw [if_neg h2, if_neg (by omega)]
        rw [Array.getElem?_setIfInBounds_ne (by omega)]
theorem put_bk {g : Nat} {E : TypeId} : ∀ (vs : List Value) (cs : Array Value) (o : Nat) (w : World), Bk w g E cs → Bk (w.setCells g o vs) g E (over cs o vs) ∧ Grown w (w.setCells g o vs) [g]
  | [], cs, o, w, h => ⟨h, ⟨rfl, rfl, rfl, Nat.le_refl _, fun _ _ _ => rfl⟩⟩
  | v :: vs, cs, o, w, h => by
    have h1 : Bk (w.setCell ⟨g, o, none⟩ v) g E (cs.setIfInBounds o v) := h.set_ o v
    obtain ⟨a, b⟩ := put_bk vs _ (o + 1) _ h1
    exact ⟨a, (Grown.set w g o v).trans b⟩
theorem ins_cells {cur : Array Value} {xs : List Value} {y : Value} {off n i c : Nat} (hx : (cur.toList.drop off).take n = xs) (hl : xs.length = n) (hi : i ≤ n) (hc : n + 1 ≤ c) (hs : off + c ≤ cur.size) :
    ((over (over cur (off + (i + 1)) (xs.drop i)) (off + i) [y]).toList.drop off).take (n + 1) = xs.take i ++ [y] ++ xs.drop i := by
  have hd : (xs.drop i).length = n - i := by rw [List.length_drop, hl]
  apply List.ext_getElem?
  intro k
  by_cases hk : k < n + 1
  · rw [List.getElem?_take, if_pos hk, List.getElem?_drop, Array.getElem?_toList, over_get _ _ _ _ (by rw [over_size]; simp; omega), over_get _ _ _ _ (by rw [hd]; omega)]
    have hxk : ∀ j, j < n → xs[j]? = cur[off + j]? := fun j hj => by rw [← hx, List.getElem?_take, if_pos hj, List.getElem?_drop, Array.getElem?_toList]
    simp only [List.length_singleton, hd]
    by_cases h1 : k < i
    · rw [if_neg (by omega), if_neg (by omega), List.append_assoc, List.getElem?_append_left (by rw [List.length_take]; omega), List.getElem?_take, if_pos h1, hxk k (by omega)]
    · have hti : (xs.take i).length = i := by rw [List.length_take]; omega
      rw [List.append_assoc, List.getElem?_append_right (by omega), hti]
      by_cases h2 : k = i
      · subst h2
        rw [if_pos (by omega)]; simp
      · rw [if_neg (by omega), if_pos (by omega), show k - i = (k - i - 1) + 1 by omega]
        show (xs.drop i)[off + k - (off + (i + 1))]? = (xs.drop i)[k - i - 1]?
        congr 1; omega
  · rw [List.getElem?_eq_none (by rw [List.length_take]; omega), List.getElem?_eq_none (by simp only [List.length_append, List.length_take, List.length_drop, List.length_singleton]; omega)]
end Go.Proofs.YtjdlgannencchaaGreatDoor
namespace Go.Proofs.YtjdlgannencchaaGreatDoor
open Go.ChangeShapes Go.WideShapes Go.ChangeAt Go.RowKit Go.Lib
set_option linter.unusedVariables false
set_option linter.unusedSimpArgs false
theorem eI_map (x : List Int) : x.flatMap eI = x.map (Value.int .i64) := by
  induction x with
  | nil => rfl
  | cons a x ih => rw [List.flatMap_cons, ih]; rfl
theorem one_I (x : List Int) : ∀ v ∈ x.flatMap eI, v.oneCell' = true := by
  intro v hv
  rw [eI_map] at hv
  obtain ⟨z, _, rfl⟩ := List.mem_map.1 hv
  rfl
theorem far_rows {w0 w : World} {L : List Asn} (S : St w0 w L) {k m : Nat} {a b : Asn} (ha : L[k]? = some a) (hb : L[m]? = some b) (h : k ≠ m) : a.far b := by
  obtain ⟨h1, h2⟩ := List.getElem?_eq_some_iff.1 ha
  obtain ⟨h3, h4⟩ := List.getElem?_eq_some_iff.1 hb
  subst h2 h4
  rcases Nat.lt_or_ge k m with h5 | h5
  · exact List.pairwise_iff_getElem.1 S.apart k m h1 h3 h5
  · exact (List.pairwise_iff_getElem.1 S.apart m k h3 h1 (by omega)).symm
theorem ins_room {w0 w w1 : World} {L : List Asn} {x : List Int} {y : Int} {g off n c k i : Nat} {cur : Array Value} (S : St w0 w L) (hk : L[k]? = some (.row 3 1 (.slice (some ⟨g, off, none⟩) n c) n (x.flatMap eI))) (hn : n = x.length)
    (hb : Bk w g 3 cur) (hx : (cur.toList.drop off).take (n * 1) = x.flatMap eI) (hi : i ≤ n) (hroom : n + 1 ≤ c) (hc : c ≤ maxLen) (hs : off + c * 1 ≤ cur.size) (hw : Bk w1 g 3 cur) (hg : Grown w w1 [g]) :
    St w0 ((w1.setCells g (off + (i + 1)) ((x.flatMap eI).drop i)).setCells g (off + i) [.int .i64 y]) (L.set k (.row 3 1 (.slice (some ⟨g, off, none⟩) (n + 1) c) (n + 1) ((x.take i ++ [y] ++ x.drop i).flatMap eI))) := by
  obtain ⟨b1, g1⟩ := put_bk ((x.flatMap eI).drop i) cur (off + (i + 1)) w1 hw
  obtain ⟨b2, g2⟩ := put_bk [.int .i64 y] _ (off + i) _ b1
  have hl : (x.flatMap eI).length = n := by rw [eI_map, List.length_map, hn]
  have hc2 := ins_cells (cur := cur) (xs := x.flatMap eI) (y := .int .i64 y) (off := off) (n := n) (i := i) (c := c) (by simpa using hx) hl hi hroom (by omega)
  refine S.turn1 hk ((hg.trans g1).trans g2) (fun x hx => by simpa [Asn.foot, Value.ownBlock] using hx) ?_ (fun x hx => .inl (by simpa [Asn.foot, Value.ownBlock] using hx))
  have e : (x.take i ++ [y] ++ x.drop i).flatMap eI = (x.flatMap eI).take i ++ [.int .i64 y] ++ (x.flatMap eI).drop i := by
    rw [eI_map, eI_map, List.map_append, List.map_append, List.map_take, List.map_drop]; rfl
  refine ⟨?_, .inr ⟨g, off, c, _, rfl, b2, hroom, hc, ?_, ?_⟩⟩
  · rw [eI_map, List.length_map, List.length_append, List.length_append, List.length_take, List.length_drop]; simp; omega
  · rw [over_size, over_size]; exact hs
  · rw [e, ← hc2]; simp
theorem ins_new {w0 w w1 : World} {L : List Asn} {x : List Int} {y : Int} {A : Option Addr} {n c k i d : Nat} {cur : Array Value} (S : St w0 w L) (hk : L[k]? = some (.row 3 1 (.slice A n c) n (x.flatMap eI))) (hn : n = x.length) (hi : i ≤ n)
    (hb : Bk w1 w.heap.size 3 cur) (hg : Grown w w1 []) (hx : cur.toList.take (n + 1) = (x.flatMap eI).take i ++ [.int .i64 y] ++ (x.flatMap eI).drop i) (h1 : n + 1 ≤ d) (h2 : d ≤ maxLen) (h3 : d ≤ cur.size) :
    St w0 w1 (L.set k (.row 3 1 (.slice (some ⟨w.heap.size, 0, none⟩) (n + 1) d) (n + 1) ((x.take i ++ [y] ++ x.drop i).flatMap eI))) := by
  have e : (x.take i ++ [y] ++ x.drop i).flatMap eI = (x.flatMap eI).take i ++ [.int .i64 y] ++ (x.flatMap eI).drop i := by
    rw [eI_map, eI_map, List.map_append, List.map_append, List.map_take, List.map_drop]; rfl
  refine S.turn1 hk hg (fun x hx => by simp at hx) ?_ (fun x hx => .inr (by simp [Asn.foot, Value.ownBlock] at hx; omega))
  refine ⟨?_, .inr ⟨w.heap.size, 0, d, cur, rfl, hb, h1, h2, by omega, ?_⟩⟩
  · rw [eI_map, List.length_map, List.length_append, List.length_append, List.length_take, List.length_drop]; simp; omega
  · rw [e, ← hx]; simp
end Go.Proofs.YtjdlgannencchaaGreatDoor
namespace Go.Proofs.YtjdlgannencchaaGreatDoor
open Go.ChangeShapes Go.WideShapes Go.ChangeAt Go.RowKit Go.Lib
set_option linter.unusedVariables false
set_option linter.unusedSimpArgs false
set_option maxRecDepth 100000
theorem grown_self (w : World) : Grown w w.drew [] := ⟨rfl, rfl, rfl, Nat.le_refl _, fun _ _ _ => rfl⟩
theorem grown_more {w w' : World} (g : Nat) (h : Grown w w' []) : Grown w w' [g] := ⟨h.os, h.tape, h.output, h.size, fun k hk hn => h.block k hk (by simp)⟩
theorem grown_new (w : World) (o : Obj) : Grown w (w.alloc o) [] := ⟨rfl, rfl, rfl, by show w.heap.size ≤ (w.heap.push o).size; rw [Array.size_push]; omega, fun k hk _ => Below.heap_alloc w o k hk⟩
theorem bk_new (w : World) (cs : Array Value) (t : TypeId) : Bk (w.alloc (.cells cs t)) w.heap.size t cs := Bk.new w t cs
theorem zeros_size (k : Nat) : (Builtin.zeroCells (Value.int .i64 0).cells k).size = k := by
  have : (Value.int .i64 0).cells.size = 1 := rfl
  simp [Builtin.zeroCells, this]
theorem ins_cells2 {cur : Array Value} {xs : List Value} {y : Value} {n i : Nat} (hl : xs.length = n) (hi : i ≤ n) (hx : ∀ k, k < i → cur[k]? = xs[k]?) (hs : n + 1 ≤ cur.size) :
    (over (over cur i [y]) (i + 1) (xs.drop i)).toList.take (n + 1) = xs.take i ++ [y] ++ xs.drop i := by
  have hd : (xs.drop i).length = n - i := by rw [List.length_drop, hl]
  apply List.ext_getElem?
  intro k
  by_cases hk : k < n + 1
  · rw [List.getElem?_take, if_pos hk, Array.getElem?_toList, over_get _ _ _ _ (by rw [over_size, hd]; omega), over_get _ _ _ _ (by simp only [List.length_singleton]; omega)]
    simp only [List.length_singleton, hd]
    by_cases h1 : k < i
    · rw [if_neg (by omega), if_neg (by omega), List.append_assoc, List.getElem?_append_left (by rw [List.length_take]; omega), List.getElem?_take, if_pos h1, hx k h1]
    · have hti : (xs.take i).length = i := by rw [List.length_take]; omega
      rw [List.append_assoc, List.getElem?_append_right (by omega), hti]
      by_cases h2 : k = i
      · subst h2
        rw [if_neg (by omega), if_pos (by omega)]; simp
      · rw [if_pos (by omega), show k - i = (k - (i + 1)) + 1 by omega]; rfl
  · rw [List.getElem?_eq_none (by rw [List.length_take]; omega), List.getElem?_eq_none (by simp only [List.length_append, List.length_take, List.length_drop, List.length_singleton]; omega)]
theorem ins_len {x : List Int} {y i : Int} (h0 : 0 ≤ i) (h : i ≤ (x.length : Int)) : x.length + 1 = (x.take i.toNat ++ [y] ++ x.drop i.toNat).length := by
  simp only [List.length_append, List.length_take, List.length_drop, List.length_singleton]; omega
theorem ins_calls {L : List Asn} {w0 w : World} {x : List Int} {y i : Int} {A B : Option Addr} {n c vc k m : Nat} (S : St w0 w L) (hk : L[k]? = some (.row 3 1 (.slice A n c) n (x.flatMap eI))) (hn : n = x.length) (hv : L[m]? = some (.row 3 1 (.slice B 1 vc) 1 (([y] : List Int).flatMap eI))) (hkm : k ≠ m) (hi : 0 ≤ i ∧ i ≤ (n : Int)) (hlen : n + 1 ≤ 1099511627776) :
    Calls Tryz.prog 181 #[.slice A n c, .int .i64 i, .slice B 1 vc] w (fun e w' => ∃ (B' : Option Addr) (D : Nat), e = .returned (.slice B' (n + 1) D) ∧ St w0 w' (L.set k (.row 3 1 (.slice B' (n + 1) D) (n + 1) ((x.take i.toNat ++ [y] ++ x.drop i.toNat).flatMap eI)))) := by
  obtain ⟨j, rfl⟩ : ∃ j : Nat, i = (j : Int) := ⟨i.toNat, by omega⟩
  have hj : j ≤ n := by omega
  rw [Int.toNat_natCast]
  have hxl : (x.flatMap eI).length = n := by rw [eI_map, List.length_map, hn]
  obtain ⟨vg, voff, rfl, hvs⟩ := (S.rd m hv).2 (by omega)
  have hvs' : ∀ q v, ([.int .i64 y] : List Value)[q]? = some v → w.cell? ⟨vg, voff + q, none⟩ = some v := fun q v h => hvs q v h
  have h1v : ∀ v ∈ ([.int .i64 y] : List Value), v.oneCell' = true := fun v h => by simp at h; subst h; rfl
  have h1c := one_I x
  rcases row_form S hk with ⟨rfl, h0, rfl⟩ | ⟨g, off, cur, rfl, hb, hx, hnc, hc, hs⟩
  · subst h0
    have hx0 : x = [] := List.eq_nil_of_length_eq_zero hn.symm
    subst hx0
    obtain rfl : j = 0 := by omega
    have h := Any2.slices_Insert_int_end_grow insLays none 0 0 vg voff 1 vc [] [.int .i64 y] w (by omega) (by omega) (by omega) (by omega) rfl rfl (fun _ => rfl) (fun a h => by cases h) hvs' h1v
    refine h.mono ?_
    rintro e w' ⟨rfl, rfl⟩
    refine ⟨_, _, rfl, ?_⟩
    have hge := grownCap_ge w (0 + 1) 0 (insRen.t 3)
    refine ins_new (cur := ([] ++ [Value.int .i64 y]).toArray ++ Builtin.zeroCells (Value.int .i64 0).cells (grownCap w (0 + 1) 0 (insRen.t 3) - (0 + 1))) S hk rfl (Nat.le_refl 0) (bk_new w.drew _ _) ((grown_self w).trans (grown_new w.drew _)) (by simp) hge (grownCap_le_maxLen w (0 + 1) 0 _ (by decide)) ?_
    rw [Array.size_append, zeros_size]
    simp only [List.nil_append, List.size_toArray, List.length_singleton]
    omega
  · have hcell : ∀ q v, (x.flatMap eI)[q]? = some v → w.cell? ⟨g, off + q, none⟩ = some v := by
      intro q v hq
      have hn0 : 0 < n := by
        rcases Nat.eq_zero_or_pos n with h | h
        · rw [List.getElem?_eq_none (by omega)] at hq; cases hq
        · exact h
      obtain ⟨b', o', e, hc'⟩ := (S.rd k hk).2 hn0
      injection e with e
      injection e with e1 e2
      subst e1 e2
      exact hc' q v hq
    by_cases hroom : n + 1 ≤ c
    · have hc63 : c ≤ 9223372036854775807 := hc
      have hsp : ∀ q, q < n + 1 → (w.cell? ⟨g, off + q, none⟩).isSome = true := by
        intro q hq
        rw [cell_of_row w g _ cur 3 (0, 0) hb, Array.getElem?_eq_getElem (by omega)]; rfl
      have hfz : ∀ q, w.frozen? ⟨g, q, none⟩ = false := by
        intro q
        have : w.heap[g]? = some (.cells cur 3 (0, 0)) := hb
        simp [World.frozen?, this]
      by_cases hjn : j = n
      · subst hjn
        have h := Any2.slices_Insert_int_end_room insLays g off j c vg voff 1 vc [.int .i64 y] w (by omega) hroom hc63 rfl (fun q hq => by rw [Nat.add_assoc]; exact hsp _ (by omega)) (fun q _ => hfz _) hvs' h1v
        refine h.mono ?_
        rintro e w' ⟨rfl, rfl⟩
        have h2 := ins_room (w1 := w) (y := y) S hk hn hb hx (Nat.le_refl j) hroom hc hs hb ⟨rfl, rfl, rfl, Nat.le_refl _, fun _ _ _ => rfl⟩
        rw [List.drop_eq_nil_of_le (by omega)] at h2
        exact ⟨_, _, rfl, h2⟩
      · rcases row_form S hv with ⟨hB, _⟩ | ⟨vg', voff', vcur, hB, hvb, _⟩
        · cases hB
        injection hB with hB
        injection hB with e1 e2
        subst e1 e2
        have hne : vg ≠ g := by
          have := (far_rows S hk hv hkm).1 g (by simp [Asn.wf, Asn.foot, Value.ownBlock])
          simpa [Asn.foot, Value.ownBlock, eq_comm] using this
        have hvf : ∀ q, w.frozen? ⟨vg, q, none⟩ = false := by
          intro q
          have : w.heap[vg]? = some (.cells vcur 3 (0, 0)) := hvb
          simp [World.frozen?, this]
        have hsa : w.shape? vg = some (3, vcur.size) := by
          have : w.heap[vg]? = some (.cells vcur 3 (0, 0)) := hvb
          simp [World.shape?, this]
        have hsb : w.shape? g = some (3, cur.size) := by
          have : w.heap[g]? = some (.cells cur 3 (0, 0)) := hb
          simp [World.shape?, this]
        have h := Any2.slices_Insert_int_shift insLays g off n c j vg voff 1 vc (x.flatMap eI) [.int .i64 y] w (by omega) (by omega) hroom hc63 hne hxl rfl hcell hsp (fun q _ => hfz _) hvs' h1c h1v 3 3 vcur.size cur.size hsa hsb (by omega) (hvf _) (hvf _)
        refine h.mono ?_
        rintro e w' ⟨rfl, rfl⟩
        exact ⟨_, _, rfl, ins_room (w1 := w.drew) S hk hn hb hx hj hroom hc hs hb (grown_more g (grown_self w))⟩
    · have hge := grownCap_ge w (n + 1) c (insRen.t 3)
      have hmx := grownCap_le_maxLen w (n + 1) c (insRen.t 3) (by unfold maxLen; omega)
      by_cases hjn : j = n
      · subst hjn
        have h := Any2.slices_Insert_int_end_grow insLays (some ⟨g, off, none⟩) j c vg voff 1 vc (x.flatMap eI) [.int .i64 y] w (by omega) hnc (by omega) (by omega) hxl rfl (fun h => by cases h) (fun a h q v hq => by
          injection h with h
          subst h
          rw [Go.WideShapes.add_plain]
          exact hcell q v hq) hvs' h1v
        refine h.mono ?_
        rintro e w' ⟨rfl, rfl⟩
        have hL : (x.flatMap eI ++ [Value.int .i64 y]).length = j + 1 := by rw [List.length_append, hxl]; rfl
        refine ⟨_, _, rfl, ins_new S hk hn (Nat.le_refl j) (bk_new w.drew _ _) ((grown_self w).trans (grown_new w.drew _)) ?_ hge hmx ?_⟩
        · rw [Array.toList_append]
          show List.take (j + 1) ((x.flatMap eI ++ [Value.int .i64 y]) ++ _) = _
          rw [List.take_append_of_le_length (show j + 1 ≤ (x.flatMap eI ++ [Value.int .i64 y]).length by omega), List.take_of_length_le (show (x.flatMap eI ++ [Value.int .i64 y]).length ≤ j + 1 by omega), List.take_of_length_le (show (x.flatMap eI).length ≤ j by omega), List.drop_eq_nil_of_le (show (x.flatMap eI).length ≤ j by omega), List.append_nil]
        · rw [Array.size_append, zeros_size, List.size_toArray]; omega
      · have h := Any2.slices_Insert_int_grow insLays g off n c j vg voff 1 vc (x.flatMap eI) [.int .i64 y] w (by omega) (by omega) hnc (by omega) (by omega) hxl rfl hcell hvs' h1c h1v
        refine h.mono ?_
        rintro e w' ⟨rfl, rfl⟩
        generalize hC : ((x.flatMap eI).take j).toArray ++ Builtin.zeroCells (Value.int .i64 0).cells (n + 1 - j) ++ Builtin.zeroCells (Value.int .i64 0).cells (grownCap w (n + 1) c (insRen.t 3) - (n + 1)) = C
        have hCs : C.size = grownCap w (n + 1) c (insRen.t 3) := by
          rw [← hC, Array.size_append, Array.size_append, zeros_size, zeros_size, List.size_toArray, List.length_take, hxl]; omega
        have hCx : ∀ q, q < j → C[q]? = (x.flatMap eI)[q]? := by
          intro q hq
          rw [← hC, Array.append_assoc, Array.getElem?_append_left (by rw [List.size_toArray, List.length_take, hxl]; omega)]
          rw [List.getElem?_toArray, List.getElem?_take, if_pos hq]
        have b0 : Bk (w.alloc (.cells C (insRen.t 3))).drew w.heap.size 3 C := bk_new w C 3
        obtain ⟨b1, g1⟩ := put_bk [.int .i64 y] C j _ b0
        have b1' : Bk (((w.alloc (.cells C (insRen.t 3))).drew.setCells w.heap.size j [.int .i64 y]).drew) w.heap.size 3 (over C j [.int .i64 y]) := b1
        obtain ⟨b2, g2⟩ := put_bk ((x.flatMap eI).drop j) _ (j + 1) _ b1'
        refine ⟨_, _, rfl, ins_new S hk hn hj b2 ?_ (ins_cells2 hxl hj hCx (by omega)) hge hmx (by rw [over_size, over_size, hCs]; exact Nat.le_refl _)⟩
        have gall := ((((grown_more w.heap.size (grown_new w (.cells C (insRen.t 3)))).trans (grown_more w.heap.size (grown_self _))).trans g1).trans (grown_more w.heap.size (grown_self _))).trans g2
        exact ⟨gall.os, gall.tape, gall.output, gall.size, fun q hq _ => gall.block q hq (by simp; omega)⟩
end Go.Proofs.YtjdlgannencchaaGreatDoor
