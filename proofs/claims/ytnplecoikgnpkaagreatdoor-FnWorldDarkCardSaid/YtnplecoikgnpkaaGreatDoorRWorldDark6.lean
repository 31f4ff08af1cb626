/- Texts of the claim, one behind the other: Isl, For, Flw, Wl, Net, Tr, WkV, WvM, WkD, BsM, WrM, WdD, WdS, DaH, WdL, Sum, Al, DkM, WdK, DaO, Law. -/
import Derived.ChangeSame
import Derived.ChangeMaps5
import Derived.Carry
import Derived.Lib.SmallJoins
import Derived.JoinedOf
import Derived.Test.YtnplecoikgnpkaaGreatDoorRWorldDark5
namespace Go.Proofs.YtnplecoikgnpkaaGreatDoor
set_option linter.unusedVariables false
set_option linter.unusedSimpArgs false
inductive Cn (E : List (Nat × Nat)) : Nat → Nat → Prop
  | refl (a : Nat) : Cn E a a
  | step {a b c : Nat} : Cn E a b → (b, c) ∈ E ∨ (c, b) ∈ E → Cn E a c
theorem Cn.trans {E : List (Nat × Nat)} {a b c : Nat} (h : Cn E a b) (k : Cn E b c) : Cn E a c := by
  induction k with
  | refl => exact h
  | step _ e ih => exact ih.step e
theorem Cn.one {E : List (Nat × Nat)} {a b : Nat} (h : (a, b) ∈ E ∨ (b, a) ∈ E) : Cn E a b := (Cn.refl a).step h
theorem Cn.symm {E : List (Nat × Nat)} {a b : Nat} (h : Cn E a b) : Cn E b a := by
  induction h with
  | refl => exact .refl _
  | step _ e ih => exact (Cn.one e.symm).trans ih
theorem Cn.mono {E F : List (Nat × Nat)} (hEF : ∀ e ∈ E, e ∈ F) {a b : Nat} (h : Cn E a b) : Cn F a b := by
  induction h with
  | refl => exact .refl _
  | step _ e ih => exact ih.step (e.imp (hEF _) (hEF _))
theorem cn_snoc {E : List (Nat × Nat)} {x y a b : Nat} : Cn (E ++ [(x, y)]) a b ↔ Cn E a b ∨ (Cn E a x ∧ Cn E y b) ∨ (Cn E a y ∧ Cn E x b) := by
  have hm : ∀ {a b : Nat}, Cn E a b → Cn (E ++ [(x, y)]) a b := fun h => h.mono fun e he => by simp [he]
  constructor
  · intro h
    induction h with
    | refl => exact .inl (.refl _)
    | @step b c _ e ih =>
      have he : ((b, c) ∈ E ∨ (c, b) ∈ E) ∨ ((b = x ∧ c = y) ∨ (b = y ∧ c = x)) := by
        simp only [List.mem_append, List.mem_singleton, Prod.mk.injEq] at e
        rcases e with (e | e) | (e | e)
        · exact .inl (.inl e)
        · exact .inr (.inl e)
        · exact .inl (.inr e)
        · exact .inr (.inr ⟨e.2, e.1⟩)
      rcases he with he | ⟨rfl, rfl⟩ | ⟨rfl, rfl⟩
      · rcases ih with ih | ⟨h1, h2⟩ | ⟨h1, h2⟩
        · exact .inl (ih.step he)
        · exact .inr (.inl ⟨h1, h2.step he⟩)
        · exact .inr (.inr ⟨h1, h2.step he⟩)
      · rcases ih with ih | ⟨h1, h2⟩ | ⟨h1, h2⟩
        · exact .inr (.inl ⟨ih, .refl _⟩)
        · exact .inr (.inl ⟨h1, .refl _⟩)
        · exact .inl h1
      · rcases ih with ih | ⟨h1, h2⟩ | ⟨h1, h2⟩
        · exact .inr (.inr ⟨ih, .refl _⟩)
        · exact .inl h1
        · exact .inr (.inr ⟨h1, .refl _⟩)
  · have hxy : Cn (E ++ [(x, y)]) x y := .one (.inl (by simp))
    rintro (h | ⟨h1, h2⟩ | ⟨h1, h2⟩)
    · exact hm h
    · exact ((hm h1).trans hxy).trans (hm h2)
    · exact ((hm h1).trans hxy.symm).trans (hm h2)
def relab (f : Nat → Nat) (a b : Nat) (c : Nat) : Nat := if f c = max (f a) (f b) then min (f a) (f b) else f c
def labs (E : List (Nat × Nat)) : Nat → Nat := E.foldl (fun f e => relab f e.1 e.2) id
theorem labs_snoc (E : List (Nat × Nat)) (e : Nat × Nat) : labs (E ++ [e]) = relab (labs E) e.1 e.2 := by unfold labs; rw [List.foldl_append]; rfl
theorem relab_eq (f : Nat → Nat) (x y a b : Nat) : relab f x y a = relab f x y b ↔ f a = f b ∨ (f a = f x ∧ f y = f b) ∨ (f a = f y ∧ f x = f b) := by
  unfold relab
  split <;> split <;> omega
theorem rev_ind {α : Type} {P : List α → Prop} (h0 : P []) (h1 : ∀ l a, P l → P (l ++ [a])) : ∀ l, P l := by
  intro l
  have : ∀ r : List α, P r.reverse := by
    intro r
    induction r with
    | nil => exact h0
    | cons a r ih => rw [List.reverse_cons]; exact h1 _ _ ih
  have := this l.reverse
  rwa [List.reverse_reverse] at this
theorem labs_cn (E : List (Nat × Nat)) : ∀ a b, labs E a = labs E b ↔ Cn E a b := by
  refine rev_ind (P := fun E => ∀ a b, labs E a = labs E b ↔ Cn E a b) ?_ ?_ E
  · intro a b
    constructor
    · intro h; have h : a = b := h; subst h; exact .refl _
    · intro h
      cases h with
      | refl => rfl
      | step _ e => simp at e
  · intro E e ih a b
    obtain ⟨x, y⟩ := e
    rw [labs_snoc, relab_eq, ih, ih, ih, ih, ih, cn_snoc]
def Dn (u : List Nat) : Prop := ∀ b, b < u.length → u.getD b 0 ≤ b
inductive Rot (u : List Nat) : Nat → Nat → Prop
  | stop {r : Nat} : u.getD r 0 = r → Rot u r r
  | go {b r : Nat} : Rot u (u.getD b 0) r → Rot u b r
theorem Rot.root {u : List Nat} {b r : Nat} (h : Rot u b r) : u.getD r 0 = r := by
  induction h with
  | stop h => exact h
  | go _ ih => exact ih
theorem Rot.fix {u : List Nat} {b r : Nat} (h : Rot u b r) (hb : u.getD b 0 = b) : r = b := by
  induction h with
  | stop _ => rfl
  | go _ ih => exact (ih (by rw [hb]; exact hb)).trans hb
theorem Rot.uniq {u : List Nat} {b r r' : Nat} (h : Rot u b r) (h' : Rot u b r') : r = r' := by
  induction h with
  | stop h => exact (h'.fix h).symm
  | @go b r h1 ih =>
    cases h' with
    | stop h2 => exact h1.fix (by rw [h2]; exact h2) |>.trans h2
    | go h2 => exact ih h2
theorem Rot.next {u : List Nat} {b r : Nat} (h : Rot u b r) : Rot u (u.getD b 0) r := by
  cases h with
  | stop h => rw [h]; exact .stop h
  | go h => exact h
theorem Rot.ex {u : List Nat} (h : Dn u) : ∀ b, b < u.length → ∃ r, Rot u b r ∧ r ≤ b := by
  intro b
  induction b using Nat.strongRecOn with
  | ind b ih =>
    intro hb
    by_cases hc : u.getD b 0 = b
    · exact ⟨b, .stop hc, Nat.le_refl _⟩
    · have h1 := h b hb
      obtain ⟨r, h2, h3⟩ := ih (u.getD b 0) (by omega) (by omega)
      exact ⟨r, .go h2, by omega⟩
theorem uset_get {u : List Nat} {b v c : Nat} (hb : b < u.length) : (u.set b v).getD c 0 = if c = b then v else u.getD c 0 := by
  by_cases h : c = b
  · subst h; simp [List.getD, hb]
  · rw [if_neg h]; simp [List.getD, List.getElem?_set_ne (Ne.symm h)]
theorem Rot.halve {u : List Nat} (h : Dn u) {b : Nat} (hb : b < u.length) : ∀ c r, c < u.length → (Rot u c r → Rot (u.set b (u.getD (u.getD b 0) 0)) c r) := by
  intro c
  induction c using Nat.strongRecOn with
  | ind c ih =>
    intro r hc hr
    by_cases hf : u.getD c 0 = c
    · have e := hr.fix hf
      subst e
      refine .stop ?_
      rw [uset_get hb]
      split
      · rename_i e; subst e; rw [hf]; exact hf
      · exact hf
    · have h1 := h c hc
      refine .go ?_
      rw [uset_get hb]
      split
      · rename_i e; subst e
        have h2 := h (u.getD c 0) (by omega)
        exact ih _ (by omega) r (by omega) hr.next.next
      · exact ih _ (by omega) r (by omega) hr.next
theorem Dn.halve {u : List Nat} (h : Dn u) {b : Nat} (hb : b < u.length) : Dn (u.set b (u.getD (u.getD b 0) 0)) := by
  intro c hc
  rw [List.length_set] at hc
  rw [uset_get hb]
  split
  · rename_i e; subst e
    have h1 := h c hc
    have h2 := h (u.getD c 0) (by omega)
    omega
  · exact h c hc
theorem Rot.join {u : List Nat} {f : Nat → Nat} (h : Dn u) (hf : ∀ c, c < u.length → Rot u c (f c)) {a b : Nat} (ha : a < u.length) (hb : b < u.length) (hlt : ∀ c, c < u.length → f c ≤ c) :
    ∀ c, c < u.length → Rot (u.set (max (f a) (f b)) (min (f a) (f b))) c (relab f a b c) := by
  have la := hlt a ha
  have lb := hlt b hb
  have hm : max (f a) (f b) < u.length := by omega
  have hmin : (u.set (max (f a) (f b)) (min (f a) (f b))).getD (min (f a) (f b)) 0 = min (f a) (f b) := by
    rw [uset_get hm]
    split
    · rfl
    · rcases Nat.le_total (f a) (f b) with hle | hle
      · rw [Nat.min_eq_left hle]; exact (hf a ha).root
      · rw [Nat.min_eq_right hle]; exact (hf b hb).root
  intro c
  induction c using Nat.strongRecOn with
  | ind c ih =>
    intro hc
    by_cases hcm : c = max (f a) (f b)
    · have hroot : u.getD c 0 = c := by
        rw [hcm]
        rcases Nat.le_total (f a) (f b) with hle | hle
        · rw [Nat.max_eq_right hle]; exact (hf b hb).root
        · rw [Nat.max_eq_left hle]; exact (hf a ha).root
      have hfc : f c = c := (hf c hc).fix hroot
      have e : relab f a b c = min (f a) (f b) := by unfold relab; rw [if_pos (by rw [hfc]; exact hcm)]
      rw [e]
      refine .go ?_
      rw [uset_get hm, if_pos hcm]
      exact .stop hmin
    · by_cases hroot : u.getD c 0 = c
      · have hfc : f c = c := (hf c hc).fix hroot
        have e : relab f a b c = c := by unfold relab; rw [if_neg (by rw [hfc]; exact hcm), hfc]
        rw [e]
        refine .stop ?_
        rw [uset_get hm, if_neg hcm]; exact hroot
      · have h1 := h c hc
        have e : f (u.getD c 0) = f c := (hf (u.getD c 0) (by omega)).uniq (hf c hc).next
        have e2 : relab f a b c = relab f a b (u.getD c 0) := by unfold relab; rw [e]
        rw [e2]
        refine .go ?_
        rw [uset_get hm, if_neg hcm]
        exact ih _ (by omega) (by omega)
def hit (s : Nat → Bool) (e : Nat × Nat) : Nat → Bool := if s e.1 || s e.2 then fun c => c == e.1 || c == e.2 || s c else s
def sweep (E : List (Nat × Nat)) (s : Nat → Bool) : Nat → Bool := E.foldl hit s
def sweeps (E : List (Nat × Nat)) (s : Nat → Bool) : Nat → Nat → Bool
  | 0 => s
  | k + 1 => sweep E (sweeps E s k)
theorem hit_mono {s : Nat → Bool} {e : Nat × Nat} {c : Nat} (h : s c = true) : hit s e c = true := by
  unfold hit; split <;> simp [h]
theorem sweep_mono (E : List (Nat × Nat)) : ∀ {s : Nat → Bool} {c : Nat}, s c = true → sweep E s c = true := by
  induction E with
  | nil => intro s c h; exact h
  | cons e E ih => intro s c h; exact ih (hit_mono h)
theorem sweep_hit (E : List (Nat × Nat)) : ∀ {s : Nat → Bool} {e : Nat × Nat}, e ∈ E → (s e.1 || s e.2) = true → sweep E s e.1 = true ∧ sweep E s e.2 = true := by
  induction E with
  | nil => intro s e h; simp at h
  | cons d E ih =>
    intro s e h hs
    rcases List.mem_cons.1 h with rfl | h
    · have h1 : hit s e e.1 = true := by unfold hit; rw [if_pos hs]; simp
      have h2 : hit s e e.2 = true := by unfold hit; rw [if_pos hs]; simp
      exact ⟨sweep_mono E h1, sweep_mono E h2⟩
    · refine ih (s := hit s d) h ?_
      rw [Bool.or_eq_true] at hs ⊢
      exact hs.imp hit_mono hit_mono
theorem sweep_sound {F : List (Nat × Nat)} {b : Nat} (E : List (Nat × Nat)) : ∀ {s : Nat → Bool}, (∀ e ∈ E, e ∈ F) → (∀ c, s c = true → Cn F b c) → ∀ c, sweep E s c = true → Cn F b c := by
  induction E with
  | nil => intro s _ h c hc; exact h c hc
  | cons e E ih =>
    intro s hE h c hc
    refine ih (s := hit s e) (fun x hx => hE x (by simp [hx])) (fun c hc => ?_) c hc
    unfold hit at hc
    split at hc
    · rename_i hs
      have he : e ∈ F := hE e (by simp)
      have h1 : Cn F b e.1 ∧ Cn F b e.2 := by
        rw [Bool.or_eq_true] at hs
        rcases hs with hs | hs
        · exact ⟨h _ hs, (h _ hs).step (.inl he)⟩
        · exact ⟨(h _ hs).step (.inr he), h _ hs⟩
      simp only [Bool.or_eq_true, beq_iff_eq] at hc
      rcases hc with (rfl | rfl) | hc
      · exact h1.1
      · exact h1.2
      · exact h c hc
    · exact h c hc
theorem sweeps_sound {E : List (Nat × Nat)} {b : Nat} (k : Nat) : ∀ c, sweeps E (fun c => c == b) k c = true → Cn E b c := by
  induction k with
  | zero => intro c hc; have : c = b := by simpa [sweeps] using hc
            subst this; exact .refl _
  | succ k ih => exact sweep_sound E (fun _ h => h) ih
theorem count_lt {p q : Nat → Bool} (l : List Nat) (h : ∀ c, p c = true → q c = true) : l.countP p ≤ l.countP q ∧ ((∃ c ∈ l, q c = true ∧ p c = false) → l.countP p + 1 ≤ l.countP q) := by
  induction l with
  | nil => exact ⟨Nat.le_refl _, fun ⟨c, hc, _⟩ => by simp at hc⟩
  | cons x l ih =>
    simp only [List.countP_cons]
    have hx := h x
    refine ⟨?_, ?_⟩
    · cases hp : p x
      · simp; omega
      · rw [hx hp]; simp; omega
    · rintro ⟨c, hc, h1, h2⟩
      rcases List.mem_cons.1 hc with rfl | hc
      · rw [h1, h2]; simp; omega
      · have := ih.2 ⟨c, hc, h1, h2⟩
        cases hp : p x
        · simp; omega
        · rw [hx hp]; simp; omega
def Shut (E : List (Nat × Nat)) (s : Nat → Bool) : Prop := ∀ e ∈ E, s e.1 = s e.2
theorem shut_stays {E : List (Nat × Nat)} {s : Nat → Bool} (h : Shut E s) : ∀ c, sweep E s c = s c := by
  have : ∀ (F : List (Nat × Nat)), (∀ e ∈ F, s e.1 = s e.2) → sweep F s = s := by
    intro F
    induction F with
    | nil => intro _; rfl
    | cons e F ih =>
      intro hF
      have he : hit s e = s := by
        have e0 := hF e (by simp)
        unfold hit
        split
        · rename_i hs
          funext c
          rw [e0, Bool.or_self] at hs
          by_cases h1 : c = e.1
          · subst h1; simp [e0, hs]
          · by_cases h2 : c = e.2
            · subst h2; simp [hs]
            · simp [h1, h2]
        · rfl
      show sweep F (hit s e) = s
      rw [he]
      exact ih fun x hx => hF x (by simp [hx])
  intro c; rw [this E h]
theorem sweeps_shut {E : List (Nat × Nat)} {B b : Nat} (hE : ∀ e ∈ E, e.1 < B ∧ e.2 < B) (hb : b < B) : ∀ k, Shut E (sweeps E (fun c => c == b) k) ∨ k + 1 ≤ (List.range B).countP (sweeps E (fun c => c == b) k) := by
  intro k
  induction k with
  | zero =>
    refine .inr ?_
    have := List.countP_pos_iff (p := fun c => c == b) (l := List.range B) |>.2 ⟨b, by simpa using hb, by simp⟩
    simpa [sweeps] using this
  | succ k ih =>
    by_cases hs : Shut E (sweeps E (fun c => c == b) k)
    · left
      have e : sweeps E (fun c => c == b) (k + 1) = sweeps E (fun c => c == b) k := funext (shut_stays hs)
      rw [e]; exact hs
    · rcases ih with ih | ih
      · exact absurd ih hs
      right
      have hm : ∀ c, sweeps E (fun c => c == b) k c = true → sweeps E (fun c => c == b) (k + 1) c = true := fun c hc => sweep_mono E hc
      obtain ⟨e, he, hne⟩ : ∃ e ∈ E, sweeps E (fun c => c == b) k e.1 ≠ sweeps E (fun c => c == b) k e.2 := by
        refine Classical.byContradiction fun hn => hs fun e he => Classical.byContradiction fun h => hn ⟨e, he, h⟩
      have hor : (sweeps E (fun c => c == b) k e.1 || sweeps E (fun c => c == b) k e.2) = true := by
        revert hne; cases sweeps E (fun c => c == b) k e.1 <;> cases sweeps E (fun c => c == b) k e.2 <;> simp
      have hh := sweep_hit E he hor
      have hlt := hE e he
      have := (count_lt (List.range B) hm).2 (by
        cases h1 : sweeps E (fun c => c == b) k e.1
        · exact ⟨e.1, by simpa using hlt.1, hh.1, h1⟩
        · cases h2 : sweeps E (fun c => c == b) k e.2
          · exact ⟨e.2, by simpa using hlt.2, hh.2, h2⟩
          · rw [h1, h2] at hne; exact absurd rfl hne)
      omega
theorem sweeps_cn {E : List (Nat × Nat)} {B b c : Nat} (hE : ∀ e ∈ E, e.1 < B ∧ e.2 < B) (hb : b < B) : sweeps E (fun c => c == b) B c = true ↔ Cn E b c := by
  refine ⟨sweeps_sound B c, fun h => ?_⟩
  have hs : Shut E (sweeps E (fun c => c == b) B) := by
    rcases sweeps_shut hE hb B with h | h
    · exact h
    · have := List.countP_le_length (p := sweeps E (fun c => c == b) B) (l := List.range B)
      simp at this; omega
  have hstart : ∀ k, sweeps E (fun c => c == b) k b = true := by
    intro k
    induction k with
    | zero => simp [sweeps]
    | succ k ih => exact sweep_mono E ih
  induction h with
  | refl => exact hstart B
  | step _ e ih =>
    rcases e with e | e
    · rw [← hs _ e]; exact ih
    · rw [hs _ e]; exact ih
end Go.Proofs.YtnplecoikgnpkaaGreatDoor
namespace Go.Proofs.YtnplecoikgnpkaaGreatDoor
set_option linter.unusedVariables false
set_option linter.unusedSimpArgs false
abbrev Ed := List (Nat × Nat)
def Fo (E : Ed) : Prop := ∀ P e Q, E = P ++ e :: Q → ¬ Cn P e.1 e.2
theorem fo_nil : Fo [] := by
  intro P e Q h
  have := congrArg List.length h
  simp at this
theorem fo_snoc {E : Ed} {e : Nat × Nat} : Fo (E ++ [e]) ↔ Fo E ∧ ¬ Cn E e.1 e.2 := by
  constructor
  · intro h
    exact ⟨fun P f Q hE => h P f (Q ++ [e]) (by rw [hE]; simp), h E e [] rfl⟩
  · rintro ⟨h1, h2⟩ P f Q hE
    rcases List.eq_nil_or_concat Q with rfl | ⟨Q', x, rfl⟩
    · obtain ⟨rfl, h3⟩ := List.append_inj' hE rfl
      obtain rfl : e = f := by simpa using h3
      exact h2
    · have hE' : E ++ [e] = (P ++ f :: Q') ++ [x] := by rw [hE]; simp
      obtain ⟨rfl, h3⟩ := List.append_inj' hE' rfl
      exact h1 P f Q' rfl
theorem fo_rm : ∀ (Q P : Ed) (e : Nat × Nat), Fo (P ++ e :: Q) → ¬ Cn (P ++ Q) e.1 e.2 := by
  refine rev_ind (P := fun Q => ∀ (P : Ed) (e : Nat × Nat), Fo (P ++ e :: Q) → ¬ Cn (P ++ Q) e.1 e.2) ?_ ?_
  · intro P e h
    rw [List.append_nil]; exact h P e [] rfl
  · rintro Q ⟨x, y⟩ ih P e h hc
    have h' : Fo ((P ++ e :: Q) ++ [(x, y)]) := by simpa using h
    rw [fo_snoc] at h'
    have hn := ih P e h'.1
    have M : ∀ {a b : Nat}, Cn (P ++ Q) a b → Cn (P ++ e :: Q) a b := fun h => h.mono fun f hf => by
      rcases List.mem_append.1 hf with hf | hf <;> simp [hf]
    have he : Cn (P ++ e :: Q) e.1 e.2 := .one (.inl (by simp))
    rw [← List.append_assoc, cn_snoc] at hc
    rcases hc with hc | ⟨h1, h2⟩ | ⟨h1, h2⟩
    · exact hn hc
    · exact h'.2 ((M h1).symm.trans (he.trans (M h2).symm))
    · exact h'.2 ((M h2).trans (he.symm.trans (M h1)))
theorem fo_sub {E F : Ed} (hs : E.Sublist F) (h : Fo F) : Fo E := by
  intro P e Q hE hc
  subst hE
  obtain ⟨F1, F2, rfl, s1, s2⟩ := List.append_sublist_iff.1 hs
  obtain ⟨G1, G2, rfl, m1, m2⟩ := List.cons_sublist_iff.1 s2
  obtain ⟨H1, H2, rfl⟩ := List.append_of_mem m1
  refine h (F1 ++ H1) e (H2 ++ G2) (by simp) (hc.mono fun f hf => ?_)
  simp [s1.subset hf]
abbrev Ln := Int × Int × Int
def edgeE (l : Ln) : Nat × Nat := (l.1.toNat, l.2.1.toNat)
def onL (z : List (Ln × Bool)) : Ed := (z.filter (·.2)).map fun p => edgeE p.1
def onE (ls : List Ln) (on : List Bool) : Ed := onL (ls.zip on)
theorem onL_app (y z : List (Ln × Bool)) : onL (y ++ z) = onL y ++ onL z := by simp [onL]
theorem onL_step {z : List (Ln × Bool)} {k : Nat} (hk : k < z.length) : onL (z.take (k + 1)) = if z[k].2 then onL (z.take k) ++ [edgeE z[k].1] else onL (z.take k) := by
  rw [List.take_succ_eq_append_getElem hk, onL_app]
  cases h : z[k].2 <;> simp [onL, h]
theorem onL_cut {z : List (Ln × Bool)} {k : Nat} (hk : k < z.length) : z = z.take k ++ z[k] :: z.drop (k + 1) := by
  rw [← List.drop_eq_getElem_cons hk, List.take_append_drop]
theorem onE_cut {ls : List Ln} {on : List Bool} {k : Nat} (hk : k < ls.length) (hl : on.length = ls.length) (ho : on.getD k false = true) :
    onE ls on = onL ((ls.zip on).take k) ++ edgeE (ls.getD k (0, 0, 0)) :: onL ((ls.zip on).drop (k + 1)) := by
  have hz : k < (ls.zip on).length := by simp; omega
  have e : (ls.zip on)[k] = (ls.getD k (0, 0, 0), true) := by
    rw [getD_ge (by omega : k < on.length)] at ho
    rw [List.getElem_zip, getD_ge hk, ho]
  have h := onL_cut hz
  unfold onE
  rw [e] at h
  conv => lhs; rw [h]
  rw [onL_app]
  simp [onL]
theorem onE_off {ls : List Ln} {on : List Bool} {k : Nat} (hk : k < ls.length) (hl : on.length = ls.length) :
    onE ls (on.set k false) = onL ((ls.zip on).take k) ++ onL ((ls.zip on).drop (k + 1)) := by
  have e : ls.zip (on.set k false) = (ls.zip on).take k ++ (ls[k], false) :: (ls.zip on).drop (k + 1) := by
    apply List.ext_getElem
    · simp; omega
    · intro i h1 h2
      have hi : i < ls.length := by simp at h1; omega
      rw [List.getElem_zip, List.getElem_set, List.getElem_append]
      have hkz : ((ls.zip on).take k).length = k := by simp; omega
      split
      · rename_i hik
        subst hik
        simp [hkz]
      · split
        · simp
        · rename_i h3 h4
          rw [hkz] at h4
          obtain ⟨j, hj⟩ : ∃ j, i - ((ls.zip on).take k).length = j + 1 := ⟨i - k - 1, by rw [hkz]; omega⟩
          simp only [hj, List.getElem_cons_succ, List.getElem_drop, List.getElem_zip]
          have : k + 1 + j = i := by rw [hkz] at hj; omega
          simp [this]
  unfold onE
  rw [e, onL_app]
  simp [onL]
theorem onE_mem {ls : List Ln} {on : List Bool} {e : Nat × Nat} : e ∈ onE ls on ↔ ∃ k, k < ls.length ∧ on.getD k false = true ∧ e = edgeE (ls.getD k (0, 0, 0)) := by
  unfold onE onL
  rw [List.mem_map]
  constructor
  · rintro ⟨p, hp, rfl⟩
    obtain ⟨h1, h2⟩ := List.mem_filter.1 hp
    obtain ⟨k, hk, rfl⟩ := List.mem_iff_getElem.1 h1
    have hk' : k < ls.length ∧ k < on.length := by rw [List.length_zip] at hk; omega
    rw [List.getElem_zip] at h2 ⊢
    exact ⟨k, hk'.1, by rw [getD_ge hk'.2]; exact h2, by rw [getD_ge hk'.1]⟩
  · rintro ⟨k, hk, ho, rfl⟩
    have hk2 : k < on.length := by
      rcases Nat.lt_or_ge k on.length with h | h
      · exact h
      · rw [List.getD_eq_getElem?_getD, List.getElem?_eq_none h] at ho; simp at ho
    refine ⟨(ls[k], on[k]), List.mem_filter.2 ⟨List.mem_iff_getElem.2 ⟨k, by simp; omega, by simp⟩, ?_⟩, by rw [getD_ge hk]⟩
    rw [getD_ge hk2] at ho
    exact ho
theorem onE_sub {ls : List Ln} : ∀ {on on' : List Bool}, on.length = on'.length → (∀ k, on.getD k false = true → on'.getD k false = true) → (onE ls on).Sublist (onE ls on') := by
  induction ls with
  | nil => intro on on' _ _; simp [onE, onL]
  | cons l ls ih =>
    intro on on' hl h
    cases on with
    | nil => simp [onE, onL]
    | cons b on =>
      cases on' with
      | nil => simp at hl
      | cons b' on' =>
        have h2 := ih (on := on) (on' := on') (by simpa using hl) (fun k hk => by have := h (k + 1); simpa using this (by simpa using hk))
        have h0 : b = true → b' = true := fun hb => by have := h 0; simpa using this (by simpa using hb)
        unfold onE onL at h2 ⊢
        cases b
        · cases b'
          · simpa using h2
          · simpa using h2.trans (List.sublist_cons_self _ _)
        · rw [h0 rfl]; simpa using h2
def cycP (ls : List Ln) (on : List Bool) : Bool := (List.range ls.length).any fun k => on.getD k false && labs (onE ls (on.set k false)) (edgeE (ls.getD k (0, 0, 0))).1 == labs (onE ls (on.set k false)) (edgeE (ls.getD k (0, 0, 0))).2
def cycB (ls : List Ln) (on : List Bool) : Bool := (List.range ls.length).any fun k => on.getD k false && labs (onL ((ls.zip on).take k)) (edgeE (ls.getD k (0, 0, 0))).1 == labs (onL ((ls.zip on).take k)) (edgeE (ls.getD k (0, 0, 0))).2
theorem fo_take {ls : List Ln} {on : List Bool} (hl : on.length = ls.length) (h : ∀ k, k < ls.length → on.getD k false = true → ¬ Cn (onL ((ls.zip on).take k)) (edgeE (ls.getD k (0, 0, 0))).1 (edgeE (ls.getD k (0, 0, 0))).2) : Fo (onE ls on) := by
  have : ∀ k, k ≤ ls.length → Fo (onL ((ls.zip on).take k)) := by
    intro k
    induction k with
    | zero => intro _; exact fo_nil
    | succ k ih =>
      intro hk
      have hz : k < (ls.zip on).length := by simp; omega
      rw [onL_step hz]
      have e1 : (ls.zip on)[k].2 = on.getD k false := by rw [getD_ge (by omega)]; simp
      have e2 : (ls.zip on)[k].1 = ls.getD k (0, 0, 0) := by rw [getD_ge (by omega)]; simp
      rw [e1, e2]
      split
      · rename_i ho
        exact fo_snoc.2 ⟨ih (by omega), h k (by omega) ho⟩
      · exact ih (by omega)
  have h2 := this ls.length (Nat.le_refl _)
  rwa [List.take_of_length_le (by simp; omega)] at h2
theorem cycB_fo {ls : List Ln} {on : List Bool} (hl : on.length = ls.length) : cycB ls on = false ↔ Fo (onE ls on) := by
  unfold cycB
  rw [List.any_eq_false]
  constructor
  · intro h
    refine fo_take hl fun k hk ho hc => h k (by simpa using hk) ?_
    rw [ho, (labs_cn _ _ _).2 hc]; simp
  · intro h k hk hc
    have hk : k < ls.length := by simpa using hk
    simp only [Bool.and_eq_true, beq_iff_eq] at hc
    exact h _ _ _ (onE_cut hk hl hc.1) ((labs_cn _ _ _).1 hc.2)
theorem cycP_fo {ls : List Ln} {on : List Bool} (hl : on.length = ls.length) : cycP ls on = false ↔ Fo (onE ls on) := by
  unfold cycP
  rw [List.any_eq_false]
  constructor
  · intro h
    refine fo_take hl fun k hk ho hc => h k (by simpa using hk) ?_
    rw [ho, onE_off hk hl, (labs_cn _ _ _).2 (hc.mono fun f hf => by simp [hf])]; simp
  · intro h k hk hc
    have hk : k < ls.length := by simpa using hk
    simp only [Bool.and_eq_true, beq_iff_eq] at hc
    rw [onE_off hk hl] at hc
    rw [onE_cut hk hl hc.1] at h
    exact fo_rm _ _ _ h ((labs_cn _ _ _).1 hc.2)
theorem cyc_eq {ls : List Ln} {on : List Bool} (hl : on.length = ls.length) : cycB ls on = cycP ls on := by
  cases h : cycP ls on
  · exact (cycB_fo hl).2 ((cycP_fo hl).1 h)
  · cases h2 : cycB ls on
    · rw [(cycP_fo hl).2 ((cycB_fo hl).1 h2)] at h; exact h
    · rfl
def feedA (pts : List (Int × Int)) (b : Nat) : Bool := decide (0 < (pts.getD b (0, 0)).1)
theorem feedA_lt {pts : List (Int × Int)} {b : Nat} (h : feedA pts b = true) : b < pts.length := by
  rcases Nat.lt_or_ge b pts.length with h1 | h1
  · exact h1
  · simp [feedA, List.getElem?_eq_none h1] at h
def twoF (E : Ed) (pts : List (Int × Int)) : Bool := (List.range pts.length).any fun k => (List.range k).any fun j => feedA pts k && feedA pts j && labs E j == labs E k
theorem twoF_iff {E : Ed} {pts : List (Int × Int)} : twoF E pts = false ↔ ∀ a b, feedA pts a = true → feedA pts b = true → Cn E a b → a = b := by
  unfold twoF
  rw [List.any_eq_false]
  constructor
  · intro h
    have key : ∀ a b, feedA pts a = true → feedA pts b = true → Cn E a b → ¬ a < b := by
      intro a b ha hb hc hlt
      refine h b (by simpa using feedA_lt hb) (List.any_eq_true.2 ⟨a, by simpa using hlt, ?_⟩)
      rw [ha, hb, (labs_cn _ _ _).2 hc]; simp
    intro a b ha hb hc
    have h1 := key a b ha hb hc
    have h2 := key b a hb ha hc.symm
    omega
  · intro h k hk hc
    obtain ⟨j, hj, h2⟩ := List.any_eq_true.1 hc
    simp only [Bool.and_eq_true, beq_iff_eq] at h2
    have := h j k h2.1.2 h2.1.1 ((labs_cn _ _ _).1 h2.2)
    have : j < k := by simpa using hj
    omega
def radP (ls : List Ln) (on : List Bool) (pts : List (Int × Int)) : Bool := !cycP ls on && !twoF (onE ls on) pts
theorem radP_iff {ls : List Ln} {on : List Bool} {pts : List (Int × Int)} (hl : on.length = ls.length) : radP ls on pts = true ↔ Fo (onE ls on) ∧ ∀ a b, feedA pts a = true → feedA pts b = true → Cn (onE ls on) a b → a = b := by
  unfold radP
  rw [Bool.and_eq_true, Bool.not_eq_true', Bool.not_eq_true', cycP_fo hl, twoF_iff]
theorem radP_sub {ls : List Ln} {on on' : List Bool} {pts : List (Int × Int)} (hl : on.length = ls.length) (hl' : on'.length = ls.length) (h : ∀ k, on.getD k false = true → on'.getD k false = true) (hr : radP ls on' pts = true) : radP ls on pts = true := by
  rw [radP_iff hl'] at hr
  rw [radP_iff hl]
  have hs := onE_sub (ls := ls) (hl.trans hl'.symm) h
  exact ⟨fo_sub hs hr.1, fun a b ha hb hc => hr.2 a b ha hb (hc.mono fun e he => hs.subset he)⟩
def fedB (E : Ed) (pts : List (Int × Int)) (b : Nat) : Bool := (List.range pts.length).any fun f => feedA pts f && labs E f == labs E b
theorem fedB_iff {E : Ed} {pts : List (Int × Int)} {b : Nat} : fedB E pts b = true ↔ ∃ f, feedA pts f = true ∧ Cn E f b := by
  unfold fedB
  rw [List.any_eq_true]
  constructor
  · rintro ⟨f, _, h⟩
    simp only [Bool.and_eq_true, beq_iff_eq] at h
    exact ⟨f, h.1, (labs_cn _ _ _).1 h.2⟩
  · rintro ⟨f, h1, h2⟩
    exact ⟨f, by simpa using feedA_lt h1, by rw [h1, (labs_cn _ _ _).2 h2]; simp⟩
theorem fedB_cn {E : Ed} {pts : List (Int × Int)} {a b : Nat} (h : fedB E pts a = true) (hc : Cn E a b) : fedB E pts b = true := by
  obtain ⟨f, h1, h2⟩ := fedB_iff.1 h
  exact fedB_iff.2 ⟨f, h1, h2.trans hc⟩
def Lk (ls : List Ln) (on : List Bool) (k b c : Nat) : Prop := k < ls.length ∧ on.getD k false = true ∧ (edgeE (ls.getD k (0, 0, 0)) = (b, c) ∨ edgeE (ls.getD k (0, 0, 0)) = (c, b))
structure Par (ls : List Ln) (on : List Bool) (pts : List (Int × Int)) (par : Nat → Int) (rk : Nat → Nat) : Prop where
  fed : ∀ b, b < pts.length → fedB (onE ls on) pts b = true → feedA pts b = true ∨ 0 ≤ par b
  feed : ∀ b, feedA pts b = true → par b < 0
  line : ∀ b, 0 ≤ par b → ∃ c, Lk ls on (par b).toNat b c ∧ c < pts.length ∧ fedB (onE ls on) pts c = true ∧ rk c < rk b
inductive Way (ls : List Ln) (on : List Bool) (par : Nat → Int) : Nat → List Nat → Prop
  | top {b : Nat} : par b < 0 → Way ls on par b []
  | step {b c : Nat} {w : List Nat} : 0 ≤ par b → Lk ls on (par b).toNat b c → Way ls on par c w → Way ls on par b (w ++ [(par b).toNat])
theorem edge_inj {ls : List Ln} {on : List Bool} {k b c d : Nat} (h : Lk ls on k b c) (h' : Lk ls on k b d) : c = d := by
  obtain ⟨_, _, h⟩ := h
  obtain ⟨_, _, h'⟩ := h'
  rcases h with h | h <;> rcases h' with h' | h' <;> rw [h] at h' <;> simp only [Prod.mk.injEq] at h' <;> omega
theorem Lk.cn {ls : List Ln} {on : List Bool} {k b c : Nat} (h : Lk ls on k b c) : Cn (onE ls on) b c := by
  obtain ⟨h1, h2, h3⟩ := h
  have hm := onE_mem.2 ⟨k, h1, h2, rfl⟩
  rcases h3 with h3 | h3 <;> rw [h3] at hm
  · exact .one (.inl hm)
  · exact .one (.inr hm)
theorem Lk.off {ls : List Ln} {on : List Bool} {k j b c : Nat} (h : Lk ls on k b c) (hj : k ≠ j) : Lk ls (on.set j false) k b c := by
  obtain ⟨h1, h2, h3⟩ := h
  exact ⟨h1, by rw [← h2]; simp [List.getD, List.getElem?_set_ne (Ne.symm hj)], h3⟩
section
variable {ls : List Ln} {on : List Bool} {pts : List (Int × Int)} {par : Nat → Int} {rk : Nat → Nat} (P : Par ls on pts par rk) (hl : on.length = ls.length)
include P
omit P in
theorem Way.uniq {b : Nat} {w v : List Nat} (h : Way ls on par b w) : Way ls on par b v → w = v := by
  induction h generalizing v with
  | top h => intro h'; cases h' with
    | top _ => rfl
    | step h2 _ _ => omega
  | step h1 h2 _ ih => intro h'; cases h' with
    | top h3 => omega
    | step h3 h4 h5 =>
      obtain rfl := edge_inj h2 h4
      rw [ih h5]
theorem Par.up {b c : Nat} (h : 0 ≤ par b) (h2 : Lk ls on (par b).toNat b c) : c < pts.length ∧ fedB (onE ls on) pts c = true ∧ rk c < rk b := by
  obtain ⟨d, h3, h4⟩ := P.line b h
  rw [edge_inj h2 h3]; exact h4
theorem Par.inj {b d : Nat} (hb : 0 ≤ par b) (hd : 0 ≤ par d) (h : par b = par d) : b = d := by
  obtain ⟨c, h1, _, _, h2⟩ := P.line b hb
  obtain ⟨e, h3, _, _, h4⟩ := P.line d hd
  rw [← h] at h3
  obtain ⟨_, _, h1⟩ := h1
  obtain ⟨_, _, h3⟩ := h3
  rcases h1 with h1 | h1 <;> rcases h3 with h3 | h3 <;> rw [h1] at h3 <;> simp only [Prod.mk.injEq] at h3 <;> obtain ⟨rfl, rfl⟩ := h3 <;> first | rfl | omega
theorem Way.mem {b : Nat} {w : List Nat} (h : Way ls on par b w) : ∀ k ∈ w, ∃ d, 0 ≤ par d ∧ (par d).toNat = k ∧ rk d ≤ rk b := by
  induction h with
  | top _ => intro k hk; simp at hk
  | @step b c w h1 h2 _ ih =>
    intro k hk
    rcases List.mem_append.1 hk with hk | hk
    · obtain ⟨d, h3, h4, h5⟩ := ih k hk
      exact ⟨d, h3, h4, by have := (P.up h1 h2).2.2; omega⟩
    · exact ⟨b, h1, (List.mem_singleton.1 hk).symm, Nat.le_refl _⟩
theorem Way.last {b c : Nat} {w : List Nat} (h1 : 0 ≤ par b) (h2 : Lk ls on (par b).toNat b c) (h : Way ls on par c w) : (par b).toNat ∉ w := by
  intro hm
  obtain ⟨d, h3, h4, h5⟩ := Way.mem P h _ hm
  have h6 := (P.up h1 h2).2.2
  have : b = d := P.inj h1 h3 (by omega)
  subst this; omega
theorem Way.under {b k : Nat} {w : List Nat} (h : Way ls on par b w) (hk : k ∈ w) : ∃ d c v, 0 ≤ par d ∧ (par d).toNat = k ∧ Lk ls on k d c ∧ Way ls on par c v ∧ k ∉ v ∧ c < pts.length ∧ fedB (onE ls on) pts c = true ∧ Cn (onE ls (on.set k false)) d b := by
  induction h with
  | top _ => simp at hk
  | @step b c w h1 h2 h3 ih =>
    have hc := P.up h1 h2
    by_cases he : k = (par b).toNat
    · subst he
      exact ⟨b, c, w, h1, rfl, h2, h3, Way.last P h1 h2 h3, hc.1, hc.2.1, .refl _⟩
    · have hm : k ∈ w := by simpa [he] using hk
      obtain ⟨d, e, v, g1, g2, g3, g4, g5, g6, g7, g8⟩ := ih hm
      exact ⟨d, e, v, g1, g2, g3, g4, g5, g6, g7, g8.trans (h2.off (Ne.symm he)).cn.symm⟩
end
end Go.Proofs.YtnplecoikgnpkaaGreatDoor
namespace Go.Proofs.YtnplecoikgnpkaaGreatDoor
set_option linter.unusedVariables false
set_option linter.unusedSimpArgs false
theorem sum_same {n : Nat} {f g : Nat → Int} (e : ∀ b, b < n → f b = g b) : ((List.range n).map f).sum = ((List.range n).map g).sum := by
  congr 1
  exact List.map_congr_left fun b hb => e b (by simpa using hb)
def sumE (E : Ed) (pts : List (Int × Int)) (f : Int × Int → Int) (b : Nat) : Int := ((List.range pts.length).map fun c => if labs E c = labs E b then f (pts.getD c (0, 0)) else 0).sum
def Up (ls : List Ln) (on : List Bool) (par : Nat → Int) (b c : Nat) : Prop := 0 ≤ par b ∧ Lk ls on (par b).toNat b c
inductive An (ls : List Ln) (on : List Bool) (par : Nat → Int) (d : Nat) : Nat → Prop
  | self : An ls on par d d
  | step {b c : Nat} : Up ls on par b c → An ls on par d c → An ls on par d b
section
variable {ls : List Ln} {on : List Bool} {pts : List (Int × Int)} {par : Nat → Int} {rk : Nat → Nat} (P : Par ls on pts par rk) (hl : on.length = ls.length)
theorem Up.inj {b c d : Nat} (h : Up ls on par b c) (h' : Up ls on par b d) : c = d := edge_inj h.2 h'.2
theorem An.trans {a b c : Nat} (h : An ls on par a b) (h' : An ls on par b c) : An ls on par a c := by
  induction h' with
  | self => exact h
  | step u _ ih => exact .step u ih
theorem An.top {o b : Nat} : An ls on par o b ↔ b = o ∨ ∃ d, Up ls on par d o ∧ An ls on par d b := by
  constructor
  · intro h
    induction h with
    | self => exact .inl rfl
    | @step b c u h ih =>
      rcases ih with rfl | ⟨d, h1, h2⟩
      · exact .inr ⟨b, u, .self⟩
      · exact .inr ⟨d, h1, .step u h2⟩
  · rintro (rfl | ⟨d, h1, h2⟩)
    · exact .self
    · exact An.trans (.step h1 .self) h2
theorem An.chain {d e b : Nat} (h : An ls on par d b) (h' : An ls on par e b) : An ls on par d e ∨ An ls on par e d := by
  induction h with
  | self => exact .inr h'
  | @step b c u h ih =>
    cases h' with
    | self => exact .inl (.step u h)
    | step u' h2 =>
      obtain rfl := u.inj u'
      exact ih h2
include P
theorem Up.fed {b c : Nat} (u : Up ls on par b c) : fedB (onE ls on) pts b = true := fedB_cn (P.up u.1 u.2).2.1 u.2.cn.symm
theorem An.fed {d b : Nat} (h : An ls on par d b) (hd : fedB (onE ls on) pts d = true) : fedB (onE ls on) pts b = true := by
  induction h with
  | self => exact hd
  | step u _ _ => exact Up.fed P u
omit P
include P
end
end Go.Proofs.YtnplecoikgnpkaaGreatDoor
namespace Go.Proofs.YtnplecoikgnpkaaGreatDoor
set_option linter.unusedVariables false
set_option linter.unusedSimpArgs false
def lineV (b : Int) (l : Ln) : Bool := inB l.1 0 (b - 1) && inB l.2.1 0 (b - 1) && !(l.1 == l.2.1) && inB l.2.2 1 999
def netV (b : Int) (ls : List Ln) : Bool := inB b 1 8 && decide (ls.length ≤ 10) && !(List.range ls.length).any fun k => !lineV b (ls.getD k (0, 0, 0))
def busV (p : Int × Int) : Bool := inB p.1 0 999 && inB p.2 0 999
def busesV (b : Int) (ls : List Ln) (pts : List (Int × Int)) : Bool := netV b ls && decide ((pts.length : Int) = b) && !(List.range pts.length).any fun k => !busV (pts.getD k (0, 0))
def stV (b : Int) (ls : List Ln) (on : List Bool) : Bool := netV b ls && decide (on.length = ls.length)
def okV (b : Int) (ls : List Ln) (on : List Bool) (pts : List (Int × Int)) : Bool := stV b ls on && busesV b ls pts
def radB (b : Int) (ls : List Ln) (on : List Bool) (pts : List (Int × Int)) : Bool := okV b ls on pts && radP ls on pts
structure LnOk (b : Int) (l : Ln) : Prop where
  a : 0 ≤ l.1 ∧ l.1 < b
  b : 0 ≤ l.2.1 ∧ l.2.1 < b
  ne : l.1 ≠ l.2.1
  m : 1 ≤ l.2.2 ∧ l.2.2 ≤ 999
structure NetOk (b : Int) (ls : List Ln) : Prop where
  b0 : 1 ≤ b
  b1 : b ≤ 8
  ll : ls.length ≤ 10
  ln : ∀ k, k < ls.length → LnOk b (ls.getD k (0, 0, 0))
theorem lineV_iff {b : Int} {l : Ln} : lineV b l = true ↔ LnOk b l := by
  simp only [lineV, Bool.and_eq_true, inB_iff, Bool.not_eq_true', beq_eq_false_iff_ne]
  constructor
  · rintro ⟨⟨⟨h1, h2⟩, h3⟩, h4⟩; exact ⟨by omega, by omega, h3, h4⟩
  · intro h; have := h.a; have := h.b; exact ⟨⟨⟨by omega, by omega⟩, h.ne⟩, h.m⟩
theorem netV_iff {b : Int} {ls : List Ln} : netV b ls = true ↔ NetOk b ls := by
  unfold netV
  rw [Bool.and_eq_true, any_f, Bool.and_eq_true, inB_iff, decide_eq_true_eq]
  constructor
  · rintro ⟨⟨h1, h2⟩, h3⟩; exact ⟨h1.1, h1.2, h2, fun k hk => lineV_iff.1 (by have := h3 k hk; simpa using this)⟩
  · intro h; exact ⟨⟨⟨h.b0, h.b1⟩, h.ll⟩, fun k hk => by rw [lineV_iff.2 (h.ln k hk)]; rfl⟩
structure BusOk (b : Int) (ls : List Ln) (pts : List (Int × Int)) : Prop where
  net : NetOk b ls
  lp : (pts.length : Int) = b
  bs : ∀ k, k < pts.length → (0 ≤ (pts.getD k (0, 0)).1 ∧ (pts.getD k (0, 0)).1 ≤ 999) ∧ (0 ≤ (pts.getD k (0, 0)).2 ∧ (pts.getD k (0, 0)).2 ≤ 999)
theorem busesV_iff {b : Int} {ls : List Ln} {pts : List (Int × Int)} : busesV b ls pts = true ↔ BusOk b ls pts := by
  unfold busesV
  rw [Bool.and_eq_true, any_f, Bool.and_eq_true, netV_iff, decide_eq_true_eq]
  constructor
  · rintro ⟨⟨h1, h2⟩, h3⟩; exact ⟨h1, h2, fun k hk => by have := h3 k hk; simpa [busV, inB_iff] using this⟩
  · intro h; exact ⟨⟨h.net, h.lp⟩, fun k hk => by
      have h2 : busV (pts.getD k (0, 0)) = true := by unfold busV; rw [Bool.and_eq_true, inB_iff, inB_iff]; exact h.bs k hk
      rw [h2]; rfl⟩
theorem sorted_ext : ∀ {l m : List Int}, l.Pairwise (· < ·) → m.Pairwise (· < ·) → (∀ x, x ∈ l ↔ x ∈ m) → l = m
  | [], [], _, _, _ => rfl
  | [], y :: m, _, _, h => by have := (h y).2 (by simp); simp at this
  | x :: l, [], _, _, h => by have := (h x).1 (by simp); simp at this
  | x :: l, y :: m, hl, hm, h => by
    rw [List.pairwise_cons] at hl hm
    have hxy : x = y := by
      rcases List.mem_cons.1 ((h x).1 (by simp)) with h1 | h1
      · exact h1
      · rcases List.mem_cons.1 ((h y).2 (by simp)) with h2 | h2
        · exact h2.symm
        · have := hm.1 x h1; have := hl.1 y h2; omega
    subst hxy
    rw [sorted_ext hl.2 hm.2 fun z => ?_]
    constructor
    · intro hz
      rcases List.mem_cons.1 ((h z).1 (by simp [hz])) with h1 | h1
      · subst h1; have := hl.1 z hz; omega
      · exact h1
    · intro hz
      rcases List.mem_cons.1 ((h z).2 (by simp [hz])) with h1 | h1
      · subst h1; have := hm.1 z hz; omega
      · exact h1
def insS (a : Int) (l : List Int) : List Int := l.filter (fun x => decide (x < a)) ++ a :: l.filter (fun x => decide (a < x))
theorem insS_mem {a : Int} {l : List Int} {x : Int} : x ∈ insS a l ↔ x = a ∨ x ∈ l := by
  simp only [insS, List.mem_append, List.mem_cons, List.mem_filter, decide_eq_true_eq]
  constructor
  · rintro (⟨h, _⟩ | h | ⟨h, _⟩)
    · exact .inr h
    · exact .inl h
    · exact .inr h
  · rintro (h | h)
    · exact .inr (.inl h)
    · rcases Int.lt_trichotomy x a with h1 | h1 | h1
      · exact .inl ⟨h, h1⟩
      · exact .inr (.inl h1)
      · exact .inr (.inr ⟨h, h1⟩)
theorem insS_sorted {a : Int} {l : List Int} (h : l.Pairwise (· < ·)) : (insS a l).Pairwise (· < ·) := by
  unfold insS
  rw [List.pairwise_append, List.pairwise_cons]
  refine ⟨h.sublist List.filter_sublist, ⟨fun x hx => ?_, h.sublist List.filter_sublist⟩, fun x hx y hy => ?_⟩
  · have := (List.mem_filter.1 hx).2; simpa using this
  · have h1 : x < a := by have := (List.mem_filter.1 hx).2; simpa using this
    rcases List.mem_cons.1 hy with rfl | hy
    · exact h1
    · have : a < y := by have := (List.mem_filter.1 hy).2; simpa using this
      omega
theorem sorted_of_adj {l : List Int} (h : ∀ k, k + 1 < l.length → l.getD k 0 < l.getD (k + 1) 0) : l.Pairwise (· < ·) := by
  rw [List.pairwise_iff_getElem]
  have key : ∀ d i, i + d + 1 < l.length → l.getD i 0 < l.getD (i + d + 1) 0 := by
    intro d
    induction d with
    | zero => intro i hi; exact h i hi
    | succ d ih =>
      intro i hi
      have h1 := ih i (by omega)
      have h2 := h (i + d + 1) (by omega)
      have e : i + (d + 1) + 1 = i + d + 1 + 1 := by omega
      rw [e]; omega
  intro i j hi hj hij
  have := key (j - i - 1) i (by omega)
  rw [show i + (j - i - 1) + 1 = j by omega, getD_ge hi, getD_ge hj] at this
  exact this
theorem adj_of_sorted {l : List Int} (h : l.Pairwise (· < ·)) {k : Nat} (hk : k + 1 < l.length) : l.getD k 0 < l.getD (k + 1) 0 := by
  rw [List.pairwise_iff_getElem] at h
  rw [getD_ge (by omega), getD_ge hk]
  exact h k (k + 1) (by omega) hk (by omega)
@[ext] structure Wd where
  b : Int
  ls : List Ln
  pts : List (Int × Int)
  on : List Bool
  earth : List Bool
  pm : Pm
  br : List Int
def Wd.wk (w : Wd) : Wk := (w.on, w.earth, w.pm)
def Wd.put (w : Wd) (k : Wk) : Wd := ⟨w.b, w.ls, w.pts, k.1, k.2.1, k.2.2, w.br⟩
def Wd.zero : Wd := ⟨0, [], [], [], [], [], []⟩
def brAt (on : List Bool) (br : List Int) (k : Nat) : Bool := (decide (0 ≤ br.getD k 0) && decide (br.getD k 0 < (on.length : Int))) && !on.getD (br.getD k 0).toNat false && (decide (k = 0) || decide (br.getD (k - 1) 0 < br.getD k 0))
def brV (on : List Bool) (br : List Int) : Bool := !(List.range br.length).any fun k => !brAt on br k
def wv (w : Wd) : Bool := busesV w.b w.ls w.pts && workV w.on w.earth w.pm && decide (w.on.length = w.ls.length) && brV w.on w.br && radP w.ls w.on w.pts
structure WdOk (w : Wd) : Prop where
  bus : BusOk w.b w.ls w.pts
  work : WOk w.wk
  len : w.on.length = w.ls.length
  inn : ∀ x ∈ w.br, (0 ≤ x ∧ x < (w.on.length : Int)) ∧ w.on.getD x.toNat false = false
  sor : w.br.Pairwise (· < ·)
  rad : radP w.ls w.on w.pts = true
theorem brV_iff {on : List Bool} {br : List Int} : brV on br = true ↔ (∀ x ∈ br, (0 ≤ x ∧ x < (on.length : Int)) ∧ on.getD x.toNat false = false) ∧ br.Pairwise (· < ·) := by
  unfold brV
  rw [any_f]
  constructor
  · intro h
    have h1 : ∀ k, k < br.length → (0 ≤ br.getD k 0 ∧ br.getD k 0 < (on.length : Int)) ∧ on.getD (br.getD k 0).toNat false = false ∧ (k = 0 ∨ br.getD (k - 1) 0 < br.getD k 0) := by
      intro k hk
      have := h k hk
      simpa only [brAt, Bool.not_eq_false', Bool.and_eq_true, Bool.or_eq_true, decide_eq_true_eq, Bool.not_eq_true', and_assoc] using this
    refine ⟨fun x hx => ?_, sorted_of_adj fun k hk => ?_⟩
    · obtain ⟨k, hk, rfl⟩ := List.mem_iff_getElem.1 hx
      have := h1 k hk
      rw [getD_ge hk] at this
      exact ⟨this.1, this.2.1⟩
    · rcases (h1 (k + 1) hk).2.2 with h2 | h2
      · omega
      · simpa using h2
  · rintro ⟨h1, h2⟩ k hk
    have h3 := h1 (br.getD k 0) (by rw [getD_ge hk]; exact List.getElem_mem hk)
    have h4 : k = 0 ∨ br.getD (k - 1) 0 < br.getD k 0 := by
      rcases Nat.eq_zero_or_pos k with h | h
      · exact .inl h
      · obtain ⟨j, rfl⟩ : ∃ j, k = j + 1 := ⟨k - 1, by omega⟩
        exact .inr (adj_of_sorted h2 hk)
    have : brAt on br k = true := by simpa only [brAt, Bool.and_eq_true, Bool.or_eq_true, decide_eq_true_eq, Bool.not_eq_true', and_assoc] using ⟨h3.1.1, h3.1.2, h3.2, h4⟩
    rw [this]; rfl
theorem wv_iff {w : Wd} : wv w = true ↔ WdOk w := by
  unfold wv
  rw [Bool.and_eq_true, Bool.and_eq_true, Bool.and_eq_true, Bool.and_eq_true, busesV_iff, decide_eq_true_eq, brV_iff]
  constructor
  · rintro ⟨⟨⟨⟨h1, h2⟩, h3⟩, h4, h5⟩, h6⟩; exact ⟨h1, wok_iff.1 h2, h3, h4, h5, h6⟩
  · intro h; exact ⟨⟨⟨⟨h.bus, wok_iff.2 h.work⟩, h.len⟩, h.inn, h.sor⟩, h.rad⟩
def wdDo (w : Wd) (kd a who : Int) : Wd × Bool :=
  if wv w = true then
    if 0 ≤ a ∧ a < (w.on.length : Int) then
      if kd = 6 ∧ a ∉ w.br then ({ w with on := w.on.set a.toNat false, br := insS a w.br }, true)
      else if kd = 7 ∧ a ∈ w.br ∧ (who, a) ∈ w.pm then ({ w with br := w.br.filter fun x => x != a }, true)
      else if kd = 0 ∧ a ∈ w.br then (w, false)
      else if (wkDo w.wk kd a who).2 = true ∧ radP w.ls (wkDo w.wk kd a who).1.1 w.pts = true then (w.put (wkDo w.wk kd a who).1, true)
      else (w, false)
    else (w, false)
  else (.zero, false)
theorem put_on {w : Wk} {kd a who : Int} (h : kd ≠ 0) : ∀ k, (wkPut w kd a who).1.getD k false = true → w.1.getD k false = true := by
  intro k hk
  unfold wkPut at hk
  rw [if_neg h] at hk
  split at hk
  · by_cases e : a.toNat = k
    · subst e
      rcases Nat.lt_or_ge a.toNat w.1.length with h1 | h1
      · rw [gset h1] at hk; cases hk
      · rw [gout (by simpa using h1)] at hk; cases hk
    · rwa [gset_ne e] at hk
  · split at hk
    · exact hk
    · split at hk
      · exact hk
      · split at hk <;> exact hk
theorem put_on_len (w : Wk) (kd a who : Int) : (wkPut w kd a who).1.length = w.1.length := (put_len w kd a who).1
theorem wkDo_on {w : Wk} (hw : WOk w) {kd a who : Int} : (wkDo w kd a who).1.1.length = w.1.length ∧ (kd ≠ 0 → ∀ k, (wkDo w kd a who).1.1.getD k false = true → w.1.getD k false = true) := by
  rcases do_cases hw kd a who with ⟨h, _⟩ | ⟨h, _⟩
  · rw [h]; exact ⟨put_on_len _ _ _ _, fun h0 => put_on h0⟩
  · rw [h]; exact ⟨rfl, fun _ k hk => hk⟩
theorem wkDo_rad {w : Wd} (h : WdOk w) {kd a who : Int} (h0 : kd ≠ 0) : radP w.ls (wkDo w.wk kd a who).1.1 w.pts = true := by
  have h1 := wkDo_on h.work (kd := kd) (a := a) (who := who)
  exact radP_sub (h1.1.trans h.len) h.len (h1.2 h0) h.rad
theorem wd_put_ok {w : Wd} (h : WdOk w) {k : Wk} (hk : WOk k) (hl : k.1.length = w.on.length) (hbr : ∀ x ∈ w.br, k.1.getD x.toNat false = false) (hr : radP w.ls k.1 w.pts = true) : WdOk (w.put k) :=
  ⟨h.bus, hk, hl.trans h.len, fun x hx => ⟨by have := (h.inn x hx).1; show 0 ≤ x ∧ x < (k.1.length : Int); rw [hl]; exact this, hbr x hx⟩, h.sor, hr⟩
theorem wkDo_wok {w : Wk} (h : WOk w) (kd a who : Int) : WOk (wkDo w kd a who).1 := by
  rcases do_cases h kd a who with ⟨h1, _, _, h2⟩ | ⟨h1, _⟩
  · rw [h1]; exact h2
  · rw [h1]; exact h
theorem wdDo_ok {w : Wd} (h : WdOk w) (kd a who : Int) : WdOk (wdDo w kd a who).1 := by
  unfold wdDo
  rw [if_pos (wv_iff.2 h)]
  split
  · rename_i ha
    split
    · rename_i h6
      have hal : a.toNat < w.on.length := by omega
      have hsub : ∀ k, (w.on.set a.toNat false).getD k false = true → w.on.getD k false = true := by
        intro k hk
        by_cases e : a.toNat = k
        · subst e; rw [gset hal] at hk; cases hk
        · rwa [gset_ne e] at hk
      have hw := h.work
      refine ⟨h.bus, ⟨by simpa [Wd.wk] using hw.l0, by simpa [Wd.wk] using hw.l1, by simpa [Wd.wk] using hw.le, hw.lp, fun k hk => hw.ne k (hsub k hk), fun p hp => ?_, hw.nd⟩, by simpa using h.len, fun x hx => ?_, insS_sorted h.sor, radP_sub (by simpa using h.len) h.len hsub h.rad⟩
      · have := hw.pm p hp
        simpa [Wd.wk] using this
      · dsimp only at hx ⊢
        rcases insS_mem.1 hx with rfl | hx
        · exact ⟨by simpa using ha, gset hal⟩
        · have := h.inn x hx
          refine ⟨by simpa using this.1, ?_⟩
          cases hc : (w.on.set a.toNat false).getD x.toNat false
          · rfl
          · rw [hsub _ hc] at this; exact this.2
    · split
      · exact ⟨h.bus, h.work, h.len, fun x hx => h.inn x (List.mem_filter.1 hx).1, h.sor.sublist List.filter_sublist, h.rad⟩
      · split
        · exact h
        · rename_i h6 h7 h0
          split
          · rename_i hr
            have h1 := wkDo_on h.work (kd := kd) (a := a) (who := who)
            refine wd_put_ok h (wkDo_wok h.work kd a who) h1.1 (fun x hx => ?_) hr.2
            have hi := h.inn x hx
            by_cases hk : kd = 0
            · subst hk
              have hne : a ≠ x := fun e => h0 ⟨rfl, e ▸ hx⟩
              rcases do_cases h.work 0 a who with ⟨g, _⟩ | ⟨g, _⟩
              · rw [g]
                show (w.on.set a.toNat true).getD x.toNat false = false
                rw [gset_ne (by omega)]; exact hi.2
              · rw [g]; exact hi.2
            · cases hc : (wkDo w.wk kd a who).1.1.getD x.toNat false
              · rfl
              · have h2 := h1.2 hk _ hc
                rw [show w.wk.1 = w.on from rfl] at h2
                rw [h2] at hi; exact hi.2
          · exact h
  · exact h
theorem wdDo_net (w : Wd) (h : wv w = true) (kd a who : Int) : (wdDo w kd a who).1.b = w.b ∧ (wdDo w kd a who).1.ls = w.ls ∧ (wdDo w kd a who).1.pts = w.pts := by
  unfold wdDo
  rw [if_pos h]
  repeat' split
  all_goals exact ⟨rfl, rfl, rfl⟩
theorem wdDo_same {w : Wd} (h : WdOk w) {kd a who : Int} (hf : (wdDo w kd a who).2 = false) : (wdDo w kd a who).1 = w := by
  unfold wdDo at hf ⊢
  rw [if_pos (wv_iff.2 h)] at hf ⊢
  split <;> rename_i ha
  · rw [if_pos ha] at hf
    split <;> rename_i h6
    · rw [if_pos h6] at hf; cases hf
    · rw [if_neg h6] at hf
      split <;> rename_i h7
      · rw [if_pos h7] at hf; cases hf
      · rw [if_neg h7] at hf
        split <;> rename_i h0
        · rfl
        · rw [if_neg h0] at hf
          split <;> rename_i hr
          · rw [if_pos hr] at hf; cases hf
          · rfl
  · rfl
end Go.Proofs.YtnplecoikgnpkaaGreatDoor
namespace Go.Proofs.YtnplecoikgnpkaaGreatDoor
set_option linter.unusedVariables false
set_option linter.unusedSimpArgs false
theorem loop_rel {σ Out : Type} (L : Nat → σ → Option Out) (R : Nat → σ → Prop) (n : Nat) (fin : σ → Option Out) (hn : n ≤ 1099511627776)
    (hstep : ∀ k fuel s, k < n → R k s → ∃ s', R (k + 1) s' ∧ L (fuel + 1) s = L fuel s') (hend : ∀ fuel s, R n s → L (fuel + 1) s = fin s) (s : σ) (h0 : R 0 s) : ∃ s', R n s' ∧ L FUEL s = fin s' := by
  have go : ∀ j k fuel s, k + j = n → j < fuel → R k s → ∃ s', R n s' ∧ L fuel s = fin s' := by
    intro j
    induction j with
    | zero =>
      intro k fuel s hk hf hr
      obtain ⟨f, rfl⟩ : ∃ f, fuel = f + 1 := ⟨fuel - 1, by omega⟩
      obtain rfl : k = n := by omega
      exact ⟨s, hr, hend f s hr⟩
    | succ j ih =>
      intro k fuel s hk hf hr
      obtain ⟨f, rfl⟩ : ∃ f, fuel = f + 1 := ⟨fuel - 1, by omega⟩
      obtain ⟨s', h1, h2⟩ := hstep k f s (by omega) hr
      rw [h2]
      exact ih (k + 1) f s' (by omega) (by omega) h1
  exact go n 0 FUEL s (by omega) (fuel_gt hn) h0
theorem loop_hunt {σ Out : Type} (L : Nat → σ → Option Out) (R : Nat → σ → Prop) (n : Nat) (P : Nat → Bool) (fv out : Option Out) (hn : n ≤ 1099511627776)
    (hstep : ∀ k fuel s, k < n → R k s → (P k = true ∧ L (fuel + 1) s = fv) ∨ (P k = false ∧ ∃ s', R (k + 1) s' ∧ L (fuel + 1) s = L fuel s')) (hend : ∀ fuel s, R n s → L (fuel + 1) s = out) (s : σ) (h0 : R 0 s) :
    L FUEL s = bif (List.range n).any P then fv else out := by
  have go : ∀ j k fuel s, k + j = n → j < fuel → R k s → L fuel s = bif (List.range' k j).any P then fv else out := by
    intro j
    induction j with
    | zero =>
      intro k fuel s hk hf hr
      obtain ⟨f, rfl⟩ : ∃ f, fuel = f + 1 := ⟨fuel - 1, by omega⟩
      obtain rfl : k = n := by omega
      simpa using hend f s hr
    | succ j ih =>
      intro k fuel s hk hf hr
      obtain ⟨f, rfl⟩ : ∃ f, fuel = f + 1 := ⟨fuel - 1, by omega⟩
      rw [List.range'_succ, List.any_cons]
      rcases hstep k f s (by omega) hr with ⟨h1, h2⟩ | ⟨h1, s', h2, h3⟩
      · rw [h1, h2]; rfl
      · rw [h1, h3, ih (k + 1) f s' (by omega) (by omega) h2]; rfl
  rw [go n 0 FUEL s (by omega) (fuel_gt hn) h0, List.range_eq_range']
theorem ltN (b : Int) : (ltB b 1 || ltB 8 b) = !inB b 1 8 := by rw [Bool.eq_iff_iff]; simp [ltB, inB] <;> omega
theorem lt10 (n : Nat) : ltB 10 (n : Int) = !decide (n ≤ 10) := by rw [Bool.eq_iff_iff]; simp [ltB]; omega
theorem len_beq (a b : Nat) : ((a : Int) == (b : Int)) = decide (a = b) := by rw [Bool.eq_iff_iff]; simp <;> omega
theorem lineV_i (b : Int) (l : Ln) : lineV b l = ((leB 0 l.1 && ltB l.1 b) && (leB 0 l.2.1 && ltB l.2.1 b) && !(l.1 == l.2.1) && (!ltB l.2.2 1 && !ltB 999 l.2.2)) := by
  rw [Bool.eq_iff_iff]; simp [lineV, inB, leB, ltB] <;> omega
theorem iNet (b : Int) (ls : List Ln) : m_impl_NetValid b ls = some (netV b ls) := by
  unfold m_impl_NetValid netV
  rw [ltN, lt10]
  cases h1 : inB b 1 8
  · rfl
  by_cases hl : ls.length ≤ 10
  · have h := loop_find (m_impl_NetValid_l1 b ls) (fun k => (k : Int)) ls.length (fun k => !lineV b (ls.getD k (0, 0, 0))) (some (.inr false)) (some (.inl ())) (by omega) (fun k fuel hk => ?_) (fun fuel => ?_)
    · rw [show m_impl_NetValid_l1 b ls FUEL 0 = _ from h, decide_eq_true hl]
      cases (List.range ls.length).any fun k => !lineV b (ls.getD k (0, 0, 0)) <;> rfl
    · rw [m_impl_NetValid_l1.eq_2]
      simp only [lt_dec hk, ix_dec hk, chk_true, cond_true, Int.toNat_natCast, w64_succ (by omega : k < 4611686018427387904), m_impl_Net_hasBus, Option.bind_some]
      generalize ls.getD k (0, 0, 0) = l
      rw [lineV_i]
      cases leB 0 l.1 && ltB l.1 b <;> cases leB 0 l.2.1 && ltB l.2.1 b <;> cases l.1 == l.2.1 <;> cases ltB l.2.2 1 <;> cases ltB 999 l.2.2 <;> rfl
    · rw [m_impl_NetValid_l1.eq_2]; simp only [nlt_dec, cond_false]
  · rw [decide_eq_false hl]; rfl
theorem sNet (b : Int) (ls : List Ln) : m_spec_NetValid b ls = some (netV b ls) := by
  unfold m_spec_NetValid netV m_spec_l1In
  rw [lt10, inB_le]
  cases h1 : leB 1 b && leB b 8
  · rfl
  by_cases hl : ls.length ≤ 10
  · have hb : 1 ≤ b ∧ b ≤ 8 := by simpa [leB] using h1
    have w1 : w64 (b - 1) = b - 1 := w64_in (by omega) (by omega)
    have h := loop_find (m_spec_NetValid_l1 b ls) (fun k => (k : Int)) ls.length (fun k => !lineV b (ls.getD k (0, 0, 0))) (some (.inr false)) (some (.inl ())) (by omega) (fun k fuel hk => ?_) (fun fuel => ?_)
    · rw [show m_spec_NetValid_l1 b ls FUEL 0 = _ from h, decide_eq_true hl]
      cases (List.range ls.length).any fun k => !lineV b (ls.getD k (0, 0, 0)) <;> rfl
    · rw [m_spec_NetValid_l1.eq_2]
      simp only [lt_dec hk, ix_dec hk, chk_true, cond_true, Int.toNat_natCast, w64_succ (by omega : k < 4611686018427387904), m_spec_l1In, Option.bind_some, w1]
      generalize ls.getD k (0, 0, 0) = l
      unfold lineV
      rw [inB_le, inB_le, inB_le]
      cases leB 0 l.1 && leB l.1 (b - 1) <;> cases leB 0 l.2.1 && leB l.2.1 (b - 1) <;> cases l.1 == l.2.1 <;> cases leB 1 l.2.2 && leB l.2.2 999 <;> rfl
    · rw [m_spec_NetValid_l1.eq_2]; simp only [nlt_dec, cond_false]
  · rw [decide_eq_false hl]; rfl
section
variable (b : Int) (ls : List Ln) (pts : List (Int × Int)) (hp : pts.length ≤ 1048576)
include hp
theorem iBuses : m_impl_BusesValid b ls pts = some (busesV b ls pts) := by
  unfold m_impl_BusesValid busesV
  rw [iNet, Option.bind_some]
  have e : ((pts.length : Int) != b) = !decide ((pts.length : Int) = b) := by rw [Bool.eq_iff_iff]; simp
  rw [e]
  have h := loop_find (m_impl_BusesValid_l1 pts) (fun k => (k : Int)) pts.length (fun k => !busV (pts.getD k (0, 0))) (some (.inr false)) (some (.inl ())) (by omega) (fun k fuel hk => ?_) (fun fuel => ?_)
  · rw [show m_impl_BusesValid_l1 pts FUEL 0 = _ from h]
    cases netV b ls <;> cases decide ((pts.length : Int) = b) <;> cases (List.range pts.length).any fun k => !busV (pts.getD k (0, 0)) <;> rfl
  · rw [m_impl_BusesValid_l1.eq_2]
    simp only [lt_dec hk, ix_dec hk, chk_true, cond_true, Int.toNat_natCast, w64_succ (by omega : k < 4611686018427387904), m_impl_powerValid, Option.bind_some]
    generalize pts.getD k (0, 0) = p
    unfold busV
    rw [inB_le, inB_le]
    cases leB 0 p.1 && leB p.1 999 <;> cases leB 0 p.2 && leB p.2 999 <;> rfl
  · rw [m_impl_BusesValid_l1.eq_2]; simp only [nlt_dec, cond_false]
theorem sBuses : m_spec_BusesValid b ls pts = some (busesV b ls pts) := by
  unfold m_spec_BusesValid busesV
  rw [sNet]
  have e : ((pts.length : Int) == b) = decide ((pts.length : Int) = b) := by rw [Bool.eq_iff_iff]; simp
  rw [e]
  have h := loop_find (m_spec_BusesValid_l1 pts) (fun k => (k : Int)) pts.length (fun k => !busV (pts.getD k (0, 0))) (some (.inr false)) (some (.inl ())) (by omega) (fun k fuel hk => ?_) (fun fuel => ?_)
  · rw [show m_spec_BusesValid_l1 pts FUEL 0 = _ from h]
    cases netV b ls <;> cases decide ((pts.length : Int) = b) <;> cases (List.range pts.length).any fun k => !busV (pts.getD k (0, 0)) <;> rfl
  · rw [m_spec_BusesValid_l1.eq_2]
    simp only [lt_dec hk, ix_dec hk, chk_true, cond_true, Int.toNat_natCast, w64_succ (by omega : k < 4611686018427387904), m_spec_l1In, Option.bind_some, Bool.or_true]
    generalize pts.getD k (0, 0) = p
    unfold busV
    rw [inB_le, inB_le]
    cases leB 0 p.1 && leB p.1 999 <;> cases leB 0 p.2 && leB p.2 999 <;> rfl
  · rw [m_spec_BusesValid_l1.eq_2]; simp only [nlt_dec, cond_false]
omit hp in
theorem iState (on : List Bool) : m_impl_StateValid b ls on = some (stV b ls on) := by
  unfold m_impl_StateValid stV; rw [iNet, len_beq]; rfl
omit hp in
theorem sState (on : List Bool) : m_spec_StateValid b ls on = some (stV b ls on) := by
  unfold m_spec_StateValid stV; rw [sNet, len_beq]; rfl
theorem iFed (on : List Bool) : m_impl_fedValid b ls on pts = some (okV b ls on pts) := by
  unfold m_impl_fedValid okV
  rw [iState, iBuses b ls pts hp]
  cases stV b ls on <;> cases busesV b ls pts <;> rfl
theorem sFed (on : List Bool) : m_spec_l5Ok b ls on pts = some (okV b ls on pts) := by
  unfold m_spec_l5Ok okV
  rw [sState, sBuses b ls pts hp]
  cases stV b ls on <;> cases busesV b ls pts <;> rfl
end
structure StOk (b : Int) (ls : List Ln) (on : List Bool) : Prop where
  net : NetOk b ls
  len : on.length = ls.length
theorem stV_iff {b : Int} {ls : List Ln} {on : List Bool} : stV b ls on = true ↔ StOk b ls on := by
  unfold stV
  rw [Bool.and_eq_true, netV_iff, decide_eq_true_eq]
  exact ⟨fun h => ⟨h.1, h.2⟩, fun h => ⟨h.1, h.2⟩⟩
theorem okV_iff {b : Int} {ls : List Ln} {on : List Bool} {pts : List (Int × Int)} : okV b ls on pts = true ↔ StOk b ls on ∧ BusOk b ls pts := by
  unfold okV; rw [Bool.and_eq_true, stV_iff, busesV_iff]
def zl (u : List Nat) : List Int := u.map fun (n : Nat) => (n : Int)
theorem zl_len (u : List Nat) : (zl u).length = u.length := by simp [zl]
theorem zl_get (u : List Nat) (k : Nat) : (zl u).getD k 0 = ((u.getD k 0 : Nat) : Int) := by
  unfold zl
  rcases Nat.lt_or_ge k u.length with h | h
  · simp [List.getD, h]
  · simp [List.getD, List.getElem?_eq_none h]
theorem zl_set (u : List Nat) (k v : Nat) : (zl u).set k (v : Int) = zl (u.set k v) := by simp [zl, List.map_set]
structure UR (u : List Nat) (B : Nat) (f : Nat → Nat) : Prop where
  len : u.length = B
  dn : Dn u
  rot : ∀ c, c < B → Rot u c (f c)
theorem UR.le {u : List Nat} {B : Nat} {f : Nat → Nat} (h : UR u B f) {c : Nat} (hc : c < B) : f c ≤ c := by
  obtain ⟨r, h1, h2⟩ := Rot.ex h.dn c (by rw [h.len]; exact hc)
  rw [(h.rot c hc).uniq h1]; exact h2
theorem find_l {u0 : List Nat} {B : Nat} {f : Nat → Nat} (h0 : u0.length = B) : ∀ (c fuel : Nat) (u : List Nat), c < fuel → UR u B f → c < B → ∃ v, m_impl_union_find_l1 (zl u0) fuel (zl u, (c : Int)) = some (((f c : Nat) : Int), zl v) ∧ UR v B f := by
  intro c
  induction c using Nat.strongRecOn with
  | ind c ih =>
    intro fuel u hf hu hc
    obtain ⟨g, rfl⟩ : ∃ g, fuel = g + 1 := ⟨fuel - 1, by omega⟩
    rw [m_impl_union_find_l1.eq_2]
    have hx : ∀ d, d < B → ixB (d : Int) (zl u0).length = true := fun d hd => by rw [zl_len, h0]; exact ix_dec hd
    simp only [hx c hc, chk_true, Int.toNat_natCast, zl_get]
    by_cases hr : u.getD c 0 = c
    · have e : (((u.getD c 0 : Nat) : Int) != (c : Int)) = false := by rw [hr]; simp
      rw [e, (hu.rot c hc).fix hr]
      exact ⟨u, rfl, hu⟩
    · have e : (((u.getD c 0 : Nat) : Int) != (c : Int)) = true := by simp only [bne_iff_ne, ne_eq]; omega
      have h1 := hu.dn c (by rw [hu.len]; exact hc)
      have h2 := hu.dn (u.getD c 0) (by rw [hu.len]; omega)
      simp only [e, cond_true, hx _ (show u.getD c 0 < B by omega), chk_true, Int.toNat_natCast, zl_get]
      have h3 : (zl u).set c ((u.getD (u.getD c 0) 0 : Nat) : Int) = zl (u.set c (u.getD (u.getD c 0) 0)) := zl_set _ _ _
      rw [h3, zl_get, uset_get (by rw [hu.len]; exact hc), if_pos rfl]
      have hcl : c < u.length := by rw [hu.len]; exact hc
      have hv : UR (u.set c (u.getD (u.getD c 0) 0)) B f := ⟨by rw [List.length_set]; exact hu.len, hu.dn.halve hcl, fun d hd => Rot.halve hu.dn hcl d _ (by rw [hu.len]; exact hd) (hu.rot d hd)⟩
      obtain ⟨v, i1, i2⟩ := ih (u.getD (u.getD c 0) 0) (by omega) g _ (by omega) hv (by omega)
      have hf2 : f (u.getD (u.getD c 0) 0) = f c := (hu.rot _ (by omega)).uniq ((hu.rot c hc).next.next)
      rw [hf2] at i1
      exact ⟨v, i1, i2⟩
theorem iFindU {u : List Nat} {B : Nat} {f : Nat → Nat} (h : UR u B f) (hB : B ≤ 1099511627776) {c : Nat} (hc : c < B) : ∃ v, m_impl_union_find (zl u) (c : Int) = some (((f c : Nat) : Int), zl v) ∧ UR v B f := by
  obtain ⟨v, h1, h2⟩ := find_l h.len c FUEL u (fuel_gt (by omega)) h hc
  refine ⟨v, ?_, h2⟩
  unfold m_impl_union_find
  rw [h1]; rfl
theorem iSame {u : List Nat} {B : Nat} {f : Nat → Nat} (h : UR u B f) (hB : B ≤ 1099511627776) {a c : Nat} (ha : a < B) (hc : c < B) : ∃ v, m_impl_union_same (zl u) (a : Int) (c : Int) = some (decide (f a = f c), zl v) ∧ UR v B f := by
  obtain ⟨v, h1, h2⟩ := iFindU h hB ha
  obtain ⟨x, h3, h4⟩ := iFindU h2 hB hc
  refine ⟨x, ?_, h4⟩
  unfold m_impl_union_same
  rw [h1, Option.bind_some, h3, Option.bind_some]
  have : (((f a : Nat) : Int) == ((f c : Nat) : Int)) = decide (f a = f c) := by rw [Bool.eq_iff_iff]; simp; omega
  rw [this]
theorem iJoin {u : List Nat} {B : Nat} {f : Nat → Nat} (h : UR u B f) (hB : B ≤ 1099511627776) {a c : Nat} (ha : a < B) (hc : c < B) : ∃ v, m_impl_union_join (zl u) (a : Int) (c : Int) = some (zl v) ∧ UR v B (relab f a c) := by
  obtain ⟨v, h1, h2⟩ := iFindU h hB ha
  obtain ⟨x, h3, h4⟩ := iFindU h2 hB hc
  have la := h.le ha
  have lc := h.le hc
  refine ⟨x.set (max (f a) (f c)) (min (f a) (f c)), ?_, ?_⟩
  · unfold m_impl_union_join
    rw [h1, Option.bind_some, h3, Option.bind_some]
    have e1 : max ((f a : Nat) : Int) ((f c : Nat) : Int) = ((max (f a) (f c) : Nat) : Int) := by omega
    have e2 : min ((f a : Nat) : Int) ((f c : Nat) : Int) = ((min (f a) (f c) : Nat) : Int) := by omega
    have hx : ixB ((max (f a) (f c) : Nat) : Int) (zl u).length = true := by rw [zl_len, h.len]; exact ix_dec (by omega)
    rw [e1, e2, hx, chk_true, Int.toNat_natCast]
    exact congrArg some (zl_set _ _ _)
  · have hlen := h4.len
    refine ⟨by rw [List.length_set]; exact hlen, fun d hd => ?_, fun d hd => Rot.join h4.dn (fun c hc => h4.rot c (by omega)) (by omega) (by omega) (fun c hc => h4.le (by omega)) d (by omega)⟩
    rw [List.length_set] at hd
    rw [uset_get (by omega)]
    split
    · omega
    · exact h4.dn d hd
theorem iNew {B : Nat} (hB : B ≤ 1099511627776) : m_impl_newUnion (B : Int) = some (zl (List.range B)) ∧ UR (List.range B) B id := by
  refine ⟨?_, by simp, fun b hb => ?_, fun c hc => ?_⟩
  · unfold m_impl_newUnion
    have hm : mkB (B : Int) = true := by simp [mkB]; omega
    rw [hm, chk_true, Int.toNat_natCast]
    have h := loop_all (m_impl_newUnion_l1 (B : Int)) (fun k => ((List.range B).map (fun (i : Nat) => if i < k then (i : Int) else 0), (k : Int))) B (some (zl (List.range B))) (by omega) (fun k fuel hk => ?_) (fun fuel => ?_)
    · have e : (List.range B).map (fun (i : Nat) => if i < 0 then (i : Int) else 0) = List.replicate B (0 : Int) := by
        apply List.ext_getElem (by simp)
        intro i h1 h2
        simp
      rw [e] at h
      rw [show m_impl_newUnion_l1 (B : Int) FUEL (List.replicate B (0 : Int), 0) = _ from h]; rfl
    · rw [m_impl_newUnion_l1.eq_2]
      simp only [Int.toNat_natCast, lt_dec hk, ix_dec hk, cond_true, chk_true, w64_succ (by omega : k < 4611686018427387904)]
      congr 2
      apply List.ext_getElem (by simp)
      intro i h1 h2
      rw [List.getElem_set]
      simp only [List.getElem_map, List.getElem_range]
      split
      · rename_i e; subst e; rw [if_pos (by omega)]
      · by_cases hi : i < k
        · rw [if_pos hi, if_pos (by omega)]
        · rw [if_neg hi, if_neg (by omega)]
    · rw [m_impl_newUnion_l1.eq_2]
      simp only [Int.toNat_natCast, nlt_dec, cond_false]
      congr 1
      unfold zl
      refine List.map_congr_left fun i hi => ?_
      rw [if_pos (by simpa using hi)]
  · have hb : b < B := by simpa using hb
    simp [List.getD, hb]
  · exact .stop (by simp [List.getD, hc])
theorem ln_nat {b : Int} {l : Ln} (h : LnOk b l) : l.1 = (((edgeE l).1 : Nat) : Int) ∧ l.2.1 = (((edgeE l).2 : Nat) : Int) ∧ (edgeE l).1 < b.toNat ∧ (edgeE l).2 < b.toNat := by
  have := h.a; have := h.b
  unfold edgeE
  dsimp only
  omega
section
variable {b : Int} {ls : List Ln} {on : List Bool} (h : StOk b ls on)
include h
theorem zip_at {k : Nat} (hk : k < ls.length) : onL ((ls.zip on).take (k + 1)) = if on.getD k false then onL ((ls.zip on).take k) ++ [edgeE (ls.getD k (0, 0, 0))] else onL ((ls.zip on).take k) := by
  have hl := h.len
  have hz : k < (ls.zip on).length := by simp; omega
  rw [onL_step hz, getD_ge (by omega : k < on.length), getD_ge hk]
  simp
theorem zip_all : onL ((ls.zip on).take ls.length) = onE ls on := by
  have hl := h.len
  unfold onE
  rw [List.take_of_length_le (by simp; omega)]
theorem iCyc : m_impl_hasCycle b ls on = some (cycB ls on) := by
  have hb := h.net.b0; have hb1 := h.net.b1; have hll := h.net.ll; have hl := h.len
  obtain ⟨B, rfl⟩ : ∃ B : Nat, b = (B : Int) := ⟨b.toNat, by omega⟩
  obtain ⟨n1, n2⟩ := iNew (B := B) (by omega)
  unfold m_impl_hasCycle cycB
  rw [n1, Option.bind_some]
  have hh := loop_hunt (m_impl_hasCycle_l1 ls on) (fun k s => ∃ u, s = (zl u, (k : Int)) ∧ UR u B (labs (onL ((ls.zip on).take k)))) ls.length
    (fun k => on.getD k false && labs (onL ((ls.zip on).take k)) (edgeE (ls.getD k (0, 0, 0))).1 == labs (onL ((ls.zip on).take k)) (edgeE (ls.getD k (0, 0, 0))).2) (some (.inr true)) (some (.inl ())) (by omega) ?_ ?_ (zl (List.range B), 0) ⟨_, rfl, n2⟩
  · rw [hh]
    cases (List.range ls.length).any _ <;> rfl
  · rintro k fuel s hk ⟨u, rfl, hu⟩
    rw [m_impl_hasCycle_l1.eq_2]
    have hln := ln_nat (h.net.ln k hk)
    simp only [Int.toNat_natCast] at hln
    simp only [lt_dec hk, ix_dec hk, ix_dec (show k < on.length by omega), chk_true, cond_true, Int.toNat_natCast, w64_succ (by omega : k < 4611686018427387904)]
    rw [hln.1, hln.2.1]
    cases ho : on.getD k false
    · right
      refine ⟨rfl, (zl u, ((k + 1 : Nat) : Int)), ⟨u, rfl, ?_⟩, rfl⟩
      rw [zip_at h hk, ho]; exact hu
    · obtain ⟨v, s1, s2⟩ := iSame hu (by omega) hln.2.2.1 hln.2.2.2
      simp only [cond_true, s1, Option.bind_some]
      by_cases he : labs (onL ((ls.zip on).take k)) (edgeE (ls.getD k (0, 0, 0))).1 = labs (onL ((ls.zip on).take k)) (edgeE (ls.getD k (0, 0, 0))).2
      · left
        rw [decide_eq_true he]
        exact ⟨by rw [he]; simp, rfl⟩
      · right
        obtain ⟨x, j1, j2⟩ := iJoin s2 (by omega) hln.2.2.1 hln.2.2.2
        rw [decide_eq_false he]
        simp only [cond_false, j1, Option.bind_some]
        refine ⟨by simpa using he, (zl x, ((k + 1 : Nat) : Int)), ⟨x, rfl, ?_⟩, rfl⟩
        rw [zip_at h hk, ho, if_pos rfl, labs_snoc]; exact j2
  · rintro fuel s ⟨u, rfl, hu⟩
    rw [m_impl_hasCycle_l1.eq_2]; simp only [nlt_dec, cond_false]
end
def bl (B : Nat) (s : Nat → Bool) : List Bool := (List.range B).map s
theorem bl_len (B : Nat) (s : Nat → Bool) : (bl B s).length = B := by simp [bl]
theorem bl_get {B c : Nat} {s : Nat → Bool} (h : c < B) : (bl B s).getD c false = s c := by simp [bl, List.getD, h]
theorem bl_set {B a : Nat} {s : Nat → Bool} (h : a < B) : (bl B s).set a true = bl B (fun c => c == a || s c) := by
  apply List.ext_getElem (by simp [bl])
  intro i h1 h2
  rw [List.getElem_set]
  simp only [bl, List.getElem_map, List.getElem_range]
  split
  · rename_i e; subst e; simp
  · rename_i e
    have : (i == a) = false := by simpa using fun e2 => e e2.symm
    rw [this]; rfl
theorem bl_congr {B : Nat} {s t : Nat → Bool} (h : ∀ c, c < B → s c = t c) : bl B s = bl B t := List.map_congr_left fun c hc => h c (by simpa using hc)
theorem sweep_snoc (E : Ed) (e : Nat × Nat) (s : Nat → Bool) : sweep (E ++ [e]) s = hit (sweep E s) e := by unfold sweep; rw [List.foldl_append]; rfl
section
variable {B : Nat} {ls : List Ln} {on : List Bool} (h : StOk (B : Int) ls on)
include h
theorem sReach_l2 (s : Nat → Bool) : m_spec_l3Reach_l2 (B : Int) ls on FUEL (bl B s, 0) = some (bl B (sweep (onE ls on) s)) := by
  have hll := h.net.ll; have hl := h.len
  have hh := loop_all (m_spec_l3Reach_l2 (B : Int) ls on) (fun k => (bl B (sweep (onL ((ls.zip on).take k)) s), (k : Int))) ls.length (some (bl B (sweep (onE ls on) s))) (by omega) (fun k fuel hk => ?_) (fun fuel => ?_)
  · exact hh
  · rw [m_spec_l3Reach_l2.eq_2]
    have hln := ln_nat (h.net.ln k hk)
    simp only [Int.toNat_natCast] at hln
    simp only [lt_dec hk, ix_dec hk, ix_dec (show k < on.length by omega), chk_true, cond_true, Int.toNat_natCast, w64_succ (by omega : k < 4611686018427387904)]
    rw [hln.1, hln.2.1]
    rw [zip_at h hk]
    generalize edgeE (ls.getD k (0, 0, 0)) = e at *
    simp only [ix_dec hln.2.2.1, ix_dec hln.2.2.2, Int.toNat_natCast, Bool.or_true, chk_true, bl_len, bl_get hln.2.2.1, bl_get hln.2.2.2]
    cases ho : on.getD k false
    · rfl
    · rw [if_pos rfl, sweep_snoc]
      generalize sweep (onL ((ls.zip on).take k)) s = t
      unfold hit
      rw [Bool.true_and]
      cases t e.1 || t e.2
      · rfl
      · simp only [cond_true, Option.bind_some, if_true]
        rw [bl_set hln.2.2.1, bl_set hln.2.2.2]
        congr 2
        refine bl_congr fun c hc => ?_
        cases c == e.1 <;> cases c == e.2 <;> rfl
  · rw [m_spec_l3Reach_l2.eq_2]
    simp only [nlt_dec, cond_false]
    rw [zip_all h]
theorem sReach {b : Nat} (hb : b < B) : m_spec_l3Reach (B : Int) ls on (b : Int) = some (bl B (sweeps (onE ls on) (fun c => c == b) B)) := by
  have h1 := h.net.b1
  unfold m_spec_l3Reach
  have hm : mkB (B : Int) = true := by simp [mkB]; omega
  rw [hm, chk_true, Int.toNat_natCast, ix_dec hb, chk_true, Int.toNat_natCast]
  have e : (List.replicate B false).set b true = bl B (fun c => c == b) := by
    apply List.ext_getElem (by simp [bl])
    intro i h1 h2
    rw [List.getElem_set]
    simp only [bl, List.getElem_map, List.getElem_range, List.getElem_replicate]
    split
    · rename_i e; subst e; simp
    · rename_i e; symm; simpa using fun e2 => e e2.symm
  have hh := loop_all (m_spec_l3Reach_l1 (B : Int) ls on) (fun k => (bl B (sweeps (onE ls on) (fun c => c == b) k), (k : Int))) B (some (bl B (sweeps (onE ls on) (fun c => c == b) B))) (by omega) (fun k fuel hk => ?_) (fun fuel => ?_)
  · rw [e, show m_spec_l3Reach_l1 (B : Int) ls on FUEL (bl B (fun c => c == b), 0) = _ from hh]; rfl
  · rw [m_spec_l3Reach_l1.eq_2]
    simp only [lt_dec hk, cond_true, sReach_l2 h, Option.bind_some, w64_succ (by omega : k < 4611686018427387904)]
    rfl
  · rw [m_spec_l3Reach_l1.eq_2]; simp only [nlt_dec, cond_false]
theorem st_lt : ∀ e ∈ onE ls on, e.1 < B ∧ e.2 < B := by
  intro e he
  obtain ⟨k, hk, _, rfl⟩ := onE_mem.1 he
  have := ln_nat (h.net.ln k hk)
  simp only [Int.toNat_natCast] at this
  exact ⟨this.2.2.1, this.2.2.2⟩
theorem sweeps_labs {b : Nat} (hb : b < B) (c : Nat) : sweeps (onE ls on) (fun c => c == b) B c = (labs (onE ls on) b == labs (onE ls on) c) := by
  rw [Bool.eq_iff_iff, sweeps_cn (st_lt h) hb, beq_iff_eq, labs_cn]
def reachL (E : Ed) (B b : Nat) : List Nat := (List.range B).filter fun c => labs E b == labs E c
theorem sReached {b : Nat} (hb : b < B) : m_spec_Reached (B : Int) ls on (b : Int) = some (zl (reachL (onE ls on) B b)) := by
  have h1 := h.net.b1
  unfold m_spec_Reached m_spec_l1In
  have w1 : w64 ((B : Int) - 1) = (B : Int) - 1 := w64_in (by omega) (by omega)
  have c1 : (leB 0 (b : Int) && leB (b : Int) ((B : Int) - 1)) = true := by simp [leB]; omega
  rw [sState, stV_iff.2 h, Option.bind_some, w1, c1]
  simp only [Bool.not_true, Bool.not_false, gb_true, Option.bind_some, Bool.or_self, cond_false, sReach h hb]
  have e : bl B (sweeps (onE ls on) (fun c => c == b) B) = bl B (fun c => labs (onE ls on) b == labs (onE ls on) c) := bl_congr fun c _ => sweeps_labs h hb c
  rw [e]
  have hh := loop_all (m_spec_Reached_l1 (B : Int) (bl B (fun c => labs (onE ls on) b == labs (onE ls on) c))) (fun k => (zl ((List.range k).filter fun c => labs (onE ls on) b == labs (onE ls on) c), (k : Int))) B (some (zl (reachL (onE ls on) B b))) (by omega) (fun k fuel hk => ?_) (fun fuel => ?_)
  · rw [show m_spec_Reached_l1 (B : Int) _ FUEL (([] : List Int), 0) = _ from hh]; rfl
  · rw [m_spec_Reached_l1.eq_2]
    have hl : (zl ((List.range k).filter fun c => labs (onE ls on) b == labs (onE ls on) c)).length ≤ k := by
      rw [zl_len]; have := List.length_filter_le (fun c => labs (onE ls on) b == labs (onE ls on) c) (List.range k); simpa using this
    have ha : ∀ x : Int, apB (zl ((List.range k).filter fun c => labs (onE ls on) b == labs (onE ls on) c)).length [x].length = true := fun x => by simp [apB]; omega
    simp only [lt_dec hk, cond_true, bl_len, ix_dec hk, chk_true, Int.toNat_natCast, bl_get hk, ha, w64_succ (by omega : k < 4611686018427387904)]
    rw [List.range_succ, List.filter_append]
    cases hc : labs (onE ls on) b == labs (onE ls on) k
    · simp [hc, List.filter_cons]
    · simp [hc, List.filter_cons, zl]
  · rw [m_spec_Reached_l1.eq_2]; simp only [nlt_dec, cond_false]; rfl
omit h in
theorem sHas (l : List Int) (x : Int) (hl : l.length ≤ 1099511627776) : m_spec_l1Has l x = some (decide (x ∈ l)) := by
  unfold m_spec_l1Has
  have hh := loop_find (m_spec_l1Has_l1 l x) (fun k => (k : Int)) l.length (fun k => l.getD k 0 == x) (some (.inr true)) (some (.inl ())) hl (fun k fuel hk => ?_) (fun fuel => ?_)
  · rw [show m_spec_l1Has_l1 l x FUEL 0 = _ from hh, any_list l 0 (fun y => y == x)]
    have : l.any (fun y => y == x) = decide (x ∈ l) := by
      rw [Bool.eq_iff_iff, List.any_eq_true, decide_eq_true_eq]
      exact ⟨fun ⟨y, h1, h2⟩ => by rw [← (beq_iff_eq.1 h2)]; exact h1, fun h => ⟨x, h, by simp⟩⟩
    rw [this]
    cases decide (x ∈ l) <;> rfl
  · rw [m_spec_l1Has_l1.eq_2]
    simp only [lt_dec hk, ix_dec hk, chk_true, cond_true, Int.toNat_natCast, w64_succ (by omega : k < 4611686018427387904)]
  · rw [m_spec_l1Has_l1.eq_2]; simp only [nlt_dec, cond_false]
omit h in
theorem zl_mem {l : List Nat} {c : Nat} : (c : Int) ∈ zl l ↔ c ∈ l := by
  simp only [zl, List.mem_map]
  constructor
  · rintro ⟨a, h1, h2⟩; have : a = c := by omega
    subst this; exact h1
  · intro h; exact ⟨c, h, rfl⟩
omit h in
theorem reachL_len (E : Ed) (B b : Nat) : (reachL E B b).length ≤ B := by
  unfold reachL; have := List.length_filter_le (fun c => labs E b == labs E c) (List.range B); simpa using this
theorem sSame {a c : Nat} (ha : a < B) (hc : c < B) : m_spec_SameIsland (B : Int) ls on (a : Int) (c : Int) = some (labs (onE ls on) a == labs (onE ls on) c) := by
  have h1 := h.net.b1
  unfold m_spec_SameIsland
  have hl := reachL_len (onE ls on) B a
  rw [sReached h ha, Option.bind_some, sHas _ _ (by rw [zl_len]; omega), Option.bind_some]
  have : decide ((c : Int) ∈ zl (reachL (onE ls on) B a)) = (labs (onE ls on) a == labs (onE ls on) c) := by
    rw [Bool.eq_iff_iff, decide_eq_true_eq, zl_mem]
    simp [reachL, hc]
  rw [this]
def cyAt (ls : List Ln) (on : List Bool) (k : Nat) : Bool := on.getD k false && labs (onE ls (on.set k false)) (edgeE (ls.getD k (0, 0, 0))).1 == labs (onE ls (on.set k false)) (edgeE (ls.getD k (0, 0, 0))).2
theorem off_ok (k : Nat) : StOk (B : Int) ls (on.set k false) := ⟨h.net, by rw [List.length_set]; exact h.len⟩
theorem sCyc : m_spec_HasCycle (B : Int) ls on = some (cycP ls on) := by
  have hll := h.net.ll; have hl := h.len
  unfold m_spec_HasCycle m_spec_CycleLines
  have hh := loop_all (m_spec_CycleLines_l1 (B : Int) ls on) (fun k => (zl ((List.range k).filter (cyAt ls on)), (k : Int))) ls.length
    (some (zl ((List.range ls.length).filter (cyAt ls on)))) (by omega) (fun k fuel hk => ?_) (fun fuel => ?_)
  · rw [show m_spec_CycleLines_l1 (B : Int) ls on FUEL (([] : List Int), 0) = _ from hh]
    simp only [Option.bind_some, zl_len]
    congr 1
    show ltB 0 (((List.range ls.length).filter (cyAt ls on)).length : Int) = (List.range ls.length).any (cyAt ls on)
    rw [Bool.eq_iff_iff, ltB, decide_eq_true_eq, List.any_eq_true]
    constructor
    · intro h1
      obtain ⟨k, hk⟩ := List.exists_mem_of_length_pos (show 0 < ((List.range ls.length).filter (cyAt ls on)).length by omega)
      obtain ⟨h2, h3⟩ := List.mem_filter.1 hk
      exact ⟨k, h2, h3⟩
    · rintro ⟨k, h2, h3⟩
      have := List.length_pos_of_mem (List.mem_filter.2 ⟨h2, h3⟩)
      omega
  · rw [m_spec_CycleLines_l1.eq_2]
    have hln := ln_nat (h.net.ln k hk)
    simp only [Int.toNat_natCast] at hln
    have hkn : k < on.length := by omega
    have w1 : w64 ((on.length : Int) - 1) = (on.length : Int) - 1 := w64_in (by omega) (by omega)
    have c1 : (leB 0 (k : Int) && leB (k : Int) ((on.length : Int) - 1)) = true := by simp [leB]; omega
    have a1 : apB ([] : List Bool).length on.length = true := by simp [apB]; omega
    have hl2 := List.length_filter_le (cyAt ls on) (List.range k)
    rw [List.length_range] at hl2
    have ha : ∀ x : Int, apB (zl ((List.range k).filter (cyAt ls on))).length [x].length = true := fun x => by rw [zl_len]; simp [apB]; omega
    have hsw : m_spec_SwitchLine (B : Int) ls on (k : Int) false = some (on.set k false, true) := by
      unfold m_spec_SwitchLine m_spec_l2Copy m_spec_l1In
      rw [sState, stV_iff.2 h]
      simp only [Option.bind_some, cond_true, a1, chk_true, List.nil_append, w1, c1, ix_dec hkn, Int.toNat_natCast]
    have hsame := sSame (off_ok h k) hln.2.2.1 hln.2.2.2
    rw [sState, stV_iff.2 h]
    simp only [lt_dec hkn, gb_true, Option.bind_some, Bool.and_self, cond_true, hsw, ix_dec hkn, ix_dec hk, Bool.or_true, chk_true, Int.toNat_natCast, ha, w64_succ (by omega : k < 4611686018427387904)]
    rw [hln.1, hln.2.1, hsame, List.range_succ, List.filter_append]
    have hcy : cyAt ls on k = (on.getD k false && labs (onE ls (on.set k false)) (edgeE (ls.getD k (0, 0, 0))).1 == labs (onE ls (on.set k false)) (edgeE (ls.getD k (0, 0, 0))).2) := rfl
    rw [List.filter_cons, List.filter_nil, hcy]
    cases ho : on.getD k false
    · simp [gb]
    · cases hc : labs (onE ls (on.set k false)) (edgeE (ls.getD k (0, 0, 0))).1 == labs (onE ls (on.set k false)) (edgeE (ls.getD k (0, 0, 0))).2
      · simp [gb]
      · simp [gb, zl]
  · rw [m_spec_CycleLines_l1.eq_2]
    have : ltB (ls.length : Int) (on.length : Int) = false := by rw [hl]; exact nlt_dec
    simp only [this, gb_false, Option.bind_some, Bool.false_and, cond_false]
end
end Go.Proofs.YtnplecoikgnpkaaGreatDoor
namespace Go.Proofs.YtnplecoikgnpkaaGreatDoor
set_option linter.unusedVariables false
set_option linter.unusedSimpArgs false
theorem loop_both {σ Out : Type} (L : Nat → σ → Option Out) (R : Nat → σ → Prop) (n : Nat) (X : Prop) (fv : Option Out) (fin : σ → Option Out) (hn : n ≤ 1099511627776)
    (hstep : ∀ k fuel s, k < n → R k s → (X ∧ L (fuel + 1) s = fv) ∨ (∃ s', R (k + 1) s' ∧ L (fuel + 1) s = L fuel s')) (hend : ∀ fuel s, R n s → L (fuel + 1) s = fin s) (s : σ) (h0 : R 0 s) :
    (X ∧ L FUEL s = fv) ∨ ∃ s', R n s' ∧ L FUEL s = fin s' := by
  have go : ∀ j k fuel s, k + j = n → j < fuel → R k s → (X ∧ L fuel s = fv) ∨ ∃ s', R n s' ∧ L fuel s = fin s' := by
    intro j
    induction j with
    | zero =>
      intro k fuel s hk hf hr
      obtain ⟨f, rfl⟩ : ∃ f, fuel = f + 1 := ⟨fuel - 1, by omega⟩
      obtain rfl : k = n := by omega
      exact .inr ⟨s, hr, hend f s hr⟩
    | succ j ih =>
      intro k fuel s hk hf hr
      obtain ⟨f, rfl⟩ : ∃ f, fuel = f + 1 := ⟨fuel - 1, by omega⟩
      rcases hstep k f s (by omega) hr with h | ⟨s', h1, h2⟩
      · exact .inl h
      · rw [h2]; exact ih (k + 1) f s' (by omega) (by omega) h1
  exact go n 0 FUEL s (by omega) (fuel_gt hn) h0
structure TI (B : Nat) (ls : List Ln) (on : List Bool) (pts : List (Int × Int)) (K : Nat) (feed parent : List Int) (ord : List Nat) : Prop where
  lf : feed.length = B
  lp : parent.length = B
  nd : ord.Nodup
  lt : ∀ b ∈ ord, b < B
  mem : ∀ b, b < B → (b ∈ ord ↔ 0 ≤ feed.getD b 0)
  snd : ∀ b ∈ ord, ∃ g, g < K ∧ feedA pts g = true ∧ feed.getD b 0 = (g : Int) ∧ Cn (onE ls on) g b
  own : ∀ g, g < K → feedA pts g = true → g ∈ ord ∧ parent.getD g 0 = -1
  out : ∀ b, b < B → b ∉ ord → parent.getD b 0 = -1
  par : ∀ b ∈ ord, (feedA pts b = true ∧ b < K) ∨ ∃ j c, parent.getD b 0 = ((j : Nat) : Int) ∧ Lk ls on j b c ∧ c ∈ ord ∧ ord.idxOf c < ord.idxOf b
theorem idx_app {l : List Nat} {a c : Nat} (h : a ∈ l) : (l ++ [c]).idxOf a = l.idxOf a := by rw [List.idxOf_append, if_pos h]
theorem idx_last {l : List Nat} {c : Nat} (h : c ∉ l) : (l ++ [c]).idxOf c = l.length := by
  rw [List.idxOf_append, if_neg h]; simp
theorem nodup_len : ∀ (B : Nat) (l : List Nat), l.Nodup → (∀ b ∈ l, b < B) → l.length ≤ B
  | 0, l, _, h => by
    cases l with
    | nil => simp
    | cons x l => have := h x (by simp); omega
  | B + 1, l, hn, h => by
    by_cases hm : B ∈ l
    · have h1 := nodup_len B (l.erase B) (hn.erase B) (fun b hb => by
        have h2 := (hn.mem_erase_iff).1 hb
        have := h b h2.2
        have := h2.1
        omega)
      rw [List.length_erase_of_mem hm] at h1
      omega
    · have h1 := nodup_len B l hn (fun b hb => by
        have := h b hb
        have : b ≠ B := fun e => hm (e ▸ hb)
        omega)
      omega
theorem nodup_snoc {l : List Nat} {c : Nat} (h : l.Nodup) (hc : c ∉ l) : (l ++ [c]).Nodup := by
  rw [List.nodup_append]
  exact ⟨h, by simp, fun a ha b hb => by obtain rfl : b = c := by simpa using hb
                                         exact fun e => hc (e ▸ ha)⟩
section
variable {B : Nat} {ls : List Ln} {on : List Bool} {pts : List (Int × Int)} {K : Nat} {feed parent : List Int} {ord : List Nat}
theorem TI.add (T : TI B ls on pts K feed parent ord) {f b c j : Nat} (hf : f < K) (hff : feedA pts f = true) (hb : b ∈ ord) (hfb : Cn (onE ls on) f b) (hl : Lk ls on j b c) (hc : c < B) (hn : c ∉ ord) : TI B ls on pts K (feed.set c (f : Int)) (parent.set c (j : Int)) (ord ++ [c]) := by
  have hcf : c < feed.length := by rw [T.lf]; exact hc
  have hcp : c < parent.length := by rw [T.lp]; exact hc
  have hne : ∀ x ∈ ord, c ≠ x := fun x hx e => hn (e ▸ hx)
  refine ⟨by rw [List.length_set]; exact T.lf, by rw [List.length_set]; exact T.lp, nodup_snoc T.nd hn, fun x hx => ?_, fun x hx => ?_, fun x hx => ?_, fun g hg hgf => ?_, fun x hx hxn => ?_, fun x hx => ?_⟩
  · rcases List.mem_append.1 hx with hx | hx
    · exact T.lt x hx
    · obtain rfl : x = c := by simpa using hx
      exact hc
  · by_cases e : c = x
    · subst e; rw [gset hcf]; simp
    · rw [gset_ne e, ← T.mem x hx]; simp [Ne.symm e]
  · rcases List.mem_append.1 hx with hx | hx
    · rw [gset_ne (hne x hx)]; exact T.snd x hx
    · obtain rfl : x = c := by simpa using hx
      rw [gset hcf]; exact ⟨f, hf, hff, rfl, hfb.trans hl.cn⟩
  · have := T.own g hg hgf
    rw [gset_ne (hne g this.1)]; exact ⟨by simp [this.1], this.2⟩
  · have h1 : x ∉ ord ∧ x ≠ c := by simpa using hxn
    rw [gset_ne (Ne.symm h1.2)]; exact T.out x hx h1.1
  · rcases List.mem_append.1 hx with hx | hx
    · rw [gset_ne (hne x hx)]
      rcases T.par x hx with h | ⟨i, d, h1, h2, h3, h4⟩
      · exact .inl h
      · exact .inr ⟨i, d, h1, h2, by simp [h3], by rw [idx_app h3, idx_app hx]; exact h4⟩
    · obtain rfl : x = c := by simpa using hx
      refine .inr ⟨j, b, gset hcp, ?_, by simp [hb], ?_⟩
      · obtain ⟨h1, h2, h3⟩ := hl
        exact ⟨h1, h2, h3.symm⟩
      · rw [idx_app hb, idx_last hn]; exact List.idxOf_lt_length_iff.2 hb
theorem TI.start (T : TI B ls on pts K feed parent ord) (hK : K < B) (hff : feedA pts K = true) (hn : K ∉ ord) : TI B ls on pts (K + 1) (feed.set K (K : Int)) parent (ord ++ [K]) := by
  have hcf : K < feed.length := by rw [T.lf]; exact hK
  have hne : ∀ x ∈ ord, K ≠ x := fun x hx e => hn (e ▸ hx)
  refine ⟨by rw [List.length_set]; exact T.lf, T.lp, nodup_snoc T.nd hn, fun x hx => ?_, fun x hx => ?_, fun x hx => ?_, fun g hg hgf => ?_, fun x hx hxn => ?_, fun x hx => ?_⟩
  · rcases List.mem_append.1 hx with hx | hx
    · exact T.lt x hx
    · obtain rfl : x = K := by simpa using hx
      exact hK
  · by_cases e : K = x
    · subst e; rw [gset hcf]; simp
    · rw [gset_ne e, ← T.mem x hx]; simp [Ne.symm e]
  · rcases List.mem_append.1 hx with hx | hx
    · rw [gset_ne (hne x hx)]
      obtain ⟨g, h1, h2⟩ := T.snd x hx
      exact ⟨g, by omega, h2⟩
    · obtain rfl : x = K := by simpa using hx
      rw [gset hcf]; exact ⟨x, by omega, hff, rfl, .refl _⟩
  · by_cases e : g = K
    · subst e; exact ⟨by simp, T.out g hK hn⟩
    · have := T.own g (by omega) hgf
      exact ⟨by simp [this.1], this.2⟩
  · have h1 : x ∉ ord ∧ x ≠ K := by simpa using hxn
    exact T.out x hx h1.1
  · rcases List.mem_append.1 hx with hx | hx
    · rcases T.par x hx with h | ⟨i, d, h1, h2, h3, h4⟩
      · exact .inl ⟨h.1, by omega⟩
      · exact .inr ⟨i, d, h1, h2, by simp [h3], by rw [idx_app h3, idx_app hx]; exact h4⟩
    · obtain rfl : x = K := by simpa using hx
      exact .inl ⟨hff, by omega⟩
theorem TI.skip (T : TI B ls on pts K feed parent ord) (hff : feedA pts K = false) : TI B ls on pts (K + 1) feed parent ord := by
  refine ⟨T.lf, T.lp, T.nd, T.lt, T.mem, fun x hx => ?_, fun g hg hgf => ?_, T.out, fun x hx => ?_⟩
  · obtain ⟨g, h1, h2⟩ := T.snd x hx
    exact ⟨g, by omega, h2⟩
  · have : g ≠ K := fun e => by rw [e, hff] at hgf; cases hgf
    exact T.own g (by omega) hgf
  · rcases T.par x hx with h | h
    · exact .inl ⟨h.1, by omega⟩
    · exact .inr h
theorem TI.len (T : TI B ls on pts K feed parent ord) : ord.length ≤ B := by
  exact nodup_len B ord T.nd T.lt
def Cl (ls : List Ln) (on : List Bool) (ord : List Nat) (m : Nat) : Prop := ∀ i, i < m → ∀ j c, Lk ls on j (ord.getD i 0) c → c ∈ ord
theorem Cl.mem {m : Nat} (h : Cl ls on ord m) (hm : m = ord.length) {b c : Nat} (hb : b ∈ ord) (hc : Cn (onE ls on) b c) : c ∈ ord := by
  induction hc with
  | refl => exact hb
  | @step c d _ e ih =>
    obtain ⟨i, hi, rfl⟩ := List.mem_iff_getElem.1 ih
    have hl : ∃ j, Lk ls on j ord[i] d := by
      rcases e with e | e
      · obtain ⟨j, h1, h2, h3⟩ := onE_mem.1 e
        exact ⟨j, h1, h2, .inl h3.symm⟩
      · obtain ⟨j, h1, h2, h3⟩ := onE_mem.1 e
        exact ⟨j, h1, h2, .inr h3.symm⟩
    obtain ⟨j, hl⟩ := hl
    exact h i (by omega) j d (by rw [getD_ge hi]; exact hl)
end
section
variable {B : Nat} {ls : List Ln} {on : List Bool} {pts : List (Int × Int)} (h : StOk (B : Int) ls on)
include h
theorem other_lk {k b : Nat} (hk : k < ls.length) : ∃ z, m_impl_Line_other (ls.getD k (0, 0, 0)).1 (ls.getD k (0, 0, 0)).2.1 (ls.getD k (0, 0, 0)).2.2 (b : Int) = some z ∧ ((z = -1 ∧ ∀ c, ¬ Lk ls on k b c) ∨ ∃ c, z = ((c : Nat) : Int) ∧ c < B ∧ (on.getD k false = true → Lk ls on k b c) ∧ ∀ d, Lk ls on k b d → d = c) := by
  have hl := h.net.ln k hk
  have hln := ln_nat hl
  simp only [Int.toNat_natCast] at hln
  have hne := hl.ne
  unfold m_impl_Line_other
  rw [hln.1, hln.2.1] at hne ⊢
  have key : ∀ d, Lk ls on k b d → ((edgeE (ls.getD k (0, 0, 0))).1 = b ∧ (edgeE (ls.getD k (0, 0, 0))).2 = d) ∨ ((edgeE (ls.getD k (0, 0, 0))).1 = d ∧ (edgeE (ls.getD k (0, 0, 0))).2 = b) := by
    rintro d ⟨_, _, h3⟩
    rcases h3 with h3 | h3 <;> rw [h3] <;> simp
  by_cases e1 : b = (edgeE (ls.getD k (0, 0, 0))).1
  · have : ((b : Int) == (((edgeE (ls.getD k (0, 0, 0))).1 : Nat) : Int)) = true := by rw [beq_iff_eq, ← e1]
    rw [this]
    refine ⟨_, rfl, .inr ⟨_, rfl, hln.2.2.2, fun ho => ⟨hk, ho, .inl (by rw [e1])⟩, fun d hd => ?_⟩⟩
    rcases key d hd with g | g
    · exact g.2.symm
    · omega
  · have e1' : ((b : Int) == (((edgeE (ls.getD k (0, 0, 0))).1 : Nat) : Int)) = false := by rw [beq_eq_false_iff_ne]; omega
    rw [e1', cond_false]
    by_cases e2 : b = (edgeE (ls.getD k (0, 0, 0))).2
    · have : ((b : Int) == (((edgeE (ls.getD k (0, 0, 0))).2 : Nat) : Int)) = true := by rw [beq_iff_eq, ← e2]
      rw [this]
      refine ⟨_, rfl, .inr ⟨_, rfl, hln.2.2.1, fun ho => ⟨hk, ho, .inr (by rw [e2])⟩, fun d hd => ?_⟩⟩
      rcases key d hd with g | g
      · omega
      · exact g.1.symm
    · have e2' : ((b : Int) == (((edgeE (ls.getD k (0, 0, 0))).2 : Nat) : Int)) = false := by rw [beq_eq_false_iff_ne]; omega
      rw [e2', cond_false]
      refine ⟨_, rfl, .inl ⟨rfl, fun d hd => ?_⟩⟩
      rcases key d hd with g | g <;> omega
omit h in
theorem zl_app (l : List Nat) (c : Nat) : zl l ++ [(c : Int)] = zl (l ++ [c]) := by simp [zl]
theorem iSearch2 {F0 P0 : List Int} (hF : F0.length = B) (hP : P0.length = B) {K f b from_ : Nat} {feed parent : List Int} {ord : List Nat} (hf : f < K) (hff : feedA pts f = true) (hb : ord.getD from_ 0 = b) (hfr : from_ < ord.length) (hfb : Cn (onE ls on) f b) (T : TI B ls on pts K feed parent ord) :
    ∃ feed' parent' t, m_impl_tree_search_l2 ls F0 P0 on (f : Int) ((from_ : Int), feed, parent, zl ord) FUEL (0, feed, parent, zl ord) = some (feed', parent', zl (ord ++ t)) ∧ TI B ls on pts K feed' parent' (ord ++ t) ∧ (∀ j c, Lk ls on j b c → c ∈ ord ++ t) ∧ ∀ x ∈ t, Cn (onE ls on) f x := by
  have hll := h.net.ll; have hl := h.len; have hB := h.net.b1
  have hbo : b ∈ ord := by rw [← hb, getD_ge hfr]; exact List.getElem_mem hfr
  obtain ⟨s, ⟨feed', parent', t, rfl, r1, r2, r3⟩, h2⟩ := loop_rel (m_impl_tree_search_l2 ls F0 P0 on (f : Int) ((from_ : Int), feed, parent, zl ord))
    (fun k s => ∃ feed' parent' t, s = ((k : Int), feed', parent', zl (ord ++ t)) ∧ TI B ls on pts K feed' parent' (ord ++ t) ∧ (∀ j, j < k → ∀ c, Lk ls on j b c → c ∈ ord ++ t) ∧ ∀ x ∈ t, Cn (onE ls on) f x) ls.length (fun s => some (s.2.1, s.2.2.1, s.2.2.2)) (by omega) (by
      rintro k fuel s hk ⟨feed', parent', t, rfl, r1, r2, r3⟩
      rw [m_impl_tree_search_l2.eq_2]
      obtain ⟨z, z1, z2⟩ := other_lk h (b := b) hk
      have hget : (zl ord).getD (from_ : Int).toNat 0 = (b : Int) := by rw [Int.toNat_natCast, zl_get, hb]
      simp only [lt_dec hk, ix_dec hk, ix_dec (show k < on.length by omega), chk_true, cond_true, Int.toNat_natCast, w64_succ (by omega : k < 4611686018427387904), zl_get, hb, z1, Option.bind_some, hF, hP]
      have hlen := r1.len
      rcases z2 with ⟨rfl, z3⟩ | ⟨c, rfl, hcB, z3, z4⟩
      · have : leB 0 (-1) = false := rfl
        simp only [this, Bool.and_false, Bool.false_and, Bool.not_false, Bool.true_or, chk_true, cond_false, Option.bind_some]
        refine ⟨_, ⟨feed', parent', t, rfl, r1, fun j hj c hc => ?_, r3⟩, rfl⟩
        by_cases e : j = k
        · subst e; exact absurd hc (z3 c)
        · exact r2 j (by omega) c hc
      · have hge : leB 0 (c : Int) = true := by simp [leB]
        simp only [hge, ix_dec hcB, Bool.and_true, Bool.or_true, chk_true, Int.toNat_natCast]
        by_cases hc : on.getD k false = true ∧ c ∉ ord ++ t
        · have hcf : ltB (feed'.getD c 0) 0 = true := by
            have : ¬ 0 ≤ feed'.getD c 0 := fun g => hc.2 ((r1.mem c hcB).2 g)
            simp only [ltB, decide_eq_true_eq]; omega
          have ha : apB (zl (ord ++ t)).length ([(c : Int)] : List Int).length = true := by rw [zl_len]; simp [apB]; simp at hlen; omega
          simp only [hc.1, hcf, Bool.and_self, cond_true, ha, chk_true, Option.bind_some]
          rw [zl_app, List.append_assoc]
          have hlk := z3 hc.1
          refine ⟨_, ⟨_, _, t ++ [c], rfl, ?_, fun j hj d hd => ?_, fun x hx => ?_⟩, rfl⟩
          · rw [← List.append_assoc]
            exact r1.add hf hff (by simp [hbo]) hfb hlk hcB hc.2
          · by_cases e : j = k
            · subst e; rw [z4 d hd]; simp
            · have := r2 j (by omega) d hd
              rw [← List.append_assoc]; exact List.mem_append_left _ this
          · rcases List.mem_append.1 hx with hx | hx
            · exact r3 x hx
            · obtain rfl : x = c := by simpa using hx
              exact hfb.trans hlk.cn
        · have hcf : (on.getD k false && ltB (feed'.getD c 0) 0) = false := by
            cases ho : on.getD k false
            · rfl
            · have hm : c ∈ ord ++ t := Classical.byContradiction fun hn => hc ⟨ho, hn⟩
              have := (r1.mem c hcB).1 hm
              simp only [Bool.true_and, ltB, decide_eq_false_iff_not]; omega
          simp only [hcf, cond_false, Option.bind_some]
          refine ⟨_, ⟨feed', parent', t, rfl, r1, fun j hj d hd => ?_, r3⟩, rfl⟩
          by_cases e : j = k
          · subst e
            rw [z4 d hd]
            exact Classical.byContradiction fun hn => hc ⟨hd.2.1, hn⟩
          · exact r2 j (by omega) d hd) (by
      rintro fuel s ⟨feed', parent', t, rfl, r1, r2, r3⟩
      rw [m_impl_tree_search_l2.eq_2]; simp only [nlt_dec, cond_false]) (0, feed, parent, zl ord) ⟨feed, parent, [], by simp, by simpa using T, fun j hj => absurd hj (Nat.not_lt_zero _), fun x hx => by simp at hx⟩
  exact ⟨feed', parent', t, h2, r1, fun j c hc => r2 j hc.1 c hc, r3⟩
theorem iSearch1 {F0 P0 : List Int} (hF : F0.length = B) (hP : P0.length = B) {K f n0 : Nat} (hf : f < K) (hff : feedA pts f = true) : ∀ (m from_ fuel : Nat) (feed parent : List Int) (ord : List Nat), B ≤ m + from_ → m < fuel → n0 ≤ from_ → from_ ≤ ord.length → (∀ i, n0 ≤ i → i < ord.length → Cn (onE ls on) f (ord.getD i 0)) → Cl ls on ord from_ → TI B ls on pts K feed parent ord →
    ∃ feed' parent' ord', m_impl_tree_search_l1 ls F0 P0 on (f : Int) fuel ((from_ : Int), feed, parent, zl ord) = some (feed', parent', zl ord') ∧ TI B ls on pts K feed' parent' ord' ∧ Cl ls on ord' ord'.length ∧ ∀ x ∈ ord, x ∈ ord' := by
  have hB := h.net.b1
  intro m
  induction m with
  | zero =>
    intro from_ fuel feed parent ord h1 h2 h3 h4 h5 h6 T
    obtain ⟨g, rfl⟩ : ∃ g, fuel = g + 1 := ⟨fuel - 1, by omega⟩
    have hlen := T.len
    have e : from_ = ord.length := by omega
    rw [m_impl_tree_search_l1.eq_2]
    have : ltB (from_ : Int) ((zl ord).length : Int) = false := by rw [zl_len, e]; exact nlt_dec
    simp only [this, cond_false]
    exact ⟨feed, parent, ord, rfl, T, e ▸ h6, fun x hx => hx⟩
  | succ m ih =>
    intro from_ fuel feed parent ord h1 h2 h3 h4 h5 h6 T
    obtain ⟨g, rfl⟩ : ∃ g, fuel = g + 1 := ⟨fuel - 1, by omega⟩
    have hlen := T.len
    rw [m_impl_tree_search_l1.eq_2]
    by_cases e : from_ = ord.length
    · have : ltB (from_ : Int) ((zl ord).length : Int) = false := by rw [zl_len, e]; exact nlt_dec
      simp only [this, cond_false]
      exact ⟨feed, parent, ord, rfl, T, e ▸ h6, fun x hx => hx⟩
    · have hlt : from_ < ord.length := by omega
      obtain ⟨feed', parent', t, r0, r1, r2, r3⟩ := iSearch2 h hF hP hf hff rfl hlt (h5 from_ h3 hlt) T
      have hlen2 := r1.len
      simp only [zl_len, lt_dec hlt, ix_dec hlt, cond_true, chk_true, r0, Option.bind_some, w64_succ (by omega : from_ < 4611686018427387904)]
      have hget : ∀ i, i < ord.length → (ord ++ t).getD i 0 = ord.getD i 0 := fun i hi => by simp [List.getD, List.getElem?_append_left hi]
      obtain ⟨feed2, parent2, ord2, s1, s2, s3, s4⟩ := ih (from_ + 1) g feed' parent' (ord ++ t) (by omega) (by omega) (by omega) (by simp; omega) (fun i hi1 hi2 => by
        by_cases hi : i < ord.length
        · rw [hget i hi]; exact h5 i hi1 hi
        · rw [getD_ge hi2, List.getElem_append_right (by omega)]
          exact r3 _ (List.getElem_mem _)) (fun i hi j c hc => by
        rw [hget i (by omega)] at hc
        by_cases e2 : i = from_
        · subst e2; exact r2 j c hc
        · exact List.mem_append_left _ (h6 i (by omega) j c hc)) r1
      exact ⟨feed2, parent2, ord2, s1, s2, s3, fun x hx => s4 x (by simp [hx])⟩
theorem iSearch {K : Nat} {feed parent : List Int} {ord : List Nat} (hK : K < B) (hff : feedA pts K = true) (hn : K ∉ ord) (hcl : Cl ls on ord ord.length) (T : TI B ls on pts K feed parent ord) (y : Int) :
    ∃ feed' parent' ord', m_impl_tree_search y ls (feed.set K (K : Int)) parent (zl ord) on (K : Int) = some (y, feed', parent', zl ord') ∧ TI B ls on pts (K + 1) feed' parent' ord' ∧ Cl ls on ord' ord'.length ∧ ∀ x ∈ ord ++ [K], x ∈ ord' := by
  have hB := h.net.b1
  have hlen := T.len
  have T2 := T.start hK hff hn
  obtain ⟨feed', parent', ord', h1, h2, h3, h4⟩ := iSearch1 h (F0 := feed.set K (K : Int)) (P0 := parent) T2.lf T2.lp (K := K + 1) (f := K) (n0 := ord.length) (by omega) hff B ord.length FUEL (feed.set K (K : Int)) parent (ord ++ [K]) (by omega) (fuel_gt (by omega)) (by omega) (by simp) (fun i hi1 hi2 => by
    have : i = ord.length := by simp at hi2; omega
    subst this
    rw [getD_ge hi2]; simp; exact .refl _) (fun i hi j c hc => by
    have : (ord ++ [K]).getD i 0 = ord.getD i 0 := by simp [List.getD, List.getElem?_append_left hi]
    rw [this] at hc
    exact List.mem_append_left _ (hcl i hi j c hc)) T2
  refine ⟨feed', parent', ord', ?_, h2, h3, h4⟩
  unfold m_impl_tree_search
  have ha : apB (zl ord).length ([(K : Int)] : List Int).length = true := by rw [zl_len]; simp [apB]; omega
  rw [ha, chk_true, zl_app, zl_len, h1]; rfl
end
structure TreeOk (ls : List Ln) (on : List Bool) (pts : List (Int × Int)) (feed parent : List Int) (ord : List Nat) : Prop where
  lf : feed.length = pts.length
  lp : parent.length = pts.length
  nd : ord.Nodup
  mem : ∀ b, b ∈ ord ↔ b < pts.length ∧ fedB (onE ls on) pts b = true
  fd : ∀ b f, b < pts.length → (feed.getD b 0 = ((f : Nat) : Int) ↔ feedA pts f = true ∧ Cn (onE ls on) f b)
  par : Par ls on pts (fun b => parent.getD b (-1)) (fun b => ord.idxOf b)
theorem TI.tree {ls : List Ln} {on : List Bool} {pts : List (Int × Int)} {feed parent : List Int} {ord : List Nat} (T : TI pts.length ls on pts pts.length feed parent ord) (hcl : Cl ls on ord ord.length) (hnj : ∀ f g, feedA pts f = true → feedA pts g = true → Cn (onE ls on) f g → f = g) : TreeOk ls on pts feed parent ord := by
  have hmem : ∀ b, b ∈ ord ↔ b < pts.length ∧ fedB (onE ls on) pts b = true := by
    intro b
    constructor
    · intro hb
      obtain ⟨g, h1, h2, _, h3⟩ := T.snd b hb
      exact ⟨T.lt b hb, fedB_iff.2 ⟨g, h2, h3⟩⟩
    · rintro ⟨hb, hf⟩
      obtain ⟨f, h1, h2⟩ := fedB_iff.1 hf
      exact hcl.mem rfl (T.own f (feedA_lt h1) h1).1 h2
  have hd : ∀ b, b < pts.length → parent.getD b (-1) = parent.getD b 0 := fun b hb => by rw [getD_ge (by rw [T.lp]; exact hb), getD_ge (by rw [T.lp]; exact hb)]
  refine ⟨T.lf, T.lp, T.nd, hmem, fun b f hb => ?_, ⟨fun b hb hf => ?_, fun b hb => ?_, fun b hb => ?_⟩⟩
  · constructor
    · intro e
      obtain ⟨g, h1, h2, h3, h4⟩ := T.snd b ((T.mem b hb).2 (by rw [e]; omega))
      have : f = g := by rw [e] at h3; omega
      subst this; exact ⟨h2, h4⟩
    · rintro ⟨h1, h2⟩
      obtain ⟨g, g1, g2, g3, g4⟩ := T.snd b ((hmem b).2 ⟨hb, fedB_iff.2 ⟨f, h1, h2⟩⟩)
      rw [g3, hnj f g h1 g2 (h2.trans g4.symm)]
  · rw [hd b hb]
    rcases T.par b ((hmem b).2 ⟨hb, hf⟩) with g | ⟨j, c, g, _⟩
    · exact .inl g.1
    · exact .inr (by rw [g]; omega)
  · have hlt := feedA_lt hb
    rw [hd b hlt, (T.own b hlt hb).2]; omega
  · have hlt : b < pts.length := by
      rcases Nat.lt_or_ge b pts.length with h1 | h1
      · exact h1
      · rw [List.getD_eq_getElem?_getD, List.getElem?_eq_none (by rw [T.lp]; exact h1)] at hb; simp at hb
    rw [hd b hlt] at hb ⊢
    have hbo : b ∈ ord := Classical.byContradiction fun hn => by rw [T.out b hlt hn] at hb; omega
    rcases T.par b hbo with g | ⟨j, c, g1, g2, g3, g4⟩
    · rw [(T.own b g.2 g.1).2] at hb; omega
    · rw [g1]
      exact ⟨c, by simpa using g2, T.lt c g3, ((hmem c).1 g3).2, g4⟩
theorem feed0 {pts : List (Int × Int)} {b : Int} {ls : List Ln} (h : BusOk b ls pts) {k : Nat} (hk : k < pts.length) : ((pts.getD k (0, 0)).1 == 0) = !feedA pts k := by
  have := (h.bs k hk).1
  unfold feedA
  rw [Bool.eq_iff_iff]; simp only [beq_iff_eq, Bool.not_eq_true', decide_eq_false_iff_not]; omega
theorem iTree (b : Int) (ls : List Ln) (on : List Bool) (pts : List (Int × Int)) (hp : pts.length ≤ 1048576) :
    ∃ r, m_impl_treeOf b ls on pts = some r ∧ r.2.2.2.2.2 = radB b ls on pts ∧ (radB b ls on pts = true → r.1 = b ∧ r.2.1 = true ∧ ∃ ord, r.2.2.2.2.1 = zl ord ∧ TreeOk ls on pts r.2.2.1 r.2.2.2.1 ord) := by
  unfold m_impl_treeOf radB
  rw [iFed b ls pts hp, Option.bind_some]
  cases hv : okV b ls on pts
  · exact ⟨_, rfl, rfl, fun e => by cases e⟩
  obtain ⟨h1, h2⟩ := okV_iff.1 hv
  have hlp := h2.lp
  subst hlp
  rw [iCyc h1]
  simp only [Bool.not_true, Bool.not_false, gb_true, Option.bind_some, Bool.false_or, Bool.true_and]
  unfold radP
  rw [← cyc_eq h1.len]
  cases hc : cycB ls on
  case true => exact ⟨_, rfl, rfl, fun e => by cases e⟩
  have hB := h1.net.b1
  have hm : mkB (pts.length : Int) = true := by simp [mkB]; omega
  simp only [cond_false, hm, chk_true, Int.toNat_natCast, Bool.not_false, Bool.true_and]
  have hl1 : m_impl_treeOf_l1 (pts.length : Int) FUEL (0, List.replicate pts.length 0, List.replicate pts.length 0) = some (List.replicate pts.length (-1), List.replicate pts.length (-1)) := by
    have hh := loop_all (m_impl_treeOf_l1 (pts.length : Int)) (fun k => ((k : Int), List.replicate k (-1) ++ List.replicate (pts.length - k) 0, List.replicate k (-1) ++ List.replicate (pts.length - k) 0)) pts.length (some (List.replicate pts.length (-1), List.replicate pts.length (-1))) (by omega) (fun k fuel hk => ?_) (fun fuel => ?_)
    · simpa using hh
    · rw [m_impl_treeOf_l1.eq_2]
      simp only [lt_dec hk, Int.toNat_natCast, ix_dec hk, cond_true, chk_true, w64_succ (by omega : k < 4611686018427387904)]
      have e : (List.replicate k (-1 : Int) ++ List.replicate (pts.length - k) 0).set k (-1) = List.replicate (k + 1) (-1) ++ List.replicate (pts.length - (k + 1)) 0 := by
        rw [List.set_append_right _ _ (by simp), List.length_replicate, Nat.sub_self, show pts.length - k = (pts.length - (k + 1)) + 1 by omega, List.replicate_succ, List.set_cons_zero, List.replicate_succ', List.append_assoc]; rfl
      rw [e]
    · rw [m_impl_treeOf_l1.eq_2]
      simp only [nlt_dec, cond_false, Nat.sub_self, List.replicate_zero, List.append_nil]
  rw [hl1, Option.bind_some]
  have hget : ∀ k, k < pts.length → (List.replicate pts.length (-1 : Int)).getD k 0 = -1 := fun k hk => by simp [List.getD, hk]
  have hT0 : TI pts.length ls on pts 0 (List.replicate pts.length (-1)) (List.replicate pts.length (-1)) [] :=
    ⟨by simp, by simp, by simp, fun b hb => by simp at hb, fun b hb => by rw [hget b hb]; simp, fun b hb => by simp at hb, fun g hg => absurd hg (Nat.not_lt_zero _), fun b hb _ => hget b hb, fun b hb => by simp at hb⟩
  have hh := loop_both (m_impl_treeOf_l2 ls on pts) (fun k s => ∃ feed parent ord, s = ((k : Int), (pts.length : Int), feed, parent, zl ord) ∧ TI pts.length ls on pts k feed parent ord ∧ Cl ls on ord ord.length ∧ ∀ f g, f < k → g < k → feedA pts f = true → feedA pts g = true → Cn (onE ls on) f g → f = g) pts.length
    (twoF (onE ls on) pts = true) (some (Sum.inr (0, false, ([] : List Int), ([] : List Int), ([] : List Int), false))) (fun s => some (Sum.inl (s.2.1, s.2.2.1, s.2.2.2.1, s.2.2.2.2))) (by omega) ?_ ?_ (0, (pts.length : Int), List.replicate pts.length (-1), List.replicate pts.length (-1), ([] : List Int)) ⟨_, _, [], rfl, hT0, fun i hi => absurd hi (Nat.not_lt_zero _), fun f g hf => absurd hf (Nat.not_lt_zero _)⟩
  · rcases hh with ⟨x1, x2⟩ | ⟨s, ⟨feed, parent, ord, rfl, t1, t2, t3⟩, x2⟩
    · rw [x2, x1]
      exact ⟨_, rfl, rfl, fun e => by cases e⟩
    · rw [x2]
      have hnj : ∀ f g, feedA pts f = true → feedA pts g = true → Cn (onE ls on) f g → f = g := fun f g hf hg => t3 f g (feedA_lt hf) (feedA_lt hg) hf hg
      rw [twoF_iff.2 hnj]
      exact ⟨_, rfl, rfl, fun _ => ⟨rfl, rfl, ord, rfl, t1.tree t2 hnj⟩⟩
  · rintro k fuel s hk ⟨feed, parent, ord, rfl, t1, t2, t3⟩
    rw [m_impl_treeOf_l2.eq_2]
    simp only [lt_dec hk, ix_dec hk, cond_true, chk_true, Int.toNat_natCast, w64_succ (by omega : k < 4611686018427387904), feed0 h2 hk]
    cases hf : feedA pts k
    · right
      simp only [Bool.not_false, cond_true, Option.bind_some, Sum.elim_inl]
      refine ⟨_, ⟨feed, parent, ord, rfl, t1.skip hf, t2, fun f g hfk hgk hff hgf => ?_⟩, rfl⟩
      have e1 : f ≠ k := fun e => by rw [e, hf] at hff; cases hff
      have e2 : g ≠ k := fun e => by rw [e, hf] at hgf; cases hgf
      exact t3 f g (by omega) (by omega) hff hgf
    · have hx : ixB (k : Int) feed.length = true := by rw [t1.lf]; exact ix_dec hk
      simp only [Bool.not_true, cond_false, hx, chk_true]
      by_cases hko : k ∈ ord
      · left
        have h0 := (t1.mem k hk).1 hko
        have : leB 0 (feed.getD k 0) = true := by simpa [leB] using h0
        simp only [this, cond_true, Option.bind_some, Sum.elim_inr]
        refine ⟨?_, trivial⟩
        obtain ⟨g, g1, g2, _, g4⟩ := t1.snd k hko
        cases htw : twoF (onE ls on) pts
        · have := twoF_iff.1 htw g k g2 hf g4; omega
        · rfl
      · right
        have h0 : ¬ 0 ≤ feed.getD k 0 := fun g => hko ((t1.mem k hk).2 g)
        have : leB 0 (feed.getD k 0) = false := by simp only [leB, decide_eq_false_iff_not]; exact h0
        obtain ⟨feed', parent', ord', s1, s2, s3, s4⟩ := iSearch h1 hk hf hko t2 t1 (pts.length : Int)
        simp only [this, cond_false, s1, Option.bind_some, Sum.elim_inl]
        refine ⟨_, ⟨feed', parent', ord', rfl, s2, s3, fun f g hfk hgk hff hgf hcn => ?_⟩, rfl⟩
        have key : ∀ a, a < k → feedA pts a = true → ¬ Cn (onE ls on) a k := fun a ha hfa hcn => hko (t2.mem rfl (t1.own a ha hfa).1 hcn)
        by_cases e1 : f = k
        · by_cases e2 : g = k
          · omega
          · exact absurd (e1 ▸ hcn).symm (key g (by omega) hgf)
        · by_cases e2 : g = k
          · exact absurd (e2 ▸ hcn) (key f (by omega) hff)
          · exact t3 f g (by omega) (by omega) hff hgf hcn
  · rintro fuel s ⟨feed, parent, ord, rfl, t1, t2, t3⟩
    rw [m_impl_treeOf_l2.eq_2]; simp only [nlt_dec, cond_false]
theorem iRadial (b : Int) (ls : List Ln) (on : List Bool) (pts : List (Int × Int)) (hp : pts.length ≤ 1048576) : m_impl_Radial b ls on pts = some (radB b ls on pts) := by
  obtain ⟨r, h1, h2, _⟩ := iTree b ls on pts hp
  unfold m_impl_Radial
  rw [h1, Option.bind_some, h2]
theorem sRadial (b : Int) (ls : List Ln) (on : List Bool) (pts : List (Int × Int)) (hp : pts.length ≤ 1048576) : m_spec_Radial b ls on pts = some (radB b ls on pts) := by
  unfold m_spec_Radial radB
  rw [sFed b ls pts hp, Option.bind_some]
  cases hv : okV b ls on pts
  · rfl
  obtain ⟨h1, h2⟩ := okV_iff.1 hv
  have hlp := h2.lp
  subst hlp
  have hB := h1.net.b1
  rw [sCyc h1]
  simp only [Bool.not_true, Bool.not_false, gb_true, Option.bind_some, Bool.false_or, Bool.true_and]
  unfold radP
  cases hc : cycP ls on
  case true => rfl
  simp only [cond_false, Bool.not_false, Bool.true_and]
  have hh := loop_find (m_spec_Radial_l1 (pts.length : Int) ls on pts) (fun k => (k : Int)) pts.length (fun k => (List.range k).any fun j => feedA pts k && feedA pts j && labs (onE ls on) j == labs (onE ls on) k) (some (.inr false)) (some (.inl ())) (by omega) (fun k fuel hk => ?_) (fun fuel => ?_)
  · rw [show m_spec_Radial_l1 (pts.length : Int) ls on pts FUEL 0 = _ from hh]
    show _ = some (!twoF (onE ls on) pts)
    unfold twoF
    cases (List.range pts.length).any _ <;> rfl
  · rw [m_spec_Radial_l1.eq_2]
    have h3 := loop_find (m_spec_Radial_l2 (pts.length : Int) ls on pts (k : Int)) (fun j => (j : Int)) k (fun j => feedA pts k && feedA pts j && labs (onE ls on) j == labs (onE ls on) k) (some (.inr false)) (some (.inl ())) (by omega) (fun j fuel hj => ?_) (fun fuel => ?_)
    · simp only [lt_dec hk, cond_true, w64_succ (by omega : k < 4611686018427387904)]
      rw [show m_spec_Radial_l2 (pts.length : Int) ls on pts (k : Int) FUEL 0 = _ from h3]
      cases (List.range k).any _ <;> rfl
    · rw [m_spec_Radial_l2.eq_2]
      have hj2 : j < pts.length := by omega
      simp only [lt_dec hj, ix_dec hk, ix_dec hj2, cond_true, chk_true, Bool.or_true, Int.toNat_natCast, w64_succ (by omega : j < 4611686018427387904), sSame h1 hj2 hk]
      rw [show ltB 0 (pts.getD k (0, 0)).1 = feedA pts k from rfl, show ltB 0 (pts.getD j (0, 0)).1 = feedA pts j from rfl]
      cases feedA pts k <;> cases feedA pts j <;> cases labs (onE ls on) j == labs (onE ls on) k <;> rfl
    · rw [m_spec_Radial_l2.eq_2]; simp only [nlt_dec, cond_false]
  · rw [m_spec_Radial_l1.eq_2]; simp only [nlt_dec, cond_false]
end Go.Proofs.YtnplecoikgnpkaaGreatDoor
namespace Go.Proofs.YtnplecoikgnpkaaGreatDoor
set_option linter.unusedVariables false
set_option linter.unusedSimpArgs false
section
variable (l : Pm) (a b : Int) (hn : l.length ≤ 1099511627776)
include hn
theorem sFind : m_spec_l12Find l a b = some (fnd l (a, b)) := by
  unfold m_spec_l12Find fnd
  have h := loop_first (m_spec_l12Find_l1 l a b) (fun k => (k : Int)) l.length (fun k => (l.getD k (0, 0)).1 == a && (l.getD k (0, 0)).2 == b) (fun k => some (.inr (k : Int))) (some (.inl ())) hn (fun k fuel hk => by
    rw [m_spec_l12Find_l1.eq_2]
    simp only [lt_dec hk, ix_dec hk, chk_true, cond_true, Int.toNat_natCast, w64_succ (by omega : k < 4611686018427387904)]) (fun fuel => by rw [m_spec_l12Find_l1.eq_2]; simp only [nlt_dec, cond_false])
  rw [show m_spec_l12Find_l1 l a b FUEL 0 = _ from h]
  cases (List.range l.length).find? (fun k => (l.getD k (0, 0)).1 == a && (l.getD k (0, 0)).2 == b) <;> rfl
theorem iFind : m_slices_Index_impl_Permit_impl_Permit l a b = some (fnd l (a, b)) := by
  unfold m_slices_Index_impl_Permit_impl_Permit fnd
  have h := loop_first (m_slices_Index_impl_Permit_impl_Permit_l1 l a b) (fun k => (k : Int)) l.length (fun k => (l.getD k (0, 0)).1 == a && (l.getD k (0, 0)).2 == b) (fun k => some (.inr (k : Int))) (some (.inl ())) hn (fun k fuel hk => by
    rw [m_slices_Index_impl_Permit_impl_Permit_l1.eq_2]
    simp only [lt_dec hk, ix_dec hk, chk_true, cond_true, Int.toNat_natCast, w64_succ (by omega : k < 4611686018427387904)]
    rw [show (a == (l.getD k (0, 0)).1) = ((l.getD k (0, 0)).1 == a) from Bool.beq_comm .., show (b == (l.getD k (0, 0)).2) = ((l.getD k (0, 0)).2 == b) from Bool.beq_comm ..]) (fun fuel => by rw [m_slices_Index_impl_Permit_impl_Permit_l1.eq_2]; simp only [nlt_dec, cond_false])
  rw [show m_slices_Index_impl_Permit_impl_Permit_l1 l a b FUEL 0 = _ from h]
  cases (List.range l.length).find? (fun k => (l.getD k (0, 0)).1 == a && (l.getD k (0, 0)).2 == b) <;> rfl
theorem iHas : m_slices_Contains_impl_Permit_impl_Permit l a b = some (decide ((a, b) ∈ l)) := by
  unfold m_slices_Contains_impl_Permit_impl_Permit
  rw [iFind l a b hn, Option.bind_some, fnd_mem]
end
section
variable (on earth : List Bool) (pm : Pm) (ho : on.length ≤ 1048576) (hp : pm.length ≤ 1048576) (hl : earth.length = on.length)
include ho hl
theorem sV1 : m_spec_WorkValid_l1 on earth FUEL 0 = bif (List.range on.length).any (fun k => on.getD k false && earth.getD k false) then some (.inr false) else some (.inl ()) := by
  have h := loop_find (m_spec_WorkValid_l1 on earth) (fun k => (k : Int)) on.length (fun k => on.getD k false && earth.getD k false) (some (.inr false)) (some (.inl ())) (by omega) (fun k fuel hk => ?_) (fun fuel => ?_)
  · exact h
  · rw [m_spec_WorkValid_l1.eq_2]
    simp only [lt_dec hk, ix_dec hk, ix_dec (show k < earth.length by omega), chk_true, cond_true, Int.toNat_natCast, Bool.or_true, w64_succ (by omega : k < 4611686018427387904)]
  · rw [m_spec_WorkValid_l1.eq_2]; simp only [nlt_dec, cond_false]
theorem iV1 : m_impl_WorkValid_l1 on earth FUEL 0 = bif (List.range on.length).any (fun k => on.getD k false && earth.getD k false) then some (.inr false) else some (.inl ()) := by
  have h := loop_find (m_impl_WorkValid_l1 on earth) (fun k => (k : Int)) on.length (fun k => on.getD k false && earth.getD k false) (some (.inr false)) (some (.inl ())) (by omega) (fun k fuel hk => ?_) (fun fuel => ?_)
  · exact h
  · rw [m_impl_WorkValid_l1.eq_2]
    simp only [lt_dec hk, ix_dec hk, ix_dec (show k < earth.length by omega), chk_true, cond_true, Int.toNat_natCast, Bool.or_true, w64_succ (by omega : k < 4611686018427387904)]
  · rw [m_impl_WorkValid_l1.eq_2]; simp only [nlt_dec, cond_false]
include hp
theorem sV2 : m_spec_WorkValid_l2 on earth pm FUEL 0 = bif (List.range pm.length).any (fun k => !pmOk on earth pm k) then some (.inr false) else some (.inl ()) := by
  have h := loop_find (m_spec_WorkValid_l2 on earth pm) (fun k => (k : Int)) pm.length (fun k => !pmOk on earth pm k) (some (.inr false)) (some (.inl ())) (by omega) (fun k fuel hk => ?_) (fun fuel => ?_)
  · exact h
  · rw [m_spec_WorkValid_l2.eq_2]
    simp only [lt_dec hk, ix_dec hk, chk_true, cond_true, Int.toNat_natCast, w64_succ (by omega : k < 4611686018427387904), sFind pm _ _ (by omega), m_spec_l1In]
    have w1 : w64 ((on.length : Int) - 1) = (on.length : Int) - 1 := w64_in (by omega) (by omega)
    have hft := fnd_take hk
    rw [w1]
    unfold pmOk
    rw [inB_le]
    generalize pm.getD k (0, 0) = p at *
    cases h1 : (leB 0 p.1 && leB p.1 9)
    · simp [gb]
    have e2 : (leB 0 p.2 && leB p.2 ((on.length : Int) - 1)) = (decide (0 ≤ p.2) && decide (p.2 < (on.length : Int))) := by rw [Bool.eq_iff_iff]; simp [leB]; omega
    rw [e2]
    cases h2 : (decide (0 ≤ p.2) && decide (p.2 < (on.length : Int)))
    · simp [gb]
    have hx : ixB p.2 earth.length = true := by simp at h2; simp [ixB]; omega
    simp only [gb, Option.bind_some, Bool.not_true, Bool.not_false, cond_true, Bool.or_self, hx, Bool.or_true, chk_true, Bool.false_or, Bool.true_and]
    cases earth.getD p.2.toNat false
    · simp
    · simp [hft]
  · rw [m_spec_WorkValid_l2.eq_2]; simp only [nlt_dec, cond_false]
omit ho in
theorem iV2 : m_impl_WorkValid_l2 on earth pm FUEL 0 = bif (List.range pm.length).any (fun k => !pmOk on earth pm k) then some (.inr false) else some (.inl ()) := by
  have h := loop_find (m_impl_WorkValid_l2 on earth pm) (fun k => (k : Int)) pm.length (fun k => !pmOk on earth pm k) (some (.inr false)) (some (.inl ())) (by omega) (fun k fuel hk => ?_) (fun fuel => ?_)
  · exact h
  · rw [m_impl_WorkValid_l2.eq_2]
    have hs : slB 0 (k : Int) pm.length = true := decide_eq_true (by omega)
    have ht : subL pm 0 (k : Int) = pm.take k := by simp [subL]
    simp only [lt_dec hk, ix_dec hk, chk_true, cond_true, Int.toNat_natCast, w64_succ (by omega : k < 4611686018427387904), hs, ht, Bool.or_true, iHas (pm.take k) _ _ (by simp; omega)]
    unfold pmOk
    rw [inB_le]
    generalize pm.getD k (0, 0) = p
    rw [show ((p.1, p.2) : Int × Int) = p from rfl]
    cases h1 : (leB 0 p.1 && leB p.1 9)
    · have : (ltB p.1 0 || ltB 9 p.1) = true := by simp [leB] at h1; simp [ltB]; omega
      simp [gb, this]
    have e1 : (ltB p.1 0 || ltB 9 p.1) = false := by simp [leB] at h1; simp [ltB]; omega
    rw [e1]
    cases h2 : (decide (0 ≤ p.2) && decide (p.2 < (on.length : Int)))
    · have : (ltB p.2 0 || leB (on.length : Int) p.2) = true := by simp at h2; simp [ltB, leB]; omega
      simp only [Bool.false_or, this, Bool.not_true, Bool.true_or, Bool.not_false, chk_true, gb, cond_false, Option.bind_some, cond_true, Bool.and_false, Bool.false_and]
    have e2 : (ltB p.2 0 || leB (on.length : Int) p.2) = false := by simp at h2; simp [ltB, leB]; omega
    have hx : ixB p.2 earth.length = true := by simp at h2; simp [ixB]; omega
    simp only [Bool.false_or, e2, gb, Option.bind_some, Bool.not_true, Bool.not_false, cond_true, Bool.or_self, hx, Bool.or_true, chk_true, Bool.true_and]
    cases earth.getD p.2.toNat false <;> simp
  · rw [m_impl_WorkValid_l2.eq_2]; simp only [nlt_dec, cond_false]
end
section
variable (on earth : List Bool) (pm : Pm) (ho : on.length ≤ 1048576) (hp : pm.length ≤ 1048576)
include ho hp
theorem sValid : m_spec_WorkValid on earth pm = some (workV on earth pm) := by
  unfold m_spec_WorkValid m_spec_l1In workV
  rw [inB_le, lt6, bne_len]
  cases h1 : (leB 1 (on.length : Int) && leB (on.length : Int) 10)
  · simp
  by_cases h2 : earth.length = on.length
  · rw [show (earth.length == on.length) = true by simpa using h2, show (on.length == earth.length) = true by simpa using h2.symm]
    cases h3 : decide (pm.length ≤ 6)
    · simp
    simp only [Option.bind_some, Bool.not_true, Bool.or_self, cond_false, sV1 on earth ho h2, sV2 on earth pm ho hp h2, Bool.true_and]
    cases (List.range on.length).any fun k => on.getD k false && earth.getD k false
    · cases (List.range pm.length).any fun k => !pmOk on earth pm k <;> rfl
    · rfl
  · rw [show (earth.length == on.length) = false by simpa using h2, show (on.length == earth.length) = false by simpa using fun e => h2 e.symm]
    simp
theorem iValid : m_impl_WorkValid on earth pm = some (workV on earth pm) := by
  unfold m_impl_WorkValid workV
  rw [inB10, lt6, bne_len]
  cases h1 : ltB (on.length : Int) 1
  · cases h4 : ltB 10 (on.length : Int)
    · by_cases h2 : earth.length = on.length
      · rw [show (earth.length == on.length) = true by simpa using h2]
        cases h3 : decide (pm.length ≤ 6)
        · simp
        simp only [Option.bind_some, Bool.not_true, Bool.not_false, Bool.or_self, cond_false, iV1 on earth ho h2, iV2 on earth pm hp h2, Bool.true_and]
        cases (List.range on.length).any fun k => on.getD k false && earth.getD k false
        · cases (List.range pm.length).any fun k => !pmOk on earth pm k <;> rfl
        · rfl
      · rw [show (earth.length == on.length) = false by simpa using h2]
        simp
    · simp
  · simp
end
end Go.Proofs.YtnplecoikgnpkaaGreatDoor
namespace Go.Proofs.YtnplecoikgnpkaaGreatDoor
set_option linter.unusedVariables false
set_option linter.unusedSimpArgs false
theorem brAt_0 (on : List Bool) (br : List Int) : brAt on br 0 = ((decide (0 ≤ br.getD 0 0) && decide (br.getD 0 0 < (on.length : Int))) && !on.getD (br.getD 0 0).toNat false) := by
  unfold brAt; simp
theorem brAt_s (on : List Bool) (br : List Int) (j : Nat) : brAt on br (j + 1) = ((decide (0 ≤ br.getD (j + 1) 0) && decide (br.getD (j + 1) 0 < (on.length : Int))) && !on.getD (br.getD (j + 1) 0).toNat false && !leB (br.getD (j + 1) 0) (br.getD j 0)) := by
  unfold brAt
  have : decide (br.getD j 0 < br.getD (j + 1) 0) = !leB (br.getD (j + 1) 0) (br.getD j 0) := by rw [Bool.eq_iff_iff]; simp [leB]
  simp only [Nat.add_sub_cancel, this]
  have e : decide (j + 1 = 0) = false := by simp
  rw [e, Bool.false_or]
section
variable (b : Int) (ls : List Ln) (pts : List (Int × Int)) (on earth : List Bool) (pm : Pm) (br : List Int) (hp : pts.length ≤ 1048576) (ho : on.length ≤ 1048576) (hm : pm.length ≤ 1048576) (hb : br.length ≤ 1048576)
include hb
theorem iBr (hl : on.length = ls.length) : m_impl_WorldValid_l1 b ls on br FUEL 0 = bif (List.range br.length).any (fun k => !brAt on br k) then some (.inr false) else some (.inl ()) := by
  have hh := loop_find (m_impl_WorldValid_l1 b ls on br) (fun k => (k : Int)) br.length (fun k => !brAt on br k) (some (.inr false)) (some (.inl ())) (by omega) (fun k fuel hk => ?_) (fun fuel => ?_)
  · exact hh
  · rw [m_impl_WorldValid_l1.eq_2]
    simp only [lt_dec hk, ix_dec hk, cond_true, chk_true, Int.toNat_natCast, m_impl_Net_hasLine, Option.bind_some, w64_succ (by omega : k < 4611686018427387904)]
    have e1 : (leB 0 (br.getD k 0) && ltB (br.getD k 0) (ls.length : Int)) = (decide (0 ≤ br.getD k 0) && decide (br.getD k 0 < (on.length : Int))) := by rw [hl]; rfl
    rw [e1]
    have hx : (decide (0 ≤ br.getD k 0) && decide (br.getD k 0 < (on.length : Int))) = true → ixB (br.getD k 0) on.length = true := by intro h; simp at h; simp [ixB]; omega
    rcases k with _ | j
    · rw [brAt_0]
      have : ltB 0 ((0 : Nat) : Int) = false := rfl
      simp only [this, Bool.and_false, Bool.not_false, Bool.true_or, chk_true, Bool.or_false]
      cases h1 : decide (0 ≤ br.getD 0 0) && decide (br.getD 0 0 < (on.length : Int))
      · rfl
      · rw [hx h1]
        cases on.getD (br.getD 0 0).toNat false <;> rfl
    · rw [brAt_s]
      have e2 : w64 (((j + 1 : Nat) : Int) - 1) = (j : Int) := by rw [w64_in (by omega) (by omega)]; omega
      have e3 : ltB 0 ((j + 1 : Nat) : Int) = true := decide_eq_true (by omega)
      simp only [e2, e3, ix_dec (show j < br.length by omega), Bool.or_true, chk_true, Bool.true_and, Int.toNat_natCast]
      cases h1 : decide (0 ≤ br.getD (j + 1) 0) && decide (br.getD (j + 1) 0 < (on.length : Int))
      · rfl
      · rw [hx h1]
        cases on.getD (br.getD (j + 1) 0).toNat false <;> cases leB (br.getD (j + 1) 0) (br.getD j 0) <;> rfl
  · rw [m_impl_WorldValid_l1.eq_2]; simp only [nlt_dec, cond_false]
include ho in
theorem sBr : m_spec_WorldValid_l1 on br FUEL 0 = bif (List.range br.length).any (fun k => !brAt on br k) then some (.inr false) else some (.inl ()) := by
  have hh := loop_find (m_spec_WorldValid_l1 on br) (fun k => (k : Int)) br.length (fun k => !brAt on br k) (some (.inr false)) (some (.inl ())) (by omega) (fun k fuel hk => ?_) (fun fuel => ?_)
  · exact hh
  · rw [m_spec_WorldValid_l1.eq_2]
    have w1 : w64 ((on.length : Int) - 1) = (on.length : Int) - 1 := w64_in (by omega) (by omega)
    simp only [lt_dec hk, ix_dec hk, cond_true, chk_true, Int.toNat_natCast, m_spec_l1In, Option.bind_some, w64_succ (by omega : k < 4611686018427387904), w1]
    have e1 : (leB 0 (br.getD k 0) && leB (br.getD k 0) ((on.length : Int) - 1)) = (decide (0 ≤ br.getD k 0) && decide (br.getD k 0 < (on.length : Int))) := by rw [Bool.eq_iff_iff]; simp [leB]; omega
    rw [e1]
    have hx : (decide (0 ≤ br.getD k 0) && decide (br.getD k 0 < (on.length : Int))) = true → ixB (br.getD k 0) on.length = true := by intro h; simp at h; simp [ixB]; omega
    rcases k with _ | j
    · rw [brAt_0]
      have : ltB 0 ((0 : Nat) : Int) = false := rfl
      simp only [this, Bool.and_false, Bool.not_false, Bool.true_or, chk_true, Bool.or_false, Bool.false_and]
      cases h1 : decide (0 ≤ br.getD 0 0) && decide (br.getD 0 0 < (on.length : Int))
      · rfl
      · rw [hx h1]
        cases on.getD (br.getD 0 0).toNat false <;> simp
    · rw [brAt_s]
      have e2 : w64 (((j + 1 : Nat) : Int) - 1) = (j : Int) := by rw [w64_in (by omega) (by omega)]; omega
      have e3 : ltB 0 ((j + 1 : Nat) : Int) = true := decide_eq_true (by omega)
      simp only [e2, e3, ix_dec hk, ix_dec (show j < br.length by omega), Bool.or_true, chk_true, Bool.true_and, Int.toNat_natCast]
      cases h1 : decide (0 ≤ br.getD (j + 1) 0) && decide (br.getD (j + 1) 0 < (on.length : Int))
      · rfl
      · rw [hx h1]
        cases on.getD (br.getD (j + 1) 0).toNat false <;> cases leB (br.getD (j + 1) 0) (br.getD j 0) <;> rfl
  · rw [m_spec_WorldValid_l1.eq_2]; simp only [nlt_dec, cond_false]
include hp ho hm
theorem iWv : m_impl_WorldValid b ls pts on earth pm br = some (wv ⟨b, ls, pts, on, earth, pm, br⟩) := by
  unfold m_impl_WorldValid wv brV
  rw [iBuses b ls pts hp, iValid on earth pm ho hm]
  have e : ((on.length : Int) != (ls.length : Int)) = !decide (on.length = ls.length) := by rw [Bool.eq_iff_iff]; simp; omega
  rw [e]
  cases h1 : busesV b ls pts
  · rfl
  cases h2 : workV on earth pm
  · rfl
  by_cases h3 : on.length = ls.length
  · rw [decide_eq_true h3]
    simp only [Option.bind_some, Bool.not_true, Bool.not_false, gb_true, Bool.or_self, cond_false, iBr b ls on br hb h3, iRadial b ls on pts hp]
    have hok : radB b ls on pts = radP ls on pts := by
      have := busesV_iff.1 h1
      unfold radB
      rw [okV_iff.2 ⟨⟨this.net, h3⟩, this⟩]; rfl
    rw [hok]
    cases (List.range br.length).any fun k => !brAt on br k <;> cases radP ls on pts <;> rfl
  · rw [decide_eq_false h3]; simp
theorem sWv : m_spec_WorldValid b ls pts on earth pm br = some (wv ⟨b, ls, pts, on, earth, pm, br⟩) := by
  unfold m_spec_WorldValid wv brV
  rw [sBuses b ls pts hp, sValid on earth pm ho hm]
  have e : ((on.length : Int) != (ls.length : Int)) = !decide (on.length = ls.length) := by rw [Bool.eq_iff_iff]; simp; omega
  rw [e]
  cases h1 : busesV b ls pts
  · rfl
  cases h2 : workV on earth pm
  · rfl
  by_cases h3 : on.length = ls.length
  · rw [decide_eq_true h3]
    simp only [Option.bind_some, Bool.not_true, Bool.not_false, gb_true, Bool.or_self, cond_false, sBr on br ho hb, sRadial b ls on pts hp]
    have hok : radB b ls on pts = radP ls on pts := by
      have := busesV_iff.1 h1
      unfold radB
      rw [okV_iff.2 ⟨⟨this.net, h3⟩, this⟩]; rfl
    rw [hok]
    cases (List.range br.length).any fun k => !brAt on br k <;> cases radP ls on pts <;> rfl
  · rw [decide_eq_false h3]; simp
end
end Go.Proofs.YtnplecoikgnpkaaGreatDoor
namespace Go.Proofs.YtnplecoikgnpkaaGreatDoor
set_option linter.unusedVariables false
set_option linter.unusedSimpArgs false
section
variable (on earth : List Bool) (pm : Pm) (line : Int) (ho : on.length ≤ 1048576) (hp : pm.length ≤ 1048576)
include ho hp
theorem sHeld : m_spec_WorkHeld on earth pm line = some (if workV on earth pm then heldOf pm line else []) := by
  unfold m_spec_WorkHeld
  cases hv : workV on earth pm
  · rw [FUEL_succ, m_spec_WorkHeld_l1.eq_2]
    simp only [sValid on earth pm ho hp, hv]
    cases ltB (0 : Int) (pm.length : Int) <;> simp [gb]
  · have h := loop_all (m_spec_WorkHeld_l1 on earth pm line) (fun k => (heldOf (pm.take k) line, (k : Int))) pm.length (some (heldOf pm line)) (by omega) (fun k fuel hk => ?_) (fun fuel => ?_)
    · rw [show (([] : List Int), (0 : Int)) = (heldOf (pm.take 0) line, ((0 : Nat) : Int)) from rfl, h]; rfl
    · rw [m_spec_WorkHeld_l1.eq_2]
      have hb := held_len (pm.take k) line
      have ha : ∀ x : Int, apB (heldOf (pm.take k) line).length [x].length = true := fun x => by simp [apB]; simp at hb; omega
      simp only [lt_dec hk, ix_dec hk, chk_true, cond_true, Int.toNat_natCast, sValid on earth pm ho hp, hv, gb, Option.bind_some, Bool.and_self, ha, w64_succ (by omega : k < 4611686018427387904)]
      rw [held_step hk]
      cases (pm.getD k (0, 0)).2 == line <;> rfl
    · rw [m_spec_WorkHeld_l1.eq_2]; simp [nlt_dec, gb]
theorem iHeld : m_impl_WorkHeld on earth pm line = some (if workV on earth pm then heldOf pm line else []) := by
  unfold m_impl_WorkHeld
  rw [iValid on earth pm ho hp]
  cases hv : workV on earth pm
  · rfl
  · have h := loop_all (m_impl_WorkHeld_l1 pm line) (fun k => (heldOf (pm.take k) line, (k : Int))) pm.length (some (heldOf pm line)) (by omega) (fun k fuel hk => ?_) (fun fuel => ?_)
    · simp only [Option.bind_some, cond_true]
      rw [show (([] : List Int), (0 : Int)) = (heldOf (pm.take 0) line, ((0 : Nat) : Int)) from rfl, h]; rfl
    · rw [m_impl_WorkHeld_l1.eq_2]
      have hb := held_len (pm.take k) line
      have ha : ∀ x : Int, apB (heldOf (pm.take k) line).length [x].length = true := fun x => by simp [apB]; simp at hb; omega
      simp only [lt_dec hk, ix_dec hk, chk_true, cond_true, Int.toNat_natCast, ha, w64_succ (by omega : k < 4611686018427387904)]
      rw [held_step hk]
      cases (pm.getD k (0, 0)).2 == line <;> rfl
    · rw [m_impl_WorkHeld_l1.eq_2]; simp [nlt_dec]
end
section
variable (w : Wk) (kd a who : Int) (ho : w.1.length ≤ 1048576) (he : w.2.1.length ≤ 1048576) (hp : w.2.2.length ≤ 1048576)
include ho hp he
omit he in
theorem iMayP (hv : workV w.1 w.2.1 w.2.2 = true) (ha : 0 ≤ a ∧ a < (w.1.length : Int)) : m_impl_Work_may w.1 w.2.1 w.2.2 kd a who = some (wkMay w kd a who) := by
  have ok := workV_iff.1 hv
  have c1 : ixB a w.1.length = true := decide_eq_true (by omega)
  have c2 : ixB a w.2.1.length = true := decide_eq_true (by have := ok.le; omega)
  unfold m_impl_Work_may wkMay
  rw [c1, c2, iHas _ _ _ (by omega), iHeld _ _ _ _ ho hp, hv]
  simp only [chk_true, Option.bind_some, if_true, nil_dec]
  by_cases k0 : kd = 0
  · subst k0; simp
  by_cases k1 : kd = 1
  · subst k1; simp
  by_cases k2 : kd = 2
  · subst k2; simp
  by_cases k3 : kd = 3
  · subst k3; cases w.2.1.getD a.toNat false <;> simp
  by_cases k4 : kd = 4
  · subst k4
    simp only [show ((4 : Int) == 0) = false from rfl, show ((4 : Int) == 2) = false from rfl, show ((4 : Int) == 1) = false from rfl, show ((4 : Int) == 3) = false from rfl, show ((4 : Int) == 4) = true from rfl, cond_false, cond_true, Option.bind_some]
    rw [if_neg (by omega), if_neg (by omega), if_neg (by omega), if_pos trivial, inB_le]
    have c6 : ltB (w.2.2.length : Int) 6 = decide (w.2.2.length < 6) := by simp only [ltB]; exact decide_eq_decide.2 (by omega)
    rw [c6]
    cases w.2.1.getD a.toNat false <;> cases decide ((who, a) ∈ w.2.2) <;> simp
  by_cases k5 : kd = 5
  · subst k5; simp
  · have e0 : (kd == 0) = false := by simpa using k0
    have e1 : (kd == 1) = false := by simpa using k1
    have e2 : (kd == 2) = false := by simpa using k2
    have e3 : (kd == 3) = false := by simpa using k3
    have e4 : (kd == 4) = false := by simpa using k4
    have e5 : (kd == 5) = false := by simpa using k5
    simp [k0, k1, k2, k3, k4, k5, e0, e1, e2, e3, e4, e5]
omit he in
theorem sMayP (hv : workV w.1 w.2.1 w.2.2 = true) (ha : 0 ≤ a ∧ a < (w.1.length : Int)) : m_spec_l12May w.1 w.2.1 w.2.2 kd a who = some (wkMay w kd a who) := by
  have ok := workV_iff.1 hv
  have c1 : ixB a w.1.length = true := decide_eq_true (by omega)
  have c2 : ixB a w.2.1.length = true := decide_eq_true (by have := ok.le; omega)
  have c3 : ltB (fnd w.2.2 (who, a)) 0 = !decide ((who, a) ∈ w.2.2) := by rw [← fnd_mem]; rw [Bool.eq_iff_iff]; simp [ltB, leB]
  unfold m_spec_l12May wkMay m_spec_l1In
  rw [c1, c2, sFind _ _ _ (by omega), sHeld _ _ _ _ ho hp, hv]
  simp only [chk_true, Option.bind_some, if_true, nil_dec, Bool.or_true, c3, fnd_mem]
  by_cases k0 : kd = 0
  · subst k0; simp
  by_cases k1 : kd = 1
  · subst k1; simp
  by_cases k2 : kd = 2
  · subst k2; simp
  by_cases k3 : kd = 3
  · subst k3; cases w.2.1.getD a.toNat false <;> simp
  by_cases k4 : kd = 4
  · subst k4
    simp only [show ((4 : Int) == 0) = false from rfl, show ((4 : Int) == 2) = false from rfl, show ((4 : Int) == 1) = false from rfl, show ((4 : Int) == 3) = false from rfl, show ((4 : Int) == 4) = true from rfl, cond_false, cond_true, Option.bind_some]
    rw [if_neg (by omega), if_neg (by omega), if_neg (by omega), if_pos trivial, inB_le]
    have c6 : ltB (w.2.2.length : Int) 6 = decide (w.2.2.length < 6) := by simp only [ltB]; exact decide_eq_decide.2 (by omega)
    rw [c6]
    cases w.2.1.getD a.toNat false <;> simp [gb, Bool.and_assoc]
  by_cases k5 : kd = 5
  · subst k5; simp
  · have e0 : (kd == 0) = false := by simpa using k0
    have e1 : (kd == 1) = false := by simpa using k1
    have e2 : (kd == 2) = false := by simpa using k2
    have e3 : (kd == 3) = false := by simpa using k3
    have e4 : (kd == 4) = false := by simpa using k4
    have e5 : (kd == 5) = false := by simpa using k5
    simp [k0, k1, k2, k3, k4, k5, e0, e1, e2, e3, e4, e5]
theorem wcloneP : m_impl_Work_clone w.1 w.2.1 w.2.2 = some w := by
  have a1 : apB ([] : List Bool).length w.1.length = true := by simp [apB]; omega
  have a2 : apB ([] : List Bool).length w.2.1.length = true := by simp [apB]; omega
  have a3 : apB ([] : Pm).length w.2.2.length = true := by simp [apB]; omega
  simp only [m_impl_Work_clone, m_slices_Clone_bool_bool, m_slices_Clone_impl_Permit_impl_Permit, a1, a2, a3, chk_true, Option.bind_some]
theorem wcopyP : m_spec_l12Copy w.1 w.2.1 w.2.2 = some w := by
  have a1 : apB ([] : List Bool).length w.1.length = true := by simp [apB]; omega
  have a2 : apB ([] : List Bool).length w.2.1.length = true := by simp [apB]; omega
  have a3 : apB ([] : Pm).length w.2.2.length = true := by simp [apB]; omega
  simp only [m_spec_l12Copy, m_spec_l2Copy, a1, a2, a3, chk_true, Option.bind_some, List.nil_append]
theorem iDo : m_impl_WorkDo w.1 w.2.1 w.2.2 kd a who = some (out4w (wkDo w kd a who)) := by
  unfold m_impl_WorkDo wkDo
  rw [iValid _ _ _ ho hp]
  cases hv : workV w.1 w.2.1 w.2.2
  · rfl
  have ok := workV_iff.1 hv
  simp only [Option.bind_some, cond_true, if_true, wcloneP w ho he hp]
  by_cases ha : 0 ≤ a ∧ a < (w.1.length : Int)
  · have c0 : (ltB a 0 || leB (w.1.length : Int) a) = false := by simp [ltB, leB]; omega
    have c1 : ixB a w.1.length = true := decide_eq_true (by omega)
    have c2 : ixB a w.2.1.length = true := decide_eq_true (by have := ok.le; omega)
    simp only [c0, Bool.not_false, gb, cond_true, iMayP w kd a who ho hp hv ha, Option.bind_some, Bool.false_or]
    cases hm : wkMay w kd a who
    · rw [if_neg (fun h => by cases h.2.2)]; rfl
    rw [if_pos ⟨ha.1, ha.2, rfl⟩]
    simp only [Bool.not_true, cond_false]
    by_cases k0 : kd = 0
    · subst k0; simp [c1, wkPut, out4w]
    by_cases k1 : kd = 1
    · subst k1; simp [c1, wkPut, out4w]
    by_cases k2 : kd = 2
    · subst k2; simp [c2, wkPut, out4w]
    by_cases k3 : kd = 3
    · subst k3; simp [c2, wkPut, out4w]
    by_cases k4 : kd = 4
    · subst k4
      have a4 : apB w.2.2.length 1 = true := by simp [apB]; omega
      simp [wkPut, out4w, a4]
    by_cases k5 : kd = 5
    · subst k5
      have hmem : (who, a) ∈ w.2.2 := by simpa [wkMay] using hm
      rcases fnd_spec w.2.2 (who, a) with ⟨h1, h2⟩ | ⟨k, hk, h1, h2, h3⟩
      · exact absurd hmem h2
      have wk : w64 ((k : Int) + 1) = (k : Int) + 1 := w64_in (by omega) (by omega)
      have b1 : slB (k : Int) ((k : Int) + 1) w.2.2.length = true := decide_eq_true (by omega)
      have b2 : slB 0 (k : Int) w.2.2.length = true := decide_eq_true (by omega)
      have b3 : slB ((k : Int) + 1) (w.2.2.length : Int) w.2.2.length = true := decide_eq_true (by omega)
      have b4 : ((k : Int) == (k : Int) + 1) = false := by simp; omega
      have s1 : subL w.2.2 0 (k : Int) = w.2.2.take k := by simp [subL]
      have s2 : subL w.2.2 ((k : Int) + 1) (w.2.2.length : Int) = w.2.2.drop (k + 1) := by
        unfold subL; rw [show ((k : Int) + 1).toNat = k + 1 by omega, List.take_of_length_le (by simp <;> omega)]
      have b5 : apB (w.2.2.take k).length (w.2.2.drop (k + 1)).length = true := by simp [apB]; omega
      simp only [show ((5 : Int) == 0) = false from rfl, show ((5 : Int) == 1) = false from rfl, show ((5 : Int) == 2) = false from rfl, show ((5 : Int) == 3) = false from rfl, show ((5 : Int) == 4) = false from rfl, show ((5 : Int) == 5) = true from rfl, cond_false, cond_true, Option.bind_some, iFind w.2.2 who a (by omega), h1, m_slices_Delete_impl_Permit_impl_Permit, wk, b1, b2, b3, b4, s1, s2, b5, chk_true]
      simp [wkPut, out4w, h1]
    · exfalso
      simp [wkMay, k0, k1, k2, k3, k4, k5] at hm
  · have c0 : (ltB a 0 || leB (w.1.length : Int) a) = true := by simp [ltB, leB]; omega
    rw [if_neg (fun h => ha ⟨h.1, h.2.1⟩)]
    simp [c0, gb, out4w]
theorem sDo : m_spec_WorkDo w.1 w.2.1 w.2.2 kd a who = some (out4w (wkDo w kd a who)) := by
  unfold m_spec_WorkDo wkDo m_spec_l1In
  rw [sValid _ _ _ ho hp]
  cases hv : workV w.1 w.2.1 w.2.2
  · rfl
  have ok := workV_iff.1 hv
  have w1 : w64 ((w.1.length : Int) - 1) = (w.1.length : Int) - 1 := w64_in (by omega) (by omega)
  simp only [Option.bind_some, cond_true, if_true, wcopyP w ho he hp, w1]
  by_cases ha : 0 ≤ a ∧ a < (w.1.length : Int)
  · have c0 : (leB 0 a && leB a ((w.1.length : Int) - 1)) = true := by simp [leB]; omega
    have c1 : ixB a w.1.length = true := decide_eq_true (by omega)
    have c2 : ixB a w.2.1.length = true := decide_eq_true (by have := ok.le; omega)
    simp only [c0, Bool.not_true, Bool.not_false, gb, cond_true, sMayP w kd a who ho hp hv ha, Option.bind_some, Bool.false_or]
    cases hm : wkMay w kd a who
    · rw [if_neg (fun h => by cases h.2.2)]; rfl
    rw [if_pos ⟨ha.1, ha.2, rfl⟩]
    simp only [Bool.not_true, cond_false]
    by_cases k0 : kd = 0
    · subst k0; simp [c1, wkPut, out4w]
    by_cases k1 : kd = 1
    · subst k1; simp [c1, wkPut, out4w]
    by_cases k2 : kd = 2
    · subst k2; simp [c2, wkPut, out4w]
    by_cases k3 : kd = 3
    · subst k3; simp [c2, wkPut, out4w]
    by_cases k4 : kd = 4
    · subst k4
      have a4 : apB w.2.2.length 1 = true := by simp [apB]; omega
      simp [wkPut, out4w, a4]
    by_cases k5 : kd = 5
    · subst k5
      have hmem : (who, a) ∈ w.2.2 := by simpa [wkMay] using hm
      rcases fnd_spec w.2.2 (who, a) with ⟨h1, h2⟩ | ⟨k, hk, h1, h2, h3⟩
      · exact absurd hmem h2
      have wk : w64 ((k : Int) + 1) = (k : Int) + 1 := w64_in (by omega) (by omega)
      have b2 : slB 0 (k : Int) w.2.2.length = true := decide_eq_true (by omega)
      have b3 : slB ((k : Int) + 1) (w.2.2.length : Int) w.2.2.length = true := decide_eq_true (by omega)
      have s1 : subL w.2.2 0 (k : Int) = w.2.2.take k := by simp [subL]
      have s2 : subL w.2.2 ((k : Int) + 1) (w.2.2.length : Int) = w.2.2.drop (k + 1) := by
        unfold subL; rw [show ((k : Int) + 1).toNat = k + 1 by omega, List.take_of_length_le (by simp <;> omega)]
      have b5 : apB (w.2.2.take k).length (w.2.2.drop (k + 1)).length = true := by simp [apB]; omega
      simp only [show ((5 : Int) == 0) = false from rfl, show ((5 : Int) == 1) = false from rfl, show ((5 : Int) == 2) = false from rfl, show ((5 : Int) == 3) = false from rfl, show ((5 : Int) == 4) = false from rfl, cond_false, cond_true, Option.bind_some, sFind w.2.2 who a (by omega), h1, wk, b2, b3, s1, s2, b5, chk_true]
      simp [wkPut, out4w, h1]
    · exfalso
      simp [wkMay, k0, k1, k2, k3, k4, k5] at hm
  · have c0 : (leB 0 a && leB a ((w.1.length : Int) - 1)) = false := by simp [leB]; omega
    rw [if_neg (fun h => ha ⟨h.1, h.2.1⟩)]
    simp [c0, gb, out4w]
end
end Go.Proofs.YtnplecoikgnpkaaGreatDoor
namespace Go.Proofs.YtnplecoikgnpkaaGreatDoor
set_option linter.unusedVariables false
set_option linter.unusedSimpArgs false
theorem cmp_less (a b : Int) : m_cmp_Less_int a b = some (ltB a b) := by
  simp [m_cmp_Less_int, m_cmp_isNaN_int, gb]
theorem mid_val {a b : Nat} (h : a + b < 4611686018427387904) : w64 (bitsShr .u64 (wk .u64 (w64 ((a : Int) + (b : Int)))) 1) = (((a + b) / 2 : Nat) : Int) := by
  have e1 : w64 ((a : Int) + (b : Int)) = ((a + b : Nat) : Int) := by rw [w64_in (by omega) (by omega)]; omega
  have e2 : wk .u64 ((a + b : Nat) : Int) = ((a + b : Nat) : Int) := by
    unfold wk IntKind.wrap
    have : (IntKind.u64).bits = 64 := rfl
    simp only [this]
    first
      | (rw [Int.emod_eq_of_lt (by omega) (by omega)]; simp [IntKind.signed])
      | omega
  have e3 : bitsShr .u64 ((a + b : Nat) : Int) 1 = (((a + b) / 2 : Nat) : Int) := by
    unfold bitsShr
    rw [show min (1 : Int).toNat (IntKind.bits .u64) = 1 from rfl, Int.fdiv_eq_ediv_of_nonneg _ (by decide)]
    omega
  rw [e1, e2, e3, w64_in (by omega) (by omega)]
structure At (l : List Int) (x : Int) (p : Nat) : Prop where
  le : p ≤ l.length
  lo : ∀ k, k < p → l.getD k 0 < x
  hi : ∀ k, p ≤ k → k < l.length → x ≤ l.getD k 0
theorem bs_loop (l : List Int) (x : Int) (hs : ∀ i j, i < j → j < l.length → l.getD i 0 < l.getD j 0) (hl : l.length ≤ 1048576) : ∀ (d lo hi fuel : Nat), hi - lo = d → d < fuel → lo ≤ hi → hi ≤ l.length → (∀ k, k < lo → l.getD k 0 < x) → (∀ k, hi ≤ k → k < l.length → x ≤ l.getD k 0) →
    ∃ p : Nat, m_slices_BinarySearch_int_int_l1 l x fuel ((lo : Int), (hi : Int)) = some (p : Int) ∧ At l x p := by
  intro d
  induction d using Nat.strongRecOn with
  | _ d ih =>
    intro lo hi fuel hd hf h1 h2 h3 h4
    obtain ⟨f, rfl⟩ : ∃ f, fuel = f + 1 := ⟨fuel - 1, by omega⟩
    rw [m_slices_BinarySearch_int_int_l1.eq_2]
    dsimp only
    by_cases hlt : lo < hi
    · have hm1 : lo ≤ (lo + hi) / 2 := by omega
      have hm2 : (lo + hi) / 2 < hi := by omega
      have hc : ltB (lo : Int) (hi : Int) = true := decide_eq_true (by omega)
      rw [hc, mid_val (by omega)]
      simp only [cond_true, ix_dec (show (lo + hi) / 2 < l.length by omega), chk_true, Int.toNat_natCast, cmp_less, Option.bind_some, w64_succ (by omega : (lo + hi) / 2 < 4611686018427387904)]
      by_cases hx : l.getD ((lo + hi) / 2) 0 < x
      · rw [show ltB (l.getD ((lo + hi) / 2) 0) x = true from decide_eq_true hx]
        simp only [cond_true, Option.bind_some]
        refine ih (hi - ((lo + hi) / 2 + 1)) (by omega) ((lo + hi) / 2 + 1) hi f rfl (by omega) (by omega) h2 (fun k hk => ?_) h4
        rcases Nat.lt_or_ge k ((lo + hi) / 2) with h | h
        · have := hs k _ h (by omega); omega
        · have : k = (lo + hi) / 2 := by omega
          rw [this]; exact hx
      · rw [show ltB (l.getD ((lo + hi) / 2) 0) x = false from decide_eq_false hx]
        simp only [cond_false, Option.bind_some]
        refine ih ((lo + hi) / 2 - lo) (by omega) lo ((lo + hi) / 2) f rfl (by omega) hm1 (by omega) h3 (fun k hk hk2 => ?_)
        rcases Nat.lt_or_ge ((lo + hi) / 2) k with h | h
        · have := hs _ k h hk2; omega
        · have : k = (lo + hi) / 2 := by omega
          rw [this]; omega
    · have hc : ltB (lo : Int) (hi : Int) = false := decide_eq_false (by omega)
      have : lo = hi := by omega
      subst this
      exact ⟨lo, by rw [hc]; rfl, h2, h3, h4⟩
theorem sor_get {l : List Int} (h : l.Pairwise (· < ·)) : ∀ i j, i < j → j < l.length → l.getD i 0 < l.getD j 0 := by
  intro i j hij hj
  rw [getD_ge (by omega), getD_ge hj]
  exact List.pairwise_iff_getElem.1 h i j (by omega) hj hij
theorem at_mem {l : List Int} {x : Int} {p : Nat} (hs : l.Pairwise (· < ·)) (h : At l x p) : (p < l.length ∧ l.getD p 0 = x) ↔ x ∈ l := by
  constructor
  · rintro ⟨h1, h2⟩; rw [← h2, getD_ge h1]; exact List.getElem_mem h1
  · intro hm
    obtain ⟨k, hk, e⟩ := List.getElem_of_mem hm
    have e2 : l.getD k 0 = x := by rw [getD_ge hk]; exact e
    have hk2 : p ≤ k := by
      rcases Nat.lt_or_ge k p with h3 | h3
      · have := h.lo k h3; omega
      · exact h3
    have h5 := h.hi p (Nat.le_refl p) (by omega)
    by_cases hpk : p = k
    · subst hpk; exact ⟨hk, e2⟩
    · have := sor_get hs p k (by omega) hk; omega
theorem iBs {l : List Int} {x : Int} (hs : l.Pairwise (· < ·)) (hl : l.length ≤ 1048576) : ∃ p : Nat, m_slices_BinarySearch_int_int l x = some ((p : Int), decide (x ∈ l)) ∧ At l x p := by
  obtain ⟨p, h1, h2⟩ := bs_loop l x (sor_get hs) hl l.length 0 l.length FUEL (by omega) (fuel_gt (by omega)) (by omega) (Nat.le_refl _) (fun k hk => by omega) (fun k h3 h4 => by omega)
  refine ⟨p, ?_, h2⟩
  have hm := at_mem hs h2
  have hle := h2.le
  unfold m_slices_BinarySearch_int_int
  rw [show m_slices_BinarySearch_int_int_l1 l x FUEL (0, (l.length : Int)) = _ from h1, Option.bind_some]
  by_cases hp : p < l.length
  · have e1 : ltB (p : Int) (l.length : Int) = true := decide_eq_true (by omega)
    have e2 : (l.getD p 0 == x) = decide (x ∈ l) := by
      rw [Bool.eq_iff_iff, beq_iff_eq, decide_eq_true_eq, ← hm]
      exact ⟨fun h => ⟨hp, h⟩, fun h => h.2⟩
    simp only [e1, ix_dec hp, Bool.or_true, chk_true, Int.toNat_natCast, e2, m_slices_isNaN_int]
    cases decide (x ∈ l) <;> simp [gb]
  · have e1 : ltB (p : Int) (l.length : Int) = false := decide_eq_false (by omega)
    have e2 : decide (x ∈ l) = false := decide_eq_false fun h => hp (hm.2 h).1
    simp [e1, e2, gb, chk]
theorem at_ins {l : List Int} {x : Int} {p : Nat} (hs : l.Pairwise (· < ·)) (h : At l x p) (hx : x ∉ l) : l.take p ++ [x] ++ l.drop p = insS x l := by
  have hlt : ∀ z ∈ l.take p, z < x := by
    intro z hz
    obtain ⟨k, hk, rfl⟩ := List.getElem_of_mem hz
    rw [List.length_take] at hk
    rw [List.getElem_take, ← getD_ge (d := 0)]
    exact h.lo k (by omega)
  have hgt : ∀ z ∈ l.drop p, x < z := by
    intro z hz
    obtain ⟨k, hk, rfl⟩ := List.getElem_of_mem hz
    rw [List.length_drop] at hk
    have hm : (l.drop p)[k]'(by rw [List.length_drop]; exact hk) ∈ l := List.mem_of_mem_drop (List.getElem_mem _)
    have h1 := h.hi (p + k) (by omega) (by omega)
    rw [getD_ge (by omega)] at h1
    rw [List.getElem_drop] at hm ⊢
    have : l[p + k] ≠ x := fun e => hx (e ▸ hm)
    omega
  refine sorted_ext ?_ (insS_sorted hs) (fun z => ?_)
  · rw [List.append_assoc, List.pairwise_append]
    refine ⟨hs.sublist (List.take_sublist _ _), ?_, fun a ha b hb => ?_⟩
    · rw [List.singleton_append, List.pairwise_cons]
      exact ⟨hgt, hs.sublist (List.drop_sublist _ _)⟩
    · rcases List.mem_append.1 hb with hb | hb
      · simp at hb; subst hb; exact hlt a ha
      · have := hlt a ha; have := hgt b hb; omega
  · rw [insS_mem, List.mem_append, List.mem_append, List.mem_singleton]
    have : z ∈ l ↔ z ∈ l.take p ∨ z ∈ l.drop p := by rw [← List.mem_append, List.take_append_drop]
    rw [this]
    constructor
    · rintro ((h | h) | h)
      · exact .inr (.inl h)
      · exact .inl h
      · exact .inr (.inr h)
    · rintro (h | h | h)
      · exact .inl (.inr h)
      · exact .inl (.inl h)
      · exact .inr h
theorem at_del {l : List Int} {x : Int} {p : Nat} (hs : l.Pairwise (· < ·)) (h : At l x p) (hx : x ∈ l) : l.take p ++ l.drop (p + 1) = l.filter fun z => z != x := by
  obtain ⟨hp, he⟩ := (at_mem hs h).2 hx
  refine sorted_ext ?_ (hs.sublist List.filter_sublist) (fun z => ?_)
  · rw [List.pairwise_append]
    refine ⟨hs.sublist (List.take_sublist _ _), hs.sublist (List.drop_sublist _ _), fun a ha b hb => ?_⟩
    have h2 : (l.take p ++ l.drop p).Pairwise (· < ·) := by rw [List.take_append_drop]; exact hs
    exact (List.pairwise_append.1 h2).2.2 a ha b (by rw [List.drop_eq_getElem_cons hp]; exact List.mem_cons_of_mem _ hb)
  · rw [List.mem_append, List.mem_filter]
    have e : l = l.take p ++ l[p] :: l.drop (p + 1) := by rw [← List.drop_eq_getElem_cons hp, List.take_append_drop]
    have hpx : l[p] = x := by rw [← getD_ge hp (d := 0)]; exact he
    have h2 : (l.take p ++ l[p] :: l.drop (p + 1)).Pairwise (· < ·) := by rw [← e]; exact hs
    have h3 := (List.pairwise_append.1 h2)
    have h4 := List.pairwise_cons.1 h3.2.1
    have hm : z ∈ l ↔ z ∈ l.take p ∨ z = x ∨ z ∈ l.drop (p + 1) := by
      conv => lhs; rw [e]
      rw [List.mem_append, List.mem_cons, hpx]
    rw [hm]
    simp only [bne_iff_ne, ne_eq]
    constructor
    · rintro (h | h)
      · exact ⟨.inl h, by have := h3.2.2 z h l[p] List.mem_cons_self; omega⟩
      · exact ⟨.inr (.inr h), by have := h4.1 z h; omega⟩
    · rintro ⟨h | h | h, hne⟩
      · exact .inl h
      · exact absurd h hne
      · exact .inr h
end Go.Proofs.YtnplecoikgnpkaaGreatDoor
namespace Go.Proofs.YtnplecoikgnpkaaGreatDoor
set_option linter.unusedVariables false
set_option linter.unusedSimpArgs false
abbrev W7 := Int × List Ln × List (Int × Int) × List Bool × List Bool × Pm × List Int
def o7 (w : Wd) : W7 := (w.b, w.ls, w.pts, w.on, w.earth, w.pm, w.br)
abbrev W8 := Int × List Ln × List (Int × Int) × List Bool × List Bool × Pm × List Int × Bool
def o8 (r : Wd × Bool) : W8 := (r.1.b, r.1.ls, r.1.pts, r.1.on, r.1.earth, r.1.pm, r.1.br, r.2)
structure Sm (w : Wd) : Prop where
  l : w.ls.length ≤ 1048576
  p : w.pts.length ≤ 1048576
  o : w.on.length ≤ 1048576
  e : w.earth.length ≤ 1048576
  m : w.pm.length ≤ 1048576
  b : w.br.length ≤ 1048576
theorem bl_of {w : Wd} (h : WdOk w) : w.br.length ≤ w.on.length := by
  have h1 : ∀ k, k < w.br.length → (k : Int) ≤ w.br.getD k 0 := by
    intro k
    induction k with
    | zero =>
      intro hk
      have := (h.inn (w.br.getD 0 0) (by rw [getD_ge hk]; exact List.getElem_mem hk)).1
      omega
    | succ k ih =>
      intro hk
      have h1 := ih (by omega)
      have h2 := adj_of_sorted h.sor hk
      omega
  rcases Nat.eq_zero_or_pos w.br.length with h0 | h0
  · omega
  · have h2 := h1 (w.br.length - 1) (by omega)
    have h3 := (h.inn (w.br.getD (w.br.length - 1) 0) (by rw [getD_ge (by omega)]; exact List.getElem_mem _)).1
    omega
theorem sm_of {w : Wd} (h : WdOk w) : Sm w := by
  have h1 := h.bus.net.ll; have h2 := h.bus.lp; have h3 := h.bus.net.b1; have h4 := h.work.l1; have h5 := h.work.le; have h6 := h.work.lp; have h7 := bl_of h
  simp only [Wd.wk] at h4 h5 h6
  exact ⟨by omega, by omega, by omega, by omega, by omega, by omega⟩
theorem radB_ok {w : Wd} (h : WdOk w) {on' : List Bool} (hl : on'.length = w.ls.length) : radB w.b w.ls on' w.pts = radP w.ls on' w.pts := by
  unfold radB
  rw [okV_iff.2 ⟨⟨h.bus.net, hl⟩, h.bus⟩]; rfl
theorem may_no {w : Wk} {kd a who : Int} (h : kd ≠ 0 ∧ kd ≠ 1 ∧ kd ≠ 2 ∧ kd ≠ 3 ∧ kd ≠ 4 ∧ kd ≠ 5) : wkMay w kd a who = false := by
  simp [wkMay, h.1, h.2.1, h.2.2.1, h.2.2.2.1, h.2.2.2.2.1, h.2.2.2.2.2]
theorem do_no {w : Wk} (hw : WOk w) {kd a who : Int} (h : kd ≠ 0 ∧ kd ≠ 1 ∧ kd ≠ 2 ∧ kd ≠ 3 ∧ kd ≠ 4 ∧ kd ≠ 5) : (wkDo w kd a who).2 = false := by
  rcases do_cases hw kd a who with ⟨_, _, h1, _⟩ | ⟨h1, _⟩
  · rw [may_no h] at h1; cases h1
  · rw [h1]
section
variable {w : Wd} (h : Sm w)
include h
theorem iClone7 : m_impl_World_clone w.b w.ls w.pts w.on w.earth w.pm w.br = some (o7 w) := by
  have a1 : apB ([] : List Ln).length w.ls.length = true := by have := h.l; simp [apB]; omega
  have a2 : apB ([] : List (Int × Int)).length w.pts.length = true := by have := h.p; simp [apB]; omega
  have a3 : apB ([] : List Int).length w.br.length = true := by have := h.b; simp [apB]; omega
  have := wcloneP (w.on, w.earth, w.pm) h.o h.e h.m
  simp only [m_impl_World_clone, m_slices_Clone_impl_Line_impl_Line, m_slices_Clone_impl_Bus_impl_Bus, m_slices_Clone_int_int, a1, a2, a3, chk_true, Option.bind_some, this]
  rfl
theorem sCopy7 : m_spec_l39Copy w.b w.ls w.pts w.on w.earth w.pm w.br = some (o7 w) := by
  have a1 : apB ([] : List Ln).length w.ls.length = true := by have := h.l; simp [apB]; omega
  have a2 : apB ([] : List (Int × Int)).length w.pts.length = true := by have := h.p; simp [apB]; omega
  have a3 : apB ([] : List Int).length w.br.length = true := by have := h.b; simp [apB]; omega
  have := wcopyP (w.on, w.earth, w.pm) h.o h.e h.m
  simp only [m_spec_l39Copy, a1, a2, a3, chk_true, Option.bind_some, List.nil_append, this]
  rfl
end
section
variable {w : Wd} (h : WdOk w) (kd a who : Int) (ha : 0 ≤ a ∧ a < (w.on.length : Int))
include h ha
theorem iWdo : ∃ st : W7, m_impl_World_do w.b w.ls w.pts w.on w.earth w.pm w.br kd a who = some ((wdDo w kd a who).2, st) ∧ ((wdDo w kd a who).2 = true → st = o7 (wdDo w kd a who).1) := by
  have sm := sm_of h
  obtain ⟨p, hp, hat⟩ := iBs (x := a) h.sor sm.b
  have hle := hat.le
  have hbl := sm.b
  have hix : ixB a w.on.length = true := decide_eq_true ha
  have hv := wv_iff.2 h
  unfold m_impl_World_do
  rw [hp, Option.bind_some]
  dsimp only
  by_cases k6 : kd = 6
  · subst k6
    by_cases hb : a ∈ w.br
    · have hf : wdDo w 6 a who = (w, false) := by
        unfold wdDo
        rw [if_pos hv, if_pos ha, if_neg (fun e => e.2 hb), if_neg (fun e => absurd e.1 (by decide)), if_neg (fun e => absurd e.1 (by decide)), if_neg (fun e => by rw [do_no h.work (by decide)] at e; cases e.1)]
      rw [hf]
      exact ⟨_, by rw [decide_eq_true hb]; rfl, fun e => by cases e⟩
    · have hf : wdDo w 6 a who = ({ w with on := w.on.set a.toNat false, br := insS a w.br }, true) := by
        unfold wdDo
        rw [if_pos hv, if_pos ha, if_pos ⟨rfl, hb⟩]
      rw [hf]
      have c1 : slB 0 (p : Int) w.br.length = true := decide_eq_true (by omega)
      have c2 : apB w.br.length 1 = true := by simp [apB]; omega
      refine ⟨_, ?_, fun _ => rfl⟩
      rw [decide_eq_false hb]
      simp only [cond_false, show ((6 : Int) == 6) = true from rfl, cond_true, m_slices_Insert_int_int, c1, c2, chk_true, List.length_singleton, show (((1 : Nat) : Int) == 1) = true from rfl, Option.bind_some, hix, Int.toNat_natCast, at_ins h.sor hat hb]
      rfl
  rw [show (kd == 6) = false from by simpa using k6, cond_false]
  by_cases k7 : kd = 7
  · subst k7
    have hh := iHas w.pm who a (by have := sm.m; omega)
    by_cases hb : a ∈ w.br
    · by_cases hm : (who, a) ∈ w.pm
      · have hf : wdDo w 7 a who = ({ w with br := w.br.filter fun x => x != a }, true) := by
          unfold wdDo
          rw [if_pos hv, if_pos ha, if_neg (fun e => absurd e.1 (by decide)), if_pos ⟨rfl, hb, hm⟩]
        rw [hf]
        obtain ⟨hpl, _⟩ := (at_mem h.sor hat).2 hb
        have wk : w64 ((p : Int) + 1) = (p : Int) + 1 := w64_in (by omega) (by omega)
        have b1 : slB (p : Int) ((p : Int) + 1) w.br.length = true := decide_eq_true (by omega)
        have b2 : slB 0 (p : Int) w.br.length = true := decide_eq_true (by omega)
        have b3 : slB ((p : Int) + 1) (w.br.length : Int) w.br.length = true := decide_eq_true (by omega)
        have b4 : ((p : Int) == (p : Int) + 1) = false := by simp; omega
        have s1 : subL w.br 0 (p : Int) = w.br.take p := by simp [subL]
        have s2 : subL w.br ((p : Int) + 1) (w.br.length : Int) = w.br.drop (p + 1) := by
          unfold subL; rw [show ((p : Int) + 1).toNat = p + 1 by omega, List.take_of_length_le (by simp <;> omega)]
        have b5 : apB (w.br.take p).length (w.br.drop (p + 1)).length = true := by simp [apB]; omega
        refine ⟨_, ?_, fun _ => rfl⟩
        rw [decide_eq_true hb, hh, decide_eq_true hm]
        simp only [show ((7 : Int) == 7) = true from rfl, cond_true, Bool.not_true, Bool.not_false, gb_true, Option.bind_some, Bool.or_self, cond_false, m_slices_Delete_int_int, wk, b1, b2, b3, b4, s1, s2, b5, chk_true, at_del h.sor hat hb]
        rfl
      · have hf : wdDo w 7 a who = (w, false) := by
          unfold wdDo
          rw [if_pos hv, if_pos ha, if_neg (fun e => absurd e.1 (by decide)), if_neg (fun e => hm e.2.2), if_neg (fun e => absurd e.1 (by decide)), if_neg (fun e => by rw [do_no h.work (by decide)] at e; cases e.1)]
        rw [hf]
        exact ⟨_, by rw [decide_eq_true hb, hh, decide_eq_false hm]; rfl, fun e => by cases e⟩
    · have hf : wdDo w 7 a who = (w, false) := by
        unfold wdDo
        rw [if_pos hv, if_pos ha, if_neg (fun e => absurd e.1 (by decide)), if_neg (fun e => hb e.2.1), if_neg (fun e => absurd e.1 (by decide)), if_neg (fun e => by rw [do_no h.work (by decide)] at e; cases e.1)]
      rw [hf]
      exact ⟨_, by rw [decide_eq_false hb]; rfl, fun e => by cases e⟩
  rw [show (kd == 7) = false from by simpa using k7, cond_false]
  have hdo := iDo w.wk kd a who sm.o sm.e sm.m
  have hlen := (wkDo_on h.work (kd := kd) (a := a) (who := who)).1
  have hrad : m_impl_Radial w.b w.ls (wkDo w.wk kd a who).1.1 w.pts = some (radP w.ls (wkDo w.wk kd a who).1.1 w.pts) := by
    rw [iRadial _ _ _ _ sm.p, radB_ok h (hlen.trans h.len)]
  by_cases k0 : kd = 0
  · subst k0
    by_cases hb : a ∈ w.br
    · have hf : wdDo w 0 a who = (w, false) := by
        unfold wdDo
        rw [if_pos hv, if_pos ha, if_neg (fun e => absurd e.1 (by decide)), if_neg (fun e => absurd e.1 (by decide)), if_pos ⟨rfl, hb⟩]
      rw [hf]
      exact ⟨_, by rw [decide_eq_true hb]; rfl, fun e => by cases e⟩
    · have hf : wdDo w 0 a who = if (wkDo w.wk 0 a who).2 = true ∧ radP w.ls (wkDo w.wk 0 a who).1.1 w.pts = true then (w.put (wkDo w.wk 0 a who).1, true) else (w, false) := by
        unfold wdDo
        rw [if_pos hv, if_pos ha, if_neg (fun e => absurd e.1 (by decide)), if_neg (fun e => absurd e.1 (by decide)), if_neg (fun e => hb e.2)]
      rw [hf]
      simp only [Wd.wk] at hdo
      rw [decide_eq_false hb]
      simp only [show ((0 : Int) == 0) = true from rfl, cond_true, cond_false, Option.bind_some, Sum.elim_inl, hdo, out4w, show ((0 : Int) != 0) = false from rfl, Bool.not_false, Bool.and_true, Bool.false_or]
      change ∃ st : W7, Option.bind (gb (wkDo w.wk 0 a who).2 (m_impl_Radial w.b w.ls (wkDo w.wk 0 a who).1.1 w.pts)) (fun p127 => some ((wkDo w.wk 0 a who).2 && p127, w.b, w.ls, w.pts, (wkDo w.wk 0 a who).1.1, (wkDo w.wk 0 a who).1.2.1, (wkDo w.wk 0 a who).1.2.2, w.br)) = _ ∧ _
      rw [hrad]
      cases h1 : (wkDo w.wk 0 a who).2
      · exact ⟨_, rfl, fun e => by cases e⟩
      · cases h2 : radP w.ls (wkDo w.wk 0 a who).1.1 w.pts
        · exact ⟨_, rfl, fun e => by cases e⟩
        · exact ⟨_, rfl, fun _ => rfl⟩
  · have hf : wdDo w kd a who = if (wkDo w.wk kd a who).2 = true ∧ radP w.ls (wkDo w.wk kd a who).1.1 w.pts = true then (w.put (wkDo w.wk kd a who).1, true) else (w, false) := by
      unfold wdDo
      rw [if_pos hv, if_pos ha, if_neg (fun e => k6 e.1), if_neg (fun e => k7 e.1), if_neg (fun e => k0 e.1)]
    rw [hf, wkDo_rad h k0]
    have e0 : (kd == 0) = false := by simpa using k0
    have e1 : (kd != 0) = true := by simpa using k0
    simp only [Wd.wk] at hdo
    simp only [e0, cond_false, Option.bind_some, Sum.elim_inl, hdo, out4w, e1, Bool.not_true, Bool.and_false, gb_false, Bool.true_or, Bool.and_true]
    change ∃ st : W7, some ((wkDo w.wk kd a who).2, w.b, w.ls, w.pts, (wkDo w.wk kd a who).1.1, (wkDo w.wk kd a who).1.2.1, (wkDo w.wk kd a who).1.2.2, w.br) = _ ∧ _
    cases h1 : (wkDo w.wk kd a who).2
    · exact ⟨_, rfl, fun e => by cases e⟩
    · exact ⟨_, rfl, fun _ => rfl⟩
end
theorem iWorldDo {w : Wd} (sm : Sm w) (kd a who : Int) : m_impl_WorldDo w.b w.ls w.pts w.on w.earth w.pm w.br kd a who = some (o8 (wdDo w kd a who)) := by
  unfold m_impl_WorldDo
  rw [iWv w.b w.ls w.pts w.on w.earth w.pm w.br sm.p sm.o sm.m sm.b, Option.bind_some]
  cases hv : wv w
  · unfold wdDo
    rw [if_neg (by rw [hv]; decide)]
    rfl
  rw [cond_true, iClone7 sm, Option.bind_some]
  have h := wv_iff.1 hv
  simp only [m_impl_Net_hasLine, Option.bind_some]
  by_cases ha : 0 ≤ a ∧ a < (w.on.length : Int)
  · have hc : (leB 0 a && ltB a (w.ls.length : Int)) = true := by rw [← h.len]; simp [leB, ltB]; omega
    obtain ⟨st, h1, h2⟩ := iWdo h kd a who ha
    simp only [o7]
    rw [hc, cond_true, h1]
    cases hr : (wdDo w kd a who).2
    · simp only [Option.bind_some, Bool.not_false, cond_true]
      have hs := wdDo_same h hr
      have : wdDo w kd a who = (w, false) := Prod.ext hs hr
      rw [this]; rfl
    · rw [h2 hr]
      simp only [Option.bind_some, Bool.not_true, cond_false, o7, o8, hr]
  · have hc : (leB 0 a && ltB a (w.ls.length : Int)) = false := by rw [← h.len]; simp [leB, ltB]; omega
    have hf : wdDo w kd a who = (w, false) := by unfold wdDo; rw [if_pos hv, if_neg ha]
    rw [hc, hf]; rfl
def bkL (br : List Int) (a : Int) (k : Nat) : List Int := ((List.range k).map fun (i : Nat) => (i : Int)).filter fun i => i == a || decide (i ∈ br)
theorem bkL_len (br : List Int) (a : Int) (k : Nat) : (bkL br a k).length ≤ k := by
  unfold bkL
  refine Nat.le_trans (List.length_filter_le _ _) ?_
  simp
theorem bkL_succ (br : List Int) (a : Int) (k : Nat) : bkL br a (k + 1) = bif (k : Int) == a || decide ((k : Int) ∈ br) then bkL br a k ++ [(k : Int)] else bkL br a k := by
  unfold bkL
  rw [List.range_succ, List.map_append, List.filter_append]
  cases hc : ((k : Int) == a || decide ((k : Int) ∈ br)) <;> simp [List.filter_cons, hc]
theorem bkL_eq {w : Wd} (h : WdOk w) {a : Int} (ha : 0 ≤ a ∧ a < (w.on.length : Int)) : bkL w.br a w.on.length = insS a w.br := by
  refine sorted_ext ?_ (insS_sorted h.sor) (fun x => ?_)
  · refine List.Pairwise.sublist List.filter_sublist ?_
    rw [List.pairwise_map]
    exact List.pairwise_lt_range.imp (fun h => by omega)
  · unfold bkL
    rw [insS_mem, List.mem_filter, List.mem_map]
    simp only [List.mem_range, Bool.or_eq_true, beq_iff_eq, decide_eq_true_eq]
    constructor
    · exact fun e => e.2
    · intro e
      refine ⟨?_, e⟩
      have : 0 ≤ x ∧ x < (w.on.length : Int) := by
        rcases e with rfl | e
        · exact ha
        · exact (h.inn x e).1
      exact ⟨x.toNat, by omega, by omega⟩
section
variable {w : Wd} (h : WdOk w) {a : Int} (ha : 0 ≤ a ∧ a < (w.on.length : Int))
include h ha
theorem sBreak : m_spec_l39Break w.b w.ls w.pts w.on w.earth w.pm w.br a = some (o7 { w with on := w.on.set a.toNat false, br := insS a w.br }) := by
  have sm := sm_of h
  have ho := sm.o; have hb := sm.b
  have hix : ixB a w.on.length = true := decide_eq_true ha
  have hh := loop_all (m_spec_l39Break_l1 w.on w.br a) (fun k => ((k : Int), bkL w.br a k)) w.on.length (some (insS a w.br)) (by omega) (fun k fuel hk => ?_) (fun fuel => ?_)
  · unfold m_spec_l39Break
    rw [sCopy7 sm]
    simp only [Option.bind_some, o7, hix, chk_true]
    rw [show m_spec_l39Break_l1 w.on w.br a FUEL (0, []) = _ from hh]
    rfl
  · rw [m_spec_l39Break_l1.eq_2]
    have hl := bkL_len w.br a k
    have ap : apB (bkL w.br a k).length ([(k : Int)] : List Int).length = true := by simp [apB]; omega
    simp only [lt_dec hk, cond_true, sHas w.br (k : Int) (by omega), w64_succ (by omega : k < 4611686018427387904), ap, chk_true]
    rw [bkL_succ]
    cases hc : ((k : Int) == a)
    · simp only [Bool.not_false, gb_true, Option.bind_some, Bool.false_or]
      cases decide ((k : Int) ∈ w.br) <;> rfl
    · simp only [Bool.not_true, gb_false, Option.bind_some, Bool.true_or, cond_true]
  · rw [m_spec_l39Break_l1.eq_2]
    simp only [nlt_dec, cond_false, bkL_eq h ha]
omit ha in
theorem sMend : m_spec_l39Mend w.b w.ls w.pts w.on w.earth w.pm w.br a = some (o7 { w with br := w.br.filter fun x => x != a }) := by
  have sm := sm_of h
  have hb := sm.b
  have hh := loop_all (m_spec_l39Mend_l1 w.br a) (fun k => ((k : Int), (w.br.take k).filter fun x => x != a)) w.br.length (some (w.br.filter fun x => x != a)) (by omega) (fun k fuel hk => ?_) (fun fuel => ?_)
  · unfold m_spec_l39Mend
    rw [sCopy7 sm]
    simp only [Option.bind_some, o7]
    rw [show m_spec_l39Mend_l1 w.br a FUEL (0, []) = _ from hh]
    rfl
  · rw [m_spec_l39Mend_l1.eq_2]
    have hl := List.length_filter_le (fun x => x != a) (w.br.take k)
    rw [List.length_take] at hl
    have ap : ∀ x : Int, apB ((w.br.take k).filter fun x => x != a).length ([x] : List Int).length = true := fun x => by simp only [apB, decide_eq_true_eq, List.length_singleton]; omega
    simp only [lt_dec hk, ix_dec hk, cond_true, chk_true, Int.toNat_natCast, ap, w64_succ (by omega : k < 4611686018427387904)]
    rw [List.take_succ_eq_append_getElem hk, List.filter_append, ← getD_ge hk (d := (0 : Int))]
    cases hc : (w.br.getD k 0 != a)
    · simp only [List.filter_cons, List.filter_nil, hc, Bool.false_eq_true, if_false, cond_false, Option.bind_some, List.append_nil]
    · simp only [List.filter_cons, List.filter_nil, hc, if_true, cond_true, Option.bind_some]
  · rw [m_spec_l39Mend_l1.eq_2]
    simp only [nlt_dec, cond_false, List.take_length]
end
theorem held_iff {pm : Pm} {a who : Int} : who ∈ heldOf pm a ↔ (who, a) ∈ pm := by
  unfold heldOf
  rw [List.mem_map]
  constructor
  · rintro ⟨p, hp, rfl⟩
    obtain ⟨h1, h2⟩ := List.mem_filter.1 hp
    have : p.2 = a := by simpa using h2
    rw [← this]; exact h1
  · intro hm
    exact ⟨(who, a), List.mem_filter.2 ⟨hm, by simp⟩, rfl⟩
theorem sWorldDo {w : Wd} (sm : Sm w) (kd a who : Int) : m_spec_WorldDo w.b w.ls w.pts w.on w.earth w.pm w.br kd a who = some (o8 (wdDo w kd a who)) := by
  unfold m_spec_WorldDo
  rw [sWv w.b w.ls w.pts w.on w.earth w.pm w.br sm.p sm.o sm.m sm.b, Option.bind_some]
  cases hv : wv w
  · unfold wdDo
    rw [if_neg (by rw [hv]; decide)]
    rfl
  rw [cond_true]
  have h := wv_iff.1 hv
  have hol := h.work.l1
  simp only [Wd.wk] at hol
  have e1 : w64 ((w.on.length : Int) - 1) = (w.on.length : Int) - 1 := w64_in (by omega) (by omega)
  simp only [m_spec_l1In, e1, Option.bind_some]
  by_cases hna : ¬ (0 ≤ a ∧ a < (w.on.length : Int))
  · have hc : (leB 0 a && leB a ((w.on.length : Int) - 1)) = false := by simp [leB]; omega
    have hf : wdDo w kd a who = (w, false) := by unfold wdDo; rw [if_pos hv, if_neg hna]
    rw [hc, hf, cond_false, sCopy7 sm]; rfl
  have ha : 0 ≤ a ∧ a < (w.on.length : Int) := Classical.byContradiction hna
  have hc : (leB 0 a && leB a ((w.on.length : Int) - 1)) = true := by simp [leB]; omega
  rw [hc, cond_true, sHas w.br a (by have := sm.b; omega), Option.bind_some]
  by_cases h6 : kd = 6 ∧ a ∉ w.br
  · have hf : wdDo w kd a who = ({ w with on := w.on.set a.toNat false, br := insS a w.br }, true) := by unfold wdDo; rw [if_pos hv, if_pos ha, if_pos h6]
    rw [hf, decide_eq_false h6.2, h6.1, show (((6 : Int) == 6) && !false) = true from rfl, cond_true, sBreak h ha]; rfl
  have c6 : ((kd == 6) && !decide (a ∈ w.br)) = false := by
    cases hk : (kd == 6)
    · rfl
    · have : a ∈ w.br := Classical.byContradiction fun hn => h6 ⟨by simpa using hk, hn⟩
      rw [decide_eq_true this]; rfl
  rw [c6, cond_false]
  have hheld : m_spec_WorkHeld w.on w.earth w.pm a = some (heldOf w.pm a) := by
    rw [sHeld w.on w.earth w.pm a sm.o sm.m, if_pos (show workV w.on w.earth w.pm = true from wok_iff.2 h.work)]
  have hhl := held_len w.pm a
  have hml := sm.m
  have c7 : (bif (kd == 7) && decide (a ∈ w.br) then Option.bind (m_spec_WorkHeld w.on w.earth w.pm a) (fun (p133 : List Int) => Option.bind (m_spec_l1Has p133 who) (fun (p137 : Bool) => some p137)) else some false) = some (decide (kd = 7 ∧ a ∈ w.br ∧ (who, a) ∈ w.pm)) := by
    rw [hheld]
    simp only [Option.bind_some, sHas (heldOf w.pm a) who (by omega)]
    by_cases hk : kd = 7
    · subst hk
      by_cases hb : a ∈ w.br
      · simp [hb, held_iff]
      · simp [hb]
    · have : (kd == 7) = false := by simpa using hk
      simp [this, hk]
  rw [c7, Option.bind_some]
  by_cases h7 : kd = 7 ∧ a ∈ w.br ∧ (who, a) ∈ w.pm
  · have hf : wdDo w kd a who = ({ w with br := w.br.filter fun x => x != a }, true) := by unfold wdDo; rw [if_pos hv, if_pos ha, if_neg h6, if_pos h7]
    rw [hf, decide_eq_true h7, cond_true, sMend h]; rfl
  rw [decide_eq_false h7, cond_false]
  by_cases h0 : kd = 0 ∧ a ∈ w.br
  · have hf : wdDo w kd a who = (w, false) := by unfold wdDo; rw [if_pos hv, if_pos ha, if_neg h6, if_neg h7, if_pos h0]
    rw [hf, h0.1, decide_eq_true h0.2, show (((0 : Int) == 0) && true) = true from rfl, cond_true, sCopy7 sm]; rfl
  have c0 : ((kd == 0) && decide (a ∈ w.br)) = false := by
    cases hk : (kd == 0)
    · rfl
    · have : a ∉ w.br := fun hn => h0 ⟨by simpa using hk, hn⟩
      rw [decide_eq_false this]; rfl
  rw [c0, cond_false, sCopy7 sm, Option.bind_some]
  have hdo := sDo w.wk kd a who sm.o sm.e sm.m
  have hlen := (wkDo_on h.work (kd := kd) (a := a) (who := who)).1
  have hrad : m_spec_Radial w.b w.ls (wkDo w.wk kd a who).1.1 w.pts = some (radP w.ls (wkDo w.wk kd a who).1.1 w.pts) := by
    rw [sRadial _ _ _ _ sm.p, radB_ok h (hlen.trans h.len)]
  have hf : wdDo w kd a who = if (wkDo w.wk kd a who).2 = true ∧ radP w.ls (wkDo w.wk kd a who).1.1 w.pts = true then (w.put (wkDo w.wk kd a who).1, true) else (w, false) := by
    unfold wdDo
    rw [if_pos hv, if_pos ha, if_neg h6, if_neg h7, if_neg h0]
  rw [hf]
  change Option.bind (m_spec_WorkDo w.wk.1 w.wk.2.1 w.wk.2.2 kd a who) _ = _
  rw [hdo, Option.bind_some]
  simp only [out4w, o7, hrad]
  cases h1 : (wkDo w.wk kd a who).2
  · simp only [Bool.not_false, Bool.not_true, gb_false, Option.bind_some, Bool.true_or, cond_true, Bool.false_eq_true, false_and, if_false]; rfl
  · cases h2 : radP w.ls (wkDo w.wk kd a who).1.1 w.pts
    · rfl
    · rfl
end Go.Proofs.YtnplecoikgnpkaaGreatDoor
namespace Go.Proofs.YtnplecoikgnpkaaGreatDoor
set_option linter.unusedVariables false
set_option linter.unusedSimpArgs false
structure Sz (m : Nat) (w : Wd) : Prop where
  ls : w.ls.length ≤ m
  pts : w.pts.length ≤ m
  on : w.on.length ≤ m
  earth : w.earth.length ≤ m
  pm : w.pm.length ≤ m
  br : w.br.length ≤ m
theorem Sz.mono {m n : Nat} {w : Wd} (h : Sz m w) (hm : m ≤ n) : Sz n w := by
  obtain ⟨h1, h2, h3, h4, h5, h6⟩ := h
  exact ⟨by omega, by omega, by omega, by omega, by omega, by omega⟩
theorem Sz.sm {w : Wd} (h : Sz 40 w) : Sm w := by
  obtain ⟨h1, h2, h3, h4, h5, h6⟩ := h
  exact ⟨by omega, by omega, by omega, by omega, by omega, by omega⟩
theorem sz_ok {w : Wd} (h : WdOk w) : Sz 30 w := by
  have h1 := h.bus.net.ll; have h2 := h.bus.lp; have h3 := h.bus.net.b1; have h4 := h.work.l1; have h5 := h.work.le; have h6 := h.work.lp; have h7 := bl_of h
  simp only [Wd.wk] at h4 h5 h6
  exact ⟨by omega, by omega, by omega, by omega, by omega, by omega⟩
theorem wdDo_v {w : Wd} {kd a who : Int} (ht : (wdDo w kd a who).2 = true) : wv w = true := by
  unfold wdDo at ht
  split at ht
  · assumption
  · cases ht
theorem sz_do {w : Wd} {kd a who : Int} (ht : (wdDo w kd a who).2 = true) : Sz 30 (wdDo w kd a who).1 ∧ (wdDo w kd a who).1.pts = w.pts :=
  ⟨sz_ok (wdDo_ok (wv_iff.1 (wdDo_v ht)) kd a who), (wdDo_net w (wdDo_v ht) kd a who).2.2⟩
def of7 (t : Int × List Ln × List (Int × Int) × List Bool × List Bool × Pm × List Int) : Wd := ⟨t.1, t.2.1, t.2.2.1, t.2.2.2.1, t.2.2.2.2.1, t.2.2.2.2.2.1, t.2.2.2.2.2.2⟩
theorem rl1 {b : List Int} (hb : Code b) {u w : Int × Int} (hu : 0 ≤ u.1 ∧ u.1 < 6) {p : Int} (hp : 0 ≤ p ∧ p ≤ 1000) :
    Ys (m_spec_l20Radial_l1 b u w FUEL ([], [], 0, p, [])) fun r => r.1.length + 1 = (2 + u.1).toNat ∧ r.2.1.length = (2 + u.1).toNat ∧ (0 ≤ r.2.2.1 ∧ r.2.2.1 ≤ p + 50) ∧ r.2.2.2.length + 1 = (2 + u.1).toNat := by
  have wu : w64 (2 + u.1) = 2 + u.1 := wM (by omega)
  refine ys_loop (m_spec_l20Radial_l1 b u w) (fun s => (2 + u.1 - s.2.2.1).toNat) (fun s => (0 ≤ s.2.2.1 ∧ s.2.2.1 ≤ 2 + u.1) ∧ s.1.length = s.2.2.1.toNat - 1 ∧ s.2.1.length = s.2.2.1.toNat ∧ (0 ≤ s.2.2.2.1 ∧ s.2.2.2.1 ≤ p + 5 * s.2.2.1) ∧ s.2.2.2.2.length = s.2.2.1.toNat - 1) (fun fuel s hs ih => ?_) FUEL _ ⟨by (try dsimp only); omega, rfl, rfl, by (try dsimp only); omega, rfl⟩ (by (try dsimp only); rw [FUEL_eq]; omega)
  obtain ⟨on, bs, k, q, ln⟩ := s
  dsimp only at hs ih ⊢
  obtain ⟨h1, h2, h3, h4, h5⟩ := hs
  rw [m_spec_l20Radial_l1.eq_2]
  dsimp only
  rw [wu]
  refine ys_bif (fun hc => ?_) (fun hc => ?_)
  · have hc := ltB_t hc
    refine ys_bind (Q := fun r => r.1.length = k.toNat ∧ (0 ≤ r.2.1 ∧ r.2.1 ≤ q + 4) ∧ r.2.2.length = k.toNat) ?_ fun r hr => ?_
    · refine ys_bif (fun hk => ?_) (fun hk => ?_)
      · have hk := ltB_t hk
        refine ys_then (ys_pick hb (by omega) (by omega) fun v v0 v1 _ => ?_)
        refine ys_then (ys_pick hb (by (try dsimp only); omega) (by omega) fun v' v0' v1' _ => ?_)
        refine ys_chk (by simp [apB]; omega) ?_
        refine ys_bind (Q := fun r => r.1.length = k.toNat ∧ (0 ≤ r.2 ∧ r.2 ≤ q + 4)) ?_ fun r hr => ys_some ⟨hr.1, hr.2, by simp; omega⟩
        refine ys_bif (fun _ => ys_chk (by simp [apB]; omega) (ys_some ⟨by simp; omega, by (try dsimp only); omega⟩)) (fun _ => ?_)
        refine ys_then (ys_pick hb (by (try dsimp only); omega) (by omega) fun v2 v20 v21 _ => ?_)
        exact ys_chk (by simp [apB]; omega) (ys_some ⟨by simp; omega, by (try dsimp only); omega⟩)
      · have hk := ltB_f hk
        exact ys_some ⟨by (try dsimp only); omega, by (try dsimp only); omega, by (try dsimp only); omega⟩
    · obtain ⟨r1, r2, r3⟩ := hr
      refine ys_then (ys_pick hb (by (try dsimp only); omega) (by omega) fun v v0 v1 _ => ?_)
      refine ys_chk (by simp [apB]; omega) ?_
      dsimp only
      rw [wM (n := k + 1) (by omega)]
      exact ih _ ⟨by (try dsimp only); omega, by (try dsimp only); omega, by simp; omega, by (try dsimp only); omega, by (try dsimp only); omega⟩ (by (try dsimp only); omega)
  · have hc := ltB_f hc
    exact ys_some ⟨by (try dsimp only); omega, by (try dsimp only); omega, by (try dsimp only); omega, by (try dsimp only); omega⟩
theorem rl2 {b : List Int} (hb : Code b) {u : Int × Int} (hu : 0 ≤ u.1 ∧ u.1 < 6) {n p : Int} {on : List Bool} {ln : List Ln} (hn : 0 ≤ n ∧ n ≤ 3) (hp : 0 ≤ p ∧ p ≤ 1000) (ho : on.length ≤ 10) (hl : ln.length ≤ 10) :
    Ys (m_spec_l20Radial_l2 b u FUEL (on, n, p, ln)) fun r => (on.length ≤ r.1.length ∧ r.1.length ≤ 13) ∧ (0 ≤ r.2.1 ∧ r.2.1 ≤ p + 9) ∧ r.2.2.length ≤ 13 := by
  have wu : w64 (2 + u.1) = 2 + u.1 := wM (by omega)
  have wu1 : w64 (2 + u.1 - 1) = 2 + u.1 - 1 := wM (by omega)
  refine ys_loop (m_spec_l20Radial_l2 b u) (fun s => s.2.1.toNat) (fun s => (0 ≤ s.2.1 ∧ s.2.1 ≤ 3) ∧ (on.length ≤ s.1.length ∧ s.1.length + s.2.1 ≤ 13) ∧ (0 ≤ s.2.2.1 ∧ s.2.2.1 + 3 * s.2.1 ≤ p + 9) ∧ s.2.2.2.length + s.2.1 ≤ 13) (fun fuel s hs ih => ?_) FUEL _ ⟨hn, by (try dsimp only); omega, by (try dsimp only); omega, by (try dsimp only); omega⟩ (by (try dsimp only); rw [FUEL_eq]; omega)
  obtain ⟨on', k, q, ln'⟩ := s
  dsimp only at hs ih ⊢
  obtain ⟨h1, h2, h3, h4⟩ := hs
  rw [m_spec_l20Radial_l2.eq_2]
  dsimp only
  rw [wu, wu1]
  refine ys_bif (fun hc => ?_) (fun hc => ?_)
  · have hc := ltB_t hc
    refine ys_then (ys_pick hb (by omega) (by omega) fun v v0 v1 _ => ?_)
    refine ys_then (ys_pick hb (by (try dsimp only); omega) (by omega) fun v' v0' v1' _ => ?_)
    refine ys_chk (decide_eq_true (by omega)) ?_
    refine ys_then (ys_pick hb (by (try dsimp only); omega) (by omega) fun v2 v20 v21 _ => ?_)
    refine ys_chk (by simp [apB]; omega) (ys_chk (by simp [apB]; omega) ?_)
    dsimp only
    rw [wM (n := k - 1) (by omega)]
    exact ih _ ⟨by (try dsimp only); omega, by simp; omega, by (try dsimp only); omega, by simp; omega⟩ (by (try dsimp only); omega)
  · have hc := ltB_f hc
    exact ys_some ⟨by (try dsimp only); omega, by (try dsimp only); omega, by (try dsimp only); omega⟩
theorem odd0 (b : List Int) (p : Int) : m_spec_l20Rd_odd b p 0 = some (false, p) := rfl
theorem drawRadial {b : List Int} (hb : Code b) {p : Int} (hp : 0 ≤ p ∧ p ≤ 100) : Ys (m_spec_l20Radial b p 0) fun r => r.2.1.length ≤ 13 ∧ r.2.2.1.length ≤ 13 ∧ (2 ≤ r.2.2.2.1.length ∧ r.2.2.2.1.length ≤ 7) ∧ (0 ≤ r.2.2.2.2 ∧ r.2.2.2.2 ≤ p + 100) := by
  unfold m_spec_l20Radial
  refine ys_then (ys_pick hb (by omega) (by omega) fun v v0 v1 _ => ?_)
  have v2 := v1 (by omega)
  refine ys_then (ys_pick hb (by (try dsimp only); omega) (by omega) fun w w0 w1 _ => ?_)
  refine ys_bind (rl1 hb (by (try dsimp only); omega) (by (try dsimp only); omega)) fun r1 hr1 => ?_
  obtain ⟨a1, a2, a3, a4⟩ := hr1
  dsimp only at a1 a2 a3 a4
  refine ys_then (ys_pick hb (by (try dsimp only); omega) (by omega) fun w w0 w1 _ => ?_)
  have w2 := w1 (by omega)
  refine ys_bind (rl2 hb (u := (v, p + 1)) (by (try dsimp only); omega) (by (try dsimp only); omega) (by (try dsimp only); omega) (by omega) (by omega)) fun r2 hr2 => ?_
  obtain ⟨b1, b2, b3⟩ := hr2
  refine ys_then (ys_pick hb (by (try dsimp only); omega) (by omega) fun x x0 x1 _ => ?_)
  refine ys_chk (decide_eq_true (by omega)) ?_
  refine ys_then (ys_pick hb (by (try dsimp only); omega) (by omega) fun x x0 x1 _ => ?_)
  dsimp only
  rw [wM (n := 2 + v) (by omega), wM (n := 2 + v - 1) (by omega)]
  refine ys_bind (Q := fun r => r.1.length ≤ 13 ∧ (2 ≤ r.2.1.length ∧ r.2.1.length ≤ 7) ∧ (0 ≤ r.2.2 ∧ r.2.2 ≤ p + 90)) ?_ fun r hr => ?_
  · refine ys_bif (fun _ => ?_) (fun _ => ys_some ⟨by (try dsimp only); omega, by simp; omega, by (try dsimp only); omega⟩)
    refine ys_then (ys_pick hb (by (try dsimp only); omega) (by omega) fun y y0 y1 _ => ?_)
    have y2 := y1 (by omega)
    refine ys_then (ys_pick hb (by (try dsimp only); omega) (by omega) fun z z0 z1 _ => ?_)
    dsimp only
    rw [wM (n := 1 + y) (by omega), wM (n := 1 + y - 1) (by omega)]
    exact ys_chk (decide_eq_true (by omega)) (ys_chk (decide_eq_true (by omega)) (ys_some ⟨by simp; omega, by simp; omega, by (try dsimp only); omega⟩))
  · obtain ⟨c1, c2, c3⟩ := hr
    refine ys_then (ys_eq (odd0 _ _) ?_)
    refine ys_bind (Q := fun q => q.1.length ≤ 13 ∧ (2 ≤ q.2.1.length ∧ q.2.1.length ≤ 7) ∧ (0 ≤ q.2.2 ∧ q.2.2 ≤ p + 90)) (ys_bif (fun h => by cases h) fun _ => ys_some ⟨c1, c2, c3⟩) fun q hq => ys_some ⟨by (try dsimp only); omega, hq.1, hq.2.1, by have := hq.2.2; (try dsimp only); omega⟩
theorem drawDeed {b : List Int} (hb : Code b) {p : Int} (hp : 0 ≤ p ∧ p ≤ 1000) {w : Wd} (hw : Sz 40 w) : Ys (m_spec_l20WorldDeed b p w.b w.ls w.pts w.on w.earth w.pm w.br) fun r => 0 ≤ r.2.2.2 ∧ r.2.2.2 ≤ p + 8 := by
  have h1 := hw.on; have h2 := hw.pm
  unfold m_spec_l20WorldDeed
  refine ys_then (ys_pick hb (by omega) (by omega) fun v v0 v1 _ => ?_)
  have v2 := v1 (by omega)
  refine ys_chk (decide_eq_true (by (try dsimp only); simp only [List.length_cons, List.length_nil]; omega)) ?_
  refine ys_then (ys_pick hb (by (try dsimp only); omega) (by omega) fun _ _ _ _ => ?_)
  dsimp only
  rw [wM (n := (w.on.length : Int) + 1) (by omega)]
  refine ys_then (ys_pick hb (by (try dsimp only); omega) (by omega) fun _ _ _ _ => ?_)
  refine ys_then (ys_pick hb (by (try dsimp only); omega) (by omega) fun _ _ _ _ => ?_)
  refine ys_then (ys_pick hb (by (try dsimp only); omega) (by omega) fun _ _ _ _ => ?_)
  dsimp only
  refine ys_bind (Q := fun r => (r.1 = true → 0 < w.pm.length) ∧ (0 ≤ r.2 ∧ r.2 ≤ p + 6)) ?_ fun r hr => ?_
  · refine ys_bif (fun hc => ?_) (fun _ => ys_some ⟨nofun, by (try dsimp only); omega⟩)
    have hc := ltB_t hc
    exact ys_then (ys_pick hb (by (try dsimp only); omega) (by omega) fun _ _ _ _ => ys_some ⟨fun _ => by omega, by (try dsimp only); omega⟩)
  · obtain ⟨r1, r2⟩ := hr
    refine ys_bif (fun hc => ?_) (fun _ => ys_some (by (try dsimp only); omega))
    have r1 := r1 hc
    refine ys_then (ys_pick hb (by (try dsimp only); omega) (by omega) fun y y0 y1 _ => ?_)
    have y2 := y1 (by omega)
    refine ys_chk (decide_eq_true (by (try dsimp only); omega)) ?_
    refine ys_then (ys_pick hb (by (try dsimp only); omega) (by omega) fun z z0 z1 _ => ?_)
    have z2 := z1 (by omega)
    exact ys_chk (decide_eq_true (by (try dsimp only); simp only [List.length_cons, List.length_nil]; omega)) (ys_some (by (try dsimp only); omega))
theorem wl1 {b : List Int} (hb : Code b) {n p : Int} (hn : 0 ≤ n ∧ n ≤ 10) (hp : 0 ≤ p ∧ p ≤ 500) {w : Wd} (hw : Sz 30 w) (h2 : 2 ≤ w.pts.length) :
    Ys (m_spec_l20World_l1 b FUEL (n, p, o7 w)) fun r => (0 ≤ r.1 ∧ r.1 ≤ p + 80) ∧ Sz 30 (of7 r.2) ∧ 2 ≤ (of7 r.2).pts.length := by
  refine ys_loop (m_spec_l20World_l1 b) (fun s => s.1.toNat) (fun s => (0 ≤ s.1 ∧ s.1 ≤ 10) ∧ (0 ≤ s.2.1 ∧ s.2.1 + 8 * s.1 ≤ p + 80) ∧ Sz 30 (of7 s.2.2) ∧ 2 ≤ (of7 s.2.2).pts.length) (fun fuel s hs ih => ?_) FUEL _ ⟨hn, by (try dsimp only); omega, hw, h2⟩ (by (try dsimp only); rw [FUEL_eq]; omega)
  obtain ⟨k, q, s⟩ := s
  obtain ⟨x, rfl⟩ : ∃ x, s = o7 x := ⟨of7 s, rfl⟩
  dsimp only at hs ih ⊢
  obtain ⟨h1, h3, h4, h5⟩ := hs
  have h4 : Sz 30 x := h4
  have h5 : 2 ≤ x.pts.length := h5
  rw [m_spec_l20World_l1.eq_2]
  dsimp only
  refine ys_bif (fun hc => ?_) (fun hc => ?_)
  · have hc := ltB_t hc
    refine ys_bind (drawDeed hb (by omega) (h4.mono (by decide))) fun d hd => ?_
    refine ys_then (ys_eq (sWorldDo (h4.mono (by decide)).sm d.1 d.2.1 d.2.2.1) ?_)
    refine ys_bind (Q := fun r => Sz 30 (of7 r) ∧ 2 ≤ (of7 r).pts.length) ?_ fun r hr => ?_
    · refine ys_bif (fun ht => ys_some ?_) (fun _ => ys_some ⟨h4, h5⟩)
      obtain ⟨z1, z2⟩ := sz_do (w := x) (kd := d.1) (a := d.2.1) (who := d.2.2.1) ht
      exact ⟨z1, by show 2 ≤ (wdDo x d.1 d.2.1 d.2.2.1).1.pts.length; rw [z2]; exact h5⟩
    · (try dsimp only)
      rw [wM (n := k - 1) (by omega)]
      exact ih _ ⟨by (try dsimp only); omega, by (try dsimp only); omega, hr.1, hr.2⟩ (by (try dsimp only); omega)
  · have hc := ltB_f hc
    exact ys_some ⟨by (try dsimp only); omega, h4, h5⟩
theorem wl2 (t : Int × Int × List (Int × Int × Int) × List (Int × Int) × List Bool × List Bool × List (Int × Int) × List Int) (ht : t.2.2.2.2.1.length ≤ 30) {l : List Int} (hl : l.length ≤ 30) : Ys (m_spec_l20World_l2 t FUEL (0, l)) fun r => r.length ≤ 30 := by
  refine ys_loop (m_spec_l20World_l2 t) (fun s => ((t.2.2.2.2.1.length : Int) - s.1).toNat) (fun s => (0 ≤ s.1 ∧ s.1 ≤ t.2.2.2.2.1.length) ∧ s.2.length ≤ 30) (fun fuel s hs ih => ?_) FUEL _ ⟨by (try dsimp only); omega, hl⟩ (by (try dsimp only); rw [FUEL_eq]; omega)
  obtain ⟨k, m⟩ := s
  dsimp only at hs ih ⊢
  rw [m_spec_l20World_l2.eq_2]
  dsimp only
  refine ys_bif (fun hc => ?_) (fun hc => ys_some hs.2)
  have hc := ltB_t hc
  refine ys_chk (decide_eq_true (by omega)) ?_
  refine ys_bind (Q := fun r => r.length ≤ 30) (ys_bif (fun _ => ys_some (by simp)) fun _ => ys_some hs.2) fun r hr => ?_
  rw [wM (n := k + 1) (by omega)]
  exact ih _ ⟨by (try dsimp only); omega, hr⟩ (by (try dsimp only); omega)
theorem drawWorld {b : List Int} (hb : Code b) {n : Int} (hn : 1 ≤ n ∧ n ≤ 100) : Ys (m_spec_l20World b 0 n) fun r => Sz 40 ⟨r.1, r.2.1, r.2.2.1, r.2.2.2.1, r.2.2.2.2.1, r.2.2.2.2.2.1, r.2.2.2.2.2.2.1⟩ ∧ (0 ≤ r.2.2.2.2.2.2.2 ∧ r.2.2.2.2.2.2.2 ≤ 400) := by
  unfold m_spec_l20World
  refine ys_bind (drawRadial hb (by omega)) fun r hr => ?_
  obtain ⟨a1, a2, a3, a4⟩ := hr
  refine ys_chk (by simp [mkB]; omega) ?_
  refine ys_then (ys_pick hb (by omega) (by omega) fun v v0 v1 _ => ?_)
  have v2 := v1 (by omega)
  refine ys_bind (wl1 hb (w := ⟨r.1, r.2.1, r.2.2.2.1, r.2.2.1, List.replicate r.2.2.1.length false, [], []⟩) (by (try dsimp only); omega) (by (try dsimp only); omega) ⟨by (try dsimp only); omega, by (try dsimp only); omega, by (try dsimp only); omega, by simp; omega, by simp, by simp⟩ (by (try dsimp only); omega)) fun s hs => ?_
  obtain ⟨b1, b2, b3⟩ := hs
  obtain ⟨c1, c2, c3, c4, c5, c6⟩ := b2
  simp only [of7] at c1 c2 c3 c4 c5 c6 b3
  refine ys_then (ys_odd hb (by omega) (by omega) fun o => ?_)
  refine ys_bind (Q := fun q => (q.2.1.length ≤ 40 ∧ q.2.2.1.length ≤ 40 ∧ q.2.2.2.1.length ≤ 40 ∧ q.2.2.2.2.length ≤ 40) ∧ (0 ≤ q.1 ∧ q.1 ≤ 400)) ?_ fun q hq => ys_some ⟨⟨by (try dsimp only); omega, hq.1.1, hq.1.2.1, hq.1.2.2.1, by (try dsimp only); omega, hq.1.2.2.2⟩, hq.2⟩
  refine ys_bif (fun _ => ?_) (fun _ => ys_some ⟨⟨by (try dsimp only); omega, by (try dsimp only); omega, by (try dsimp only); omega, by (try dsimp only); omega⟩, by (try dsimp only); omega⟩)
  refine ys_then (ys_pick hb (by (try dsimp only); omega) (by omega) fun x x0 x1 _ => ?_)
  refine ys_bind (Q := fun q => q.1.length ≤ 40 ∧ q.2.1.length ≤ 40 ∧ q.2.2.1.length ≤ 40 ∧ q.2.2.2.length ≤ 40) ?_ fun q hq => ys_some ⟨hq, by (try dsimp only); omega⟩
  refine ys_bif (fun _ => ys_chk (decide_eq_true (by omega)) (ys_some ⟨by simp [subL]; omega, by (try dsimp only); omega, by (try dsimp only); omega, by (try dsimp only); omega⟩)) (fun _ => ?_)
  refine ys_bind (Q := fun q => q.1.length ≤ 40 ∧ q.2.1.length ≤ 40 ∧ q.2.2.1.length ≤ 40 ∧ q.2.2.2.length ≤ 40) ?_ fun q hq => ys_some hq
  refine ys_bif (fun _ => ys_chk (by simp [apB]; omega) (ys_some ⟨by (try dsimp only); omega, by (try dsimp only); omega, by (try dsimp only); omega, by simp; omega⟩)) (fun _ => ?_)
  refine ys_bind (Q := fun q => q.1.length ≤ 40 ∧ q.2.1.length ≤ 40 ∧ q.2.2.1.length ≤ 40 ∧ q.2.2.2.length ≤ 40) ?_ fun q hq => ys_some hq
  refine ys_bif (fun _ => ys_bind (wl2 s c3 c6) fun z hz => ys_some ⟨by (try dsimp only); omega, by (try dsimp only); omega, by (try dsimp only); omega, by (try dsimp only); omega⟩) (fun _ => ?_)
  refine ys_bind (Q := fun q => q.1.length ≤ 40 ∧ q.2.1.length ≤ 40 ∧ q.2.2.length ≤ 40) ?_ fun q hq => ys_some ⟨hq.1, hq.2.1, hq.2.2, by (try dsimp only); omega⟩
  refine ys_bif (fun _ => ys_chk (by simp [apB]; omega) (ys_chk (by simp [apB]; omega) (ys_some ⟨by (try dsimp only); omega, by simp; omega, by simp; omega⟩))) (fun _ => ?_)
  exact ys_chk (decide_eq_true (by omega)) (ys_chk (decide_eq_true (by omega)) (ys_some ⟨by simp; omega, by (try dsimp only); omega, by (try dsimp only); omega⟩))
theorem code_sub {x : List Int} (h : ∀ z ∈ x, inU z) : Code (subL x 0 (opH x.length)) := by rw [opH_take]; exact code_of h
end Go.Proofs.YtnplecoikgnpkaaGreatDoor
namespace Go.Proofs.YtnplecoikgnpkaaGreatDoor
set_option linter.unusedVariables false
set_option linter.unusedSimpArgs false
theorem sWv' (w : Wd) (h : Sm w) : m_spec_WorldValid w.b w.ls w.pts w.on w.earth w.pm w.br = some (wv w) := sWv w.b w.ls w.pts w.on w.earth w.pm w.br h.p h.o h.m h.b
end Go.Proofs.YtnplecoikgnpkaaGreatDoor
namespace Go.Proofs.YtnplecoikgnpkaaGreatDoor
set_option linter.unusedVariables false
set_option linter.unusedSimpArgs false
theorem loop_filter {Out : Type} (L : Nat → (List Int × Int) → Option Out) (n : Nat) (p : Nat → Bool) (fin : List Int → Option Out) (hn : n ≤ 1099511627775) (hstep : ∀ k fuel (l : List Int), k < n → apB l.length ([(k : Int)] : List Int).length = true → L (fuel + 1) (l, (k : Int)) = L fuel (bif p k then l ++ [(k : Int)] else l, ((k + 1 : Nat) : Int)))
    (hend : ∀ fuel (l : List Int), L (fuel + 1) (l, (n : Int)) = fin l) : L FUEL (([] : List Int), 0) = fin (zl ((List.range n).filter p)) := by
  have hh := loop_all L (fun k => (zl ((List.range k).filter p), (k : Int))) n (fin (zl ((List.range n).filter p))) (by omega) (fun k fuel hk => ?_) (fun fuel => hend fuel _)
  · exact hh
  · have hl := List.length_filter_le p (List.range k)
    rw [List.length_range] at hl
    rw [hstep k fuel _ hk (by rw [zl_len]; simp [apB]; omega), List.range_succ, List.filter_append, List.filter_cons, List.filter_nil]
    congr 2
    cases p k <;> simp [zl]
theorem sum_filter (l : List Nat) (p : Nat → Bool) (f : Nat → Int) : ((l.filter p).map f).sum = (l.map fun c => if p c = true then f c else 0).sum := by
  induction l with
  | nil => rfl
  | cons x l ih =>
    rw [List.filter_cons, List.map_cons, List.sum_cons, ← ih]
    split
    · rename_i h; rw [List.map_cons, List.sum_cons]
    · rename_i h; omega
def sumK (E : Ed) (pts : List (Int × Int)) (f : Int × Int → Int) (k j : Nat) : Int := ((List.range k).map fun c => if labs E c = j then f (pts.getD c (0, 0)) else 0).sum
theorem sumK_0 (E : Ed) (pts : List (Int × Int)) (f : Int × Int → Int) (j : Nat) : sumK E pts f 0 j = 0 := rfl
theorem sumK_s (E : Ed) (pts : List (Int × Int)) (f : Int × Int → Int) (k j : Nat) : sumK E pts f (k + 1) j = sumK E pts f k j + (if labs E k = j then f (pts.getD k (0, 0)) else 0) := by
  unfold sumK
  rw [List.range_succ, List.map_append, List.sum_append]; simp
theorem sumE_K (E : Ed) (pts : List (Int × Int)) (f : Int × Int → Int) (b : Nat) : sumE E pts f b = sumK E pts f pts.length (labs E b) := rfl
theorem sumK_bound (E : Ed) (pts : List (Int × Int)) (f : Int × Int → Int) (hf : ∀ c, c < pts.length → 0 ≤ f (pts.getD c (0, 0)) ∧ f (pts.getD c (0, 0)) ≤ 999) (j : Nat) : ∀ k, k ≤ pts.length → 0 ≤ sumK E pts f k j ∧ sumK E pts f k j ≤ 999 * k
  | 0, _ => by rw [sumK_0]; omega
  | k + 1, hk => by
    have ih := sumK_bound E pts f hf j k (by omega)
    have := hf k (by omega)
    rw [sumK_s]
    split <;> omega
theorem get8 (S : Nat → Int) {r : Nat} (hr : r < 8) : ([S 0, S 1, S 2, S 3, S 4, S 5, S 6, S 7] : List Int).getD r 0 = S r := by
  match r, hr with
  | 0, _ => rfl
  | 1, _ => rfl
  | 2, _ => rfl
  | 3, _ => rfl
  | 4, _ => rfl
  | 5, _ => rfl
  | 6, _ => rfl
  | 7, _ => rfl
theorem upd8 {S T : Nat → Int} {r j : Nat} {z x y : Int} (hT : T j = S j + (if r = j then x else 0)) (hz : z = (j : Int)) (hy : y = S r + x) : (bif ((r : Nat) : Int) == z then y else S j) = T j := by
  subst hz
  rw [hT, hy]
  by_cases h : r = j
  · subst h; simp
  · have : (((r : Nat) : Int) == ((j : Nat) : Int)) = false := by rw [beq_eq_false_iff_ne]; omega
    rw [this, if_neg h]; simp
abbrev T16 := Int × Int × Int × Int × Int × Int × Int × Int × Int × Int × Int × Int × Int × Int × Int × Int
def t16 (S T : Nat → Int) : T16 := (S 0, S 1, S 2, S 3, S 4, S 5, S 6, S 7, T 0, T 1, T 2, T 3, T 4, T 5, T 6, T 7)
section
variable {b : Int} {ls : List Ln} {on : List Bool} (h : StOk b ls on)
include h
theorem iUnion : ∃ u, m_impl_unionOf b ls on = some (zl u) ∧ UR u b.toNat (labs (onE ls on)) := by
  have hb := h.net.b0; have hb1 := h.net.b1; have hll := h.net.ll; have hl := h.len
  obtain ⟨B, rfl⟩ : ∃ B : Nat, b = (B : Int) := ⟨b.toNat, by omega⟩
  obtain ⟨n1, n2⟩ := iNew (B := B) (by omega)
  obtain ⟨s, ⟨u, rfl, hu⟩, h2⟩ := loop_rel (m_impl_unionOf_l1 ls on) (fun k s => ∃ u, s = (zl u, (k : Int)) ∧ UR u B (labs (onL ((ls.zip on).take k)))) ls.length (fun s => some s.1) (by omega) (by
    rintro k fuel s hk ⟨u, rfl, hu⟩
    rw [m_impl_unionOf_l1.eq_2]
    have hln := ln_nat (h.net.ln k hk)
    simp only [Int.toNat_natCast] at hln
    simp only [lt_dec hk, ix_dec hk, ix_dec (show k < on.length by omega), chk_true, cond_true, Int.toNat_natCast, w64_succ (by omega : k < 4611686018427387904)]
    rw [hln.1, hln.2.1]
    cases ho : on.getD k false
    · refine ⟨_, ⟨u, rfl, ?_⟩, rfl⟩
      rw [zip_at h hk, ho]; exact hu
    · obtain ⟨x, j1, j2⟩ := iJoin hu (by omega) hln.2.2.1 hln.2.2.2
      simp only [cond_true, j1, Option.bind_some]
      refine ⟨_, ⟨x, rfl, ?_⟩, rfl⟩
      rw [zip_at h hk, ho, if_pos rfl, labs_snoc]; exact j2) (by
    rintro fuel s ⟨u, rfl, hu⟩
    rw [m_impl_unionOf_l1.eq_2]; simp only [nlt_dec, cond_false]) (zl (List.range B), 0) ⟨_, rfl, n2⟩
  refine ⟨u, ?_, ?_⟩
  · unfold m_impl_unionOf
    rw [n1, Option.bind_some, h2]; rfl
  · rw [zip_all h] at hu
    simpa using hu
variable {pts : List (Int × Int)} (hB : BusOk b ls pts)
include hB
omit h in
theorem b_len : pts.length ≤ 8 ∧ b.toNat = pts.length := by have := hB.net.b1; have := hB.lp; omega
set_option maxHeartbeats 1000000 in
theorem iSums : m_impl_sumsOf b ls on pts = some (t16 (sumK (onE ls on) pts (·.1) pts.length) (sumK (onE ls on) pts (·.2) pts.length)) := by
  obtain ⟨u, u1, u2⟩ := iUnion h
  obtain ⟨b1, b2⟩ := b_len hB
  rw [b2] at u2
  unfold m_impl_sumsOf
  rw [u1, Option.bind_some]
  have hf1 : ∀ c, c < pts.length → 0 ≤ (pts.getD c (0, 0)).1 ∧ (pts.getD c (0, 0)).1 ≤ 999 := fun c hc => (hB.bs c hc).1
  have hf2 : ∀ c, c < pts.length → 0 ≤ (pts.getD c (0, 0)).2 ∧ (pts.getD c (0, 0)).2 ≤ 999 := fun c hc => (hB.bs c hc).2
  obtain ⟨s, ⟨v, rfl, hv⟩, h2⟩ := loop_rel (m_impl_sumsOf_l1 pts) (fun k s => ∃ v, s = (zl v, (k : Int), t16 (sumK (onE ls on) pts (·.1) k) (sumK (onE ls on) pts (·.2) k)) ∧ UR v pts.length (labs (onE ls on))) pts.length (fun s => some s.2.2) (by omega) (by
    rintro k fuel s hk ⟨v, rfl, hv⟩
    rw [m_impl_sumsOf_l1.eq_2]
    obtain ⟨x, x1, x2⟩ := iFindU hv (by omega) hk
    have hr : labs (onE ls on) k < 8 := by have := hv.le hk; omega
    have k1 := sumK_bound (onE ls on) pts (·.1) hf1 (labs (onE ls on) k) k (by omega)
    have k2 := sumK_bound (onE ls on) pts (·.2) hf2 (labs (onE ls on) k) k (by omega)
    have p1 := hf1 k hk
    have p2 := hf2 k hk
    have w1 : w64 (sumK (onE ls on) pts (·.1) k (labs (onE ls on) k) + (pts.getD k (0, 0)).1) = sumK (onE ls on) pts (·.1) k (labs (onE ls on) k) + (pts.getD k (0, 0)).1 := w64_in (by omega) (by omega)
    have w2 : w64 (sumK (onE ls on) pts (·.2) k (labs (onE ls on) k) + (pts.getD k (0, 0)).2) = sumK (onE ls on) pts (·.2) k (labs (onE ls on) k) + (pts.getD k (0, 0)).2 := w64_in (by omega) (by omega)
    dsimp only [t16]
    simp only [lt_dec hk, ix_dec hk, chk_true, cond_true, Int.toNat_natCast, w64_succ (by omega : k < 4611686018427387904), x1, Option.bind_some, ix_dec hr, get8 _ hr, w1, w2]
    have s1 := fun j => sumK_s (onE ls on) pts (·.1) k j
    have s2 := fun j => sumK_s (onE ls on) pts (·.2) k j
    refine ⟨(zl x, ((k + 1 : Nat) : Int), t16 (sumK (onE ls on) pts (·.1) (k + 1)) (sumK (onE ls on) pts (·.2) (k + 1))), ⟨x, rfl, x2⟩, ?_⟩
    dsimp only [t16]
    rw [upd8 (s1 0) (show (0 : Int) = ((0 : Nat) : Int) from rfl) rfl, upd8 (s1 1) (show (1 : Int) = ((1 : Nat) : Int) from rfl) rfl, upd8 (s1 2) (show (2 : Int) = ((2 : Nat) : Int) from rfl) rfl, upd8 (s1 3) (show (3 : Int) = ((3 : Nat) : Int) from rfl) rfl,
      upd8 (s1 4) (show (4 : Int) = ((4 : Nat) : Int) from rfl) rfl, upd8 (s1 5) (show (5 : Int) = ((5 : Nat) : Int) from rfl) rfl, upd8 (s1 6) (show (6 : Int) = ((6 : Nat) : Int) from rfl) rfl, upd8 (s1 7) (show (7 : Int) = ((7 : Nat) : Int) from rfl) rfl,
      upd8 (s2 0) (show (0 : Int) = ((0 : Nat) : Int) from rfl) rfl, upd8 (s2 1) (show (1 : Int) = ((1 : Nat) : Int) from rfl) rfl, upd8 (s2 2) (show (2 : Int) = ((2 : Nat) : Int) from rfl) rfl, upd8 (s2 3) (show (3 : Int) = ((3 : Nat) : Int) from rfl) rfl,
      upd8 (s2 4) (show (4 : Int) = ((4 : Nat) : Int) from rfl) rfl, upd8 (s2 5) (show (5 : Int) = ((5 : Nat) : Int) from rfl) rfl, upd8 (s2 6) (show (6 : Int) = ((6 : Nat) : Int) from rfl) rfl, upd8 (s2 7) (show (7 : Int) = ((7 : Nat) : Int) from rfl) rfl]) (by
    rintro fuel s ⟨v, rfl, hv⟩
    rw [m_impl_sumsOf_l1.eq_2]; simp only [nlt_dec, cond_false]) (zl u, 0, t16 (fun _ => 0) (fun _ => 0)) ⟨u, rfl, u2⟩
  rw [show m_impl_sumsOf_l1 pts FUEL (zl u, 0, 0, 0, 0, 0, 0, 0, 0, 0, 0, 0, 0, 0, 0, 0, 0, 0) = _ from h2]
  rfl
end
theorem reach_sum {E : Ed} {pts : List (Int × Int)} {b : Nat} (f : Int × Int → Int) : ((reachL E pts.length b).map fun c => f (pts.getD c (0, 0))).sum = sumE E pts f b := by
  unfold reachL sumE
  rw [sum_filter]
  refine sum_same fun c hc => ?_
  by_cases h : labs E c = labs E b
  · rw [if_pos (by rw [h]; simp), if_pos h]
  · rw [if_neg (by simpa using Ne.symm h), if_neg h]
theorem sum_take_succ {l : List Nat} {f : Nat → Int} {k : Nat} (hk : k < l.length) : ((l.take (k + 1)).map f).sum = ((l.take k).map f).sum + f (l.getD k 0) := by
  rw [List.take_succ_eq_append_getElem hk, List.map_append, List.sum_append, getD_ge hk]; simp
theorem sum_sub (l : List Nat) (f : Nat → Int) (hf : ∀ c ∈ l, 0 ≤ f c ∧ f c ≤ 999) : 0 ≤ (l.map f).sum ∧ (l.map f).sum ≤ 999 * l.length := by
  induction l with
  | nil => simp
  | cons x l ih =>
    have h1 := ih fun c hc => hf c (by simp [hc])
    have h2 := hf x (by simp)
    simp only [List.map_cons, List.sum_cons, List.length_cons]
    omega
section
variable {ls : List Ln} {on : List Bool} {pts : List (Int × Int)} (h1 : StOk (pts.length : Int) ls on) (h2 : BusOk (pts.length : Int) ls pts)
include h1 h2
theorem sIslFeed {k : Nat} (hk : k < pts.length) : m_spec_IslandFeed (pts.length : Int) ls on pts (k : Int) = some (sumE (onE ls on) pts (·.1) k) := by
  have hB := h1.net.b1
  unfold m_spec_IslandFeed m_spec_l1In
  have w1 : w64 ((pts.length : Int) - 1) = (pts.length : Int) - 1 := w64_in (by omega) (by omega)
  have c1 : (leB 0 (k : Int) && leB (k : Int) ((pts.length : Int) - 1)) = true := by simp [leB]; omega
  rw [sFed _ ls pts (by omega), okV_iff.2 ⟨h1, h2⟩, Option.bind_some, w1, c1]
  simp only [Bool.not_true, Bool.not_false, gb_true, Option.bind_some, Bool.or_self, cond_false, sReached h1 hk]
  rw [← reach_sum]
  have hl := reachL_len (onE ls on) pts.length k
  have hm : ∀ c ∈ reachL (onE ls on) pts.length k, c < pts.length := fun c hc => by have := (List.mem_filter.1 hc).1; simpa using this
  generalize reachL (onE ls on) pts.length k = l at *
  have hh := loop_all (m_spec_IslandFeed_l1 pts (zl l)) (fun j => (((l.take j).map fun c => (pts.getD c (0, 0)).1).sum, (j : Int))) l.length (some ((l.map fun c => (pts.getD c (0, 0)).1).sum)) (by omega) (fun j fuel hj => ?_) (fun fuel => ?_)
  · rw [show m_spec_IslandFeed_l1 pts (zl l) FUEL (0, 0) = _ from hh]; rfl
  · rw [m_spec_IslandFeed_l1.eq_2]
    have hc : l.getD j 0 < pts.length := hm _ (by rw [getD_ge hj]; exact List.getElem_mem hj)
    have hb := sum_sub (l.take j) (fun c => (pts.getD c (0, 0)).1) (fun c hc => (h2.bs c (hm c (List.mem_of_mem_take hc))).1)
    have hlen : (l.take j).length = j := by rw [List.length_take]; omega
    have hx := (h2.bs _ hc).1
    rw [hlen] at hb
    have w2 : w64 (((l.take j).map fun c => (pts.getD c (0, 0)).1).sum + (pts.getD (l.getD j 0) (0, 0)).1) = ((l.take j).map fun c => (pts.getD c (0, 0)).1).sum + (pts.getD (l.getD j 0) (0, 0)).1 := w64_in (by omega) (by omega)
    simp only [zl_len, lt_dec hj, ix_dec hj, cond_true, chk_true, Int.toNat_natCast, zl_get, ix_dec hc, w2, w64_succ (by omega : j < 4611686018427387904)]
    rw [sum_take_succ hj]
  · rw [m_spec_IslandFeed_l1.eq_2]; simp only [zl_len, nlt_dec, cond_false, List.take_length]
end
end Go.Proofs.YtnplecoikgnpkaaGreatDoor
namespace Go.Proofs.YtnplecoikgnpkaaGreatDoor
set_option linter.unusedVariables false
set_option linter.unusedSimpArgs false
def aliveL (E : Ed) (pts : List (Int × Int)) : List Nat := (List.range pts.length).filter fun b => ltB 0 (sumE E pts (·.1) b)
theorem iAlive (b : Int) (ls : List Ln) (on : List Bool) (pts : List (Int × Int)) (hp : pts.length ≤ 1048576) : m_impl_AliveBuses b ls on pts = some (if okV b ls on pts then zl (aliveL (onE ls on) pts) else []) := by
  unfold m_impl_AliveBuses
  rw [iFed b ls pts hp, Option.bind_some]
  cases hv : okV b ls on pts
  · rfl
  obtain ⟨h1, h2⟩ := okV_iff.1 hv
  obtain ⟨b1, b2⟩ := b_len h2
  obtain ⟨u, u1, u2⟩ := iUnion h1
  rw [b2] at u2
  simp only [cond_true, u1, Option.bind_some, iSums h1 h2, if_true]
  obtain ⟨s, ⟨v, rfl, hv⟩, hh⟩ := loop_rel (m_impl_AliveBuses_l1 pts (t16 (sumK (onE ls on) pts (·.1) pts.length) (sumK (onE ls on) pts (·.2) pts.length))) (fun k s => ∃ v, s = (zl v, zl ((List.range k).filter fun b => ltB 0 (sumE (onE ls on) pts (·.1) b)), (k : Int)) ∧ UR v pts.length (labs (onE ls on))) pts.length (fun s => some s.2.1) (by omega) (by
    rintro k fuel s hk ⟨v, rfl, hv⟩
    rw [m_impl_AliveBuses_l1.eq_2]
    obtain ⟨x, x1, x2⟩ := iFindU hv (by omega) hk
    have hr : labs (onE ls on) k < 8 := by have := hv.le hk; omega
    have hl := List.length_filter_le (fun b => ltB 0 (sumE (onE ls on) pts (·.1) b)) (List.range k)
    rw [List.length_range] at hl
    have ha : apB (zl ((List.range k).filter fun b => ltB 0 (sumE (onE ls on) pts (·.1) b))).length ([(k : Int)] : List Int).length = true := by rw [zl_len]; simp [apB]; omega
    dsimp only [t16]
    simp only [lt_dec hk, cond_true, Int.toNat_natCast, w64_succ (by omega : k < 4611686018427387904), x1, Option.bind_some, ix_dec hr, chk_true, get8 _ hr, ha]
    refine ⟨_, ⟨x, rfl, x2⟩, ?_⟩
    rw [List.range_succ, List.filter_append, List.filter_cons, List.filter_nil, sumE_K]
    cases hc : ltB 0 (sumK (onE ls on) pts (·.1) pts.length (labs (onE ls on) k))
    · simp
    · simp [zl]) (by
    rintro fuel s ⟨v, rfl, hv⟩
    rw [m_impl_AliveBuses_l1.eq_2]; simp only [nlt_dec, cond_false]) (zl u, ([] : List Int), 0) ⟨u, rfl, u2⟩
  rw [hh]; rfl
section
variable {ls : List Ln} {on : List Bool} {pts : List (Int × Int)} (h1 : StOk (pts.length : Int) ls on) (h2 : BusOk (pts.length : Int) ls pts)
include h1 h2
theorem sAlive : m_spec_AliveBuses (pts.length : Int) ls on pts = some (zl (aliveL (onE ls on) pts)) := by
  have hB := h1.net.b1
  unfold m_spec_AliveBuses
  have hh := loop_filter (m_spec_AliveBuses_l1 (pts.length : Int) ls on pts) pts.length (fun b => ltB 0 (sumE (onE ls on) pts (·.1) b)) some (by omega) (fun k fuel l hk ha => ?_) (fun fuel l => ?_)
  · rw [hh]; rfl
  · rw [m_spec_AliveBuses_l1.eq_2, sFed _ ls pts (by omega), okV_iff.2 ⟨h1, h2⟩]
    simp only [lt_dec hk, gb_true, Option.bind_some, Bool.and_self, cond_true, sIslFeed h1 h2 hk, ha, chk_true, w64_succ (by omega : k < 4611686018427387904)]
    cases ltB 0 (sumE (onE ls on) pts (·.1) k) <;> rfl
  · rw [m_spec_AliveBuses_l1.eq_2]; simp only [nlt_dec, gb_false, Option.bind_some, Bool.false_and, cond_false]
end
end Go.Proofs.YtnplecoikgnpkaaGreatDoor
namespace Go.Proofs.YtnplecoikgnpkaaGreatDoor
set_option linter.unusedVariables false
set_option linter.unusedSimpArgs false
def darkL (w : Wd) : List Nat := (List.range w.pts.length).filter fun k => ltB 0 (w.pts.getD k (0, 0)).2 && !ltB 0 (sumE (onE w.ls w.on) w.pts (·.1) k)
theorem iIdxI (l : List Int) (x : Int) (hl : l.length ≤ 1099511627776) : ∃ z, m_slices_Index_int_int l x = some z ∧ leB 0 z = decide (x ∈ l) := by
  unfold m_slices_Index_int_int
  have h := loop_first (m_slices_Index_int_int_l1 l x) (fun k => (k : Int)) l.length (fun k => x == l.getD k 0) (fun k => some (.inr (k : Int))) (some (.inl ())) hl (fun k fuel hk => by
    rw [m_slices_Index_int_int_l1.eq_2]
    simp only [lt_dec hk, ix_dec hk, chk_true, cond_true, Int.toNat_natCast, w64_succ (by omega : k < 4611686018427387904)]) (fun fuel => by rw [m_slices_Index_int_int_l1.eq_2]; simp only [nlt_dec, cond_false])
  rw [show m_slices_Index_int_int_l1 l x FUEL 0 = _ from h]
  cases hf : (List.range l.length).find? (fun k => x == l.getD k 0) with
  | none =>
    refine ⟨_, rfl, ?_⟩
    have : x ∉ l := fun hx => by
      obtain ⟨k, hk, rfl⟩ := List.mem_iff_getElem.1 hx
      have := List.find?_eq_none.1 hf k (by simpa using hk)
      rw [getD_ge hk] at this
      simp at this
    rw [decide_eq_false this]; rfl
  | some k =>
    obtain ⟨h1, h2, _⟩ := List.find?_range_eq_some.1 hf
    have hk : k < l.length := by simpa using h2
    refine ⟨_, rfl, ?_⟩
    have : x ∈ l := by
      rw [beq_iff_eq] at h1
      rw [h1, getD_ge hk]; exact List.getElem_mem hk
    rw [decide_eq_true this]; simp [leB]
theorem iHasI (l : List Int) (x : Int) (hl : l.length ≤ 1099511627776) : m_slices_Contains_int_int l x = some (decide (x ∈ l)) := by
  obtain ⟨z, h1, h2⟩ := iIdxI l x hl
  unfold m_slices_Contains_int_int
  rw [h1, Option.bind_some, h2]
theorem alive_mem {E : Ed} {pts : List (Int × Int)} {k : Nat} (hk : k < pts.length) : decide ((k : Int) ∈ zl (aliveL E pts)) = ltB 0 (sumE E pts (·.1) k) := by
  rw [Bool.eq_iff_iff, decide_eq_true_eq, zl_mem]
  simp [aliveL, hk]
section
variable (b : Int) (ls : List Ln) (pts : List (Int × Int)) (on earth : List Bool) (pm : Pm) (br : List Int) (hp : pts.length ≤ 1048576) (ho : on.length ≤ 1048576) (hm : pm.length ≤ 1048576) (hb : br.length ≤ 1048576)
include hp ho hm hb
theorem iDark : m_impl_WorldDark b ls pts on earth pm br = some (if wv ⟨b, ls, pts, on, earth, pm, br⟩ then zl (darkL ⟨b, ls, pts, on, earth, pm, br⟩) else []) := by
  unfold m_impl_WorldDark
  rw [iWv b ls pts on earth pm br hp ho hm hb, Option.bind_some]
  cases hv : wv ⟨b, ls, pts, on, earth, pm, br⟩
  · rfl
  have hw := wv_iff.1 hv
  have hok : okV b ls on pts = true := okV_iff.2 ⟨⟨hw.bus.net, hw.len⟩, hw.bus⟩
  simp only [cond_true, iAlive b ls on pts hp, hok, if_true, Option.bind_some]
  have hal : (zl (aliveL (onE ls on) pts)).length ≤ 1099511627776 := by
    rw [zl_len]; unfold aliveL
    have := List.length_filter_le (fun b => ltB 0 (sumE (onE ls on) pts (·.1) b)) (List.range pts.length)
    rw [List.length_range] at this; omega
  have hh := loop_filter (m_impl_WorldDark_l1 pts (zl (aliveL (onE ls on) pts))) pts.length (fun k => ltB 0 (pts.getD k (0, 0)).2 && !ltB 0 (sumE (onE ls on) pts (·.1) k)) some (by omega) (fun k fuel l hk ha => ?_) (fun fuel l => ?_)
  · rw [hh]; rfl
  · rw [m_impl_WorldDark_l1.eq_2]
    simp only [lt_dec hk, ix_dec hk, chk_true, cond_true, Int.toNat_natCast, iHasI _ _ hal, alive_mem hk, ha, w64_succ (by omega : k < 4611686018427387904)]
    cases ltB 0 (pts.getD k (0, 0)).2
    · rfl
    · cases ltB 0 (sumE (onE ls on) pts (·.1) k) <;> rfl
  · rw [m_impl_WorldDark_l1.eq_2]; simp only [nlt_dec, cond_false]
theorem sDark : m_spec_WorldDark b ls pts on earth pm br = some (if wv ⟨b, ls, pts, on, earth, pm, br⟩ then zl (darkL ⟨b, ls, pts, on, earth, pm, br⟩) else []) := by
  unfold m_spec_WorldDark
  rw [sWv b ls pts on earth pm br hp ho hm hb, Option.bind_some]
  cases hv : wv ⟨b, ls, pts, on, earth, pm, br⟩
  · rfl
  have hw := wv_iff.1 hv
  have hlp := hw.bus.lp
  dsimp only at hlp
  subst hlp
  simp only [cond_true, sAlive ⟨hw.bus.net, hw.len⟩ hw.bus, if_true, Option.bind_some]
  have hal : (zl (aliveL (onE ls on) pts)).length ≤ 1099511627776 := by
    rw [zl_len]; unfold aliveL
    have := List.length_filter_le (fun b => ltB 0 (sumE (onE ls on) pts (·.1) b)) (List.range pts.length)
    rw [List.length_range] at this; omega
  have hh := loop_filter (m_spec_WorldDark_l1 pts (zl (aliveL (onE ls on) pts))) pts.length (fun k => ltB 0 (pts.getD k (0, 0)).2 && !ltB 0 (sumE (onE ls on) pts (·.1) k)) some (by omega) (fun k fuel l hk ha => ?_) (fun fuel l => ?_)
  · rw [hh]; rfl
  · rw [m_spec_WorldDark_l1.eq_2]
    simp only [lt_dec hk, ix_dec hk, chk_true, cond_true, Int.toNat_natCast, sHas _ _ hal, alive_mem hk, ha, Bool.or_true, Option.bind_some, w64_succ (by omega : k < 4611686018427387904)]
    cases ltB 0 (pts.getD k (0, 0)).2 <;> cases ltB 0 (sumE (onE ls on) pts (·.1) k) <;> rfl
  · rw [m_spec_WorldDark_l1.eq_2]; simp only [nlt_dec, cond_false]
end
end Go.Proofs.YtnplecoikgnpkaaGreatDoor
namespace Go.Proofs.YtnplecoikgnpkaaGreatDoor
set_option linter.unusedVariables false
set_option linter.unusedSimpArgs false
theorem sum_le {f g : Nat → Int} : ∀ {n : Nat}, (∀ b, b < n → f b ≤ g b) → ((List.range n).map f).sum ≤ ((List.range n).map g).sum
  | 0, _ => by simp
  | n + 1, h => by
    have ih := sum_le (n := n) fun b hb => h b (by omega)
    have := h n (by omega)
    rw [List.range_succ]
    simp only [List.map_append, List.map_cons, List.map_nil, List.sum_append, List.sum_cons, List.sum_nil]
    omega
theorem sumE_le {E F : Ed} (hEF : ∀ e ∈ E, e ∈ F) {pts : List (Int × Int)} (hf : ∀ k, k < pts.length → 0 ≤ (pts.getD k (0, 0)).1) (b : Nat) : sumE E pts (·.1) b ≤ sumE F pts (·.1) b := by
  refine sum_le fun c hc => ?_
  have h0 := hf c hc
  by_cases h1 : labs E c = labs E b
  · have h2 : labs F c = labs F b := (labs_cn F c b).2 (((labs_cn E c b).1 h1).mono hEF)
    rw [if_pos h1, if_pos h2]; exact Int.le_refl _
  · rw [if_neg h1]
    split
    · exact h0
    · exact Int.le_refl _
theorem onE_less {ls : List Ln} {on on' : List Bool} (h : ∀ k, on'.getD k false = true → on.getD k false = true) : ∀ e ∈ onE ls on', e ∈ onE ls on := by
  intro e he
  obtain ⟨k, h1, h2, h3⟩ := onE_mem.1 he
  exact onE_mem.2 ⟨k, h1, h k h2, h3⟩
theorem dark_keep {w x : Wd} (h : WdOk w) (hl : x.ls = w.ls) (hp : x.pts = w.pts) (ho : ∀ k, x.on.getD k false = true → w.on.getD k false = true) : ∀ k ∈ darkL w, k ∈ darkL x := by
  intro k hk
  unfold darkL at hk ⊢
  rw [hl, hp]
  rw [List.mem_filter] at hk ⊢
  refine ⟨hk.1, ?_⟩
  have h2 := hk.2
  rw [Bool.and_eq_true] at h2 ⊢
  refine ⟨h2.1, ?_⟩
  have hs := sumE_le (pts := w.pts) (onE_less (ls := w.ls) ho) (fun k hk => (h.bus.bs k hk).1.1) k
  have h3 := h2.2
  simp only [ltB, Bool.not_eq_true', decide_eq_false_iff_not] at h3 ⊢
  omega
theorem brk_on {w : Wd} (h : WdOk w) (a : Int) : ∀ k, (wdDo w 6 a 0).1.on.getD k false = true → w.on.getD k false = true := by
  intro k hk
  unfold wdDo at hk
  rw [if_pos (wv_iff.2 h)] at hk
  split at hk
  · split at hk
    · by_cases hka : a.toNat = k
      · by_cases hl : a.toNat < w.on.length
        · dsimp only at hk; rw [← hka, gset hl] at hk; cases hk
        · dsimp only at hk; rw [List.set_eq_of_length_le (by omega)] at hk; exact hk
      · dsimp only at hk; rwa [gset_ne hka] at hk
    · split at hk
      · rename_i hc; exact absurd hc.1 (by decide)
      · split at hk
        · rename_i hc; exact absurd hc.1 (by decide)
        · split at hk
          · exact (wkDo_on h.work).2 (by decide) k hk
          · exact hk
  · exact hk
theorem hasInt_eq (l : List Int) (x : Int) (hl : l.length ≤ 1048576) : m_laws_hasInt l x = some (decide (x ∈ l)) := by
  unfold m_laws_hasInt
  have h := loop_find (m_laws_hasInt_l1 l x) (fun k => (k : Int)) l.length (fun k => l.getD k 0 == x) (some (.inr true)) (some (.inl ())) (by omega) (fun k fuel hk => by
    rw [m_laws_hasInt_l1.eq_2]
    simp only [lt_dec hk, ix_dec hk, chk_true, cond_true, Int.toNat_natCast, w64_succ (by omega : k < 4611686018427387904)]) (fun fuel => by rw [m_laws_hasInt_l1.eq_2]; simp only [nlt_dec, cond_false])
  rw [show m_laws_hasInt_l1 l x FUEL 0 = _ from h]
  have : (List.range l.length).any (fun k => l.getD k 0 == x) = decide (x ∈ l) := by
    rw [Bool.eq_iff_iff, List.any_eq_true, decide_eq_true_eq]
    constructor
    · rintro ⟨k, hk, hx⟩
      have hk : k < l.length := by simpa using hk
      rw [beq_iff_eq, getD_ge hk] at hx
      rw [← hx]; exact List.getElem_mem hk
    · intro hx
      obtain ⟨k, hk, rfl⟩ := List.mem_iff_getElem.1 hx
      exact ⟨k, by simpa using hk, by rw [getD_ge hk]; simp⟩
  rw [this]
  cases decide (x ∈ l) <;> rfl
theorem within_yes {a b : List Int} (h : ∀ x ∈ a, x ∈ b) (ha : a.length ≤ 1048576) (hb : b.length ≤ 1048576) : m_laws_within a b = some true := by
  unfold m_laws_within
  have hl := loop_all (m_laws_within_l1 a b) (fun k => (k : Int)) a.length (some (.inl ())) (by omega) (fun k fuel hk => by
    rw [m_laws_within_l1.eq_2]
    have hm : a.getD k 0 ∈ b := h _ (by rw [getD_ge hk]; exact List.getElem_mem hk)
    simp only [lt_dec hk, ix_dec hk, chk_true, cond_true, Int.toNat_natCast, w64_succ (by omega : k < 4611686018427387904), hasInt_eq b _ hb, Option.bind_some, decide_eq_true hm]) (fun fuel => by rw [m_laws_within_l1.eq_2]; simp only [nlt_dec, cond_false])
  rw [show m_laws_within_l1 a b FUEL 0 = _ from hl]; rfl
theorem ascend_yes {l : List Int} (h : l.Pairwise (· < ·)) (hl : l.length ≤ 1048576) : m_laws_ascend l = some true := by
  unfold m_laws_ascend
  have hh := loop_all (m_laws_ascend_l1 l) (fun k => ((k + 1 : Nat) : Int)) (l.length - 1) (some (.inl ())) (by omega) (fun k fuel hk => by
    rw [m_laws_ascend_l1.eq_2]
    have hs := adj_of_sorted h (k := k) (by omega)
    have e1 : w64 (((k + 1 : Nat) : Int) - 1) = (k : Int) := by rw [wM (by omega)]; omega
    have e2 : leB (l.getD (k + 1) 0) (l.getD k 0) = false := decide_eq_false (by omega)
    simp only [lt_dec (show k + 1 < l.length by omega), ix_dec (show k + 1 < l.length by omega), e1, ix_dec (show k < l.length by omega), chk_true, cond_true, Int.toNat_natCast, e2, cond_false, w64_succ (by omega : k + 1 < 4611686018427387904)]) (fun fuel => by
    rw [m_laws_ascend_l1.eq_2]
    have : ltB ((l.length - 1 + 1 : Nat) : Int) (l.length : Int) = false := decide_eq_false (by omega)
    simp only [this, cond_false])
  rw [show m_laws_ascend_l1 l FUEL 1 = _ from hh]; rfl
theorem dark_sorted (w : Wd) : (zl (darkL w)).Pairwise (· < ·) := by
  unfold zl darkL
  rw [List.pairwise_map]
  refine (List.Pairwise.filter _ List.pairwise_lt_range).imp fun h => by omega
theorem dark_len (w : Wd) : (zl (darkL w)).length ≤ w.pts.length := by
  rw [zl_len]
  unfold darkL
  have := List.length_filter_le (fun k => ltB 0 (w.pts.getD k (0, 0)).2 && !ltB 0 (sumE (onE w.ls w.on) w.pts (·.1) k)) (List.range w.pts.length)
  simpa using this
theorem dk1 {w : Wd} (h : WdOk w) (hz : Sm w) : m_laws_FnWorldDark_l1 (o7 w) (zl (darkL w)) (zl (aliveL (onE w.ls w.on) w.pts)) FUEL 0 = some (.inl ()) := by
  have hp := hz.p
  have hd := dark_len w
  have ha : (zl (aliveL (onE w.ls w.on) w.pts)).length ≤ w.pts.length := by
    rw [zl_len]; unfold aliveL
    have := List.length_filter_le (fun b => ltB 0 (sumE (onE w.ls w.on) w.pts (·.1) b)) (List.range w.pts.length)
    simpa using this
  refine loop_all (m_laws_FnWorldDark_l1 (o7 w) (zl (darkL w)) (zl (aliveL (onE w.ls w.on) w.pts))) (fun k => (k : Int)) w.pts.length (some (.inl ())) (by omega) (fun k fuel hk => ?_) (fun fuel => ?_)
  · rw [m_laws_FnWorldDark_l1.eq_2]
    dsimp only [o7]
    have e1 : decide ((k : Int) ∈ zl (darkL w)) = (ltB 0 (w.pts.getD k (0, 0)).2 && !ltB 0 (sumE (onE w.ls w.on) w.pts (·.1) k)) := by
      rw [Bool.eq_iff_iff, decide_eq_true_eq, zl_mem]
      unfold darkL
      rw [List.mem_filter, List.mem_range]
      exact ⟨fun h => h.2, fun h => ⟨hk, h⟩⟩
    have e2 := alive_mem (E := onE w.ls w.on) hk
    simp only [lt_dec hk, ix_dec hk, chk_true, cond_true, Int.toNat_natCast, w64_succ (by omega : k < 4611686018427387904), hasInt_eq _ _ (show (zl (darkL w)).length ≤ 1048576 by omega), hasInt_eq _ _ (show (zl (aliveL (onE w.ls w.on) w.pts)).length ≤ 1048576 by omega), Option.bind_some, e1, e2]
    cases ltB 0 (w.pts.getD k (0, 0)).2 <;> cases ltB 0 (sumE (onE w.ls w.on) w.pts (·.1) k) <;> simp [gb]
  · rw [m_laws_FnWorldDark_l1.eq_2]; dsimp only [o7]; simp only [nlt_dec, cond_false]
theorem iDark' {w : Wd} (h : WdOk w) : m_impl_WorldDark w.b w.ls w.pts w.on w.earth w.pm w.br = some (zl (darkL w)) := by
  have hz := sm_of h
  have := iDark w.b w.ls w.pts w.on w.earth w.pm w.br hz.p hz.o hz.m hz.b
  rwa [if_pos (wv_iff.2 h)] at this
theorem dk2 {w : Wd} (h : WdOk w) (hz : Sm w) : m_laws_FnWorldDark_l2 (o7 w) (zl (darkL w)) FUEL 0 = some (.inl ()) := by
  have ho := hz.o
  have hp := hz.p
  have hd := dark_len w
  refine loop_all (m_laws_FnWorldDark_l2 (o7 w) (zl (darkL w))) (fun k => (k : Int)) w.on.length (some (.inl ())) (by omega) (fun k fuel hk => ?_) (fun fuel => ?_)
  · rw [m_laws_FnWorldDark_l2.eq_2]
    dsimp only [o7]
    have hx := wdDo_ok h 6 (k : Int) 0
    obtain ⟨n1, n2, n3⟩ := wdDo_net w (wv_iff.2 h) 6 (k : Int) 0
    have hdx := dark_len (wdDo w 6 (k : Int) 0).1
    rw [n3] at hdx
    have hw := within_yes (a := zl (darkL w)) (b := zl (darkL (wdDo w 6 (k : Int) 0).1)) (fun x hx' => by
      obtain ⟨c, hc, rfl⟩ := List.mem_map.1 hx'
      exact List.mem_map.2 ⟨c, dark_keep h n2 n3 (brk_on h (k : Int)) c hc, rfl⟩) (by omega) (by omega)
    simp only [lt_dec hk, chk_true, cond_true, iWorldDo hz 6 (k : Int) 0, Option.bind_some, o8, iDark' hx, hw, w64_succ (by omega : k < 4611686018427387904)]
  · rw [m_laws_FnWorldDark_l2.eq_2]; dsimp only [o7]; simp only [nlt_dec, cond_false]
theorem drawDark {x0 : List Int} (h1 : ∀ z ∈ x0, inU z) : Ys (m_spec_DrawWorldDark x0) fun r => Sz 40 (of7 r) := by
  unfold m_spec_DrawWorldDark
  exact ys_bind (drawWorld (code_sub h1) (by omega)) fun r hr => ys_some hr.1
theorem door_FnWorldDark (x0 : List Int) (h0 : x0.length ≤ maxLen) (h1 : ∀ z ∈ x0, inU z) : m_laws_FnWorldDark x0 = some true := by
  unfold m_laws_FnWorldDark
  rcases Bool.eq_false_or_eq_true (ltB 1048576 (x0.length : Int)) with h | h <;> rw [h]
  · rfl
  obtain ⟨r, e, hz⟩ := drawDark h1
  obtain ⟨w, rfl⟩ : ∃ w, r = o7 w := ⟨of7 r, rfl⟩
  have hz : Sz 40 w := hz
  have hs := hz.sm
  have hi := iDark w.b w.ls w.pts w.on w.earth w.pm w.br hs.p hs.o hs.m hs.b
  have hp := sDark w.b w.ls w.pts w.on w.earth w.pm w.br hs.p hs.o hs.m hs.b
  have hv' := sWv' w hs
  rw [e]
  simp only [cond_false, Option.bind_some]
  rw [show m_impl_WorldDark (o7 w).1 (o7 w).2.1 (o7 w).2.2.1 (o7 w).2.2.2.1 (o7 w).2.2.2.2.1 (o7 w).2.2.2.2.2.1 (o7 w).2.2.2.2.2.2 = _ from hi, show m_spec_WorldDark (o7 w).1 (o7 w).2.1 (o7 w).2.2.1 (o7 w).2.2.2.1 (o7 w).2.2.2.2.1 (o7 w).2.2.2.2.2.1 (o7 w).2.2.2.2.2.2 = _ from hp, show m_spec_WorldValid (o7 w).1 (o7 w).2.1 (o7 w).2.2.1 (o7 w).2.2.2.1 (o7 w).2.2.2.2.1 (o7 w).2.2.2.2.2.1 (o7 w).2.2.2.2.2.2 = _ from hv']
  cases hv : wv w
  · simp [sameInts_eq, gb, alive_ok]
  have ok : WdOk w := wv_iff.1 hv
  have hd := dark_len w
  have hsp := hs.p
  have hal : m_impl_AliveBuses (o7 w).1 (o7 w).2.1 (o7 w).2.2.2.1 (o7 w).2.2.1 = some (zl (aliveL (onE w.ls w.on) w.pts)) := by
    have := iAlive w.b w.ls w.on w.pts hs.p
    rwa [if_pos (okV_iff.2 ⟨⟨ok.bus.net, ok.len⟩, ok.bus⟩)] at this
  simp only [if_true, Option.bind_some]
  rw [show (⟨w.b, w.ls, w.pts, w.on, w.earth, w.pm, w.br⟩ : Wd) = w from rfl, sameInts_eq _ _ (show (zl (darkL w)).length ≤ 1099511627776 by omega), hal]
  simp only [decide_true, cond_true, Option.bind_some, dk1 ok hs, dk2 ok hs, Sum.elim_inl, ascend_yes (dark_sorted w) (show (zl (darkL w)).length ≤ 1048576 by omega)]
end Go.Proofs.YtnplecoikgnpkaaGreatDoor
namespace Go.Proofs.YtnplecoikgnpkaaGreatDoor
open Go.ChangeShapes Go.WideShapes Go.ChangeAt Go.RowKit Go.Deep
set_option linter.unusedVariables false
set_option linter.unusedSimpArgs false
set_option maxRecDepth 100000
section
variable {H : Type} {enc : TypeId × Value → H} {w : World} {base : Nat} {spare : Nat → Bool} {held : Bool}
theorem tr5 {fuel : Nat} {cs : List Value} {x : DataW H × List MemPlace} (h : DataW.trod enc Tryz.prog w base spare held fuel 5 cs = some x) :
    ∃ (y0 : Int), cs = [.int .u8 y0] ∧ inU y0 := by
  obtain ⟨n, rfl, _, hw⟩ := DataW.trod_int Tryz.underlying5 h
  exact ⟨n, rfl, u8_bounds hw⟩
theorem tr22 {fuel : Nat} {cs : List Value} {x : DataW H × List MemPlace} (h : DataW.trod enc Tryz.prog w base spare held fuel 22 cs = some x) :
    ∃ (A0 : Option Addr) (y0 : List Int) (k0 : Nat), cs = [.slice A0 y0.length k0] ∧ Rc w 1 A0 y0.length k0 (y0.flatMap eU) ∧ y0.length ≤ maxLen ∧ (∀ z ∈ y0, inU z) := by
  obtain ⟨A, l, cap, e1, e2, e3, e4⟩ := open_list (fun b : {y : Int // inU y} => eU b.1) (size := 1) (fun b => eU_len b.1) (by decide) Tryz.underlying22 (by kernel_rfl) (fun fuel cs x hx => by
    obtain ⟨z0, rfl, g0⟩ := tr5 hx
    exact ⟨⟨z0, g0⟩, rfl⟩) h
  refine ⟨A, l.map (·.1), cap, by simpa using e1, ⟨by simpa [List.flatMap_map] using e2, by simpa using e3⟩, by simpa using Nat.le_trans e3 e4, fun z hz => ?_⟩
  obtain ⟨q, _, rfl⟩ := List.mem_map.1 hz
  exact q.2
theorem op22 {r : Reach} {b0 : Nat} {v : Value} {d : DataW H} {p : List MemPlace} (hval : Value.okWide Tryz.prog w r b0 22 v) (h : DataW.Trod enc Tryz.prog w base spare held 22 v d p) :
    ∃ (A0 : Option Addr) (y0 : List Int) (k0 : Nat), v = .slice A0 y0.length k0 ∧ Rc w 1 A0 y0.length k0 (y0.flatMap eU) ∧ y0.length ≤ maxLen ∧ (∀ z ∈ y0, inU z) := by
  obtain ⟨A', n', k', rfl⟩ := okWide_slice Tryz.underlying22 hval
  obtain ⟨fuel, hf⟩ := h
  obtain ⟨A0, y0, k0, e, w0, w1, w2⟩ := tr22 hf
  simp [Value.cells] at e
  exact ⟨A0, y0, k0, by simp [e], w0, w1, w2⟩
end
end Go.Proofs.YtnplecoikgnpkaaGreatDoor
namespace Go.Proofs.YtnplecoikgnpkaaGreatDoor
open Go.ChangeShapes Go.WideShapes Go.ChangeAt Go.RowKit
theorem own : ownKnob Tryz.prog.godebug = none := by kernel_rfl
theorem laidOut : laidOutB Tryz.prog = true := by kernel_rfl
section
variable {H : Type} {enc : TypeId × Value → H} {P : Program}
theorem trodAll_below (hl : laidOutB P = true) {W W' : World} (hb : Below W.heap.size W W') : ∀ {ts : List TypeId} {vs : List Value} {ds : List (DataW H)} {ps : List MemPlace},
    (ts.all fun t => P.readableRec t && decide (t < P.types.size)) = true → DataW.TrodAll enc P W 0 (fun _ => true) true ts vs ds ps → (∀ x ∈ ps, x.block < W.heap.size) →
    DataW.TrodAll enc P W' 0 (fun b => decide (b < W.heap.size)) true ts vs ds ps
  | [], [], [], _, _, h, _ => h
  | t :: ts, v :: vs, d :: ds, ps, ht, h, hlt => by
    obtain ⟨p, q, h1, h2, rfl⟩ := h
    simp only [List.all_cons, Bool.and_eq_true, decide_eq_true_eq] at ht
    exact ⟨p, q, Below.trod hl ht.1.1 ht.1.2 h1 hb (fun x hx => hlt x (by simp [hx])), trodAll_below hl hb (by simpa using ht.2) h2 (fun x hx => hlt x (by simp [hx])), rfl⟩
theorem law_post {f : Func} {s : ChangeSpec} {W W' : World} {args : Array Value} {ds gs : List (DataW H)} {before : List MemPlace} {tb : TypeId} (hl : laidOutB P = true)
    (hW : DataW.Whole enc P f.params.toList s.vars false W args.toList ds gs before)
    (hts : (f.params.toList.all fun t => P.readableRec t && decide (t < P.types.size)) = true) (hvs : s.vars = []) (hrt : f.resultTypes = #[tb]) (hub : P.underlying tb = some .bool)
    (hfn : s.fn H (ds ++ []) = { results := [.lit (.bool true)], args := ds }) (hb : Below W.heap.size W W') :
    s.post enc P f false true false false W args (.bool true) W' := by
  have hW' := hW
  obtain ⟨p, q, hA, hV, rfl, hfz, hnd⟩ := hW
  rw [hvs] at hV
  obtain ⟨rfl, rfl⟩ := trodVars_none hV
  refine ⟨ds, [], p ++ [], [], p, [], hW', ?_, ?_, ?_, hb.frame _, fun h => by cases h⟩
  · rw [hfn, hrt]
    exact trodAll_cons_mk (shut_bool hub _) trodAll_mk0
  · rw [hfn]
    exact trodAll_below hl hb hts hA (fun x hx => hW'.lt x (by simp [hx]))
  · rw [hfn, hvs]
    rfl
end
end Go.Proofs.YtnplecoikgnpkaaGreatDoor
