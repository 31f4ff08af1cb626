/- A law for a region that draws its order: each operation has a fact of its own, which the operations that may come later keep; in the end all facts hold, whatever the order was. -/
import Derived.Test.YtcmnjaccapbhfaaPre
import Derived.Orders
import Derived.Tactics2
namespace Go.Proofs.Ytcmnjaccapbhfaa
open Go.ChangeShapes Go.WideShapes Go.ChangeAt Go.RowKit

/-- What slot k holds. -/
abbrev sl (a : Act) (k : Nat) : Value := a.tmps[k]?.getD undef

/-- Operation o waits for number j. -/
def waitsOn (o : Oper) (j : Nat) : Bool := o.after.toList.any fun e => Region.binds .any e && e.on == j

/-- The structure that the law asks for: an operation waits for earlier ones alone; each writes a slot of D; no fact looks at a slot that an operation which may come later writes. -/
def structOk (ops : Array Oper) (n : Nat) (D : List Nat) (dep : Nat → Nat) : Bool :=
  ops.toList.zipIdx.all fun (o, i) =>
    (o.after.all fun e => !Region.binds .any e || decide (e.on < i)) &&
    (match o.dst with | some d => D.contains d && dep i == d && decide (d < n) | none => true) &&
    ops.toList.zipIdx.all fun (oj, j) => j == i || waitsOn oj i || (match o.dst with | some d => !(dep j == d) | none => true)


section
variable (P : Program) (ops : Array Oper) (Q : Exit → Act → World → Prop) (a0 : Act) (D : List Nat) (late : List Nat) (dep : Nat → Nat)
  (Inv : World → Prop) (R : World → World → Prop) (Fs : Nat → Value → World → Prop)

/-- The frame is as it was, but for the slots of D. -/
def Base (a0 : Act) (D : List Nat) (a : Act) : Prop := a.tmps.size = a0.tmps.size ∧ a.defers = a0.defers ∧ ∀ k, D.contains k = false → sl a k = sl a0 k

/-- The fact of number j, which looks at one slot, dep j. -/
def Fact (j : Nat) (a : Act) (w : World) : Prop := Fs j (sl a (dep j)) w

def noLate (i : Nat) : Bool := late.all fun j => j == i || ((ops[j]?).map (waitsOn · i)).getD true

/-- What is to be shown of the value v that number i leaves, and of the world behind it. -/
def Gives (i : Nat) (o : Oper) (a : Act) (w : World) (v : Value) (w' : World) : Prop :=
  Inv w' ∧ Fs i (match o.dst with | some _ => v | none => sl a (dep i)) w' ∧ (w' = w ∨ (R w w' ∧ noLate ops late i = true))

/-- What number i owes: a value, or a call whose contract gives it; or it is not wanted. -/
def Owes (i : Nat) (o : Oper) : Prop := ∀ (a : Act) (w : World), Base a0 D a → Inv w → (∀ j, waitsOn o j = true → Fs j (sl a (dep j)) w) →
  (Region.wanted o (yielded ops a.tmps) = true ∧ ∃ v w', (execOp a.eval o).run P w = .ok (.value v) w' ∧ Gives ops late dep Inv R Fs i o a w v w')
  ∨ (Region.wanted o (yielded ops a.tmps) = true ∧ ∃ w', (execOp a.eval o).run P w = .ok .skip w' ∧ Gives ops late dep Inv R Fs i o a w undef w')
  ∨ (Region.wanted o (yielded ops a.tmps) = true ∧ ∃ f args, (execOp a.eval o).run P w = .ok (.enter f args) w ∧ Calls P f args w fun e w' => ∃ v, e = .returned v ∧ Gives ops late dep Inv R Fs i o a w v w')
  ∨ (Region.wanted o (yielded ops a.tmps) = false ∧ Gives ops late dep Inv R Fs i o a w undef w)

def OwesAll : Nat → List Oper → Prop
  | _, [] => True
  | i, o :: rest => Owes P ops a0 D late dep Inv R Fs i o ∧ OwesAll (i + 1) rest

end

section
variable {P : Program} {ops : Array Oper} {Q : Exit → Act → World → Prop} {a0 : Act} {D : List Nat} {late : List Nat} {dep : Nat → Nat}
  {Inv : World → Prop} {R : World → World → Prop} {Fs : Nat → Value → World → Prop}

theorem owes_at {l : List Oper} : ∀ {k : Nat}, OwesAll P ops a0 D late dep Inv R Fs k l → ∀ i o, l[i]? = some o → Owes P ops a0 D late dep Inv R Fs (k + i) o := by
  induction l with
  | nil => intro k _ i o h; simp at h
  | cons x r ih =>
    intro k h i o hi
    cases i with
    | zero => simp at hi; subst hi; exact h.1
    | succ i => have := ih h.2 i o (by simpa using hi); rw [show k + (i + 1) = k + 1 + i from by omega]; exact this

theorem sl_put (a : Act) (d : Option Nat) (v : Value) (k : Nat) (h : d ≠ some k) : sl (a.put d v) k = sl a k := by
  cases d with
  | none => rfl
  | some d =>
    have : d ≠ k := fun e => h (by rw [e])
    simp [sl, Act.put, Array.getElem?_setIfInBounds_ne this]

theorem base_put {a : Act} (h : Base a0 D a) (d : Option Nat) (hd : ∀ x, d = some x → D.contains x = true) (v : Value) : Base a0 D (a.put d v) := by
  refine ⟨?_, ?_, fun k hk => ?_⟩
  · cases d with
    | none => exact h.1
    | some d => simp [Act.put, h.1]
  · cases d <;> exact h.2.1
  · rw [sl_put _ _ _ _ (fun e => by have := hd k e; rw [hk] at this; cases this)]
    exact h.2.2 k hk

theorem struct_at (hs : structOk ops a0.tmps.size D dep = true) {i : Nat} {o : Oper} (ho : ops[i]? = some o) :
    (∀ e ∈ o.after, Region.binds .any e = true → e.on < i) ∧ (∀ d, o.dst = some d → D.contains d = true) ∧
    ∀ j oj, ops[j]? = some oj → j ≠ i → waitsOn oj i = false → ∀ d, o.dst = some d → dep j ≠ d := by
  unfold structOk at hs
  have hm : (o, i) ∈ ops.toList.zipIdx := by
    rw [List.mem_zipIdx_iff_getElem?]; simpa using ho
  have h1 := List.all_eq_true.1 hs _ hm
  simp only [Bool.and_eq_true] at h1
  obtain ⟨⟨h2, h3⟩, h4⟩ := h1
  refine ⟨fun e he hb => ?_, fun d hd => ?_, fun j oj hj hne hw d hd => ?_⟩
  · have := Array.all_eq_true'.1 h2 e he
    simpa [hb] using this
  · simp only [hd, Bool.and_eq_true] at h3; exact h3.1.1
  · have hmj : (oj, j) ∈ ops.toList.zipIdx := by
      rw [List.mem_zipIdx_iff_getElem?]; simpa using hj
    have := List.all_eq_true.1 h4 _ hmj
    simp only [hw, hd, Bool.or_false, Bool.or_eq_true, beq_iff_eq, Bool.not_eq_true', beq_eq_false_iff_ne] at this
    rcases this with h | h
    · exact absurd h hne
    · exact h
theorem struct_dst {n : Nat} (hs : structOk ops n D dep = true) {i : Nat} {o : Oper} (ho : ops[i]? = some o) {d : Nat} (hd : o.dst = some d) : dep i = d ∧ d < n := by
  unfold structOk at hs
  have hm : (o, i) ∈ ops.toList.zipIdx := by
    rw [List.mem_zipIdx_iff_getElem?]; simpa using ho
  have h1 := List.all_eq_true.1 hs _ hm
  simp only [Bool.and_eq_true, hd] at h1
  obtain ⟨⟨_, ⟨_, h2⟩, h3⟩, _⟩ := h1
  exact ⟨by simpa using h2, by simpa using h3⟩

theorem fact_put {j : Nat} {a : Act} {w : World} (d : Option Nat) (v : Value) (hd : ∀ x, d = some x → dep j ≠ x) (h : Fact dep Fs j a w) : Fact dep Fs j (a.put d v) w := by
  unfold Fact at h ⊢
  rw [sl_put _ _ _ _ (fun e => hd _ e rfl)]
  exact h
theorem sl_put_same (a : Act) {d : Nat} (v : Value) (h : d < a.tmps.size) : sl (a.put (some d) v) d = v := by
  simp [sl, Act.put, h]

theorem rg_any (hs : structOk ops a0.tmps.size D dep = true) (hstab : ∀ j, late.contains j = false → ∀ a w w', R w w' → Fact dep Fs j a w → Fact dep Fs j a w')
    (hops : OwesAll P ops a0 D late dep Inv R Fs 0 ops.toList)
    (hend : ∀ a w, Base a0 D a → Inv w → (∀ i, i < ops.size → Fact dep Fs i a w) → Q .normal a w) :
    ∀ (fuel : Nat) (listed : Array Bool) (a : Act) (w : World), listed.size = ops.size → Base a0 D a → Inv w →
      (∀ i, i < ops.size → listed.getD i true = true → Fact dep Fs i a w) →
      (∀ j oj i, ops[j]? = some oj → listed.getD j true = true → waitsOn oj i = true → listed.getD i false = true) →
      ((List.range ops.size).filter fun i => !listed.getD i true).length ≤ fuel → wpAny P .any ops Q fuel listed a w := by
  have hall : ∀ (listed : Array Bool), listed.size = ops.size → Region.ready .any ops listed = [] → ∀ n i, i ≤ n → i < ops.size → listed.getD i true = true := by
    intro listed hsz hr n
    induction n with
    | zero =>
      intro i hi hlt
      obtain rfl : i = 0 := by omega
      cases hl : listed.getD 0 true with
      | true => rfl
      | false =>
        exfalso
        obtain ⟨o, ho⟩ : ∃ o, ops[0]? = some o := ⟨ops[0], by simp [hlt]⟩
        have hm : 0 ∈ Region.ready .any ops listed := by
          unfold Region.ready
          rw [List.mem_filter]
          refine ⟨by simpa using hlt, ?_⟩
          rw [hl, ho]
          simp only [Bool.not_false, Bool.true_and, Option.map_some, Option.getD_some]
          refine Array.all_eq_true'.2 fun e he => ?_
          cases hb : Region.binds .any e with
          | false => rfl
          | true => have := (struct_at hs ho).1 e he hb; omega
        rw [hr] at hm
        cases hm
    | succ n ih =>
      intro i hi hlt
      by_cases hle : i ≤ n
      · exact ih i hle hlt
      obtain rfl : i = n + 1 := by omega
      cases hl : listed.getD (n + 1) true with
      | true => rfl
      | false =>
        exfalso
        obtain ⟨o, ho⟩ : ∃ o, ops[n + 1]? = some o := ⟨ops[n + 1], by simp [hlt]⟩
        have hm : n + 1 ∈ Region.ready .any ops listed := by
          unfold Region.ready
          rw [List.mem_filter]
          refine ⟨by simpa using hlt, ?_⟩
          rw [hl, ho]
          simp only [Bool.not_false, Bool.true_and, Option.map_some, Option.getD_some]
          refine Array.all_eq_true'.2 fun e he => ?_
          cases hb : Region.binds .any e with
          | false => rfl
          | true =>
            have h1 := (struct_at hs ho).1 e he hb
            have h2 := ih e.on (by omega) (by omega)
            have h3 : e.on < listed.size := by omega
            simp [h3] at h2
            simp [h3, h2]
        rw [hr] at hm
        cases hm
  intro fuel
  induction fuel with
  | zero =>
    intro listed a w hsz hB hI hF hcl hn
    have hnil : (List.range ops.size).filter (fun i => !listed.getD i true) = [] := List.eq_nil_of_length_eq_zero (by omega)
    have hl : ∀ i, i < ops.size → listed.getD i true = true := by
      intro i hi
      have := List.filter_eq_nil_iff.1 hnil i (by simpa using hi)
      simpa using this
    refine ⟨?_, hend a w hB hI fun i hi => hF i hi (hl i hi)⟩
    unfold Region.ready
    rw [List.filter_eq_nil_iff]
    intro i hi
    have := hl i (by simpa using hi)
    simp only [this, Bool.not_true, Bool.false_and, Bool.false_eq_true, not_false_eq_true]
  | succ fuel ih =>
    intro listed a w hsz hB hI hF hcl hn
    refine ⟨fun hr => hend a w hB hI fun i hi => hF i hi (hall listed hsz hr i i (Nat.le_refl _) hi), fun i hi => ?_⟩
    have hi' := hi
    unfold Region.ready at hi'
    rw [List.mem_filter] at hi'
    obtain ⟨hir, hib⟩ := hi'
    have hilt : i < ops.size := by simpa using hir
    obtain ⟨o, ho⟩ : ∃ o, ops[i]? = some o := ⟨ops[i], by simp [hilt]⟩
    rw [ho] at hib
    simp only [Option.map_some, Option.getD_some, Bool.and_eq_true, Bool.not_eq_true'] at hib
    obtain ⟨hun, hpre⟩ := hib
    have hpre' : ∀ j, waitsOn o j = true → listed.getD j false = true := by
      intro j hj
      unfold waitsOn at hj
      obtain ⟨e, he, hb⟩ := List.any_eq_true.1 hj
      have he := Array.mem_toList_iff.1 he
      simp only [Bool.and_eq_true, beq_iff_eq] at hb
      have := Array.all_eq_true'.1 hpre e he
      rw [hb.1] at this
      simpa [hb.2] using this
    have hst := struct_at hs ho
    have howe : Owes P ops a0 D late dep Inv R Fs i o := by
      have := owes_at hops i o (by simpa using ho)
      rwa [Nat.zero_add] at this
    have hfacts : ∀ j, waitsOn o j = true → Fact dep Fs j a w := by
      intro j hj
      have h1 := hpre' j hj
      have hjl : j < listed.size := by
        rcases Nat.lt_or_ge j listed.size with h | h
        · exact h
        · simp [h] at h1
      refine hF j (by omega) ?_
      simp [hjl] at h1
      simp [hjl, h1]
    -- what holds behind operation i
    have hnext : ∀ a' w', (∃ v, a' = a.put o.dst v) → Inv w' → Fact dep Fs i a' w' → (w' = w ∨ (R w w' ∧ noLate ops late i = true)) →
        wpAny P .any ops Q fuel (listed.setIfInBounds i true) a' w' := by
      rintro a' w' ⟨v, rfl⟩ hI' hFi hch
      have hgd : ∀ j d, (listed.setIfInBounds i true).getD j d = if j = i then true else listed.getD j d := by
        intro j d
        have hil : i < listed.size := by omega
        by_cases hji : j = i
        · subst hji; simp [hil]
        · rw [if_neg hji]
          simp only [Array.getD_eq_getD_getElem?]
          rw [Array.getElem?_setIfInBounds_ne (fun e => hji e.symm)]
      refine ih _ _ _ (by simp [hsz]) (base_put hB _ hst.2.1 v) hI' ?_ ?_ ?_
      · intro j hj hlj
        rw [hgd] at hlj
        by_cases hji : j = i
        · subst hji; exact hFi
        rw [if_neg hji] at hlj
        obtain ⟨oj, hoj⟩ : ∃ oj, ops[j]? = some oj := ⟨ops[j], by simp [hj]⟩
        have hnw : waitsOn oj i = false := by
          cases hw : waitsOn oj i with
          | false => rfl
          | true =>
            have h1 := hcl j oj i hoj hlj hw
            have hil : i < listed.size := by omega
            simp [hil] at h1 hun
            rw [h1] at hun
            cases hun
        have h1 : Fact dep Fs j (a.put o.dst v) w := fact_put _ _ (fun d hd => hst.2.2 j oj hoj hji hnw d hd) (hF j hj hlj)
        rcases hch with rfl | ⟨hR, hnl⟩
        · exact h1
        · cases hla : late.contains j with
          | false => exact hstab j hla _ _ _ hR h1
          | true =>
            exfalso
            have := List.all_eq_true.1 hnl j (by simpa using hla)
            rw [hoj] at this
            simp [hji, hnw] at this
      · intro j oj k hoj hlj hw
        rw [hgd] at hlj ⊢
        by_cases hki : k = i
        · simp [hki]
        rw [if_neg hki]
        by_cases hji : j = i
        · subst hji
          rw [ho] at hoj
          injection hoj with hoj
          subst hoj
          exact hpre' k hw
        · rw [if_neg hji] at hlj
          exact hcl j oj k hoj hlj hw
      · have hsub : (List.range ops.size).filter (fun j => !(listed.setIfInBounds i true).getD j true) = ((List.range ops.size).filter fun j => !listed.getD j true).filter (fun j => !(j == i)) := by
          rw [List.filter_filter]
          refine List.filter_congr fun j _ => ?_
          rw [hgd]
          by_cases hji : j = i <;> simp [hji]
        rw [hsub]
        have hlt : (((List.range ops.size).filter fun j => !listed.getD j true).filter (fun j => !(j == i))).length < ((List.range ops.size).filter fun j => !listed.getD j true).length := by
          rw [List.length_filter_lt_length_iff_exists]
          exact ⟨i, List.mem_filter.2 ⟨hir, by simp [hun]⟩, by simp⟩
        omega
    have hgive : ∀ v w', Gives ops late dep Inv R Fs i o a w v w' → wpAny P .any ops Q fuel (listed.setIfInBounds i true) (a.put o.dst v) w' := by
      rintro v w' ⟨h1, h2, h3⟩
      refine hnext _ _ ⟨v, rfl⟩ h1 ?_ h3
      unfold Fact
      cases hd : o.dst with
      | none => rw [hd] at h2; exact h2
      | some d =>
        rw [hd] at h2
        obtain ⟨e1, e2⟩ := struct_dst hs ho hd
        rw [e1, sl_put_same _ _ (by rw [hB.1]; exact e2)]
        exact h2
    unfold wpOp
    rw [ho]
    rcases howe a w hB hI hfacts with ⟨hw, v, w', hr, hg⟩ | ⟨hw, w', hr, hg⟩ | ⟨hw, f, args, hr, hg⟩ | ⟨hw, hg⟩
    · simp only [hw, if_true, Oper.wp, hr, Oper.upon]
      exact .inl (hgive _ _ hg)
    · simp only [hw, if_true, Oper.wp, hr, Oper.upon]
      exact .inl (hgive _ _ hg)
    · simp only [hw, if_true, Oper.wp, hr, Oper.upon]
      refine .inl (hg.mono ?_)
      rintro e w' ⟨v, rfl, hg'⟩
      exact hgive _ _ hg'
    · simp only [hw, Bool.false_eq_true, if_false]
      exact hgive _ _ hg

theorem act_ext {a b : Act} (h1 : a.tmps = b.tmps) (h2 : a.defers = b.defers) : a = b := by cases a; cases b; simp_all
theorem fold_put (a : Act) : ∀ (D : List Nat) (x : Act), (D.foldl (fun y d => y.put (some d) (sl a d)) x).tmps.size = x.tmps.size ∧ (D.foldl (fun y d => y.put (some d) (sl a d)) x).defers = x.defers ∧
    ∀ k, k < x.tmps.size → sl (D.foldl (fun y d => y.put (some d) (sl a d)) x) k = if D.contains k then sl a k else sl x k := by
  intro D
  induction D with
  | nil => intro x; exact ⟨rfl, rfl, fun k _ => by simp⟩
  | cons d D ih =>
    intro x
    obtain ⟨h1, h2, h3⟩ := ih (x.put (some d) (sl a d))
    refine ⟨?_, ?_, fun k hk => ?_⟩
    · rw [List.foldl_cons, h1]; simp [Act.put]
    · rw [List.foldl_cons, h2]; rfl
    · rw [List.foldl_cons, h3 k (by simpa [Act.put] using hk)]
      by_cases hkD : D.contains k = true
      · rw [if_pos hkD, if_pos (by simp only [List.contains_cons, hkD, Bool.or_true])]
      · rw [if_neg hkD]
        by_cases hkd : k = d
        · subst hkd
          rw [sl_put_same _ _ hk, if_pos (by simp)]
        · rw [sl_put _ _ _ _ (fun e => hkd (by injection e with e; exact e.symm)), if_neg]
          simp only [List.contains_cons, Bool.or_eq_true, beq_iff_eq]
          rintro (h | h)
          · exact hkd h
          · exact hkD h
/-- The frame behind the region: the one before it, with what the slots of D hold. -/
theorem base_eq {a : Act} (h : Base a0 D a) : a = D.foldl (fun y d => y.put (some d) (sl a d)) a0 := by
  obtain ⟨h1, h2, h3⟩ := fold_put a D a0
  obtain ⟨g1, g2, g3⟩ := h
  have e1 : a.tmps = (D.foldl (fun y d => y.put (some d) (sl a d)) a0).tmps := by
    apply Array.ext (by rw [g1, h1])
    intro i hi hi'
    have h4 := h3 i (by omega)
    have h5 : sl a i = sl (D.foldl (fun y d => y.put (some d) (sl a d)) a0) i := by
      rw [h4]
      by_cases hc : D.contains i = true
      · rw [if_pos hc]
      · rw [if_neg hc, g3 i (by simpa using hc)]
    simpa [sl, hi, hi'] using h5
  have e2 : a.defers = (D.foldl (fun y d => y.put (some d) (sl a d)) a0).defers := by rw [g2, h2]
  exact act_ext e1 e2

/-- THE LAW. -/
theorem region_rg {id : Nat} {w : World} (hm : P.follows .mixedOrders = true) (hs : structOk ops a0.tmps.size D dep = true)
    (hstab : ∀ j, late.contains j = false → ∀ a w w', R w w' → Fact dep Fs j a w → Fact dep Fs j a w') (hI : Inv w.drew)
    (hops : OwesAll P ops a0 D late dep Inv R Fs 0 ops.toList)
    (hend : ∀ a w, Base a0 D a → Inv w → (∀ i, i < ops.size → Fact dep Fs i a w) → Q .normal a w) : (Code.region id ops true).wp P Q a0 w :=
  wp_region_any hm (rg_any hs hstab hops hend ops.size _ a0 _ (by simp) ⟨rfl, rfl, fun _ _ => rfl⟩ hI
    (fun i hi h => by simp [hi] at h)
    (fun j oj i hj h => by
      have : j < ops.size := by
        rcases Nat.lt_or_ge j ops.size with h | h
        · exact h
        · simp [h] at hj
      simp [this] at h)
    (by have := List.length_filter_le (fun i => !(Array.replicate ops.size false).getD i true) (List.range ops.size); simpa using this))
end

/-- The law with the invariant 'what stood at the region's beginning is as it was'; the facts may name B, the number of blocks at its beginning. -/
theorem region_grow {P : Program} {ops : Array Oper} {Q : Exit → Act → World → Prop} {a0 : Act} {id : Nat} {w : World} (D : List Nat) (late : List Nat) (dep : Nat → Nat) (R : World → World → Prop)
    (Fs : Nat → Nat → Value → World → Prop) (hm : P.follows .mixedOrders = true) (hs : structOk ops a0.tmps.size D dep = true)
    (hstab : ∀ B j, late.contains j = false → ∀ a w w', R w w' → Fact dep (Fs B) j a w → Fact dep (Fs B) j a w')
    (hops : OwesAll P ops a0 D late dep (fun wx => Below w.heap.size w wx) R (Fs w.heap.size) 0 ops.toList)
    (hend : ∀ a wx, Base a0 D a → Below w.heap.size w wx → (∀ i, i < ops.size → Fact dep (Fs w.heap.size) i a wx) → Q .normal a wx) : (Code.region id ops true).wp P Q a0 w :=
  region_rg (Inv := fun wx => Below w.heap.size w wx) (Fs := Fs w.heap.size) hm hs (hstab _) (Below.refl _ _).drew hops hend

/-- The law for a region that writes one block, r, that stood before it (a result's own variable): all other blocks that stood are as they were, and r keeps its shape. -/
theorem region_row {P : Program} {ops : Array Oper} {Q : Exit → Act → World → Prop} {a0 : Act} {id : Nat} {w : World} (r : Nat) (Sh : World → Prop) (D : List Nat) (late : List Nat) (dep : Nat → Nat)
    (Fs : Nat → Value → World → Prop) (hm : P.follows .mixedOrders = true) (hs : structOk ops a0.tmps.size D dep = true) (hsh : Sh w.drew)
    (hstab : ∀ j, late.contains j = false → ∀ v w w', w.grownBy w' (some r) → Fs j v w → Fs j v w')
    (hops : OwesAll P ops a0 D late dep (fun wx => w.grownBy wx (some r) ∧ Sh wx) (fun w w' => w.grownBy w' (some r)) Fs 0 ops.toList)
    (hend : ∀ a wx, Base a0 D a → w.grownBy wx (some r) ∧ Sh wx → (∀ i, i < ops.size → Fact dep Fs i a wx) → Q .normal a wx) : (Code.region id ops true).wp P Q a0 w :=
  region_rg (Inv := fun wx => w.grownBy wx (some r) ∧ Sh wx) (R := fun w w' => w.grownBy w' (some r)) (Fs := Fs) hm hs (fun j hj _ w w' h => hstab j hj _ w w' h) ⟨⟨rfl, rfl, rfl, Nat.le_refl _, fun _ _ _ => rfl⟩, hsh⟩ hops hend
theorem grown_below {w w' : World} {r : Nat} (h : Below w.heap.size w w') : w.grownBy w' (some r) := ⟨h.os, h.tape, h.output, h.size, fun k hk _ => h.block k hk⟩
theorem grown_trans' {a b c : World} {r : Nat} (h : a.grownBy b (some r)) (k : b.grownBy c (some r)) : a.grownBy c (some r) :=
  ⟨k.os.trans h.os, k.tape.trans h.tape, k.output.trans h.output, Nat.le_trans h.size k.size, fun i hi hne => (k.block i (Nat.lt_of_lt_of_le hi h.size) hne).trans (h.block i hi hne)⟩
theorem grown_set' {w w' : World} {r : Nat} (h : w.grownBy w' (some r)) (i : Nat) (u : Value) : w.grownBy (w'.setCell ⟨r, i, none⟩ u) (some r) :=
  ⟨h.os, h.tape, h.output, by simpa [World.setCell] using h.size, fun k hk hne => (Below.heap_setCell w' ⟨r, i, none⟩ u k (fun e => hne (by rw [e]))).trans (h.block k hk hne)⟩
theorem Bk.grown' {w w' : World} {g r : Nat} {t : TypeId} {cs : Array Value} (h : Bk w g t cs) (hg : w.grownBy w' (some r)) (hne : g ≠ r) : Bk w' g t cs := (hg.block g h.lt (by simpa using hne)).trans h

theorem below_after' {B : Nat} {a w w' : World} (hb : Below w.heap.size w w') (h : Below B a w) (hB : B ≤ a.heap.size := by exact Nat.le_refl _) : Below B a w' := h.trans (hb.mono (Nat.le_trans hB h.size))
theorem Bk.ne_ {w : World} {g g' : Nat} {t t' : TypeId} {cs cs' : Array Value} (h : Bk w g t cs) (h' : Bk w g' t' cs') (hne : t ≠ t') : g ≠ g' := by
  rintro rfl
  unfold Bk at h h'
  rw [h] at h'
  injection h' with h'
  injection h' with _ ht
  exact hne ht
/-- A block of two cells stays one when a block of two cells of its kind is written. -/
theorem bk2_kept {w : World} {g : Nat} {t : TypeId} {x y : Value} (h : Bk w g t #[x, y]) (g' : Nat) (u v : Value) : ∃ x' y', Bk ((w.setCell ⟨g', 0, none⟩ u).setCell ⟨g', 1, none⟩ v) g t #[x', y'] := by
  by_cases e : g = g'
  · subst e; exact ⟨u, v, by simpa using (h.set_ 0 u).set_ 1 v⟩
  · exact ⟨x, y, (h.far e _).far e _⟩
theorem below_alloc' {B : Nat} {a w : World} (h : Below B a w) (hB : B ≤ a.heap.size) (o : Obj) : Below B a (w.alloc o) := h.alloc (Nat.le_trans hB h.size) o

theorem mixed : Try.prog.follows .mixedOrders = true := by kernel_rfl

end Go.Proofs.Ytcmnjaccapbhfaa
