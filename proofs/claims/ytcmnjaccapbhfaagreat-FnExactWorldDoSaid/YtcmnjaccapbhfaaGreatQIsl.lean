/- Islands in plain Lean: joined buses, labels by least buses. No program in sight. -/
import Derived.Test.YtcmnjaccapbhfaaGreatQPu
namespace Go.Proofs.YtcmnjaccapbhfaaGreat
set_option linter.unusedVariables false
set_option linter.unusedSimpArgs false
inductive Cn (E:List (Nat×Nat)):Nat → Nat → Prop
 | refl (a:Nat):Cn E a a
 | step {a b c:Nat}:Cn E a b → (b,c) ∈ E ∨ (c,b) ∈ E → Cn E a c
theorem Cn.trans {E:List (Nat×Nat)} {a b c:Nat} (h:Cn E a b) (k:Cn E b c):Cn E a c:=by
 induction k with
 | refl=>exact h
 | step _ e ih=>exact ih.step e
theorem Cn.one {E:List (Nat×Nat)} {a b:Nat} (h:(a,b) ∈ E ∨ (b,a) ∈ E):Cn E a b:=(Cn.refl a).step h
theorem Cn.symm {E:List (Nat×Nat)} {a b:Nat} (h:Cn E a b):Cn E b a:=by
 induction h with
 | refl=>exact .refl _
 | step _ e ih=>exact (Cn.one e.symm).trans ih
theorem Cn.mono {E F:List (Nat×Nat)} (hEF : ∀ e ∈ E,e ∈ F) {a b:Nat} (h:Cn E a b):Cn F a b:=by
 induction h with
 | refl=>exact .refl _
 | step _ e ih=>exact ih.step (e.imp (hEF _) (hEF _))
theorem cn_snoc {E:List (Nat×Nat)} {x y a b:Nat}:Cn (E++[(x,y)]) a b ↔ Cn E a b ∨ (Cn E a x∧Cn E y b) ∨ (Cn E a y∧Cn E x b):=by
 have hm : ∀ {a b:Nat},Cn E a b → Cn (E++[(x,y)]) a b:=fun h=>h.mono fun e he=>by simp [he]
 constructor
 ·intro h
  induction h with
  | refl=>exact .inl (.refl _)
  | @step b c _ e ih =>
   have he:((b,c) ∈ E ∨ (c,b) ∈ E) ∨ ((b=x∧c=y) ∨ (b=y∧c=x)):=by
    simp only [List.mem_append,List.mem_singleton,Prod.mk.injEq] at e
    rcases e with (e | e) | (e | e)
    ·exact .inl (.inl e)
    ·exact .inr (.inl e)
    ·exact .inl (.inr e)
    ·exact .inr (.inr ⟨e.2,e.1⟩)
   rcases he with he | ⟨rfl,rfl⟩ | ⟨rfl,rfl⟩
   ·rcases ih with ih | ⟨h1,h2⟩ | ⟨h1,h2⟩
    ·exact .inl (ih.step he)
    ·exact .inr (.inl ⟨h1,h2.step he⟩)
    ·exact .inr (.inr ⟨h1,h2.step he⟩)
   ·rcases ih with ih | ⟨h1,h2⟩ | ⟨h1,h2⟩
    ·exact .inr (.inl ⟨ih,.refl _⟩)
    ·exact .inr (.inl ⟨h1,.refl _⟩)
    ·exact .inl h1
   ·rcases ih with ih | ⟨h1,h2⟩ | ⟨h1,h2⟩
    ·exact .inr (.inr ⟨ih,.refl _⟩)
    ·exact .inl h1
    ·exact .inr (.inr ⟨h1,.refl _⟩)
 ·have hxy:Cn (E++[(x,y)]) x y:=.one (.inl (by simp))
  rintro (h | ⟨h1,h2⟩ | ⟨h1,h2⟩)
  ·exact hm h
  ·exact ((hm h1).trans hxy).trans (hm h2)
  ·exact ((hm h1).trans hxy.symm).trans (hm h2)
def relab (f:Nat → Nat) (a b:Nat) (c:Nat):Nat:=if f c=max (f a) (f b) then min (f a) (f b) else f c
def labs (E:List (Nat×Nat)):Nat → Nat:=E.foldl (fun f e=>relab f e.1 e.2) id
theorem labs_snoc (E:List (Nat×Nat)) (e:Nat×Nat) : labs (E++[e])=relab (labs E) e.1 e.2:=by unfold labs; rw [List.foldl_append]; rfl
theorem relab_eq (f:Nat → Nat) (x y a b:Nat) : relab f x y a=relab f x y b ↔ f a=f b ∨ (f a=f x∧f y=f b) ∨ (f a=f y∧f x=f b):=by
 unfold relab
 split <;> split <;> omega
theorem rev_ind {α:Type} {P:List α → Prop} (h0:P []) (h1 : ∀ l a,P l → P (l++[a])) : ∀ l,P l:=by
 intro l
 have : ∀ r:List α,P r.reverse:=by
  intro r
  induction r with
  | nil=>exact h0
  | cons a r ih=>rw [List.reverse_cons]; exact h1 _ _ ih
 have:=this l.reverse
 rwa [List.reverse_reverse] at this
theorem labs_cn (E:List (Nat×Nat)) : ∀ a b,labs E a=labs E b ↔ Cn E a b:=by
 refine rev_ind (P:=fun E=>∀ a b,labs E a=labs E b ↔ Cn E a b) ?_ ?_ E
 ·intro a b
  constructor
  ·intro h; have h : a=b:=h; subst h; exact .refl _
  ·intro h
   cases h with
   | refl=>rfl
   | step _ e=>simp at e
 ·intro E e ih a b
  obtain ⟨x,y⟩:=e
  rw [labs_snoc,relab_eq,ih,ih,ih,ih,ih,cn_snoc]
def Dn (u:List Nat):Prop:=∀ b,b < u.length → u.getD b 0 ≤ b
inductive Rot (u:List Nat):Nat → Nat → Prop
 | stop {r:Nat} : u.getD r 0=r → Rot u r r
 | go {b r:Nat}:Rot u (u.getD b 0) r → Rot u b r
theorem Rot.root {u:List Nat} {b r:Nat} (h:Rot u b r) : u.getD r 0=r:=by
 induction h with
 | stop h=>exact h
 | go _ ih=>exact ih
theorem Rot.fix {u:List Nat} {b r:Nat} (h:Rot u b r) (hb : u.getD b 0=b) : r=b:=by
 induction h with
 | stop _=>rfl
 | go _ ih=>exact (ih (by rw [hb]; exact hb)).trans hb
theorem Rot.uniq {u:List Nat} {b r r':Nat} (h:Rot u b r) (h':Rot u b r') : r=r':=by
 induction h with
 | stop h=>exact (h'.fix h).symm
 | @go b r h1 ih =>
  cases h' with
  | stop h2=>exact h1.fix (by rw [h2]; exact h2) |>.trans h2
  | go h2=>exact ih h2
theorem Rot.next {u:List Nat} {b r:Nat} (h:Rot u b r):Rot u (u.getD b 0) r:=by
 cases h with
 | stop h=>rw [h]; exact .stop h
 | go h=>exact h
theorem Rot.ex {u:List Nat} (h:Dn u) : ∀ b,b < u.length → ∃ r,Rot u b r∧r ≤ b:=by
 intro b
 induction b using Nat.strongRecOn with
 | ind b ih =>
  intro hb
  by_cases hc : u.getD b 0=b
  ·exact ⟨b,.stop hc,Nat.le_refl _⟩
  ·have h1:=h b hb
   obtain ⟨r,h2,h3⟩:=ih (u.getD b 0) (by omega) (by omega)
   exact ⟨r,.go h2,by omega⟩
theorem uset_get {u:List Nat} {b v c:Nat} (hb : b < u.length):(u.set b v).getD c 0=if c=b then v else u.getD c 0:=by
 by_cases h : c=b
 ·subst h; simp [List.getD,hb]
 ·rw [if_neg h]; simp [List.getD,List.getElem?_set_ne (Ne.symm h)]
theorem Rot.halve {u:List Nat} (h:Dn u) {b:Nat} (hb : b < u.length) : ∀ c r,c < u.length → (Rot u c r → Rot (u.set b (u.getD (u.getD b 0) 0)) c r):=by
 intro c
 induction c using Nat.strongRecOn with
 | ind c ih =>
  intro r hc hr
  by_cases hf : u.getD c 0=c
  ·have e:=hr.fix hf
   subst e
   refine .stop ?_
   rw [uset_get hb]
   split
   ·rename_i e; subst e; rw [hf]; exact hf
   ·exact hf
  ·have h1:=h c hc
   refine .go ?_
   rw [uset_get hb]
   split
   ·rename_i e; subst e
    have h2:=h (u.getD c 0) (by omega)
    exact ih _ (by omega) r (by omega) hr.next.next
   ·exact ih _ (by omega) r (by omega) hr.next
theorem Dn.halve {u:List Nat} (h:Dn u) {b:Nat} (hb : b < u.length):Dn (u.set b (u.getD (u.getD b 0) 0)):=by
 intro c hc
 rw [List.length_set] at hc
 rw [uset_get hb]
 split
 ·rename_i e; subst e
  have h1:=h c hc
  have h2:=h (u.getD c 0) (by omega)
  omega
 ·exact h c hc
theorem Rot.join {u : List Nat} {f : Nat → Nat} (h : Dn u) (hf : ∀ c, c < u.length → Rot u c (f c)) {a b : Nat} (ha : a < u.length) (hb : b < u.length) (hlt : ∀ c, c < u.length → f c ≤ c) :
    ∀ c, c < u.length → Rot (u.set (max (f a) (f b)) (min (f a) (f b))) c (relab f a b c) := by
  have la := hlt a ha
  have lb := hlt b hb
  have hm : max (f a) (f b) < u.length := by omega
  have hmin : (u.set (max (f a) (f b)) (min (f a) (f b))).getD (min (f a) (f b)) 0 = min (f a) (f b) := by
    rw [uset_get hm]
    split
    · rfl
    · rcases Nat.le_total (f a) (f b) with hle | hle
      · rw [Nat.min_eq_left hle]; exact (hf a ha).root
      · rw [Nat.min_eq_right hle]; exact (hf b hb).root
  intro c
  induction c using Nat.strongRecOn with
  | ind c ih =>
    intro hc
    by_cases hcm : c = max (f a) (f b)
    · have hroot : u.getD c 0 = c := by
        rw [hcm]
        rcases Nat.le_total (f a) (f b) with hle | hle
        · rw [Nat.max_eq_right hle]; exact (hf b hb).root
        · rw [Nat.max_eq_left hle]; exact (hf a ha).root
      have hfc : f c = c := (hf c hc).fix hroot
      have e : relab f a b c = min (f a) (f b) := by unfold relab; rw [if_pos (by rw [hfc]; exact hcm)]
      rw [e]
      refine .go ?_
      rw [uset_get hm, if_pos hcm]
      exact .stop hmin
    · by_cases hroot : u.getD c 0 = c
      · have hfc : f c = c := (hf c hc).fix hroot
        have e : relab f a b c = c := by unfold relab; rw [if_neg (by rw [hfc]; exact hcm), hfc]
        rw [e]
        refine .stop ?_
        rw [uset_get hm, if_neg hcm]; exact hroot
      · have h1 := h c hc
        have e : f (u.getD c 0) = f c := (hf (u.getD c 0) (by omega)).uniq (hf c hc).next
        have e2 : relab f a b c = relab f a b (u.getD c 0) := by unfold relab; rw [e]
        rw [e2]
        refine .go ?_
        rw [uset_get hm, if_neg hcm]
        exact ih _ (by omega) (by omega)
def hit (s:Nat → Bool) (e:Nat×Nat):Nat → Bool:=if s e.1 || s e.2 then fun c=>c == e.1 || c == e.2 || s c else s
def sweep (E:List (Nat×Nat)) (s:Nat → Bool):Nat → Bool:=E.foldl hit s
def sweeps (E:List (Nat×Nat)) (s:Nat → Bool):Nat → Nat → Bool
 | 0=>s
 | k+1=>sweep E (sweeps E s k)
theorem hit_mono {s:Nat → Bool} {e:Nat×Nat} {c:Nat} (h : s c=true) : hit s e c=true:=by
 unfold hit; split <;> simp [h]
theorem sweep_mono (E:List (Nat×Nat)) : ∀ {s:Nat → Bool} {c:Nat},s c=true → sweep E s c=true:=by
 induction E with
 | nil=>intro s c h; exact h
 | cons e E ih=>intro s c h; exact ih (hit_mono h)
theorem sweep_hit (E:List (Nat×Nat)) : ∀ {s:Nat → Bool} {e:Nat×Nat},e ∈ E → (s e.1 || s e.2)=true → sweep E s e.1=true∧sweep E s e.2=true:=by
 induction E with
 | nil=>intro s e h; simp at h
 | cons d E ih =>
  intro s e h hs
  rcases List.mem_cons.1 h with rfl | h
  ·have h1 : hit s e e.1=true:=by unfold hit; rw [if_pos hs]; simp
   have h2 : hit s e e.2=true:=by unfold hit; rw [if_pos hs]; simp
   exact ⟨sweep_mono E h1,sweep_mono E h2⟩
  ·refine ih (s:=hit s d) h ?_
   rw [Bool.or_eq_true] at hs ⊢
   exact hs.imp hit_mono hit_mono
theorem sweep_sound {F:List (Nat×Nat)} {b:Nat} (E:List (Nat×Nat)) : ∀ {s:Nat → Bool},(∀ e ∈ E,e ∈ F) → (∀ c,s c=true → Cn F b c) → ∀ c,sweep E s c=true → Cn F b c:=by
 induction E with
 | nil=>intro s _ h c hc; exact h c hc
 | cons e E ih =>
  intro s hE h c hc
  refine ih (s:=hit s e) (fun x hx=>hE x (by simp [hx])) (fun c hc=>?_) c hc
  unfold hit at hc
  split at hc
  ·rename_i hs
   have he : e ∈ F:=hE e (by simp)
   have h1:Cn F b e.1∧Cn F b e.2:=by
    rw [Bool.or_eq_true] at hs
    rcases hs with hs | hs
    ·exact ⟨h _ hs,(h _ hs).step (.inl he)⟩
    ·exact ⟨(h _ hs).step (.inr he),h _ hs⟩
   simp only [Bool.or_eq_true,beq_iff_eq] at hc
   rcases hc with (rfl | rfl) | hc
   ·exact h1.1
   ·exact h1.2
   ·exact h c hc
  ·exact h c hc
theorem sweeps_sound {E : List (Nat × Nat)} {b : Nat} (k : Nat) : ∀ c, sweeps E (fun c => c == b) k c = true → Cn E b c := by
  induction k with
  | zero => intro c hc; have : c = b := by simpa [sweeps] using hc
            subst this; exact .refl _
  | succ k ih => exact sweep_sound E (fun _ h => h) ih
theorem count_lt {p q:Nat → Bool} (l:List Nat) (h : ∀ c,p c=true → q c=true) : l.countP p ≤ l.countP q∧((∃ c ∈ l,q c=true∧p c=false) → l.countP p+1 ≤ l.countP q):=by
 induction l with
 | nil=>exact ⟨Nat.le_refl _,fun ⟨c,hc,_⟩=>by simp at hc⟩
 | cons x l ih =>
  simp only [List.countP_cons]
  have hx:=h x
  refine ⟨?_,?_⟩
  ·cases hp : p x
   ·simp; omega
   ·rw [hx hp]; simp; omega
  ·rintro ⟨c,hc,h1,h2⟩
   rcases List.mem_cons.1 hc with rfl | hc
   ·rw [h1,h2]; simp; omega
   ·have:=ih.2 ⟨c,hc,h1,h2⟩
    cases hp : p x
    ·simp; omega
    ·rw [hx hp]; simp; omega
def Shut (E:List (Nat×Nat)) (s:Nat → Bool):Prop:=∀ e ∈ E,s e.1=s e.2
theorem shut_stays {E:List (Nat×Nat)} {s:Nat → Bool} (h:Shut E s) : ∀ c,sweep E s c=s c:=by
 have : ∀ (F:List (Nat×Nat)),(∀ e ∈ F,s e.1=s e.2) → sweep F s=s:=by
  intro F
  induction F with
  | nil=>intro _; rfl
  | cons e F ih =>
   intro hF
   have he : hit s e=s:=by
    have e0:=hF e (by simp)
    unfold hit
    split
    ·rename_i hs
     funext c
     rw [e0,Bool.or_self] at hs
     by_cases h1 : c=e.1
     ·subst h1; simp [e0,hs]
     ·by_cases h2 : c=e.2
      ·subst h2; simp [hs]
      ·simp [h1,h2]
    ·rfl
   show sweep F (hit s e)=s
   rw [he]
   exact ih fun x hx=>hF x (by simp [hx])
 intro c; rw [this E h]
theorem sweeps_shut {E:List (Nat×Nat)} {B b:Nat} (hE : ∀ e ∈ E,e.1 < B∧e.2 < B) (hb : b < B) : ∀ k,Shut E (sweeps E (fun c=>c == b) k) ∨ k+1 ≤ (List.range B).countP (sweeps E (fun c=>c == b) k):=by
 intro k
 induction k with
 | zero =>
  refine .inr ?_
  have:=List.countP_pos_iff (p:=fun c=>c == b) (l:=List.range B) |>.2 ⟨b,by simpa using hb,by simp⟩
  simpa [sweeps] using this
 | succ k ih =>
  by_cases hs:Shut E (sweeps E (fun c=>c == b) k)
  ·left
   have e : sweeps E (fun c=>c == b) (k+1)=sweeps E (fun c=>c == b) k:=funext (shut_stays hs)
   rw [e]; exact hs
  ·rcases ih with ih | ih
   ·exact absurd ih hs
   right
   have hm : ∀ c,sweeps E (fun c=>c == b) k c=true → sweeps E (fun c=>c == b) (k+1) c=true:=fun c hc=>sweep_mono E hc
   obtain ⟨e,he,hne⟩ : ∃ e ∈ E,sweeps E (fun c=>c == b) k e.1 ≠ sweeps E (fun c=>c == b) k e.2:=by
    refine Classical.byContradiction fun hn=>hs fun e he=>Classical.byContradiction fun h=>hn ⟨e,he,h⟩
   have hor:(sweeps E (fun c=>c == b) k e.1 || sweeps E (fun c=>c == b) k e.2)=true:=by
    revert hne; cases sweeps E (fun c=>c == b) k e.1 <;> cases sweeps E (fun c=>c == b) k e.2 <;> simp
   have hh:=sweep_hit E he hor
   have hlt:=hE e he
   have:=(count_lt (List.range B) hm).2 (by
    cases h1 : sweeps E (fun c=>c == b) k e.1
    ·exact ⟨e.1,by simpa using hlt.1,hh.1,h1⟩
    ·cases h2 : sweeps E (fun c=>c == b) k e.2
     ·exact ⟨e.2,by simpa using hlt.2,hh.2,h2⟩
     ·rw [h1,h2] at hne; exact absurd rfl hne)
   omega
theorem sweeps_cn {E:List (Nat×Nat)} {B b c:Nat} (hE : ∀ e ∈ E,e.1 < B∧e.2 < B) (hb : b < B) : sweeps E (fun c=>c == b) B c=true ↔ Cn E b c:=by
 refine ⟨sweeps_sound B c,fun h=>?_⟩
 have hs:Shut E (sweeps E (fun c=>c == b) B):=by
  rcases sweeps_shut hE hb B with h | h
  ·exact h
  ·have:=List.countP_le_length (p:=sweeps E (fun c=>c == b) B) (l:=List.range B)
   simp at this; omega
 have hstart : ∀ k,sweeps E (fun c=>c == b) k b=true:=by
  intro k
  induction k with
  | zero=>simp [sweeps]
  | succ k ih=>exact sweep_mono E ih
 induction h with
 | refl=>exact hstart B
 | step _ e ih =>
  rcases e with e | e
  ·rw [← hs _ e]; exact ih
  ·rw [hs _ e]; exact ih
end Go.Proofs.YtcmnjaccapbhfaaGreat
