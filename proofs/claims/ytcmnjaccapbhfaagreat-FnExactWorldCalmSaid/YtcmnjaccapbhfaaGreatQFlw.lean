/- Flows in plain Lean: sums over the buses below a bus, from the ends to the feeds. No program in sight. -/
import Derived.Test.YtcmnjaccapbhfaaGreatQFor
namespace Go.Proofs.YtcmnjaccapbhfaaGreat
set_option linter.unusedVariables false
set_option linter.unusedSimpArgs false
open Classical in
noncomputable def sumP (n:Nat) (f:Nat → Int) (p:Nat → Prop):Int:=((List.range n).map fun b=>if p b then f b else 0).sum
theorem sum_zip {n:Nat} {f g h:Nat → Int} (e : ∀ b,b < n → f b=g b+h b):((List.range n).map f).sum=((List.range n).map g).sum+((List.range n).map h).sum:=by
 induction n with
 | zero=>rfl
 | succ n ih =>
  rw [List.range_succ,List.map_append,List.map_append,List.map_append,List.sum_append,List.sum_append,List.sum_append,ih fun b hb=>e b (by omega)]
  have:=e n (by omega)
  simp only [List.map_cons,List.map_nil,List.sum_cons,List.sum_nil]
  omega
theorem sum_same {n:Nat} {f g:Nat → Int} (e : ∀ b,b < n → f b=g b):((List.range n).map f).sum=((List.range n).map g).sum:=by
 congr 1
 exact List.map_congr_left fun b hb=>e b (by simpa using hb)
theorem sum_zero {n:Nat} {f:Nat → Int} (e : ∀ b,b < n → f b=0):((List.range n).map f).sum=0:=by
 rw [sum_same e]
 induction n with
 | zero=>rfl
 | succ n ih=>rw [List.range_succ,List.map_append,List.sum_append,ih fun b hb=>e b (by omega)]; rfl
theorem sum_one {n:Nat} (f:Nat → Int) {a:Nat} (ha : a < n):((List.range n).map fun b=>if b=a then f b else 0).sum=f a:=by
 induction n with
 | zero=>omega
 | succ n ih =>
  rw [List.range_succ,List.map_append,List.sum_append]
  by_cases h : a=n
  ·subst h
   rw [sum_zero fun b hb=>if_neg (by omega)]
   simp
  ·rw [ih (by omega)]
   simp only [List.map_cons,List.map_nil,List.sum_cons,List.sum_nil]
   rw [if_neg (by omega)]; omega
theorem sumP_add {n:Nat} {f:Nat → Int} {p q r:Nat → Prop} (e : ∀ b,b < n → (p b ↔ q b ∨ r b)) (d : ∀ b,b < n → ¬ (q b∧r b)) : sumP n f p=sumP n f q+sumP n f r:=by
 refine sum_zip fun b hb=>?_
 have h1:=e b hb
 have h2:=d b hb
 by_cases hq : q b
 ·have hr : ¬ r b:=fun h=>h2 ⟨hq,h⟩
  rw [if_pos (h1.2 (.inl hq)),if_pos hq,if_neg hr]; omega
 ·by_cases hr : r b
  ·rw [if_pos (h1.2 (.inr hr)),if_neg hq,if_pos hr]; omega
  ·rw [if_neg (fun h=>(h1.1 h).elim hq hr),if_neg hq,if_neg hr]; rfl
theorem sumP_congr {n:Nat} {f:Nat → Int} {p q:Nat → Prop} (e : ∀ b,b < n → (p b ↔ q b)) : sumP n f p=sumP n f q:=by
 refine sum_same fun b hb=>?_
 by_cases h : p b
 ·rw [if_pos h,if_pos ((e b hb).1 h)]
 ·rw [if_neg h,if_neg fun h2=>h ((e b hb).2 h2)]
theorem sumP_one {n:Nat} {f:Nat → Int} {a:Nat} (ha : a < n) : sumP n f (fun b=>b=a)=f a:=by
 rw [← sum_one f ha]
 exact sum_same fun b hb=>by by_cases h : b=a <;> simp [h]
theorem sumP_none {n:Nat} {f:Nat → Int} {p:Nat → Prop} (e : ∀ b,b < n → ¬ p b) : sumP n f p=0 :=
 sum_zero fun b hb=>if_neg (e b hb)
def sumE (E:Ed) (pts:List (Int×Int)) (f:Int×Int → Int) (b:Nat):Int:=((List.range pts.length).map fun c=>if labs E c=labs E b then f (pts.getD c (0,0)) else 0).sum
def Up (ls:List Ln) (on:List Bool) (par:Nat → Int) (b c:Nat):Prop:=0 ≤ par b∧Lk ls on (par b).toNat b c
inductive An (ls:List Ln) (on:List Bool) (par:Nat → Int) (d:Nat):Nat → Prop
 | self:An ls on par d d
 | step {b c:Nat}:Up ls on par b c → An ls on par d c → An ls on par d b
section
variable {ls:List Ln} {on:List Bool} {pts:List (Int×Int)} {par:Nat → Int} {rk:Nat → Nat} (P:Par ls on pts par rk) (hl : on.length=ls.length)
theorem Up.inj {b c d:Nat} (h:Up ls on par b c) (h':Up ls on par b d) : c=d:=edge_inj h.2 h'.2
theorem An.trans {a b c:Nat} (h:An ls on par a b) (h':An ls on par b c):An ls on par a c:=by
 induction h' with
 | self=>exact h
 | step u _ ih=>exact .step u ih
theorem An.top {o b:Nat}:An ls on par o b ↔ b=o ∨ ∃ d,Up ls on par d o∧An ls on par d b:=by
 constructor
 ·intro h
  induction h with
  | self=>exact .inl rfl
  | @step b c u h ih =>
   rcases ih with rfl | ⟨d,h1,h2⟩
   ·exact .inr ⟨b,u,.self⟩
   ·exact .inr ⟨d,h1,.step u h2⟩
 ·rintro (rfl | ⟨d,h1,h2⟩)
  ·exact .self
  ·exact An.trans (.step h1 .self) h2
theorem An.chain {d e b:Nat} (h:An ls on par d b) (h':An ls on par e b):An ls on par d e ∨ An ls on par e d:=by
 induction h with
 | self=>exact .inr h'
 | @step b c u h ih =>
  cases h' with
  | self=>exact .inl (.step u h)
  | step u' h2 =>
   obtain rfl:=u.inj u'
   exact ih h2
include P
theorem An.rkle {d b:Nat} (h:An ls on par d b) : rk d ≤ rk b:=by
 induction h with
 | self=>exact Nat.le_refl _
 | step u _ ih=>have:=(P.up u.1 u.2).2.2; omega
omit P in
theorem An.proper {d b c:Nat} (h:An ls on par d b) (u:Up ls on par b c) (hne : d ≠ b):An ls on par d c:=by
 cases h with
 | self=>exact absurd rfl hne
 | step u' h'=>rw [u.inj u']; exact h'
theorem An.way {d b:Nat} {w:List Nat} (hd : 0 ≤ par d) (h:Way ls on par b w):An ls on par d b ↔ (par d).toNat ∈ w:=by
 induction h with
 | @top b h =>
  constructor
  ·intro h1
   cases h1 with
   | self=>omega
   | step u _=>have:=u.1; omega
  ·intro h1; simp at h1
 | @step b c w h1 h2 h3 ih =>
  constructor
  ·intro h
   by_cases e : d=b
   ·subst e; simp
   ·have:=ih.1 (An.proper h ⟨h1,h2⟩ e)
    simp [this]
  ·intro h
   rcases List.mem_append.1 h with h | h
   ·exact .step ⟨h1,h2⟩ (ih.2 h)
   ·have e:(par d).toNat=(par b).toNat:=by simpa using h
    rw [P.inj hd h1 (by omega)]; exact .self
theorem Up.fed {b c:Nat} (u:Up ls on par b c) : fedB (onE ls on) pts b=true:=fedB_cn (P.up u.1 u.2).2.1 u.2.cn.symm
theorem An.fed {d b:Nat} (h:An ls on par d b) (hd : fedB (onE ls on) pts d=true) : fedB (onE ls on) pts b=true:=by
 induction h with
 | self=>exact hd
 | step u _ _=>exact Up.fed P u
include hl in
theorem Par.flow (hr : radP ls on pts=true) {d:Nat} (hd : 0 ≤ par d) : flowP ls on pts (par d).toNat=sumP pts.length (fun b=>(pts.getD b (0,0)).2) (An ls on par d):=by
 refine sum_same fun b hb=>?_
 obtain ⟨c,hc,_⟩:=P.line d hd
 have hdf : fedB (onE ls on) pts d=true:=Up.fed P ⟨hd,hc⟩
 obtain ⟨w,hw⟩:=P.way (rk b) b (Nat.le_refl _)
 cases hf : fedB (onE ls on) pts b
 ·have hna : ¬ An ls on par d b:=fun h=>by rw [An.fed P h hdf] at hf; cases hf
  simp [hna]
 ·have h1:=Way.iff P hl hr hw hb hf (k:=(par d).toNat)
  have h2:=An.way P hd hw
  cases hx : fedB (onE ls (on.set (par d).toNat false)) pts b
  ·have ha:=h2.2 (h1.2 hx)
   simp [ha]
  ·have hna : ¬ An ls on par d b:=fun h=>by have:=h1.1 (h2.1 h); rw [hx] at this; cases this
   simp [hna]
include hl in
theorem Par.flow0 (hr : radP ls on pts=true) {k:Nat} (hk : ∀ d,0 ≤ par d → (par d).toNat ≠ k) : flowP ls on pts k=0:=by
 refine sum_zero fun b hb=>?_
 obtain ⟨w,hw⟩:=P.way (rk b) b (Nat.le_refl _)
 cases hf : fedB (onE ls on) pts b
 ·rfl
 ·cases hx : fedB (onE ls (on.set k false)) pts b
  ·have h1:=(Way.iff P hl hr hw hb hf (k:=k)).2 hx
   obtain ⟨d,h2,h3,_⟩:=Way.mem P hw k h1
   exact absurd h3 (hk d h2)
  ·rfl
omit P
def Wt (ls:List Ln) (on:List Bool) (par:Nat → Int) (rk:Nat → Nat) (F:Nat → Prop) (i c b:Nat):Prop:=(b=c∧F c∧i ≤ rk c) ∨ ∃ d,Up ls on par d c∧i ≤ rk d∧An ls on par d b
noncomputable def wantP (ls:List Ln) (on:List Bool) (pts:List (Int×Int)) (par:Nat → Int) (rk:Nat → Nat) (i c:Nat):Int:=sumP pts.length (fun b=>(pts.getD b (0,0)).2) (Wt ls on par rk (fun c=>fedB (onE ls on) pts c=true) i c)
noncomputable def belowP (ls:List Ln) (on:List Bool) (pts:List (Int×Int)) (par:Nat → Int) (o:Nat):Int:=sumP pts.length (fun b=>(pts.getD b (0,0)).2) (An ls on par o)
include P
theorem Par.want_self {i o:Nat} (ho : rk o=i) (hb : o < pts.length) (hf : fedB (onE ls on) pts o=true) : wantP ls on pts par rk (i+1) o+(pts.getD o (0,0)).2=belowP ls on pts par o:=by
 unfold wantP belowP
 rw [← sumP_one (f:=fun b=>(pts.getD b (0,0)).2) hb]
 refine (sumP_add (fun b hb=>?_) (fun b hb=>?_)).symm
 ·rw [An.top]
  constructor
  ·rintro (h | ⟨d,h1,h2⟩)
   ·exact .inr h
   ·exact .inl (.inr ⟨d,h1,by have:=(P.up h1.1 h1.2).2.2; omega,h2⟩)
  ·rintro ((⟨_,_,h⟩ | ⟨d,h1,_,h2⟩) | h)
   ·omega
   ·exact .inr ⟨d,h1,h2⟩
   ·exact .inl h
 ·rintro ⟨⟨_,_,h⟩ | ⟨d,h1,_,h2⟩,rfl⟩
  ·omega
  ·have:=An.rkle P h2
   have:=(P.up h1.1 h1.2).2.2
   omega
theorem Par.want_now {i o:Nat} (ho : rk o=i) (hf : fedB (onE ls on) pts o=true) : wantP ls on pts par rk i o=belowP ls on pts par o:=by
 refine sumP_congr fun b hb=>?_
 rw [An.top]
 constructor
 ·rintro (⟨h,_⟩ | ⟨d,h1,_,h2⟩)
  ·exact .inl h
  ·exact .inr ⟨d,h1,h2⟩
 ·rintro (h | ⟨d,h1,h2⟩)
  ·exact .inl ⟨h,hf,by omega⟩
  ·exact .inr ⟨d,h1,by have:=(P.up h1.1 h1.2).2.2; omega,h2⟩
theorem Par.want_up {i o c:Nat} (hinj : ∀ a b,fedB (onE ls on) pts a=true → fedB (onE ls on) pts b=true → rk a=rk b → a=b) (ho : rk o=i) (u:Up ls on par o c) : wantP ls on pts par rk i c=wantP ls on pts par rk (i+1) c+belowP ls on pts par o:=by
 have hrk:=(P.up u.1 u.2).2.2
 refine sumP_add (fun b hb=>?_) (fun b hb=>?_)
 ·constructor
  ·rintro (⟨_,_,h⟩ | ⟨d,h1,h2,h3⟩)
   ·omega
   ·by_cases e : rk d=i
    ·rw [hinj o d (Up.fed P u) (Up.fed P h1) (by omega)]; exact .inr h3
    ·exact .inl (.inr ⟨d,h1,by omega,h3⟩)
  ·rintro ((⟨_,_,h⟩ | ⟨d,h1,h2,h3⟩) | h)
   ·omega
   ·exact .inr ⟨d,h1,by omega,h3⟩
   ·exact .inr ⟨o,u,by omega,h⟩
 ·rintro ⟨⟨_,_,h⟩ | ⟨d,h1,h2,h3⟩,h4⟩
  ·omega
  ·have hne : d ≠ o:=fun e=>by subst e; omega
   rcases An.chain h3 h4 with h | h
   ·have:=An.rkle P (An.proper h u hne)
    have:=(P.up h1.1 h1.2).2.2
    omega
   ·have:=An.rkle P (An.proper h h1 (Ne.symm hne))
    omega
theorem Par.want_else {i o c:Nat} (hinj : ∀ a b,fedB (onE ls on) pts a=true → fedB (onE ls on) pts b=true → rk a=rk b → a=b) (ho : rk o=i) (hf : fedB (onE ls on) pts o=true) (h1 : c ≠ o) (h2 : ¬ Up ls on par o c) : wantP ls on pts par rk i c=wantP ls on pts par rk (i+1) c:=by
 refine sumP_congr fun b hb=>?_
 constructor
 ·rintro (⟨h3,h4,h5⟩ | ⟨d,h3,h4,h5⟩)
  ·refine .inl ⟨h3,h4,?_⟩
   by_cases e : rk c=i
   ·exact absurd (hinj c o h4 hf (by omega)) h1
   ·omega
  ·refine .inr ⟨d,h3,?_,h5⟩
   by_cases e : rk d=i
   ·rw [hinj d o (Up.fed P h3) hf (by omega)] at h3; exact absurd h3 h2
   ·omega
 ·rintro (⟨h3,h4,h5⟩ | ⟨d,h3,h4,h5⟩)
  ·exact .inl ⟨h3,h4,by omega⟩
  ·exact .inr ⟨d,h3,by omega,h5⟩
end
end Go.Proofs.YtcmnjaccapbhfaaGreat
