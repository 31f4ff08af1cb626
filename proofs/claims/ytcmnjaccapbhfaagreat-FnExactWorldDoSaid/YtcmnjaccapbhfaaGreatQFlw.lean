/- Flows in plain Lean: sums over the buses below a bus, from the ends to the feeds. No program in sight. -/
import Derived.Test.YtcmnjaccapbhfaaGreatQFor
namespace Go.Proofs.YtcmnjaccapbhfaaGreat
set_option linter.unusedVariables false
set_option linter.unusedSimpArgs false
def Up (ls:List Ln) (on:List Bool) (par:Nat → Int) (b c:Nat):Prop:=0 ≤ par b∧Lk ls on (par b).toNat b c
inductive An (ls:List Ln) (on:List Bool) (par:Nat → Int) (d:Nat):Nat → Prop
 | self:An ls on par d d
 | step {b c:Nat}:Up ls on par b c → An ls on par d c → An ls on par d b
section
variable {ls:List Ln} {on:List Bool} {pts:List (Int×Int)} {par:Nat → Int} {rk:Nat → Nat} (P:Par ls on pts par rk) (hl : on.length=ls.length)
theorem Up.inj {b c d:Nat} (h:Up ls on par b c) (h':Up ls on par b d) : c=d:=edge_inj h.2 h'.2
theorem An.trans {a b c:Nat} (h:An ls on par a b) (h':An ls on par b c):An ls on par a c:=by
 induction h' with
 | self=>exact h
 | step u _ ih=>exact .step u ih
theorem An.top {o b:Nat}:An ls on par o b ↔ b=o ∨ ∃ d,Up ls on par d o∧An ls on par d b:=by
 constructor
 ·intro h
  induction h with
  | self=>exact .inl rfl
  | @step b c u h ih =>
   rcases ih with rfl | ⟨d,h1,h2⟩
   ·exact .inr ⟨b,u,.self⟩
   ·exact .inr ⟨d,h1,.step u h2⟩
 ·rintro (rfl | ⟨d,h1,h2⟩)
  ·exact .self
  ·exact An.trans (.step h1 .self) h2
include P
theorem Up.fed {b c:Nat} (u:Up ls on par b c) : fedB (onE ls on) pts b=true:=fedB_cn (P.up u.1 u.2).2.1 u.2.cn.symm
theorem An.fed {d b:Nat} (h:An ls on par d b) (hd : fedB (onE ls on) pts d=true) : fedB (onE ls on) pts b=true:=by
 induction h with
 | self=>exact hd
 | step u _ _=>exact Up.fed P u
omit P
include P
end
end Go.Proofs.YtcmnjaccapbhfaaGreat
