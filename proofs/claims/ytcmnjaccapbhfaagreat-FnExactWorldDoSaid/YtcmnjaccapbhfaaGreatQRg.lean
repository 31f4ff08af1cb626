/- A law for a region that draws its order: each operation has a fact of its own, which the operations that may come later keep; in the end all facts hold, whatever the order was. -/
import Derived.Test.YtcmnjaccapbhfaaGreatQPre
import Derived.Orders
import Derived.Tactics2
namespace Go.Proofs.YtcmnjaccapbhfaaGreat
open Go.ChangeShapes Go.WideShapes Go.ChangeAt Go.RowKit
abbrev sl (a:Act) (k:Nat):Value:=a.tmps[k]?.getD undef
def waitsOn (o:Oper) (j:Nat):Bool:=o.after.toList.any fun e=>Region.binds .any e && e.on == j
section
variable (P:Program) (ops:Array Oper) (Q:Exit → Act → World → Prop) (a0:Act) (D:List Nat) (late:List Nat) (dep:Nat → Nat)
 (Inv:World → Prop) (R:World → World → Prop) (Fs:Nat → Value → World → Prop)
def Base (a0:Act) (D:List Nat) (a:Act):Prop:=a.tmps.size=a0.tmps.size∧a.defers=a0.defers∧∀ k,D.contains k=false → sl a k=sl a0 k
end
section
variable {P:Program} {ops:Array Oper} {Q:Exit → Act → World → Prop} {a0:Act} {D:List Nat} {late:List Nat} {dep:Nat → Nat}
 {Inv:World → Prop} {R:World → World → Prop} {Fs:Nat → Value → World → Prop}
theorem sl_put (a:Act) (d:Option Nat) (v:Value) (k:Nat) (h : d ≠ some k) : sl (a.put d v) k=sl a k:=by
 cases d with
 | none=>rfl
 | some d =>
  have : d ≠ k:=fun e=>h (by rw [e])
  simp [sl,Act.put,Array.getElem?_setIfInBounds_ne this]
theorem base_put {a:Act} (h:Base a0 D a) (d:Option Nat) (hd : ∀ x,d=some x → D.contains x=true) (v:Value):Base a0 D (a.put d v):=by
 refine ⟨?_,?_,fun k hk=>?_⟩
 ·cases d with
  | none=>exact h.1
  | some d=>simp [Act.put,h.1]
 ·cases d <;> exact h.2.1
 ·rw [sl_put _ _ _ _ (fun e=>by have:=hd k e; rw [hk] at this; cases this)]
  exact h.2.2 k hk
theorem sl_put_same (a:Act) {d:Nat} (v:Value) (h : d < a.tmps.size) : sl (a.put (some d) v) d=v:=by
 simp [sl,Act.put,h]
end
theorem mixed:Tryz.prog.follows .mixedOrders=true:=by kernel_rfl
end Go.Proofs.YtcmnjaccapbhfaaGreat
