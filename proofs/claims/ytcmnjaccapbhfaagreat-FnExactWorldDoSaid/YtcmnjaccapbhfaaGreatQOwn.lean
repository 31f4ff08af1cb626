/- Rows that a call made itself, handed on and written. -/
import Derived.Test.YtcmnjaccapbhfaaGreatQSl
import Derived.Test.YtcmnjaccapbhfaaGreatQRg
import Derived.Laws.OwnMore
namespace Go.Proofs.YtcmnjaccapbhfaaGreat
open Go.ChangeShapes Go.WideShapes Go.ChangeAt Go.RowKit
section
variable {w w':World} {lo:Nat} {t:TypeId} {size n:Nat} {v:Value} {xs:List Value}
end
theorem grown_refl (w:World) (row:Option Nat) : w.grownBy w row:=⟨rfl,rfl,rfl,Nat.le_refl _,fun _ _ _=>rfl⟩
end Go.Proofs.YtcmnjaccapbhfaaGreat
