/- slices.Insert at []int, laid at the seat (numbers of seat Z: 99 Insert, 131 overlaps, 132 rotateRight, 148 rotateLeft, 159 Reverse; 30 []int). Print of shelf_lay Lays2.n21 Nm2 21, turned to plain text. Builds in seat Z. -/
import Derived.Shelf.Spec.SlicesInsertGrow
import Derived.Shelf.Spec.SlicesInsert
import Derived.Test.YtcmnjaccapbhfaaGreatProg
namespace Go.Proofs.YtcmnjaccapbhfaaGreat
open Go.Shelf
set_option maxRecDepth 100000
def insRen : Ren where
  f := fun x => match x with | 21 => 99 | 27 => 131 | 28 => 132 | 35 => 148 | 39 => 159 | n => n
  t := fun x => match x with | 22 => 30 | 3 => 3 | 4 => 4 | 0 => 0 | n => n
  g := fun n => n
theorem insLays : Lays2.n21 Tryz.prog insRen :=
{ mixed := Eq.refl true, f21 := Eq.trans Tryz.func99 (congrArg some (Eq.refl (Body2.n21 insRen))),
  f27 := Eq.trans Tryz.func131 (congrArg some (Eq.refl (Body2.n27 insRen))),
  f28 := Eq.trans Tryz.func132 (congrArg some (Eq.refl (Body2.n28 insRen))),
  f35 := Eq.trans Tryz.func148 (congrArg some (Eq.refl (Body2.n35 insRen))),
  f39 := Eq.trans Tryz.func159 (congrArg some (Eq.refl (Body2.n39 insRen))), t0 := Tryz.underlying0,
  a0 := Tryz.isAgg0, z0 := Tryz.sizeOf0, v0 := Tryz.zeroValue0, t3 := Tryz.underlying3, a3 := Tryz.isAgg3,
  z3 := Tryz.sizeOf3, v3 := Tryz.zeroValue3, t4 := Tryz.underlying4, a4 := Tryz.isAgg4, z4 := Tryz.sizeOf4,
  v4 := Tryz.zeroValue4, t22 := Tryz.underlying30, a22 := Tryz.isAgg30, z22 := Tryz.sizeOf30, v22 := Tryz.zeroValue30,
  i3 := Eq.refl (some (some (Value.int IntKind.i64 0), 1, 8)) }
end Go.Proofs.YtcmnjaccapbhfaaGreat
