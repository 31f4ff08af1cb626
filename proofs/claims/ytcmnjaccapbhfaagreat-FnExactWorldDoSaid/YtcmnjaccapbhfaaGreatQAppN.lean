/- 'append([]T{}, xs...)': a copy in new memory, whatever xs is. -/
import Derived.Test.YtcmnjaccapbhfaaGreatQApp
namespace Go.Proofs.YtcmnjaccapbhfaaGreat
open Go.ChangeShapes Go.WideShapes Go.ChangeAt Go.RowKit
end Go.Proofs.YtcmnjaccapbhfaaGreat
