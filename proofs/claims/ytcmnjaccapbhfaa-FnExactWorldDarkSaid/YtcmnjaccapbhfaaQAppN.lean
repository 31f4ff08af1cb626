/- 'append([]T{}, xs...)': a copy in new memory, whatever xs is. -/
import Derived.Test.YtcmnjaccapbhfaaQApp
namespace Go.Proofs.Ytcmnjaccapbhfaa
open Go.ChangeShapes Go.WideShapes Go.ChangeAt Go.RowKit
end Go.Proofs.Ytcmnjaccapbhfaa
