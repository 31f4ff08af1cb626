/- Calls return what the models say. -/
import Derived.Test.YtcmnjaccapbhfaaGreatQSq
import Derived.Test.YtcmnjaccapbhfaaGreatQDa8
namespace Go.Proofs.YtcmnjaccapbhfaaGreat
open Go.ChangeShapes Go.WideShapes Go.ChangeAt Go.RowKit
set_option linter.unusedVariables false
set_option maxHeartbeats 4000000
set_option linter.unusedSimpArgs false
end Go.Proofs.YtcmnjaccapbhfaaGreat
