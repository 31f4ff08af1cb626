/- Plain laws of the helpers of the laws. -/
import Derived.Test.YthpmmfbnclfbmaaDoorPu
import Derived.Test.YthpmmfbnclfbmaaDoorDaM
namespace Go.Proofs.YthpmmfbnclfbmaaDoor
set_option linter.unusedVariables false
set_option linter.unusedSimpArgs false


end Go.Proofs.YthpmmfbnclfbmaaDoor
