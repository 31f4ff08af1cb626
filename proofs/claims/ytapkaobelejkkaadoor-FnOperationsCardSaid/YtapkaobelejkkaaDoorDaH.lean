/- Plain laws of the helpers of the laws. -/
import Derived.Test.YtapkaobelejkkaaDoorPu
import Derived.Test.YtapkaobelejkkaaDoorDaM
namespace Go.Proofs.YtapkaobelejkkaaDoor
set_option linter.unusedVariables false
set_option linter.unusedSimpArgs false


end Go.Proofs.YtapkaobelejkkaaDoor
