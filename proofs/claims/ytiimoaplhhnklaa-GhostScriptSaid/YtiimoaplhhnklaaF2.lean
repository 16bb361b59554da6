/- Ranges: which keys one holds. -/
import Derived.Test.YtiimoaplhhnklaaF1
namespace Go.Proofs.Ytiimoaplhhnklaa
open Go.RowKit
set_option maxHeartbeats 1000000
set_option linter.unusedSimpArgs false
set_option linter.unusedVariables false

end Go.Proofs.Ytiimoaplhhnklaa
