/- THE WALKS of layer 2 (ratio), on: what two ratios make. -/
import Derived.Test.YtjcfflpiajefmaaRatio
set_option linter.unusedSimpArgs false
set_option linter.unusedVariables false
namespace Go.Proofs.Ytjcfflpiajefmaa
open Go.RowKit Lu

end Go.Proofs.Ytjcfflpiajefmaa
