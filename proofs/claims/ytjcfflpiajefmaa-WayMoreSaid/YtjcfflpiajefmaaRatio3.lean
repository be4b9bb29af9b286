/- THE WALKS of layer 2 (ratio), on: which is less, the nearest number. -/
import Derived.Test.YtjcfflpiajefmaaRatio2
set_option linter.unusedSimpArgs false
set_option linter.unusedVariables false
namespace Go.Proofs.Ytjcfflpiajefmaa
open Go.RowKit Lu

end Go.Proofs.Ytjcfflpiajefmaa
