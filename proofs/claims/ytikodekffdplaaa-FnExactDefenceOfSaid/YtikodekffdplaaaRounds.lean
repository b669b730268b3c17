/- Rounds of a frame: the walk. -/
import Derived.Test.YtikodekffdplaaaRnd
namespace Go.Proofs.Ytikodekffdplaaa
set_option linter.unusedVariables false
set_option linter.unusedSimpArgs false
set_option maxRecDepth 100000
open Go.RowKit Go.Deep
end Go.Proofs.Ytikodekffdplaaa
