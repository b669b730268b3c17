/- Contracts of the reference's source of choices: what it hands out is in range; only its own block turns. -/
import Derived.Test.YtikodekffdplaaaMark
import Derived.Test.YtikodekffdplaaaMat
import Derived.Test.YtikodekffdplaaaFrac
import Derived.Deep.RegionWith
namespace Go.Proofs.Ytikodekffdplaaa
set_option linter.unusedVariables false
open Go.RowKit
end Go.Proofs.Ytikodekffdplaaa
