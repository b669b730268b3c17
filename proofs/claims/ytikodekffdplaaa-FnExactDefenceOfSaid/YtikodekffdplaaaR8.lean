/- The laws' own small functions. -/
import Derived.Test.YtikodekffdplaaaSrc
namespace Go.Proofs.Ytikodekffdplaaa
set_option linter.unusedVariables false
open Go.RowKit
end Go.Proofs.Ytikodekffdplaaa
