/- The laws' own small functions. -/
import Derived.Test.YteejfjgofpolkaaDoorSrc
namespace Go.Proofs.YteejfjgofpolkaaDoor
set_option linter.unusedVariables false
open Go.RowKit
end Go.Proofs.YteejfjgofpolkaaDoor
