/- Contracts of the reference's source of choices: what it hands out is in range; only its own block turns. -/
import Derived.Test.YteejfjgofpolkaaDoorMark
import Derived.Test.YteejfjgofpolkaaDoorMat
import Derived.Test.YteejfjgofpolkaaDoorFrac
import Derived.Deep.RegionWith
namespace Go.Proofs.YteejfjgofpolkaaDoor
set_option linter.unusedVariables false
open Go.RowKit
end Go.Proofs.YteejfjgofpolkaaDoor
