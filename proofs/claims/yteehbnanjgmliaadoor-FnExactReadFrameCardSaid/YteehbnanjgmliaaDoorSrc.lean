/- Contracts of the reference's source of choices: what it hands out is in range; only its own block turns. -/
import Derived.Test.YteehbnanjgmliaaDoorMark
import Derived.Test.YteehbnanjgmliaaDoorMat
import Derived.Test.YteehbnanjgmliaaDoorFrac
import Derived.Deep.RegionWith
namespace Go.Proofs.YteehbnanjgmliaaDoor
set_option linter.unusedVariables false
open Go.RowKit
end Go.Proofs.YteehbnanjgmliaaDoor
