/- The laws' own small functions. -/
import Derived.Test.YteehbnanjgmliaaDoorSrc
namespace Go.Proofs.YteehbnanjgmliaaDoor
set_option linter.unusedVariables false
open Go.RowKit
end Go.Proofs.YteehbnanjgmliaaDoor
