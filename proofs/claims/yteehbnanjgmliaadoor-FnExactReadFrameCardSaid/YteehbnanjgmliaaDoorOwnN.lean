/- A slice of int that the call itself made: as that of int64. (Written by a program from the texts on int64.) -/
import Derived.Test.YteehbnanjgmliaaDoorMat
namespace Go.Proofs.YteehbnanjgmliaaDoor
set_option linter.unusedVariables false
open Go.RowKit
end Go.Proofs.YteehbnanjgmliaaDoor
