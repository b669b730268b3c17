/- Slices of slices of int64, read or made; what is changed in a range of blocks only; the laws' helpers on them. -/
import Derived.Test.YtefddohjnemdiaaMat
import Derived.Test.YtefddohjnemdiaaInts
namespace Go.Proofs.Ytefddohjnemdiaa
set_option linter.unusedVariables false
open Go.RowKit
end Go.Proofs.Ytefddohjnemdiaa
