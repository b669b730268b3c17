/- Contracts of the laws' helpers on slices of int64: copy, compare, mark, held. -/
import Derived.Test.YtefddohjnemdiaaBase
import Derived.Deep.QuietTactic
import Derived.BigQuiet
import Derived.WalkSmall
namespace Go.Proofs.Ytefddohjnemdiaa
set_option linter.unusedVariables false
open Go.RowKit Go.Deep
end Go.Proofs.Ytefddohjnemdiaa
