/- Contracts of the laws' helpers on slices of int64: copy, compare, mark, held. -/
import Derived.Test.YtiodbjfchfmlcaaBase
import Derived.Deep.QuietTactic
import Derived.BigQuiet
import Derived.WalkSmall
namespace Go.Proofs.Ytiodbjfchfmlcaa
set_option linter.unusedVariables false
open Go.RowKit Go.Deep
end Go.Proofs.Ytiodbjfchfmlcaa
