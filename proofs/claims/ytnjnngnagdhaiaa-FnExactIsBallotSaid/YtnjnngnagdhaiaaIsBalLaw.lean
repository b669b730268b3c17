/- The law on ballots and how a ballot that came in is opened, under one name. -/
import Derived.Test.YtnjnngnagdhaiaaIsBal
import Derived.Test.YtnjnngnagdhaiaaBalOpen
namespace Go.Proofs.Ytnjnngnagdhaiaa
theorem isBalLaw_here : True := trivial
end Go.Proofs.Ytnjnngnagdhaiaa
