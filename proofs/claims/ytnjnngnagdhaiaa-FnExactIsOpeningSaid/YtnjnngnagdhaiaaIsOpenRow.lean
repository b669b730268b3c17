/- The law on openings and how ballots that came in are opened, under one name. -/
import Derived.Test.YtnjnngnagdhaiaaIsOpenLaw
import Derived.Test.YtnjnngnagdhaiaaBalsOpen
namespace Go.Proofs.Ytnjnngnagdhaiaa
theorem isOpenRow_here : True := trivial
end Go.Proofs.Ytnjnngnagdhaiaa
