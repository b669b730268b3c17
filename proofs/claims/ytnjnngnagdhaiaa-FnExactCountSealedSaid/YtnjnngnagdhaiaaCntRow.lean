/- The law on counts of sealed ballots and how ballots that came in are opened, under one name. -/
import Derived.Test.YtnjnngnagdhaiaaCntLaw
import Derived.Test.YtnjnngnagdhaiaaBalsOpen
namespace Go.Proofs.Ytnjnngnagdhaiaa
theorem cntRow_here : True := trivial
end Go.Proofs.Ytnjnngnagdhaiaa
