/-
  DERIVED. GIVEN WITH THE SEED: THE CARDS: each row of YteehbnanjgmliaaDoorRows.lean that lists a variable, with what it lists TIED to the program's text (the seventh form; the later family's looks); each row that meets fmt, with fmt's text TOLD by the authors' own Lean function (tested against real Go, not proved from fmt's source: count such statements apart). THE CARD IS WHAT COUNTS. Prove the row's statement (the work); the ties are given (YteehbnanjgmliaaDoorTie.lean); close each card by the builder's one call (the guide's Derived/Test/ToyasCard.lean, 'card_holds'). Laid BY PROGRAM, IN A SANDBOX (cutbox-door.mjs). By AI agents, Wed Nov 11 2026. No macro, syntax, notation, axiom, sorry.
-/
import Derived.Test.YteehbnanjgmliaaDoorRows
import GoSem.ClaimSeven
namespace Go.Proofs.YteehbnanjgmliaaDoor
namespace Rows

/-- THE TIED CARD OF 'laws.FnExactReadFrame'. -/
def fnExactReadFrameCard : Claim7 := { stood := { row := fnExactReadFrameRow, standIns := [], harness := (true, "ae543f131ef34da2ba42551e7f6d161de4ce4c6910f055d52c8e706f5f01e29c"), looks := true }, kinds := [], alts := [], laidByText := true, laidKinds := [.data, .data, .data, .data, .sentinel, .sentinel, .pinned], laidTests := true, laidLooks := .later }
def FnExactReadFrameCardSaid : Prop := Claim7.holds Tryd.pinned (.plain (OpenSpec.ofChange fnExactReadFrameSpec)) fnExactReadFrameCard

/-- THE SECOND FORM's CARD OF 'laws.FnExactReadFrame'. -/
def fnExactReadFrameUptoCard : Claim7 := { stood := { row := fnExactReadFrameUptoRow, standIns := [], harness := (true, "ae543f131ef34da2ba42551e7f6d161de4ce4c6910f055d52c8e706f5f01e29c"), looks := true }, kinds := [], alts := [], laidByText := true, laidKinds := [.data, .data, .data, .data, .sentinel, .sentinel, .pinned], laidTests := true, laidLooks := .later }
def FnExactReadFrameUptoCardSaid : Prop := Claim7.holds Tryd.pinned (.plain (OpenSpec.upto fnExactReadFrameSpec)) fnExactReadFrameUptoCard
end Rows
end Go.Proofs.YteehbnanjgmliaaDoor
