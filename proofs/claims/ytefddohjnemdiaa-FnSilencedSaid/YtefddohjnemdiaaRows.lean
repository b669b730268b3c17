/-
  No cell of these rows narrows 'for every input' (looked for: loops, veiled, ifaces, maps, wideKeys, modest, calm, conditions, laid).
  DERIVED. THE GIVEN ROWS OF THIS SEAT. 3 by the template 'for every input the law returns true; each argument reads behind the call as it read before'; 0 by the template 'total and deterministic' (their statements: YtefddohjnemdiaaTotals.lean).
  GIVEN WITH THE SEED: the statements are not yours to turn. If you find one false, say at which input.
  Laid BY PROGRAM, IN A SANDBOX (cutbox-rows.mjs): the forced cells as the released guide's own fill.sh prints them over the translation 6eaf827087257a35… (all of the seat's roots in one cut). By AI agents, Wed Nov 11 2026. No macro, syntax, notation, axiom, sorry.
-/
import Derived.Test.YtefddohjnemdiaaChecked
import GoSem.Claim
import GoSem.ClaimJoined
import GoSem.ClaimMapViews
import Derived.JoinedTies
import Derived.KernelRfl
namespace Go.Proofs.Ytefddohjnemdiaa
/- THE CELL 'sum', in the pinned program and in every row, IS THE sha256 OF THE DUMP (.gsa) THAT YtefddohjnemdiaaProg.lean LOADS. Nothing in Lean hashes anything: it is a label: what it is worth is what the hold of that sum in a sandbox is worth. -/
noncomputable def Try.pinned : Pinned := { name := "ytefddohjnemdiaa", sum := "6eaf827087257a353de47add0165b623d02e1e8ce969d953d33930d0328b47b0", checked := Try.checked }
namespace Rows
def none {H : Type} : Left H := { results := [], args := [] }

/-- 'laws.FnSilenced': WHATEVER THE INPUT: true; the input reads as it did. -/
def fnSilencedSpec : ChangeSpec := { name := "fnSilenced", fn := fun _ => fun
  | [d1, d2] => { results := [.lit (.bool true)], args := [d1, d2] }
  | _ => none }
def fnSilencedRow : OpenClaim := { program := "ytefddohjnemdiaa", sum := "6eaf827087257a353de47add0165b623d02e1e8ce969d953d33930d0328b47b0", func := "loop.example/g01095/laws.FnSilenced", spec := "fnSilenced", unfollowed := true, recurses := true, apart := false }
def FnSilencedSaid : Prop := fnSilencedRow.holds Try.pinned (OpenSpec.ofChange fnSilencedSpec)

/-- ITS FALSE NEIGHBOUR: 'it returns false'. Refute it at one input. -/
def fnSilencedWrong : ChangeSpec := { name := "fnSilenced", fn := fun _ => fun
  | [d1, d2] => { results := [.lit (.bool false)], args := [d1, d2] }
  | _ => none }
def FnSilencedWrongFalsely : Prop := fnSilencedRow.holds Try.pinned (OpenSpec.ofChange fnSilencedWrong)

/-- 'laws.FnConfluent': WHATEVER THE INPUT: true; the input reads as it did. -/
def fnConfluentSpec : ChangeSpec := { name := "fnConfluent", fn := fun _ => fun
  | [d1, d2] => { results := [.lit (.bool true)], args := [d1, d2] }
  | _ => none }
def fnConfluentRow : OpenClaim := { program := "ytefddohjnemdiaa", sum := "6eaf827087257a353de47add0165b623d02e1e8ce969d953d33930d0328b47b0", func := "loop.example/g01095/laws.FnConfluent", spec := "fnConfluent", unfollowed := true, recurses := true, apart := false }
def FnConfluentSaid : Prop := fnConfluentRow.holds Try.pinned (OpenSpec.ofChange fnConfluentSpec)

/-- ITS FALSE NEIGHBOUR: 'it returns false'. Refute it at one input. -/
def fnConfluentWrong : ChangeSpec := { name := "fnConfluent", fn := fun _ => fun
  | [d1, d2] => { results := [.lit (.bool false)], args := [d1, d2] }
  | _ => none }
def FnConfluentWrongFalsely : Prop := fnConfluentRow.holds Try.pinned (OpenSpec.ofChange fnConfluentWrong)

/-- 'laws.FnConserved': WHATEVER THE INPUT: true; the input reads as it did. -/
def fnConservedSpec : ChangeSpec := { name := "fnConserved", fn := fun _ => fun
  | [d1, d2] => { results := [.lit (.bool true)], args := [d1, d2] }
  | _ => none }
def fnConservedRow : OpenClaim := { program := "ytefddohjnemdiaa", sum := "6eaf827087257a353de47add0165b623d02e1e8ce969d953d33930d0328b47b0", func := "loop.example/g01095/laws.FnConserved", spec := "fnConserved", unfollowed := true, recurses := true, apart := false }
def FnConservedSaid : Prop := fnConservedRow.holds Try.pinned (OpenSpec.ofChange fnConservedSpec)

/-- ITS FALSE NEIGHBOUR: 'it returns false'. Refute it at one input. -/
def fnConservedWrong : ChangeSpec := { name := "fnConserved", fn := fun _ => fun
  | [d1, d2] => { results := [.lit (.bool false)], args := [d1, d2] }
  | _ => none }
def FnConservedWrongFalsely : Prop := fnConservedRow.holds Try.pinned (OpenSpec.ofChange fnConservedWrong)

/- THE SECOND FORM. 'bulk': how many values and letters a reading holds, each counted each time it is reached (what is shared counts as often as it is met; a slice's spare places count too). A statement '..UptoSaid' is the law's where the arguments, and the package variables that the reading takes, are together of bulk at most 1048576: NARROWER than '..Said'. Prove '..Said' where nothing that the law and all that it calls make is longer than what came in: it says more and counts as full. Else prove '..UptoSaid'. A law counts once. -/
mutual
def uptoBulk {H : Type} : DataW H → Nat
  | .lit (.string bytes) => bytes.length + 1
  | .lit _ => 1
  | .nil => 1
  | .ptr d => uptoBulk d + 1
  | .slice elems spare => uptoBulkAll elems + uptoBulkAll spare + 1
  | .agg parts => uptoBulkAll parts + 1
  | .iface _ d => uptoBulk d + 1
  | .map entries => uptoBulkEntries entries + 1
  | .held _ => 1
def uptoBulkAll {H : Type} : List (DataW H) → Nat
  | [] => 0
  | d :: r => uptoBulk d + uptoBulkAll r
def uptoBulkEntries {H : Type} : List (Lit × DataW H) → Nat
  | [] => 0
  | x :: r => uptoBulkEntry x + uptoBulkEntries r
def uptoBulkEntry {H : Type} : Lit × DataW H → Nat
  | (.string bytes, d) => bytes.length + uptoBulk d + 1
  | (_, d) => uptoBulk d + 1
 end
def uptoSmall : (H : Type) → List (DataW H) → Bool := fun _ ds => decide (uptoBulkAll ds ≤ 1048576)
def OpenSpec.upto (s : _root_.Go.ChangeSpec) : _root_.Go.OpenSpec := { _root_.Go.OpenSpec.ofChange s with cond := some uptoSmall }

/-- 'laws.FnSilenced', WHERE WHAT IT READS IS OF BULK AT MOST 1048576: true; the input reads as it did. -/
def fnSilencedUptoRow : OpenClaim := { program := "ytefddohjnemdiaa", sum := "6eaf827087257a353de47add0165b623d02e1e8ce969d953d33930d0328b47b0", func := "loop.example/g01095/laws.FnSilenced", spec := "fnSilenced", unfollowed := true, recurses := true, apart := false, narrowed := true }
def FnSilencedUptoSaid : Prop := fnSilencedUptoRow.holds Try.pinned (OpenSpec.upto fnSilencedSpec)

/-- 'laws.FnConfluent', WHERE WHAT IT READS IS OF BULK AT MOST 1048576: true; the input reads as it did. -/
def fnConfluentUptoRow : OpenClaim := { program := "ytefddohjnemdiaa", sum := "6eaf827087257a353de47add0165b623d02e1e8ce969d953d33930d0328b47b0", func := "loop.example/g01095/laws.FnConfluent", spec := "fnConfluent", unfollowed := true, recurses := true, apart := false, narrowed := true }
def FnConfluentUptoSaid : Prop := fnConfluentUptoRow.holds Try.pinned (OpenSpec.upto fnConfluentSpec)

/-- 'laws.FnConserved', WHERE WHAT IT READS IS OF BULK AT MOST 1048576: true; the input reads as it did. -/
def fnConservedUptoRow : OpenClaim := { program := "ytefddohjnemdiaa", sum := "6eaf827087257a353de47add0165b623d02e1e8ce969d953d33930d0328b47b0", func := "loop.example/g01095/laws.FnConserved", spec := "fnConserved", unfollowed := true, recurses := true, apart := false, narrowed := true }
def FnConservedUptoSaid : Prop := fnConservedUptoRow.holds Try.pinned (OpenSpec.upto fnConservedSpec)

end Rows
end Go.Proofs.Ytefddohjnemdiaa
