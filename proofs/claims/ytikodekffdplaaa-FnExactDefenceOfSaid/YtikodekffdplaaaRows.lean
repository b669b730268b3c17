/-
  No cell of these rows narrows 'for every input' (looked for: loops, veiled, ifaces, maps, wideKeys, modest, calm, conditions, laid).
  DERIVED. THE GIVEN ROWS OF THIS SEAT. 4 by the template 'for every input the law returns true; each argument reads behind the call as it read before'; 0 by the template 'total and deterministic' (their statements: YtikodekffdplaaaTotals.lean).
  GIVEN WITH THE SEED: the statements are not yours to turn. If you find one false, say at which input.
  Laid BY PROGRAM, IN A SANDBOX (cutbox-rows.mjs): the forced cells as the released guide's own fill.sh prints them over the translation 0386ea77f890c804… (all of the seat's roots in one cut). By AI agents, Wed Nov 11 2026. No macro, syntax, notation, axiom, sorry.
-/
import Derived.Test.YtikodekffdplaaaChecked
import GoSem.Claim
import GoSem.ClaimJoined
import GoSem.ClaimMapViews
import Derived.JoinedTies
import Derived.KernelRfl
namespace Go.Proofs.Ytikodekffdplaaa
/- THE CELL 'sum', in the pinned program and in every row, IS THE sha256 OF THE DUMP (.gsa) THAT YtikodekffdplaaaProg.lean LOADS. Nothing in Lean hashes anything: it is a label: what it is worth is what the hold of that sum in a sandbox is worth. -/
noncomputable def Try.pinned : Pinned := { name := "ytikodekffdplaaa", sum := "0386ea77f890c804daf198b9257c482d898fcc5a5db1d3ab9e18f8e60b866db8", checked := Try.checked }
namespace Rows
def none {H : Type} : Left H := { results := [], args := [] }

/-- 'laws.FnExactStableSets': WHATEVER THE INPUT: true; the input reads as it did. -/
def fnExactStableSetsSpec : ChangeSpec := { name := "fnExactStableSets", fn := fun _ => fun
  | [d] => { results := [.lit (.bool true)], args := [d] }
  | _ => none }
def fnExactStableSetsRow : OpenClaim := { program := "ytikodekffdplaaa", sum := "0386ea77f890c804daf198b9257c482d898fcc5a5db1d3ab9e18f8e60b866db8", func := "loop.example/g01095/laws.FnExactStableSets", spec := "fnExactStableSets", unfollowed := true, recurses := true, apart := false }
def FnExactStableSetsSaid : Prop := fnExactStableSetsRow.holds Try.pinned (OpenSpec.ofChange fnExactStableSetsSpec)

/-- ITS FALSE NEIGHBOUR: 'it returns false'. Refute it at one input. -/
def fnExactStableSetsWrong : ChangeSpec := { name := "fnExactStableSets", fn := fun _ => fun
  | [d] => { results := [.lit (.bool false)], args := [d] }
  | _ => none }
def FnExactStableSetsWrongFalsely : Prop := fnExactStableSetsRow.holds Try.pinned (OpenSpec.ofChange fnExactStableSetsWrong)

/-- 'laws.FnExactCompleteSets': WHATEVER THE INPUT: true; the input reads as it did. -/
def fnExactCompleteSetsSpec : ChangeSpec := { name := "fnExactCompleteSets", fn := fun _ => fun
  | [d] => { results := [.lit (.bool true)], args := [d] }
  | _ => none }
def fnExactCompleteSetsRow : OpenClaim := { program := "ytikodekffdplaaa", sum := "0386ea77f890c804daf198b9257c482d898fcc5a5db1d3ab9e18f8e60b866db8", func := "loop.example/g01095/laws.FnExactCompleteSets", spec := "fnExactCompleteSets", unfollowed := true, recurses := true, apart := false }
def FnExactCompleteSetsSaid : Prop := fnExactCompleteSetsRow.holds Try.pinned (OpenSpec.ofChange fnExactCompleteSetsSpec)

/-- ITS FALSE NEIGHBOUR: 'it returns false'. Refute it at one input. -/
def fnExactCompleteSetsWrong : ChangeSpec := { name := "fnExactCompleteSets", fn := fun _ => fun
  | [d] => { results := [.lit (.bool false)], args := [d] }
  | _ => none }
def FnExactCompleteSetsWrongFalsely : Prop := fnExactCompleteSetsRow.holds Try.pinned (OpenSpec.ofChange fnExactCompleteSetsWrong)

/-- 'laws.FnExactPreferredSets': WHATEVER THE INPUT: true; the input reads as it did. -/
def fnExactPreferredSetsSpec : ChangeSpec := { name := "fnExactPreferredSets", fn := fun _ => fun
  | [d] => { results := [.lit (.bool true)], args := [d] }
  | _ => none }
def fnExactPreferredSetsRow : OpenClaim := { program := "ytikodekffdplaaa", sum := "0386ea77f890c804daf198b9257c482d898fcc5a5db1d3ab9e18f8e60b866db8", func := "loop.example/g01095/laws.FnExactPreferredSets", spec := "fnExactPreferredSets", unfollowed := true, recurses := true, apart := false }
def FnExactPreferredSetsSaid : Prop := fnExactPreferredSetsRow.holds Try.pinned (OpenSpec.ofChange fnExactPreferredSetsSpec)

/-- ITS FALSE NEIGHBOUR: 'it returns false'. Refute it at one input. -/
def fnExactPreferredSetsWrong : ChangeSpec := { name := "fnExactPreferredSets", fn := fun _ => fun
  | [d] => { results := [.lit (.bool false)], args := [d] }
  | _ => none }
def FnExactPreferredSetsWrongFalsely : Prop := fnExactPreferredSetsRow.holds Try.pinned (OpenSpec.ofChange fnExactPreferredSetsWrong)

/-- 'laws.FnExactDefenceOf': WHATEVER THE INPUT: true; the input reads as it did. -/
def fnExactDefenceOfSpec : ChangeSpec := { name := "fnExactDefenceOf", fn := fun _ => fun
  | [d1, d2] => { results := [.lit (.bool true)], args := [d1, d2] }
  | _ => none }
def fnExactDefenceOfRow : OpenClaim := { program := "ytikodekffdplaaa", sum := "0386ea77f890c804daf198b9257c482d898fcc5a5db1d3ab9e18f8e60b866db8", func := "loop.example/g01095/laws.FnExactDefenceOf", spec := "fnExactDefenceOf", unfollowed := true, recurses := true, apart := false }
def FnExactDefenceOfSaid : Prop := fnExactDefenceOfRow.holds Try.pinned (OpenSpec.ofChange fnExactDefenceOfSpec)

/-- ITS FALSE NEIGHBOUR: 'it returns false'. Refute it at one input. -/
def fnExactDefenceOfWrong : ChangeSpec := { name := "fnExactDefenceOf", fn := fun _ => fun
  | [d1, d2] => { results := [.lit (.bool false)], args := [d1, d2] }
  | _ => none }
def FnExactDefenceOfWrongFalsely : Prop := fnExactDefenceOfRow.holds Try.pinned (OpenSpec.ofChange fnExactDefenceOfWrong)

/- THE SECOND FORM. 'bulk': how many values and letters a reading holds, each counted each time it is reached (what is shared counts as often as it is met; a slice's spare places count too). A statement '..UptoSaid' is the law's where the arguments, and the package variables that the reading takes, are together of bulk at most 1048576: NARROWER than '..Said'. Prove '..Said' where nothing that the law and all that it calls make is longer than what came in: it says more and counts as full. Else prove '..UptoSaid'. A law counts once. -/
mutual
def uptoBulk {H : Type} : DataW H → Nat
  | .lit (.string bytes) => bytes.length + 1
  | .lit _ => 1
  | .nil => 1
  | .ptr d => uptoBulk d + 1
  | .slice elems spare => uptoBulkAll elems + uptoBulkAll spare + 1
  | .agg parts => uptoBulkAll parts + 1
  | .iface _ d => uptoBulk d + 1
  | .map entries => uptoBulkEntries entries + 1
  | .held _ => 1
def uptoBulkAll {H : Type} : List (DataW H) → Nat
  | [] => 0
  | d :: r => uptoBulk d + uptoBulkAll r
def uptoBulkEntries {H : Type} : List (Lit × DataW H) → Nat
  | [] => 0
  | x :: r => uptoBulkEntry x + uptoBulkEntries r
def uptoBulkEntry {H : Type} : Lit × DataW H → Nat
  | (.string bytes, d) => bytes.length + uptoBulk d + 1
  | (_, d) => uptoBulk d + 1
 end
def uptoSmall : (H : Type) → List (DataW H) → Bool := fun _ ds => decide (uptoBulkAll ds ≤ 1048576)
def OpenSpec.upto (s : _root_.Go.ChangeSpec) : _root_.Go.OpenSpec := { _root_.Go.OpenSpec.ofChange s with cond := some uptoSmall }

/-- 'laws.FnExactStableSets', WHERE WHAT IT READS IS OF BULK AT MOST 1048576: true; the input reads as it did. -/
def fnExactStableSetsUptoRow : OpenClaim := { program := "ytikodekffdplaaa", sum := "0386ea77f890c804daf198b9257c482d898fcc5a5db1d3ab9e18f8e60b866db8", func := "loop.example/g01095/laws.FnExactStableSets", spec := "fnExactStableSets", unfollowed := true, recurses := true, apart := false, narrowed := true }
def FnExactStableSetsUptoSaid : Prop := fnExactStableSetsUptoRow.holds Try.pinned (OpenSpec.upto fnExactStableSetsSpec)

/-- 'laws.FnExactCompleteSets', WHERE WHAT IT READS IS OF BULK AT MOST 1048576: true; the input reads as it did. -/
def fnExactCompleteSetsUptoRow : OpenClaim := { program := "ytikodekffdplaaa", sum := "0386ea77f890c804daf198b9257c482d898fcc5a5db1d3ab9e18f8e60b866db8", func := "loop.example/g01095/laws.FnExactCompleteSets", spec := "fnExactCompleteSets", unfollowed := true, recurses := true, apart := false, narrowed := true }
def FnExactCompleteSetsUptoSaid : Prop := fnExactCompleteSetsUptoRow.holds Try.pinned (OpenSpec.upto fnExactCompleteSetsSpec)

/-- 'laws.FnExactPreferredSets', WHERE WHAT IT READS IS OF BULK AT MOST 1048576: true; the input reads as it did. -/
def fnExactPreferredSetsUptoRow : OpenClaim := { program := "ytikodekffdplaaa", sum := "0386ea77f890c804daf198b9257c482d898fcc5a5db1d3ab9e18f8e60b866db8", func := "loop.example/g01095/laws.FnExactPreferredSets", spec := "fnExactPreferredSets", unfollowed := true, recurses := true, apart := false, narrowed := true }
def FnExactPreferredSetsUptoSaid : Prop := fnExactPreferredSetsUptoRow.holds Try.pinned (OpenSpec.upto fnExactPreferredSetsSpec)

/-- 'laws.FnExactDefenceOf', WHERE WHAT IT READS IS OF BULK AT MOST 1048576: true; the input reads as it did. -/
def fnExactDefenceOfUptoRow : OpenClaim := { program := "ytikodekffdplaaa", sum := "0386ea77f890c804daf198b9257c482d898fcc5a5db1d3ab9e18f8e60b866db8", func := "loop.example/g01095/laws.FnExactDefenceOf", spec := "fnExactDefenceOf", unfollowed := true, recurses := true, apart := false, narrowed := true }
def FnExactDefenceOfUptoSaid : Prop := fnExactDefenceOfUptoRow.holds Try.pinned (OpenSpec.upto fnExactDefenceOfSpec)

end Rows
end Go.Proofs.Ytikodekffdplaaa
