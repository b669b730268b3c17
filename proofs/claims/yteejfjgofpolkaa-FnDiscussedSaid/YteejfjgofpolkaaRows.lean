/-
  No cell of these rows narrows 'for every input' (looked for: loops, veiled, ifaces, maps, wideKeys, modest, calm, conditions, laid).
  DERIVED. THE GIVEN ROWS OF THIS SEAT. 9 by the template 'for every input the law returns true; each argument reads behind the call as it read before'; 0 by the template 'total and deterministic' (their statements: YteejfjgofpolkaaTotals.lean).
  GIVEN WITH THE SEED: the statements are not yours to turn. If you find one false, say at which input.
  Laid BY PROGRAM, IN A SANDBOX (cutbox-rows.mjs): the forced cells as the released guide's own fill.sh prints them over the translation d23eaf30a8296610… (all of the seat's roots in one cut). By AI agents, Wed Nov 11 2026. No macro, syntax, notation, axiom, sorry.
-/
import Derived.Test.YteejfjgofpolkaaChecked
import GoSem.Claim
import GoSem.ClaimJoined
import GoSem.ClaimMapViews
import Derived.JoinedTies
import Derived.KernelRfl
namespace Go.Proofs.Yteejfjgofpolkaa
/- THE CELL 'sum', in the pinned program and in every row, IS THE sha256 OF THE DUMP (.gsa) THAT YteejfjgofpolkaaProg.lean LOADS. Nothing in Lean hashes anything: it is a label: what it is worth is what the hold of that sum in a sandbox is worth. -/
noncomputable def Try.pinned : Pinned := { name := "yteejfjgofpolkaa", sum := "d23eaf30a8296610005c11b71174d8e90ce883b83cfd5c5823f17e132717003e", checked := Try.checked }
namespace Rows
def none {H : Type} : Left H := { results := [], args := [] }

/-- 'laws.FnRounds': WHATEVER THE INPUT: true; the input reads as it did. -/
def fnRoundsSpec : ChangeSpec := { name := "fnRounds", fn := fun _ => fun
  | [d1, d2] => { results := [.lit (.bool true)], args := [d1, d2] }
  | _ => none }
def fnRoundsRow : OpenClaim := { program := "yteejfjgofpolkaa", sum := "d23eaf30a8296610005c11b71174d8e90ce883b83cfd5c5823f17e132717003e", func := "loop.example/g01095/laws.FnRounds", spec := "fnRounds", apart := false }
def FnRoundsSaid : Prop := fnRoundsRow.holds Try.pinned (OpenSpec.ofChange fnRoundsSpec)

/-- ITS FALSE NEIGHBOUR: 'it returns false'. Refute it at one input. -/
def fnRoundsWrong : ChangeSpec := { name := "fnRounds", fn := fun _ => fun
  | [d1, d2] => { results := [.lit (.bool false)], args := [d1, d2] }
  | _ => none }
def FnRoundsWrongFalsely : Prop := fnRoundsRow.holds Try.pinned (OpenSpec.ofChange fnRoundsWrong)

/-- 'laws.FnExactDiscuss': WHATEVER THE INPUT: true; the input reads as it did. -/
def fnExactDiscussSpec : ChangeSpec := { name := "fnExactDiscuss", fn := fun _ => fun
  | [d1, d2, d3, d4] => { results := [.lit (.bool true)], args := [d1, d2, d3, d4] }
  | _ => none }
def fnExactDiscussRow : OpenClaim := { program := "yteejfjgofpolkaa", sum := "d23eaf30a8296610005c11b71174d8e90ce883b83cfd5c5823f17e132717003e", func := "loop.example/g01095/laws.FnExactDiscuss", spec := "fnExactDiscuss", unfollowed := true, recurses := true, apart := false }
def FnExactDiscussSaid : Prop := fnExactDiscussRow.holds Try.pinned (OpenSpec.ofChange fnExactDiscussSpec)

/-- ITS FALSE NEIGHBOUR: 'it returns false'. Refute it at one input. -/
def fnExactDiscussWrong : ChangeSpec := { name := "fnExactDiscuss", fn := fun _ => fun
  | [d1, d2, d3, d4] => { results := [.lit (.bool false)], args := [d1, d2, d3, d4] }
  | _ => none }
def FnExactDiscussWrongFalsely : Prop := fnExactDiscussRow.holds Try.pinned (OpenSpec.ofChange fnExactDiscussWrong)

/-- 'laws.FnExactStrategyFor': WHATEVER THE INPUT: true; the input reads as it did. -/
def fnExactStrategyForSpec : ChangeSpec := { name := "fnExactStrategyFor", fn := fun _ => fun
  | [d1, d2] => { results := [.lit (.bool true)], args := [d1, d2] }
  | _ => none }
def fnExactStrategyForRow : OpenClaim := { program := "yteejfjgofpolkaa", sum := "d23eaf30a8296610005c11b71174d8e90ce883b83cfd5c5823f17e132717003e", func := "loop.example/g01095/laws.FnExactStrategyFor", spec := "fnExactStrategyFor", apart := false }
def FnExactStrategyForSaid : Prop := fnExactStrategyForRow.holds Try.pinned (OpenSpec.ofChange fnExactStrategyForSpec)

/-- ITS FALSE NEIGHBOUR: 'it returns false'. Refute it at one input. -/
def fnExactStrategyForWrong : ChangeSpec := { name := "fnExactStrategyFor", fn := fun _ => fun
  | [d1, d2] => { results := [.lit (.bool false)], args := [d1, d2] }
  | _ => none }
def FnExactStrategyForWrongFalsely : Prop := fnExactStrategyForRow.holds Try.pinned (OpenSpec.ofChange fnExactStrategyForWrong)

/-- 'laws.FnExactIdealSet': WHATEVER THE INPUT: true; the input reads as it did. -/
def fnExactIdealSetSpec : ChangeSpec := { name := "fnExactIdealSet", fn := fun _ => fun
  | [d] => { results := [.lit (.bool true)], args := [d] }
  | _ => none }
def fnExactIdealSetRow : OpenClaim := { program := "yteejfjgofpolkaa", sum := "d23eaf30a8296610005c11b71174d8e90ce883b83cfd5c5823f17e132717003e", func := "loop.example/g01095/laws.FnExactIdealSet", spec := "fnExactIdealSet", unfollowed := true, recurses := true, apart := false }
def FnExactIdealSetSaid : Prop := fnExactIdealSetRow.holds Try.pinned (OpenSpec.ofChange fnExactIdealSetSpec)

/-- ITS FALSE NEIGHBOUR: 'it returns false'. Refute it at one input. -/
def fnExactIdealSetWrong : ChangeSpec := { name := "fnExactIdealSet", fn := fun _ => fun
  | [d] => { results := [.lit (.bool false)], args := [d] }
  | _ => none }
def FnExactIdealSetWrongFalsely : Prop := fnExactIdealSetRow.holds Try.pinned (OpenSpec.ofChange fnExactIdealSetWrong)

/-- 'laws.FnExactStandingOf': WHATEVER THE INPUT: true; the input reads as it did. -/
def fnExactStandingOfSpec : ChangeSpec := { name := "fnExactStandingOf", fn := fun _ => fun
  | [d1, d2] => { results := [.lit (.bool true)], args := [d1, d2] }
  | _ => none }
def fnExactStandingOfRow : OpenClaim := { program := "yteejfjgofpolkaa", sum := "d23eaf30a8296610005c11b71174d8e90ce883b83cfd5c5823f17e132717003e", func := "loop.example/g01095/laws.FnExactStandingOf", spec := "fnExactStandingOf", unfollowed := true, recurses := true, apart := false }
def FnExactStandingOfSaid : Prop := fnExactStandingOfRow.holds Try.pinned (OpenSpec.ofChange fnExactStandingOfSpec)

/-- ITS FALSE NEIGHBOUR: 'it returns false'. Refute it at one input. -/
def fnExactStandingOfWrong : ChangeSpec := { name := "fnExactStandingOf", fn := fun _ => fun
  | [d1, d2] => { results := [.lit (.bool false)], args := [d1, d2] }
  | _ => none }
def FnExactStandingOfWrongFalsely : Prop := fnExactStandingOfRow.holds Try.pinned (OpenSpec.ofChange fnExactStandingOfWrong)

/-- 'laws.FnDiscussed': WHATEVER THE INPUT: true; the input reads as it did. -/
def fnDiscussedSpec : ChangeSpec := { name := "fnDiscussed", fn := fun _ => fun
  | [d1, d2] => { results := [.lit (.bool true)], args := [d1, d2] }
  | _ => none }
def fnDiscussedRow : OpenClaim := { program := "yteejfjgofpolkaa", sum := "d23eaf30a8296610005c11b71174d8e90ce883b83cfd5c5823f17e132717003e", func := "loop.example/g01095/laws.FnDiscussed", spec := "fnDiscussed", unfollowed := true, recurses := true, apart := false }
def FnDiscussedSaid : Prop := fnDiscussedRow.holds Try.pinned (OpenSpec.ofChange fnDiscussedSpec)

/-- ITS FALSE NEIGHBOUR: 'it returns false'. Refute it at one input. -/
def fnDiscussedWrong : ChangeSpec := { name := "fnDiscussed", fn := fun _ => fun
  | [d1, d2] => { results := [.lit (.bool false)], args := [d1, d2] }
  | _ => none }
def FnDiscussedWrongFalsely : Prop := fnDiscussedRow.holds Try.pinned (OpenSpec.ofChange fnDiscussedWrong)

/-- 'laws.FnStands': WHATEVER THE INPUT: true; the input reads as it did. -/
def fnStandsSpec : ChangeSpec := { name := "fnStands", fn := fun _ => fun
  | [d1, d2] => { results := [.lit (.bool true)], args := [d1, d2] }
  | _ => none }
def fnStandsRow : OpenClaim := { program := "yteejfjgofpolkaa", sum := "d23eaf30a8296610005c11b71174d8e90ce883b83cfd5c5823f17e132717003e", func := "loop.example/g01095/laws.FnStands", spec := "fnStands", unfollowed := true, recurses := true, apart := false }
def FnStandsSaid : Prop := fnStandsRow.holds Try.pinned (OpenSpec.ofChange fnStandsSpec)

/-- ITS FALSE NEIGHBOUR: 'it returns false'. Refute it at one input. -/
def fnStandsWrong : ChangeSpec := { name := "fnStands", fn := fun _ => fun
  | [d1, d2] => { results := [.lit (.bool false)], args := [d1, d2] }
  | _ => none }
def FnStandsWrongFalsely : Prop := fnStandsRow.holds Try.pinned (OpenSpec.ofChange fnStandsWrong)

/-- 'laws.FnReduct': WHATEVER THE INPUT: true; the input reads as it did. -/
def fnReductSpec : ChangeSpec := { name := "fnReduct", fn := fun _ => fun
  | [d1, d2] => { results := [.lit (.bool true)], args := [d1, d2] }
  | _ => none }
def fnReductRow : OpenClaim := { program := "yteejfjgofpolkaa", sum := "d23eaf30a8296610005c11b71174d8e90ce883b83cfd5c5823f17e132717003e", func := "loop.example/g01095/laws.FnReduct", spec := "fnReduct", unfollowed := true, recurses := true, apart := false }
def FnReductSaid : Prop := fnReductRow.holds Try.pinned (OpenSpec.ofChange fnReductSpec)

/-- ITS FALSE NEIGHBOUR: 'it returns false'. Refute it at one input. -/
def fnReductWrong : ChangeSpec := { name := "fnReduct", fn := fun _ => fun
  | [d1, d2] => { results := [.lit (.bool false)], args := [d1, d2] }
  | _ => none }
def FnReductWrongFalsely : Prop := fnReductRow.holds Try.pinned (OpenSpec.ofChange fnReductWrong)

/-- 'laws.FnPreferred': WHATEVER THE INPUT: true; the input reads as it did. -/
def fnPreferredSpec : ChangeSpec := { name := "fnPreferred", fn := fun _ => fun
  | [d1, d2] => { results := [.lit (.bool true)], args := [d1, d2] }
  | _ => none }
def fnPreferredRow : OpenClaim := { program := "yteejfjgofpolkaa", sum := "d23eaf30a8296610005c11b71174d8e90ce883b83cfd5c5823f17e132717003e", func := "loop.example/g01095/laws.FnPreferred", spec := "fnPreferred", unfollowed := true, recurses := true, apart := false }
def FnPreferredSaid : Prop := fnPreferredRow.holds Try.pinned (OpenSpec.ofChange fnPreferredSpec)

/-- ITS FALSE NEIGHBOUR: 'it returns false'. Refute it at one input. -/
def fnPreferredWrong : ChangeSpec := { name := "fnPreferred", fn := fun _ => fun
  | [d1, d2] => { results := [.lit (.bool false)], args := [d1, d2] }
  | _ => none }
def FnPreferredWrongFalsely : Prop := fnPreferredRow.holds Try.pinned (OpenSpec.ofChange fnPreferredWrong)

/- THE SECOND FORM. 'bulk': how many values and letters a reading holds, each counted each time it is reached (what is shared counts as often as it is met; a slice's spare places count too). A statement '..UptoSaid' is the law's where the arguments, and the package variables that the reading takes, are together of bulk at most 1048576: NARROWER than '..Said'. Prove '..Said' where nothing that the law and all that it calls make is longer than what came in: it says more and counts as full. Else prove '..UptoSaid'. A law counts once. -/
mutual
def uptoBulk {H : Type} : DataW H → Nat
  | .lit (.string bytes) => bytes.length + 1
  | .lit _ => 1
  | .nil => 1
  | .ptr d => uptoBulk d + 1
  | .slice elems spare => uptoBulkAll elems + uptoBulkAll spare + 1
  | .agg parts => uptoBulkAll parts + 1
  | .iface _ d => uptoBulk d + 1
  | .map entries => uptoBulkEntries entries + 1
  | .held _ => 1
def uptoBulkAll {H : Type} : List (DataW H) → Nat
  | [] => 0
  | d :: r => uptoBulk d + uptoBulkAll r
def uptoBulkEntries {H : Type} : List (Lit × DataW H) → Nat
  | [] => 0
  | x :: r => uptoBulkEntry x + uptoBulkEntries r
def uptoBulkEntry {H : Type} : Lit × DataW H → Nat
  | (.string bytes, d) => bytes.length + uptoBulk d + 1
  | (_, d) => uptoBulk d + 1
 end
def uptoSmall : (H : Type) → List (DataW H) → Bool := fun _ ds => decide (uptoBulkAll ds ≤ 1048576)
def OpenSpec.upto (s : _root_.Go.ChangeSpec) : _root_.Go.OpenSpec := { _root_.Go.OpenSpec.ofChange s with cond := some uptoSmall }

/-- 'laws.FnRounds', WHERE WHAT IT READS IS OF BULK AT MOST 1048576: true; the input reads as it did. -/
def fnRoundsUptoRow : OpenClaim := { program := "yteejfjgofpolkaa", sum := "d23eaf30a8296610005c11b71174d8e90ce883b83cfd5c5823f17e132717003e", func := "loop.example/g01095/laws.FnRounds", spec := "fnRounds", apart := false, narrowed := true }
def FnRoundsUptoSaid : Prop := fnRoundsUptoRow.holds Try.pinned (OpenSpec.upto fnRoundsSpec)

/-- 'laws.FnExactDiscuss', WHERE WHAT IT READS IS OF BULK AT MOST 1048576: true; the input reads as it did. -/
def fnExactDiscussUptoRow : OpenClaim := { program := "yteejfjgofpolkaa", sum := "d23eaf30a8296610005c11b71174d8e90ce883b83cfd5c5823f17e132717003e", func := "loop.example/g01095/laws.FnExactDiscuss", spec := "fnExactDiscuss", unfollowed := true, recurses := true, apart := false, narrowed := true }
def FnExactDiscussUptoSaid : Prop := fnExactDiscussUptoRow.holds Try.pinned (OpenSpec.upto fnExactDiscussSpec)

/-- 'laws.FnExactStrategyFor', WHERE WHAT IT READS IS OF BULK AT MOST 1048576: true; the input reads as it did. -/
def fnExactStrategyForUptoRow : OpenClaim := { program := "yteejfjgofpolkaa", sum := "d23eaf30a8296610005c11b71174d8e90ce883b83cfd5c5823f17e132717003e", func := "loop.example/g01095/laws.FnExactStrategyFor", spec := "fnExactStrategyFor", apart := false, narrowed := true }
def FnExactStrategyForUptoSaid : Prop := fnExactStrategyForUptoRow.holds Try.pinned (OpenSpec.upto fnExactStrategyForSpec)

/-- 'laws.FnExactIdealSet', WHERE WHAT IT READS IS OF BULK AT MOST 1048576: true; the input reads as it did. -/
def fnExactIdealSetUptoRow : OpenClaim := { program := "yteejfjgofpolkaa", sum := "d23eaf30a8296610005c11b71174d8e90ce883b83cfd5c5823f17e132717003e", func := "loop.example/g01095/laws.FnExactIdealSet", spec := "fnExactIdealSet", unfollowed := true, recurses := true, apart := false, narrowed := true }
def FnExactIdealSetUptoSaid : Prop := fnExactIdealSetUptoRow.holds Try.pinned (OpenSpec.upto fnExactIdealSetSpec)

/-- 'laws.FnExactStandingOf', WHERE WHAT IT READS IS OF BULK AT MOST 1048576: true; the input reads as it did. -/
def fnExactStandingOfUptoRow : OpenClaim := { program := "yteejfjgofpolkaa", sum := "d23eaf30a8296610005c11b71174d8e90ce883b83cfd5c5823f17e132717003e", func := "loop.example/g01095/laws.FnExactStandingOf", spec := "fnExactStandingOf", unfollowed := true, recurses := true, apart := false, narrowed := true }
def FnExactStandingOfUptoSaid : Prop := fnExactStandingOfUptoRow.holds Try.pinned (OpenSpec.upto fnExactStandingOfSpec)

/-- 'laws.FnDiscussed', WHERE WHAT IT READS IS OF BULK AT MOST 1048576: true; the input reads as it did. -/
def fnDiscussedUptoRow : OpenClaim := { program := "yteejfjgofpolkaa", sum := "d23eaf30a8296610005c11b71174d8e90ce883b83cfd5c5823f17e132717003e", func := "loop.example/g01095/laws.FnDiscussed", spec := "fnDiscussed", unfollowed := true, recurses := true, apart := false, narrowed := true }
def FnDiscussedUptoSaid : Prop := fnDiscussedUptoRow.holds Try.pinned (OpenSpec.upto fnDiscussedSpec)

/-- 'laws.FnStands', WHERE WHAT IT READS IS OF BULK AT MOST 1048576: true; the input reads as it did. -/
def fnStandsUptoRow : OpenClaim := { program := "yteejfjgofpolkaa", sum := "d23eaf30a8296610005c11b71174d8e90ce883b83cfd5c5823f17e132717003e", func := "loop.example/g01095/laws.FnStands", spec := "fnStands", unfollowed := true, recurses := true, apart := false, narrowed := true }
def FnStandsUptoSaid : Prop := fnStandsUptoRow.holds Try.pinned (OpenSpec.upto fnStandsSpec)

/-- 'laws.FnReduct', WHERE WHAT IT READS IS OF BULK AT MOST 1048576: true; the input reads as it did. -/
def fnReductUptoRow : OpenClaim := { program := "yteejfjgofpolkaa", sum := "d23eaf30a8296610005c11b71174d8e90ce883b83cfd5c5823f17e132717003e", func := "loop.example/g01095/laws.FnReduct", spec := "fnReduct", unfollowed := true, recurses := true, apart := false, narrowed := true }
def FnReductUptoSaid : Prop := fnReductUptoRow.holds Try.pinned (OpenSpec.upto fnReductSpec)

/-- 'laws.FnPreferred', WHERE WHAT IT READS IS OF BULK AT MOST 1048576: true; the input reads as it did. -/
def fnPreferredUptoRow : OpenClaim := { program := "yteejfjgofpolkaa", sum := "d23eaf30a8296610005c11b71174d8e90ce883b83cfd5c5823f17e132717003e", func := "loop.example/g01095/laws.FnPreferred", spec := "fnPreferred", unfollowed := true, recurses := true, apart := false, narrowed := true }
def FnPreferredUptoSaid : Prop := fnPreferredUptoRow.holds Try.pinned (OpenSpec.upto fnPreferredSpec)

end Rows
end Go.Proofs.Yteejfjgofpolkaa
