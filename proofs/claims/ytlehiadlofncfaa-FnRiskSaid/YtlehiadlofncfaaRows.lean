/-
  No cell of these rows narrows 'for every input' (looked for: loops, veiled, ifaces, maps, wideKeys, modest, calm, conditions, laid).
  DERIVED. THE GIVEN ROWS OF THIS SEAT. 12 by the template 'for every input the law returns true; each argument reads behind the call as it read before'; 0 by the template 'total and deterministic' (their statements: YtlehiadlofncfaaTotals.lean).
  GIVEN WITH THE SEED: the statements are not yours to turn. If you find one false, say at which input.
  Laid BY PROGRAM, IN A SANDBOX (cutbox-rows.mjs): the forced cells as the released guide's own fill.sh prints them over the translation 05009470d4fa7c1e… (all of the seat's roots in one cut). By AI agents, Wed Nov 11 2026. No macro, syntax, notation, axiom, sorry.
-/
import Derived.Test.YtlehiadlofncfaaChecked
import GoSem.Claim
import GoSem.ClaimJoined
import GoSem.ClaimMapViews
import Derived.JoinedTies
import Derived.KernelRfl
namespace Go.Proofs.Ytlehiadlofncfaa
/- THE CELL 'sum', in the pinned program and in every row, IS THE sha256 OF THE DUMP (.gsa) THAT YtlehiadlofncfaaProg.lean LOADS. Nothing in Lean hashes anything: it is a label: what it is worth is what the hold of that sum in a sandbox is worth. -/
noncomputable def Try.pinned : Pinned := { name := "ytlehiadlofncfaa", sum := "05009470d4fa7c1ed2c1af2aba1da2ed131858adcdf953bd65da2e58824955e1", checked := Try.checked }
namespace Rows
def none {H : Type} : Left H := { results := [], args := [] }

/-- 'laws.FnExactIsSeal': WHATEVER THE INPUT: true; the input reads as it did. -/
def fnExactIsSealSpec : ChangeSpec := { name := "fnExactIsSeal", fn := fun _ => fun
  | [d] => { results := [.lit (.bool true)], args := [d] }
  | _ => none }
def fnExactIsSealRow : OpenClaim := { program := "ytlehiadlofncfaa", sum := "05009470d4fa7c1ed2c1af2aba1da2ed131858adcdf953bd65da2e58824955e1", func := "loop.example/g01095/laws.FnExactIsSeal", spec := "fnExactIsSeal", apart := false }
def FnExactIsSealSaid : Prop := fnExactIsSealRow.holds Try.pinned (OpenSpec.ofChange fnExactIsSealSpec)

/-- ITS FALSE NEIGHBOUR: 'it returns false'. Refute it at one input. -/
def fnExactIsSealWrong : ChangeSpec := { name := "fnExactIsSeal", fn := fun _ => fun
  | [d] => { results := [.lit (.bool false)], args := [d] }
  | _ => none }
def FnExactIsSealWrongFalsely : Prop := fnExactIsSealRow.holds Try.pinned (OpenSpec.ofChange fnExactIsSealWrong)

/-- 'laws.FnExactSealOf': WHATEVER THE INPUT: true; the input reads as it did. -/
def fnExactSealOfSpec : ChangeSpec := { name := "fnExactSealOf", fn := fun _ => fun
  | [d1, d2] => { results := [.lit (.bool true)], args := [d1, d2] }
  | _ => none }
def fnExactSealOfRow : OpenClaim := { program := "ytlehiadlofncfaa", sum := "05009470d4fa7c1ed2c1af2aba1da2ed131858adcdf953bd65da2e58824955e1", func := "loop.example/g01095/laws.FnExactSealOf", spec := "fnExactSealOf", apart := false }
def FnExactSealOfSaid : Prop := fnExactSealOfRow.holds Try.pinned (OpenSpec.ofChange fnExactSealOfSpec)

/-- ITS FALSE NEIGHBOUR: 'it returns false'. Refute it at one input. -/
def fnExactSealOfWrong : ChangeSpec := { name := "fnExactSealOf", fn := fun _ => fun
  | [d1, d2] => { results := [.lit (.bool false)], args := [d1, d2] }
  | _ => none }
def FnExactSealOfWrongFalsely : Prop := fnExactSealOfRow.holds Try.pinned (OpenSpec.ofChange fnExactSealOfWrong)

/-- 'laws.FnExactChallengeOf': WHATEVER THE INPUT: true; the input reads as it did. -/
def fnExactChallengeOfSpec : ChangeSpec := { name := "fnExactChallengeOf", fn := fun _ => fun
  | [d] => { results := [.lit (.bool true)], args := [d] }
  | _ => none }
def fnExactChallengeOfRow : OpenClaim := { program := "ytlehiadlofncfaa", sum := "05009470d4fa7c1ed2c1af2aba1da2ed131858adcdf953bd65da2e58824955e1", func := "loop.example/g01095/laws.FnExactChallengeOf", spec := "fnExactChallengeOf", unfollowed := true, recurses := true, apart := false }
def FnExactChallengeOfSaid : Prop := fnExactChallengeOfRow.holds Try.pinned (OpenSpec.ofChange fnExactChallengeOfSpec)

/-- ITS FALSE NEIGHBOUR: 'it returns false'. Refute it at one input. -/
def fnExactChallengeOfWrong : ChangeSpec := { name := "fnExactChallengeOf", fn := fun _ => fun
  | [d] => { results := [.lit (.bool false)], args := [d] }
  | _ => none }
def FnExactChallengeOfWrongFalsely : Prop := fnExactChallengeOfRow.holds Try.pinned (OpenSpec.ofChange fnExactChallengeOfWrong)

/-- 'laws.FnExactAuditOrder': WHATEVER THE INPUT: true; the input reads as it did. -/
def fnExactAuditOrderSpec : ChangeSpec := { name := "fnExactAuditOrder", fn := fun _ => fun
  | [d1, d2] => { results := [.lit (.bool true)], args := [d1, d2] }
  | _ => none }
def fnExactAuditOrderRow : OpenClaim := { program := "ytlehiadlofncfaa", sum := "05009470d4fa7c1ed2c1af2aba1da2ed131858adcdf953bd65da2e58824955e1", func := "loop.example/g01095/laws.FnExactAuditOrder", spec := "fnExactAuditOrder", apart := false }
def FnExactAuditOrderSaid : Prop := fnExactAuditOrderRow.holds Try.pinned (OpenSpec.ofChange fnExactAuditOrderSpec)

/-- ITS FALSE NEIGHBOUR: 'it returns false'. Refute it at one input. -/
def fnExactAuditOrderWrong : ChangeSpec := { name := "fnExactAuditOrder", fn := fun _ => fun
  | [d1, d2] => { results := [.lit (.bool false)], args := [d1, d2] }
  | _ => none }
def FnExactAuditOrderWrongFalsely : Prop := fnExactAuditOrderRow.holds Try.pinned (OpenSpec.ofChange fnExactAuditOrderWrong)

/-- 'laws.FnExactJoinKeys': WHATEVER THE INPUT: true; the input reads as it did. -/
def fnExactJoinKeysSpec : ChangeSpec := { name := "fnExactJoinKeys", fn := fun _ => fun
  | [d1, d2] => { results := [.lit (.bool true)], args := [d1, d2] }
  | _ => none }
def fnExactJoinKeysRow : OpenClaim := { program := "ytlehiadlofncfaa", sum := "05009470d4fa7c1ed2c1af2aba1da2ed131858adcdf953bd65da2e58824955e1", func := "loop.example/g01095/laws.FnExactJoinKeys", spec := "fnExactJoinKeys", unfollowed := true, recurses := true, apart := false }
def FnExactJoinKeysSaid : Prop := fnExactJoinKeysRow.holds Try.pinned (OpenSpec.ofChange fnExactJoinKeysSpec)

/-- ITS FALSE NEIGHBOUR: 'it returns false'. Refute it at one input. -/
def fnExactJoinKeysWrong : ChangeSpec := { name := "fnExactJoinKeys", fn := fun _ => fun
  | [d1, d2] => { results := [.lit (.bool false)], args := [d1, d2] }
  | _ => none }
def FnExactJoinKeysWrongFalsely : Prop := fnExactJoinKeysRow.holds Try.pinned (OpenSpec.ofChange fnExactJoinKeysWrong)

/-- 'laws.FnExactRiskOf': WHATEVER THE INPUT: true; the input reads as it did. -/
def fnExactRiskOfSpec : ChangeSpec := { name := "fnExactRiskOf", fn := fun _ => fun
  | [d1, d2, d3] => { results := [.lit (.bool true)], args := [d1, d2, d3] }
  | _ => none }
def fnExactRiskOfRow : OpenClaim := { program := "ytlehiadlofncfaa", sum := "05009470d4fa7c1ed2c1af2aba1da2ed131858adcdf953bd65da2e58824955e1", func := "loop.example/g01095/laws.FnExactRiskOf", spec := "fnExactRiskOf", apart := false }
def FnExactRiskOfSaid : Prop := fnExactRiskOfRow.holds Try.pinned (OpenSpec.ofChange fnExactRiskOfSpec)

/-- ITS FALSE NEIGHBOUR: 'it returns false'. Refute it at one input. -/
def fnExactRiskOfWrong : ChangeSpec := { name := "fnExactRiskOf", fn := fun _ => fun
  | [d1, d2, d3] => { results := [.lit (.bool false)], args := [d1, d2, d3] }
  | _ => none }
def FnExactRiskOfWrongFalsely : Prop := fnExactRiskOfRow.holds Try.pinned (OpenSpec.ofChange fnExactRiskOfWrong)

/-- 'laws.FnRisk': WHATEVER THE INPUT: true; the input reads as it did. -/
def fnRiskSpec : ChangeSpec := { name := "fnRisk", fn := fun _ => fun
  | [d1, d2] => { results := [.lit (.bool true)], args := [d1, d2] }
  | _ => none }
def fnRiskRow : OpenClaim := { program := "ytlehiadlofncfaa", sum := "05009470d4fa7c1ed2c1af2aba1da2ed131858adcdf953bd65da2e58824955e1", func := "loop.example/g01095/laws.FnRisk", spec := "fnRisk", apart := false }
def FnRiskSaid : Prop := fnRiskRow.holds Try.pinned (OpenSpec.ofChange fnRiskSpec)

/-- ITS FALSE NEIGHBOUR: 'it returns false'. Refute it at one input. -/
def fnRiskWrong : ChangeSpec := { name := "fnRisk", fn := fun _ => fun
  | [d1, d2] => { results := [.lit (.bool false)], args := [d1, d2] }
  | _ => none }
def FnRiskWrongFalsely : Prop := fnRiskRow.holds Try.pinned (OpenSpec.ofChange fnRiskWrong)

/-- 'laws.FnExactAdoptedBy': WHATEVER THE INPUT: true; the input reads as it did. -/
def fnExactAdoptedBySpec : ChangeSpec := { name := "fnExactAdoptedBy", fn := fun _ => fun
  | [d1, d2] => { results := [.lit (.bool true)], args := [d1, d2] }
  | _ => none }
def fnExactAdoptedByRow : OpenClaim := { program := "ytlehiadlofncfaa", sum := "05009470d4fa7c1ed2c1af2aba1da2ed131858adcdf953bd65da2e58824955e1", func := "loop.example/g01095/laws.FnExactAdoptedBy", spec := "fnExactAdoptedBy", unfollowed := true, recurses := true, apart := false }
def FnExactAdoptedBySaid : Prop := fnExactAdoptedByRow.holds Try.pinned (OpenSpec.ofChange fnExactAdoptedBySpec)

/-- ITS FALSE NEIGHBOUR: 'it returns false'. Refute it at one input. -/
def fnExactAdoptedByWrong : ChangeSpec := { name := "fnExactAdoptedBy", fn := fun _ => fun
  | [d1, d2] => { results := [.lit (.bool false)], args := [d1, d2] }
  | _ => none }
def FnExactAdoptedByWrongFalsely : Prop := fnExactAdoptedByRow.holds Try.pinned (OpenSpec.ofChange fnExactAdoptedByWrong)

/-- 'laws.FnExactOpenCount': WHATEVER THE INPUT: true; the input reads as it did. -/
def fnExactOpenCountSpec : ChangeSpec := { name := "fnExactOpenCount", fn := fun _ => fun
  | [d1, d2] => { results := [.lit (.bool true)], args := [d1, d2] }
  | _ => none }
def fnExactOpenCountRow : OpenClaim := { program := "ytlehiadlofncfaa", sum := "05009470d4fa7c1ed2c1af2aba1da2ed131858adcdf953bd65da2e58824955e1", func := "loop.example/g01095/laws.FnExactOpenCount", spec := "fnExactOpenCount", unfollowed := true, recurses := true, apart := false }
def FnExactOpenCountSaid : Prop := fnExactOpenCountRow.holds Try.pinned (OpenSpec.ofChange fnExactOpenCountSpec)

/-- ITS FALSE NEIGHBOUR: 'it returns false'. Refute it at one input. -/
def fnExactOpenCountWrong : ChangeSpec := { name := "fnExactOpenCount", fn := fun _ => fun
  | [d1, d2] => { results := [.lit (.bool false)], args := [d1, d2] }
  | _ => none }
def FnExactOpenCountWrongFalsely : Prop := fnExactOpenCountRow.holds Try.pinned (OpenSpec.ofChange fnExactOpenCountWrong)

/-- 'laws.FnExactJoinSeals': WHATEVER THE INPUT: true; the input reads as it did. -/
def fnExactJoinSealsSpec : ChangeSpec := { name := "fnExactJoinSeals", fn := fun _ => fun
  | [d1, d2] => { results := [.lit (.bool true)], args := [d1, d2] }
  | _ => none }
def fnExactJoinSealsRow : OpenClaim := { program := "ytlehiadlofncfaa", sum := "05009470d4fa7c1ed2c1af2aba1da2ed131858adcdf953bd65da2e58824955e1", func := "loop.example/g01095/laws.FnExactJoinSeals", spec := "fnExactJoinSeals", unfollowed := true, recurses := true, apart := false }
def FnExactJoinSealsSaid : Prop := fnExactJoinSealsRow.holds Try.pinned (OpenSpec.ofChange fnExactJoinSealsSpec)

/-- ITS FALSE NEIGHBOUR: 'it returns false'. Refute it at one input. -/
def fnExactJoinSealsWrong : ChangeSpec := { name := "fnExactJoinSeals", fn := fun _ => fun
  | [d1, d2] => { results := [.lit (.bool false)], args := [d1, d2] }
  | _ => none }
def FnExactJoinSealsWrongFalsely : Prop := fnExactJoinSealsRow.holds Try.pinned (OpenSpec.ofChange fnExactJoinSealsWrong)

/-- 'laws.FnJoined': WHATEVER THE INPUT: true; the input reads as it did. -/
def fnJoinedSpec : ChangeSpec := { name := "fnJoined", fn := fun _ => fun
  | [d1, d2] => { results := [.lit (.bool true)], args := [d1, d2] }
  | _ => none }
def fnJoinedRow : OpenClaim := { program := "ytlehiadlofncfaa", sum := "05009470d4fa7c1ed2c1af2aba1da2ed131858adcdf953bd65da2e58824955e1", func := "loop.example/g01095/laws.FnJoined", spec := "fnJoined", unfollowed := true, recurses := true, apart := false }
def FnJoinedSaid : Prop := fnJoinedRow.holds Try.pinned (OpenSpec.ofChange fnJoinedSpec)

/-- ITS FALSE NEIGHBOUR: 'it returns false'. Refute it at one input. -/
def fnJoinedWrong : ChangeSpec := { name := "fnJoined", fn := fun _ => fun
  | [d1, d2] => { results := [.lit (.bool false)], args := [d1, d2] }
  | _ => none }
def FnJoinedWrongFalsely : Prop := fnJoinedRow.holds Try.pinned (OpenSpec.ofChange fnJoinedWrong)

/-- 'laws.FnExactSampleFor': WHATEVER THE INPUT: true; the input reads as it did. -/
def fnExactSampleForSpec : ChangeSpec := { name := "fnExactSampleFor", fn := fun _ => fun
  | [d1, d2, d3] => { results := [.lit (.bool true)], args := [d1, d2, d3] }
  | _ => none }
def fnExactSampleForRow : OpenClaim := { program := "ytlehiadlofncfaa", sum := "05009470d4fa7c1ed2c1af2aba1da2ed131858adcdf953bd65da2e58824955e1", func := "loop.example/g01095/laws.FnExactSampleFor", spec := "fnExactSampleFor", apart := false }
def FnExactSampleForSaid : Prop := fnExactSampleForRow.holds Try.pinned (OpenSpec.ofChange fnExactSampleForSpec)

/-- ITS FALSE NEIGHBOUR: 'it returns false'. Refute it at one input. -/
def fnExactSampleForWrong : ChangeSpec := { name := "fnExactSampleFor", fn := fun _ => fun
  | [d1, d2, d3] => { results := [.lit (.bool false)], args := [d1, d2, d3] }
  | _ => none }
def FnExactSampleForWrongFalsely : Prop := fnExactSampleForRow.holds Try.pinned (OpenSpec.ofChange fnExactSampleForWrong)

/- THE SECOND FORM. 'bulk': how many values and letters a reading holds, each counted each time it is reached (what is shared counts as often as it is met; a slice's spare places count too). A statement '..UptoSaid' is the law's where the arguments, and the package variables that the reading takes, are together of bulk at most 1048576: NARROWER than '..Said'. Prove '..Said' where nothing that the law and all that it calls make is longer than what came in: it says more and counts as full. Else prove '..UptoSaid'. A law counts once. -/
mutual
def uptoBulk {H : Type} : DataW H → Nat
  | .lit (.string bytes) => bytes.length + 1
  | .lit _ => 1
  | .nil => 1
  | .ptr d => uptoBulk d + 1
  | .slice elems spare => uptoBulkAll elems + uptoBulkAll spare + 1
  | .agg parts => uptoBulkAll parts + 1
  | .iface _ d => uptoBulk d + 1
  | .map entries => uptoBulkEntries entries + 1
  | .held _ => 1
def uptoBulkAll {H : Type} : List (DataW H) → Nat
  | [] => 0
  | d :: r => uptoBulk d + uptoBulkAll r
def uptoBulkEntries {H : Type} : List (Lit × DataW H) → Nat
  | [] => 0
  | x :: r => uptoBulkEntry x + uptoBulkEntries r
def uptoBulkEntry {H : Type} : Lit × DataW H → Nat
  | (.string bytes, d) => bytes.length + uptoBulk d + 1
  | (_, d) => uptoBulk d + 1
 end
def uptoSmall : (H : Type) → List (DataW H) → Bool := fun _ ds => decide (uptoBulkAll ds ≤ 1048576)
def OpenSpec.upto (s : _root_.Go.ChangeSpec) : _root_.Go.OpenSpec := { _root_.Go.OpenSpec.ofChange s with cond := some uptoSmall }

/-- 'laws.FnExactIsSeal', WHERE WHAT IT READS IS OF BULK AT MOST 1048576: true; the input reads as it did. -/
def fnExactIsSealUptoRow : OpenClaim := { program := "ytlehiadlofncfaa", sum := "05009470d4fa7c1ed2c1af2aba1da2ed131858adcdf953bd65da2e58824955e1", func := "loop.example/g01095/laws.FnExactIsSeal", spec := "fnExactIsSeal", apart := false, narrowed := true }
def FnExactIsSealUptoSaid : Prop := fnExactIsSealUptoRow.holds Try.pinned (OpenSpec.upto fnExactIsSealSpec)

/-- 'laws.FnExactSealOf', WHERE WHAT IT READS IS OF BULK AT MOST 1048576: true; the input reads as it did. -/
def fnExactSealOfUptoRow : OpenClaim := { program := "ytlehiadlofncfaa", sum := "05009470d4fa7c1ed2c1af2aba1da2ed131858adcdf953bd65da2e58824955e1", func := "loop.example/g01095/laws.FnExactSealOf", spec := "fnExactSealOf", apart := false, narrowed := true }
def FnExactSealOfUptoSaid : Prop := fnExactSealOfUptoRow.holds Try.pinned (OpenSpec.upto fnExactSealOfSpec)

/-- 'laws.FnExactChallengeOf', WHERE WHAT IT READS IS OF BULK AT MOST 1048576: true; the input reads as it did. -/
def fnExactChallengeOfUptoRow : OpenClaim := { program := "ytlehiadlofncfaa", sum := "05009470d4fa7c1ed2c1af2aba1da2ed131858adcdf953bd65da2e58824955e1", func := "loop.example/g01095/laws.FnExactChallengeOf", spec := "fnExactChallengeOf", unfollowed := true, recurses := true, apart := false, narrowed := true }
def FnExactChallengeOfUptoSaid : Prop := fnExactChallengeOfUptoRow.holds Try.pinned (OpenSpec.upto fnExactChallengeOfSpec)

/-- 'laws.FnExactAuditOrder', WHERE WHAT IT READS IS OF BULK AT MOST 1048576: true; the input reads as it did. -/
def fnExactAuditOrderUptoRow : OpenClaim := { program := "ytlehiadlofncfaa", sum := "05009470d4fa7c1ed2c1af2aba1da2ed131858adcdf953bd65da2e58824955e1", func := "loop.example/g01095/laws.FnExactAuditOrder", spec := "fnExactAuditOrder", apart := false, narrowed := true }
def FnExactAuditOrderUptoSaid : Prop := fnExactAuditOrderUptoRow.holds Try.pinned (OpenSpec.upto fnExactAuditOrderSpec)

/-- 'laws.FnExactJoinKeys', WHERE WHAT IT READS IS OF BULK AT MOST 1048576: true; the input reads as it did. -/
def fnExactJoinKeysUptoRow : OpenClaim := { program := "ytlehiadlofncfaa", sum := "05009470d4fa7c1ed2c1af2aba1da2ed131858adcdf953bd65da2e58824955e1", func := "loop.example/g01095/laws.FnExactJoinKeys", spec := "fnExactJoinKeys", unfollowed := true, recurses := true, apart := false, narrowed := true }
def FnExactJoinKeysUptoSaid : Prop := fnExactJoinKeysUptoRow.holds Try.pinned (OpenSpec.upto fnExactJoinKeysSpec)

/-- 'laws.FnExactRiskOf', WHERE WHAT IT READS IS OF BULK AT MOST 1048576: true; the input reads as it did. -/
def fnExactRiskOfUptoRow : OpenClaim := { program := "ytlehiadlofncfaa", sum := "05009470d4fa7c1ed2c1af2aba1da2ed131858adcdf953bd65da2e58824955e1", func := "loop.example/g01095/laws.FnExactRiskOf", spec := "fnExactRiskOf", apart := false, narrowed := true }
def FnExactRiskOfUptoSaid : Prop := fnExactRiskOfUptoRow.holds Try.pinned (OpenSpec.upto fnExactRiskOfSpec)

/-- 'laws.FnRisk', WHERE WHAT IT READS IS OF BULK AT MOST 1048576: true; the input reads as it did. -/
def fnRiskUptoRow : OpenClaim := { program := "ytlehiadlofncfaa", sum := "05009470d4fa7c1ed2c1af2aba1da2ed131858adcdf953bd65da2e58824955e1", func := "loop.example/g01095/laws.FnRisk", spec := "fnRisk", apart := false, narrowed := true }
def FnRiskUptoSaid : Prop := fnRiskUptoRow.holds Try.pinned (OpenSpec.upto fnRiskSpec)

/-- 'laws.FnExactAdoptedBy', WHERE WHAT IT READS IS OF BULK AT MOST 1048576: true; the input reads as it did. -/
def fnExactAdoptedByUptoRow : OpenClaim := { program := "ytlehiadlofncfaa", sum := "05009470d4fa7c1ed2c1af2aba1da2ed131858adcdf953bd65da2e58824955e1", func := "loop.example/g01095/laws.FnExactAdoptedBy", spec := "fnExactAdoptedBy", unfollowed := true, recurses := true, apart := false, narrowed := true }
def FnExactAdoptedByUptoSaid : Prop := fnExactAdoptedByUptoRow.holds Try.pinned (OpenSpec.upto fnExactAdoptedBySpec)

/-- 'laws.FnExactOpenCount', WHERE WHAT IT READS IS OF BULK AT MOST 1048576: true; the input reads as it did. -/
def fnExactOpenCountUptoRow : OpenClaim := { program := "ytlehiadlofncfaa", sum := "05009470d4fa7c1ed2c1af2aba1da2ed131858adcdf953bd65da2e58824955e1", func := "loop.example/g01095/laws.FnExactOpenCount", spec := "fnExactOpenCount", unfollowed := true, recurses := true, apart := false, narrowed := true }
def FnExactOpenCountUptoSaid : Prop := fnExactOpenCountUptoRow.holds Try.pinned (OpenSpec.upto fnExactOpenCountSpec)

/-- 'laws.FnExactJoinSeals', WHERE WHAT IT READS IS OF BULK AT MOST 1048576: true; the input reads as it did. -/
def fnExactJoinSealsUptoRow : OpenClaim := { program := "ytlehiadlofncfaa", sum := "05009470d4fa7c1ed2c1af2aba1da2ed131858adcdf953bd65da2e58824955e1", func := "loop.example/g01095/laws.FnExactJoinSeals", spec := "fnExactJoinSeals", unfollowed := true, recurses := true, apart := false, narrowed := true }
def FnExactJoinSealsUptoSaid : Prop := fnExactJoinSealsUptoRow.holds Try.pinned (OpenSpec.upto fnExactJoinSealsSpec)

/-- 'laws.FnJoined', WHERE WHAT IT READS IS OF BULK AT MOST 1048576: true; the input reads as it did. -/
def fnJoinedUptoRow : OpenClaim := { program := "ytlehiadlofncfaa", sum := "05009470d4fa7c1ed2c1af2aba1da2ed131858adcdf953bd65da2e58824955e1", func := "loop.example/g01095/laws.FnJoined", spec := "fnJoined", unfollowed := true, recurses := true, apart := false, narrowed := true }
def FnJoinedUptoSaid : Prop := fnJoinedUptoRow.holds Try.pinned (OpenSpec.upto fnJoinedSpec)

/-- 'laws.FnExactSampleFor', WHERE WHAT IT READS IS OF BULK AT MOST 1048576: true; the input reads as it did. -/
def fnExactSampleForUptoRow : OpenClaim := { program := "ytlehiadlofncfaa", sum := "05009470d4fa7c1ed2c1af2aba1da2ed131858adcdf953bd65da2e58824955e1", func := "loop.example/g01095/laws.FnExactSampleFor", spec := "fnExactSampleFor", apart := false, narrowed := true }
def FnExactSampleForUptoSaid : Prop := fnExactSampleForUptoRow.holds Try.pinned (OpenSpec.upto fnExactSampleForSpec)

end Rows
end Go.Proofs.Ytlehiadlofncfaa
