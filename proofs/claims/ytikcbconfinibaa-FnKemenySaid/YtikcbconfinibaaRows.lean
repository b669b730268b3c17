/-
  No cell of these rows narrows 'for every input' (looked for: loops, veiled, ifaces, maps, wideKeys, modest, calm, conditions, laid).
  DERIVED. THE GIVEN ROWS OF THIS SEAT. 4 by the template 'for every input the law returns true; each argument reads behind the call as it read before'; 0 by the template 'total and deterministic' (their statements: YtikcbconfinibaaTotals.lean).
  GIVEN WITH THE SEED: the statements are not yours to turn. If you find one false, say at which input.
  Laid BY PROGRAM, IN A SANDBOX (cutbox-rows.mjs): the forced cells as the released guide's own fill.sh prints them over the translation a73a70a42e979aea… (all of the seat's roots in one cut). By AI agents, Wed Nov 11 2026. No macro, syntax, notation, axiom, sorry.
-/
import Derived.Test.YtikcbconfinibaaChecked
import GoSem.Claim
import GoSem.ClaimJoined
import GoSem.ClaimMapViews
import Derived.JoinedTies
import Derived.KernelRfl
namespace Go.Proofs.Ytikcbconfinibaa
/- THE CELL 'sum', in the pinned program and in every row, IS THE sha256 OF THE DUMP (.gsa) THAT YtikcbconfinibaaProg.lean LOADS. Nothing in Lean hashes anything: it is a label: what it is worth is what the hold of that sum in a sandbox is worth. -/
noncomputable def Try.pinned : Pinned := { name := "ytikcbconfinibaa", sum := "a73a70a42e979aea961c6f6565602a68177a24b5a945c10cb227eef50fd1b134", checked := Try.checked }
namespace Rows
def none {H : Type} : Left H := { results := [], args := [] }

/-- 'laws.FnReversed': WHATEVER THE INPUT: true; the input reads as it did. -/
def fnReversedSpec : ChangeSpec := { name := "fnReversed", fn := fun _ => fun
  | [d1, d2] => { results := [.lit (.bool true)], args := [d1, d2] }
  | _ => none }
def fnReversedRow : OpenClaim := { program := "ytikcbconfinibaa", sum := "a73a70a42e979aea961c6f6565602a68177a24b5a945c10cb227eef50fd1b134", func := "loop.example/g01095/laws.FnReversed", spec := "fnReversed", recurses := true, apart := false }
def FnReversedSaid : Prop := fnReversedRow.holds Try.pinned (OpenSpec.ofChange fnReversedSpec)

/-- ITS FALSE NEIGHBOUR: 'it returns false'. Refute it at one input. -/
def fnReversedWrong : ChangeSpec := { name := "fnReversed", fn := fun _ => fun
  | [d1, d2] => { results := [.lit (.bool false)], args := [d1, d2] }
  | _ => none }
def FnReversedWrongFalsely : Prop := fnReversedRow.holds Try.pinned (OpenSpec.ofChange fnReversedWrong)

/-- 'laws.FnRaised': WHATEVER THE INPUT: true; the input reads as it did. -/
def fnRaisedSpec : ChangeSpec := { name := "fnRaised", fn := fun _ => fun
  | [d1, d2] => { results := [.lit (.bool true)], args := [d1, d2] }
  | _ => none }
def fnRaisedRow : OpenClaim := { program := "ytikcbconfinibaa", sum := "a73a70a42e979aea961c6f6565602a68177a24b5a945c10cb227eef50fd1b134", func := "loop.example/g01095/laws.FnRaised", spec := "fnRaised", recurses := true, apart := false }
def FnRaisedSaid : Prop := fnRaisedRow.holds Try.pinned (OpenSpec.ofChange fnRaisedSpec)

/-- ITS FALSE NEIGHBOUR: 'it returns false'. Refute it at one input. -/
def fnRaisedWrong : ChangeSpec := { name := "fnRaised", fn := fun _ => fun
  | [d1, d2] => { results := [.lit (.bool false)], args := [d1, d2] }
  | _ => none }
def FnRaisedWrongFalsely : Prop := fnRaisedRow.holds Try.pinned (OpenSpec.ofChange fnRaisedWrong)

/-- 'laws.FnKemeny': WHATEVER THE INPUT: true; the input reads as it did. -/
def fnKemenySpec : ChangeSpec := { name := "fnKemeny", fn := fun _ => fun
  | [d1, d2] => { results := [.lit (.bool true)], args := [d1, d2] }
  | _ => none }
def fnKemenyRow : OpenClaim := { program := "ytikcbconfinibaa", sum := "a73a70a42e979aea961c6f6565602a68177a24b5a945c10cb227eef50fd1b134", func := "loop.example/g01095/laws.FnKemeny", spec := "fnKemeny", unfollowed := true, recurses := true, apart := false }
def FnKemenySaid : Prop := fnKemenyRow.holds Try.pinned (OpenSpec.ofChange fnKemenySpec)

/-- ITS FALSE NEIGHBOUR: 'it returns false'. Refute it at one input. -/
def fnKemenyWrong : ChangeSpec := { name := "fnKemeny", fn := fun _ => fun
  | [d1, d2] => { results := [.lit (.bool false)], args := [d1, d2] }
  | _ => none }
def FnKemenyWrongFalsely : Prop := fnKemenyRow.holds Try.pinned (OpenSpec.ofChange fnKemenyWrong)

/-- 'laws.FnStrongest': WHATEVER THE INPUT: true; the input reads as it did. -/
def fnStrongestSpec : ChangeSpec := { name := "fnStrongest", fn := fun _ => fun
  | [d1, d2] => { results := [.lit (.bool true)], args := [d1, d2] }
  | _ => none }
def fnStrongestRow : OpenClaim := { program := "ytikcbconfinibaa", sum := "a73a70a42e979aea961c6f6565602a68177a24b5a945c10cb227eef50fd1b134", func := "loop.example/g01095/laws.FnStrongest", spec := "fnStrongest", unfollowed := true, recurses := true, apart := false }
def FnStrongestSaid : Prop := fnStrongestRow.holds Try.pinned (OpenSpec.ofChange fnStrongestSpec)

/-- ITS FALSE NEIGHBOUR: 'it returns false'. Refute it at one input. -/
def fnStrongestWrong : ChangeSpec := { name := "fnStrongest", fn := fun _ => fun
  | [d1, d2] => { results := [.lit (.bool false)], args := [d1, d2] }
  | _ => none }
def FnStrongestWrongFalsely : Prop := fnStrongestRow.holds Try.pinned (OpenSpec.ofChange fnStrongestWrong)

/- THE SECOND FORM. 'bulk': how many values and letters a reading holds, each counted each time it is reached (what is shared counts as often as it is met; a slice's spare places count too). A statement '..UptoSaid' is the law's where the arguments, and the package variables that the reading takes, are together of bulk at most 1048576: NARROWER than '..Said'. Prove '..Said' where nothing that the law and all that it calls make is longer than what came in: it says more and counts as full. Else prove '..UptoSaid'. A law counts once. -/
mutual
def uptoBulk {H : Type} : DataW H → Nat
  | .lit (.string bytes) => bytes.length + 1
  | .lit _ => 1
  | .nil => 1
  | .ptr d => uptoBulk d + 1
  | .slice elems spare => uptoBulkAll elems + uptoBulkAll spare + 1
  | .agg parts => uptoBulkAll parts + 1
  | .iface _ d => uptoBulk d + 1
  | .map entries => uptoBulkEntries entries + 1
  | .held _ => 1
def uptoBulkAll {H : Type} : List (DataW H) → Nat
  | [] => 0
  | d :: r => uptoBulk d + uptoBulkAll r
def uptoBulkEntries {H : Type} : List (Lit × DataW H) → Nat
  | [] => 0
  | x :: r => uptoBulkEntry x + uptoBulkEntries r
def uptoBulkEntry {H : Type} : Lit × DataW H → Nat
  | (.string bytes, d) => bytes.length + uptoBulk d + 1
  | (_, d) => uptoBulk d + 1
 end
def uptoSmall : (H : Type) → List (DataW H) → Bool := fun _ ds => decide (uptoBulkAll ds ≤ 1048576)
def OpenSpec.upto (s : _root_.Go.ChangeSpec) : _root_.Go.OpenSpec := { _root_.Go.OpenSpec.ofChange s with cond := some uptoSmall }

/-- 'laws.FnReversed', WHERE WHAT IT READS IS OF BULK AT MOST 1048576: true; the input reads as it did. -/
def fnReversedUptoRow : OpenClaim := { program := "ytikcbconfinibaa", sum := "a73a70a42e979aea961c6f6565602a68177a24b5a945c10cb227eef50fd1b134", func := "loop.example/g01095/laws.FnReversed", spec := "fnReversed", recurses := true, apart := false, narrowed := true }
def FnReversedUptoSaid : Prop := fnReversedUptoRow.holds Try.pinned (OpenSpec.upto fnReversedSpec)

/-- 'laws.FnRaised', WHERE WHAT IT READS IS OF BULK AT MOST 1048576: true; the input reads as it did. -/
def fnRaisedUptoRow : OpenClaim := { program := "ytikcbconfinibaa", sum := "a73a70a42e979aea961c6f6565602a68177a24b5a945c10cb227eef50fd1b134", func := "loop.example/g01095/laws.FnRaised", spec := "fnRaised", recurses := true, apart := false, narrowed := true }
def FnRaisedUptoSaid : Prop := fnRaisedUptoRow.holds Try.pinned (OpenSpec.upto fnRaisedSpec)

/-- 'laws.FnKemeny', WHERE WHAT IT READS IS OF BULK AT MOST 1048576: true; the input reads as it did. -/
def fnKemenyUptoRow : OpenClaim := { program := "ytikcbconfinibaa", sum := "a73a70a42e979aea961c6f6565602a68177a24b5a945c10cb227eef50fd1b134", func := "loop.example/g01095/laws.FnKemeny", spec := "fnKemeny", unfollowed := true, recurses := true, apart := false, narrowed := true }
def FnKemenyUptoSaid : Prop := fnKemenyUptoRow.holds Try.pinned (OpenSpec.upto fnKemenySpec)

/-- 'laws.FnStrongest', WHERE WHAT IT READS IS OF BULK AT MOST 1048576: true; the input reads as it did. -/
def fnStrongestUptoRow : OpenClaim := { program := "ytikcbconfinibaa", sum := "a73a70a42e979aea961c6f6565602a68177a24b5a945c10cb227eef50fd1b134", func := "loop.example/g01095/laws.FnStrongest", spec := "fnStrongest", unfollowed := true, recurses := true, apart := false, narrowed := true }
def FnStrongestUptoSaid : Prop := fnStrongestUptoRow.holds Try.pinned (OpenSpec.upto fnStrongestSpec)

end Rows
end Go.Proofs.Ytikcbconfinibaa
