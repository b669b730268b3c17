/-
  No cell of these rows narrows 'for every input' (looked for: loops, veiled, ifaces, maps, wideKeys, modest, calm, conditions, laid).
  DERIVED. THE GIVEN ROWS OF THIS SEAT. 7 by the template 'for every input the law returns true; each argument reads behind the call as it read before'; 0 by the template 'total and deterministic' (their statements: YtfanjnoaifhnnaaTotals.lean).
  GIVEN WITH THE SEED: the statements are not yours to turn. If you find one false, say at which input.
  Laid BY PROGRAM, IN A SANDBOX (cutbox-rows.mjs): the forced cells as the released guide's own fill.sh prints them over the translation 343e3b95075dbda1… (all of the seat's roots in one cut). By AI agents, Wed Nov 11 2026. No macro, syntax, notation, axiom, sorry.
-/
import Derived.Test.YtfanjnoaifhnnaaChecked
import GoSem.Claim
import GoSem.ClaimJoined
import GoSem.ClaimMapViews
import Derived.JoinedTies
import Derived.KernelRfl
namespace Go.Proofs.Ytfanjnoaifhnnaa
/- THE CELL 'sum', in the pinned program and in every row, IS THE sha256 OF THE DUMP (.gsa) THAT YtfanjnoaifhnnaaProg.lean LOADS. Nothing in Lean hashes anything: it is a label: what it is worth is what the hold of that sum in a sandbox is worth. -/
noncomputable def Try.pinned : Pinned := { name := "ytfanjnoaifhnnaa", sum := "343e3b95075dbda1fe8968f5d1db59f74a2cb742985ebd3e6090ee9660c35815", checked := Try.checked }
namespace Rows
def none {H : Type} : Left H := { results := [], args := [] }

/-- 'laws.FnExactMarginOf': WHATEVER THE INPUT: true; the input reads as it did. -/
def fnExactMarginOfSpec : ChangeSpec := { name := "fnExactMarginOf", fn := fun _ => fun
  | [d1, d2] => { results := [.lit (.bool true)], args := [d1, d2] }
  | _ => none }
def fnExactMarginOfRow : OpenClaim := { program := "ytfanjnoaifhnnaa", sum := "343e3b95075dbda1fe8968f5d1db59f74a2cb742985ebd3e6090ee9660c35815", func := "loop.example/g01095/laws.FnExactMarginOf", spec := "fnExactMarginOf", unfollowed := true, recurses := true, apart := false }
def FnExactMarginOfSaid : Prop := fnExactMarginOfRow.holds Try.pinned (OpenSpec.ofChange fnExactMarginOfSpec)

/-- ITS FALSE NEIGHBOUR: 'it returns false'. Refute it at one input. -/
def fnExactMarginOfWrong : ChangeSpec := { name := "fnExactMarginOf", fn := fun _ => fun
  | [d1, d2] => { results := [.lit (.bool false)], args := [d1, d2] }
  | _ => none }
def FnExactMarginOfWrongFalsely : Prop := fnExactMarginOfRow.holds Try.pinned (OpenSpec.ofChange fnExactMarginOfWrong)

/-- 'laws.FnMargin': WHATEVER THE INPUT: true; the input reads as it did. -/
def fnMarginSpec : ChangeSpec := { name := "fnMargin", fn := fun _ => fun
  | [d1, d2] => { results := [.lit (.bool true)], args := [d1, d2] }
  | _ => none }
def fnMarginRow : OpenClaim := { program := "ytfanjnoaifhnnaa", sum := "343e3b95075dbda1fe8968f5d1db59f74a2cb742985ebd3e6090ee9660c35815", func := "loop.example/g01095/laws.FnMargin", spec := "fnMargin", unfollowed := true, recurses := true, apart := false }
def FnMarginSaid : Prop := fnMarginRow.holds Try.pinned (OpenSpec.ofChange fnMarginSpec)

/-- ITS FALSE NEIGHBOUR: 'it returns false'. Refute it at one input. -/
def fnMarginWrong : ChangeSpec := { name := "fnMargin", fn := fun _ => fun
  | [d1, d2] => { results := [.lit (.bool false)], args := [d1, d2] }
  | _ => none }
def FnMarginWrongFalsely : Prop := fnMarginRow.holds Try.pinned (OpenSpec.ofChange fnMarginWrong)

/-- 'laws.FnExactComposeMixes': WHATEVER THE INPUT: true; the input reads as it did. -/
def fnExactComposeMixesSpec : ChangeSpec := { name := "fnExactComposeMixes", fn := fun _ => fun
  | [d1, d2, d3, d4] => { results := [.lit (.bool true)], args := [d1, d2, d3, d4] }
  | _ => none }
def fnExactComposeMixesRow : OpenClaim := { program := "ytfanjnoaifhnnaa", sum := "343e3b95075dbda1fe8968f5d1db59f74a2cb742985ebd3e6090ee9660c35815", func := "loop.example/g01095/laws.FnExactComposeMixes", spec := "fnExactComposeMixes", unfollowed := true, recurses := true, apart := false }
def FnExactComposeMixesSaid : Prop := fnExactComposeMixesRow.holds Try.pinned (OpenSpec.ofChange fnExactComposeMixesSpec)

/-- ITS FALSE NEIGHBOUR: 'it returns false'. Refute it at one input. -/
def fnExactComposeMixesWrong : ChangeSpec := { name := "fnExactComposeMixes", fn := fun _ => fun
  | [d1, d2, d3, d4] => { results := [.lit (.bool false)], args := [d1, d2, d3, d4] }
  | _ => none }
def FnExactComposeMixesWrongFalsely : Prop := fnExactComposeMixesRow.holds Try.pinned (OpenSpec.ofChange fnExactComposeMixesWrong)

/-- 'laws.FnExactMixSeals': WHATEVER THE INPUT: true; the input reads as it did. -/
def fnExactMixSealsSpec : ChangeSpec := { name := "fnExactMixSeals", fn := fun _ => fun
  | [d1, d2, d3] => { results := [.lit (.bool true)], args := [d1, d2, d3] }
  | _ => none }
def fnExactMixSealsRow : OpenClaim := { program := "ytfanjnoaifhnnaa", sum := "343e3b95075dbda1fe8968f5d1db59f74a2cb742985ebd3e6090ee9660c35815", func := "loop.example/g01095/laws.FnExactMixSeals", spec := "fnExactMixSeals", unfollowed := true, recurses := true, apart := false }
def FnExactMixSealsSaid : Prop := fnExactMixSealsRow.holds Try.pinned (OpenSpec.ofChange fnExactMixSealsSpec)

/-- ITS FALSE NEIGHBOUR: 'it returns false'. Refute it at one input. -/
def fnExactMixSealsWrong : ChangeSpec := { name := "fnExactMixSeals", fn := fun _ => fun
  | [d1, d2, d3] => { results := [.lit (.bool false)], args := [d1, d2, d3] }
  | _ => none }
def FnExactMixSealsWrongFalsely : Prop := fnExactMixSealsRow.holds Try.pinned (OpenSpec.ofChange fnExactMixSealsWrong)

/-- 'laws.FnMixed': WHATEVER THE INPUT: true; the input reads as it did. -/
def fnMixedSpec : ChangeSpec := { name := "fnMixed", fn := fun _ => fun
  | [d1, d2] => { results := [.lit (.bool true)], args := [d1, d2] }
  | _ => none }
def fnMixedRow : OpenClaim := { program := "ytfanjnoaifhnnaa", sum := "343e3b95075dbda1fe8968f5d1db59f74a2cb742985ebd3e6090ee9660c35815", func := "loop.example/g01095/laws.FnMixed", spec := "fnMixed", unfollowed := true, recurses := true, apart := false }
def FnMixedSaid : Prop := fnMixedRow.holds Try.pinned (OpenSpec.ofChange fnMixedSpec)

/-- ITS FALSE NEIGHBOUR: 'it returns false'. Refute it at one input. -/
def fnMixedWrong : ChangeSpec := { name := "fnMixed", fn := fun _ => fun
  | [d1, d2] => { results := [.lit (.bool false)], args := [d1, d2] }
  | _ => none }
def FnMixedWrongFalsely : Prop := fnMixedRow.holds Try.pinned (OpenSpec.ofChange fnMixedWrong)

/-- 'laws.FnAudited': WHATEVER THE INPUT: true; the input reads as it did. -/
def fnAuditedSpec : ChangeSpec := { name := "fnAudited", fn := fun _ => fun
  | [d1, d2] => { results := [.lit (.bool true)], args := [d1, d2] }
  | _ => none }
def fnAuditedRow : OpenClaim := { program := "ytfanjnoaifhnnaa", sum := "343e3b95075dbda1fe8968f5d1db59f74a2cb742985ebd3e6090ee9660c35815", func := "loop.example/g01095/laws.FnAudited", spec := "fnAudited", unfollowed := true, recurses := true, apart := false }
def FnAuditedSaid : Prop := fnAuditedRow.holds Try.pinned (OpenSpec.ofChange fnAuditedSpec)

/-- ITS FALSE NEIGHBOUR: 'it returns false'. Refute it at one input. -/
def fnAuditedWrong : ChangeSpec := { name := "fnAudited", fn := fun _ => fun
  | [d1, d2] => { results := [.lit (.bool false)], args := [d1, d2] }
  | _ => none }
def FnAuditedWrongFalsely : Prop := fnAuditedRow.holds Try.pinned (OpenSpec.ofChange fnAuditedWrong)

/-- 'laws.FnExactRunAudit': WHATEVER THE INPUT: true; the input reads as it did. -/
def fnExactRunAuditSpec : ChangeSpec := { name := "fnExactRunAudit", fn := fun _ => fun
  | [d1, d2, d3, d4, d5] => { results := [.lit (.bool true)], args := [d1, d2, d3, d4, d5] }
  | _ => none }
def fnExactRunAuditRow : OpenClaim := { program := "ytfanjnoaifhnnaa", sum := "343e3b95075dbda1fe8968f5d1db59f74a2cb742985ebd3e6090ee9660c35815", func := "loop.example/g01095/laws.FnExactRunAudit", spec := "fnExactRunAudit", unfollowed := true, recurses := true, apart := false }
def FnExactRunAuditSaid : Prop := fnExactRunAuditRow.holds Try.pinned (OpenSpec.ofChange fnExactRunAuditSpec)

/-- ITS FALSE NEIGHBOUR: 'it returns false'. Refute it at one input. -/
def fnExactRunAuditWrong : ChangeSpec := { name := "fnExactRunAudit", fn := fun _ => fun
  | [d1, d2, d3, d4, d5] => { results := [.lit (.bool false)], args := [d1, d2, d3, d4, d5] }
  | _ => none }
def FnExactRunAuditWrongFalsely : Prop := fnExactRunAuditRow.holds Try.pinned (OpenSpec.ofChange fnExactRunAuditWrong)

/- THE SECOND FORM. 'bulk': how many values and letters a reading holds, each counted each time it is reached (what is shared counts as often as it is met; a slice's spare places count too). A statement '..UptoSaid' is the law's where the arguments, and the package variables that the reading takes, are together of bulk at most 1048576: NARROWER than '..Said'. Prove '..Said' where nothing that the law and all that it calls make is longer than what came in: it says more and counts as full. Else prove '..UptoSaid'. A law counts once. -/
mutual
def uptoBulk {H : Type} : DataW H → Nat
  | .lit (.string bytes) => bytes.length + 1
  | .lit _ => 1
  | .nil => 1
  | .ptr d => uptoBulk d + 1
  | .slice elems spare => uptoBulkAll elems + uptoBulkAll spare + 1
  | .agg parts => uptoBulkAll parts + 1
  | .iface _ d => uptoBulk d + 1
  | .map entries => uptoBulkEntries entries + 1
  | .held _ => 1
def uptoBulkAll {H : Type} : List (DataW H) → Nat
  | [] => 0
  | d :: r => uptoBulk d + uptoBulkAll r
def uptoBulkEntries {H : Type} : List (Lit × DataW H) → Nat
  | [] => 0
  | x :: r => uptoBulkEntry x + uptoBulkEntries r
def uptoBulkEntry {H : Type} : Lit × DataW H → Nat
  | (.string bytes, d) => bytes.length + uptoBulk d + 1
  | (_, d) => uptoBulk d + 1
 end
def uptoSmall : (H : Type) → List (DataW H) → Bool := fun _ ds => decide (uptoBulkAll ds ≤ 1048576)
def OpenSpec.upto (s : _root_.Go.ChangeSpec) : _root_.Go.OpenSpec := { _root_.Go.OpenSpec.ofChange s with cond := some uptoSmall }

/-- 'laws.FnExactMarginOf', WHERE WHAT IT READS IS OF BULK AT MOST 1048576: true; the input reads as it did. -/
def fnExactMarginOfUptoRow : OpenClaim := { program := "ytfanjnoaifhnnaa", sum := "343e3b95075dbda1fe8968f5d1db59f74a2cb742985ebd3e6090ee9660c35815", func := "loop.example/g01095/laws.FnExactMarginOf", spec := "fnExactMarginOf", unfollowed := true, recurses := true, apart := false, narrowed := true }
def FnExactMarginOfUptoSaid : Prop := fnExactMarginOfUptoRow.holds Try.pinned (OpenSpec.upto fnExactMarginOfSpec)

/-- 'laws.FnMargin', WHERE WHAT IT READS IS OF BULK AT MOST 1048576: true; the input reads as it did. -/
def fnMarginUptoRow : OpenClaim := { program := "ytfanjnoaifhnnaa", sum := "343e3b95075dbda1fe8968f5d1db59f74a2cb742985ebd3e6090ee9660c35815", func := "loop.example/g01095/laws.FnMargin", spec := "fnMargin", unfollowed := true, recurses := true, apart := false, narrowed := true }
def FnMarginUptoSaid : Prop := fnMarginUptoRow.holds Try.pinned (OpenSpec.upto fnMarginSpec)

/-- 'laws.FnExactComposeMixes', WHERE WHAT IT READS IS OF BULK AT MOST 1048576: true; the input reads as it did. -/
def fnExactComposeMixesUptoRow : OpenClaim := { program := "ytfanjnoaifhnnaa", sum := "343e3b95075dbda1fe8968f5d1db59f74a2cb742985ebd3e6090ee9660c35815", func := "loop.example/g01095/laws.FnExactComposeMixes", spec := "fnExactComposeMixes", unfollowed := true, recurses := true, apart := false, narrowed := true }
def FnExactComposeMixesUptoSaid : Prop := fnExactComposeMixesUptoRow.holds Try.pinned (OpenSpec.upto fnExactComposeMixesSpec)

/-- 'laws.FnExactMixSeals', WHERE WHAT IT READS IS OF BULK AT MOST 1048576: true; the input reads as it did. -/
def fnExactMixSealsUptoRow : OpenClaim := { program := "ytfanjnoaifhnnaa", sum := "343e3b95075dbda1fe8968f5d1db59f74a2cb742985ebd3e6090ee9660c35815", func := "loop.example/g01095/laws.FnExactMixSeals", spec := "fnExactMixSeals", unfollowed := true, recurses := true, apart := false, narrowed := true }
def FnExactMixSealsUptoSaid : Prop := fnExactMixSealsUptoRow.holds Try.pinned (OpenSpec.upto fnExactMixSealsSpec)

/-- 'laws.FnMixed', WHERE WHAT IT READS IS OF BULK AT MOST 1048576: true; the input reads as it did. -/
def fnMixedUptoRow : OpenClaim := { program := "ytfanjnoaifhnnaa", sum := "343e3b95075dbda1fe8968f5d1db59f74a2cb742985ebd3e6090ee9660c35815", func := "loop.example/g01095/laws.FnMixed", spec := "fnMixed", unfollowed := true, recurses := true, apart := false, narrowed := true }
def FnMixedUptoSaid : Prop := fnMixedUptoRow.holds Try.pinned (OpenSpec.upto fnMixedSpec)

/-- 'laws.FnAudited', WHERE WHAT IT READS IS OF BULK AT MOST 1048576: true; the input reads as it did. -/
def fnAuditedUptoRow : OpenClaim := { program := "ytfanjnoaifhnnaa", sum := "343e3b95075dbda1fe8968f5d1db59f74a2cb742985ebd3e6090ee9660c35815", func := "loop.example/g01095/laws.FnAudited", spec := "fnAudited", unfollowed := true, recurses := true, apart := false, narrowed := true }
def FnAuditedUptoSaid : Prop := fnAuditedUptoRow.holds Try.pinned (OpenSpec.upto fnAuditedSpec)

/-- 'laws.FnExactRunAudit', WHERE WHAT IT READS IS OF BULK AT MOST 1048576: true; the input reads as it did. -/
def fnExactRunAuditUptoRow : OpenClaim := { program := "ytfanjnoaifhnnaa", sum := "343e3b95075dbda1fe8968f5d1db59f74a2cb742985ebd3e6090ee9660c35815", func := "loop.example/g01095/laws.FnExactRunAudit", spec := "fnExactRunAudit", unfollowed := true, recurses := true, apart := false, narrowed := true }
def FnExactRunAuditUptoSaid : Prop := fnExactRunAuditUptoRow.holds Try.pinned (OpenSpec.upto fnExactRunAuditSpec)

end Rows
end Go.Proofs.Ytfanjnoaifhnnaa
