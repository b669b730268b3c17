/-
  No cell of these rows narrows 'for every input' (looked for: loops, veiled, ifaces, maps, wideKeys, modest, calm, conditions, laid).
  DERIVED. THE GIVEN ROWS OF THIS SEAT. 5 by the template 'for every input the law returns true; each argument reads behind the call as it read before'; 0 by the template 'total and deterministic' (their statements: YtcoladhppbknnaaTotals.lean).
  GIVEN WITH THE SEED: the statements are not yours to turn. If you find one false, say at which input.
  Laid BY PROGRAM, IN A SANDBOX (cutbox-rows.mjs): the forced cells as the released guide's own fill.sh prints them over the translation eef5e0b824d0964b… (all of the seat's roots in one cut). By AI agents, Wed Nov 11 2026. No macro, syntax, notation, axiom, sorry.
-/
import Derived.Test.YtcoladhppbknnaaChecked
import GoSem.Claim
import GoSem.ClaimJoined
import GoSem.ClaimMapViews
import Derived.JoinedTies
import Derived.KernelRfl
namespace Go.Proofs.Ytcoladhppbknnaa
/- THE CELL 'sum', in the pinned program and in every row, IS THE sha256 OF THE DUMP (.gsa) THAT YtcoladhppbknnaaProg.lean LOADS. Nothing in Lean hashes anything: it is a label: what it is worth is what the hold of that sum in a sandbox is worth. -/
noncomputable def Try.pinned : Pinned := { name := "ytcoladhppbknnaa", sum := "eef5e0b824d0964b0c7c7ed428ed3621785ed8306a9dad825475828aede7fef4", checked := Try.checked }
namespace Rows
def none {H : Type} : Left H := { results := [], args := [] }

/-- 'laws.FnExactValidDeed': WHATEVER THE INPUT: true; the input reads as it did. -/
def fnExactValidDeedSpec : ChangeSpec := { name := "fnExactValidDeed", fn := fun _ => fun
  | [d] => { results := [.lit (.bool true)], args := [d] }
  | _ => none }
def fnExactValidDeedRow : OpenClaim := { program := "ytcoladhppbknnaa", sum := "eef5e0b824d0964b0c7c7ed428ed3621785ed8306a9dad825475828aede7fef4", func := "loop.example/g01095/laws.FnExactValidDeed", spec := "fnExactValidDeed", apart := false }
def FnExactValidDeedSaid : Prop := fnExactValidDeedRow.holds Try.pinned (OpenSpec.ofChange fnExactValidDeedSpec)

/-- ITS FALSE NEIGHBOUR: 'it returns false'. Refute it at one input. -/
def fnExactValidDeedWrong : ChangeSpec := { name := "fnExactValidDeed", fn := fun _ => fun
  | [d] => { results := [.lit (.bool false)], args := [d] }
  | _ => none }
def FnExactValidDeedWrongFalsely : Prop := fnExactValidDeedRow.holds Try.pinned (OpenSpec.ofChange fnExactValidDeedWrong)

/-- 'laws.FnExactNewAssembly': WHATEVER THE INPUT: true; the input reads as it did. -/
def fnExactNewAssemblySpec : ChangeSpec := { name := "fnExactNewAssembly", fn := fun _ => fun
  | [d1, d2, d3] => { results := [.lit (.bool true)], args := [d1, d2, d3] }
  | _ => none }
def fnExactNewAssemblyRow : OpenClaim := { program := "ytcoladhppbknnaa", sum := "eef5e0b824d0964b0c7c7ed428ed3621785ed8306a9dad825475828aede7fef4", func := "loop.example/g01095/laws.FnExactNewAssembly", spec := "fnExactNewAssembly", apart := false }
def FnExactNewAssemblySaid : Prop := fnExactNewAssemblyRow.holds Try.pinned (OpenSpec.ofChange fnExactNewAssemblySpec)

/-- ITS FALSE NEIGHBOUR: 'it returns false'. Refute it at one input. -/
def fnExactNewAssemblyWrong : ChangeSpec := { name := "fnExactNewAssembly", fn := fun _ => fun
  | [d1, d2, d3] => { results := [.lit (.bool false)], args := [d1, d2, d3] }
  | _ => none }
def FnExactNewAssemblyWrongFalsely : Prop := fnExactNewAssemblyRow.holds Try.pinned (OpenSpec.ofChange fnExactNewAssemblyWrong)

/-- 'laws.FnComposed': WHATEVER THE INPUT: true; the input reads as it did. -/
def fnComposedSpec : ChangeSpec := { name := "fnComposed", fn := fun _ => fun
  | [d1, d2] => { results := [.lit (.bool true)], args := [d1, d2] }
  | _ => none }
def fnComposedRow : OpenClaim := { program := "ytcoladhppbknnaa", sum := "eef5e0b824d0964b0c7c7ed428ed3621785ed8306a9dad825475828aede7fef4", func := "loop.example/g01095/laws.FnComposed", spec := "fnComposed", inPlace := ["slices.overlaps[loop.example/g01095/impl.Article]"], unfollowed := true, recurses := true, apart := false }
def FnComposedSaid : Prop := fnComposedRow.holds Try.pinned (OpenSpec.ofChange fnComposedSpec)

/-- ITS FALSE NEIGHBOUR: 'it returns false'. Refute it at one input. -/
def fnComposedWrong : ChangeSpec := { name := "fnComposed", fn := fun _ => fun
  | [d1, d2] => { results := [.lit (.bool false)], args := [d1, d2] }
  | _ => none }
def FnComposedWrongFalsely : Prop := fnComposedRow.holds Try.pinned (OpenSpec.ofChange fnComposedWrong)

/-- 'laws.FnPatched': WHATEVER THE INPUT: true; the input reads as it did. -/
def fnPatchedSpec : ChangeSpec := { name := "fnPatched", fn := fun _ => fun
  | [d1, d2] => { results := [.lit (.bool true)], args := [d1, d2] }
  | _ => none }
def fnPatchedRow : OpenClaim := { program := "ytcoladhppbknnaa", sum := "eef5e0b824d0964b0c7c7ed428ed3621785ed8306a9dad825475828aede7fef4", func := "loop.example/g01095/laws.FnPatched", spec := "fnPatched", inPlace := ["slices.overlaps[loop.example/g01095/impl.Article]"], unfollowed := true, recurses := true, apart := false }
def FnPatchedSaid : Prop := fnPatchedRow.holds Try.pinned (OpenSpec.ofChange fnPatchedSpec)

/-- ITS FALSE NEIGHBOUR: 'it returns false'. Refute it at one input. -/
def fnPatchedWrong : ChangeSpec := { name := "fnPatched", fn := fun _ => fun
  | [d1, d2] => { results := [.lit (.bool false)], args := [d1, d2] }
  | _ => none }
def FnPatchedWrongFalsely : Prop := fnPatchedRow.holds Try.pinned (OpenSpec.ofChange fnPatchedWrong)

/-- 'laws.FnSources': WHATEVER THE INPUT: true; the input reads as it did. -/
def fnSourcesSpec : ChangeSpec := { name := "fnSources", fn := fun _ => fun
  | [d1, d2] => { results := [.lit (.bool true)], args := [d1, d2] }
  | _ => none }
def fnSourcesRow : OpenClaim := { program := "ytcoladhppbknnaa", sum := "eef5e0b824d0964b0c7c7ed428ed3621785ed8306a9dad825475828aede7fef4", func := "loop.example/g01095/laws.FnSources", spec := "fnSources", inPlace := ["slices.overlaps[loop.example/g01095/impl.Article]"], unfollowed := true, recurses := true, apart := false }
def FnSourcesSaid : Prop := fnSourcesRow.holds Try.pinned (OpenSpec.ofChange fnSourcesSpec)

/-- ITS FALSE NEIGHBOUR: 'it returns false'. Refute it at one input. -/
def fnSourcesWrong : ChangeSpec := { name := "fnSources", fn := fun _ => fun
  | [d1, d2] => { results := [.lit (.bool false)], args := [d1, d2] }
  | _ => none }
def FnSourcesWrongFalsely : Prop := fnSourcesRow.holds Try.pinned (OpenSpec.ofChange fnSourcesWrong)

/- THE SECOND FORM. 'bulk': how many values and letters a reading holds, each counted each time it is reached (what is shared counts as often as it is met; a slice's spare places count too). A statement '..UptoSaid' is the law's where the arguments, and the package variables that the reading takes, are together of bulk at most 1048576: NARROWER than '..Said'. Prove '..Said' where nothing that the law and all that it calls make is longer than what came in: it says more and counts as full. Else prove '..UptoSaid'. A law counts once. -/
mutual
def uptoBulk {H : Type} : DataW H → Nat
  | .lit (.string bytes) => bytes.length + 1
  | .lit _ => 1
  | .nil => 1
  | .ptr d => uptoBulk d + 1
  | .slice elems spare => uptoBulkAll elems + uptoBulkAll spare + 1
  | .agg parts => uptoBulkAll parts + 1
  | .iface _ d => uptoBulk d + 1
  | .map entries => uptoBulkEntries entries + 1
  | .held _ => 1
def uptoBulkAll {H : Type} : List (DataW H) → Nat
  | [] => 0
  | d :: r => uptoBulk d + uptoBulkAll r
def uptoBulkEntries {H : Type} : List (Lit × DataW H) → Nat
  | [] => 0
  | x :: r => uptoBulkEntry x + uptoBulkEntries r
def uptoBulkEntry {H : Type} : Lit × DataW H → Nat
  | (.string bytes, d) => bytes.length + uptoBulk d + 1
  | (_, d) => uptoBulk d + 1
 end
def uptoSmall : (H : Type) → List (DataW H) → Bool := fun _ ds => decide (uptoBulkAll ds ≤ 1048576)
def OpenSpec.upto (s : _root_.Go.ChangeSpec) : _root_.Go.OpenSpec := { _root_.Go.OpenSpec.ofChange s with cond := some uptoSmall }

/-- 'laws.FnExactValidDeed', WHERE WHAT IT READS IS OF BULK AT MOST 1048576: true; the input reads as it did. -/
def fnExactValidDeedUptoRow : OpenClaim := { program := "ytcoladhppbknnaa", sum := "eef5e0b824d0964b0c7c7ed428ed3621785ed8306a9dad825475828aede7fef4", func := "loop.example/g01095/laws.FnExactValidDeed", spec := "fnExactValidDeed", apart := false, narrowed := true }
def FnExactValidDeedUptoSaid : Prop := fnExactValidDeedUptoRow.holds Try.pinned (OpenSpec.upto fnExactValidDeedSpec)

/-- 'laws.FnExactNewAssembly', WHERE WHAT IT READS IS OF BULK AT MOST 1048576: true; the input reads as it did. -/
def fnExactNewAssemblyUptoRow : OpenClaim := { program := "ytcoladhppbknnaa", sum := "eef5e0b824d0964b0c7c7ed428ed3621785ed8306a9dad825475828aede7fef4", func := "loop.example/g01095/laws.FnExactNewAssembly", spec := "fnExactNewAssembly", apart := false, narrowed := true }
def FnExactNewAssemblyUptoSaid : Prop := fnExactNewAssemblyUptoRow.holds Try.pinned (OpenSpec.upto fnExactNewAssemblySpec)

/-- 'laws.FnComposed', WHERE WHAT IT READS IS OF BULK AT MOST 1048576: true; the input reads as it did. -/
def fnComposedUptoRow : OpenClaim := { program := "ytcoladhppbknnaa", sum := "eef5e0b824d0964b0c7c7ed428ed3621785ed8306a9dad825475828aede7fef4", func := "loop.example/g01095/laws.FnComposed", spec := "fnComposed", inPlace := ["slices.overlaps[loop.example/g01095/impl.Article]"], unfollowed := true, recurses := true, apart := false, narrowed := true }
def FnComposedUptoSaid : Prop := fnComposedUptoRow.holds Try.pinned (OpenSpec.upto fnComposedSpec)

/-- 'laws.FnPatched', WHERE WHAT IT READS IS OF BULK AT MOST 1048576: true; the input reads as it did. -/
def fnPatchedUptoRow : OpenClaim := { program := "ytcoladhppbknnaa", sum := "eef5e0b824d0964b0c7c7ed428ed3621785ed8306a9dad825475828aede7fef4", func := "loop.example/g01095/laws.FnPatched", spec := "fnPatched", inPlace := ["slices.overlaps[loop.example/g01095/impl.Article]"], unfollowed := true, recurses := true, apart := false, narrowed := true }
def FnPatchedUptoSaid : Prop := fnPatchedUptoRow.holds Try.pinned (OpenSpec.upto fnPatchedSpec)

/-- 'laws.FnSources', WHERE WHAT IT READS IS OF BULK AT MOST 1048576: true; the input reads as it did. -/
def fnSourcesUptoRow : OpenClaim := { program := "ytcoladhppbknnaa", sum := "eef5e0b824d0964b0c7c7ed428ed3621785ed8306a9dad825475828aede7fef4", func := "loop.example/g01095/laws.FnSources", spec := "fnSources", inPlace := ["slices.overlaps[loop.example/g01095/impl.Article]"], unfollowed := true, recurses := true, apart := false, narrowed := true }
def FnSourcesUptoSaid : Prop := fnSourcesUptoRow.holds Try.pinned (OpenSpec.upto fnSourcesSpec)

end Rows
end Go.Proofs.Ytcoladhppbknnaa
