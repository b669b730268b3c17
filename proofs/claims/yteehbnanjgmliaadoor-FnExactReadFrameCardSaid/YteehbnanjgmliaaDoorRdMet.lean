/- What the row's cell 'laid' and the world's shape give the walk. -/
import Derived.Test.YteehbnanjgmliaaDoorRdLaw
import Derived.Test.YteehbnanjgmliaaDoorRows
import Derived.Stop.LaidErr
import Derived.Stop.Joined
import Derived.Lib.LaidTab
import Derived.MakeChecks
namespace Go.Proofs.YteehbnanjgmliaaDoor
set_option linter.unusedVariables false
open Go.RowKit Go.Shelf
theorem rd_star : "*" ++ "errors.errorString" = "*errors.errorString" := by decide
theorem rd_row (u : TypeId) (h : Tryd.prog.typeName? 3 u = some "*errors.errorString") : u = 94 :=
  typeName_ptr_named (nm := "errors.errorString") (by rw [rd_star]; kernel_rfl) (by kernel_rfl) (by decide) u (by rw [rd_star]; exact h)
theorem lb_met (W : World) (hL : laidMetH Tryd.prog Rows.fnExactReadFrameRow.laid W) (hsh : W.ShapedOpen Tryd.prog) : Lb W := by
  rw [MakeChecks.laidMetH_plain _ _ _ (by kernel_rfl)] at hL
  have hT := hL.tail.tail
  have hR := hL.tail.tail.tail.tail
  have hS := hR.tail
  obtain ⟨a1, s1, v1, _, _, _⟩ := laid_sentinel (g := 1) hS (by kernel_rfl) (by kernel_rfl) Tryd.underlying48 rd_row Tryd.underlying94 Tryd.underlying96 rfl rfl Tryd.underlying9 (by kernel_rfl) (by kernel_rfl)
  obtain ⟨a2, s2, v2, _, _, _⟩ := laid_sentinel (g := 2) hR (by kernel_rfl) (by kernel_rfl) Tryd.underlying48 rd_row Tryd.underlying94 Tryd.underlying96 rfl rfl Tryd.underlying9 (by kernel_rfl) (by kernel_rfl)
  exact ⟨Tryd.laysM145.s1_3 W hsh, ⟨_, _, v1⟩, ⟨_, _, v2⟩, Lib.tabIs_of_head (g := 5) (k := .u64) (zs := Lib.pow10Tab) (by kernel_rfl) (by kernel_rfl) Tryd.underlying98 Tryd.underlying65 (by kernel_rfl) (by kernel_rfl) hT⟩
end Go.Proofs.YteehbnanjgmliaaDoor
