/- Contracts of the functions on powers, seals and ranges, of the program and of the reference. -/
import Derived.Test.YteehbnanjgmliaaDoorRows
import Derived.Test.YteehbnanjgmliaaDoorBase
import Derived.Test.YteehbnanjgmliaaDoorPow
import Derived.WalkKit
import Derived.WalkLawsBesides
import Derived.Outline
import Derived.Below
import Derived.Lib.Hide
namespace Go.Proofs.YteehbnanjgmliaaDoor
set_option linter.unusedVariables false
open Go.RowKit


/-- Is a number in a range? -/
def inR (n a b : Int) : Bool := decide (a ≤ n) && decide (n ≤ b)
theorem inR_true {n a b : Int} : inR n a b = true ↔ a ≤ n ∧ n ≤ b := by simp [inR]
theorem inR_false {n a b : Int} : inR n a b = false ↔ ¬ (a ≤ n ∧ n ≤ b) := by
  rw [← inR_true]; cases inR n a b <;> simp

theorem within_any (n a b : Int) (w : World) :
    Calls Tryd.prog 23 #[.int .i64 n, .int .i64 a, .int .i64 b] w fun e w' => e = .returned (.bool (inR n a b)) ∧ w = w' := by
  by_cases h : a ≤ n
  · go_enter Tryd.func23, Tryd.ntmps23
    go_wp2
    go_ret
    exact ⟨ret_bool (by simp [inR, h]), rfl⟩
  · have h' : inR n a b = false := inR_false.2 (by omega)
    have H := Lib.hid h'
    clear h'
    go_enter Tryd.func23, Tryd.ntmps23
    go_wp2
    go_ret
    exact ⟨ret_bool H.out.symm, rfl⟩
theorem l00In_any (n a b : Int) (w : World) :
    Calls Tryd.prog 18 #[.int .i64 n, .int .i64 a, .int .i64 b] w fun e w' => e = .returned (.bool (inR n a b)) ∧ w = w' := by
  by_cases h : a ≤ n
  · go_enter Tryd.func18, Tryd.ntmps18
    go_wp2
    go_ret
    exact ⟨ret_bool (by simp [inR, h]), rfl⟩
  · have h' : inR n a b = false := inR_false.2 (by omega)
    have H := Lib.hid h'
    clear h'
    go_enter Tryd.func18, Tryd.ntmps18
    go_wp2
    go_ret
    exact ⟨ret_bool H.out.symm, rfl⟩

/-- Is a number a seal? -/
def sealB (c : Int) : Bool := inR c 1 1000000006 && (pw c 500000003 == 1)
theorem sealB_out {c : Int} (h : inR c 1 1000000006 = false) : sealB c = false := by simp [sealB, h]
theorem sealB_in {c : Int} (h : inR c 1 1000000006 = true) : sealB c = (pw c 500000003 == 1) := by simp [sealB, h]
end Go.Proofs.YteehbnanjgmliaaDoor
