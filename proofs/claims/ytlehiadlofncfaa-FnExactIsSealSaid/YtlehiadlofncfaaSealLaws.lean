/- The walks of the laws on IsSeal, SealOf. -/
import Derived.Test.YtlehiadlofncfaaAreAll
namespace Go.Proofs.Ytlehiadlofncfaa
set_option linter.unusedVariables false
open Go.RowKit
theorem specIsSeal_any (c : Int) (w : World) :
    Calls Try.prog 15 #[.int .i64 c] w fun e w' => e = .returned (.bool (sealB c)) ∧ w = w' := by
  go_enter Try.func15, Try.ntmps15
  go_wp2_with (go_at_call 48; refine (l09Seal_any _ _).mono ?_; rintro e w' ⟨rfl, rfl⟩)
  go_ret
  exact ⟨rfl, rfl⟩
theorem fnExactIsSeal_walk (a0 : Int) (l0 : -9223372036854775808 ≤ a0) (h0 : a0 ≤ 9223372036854775807) (w : World) :
    Calls Try.prog 3 #[.int .i64 a0] w fun e w' => e = .returned (.bool true) ∧ Below w.heap.size w w' := by
  go_enter Try.func3, Try.ntmps3
  go_wp2_with (first | (go_at_call 15; refine (specIsSeal_any _ _).mono ?_; rintro e w' ⟨rfl, rfl⟩) | (go_at_call 16; refine (implIsSeal_any _ _).mono ?_; rintro e w' ⟨rfl, rfl⟩))
  go_ret
  exact ⟨rfl, Below.refl _ _⟩
end Go.Proofs.Ytlehiadlofncfaa
