/- Contracts of ChallengeOf, JoinKeys, JoinSeals and the walks of the laws that compare them with the reference. -/
import Derived.Test.YtnjnngnagdhaiaaSealOf
namespace Go.Proofs.Ytnjnngnagdhaiaa
set_option linter.unusedVariables false
open Go.RowKit

def chalOfB (zs : List Int) : Bool := decide (zs.length ≤ 20) && zs.all modB
def chalOfV (zs : List Int) : Int := if chalOfB zs then chal zs else 0
theorem chalOf_no {zs : List Int} (h : chalOfB zs = false) : chalOfB zs = false ∧ chalOfV zs = 0 := by simp [chalOfV, h]
theorem chalOf_long {zs : List Int} {n : Nat} (hl : zs.length = n) (h : 20 < n) : chalOfB zs = false ∧ chalOfV zs = 0 := chalOf_no (by simp [chalOfB]; omega)
theorem chalOf_bad {zs : List Int} (h : zs.all modB = false) : chalOfB zs = false ∧ chalOfV zs = 0 := chalOf_no (by simp [chalOfB, h])
theorem chalOf_yes {zs : List Int} {n : Nat} (hl : zs.length = n) (h : n ≤ 20) (h2 : zs.all modB = true) : chalOfB zs = true ∧ chalOfV zs = chal zs := by
  have : chalOfB zs = true := by simp only [chalOfB, h2]; simp; omega
  simp [chalOfV, this]
theorem allB_len {zs : List Int} {n : Nat} {p : Int → Bool} (hl : zs.length = n) : allB zs (n : Int) p = zs.all p := by rw [allB_eq, hl]; simp
end Go.Proofs.Ytnjnngnagdhaiaa
