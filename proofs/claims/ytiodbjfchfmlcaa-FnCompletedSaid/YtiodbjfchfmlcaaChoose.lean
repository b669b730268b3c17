/- How many samples of k of n things there are, for at most 30 things; the fractions that come of it are valid. Plain arithmetic, checked by the kernel case by case. -/
import Derived.Test.YtiodbjfchfmlcaaFrac
namespace Go.Proofs.Ytiodbjfchfmlcaa
set_option linter.unusedVariables false
open Go.RowKit

def chsT (n : Nat) : Nat → Nat
  | 0 => 1
  | i + 1 => chsT n i * (n - i) / (i + 1)
def chs (n k : Nat) : Nat := if n < k then 0 else chsT n k
def chsI (a b : Int) : Int := (chs a.toNat b.toNat : Nat)
def chsOk (n i : Nat) : Bool := decide (1 ≤ chsT n i) && decide (chsT n i ≤ 155117520)
theorem chsOk_all : ∀ n, n < 31 → ∀ i, i < n + 1 → chsOk n i = true := by decide +kernel
theorem chsT_bd {n i : Nat} (h : n ≤ 30) (h' : i ≤ n) : 1 ≤ chsT n i ∧ chsT n i ≤ 155117520 := by
  have := chsOk_all n (by omega) i (by omega)
  simpa [chsOk] using this
theorem chs_bd {n k : Nat} (h : n ≤ 30) : chs n k ≤ 155117520 := by
  unfold chs; split
  · omega
  · exact (chsT_bd h (by omega)).2
theorem chsI_bd {a b : Int} (h : a ≤ 30) : 0 ≤ chsI a b ∧ chsI a b ≤ 155117520 := by
  have := chs_bd (n := a.toNat) (k := b.toNat) (by omega)
  unfold chsI; omega
theorem chsI_pos {a b : Int} (h : a ≤ 30) (h' : b ≤ a) (h0 : 0 ≤ b) : 1 ≤ chsI a b := by
  have := (chsT_bd (n := a.toNat) (i := b.toNat) (by omega) (by omega)).1
  unfold chsI chs; rw [if_neg (by omega)]; omega
theorem chsI_small {a b : Int} (h : a < b) (h0 : 0 ≤ a) : chsI a b = 0 := by
  unfold chsI chs; rw [if_pos (by omega)]; rfl
theorem chsI_T {a b : Int} (h' : b ≤ a) (h0 : 0 ≤ b) : chsI a b = (chsT a.toNat b.toNat : Nat) := by
  unfold chsI chs; rw [if_neg (by omega)]
/-- One round of the loop. -/
theorem chs_step {a : Int} {j : Nat} (h0 : (j : Int) < a) : ((chsT a.toNat (j + 1) : Nat) : Int) = (chsT a.toNat j : Nat) * (a - j) / ((j : Int) + 1) := by
  show ((chsT a.toNat j * (a.toNat - j) / (j + 1) : Nat) : Int) = _
  rw [Int.natCast_ediv, Int.natCast_mul]
  have e1 : ((a.toNat - j : Nat) : Int) = a - j := by omega
  rw [e1]; rfl
end Go.Proofs.Ytiodbjfchfmlcaa
