/- Powers modulo 1000000007 by squaring: what the loop's variables hold. Plain arithmetic, no program. -/
import Derived.WalkKit
namespace Go.Proofs.YteehbnanjgmliaaDoor
set_option linter.unusedVariables false

theorem emod_pow' (a m : Int) (k : Nat) : (a % m) ^ k % m = a ^ k % m := by
  induction k with
  | zero => simp
  | succ k ih => rw [Int.pow_succ, Int.pow_succ, Int.mul_emod, ih, Int.emod_emod_of_dvd a (Int.dvd_refl m), ← Int.mul_emod]

/-- The power of a number modulo 1000000007. -/
def pw (b : Int) (e : Nat) : Int := b ^ e % 1000000007

theorem pw_lo (b : Int) (e : Nat) : 0 ≤ pw b e := Int.emod_nonneg _ (by decide)
theorem pw_hi (b : Int) (e : Nat) : pw b e < 1000000007 := Int.emod_lt_of_pos _ (by decide)

/-- What stands in the loop's variables: out * base ^ e is what was asked for. -/
def PwInv (b0 : Int) (e0 : Nat) (out b : Int) (e : Nat) : Prop := out * b ^ e % 1000000007 = pw b0 e0

theorem PwInv.start (b : Int) (e : Nat) : PwInv b e 1 b e := by simp [PwInv, pw]

theorem mul_emod_l (a b m : Int) : (a % m) * b % m = a * b % m := by
  rw [Int.mul_emod, Int.emod_emod_of_dvd a (Int.dvd_refl m), ← Int.mul_emod]
theorem mul_emod_r (a b m : Int) : a * (b % m) % m = a * b % m := by
  rw [Int.mul_emod, Int.emod_emod_of_dvd b (Int.dvd_refl m), ← Int.mul_emod]

theorem PwInv.even {b0 : Int} {e0 : Nat} {out b : Int} {e : Nat} (h : PwInv b0 e0 out b e) (he : e % 2 = 0) : PwInv b0 e0 out (b * b % 1000000007) (e / 2) := by
  unfold PwInv at *
  rw [← h, ← mul_emod_r, emod_pow', mul_emod_r]
  have : b ^ e = (b * b) ^ (e / 2) := by
    rw [show b * b = b ^ 2 from by grind, ← Int.pow_mul]; congr 1; omega
  rw [this]

theorem PwInv.odd {b0 : Int} {e0 : Nat} {out b : Int} {e : Nat} (h : PwInv b0 e0 out b e) (he : e % 2 = 1) : PwInv b0 e0 (out * b % 1000000007) (b * b % 1000000007) (e / 2) := by
  unfold PwInv at *
  rw [← h, mul_emod_l, ← mul_emod_r, emod_pow', mul_emod_r]
  have : b ^ e = b * (b * b) ^ (e / 2) := by
    rw [show b * b = b ^ 2 from by grind, ← Int.pow_mul, ← Int.pow_succ']; congr 1; omega
  rw [this, Int.mul_assoc]

theorem PwInv.done {b0 : Int} {e0 : Nat} {out b : Int} {e : Nat} (h : PwInv b0 e0 out b e) (he : e = 0) (h0 : 0 ≤ out) (h1 : out < 1000000007) : out = pw b0 e0 := by
  subst he
  unfold PwInv at h
  rw [← h]; simp; omega

/-- The product modulo 1000000007. -/
def mm (a b : Int) : Int := a * b % 1000000007
theorem mm_lo (a b : Int) : 0 ≤ mm a b := Int.emod_nonneg _ (by decide)
theorem mm_hi (a b : Int) : mm a b < 1000000007 := Int.emod_lt_of_pos _ (by decide)
end Go.Proofs.YteehbnanjgmliaaDoor
