/- Sets of small numbers as masks. -/
import Derived.Test.YteehbnanjgmliaaDoorBase
import Derived.Laws.BitsAllLaws
namespace Go.Proofs.YteehbnanjgmliaaDoor
set_option linter.unusedVariables false
open Go.RowKit
theorem wrap_nat {n : Nat} (h : n < 9223372036854775808) : IntKind.i64.wrap (n : Int) = n := IntWalk.i64_in _ (by omega)
theorem i64_and (a b : Nat) (ha : a < 4611686018427387904) (hb : b < 4611686018427387904) : bits .and .i64 (a : Int) (b : Int) = ((a &&& b : Nat) : Int) := by
  have hx : a &&& b < 2 ^ 62 := Nat.and_lt_two_pow _ (by omega)
  show IntKind.i64.wrap ((BitVec.ofInt 64 (a : Int) &&& BitVec.ofInt 64 (b : Int)).toNat : Int) = _
  rw [BitVec.toNat_and, ofInt_u64 a (by omega), ofInt_u64 b (by omega), wrap_nat (by omega)]
theorem i64_or (a b : Nat) (ha : a < 4611686018427387904) (hb : b < 4611686018427387904) : bits .or .i64 (a : Int) (b : Int) = ((a ||| b : Nat) : Int) := by
  have hx : a ||| b < 2 ^ 62 := Nat.or_lt_two_pow (by omega) (by omega)
  show IntKind.i64.wrap ((BitVec.ofInt 64 (a : Int) ||| BitVec.ofInt 64 (b : Int)).toNat : Int) = _
  rw [BitVec.toNat_or, ofInt_u64 a (by omega), ofInt_u64 b (by omega), wrap_nat (by omega)]
/-- a without b. -/
def ldf (a b : Nat) : Nat := a &&& (18446744073709551615 - b)
theorem i64_andNot (a b : Nat) (ha : a < 4611686018427387904) (hb : b < 4611686018427387904) : bits .andNot .i64 (a : Int) (b : Int) = ((ldf a b : Nat) : Int) := by
  have hx : ldf a b < 2 ^ 62 := Nat.lt_of_le_of_lt Nat.and_le_left (by omega)
  show IntKind.i64.wrap ((BitVec.ofInt 64 (a : Int) &&& ~~~BitVec.ofInt 64 (b : Int)).toNat : Int) = _
  rw [BitVec.toNat_and, BitVec.toNat_not, ofInt_u64 a (by omega), ofInt_u64 b (by omega)]
  have e : 2 ^ 64 - 1 - b = 18446744073709551615 - b := by omega
  rw [e]
  have hx' : a &&& (18446744073709551615 - b) < 2 ^ 62 := hx
  exact wrap_nat (by omega)
theorem ldf_bit {a b : Nat} (ha : a < 4611686018427387904) (hb : b < 4611686018427387904) (i : Nat) : (ldf a b).testBit i = (a.testBit i && !b.testBit i) := by
  have e : 18446744073709551615 - b = 2 ^ 64 - (b + 1) := by omega
  unfold ldf
  rw [Nat.testBit_and, e, Nat.testBit_two_pow_sub_succ (by omega)]
  by_cases h : i < 64
  · simp [h]
  · have : a.testBit i = false := Nat.testBit_lt_two_pow (Nat.lt_of_lt_of_le (show a < 2 ^ 64 by omega) (Nat.pow_le_pow_right (by omega) (by omega)))
    simp [this]
theorem nat_zero_bits {a : Nat} : a = 0 ↔ ∀ i, a.testBit i = false := ⟨fun h i => by simp [h], fun h => Nat.eq_of_testBit_eq (by simpa using h)⟩
theorem ldf_zero {a b : Nat} (ha : a < 4611686018427387904) (hb : b < 4611686018427387904) : ldf a b = 0 ↔ ∀ i, a.testBit i = true → b.testBit i = true := by
  rw [nat_zero_bits]
  constructor
  · intro h i hi
    have := h i
    rw [ldf_bit ha hb, hi] at this
    simpa using this
  · intro h i
    rw [ldf_bit ha hb]
    cases hi : a.testBit i
    · rfl
    · simp [h i hi]
theorem and_zero {a b : Nat} : a &&& b = 0 ↔ ∀ i, a.testBit i = true → b.testBit i = false := by
  rw [nat_zero_bits]
  constructor
  · intro h i hi
    have := h i
    rw [Nat.testBit_and, hi] at this
    simpa using this
  · intro h i
    rw [Nat.testBit_and]
    cases hi : a.testBit i
    · rfl
    · simp [h i hi]
theorem bit_div (m i : Nat) : m.testBit i = decide (m / 2 ^ i % 2 = 1) := Nat.testBit_eq_decide_div_mod_eq
theorem or_pow_bit (m a i : Nat) : (m ||| 2 ^ a).testBit i = (m.testBit i || decide (a = i)) := by rw [Nat.testBit_or, Nat.testBit_two_pow]
end Go.Proofs.YteehbnanjgmliaaDoor
