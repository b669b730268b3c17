/- Seals as a group: powers of 4 and 9 modulo 1000000007 have order 500000003. Plain arithmetic. -/
import Derived.Test.YtnjnngnagdhaiaaSealOf
import Derived.Test.YtnjnngnagdhaiaaJoin
namespace Go.Proofs.Ytnjnngnagdhaiaa
set_option linter.unusedVariables false
open Go.RowKit

/-- Powers by squaring, for the kernel to run. -/
def fpw : Nat → Int → Int → Nat → Int
  | 0, out, _, _ => out
  | m + 1, out, b, e => if e = 0 then out else fpw m (if e % 2 = 1 then out * b % 1000000007 else out) (b * b % 1000000007) (e / 2)
theorem fpw_eq {b0 : Int} {e0 : Nat} : ∀ (m : Nat) (out b : Int) (e : Nat), PwInv b0 e0 out b e → 0 ≤ out → out < 1000000007 → e < 2 ^ m → fpw m out b e = pw b0 e0 := by
  intro m
  induction m with
  | zero =>
    intro out b e h h0 h1 he
    obtain rfl : e = 0 := by simpa using he
    exact h.done rfl h0 h1
  | succ m ih =>
    intro out b e h h0 h1 he
    rw [fpw]
    by_cases hz : e = 0
    · rw [if_pos hz]; exact h.done hz h0 h1
    · rw [if_neg hz]
      have he2 : e / 2 < 2 ^ m := by rw [Nat.pow_succ] at he; omega
      by_cases ho : e % 2 = 1
      · rw [if_pos ho]
        exact ih _ _ _ (h.odd ho) (Int.emod_nonneg _ (by decide)) (Int.emod_lt_of_pos _ (by decide)) he2
      · rw [if_neg ho]
        exact ih _ _ _ (h.even (by omega)) h0 h1 he2
theorem pw_run (b : Int) (e : Nat) (he : e < 2 ^ 40) : pw b e = fpw 40 1 b e := (fpw_eq 40 1 b e (PwInv.start b e) (by decide) (by decide) he).symm
theorem order4 : pw 4 500000003 = 1 := by rw [pw_run _ _ (by decide)]; decide +kernel
theorem order9 : pw 9 500000003 = 1 := by rw [pw_run _ _ (by decide)]; decide +kernel

theorem pw_add (b : Int) (m n : Nat) : pw b (m + n) = mm (pw b m) (pw b n) := by
  unfold pw mm; rw [Int.pow_add, Int.mul_emod]
theorem pw_pow (b : Int) (m n : Nat) : pw (pw b m) n = pw b (m * n) := by
  unfold pw; rw [emod_pow', ← Int.pow_mul]
theorem pw_mul (a b : Int) (n : Nat) : pw (mm a b) n = mm (pw a n) (pw b n) := by
  unfold pw mm; rw [emod_pow', Int.mul_pow, Int.mul_emod]
theorem pw_zero (b : Int) : pw b 0 = 1 := by simp [pw]
theorem pw_one (n : Nat) : pw 1 n = 1 := by unfold pw; rw [Int.one_pow]; rfl
theorem mm_comm (a b : Int) : mm a b = mm b a := by unfold mm; rw [Int.mul_comm]
theorem mm_assoc (a b c : Int) : mm (mm a b) c = mm a (mm b c) := by
  unfold mm; rw [mul_emod_l, mul_emod_r, Int.mul_assoc]
theorem mm_one {a : Int} (h : 0 ≤ a) (h' : a < 1000000007) : mm 1 a = a := by unfold mm; rw [Int.one_mul]; omega
theorem mm_pw_one (b : Int) (n : Nat) : mm 1 (pw b n) = pw b n := mm_one (pw_lo _ _) (pw_hi _ _)
/-- The exponent counts modulo the order. -/
theorem pw_mod {b : Int} (hb : pw b 500000003 = 1) (e : Nat) : pw b (e % 500000003) = pw b e := by
  conv => rhs; rw [← Nat.div_add_mod e 500000003]
  rw [pw_add, ← pw_pow, hb, pw_one, mm_pw_one]
theorem mm4 (a b c d : Int) : mm (mm a b) (mm c d) = mm (mm a c) (mm b d) := by
  rw [mm_assoc, mm_assoc, ← mm_assoc b c d, mm_comm b c, mm_assoc c b d]
theorem sealO_nat (v k : Nat) : sealO v k = mm (pw 4 v) (pw 9 k) := by unfold sealO; simp
theorem sealO_order (v k : Int) : pw (sealO v k) 500000003 = 1 := by
  unfold sealO
  rw [pw_mul, pw_pow, pw_pow, Nat.mul_comm, ← pw_pow, order4, pw_one, Nat.mul_comm, ← pw_pow, order9, pw_one]
  decide
/-- What has the order is no zero. -/
theorem order_pos {c : Int} (h : pw c 500000003 = 1) (h0 : 0 ≤ c) : 1 ≤ c := by
  rcases Int.lt_or_eq_of_le h0 with h1 | h1
  · omega
  · subst h1
    exfalso
    have e1 : pw 0 500000003 = 0 := by rw [pw_run _ _ (by decide)]; decide +kernel
    rw [e1] at h
    exact absurd h (by decide)
theorem sealO_seal (v k : Int) : sealB (sealO v k) = true := by
  have h1 := order_pos (sealO_order v k) (sealO_lo v k)
  have h2 := sealO_hi v k
  simp [sealB, inR_true.2 ⟨h1, show sealO v k ≤ 1000000006 by omega⟩, sealO_order]
/-- What has the order can be cancelled. -/
theorem mm_cancel {a b c : Int} (hc : pw c 500000003 = 1) (ha : 0 ≤ a) (ha' : a < 1000000007) (hb : 0 ≤ b) (hb' : b < 1000000007) (h : mm a c = mm b c) : a = b := by
  have key : ∀ x : Int, 0 ≤ x → x < 1000000007 → mm (mm x c) (pw c 500000002) = x := by
    intro x hx hx'
    have e1 : mm c (pw c 500000002) = 1 := by
      have e2 : pw c (1 + 500000002) = mm (pw c 1) (pw c 500000002) := pw_add c 1 500000002
      have e3 : mm (pw c 1) (pw c 500000002) = mm c (pw c 500000002) := by
        generalize pw c 500000002 = y
        unfold pw mm; rw [Int.pow_succ, Int.pow_zero, Int.one_mul, mul_emod_l]
      rw [← e3, ← e2]; exact hc
    rw [mm_assoc, e1, mm_comm, mm_one hx hx']
  rw [← key a ha ha', ← key b hb hb', h]
/-- Seals of values that differ by 1 differ. -/
theorem sealO_next (v k : Nat) : sealO v k ≠ sealO ((v + 1 : Nat)) k := by
  intro h
  rw [sealO_nat, sealO_nat, pw_add] at h
  have h1 := mm_cancel (c := pw 9 k) (by rw [pw_pow, Nat.mul_comm, ← pw_pow, order9, pw_one]) (pw_lo _ _) (pw_hi _ _) (mm_lo _ _) (mm_hi _ _) h
  have h2 : mm 1 (pw 4 v) = mm (pw 4 1) (pw 4 v) := by rw [mm_pw_one, mm_comm (pw 4 1)]; exact h1
  have h3 := mm_cancel (a := 1) (b := pw 4 1) (c := pw 4 v) (by rw [pw_pow, Nat.mul_comm, ← pw_pow, order4, pw_one]) (by decide) (by decide) (pw_lo _ _) (pw_hi _ _) h2
  exact absurd h3 (by decide)
end Go.Proofs.Ytnjnngnagdhaiaa
