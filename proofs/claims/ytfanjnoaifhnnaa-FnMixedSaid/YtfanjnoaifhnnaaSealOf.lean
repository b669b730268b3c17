/- Contracts: seals of values and keys, products of seals, sums of keys, challenges. -/
import Derived.Test.YtfanjnoaifhnnaaAreAll
import Derived.Test.YtfanjnoaifhnnaaInts
namespace Go.Proofs.Ytfanjnoaifhnnaa
set_option linter.unusedVariables false
open Go.RowKit

/-- The seal of a value and a key. -/
def sealO (v k : Int) : Int := mm (pw 4 v.toNat) (pw 9 k.toNat)
theorem sealO_lo (a b : Int) : 0 ≤ sealO a b := mm_lo _ _
theorem sealO_hi (a b : Int) : sealO a b < 1000000007 := mm_hi _ _
theorem sealed_any (v k : Int) (w : World) (h0 : 0 ≤ v) (h1 : v ≤ 9223372036854775807) (h2 : 0 ≤ k) (h3 : k ≤ 9223372036854775807) :
    Calls Try.prog 69 #[.int .i64 v, .int .i64 k] w fun e w' => e = .returned (.int .i64 (sealO v k)) ∧ w = w' := by
  have a1 := pw_lo 4 v.toNat
  have a2 := pw_hi 4 v.toNat
  have b1 := pw_lo 9 k.toNat
  have b2 := pw_hi 9 k.toNat
  have m1 : 0 ≤ pw 4 v.toNat * pw 9 k.toNat := Int.mul_nonneg a1 b1
  have m2 : pw 4 v.toNat * pw 9 k.toNat ≤ 1000000007 * 1000000007 := Int.mul_le_mul (by omega) (by omega) b1 (by omega)
  go_enter Try.func69, Try.ntmps69
  go_wp2_with (go_at_call 66; refine (power_any _ _ _ (by omega) (by omega) (by omega) (by omega)).mono ?_; rintro e w' ⟨rfl, rfl⟩)
  go_ret
  exact ⟨rfl, rfl⟩
def sealOfB (v k : Int) : Bool := expB v && expB k
def sealOfV (v k : Int) : Int := if sealOfB v k then sealO v k else 0
theorem sealOf_yes {v k : Int} (h1 : expB v = true) (h2 : expB k = true) : sealOfB v k = true ∧ sealOfV v k = sealO v k := by simp [sealOfV, sealOfB, h1, h2]
theorem sealOf_no1 {v k : Int} (h1 : expB v = false) : sealOfB v k = false ∧ sealOfV v k = 0 := by simp [sealOfV, sealOfB, h1]
theorem sealOf_no2 {v k : Int} (h2 : expB k = false) : sealOfB v k = false ∧ sealOfV v k = 0 := by simp [sealOfV, sealOfB, h2]
theorem implSealOf_any (v k : Int) (w : World) :
    Calls Try.prog 31 #[.int .i64 v, .int .i64 k] w fun e w' => e = .returned (.tuple #[.int .i64 (sealOfV v k), .bool (sealOfB v k)]) ∧ w = w' := by
  cases hv : expB v
  · have HV := Lib.hid hv
    have R := Lib.hid (sealOf_no1 (k := k) hv)
    clear hv
    go_enter Try.func31, Try.ntmps31
    go_wp2_with (go_at_call 68; refine (isExponent_any _ _).mono ?_; rintro e w' ⟨rfl, rfl⟩; rw [HV.out])
    go_ret2
    exact ⟨ret_ib R.out.2.symm R.out.1.symm, rfl⟩
  · cases hk : expB k
    · have HV := Lib.hid hv
      have HK := Lib.hid hk
      have R := Lib.hid (sealOf_no2 (v := v) hk)
      clear hv hk
      go_enter Try.func31, Try.ntmps31
      go_wp2_with (go_at_call 68; refine (isExponent_any _ _).mono ?_; rintro e w' ⟨rfl, rfl⟩; first | rw [HV.out] | rw [HK.out])
      go_ret2
      exact ⟨ret_ib R.out.2.symm R.out.1.symm, rfl⟩
    · have HV := Lib.hid hv
      have HK := Lib.hid hk
      have R := Lib.hid (sealOf_yes hv hk)
      have B1 := expB_true hv
      have B2 := expB_true hk
      clear hv hk
      go_enter Try.func31, Try.ntmps31
      go_wp2_with (first | (go_at_call 68; refine (isExponent_any _ _).mono ?_; rintro e w' ⟨rfl, rfl⟩; first | rw [HV.out] | rw [HK.out]) | (go_at_call 69; refine (sealed_any _ _ _ (by omega) (by omega) (by omega) (by omega)).mono ?_; rintro e w' ⟨rfl, rfl⟩))
      go_ret2
      exact ⟨ret_ib R.out.2.symm R.out.1.symm, rfl⟩

/-- The challenge of a list. -/
def chalS (o z : Int) : Int := (o * 1000003 + z + 1) % 500000003
def chal (zs : List Int) : Int := zs.foldl chalS 7
theorem chalS_lo (o z : Int) : 0 ≤ chalS o z := Int.emod_nonneg _ (by decide)
theorem chalS_hi (o z : Int) : chalS o z < 500000003 := Int.emod_lt_of_pos _ (by decide)
theorem chal_snoc {zs : List Int} {k : Nat} {z : Int} (h : zs[k]? = some z) : chal (zs.take (k + 1)) = chalS (chal (zs.take k)) z := by
  rw [take_snoc' h, chal, List.foldl_append]; rfl
theorem chal_bd (zs : List Int) : 0 ≤ chal zs ∧ chal zs < 500000003 := by
  have : ∀ (l : List Int) (o : Int), 0 ≤ o ∧ o < 500000003 → 0 ≤ l.foldl chalS o ∧ l.foldl chalS o < 500000003 := by
    intro l
    induction l with
    | nil => exact fun o h => h
    | cons a l ih => exact fun o h => ih _ ⟨chalS_lo _ _, chalS_hi _ _⟩
  exact this zs 7 (by decide)
end Go.Proofs.Ytfanjnoaifhnnaa
