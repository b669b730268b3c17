/- Contracts: seals of values and keys, products of seals, sums of keys, challenges. -/
import Derived.Test.YtnjnngnagdhaiaaAreAll
import Derived.Test.YtnjnngnagdhaiaaInts
namespace Go.Proofs.Ytnjnngnagdhaiaa
set_option linter.unusedVariables false
open Go.RowKit

/-- The seal of a value and a key. -/
def sealO (v k : Int) : Int := mm (pw 4 v.toNat) (pw 9 k.toNat)
theorem sealO_lo (a b : Int) : 0 ≤ sealO a b := mm_lo _ _
theorem sealO_hi (a b : Int) : sealO a b < 1000000007 := mm_hi _ _
theorem l09Of_any (v k : Int) (w : World) (h0 : 0 ≤ v) (h1 : v ≤ 9223372036854775807) (h2 : 0 ≤ k) (h3 : k ≤ 9223372036854775807) :
    Calls Try.prog 88 #[.int .i64 v, .int .i64 k] w fun e w' => e = .returned (.int .i64 (sealO v k)) ∧ w = w' := by
  have a1 := pw_lo 4 v.toNat
  have a2 := pw_hi 4 v.toNat
  have b1 := pw_lo 9 k.toNat
  have b2 := pw_hi 9 k.toNat
  go_enter Try.func88, Try.ntmps88
  go_wp2_with (first | (go_at_call 96; refine (l09Power_any _ _ _ (by omega) (by omega) (by omega) (by omega)).mono ?_; rintro e w' ⟨rfl, rfl⟩) | (go_at_call 95; refine (l09Times_any _ _ _ (by omega) (by omega) (by omega) (by omega)).mono ?_; rintro e w' ⟨rfl, rfl⟩))
  go_ret
  exact ⟨rfl, rfl⟩
theorem sealed_any (v k : Int) (w : World) (h0 : 0 ≤ v) (h1 : v ≤ 9223372036854775807) (h2 : 0 ≤ k) (h3 : k ≤ 9223372036854775807) :
    Calls Try.prog 55 #[.int .i64 v, .int .i64 k] w fun e w' => e = .returned (.int .i64 (sealO v k)) ∧ w = w' := by
  have a1 := pw_lo 4 v.toNat
  have a2 := pw_hi 4 v.toNat
  have b1 := pw_lo 9 k.toNat
  have b2 := pw_hi 9 k.toNat
  have m1 : 0 ≤ pw 4 v.toNat * pw 9 k.toNat := Int.mul_nonneg a1 b1
  have m2 : pw 4 v.toNat * pw 9 k.toNat ≤ 1000000007 * 1000000007 := Int.mul_le_mul (by omega) (by omega) b1 (by omega)
  go_enter Try.func55, Try.ntmps55
  go_wp2_with (go_at_call 58; refine (power_any _ _ _ (by omega) (by omega) (by omega) (by omega)).mono ?_; rintro e w' ⟨rfl, rfl⟩)
  go_ret
  exact ⟨rfl, rfl⟩
def sealOfB (v k : Int) : Bool := expB v && expB k
def sealOfV (v k : Int) : Int := if sealOfB v k then sealO v k else 0
theorem sealOf_yes {v k : Int} (h1 : expB v = true) (h2 : expB k = true) : sealOfB v k = true ∧ sealOfV v k = sealO v k := by simp [sealOfV, sealOfB, h1, h2]
theorem sealOf_no1 {v k : Int} (h1 : expB v = false) : sealOfB v k = false ∧ sealOfV v k = 0 := by simp [sealOfV, sealOfB, h1]
theorem sealOf_no2 {v k : Int} (h2 : expB k = false) : sealOfB v k = false ∧ sealOfV v k = 0 := by simp [sealOfV, sealOfB, h2]
theorem implSealOf_any (v k : Int) (w : World) :
    Calls Try.prog 14 #[.int .i64 v, .int .i64 k] w fun e w' => e = .returned (.tuple #[.int .i64 (sealOfV v k), .bool (sealOfB v k)]) ∧ w = w' := by
  cases hv : expB v
  · have HV := Lib.hid hv
    have R := Lib.hid (sealOf_no1 (k := k) hv)
    clear hv
    go_enter Try.func14, Try.ntmps14
    go_wp2_with (go_at_call 54; refine (isExponent_any _ _).mono ?_; rintro e w' ⟨rfl, rfl⟩; rw [HV.out])
    go_ret2
    exact ⟨ret_ib R.out.2.symm R.out.1.symm, rfl⟩
  · cases hk : expB k
    · have HV := Lib.hid hv
      have HK := Lib.hid hk
      have R := Lib.hid (sealOf_no2 (v := v) hk)
      clear hv hk
      go_enter Try.func14, Try.ntmps14
      go_wp2_with (go_at_call 54; refine (isExponent_any _ _).mono ?_; rintro e w' ⟨rfl, rfl⟩; first | rw [HV.out] | rw [HK.out])
      go_ret2
      exact ⟨ret_ib R.out.2.symm R.out.1.symm, rfl⟩
    · have HV := Lib.hid hv
      have HK := Lib.hid hk
      have R := Lib.hid (sealOf_yes hv hk)
      have B1 := expB_true hv
      have B2 := expB_true hk
      clear hv hk
      go_enter Try.func14, Try.ntmps14
      go_wp2_with (first | (go_at_call 54; refine (isExponent_any _ _).mono ?_; rintro e w' ⟨rfl, rfl⟩; first | rw [HV.out] | rw [HK.out]) | (go_at_call 55; refine (sealed_any _ _ _ (by omega) (by omega) (by omega) (by omega)).mono ?_; rintro e w' ⟨rfl, rfl⟩))
      go_ret2
      exact ⟨ret_ib R.out.2.symm R.out.1.symm, rfl⟩

/-- The challenge of a list. -/
def chalS (o z : Int) : Int := (o * 1000003 + z + 1) % 500000003
def chal (zs : List Int) : Int := zs.foldl chalS 7
theorem chalS_lo (o z : Int) : 0 ≤ chalS o z := Int.emod_nonneg _ (by decide)
theorem chalS_hi (o z : Int) : chalS o z < 500000003 := Int.emod_lt_of_pos _ (by decide)
theorem chal_snoc {zs : List Int} {k : Nat} {z : Int} (h : zs[k]? = some z) : chal (zs.take (k + 1)) = chalS (chal (zs.take k)) z := by
  rw [take_snoc' h, chal, List.foldl_append]; rfl
theorem chal_bd (zs : List Int) : 0 ≤ chal zs ∧ chal zs < 500000003 := by
  have : ∀ (l : List Int) (o : Int), 0 ≤ o ∧ o < 500000003 → 0 ≤ l.foldl chalS o ∧ l.foldl chalS o < 500000003 := by
    intro l
    induction l with
    | nil => exact fun o h => h
    | cons a l ih => exact fun o h => ih _ ⟨chalS_lo _ _, chalS_hi _ _⟩
  exact this zs 7 (by decide)
theorem challenge_any (A : Option Addr) (n c : Nat) (zs : List Int) (w : World) (h : Ints .i64 w A n c zs) (hz : Hid (∀ z ∈ zs, modB z = true)) :
    Calls Try.prog 61 #[.slice A n c] w fun e w' => e = .returned (.int .i64 (chal zs)) ∧ w = w' := by
  have hm := h.short
  have hl := Lib.hid h.1
  go_enter Try.func61, Try.ntmps61
  go_wp2
  go_loop [3, 8] (fun o i => ∃ k : Nat, k ≤ n ∧ i = .int .i64 k ∧ o = .int .i64 (chal (zs.take k))) (fun _ i => n - (intOf i).toNat)
  case atStart => exact ⟨0, Nat.zero_le _, rfl, rfl⟩
  case round =>
    obtain ⟨k, hk, rfl, rfl⟩ := hrel
    have hc := chal_bd (zs.take k)
    by_cases hlt : k < n
    · obtain ⟨b, off, z, rfl, hb, hcell, hz1, hz2, hzz⟩ := h.at hlt
      have hb := modB_true (hz.out z (mem_of_at hzz.out))
      have HS := Lib.hid (chal_snoc hzz.out)
      go_wp2
      go_round
      case rel => exact ⟨k + 1, by omega, by go_num, by rw [HS.out]; rfl⟩
      case measure => simp [intOf]; omega
    · go_wp2
      go_ret
      exact ⟨ret_int (by rw [List.take_of_length_le (by rw [hl.out]; omega)]), rfl⟩
theorem l09Challenge_any (A : Option Addr) (n c : Nat) (zs : List Int) (w : World) (h : Ints .i64 w A n c zs) (hz : Hid (∀ z ∈ zs, modB z = true)) :
    Calls Try.prog 94 #[.slice A n c] w fun e w' => e = .returned (.int .i64 (chal zs)) ∧ w = w' := by
  have hm := h.short
  have hl := Lib.hid h.1
  go_enter Try.func94, Try.ntmps94
  go_wp2
  go_loop [3, 4] (fun o i => ∃ k : Nat, k ≤ n ∧ i = .int .i64 k ∧ o = .int .i64 (chal (zs.take k))) (fun _ i => n - (intOf i).toNat)
  case atStart => exact ⟨0, Nat.zero_le _, rfl, rfl⟩
  case round =>
    obtain ⟨k, hk, rfl, rfl⟩ := hrel
    have hc := chal_bd (zs.take k)
    by_cases hlt : k < n
    · obtain ⟨b, off, z, rfl, hb, hcell, hz1, hz2, hzz⟩ := h.at hlt
      have hb := modB_true (hz.out z (mem_of_at hzz.out))
      have HS := Lib.hid (chal_snoc hzz.out)
      go_wp2
      go_round
      case rel => exact ⟨k + 1, by omega, by go_num, by rw [HS.out]; rfl⟩
      case measure => simp [intOf]; omega
    · go_wp2
      go_ret
      exact ⟨ret_int (by rw [List.take_of_length_le (by rw [hl.out]; omega)]), rfl⟩
end Go.Proofs.Ytnjnngnagdhaiaa
