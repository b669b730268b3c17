/- Contracts of the functions on powers, seals and ranges, of the program and of the reference. -/
import Derived.Test.YtnjnngnagdhaiaaRows
import Derived.Test.YtnjnngnagdhaiaaBase
import Derived.Test.YtnjnngnagdhaiaaPow
import Derived.WalkKit
import Derived.WalkLawsBesides
import Derived.Outline
import Derived.Below
import Derived.Lib.Hide
namespace Go.Proofs.Ytnjnngnagdhaiaa
set_option linter.unusedVariables false
open Go.RowKit


/-- Is a number in a range? -/
def inR (n a b : Int) : Bool := decide (a ≤ n) && decide (n ≤ b)
theorem inR_true {n a b : Int} : inR n a b = true ↔ a ≤ n ∧ n ≤ b := by simp [inR]
theorem inR_false {n a b : Int} : inR n a b = false ↔ ¬ (a ≤ n ∧ n ≤ b) := by
  rw [← inR_true]; cases inR n a b <;> simp

theorem within_any (n a b : Int) (w : World) :
    Calls Try.prog 56 #[.int .i64 n, .int .i64 a, .int .i64 b] w fun e w' => e = .returned (.bool (inR n a b)) ∧ w = w' := by
  by_cases h : a ≤ n
  · go_enter Try.func56, Try.ntmps56
    go_wp2
    go_ret
    exact ⟨ret_bool (by simp [inR, h]), rfl⟩
  · have h' : inR n a b = false := inR_false.2 (by omega)
    have H := Lib.hid h'
    clear h'
    go_enter Try.func56, Try.ntmps56
    go_wp2
    go_ret
    exact ⟨ret_bool H.out.symm, rfl⟩
theorem l00In_any (n a b : Int) (w : World) :
    Calls Try.prog 65 #[.int .i64 n, .int .i64 a, .int .i64 b] w fun e w' => e = .returned (.bool (inR n a b)) ∧ w = w' := by
  by_cases h : a ≤ n
  · go_enter Try.func65, Try.ntmps65
    go_wp2
    go_ret
    exact ⟨ret_bool (by simp [inR, h]), rfl⟩
  · have h' : inR n a b = false := inR_false.2 (by omega)
    have H := Lib.hid h'
    clear h'
    go_enter Try.func65, Try.ntmps65
    go_wp2
    go_ret
    exact ⟨ret_bool H.out.symm, rfl⟩
theorem l09Times_any (a b : Int) (w : World) (h0 : 0 ≤ a) (h1 : a < 1000000007) (h2 : 0 ≤ b) (h3 : b < 1000000007) :
    Calls Try.prog 95 #[.int .i64 a, .int .i64 b] w fun e w' => e = .returned (.int .i64 (mm a b)) ∧ w = w' := by
  have m1 : 0 ≤ a * b := Int.mul_nonneg h0 h2
  have m2 : a * b ≤ 1000000007 * 1000000007 := Int.mul_le_mul (by omega) (by omega) h2 (by omega)
  go_enter Try.func95, Try.ntmps95
  go_wp2
  go_ret
  exact ⟨rfl, rfl⟩
theorem power_any (b0 e0 : Int) (w : World) (h0 : 0 ≤ b0) (h1 : b0 < 1000000007) (h2 : 0 ≤ e0) (h3 : e0 ≤ 9223372036854775807) :
    Calls Try.prog 58 #[.int .i64 b0, .int .i64 e0] w fun e w' => e = .returned (.int .i64 (pw b0 e0.toNat)) ∧ w = w' := by
  go_enter Try.func58, Try.ntmps58
  go_wp2
  go_loop [0, 1, 5] (fun b e o => ∃ (bb oo : Int) (k : Nat), 0 ≤ bb ∧ bb < 1000000007 ∧ 0 ≤ oo ∧ oo < 1000000007 ∧ k ≤ 9223372036854775807 ∧ PwInv b0 e0.toNat oo bb k ∧ b = .int .i64 bb ∧ e = .int .i64 k ∧ o = .int .i64 oo) (fun _ e _ => (intOf e).toNat)
  case atStart => exact ⟨b0, 1, e0.toNat, h0, h1, by omega, by omega, by omega, PwInv.start _ _, rfl, by rw [Int.toNat_of_nonneg h2], rfl⟩
  case round =>
    obtain ⟨bb, oo, k, hb0, hb1, ho0, ho1, hk, hinv, rfl, rfl, rfl⟩ := hrel
    have m1 : 0 ≤ bb * bb := Int.mul_nonneg hb0 hb0
    have m2 : bb * bb ≤ 1000000007 * 1000000007 := Int.mul_le_mul (by omega) (by omega) hb0 (by omega)
    have m3 : 0 ≤ oo * bb := Int.mul_nonneg ho0 hb0
    have m4 : oo * bb ≤ 1000000007 * 1000000007 := Int.mul_le_mul (by omega) (by omega) hb0 (by omega)
    have m5 : bb * bb ≤ 9223372036854775807 := by omega
    have m6 : oo * bb ≤ 9223372036854775807 := by omega
    have n0 : 0 ≤ bb * bb % 1000000007 := Int.emod_nonneg _ (by decide)
    have n1 : bb * bb % 1000000007 < 1000000007 := Int.emod_lt_of_pos _ (by decide)
    have n2 : 0 ≤ oo * bb % 1000000007 := Int.emod_nonneg _ (by decide)
    have n3 : oo * bb % 1000000007 < 1000000007 := Int.emod_lt_of_pos _ (by decide)
    by_cases hz : k = 0
    · subst hz
      go_wp2
      go_ret
      exact ⟨ret_int (hinv.done rfl ho0 ho1), rfl⟩
    · by_cases hodd : k % 2 = 1
      · have HI := Lib.hid (hinv.odd hodd)
        go_wp2
        go_round
        case rel => exact ⟨_, _, k / 2, n0, n1, n2, n3, by omega, HI.out, rfl, by go_num, rfl⟩
        case measure => simp [intOf]; omega
      · have HI := Lib.hid (hinv.even (by omega))
        go_wp2
        go_round
        case rel => exact ⟨_, _, k / 2, n0, n1, ho0, ho1, by omega, HI.out, rfl, by go_num, rfl⟩
        case measure => simp [intOf]; omega
theorem l09Power_any (b0 e0 : Int) (w : World) (h0 : 0 ≤ b0) (h1 : b0 < 1000000007) (h2 : 0 ≤ e0) (h3 : e0 ≤ 9223372036854775807) :
    Calls Try.prog 96 #[.int .i64 b0, .int .i64 e0] w fun e w' => e = .returned (.int .i64 (pw b0 e0.toNat)) ∧ w = w' := by
  go_enter Try.func96, Try.ntmps96
  go_wp2
  go_loop [0, 1, 5] (fun b e o => ∃ (bb oo : Int) (k : Nat), 0 ≤ bb ∧ bb < 1000000007 ∧ 0 ≤ oo ∧ oo < 1000000007 ∧ k ≤ 9223372036854775807 ∧ PwInv b0 e0.toNat oo bb k ∧ b = .int .i64 bb ∧ e = .int .i64 k ∧ o = .int .i64 oo) (fun _ e _ => (intOf e).toNat)
  case atStart => exact ⟨b0, 1, e0.toNat, h0, h1, by omega, by omega, by omega, PwInv.start _ _, rfl, by rw [Int.toNat_of_nonneg h2], rfl⟩
  case round =>
    obtain ⟨bb, oo, k, hb0, hb1, ho0, ho1, hk, hinv, rfl, rfl, rfl⟩ := hrel
    have n0 : 0 ≤ mm bb bb := mm_lo _ _
    have n1 : mm bb bb < 1000000007 := mm_hi _ _
    have n2 : 0 ≤ mm oo bb := mm_lo _ _
    have n3 : mm oo bb < 1000000007 := mm_hi _ _
    by_cases hz : k = 0
    · subst hz
      go_wp2_with fail
      go_ret
      exact ⟨ret_int (hinv.done rfl ho0 ho1), rfl⟩
    · by_cases hodd : k % 2 = 1
      · have HI := Lib.hid (hinv.odd hodd)
        go_wp2_with (go_at_call 95; refine (l09Times_any _ _ _ (by omega) (by omega) (by omega) (by omega)).mono ?_; rintro e w' ⟨rfl, rfl⟩)
        go_round
        case rel => exact ⟨_, _, k / 2, n0, n1, n2, n3, by omega, HI.out, rfl, by go_num, rfl⟩
        case measure => simp [intOf]; omega
      · have HI := Lib.hid (hinv.even (by omega))
        go_wp2_with (go_at_call 95; refine (l09Times_any _ _ _ (by omega) (by omega) (by omega) (by omega)).mono ?_; rintro e w' ⟨rfl, rfl⟩)
        go_round
        case rel => exact ⟨_, _, k / 2, n0, n1, ho0, ho1, by omega, HI.out, rfl, by go_num, rfl⟩
        case measure => simp [intOf]; omega

/-- Is a number a seal? -/
def sealB (c : Int) : Bool := inR c 1 1000000006 && (pw c 500000003 == 1)
theorem sealB_out {c : Int} (h : inR c 1 1000000006 = false) : sealB c = false := by simp [sealB, h]
theorem sealB_in {c : Int} (h : inR c 1 1000000006 = true) : sealB c = (pw c 500000003 == 1) := by simp [sealB, h]
theorem implIsSeal_any (c : Int) (w : World) :
    Calls Try.prog 62 #[.int .i64 c] w fun e w' => e = .returned (.bool (sealB c)) ∧ w = w' := by
  cases h : inR c 1 1000000006
  · have H := Lib.hid (sealB_out h)
    have H2 := Lib.hid h
    clear h
    go_enter Try.func62, Try.ntmps62
    go_wp2_with (go_at_call 56; refine (within_any _ _ _ _).mono ?_; rintro e w' ⟨rfl, rfl⟩; rw [H2.out])
    go_ret
    exact ⟨ret_bool H.out.symm, rfl⟩
  · have H := Lib.hid (sealB_in h)
    have H2 := Lib.hid h
    obtain ⟨g1, g2⟩ := inR_true.1 h
    clear h
    go_enter Try.func62, Try.ntmps62
    go_wp2_with (first | (go_at_call 56; refine (within_any _ _ _ _).mono ?_; rintro e w' ⟨rfl, rfl⟩; rw [H2.out]) | (go_at_call 58; refine (power_any _ _ _ (by omega) (by omega) (by omega) (by omega)).mono ?_; rintro e w' ⟨rfl, rfl⟩))
    go_ret
    exact ⟨ret_bool H.out.symm, rfl⟩
theorem l09Seal_any (c : Int) (w : World) :
    Calls Try.prog 92 #[.int .i64 c] w fun e w' => e = .returned (.bool (sealB c)) ∧ w = w' := by
  cases h : inR c 1 1000000006
  · have H := Lib.hid (sealB_out h)
    have H2 := Lib.hid h
    clear h
    go_enter Try.func92, Try.ntmps92
    go_wp2_with (go_at_call 65; refine (l00In_any _ _ _ _).mono ?_; rintro e w' ⟨rfl, rfl⟩; rw [H2.out])
    go_ret
    exact ⟨ret_bool H.out.symm, rfl⟩
  · have H := Lib.hid (sealB_in h)
    have H2 := Lib.hid h
    obtain ⟨g1, g2⟩ := inR_true.1 h
    clear h
    go_enter Try.func92, Try.ntmps92
    go_wp2_with (first | (go_at_call 65; refine (l00In_any _ _ _ _).mono ?_; rintro e w' ⟨rfl, rfl⟩; rw [H2.out]) | (go_at_call 96; refine (l09Power_any _ _ _ (by omega) (by omega) (by omega) (by omega)).mono ?_; rintro e w' ⟨rfl, rfl⟩))
    go_ret
    exact ⟨ret_bool H.out.symm, rfl⟩
end Go.Proofs.Ytnjnngnagdhaiaa
