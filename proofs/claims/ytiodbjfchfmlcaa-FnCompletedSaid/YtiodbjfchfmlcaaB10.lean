/- The laws' own small functions (b10). -/
import Derived.Test.YtiodbjfchfmlcaaSrc
import Derived.Test.YtiodbjfchfmlcaaMat
import Derived.Deep.QuietTactic
namespace Go.Proofs.Ytiodbjfchfmlcaa
set_option linter.unusedVariables false
set_option linter.unusedSimpArgs false
open Go.RowKit
theorem b10Long_ok (A : Option Addr) (n c : Nat) (B : Option Addr) (m d : Nat) (w : World) (hn : n ≤ 9223372036854775807) (hm : m ≤ 9223372036854775807) :
    Calls Try.prog 6 #[.slice A n c, .slice B m d] w fun e w' => e = .returned (.bool (decide ((1048576 : Int) < n) || decide ((1048576 : Int) < m))) ∧ w = w' := by
  by_cases h1 : 1048576 < n
  · go_enter Try.func6, Try.ntmps6
    go_wp2_with fail
    go_ret
    exact ⟨ret_bool (by simp), rfl⟩
  · go_enter Try.func6, Try.ntmps6
    go_wp2_with fail
    go_ret
    exact ⟨ret_bool (by have : ¬ (1048576 : Int) < n := by omega
                        simp [this]), rfl⟩
theorem b10Has_any (A : Option Addr) (n c : Nat) (zs : List Int) (x : Int) (w : World) (h : Ints .i64 w A n c zs) :
    Calls Try.prog 11 #[.slice A n c, .int .i64 x] w fun e w' => e = .returned (.bool (zs.any (· == x))) ∧ w = w' := by
  have hm := h.short
  have hl := Lib.hid h.1
  go_enter Try.func11, Try.ntmps11
  go_wp2_with fail
  go_loop [5] (fun i => ∃ k : Nat, k ≤ n ∧ i = .int .i64 k ∧ (zs.take k).any (· == x) = false) (fun i => n - (intOf i).toNat)
  case atStart => exact ⟨0, Nat.zero_le _, rfl, rfl⟩
  case round =>
    obtain ⟨k, hk, rfl, hany⟩ := hrel
    have HA := Lib.hid hany
    clear hany
    by_cases hlt : k < n
    · obtain ⟨b, off, z, rfl, hb, hcell, hz1, hz2, hz⟩ := h.at hlt
      by_cases hzx : z = x
      · have hq : (z == x) = true := by simp [hzx]
        have R := Lib.hid (any_stop (p := (· == x)) hz.out hq)
        clear hzx
        go_wp2_with fail
        go_ret
        exact ⟨ret_bool R.out.symm, rfl⟩
      · have hq : (z == x) = false := by simpa using hzx
        have R := Lib.hid (any_next (p := (· == x)) hz.out HA.out hq)
        clear hzx
        go_wp2_with fail
        go_round
        case rel => exact ⟨k + 1, by omega, by go_num, R.out⟩
        case measure => simp [intOf]; omega
    · have R := Lib.hid (any_end (p := (· == x)) (by rw [hl.out]; omega) HA.out)
      go_wp2_with fail
      go_ret
      exact ⟨ret_bool R.out.symm, rfl⟩
theorem b10Nums_eq (A : Option Addr) (n c : Nat) (B : Option Addr) (d : Nat) (zs : List Int) (w : World) (h : Ints .i64 w A n c zs) (k : Ints .i64 w B n d zs) :
    Calls Try.prog 21 #[.slice A n c, .slice B n d] w fun e w' => e = .returned (.bool true) ∧ Below w.heap.size w w' := by
  have hm := h.short
  have HA := Lib.hid h
  have HB := Lib.hid k
  clear h k
  go_enter Try.func21, Try.ntmps21
  go_wp2_with fail
  go_loopw [5] (fun i wr => ∃ k : Nat, k ≤ n ∧ i = .int .i64 k ∧ Below w.heap.size w wr) (fun i _ => n - (intOf i).toNat)
  case atStart => exact ⟨0, Nat.zero_le _, rfl, Below.refl _ _⟩
  case round =>
    obtain ⟨k, hk, rfl, hw⟩ := hrel
    have HW := Lib.hid hw
    by_cases hlt : k < n
    · obtain ⟨b, off, z, rfl, hb, hcell, hz1, hz2, hz⟩ := (HA.out.below HW.out).at hlt
      obtain ⟨b', off', z', rfl, hb', hcell', hz1', hz2', hz'⟩ := (HB.out.below HW.out).at hlt
      obtain rfl : z = z' := by have := hz.out; rw [hz'.out] at this; injection this with this; exact this.symm
      have d0 := decide_eq_true (show (k : Int) < (n : Int) by omega)
      have k0 : (0 : Int) ≤ (k : Int) := by omega
      have k1 : (k : Int) < (n : Int) := by omega
      clear hw
      go_wp2_with fail
      go_quiet (fail)
      go_wp2_with fail
      go_roundw
      case rel => exact ⟨k + 1, by omega, by go_num, below_drewN HW.out _⟩
      case measure => simp [intOf]; omega
    · obtain rfl : n = k := by omega
      have d0 := decide_eq_false (show ¬ (n : Int) < (n : Int) by omega)
      clear hw
      go_wp2_with fail
      go_ret
      exact ⟨rfl, HW.out⟩
end Go.Proofs.Ytiodbjfchfmlcaa
