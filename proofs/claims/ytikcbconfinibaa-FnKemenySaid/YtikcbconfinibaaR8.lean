/- The laws' own small functions. -/
import Derived.Test.YtikcbconfinibaaSrc
namespace Go.Proofs.Ytikcbconfinibaa
set_option linter.unusedVariables false
open Go.RowKit
theorem r8Long_any (A : Option Addr) (n c : Nat) (B : Option Addr) (m d : Nat) (w : World) (hn : n ≤ 9223372036854775807) (hm : m ≤ 9223372036854775807) :
    Calls Try.prog 7 #[.slice A n c, .slice B m d] w fun e w' => e = .returned (.bool (decide ((48 : Int) < n) || decide ((48 : Int) < m))) ∧ w = w' := by
  by_cases h1 : 48 < n
  · go_enter Try.func7, Try.ntmps7
    go_wp2_with fail
    go_ret
    exact ⟨ret_bool (by simp), rfl⟩
  · go_enter Try.func7, Try.ntmps7
    go_wp2_with fail
    go_ret
    exact ⟨ret_bool (by have : ¬ (48 : Int) < n := by omega
                        simp [this]), rfl⟩
theorem r8At_any (A : Option Addr) (n c : Nat) (bs : List Int) (k q : Int) (w : World) (h : Ints .u8 w A n c bs) (k0 : 0 ≤ k) (k1 : k ≤ 9223372036854775807) :
    Calls Try.prog 15 #[.slice A n c, .int .i64 k, .int .i64 q] w fun e w' => ∃ r, e = .returned (.int .i64 r) ∧ Lt1 q r ∧ Below w.heap.size w w' := by
  have hm := h.short
  obtain ⟨j, rfl⟩ := Int.eq_ofNat_of_zero_le k0
  by_cases h1 : q ≤ 1
  · go_enter Try.func15, Try.ntmps15
    go_wp2_with fail
    go_ret
    exact ⟨0, rfl, ⟨by omega, fun h => absurd h (by omega), fun _ => rfl⟩, Below.refl _ _⟩
  · by_cases h2 : j < n
    · obtain ⟨b, off, z, rfl, hb, hcell, z0, z1, hz⟩ := h.at8 h2
      have hx := lt1_mod (x := z) (n := q) (by omega) (by omega)
      go_enter Try.func15, Try.ntmps15
      go_wp2_with fail
      go_ret
      exact ⟨_, rfl, hx, Below.refl _ _⟩
    · go_enter Try.func15, Try.ntmps15
      go_wp2_with fail
      go_ret
      exact ⟨0, rfl, ⟨by omega, fun _ => by omega, fun _ => rfl⟩, Below.refl _ _⟩
end Go.Proofs.Ytikcbconfinibaa
