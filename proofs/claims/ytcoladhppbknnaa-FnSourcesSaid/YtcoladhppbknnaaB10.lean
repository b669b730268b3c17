/- The laws' own small functions (b10). -/
import Derived.Test.YtcoladhppbknnaaSrc
import Derived.Test.YtcoladhppbknnaaMat
import Derived.Deep.QuietTactic
namespace Go.Proofs.Ytcoladhppbknnaa
set_option linter.unusedVariables false
set_option linter.unusedSimpArgs false
open Go.RowKit
theorem b10Long_ok (A : Option Addr) (n c : Nat) (B : Option Addr) (m d : Nat) (w : World) (hn : n ≤ 9223372036854775807) (hm : m ≤ 9223372036854775807) :
    Calls Try.prog 22 #[.slice A n c, .slice B m d] w fun e w' => e = .returned (.bool (decide ((1048576 : Int) < n) || decide ((1048576 : Int) < m))) ∧ w = w' := by
  by_cases h1 : 1048576 < n
  · go_enter Try.func22, Try.ntmps22
    go_wp2_with fail
    go_ret
    exact ⟨ret_bool (by simp), rfl⟩
  · go_enter Try.func22, Try.ntmps22
    go_wp2_with fail
    go_ret
    exact ⟨ret_bool (by have : ¬ (1048576 : Int) < n := by omega
                        simp [this]), rfl⟩
theorem b10At_ok (A : Option Addr) (n c : Nat) (bs : List Int) (k q : Int) (w : World) (h : Ints .u8 w A n c bs) (k0 : 0 ≤ k) (k1 : k ≤ 1000) (q1 : q ≤ 4611686018427387904) :
    Calls Try.prog 32 #[.slice A n c, .int .i64 k, .int .i64 q] w fun e w' => ∃ r, e = .returned (.int .i64 r) ∧ Lt1 q r ∧ Below w.heap.size w w' := by
  have hm := h.short
  obtain ⟨j, rfl⟩ := Int.eq_ofNat_of_zero_le k0
  by_cases h1 : q ≤ 1
  · go_enter Try.func32, Try.ntmps32
    go_wp2_with fail
    go_ret
    exact ⟨0, rfl, ⟨by omega, fun h => absurd h (by omega), fun _ => rfl⟩, Below.refl _ _⟩
  · by_cases h2 : j < n
    · obtain ⟨b, off, z, rfl, hb, hcell, z0, z1, hz⟩ := h.at8 h2
      have hx := lt1_mod (x := z) (n := q) (by omega) (by omega)
      go_enter Try.func32, Try.ntmps32
      go_wp2_with fail
      go_ret
      exact ⟨_, rfl, hx, Below.refl _ _⟩
    · have ew1 : IntKind.i64.wrap ((j : Int) * 37) = (j : Int) * 37 := IntWalk.i64_in _ (by omega)
      have ew2 : IntKind.i64.wrap ((j : Int) * 37 + 11) = (j : Int) * 37 + 11 := IntWalk.i64_in _ (by omega)
      have hx := lt1_mod (x := (j : Int) * 37 + 11) (n := q) (by omega) (by omega)
      go_enter Try.func32, Try.ntmps32
      go_wp2_with fail
      go_ret
      exact ⟨_, rfl, hx, Below.refl _ _⟩
theorem b10Has_any (A : Option Addr) (n c : Nat) (zs : List Int) (x : Int) (w : World) (h : Ints .i64 w A n c zs) :
    Calls Try.prog 36 #[.slice A n c, .int .i64 x] w fun e w' => e = .returned (.bool (zs.any (· == x))) ∧ w = w' := by
  have hm := h.short
  have hl := Lib.hid h.1
  go_enter Try.func36, Try.ntmps36
  go_wp2_with fail
  go_loop [5] (fun i => ∃ k : Nat, k ≤ n ∧ i = .int .i64 k ∧ (zs.take k).any (· == x) = false) (fun i => n - (intOf i).toNat)
  case atStart => exact ⟨0, Nat.zero_le _, rfl, rfl⟩
  case round =>
    obtain ⟨k, hk, rfl, hany⟩ := hrel
    have HA := Lib.hid hany
    clear hany
    by_cases hlt : k < n
    · obtain ⟨b, off, z, rfl, hb, hcell, hz1, hz2, hz⟩ := h.at hlt
      by_cases hzx : z = x
      · have hq : (z == x) = true := by simp [hzx]
        have R := Lib.hid (any_stop (p := (· == x)) hz.out hq)
        clear hzx
        go_wp2_with fail
        go_ret
        exact ⟨ret_bool R.out.symm, rfl⟩
      · have hq : (z == x) = false := by simpa using hzx
        have R := Lib.hid (any_next (p := (· == x)) hz.out HA.out hq)
        clear hzx
        go_wp2_with fail
        go_round
        case rel => exact ⟨k + 1, by omega, by go_num, R.out⟩
        case measure => simp [intOf]; omega
    · have R := Lib.hid (any_end (p := (· == x)) (by rw [hl.out]; omega) HA.out)
      go_wp2_with fail
      go_ret
      exact ⟨ret_bool R.out.symm, rfl⟩
theorem l00Has_any (A : Option Addr) (n c : Nat) (zs : List Int) (x : Int) (w : World) (h : Ints .i64 w A n c zs) :
    Calls Try.prog 120 #[.slice A n c, .int .i64 x] w fun e w' => e = .returned (.bool (zs.any (· == x))) ∧ w = w' := by
  have hm := h.short
  have hl := Lib.hid h.1
  go_enter Try.func120, Try.ntmps120
  go_wp2_with fail
  go_loop [5] (fun i => ∃ k : Nat, k ≤ n ∧ i = .int .i64 k ∧ (zs.take k).any (· == x) = false) (fun i => n - (intOf i).toNat)
  case atStart => exact ⟨0, Nat.zero_le _, rfl, rfl⟩
  case round =>
    obtain ⟨k, hk, rfl, hany⟩ := hrel
    have HA := Lib.hid hany
    clear hany
    by_cases hlt : k < n
    · obtain ⟨b, off, z, rfl, hb, hcell, hz1, hz2, hz⟩ := h.at hlt
      by_cases hzx : z = x
      · have hq : (z == x) = true := by simp [hzx]
        have R := Lib.hid (any_stop (p := (· == x)) hz.out hq)
        clear hzx
        go_wp2_with fail
        go_ret
        exact ⟨ret_bool R.out.symm, rfl⟩
      · have hq : (z == x) = false := by simpa using hzx
        have R := Lib.hid (any_next (p := (· == x)) hz.out HA.out hq)
        clear hzx
        go_wp2_with fail
        go_round
        case rel => exact ⟨k + 1, by omega, by go_num, R.out⟩
        case measure => simp [intOf]; omega
    · have R := Lib.hid (any_end (p := (· == x)) (by rw [hl.out]; omega) HA.out)
      go_wp2_with fail
      go_ret
      exact ⟨ret_bool R.out.symm, rfl⟩
end Go.Proofs.Ytcoladhppbknnaa
