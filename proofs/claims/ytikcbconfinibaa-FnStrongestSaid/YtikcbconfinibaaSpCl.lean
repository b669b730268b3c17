/- What FnStrongest reaches besides: the step, r8Way, r8Least, r8Strength. -/
import Derived.Test.YtikcbconfinibaaShort
import Derived.Test.YtikcbconfinibaaSpStrg
import Derived.Test.YtikcbconfinibaaRkMat
namespace Go.Proofs.Ytikcbconfinibaa
set_option linter.unusedVariables false
set_option linter.unusedSimpArgs false
set_option maxRecDepth 100000
open Go.RowKit Go.Deep
set_option maxHeartbeats 2000000 in
theorem strCl_ok (n : Nat) (n6 : n ≤ 6) (P : Nat → Nat → Int) (v : Int) (a b : Nat) (ha : a < n) (hb : b < n) (gP cP base : Nat) (vP : List Value) (g1 g2 : Nat) (w : World)
    (hM : OwnM w base (some ⟨gP, 0, none⟩) n cP vP (matF n P)) (c1 : w.cell? ⟨g1, 0, none⟩ = some (.slice (some ⟨gP, 0, none⟩) n cP)) (c2 : w.cell? ⟨g2, 0, none⟩ = some (.int .i64 v)) :
    Calls Try.prog 47 #[.int .i64 a, .int .i64 b, .pointer (some ⟨g1, 0, none⟩), .pointer (some ⟨g2, 0, none⟩)] w fun e w' => e = .returned (.bool (edgV P v a b)) ∧ Below w.heap.size w w' := by
  obtain ⟨a1, e1, R1⟩ := hM.rowAt ha
  obtain ⟨a2, e2, R2⟩ := hM.rowAt hb
  have u1 := R1.cell
  have x1 := R1.at' b hb
  have u2 := R2.cell
  have x2 := R2.at' a ha
  have a0 : (0 : Int) ≤ (a : Int) := by omega
  have a1' : (a : Int) < (n : Int) := by omega
  have b0 : (0 : Int) ≤ (b : Int) := by omega
  have b1' : (b : Int) < (n : Int) := by omega
  have ED := Lib.hid (show edgV P v a b = (decide (P b a < P a b) && decide (v ≤ P a b)) from rfl)
  obtain ⟨x, hx⟩ : ∃ x, P a b = x := ⟨_, rfl⟩
  obtain ⟨y, hy⟩ : ∃ x, P b a = x := ⟨_, rfl⟩
  rw [hx] at x1 ED
  rw [hy] at x2 ED
  rw [ED.out]
  clear hx hy R1 R2 hM ED
  by_cases h1 : y < x
  · have d1 := decide_eq_true h1
    by_cases h2 : v ≤ x
    · have d2 := decide_eq_true h2
      have G := Lib.hid (show (decide (y < x) && decide (v ≤ x)) = true from by rw [d1, d2]; rfl)
      rw [G.out]
      clear h1 h2
      go_enter Try.func47, Try.ntmps47
      go_wp2_with fail
      go_quiet (fail)
      go_wp2_with fail
      go_ret
      exact ⟨rfl, below_drewN (Below.refl _ _) _⟩
    · have d2 := decide_eq_false h2
      have G := Lib.hid (show (decide (y < x) && decide (v ≤ x)) = false from by rw [d1, d2]; rfl)
      rw [G.out]
      clear h1 h2
      go_enter Try.func47, Try.ntmps47
      go_wp2_with fail
      go_quiet (fail)
      go_wp2_with fail
      go_ret
      exact ⟨rfl, below_drewN (Below.refl _ _) _⟩
  · have d1 := decide_eq_false h1
    have G := Lib.hid (show (decide (y < x) && decide (v ≤ x)) = false from by rw [d1]; rfl)
    rw [G.out]
    clear h1
    go_enter Try.func47, Try.ntmps47
    go_wp2_with fail
    go_quiet (fail)
    go_wp2_with fail
    go_ret
    exact ⟨rfl, below_drewN (Below.refl _ _) _⟩
theorem r8Least_any (a b : Int) (w : World) : Calls Try.prog 26 #[.int .i64 a, .int .i64 b] w fun e w' => e = .returned (.int .i64 (if a < b then a else b)) ∧ w = w' := by
  by_cases h : a < b
  · have d := decide_eq_true h
    rw [if_pos h]
    clear h
    go_enter Try.func26, Try.ntmps26
    go_wp2_with fail
    go_ret
    exact ⟨rfl, rfl⟩
  · have d := decide_eq_false h
    rw [if_neg h]
    clear h
    go_enter Try.func26, Try.ntmps26
    go_wp2_with fail
    go_ret
    exact ⟨rfl, rfl⟩
theorem r8Way_ok (n : Nat) (S : Nat → Nat → Int) (i m : Nat) (hi : i < n) (hm : m < n) (gS cS base : Nat) (vS : List Value) (w : World) (hM : OwnM w base (some ⟨gS, 0, none⟩) n cS vS (matF n S)) :
    Calls Try.prog 27 #[.slice (some ⟨gS, 0, none⟩) n cS, .int .i64 i, .int .i64 m] w fun e w' => e = .returned (.int .i64 (if i = m then 1000000 else S i m)) ∧ w = w' := by
  by_cases h : i = m
  · subst h
    have d : ((i : Int) == (i : Int)) = true := by simp
    rw [if_pos rfl]
    go_enter Try.func27, Try.ntmps27
    go_wp2_with fail
    go_ret
    exact ⟨rfl, rfl⟩
  · have d : ((i : Int) == (m : Int)) = false := by show decide _ = false; exact decide_eq_false (by omega)
    rw [if_neg h]
    obtain ⟨a1, e1, R1⟩ := hM.rowAt hi
    have u1 := R1.cell
    have x1 := R1.at' m hm
    have i0 : (0 : Int) ≤ (i : Int) := by omega
    have i1 : (i : Int) < (n : Int) := by omega
    have m0 : (0 : Int) ≤ (m : Int) := by omega
    have m1 : (m : Int) < (n : Int) := by omega
    clear h R1
    go_enter Try.func27, Try.ntmps27
    go_wp2_with fail
    go_ret
    exact ⟨rfl, rfl⟩
end Go.Proofs.Ytikcbconfinibaa
