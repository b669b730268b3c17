/- Fractions over a common denominator. -/
import Derived.Test.YtiodbjfchfmlcaaRisk
namespace Go.Proofs.Ytiodbjfchfmlcaa
set_option linter.unusedVariables false
set_option linter.unusedSimpArgs false
open Go.RowKit
theorem gcdI_dvdl (n d : Int) : gcdI (absI n) d ∣ n := by
  have : (Nat.gcd (absI n).toNat d.toNat : Nat) ∣ n.natAbs := by rw [absI_toNat]; exact Nat.gcd_dvd_left _ _
  unfold gcdI
  exact Int.ofNat_dvd_left.2 this
theorem gcdI_dvdr {n d : Int} (h : 1 ≤ d) : gcdI (absI n) d ∣ d := by
  have : (Nat.gcd (absI n).toNat d.toNat : Nat) ∣ d.natAbs := by
    have e : d.natAbs = d.toNat := by omega
    rw [e]; exact Nat.gcd_dvd_right _ _
  unfold gcdI
  exact Int.ofNat_dvd_left.2 this
theorem red_spec {n d : Int} (h : 1 ≤ d) : gcdI (absI n) d * redN n d = n ∧ gcdI (absI n) d * redD n d = d :=
  ⟨Int.mul_tdiv_cancel' (gcdI_dvdl n d), Int.mul_tdiv_cancel' (gcdI_dvdr h)⟩
theorem red_val {n d : Int} (h : 1 ≤ d) : redN n d * d = n * redD n d := by
  obtain ⟨h1, h2⟩ := red_spec (n := n) h
  calc redN n d * d = redN n d * (gcdI (absI n) d * redD n d) := by rw [h2]
    _ = (gcdI (absI n) d * redN n d) * redD n d := by rw [← Int.mul_assoc, Int.mul_comm (redN n d)]
    _ = n * redD n d := by rw [h1]
theorem redD_pos {n d : Int} (h : 1 ≤ d) : 1 ≤ redD n d := (redD_bd (b := d) h (Int.le_refl _)).1
theorem red_eq {n d n' d' : Int} (h : 1 ≤ d) (h' : 1 ≤ d') (e : n * d' = n' * d) : redN n d = redN n' d' ∧ redD n d = redD n' d' := by
  have v := red_val (n := n) h
  have v' := red_val (n := n') h'
  have p := redD_pos (n := n) h
  have p' := redD_pos (n := n') h'
  have c := red_coprime (n := n) h
  have c' := red_coprime (n := n') h'
  obtain ⟨x, hx⟩ : ∃ x, redN n d = x := ⟨_, rfl⟩
  obtain ⟨y, hy⟩ : ∃ y, redD n d = y := ⟨_, rfl⟩
  obtain ⟨x', hx'⟩ : ∃ x, redN n' d' = x := ⟨_, rfl⟩
  obtain ⟨y', hy'⟩ : ∃ y, redD n' d' = y := ⟨_, rfl⟩
  rw [hx, hy] at v c
  rw [hx', hy'] at v' c'
  rw [hy] at p
  rw [hy'] at p'
  rw [hx, hy, hx', hy']
  -- x * d = n * y, x' * d' = n' * y'
  have k : x * y' = x' * y := by
    have : (x * y') * (d * d') = (x' * y) * (d * d') := by
      calc (x * y') * (d * d') = (x * d) * y' * d' := by ac_rfl
        _ = (n * y) * y' * d' := by rw [v]
        _ = (n * d') * (y * y') := by ac_rfl
        _ = (n' * d) * (y * y') := by rw [e]
        _ = (n' * y') * (d * y) := by ac_rfl
        _ = (x' * d') * (d * y) := by rw [v']
        _ = (x' * y) * (d * d') := by ac_rfl
    exact Int.eq_of_mul_eq_mul_right (Int.ne_of_gt (Int.mul_pos (by omega) (by omega))) this
  have cn : Nat.Coprime x.natAbs y.natAbs := by
    unfold gcdI at c
    rw [absI_toNat, show y.toNat = y.natAbs by omega] at c
    exact_mod_cast c
  have cn' : Nat.Coprime x'.natAbs y'.natAbs := by
    unfold gcdI at c'
    rw [absI_toNat, show y'.toNat = y'.natAbs by omega] at c'
    exact_mod_cast c'
  have kn : x.natAbs * y'.natAbs = x'.natAbs * y.natAbs := by rw [← Int.natAbs_mul, ← Int.natAbs_mul, k]
  have d1 : y.natAbs ∣ y'.natAbs := cn.symm.dvd_of_dvd_mul_left ⟨x'.natAbs, by rw [kn, Nat.mul_comm]⟩
  have d2 : y'.natAbs ∣ y.natAbs := cn'.symm.dvd_of_dvd_mul_left ⟨x.natAbs, by rw [← kn, Nat.mul_comm]⟩
  have ey : y = y' := by have := Nat.dvd_antisymm d1 d2; omega
  subst ey
  exact ⟨Int.eq_of_mul_eq_mul_right (by omega) k, rfl⟩
theorem red_whole (c : Int) {D : Int} (h : 1 ≤ D) : redN (c * D) D = c ∧ redD (c * D) D = 1 := by
  have := red_eq (n := c * D) (d := D) (n' := c) (d' := 1) h (by omega) (by rw [Int.mul_one])
  have g : gcdI (absI c) 1 = 1 := by unfold gcdI; simp
  have r := red_one (n := c) (d := 1) g
  rw [this.1, this.2, r.1, r.2]
  exact ⟨rfl, rfl⟩
theorem red_plus {a b D : Int} (h : 1 ≤ D) : redN (redN a D * redD b D + redN b D * redD a D) (redD a D * redD b D) = redN (a + b) D ∧ redD (redN a D * redD b D + redN b D * redD a D) (redD a D * redD b D) = redD (a + b) D := by
  have p := redD_pos (n := a) h
  have p' := redD_pos (n := b) h
  refine red_eq (by have := Int.mul_pos (a := redD a D) (b := redD b D) (by omega) (by omega); omega) h ?_
  have v := red_val (n := a) h
  have v' := red_val (n := b) h
  calc (redN a D * redD b D + redN b D * redD a D) * D = (redN a D * D) * redD b D + (redN b D * D) * redD a D := by rw [Int.add_mul]; ac_rfl
    _ = (a * redD a D) * redD b D + (b * redD b D) * redD a D := by rw [v, v']
    _ = (a + b) * (redD a D * redD b D) := by rw [Int.add_mul]; ac_rfl
theorem red_neg {a D : Int} (h : 1 ≤ D) : redN (-a) D = -redN a D ∧ redD (-a) D = redD a D := by
  have e : absI (-a) = absI a := by unfold absI; split <;> split <;> omega
  unfold redN redD
  rw [e]
  exact ⟨Int.neg_tdiv .., rfl⟩
theorem red_over {a D m : Int} (h : 1 ≤ D) (hm : 1 ≤ m) : redN (redN a D * 1) (redD a D * m) = redN a (D * m) ∧ redD (redN a D * 1) (redD a D * m) = redD a (D * m) := by
  have p := redD_pos (n := a) h
  have q1 := Int.mul_pos (a := redD a D) (b := m) (by omega) (by omega)
  have q2 := Int.mul_pos (a := D) (b := m) (by omega) (by omega)
  refine red_eq (by omega) (by omega) ?_
  have v := red_val (n := a) h
  calc redN a D * 1 * (D * m) = (redN a D * D) * m := by rw [Int.mul_one]; ac_rfl
    _ = a * (redD a D * m) := by rw [v]; ac_rfl
theorem red_scale {a D m : Int} (h : 1 ≤ D) (hm : 1 ≤ m) : redN (a * m) (D * m) = redN a D ∧ redD (a * m) (D * m) = redD a D := by
  have q2 := Int.mul_pos (a := D) (b := m) (by omega) (by omega)
  exact red_eq (by omega) h (by ac_rfl)
theorem red_lt {a b D : Int} (h : 1 ≤ D) : redN a D * redD b D < redN b D * redD a D ↔ a < b := by
  have p := redD_pos (n := a) h
  have p' := redD_pos (n := b) h
  have v := red_val (n := a) h
  have v' := red_val (n := b) h
  have q := Int.mul_pos (a := redD a D) (b := redD b D) (by omega) (by omega)
  have e1 : (redN a D * redD b D) * D = a * (redD a D * redD b D) := by
    calc (redN a D * redD b D) * D = (redN a D * D) * redD b D := by ac_rfl
      _ = a * (redD a D * redD b D) := by rw [v]; ac_rfl
  have e2 : (redN b D * redD a D) * D = b * (redD a D * redD b D) := by
    calc (redN b D * redD a D) * D = (redN b D * D) * redD a D := by ac_rfl
      _ = b * (redD a D * redD b D) := by rw [v']; ac_rfl
  constructor
  · intro hh
    have := Int.mul_lt_mul_of_pos_right hh (show 0 < D by omega)
    rw [e1, e2] at this
    exact Int.lt_of_mul_lt_mul_right this (by omega)
  · intro hh
    have := Int.mul_lt_mul_of_pos_right hh q
    rw [← e1, ← e2] at this
    exact Int.lt_of_mul_lt_mul_right this (by omega)
/-- A whole value in lowest terms. -/
theorem red_int {a c D : Int} (h : 1 ≤ D) (e : a = c * D) : redN a D = c ∧ redD a D = 1 := by subst e; exact red_whole c h
theorem mul_bd {x y M E : Int} (h1 : -M ≤ x) (h2 : x ≤ M) (h3 : 1 ≤ y) (h4 : y ≤ E) : -(M * E) ≤ x * y ∧ x * y ≤ M * E := by
  have m0 : 0 ≤ M := by omega
  constructor
  · have a := Int.mul_le_mul_of_nonneg_right h1 (show 0 ≤ y by omega)
    have b := Int.mul_le_mul_of_nonneg_left h4 m0
    rw [Int.neg_mul] at a
    omega
  · have a := Int.mul_le_mul_of_nonneg_right h2 (show 0 ≤ y by omega)
    have b := Int.mul_le_mul_of_nonneg_left h4 m0
    omega
end Go.Proofs.Ytiodbjfchfmlcaa
