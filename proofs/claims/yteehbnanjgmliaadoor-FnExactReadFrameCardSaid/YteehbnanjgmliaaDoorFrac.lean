/- Contracts of the functions on fractions. -/
import Derived.Test.YteehbnanjgmliaaDoorSealWalks
import Derived.Test.YteehbnanjgmliaaDoorFold
namespace Go.Proofs.YteehbnanjgmliaaDoor
set_option linter.unusedVariables false
open Go.RowKit

/-- The greatest common divisor. -/
def gcdI (a b : Int) : Int := (Nat.gcd a.toNat b.toNat : Nat)
theorem gcdI_step {a b : Int} (h : 0 ≤ a) (h' : 0 ≤ b) : gcdI b (a % b) = gcdI a b := by
  unfold gcdI
  have : (a % b).toNat = a.toNat % b.toNat := by
    obtain ⟨x, rfl⟩ := Int.eq_ofNat_of_zero_le h
    obtain ⟨y, rfl⟩ := Int.eq_ofNat_of_zero_le h'
    have e : ((x : Int) % (y : Int)) = ((x % y : Nat) : Int) := (Int.natCast_emod x y).symm
    rw [e, Int.toNat_natCast]; simp
  rw [this, Nat.gcd_comm a.toNat, Nat.gcd_rec b.toNat a.toNat, Nat.gcd_comm]
theorem gcdI_zero {a : Int} (h : 0 ≤ a) : gcdI a 0 = a := by simp [gcdI]; omega
theorem gcdI_bd {a b : Int} (h : 0 < a ∨ 0 < b) : 1 ≤ gcdI a b := by
  have : 0 < Nat.gcd a.toNat b.toNat := by
    rcases h with h | h
    · exact Nat.gcd_pos_of_pos_left _ (by omega)
    · exact Nat.gcd_pos_of_pos_right _ (by omega)
  unfold gcdI; omega
theorem gcdI_le {a b : Int} (h : 0 < b) : gcdI a b ≤ b := by
  have : Nat.gcd a.toNat b.toNat ≤ b.toNat := Nat.gcd_le_right _ (by omega)
  unfold gcdI; omega
theorem gcdI_nonneg (a b : Int) : 0 ≤ gcdI a b := by unfold gcdI; omega
/-- A number without its sign. -/
def absI (n : Int) : Int := if n < 0 then -n else n
theorem absI_neg {n : Int} (h : n < 0) : absI n = -n := by simp [absI, h]
theorem absI_pos {n : Int} (h : ¬ n < 0) : absI n = n := by simp [absI, h]
theorem absI_lo (n : Int) : 0 ≤ absI n := by unfold absI; split <;> omega
theorem absI_hi {n b : Int} (h : -b ≤ n) (h' : n ≤ b) : absI n ≤ b := by unfold absI; split <;> omega
/-- A fraction in lowest terms: its numerator and its denominator. -/
def redN (n d : Int) : Int := n.tdiv (gcdI (absI n) d)
def redD (n d : Int) : Int := d.tdiv (gcdI (absI n) d)
theorem red_one {n d : Int} (h : gcdI (absI n) d = 1) : redN n d = n ∧ redD n d = d := by simp [redN, redD, h]
theorem tdiv_bd {n g b : Int} (h : -b ≤ n) (h' : n ≤ b) : -b ≤ n.tdiv g ∧ n.tdiv g ≤ b := by
  have := Int.natAbs_tdiv_le_natAbs n g
  omega
theorem bel_pair (w : World) (o : Obj) (m : Nat) (a b : Value) : Below w.heap.size w ((((w.alloc o).drewN m).setCell ⟨w.heap.size, 0, none⟩ a).setCell ⟨w.heap.size, 1, none⟩ b) :=
  (((below_drewN (bel_alloc w o) m).setCell (Nat.le_refl _) a).setCell (Nat.le_refl _) b)
/-- Is a fraction valid? -/
def okF (n d : Int) : Bool := inR d 1 1000000000 && inR n (-1000000000) 1000000000 && (gcdI (absI n) d == 1)
theorem okF_no1 {n d : Int} (h : inR d 1 1000000000 = false) : okF n d = false := by simp [okF, h]
theorem okF_no2 {n d : Int} (h : inR n (-1000000000) 1000000000 = false) : okF n d = false := by simp [okF, h]
theorem okF_in {n d : Int} (h : inR d 1 1000000000 = true) (h' : inR n (-1000000000) 1000000000 = true) : okF n d = (gcdI (absI n) d == 1) := by simp [okF, h, h']
theorem okF_true {n d : Int} (h : okF n d = true) : 1 ≤ d ∧ d ≤ 1000000000 ∧ -1000000000 ≤ n ∧ n ≤ 1000000000 ∧ gcdI (absI n) d = 1 := by
  simp only [okF, Bool.and_eq_true, beq_iff_eq] at h
  obtain ⟨⟨h1, h2⟩, h3⟩ := h
  have := inR_true.1 h1
  have := inR_true.1 h2
  exact ⟨by omega, by omega, by omega, by omega, h3⟩
theorem within_val {n a b : Int} {v : Bool} (h : inR n a b = v) (w : World) : Calls Tryd.prog 23 #[.int .i64 n, .int .i64 a, .int .i64 b] w fun e w' => e = .returned (.bool v) ∧ w = w' :=
  (within_any n a b w).mono fun _ _ ⟨h1, h2⟩ => ⟨by rw [h1, h], h2⟩
theorem l00In_val {n a b : Int} {v : Bool} (h : inR n a b = v) (w : World) : Calls Tryd.prog 18 #[.int .i64 n, .int .i64 a, .int .i64 b] w fun e w' => e = .returned (.bool v) ∧ w = w' :=
  (l00In_any n a b w).mono fun _ _ ⟨h1, h2⟩ => ⟨by rw [h1, h], h2⟩
end Go.Proofs.YteehbnanjgmliaaDoor
