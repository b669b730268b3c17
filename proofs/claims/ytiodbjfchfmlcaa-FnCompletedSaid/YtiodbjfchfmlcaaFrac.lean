/- Contracts of the functions on fractions. -/
import Derived.Test.YtiodbjfchfmlcaaSealWalks
import Derived.Test.YtiodbjfchfmlcaaFold
namespace Go.Proofs.Ytiodbjfchfmlcaa
set_option linter.unusedVariables false
open Go.RowKit

/-- The greatest common divisor. -/
def gcdI (a b : Int) : Int := (Nat.gcd a.toNat b.toNat : Nat)
theorem gcdI_step {a b : Int} (h : 0 ≤ a) (h' : 0 ≤ b) : gcdI b (a % b) = gcdI a b := by
  unfold gcdI
  have : (a % b).toNat = a.toNat % b.toNat := by
    obtain ⟨x, rfl⟩ := Int.eq_ofNat_of_zero_le h
    obtain ⟨y, rfl⟩ := Int.eq_ofNat_of_zero_le h'
    have e : ((x : Int) % (y : Int)) = ((x % y : Nat) : Int) := (Int.natCast_emod x y).symm
    rw [e, Int.toNat_natCast]; simp
  rw [this, Nat.gcd_comm a.toNat, Nat.gcd_rec b.toNat a.toNat, Nat.gcd_comm]
theorem gcdI_zero {a : Int} (h : 0 ≤ a) : gcdI a 0 = a := by simp [gcdI]; omega
theorem gcdI_bd {a b : Int} (h : 0 < a ∨ 0 < b) : 1 ≤ gcdI a b := by
  have : 0 < Nat.gcd a.toNat b.toNat := by
    rcases h with h | h
    · exact Nat.gcd_pos_of_pos_left _ (by omega)
    · exact Nat.gcd_pos_of_pos_right _ (by omega)
  unfold gcdI; omega
theorem gcdI_le {a b : Int} (h : 0 < b) : gcdI a b ≤ b := by
  have : Nat.gcd a.toNat b.toNat ≤ b.toNat := Nat.gcd_le_right _ (by omega)
  unfold gcdI; omega
theorem gcdI_nonneg (a b : Int) : 0 ≤ gcdI a b := by unfold gcdI; omega
theorem divisor_any (a0 b0 : Int) (w : World) (h0 : 0 ≤ a0) (h1 : a0 ≤ 9223372036854775807) (h2 : 0 ≤ b0) (h3 : b0 ≤ 9223372036854775807) :
    Calls Try.prog 55 #[.int .i64 a0, .int .i64 b0] w fun e w' => e = .returned (.int .i64 (gcdI a0 b0)) ∧ ∃ m, w' = w.drewN m := by
  go_enter Try.func55, Try.ntmps55
  go_wp2_with fail
  go_loopw [0, 1] (fun a b wr => ∃ (x y : Int), 0 ≤ x ∧ x ≤ 9223372036854775807 ∧ 0 ≤ y ∧ y ≤ 9223372036854775807 ∧ Hid (gcdI x y = gcdI a0 b0) ∧ a = .int .i64 x ∧ b = .int .i64 y ∧ ∃ m, wr = w.drewN m) (fun _ b _ => (intOf b).toNat)
  case atStart => exact ⟨a0, b0, h0, h1, h2, h3, rfl, rfl, rfl, ⟨0, rfl⟩⟩
  case round =>
    obtain ⟨x, y, x0, x1, y0, y1, hinv, rfl, rfl, mm_, hmm⟩ := hrel
    have HM := Lib.hid hmm
    clear hmm
    by_cases hz : y = 0
    · subst hz
      go_wp2_with fail
      go_ret
      exact ⟨ret_int (hinv.out ▸ (gcdI_zero x0).symm), mm_, HM.out⟩
    · have hstep : Hid (gcdI y (x % y) = gcdI a0 b0) := (gcdI_step x0 y0).trans hinv.out
      have m0 : 0 ≤ x % y := Int.emod_nonneg _ hz
      have m1 : x % y < y := Int.emod_lt_of_pos _ (by omega)
      have hz1 : (y == 0) = false := by simpa using hz
      have hz2 : (y != 0) = true := by simpa using hz
      go_wp2_with fail
      go_region
      all_goals (go_wp2_with fail)
      go_roundw
      case rel => exact ⟨y, x % y, y0, y1, m0, by omega, hstep, rfl, rfl, mm_ + 1, by rw [HM.out]; rfl⟩
      case measure => simp [intOf]; omega
/-- A number without its sign. -/
def absI (n : Int) : Int := if n < 0 then -n else n
theorem absI_neg {n : Int} (h : n < 0) : absI n = -n := by simp [absI, h]
theorem absI_pos {n : Int} (h : ¬ n < 0) : absI n = n := by simp [absI, h]
theorem absI_lo (n : Int) : 0 ≤ absI n := by unfold absI; split <;> omega
theorem absI_hi {n b : Int} (h : -b ≤ n) (h' : n ≤ b) : absI n ≤ b := by unfold absI; split <;> omega
theorem absolute_any (n : Int) (w : World) (h0 : -9223372036854775807 ≤ n) (h1 : n ≤ 9223372036854775807) :
    Calls Try.prog 56 #[.int .i64 n] w fun e w' => e = .returned (.int .i64 (absI n)) ∧ w = w' := by
  by_cases hn : n < 0
  · have R := Lib.hid (absI_neg hn)
    go_enter Try.func56, Try.ntmps56
    go_wp2_with fail
    go_ret
    exact ⟨ret_int R.out.symm, rfl⟩
  · have R := Lib.hid (absI_pos hn)
    go_enter Try.func56, Try.ntmps56
    go_wp2_with fail
    all_goals (go_ret; exact ⟨ret_int (by rw [R.out] <;> omega), rfl⟩)
/-- A fraction in lowest terms: its numerator and its denominator. -/
def redN (n d : Int) : Int := n.tdiv (gcdI (absI n) d)
def redD (n d : Int) : Int := d.tdiv (gcdI (absI n) d)
theorem red_one {n d : Int} (h : gcdI (absI n) d = 1) : redN n d = n ∧ redD n d = d := by simp [redN, redD, h]
theorem tdiv_bd {n g b : Int} (h : -b ≤ n) (h' : n ≤ b) : -b ≤ n.tdiv g ∧ n.tdiv g ≤ b := by
  have := Int.natAbs_tdiv_le_natAbs n g
  omega
theorem bel_pair (w : World) (o : Obj) (m : Nat) (a b : Value) : Below w.heap.size w ((((w.alloc o).drewN m).setCell ⟨w.heap.size, 0, none⟩ a).setCell ⟨w.heap.size, 1, none⟩ b) :=
  (((below_drewN (bel_alloc w o) m).setCell (Nat.le_refl _) a).setCell (Nat.le_refl _) b)
theorem fraction_any (n d : Int) (w : World) (h0 : -9223372036854775807 ≤ n) (h1 : n ≤ 9223372036854775807) (h2 : 1 ≤ d) (h3 : d ≤ 9223372036854775807) :
    Calls Try.prog 57 #[.int .i64 n, .int .i64 d] w fun e w' => e = .returned (.agg #[.int .i64 (redN n d), .int .i64 (redD n d)]) ∧ Below w.heap.size w w' := by
  have a0 := absI_lo n
  have a1 := absI_hi h0 h1
  have g0 : 1 ≤ gcdI (absI n) d := gcdI_bd (.inr (by omega))
  have g1 := gcdI_le (a := absI n) (show 0 < d by omega)
  by_cases hg : 1 < gcdI (absI n) d
  · have q1 := tdiv_bd (g := gcdI (absI n) d) h0 h1
    have q2 := tdiv_bd (n := d) (g := gcdI (absI n) d) (b := 9223372036854775807) (by omega) h3
    go_enter Try.func57, Try.ntmps57
    go_wp2_with fail
    refine (absolute_any _ _ h0 h1).mono ?_
    rintro e w1 ⟨rfl, rfl⟩
    go_wp2_with fail
    refine (divisor_any _ _ _ a0 a1 (by omega) h3).mono ?_
    rintro e w1 ⟨rfl, m, rfl⟩
    have W1 : IntKind.i64.wrap (n.tdiv (gcdI (absI n) d)) = n.tdiv (gcdI (absI n) d) := IntWalk.i64_in _ (by omega)
    have W2 : IntKind.i64.wrap (d.tdiv (gcdI (absI n) d)) = d.tdiv (gcdI (absI n) d) := IntWalk.i64_in _ (by omega)
    go_wp2_with fail
    go_region
    all_goals (go_wp2_with fail)
    exact bodyPost_ret (v := .agg #[.int .i64 (redN n d), .int .i64 (redD n d)]) (by simp [results, Try.results57, go_sem, redN, redD]) rfl ⟨rfl, bel_pair _ _ _ _ _⟩
  · have hg1 : gcdI (absI n) d = 1 := by omega
    have R := Lib.hid (red_one hg1)
    have G := Lib.hid hg1
    clear hg1
    go_enter Try.func57, Try.ntmps57
    go_wp2_with fail
    refine (absolute_any _ _ h0 h1).mono ?_
    rintro e w1 ⟨rfl, rfl⟩
    go_wp2_with fail
    refine (divisor_any _ _ _ a0 a1 (by omega) h3).mono ?_
    rintro e w1 ⟨rfl, m, rfl⟩
    rw [G.out]
    go_wp2_with fail
    refine bodyPost_ret (v := .agg #[.int .i64 n, .int .i64 d]) (by simp [results, Try.results57, go_sem]) rfl ⟨by rw [R.out.1, R.out.2], bel_pair _ _ _ _ _⟩
/-- Is a fraction valid? -/
def okF (n d : Int) : Bool := inR d 1 1000000000 && inR n (-1000000000) 1000000000 && (gcdI (absI n) d == 1)
theorem okF_no1 {n d : Int} (h : inR d 1 1000000000 = false) : okF n d = false := by simp [okF, h]
theorem okF_no2 {n d : Int} (h : inR n (-1000000000) 1000000000 = false) : okF n d = false := by simp [okF, h]
theorem okF_in {n d : Int} (h : inR d 1 1000000000 = true) (h' : inR n (-1000000000) 1000000000 = true) : okF n d = (gcdI (absI n) d == 1) := by simp [okF, h, h']
theorem okF_true {n d : Int} (h : okF n d = true) : 1 ≤ d ∧ d ≤ 1000000000 ∧ -1000000000 ≤ n ∧ n ≤ 1000000000 ∧ gcdI (absI n) d = 1 := by
  simp only [okF, Bool.and_eq_true, beq_iff_eq] at h
  obtain ⟨⟨h1, h2⟩, h3⟩ := h
  have := inR_true.1 h1
  have := inR_true.1 h2
  exact ⟨by omega, by omega, by omega, by omega, h3⟩
theorem within_val {n a b : Int} {v : Bool} (h : inR n a b = v) (w : World) : Calls Try.prog 46 #[.int .i64 n, .int .i64 a, .int .i64 b] w fun e w' => e = .returned (.bool v) ∧ w = w' :=
  (within_any n a b w).mono fun _ _ ⟨h1, h2⟩ => ⟨by rw [h1, h], h2⟩
theorem validFraction_any (n d : Int) (w : World) :
    Calls Try.prog 30 #[.agg #[.int .i64 n, .int .i64 d]] w fun e w' => e = .returned (.bool (okF n d)) ∧ Below w.heap.size w w' := by
  cases hd : inR d 1 1000000000
  · have HD := Lib.hid hd
    have R := Lib.hid (okF_no1 (n := n) hd)
    clear hd
    go_enter Try.func30, Try.ntmps30
    go_wp2_with fail
    go_quiet ((go_at_call 46; exact quiet_left (within_val HD.out _)))
    go_wp2_with fail
    go_ret
    exact ⟨ret_bool R.out.symm, below_drewN (bel_alloc _ _) _⟩
  · cases hn : inR n (-1000000000) 1000000000
    · have HD := Lib.hid hd
      have HN := Lib.hid hn
      have R := Lib.hid (okF_no2 (d := d) hn)
      clear hd hn
      go_enter Try.func30, Try.ntmps30
      go_wp2_with fail
      go_quiet ((go_at_call 46; first | (with_reducible exact quiet_left (within_val HD.out _)) | (with_reducible exact quiet_left (within_val HN.out _))))
      go_wp2_with fail
      go_ret
      exact ⟨ret_bool R.out.symm, below_drewN (bel_alloc _ _) _⟩
    · have HD := Lib.hid hd
      have HN := Lib.hid hn
      have R := Lib.hid (okF_in hd hn)
      have d1 := inR_true.1 hd
      have n1 := inR_true.1 hn
      have a0 := absI_lo n
      have a1 := absI_hi n1.1 n1.2
      clear hd hn
      go_enter Try.func30, Try.ntmps30
      go_wp2_with fail
      go_quiet ((first | (go_at_call 46; first | (with_reducible exact quiet_left (within_val HD.out _)) | (with_reducible exact quiet_left (within_val HN.out _))) | (go_at_call 56; exact quiet_left (absolute_any _ _ (by omega) (by omega))) | (go_at_call 55; exact Calls.quiet_of (divisor_any _ _ _ (by omega) (by omega) (by omega) (by omega)))))
      go_wp2_with fail
      go_ret
      exact ⟨ret_bool R.out.symm, below_drewN (bel_alloc _ _) _⟩
end Go.Proofs.Ytiodbjfchfmlcaa
