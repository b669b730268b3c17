/- The plain law on proofs for bits: the proof is accepted, and not with another answer, and (unless its challenges are 0) not for the seal of another value. Plain arithmetic. -/
import Derived.Test.YtnjnngnagdhaiaaProve
namespace Go.Proofs.Ytnjnngnagdhaiaa
set_option linter.unusedVariables false
open Go.RowKit
/-! ### 500000003 is prime -/
def noDiv (q lo : Nat) : Nat → Bool
  | 0 => q % lo != 0
  | n + 1 => noDiv q lo n && noDiv q (lo + 2 ^ n) n
theorem noDiv_spec (q : Nat) : ∀ (n lo : Nat), noDiv q lo n = true → ∀ d, lo ≤ d → d < lo + 2 ^ n → q % d ≠ 0 := by
  intro n
  induction n with
  | zero =>
    intro lo h d h1 h2
    obtain rfl : d = lo := by simp at h2; omega
    simpa [noDiv] using h
  | succ n ih =>
    intro lo h d h1 h2
    simp only [noDiv, Bool.and_eq_true] at h
    rcases Nat.lt_or_ge d (lo + 2 ^ n) with h3 | h3
    · exact ih lo h.1 d h1 h3
    · refine ih _ h.2 d h3 ?_
      rw [Nat.pow_succ] at h2
      omega
theorem no_small : noDiv 500000003 2 15 = true := by decide +kernel
theorem q_prime {d : Nat} (h : d ∣ 500000003) : d = 1 ∨ d = 500000003 := by
  obtain ⟨e, he⟩ := h
  have small : ∀ x : Nat, 2 ≤ x → x < 32770 → 500000003 % x ≠ 0 := fun x h1 h2 => noDiv_spec _ 15 2 no_small x h1 (by omega)
  rcases Nat.lt_or_ge d 32770 with h1 | h1
  · rcases Nat.lt_or_ge d 2 with h2 | h2
    · rcases (show d = 0 ∨ d = 1 by omega) with rfl | rfl
      · omega
      · exact .inl rfl
    · exact absurd (Nat.mod_eq_zero_of_dvd ⟨e, he⟩) (small d h2 h1)
  · rcases Nat.lt_or_ge e 32770 with h2 | h2
    · rcases Nat.lt_or_ge e 2 with h3 | h3
      · rcases (show e = 0 ∨ e = 1 by omega) with rfl | rfl
        · omega
        · exact .inr (by omega)
      · exact absurd (Nat.mod_eq_zero_of_dvd ⟨d, by rw [Nat.mul_comm]; exact he⟩) (small e h3 h2)
    · have := Nat.mul_le_mul h1 h2
      omega
theorem gcd_q {c : Nat} (h0 : 0 < c) (h1 : c < 500000003) : Nat.gcd c 500000003 = 1 := by
  rcases q_prime (Nat.gcd_dvd_right c 500000003) with h | h
  · exact h
  · have := Nat.le_of_dvd h0 (Nat.gcd_dvd_left c 500000003)
    omega
/-! ### The order of an element -/
theorem pw_one_mod {x : Int} {m : Nat} (hm : pw x m = 1) (n : Nat) (hn : pw x n = 1) : pw x (n % m) = 1 := by
  have h := pw_add x (m * (n / m)) (n % m)
  rw [Nat.div_add_mod, hn, ← pw_pow, hm, pw_one, mm_pw_one] at h
  exact h.symm
theorem pw_gcd {x : Int} (a b : Nat) : pw x a = 1 → pw x b = 1 → pw x (Nat.gcd a b) = 1 := by
  induction a, b using Nat.gcd.induction with
  | H0 n => intro _ h; simpa using h
  | H1 m n hm ih =>
    intro h1 h2
    rw [Nat.gcd_rec]
    exact ih (pw_one_mod h1 n h2) h1
theorem order16 {c : Nat} (h : pw 16 c = 1) (hc : c < 500000003) : c = 0 := by
  rcases Nat.eq_zero_or_pos c with h0 | h0
  · exact h0
  · have h16 : pw 16 500000003 = 1 := by rw [pw_run _ _ (by decide)]; decide +kernel
    have := pw_gcd c 500000003 h h16
    rw [gcd_q h0 hc] at this
    exact absurd this (by decide)
/-! ### One check -/
theorem pw9_order (a : Nat) : pw (pw 9 a) 500000003 = 1 := by rw [pw_pow, Nat.mul_comm, ← pw_pow, order9, pw_one]
theorem chk_bent {s m c a b : Int} (h : chkI s m c a b = true) (h0 : 0 ≤ a) : chkI s m c ((a + 1) % 500000003) b = false := by
  cases hh : chkI s m c ((a + 1) % 500000003) b
  · rfl
  · exfalso
    unfold chkI at h hh
    rw [beq_iff_eq] at h hh
    rw [← h] at hh
    obtain ⟨a, rfl⟩ := Int.eq_ofNat_of_zero_le h0
    rw [show ((a : Int) + 1) % 500000003 = ((((a + 1) % 500000003 : Nat)) : Int) by omega, Int.toNat_natCast, Int.toNat_natCast, pw_mod order9, pw_add, mm_comm] at hh
    have h1 : mm (pw 9 1) (pw 9 a) = mm 1 (pw 9 a) := by rw [mm_pw_one]; exact hh
    have h2 := mm_cancel (pw9_order a) (pw_lo _ _) (pw_hi _ _) (by decide) (by decide) h1
    exact absurd h2 (by decide)
theorem open_mm (s b : Int) : openO (mm s 16) b = mm (openO s b) 16 := by
  unfold openO
  split
  · rfl
  · rw [mm_assoc, mm_comm 16, ← mm_assoc]
theorem chk_other {s m c a b : Int} (hs : pw s 500000003 = 1) (hm : pw m 500000003 = 1) (h : chkI s m c a b = true) (hh : chkI (mm s 16) m c a b = true) (h0 : 0 ≤ c) (h1 : c < 500000003) : c = 0 := by
  unfold chkI at h hh
  rw [beq_iff_eq] at h hh
  rw [h, open_mm, pw_mul, mm_comm, mm_comm m] at hh
  have h2 := mm_cancel hm (pw_lo _ _) (pw_hi _ _) (mm_lo _ _) (mm_hi _ _) hh
  have ho := open_order hs b
  have h3 : mm 1 (pw (openO s b) c.toNat) = mm (pw 16 c.toNat) (pw (openO s b) c.toNat) := by rw [mm_pw_one, mm_comm]; exact h2
  have h4 := mm_cancel (c := pw (openO s b) c.toNat) (by rw [pw_pow, Nat.mul_comm, ← pw_pow, ho, pw_one]) (by decide) (by decide) (pw_lo _ _) (pw_hi _ _) h3
  have := order16 h4.symm (by omega)
  omega
theorem seal_plus2 {v k : Int} (h0 : 0 ≤ v) : sealO (v + 2) k = mm (sealO v k) 16 := by
  unfold sealO
  rw [show (v + 2).toNat = v.toNat + 2 by omega, pw_add, mm_assoc, mm_comm (pw 4 2), ← mm_assoc]
  rfl
/-! ### The proof that is made is accepted -/
theorem own_ok {s X key n0 c : Int} {b : Int} (hX : openO s b = pw 9 key.toNat) (hk : 0 ≤ key) (h0 : 0 ≤ n0) (hc : 0 ≤ c) : chkI s (pw 9 n0.toNat) c (ownA c n0 key) b = true := by
  unfold chkI
  rw [beq_iff_eq, hX, pw_pow, ← pw_add]
  obtain ⟨key, rfl⟩ := Int.eq_ofNat_of_zero_le hk
  obtain ⟨n0, rfl⟩ := Int.eq_ofNat_of_zero_le h0
  obtain ⟨c, rfl⟩ := Int.eq_ofNat_of_zero_le hc
  unfold ownA
  rw [show ((n0 : Int) + (c : Int) * (key : Int)) % 500000003 = (((n0 + c * key) % 500000003 : Nat) : Int) by rw [Int.natCast_emod, Int.natCast_add, Int.natCast_mul]; rfl]
  simp only [Int.toNat_natCast]
  rw [pw_mod order9, Nat.mul_comm]
theorem other_ok {s b n1 n2 : Int} (hs : pw s 500000003 = 1) (h0 : 0 ≤ n1) (h1 : n1 ≤ 500000002) : chkI s (otherM s b n1 n2) n1 n2 (1 - b) = true := by
  unfold chkI otherM
  rw [beq_iff_eq, mm_assoc, ← pw_add]
  have ho := open_order hs (1 - b)
  have e : pw (openO s (1 - b)) (((500000003 - n1) % 500000003).toNat + n1.toNat) = 1 := by
    rcases (show n1 = 0 ∨ 0 < n1 by omega) with rfl | h2
    · exact pw_zero _
    · rw [show ((500000003 - n1) % 500000003).toNat + n1.toNat = 500000003 by omega]; exact ho
  rw [e, mm_comm, mm_pw_one]
theorem open_own {bit key : Int} (hb : bit = 0 ∨ bit = 1) : openO (sealO bit key) bit = pw 9 key.toNat := by
  rcases hb with rfl | rfl
  · rw [openO_zero]
    unfold sealO
    exact mm_pw_one _ _
  · rw [openO_one (by decide)]
    unfold sealO
    rw [mm_comm (pw 4 _), mm_assoc, show mm (pw 4 (1 : Int).toNat) inv4 = 1 by unfold inv4; rw [pw_run 4 500000002 (by decide)]; decide +kernel, mm_comm, mm_pw_one]
theorem own_sum (sum n1 : Int) (h : 0 ≤ sum) (h' : sum < 500000003) : (ownC sum n1 + n1) % 500000003 = sum := by unfold ownC; omega
theorem ownC_bd (s n : Int) : 0 ≤ ownC s n ∧ ownC s n < 500000003 := by unfold ownC; omega
theorem ownA_bd (c n key : Int) : 0 ≤ ownA c n key ∧ ownA c n key < 500000003 := ⟨Int.emod_nonneg _ (by decide), Int.emod_lt_of_pos _ (by decide)⟩
theorem otherM_order (s b n1 n2 : Int) (hs : pw s 500000003 = 1) : pw (otherM s b n1 n2) 500000003 = 1 := by
  unfold otherM
  rw [pw_mul, pw9_order, pw_pow, Nat.mul_comm, ← pw_pow, open_order hs, pw_one]
  decide
theorem seal_of_order {c : Int} (h : pw c 500000003 = 1) (h0 : 0 ≤ c) (h1 : c < 1000000007) : sealB c = true := by
  have := order_pos h h0
  simp [sealB, inR_true.2 ⟨this, show c ≤ 1000000006 by omega⟩, h]
theorem otherM_bd (s b n1 n2 : Int) : 0 ≤ otherM s b n1 n2 ∧ otherM s b n1 n2 < 1000000007 := ⟨mm_lo _ _, mm_hi _ _⟩
/-- What the three lists of a made proof are, by the bit; and what they pass. -/
structure MadeOk (bit key : Int) (m0 m1 c0 c1 a0 a1 : Int) : Prop where
  sm0 : pw m0 500000003 = 1
  sm1 : pw m1 500000003 = 1
  bm0 : 0 ≤ m0 ∧ m0 < 1000000007
  bm1 : 0 ≤ m1 ∧ m1 < 1000000007
  bc0 : 0 ≤ c0 ∧ c0 < 500000003
  bc1 : 0 ≤ c1 ∧ c1 < 500000003
  ba0 : 0 ≤ a0 ∧ a0 < 500000003
  ba1 : 0 ≤ a1 ∧ a1 < 500000003
  sum : (c0 + c1) % 500000003 = chal [sealO bit key, m0, m1]
  k0 : chkI (sealO bit key) m0 c0 a0 0 = true
  k1 : chkI (sealO bit key) m1 c1 a1 1 = true
theorem made_ok {bit key n0 n1 n2 : Int} (hb : bit = 0 ∨ bit = 1) (hk : expB key = true) (h0 : expB n0 = true) (h1 : expB n1 = true) (h2 : expB n2 = true) :
    ∃ m0 m1 c0 c1 a0 a1, prM bit key [n0, n1, n2] = [m0, m1] ∧ prC bit key [n0, n1, n2] = [c0, c1] ∧ prA bit key [n0, n1, n2] = [a0, a1] ∧ MadeOk bit key m0 m1 c0 c1 a0 a1 := by
  have bk := expB_true hk
  have b0 := expB_true h0
  have b1 := expB_true h1
  have b2 := expB_true h2
  have hs := sealO_order bit key
  have so := otherM_order (sealO bit key) bit n1 n2 hs
  have bo := otherM_bd (sealO bit key) bit n1 n2
  have p9 := pw9_order n0.toNat
  have q9 : 0 ≤ pw 9 n0.toNat ∧ pw 9 n0.toNat < 1000000007 := ⟨pw_lo _ _, pw_hi _ _⟩
  have bC := ownC_bd (prS bit key [n0, n1, n2]) n1
  have bA := ownA_bd (ownC (prS bit key [n0, n1, n2]) n1) n0 key
  have bS : 0 ≤ prS bit key [n0, n1, n2] ∧ prS bit key [n0, n1, n2] < 500000003 := chal_bd _
  have kO := own_ok (X := 0) (open_own (key := key) hb) bk.1 b0.1 bC.1
  have kT := other_ok (s := sealO bit key) (b := bit) (n1 := n1) (n2 := n2) hs b1.1 b1.2
  have hS := own_sum _ n1 bS.1 bS.2
  rcases hb with rfl | rfl
  · refine ⟨pw 9 n0.toNat, otherM (sealO 0 key) 0 n1 n2, ownC (prS 0 key [n0, n1, n2]) n1, n1, ownA (ownC (prS 0 key [n0, n1, n2]) n1) n0 key, n2, by simp [prM, two], by simp [prC, two], by simp [prA, two], p9, so, q9, bo, bC, by omega, bA, by omega, ?_, kO, kT⟩
    rw [hS]
    simp [prS, prM, two]
  · refine ⟨otherM (sealO 1 key) 1 n1 n2, pw 9 n0.toNat, n1, ownC (prS 1 key [n0, n1, n2]) n1, n2, ownA (ownC (prS 1 key [n0, n1, n2]) n1) n0 key, by simp [prM, two], by simp [prC, two], by simp [prA, two], so, p9, bo, q9, by omega, bC, by omega, bA, ?_, kT, kO⟩
    rw [Int.add_comm, hS]
    simp [prS, prM, two]
theorem allB2 {x y : Int} {p : Int → Bool} (hx : p x = true) (hy : p y = true) : allB [x, y] 2 p = true := allB_true.2 ⟨rfl, by intro z hz; simp at hz; rcases hz with rfl | rfl <;> assumption⟩
theorem expB_of {x : Int} (h : 0 ≤ x ∧ x < 500000003) : expB x = true := inR_true.2 ⟨h.1, by omega⟩
section
variable {bit key m0 m1 c0 c1 a0 a1 : Int}
theorem MadeOk.pre (h : MadeOk bit key m0 m1 c0 c1 a0 a1) {s : Int} (hs : sealB s = true) {x y : Int} (hx : 0 ≤ x ∧ x < 500000003) (hy : 0 ≤ y ∧ y < 500000003) : bpPre s [m0, m1] [c0, c1] [x, y] = true := by
  simp [bpPre, hs, allB2 (seal_of_order h.sm0 h.bm0.1 h.bm0.2) (seal_of_order h.sm1 h.bm1.1 h.bm1.2), allB2 (expB_of h.bc0) (expB_of h.bc1), allB2 (expB_of hx) (expB_of hy)]
theorem MadeOk.accepted (h : MadeOk bit key m0 m1 c0 c1 a0 a1) : bpB (sealO bit key) [m0, m1] [c0, c1] [a0, a1] = true := by
  simp [bpB, h.pre (sealO_seal bit key) h.ba0 h.ba1, h.sum, h.k0, h.k1]
theorem MadeOk.other (h : MadeOk bit key m0 m1 c0 c1 a0 a1) (hb : 0 ≤ bit) (hc : 0 < c0 + c1) : bpB (sealO (bit + 2) key) [m0, m1] [c0, c1] [a0, a1] = false := by
  cases hh : bpB (sealO (bit + 2) key) [m0, m1] [c0, c1] [a0, a1]
  · rfl
  · exfalso
    rw [seal_plus2 hb] at hh
    simp [bpB] at hh
    have e0 := chk_other (sealO_order bit key) h.sm0 h.k0 hh.1.2 h.bc0.1 h.bc0.2
    have e1 := chk_other (sealO_order bit key) h.sm1 h.k1 hh.2 h.bc1.1 h.bc1.2
    omega
theorem MadeOk.bent0 (h : MadeOk bit key m0 m1 c0 c1 a0 a1) : bpB (sealO bit key) [m0, m1] [c0, c1] [(a0 + 1) % 500000003, a1] = false := by
  simp [bpB, chk_bent h.k0 h.ba0.1]
theorem MadeOk.bent1 (h : MadeOk bit key m0 m1 c0 c1 a0 a1) : bpB (sealO bit key) [m0, m1] [c0, c1] [a0, (a1 + 1) % 500000003] = false := by
  simp [bpB, chk_bent h.k1 h.ba1.1]
end
end Go.Proofs.Ytnjnngnagdhaiaa
