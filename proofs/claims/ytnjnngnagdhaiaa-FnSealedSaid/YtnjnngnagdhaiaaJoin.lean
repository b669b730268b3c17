/- Contracts of JoinKeys and JoinSeals and the walks of the laws that compare them with the reference. -/
import Derived.Test.YtnjnngnagdhaiaaChalOf
import Derived.Test.YtnjnngnagdhaiaaFold
namespace Go.Proofs.Ytnjnngnagdhaiaa
set_option linter.unusedVariables false
open Go.RowKit

def joinKS (o : Int) (p : Int × Int) : Int := (o + p.1 * p.2) % 500000003
theorem joinKS_bd (o : Int) (p : Int × Int) : 0 ≤ joinKS o p ∧ joinKS o p < 500000003 := ⟨Int.emod_nonneg _ (by decide), Int.emod_lt_of_pos _ (by decide)⟩
def joinSS (o : Int) (p : Int × Int) : Int := mm o (pw p.1 p.2.toNat)
theorem joinSS_bd (o : Int) (p : Int × Int) : 0 ≤ joinSS o p ∧ joinSS o p < 1000000007 := ⟨mm_lo _ _, mm_hi _ _⟩
/-- The sum of keys with weights; the product of seals with weights. -/
def joinK (ks ws : List Int) : Int := (ks.zip ws).foldl joinKS 0
def joinS (ks ws : List Int) : Int := (ks.zip ws).foldl joinSS 1
def joinB (ks ws : List Int) (p : Int → Bool) : Bool := decide (ks.length ≤ 12) && ks.all p && allB ws ks.length weightB
def joinKV (ks ws : List Int) : Int := if joinB ks ws expB then joinK ks ws else 0
def joinSV (ks ws : List Int) : Int := if joinB ks ws sealB then joinS ks ws else 0
theorem joinB_long {ks ws : List Int} {p : Int → Bool} {n : Nat} (hl : ks.length = n) (h : 12 < n) : joinB ks ws p = false := by simp [joinB]; omega
theorem joinB_bad {ks ws : List Int} {p : Int → Bool} (h : ks.all p = false) : joinB ks ws p = false := by simp [joinB, h]
theorem joinB_bad2 {ks ws : List Int} {p : Int → Bool} {n : Nat} (hl : ks.length = n) (h : allB ws (n : Int) weightB = false) : joinB ks ws p = false := by simp [joinB, hl, h]
theorem joinB_yes {ks ws : List Int} {p : Int → Bool} {n : Nat} (hl : ks.length = n) (h : n ≤ 12) (h1 : ks.all p = true) (h2 : allB ws (n : Int) weightB = true) : joinB ks ws p = true := by
  simp only [joinB, h1, hl, h2]; simpa using h
theorem joinKV_no {ks ws : List Int} (h : joinB ks ws expB = false) : joinB ks ws expB = false ∧ joinKV ks ws = 0 := by simp [joinKV, h]
theorem joinKV_yes {ks ws : List Int} (h : joinB ks ws expB = true) : joinB ks ws expB = true ∧ joinKV ks ws = joinK ks ws := by simp [joinKV, h]
theorem joinSV_no {ks ws : List Int} (h : joinB ks ws sealB = false) : joinB ks ws sealB = false ∧ joinSV ks ws = 0 := by simp [joinSV, h]
theorem joinSV_yes {ks ws : List Int} (h : joinB ks ws sealB = true) : joinB ks ws sealB = true ∧ joinSV ks ws = joinS ks ws := by simp [joinSV, h]
theorem allB_parts {ws : List Int} {n : Nat} {p : Int → Bool} (h : allB ws (n : Int) p = true) : ws.length = n ∧ ∀ z ∈ ws, p z = true := by
  obtain ⟨h1, h2⟩ := allB_true.1 h
  exact ⟨by omega, h2⟩
theorem implJoinKeys_any (A : Option Addr) (n c : Nat) (ks : List Int) (B : Option Addr) (m d : Nat) (ws : List Int) (w : World) (h : Ints .i64 w A n c ks) (k : Ints .i64 w B m d ws) :
    Calls Try.prog 32 #[.slice A n c, .slice B m d] w fun e w' => e = .returned (.tuple #[.int .i64 (joinKV ks ws), .bool (joinB ks ws expB)]) ∧ Below w.heap.size w w' := by
  have hm := h.short
  have hl := Lib.hid h.1
  have kl := Lib.hid k.1
  by_cases hn : 12 < n
  · have R := Lib.hid (joinKV_no (joinB_long (ws := ws) hl.out hn))
    go_enter Try.func32, Try.ntmps32
    go_wp2_with fail
    go_ret2
    exact ⟨ret_ib R.out.2.symm R.out.1.symm, Below.refl _ _⟩
  · cases ha : ks.all expB
    · have R := Lib.hid (joinKV_no (joinB_bad (ws := ws) ha))
      have HA : Hid (allB ks (n : Int) expB = false) := (allB_len hl.out).trans ha
      clear ha
      go_enter Try.func32, Try.ntmps32
      go_wp2_with fail
      refine (areAll_isExponent A n c ks n _ h).mono ?_
      rintro e w1 ⟨rfl, hb⟩
      rw [HA.out]
      go_wp2_with fail
      go_ret2
      exact ⟨ret_ib R.out.2.symm R.out.1.symm, hb⟩
    · have HA : Hid (allB ks (n : Int) expB = true) := (allB_len hl.out).trans ha
      cases hw : allB ws (n : Int) weightB
      · have R := Lib.hid (joinKV_no (joinB_bad2 (p := expB) hl.out hw))
        have HW := Lib.hid hw
        clear ha hw
        go_enter Try.func32, Try.ntmps32
        go_wp2_with fail
        refine (areAll_isExponent A n c ks n _ h).mono ?_
        rintro e w1 ⟨rfl, hb⟩
        rw [HA.out]
        go_wp2_with fail
        refine (areAll_isWeight B m d ws n _ (k.below hb)).mono ?_
        rintro e w2 ⟨rfl, hb2⟩
        rw [HW.out]
        have hb3 := bel_trans hb hb2
        go_wp2_with fail
        go_ret2
        exact ⟨ret_ib R.out.2.symm R.out.1.symm, hb3⟩
      · have R := Lib.hid (joinKV_yes (joinB_yes hl.out (by omega) ha hw))
        have HZ : Hid (∀ z ∈ ks, expB z = true) := List.all_eq_true.1 ha
        have HV : Hid (∀ z ∈ ws, weightB z = true) := (allB_parts hw).2
        have HW := Lib.hid hw
        have hmn := Lib.hid (kl.out.symm.trans (allB_parts hw).1)
        clear ha hw
        go_enter Try.func32, Try.ntmps32
        go_wp2_with fail
        refine (areAll_isExponent A n c ks n _ h).mono ?_
        rintro e w1 ⟨rfl, hb⟩
        rw [HA.out]
        go_wp2_with fail
        refine (areAll_isWeight B m d ws n _ (k.below hb)).mono ?_
        rintro e w2 ⟨rfl, hb2⟩
        rw [HW.out]
        have hb3 := bel_trans hb hb2
        have h' := (h.below hb).below hb2
        have k' := (k.below hb).below hb2
        go_wp2_with fail
        go_loopw [6, 28] (fun o i wr => ∃ j : Nat, j ≤ n ∧ i = .int .i64 j ∧ o = .int .i64 (foldT joinKS 0 (ks.zip ws) j) ∧ wr = w2) (fun _ i _ => n - (intOf i).toNat)
        case atStart => exact ⟨0, Nat.zero_le _, rfl, by rw [foldT_zero], rfl⟩
        case round =>
          obtain ⟨j, hj, rfl, rfl, rfl⟩ := hrel
          have hb1 := foldT_inv (fun o => 0 ≤ o ∧ o < 500000003) joinKS_bd (ks.zip ws) 0 j (by decide)
          by_cases hlt : j < n
          · obtain ⟨b, off, z, rfl, hb, hcell, hz1, hz2, hz⟩ := h'.at hlt
            obtain ⟨b', off', y, rfl, hb', hcell', hy1, hy2, hy⟩ := k'.at (show j < m by have := hmn.out; omega)
            have hlt' : j < m := by have := hmn.out; omega
            have bz := expB_true (HZ.out z (mem_of_at hz.out))
            have by_ := weightB_true (HV.out y (mem_of_at hy.out))
            have m1 : 0 ≤ z * y := Int.mul_nonneg bz.1 by_.1
            have m2 : z * y ≤ 500000002 * 1000 := Int.mul_le_mul bz.2 by_.2 by_.1 (by omega)
            have HS := Lib.hid (foldT_succ (f := joinKS) (o := 0) (zip_at hz.out hy.out))
            go_wp2
            go_roundw
            case rel => exact ⟨j + 1, by omega, by go_num, by rw [HS.out]; rfl, trivial⟩
            case measure => simp [intOf]; omega
          · go_wp2
            go_ret2
            have e1 : foldT joinKS 0 (ks.zip ws) j = joinK ks ws := foldT_end (by rw [List.length_zip, hl.out]; omega)
            exact ⟨ret_ib (by rw [e1]; exact R.out.2.symm) R.out.1.symm, hb3⟩
theorem l09Keys_any (A : Option Addr) (n c : Nat) (ks : List Int) (B : Option Addr) (d : Nat) (ws : List Int) (w : World) (h : Ints .i64 w A n c ks) (k : Ints .i64 w B n d ws)
    (HZ : Hid (∀ z ∈ ks, expB z = true)) (HV : Hid (∀ z ∈ ws, weightB z = true)) :
    Calls Try.prog 100 #[.slice A n c, .slice B n d] w fun e w' => e = .returned (.int .i64 (joinK ks ws)) ∧ Below w.heap.size w w' := by
  have hm := h.short
  have hl := Lib.hid h.1
  have kl := Lib.hid k.1
  go_enter Try.func100, Try.ntmps100
  go_wp2_with fail
  go_loopw [5, 6] (fun o i wr => ∃ j : Nat, j ≤ n ∧ i = .int .i64 j ∧ o = .int .i64 (foldT joinKS 0 (ks.zip ws) j) ∧ Below w.heap.size w wr) (fun _ i _ => n - (intOf i).toNat)
  case atStart => exact ⟨0, Nat.zero_le _, rfl, by rw [foldT_zero], Below.refl _ _⟩
  case round =>
    obtain ⟨j, hj, rfl, rfl, hbel⟩ := hrel
    have hb1 := foldT_inv (fun o => 0 ≤ o ∧ o < 500000003) joinKS_bd (ks.zip ws) 0 j (by decide)
    by_cases hlt : j < n
    · obtain ⟨b, off, z, rfl, hb, hcell, hz1, hz2, hz⟩ := (h.below hbel).at hlt
      obtain ⟨b', off', y, rfl, hb', hcell', hy1, hy2, hy⟩ := (k.below hbel).at hlt
      have bz := expB_true (HZ.out z (mem_of_at hz.out))
      have by_ := weightB_true (HV.out y (mem_of_at hy.out))
      have m1 : 0 ≤ z * y := Int.mul_nonneg bz.1 by_.1
      have m2 : z * y ≤ 500000002 * 1000 := Int.mul_le_mul bz.2 by_.2 by_.1 (by omega)
      have HS := Lib.hid (foldT_succ (f := joinKS) (o := 0) (zip_at hz.out hy.out))
      go_wp2
      go_quiet (fail)
      go_wp2
      go_roundw
      case rel => exact ⟨j + 1, by omega, by go_num, by rw [HS.out]; rfl, below_drewN hbel _⟩
      case measure => simp [intOf]; omega
    · go_wp2
      go_ret
      exact ⟨ret_int (foldT_end (by rw [List.length_zip, hl.out]; omega)), hbel⟩
theorem implJoinSeals_any (A : Option Addr) (n c : Nat) (ks : List Int) (B : Option Addr) (m d : Nat) (ws : List Int) (w : World) (h : Ints .i64 w A n c ks) (k : Ints .i64 w B m d ws) :
    Calls Try.prog 75 #[.slice A n c, .slice B m d] w fun e w' => e = .returned (.tuple #[.int .i64 (joinSV ks ws), .bool (joinB ks ws sealB)]) ∧ Below w.heap.size w w' := by
  have hm := h.short
  have hl := Lib.hid h.1
  have kl := Lib.hid k.1
  by_cases hn : 12 < n
  · have R := Lib.hid (joinSV_no (joinB_long (ws := ws) hl.out hn))
    go_enter Try.func75, Try.ntmps75
    go_wp2_with fail
    go_ret2
    exact ⟨ret_ib R.out.2.symm R.out.1.symm, Below.refl _ _⟩
  · cases ha : ks.all sealB
    · have R := Lib.hid (joinSV_no (joinB_bad (ws := ws) ha))
      have HA : Hid (allB ks (n : Int) sealB = false) := (allB_len hl.out).trans ha
      clear ha
      go_enter Try.func75, Try.ntmps75
      go_wp2_with fail
      refine (areAll_implIsSeal A n c ks n _ h).mono ?_
      rintro e w1 ⟨rfl, hb⟩
      rw [HA.out]
      go_wp2_with fail
      go_ret2
      exact ⟨ret_ib R.out.2.symm R.out.1.symm, hb⟩
    · have HA : Hid (allB ks (n : Int) sealB = true) := (allB_len hl.out).trans ha
      cases hw : allB ws (n : Int) weightB
      · have R := Lib.hid (joinSV_no (joinB_bad2 (p := sealB) hl.out hw))
        have HW := Lib.hid hw
        clear ha hw
        go_enter Try.func75, Try.ntmps75
        go_wp2_with fail
        refine (areAll_implIsSeal A n c ks n _ h).mono ?_
        rintro e w1 ⟨rfl, hb⟩
        rw [HA.out]
        go_wp2_with fail
        refine (areAll_isWeight B m d ws n _ (k.below hb)).mono ?_
        rintro e w2 ⟨rfl, hb2⟩
        rw [HW.out]
        have hb3 := bel_trans hb hb2
        go_wp2_with fail
        go_ret2
        exact ⟨ret_ib R.out.2.symm R.out.1.symm, hb3⟩
      · have R := Lib.hid (joinSV_yes (joinB_yes hl.out (by omega) ha hw))
        have HZ : Hid (∀ z ∈ ks, sealB z = true) := List.all_eq_true.1 ha
        have HV : Hid (∀ z ∈ ws, weightB z = true) := (allB_parts hw).2
        have HW := Lib.hid hw
        have hmn := Lib.hid (kl.out.symm.trans (allB_parts hw).1)
        clear ha hw
        go_enter Try.func75, Try.ntmps75
        go_wp2_with fail
        refine (areAll_implIsSeal A n c ks n _ h).mono ?_
        rintro e w1 ⟨rfl, hb⟩
        rw [HA.out]
        go_wp2_with fail
        refine (areAll_isWeight B m d ws n _ (k.below hb)).mono ?_
        rintro e w2 ⟨rfl, hb2⟩
        rw [HW.out]
        have hb3 := bel_trans hb hb2
        have h' := (h.below hb).below hb2
        have k' := (k.below hb).below hb2
        go_wp2_with fail
        go_loopw [6, 28] (fun o i wr => ∃ j : Nat, j ≤ n ∧ i = .int .i64 j ∧ o = .int .i64 (foldT joinSS 1 (ks.zip ws) j) ∧ wr = w2) (fun _ i _ => n - (intOf i).toNat)
        case atStart => exact ⟨0, Nat.zero_le _, rfl, by rw [foldT_zero], rfl⟩
        case round =>
          obtain ⟨j, hj, rfl, rfl, rfl⟩ := hrel
          have hb1 := foldT_inv (fun o => 0 ≤ o ∧ o < 1000000007) joinSS_bd (ks.zip ws) 1 j (by decide)
          by_cases hlt : j < n
          · obtain ⟨b, off, z, rfl, hb, hcell, hz1, hz2, hz⟩ := h'.at hlt
            obtain ⟨b', off', y, rfl, hb', hcell', hy1, hy2, hy⟩ := k'.at (show j < m by have := hmn.out; omega)
            have hlt' : j < m := by have := hmn.out; omega
            have bz := sealB_true (HZ.out z (mem_of_at hz.out))
            have by_ := weightB_true (HV.out y (mem_of_at hy.out))
            have p1 := pw_lo z y.toNat
            have p2 := pw_hi z y.toNat
            have m1 : 0 ≤ foldT joinSS 1 (ks.zip ws) j * pw z y.toNat := Int.mul_nonneg hb1.1 p1
            have m2 : foldT joinSS 1 (ks.zip ws) j * pw z y.toNat ≤ 1000000007 * 1000000007 := Int.mul_le_mul (by omega) (by omega) p1 (by omega)
            have HS := Lib.hid (foldT_succ (f := joinSS) (o := 1) (zip_at hz.out hy.out))
            go_wp2_with (go_at_call 58; refine (power_any _ _ _ (by omega) (by omega) (by omega) (by omega)).mono ?_; rintro e w' ⟨rfl, rfl⟩)
            go_roundw
            case rel => exact ⟨j + 1, by omega, by go_num, by rw [HS.out]; rfl, trivial⟩
            case measure => simp [intOf]; omega
          · go_wp2
            go_ret2
            have e1 : foldT joinSS 1 (ks.zip ws) j = joinS ks ws := foldT_end (by rw [List.length_zip, hl.out]; omega)
            exact ⟨ret_ib (by rw [e1]; exact R.out.2.symm) R.out.1.symm, hb3⟩
theorem l09Join_any (A : Option Addr) (n c : Nat) (ks : List Int) (B : Option Addr) (d : Nat) (ws : List Int) (w : World) (h : Ints .i64 w A n c ks) (k : Ints .i64 w B n d ws)
    (HZ : Hid (∀ z ∈ ks, sealB z = true)) (HV : Hid (∀ z ∈ ws, weightB z = true)) :
    Calls Try.prog 99 #[.slice A n c, .slice B n d] w fun e w' => e = .returned (.int .i64 (joinS ks ws)) ∧ Below w.heap.size w w' := by
  have hm := h.short
  have hl := Lib.hid h.1
  have kl := Lib.hid k.1
  go_enter Try.func99, Try.ntmps99
  go_wp2_with fail
  go_loopw [5, 6] (fun o i wr => ∃ j : Nat, j ≤ n ∧ i = .int .i64 j ∧ o = .int .i64 (foldT joinSS 1 (ks.zip ws) j) ∧ Below w.heap.size w wr) (fun _ i _ => n - (intOf i).toNat)
  case atStart => exact ⟨0, Nat.zero_le _, rfl, by rw [foldT_zero], Below.refl _ _⟩
  case round =>
    obtain ⟨j, hj, rfl, rfl, hbel⟩ := hrel
    have hb1 := foldT_inv (fun o => 0 ≤ o ∧ o < 1000000007) joinSS_bd (ks.zip ws) 1 j (by decide)
    by_cases hlt : j < n
    · obtain ⟨b, off, z, rfl, hb, hcell, hz1, hz2, hz⟩ := (h.below hbel).at hlt
      obtain ⟨b', off', y, rfl, hb', hcell', hy1, hy2, hy⟩ := (k.below hbel).at hlt
      have bz := sealB_true (HZ.out z (mem_of_at hz.out))
      have by_ := weightB_true (HV.out y (mem_of_at hy.out))
      have p1 := pw_lo z y.toNat
      have p2 := pw_hi z y.toNat
      have HS := Lib.hid (foldT_succ (f := joinSS) (o := 1) (zip_at hz.out hy.out))
      go_wp2_with fail
      go_quiet ((first | (go_at_call 96; exact quiet_left (l09Power_any _ _ _ (by omega) (by omega) (by omega) (by omega))) | (go_at_call 95; exact quiet_left (l09Times_any _ _ _ (by omega) (by omega) (by omega) (by omega)))))
      go_wp2
      go_roundw
      case rel => exact ⟨j + 1, by omega, by go_num, by rw [HS.out]; rfl, below_drewN hbel _⟩
      case measure => simp [intOf]; omega
    · go_wp2
      go_ret
      exact ⟨ret_int (foldT_end (by rw [List.length_zip, hl.out]; omega)), hbel⟩
end Go.Proofs.Ytnjnngnagdhaiaa
