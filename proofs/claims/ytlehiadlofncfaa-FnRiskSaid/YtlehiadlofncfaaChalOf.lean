/- Contracts of ChallengeOf, JoinKeys, JoinSeals and the walks of the laws that compare them with the reference. -/
import Derived.Test.YtlehiadlofncfaaSealOf
namespace Go.Proofs.Ytlehiadlofncfaa
set_option linter.unusedVariables false
open Go.RowKit

def chalOfB (zs : List Int) : Bool := decide (zs.length ≤ 20) && zs.all modB
def chalOfV (zs : List Int) : Int := if chalOfB zs then chal zs else 0
theorem chalOf_no {zs : List Int} (h : chalOfB zs = false) : chalOfB zs = false ∧ chalOfV zs = 0 := by simp [chalOfV, h]
theorem chalOf_long {zs : List Int} {n : Nat} (hl : zs.length = n) (h : 20 < n) : chalOfB zs = false ∧ chalOfV zs = 0 := chalOf_no (by simp [chalOfB]; omega)
theorem chalOf_bad {zs : List Int} (h : zs.all modB = false) : chalOfB zs = false ∧ chalOfV zs = 0 := chalOf_no (by simp [chalOfB, h])
theorem chalOf_yes {zs : List Int} {n : Nat} (hl : zs.length = n) (h : n ≤ 20) (h2 : zs.all modB = true) : chalOfB zs = true ∧ chalOfV zs = chal zs := by
  have : chalOfB zs = true := by simp only [chalOfB, h2]; simp; omega
  simp [chalOfV, this]
theorem allB_len {zs : List Int} {n : Nat} {p : Int → Bool} (hl : zs.length = n) : allB zs (n : Int) p = zs.all p := by rw [allB_eq, hl]; simp
theorem implChallengeOf_any (A : Option Addr) (n c : Nat) (zs : List Int) (w : World) (h : Ints .i64 w A n c zs) :
    Calls Try.prog 21 #[.slice A n c] w fun e w' => e = .returned (.tuple #[.int .i64 (chalOfV zs), .bool (chalOfB zs)]) ∧ Below w.heap.size w w' := by
  have hm := h.short
  have hl := Lib.hid h.1
  by_cases hn : 20 < n
  · have R := Lib.hid (chalOf_long hl.out hn)
    go_enter Try.func21, Try.ntmps21
    go_wp2_with fail
    go_ret2
    exact ⟨ret_ib R.out.2.symm R.out.1.symm, Below.refl _ _⟩
  · cases ha : zs.all modB
    · have R := Lib.hid (chalOf_bad ha)
      have HA : Hid (allB zs (n : Int) modB = false) := (allB_len hl.out).trans ha
      clear ha
      go_enter Try.func21, Try.ntmps21
      go_wp2_with fail
      refine (areAll_chalIn A n c zs n _ h).mono ?_
      rintro e w1 ⟨rfl, hb⟩
      rw [HA.out]
      go_wp2_with fail
      go_ret2
      exact ⟨ret_ib R.out.2.symm R.out.1.symm, hb⟩
    · have R := Lib.hid (chalOf_yes hl.out (by omega) ha)
      have HZ : Hid (∀ z ∈ zs, modB z = true) := List.all_eq_true.1 ha
      have HA : Hid (allB zs (n : Int) modB = true) := (allB_len hl.out).trans ha
      clear ha
      go_enter Try.func21, Try.ntmps21
      go_wp2_with fail
      refine (areAll_chalIn A n c zs n _ h).mono ?_
      rintro e w1 ⟨rfl, hb⟩
      rw [HA.out]
      go_wp2_with (go_at_call 59; refine (challenge_any A n c zs _ (h.below hb) HZ).mono ?_; rintro e w2 ⟨rfl, rfl⟩)
      go_ret2
      exact ⟨ret_ib R.out.2.symm R.out.1.symm, hb⟩
theorem specChallengeOf_any (A : Option Addr) (n c : Nat) (zs : List Int) (w : World) (h : Ints .i64 w A n c zs) :
    Calls Try.prog 19 #[.slice A n c] w fun e w' => e = .returned (.tuple #[.int .i64 (chalOfV zs), .bool (chalOfB zs)]) ∧ w = w' := by
  have hm := h.short
  have hl := Lib.hid h.1
  by_cases hn : 20 < n
  · have R := Lib.hid (chalOf_long hl.out hn)
    go_enter Try.func19, Try.ntmps19
    go_wp2_with fail
    go_ret2
    exact ⟨ret_ib R.out.2.symm R.out.1.symm, rfl⟩
  · go_enter Try.func19, Try.ntmps19
    go_wp2_with fail
    go_loop [4] (fun i => ∃ k : Nat, k ≤ n ∧ i = .int .i64 k ∧ (zs.take k).all modB = true) (fun i => n - (intOf i).toNat)
    case atStart => exact ⟨0, Nat.zero_le _, rfl, rfl⟩
    case round =>
      obtain ⟨k, hk, rfl, hall⟩ := hrel
      have H := Lib.hid hall
      clear hall
      by_cases hlt : k < n
      · obtain ⟨b, off, z, rfl, hb, hcell, hz1, hz2, hz⟩ := h.at hlt
        cases hp : modB z
        · have HP := Lib.hid hp
          have R := Lib.hid (chalOf_bad (all_stop hz.out hp))
          clear hp
          go_wp2_with (go_at_call 55; refine (l00In_mod _ _).mono ?_; rintro e w' ⟨rfl, rfl⟩; rw [HP.out])
          go_ret2
          exact ⟨ret_ib R.out.2.symm R.out.1.symm, rfl⟩
        · have HP := Lib.hid hp
          clear hp
          go_wp2_with (go_at_call 55; refine (l00In_mod _ _).mono ?_; rintro e w' ⟨rfl, rfl⟩; rw [HP.out])
          go_round
          case rel => exact ⟨k + 1, by omega, by go_num, all_next hz.out H.out HP.out⟩
          case measure => simp [intOf]; omega
      · have ha := all_end (by rw [hl.out]; omega) H.out
        have R := Lib.hid (chalOf_yes hl.out (by omega) ha)
        have HZ : Hid (∀ z ∈ zs, modB z = true) := List.all_eq_true.1 ha
        clear ha
        go_wp2_with (go_at_call 56; refine (l09Challenge_any A n c zs _ h HZ).mono ?_; rintro e w2 ⟨rfl, rfl⟩)
        go_ret2
        exact ⟨ret_ib R.out.2.symm R.out.1.symm, rfl⟩
theorem fnExactChallengeOf_walk (w : World) (A : Option Addr) (n c : Nat) (zs : List Int) (h : Ints .i64 w A n c zs) :
    Calls Try.prog 5 #[.slice A n c] w fun e w' => e = .returned (.bool true) ∧ Below w.heap.size w w' := by
  have hm := h.short
  by_cases hn : n ≤ 1048576
  · go_enter Try.func5, Try.ntmps5
    go_wp2_with fail
    refine (toInt64S_any A n c zs _ h hn).mono ?_
    rintro e w1 ⟨A1, c1, rfl, o1, b1⟩
    go_wp2_with fail
    refine (specChallengeOf_any A1 zs.length c1 zs _ o1.ints).mono ?_
    rintro e w1' ⟨rfl, rfl⟩
    go_wp2_with fail
    refine (toInt64S_any A n c zs _ (h.below b1) hn).mono ?_
    rintro e w2 ⟨A2, c2, rfl, o2, b2⟩
    have b12 := bel_trans b1 b2
    go_wp2_with fail
    refine (implChallengeOf_any A2 zs.length c2 zs _ o2.ints).mono ?_
    rintro e w3 ⟨rfl, b3⟩
    have b13 := bel_trans b12 b3
    go_wp2_with fail
    refine (toInt64S_any A n c zs _ (h.below b13) hn).mono ?_
    rintro e w4 ⟨A4, c4, rfl, o4, b4⟩
    have b14 := bel_trans b13 b4
    go_wp2_with fail
    refine (eqInt64S_any _ _ _ zs _ _ _ zs _ ((o2.ints.below b3).below b4) o4.ints).mono ?_
    rintro e w5 ⟨rfl, b5⟩
    have b15 := bel_trans b14 b5
    go_wp2_with fail
    go_ret
    exact ⟨rfl, b15⟩
  · go_enter Try.func5, Try.ntmps5
    go_wp2_with fail
    go_ret
    exact ⟨rfl, Below.refl _ _⟩
end Go.Proofs.Ytlehiadlofncfaa
