/- The reference's test of a sentence; names, by both. -/
import Derived.Test.YtcoladhppbknnaaSen
namespace Go.Proofs.Ytcoladhppbknnaa
set_option linter.unusedVariables false
set_option linter.unusedSimpArgs false
set_option maxRecDepth 100000
open Go.RowKit Go.Deep
set_option maxHeartbeats 1000000 in
theorem l07Sentence_any (s : ByteArray) (w : World) (hs : s.size ≤ 9223372036854775807) : Calls Try.prog 97 #[.string s] w fun e w' => e = .returned (.bool (senB s)) ∧ w = w' := by
  by_cases z : s.size = 0
  · have R0 : Hid (senB s = false) := by show _ = _; unfold senB; simp [z]
    have d1 := decide_eq_true (show (s.size : Int) < 1 by omega)
    clear z
    go_enter Try.func97, Try.ntmps97
    go_wp2_with fail
    go_ret
    exact ⟨by rw [R0.out]; rfl, rfl⟩
  have d1 := decide_eq_false (show ¬ (s.size : Int) < 1 by omega)
  have p0 : 0 < s.size := by omega
  have p9 : s.size - 1 < s.size := by omega
  have e0 := Lib.hid (byN_get p0)
  have e9 := Lib.hid (byN_get p9)
  by_cases h24 : s.size ≤ 24
  · have d2 := decide_eq_false (show ¬ (24 : Int) < (s.size : Int) by omega)
    by_cases h0 : (s[0]'p0).toNat = 32
    · have d3 : (((s[0]'p0).toNat : Int) == 32) = true := by simp [h0]
      have F : Hid (senB s = false) := by show _ = _; unfold senB; rw [e0.out]; simp [h0]
      clear h0
      go_enter Try.func97, Try.ntmps97
      go_wp2_with fail
      go_ret
      exact ⟨by rw [F.out]; rfl, rfl⟩
    have d3 : (((s[0]'p0).toNat : Int) == 32) = false := by simp; omega
    by_cases h9 : (s[s.size - 1]'p9).toNat = 32
    · have d4 : (((s[s.size - 1]'p9).toNat : Int) == 32) = true := by simp [h9]
      have F : Hid (senB s = false) := by show _ = _; unfold senB; rw [e9.out]; simp [h9]
      clear h0 h9
      go_enter Try.func97, Try.ntmps97
      go_wp2_with fail
      go_ret
      exact ⟨by rw [F.out]; rfl, rfl⟩
    have d4 : (((s[s.size - 1]'p9).toNat : Int) == 32) = false := by simp; omega
    have F : Hid (senB s = (List.range s.size).all fun k => chrN (byN s k)) := by show _ = _; unfold senB; rw [e0.out, e9.out]; simp [h9, h0, h24]; omega
    clear h0 h9
    go_enter Try.func97, Try.ntmps97
    go_wp2_with fail
    clear d3 d4
    go_loopw [3] (fun i wr => ∃ k : Nat, k ≤ s.size ∧ i = .int .i64 k ∧ (List.range k).all (fun k => chrN (byN s k)) = true ∧ wr = w) (fun i _ => s.size - (intOf i).toNat)
    case atStart => exact ⟨0, Nat.zero_le _, rfl, rfl, rfl⟩
    case round =>
      obtain ⟨k, hk, rfl, hall, rfl⟩ := hrel
      have H := Lib.hid hall
      clear hall
      by_cases hlt : k < s.size
      · have d0 := decide_eq_true (show (k : Int) < (s.size : Int) by omega)
        have e := byN_get hlt
        cases hc : chrN (byN s k)
        · have NO := Lib.hid (senB_no hlt hc)
          unfold chrN at hc
          rw [e] at hc
          simp only [Bool.or_eq_false_iff, Bool.and_eq_false_iff, decide_eq_false_iff_not] at hc
          go_wp2_with fail
          all_goals first | (exfalso; generalize s[k].toNat = c at *; simp only [bne_iff_ne, ne_eq, bne_eq_false_iff_eq, beq_iff_eq, beq_eq_false_iff_ne, Bool.not_eq_true', Bool.not_eq_false', decide_eq_true_eq, decide_eq_false_iff_not] at * <;> omega) | skip
          all_goals (go_ret; exact ⟨by rw [NO.out]; rfl, rfl⟩)
        · have YES := Lib.hid (rng_next (p := fun k => chrN (byN s k)) H.out hc)
          unfold chrN at hc
          rw [e] at hc
          simp only [Bool.or_eq_true, Bool.and_eq_true, decide_eq_true_eq] at hc
          go_wp2_with fail
          all_goals first | (exfalso; generalize s[k].toNat = c at *; simp only [bne_iff_ne, ne_eq, bne_eq_false_iff_eq, beq_iff_eq, beq_eq_false_iff_ne, Bool.not_eq_true', Bool.not_eq_false', decide_eq_true_eq, decide_eq_false_iff_not] at * <;> omega) | skip
          all_goals
            go_roundw
            case rel => exact ⟨k + 1, by omega, by go_num, YES.out, trivial⟩
            case measure => simp [intOf]; omega
      · obtain rfl : s.size = k := by omega
        have d0 := decide_eq_false (show ¬ (s.size : Int) < (s.size : Int) by omega)
        go_wp2_with fail
        go_ret
        exact ⟨by rw [F.out, H.out]; rfl, rfl⟩
  · have d2 := decide_eq_true (show (24 : Int) < (s.size : Int) by omega)
    have F : Hid (senB s = false) := by show _ = _; unfold senB; simp [h24]
    clear h24
    go_enter Try.func97, Try.ntmps97
    go_wp2_with fail
    go_ret
    exact ⟨by rw [F.out]; rfl, rfl⟩
theorem IsName_any (s : ByteArray) (w : World) (hs : s.size ≤ 9223372036854775807) : Calls Try.prog 44 #[.string s] w fun e w' => e = .returned (.bool (nameB s)) ∧ w = w' := by
  go_enter Try.func44, Try.ntmps44
  go_wp2_with fail
  go_loopw [6] (fun i wr => ∃ k : Nat, k ≤ s.size ∧ i = .int .i64 k ∧ (List.range k).all (fun k => letN (byN s k)) = true ∧ wr = w) (fun i _ => s.size - (intOf i).toNat)
  case atStart => exact ⟨0, Nat.zero_le _, rfl, rfl, rfl⟩
  case round =>
    obtain ⟨k, hk, rfl, hall, rfl⟩ := hrel
    have H := Lib.hid hall
    clear hall
    by_cases hlt : k < s.size
    · have d0 := decide_eq_true (show (k : Int) < (s.size : Int) by omega)
      have e := byN_get hlt
      cases hc : letN (byN s k)
      · have NO := Lib.hid (nameB_no hlt hc)
        unfold letN at hc
        rw [e] at hc
        simp only [Bool.or_eq_false_iff, Bool.and_eq_false_iff, decide_eq_false_iff_not] at hc
        go_wp2_with fail
        all_goals first | (exfalso; generalize s[k].toNat = c at *; simp only [bne_iff_ne, ne_eq, bne_eq_false_iff_eq] at * <;> omega) | skip
        all_goals (go_ret; exact ⟨by rw [NO.out]; rfl, rfl⟩)
      · have YES := Lib.hid (rng_next (p := fun k => letN (byN s k)) H.out hc)
        unfold letN at hc
        rw [e] at hc
        simp only [Bool.or_eq_true, Bool.and_eq_true, decide_eq_true_eq] at hc
        go_wp2_with fail
        all_goals first | (exfalso; generalize s[k].toNat = c at *; simp only [bne_iff_ne, ne_eq, bne_eq_false_iff_eq] at * <;> omega) | skip
        all_goals
          refine ⟨⟨k + 1, by omega, by go_num, YES.out, trivial⟩, ?_⟩
          simp [intOf]
          omega
    · obtain rfl : s.size = k := by omega
      have R := Lib.hid (nameB_end H.out)
      have d0 := decide_eq_false (show ¬ (s.size : Int) < (s.size : Int) by omega)
      by_cases z : s.size = 0
      · have R0 : Hid (nameB s = false) := by show _ = _; rw [R.out]; simp [z]
        have d1 := decide_eq_false (show ¬ (1 : Int) ≤ (s.size : Int) by omega)
        clear z
        go_wp2_with fail
        go_ret
        exact ⟨by rw [R0.out]; rfl, rfl⟩
      · have d1 := decide_eq_true (show (1 : Int) ≤ (s.size : Int) by omega)
        by_cases h10 : s.size ≤ 10
        · have d2 := decide_eq_true (show (s.size : Int) ≤ 10 by omega)
          have F : Hid (nameB s = true) := by show _ = _; rw [R.out]; simp [h10]; omega
          clear h10
          go_wp2_with fail
          go_ret
          exact ⟨by rw [F.out]; rfl, rfl⟩
        · have d2 := decide_eq_false (show ¬ (s.size : Int) ≤ 10 by omega)
          have F : Hid (nameB s = false) := by show _ = _; rw [R.out]; simp [h10]
          clear h10
          go_wp2_with fail
          go_ret
          exact ⟨by rw [F.out]; rfl, rfl⟩
theorem l01Name_any (s : ByteArray) (w : World) (hs : s.size ≤ 9223372036854775807) : Calls Try.prog 91 #[.string s] w fun e w' => e = .returned (.bool (nameB s)) ∧ w = w' := by
  go_enter Try.func91, Try.ntmps91
  go_wp2_with fail
  go_loopw [3] (fun i wr => ∃ k : Nat, k ≤ s.size ∧ i = .int .i64 k ∧ (List.range k).all (fun k => letN (byN s k)) = true ∧ wr = w) (fun i _ => s.size - (intOf i).toNat)
  case atStart => exact ⟨0, Nat.zero_le _, rfl, rfl, rfl⟩
  case round =>
    obtain ⟨k, hk, rfl, hall, rfl⟩ := hrel
    have H := Lib.hid hall
    clear hall
    by_cases hlt : k < s.size
    · have d0 := decide_eq_true (show (k : Int) < (s.size : Int) by omega)
      have e := byN_get hlt
      cases hc : letN (byN s k)
      · have NO := Lib.hid (nameB_no hlt hc)
        unfold letN at hc
        rw [e] at hc
        simp only [Bool.or_eq_false_iff, Bool.and_eq_false_iff, decide_eq_false_iff_not] at hc
        go_wp2_with fail
        all_goals first | (exfalso; generalize s[k].toNat = c at *; simp only [bne_iff_ne, ne_eq, bne_eq_false_iff_eq] at * <;> omega) | skip
        all_goals (go_ret; exact ⟨by rw [NO.out]; rfl, rfl⟩)
      · have YES := Lib.hid (rng_next (p := fun k => letN (byN s k)) H.out hc)
        unfold letN at hc
        rw [e] at hc
        simp only [Bool.or_eq_true, Bool.and_eq_true, decide_eq_true_eq] at hc
        go_wp2_with fail
        all_goals first | (exfalso; generalize s[k].toNat = c at *; simp only [bne_iff_ne, ne_eq, bne_eq_false_iff_eq] at * <;> omega) | skip
        all_goals
          go_roundw
          case rel => exact ⟨k + 1, by omega, by go_num, YES.out, trivial⟩
          case measure => simp [intOf]; omega
    · obtain rfl : s.size = k := by omega
      have R := Lib.hid (nameB_end H.out)
      have d0 := decide_eq_false (show ¬ (s.size : Int) < (s.size : Int) by omega)
      by_cases z : s.size = 0
      · have R0 : Hid (nameB s = false) := by show _ = _; rw [R.out]; simp [z]
        have d1 := decide_eq_false (show ¬ (1 : Int) ≤ (s.size : Int) by omega)
        clear z
        go_wp2_with fail
        go_ret
        exact ⟨by rw [R0.out]; rfl, rfl⟩
      · have d1 := decide_eq_true (show (1 : Int) ≤ (s.size : Int) by omega)
        by_cases h10 : s.size ≤ 10
        · have d2 := decide_eq_true (show (s.size : Int) ≤ 10 by omega)
          have F : Hid (nameB s = true) := by show _ = _; rw [R.out]; simp [h10]; omega
          clear h10
          go_wp2_with fail
          go_ret
          exact ⟨by rw [F.out]; rfl, rfl⟩
        · have d2 := decide_eq_false (show ¬ (s.size : Int) ≤ 10 by omega)
          have F : Hid (nameB s = false) := by show _ = _; rw [R.out]; simp [h10]
          clear h10
          go_wp2_with fail
          go_ret
          exact ⟨by rw [F.out]; rfl, rfl⟩
end Go.Proofs.Ytcoladhppbknnaa
