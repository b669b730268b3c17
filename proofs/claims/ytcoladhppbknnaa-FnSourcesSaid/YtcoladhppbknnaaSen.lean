/- Names and sentences: the program's tests and the reference's. -/
import Derived.Test.YtcoladhppbknnaaEd
import Derived.Test.YtcoladhppbknnaaFrac
namespace Go.Proofs.Ytcoladhppbknnaa
set_option linter.unusedVariables false
set_option linter.unusedSimpArgs false
set_option maxRecDepth 100000
open Go.RowKit Go.Deep
/-- The byte at a place, as a number. -/
def byN (s : ByteArray) (k : Nat) : Nat := (s.data.toList.getD k 0).toNat
def chrN (c : Nat) : Bool := (decide (97 ≤ c) && decide (c ≤ 122)) || (decide (48 ≤ c) && decide (c ≤ 57)) || decide (c = 32)
def letN (c : Nat) : Bool := decide (97 ≤ c) && decide (c ≤ 122)
def senB (s : ByteArray) : Bool := (List.range s.size).all (fun k => chrN (byN s k)) && (decide (1 ≤ s.size) && decide (s.size ≤ 24) && !decide (byN s 0 = 32) && !decide (byN s (s.size - 1) = 32))
def nameB (s : ByteArray) : Bool := (List.range s.size).all (fun k => letN (byN s k)) && (decide (1 ≤ s.size) && decide (s.size ≤ 10))
theorem rng_no {p : Nat → Bool} {n k : Nat} (hk : k < n) (h : p k = false) : (List.range n).all p = false := by
  rw [List.all_eq_false]
  exact ⟨k, List.mem_range.2 hk, by simp [h]⟩
theorem rng_next {p : Nat → Bool} {k : Nat} (h : (List.range k).all p = true) (hk : p k = true) : (List.range (k + 1)).all p = true := by
  rw [List.range_succ, List.all_append, h]
  simp [hk]
theorem byN_get {s : ByteArray} {k : Nat} (h : k < s.size) : byN s k = s[k].toNat := by
  unfold byN
  have h' : k < s.data.toList.length := by simpa using h
  rw [List.getD_eq_getElem?_getD, List.getElem?_eq_getElem h']
  rfl
theorem byN_lt (s : ByteArray) (k : Nat) : byN s k < 256 := UInt8.toNat_lt _
theorem senB_end {s : ByteArray} (h : (List.range s.size).all (fun k => chrN (byN s k)) = true) : senB s = (decide (1 ≤ s.size) && decide (s.size ≤ 24) && !decide (byN s 0 = 32) && !decide (byN s (s.size - 1) = 32)) := by
  unfold senB
  rw [h, Bool.true_and]
theorem senB_no {s : ByteArray} {k : Nat} (hk : k < s.size) (h : chrN (byN s k) = false) : senB s = false := by
  unfold senB
  rw [rng_no (p := fun k => chrN (byN s k)) hk h, Bool.false_and]
theorem nameB_end {s : ByteArray} (h : (List.range s.size).all (fun k => letN (byN s k)) = true) : nameB s = (decide (1 ≤ s.size) && decide (s.size ≤ 10)) := by
  unfold nameB
  rw [h, Bool.true_and]
theorem nameB_no {s : ByteArray} {k : Nat} (hk : k < s.size) (h : letN (byN s k) = false) : nameB s = false := by
  unfold nameB
  rw [rng_no (p := fun k => letN (byN s k)) hk h, Bool.false_and]
set_option maxHeartbeats 1000000 in
theorem isSentence_any (s : ByteArray) (w : World) (hs : s.size ≤ 9223372036854775807) : Calls Try.prog 98 #[.string s] w fun e w' => e = .returned (.bool (senB s)) ∧ w = w' := by
  go_enter Try.func98, Try.ntmps98
  go_wp2_with fail
  go_loopw [6] (fun i wr => ∃ k : Nat, k ≤ s.size ∧ i = .int .i64 k ∧ (List.range k).all (fun k => chrN (byN s k)) = true ∧ wr = w) (fun i _ => s.size - (intOf i).toNat)
  case atStart => exact ⟨0, Nat.zero_le _, rfl, rfl, rfl⟩
  case round =>
    obtain ⟨k, hk, rfl, hall, rfl⟩ := hrel
    have H := Lib.hid hall
    clear hall
    by_cases hlt : k < s.size
    · have d0 := decide_eq_true (show (k : Int) < (s.size : Int) by omega)
      have e := byN_get hlt
      cases hc : chrN (byN s k)
      · have NO := Lib.hid (senB_no hlt hc)
        unfold chrN at hc
        rw [e] at hc
        simp only [Bool.or_eq_false_iff, Bool.and_eq_false_iff, decide_eq_false_iff_not] at hc
        go_wp2_with fail
        all_goals first | (exfalso; generalize s[k].toNat = c at *; simp only [bne_iff_ne, ne_eq, bne_eq_false_iff_eq] at *; omega) | skip
        all_goals (go_ret; exact ⟨by rw [NO.out]; rfl, rfl⟩)
      · have YES := Lib.hid (rng_next H.out hc)
        unfold chrN at hc
        rw [e] at hc
        simp only [Bool.or_eq_true, Bool.and_eq_true, decide_eq_true_eq] at hc
        go_wp2_with fail
        all_goals first | (exfalso; generalize s[k].toNat = c at *; simp only [bne_iff_ne, ne_eq, bne_eq_false_iff_eq] at *; omega) | skip
        all_goals
          refine ⟨⟨k + 1, by omega, by go_num, YES.out, trivial⟩, ?_⟩
          simp [intOf]
          omega
    · obtain rfl : s.size = k := by omega
      have R := Lib.hid (senB_end H.out)
      have d0 := decide_eq_false (show ¬ (s.size : Int) < (s.size : Int) by omega)
      by_cases z : s.size = 0
      · have R0 : Hid (senB s = false) := by show _ = _; rw [R.out]; simp [z]
        have d1 := decide_eq_false (show ¬ (1 : Int) ≤ (s.size : Int) by omega)
        clear z
        go_wp2_with fail
        go_ret
        exact ⟨by rw [R0.out]; rfl, rfl⟩
      · have d1 := decide_eq_true (show (1 : Int) ≤ (s.size : Int) by omega)
        have p0 : 0 < s.size := by omega
        have p9 : s.size - 1 < s.size := by omega
        have e0 := byN_get p0
        have e9 := byN_get p9
        have R1 : Hid (senB s = (decide (s.size ≤ 24) && !decide ((s[0]'p0).toNat = 32) && !decide ((s[s.size - 1]'p9).toNat = 32))) := by
          show _ = _
          rw [R.out, e0, e9, decide_eq_true (show 1 ≤ s.size by omega), Bool.true_and]
        clear e0 e9
        by_cases h24 : s.size ≤ 24
        · have d2 := decide_eq_true (show (s.size : Int) ≤ 24 by omega)
          by_cases h0 : (s[0]'p0).toNat = 32
          · have d3 : (((s[0]'p0).toNat : Int) != 32) = false := by simp [h0]
            have F : Hid (senB s = false) := by show _ = _; rw [R1.out]; simp [h0]
            clear h0
            go_wp2_with fail
            go_ret
            exact ⟨by rw [F.out]; rfl, rfl⟩
          · have d3 : (((s[0]'p0).toNat : Int) != 32) = true := by simp; omega
            by_cases h9 : (s[s.size - 1]'p9).toNat = 32
            · have d4 : (((s[s.size - 1]'p9).toNat : Int) != 32) = false := by simp [h9]
              have F : Hid (senB s = false) := by show _ = _; rw [R1.out]; simp [h9]
              clear h0 h9
              go_wp2_with fail
              go_ret
              exact ⟨by rw [F.out]; rfl, rfl⟩
            · have d4 : (((s[s.size - 1]'p9).toNat : Int) != 32) = true := by simp; omega
              have F : Hid (senB s = true) := by show _ = _; rw [R1.out]; simp [h9, h0, h24]
              clear h0 h9
              go_wp2_with fail
              go_ret
              exact ⟨by rw [F.out]; rfl, rfl⟩
        · have d2 := decide_eq_false (show ¬ (s.size : Int) ≤ 24 by omega)
          have F : Hid (senB s = false) := by show _ = _; rw [R1.out]; simp [h24]
          clear h24
          go_wp2_with fail
          go_ret
          exact ⟨by rw [F.out]; rfl, rfl⟩
end Go.Proofs.Ytcoladhppbknnaa
