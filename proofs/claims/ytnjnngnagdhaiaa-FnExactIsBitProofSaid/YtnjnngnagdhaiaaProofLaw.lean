/- The law on proofs for bits: the walk. -/
import Derived.Test.YtnjnngnagdhaiaaProof3
import Derived.Deep.RegionWith
namespace Go.Proofs.Ytnjnngnagdhaiaa
set_option linter.unusedVariables false
open Go.RowKit
theorem szBP_ok {n m k : Nat} {left : Int} (h : 0 ≤ szBP n m k left) : (n : Int) ≤ left ∧ (m : Int) ≤ left ∧ (k : Int) ≤ left := by
  unfold szBP at h
  by_cases h1 : szI n left < 0
  · rw [if_pos h1] at h; omega
  · rw [if_neg h1] at h
    have a1 := szI_small (Int.not_lt.1 h1)
    by_cases h2 : szI m (szI n left) < 0
    · rw [if_pos h2] at h; omega
    · rw [if_neg h2] at h
      have a2 := szI_small (Int.not_lt.1 h2)
      have a3 := szI_small h
      omega
set_option maxRecDepth 100000 in
set_option maxHeartbeats 1000000 in
theorem fnExactIsBitProof_walk (w : World) (s : Int) (l0 : -9223372036854775808 ≤ s) (h0 : s ≤ 9223372036854775807) (A : Option Addr) (n c : Nat) (ms : List Int) (B : Option Addr) (m d : Nat) (cs : List Int) (C : Option Addr) (k f : Nat) (as_ : List Int)
    (h1 : Ints .i64 w A n c ms) (h2 : Ints .i64 w B m d cs) (h3 : Ints .i64 w C k f as_) :
    Calls Try.prog 4 #[.int .i64 s, .agg #[.slice A n c, .slice B m d, .slice C k f]] w fun e w' => e = .returned (.bool true) ∧ Below w.heap.size w w' := by
  have m1 : n ≤ maxLen := Nat.le_trans h1.2.1 h1.2.2.1
  have m2 : m ≤ maxLen := Nat.le_trans h2.2.1 h2.2.2.1
  have m3 : k ≤ maxLen := Nat.le_trans h3.2.1 h3.2.2.1
  obtain ⟨z, hz⟩ : ∃ z, szBP n m k 1048576 = z := ⟨_, rfl⟩
  have Z := Lib.hid hz
  obtain ⟨r, hr⟩ : ∃ r, bpB s ms cs as_ = r := ⟨_, rfl⟩
  have RR := Lib.hid hr
  clear hr
  have C0 := Cs.new w [.slice A n c, .slice B m d, .slice C k f] 35
  have b0 := bel_alloc w (.cells [.slice A n c, .slice B m d, .slice C k f].toArray 35)
  by_cases hn : z < 0
  · clear hz
    go_enter Try.func4, Try.ntmps4
    go_wp2_with fail
    refine (szBitProof_any A n c B m d C k f 1048576 _ m1 m2 m3 (by omega) (by omega)).mono ?_
    rintro e w1 ⟨rfl, b1⟩
    rw [Z.out]
    go_wp2_with fail
    go_ret
    exact ⟨rfl, bel_trans b0 b1⟩
  · obtain ⟨n1, n2, n3⟩ := szBP_ok (n := n) (m := m) (k := k) (left := 1048576) (by omega)
    clear hz
    go_enter Try.func4, Try.ntmps4
    go_wp2_with fail
    refine (szBitProof_any A n c B m d C k f 1048576 _ m1 m2 m3 (by omega) (by omega)).mono ?_
    rintro e w1 ⟨rfl, t1⟩
    rw [Z.out]
    have b1 := bel_trans b0 t1
    have C1 := C0.below t1
    have q0a := C1.cell 0 rfl
    have q1a := C1.cell 1 rfl
    have q2a := C1.cell 2 rfl
    have f0a := C1.free 0 rfl
    have f1a := C1.free 1 rfl
    have f2a := C1.free 2 rfl
    have lta := C1.1
    go_wp2_with fail
    refine (toBitProof_any A n c ms B m d cs C k f as_ _ (h1.below b1) (h2.below b1) (h3.below b1) (by omega) (by omega) (by omega)).mono ?_
    rintro e w2 ⟨A1, c1, B1, d1, C1', f1, rfl, i1, i2, i3, b2⟩
    have bb2 := bel_trans b1 b2
    have C2 := C1.below b2
    have q0b := C2.cell 0 rfl
    have q1b := C2.cell 1 rfl
    have q2b := C2.cell 2 rfl
    have f0b := C2.free 0 rfl
    have f1b := C2.free 1 rfl
    have f2b := C2.free 2 rfl
    have ltb := C2.1
    go_wp2_with fail
    refine (specIsBitProof_any s A1 n c1 ms B1 m d1 cs C1' k f1 as_ _ i1 i2 i3).mono ?_
    rintro e w3 ⟨rfl, b3⟩
    rw [RR.out]
    have bb3 := bel_trans bb2 b3
    have C3 := C2.below b3
    have q0c := C3.cell 0 rfl
    have q1c := C3.cell 1 rfl
    have q2c := C3.cell 2 rfl
    have f0c := C3.free 0 rfl
    have f1c := C3.free 1 rfl
    have f2c := C3.free 2 rfl
    have ltc := C3.1
    go_wp2_with fail
    refine (toBitProof_any A n c ms B m d cs C k f as_ _ (h1.below bb3) (h2.below bb3) (h3.below bb3) (by omega) (by omega) (by omega)).mono ?_
    rintro e w4 ⟨A2, c2, B2, d2, C2', f2, rfl, j1, j2, j3, b4⟩
    have bb4 := bel_trans bb3 b4
    have C4 := C3.below b4
    have q0d := C4.cell 0 rfl
    have q1d := C4.cell 1 rfl
    have q2d := C4.cell 2 rfl
    have f0d := C4.free 0 rfl
    have f1d := C4.free 1 rfl
    have f2d := C4.free 2 rfl
    have ltd := C4.1
    have X0 := Cs.new w4 [.slice A2 n c2, .slice B2 m d2, .slice C2' k f2] 31
    have t5 := bel_alloc w4 (.cells [.slice A2 n c2, .slice B2 m d2, .slice C2' k f2].toArray 31)
    have bb5 := bel_trans bb4 t5
    have C5 := C4.below t5
    go_wp2_with fail
    refine (isBitProof_any s A2 n c2 ms B2 m d2 cs C2' k f2 as_ _ (j1.below t5) (j2.below t5) (j3.below t5)).mono ?_
    rintro e w6 ⟨rfl, b6⟩
    rw [RR.out]
    have bb6 := bel_trans bb5 b6
    have C6 := C5.below b6
    have X6 := X0.below b6
    have u6 := bel_trans t5 b6
    have q0e := C6.cell 0 rfl
    have q1e := C6.cell 1 rfl
    have q2e := C6.cell 2 rfl
    have f0e := C6.free 0 rfl
    have f1e := C6.free 1 rfl
    have f2e := C6.free 2 rfl
    have lte := C6.1
    have q0f := X6.cell 0 rfl
    have q1f := X6.cell 1 rfl
    have q2f := X6.cell 2 rfl
    have f0f := X6.free 0 rfl
    have f1f := X6.free 1 rfl
    have f2f := X6.free 2 rfl
    have ltf := X6.1
    have qr : (r == r) = true := by simp
    go_wp2_with fail
    go_region_with (first | (go_at_call 19; refine (toBitProof_any A n c ms B m d cs C k f as_ _ (h1.below bb6.drew) (h2.below bb6.drew) (h3.below bb6.drew) (by omega) (by omega) (by omega)).mono ?_; rintro e w7 ⟨A3, c3, B3, d3, C3', f3, rfl, o1, o2, o3, b7⟩; have bb7 := bel_trans bb6.drew b7; have u7 := bel_trans u6.drew b7; have X7 := X6.drew.below b7; have q0g := X7.cell 0 rfl; have q1g := X7.cell 1 rfl; have q2g := X7.cell 2 rfl) | (go_at_call 20; refine (eqBitProof_same A2 n c2 ms B2 m d2 cs C2' k f2 as_ A3 c3 B3 d3 C3' f3 _ (j1.below u7) (j2.below u7) (j3.below u7) o1 o2 o3).mono ?_; rintro e w8 ⟨rfl, b8⟩; have bb8 := bel_trans bb7 b8))
    all_goals
      go_wp2_with fail
      go_ret
      exact ⟨rfl, by assumption⟩
end Go.Proofs.Ytnjnngnagdhaiaa
