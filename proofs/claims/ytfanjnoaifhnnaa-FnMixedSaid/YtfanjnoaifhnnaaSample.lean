/- Contracts of the comparison of fractions and of SampleFor; the walk of its law. -/
import Derived.Test.YtfanjnoaifhnnaaRisk
import Derived.Deep.RegionWith
namespace Go.Proofs.Ytfanjnoaifhnnaa
set_option linter.unusedVariables false
open Go.RowKit

/-- The comparison of two fractions: -1, 0, 1. -/
def cmpF (a b c d : Int) : Int := if a * d < c * b then -1 else if c * b < a * d then 1 else 0
theorem cmpF_lt {a b c d : Int} (h : a * d < c * b) : cmpF a b c d = -1 := by simp [cmpF, h]
theorem cmpF_gt {a b c d : Int} (h : c * b < a * d) : cmpF a b c d = 1 := by
  have : ¬ a * d < c * b := by omega
  simp [cmpF, h, this]
theorem cmpF_eq {a b c d : Int} (h : ¬ a * d < c * b) (h' : ¬ c * b < a * d) : cmpF a b c d = 0 := by simp [cmpF, h, h']
theorem mul_bd {a b : Int} (h1 : -1000000000 ≤ a) (h2 : a ≤ 1000000000) (h3 : 0 ≤ b) (h4 : b ≤ 1000000000) : -1000000000000000000 ≤ a * b ∧ a * b ≤ 1000000000000000000 := by
  have e1 : a * b ≤ 1000000000 * b := Int.mul_le_mul_of_nonneg_right h2 h3
  have e2 : -1000000000 * b ≤ a * b := Int.mul_le_mul_of_nonneg_right h1 h3
  omega
theorem compare_any (a b c d : Int) (w : World) (ha : -1000000000 ≤ a) (ha' : a ≤ 1000000000) (hb : 0 ≤ b) (hb' : b ≤ 1000000000) (hc : -1000000000 ≤ c) (hc' : c ≤ 1000000000) (hd : 0 ≤ d) (hd' : d ≤ 1000000000) :
    Calls Try.prog 80 #[.agg #[.int .i64 a, .int .i64 b], .agg #[.int .i64 c, .int .i64 d]] w fun e w' => e = .returned (.int .i64 (cmpF a b c d)) ∧ Below w.heap.size w w' := by
  have m1 := mul_bd ha ha' hd hd'
  have m2 := mul_bd hc hc' hb hb'
  have W1 : IntKind.i64.wrap (a * d) = a * d := IntWalk.i64_in _ (by omega)
  have W2 : IntKind.i64.wrap (c * b) = c * b := IntWalk.i64_in _ (by omega)
  by_cases h1 : a * d < c * b
  · have R := Lib.hid (cmpF_lt h1)
    go_enter Try.func80, Try.ntmps80
    go_wp2_with fail
    (go_quiet (fail); go_wp2_with fail)
    go_ret
    exact ⟨ret_int R.out.symm, below_drewN (bel_trans (bel_alloc w _) (bel_alloc _ _)) _⟩
  · by_cases h2 : c * b < a * d
    · have R := Lib.hid (cmpF_gt h2)
      go_enter Try.func80, Try.ntmps80
      go_wp2_with fail
      (go_quiet (fail); go_wp2_with fail)
      go_ret
      exact ⟨ret_int R.out.symm, below_drewN (bel_trans (bel_alloc w _) (bel_alloc _ _)) _⟩
    · have R := Lib.hid (cmpF_eq h1 h2)
      go_enter Try.func80, Try.ntmps80
      go_wp2_with fail
      (go_quiet (fail); go_wp2_with fail)
      go_ret
      exact ⟨ret_int R.out.symm, below_drewN (bel_trans (bel_alloc w _) (bel_alloc _ _)) _⟩
theorem l01Cmp_any (a b c d : Int) (w : World) (ha : -1000000000 ≤ a) (ha' : a ≤ 1000000000) (hb : 0 ≤ b) (hb' : b ≤ 1000000000) (hc : -1000000000 ≤ c) (hc' : c ≤ 1000000000) (hd : 0 ≤ d) (hd' : d ≤ 1000000000) :
    Calls Try.prog 106 #[.agg #[.int .i64 a, .int .i64 b], .agg #[.int .i64 c, .int .i64 d]] w fun e w' => e = .returned (.int .i64 (cmpF a b c d)) ∧ Below w.heap.size w w' := by
  have m1 := mul_bd ha ha' hd hd'
  have m2 := mul_bd hc hc' hb hb'
  have W1 : IntKind.i64.wrap (a * d) = a * d := IntWalk.i64_in _ (by omega)
  have W2 : IntKind.i64.wrap (c * b) = c * b := IntWalk.i64_in _ (by omega)
  by_cases h1 : a * d < c * b
  · have R := Lib.hid (cmpF_lt h1)
    go_enter Try.func106, Try.ntmps106
    go_wp2_with fail
    skip
    go_ret
    exact ⟨ret_int R.out.symm, bel_trans (bel_alloc w _) (bel_alloc _ _)⟩
  · by_cases h2 : c * b < a * d
    · have R := Lib.hid (cmpF_gt h2)
      go_enter Try.func106, Try.ntmps106
      go_wp2_with fail
      skip
      go_ret
      exact ⟨ret_int R.out.symm, bel_trans (bel_alloc w _) (bel_alloc _ _)⟩
    · have R := Lib.hid (cmpF_eq h1 h2)
      go_enter Try.func106, Try.ntmps106
      go_wp2_with fail
      skip
      go_ret
      exact ⟨ret_int R.out.symm, bel_trans (bel_alloc w _) (bel_alloc _ _)⟩

/-- The first sample from k on, with m to go, whose risk is at most a limit; -1 if there is none. -/
def sampF (b x ln ld : Int) : Nat → Int → Int
  | 0, _ => -1
  | m + 1, k => if cmpF (riskN b x k) (riskD b x k) ln ld ≤ 0 then k else sampF b x ln ld m (k + 1)
def sampB (b x ln ld : Int) : Bool := okF ln ld && inR b 0 30 && inR x 0 b
def sampI (b x ln ld : Int) : Int := sampF b x ln ld (b + 1).toNat 0
def sampOk (b x ln ld : Int) : Bool := sampB b x ln ld && decide (0 ≤ sampI b x ln ld)
def sampV (b x ln ld : Int) : Int := if sampOk b x ln ld then sampI b x ln ld else 0
theorem samp_no {b x ln ld : Int} (h : sampOk b x ln ld = false) : sampOk b x ln ld = false ∧ sampV b x ln ld = 0 := by simp [sampV, h]
theorem samp_out1 {b x ln ld : Int} (h : okF ln ld = false) : sampOk b x ln ld = false := by simp [sampOk, sampB, h]
theorem samp_out2 {b x ln ld : Int} (h : inR b 0 30 = false) : sampOk b x ln ld = false := by simp [sampOk, sampB, h]
theorem samp_out3 {b x ln ld : Int} (h : inR x 0 b = false) : sampOk b x ln ld = false := by simp [sampOk, sampB, h]
theorem samp_neg {b x ln ld : Int} (h : sampI b x ln ld = -1) : sampOk b x ln ld = false := by simp [sampOk, h]
theorem samp_yes {b x ln ld k : Int} (h1 : okF ln ld = true) (h2 : inR b 0 30 = true) (h3 : inR x 0 b = true) (h4 : sampI b x ln ld = k) (h0 : 0 ≤ k) : sampOk b x ln ld = true ∧ sampV b x ln ld = k := by
  have : sampOk b x ln ld = true := by simp [sampOk, sampB, h1, h2, h3, h4, h0]
  simp [sampV, this, h4]
theorem sampF_end {b x ln ld : Int} {k m : Nat} (h : (m : Int) + k = b + 1) (h' : b < k) : sampF b x ln ld m k = -1 := by
  obtain rfl : m = 0 := by omega
  rfl
theorem sampF_hit {b x ln ld : Int} {k m : Nat} (h : (m : Int) + k = b + 1) (h' : (k : Int) ≤ b) (hc : cmpF (riskN b x k) (riskD b x k) ln ld ≤ 0) : sampF b x ln ld m k = k := by
  obtain ⟨j, rfl⟩ : ∃ j, m = j + 1 := ⟨m - 1, by omega⟩
  simp [sampF, hc]
theorem sampF_miss {b x ln ld : Int} {k m : Nat} (h : (m : Int) + k = b + 1) (h' : (k : Int) ≤ b) (hc : ¬ cmpF (riskN b x k) (riskD b x k) ln ld ≤ 0) : sampF b x ln ld m k = sampF b x ln ld (m - 1) ((k + 1 : Nat) : Int) := by
  obtain ⟨j, rfl⟩ : ∃ j, m = j + 1 := ⟨m - 1, by omega⟩
  simp [sampF, hc]
theorem implRiskOf_in (b x s : Int) (w : World) (h1 : 0 ≤ b) (h2 : b ≤ 30) (h3 : 0 ≤ x) (h4 : x ≤ b) (h5 : 0 ≤ s) (h6 : s ≤ b) :
    Calls Try.prog 41 #[.int .i64 b, .int .i64 x, .int .i64 s] w (GivesF (riskN b x s) (riskD b x s) true w) := by
  have e1 := inR_true.2 ⟨h1, h2⟩
  have e2 := inR_true.2 ⟨h3, h4⟩
  have e3 := inR_true.2 ⟨h5, h6⟩
  have := implRiskOf_yes b x s w e1 e2 e3
  obtain ⟨r1, r2, r3⟩ := risk_yes (risk_in e1 e2 e3)
  rwa [r1, r2, r3] at this
theorem implSampleFor_any (b x ln ld : Int) (w : World) :
    Calls Try.prog 77 #[.int .i64 b, .int .i64 x, .agg #[.int .i64 ln, .int .i64 ld]] w fun e w' => e = .returned (.tuple #[.int .i64 (sampV b x ln ld), .bool (sampOk b x ln ld)]) ∧ Below w.heap.size w w' := by
  cases h1 : okF ln ld
  · have H1 := Lib.hid h1
    have R := Lib.hid (samp_no (samp_out1 (b := b) (x := x) h1))
    clear h1
    go_enter Try.func77, Try.ntmps77
    go_wp2_with fail
    refine (validFraction_any ln ld _).mono ?_
    rintro e w1 ⟨rfl, hb⟩
    rw [H1.out]
    go_wp2_with fail
    go_ret2
    exact ⟨ret_ib R.out.2.symm R.out.1.symm, bel_trans (bel_alloc w _) hb⟩
  · cases h2 : inR b 0 30
    · have H1 := Lib.hid h1
      have H2 := Lib.hid h2
      have R := Lib.hid (samp_no (samp_out2 (x := x) (ln := ln) (ld := ld) h2))
      clear h1 h2
      go_enter Try.func77, Try.ntmps77
      go_wp2_with fail
      refine (validFraction_any ln ld _).mono ?_
      rintro e w1 ⟨rfl, hb⟩
      rw [H1.out]
      go_wp2_with fail
      refine (within_val H2.out _).mono ?_
      rintro e w' ⟨rfl, rfl⟩
      go_wp2_with fail
      go_ret2
      exact ⟨ret_ib R.out.2.symm R.out.1.symm, bel_trans (bel_alloc w _) hb⟩
    · cases h3 : inR x 0 b
      · have H1 := Lib.hid h1
        have H2 := Lib.hid h2
        have H3 := Lib.hid h3
        have R := Lib.hid (samp_no (samp_out3 (ln := ln) (ld := ld) h3))
        clear h1 h2 h3
        go_enter Try.func77, Try.ntmps77
        go_wp2_with fail
        refine (validFraction_any ln ld _).mono ?_
        rintro e w1 ⟨rfl, hb⟩
        rw [H1.out]
        go_wp2_with fail
        refine (within_val H2.out _).mono ?_
        rintro e w' ⟨rfl, rfl⟩
        go_wp2_with fail
        refine (within_val H3.out _).mono ?_
        rintro e w' ⟨rfl, rfl⟩
        go_wp2_with fail
        go_ret2
        exact ⟨ret_ib R.out.2.symm R.out.1.symm, bel_trans (bel_alloc w _) hb⟩
      · have H1 := Lib.hid h1
        have H2 := Lib.hid h2
        have H3 := Lib.hid h3
        have f1 := okF_true h1
        have b1 := inR_true.1 h2
        have b2 := inR_true.1 h3
        have F5 := Lib.hid f1.2.2.2.2
        obtain ⟨f11, f12, f13, f14, _⟩ := f1
        clear h1 h2 h3
        go_enter Try.func77, Try.ntmps77
        go_wp2_with fail
        refine (validFraction_any ln ld _).mono ?_
        rintro e w1 ⟨rfl, hb⟩
        rw [H1.out]
        go_wp2_with fail
        refine (within_val H2.out _).mono ?_
        rintro e w' ⟨rfl, rfl⟩
        go_wp2_with fail
        refine (within_val H3.out _).mono ?_
        rintro e w' ⟨rfl, rfl⟩
        obtain ⟨hca, hfa⟩ := bcell hb
        have hza : w.heap.size < w1.heap.size := by have := hb.size; simp at this; omega
        have q0a := (hca _ 0 (by simp)).trans (new2 w _ _ _).1
        have q1a := (hca _ 1 (by simp)).trans (new2 w _ _ _).2
        clear hca hfa
        go_wp2_with fail
        have hzw := hza
        go_loopw [8] (fun i wr => ∃ k : Nat, (k : Int) ≤ b + 1 ∧ i = .int .i64 k ∧ Hid (sampF b x ln ld (b + 1 - k).toNat k = sampI b x ln ld) ∧ Below w1.heap.size w1 wr) (fun i _ => (b + 1 - intOf i).toNat)
        case atStart => exact ⟨0, by omega, rfl, by show _ = _; simp [sampI], Below.refl _ _⟩
        case round =>
          obtain ⟨k, hk, rfl, HK, hbel⟩ := hrel
          have hzr : w.heap.size < wr.heap.size := Nat.lt_of_lt_of_le hza hbel.size
          have q0r := (hbel.cell (p := ⟨w.heap.size, 0, none⟩) hza).trans q0a
          have q1r := (hbel.cell (p := ⟨w.heap.size, 1, none⟩) hza).trans q1a
          by_cases hlt : (k : Int) ≤ b
          · have g1 := red_bd (n := chsI (b - x) k) (d := chsI b k) (b := 155117520) (by have := (risk_bd b1.1 b1.2 b2.1 b2.2 (show 0 ≤ (k : Int) by omega) hlt); omega) (risk_bd b1.1 b1.2 b2.1 b2.2 (show 0 ≤ (k : Int) by omega) hlt).2.1
            have g2 := redD_bd (n := chsI (b - x) k) (d := chsI b k) (b := 155117520) (risk_bd b1.1 b1.2 b2.1 b2.2 (show 0 ≤ (k : Int) by omega) hlt).2.2.1 (risk_bd b1.1 b1.2 b2.1 b2.2 (show 0 ≤ (k : Int) by omega) hlt).2.2.2
            by_cases hc : cmpF (riskN b x k) (riskD b x k) ln ld ≤ 0
            · have R := Lib.hid (samp_yes H1.out H2.out H3.out (HK.out.symm.trans (sampF_hit (by omega) hlt hc)) (by omega))
              go_wp2_with fail
              refine (implRiskOf_in b x k _ b1.1 b1.2 b2.1 b2.2 (by omega) hlt).mono ?_
              rintro e w2 ⟨rfl, b4⟩
              have q0s := (b4.cell (p := ⟨w.heap.size, 0, none⟩) hzr).trans q0r
              have q1s := (b4.cell (p := ⟨w.heap.size, 1, none⟩) hzr).trans q1r
              have hzs : w.heap.size < w2.heap.size := Nat.lt_of_lt_of_le hzr b4.size
              go_wp2_with fail
              refine (compare_any _ _ _ _ _ (by unfold riskN; omega) (by unfold riskN; omega) (by unfold riskD; omega) (by unfold riskD; omega) (by omega) (by omega) (by omega) (by omega)).mono ?_
              rintro e w3 ⟨rfl, b5⟩
              have b6 := bel_trans (bel_trans (bel_trans (bel_alloc w _) hb) (bel_trans hbel b4)) (bel_trans (bel_alloc _ _) b5)
              go_wp2_with fail
              go_ret2
              exact ⟨ret_ib R.out.2.symm R.out.1.symm, b6⟩
            · have HM := Lib.hid ((sampF_miss (by omega) hlt hc).symm.trans HK.out)
              go_wp2_with fail
              refine (implRiskOf_in b x k _ b1.1 b1.2 b2.1 b2.2 (by omega) hlt).mono ?_
              rintro e w2 ⟨rfl, b4⟩
              have q0s := (b4.cell (p := ⟨w.heap.size, 0, none⟩) hzr).trans q0r
              have q1s := (b4.cell (p := ⟨w.heap.size, 1, none⟩) hzr).trans q1r
              have hzs : w.heap.size < w2.heap.size := Nat.lt_of_lt_of_le hzr b4.size
              go_wp2_with fail
              refine (compare_any _ _ _ _ _ (by unfold riskN; omega) (by unfold riskN; omega) (by unfold riskD; omega) (by unfold riskD; omega) (by omega) (by omega) (by omega) (by omega)).mono ?_
              rintro e w3 ⟨rfl, b5⟩
              have b6 := bel_trans (bel_trans hbel b4) (bel_trans (bel_alloc _ _) b5)
              go_wp2_with fail
              go_roundw
              case rel => exact ⟨k + 1, by omega, by go_num, by have := HM.out; rwa [show (b + 1 - (k : Int)).toNat - 1 = (b + 1 - ((k + 1 : Nat) : Int)).toNat by omega] at this, b6⟩
              case measure => simp [intOf]; omega
          · have R := Lib.hid (samp_no (samp_neg (HK.out.symm.trans (sampF_end (by omega) (by omega)))))
            have b6 := bel_trans (bel_trans (bel_alloc w _) hb) hbel
            go_wp2_with fail
            go_ret2
            exact ⟨ret_ib R.out.2.symm R.out.1.symm, b6⟩
theorem sampI_bd (b x ln ld : Int) : ∀ (m : Nat) (k : Int), 0 ≤ k → sampF b x ln ld m k = -1 ∨ 0 ≤ sampF b x ln ld m k ∧ sampF b x ln ld m k ≤ k + m := by
  intro m
  induction m with
  | zero => intro k hk; exact .inl rfl
  | succ m ih =>
    intro k hk
    by_cases hc : cmpF (riskN b x k) (riskD b x k) ln ld ≤ 0
    · right; simp [sampF, hc]; omega
    · have := ih (k + 1) (by omega)
      simp only [sampF, hc, if_false]
      omega
set_option maxHeartbeats 1600000 in
theorem l09Sample_any (b x ln ld : Int) (w : World) (b11 : 0 ≤ b) (b12 : b ≤ 30) (b21 : 0 ≤ x) (b22 : x ≤ b) (hl : okF ln ld = true) :
    Calls Try.prog 83 #[.int .i64 b, .int .i64 x, .agg #[.int .i64 ln, .int .i64 ld]] w fun e w' => e = .returned (.int .i64 (sampI b x ln ld)) ∧ Below w.heap.size w w' := by
  obtain ⟨f11, f12, f13, f14, _⟩ := okF_true hl
  clear hl
  have q0z := (new2 w (.int .i64 ln) (.int .i64 ld) 52).1
  have q1z := (new2 w (.int .i64 ln) (.int .i64 ld) 52).2
  go_enter Try.func83, Try.ntmps83
  go_wp2_with fail
  go_loopw [7] (fun i wr => ∃ k : Nat, (k : Int) ≤ b + 1 ∧ i = .int .i64 k ∧ Hid (sampF b x ln ld (b + 1 - k).toNat k = sampI b x ln ld) ∧ Below (w.alloc (.cells #[.int .i64 ln, .int .i64 ld] 52)).heap.size (w.alloc (.cells #[.int .i64 ln, .int .i64 ld] 52)) wr) (fun i _ => (b + 1 - intOf i).toNat)
  case atStart => exact ⟨0, by omega, rfl, by show _ = _; simp [sampI], Below.refl _ _⟩
  case round =>
    obtain ⟨k, hk, rfl, HK, hbel⟩ := hrel
    have hzr : w.heap.size < wr.heap.size := by have := hbel.size; simp at this; omega
    have q0r := (hbel.cell (p := ⟨w.heap.size, 0, none⟩) (by simp)).trans q0z
    have q1r := (hbel.cell (p := ⟨w.heap.size, 1, none⟩) (by simp)).trans q1z
    by_cases hlt : (k : Int) ≤ b
    · have g0 := risk_bd b11 b12 b21 b22 (show 0 ≤ (k : Int) by omega) hlt
      have g1 := red_bd (n := chsI (b - x) k) (d := chsI b k) (b := 155117520) (by omega) g0.2.1
      have g2 := redD_bd (n := chsI (b - x) k) (d := chsI b k) (b := 155117520) g0.2.2.1 g0.2.2.2
      by_cases hc : cmpF (riskN b x k) (riskD b x k) ln ld ≤ 0
      · have R := Lib.hid (HK.out.symm.trans (sampF_hit (by omega) hlt hc))
        go_wp2_with fail
        go_region_with (first | (go_at_call 107; refine (l09Risk_any b x k _ b11 b12 b21 b22 (by omega) hlt).mono ?_; rintro e w2 ⟨rfl, b4⟩; have q0s := (b4.cell (p := ⟨w.heap.size, 0, none⟩) hzr).trans q0r; have q1s := (b4.cell (p := ⟨w.heap.size, 1, none⟩) hzr).trans q1r; have hzs : w.heap.size < w2.heap.size := Nat.lt_of_lt_of_le hzr b4.size) | (go_at_call 106; refine (l01Cmp_any _ _ _ _ _ (by unfold riskN; omega) (by unfold riskN; omega) (by unfold riskD; omega) (by unfold riskD; omega) (by omega) (by omega) (by omega) (by omega)).mono ?_; rintro e w3 ⟨rfl, b5⟩))
        all_goals
          have b6 := bel_trans (bel_trans (bel_alloc w _) hbel.drew) (bel_trans b4 b5)
          go_wp2_with fail
          go_ret
          exact ⟨ret_int R.out.symm, b6⟩
      · have HM := Lib.hid ((sampF_miss (by omega) hlt hc).symm.trans HK.out)
        go_wp2_with fail
        go_region_with (first | (go_at_call 107; refine (l09Risk_any b x k _ b11 b12 b21 b22 (by omega) hlt).mono ?_; rintro e w2 ⟨rfl, b4⟩; have q0s := (b4.cell (p := ⟨w.heap.size, 0, none⟩) hzr).trans q0r; have q1s := (b4.cell (p := ⟨w.heap.size, 1, none⟩) hzr).trans q1r; have hzs : w.heap.size < w2.heap.size := Nat.lt_of_lt_of_le hzr b4.size) | (go_at_call 106; refine (l01Cmp_any _ _ _ _ _ (by unfold riskN; omega) (by unfold riskN; omega) (by unfold riskD; omega) (by unfold riskD; omega) (by omega) (by omega) (by omega) (by omega)).mono ?_; rintro e w3 ⟨rfl, b5⟩))
        all_goals
          have b6 := bel_trans hbel.drew (bel_trans b4 b5)
          go_wp2_with fail
          go_roundw
          case rel => exact ⟨k + 1, by omega, by go_num, by have := HM.out; rwa [show (b + 1 - (k : Int)).toNat - 1 = (b + 1 - ((k + 1 : Nat) : Int)).toNat by omega] at this, b6⟩
          case measure => simp [intOf]; omega
    · have R := Lib.hid (HK.out.symm.trans (sampF_end (by omega) (by omega)))
      have b6 := bel_trans (bel_alloc w _) hbel
      go_wp2_with fail
      go_ret
      exact ⟨ret_int R.out.symm, b6⟩
theorem toFraction_any (a b : Int) (w : World) :
    Calls Try.prog 44 #[.agg #[.int .i64 a, .int .i64 b]] w fun e w' => e = .returned (.agg #[.int .i64 a, .int .i64 b]) ∧ Below w.heap.size w w' := by
  go_enter Try.func44, Try.ntmps44
  go_wp2_with fail
  exact bodyPost_ret (v := .agg #[.int .i64 a, .int .i64 b]) (by simp [results, Try.results44, go_sem]) rfl ⟨rfl, bel_trans (bel_trans (bel_alloc w _) (bel_alloc _ _)) (bel_alloc _ _)⟩
end Go.Proofs.Ytfanjnoaifhnnaa
