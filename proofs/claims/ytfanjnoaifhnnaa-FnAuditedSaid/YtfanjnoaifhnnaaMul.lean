/- Contracts of FractionOf, MulFractions, CompareFractions where they are in range. -/
import Derived.Test.YtfanjnoaifhnnaaSample
namespace Go.Proofs.Ytfanjnoaifhnnaa
set_option linter.unusedVariables false
open Go.RowKit
theorem told_in {n d : Int} (h : okF n d = true) {w : World} {e : Ending} {w' : World} (hh : GivesF (tN n d) (tD n d) (okF n d) w e w') : GivesF n d true w e w' := by
  rwa [(told_yes h).1, (told_yes h).2, h] at hh
theorem fractionOf_in (n d : Int) (w : World) (h0 : -1000000000 ≤ n) (h1 : n ≤ 1000000000) (h2 : 1 ≤ d) (h3 : d ≤ 1000000000) :
    Calls Try.prog 37 #[.int .i64 n, .int .i64 d] w (GivesF (redN n d) (redD n d) true w) := by
  have H1 : Hid (inR n (-1000000000000000000) 1000000000000000000 = true) := inR_true.2 ⟨by omega, by omega⟩
  have H2 : Hid (inR d (-1000000000000000000) 1000000000000000000 = true) := inR_true.2 ⟨by omega, by omega⟩
  have hd0 : (d == 0) = false := by simp; omega
  have OKF := Lib.hid (red_ok h0 h1 h2 h3)
  go_enter Try.func37, Try.ntmps37
  go_wp2_with fail
  refine (within_val H1.out _).mono ?_
  rintro e w' ⟨rfl, rfl⟩
  go_wp2_with fail
  refine (within_val H2.out _).mono ?_
  rintro e w' ⟨rfl, rfl⟩
  go_wp2_with fail
  refine (fraction_any _ _ _ (by omega) (by omega) (by omega) (by omega)).mono ?_
  rintro e w1 ⟨rfl, b1⟩
  obtain ⟨hca, hfa⟩ := bcell b1
  have hza : w.heap.size < w1.heap.size := by have := b1.size; simp at this; omega
  have q0a := (hca _ 0 (by simp)).trans (new2 w _ _ _).1
  have q1a := (hca _ 1 (by simp)).trans (new2 w _ _ _).2
  have r0a := (hfa _ 0 (by simp)).trans (World.frozen?_alloc_at _ _ _ _ rfl)
  have r1a := (hfa _ 1 (by simp)).trans (World.frozen?_alloc_at _ _ _ _ rfl)
  clear hca hfa
  go_wp2_with fail
  refine (told_any _ _ _).mono fun _ _ hh => ?_
  obtain ⟨rfl, b2⟩ := told_in OKF.out hh
  rename_i w2
  have q0b := (b2.cell (p := ⟨w.heap.size, 0, none⟩) hza).trans q0a
  have q1b := (b2.cell (p := ⟨w.heap.size, 1, none⟩) hza).trans q1a
  have r0b := (b2.frozen (p := ⟨w.heap.size, 0, none⟩) hza).trans r0a
  have r1b := (b2.frozen (p := ⟨w.heap.size, 1, none⟩) hza).trans r1a
  have hzb : w.heap.size < w2.heap.size := Nat.lt_of_lt_of_le hza b2.size
  have b12 := bel_trans (bel_trans (bel_alloc w _) b1) b2
  go_wp2_with fail
  exact bodyPost_ret (v := .tuple #[.agg #[.int .i64 (redN n d), .int .i64 (redD n d)], .bool true]) (by simp [results, Try.results37, go_sem, q0b, q1b]) rfl ⟨rfl, bel_set2 b12 (Nat.le_refl _) _ _⟩
theorem compareFractions_in (a b c d : Int) (w : World) (h1 : okF a b = true) (h2 : okF c d = true) :
    Calls Try.prog 42 #[.agg #[.int .i64 a, .int .i64 b], .agg #[.int .i64 c, .int .i64 d]] w fun e w' => e = .returned (.tuple #[.int .i64 (cmpF a b c d), .bool true]) ∧ Below w.heap.size w w' := by
  obtain ⟨f1, f2, f3, f4, _⟩ := okF_true h1
  obtain ⟨g1, g2, g3, g4, _⟩ := okF_true h2
  have H1 := Lib.hid h1
  have H2 := Lib.hid h2
  clear h1 h2
  go_enter Try.func42, Try.ntmps42
  go_wp2_with fail
  refine (validFraction_any a b _).mono ?_
  rintro e w1 ⟨rfl, b1⟩
  rw [H1.out]
  obtain ⟨hc, hf⟩ := bcell b1
  have hz : w.heap.size + 1 < w1.heap.size := by have := b1.size; simp at this; omega
  have hza : w.heap.size < w1.heap.size := by omega
  go_wp2_with fail
  refine (validFraction_any c d _).mono ?_
  rintro e w2 ⟨rfl, b2⟩
  rw [H2.out]
  obtain ⟨hc2, hf2⟩ := bcell b2
  have b12 := bel_trans (bel_trans (bel_alloc w _) (bel_alloc _ _)) (bel_trans b1 b2)
  go_wp2_with fail
  refine (compare_any a b c d _ (by omega) (by omega) (by omega) (by omega) (by omega) (by omega) (by omega) (by omega)).mono ?_
  rintro e w3 ⟨rfl, b3⟩
  have b13 := bel_trans b12 b3
  go_wp2_with fail
  go_ret2
  exact ⟨rfl, b13⟩
end Go.Proofs.Ytfanjnoaifhnnaa
