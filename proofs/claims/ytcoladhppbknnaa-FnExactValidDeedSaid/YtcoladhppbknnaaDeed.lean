/- Deeds: the small tests. -/
import Derived.Test.YtcoladhppbknnaaPat3
import Derived.Test.YtcoladhppbknnaaTru2
namespace Go.Proofs.Ytcoladhppbknnaa
set_option linter.unusedVariables false
set_option linter.unusedSimpArgs false
set_option maxRecDepth 100000
open Go.RowKit Go.Deep
def spB (fr un cl : Int) : Bool := inR cl 1 999 && (decide (cl ≤ fr) && decide (fr < un) && decide (un ≤ 1000))
def plB (es : List Ed) (fr un cl : Int) : Bool := decide (es.length = 0) && (fr == 0) && (un == 0) && (cl == 0)
theorem isAnyMember_any (x : Int) (w : World) : Calls Try.prog 42 #[.int .i64 x] w fun e w' => e = .returned (.bool (inR x 0 11)) ∧ w = w' := by
  go_enter Try.func42, Try.ntmps42
  go_wp2_with fail
  refine (within_any x 0 11 _).mono ?_
  rintro e w1 ⟨rfl, rfl⟩
  go_wp2_with fail
  go_ret
  exact ⟨rfl, rfl⟩
theorem isVoteOf_any (x : Int) (w : World) : Calls Try.prog 45 #[.int .i64 x] w fun e w' => e = .returned (.bool (inR x 0 3)) ∧ w = w' := by
  go_enter Try.func45, Try.ntmps45
  go_wp2_with fail
  refine (within_any x 0 3 _).mono ?_
  rintro e w1 ⟨rfl, rfl⟩
  go_wp2_with fail
  go_ret
  exact ⟨rfl, rfl⟩
theorem isProposal_any (A : Option Addr) (n c : Nat) (es : List Ed) (cl fr un : Int) (w : World) (h : Eds w A n c es) :
    Calls Try.prog 46 #[.slice A n c, .int .i64 cl, .int .i64 fr, .int .i64 un] w fun e w' => e = .returned (.bool (decide (0 < n) && patB es && spB fr un cl)) ∧ Below w.heap.size w w' := by
  have hn := h.short
  have H := Lib.hid h
  clear h
  by_cases z : 0 < n
  · have d0 := decide_eq_true (show (0 : Int) < (n : Int) by omega)
    have R := Lib.hid (show (decide (0 < n) && patB es && spB fr un cl) = (patB es && spB fr un cl) by rw [decide_eq_true z]; rfl)
    go_enter Try.func46, Try.ntmps46
    go_wp2_with fail
    refine (ValidPatch_any A n c es _ H.out).mono ?_
    rintro e w1 ⟨rfl, b1⟩
    have B1 := Lib.hid b1
    clear b1
    cases hp : patB es
    · have R := Lib.hid (R.out.trans (by rw [hp]; rfl : _ = false))
      go_wp2_with fail
      go_ret
      exact ⟨by rw [R.out]; rfl, B1.out⟩
    have R := Lib.hid (R.out.trans (by rw [hp]; rfl : _ = spB fr un cl))
    go_wp2_with fail
    refine (within_any cl 1 999 _).mono ?_
    rintro e w2 ⟨rfl, rfl⟩
    cases hc : inR cl 1 999
    · have R2 := Lib.hid (R.out.trans (by unfold spB; rw [hc]; rfl : _ = false))
      clear hc
      go_wp2_with fail
      go_ret
      exact ⟨by rw [R2.out]; rfl, B1.out⟩
    have R2 := Lib.hid (R.out.trans (by unfold spB; rw [hc, Bool.true_and] : _ = (decide (cl ≤ fr) && decide (fr < un) && decide (un ≤ 1000))))
    clear hc R
    by_cases h1 : cl ≤ fr
    · have d1 := decide_eq_true h1
      by_cases h2 : fr < un
      · have d2 := decide_eq_true h2
        rw [d1, d2] at R2
        clear h1 h2
        go_wp2_with fail
        go_ret
        exact ⟨by rw [R2.out]; rfl, B1.out⟩
      · have d2 := decide_eq_false h2
        rw [d1, d2] at R2
        clear h1 h2
        go_wp2_with fail
        go_ret
        exact ⟨by rw [R2.out]; rfl, B1.out⟩
    · have d1 := decide_eq_false h1
      rw [d1] at R2
      clear h1
      go_wp2_with fail
      go_ret
      exact ⟨by rw [R2.out]; rfl, B1.out⟩
  · have d0 := decide_eq_false (show ¬ (0 : Int) < (n : Int) by omega)
    have R := Lib.hid (show (decide (0 < n) && patB es && spB fr un cl) = false by rw [decide_eq_false z]; rfl)
    obtain rfl : n = 0 := by omega
    clear z d0
    go_enter Try.func46, Try.ntmps46
    go_wp2_with fail
    go_ret
    exact ⟨by rw [R.out]; rfl, Below.refl _ _⟩
theorem l10Span_any (fr un cl : Int) (hu : -9223372036854775808 ≤ un) (hu2 : un ≤ 9223372036854775807) (w : World) :
    Calls Try.prog 93 #[.int .i64 fr, .int .i64 un, .int .i64 cl] w fun e w' => e = .returned (.bool (spB fr un cl)) ∧ w = w' := by
  go_enter Try.func93, Try.ntmps93
  go_wp2_with fail
  refine (l00In_any cl 1 999 _).mono ?_
  rintro e w2 ⟨rfl, rfl⟩
  cases hc : inR cl 1 999
  · have R2 := Lib.hid (show spB fr un cl = false by unfold spB; rw [hc]; rfl)
    clear hc
    go_wp2_with fail
    go_ret
    exact ⟨by rw [R2.out]; rfl, rfl⟩
  have hc' := inR_true.1 hc
  have R2 := Lib.hid (show spB fr un cl = (decide (cl ≤ fr) && decide (fr < un) && decide (un ≤ 1000)) by unfold spB; rw [hc, Bool.true_and])
  clear hc
  go_wp2_with fail
  refine (l00In_any un 1 1000 _).mono ?_
  rintro e w2 ⟨rfl, rfl⟩
  cases hd : inR un 1 1000
  · have R3 := Lib.hid (R2.out.trans (show _ = false by
      rw [Bool.eq_false_iff]
      intro q
      simp only [Bool.and_eq_true, decide_eq_true_eq] at q
      rw [inR_true.2 ⟨by omega, by omega⟩] at hd
      cases hd))
    clear hd hc'
    go_wp2_with fail
    go_ret
    exact ⟨by rw [R3.out]; rfl, rfl⟩
  have hd' := inR_true.1 hd
  have R3 := Lib.hid (show spB fr un cl = inR fr cl (un - 1) by
    rw [R2.out, Bool.eq_iff_iff, inR_true]
    simp only [Bool.and_eq_true, decide_eq_true_eq]
    omega)
  have wu : IntKind.i64.wrap (un - 1) = un - 1 := IntWalk.i64_in _ (by omega)
  clear hd hc' hd'
  go_wp2_with fail
  refine (l00In_any fr cl (un - 1) _).mono ?_
  rintro e w2 ⟨rfl, rfl⟩
  go_wp2_with fail
  go_ret
  exact ⟨by rw [R3.out]; rfl, rfl⟩
theorem l10Plain_any (g : Nat) (pA : Option Addr) (n c : Nat) (es : List Ed) (he : es.length = n) (fr un cl : Int) (w : World) (y5 : w.cell? ⟨g, 5, none⟩ = some (.slice pA n c)) (y6 : w.cell? ⟨g, 6, none⟩ = some (.int .i64 fr)) (y7 : w.cell? ⟨g, 7, none⟩ = some (.int .i64 un)) (y8 : w.cell? ⟨g, 8, none⟩ = some (.int .i64 cl)) :
    Calls Try.prog 90 #[.pointer (some ⟨g, 0, none⟩)] w fun e w' => e = .returned (.bool (plB es fr un cl)) ∧ w = w' := by
  by_cases h0 : n = 0
  · have e0 : ((n : Int) == 0) = true := by simp [h0]
    have R := Lib.hid (show plB es fr un cl = ((fr == 0) && (un == 0) && (cl == 0)) by unfold plB; rw [he, h0]; rfl)
    clear h0 he
    cases e1 : fr == 0
    · rw [e1] at R
      go_enter Try.func90, Try.ntmps90
      go_wp2_with fail
      go_ret
      exact ⟨by rw [R.out]; rfl, rfl⟩
    cases e2 : un == 0
    · rw [e1, e2] at R
      go_enter Try.func90, Try.ntmps90
      go_wp2_with fail
      go_ret
      exact ⟨by rw [R.out]; rfl, rfl⟩
    rw [e1, e2] at R
    go_enter Try.func90, Try.ntmps90
    go_wp2_with fail
    go_ret
    exact ⟨by rw [R.out]; rfl, rfl⟩
  · have e0 : ((n : Int) == 0) = false := by simp; omega
    have R := Lib.hid (show plB es fr un cl = false by unfold plB; rw [he, decide_eq_false h0]; rfl)
    clear h0 he
    go_enter Try.func90, Try.ntmps90
    go_wp2_with fail
    go_ret
    exact ⟨by rw [R.out]; rfl, rfl⟩
end Go.Proofs.Ytcoladhppbknnaa
