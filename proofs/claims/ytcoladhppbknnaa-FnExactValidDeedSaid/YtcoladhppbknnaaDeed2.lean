/- The program's test of a deed. -/
import Derived.Test.YtcoladhppbknnaaDeed
import Derived.Deep.Cut
import Derived.Deep.CutBlock
import Derived.Deep.CutRange
namespace Go.Proofs.Ytcoladhppbknnaa
set_option linter.unusedVariables false
set_option linter.unusedSimpArgs false
set_option maxRecDepth 100000
open Go.RowKit Go.Deep
def deedB (kd mb : Int) (ts : List Int) (ti : ByteArray) (vt : Int) (es : List Ed) (fr un cl : Int) : Bool :=
  if kd = 1 then inR mb 0 11 && trB ts mb 12 && ti.toList.isEmpty && (vt == 0) && plB es fr un cl
  else if kd = 2 then inR mb 0 11 && decide (ts.length = 0) && nameB ti && inR vt 0 3 && plB es fr un cl
  else if kd = 3 then inR mb 0 11 && decide (ts.length = 0) && nameB ti && (vt == 0) && (decide (0 < es.length) && patB es && spB fr un cl)
  else if kd = 4 then (mb == 0) && decide (ts.length = 0) && ti.toList.isEmpty && (vt == 0) && plB es fr un cl
  else false
theorem len0 (n : Nat) : ((n : Int) == 0) = decide (n = 0) := by
  rw [Bool.eq_iff_iff]; simp
set_option maxHeartbeats 2000000 in
theorem ValidDeed_any (kd mb : Int) (tA : Option Addr) (tn tc : Nat) (ts : List Int) (ti : ByteArray) (vt : Int) (pA : Option Addr) (pn pc : Nat) (es : List Ed) (fr un cl : Int) (w : World) (hT : Ints .i64 w tA tn tc ts) (hP : Eds w pA pn pc es) (hs : ti.size ≤ 9223372036854775807) :
    Calls Try.prog 11 #[.agg #[.int .i64 kd, .int .i64 mb, .slice tA tn tc, .string ti, .int .i64 vt, .slice pA pn pc, .int .i64 fr, .int .i64 un, .int .i64 cl]] w fun e w' => e = .returned (.bool (deedB kd mb ts ti vt es fr un cl)) ∧ Below w.heap.size w w' := by
  obtain rfl : ts.length = tn := hT.1
  obtain rfl : es.length = pn := hP.len
  have t64 := hT.short
  have p64 := hP.short
  have ba := bel_alloc w (.cells #[.int .i64 kd, .int .i64 mb, .slice tA ts.length tc, .string ti, .int .i64 vt, .slice pA es.length pc, .int .i64 fr, .int .i64 un, .int .i64 cl] 30)
  have C := Lib.hid (Cs.new w [.int .i64 kd, .int .i64 mb, .slice tA ts.length tc, .string ti, .int .i64 vt, .slice pA es.length pc, .int .i64 fr, .int .i64 un, .int .i64 cl] 30)
  have HT := Lib.hid (hT.below ba)
  have HP := Lib.hid (hP.below ba)
  have BA := Lib.hid ba
  clear hT hP ba
  have y0 := C.out.cell 0 rfl
  have y1 := C.out.cell 1 rfl
  have y2 := C.out.cell 2 rfl
  have y3 := C.out.cell 3 rfl
  have y4 := C.out.cell 4 rfl
  have y5 := C.out.cell 5 rfl
  have y6 := C.out.cell 6 rfl
  have y7 := C.out.cell 7 rfl
  have y8 := C.out.cell 8 rfl
  go_enter Try.func11, Try.ntmps11
  go_wp2_with fail
  obtain ⟨w0, hw0⟩ : ∃ x, w.alloc (.cells #[.int .i64 kd, .int .i64 mb, .slice tA ts.length tc, .string ti, .int .i64 vt, .slice pA es.length pc, .int .i64 fr, .int .i64 un, .int .i64 cl] 30) = x := ⟨_, rfl⟩
  obtain ⟨g, hg⟩ : ∃ x, w.heap.size = x := ⟨_, rfl⟩
  rw [hw0] at C HT HP BA y0 y1 y2 y3 y4 y5 y6 y7 y8
  rw [hw0]
  rw [hg] at C y0 y1 y2 y3 y4 y5 y6 y7 y8
  rw [hg] 
  clear hw0
  go_quiet (fail)
  rename_i nq
  obtain ⟨Tb, hTb⟩ : ∃ x, ((ts.length : Int) == 0) = x := ⟨_, rfl⟩
  obtain ⟨Bb, hBb⟩ : ∃ x, ti.toList.isEmpty = x := ⟨_, rfl⟩
  obtain ⟨Vb, hVb⟩ : ∃ x, (vt == 0) = x := ⟨_, rfl⟩
  rw [hTb, hBb, hVb]
  obtain ⟨w1, hw1⟩ : ∃ x, w0.drewN nq = x := ⟨_, rfl⟩
  have B1 : Below w0.heap.size w0 w1 := by rw [← hw1]; exact below_drewN (Below.refl _ _) nq
  rw [hw1]
  replace C := Lib.hid (C.out.below B1)
  replace HT := Lib.hid (HT.out.below B1)
  replace HP := Lib.hid (HP.out.below B1)
  replace BA := Lib.hid (bel_trans BA.out B1)
  clear hw1 B1 y0 y1 y2 y3 y4 y5 y6 y7 y8
  have y5 := C.out.cell 5 rfl
  have y6 := C.out.cell 6 rfl
  have y7 := C.out.cell 7 rfl
  have y8 := C.out.cell 8 rfl
  go_upto_region 2 with fail
  go_cut [6] from 17 to 35 (fun s wc => s = .bool (plB es fr un cl) ∧ wc = w1)
  case first =>
    by_cases h0 : es.length = 0
    · have e0 : ((es.length : Int) == 0) = true := by simp [h0]
      have R := Lib.hid (show plB es fr un cl = ((fr == 0) && (un == 0) && (cl == 0)) by unfold plB; rw [h0]; rfl)
      clear h0
      cases e1 : fr == 0
      · rw [e1] at R
        go_wp2_with fail
        go_meet
        case rel => exact ⟨by rw [R.out]; rfl, rfl⟩
      cases e2 : un == 0
      · rw [e1, e2] at R
        go_wp2_with fail
        go_meet
        case rel => exact ⟨by rw [R.out]; rfl, rfl⟩
      rw [e1, e2] at R
      go_wp2_with fail
      go_meet
      case rel => exact ⟨by rw [R.out]; rfl, rfl⟩
    · have e0 : ((es.length : Int) == 0) = false := by rw [len0, decide_eq_false h0]
      have R := Lib.hid (show plB es fr un cl = false by unfold plB; rw [decide_eq_false h0]; rfl)
      clear h0
      go_wp2_with fail
      go_meet
      case rel => exact ⟨by rw [R.out], rfl⟩
  case rest =>
  obtain ⟨rfl, rfl⟩ := hcut
  obtain ⟨PL, hPL⟩ : ∃ x, plB es fr un cl = x := ⟨_, rfl⟩
  rw [hPL]
  have D := Lib.hid (show deedB kd mb ts ti vt es fr un cl = (if kd = 1 then inR mb 0 11 && trB ts mb 12 && Bb && Vb && PL
    else if kd = 2 then inR mb 0 11 && Tb && nameB ti && inR vt 0 3 && PL
    else if kd = 3 then inR mb 0 11 && Tb && nameB ti && Vb && (decide (0 < es.length) && patB es && spB fr un cl)
    else if kd = 4 then (mb == 0) && Tb && Bb && Vb && PL else false) by unfold deedB; rw [← hTb, ← hBb, ← hVb, ← hPL, len0])
  clear hTb hBb hVb hPL
  have y0 := C.out.cell 0 rfl
  have y1 := C.out.cell 1 rfl
  have y2 := C.out.cell 2 rfl
  have y3 := C.out.cell 3 rfl
  have y4 := C.out.cell 4 rfl
  by_cases k1 : kd = 1
  · subst k1
    have R := Lib.hid (D.out.trans (if_pos rfl))
    clear D
    go_wp2_with fail
    refine (isAnyMember_any mb _).mono ?_
    rintro e w9 ⟨rfl, rfl⟩
    cases hin : inR mb 0 11
    · have R := Lib.hid (R.out.trans (by rw [hin]; rfl : _ = false))
      clear hin
      go_wp2_with fail
      go_ret
      exact ⟨by rw [R.out]; rfl, BA.out⟩
    have R := Lib.hid (R.out.trans (by rw [hin, Bool.true_and] : _ = (trB ts mb 12 && Bb && Vb && PL)))
    clear hin
    go_wp2_with fail
    refine (areTrusted_any tA ts.length tc ts mb 12 (by omega) _ HT.out).mono ?_
    rintro e w9 ⟨rfl, rfl⟩
    cases htr : trB ts mb 12
    · have R := Lib.hid (R.out.trans (by rw [htr]; rfl : _ = false))
      clear htr
      go_wp2_with fail
      go_ret
      exact ⟨by rw [R.out]; rfl, BA.out⟩
    have R := Lib.hid (R.out.trans (by rw [htr, Bool.true_and] : _ = (Bb && Vb && PL)))
    clear htr
    cases Bb
    · go_wp2_with fail
      go_ret
      exact ⟨by rw [R.out]; rfl, BA.out⟩
    cases Vb
    · go_wp2_with fail
      go_ret
      exact ⟨by rw [R.out]; rfl, BA.out⟩
    go_wp2_with fail
    go_ret
    exact ⟨by rw [R.out]; rfl, BA.out⟩
  by_cases k2 : kd = 2
  · subst k2
    have R := Lib.hid (D.out.trans ((if_neg (by omega)).trans (if_pos rfl)))
    clear D k1
    go_wp2_with fail
    refine (isAnyMember_any mb _).mono ?_
    rintro e w9 ⟨rfl, rfl⟩
    cases hin : inR mb 0 11
    · have R := Lib.hid (R.out.trans (by rw [hin]; rfl : _ = false))
      clear hin
      go_wp2_with fail
      go_ret
      exact ⟨by rw [R.out]; rfl, BA.out⟩
    have R := Lib.hid (R.out.trans (by rw [hin, Bool.true_and] : _ = (Tb && nameB ti && inR vt 0 3 && PL)))
    clear hin
    go_wp2_with fail
    refine (IsName_any ti _ hs).mono ?_
    rintro e w9 ⟨rfl, rfl⟩
    cases hna : nameB ti
    · have R := Lib.hid (R.out.trans (by rw [hna]; cases Tb <;> rfl : _ = false))
      clear hna
      go_wp2_with fail
      go_ret
      exact ⟨by rw [R.out]; rfl, BA.out⟩
    have R := Lib.hid (R.out.trans (by rw [hna, Bool.and_true] : _ = (Tb && inR vt 0 3 && PL)))
    clear hna
    go_wp2_with fail
    refine (isVoteOf_any vt _).mono ?_
    rintro e w9 ⟨rfl, rfl⟩
    cases hvo : inR vt 0 3
    · have R := Lib.hid (R.out.trans (by rw [hvo]; cases Tb <;> rfl : _ = false))
      clear hvo
      go_wp2_with fail
      go_ret
      exact ⟨by rw [R.out]; rfl, BA.out⟩
    have R := Lib.hid (R.out.trans (by rw [hvo, Bool.and_true] : _ = (Tb && PL)))
    clear hvo
    cases Tb
    · go_wp2_with fail
      go_ret
      exact ⟨by rw [R.out]; rfl, BA.out⟩
    go_wp2_with fail
    go_ret
    exact ⟨by rw [R.out]; rfl, BA.out⟩
  by_cases k3 : kd = 3
  · subst k3
    have R := Lib.hid (D.out.trans ((if_neg (by omega)).trans ((if_neg (by omega)).trans (if_pos rfl))))
    clear D k1 k2
    go_wp2_with fail
    refine (isAnyMember_any mb _).mono ?_
    rintro e w9 ⟨rfl, rfl⟩
    cases hin : inR mb 0 11
    · have R := Lib.hid (R.out.trans (by rw [hin]; rfl : _ = false))
      clear hin
      go_wp2_with fail
      go_ret
      exact ⟨by rw [R.out]; rfl, BA.out⟩
    have R := Lib.hid (R.out.trans (by rw [hin, Bool.true_and] : _ = (Tb && nameB ti && Vb && (decide (0 < es.length) && patB es && spB fr un cl))))
    clear hin
    go_wp2_with fail
    refine (IsName_any ti _ hs).mono ?_
    rintro e w9 ⟨rfl, rfl⟩
    cases hna : nameB ti
    · have R := Lib.hid (R.out.trans (by rw [hna]; cases Tb <;> rfl : _ = false))
      clear hna
      go_wp2_with fail
      go_ret
      exact ⟨by rw [R.out]; rfl, BA.out⟩
    have R := Lib.hid (R.out.trans (by rw [hna, Bool.and_true] : _ = (Tb && Vb && (decide (0 < es.length) && patB es && spB fr un cl))))
    clear hna
    go_wp2_with fail
    refine (isProposal_any pA es.length pc es cl fr un _ HP.out).mono ?_
    rintro e w9 ⟨rfl, b9⟩
    have BE := Lib.hid (bel_trans BA.out b9)
    clear b9 y0 y1 y2 y3 y4 y5 y6 y7 y8
    cases hpr : decide (0 < es.length) && patB es && spB fr un cl
    · have R := Lib.hid (R.out.trans (by rw [hpr]; cases Tb <;> cases Vb <;> rfl : _ = false))
      clear hpr
      go_wp2_with fail
      go_ret
      exact ⟨by rw [R.out]; rfl, BE.out⟩
    have R := Lib.hid (R.out.trans (by rw [hpr, Bool.and_true] : _ = (Tb && Vb)))
    clear hpr
    cases Tb
    · go_wp2_with fail
      go_ret
      exact ⟨by rw [R.out]; rfl, BE.out⟩
    go_wp2_with fail
    go_ret
    exact ⟨by rw [R.out]; rfl, BE.out⟩
  by_cases k4 : kd = 4
  · subst k4
    have R := Lib.hid (D.out.trans ((if_neg (by omega)).trans ((if_neg (by omega)).trans ((if_neg (by omega)).trans (if_pos rfl)))))
    clear D k1 k2 k3
    cases hm : mb == 0
    · rw [hm] at R
      go_wp2_with fail
      go_ret
      exact ⟨by rw [R.out]; rfl, BA.out⟩
    rw [hm] at R
    cases Tb
    · go_wp2_with fail
      go_ret
      exact ⟨by rw [R.out]; rfl, BA.out⟩
    cases Bb
    · go_wp2_with fail
      go_ret
      exact ⟨by rw [R.out]; rfl, BA.out⟩
    cases Vb
    · go_wp2_with fail
      go_ret
      exact ⟨by rw [R.out]; rfl, BA.out⟩
    go_wp2_with fail
    go_ret
    exact ⟨by rw [R.out]; rfl, BA.out⟩
  have R := Lib.hid (D.out.trans (by rw [if_neg k1, if_neg k2, if_neg k3, if_neg k4] : _ = false))
  have d1 : (kd == 1) = false := by simpa using k1
  have d2 : (kd == 2) = false := by simpa using k2
  have d3 : (kd == 3) = false := by simpa using k3
  have d4 : (kd == 4) = false := by simpa using k4
  clear k1 k2 k3 k4 D
  go_wp2_with fail
  go_ret
  exact ⟨by rw [R.out]; rfl, BA.out⟩
end Go.Proofs.Ytcoladhppbknnaa
