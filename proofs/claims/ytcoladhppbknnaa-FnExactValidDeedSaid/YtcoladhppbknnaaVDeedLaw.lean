/- The law FnExactValidDeed, walked. -/
import Derived.Test.YtcoladhppbknnaaDeed3
import Derived.Test.YtcoladhppbknnaaDeed6
import Derived.Test.YtcoladhppbknnaaDeedOpen
namespace Go.Proofs.Ytcoladhppbknnaa
set_option linter.unusedVariables false
set_option linter.unusedSimpArgs false
set_option maxRecDepth 100000
open Go.RowKit Go.Deep
set_option maxHeartbeats 2000000 in
theorem fnExactValidDeed_walk (w : World) (kd mb : Int) (tA : Option Addr) (tn tc : Nat) (ts : List Int) (ti : ByteArray) (vt : Int) (pA : Option Addr) (pn pc : Nat) (es : List Ed) (fr un cl : Int) (hT : Ints .i64 w tA tn tc ts) (hP : Eds w pA pn pc es) (hs : ti.size ≤ 9223372036854775807) (bu : I64 un) :
    Calls Try.prog 3 #[.agg #[.int .i64 kd, .int .i64 mb, .slice tA tn tc, .string ti, .int .i64 vt, .slice pA pn pc, .int .i64 fr, .int .i64 un, .int .i64 cl]] w fun e w' => e = .returned (.bool true) ∧ Below w.heap.size w w' := by
  obtain rfl : ts.length = tn := hT.1
  obtain rfl : es.length = pn := hP.len
  have ba := bel_alloc w (.cells #[.int .i64 kd, .int .i64 mb, .slice tA ts.length tc, .string ti, .int .i64 vt, .slice pA es.length pc, .int .i64 fr, .int .i64 un, .int .i64 cl] 25)
  have CA := Lib.hid (Cs.new w [.int .i64 kd, .int .i64 mb, .slice tA ts.length tc, .string ti, .int .i64 vt, .slice pA es.length pc, .int .i64 fr, .int .i64 un, .int .i64 cl] 25)
  have HT := Lib.hid (hT.below ba)
  have HP := Lib.hid (hP.below ba)
  have BA := Lib.hid ba
  clear hT hP ba
  have y0 := CA.out.cell 0 rfl
  have y1 := CA.out.cell 1 rfl
  have y2 := CA.out.cell 2 rfl
  have y3 := CA.out.cell 3 rfl
  have y4 := CA.out.cell 4 rfl
  have y5 := CA.out.cell 5 rfl
  have y6 := CA.out.cell 6 rfl
  have y7 := CA.out.cell 7 rfl
  have y8 := CA.out.cell 8 rfl
  go_enter Try.func3, Try.ntmps3
  go_wp2_with fail
  obtain ⟨w0, hw0⟩ : ∃ x, w.alloc (.cells #[.int .i64 kd, .int .i64 mb, .slice tA ts.length tc, .string ti, .int .i64 vt, .slice pA es.length pc, .int .i64 fr, .int .i64 un, .int .i64 cl] 25) = x := ⟨_, rfl⟩
  obtain ⟨g, hg⟩ : ∃ x, w.heap.size = x := ⟨_, rfl⟩
  rw [hw0] at CA HT HP BA y0 y1 y2 y3 y4 y5 y6 y7 y8
  rw [hw0]
  rw [hg] at CA y0 y1 y2 y3 y4 y5 y6 y7 y8
  rw [hg]
  clear hw0
  refine (szDeed_any kd mb tA tc ts ti vt pA pc es fr un cl _ HT.out HP.out hs).mono ?_
  rintro e w1 ⟨r, rfl, hr, b1⟩
  replace CA := Lib.hid (CA.out.below b1)
  replace HT := Lib.hid (HT.out.below b1)
  replace HP := Lib.hid (HP.out.below b1)
  replace BA := Lib.hid (bel_trans BA.out b1)
  clear b1 y0 y1 y2 y3 y4 y5 y6 y7 y8
  by_cases q : r < 0
  · have d := decide_eq_true q
    go_wp2_with fail
    go_ret
    exact ⟨rfl, BA.out⟩
  have d := decide_eq_false q
  have ht : ts.length ≤ 1048576 := by omega
  have hp : es.length ≤ 1048576 := by omega
  clear hr
  have y0 := CA.out.cell 0 rfl
  have y1 := CA.out.cell 1 rfl
  have y2 := CA.out.cell 2 rfl
  have y3 := CA.out.cell 3 rfl
  have y4 := CA.out.cell 4 rfl
  have y5 := CA.out.cell 5 rfl
  have y6 := CA.out.cell 6 rfl
  have y7 := CA.out.cell 7 rfl
  have y8 := CA.out.cell 8 rfl
  go_wp2_with fail
  refine (toDeed_any kd mb tA tc ts ti vt pA pc es fr un cl _ HT.out HP.out ht hp).mono ?_
  rintro e w2 ⟨tX, xc, pX, yc, rfl, oT, oP, b2⟩
  replace CA := Lib.hid (CA.out.below b2)
  replace HT := Lib.hid (HT.out.below b2)
  replace HP := Lib.hid (HP.out.below b2)
  replace BA := Lib.hid (bel_trans BA.out b2)
  have OT := Lib.hid oT
  have OP := Lib.hid oP
  clear b2 oT oP y0 y1 y2 y3 y4 y5 y6 y7 y8
  go_wp2_with fail
  refine (SValidDeed_any kd mb tX xc ts ti vt pX yc es fr un cl _ OT.out OP.out hs bu).mono ?_
  rintro e w3 ⟨rfl, b3⟩
  replace CA := Lib.hid (CA.out.below b3)
  replace HT := Lib.hid (HT.out.below b3)
  replace HP := Lib.hid (HP.out.below b3)
  replace BA := Lib.hid (bel_trans BA.out b3)
  clear b3 OT OP
  obtain ⟨dB, hdB⟩ : ∃ x, deedB kd mb ts ti vt es fr un cl = x := ⟨_, rfl⟩
  rw [hdB]
  have DB := Lib.hid hdB
  clear hdB
  have y0 := CA.out.cell 0 rfl
  have y1 := CA.out.cell 1 rfl
  have y2 := CA.out.cell 2 rfl
  have y3 := CA.out.cell 3 rfl
  have y4 := CA.out.cell 4 rfl
  have y5 := CA.out.cell 5 rfl
  have y6 := CA.out.cell 6 rfl
  have y7 := CA.out.cell 7 rfl
  have y8 := CA.out.cell 8 rfl
  go_wp2_with fail
  refine (toDeed_any kd mb tA tc ts ti vt pA pc es fr un cl _ HT.out HP.out ht hp).mono ?_
  rintro e w4 ⟨tX, xc, pX, yc, rfl, oT, oP, b4⟩
  replace CA := Lib.hid (CA.out.below b4)
  replace HT := Lib.hid (HT.out.below b4)
  replace HP := Lib.hid (HP.out.below b4)
  replace BA := Lib.hid (bel_trans BA.out b4)
  have bx := bel_alloc w4 (.cells #[.int .i64 kd, .int .i64 mb, .slice tX ts.length xc, .string ti, .int .i64 vt, .slice pX es.length yc, .int .i64 fr, .int .i64 un, .int .i64 cl] 30)
  have CX := Lib.hid (Cs.new w4 [.int .i64 kd, .int .i64 mb, .slice tX ts.length xc, .string ti, .int .i64 vt, .slice pX es.length yc, .int .i64 fr, .int .i64 un, .int .i64 cl] 30)
  replace CA := Lib.hid (CA.out.below bx)
  replace HT := Lib.hid (HT.out.below bx)
  replace HP := Lib.hid (HP.out.below bx)
  replace BA := Lib.hid (bel_trans BA.out bx)
  have XT := Lib.hid (oT.below bx)
  have XP := Lib.hid (oP.below bx)
  clear b4 bx oT oP y0 y1 y2 y3 y4 y5 y6 y7 y8
  have x0 := CX.out.cell 0 rfl
  have x1 := CX.out.cell 1 rfl
  have x2 := CX.out.cell 2 rfl
  have x3 := CX.out.cell 3 rfl
  have x4 := CX.out.cell 4 rfl
  have x5 := CX.out.cell 5 rfl
  have x6 := CX.out.cell 6 rfl
  have x7 := CX.out.cell 7 rfl
  have x8 := CX.out.cell 8 rfl
  go_wp2_with fail
  refine (ValidDeed_any kd mb tX ts.length xc ts ti vt pX es.length yc es fr un cl _ XT.out XP.out hs).mono ?_
  rintro e wb ⟨rfl, b5⟩
  rw [DB.out]
  replace CA := Lib.hid (CA.out.below b5)
  replace CX := Lib.hid (CX.out.below b5)
  replace HT := Lib.hid (HT.out.below b5)
  replace HP := Lib.hid (HP.out.below b5)
  replace XT := Lib.hid (XT.out.below b5)
  replace XP := Lib.hid (XP.out.below b5)
  replace BA := Lib.hid (bel_trans BA.out b5)
  have eB : (dB != dB) = false := by cases dB <;> rfl
  obtain ⟨h, hh⟩ : ∃ x, w4.heap.size = x := ⟨_, rfl⟩
  rw [hh] at CX
  rw [hh]
  clear b5 hh x0 x1 x2 x3 x4 x5 x6 x7 x8
  go_wp2_with fail
  refine wp_region_noPanic ?_
  refine wp_region_R (inFirst (fun W => Below wb.heap.size wb W ∧ W.cell? ⟨g, 0, none⟩ = some (.int .i64 kd) ∧ W.cell? ⟨g, 1, none⟩ = some (.int .i64 mb) ∧ W.cell? ⟨g, 2, none⟩ = some (.slice tA ts.length tc) ∧ W.cell? ⟨g, 3, none⟩ = some (.string ti) ∧ W.cell? ⟨g, 4, none⟩ = some (.int .i64 vt) ∧ W.cell? ⟨g, 5, none⟩ = some (.slice pA es.length pc) ∧ W.cell? ⟨g, 6, none⟩ = some (.int .i64 fr) ∧ W.cell? ⟨g, 7, none⟩ = some (.int .i64 un) ∧ W.cell? ⟨g, 8, none⟩ = some (.int .i64 cl) ∧ W.cell? ⟨h, 0, none⟩ = some (.int .i64 kd) ∧ W.cell? ⟨h, 1, none⟩ = some (.int .i64 mb) ∧ W.cell? ⟨h, 2, none⟩ = some (.slice tX ts.length xc) ∧ W.cell? ⟨h, 3, none⟩ = some (.string ti) ∧ W.cell? ⟨h, 4, none⟩ = some (.int .i64 vt) ∧ W.cell? ⟨h, 5, none⟩ = some (.slice pX es.length yc) ∧ W.cell? ⟨h, 6, none⟩ = some (.int .i64 fr) ∧ W.cell? ⟨h, 7, none⟩ = some (.int .i64 un) ∧ W.cell? ⟨h, 8, none⟩ = some (.int .i64 cl)) 5) (by kernel_rfl) ?_
  have SS := Lib.hid (fun (W : World) (hW : Below wb.heap.size wb W) => (show Below wb.heap.size wb W ∧ W.cell? ⟨g, 0, none⟩ = some (.int .i64 kd) ∧ W.cell? ⟨g, 1, none⟩ = some (.int .i64 mb) ∧ W.cell? ⟨g, 2, none⟩ = some (.slice tA ts.length tc) ∧ W.cell? ⟨g, 3, none⟩ = some (.string ti) ∧ W.cell? ⟨g, 4, none⟩ = some (.int .i64 vt) ∧ W.cell? ⟨g, 5, none⟩ = some (.slice pA es.length pc) ∧ W.cell? ⟨g, 6, none⟩ = some (.int .i64 fr) ∧ W.cell? ⟨g, 7, none⟩ = some (.int .i64 un) ∧ W.cell? ⟨g, 8, none⟩ = some (.int .i64 cl) ∧ W.cell? ⟨h, 0, none⟩ = some (.int .i64 kd) ∧ W.cell? ⟨h, 1, none⟩ = some (.int .i64 mb) ∧ W.cell? ⟨h, 2, none⟩ = some (.slice tX ts.length xc) ∧ W.cell? ⟨h, 3, none⟩ = some (.string ti) ∧ W.cell? ⟨h, 4, none⟩ = some (.int .i64 vt) ∧ W.cell? ⟨h, 5, none⟩ = some (.slice pX es.length yc) ∧ W.cell? ⟨h, 6, none⟩ = some (.int .i64 fr) ∧ W.cell? ⟨h, 7, none⟩ = some (.int .i64 un) ∧ W.cell? ⟨h, 8, none⟩ = some (.int .i64 cl) from ⟨hW, (CA.out.below hW).cell 0 rfl, (CA.out.below hW).cell 1 rfl, (CA.out.below hW).cell 2 rfl, (CA.out.below hW).cell 3 rfl, (CA.out.below hW).cell 4 rfl, (CA.out.below hW).cell 5 rfl, (CA.out.below hW).cell 6 rfl, (CA.out.below hW).cell 7 rfl, (CA.out.below hW).cell 8 rfl, (CX.out.below hW).cell 0 rfl, (CX.out.below hW).cell 1 rfl, (CX.out.below hW).cell 2 rfl, (CX.out.below hW).cell 3 rfl, (CX.out.below hW).cell 4 rfl, (CX.out.below hW).cell 5 rfl, (CX.out.below hW).cell 6 rfl, (CX.out.below hW).cell 7 rfl, (CX.out.below hW).cell 8 rfl⟩))
  have hS := SS.out wb.drew ⟨rfl, rfl, rfl, Nat.le_refl _, fun _ _ => rfl⟩
  refine anyR_take (i := 0) (.agg #[.int .i64 kd, .int .i64 mb, .slice tX ts.length xc, .string ti, .int .i64 vt, .slice pX es.length yc, .int .i64 fr, .int .i64 un, .int .i64 cl]) rfl (by kernel_rfl) (by kernel_rfl) (by kernel_rfl) (by kernel_rfl) (fun _ _ _ h => h) (by assumption) ⟨by rfl, ?_⟩ ?_
  · intro W hW
    go_simp
  try simp only [Act.put, List.setIfInBounds_toArray, List.set_cons_zero, List.set_cons_succ, List.getElem_toArray, List.getElem_cons_zero, List.getElem_cons_succ]
  refine anyR_take (i := 1) (.agg #[.int .i64 kd, .int .i64 mb, .slice tA ts.length tc, .string ti, .int .i64 vt, .slice pA es.length pc, .int .i64 fr, .int .i64 un, .int .i64 cl]) rfl (by kernel_rfl) (by kernel_rfl) (by kernel_rfl) (by kernel_rfl) (fun _ _ _ h => h) (by assumption) ⟨by rfl, ?_⟩ ?_
  · intro W hW
    go_simp
  try simp only [Act.put, List.setIfInBounds_toArray, List.set_cons_zero, List.set_cons_succ, List.getElem_toArray, List.getElem_cons_zero, List.getElem_cons_succ]
  refine anyR_one (i := 2) (by kernel_rfl) rfl ?_
  intro K hK
  go_simp
  go_at_call 10
  refine (toDeed_any kd mb tA tc ts ti vt pA pc es fr un cl _ (HT.out.below hS.1) (HP.out.below hS.1) ht hp).mono ?_
  rintro x w9 ⟨tY, yc2, pY, pc2, rfl, oT, oP, u9⟩
  have hT := SS.out _ (bel_trans hS.1 u9)
  have YT := Lib.hid oT
  have YP := Lib.hid oP
  refine hK.out _ _ (fun _ => hT) ?_
  clear hS u9 oT oP
  have hS := hT
  clear hT
  clear hK K
  try simp only [Act.put, List.setIfInBounds_toArray, List.set_cons_zero, List.set_cons_succ, List.getElem_toArray, List.getElem_cons_zero, List.getElem_cons_succ]
  refine anyR_one (i := 3) (by kernel_rfl) rfl ?_
  intro K hK
  go_simp
  go_at_call 12
  refine (eqDeed_same kd mb tX xc ts ti vt pX yc es fr un cl tY yc2 pY pc2 _ (XT.out.below hS.1) (XP.out.below hS.1) YT.out YP.out).mono ?_
  rintro x w9 ⟨rfl, u9⟩
  have hT := SS.out _ (bel_trans hS.1 u9)
  refine hK.out _ _ (fun _ => hT) ?_
  clear hS u9
  have hS := hT
  clear hT
  clear hK K
  try simp only [Act.put, List.setIfInBounds_toArray, List.set_cons_zero, List.set_cons_succ, List.getElem_toArray, List.getElem_cons_zero, List.getElem_cons_succ]
  refine anyR_take (i := 4) (.bool false) rfl (by kernel_rfl) (by kernel_rfl) (by kernel_rfl) (by kernel_rfl) (fun _ _ _ h => h) (by assumption) ⟨by rfl, ?_⟩ ?_
  · intro W hW
    go_simp
  try simp only [Act.put, List.setIfInBounds_toArray, List.set_cons_zero, List.set_cons_succ, List.getElem_toArray, List.getElem_cons_zero, List.getElem_cons_succ]
  refine anyR_done (by kernel_rfl) ?_ _
  refine NoPanic.normal ?_
  have BU := Lib.hid hS.1
  clear hS SS
  go_wp2_with fail
  go_ret
  exact ⟨rfl, bel_trans BA.out BU.out⟩
end Go.Proofs.Ytcoladhppbknnaa
