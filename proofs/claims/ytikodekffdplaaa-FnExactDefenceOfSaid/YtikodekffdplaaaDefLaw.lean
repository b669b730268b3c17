/- The law FnExactDefenceOf, walked. (Printed by frx.py.) -/
import Derived.Test.YtikodekffdplaaaDefn2
import Derived.Test.YtikodekffdplaaaFrLaw
import Derived.Test.YtikodekffdplaaaPhase
namespace Go.Proofs.Ytikodekffdplaaa
set_option linter.unusedVariables false
set_option linter.unusedSimpArgs false
set_option maxRecDepth 100000
open Go.RowKit
set_option maxHeartbeats 8000000 in
theorem fnExactDefenceOf_walk (w : World) (cnt : Int) (bd1 : -9223372036854775808 ≤ cnt) (bd2 : cnt ≤ 9223372036854775807) (A : Option Addr) (n c : Nat) (rows : List (List Int)) (h : Rws w A n c rows) (x0 : Int) (bx0 : -9223372036854775808 ≤ x0) (by0 : x0 ≤ 9223372036854775807) :
    Calls Try.prog 6 #[.agg #[.int .i64 cnt, .slice A n c], .int .i64 x0] w fun e w' => e = .returned (.bool true) ∧ Below w.heap.size w w' := by
  obtain rfl : rows.length = n := h.1
  obtain ⟨zs, tb, zl, IM, SP⟩ := def_both cnt bd1 bd2 x0 rows
  replace IM := Lib.hid IM
  replace SP := Lib.hid SP
  have bb := bel_alloc w (.cells #[.int .i64 cnt, .slice A rows.length c] 24)
  have sA : (w.alloc (.cells #[.int .i64 cnt, .slice A rows.length c] 24)).heap.size = w.heap.size + 1 := by simp
  have CA := Cs.new w [.int .i64 cnt, .slice A rows.length c] 24
  have H := Lib.hid h
  clear h
  have qb : (tb != tb) = false := by simp
  go_enter Try.func6, Try.ntmps6
  have q0a := CA.cell 0 rfl
  have q1a := CA.cell 1 rfl
  go_wp2_with fail
  clear q0a q1a
  refine (szFrame_any cnt _ rows.length _ rows 1048576 _ (H.out.below bb) (by omega) (by omega)).mono ?_
  rintro e w1 ⟨r, rfl, hr, u1⟩
  have z1 := u1.size
  replace bb := bel_trans bb u1
  replace CA := CA.below u1
  have HR := Lib.hid hr
  clear hr
  by_cases hd : r < 0
  · go_wp2_with fail
    go_ret
    exact ⟨rfl, bb⟩
  obtain ⟨⟨hn, htot⟩, hz⟩ := szM_rows HR.out hd
  have R2 := Lib.hid hz
  clear hz
  have q0a := CA.cell 0 rfl
  have q1a := CA.cell 1 rfl
  go_wp2_with fail
  clear q0a q1a
  refine (toFrame_any cnt _ rows.length _ rows _ (H.out.below bb) hn R2.out).mono ?_
  rintro e w2 ⟨A_2, c_2, vs_2, rfl, o2, u2⟩
  have z2 := u2.size
  replace bb := bel_trans bb u2
  replace CA := CA.below u2
  have T := MR.mk' o2
  clear o2
  go_wp2_with fail
  refine (SP.out _ _ _ _ T.own.rws).mono ?_
  rintro e w3 ⟨A_3, c_3, rfl, o3, u3⟩
  have z3 := u3.size
  replace bb := bel_trans bb u3
  replace CA := CA.below u3
  replace T := T.below u3
  have W := IR.mk' o3
  clear o3
  clear T
  have q0a := CA.cell 0 rfl
  have q1a := CA.cell 1 rfl
  go_wp2_with fail
  clear q0a q1a
  refine (toFrame_any cnt _ rows.length _ rows _ (H.out.below bb) hn R2.out).mono ?_
  rintro e w4 ⟨A_4, c_4, vs_4, rfl, o4, u4⟩
  have z4 := u4.size
  replace bb := bel_trans bb u4
  replace CA := CA.below u4
  replace W := W.below u4
  have X := MR.mk' o4
  clear o4
  have a4 := bel_alloc w4 (.cells #[.int .i64 cnt, .slice A_4 rows.length c_4] 28)
  have s4 : (w4.alloc (.cells #[.int .i64 cnt, .slice A_4 rows.length c_4] 28)).heap.size = w4.heap.size + 1 := by simp
  have za4 := a4.size
  replace bb := bel_trans bb a4
  replace CA := CA.below a4
  replace W := W.below a4
  replace X := X.below a4
  have CX := Cs.new w4 [.int .i64 cnt, .slice A_4 rows.length c_4] 28
  clear a4
  have q0a := CX.cell 0 rfl
  have q1a := CX.cell 1 rfl
  go_wp2_with fail
  clear q0a q1a
  refine (IM.out _ _ _ _ X.own.rws).mono ?_
  rintro e w5 ⟨A_5, c_5, rfl, o5, u5⟩
  have z5 := u5.size
  replace bb := bel_trans bb u5
  replace CA := CA.below u5
  replace W := W.below u5
  replace X := X.below u5
  replace CX := CX.below u5
  have G := IR.mk' o5
  clear o5
  go_wp2_with fail
  refine (eqInt64S_any _ _ _ zs _ _ _ zs _ G.own.ints W.own.ints).mono ?_
  rintro e w6 ⟨rfl, u6⟩
  rw [show decide (zs = zs) = true by simp]
  have z6 := u6.size
  replace bb := bel_trans bb u6
  replace CA := CA.below u6
  replace W := W.below u6
  replace X := X.below u6
  replace CX := CX.below u6
  replace G := G.below u6
  have q0a := CX.cell 0 rfl
  have q1a := CX.cell 1 rfl
  have q0b := CA.cell 0 rfl
  have q1b := CA.cell 1 rfl
  go_wp2_with fail
  refine wp_region_noPanic ?_
  refine wp_region_R (inFirst (fun W => Below w6.heap.size w6 W ∧ W.cell? ⟨w4.heap.size, 0, none⟩ = some (.int .i64 cnt) ∧ W.cell? ⟨w4.heap.size, 1, none⟩ = some (.slice A_4 rows.length c_4) ∧ W.cell? ⟨w.heap.size, 0, none⟩ = some (.int .i64 cnt) ∧ W.cell? ⟨w.heap.size, 1, none⟩ = some (.slice A rows.length c)) 5) (by kernel_rfl) ?_
  have SS := Lib.hid (fun (W : World) (hW : Below w6.heap.size w6 W) => (show Below w6.heap.size w6 W ∧ W.cell? ⟨w4.heap.size, 0, none⟩ = some (.int .i64 cnt) ∧ W.cell? ⟨w4.heap.size, 1, none⟩ = some (.slice A_4 rows.length c_4) ∧ W.cell? ⟨w.heap.size, 0, none⟩ = some (.int .i64 cnt) ∧ W.cell? ⟨w.heap.size, 1, none⟩ = some (.slice A rows.length c) from ⟨hW, (CX.below hW).cell 0 rfl, (CX.below hW).cell 1 rfl, (CA.below hW).cell 0 rfl, (CA.below hW).cell 1 rfl⟩))
  have hS0 := SS.out w6.drew ⟨rfl, rfl, rfl, Nat.le_refl _, fun _ _ => rfl⟩
  refine anyR_take (i := 0) (.agg #[.int .i64 cnt, .slice A_4 rows.length c_4]) rfl (by kernel_rfl) (by kernel_rfl) (by kernel_rfl) (by kernel_rfl) (fun _ _ _ h => h) (by assumption) ⟨by rfl, ?_⟩ ?_
  · intro W hW
    go_simp
  try simp only [Act.put, List.setIfInBounds_toArray, List.set_cons_zero, List.set_cons_succ]
  refine anyR_take (i := 1) (.agg #[.int .i64 cnt, .slice A rows.length c]) rfl (by kernel_rfl) (by kernel_rfl) (by kernel_rfl) (by kernel_rfl) (fun _ _ _ h => h) (by assumption) ⟨by rfl, ?_⟩ ?_
  · intro W hW
    go_simp
  try simp only [Act.put, List.setIfInBounds_toArray, List.set_cons_zero, List.set_cons_succ]
  refine anyR_one (i := 2) (by kernel_rfl) rfl ?_
  intro K hK
  go_simp
  go_at_call 9
  refine (toFrame_any cnt _ rows.length _ rows _ (H.out.below (bel_trans bb hS0.1)) hn R2.out).mono ?_
  rintro e w7 ⟨A_7, c_7, vs_7, rfl, o7, u7⟩
  have b7 := bel_trans hS0.1 u7
  have cc7 := SS.out w7 b7
  have O7 := Lib.hid o7
  clear o7
  refine hK.out _ _ (fun _ => cc7) ?_
  clear hK K
  try simp only [Act.put, List.setIfInBounds_toArray, List.set_cons_zero, List.set_cons_succ]
  refine anyR_one (i := 3) (by kernel_rfl) rfl ?_
  intro K hK
  go_simp
  go_at_call 12
  refine (eqFrame_same cnt _ rows.length _ rows _ _ _ (X.own.rws.below b7) O7.out.rws).mono ?_
  rintro e w8 ⟨rfl, u8⟩
  have b8 := bel_trans b7 u8
  have cc8 := SS.out w8 b8
  refine hK.out _ _ (fun _ => cc8) ?_
  clear hK K
  try simp only [Act.put, List.setIfInBounds_toArray, List.set_cons_zero, List.set_cons_succ]
  refine anyR_one (i := 4) (by kernel_rfl) rfl ?_
  intro K hK
  go_simp
  refine hK.out _ _ (fun _ => cc8) ?_
  clear hK K
  try simp only [Act.put, List.setIfInBounds_toArray, List.set_cons_zero, List.set_cons_succ]
  refine anyR_done (by kernel_rfl) ?_ _
  refine NoPanic.normal ?_
  clear hS0 cc7 cc8 u7 u8 b7 SS O7 q0a q1a q0b q1b
  have z8 := b8.size
  replace bb := bel_trans bb b8
  replace CA := CA.below b8
  replace W := W.below b8
  replace X := X.below b8
  replace CX := CX.below b8
  replace G := G.below b8
  clear b8
  have q0a := CX.cell 0 rfl
  have q1a := CX.cell 1 rfl
  go_wp2_with fail
  clear q0a q1a
  refine (markFrame_any _ _ cnt _ _ _ _ rows _ _ X (by omega) (by omega) (by omega) (by omega) (by omega)).mono ?_
  rintro e w9 ⟨rfl, on9⟩
  have z9 := on9.size
  replace bb := bel_only bb on9 (by omega)
  replace CA := CA.onlyF on9 (by omega)
  replace W := W.only on9 (by unfold Off; omega)
  replace CX := CX.onlyF on9 (by omega)
  replace G := G.only on9 (by unfold Off; omega)
  clear on9
  clear X CX
  go_wp2_with fail
  refine (eqInt64S_any _ _ _ zs _ _ _ zs _ G.own.ints W.own.ints).mono ?_
  rintro e w10 ⟨rfl, u10⟩
  rw [show decide (zs = zs) = true by simp]
  have z10 := u10.size
  replace bb := bel_trans bb u10
  replace CA := CA.below u10
  replace W := W.below u10
  replace G := G.below u10
  go_wp2_with fail
  refine (markInt64S_any _ _ _ _ zs _ _ G.own (by omega) (by omega) (by omega)).mono ?_
  rintro e w11 ⟨rfl, o11, g11⟩
  have on11 := G.own_only g11
  have z11 := on11.size
  replace bb := bel_only bb on11 (by omega)
  replace CA := CA.onlyF on11 (by omega)
  replace W := W.only on11 (by unfold Off; omega)
  replace G : IR _ _ _ _ _ _ _ := ⟨o11, G.top⟩
  clear o11 g11 on11
  go_wp2_with fail
  refine (heldInt64S_any _ _ _ _ _ G.own.ints (by omega) (by omega) (by omega)).mono ?_
  rintro e w12 ⟨rfl, u12⟩
  have z12 := u12.size
  replace bb := bel_trans bb u12
  replace CA := CA.below u12
  replace W := W.below u12
  replace G := G.below u12
  have q0a := CA.cell 0 rfl
  have q1a := CA.cell 1 rfl
  go_wp2_with fail
  clear q0a q1a
  refine (toFrame_any cnt _ rows.length _ rows _ (H.out.below bb) hn R2.out).mono ?_
  rintro e w13 ⟨A_13, c_13, vs_13, rfl, o13, u13⟩
  have z13 := u13.size
  replace bb := bel_trans bb u13
  replace CA := CA.below u13
  replace W := W.below u13
  replace G := G.below u13
  have T := MR.mk' o13
  clear o13
  go_wp2_with fail
  refine (IM.out _ _ _ _ T.own.rws).mono ?_
  rintro e w14 ⟨A_14, c_14, rfl, o14, u14⟩
  have z14 := u14.size
  replace bb := bel_trans bb u14
  replace CA := CA.below u14
  replace W := W.below u14
  replace G := G.below u14
  replace T := T.below u14
  have H_ := IR.mk' o14
  clear o14
  clear T
  go_wp2_with fail
  refine (eqInt64S_any _ _ _ zs _ _ _ zs _ H_.own.ints W.own.ints).mono ?_
  rintro e w15 ⟨rfl, u15⟩
  rw [show decide (zs = zs) = true by simp]
  have z15 := u15.size
  replace bb := bel_trans bb u15
  replace CA := CA.below u15
  replace W := W.below u15
  replace G := G.below u15
  replace H_ := H_.below u15
  clear H_
  go_wp2_with fail
  refine (heldInt64S_any _ _ _ _ _ G.own.ints (by omega) (by omega) (by omega)).mono ?_
  rintro e w16 ⟨rfl, u16⟩
  have z16 := u16.size
  replace bb := bel_trans bb u16
  replace CA := CA.below u16
  replace W := W.below u16
  replace G := G.below u16
  go_wp2_with fail
  go_ret
  exact ⟨rfl, bb⟩
end Go.Proofs.Ytikodekffdplaaa
