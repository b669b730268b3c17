/- The law FnExactStandingOf, walked. -/
import Derived.Test.YteejfjgofpolkaaStand
import Derived.Test.YteejfjgofpolkaaFrLaw
import Derived.Test.YteejfjgofpolkaaPhase
namespace Go.Proofs.Yteejfjgofpolkaa
set_option linter.unusedVariables false
set_option linter.unusedSimpArgs false
set_option maxRecDepth 100000
open Go.RowKit
set_option maxHeartbeats 2000000 in
theorem fnExactStandingOf_walk (w : World) (cnt : Int) (bd1 : -9223372036854775808 ≤ cnt) (bd2 : cnt ≤ 9223372036854775807) (A : Option Addr) (n c : Nat) (rows : List (List Int)) (h : Rws w A n c rows) (x : Int) (bx1 : -9223372036854775808 ≤ x) (bx2 : x ≤ 9223372036854775807) :
    Calls Try.prog 7 #[.agg #[.int .i64 cnt, .slice A n c], .int .i64 x] w fun e w' => e = .returned (.bool true) ∧ Below w.heap.size w w' := by
  obtain rfl : rows.length = n := h.1
  obtain ⟨tx, tb, IM, SP⟩ := stand_both cnt bd1 bd2 x rows
  replace IM := Lib.hid IM
  replace SP := Lib.hid SP
  have b0 := bel_alloc w (.cells #[.int .i64 cnt, .slice A rows.length c] 32)
  have CA := Lib.hid (Cs.new w [.int .i64 cnt, .slice A rows.length c] 32)
  have q0 := CA.out.cell 0 rfl
  have q1 := CA.out.cell 1 rfl
  have BB := Lib.hid b0
  have H := Lib.hid h
  clear b0
  go_enter Try.func7, Try.ntmps7
  go_wp2_with fail
  refine (szFrame_any cnt A rows.length c rows 1048576 _ (H.out.below BB.out) (by omega) (by omega)).mono ?_
  rintro e w1 ⟨r, rfl, hr, u1⟩
  replace BB := Lib.hid (bel_trans BB.out u1)
  replace CA := Lib.hid (CA.out.below u1)
  have HR := Lib.hid hr
  clear u1 q0 q1 hr
  by_cases hd : r < 0
  · go_wp2_with fail
    go_ret
    exact ⟨rfl, BB.out⟩
  obtain ⟨hn, hz⟩ := szM_rows HR.out hd
  have R2 := Lib.hid hz
  clear hz
  have q0 := CA.out.cell 0 rfl
  have q1 := CA.out.cell 1 rfl
  go_wp2_with fail
  refine (toFrame_any cnt A rows.length c rows _ (H.out.below BB.out) hn R2.out).mono ?_
  rintro e w2 ⟨A2, c2, vs2, rfl, o2, u2⟩
  replace BB := Lib.hid (bel_trans BB.out u2)
  replace CA := Lib.hid (CA.out.below u2)
  have O2 := Lib.hid o2
  clear u2 q0 q1 o2
  go_wp2_with fail
  refine (SP.out A2 rows.length c2 _ O2.out.rws).mono ?_
  rintro e w3 ⟨rfl, u3⟩
  replace BB := Lib.hid (bel_trans BB.out u3)
  replace CA := Lib.hid (CA.out.below u3)
  clear u3 O2
  have q0 := CA.out.cell 0 rfl
  have q1 := CA.out.cell 1 rfl
  go_wp2_with fail
  refine (toFrame_any cnt A rows.length c rows _ (H.out.below BB.out) hn R2.out).mono ?_
  rintro e w4 ⟨A4, c4, vs4, rfl, o4, u4⟩
  have a4 := bel_alloc w4 (.cells #[.int .i64 cnt, .slice A4 rows.length c4] 26)
  replace BB := Lib.hid (bel_trans (bel_trans BB.out u4) a4)
  replace CA := Lib.hid ((CA.out.below u4).below a4)
  have CX := Lib.hid (Cs.new w4 [.int .i64 cnt, .slice A4 rows.length c4] 26)
  have X := Lib.hid (o4.rws.below a4)
  clear u4 q0 q1 o4 a4
  have x0 := CX.out.cell 0 rfl
  have x1 := CX.out.cell 1 rfl
  go_wp2_with fail
  refine (IM.out A4 rows.length c4 _ X.out).mono ?_
  rintro e w5 ⟨rfl, u5⟩
  replace BB := Lib.hid (bel_trans BB.out u5)
  replace CA := Lib.hid (CA.out.below u5)
  replace CX := Lib.hid (CX.out.below u5)
  replace X := Lib.hid (X.out.below u5)
  clear u5 x0 x1
  have q0 := CA.out.cell 0 rfl
  have q1 := CA.out.cell 1 rfl
  have x0 := CX.out.cell 0 rfl
  have x1 := CX.out.cell 1 rfl
  go_wp2_with fail
  refine wp_region_noPanic ?_
  refine wp_region_R (inFirst (fun W => Below w5.heap.size w5 W ∧ W.cell? ⟨w4.heap.size, 0, none⟩ = some (.int .i64 cnt) ∧ W.cell? ⟨w4.heap.size, 1, none⟩ = some (.slice A4 rows.length c4) ∧ W.cell? ⟨w.heap.size, 0, none⟩ = some (.int .i64 cnt) ∧ W.cell? ⟨w.heap.size, 1, none⟩ = some (.slice A rows.length c)) 5) (by kernel_rfl) ?_
  have SS := Lib.hid (fun (W : World) (hW : Below w5.heap.size w5 W) => (show Below w5.heap.size w5 W ∧ W.cell? ⟨w4.heap.size, 0, none⟩ = some (.int .i64 cnt) ∧ W.cell? ⟨w4.heap.size, 1, none⟩ = some (.slice A4 rows.length c4) ∧ W.cell? ⟨w.heap.size, 0, none⟩ = some (.int .i64 cnt) ∧ W.cell? ⟨w.heap.size, 1, none⟩ = some (.slice A rows.length c) from
    ⟨hW, (CX.out.below hW).cell 0 rfl, (CX.out.below hW).cell 1 rfl, (CA.out.below hW).cell 0 rfl, (CA.out.below hW).cell 1 rfl⟩))
  have hS0 := SS.out w5.drew ⟨rfl, rfl, rfl, Nat.le_refl _, fun _ _ => rfl⟩
  refine anyR_take (i := 0) (.agg #[.int .i64 cnt, .slice A4 rows.length c4]) rfl (by kernel_rfl) (by kernel_rfl) (by kernel_rfl) (by kernel_rfl) (fun _ _ _ h => h) (by assumption) ⟨by rfl, ?_⟩ ?_
  · intro W hW
    go_simp
  try simp only [Act.put, List.setIfInBounds_toArray, List.set_cons_zero, List.set_cons_succ]
  refine anyR_take (i := 1) (.agg #[.int .i64 cnt, .slice A rows.length c]) rfl (by kernel_rfl) (by kernel_rfl) (by kernel_rfl) (by kernel_rfl) (fun _ _ _ h => h) (by assumption) ⟨by rfl, ?_⟩ ?_
  · intro W hW
    go_simp
  try simp only [Act.put, List.setIfInBounds_toArray, List.set_cons_zero, List.set_cons_succ]
  refine anyR_one (i := 2) (by kernel_rfl) rfl ?_
  intro K hK
  go_simp
  go_at_call 19
  refine (toFrame_any cnt A rows.length c rows _ (H.out.below (bel_trans BB.out hS0.1)) hn R2.out).mono ?_
  rintro e w6 ⟨A6, c6, vs6, rfl, o6, u6⟩
  have b6 := bel_trans hS0.1 u6
  have c6' := SS.out w6 b6
  have O6 := Lib.hid o6
  clear o6
  refine hK.out _ _ (fun _ => c6') ?_
  clear hK K
  try simp only [Act.put, List.setIfInBounds_toArray, List.set_cons_zero, List.set_cons_succ]
  refine anyR_one (i := 3) (by kernel_rfl) rfl ?_
  intro K hK
  go_simp
  go_at_call 24
  refine (eqFrame_same cnt A4 rows.length c4 rows A6 c6 _ (X.out.below b6) O6.out.rws).mono ?_
  rintro e w7 ⟨rfl, u7⟩
  have b7 := bel_trans b6 u7
  have c7' := SS.out w7 b7
  refine hK.out _ _ (fun _ => c7') ?_
  clear hK K
  try simp only [Act.put, List.setIfInBounds_toArray, List.set_cons_zero, List.set_cons_succ]
  refine anyR_one (i := 4) (by kernel_rfl) rfl ?_
  intro K hK
  go_simp
  refine hK.out _ _ (fun _ => c7') ?_
  clear hK K
  try simp only [Act.put, List.setIfInBounds_toArray, List.set_cons_zero, List.set_cons_succ]
  refine anyR_done (by kernel_rfl) ?_ _
  refine NoPanic.normal ?_
  have B7 := Lib.hid (bel_trans BB.out b7)
  clear hS0 c6' c7' b6 b7 u6 u7
  go_wp2_with fail
  go_ret
  exact ⟨rfl, B7.out⟩
end Go.Proofs.Yteejfjgofpolkaa
