/- The law FnExactDiscuss, walked. (Printed by frd.py.) -/
import Derived.Test.YteejfjgofpolkaaDiscB
import Derived.Test.YteejfjgofpolkaaStSz
namespace Go.Proofs.Yteejfjgofpolkaa
set_option linter.unusedVariables false
set_option linter.unusedSimpArgs false
set_option maxRecDepth 100000
open Go.RowKit
set_option maxHeartbeats 16000000 in
theorem fnExactDiscuss_walk (w : World) (cnt : Int) (bd1 : -9223372036854775808 ≤ cnt) (bd2 : cnt ≤ 9223372036854775807) (A : Option Addr) (n c : Nat) (rows : List (List Int)) (h : Rws w A n c rows) (x0 : Int) (bx0 : -9223372036854775808 ≤ x0) (by0 : x0 ≤ 9223372036854775807) (RA : Option Addr) (nr rc : Nat) (R : List Int) (YA : Option Addr) (ny yc : Nat) (Y : List Int) (hR : Ints .i64 w RA nr rc R) (hY : Ints .i64 w YA ny yc Y) (MA : Option Addr) (mn mc : Nat) (M : List Int) (hM : Ints .i64 w MA mn mc M) :
    Calls Try.prog 4 #[.agg #[.int .i64 cnt, .slice A n c], .int .i64 x0, .agg #[.slice RA nr rc, .slice YA ny yc], .slice MA mn mc] w fun e w' => e = .returned (.bool true) ∧ Below w.heap.size w w' := by
  obtain rfl : rows.length = n := h.1
  obtain rfl : R.length = nr := hR.1
  obtain rfl : Y.length = ny := hY.1
  obtain rfl : M.length = mn := hM.1
  obtain ⟨zs, tb, zl, IM, SP⟩ := disc_both cnt bd1 bd2 x0 rows R Y M
  replace IM := Lib.hid IM
  replace SP := Lib.hid SP
  have ba := bel_alloc w (.cells #[.int .i64 cnt, .slice A rows.length c] 32)
  have CA0 := Cs.new w [.int .i64 cnt, .slice A rows.length c] 32
  have bs := bel_alloc (w.alloc (.cells #[.int .i64 cnt, .slice A rows.length c] 32)) (.cells #[.slice RA R.length rc, .slice YA Y.length yc] 34)
  have CS := Cs.new (w.alloc (.cells #[.int .i64 cnt, .slice A rows.length c] 32)) [.slice RA R.length rc, .slice YA Y.length yc] 34
  have sA : (w.alloc (.cells #[.int .i64 cnt, .slice A rows.length c] 32)).heap.size = w.heap.size + 1 := by simp
  rw [sA] at CS
  have sB : ((w.alloc (.cells #[.int .i64 cnt, .slice A rows.length c] 32)).alloc (.cells #[.slice RA R.length rc, .slice YA Y.length yc] 34)).heap.size = w.heap.size + 2 := by simp
  have CA := CA0.below bs
  have bb := bel_trans ba bs
  clear CA0 ba bs
  have H := Lib.hid h
  have HR := Lib.hid hR
  have HY := Lib.hid hY
  have HM := Lib.hid hM
  have rsh := hR.short
  have ysh := hY.short
  have msh := hM.short
  clear h hR hY hM
  have qb : (tb != tb) = false := by simp
  by_cases hmm : 1048576 < M.length
  · have dm := decide_eq_true (show (1048576 : Int) < (M.length : Int) by omega)
    go_enter Try.func4, Try.ntmps4
    go_wp2_with fail
    go_ret
    exact ⟨rfl, bb⟩
  have dm := decide_eq_false (show ¬ (1048576 : Int) < (M.length : Int) by omega)
  have hmn : M.length ≤ 1048576 := by omega
  go_enter Try.func4, Try.ntmps4
  have q0a := CA.cell 0 rfl
  have q1a := CA.cell 1 rfl
  go_wp2_with fail
  clear q0a q1a
  refine (szFrame_any cnt _ rows.length _ rows 1048576 _ (H.out.below bb) (by omega) (by omega)).mono ?_
  rintro e w1 ⟨r, rfl, hr, u1⟩
  have z1 := u1.size
  replace bb := bel_trans bb u1
  replace CA := CA.below u1
  replace CS := CS.below u1
  have HRr := Lib.hid hr
  clear hr
  by_cases hd : r < 0
  · go_wp2_with fail
    go_ret
    exact ⟨rfl, bb⟩
  obtain ⟨⟨hn, htot⟩, hz⟩ := szM_rows HRr.out hd
  have R2 := Lib.hid hz
  clear hz
  have hr1 : r ≤ 1048576 := by rcases HRr.out with e | e; omega; exact e.2.1
  have q0a := CS.cell 0 rfl
  have q1a := CS.cell 1 rfl
  go_wp2_with fail
  clear q0a q1a
  refine (szStrategy_any RA R.length rc YA Y.length yc r _ rsh ysh (by omega) hr1).mono ?_
  rintro e w2 ⟨r2, rfl, hr2, u2⟩
  have z2 := u2.size
  replace bb := bel_trans bb u2
  replace CA := CA.below u2
  replace CS := CS.below u2
  have HR3 := Lib.hid hr2
  clear hr2
  by_cases hd2 : r2 < 0
  · go_wp2_with fail
    go_ret
    exact ⟨rfl, bb⟩
  have hrn : R.length ≤ 1048576 := by rcases HR3.out with e | e; omega; omega
  have hyn : Y.length ≤ 1048576 := by rcases HR3.out with e | e; omega; omega
  go_wp2_with fail
  obtain ⟨wz3, hw0⟩ : ∃ x, x = w2 := ⟨_, rfl⟩
  subst hw0
  have SS := Lib.hid (fun (W : World) (hW : Below wz3.heap.size wz3 W) => (show Below wz3.heap.size wz3 W ∧ W.cell? ⟨w.heap.size, 0, none⟩ = some (.int .i64 cnt) ∧ W.cell? ⟨w.heap.size, 1, none⟩ = some (.slice A rows.length c) ∧ W.cell? ⟨w.heap.size + 1, 0, none⟩ = some (.slice RA R.length rc) ∧ W.cell? ⟨w.heap.size + 1, 1, none⟩ = some (.slice YA Y.length yc) from ⟨hW, (CA.below hW).cell 0 rfl, (CA.below hW).cell 1 rfl, (CS.below hW).cell 0 rfl, (CS.below hW).cell 1 rfl⟩))
  refine wp_region_noPanic ?_
  refine wp_region_R (inFirst (fun W => Below wz3.heap.size wz3 W ∧ W.cell? ⟨w.heap.size, 0, none⟩ = some (.int .i64 cnt) ∧ W.cell? ⟨w.heap.size, 1, none⟩ = some (.slice A rows.length c) ∧ W.cell? ⟨w.heap.size + 1, 0, none⟩ = some (.slice RA R.length rc) ∧ W.cell? ⟨w.heap.size + 1, 1, none⟩ = some (.slice YA Y.length yc)) 13) (by kernel_rfl) ?_
  have hS := SS.out wz3.drew ⟨rfl, rfl, rfl, Nat.le_refl _, fun _ _ => rfl⟩
  refine anyR_take (i := 0) (.agg #[.int .i64 cnt, .slice A rows.length c]) rfl (by kernel_rfl) (by kernel_rfl) (by kernel_rfl) (by kernel_rfl) (fun _ _ _ h => h) (by assumption) ⟨by rfl, ?_⟩ ?_
  · intro W hW
    go_simp
  try simp only [Act.put, List.setIfInBounds_toArray, List.set_cons_zero, List.set_cons_succ, List.getElem_toArray, List.getElem_cons_zero, List.getElem_cons_succ]
  refine anyR_take (i := 2) (.int .i64 x0) rfl (by kernel_rfl) (by kernel_rfl) (by kernel_rfl) (by kernel_rfl) (fun _ _ _ h => h) (by assumption) ⟨by rfl, ?_⟩ ?_
  · intro W hW
    go_simp
  try simp only [Act.put, List.setIfInBounds_toArray, List.set_cons_zero, List.set_cons_succ, List.getElem_toArray, List.getElem_cons_zero, List.getElem_cons_succ]
  refine anyR_take (i := 3) (.agg #[.slice RA R.length rc, .slice YA Y.length yc]) rfl (by kernel_rfl) (by kernel_rfl) (by kernel_rfl) (by kernel_rfl) (fun _ _ _ h => h) (by assumption) ⟨by rfl, ?_⟩ ?_
  · intro W hW
    go_simp
  try simp only [Act.put, List.setIfInBounds_toArray, List.set_cons_zero, List.set_cons_succ, List.getElem_toArray, List.getElem_cons_zero, List.getElem_cons_succ]
  refine anyR_take (i := 5) (.slice MA M.length mc) rfl (by kernel_rfl) (by kernel_rfl) (by kernel_rfl) (by kernel_rfl) (fun _ _ _ h => h) (by assumption) ⟨by rfl, ?_⟩ ?_
  · intro W hW
    go_simp
  try simp only [Act.put, List.setIfInBounds_toArray, List.set_cons_zero, List.set_cons_succ, List.getElem_toArray, List.getElem_cons_zero, List.getElem_cons_succ]
  refine anyR_one (i := 1) (by kernel_rfl) rfl ?_
  intro K hK
  go_simp
  go_at_call 19
  refine (toFrame_any cnt A rows.length c rows _ (H.out.below (bel_trans bb hS.1)) hn R2.out).mono ?_
  rintro e v31 ⟨A_t3, c_t3, vs_t3, rfl, ot, uu⟩
  have OT := Lib.hid ot
  clear ot
  have hT := SS.out _ (bel_trans hS.1 uu)
  refine hK.out _ _ (fun _ => hT) ?_
  clear hS uu
  have hS := hT
  clear hT
  clear hK K
  try simp only [Act.put, List.setIfInBounds_toArray, List.set_cons_zero, List.set_cons_succ, List.getElem_toArray, List.getElem_cons_zero, List.getElem_cons_succ]
  refine anyR_one (i := 4) (by kernel_rfl) rfl ?_
  intro K hK
  go_simp
  go_at_call 20
  refine (toStrategy_any RA R.length rc R YA Y.length yc Y _ (HR.out.below (bel_trans bb hS.1)) (HY.out.below (bel_trans bb hS.1)) hrn hyn).mono ?_
  rintro e v34 ⟨A_s3, c_s3, B_s3, d_s3, rfl, o1, o2, _, uu⟩
  have P1 := Lib.hid o1
  have P2 := Lib.hid o2
  clear o1 o2
  replace OT := Lib.hid (OT.out.below uu)
  have hT := SS.out _ (bel_trans hS.1 uu)
  refine hK.out _ _ (fun _ => hT) ?_
  clear hS uu
  have hS := hT
  clear hT
  clear hK K
  try simp only [Act.put, List.setIfInBounds_toArray, List.set_cons_zero, List.set_cons_succ, List.getElem_toArray, List.getElem_cons_zero, List.getElem_cons_succ]
  refine anyR_one (i := 6) (by kernel_rfl) rfl ?_
  intro K hK
  go_simp
  go_at_call 21
  refine (toInt64S_any MA M.length mc M _ (HM.out.below (bel_trans bb hS.1)) hmn).mono ?_
  rintro e v36 ⟨A_m3, c_m3, rfl, o1, uu⟩
  have Q1 := Lib.hid o1
  clear o1
  replace OT := Lib.hid (OT.out.below uu)
  replace P1 := Lib.hid (P1.out.below uu)
  replace P2 := Lib.hid (P2.out.below uu)
  have hT := SS.out _ (bel_trans hS.1 uu)
  refine hK.out _ _ (fun _ => hT) ?_
  clear hS uu
  have hS := hT
  clear hT
  clear hK K
  try simp only [Act.put, List.setIfInBounds_toArray, List.set_cons_zero, List.set_cons_succ, List.getElem_toArray, List.getElem_cons_zero, List.getElem_cons_succ]
  refine anyR_one (i := 7) (by kernel_rfl) rfl ?_
  intro K hK
  go_simp
  go_at_call 18
  refine (SP.out _ _ _ _ _ _ _ _ _ _ OT.out.rws P1.out.ints P2.out.ints Q1.out.ints).mono ?_
  rintro e v37 ⟨A_w3, c_w3, rfl, ow, uu⟩
  have WO := Lib.hid ow
  clear ow
  have hT := SS.out _ (bel_trans hS.1 uu)
  refine hK.out _ _ (fun _ => hT) ?_
  clear hS uu
  have hS := hT
  clear hT
  clear hK K
  try simp only [Act.put, List.setIfInBounds_toArray, List.set_cons_zero, List.set_cons_succ, List.getElem_toArray, List.getElem_cons_zero, List.getElem_cons_succ]
  refine anyR_take (i := 8) (.tuple #[.slice A_w3 zs.length c_w3, .bool tb]) rfl (by kernel_rfl) (by kernel_rfl) (by kernel_rfl) (by kernel_rfl) (fun _ _ _ h => h) (by assumption) ⟨by rfl, ?_⟩ ?_
  · intro W hW
    go_simp
  try simp only [Act.put, List.setIfInBounds_toArray, List.set_cons_zero, List.set_cons_succ, List.getElem_toArray, List.getElem_cons_zero, List.getElem_cons_succ]
  refine anyR_take (i := 9) (.slice A_w3 zs.length c_w3) rfl (by kernel_rfl) (by kernel_rfl) (by kernel_rfl) (by kernel_rfl) (fun _ _ _ h => h) (by assumption) ⟨by rfl, ?_⟩ ?_
  · intro W hW
    go_simp
  try simp only [Act.put, List.setIfInBounds_toArray, List.set_cons_zero, List.set_cons_succ, List.getElem_toArray, List.getElem_cons_zero, List.getElem_cons_succ]
  refine anyR_take (i := 10) (.bool tb) rfl (by kernel_rfl) (by kernel_rfl) (by kernel_rfl) (by kernel_rfl) (fun _ _ _ h => h) (by assumption) ⟨by rfl, ?_⟩ ?_
  · intro W hW
    go_simp
  try simp only [Act.put, List.setIfInBounds_toArray, List.set_cons_zero, List.set_cons_succ, List.getElem_toArray, List.getElem_cons_zero, List.getElem_cons_succ]
  refine anyR_take (i := 11) (.slice A_w3 zs.length c_w3) rfl (by kernel_rfl) (by kernel_rfl) (by kernel_rfl) (by kernel_rfl) (fun _ _ _ h => h) (by assumption) ⟨by rfl, ?_⟩ ?_
  · intro W hW
    go_simp
  try simp only [Act.put, List.setIfInBounds_toArray, List.set_cons_zero, List.set_cons_succ, List.getElem_toArray, List.getElem_cons_zero, List.getElem_cons_succ]
  refine anyR_take (i := 12) (.bool tb) rfl (by kernel_rfl) (by kernel_rfl) (by kernel_rfl) (by kernel_rfl) (fun _ _ _ h => h) (by assumption) ⟨by rfl, ?_⟩ ?_
  · intro W hW
    go_simp
  try simp only [Act.put, List.setIfInBounds_toArray, List.set_cons_zero, List.set_cons_succ, List.getElem_toArray, List.getElem_cons_zero, List.getElem_cons_succ]
  refine anyR_done (by kernel_rfl) ?_ _
  refine NoPanic.normal ?_
  have uR3 := hS.1
  clear hS SS OT P1 P2 Q1
  have zR3 := uR3.size
  replace bb := bel_trans bb uR3
  replace CA := CA.below uR3
  replace CS := CS.below uR3
  have W := IR.mk' WO.out
  clear WO
  have q0a := CA.cell 0 rfl
  have q1a := CA.cell 1 rfl
  go_wp2_with fail
  clear q0a q1a
  refine (toFrame_any cnt _ rows.length _ rows _ (H.out.below bb) hn R2.out).mono ?_
  rintro e w4 ⟨A_x, c_x, vs_x, rfl, ox, u4⟩
  have z4 := u4.size
  replace bb := bel_trans bb u4
  replace CA := CA.below u4
  replace CS := CS.below u4
  replace W := W.below u4
  have X := MR.mk' ox
  clear ox
  have aX := bel_alloc w4 (.cells #[.int .i64 cnt, .slice A_x rows.length c_x] 26)
  have sX : (w4.alloc (.cells #[.int .i64 cnt, .slice A_x rows.length c_x] 26)).heap.size = w4.heap.size + 1 := by simp
  have zaX := aX.size
  replace bb := bel_trans bb aX
  replace CA := CA.below aX
  replace CS := CS.below aX
  replace W := W.below aX
  replace X := X.below aX
  have CX := Cs.new w4 [.int .i64 cnt, .slice A_x rows.length c_x] 26
  clear aX
  have q0a := CS.cell 0 rfl
  have q1a := CS.cell 1 rfl
  go_wp2_with fail
  clear q0a q1a
  refine (toStrategy_any RA R.length rc R YA Y.length yc Y _ (HR.out.below bb) (HY.out.below bb) hrn hyn).mono ?_
  rintro e w5 ⟨A_y, c_y, B_y, d_y, rfl, oy, oz, ap, u5⟩
  have z5 := u5.size
  replace bb := bel_trans bb u5
  replace CA := CA.below u5
  replace CS := CS.below u5
  replace W := W.below u5
  replace X := X.below u5
  replace CX := CX.below u5
  have T1 := IR.mk' oy
  have T2 := IR.mk' oz
  have AP := Lib.hid ap
  clear oy oz ap
  have aT := bel_alloc w5 (.cells #[.slice A_y R.length c_y, .slice B_y Y.length d_y] 39)
  have sT : (w5.alloc (.cells #[.slice A_y R.length c_y, .slice B_y Y.length d_y] 39)).heap.size = w5.heap.size + 1 := by simp
  have zaT := aT.size
  replace bb := bel_trans bb aT
  replace CA := CA.below aT
  replace CS := CS.below aT
  replace W := W.below aT
  replace X := X.below aT
  replace CX := CX.below aT
  replace T1 := T1.below aT
  replace T2 := T2.below aT
  have CT := Cs.new w5 [.slice A_y R.length c_y, .slice B_y Y.length d_y] 39
  clear aT
  go_wp2_with fail
  refine (toInt64S_any MA M.length mc M _ (HM.out.below bb) hmn).mono ?_
  rintro e w6 ⟨A_v, c_v, rfl, ov, u6⟩
  have z6 := u6.size
  replace bb := bel_trans bb u6
  replace CA := CA.below u6
  replace CS := CS.below u6
  replace W := W.below u6
  replace X := X.below u6
  replace CX := CX.below u6
  replace T1 := T1.below u6
  replace T2 := T2.below u6
  replace CT := CT.below u6
  have V := IR.mk' ov
  clear ov
  have q0a := CX.cell 0 rfl
  have q1a := CX.cell 1 rfl
  have q0b := CT.cell 0 rfl
  have q1b := CT.cell 1 rfl
  go_wp2_with fail
  clear q0a q1a q0b q1b
  refine (IM.out _ _ _ _ _ _ _ _ _ _ X.own.rws T1.own.ints T2.own.ints V.own.ints).mono ?_
  rintro e w7 ⟨A_g, c_g, rfl, og, u7⟩
  have z7 := u7.size
  replace bb := bel_trans bb u7
  replace CA := CA.below u7
  replace CS := CS.below u7
  replace W := W.below u7
  replace X := X.below u7
  replace CX := CX.below u7
  replace T1 := T1.below u7
  replace T2 := T2.below u7
  replace CT := CT.below u7
  replace V := V.below u7
  have G := IR.mk' og
  clear og
  go_wp2_with fail
  refine (eqInt64S_any _ _ _ zs _ _ _ zs _ G.own.ints W.own.ints).mono ?_
  rintro e w8 ⟨rfl, u8⟩
  rw [show decide (zs = zs) = true by simp]
  have z8 := u8.size
  replace bb := bel_trans bb u8
  replace CA := CA.below u8
  replace CS := CS.below u8
  replace W := W.below u8
  replace X := X.below u8
  replace CX := CX.below u8
  replace T1 := T1.below u8
  replace T2 := T2.below u8
  replace CT := CT.below u8
  replace V := V.below u8
  replace G := G.below u8
  go_wp2_with fail
  obtain ⟨wz9, hw0⟩ : ∃ x, x = w8 := ⟨_, rfl⟩
  subst hw0
  have SS := Lib.hid (fun (W : World) (hW : Below wz9.heap.size wz9 W) => (show Below wz9.heap.size wz9 W ∧ W.cell? ⟨w4.heap.size, 0, none⟩ = some (.int .i64 cnt) ∧ W.cell? ⟨w4.heap.size, 1, none⟩ = some (.slice A_x rows.length c_x) ∧ W.cell? ⟨w.heap.size, 0, none⟩ = some (.int .i64 cnt) ∧ W.cell? ⟨w.heap.size, 1, none⟩ = some (.slice A rows.length c) from ⟨hW, (CX.below hW).cell 0 rfl, (CX.below hW).cell 1 rfl, (CA.below hW).cell 0 rfl, (CA.below hW).cell 1 rfl⟩))
  refine wp_region_noPanic ?_
  refine wp_region_R (inFirst (fun W => Below wz9.heap.size wz9 W ∧ W.cell? ⟨w4.heap.size, 0, none⟩ = some (.int .i64 cnt) ∧ W.cell? ⟨w4.heap.size, 1, none⟩ = some (.slice A_x rows.length c_x) ∧ W.cell? ⟨w.heap.size, 0, none⟩ = some (.int .i64 cnt) ∧ W.cell? ⟨w.heap.size, 1, none⟩ = some (.slice A rows.length c)) 5) (by kernel_rfl) ?_
  have hS := SS.out wz9.drew ⟨rfl, rfl, rfl, Nat.le_refl _, fun _ _ => rfl⟩
  refine anyR_take (i := 0) (.agg #[.int .i64 cnt, .slice A_x rows.length c_x]) rfl (by kernel_rfl) (by kernel_rfl) (by kernel_rfl) (by kernel_rfl) (fun _ _ _ h => h) (by assumption) ⟨by rfl, ?_⟩ ?_
  · intro W hW
    go_simp
  try simp only [Act.put, List.setIfInBounds_toArray, List.set_cons_zero, List.set_cons_succ, List.getElem_toArray, List.getElem_cons_zero, List.getElem_cons_succ]
  refine anyR_take (i := 1) (.agg #[.int .i64 cnt, .slice A rows.length c]) rfl (by kernel_rfl) (by kernel_rfl) (by kernel_rfl) (by kernel_rfl) (fun _ _ _ h => h) (by assumption) ⟨by rfl, ?_⟩ ?_
  · intro W hW
    go_simp
  try simp only [Act.put, List.setIfInBounds_toArray, List.set_cons_zero, List.set_cons_succ, List.getElem_toArray, List.getElem_cons_zero, List.getElem_cons_succ]
  refine anyR_one (i := 2) (by kernel_rfl) rfl ?_
  intro K hK
  go_simp
  go_at_call 19
  refine (toFrame_any cnt A rows.length c rows _ (H.out.below (bel_trans bb hS.1)) hn R2.out).mono ?_
  rintro e v92 ⟨A_q, c_q, vs_q, rfl, oq, uu⟩
  have hT := SS.out _ (bel_trans hS.1 uu)
  refine hK.out _ _ (fun _ => hT) ?_
  clear hS uu
  have hS := hT
  clear hT
  clear hK K
  try simp only [Act.put, List.setIfInBounds_toArray, List.set_cons_zero, List.set_cons_succ, List.getElem_toArray, List.getElem_cons_zero, List.getElem_cons_succ]
  refine anyR_one (i := 3) (by kernel_rfl) rfl ?_
  intro K hK
  go_simp
  go_at_call 24
  refine (eqFrame_same cnt _ rows.length _ rows _ _ _ (X.own.rws.below hS.1) oq.rws).mono ?_
  rintro e v93 ⟨rfl, uu⟩
  have hT := SS.out _ (bel_trans hS.1 uu)
  refine hK.out _ _ (fun _ => hT) ?_
  clear hS uu
  have hS := hT
  clear hT
  clear hK K
  try simp only [Act.put, List.setIfInBounds_toArray, List.set_cons_zero, List.set_cons_succ, List.getElem_toArray, List.getElem_cons_zero, List.getElem_cons_succ]
  refine anyR_take (i := 4) (.bool false) rfl (by kernel_rfl) (by kernel_rfl) (by kernel_rfl) (by kernel_rfl) (fun _ _ _ h => h) (by assumption) ⟨by rfl, ?_⟩ ?_
  · intro W hW
    go_simp
  try simp only [Act.put, List.setIfInBounds_toArray, List.set_cons_zero, List.set_cons_succ, List.getElem_toArray, List.getElem_cons_zero, List.getElem_cons_succ]
  refine anyR_done (by kernel_rfl) ?_ _
  refine NoPanic.normal ?_
  have uR9 := hS.1
  clear hS SS
  have zR9 := uR9.size
  replace bb := bel_trans bb uR9
  replace CA := CA.below uR9
  replace CS := CS.below uR9
  replace W := W.below uR9
  replace X := X.below uR9
  replace CX := CX.below uR9
  replace T1 := T1.below uR9
  replace T2 := T2.below uR9
  replace CT := CT.below uR9
  replace V := V.below uR9
  replace G := G.below uR9
  go_wp2_with fail
  obtain ⟨wz10, hw0⟩ : ∃ x, x = v93 := ⟨_, rfl⟩
  subst hw0
  have SS := Lib.hid (fun (W : World) (hW : Below wz10.heap.size wz10 W) => (show Below wz10.heap.size wz10 W ∧ W.cell? ⟨w5.heap.size, 0, none⟩ = some (.slice A_y R.length c_y) ∧ W.cell? ⟨w5.heap.size, 1, none⟩ = some (.slice B_y Y.length d_y) ∧ W.cell? ⟨w.heap.size + 1, 0, none⟩ = some (.slice RA R.length rc) ∧ W.cell? ⟨w.heap.size + 1, 1, none⟩ = some (.slice YA Y.length yc) from ⟨hW, (CT.below hW).cell 0 rfl, (CT.below hW).cell 1 rfl, (CS.below hW).cell 0 rfl, (CS.below hW).cell 1 rfl⟩))
  refine wp_region_noPanic ?_
  refine wp_region_R (inFirst (fun W => Below wz10.heap.size wz10 W ∧ W.cell? ⟨w5.heap.size, 0, none⟩ = some (.slice A_y R.length c_y) ∧ W.cell? ⟨w5.heap.size, 1, none⟩ = some (.slice B_y Y.length d_y) ∧ W.cell? ⟨w.heap.size + 1, 0, none⟩ = some (.slice RA R.length rc) ∧ W.cell? ⟨w.heap.size + 1, 1, none⟩ = some (.slice YA Y.length yc)) 5) (by kernel_rfl) ?_
  have hS := SS.out wz10.drew ⟨rfl, rfl, rfl, Nat.le_refl _, fun _ _ => rfl⟩
  refine anyR_take (i := 0) (.agg #[.slice A_y R.length c_y, .slice B_y Y.length d_y]) rfl (by kernel_rfl) (by kernel_rfl) (by kernel_rfl) (by kernel_rfl) (fun _ _ _ h => h) (by assumption) ⟨by rfl, ?_⟩ ?_
  · intro W hW
    go_simp
  try simp only [Act.put, List.setIfInBounds_toArray, List.set_cons_zero, List.set_cons_succ, List.getElem_toArray, List.getElem_cons_zero, List.getElem_cons_succ]
  refine anyR_take (i := 1) (.agg #[.slice RA R.length rc, .slice YA Y.length yc]) rfl (by kernel_rfl) (by kernel_rfl) (by kernel_rfl) (by kernel_rfl) (fun _ _ _ h => h) (by assumption) ⟨by rfl, ?_⟩ ?_
  · intro W hW
    go_simp
  try simp only [Act.put, List.setIfInBounds_toArray, List.set_cons_zero, List.set_cons_succ, List.getElem_toArray, List.getElem_cons_zero, List.getElem_cons_succ]
  refine anyR_one (i := 2) (by kernel_rfl) rfl ?_
  intro K hK
  go_simp
  go_at_call 20
  refine (toStrategy_any RA R.length rc R YA Y.length yc Y _ (HR.out.below (bel_trans bb hS.1)) (HY.out.below (bel_trans bb hS.1)) hrn hyn).mono ?_
  rintro e v102 ⟨A_p, c_p, B_p, d_p, rfl, op1, op2, _, uu⟩
  have hT := SS.out _ (bel_trans hS.1 uu)
  refine hK.out _ _ (fun _ => hT) ?_
  clear hS uu
  have hS := hT
  clear hT
  clear hK K
  try simp only [Act.put, List.setIfInBounds_toArray, List.set_cons_zero, List.set_cons_succ, List.getElem_toArray, List.getElem_cons_zero, List.getElem_cons_succ]
  refine anyR_one (i := 3) (by kernel_rfl) rfl ?_
  intro K hK
  go_simp
  go_at_call 25
  refine (eqStrategy_same _ _ _ _ _ _ _ _ _ _ R Y _ (T1.own.ints.below hS.1) (T2.own.ints.below hS.1) op1.ints op2.ints).mono ?_
  rintro e v103 ⟨rfl, uu⟩
  have hT := SS.out _ (bel_trans hS.1 uu)
  refine hK.out _ _ (fun _ => hT) ?_
  clear hS uu
  have hS := hT
  clear hT
  clear hK K
  try simp only [Act.put, List.setIfInBounds_toArray, List.set_cons_zero, List.set_cons_succ, List.getElem_toArray, List.getElem_cons_zero, List.getElem_cons_succ]
  refine anyR_take (i := 4) (.bool false) rfl (by kernel_rfl) (by kernel_rfl) (by kernel_rfl) (by kernel_rfl) (fun _ _ _ h => h) (by assumption) ⟨by rfl, ?_⟩ ?_
  · intro W hW
    go_simp
  try simp only [Act.put, List.setIfInBounds_toArray, List.set_cons_zero, List.set_cons_succ, List.getElem_toArray, List.getElem_cons_zero, List.getElem_cons_succ]
  refine anyR_done (by kernel_rfl) ?_ _
  refine NoPanic.normal ?_
  have uR10 := hS.1
  clear hS SS
  have zR10 := uR10.size
  replace bb := bel_trans bb uR10
  replace CA := CA.below uR10
  replace CS := CS.below uR10
  replace W := W.below uR10
  replace X := X.below uR10
  replace CX := CX.below uR10
  replace T1 := T1.below uR10
  replace T2 := T2.below uR10
  replace CT := CT.below uR10
  replace V := V.below uR10
  replace G := G.below uR10
  go_wp2_with fail
  refine (toInt64S_any MA M.length mc M _ (HM.out.below bb) hmn).mono ?_
  rintro e w11 ⟨A_u, c_u, rfl, ou, u11⟩
  have z11 := u11.size
  replace bb := bel_trans bb u11
  replace CA := CA.below u11
  replace CS := CS.below u11
  replace W := W.below u11
  replace X := X.below u11
  replace CX := CX.below u11
  replace T1 := T1.below u11
  replace T2 := T2.below u11
  replace CT := CT.below u11
  replace V := V.below u11
  replace G := G.below u11
  have OU := Lib.hid ou
  clear ou
  go_wp2_with fail
  refine (eqInt64S_any _ _ _ M _ _ _ M _ V.own.ints OU.out.ints).mono ?_
  rintro e w12 ⟨rfl, u12⟩
  rw [show decide (M = M) = true by simp]
  have z12 := u12.size
  replace bb := bel_trans bb u12
  replace CA := CA.below u12
  replace CS := CS.below u12
  replace W := W.below u12
  replace X := X.below u12
  replace CX := CX.below u12
  replace T1 := T1.below u12
  replace T2 := T2.below u12
  replace CT := CT.below u12
  replace V := V.below u12
  replace G := G.below u12
  clear OU
  have q0a := CX.cell 0 rfl
  have q1a := CX.cell 1 rfl
  go_wp2_with fail
  clear q0a q1a
  refine (markFrame_any _ _ cnt _ _ _ _ rows _ _ X (by omega) (by omega) (by omega) (by omega) (by omega)).mono ?_
  rintro e w13 ⟨rfl, on13⟩
  have z13 := on13.size
  replace bb := bel_only bb on13 (by omega)
  replace CA := CA.onlyF on13 (by omega)
  replace CS := CS.onlyF on13 (by omega)
  replace W := W.only on13 (by unfold Off; omega)
  replace CX := CX.onlyF on13 (by omega)
  replace T1 := T1.only on13 (by unfold Off; omega)
  replace T2 := T2.only on13 (by unfold Off; omega)
  replace CT := CT.onlyF on13 (by omega)
  replace V := V.only on13 (by unfold Off; omega)
  replace G := G.only on13 (by unfold Off; omega)
  clear on13
  clear X CX
  have q0a := CT.cell 0 rfl
  have q1a := CT.cell 1 rfl
  go_wp2_with fail
  clear q0a q1a
  refine (markStrategy_any _ _ _ _ _ _ _ _ _ _ _ _ T1 T2 AP.out (by omega) (by omega) (by omega) (by omega) (by omega)).mono ?_
  rintro e w14 ⟨rfl, m14, n14, on14⟩
  have z14 := on14.size
  replace bb := bel_only bb on14 (by omega)
  replace CA := CA.onlyF on14 (by omega)
  replace CS := CS.onlyF on14 (by omega)
  replace W := W.only on14 (by unfold Off; omega)
  replace CT := CT.onlyF on14 (by omega)
  replace V := V.only on14 (by unfold Off; omega)
  replace G := G.only on14 (by unfold Off; omega)
  clear m14 n14 on14
  clear T1 T2 CT
  go_wp2_with fail
  refine (markInt64S_any _ _ _ _ M _ _ V.own (by omega) (by omega) (by omega)).mono ?_
  rintro e w15 ⟨rfl, o15, g15⟩
  have on15 := V.own_only g15
  have z15 := on15.size
  replace bb := bel_only bb on15 (by omega)
  replace CA := CA.onlyF on15 (by omega)
  replace CS := CS.onlyF on15 (by omega)
  replace W := W.only on15 (by unfold Off; omega)
  replace G := G.only on15 (by unfold Off; omega)
  clear o15 g15 on15
  clear V
  have kd : decide ((1 : Int) + totL rows + R.length + Y.length + M.length < 0) = false := decide_eq_false (by omega)
  go_wp2_with fail
  refine (eqInt64S_any _ _ _ zs _ _ _ zs _ G.own.ints W.own.ints).mono ?_
  rintro e w16 ⟨rfl, u16⟩
  rw [show decide (zs = zs) = true by simp]
  have z16 := u16.size
  replace bb := bel_trans bb u16
  replace CA := CA.below u16
  replace CS := CS.below u16
  replace W := W.below u16
  replace G := G.below u16
  go_wp2_with fail
  refine (markInt64S_any _ _ _ _ zs _ _ G.own (by omega) (by omega) (by omega)).mono ?_
  rintro e w17 ⟨rfl, o17, g17⟩
  have on17 := G.own_only g17
  have z17 := on17.size
  replace bb := bel_only bb on17 (by omega)
  replace CA := CA.onlyF on17 (by omega)
  replace CS := CS.onlyF on17 (by omega)
  replace W := W.only on17 (by unfold Off; omega)
  replace G : IR _ _ _ _ _ _ _ := ⟨o17, G.top⟩
  clear o17 g17 on17
  go_wp2_with fail
  refine (heldInt64S_any _ _ _ _ _ G.own.ints (by omega) (by omega) (by omega)).mono ?_
  rintro e w18 ⟨rfl, u18⟩
  have z18 := u18.size
  replace bb := bel_trans bb u18
  replace CA := CA.below u18
  replace CS := CS.below u18
  replace W := W.below u18
  replace G := G.below u18
  go_wp2_with fail
  obtain ⟨wz19, hw0⟩ : ∃ x, x = w18 := ⟨_, rfl⟩
  subst hw0
  have SS := Lib.hid (fun (W : World) (hW : Below wz19.heap.size wz19 W) => (show Below wz19.heap.size wz19 W ∧ W.cell? ⟨w.heap.size, 0, none⟩ = some (.int .i64 cnt) ∧ W.cell? ⟨w.heap.size, 1, none⟩ = some (.slice A rows.length c) ∧ W.cell? ⟨w.heap.size + 1, 0, none⟩ = some (.slice RA R.length rc) ∧ W.cell? ⟨w.heap.size + 1, 1, none⟩ = some (.slice YA Y.length yc) from ⟨hW, (CA.below hW).cell 0 rfl, (CA.below hW).cell 1 rfl, (CS.below hW).cell 0 rfl, (CS.below hW).cell 1 rfl⟩))
  refine wp_region_noPanic ?_
  refine wp_region_R (inFirst (fun W => Below wz19.heap.size wz19 W ∧ W.cell? ⟨w.heap.size, 0, none⟩ = some (.int .i64 cnt) ∧ W.cell? ⟨w.heap.size, 1, none⟩ = some (.slice A rows.length c) ∧ W.cell? ⟨w.heap.size + 1, 0, none⟩ = some (.slice RA R.length rc) ∧ W.cell? ⟨w.heap.size + 1, 1, none⟩ = some (.slice YA Y.length yc)) 13) (by kernel_rfl) ?_
  have hS := SS.out wz19.drew ⟨rfl, rfl, rfl, Nat.le_refl _, fun _ _ => rfl⟩
  refine anyR_take (i := 0) (.agg #[.int .i64 cnt, .slice A rows.length c]) rfl (by kernel_rfl) (by kernel_rfl) (by kernel_rfl) (by kernel_rfl) (fun _ _ _ h => h) (by assumption) ⟨by rfl, ?_⟩ ?_
  · intro W hW
    go_simp
  try simp only [Act.put, List.setIfInBounds_toArray, List.set_cons_zero, List.set_cons_succ, List.getElem_toArray, List.getElem_cons_zero, List.getElem_cons_succ]
  refine anyR_take (i := 2) (.int .i64 x0) rfl (by kernel_rfl) (by kernel_rfl) (by kernel_rfl) (by kernel_rfl) (fun _ _ _ h => h) (by assumption) ⟨by rfl, ?_⟩ ?_
  · intro W hW
    go_simp
  try simp only [Act.put, List.setIfInBounds_toArray, List.set_cons_zero, List.set_cons_succ, List.getElem_toArray, List.getElem_cons_zero, List.getElem_cons_succ]
  refine anyR_take (i := 3) (.agg #[.slice RA R.length rc, .slice YA Y.length yc]) rfl (by kernel_rfl) (by kernel_rfl) (by kernel_rfl) (by kernel_rfl) (fun _ _ _ h => h) (by assumption) ⟨by rfl, ?_⟩ ?_
  · intro W hW
    go_simp
  try simp only [Act.put, List.setIfInBounds_toArray, List.set_cons_zero, List.set_cons_succ, List.getElem_toArray, List.getElem_cons_zero, List.getElem_cons_succ]
  refine anyR_take (i := 5) (.slice MA M.length mc) rfl (by kernel_rfl) (by kernel_rfl) (by kernel_rfl) (by kernel_rfl) (fun _ _ _ h => h) (by assumption) ⟨by rfl, ?_⟩ ?_
  · intro W hW
    go_simp
  try simp only [Act.put, List.setIfInBounds_toArray, List.set_cons_zero, List.set_cons_succ, List.getElem_toArray, List.getElem_cons_zero, List.getElem_cons_succ]
  refine anyR_one (i := 1) (by kernel_rfl) rfl ?_
  intro K hK
  go_simp
  go_at_call 19
  refine (toFrame_any cnt A rows.length c rows _ (H.out.below (bel_trans bb hS.1)) hn R2.out).mono ?_
  rintro e v191 ⟨A_t19, c_t19, vs_t19, rfl, ot, uu⟩
  have OT := Lib.hid ot
  clear ot
  have hT := SS.out _ (bel_trans hS.1 uu)
  refine hK.out _ _ (fun _ => hT) ?_
  clear hS uu
  have hS := hT
  clear hT
  clear hK K
  try simp only [Act.put, List.setIfInBounds_toArray, List.set_cons_zero, List.set_cons_succ, List.getElem_toArray, List.getElem_cons_zero, List.getElem_cons_succ]
  refine anyR_one (i := 4) (by kernel_rfl) rfl ?_
  intro K hK
  go_simp
  go_at_call 20
  refine (toStrategy_any RA R.length rc R YA Y.length yc Y _ (HR.out.below (bel_trans bb hS.1)) (HY.out.below (bel_trans bb hS.1)) hrn hyn).mono ?_
  rintro e v194 ⟨A_s19, c_s19, B_s19, d_s19, rfl, o1, o2, _, uu⟩
  have P1 := Lib.hid o1
  have P2 := Lib.hid o2
  clear o1 o2
  replace OT := Lib.hid (OT.out.below uu)
  have hT := SS.out _ (bel_trans hS.1 uu)
  refine hK.out _ _ (fun _ => hT) ?_
  clear hS uu
  have hS := hT
  clear hT
  clear hK K
  try simp only [Act.put, List.setIfInBounds_toArray, List.set_cons_zero, List.set_cons_succ, List.getElem_toArray, List.getElem_cons_zero, List.getElem_cons_succ]
  refine anyR_one (i := 6) (by kernel_rfl) rfl ?_
  intro K hK
  go_simp
  go_at_call 21
  refine (toInt64S_any MA M.length mc M _ (HM.out.below (bel_trans bb hS.1)) hmn).mono ?_
  rintro e v196 ⟨A_m19, c_m19, rfl, o1, uu⟩
  have Q1 := Lib.hid o1
  clear o1
  replace OT := Lib.hid (OT.out.below uu)
  replace P1 := Lib.hid (P1.out.below uu)
  replace P2 := Lib.hid (P2.out.below uu)
  have hT := SS.out _ (bel_trans hS.1 uu)
  refine hK.out _ _ (fun _ => hT) ?_
  clear hS uu
  have hS := hT
  clear hT
  clear hK K
  try simp only [Act.put, List.setIfInBounds_toArray, List.set_cons_zero, List.set_cons_succ, List.getElem_toArray, List.getElem_cons_zero, List.getElem_cons_succ]
  refine anyR_one (i := 7) (by kernel_rfl) rfl ?_
  intro K hK
  go_simp
  go_at_call 22
  refine (IM.out _ _ _ _ _ _ _ _ _ _ OT.out.rws P1.out.ints P2.out.ints Q1.out.ints).mono ?_
  rintro e v197 ⟨A_w19, c_w19, rfl, ow, uu⟩
  have WO := Lib.hid ow
  clear ow
  have hT := SS.out _ (bel_trans hS.1 uu)
  refine hK.out _ _ (fun _ => hT) ?_
  clear hS uu
  have hS := hT
  clear hT
  clear hK K
  try simp only [Act.put, List.setIfInBounds_toArray, List.set_cons_zero, List.set_cons_succ, List.getElem_toArray, List.getElem_cons_zero, List.getElem_cons_succ]
  refine anyR_take (i := 8) (.tuple #[.slice A_w19 zs.length c_w19, .bool tb]) rfl (by kernel_rfl) (by kernel_rfl) (by kernel_rfl) (by kernel_rfl) (fun _ _ _ h => h) (by assumption) ⟨by rfl, ?_⟩ ?_
  · intro W hW
    go_simp
  try simp only [Act.put, List.setIfInBounds_toArray, List.set_cons_zero, List.set_cons_succ, List.getElem_toArray, List.getElem_cons_zero, List.getElem_cons_succ]
  refine anyR_take (i := 9) (.slice A_w19 zs.length c_w19) rfl (by kernel_rfl) (by kernel_rfl) (by kernel_rfl) (by kernel_rfl) (fun _ _ _ h => h) (by assumption) ⟨by rfl, ?_⟩ ?_
  · intro W hW
    go_simp
  try simp only [Act.put, List.setIfInBounds_toArray, List.set_cons_zero, List.set_cons_succ, List.getElem_toArray, List.getElem_cons_zero, List.getElem_cons_succ]
  refine anyR_take (i := 10) (.bool tb) rfl (by kernel_rfl) (by kernel_rfl) (by kernel_rfl) (by kernel_rfl) (fun _ _ _ h => h) (by assumption) ⟨by rfl, ?_⟩ ?_
  · intro W hW
    go_simp
  try simp only [Act.put, List.setIfInBounds_toArray, List.set_cons_zero, List.set_cons_succ, List.getElem_toArray, List.getElem_cons_zero, List.getElem_cons_succ]
  refine anyR_take (i := 11) (.slice A_w19 zs.length c_w19) rfl (by kernel_rfl) (by kernel_rfl) (by kernel_rfl) (by kernel_rfl) (fun _ _ _ h => h) (by assumption) ⟨by rfl, ?_⟩ ?_
  · intro W hW
    go_simp
  try simp only [Act.put, List.setIfInBounds_toArray, List.set_cons_zero, List.set_cons_succ, List.getElem_toArray, List.getElem_cons_zero, List.getElem_cons_succ]
  refine anyR_take (i := 12) (.bool tb) rfl (by kernel_rfl) (by kernel_rfl) (by kernel_rfl) (by kernel_rfl) (fun _ _ _ h => h) (by assumption) ⟨by rfl, ?_⟩ ?_
  · intro W hW
    go_simp
  try simp only [Act.put, List.setIfInBounds_toArray, List.set_cons_zero, List.set_cons_succ, List.getElem_toArray, List.getElem_cons_zero, List.getElem_cons_succ]
  refine anyR_done (by kernel_rfl) ?_ _
  refine NoPanic.normal ?_
  have uR19 := hS.1
  clear hS SS OT P1 P2 Q1
  have zR19 := uR19.size
  replace bb := bel_trans bb uR19
  replace CA := CA.below uR19
  replace CS := CS.below uR19
  replace W := W.below uR19
  replace G := G.below uR19
  have H_ := IR.mk' WO.out
  clear WO
  go_wp2_with fail
  refine (eqInt64S_any _ _ _ zs _ _ _ zs _ H_.own.ints W.own.ints).mono ?_
  rintro e w20 ⟨rfl, u20⟩
  rw [show decide (zs = zs) = true by simp]
  have z20 := u20.size
  replace bb := bel_trans bb u20
  replace CA := CA.below u20
  replace CS := CS.below u20
  replace W := W.below u20
  replace G := G.below u20
  replace H_ := H_.below u20
  clear H_
  go_wp2_with fail
  refine (heldInt64S_any _ _ _ _ _ G.own.ints (by omega) (by omega) (by omega)).mono ?_
  rintro e w21 ⟨rfl, u21⟩
  have z21 := u21.size
  replace bb := bel_trans bb u21
  replace CA := CA.below u21
  replace CS := CS.below u21
  replace W := W.below u21
  replace G := G.below u21
  go_wp2_with fail
  go_ret
  exact ⟨rfl, bb⟩
end Go.Proofs.Yteejfjgofpolkaa
