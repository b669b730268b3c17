/- The law FnExactComposeMixes, walked. -/
import Derived.Test.YtfanjnoaifhnnaaCompose
import Derived.Test.YtfanjnoaifhnnaaRwsLaw
namespace Go.Proofs.Ytfanjnoaifhnnaa
set_option linter.unusedVariables false
set_option maxRecDepth 100000
open Go.RowKit
set_option maxHeartbeats 4000000 in
theorem fnExactComposeMixes_walk (w : World) (A0 : Option Addr) (n0 c0 : Nat) (zs0 : List Int) (h0 : Ints .i64 w A0 n0 c0 zs0) (A1 : Option Addr) (n1 c1 : Nat) (zs1 : List (List Int)) (h1 : Rws w A1 n1 c1 zs1) (A2 : Option Addr) (n2 c2 : Nat) (zs2 : List Int) (h2 : Ints .i64 w A2 n2 c2 zs2) (A3 : Option Addr) (n3 c3 : Nat) (zs3 : List (List Int)) (h3 : Rws w A3 n3 c3 zs3) :
    Calls Try.prog 5 #[.slice A0 n0 c0, .slice A1 n1 c1, .slice A2 n2 c2, .slice A3 n3 c3] w fun e w' => e = .returned (.bool true) ∧ Below w.heap.size w w' := by
  have s0 := h0.short
  have s1 := h1.short
  have s2 := h2.short
  have s3 := h3.short
  by_cases g0 : n0 ≤ 1048576
  · skip
    by_cases g2 : n2 ≤ 1048576
    · skip
      have e0 := h0.1
      subst e0
      have e2 := h2.1
      subst e2
      have e1 := h1.1
      subst e1
      have e3 := h3.1
      subst e3
      have bb := Below.refl w.heap.size w
      go_enter Try.func5, Try.ntmps5
      go_wp2_with fail
      refine (szInt64SS_any _ _ _ zs1 _ _ h1 (by omega) (by omega)).mono ?_
      rintro e w_ ⟨r1, rfl, hr, rfl⟩
      rcases hr with rfl | ⟨ra1, rb1, rc1, rd1⟩
      · go_wp2_with fail
        go_ret
        exact ⟨rfl, bb⟩
      have R1 := Lib.hid (fun (zs : List Int) (hz : zs ∈ zs1) => show zs.length ≤ 1048576 by have := len_le_tot hz; omega)
      go_wp2_with fail
      refine (szInt64SS_any _ _ _ zs3 _ _ h3 (by omega) (by omega)).mono ?_
      rintro e w_ ⟨r3, rfl, hr, rfl⟩
      rcases hr with rfl | ⟨ra3, rb3, rc3, rd3⟩
      · go_wp2_with fail
        go_ret
        exact ⟨rfl, bb⟩
      have R3 := Lib.hid (fun (zs : List Int) (hz : zs ∈ zs3) => show zs.length ≤ 1048576 by have := len_le_tot hz; omega)
      have bd := cmp_bd zs0 zs1 zs2 zs3
      go_wp2_with fail
      refine (toInt64S_any _ _ _ zs0 _ (h0.below bb) (by omega)).mono ?_
      rintro e w1 ⟨A_1, c_1, rfl, o1, u1⟩
      have z1 := u1.size
      replace bb := bel_trans bb u1
      have T0 := IR.mk' o1
      clear o1
      go_wp2_with fail
      refine (toInt64SS_any _ _ _ zs1 _ (h1.below bb) (by omega) R1.out).mono ?_
      rintro e w2 ⟨A_2, c_2, vs_2, rfl, o2, u2⟩
      have z2 := u2.size
      replace bb := bel_trans bb u2
      replace T0 := T0.below u2
      have T1 := MR.mk' o2
      clear o2
      go_wp2_with fail
      refine (toInt64S_any _ _ _ zs2 _ (h2.below bb) (by omega)).mono ?_
      rintro e w3 ⟨A_3, c_3, rfl, o3, u3⟩
      have z3 := u3.size
      replace bb := bel_trans bb u3
      replace T0 := T0.below u3
      replace T1 := T1.below u3
      have T2 := IR.mk' o3
      clear o3
      go_wp2_with fail
      refine (toInt64SS_any _ _ _ zs3 _ (h3.below bb) (by omega) R3.out).mono ?_
      rintro e w4 ⟨A_4, c_4, vs_4, rfl, o4, u4⟩
      have z4 := u4.size
      replace bb := bel_trans bb u4
      replace T0 := T0.below u4
      replace T1 := T1.below u4
      replace T2 := T2.below u4
      have T3 := MR.mk' o4
      clear o4
      go_wp2_with fail
      refine (specCompose_any _ _ _ zs0 _ _ _ zs1 _ _ _ zs2 _ _ _ zs3 _ T0.own.ints T1.own.rws T2.own.ints T3.own.rws (by omega) (by omega)).mono ?_
      rintro e w5 ⟨A_5_0, c_5_0, A_5_1, c_5_1, vs_5_1, rfl, o5_0, o5_1, ap5, u5⟩
      have z5 := u5.size
      replace bb := bel_trans bb u5
      replace T0 := T0.below u5
      replace T1 := T1.below u5
      replace T2 := T2.below u5
      replace T3 := T3.below u5
      have W0 := IR.mk' o5_0
      clear o5_0
      have W1 := MR.mk' o5_1
      clear o5_1
      have APW := Lib.hid ap5
      clear ap5
      clear T0 T1 T2 T3
      go_wp2_with fail
      refine (toInt64S_any _ _ _ zs0 _ (h0.below bb) (by omega)).mono ?_
      rintro e w6 ⟨A_6, c_6, rfl, o6, u6⟩
      have z6 := u6.size
      replace bb := bel_trans bb u6
      replace W0 := W0.below u6
      replace W1 := W1.below u6
      have X0 := IR.mk' o6
      clear o6
      go_wp2_with fail
      refine (toInt64SS_any _ _ _ zs1 _ (h1.below bb) (by omega) R1.out).mono ?_
      rintro e w7 ⟨A_7, c_7, vs_7, rfl, o7, u7⟩
      have z7 := u7.size
      replace bb := bel_trans bb u7
      replace W0 := W0.below u7
      replace W1 := W1.below u7
      replace X0 := X0.below u7
      have X1 := MR.mk' o7
      clear o7
      go_wp2_with fail
      refine (toInt64S_any _ _ _ zs2 _ (h2.below bb) (by omega)).mono ?_
      rintro e w8 ⟨A_8, c_8, rfl, o8, u8⟩
      have z8 := u8.size
      replace bb := bel_trans bb u8
      replace W0 := W0.below u8
      replace W1 := W1.below u8
      replace X0 := X0.below u8
      replace X1 := X1.below u8
      have X2 := IR.mk' o8
      clear o8
      go_wp2_with fail
      refine (toInt64SS_any _ _ _ zs3 _ (h3.below bb) (by omega) R3.out).mono ?_
      rintro e w9 ⟨A_9, c_9, vs_9, rfl, o9, u9⟩
      have z9 := u9.size
      replace bb := bel_trans bb u9
      replace W0 := W0.below u9
      replace W1 := W1.below u9
      replace X0 := X0.below u9
      replace X1 := X1.below u9
      replace X2 := X2.below u9
      have X3 := MR.mk' o9
      clear o9
      go_wp2_with fail
      refine (implCompose_any _ _ _ zs0 _ _ _ zs1 _ _ _ zs2 _ _ _ zs3 _ X0.own.ints X1.own.rws X2.own.ints X3.own.rws (by omega) (by omega)).mono ?_
      rintro e w10 ⟨A_10_0, c_10_0, A_10_1, c_10_1, vs_10_1, rfl, o10_0, o10_1, ap10, u10⟩
      have z10 := u10.size
      replace bb := bel_trans bb u10
      replace W0 := W0.below u10
      replace W1 := W1.below u10
      replace X0 := X0.below u10
      replace X1 := X1.below u10
      replace X2 := X2.below u10
      replace X3 := X3.below u10
      have G0 := IR.mk' o10_0
      clear o10_0
      have G1 := MR.mk' o10_1
      clear o10_1
      have APG := Lib.hid ap10
      clear ap10
      have qb : ((cmpB zs0 zs1 zs2 zs3) != (cmpB zs0 zs1 zs2 zs3)) = false := by simp
      go_wp2_with fail
      refine (eqInt64S_any _ _ _ (cmp1 zs0 zs1 zs2 zs3) _ _ _ (cmp1 zs0 zs1 zs2 zs3) _ G0.own.ints W0.own.ints).mono ?_
      rintro e w11 ⟨rfl, u11⟩
      rw [show decide ((cmp1 zs0 zs1 zs2 zs3) = (cmp1 zs0 zs1 zs2 zs3)) = true by simp]
      have z11 := u11.size
      replace bb := bel_trans bb u11
      replace W0 := W0.below u11
      replace W1 := W1.below u11
      replace X0 := X0.below u11
      replace X1 := X1.below u11
      replace X2 := X2.below u11
      replace X3 := X3.below u11
      replace G0 := G0.below u11
      replace G1 := G1.below u11
      go_wp2_with fail
      refine (eqInt64SS_same _ _ _ (cmp2 zs0 zs1 zs2 zs3) _ _ _ G1.own.rws W1.own.rws).mono ?_
      rintro e w12 ⟨rfl, u12⟩
      have z12 := u12.size
      replace bb := bel_trans bb u12
      replace W0 := W0.below u12
      replace W1 := W1.below u12
      replace X0 := X0.below u12
      replace X1 := X1.below u12
      replace X2 := X2.below u12
      replace X3 := X3.below u12
      replace G0 := G0.below u12
      replace G1 := G1.below u12
      go_wp2_with fail
      refine (toInt64S_any _ _ _ zs0 _ (h0.below bb) (by omega)).mono ?_
      rintro e w13 ⟨A_13, c_13, rfl, o13, u13⟩
      have z13 := u13.size
      replace bb := bel_trans bb u13
      replace W0 := W0.below u13
      replace W1 := W1.below u13
      replace X0 := X0.below u13
      replace X1 := X1.below u13
      replace X2 := X2.below u13
      replace X3 := X3.below u13
      replace G0 := G0.below u13
      replace G1 := G1.below u13
      have Y := IR.mk' o13
      clear o13
      go_wp2_with fail
      refine (eqInt64S_any _ _ _ zs0 _ _ _ zs0 _ X0.own.ints Y.own.ints).mono ?_
      rintro e w14 ⟨rfl, u14⟩
      rw [show decide (zs0 = zs0) = true by simp]
      have z14 := u14.size
      replace bb := bel_trans bb u14
      replace W0 := W0.below u14
      replace W1 := W1.below u14
      replace X0 := X0.below u14
      replace X1 := X1.below u14
      replace X2 := X2.below u14
      replace X3 := X3.below u14
      replace G0 := G0.below u14
      replace G1 := G1.below u14
      replace Y := Y.below u14
      clear Y
      go_wp2_with fail
      refine (toInt64SS_any _ _ _ zs1 _ (h1.below bb) (by omega) R1.out).mono ?_
      rintro e w15 ⟨A_15, c_15, vs_15, rfl, o15, u15⟩
      have z15 := u15.size
      replace bb := bel_trans bb u15
      replace W0 := W0.below u15
      replace W1 := W1.below u15
      replace X0 := X0.below u15
      replace X1 := X1.below u15
      replace X2 := X2.below u15
      replace X3 := X3.below u15
      replace G0 := G0.below u15
      replace G1 := G1.below u15
      have Y := MR.mk' o15
      clear o15
      go_wp2_with fail
      refine (eqInt64SS_same _ _ _ zs1 _ _ _ X1.own.rws Y.own.rws).mono ?_
      rintro e w16 ⟨rfl, u16⟩
      have z16 := u16.size
      replace bb := bel_trans bb u16
      replace W0 := W0.below u16
      replace W1 := W1.below u16
      replace X0 := X0.below u16
      replace X1 := X1.below u16
      replace X2 := X2.below u16
      replace X3 := X3.below u16
      replace G0 := G0.below u16
      replace G1 := G1.below u16
      replace Y := Y.below u16
      clear Y
      go_wp2_with fail
      refine (toInt64S_any _ _ _ zs2 _ (h2.below bb) (by omega)).mono ?_
      rintro e w17 ⟨A_17, c_17, rfl, o17, u17⟩
      have z17 := u17.size
      replace bb := bel_trans bb u17
      replace W0 := W0.below u17
      replace W1 := W1.below u17
      replace X0 := X0.below u17
      replace X1 := X1.below u17
      replace X2 := X2.below u17
      replace X3 := X3.below u17
      replace G0 := G0.below u17
      replace G1 := G1.below u17
      have Y := IR.mk' o17
      clear o17
      go_wp2_with fail
      refine (eqInt64S_any _ _ _ zs2 _ _ _ zs2 _ X2.own.ints Y.own.ints).mono ?_
      rintro e w18 ⟨rfl, u18⟩
      rw [show decide (zs2 = zs2) = true by simp]
      have z18 := u18.size
      replace bb := bel_trans bb u18
      replace W0 := W0.below u18
      replace W1 := W1.below u18
      replace X0 := X0.below u18
      replace X1 := X1.below u18
      replace X2 := X2.below u18
      replace X3 := X3.below u18
      replace G0 := G0.below u18
      replace G1 := G1.below u18
      replace Y := Y.below u18
      clear Y
      go_wp2_with fail
      refine (toInt64SS_any _ _ _ zs3 _ (h3.below bb) (by omega) R3.out).mono ?_
      rintro e w19 ⟨A_19, c_19, vs_19, rfl, o19, u19⟩
      have z19 := u19.size
      replace bb := bel_trans bb u19
      replace W0 := W0.below u19
      replace W1 := W1.below u19
      replace X0 := X0.below u19
      replace X1 := X1.below u19
      replace X2 := X2.below u19
      replace X3 := X3.below u19
      replace G0 := G0.below u19
      replace G1 := G1.below u19
      have Y := MR.mk' o19
      clear o19
      go_wp2_with fail
      refine (eqInt64SS_same _ _ _ zs3 _ _ _ X3.own.rws Y.own.rws).mono ?_
      rintro e w20 ⟨rfl, u20⟩
      have z20 := u20.size
      replace bb := bel_trans bb u20
      replace W0 := W0.below u20
      replace W1 := W1.below u20
      replace X0 := X0.below u20
      replace X1 := X1.below u20
      replace X2 := X2.below u20
      replace X3 := X3.below u20
      replace G0 := G0.below u20
      replace G1 := G1.below u20
      replace Y := Y.below u20
      clear Y
      go_wp2_with fail
      refine (markInt64S_any _ _ _ _ zs0 _ _ X0.own (by omega) (by omega) (by omega)).mono ?_
      rintro e w21 ⟨rfl, o21, g21⟩
      have on21 := X0.own_only g21
      have z21 := on21.size
      replace bb := bel_only bb on21 (by omega)
      replace W0 := W0.only on21 (by unfold Off; omega)
      replace W1 := W1.only on21 (by unfold Off; omega)
      replace X1 := X1.only on21 (by unfold Off; omega)
      replace X2 := X2.only on21 (by unfold Off; omega)
      replace X3 := X3.only on21 (by unfold Off; omega)
      replace G0 := G0.only on21 (by unfold Off; omega)
      replace G1 := G1.only on21 (by unfold Off; omega)
      replace X0 : IR _ _ _ _ _ _ _ := ⟨o21, X0.top⟩
      clear o21 g21 on21
      clear X0
      go_wp2_with fail
      refine (markInt64SS_any _ _ _ _ _ _ zs1 _ _ X1 (by omega) (by omega) (by omega) (by omega)).mono ?_
      rintro e w22 ⟨rfl, m22, on22, bs22⟩
      have z22 := on22.size
      replace bb := bel_only bb on22 (by omega)
      replace W0 := W0.only on22 (by unfold Off; omega)
      replace W1 := W1.only on22 (by unfold Off; omega)
      replace X2 := X2.only on22 (by unfold Off; omega)
      replace X3 := X3.only on22 (by unfold Off; omega)
      replace G0 := G0.only on22 (by unfold Off; omega)
      replace G1 := G1.only on22 (by unfold Off; omega)
      replace X1 := m22
      clear on22 bs22 m22
      clear X1
      go_wp2_with fail
      refine (markInt64S_any _ _ _ _ zs2 _ _ X2.own (by omega) (by omega) (by omega)).mono ?_
      rintro e w23 ⟨rfl, o23, g23⟩
      have on23 := X2.own_only g23
      have z23 := on23.size
      replace bb := bel_only bb on23 (by omega)
      replace W0 := W0.only on23 (by unfold Off; omega)
      replace W1 := W1.only on23 (by unfold Off; omega)
      replace X3 := X3.only on23 (by unfold Off; omega)
      replace G0 := G0.only on23 (by unfold Off; omega)
      replace G1 := G1.only on23 (by unfold Off; omega)
      replace X2 : IR _ _ _ _ _ _ _ := ⟨o23, X2.top⟩
      clear o23 g23 on23
      clear X2
      go_wp2_with fail
      refine (markInt64SS_any _ _ _ _ _ _ zs3 _ _ X3 (by omega) (by omega) (by omega) (by omega)).mono ?_
      rintro e w24 ⟨rfl, m24, on24, bs24⟩
      have z24 := on24.size
      replace bb := bel_only bb on24 (by omega)
      replace W0 := W0.only on24 (by unfold Off; omega)
      replace W1 := W1.only on24 (by unfold Off; omega)
      replace G0 := G0.only on24 (by unfold Off; omega)
      replace G1 := G1.only on24 (by unfold Off; omega)
      replace X3 := m24
      clear on24 bs24 m24
      clear X3
      go_wp2_with fail
      refine (eqInt64S_any _ _ _ (cmp1 zs0 zs1 zs2 zs3) _ _ _ (cmp1 zs0 zs1 zs2 zs3) _ G0.own.ints W0.own.ints).mono ?_
      rintro e w25 ⟨rfl, u25⟩
      rw [show decide ((cmp1 zs0 zs1 zs2 zs3) = (cmp1 zs0 zs1 zs2 zs3)) = true by simp]
      have z25 := u25.size
      replace bb := bel_trans bb u25
      replace W0 := W0.below u25
      replace W1 := W1.below u25
      replace G0 := G0.below u25
      replace G1 := G1.below u25
      go_wp2_with fail
      refine (eqInt64SS_same _ _ _ (cmp2 zs0 zs1 zs2 zs3) _ _ _ G1.own.rws W1.own.rws).mono ?_
      rintro e w26 ⟨rfl, u26⟩
      have z26 := u26.size
      replace bb := bel_trans bb u26
      replace W0 := W0.below u26
      replace W1 := W1.below u26
      replace G0 := G0.below u26
      replace G1 := G1.below u26
      go_wp2_with fail
      refine (markInt64S_any _ _ _ _ (cmp1 zs0 zs1 zs2 zs3) _ _ G0.own (by omega) (by omega) (by omega)).mono ?_
      rintro e w27 ⟨rfl, o27, g27⟩
      have on27 := G0.own_only g27
      have z27 := on27.size
      replace bb := bel_only bb on27 (by omega)
      replace W0 := W0.only on27 (by unfold Off; omega)
      replace W1 := W1.only on27 (by unfold Off; omega)
      replace G1 : MR _ _ _ _ _ _ _ _ := ⟨G1.own.kept g27 (own_ne G1.own.outer G0.own.1 (by decide)) (fun v hv => (APG.out v hv).symm), G1.top, G1.rows⟩
      replace G0 : IR _ _ _ _ _ _ _ := ⟨o27, G0.top⟩
      clear o27 g27 on27
      go_wp2_with fail
      refine (markInt64SS_any _ _ _ _ _ _ (cmp2 zs0 zs1 zs2 zs3) _ _ G1 (by omega) (by omega) (by omega) (by omega)).mono ?_
      rintro e w28 ⟨rfl, m28, on28, bs28⟩
      have z28 := on28.size
      replace bb := bel_only bb on28 (by omega)
      replace W0 := W0.only on28 (by unfold Off; omega)
      replace W1 := W1.only on28 (by unfold Off; omega)
      replace G0 : IR _ _ _ _ _ _ _ := ⟨⟨own_only G0.own.1 (fun g hg => bs28 g (G0.own.block g hg).2 (fun v hv e => by rcases APG.out v hv with a | a; (rw [a] at hg; cases hg); exact a (hg.trans e.symm))), G0.own.2⟩, G0.top⟩
      replace G1 := m28
      clear on28 bs28 m28
      go_wp2_with fail
      refine (heldInt64S_any _ _ _ _ _ G0.own.ints (by omega) (by omega) (by omega)).mono ?_
      rintro e w29 ⟨rfl, u29⟩
      have z29 := u29.size
      replace bb := bel_trans bb u29
      replace W0 := W0.below u29
      replace W1 := W1.below u29
      replace G0 := G0.below u29
      replace G1 := G1.below u29
      go_wp2_with fail
      refine (heldInt64SS_any _ _ _ (cmp2 zs0 zs1 zs2 zs3) _ _ G1.own.rws (by omega) (by omega) (by omega) (by omega)).mono ?_
      rintro e w30 ⟨rfl, u30⟩
      have z30 := u30.size
      replace bb := bel_trans bb u30
      replace W0 := W0.below u30
      replace W1 := W1.below u30
      replace G0 := G0.below u30
      replace G1 := G1.below u30
      go_wp2_with fail
      refine (toInt64S_any _ _ _ zs0 _ (h0.below bb) (by omega)).mono ?_
      rintro e w31 ⟨A_31, c_31, rfl, o31, u31⟩
      have z31 := u31.size
      replace bb := bel_trans bb u31
      replace W0 := W0.below u31
      replace W1 := W1.below u31
      replace G0 := G0.below u31
      replace G1 := G1.below u31
      have T0 := IR.mk' o31
      clear o31
      go_wp2_with fail
      refine (toInt64SS_any _ _ _ zs1 _ (h1.below bb) (by omega) R1.out).mono ?_
      rintro e w32 ⟨A_32, c_32, vs_32, rfl, o32, u32⟩
      have z32 := u32.size
      replace bb := bel_trans bb u32
      replace W0 := W0.below u32
      replace W1 := W1.below u32
      replace G0 := G0.below u32
      replace G1 := G1.below u32
      replace T0 := T0.below u32
      have T1 := MR.mk' o32
      clear o32
      go_wp2_with fail
      refine (toInt64S_any _ _ _ zs2 _ (h2.below bb) (by omega)).mono ?_
      rintro e w33 ⟨A_33, c_33, rfl, o33, u33⟩
      have z33 := u33.size
      replace bb := bel_trans bb u33
      replace W0 := W0.below u33
      replace W1 := W1.below u33
      replace G0 := G0.below u33
      replace G1 := G1.below u33
      replace T0 := T0.below u33
      replace T1 := T1.below u33
      have T2 := IR.mk' o33
      clear o33
      go_wp2_with fail
      refine (toInt64SS_any _ _ _ zs3 _ (h3.below bb) (by omega) R3.out).mono ?_
      rintro e w34 ⟨A_34, c_34, vs_34, rfl, o34, u34⟩
      have z34 := u34.size
      replace bb := bel_trans bb u34
      replace W0 := W0.below u34
      replace W1 := W1.below u34
      replace G0 := G0.below u34
      replace G1 := G1.below u34
      replace T0 := T0.below u34
      replace T1 := T1.below u34
      replace T2 := T2.below u34
      have T3 := MR.mk' o34
      clear o34
      go_wp2_with fail
      refine (implCompose_any _ _ _ zs0 _ _ _ zs1 _ _ _ zs2 _ _ _ zs3 _ T0.own.ints T1.own.rws T2.own.ints T3.own.rws (by omega) (by omega)).mono ?_
      rintro e w35 ⟨A_35_0, c_35_0, A_35_1, c_35_1, vs_35_1, rfl, o35_0, o35_1, ap35, u35⟩
      have z35 := u35.size
      replace bb := bel_trans bb u35
      replace W0 := W0.below u35
      replace W1 := W1.below u35
      replace G0 := G0.below u35
      replace G1 := G1.below u35
      replace T0 := T0.below u35
      replace T1 := T1.below u35
      replace T2 := T2.below u35
      replace T3 := T3.below u35
      have H0 := IR.mk' o35_0
      clear o35_0
      have H1 := MR.mk' o35_1
      clear o35_1
      have APH := Lib.hid ap35
      clear ap35
      clear T0 T1 T2 T3
      go_wp2_with fail
      refine (eqInt64S_any _ _ _ (cmp1 zs0 zs1 zs2 zs3) _ _ _ (cmp1 zs0 zs1 zs2 zs3) _ H0.own.ints W0.own.ints).mono ?_
      rintro e w36 ⟨rfl, u36⟩
      rw [show decide ((cmp1 zs0 zs1 zs2 zs3) = (cmp1 zs0 zs1 zs2 zs3)) = true by simp]
      have z36 := u36.size
      replace bb := bel_trans bb u36
      replace W0 := W0.below u36
      replace W1 := W1.below u36
      replace G0 := G0.below u36
      replace G1 := G1.below u36
      replace H0 := H0.below u36
      replace H1 := H1.below u36
      go_wp2_with fail
      refine (eqInt64SS_same _ _ _ (cmp2 zs0 zs1 zs2 zs3) _ _ _ H1.own.rws W1.own.rws).mono ?_
      rintro e w37 ⟨rfl, u37⟩
      have z37 := u37.size
      replace bb := bel_trans bb u37
      replace W0 := W0.below u37
      replace W1 := W1.below u37
      replace G0 := G0.below u37
      replace G1 := G1.below u37
      replace H0 := H0.below u37
      replace H1 := H1.below u37
      clear H0 H1
      go_wp2_with fail
      refine (heldInt64S_any _ _ _ _ _ G0.own.ints (by omega) (by omega) (by omega)).mono ?_
      rintro e w38 ⟨rfl, u38⟩
      have z38 := u38.size
      replace bb := bel_trans bb u38
      replace W0 := W0.below u38
      replace W1 := W1.below u38
      replace G0 := G0.below u38
      replace G1 := G1.below u38
      go_wp2_with fail
      refine (heldInt64SS_any _ _ _ (cmp2 zs0 zs1 zs2 zs3) _ _ G1.own.rws (by omega) (by omega) (by omega) (by omega)).mono ?_
      rintro e w39 ⟨rfl, u39⟩
      have z39 := u39.size
      replace bb := bel_trans bb u39
      replace W0 := W0.below u39
      replace W1 := W1.below u39
      replace G0 := G0.below u39
      replace G1 := G1.below u39
      go_wp2_with fail
      go_ret
      exact ⟨rfl, bb⟩
    · go_enter Try.func5, Try.ntmps5
      go_wp2_with fail
      go_ret
      exact ⟨rfl, Below.refl _ _⟩
  · go_enter Try.func5, Try.ntmps5
    go_wp2_with fail
    go_ret
    exact ⟨rfl, Below.refl _ _⟩
end Go.Proofs.Ytfanjnoaifhnnaa
