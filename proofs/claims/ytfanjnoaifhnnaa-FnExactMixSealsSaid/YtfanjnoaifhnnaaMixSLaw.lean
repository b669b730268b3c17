/- The law FnExactMixSeals, walked. -/
import Derived.Test.YtfanjnoaifhnnaaMixS
import Derived.Test.YtfanjnoaifhnnaaRwsLaw
namespace Go.Proofs.Ytfanjnoaifhnnaa
set_option linter.unusedVariables false
set_option maxRecDepth 100000
open Go.RowKit
set_option maxHeartbeats 4000000 in
theorem fnExactMixSeals_walk (w : World) (A0 : Option Addr) (n0 c0 : Nat) (zs0 : List (List Int)) (h0 : Rws w A0 n0 c0 zs0) (A1 : Option Addr) (n1 c1 : Nat) (zs1 : List Int) (h1 : Ints .i64 w A1 n1 c1 zs1) (A2 : Option Addr) (n2 c2 : Nat) (zs2 : List (List Int)) (h2 : Rws w A2 n2 c2 zs2) :
    Calls Try.prog 6 #[.slice A0 n0 c0, .slice A1 n1 c1, .slice A2 n2 c2] w fun e w' => e = .returned (.bool true) ∧ Below w.heap.size w w' := by
  have s0 := h0.short
  have s1 := h1.short
  have s2 := h2.short
  by_cases g1 : n1 ≤ 1048576
  · skip
    have e1 := h1.1
    subst e1
    have e0 := h0.1
    subst e0
    have e2 := h2.1
    subst e2
    have bb := Below.refl w.heap.size w
    go_enter Try.func6, Try.ntmps6
    go_wp2_with fail
    refine (szInt64SS_any _ _ _ zs0 _ _ h0 (by omega) (by omega)).mono ?_
    rintro e w_ ⟨r0, rfl, hr, rfl⟩
    rcases hr with rfl | ⟨ra0, rb0, rc0, rd0⟩
    · go_wp2_with fail
      go_ret
      exact ⟨rfl, bb⟩
    have R0 := Lib.hid (fun (zs : List Int) (hz : zs ∈ zs0) => show zs.length ≤ 1048576 by have := len_le_tot hz; omega)
    go_wp2_with fail
    refine (szInt64SS_any _ _ _ zs2 _ _ h2 (by omega) (by omega)).mono ?_
    rintro e w_ ⟨r2, rfl, hr, rfl⟩
    rcases hr with rfl | ⟨ra2, rb2, rc2, rd2⟩
    · go_wp2_with fail
      go_ret
      exact ⟨rfl, bb⟩
    have R2 := Lib.hid (fun (zs : List Int) (hz : zs ∈ zs2) => show zs.length ≤ 1048576 by have := len_le_tot hz; omega)
    have bd := mixV_bd zs0 zs1 zs2
    go_wp2_with fail
    refine (toInt64SS_any _ _ _ zs0 _ (h0.below bb) (by omega) R0.out).mono ?_
    rintro e w1 ⟨A_1, c_1, vs_1, rfl, o1, u1⟩
    have z1 := u1.size
    replace bb := bel_trans bb u1
    have T0 := MR.mk' o1
    clear o1
    go_wp2_with fail
    refine (toInt64S_any _ _ _ zs1 _ (h1.below bb) (by omega)).mono ?_
    rintro e w2 ⟨A_2, c_2, rfl, o2, u2⟩
    have z2 := u2.size
    replace bb := bel_trans bb u2
    replace T0 := T0.below u2
    have T1 := IR.mk' o2
    clear o2
    go_wp2_with fail
    refine (toInt64SS_any _ _ _ zs2 _ (h2.below bb) (by omega) R2.out).mono ?_
    rintro e w3 ⟨A_3, c_3, vs_3, rfl, o3, u3⟩
    have z3 := u3.size
    replace bb := bel_trans bb u3
    replace T0 := T0.below u3
    replace T1 := T1.below u3
    have T2 := MR.mk' o3
    clear o3
    go_wp2_with fail
    refine (specMixSeals_any _ _ _ zs0 _ _ _ zs1 _ _ _ zs2 _ T0.own.rws T1.own.ints T2.own.rws (by omega) (by omega)).mono ?_
    rintro e w4 ⟨A_4_0, c_4_0, vs_4_0, rfl, o4_0, u4⟩
    have z4 := u4.size
    replace bb := bel_trans bb u4
    replace T0 := T0.below u4
    replace T1 := T1.below u4
    replace T2 := T2.below u4
    have W0 := MR.mk' o4_0
    clear o4_0
    clear T0 T1 T2
    go_wp2_with fail
    refine (toInt64SS_any _ _ _ zs0 _ (h0.below bb) (by omega) R0.out).mono ?_
    rintro e w5 ⟨A_5, c_5, vs_5, rfl, o5, u5⟩
    have z5 := u5.size
    replace bb := bel_trans bb u5
    replace W0 := W0.below u5
    have X0 := MR.mk' o5
    clear o5
    go_wp2_with fail
    refine (toInt64S_any _ _ _ zs1 _ (h1.below bb) (by omega)).mono ?_
    rintro e w6 ⟨A_6, c_6, rfl, o6, u6⟩
    have z6 := u6.size
    replace bb := bel_trans bb u6
    replace W0 := W0.below u6
    replace X0 := X0.below u6
    have X1 := IR.mk' o6
    clear o6
    go_wp2_with fail
    refine (toInt64SS_any _ _ _ zs2 _ (h2.below bb) (by omega) R2.out).mono ?_
    rintro e w7 ⟨A_7, c_7, vs_7, rfl, o7, u7⟩
    have z7 := u7.size
    replace bb := bel_trans bb u7
    replace W0 := W0.below u7
    replace X0 := X0.below u7
    replace X1 := X1.below u7
    have X2 := MR.mk' o7
    clear o7
    go_wp2_with fail
    refine (implMixSeals_any _ _ _ zs0 _ _ _ zs1 _ _ _ zs2 _ X0.own.rws X1.own.ints X2.own.rws (by omega) (by omega)).mono ?_
    rintro e w8 ⟨A_8_0, c_8_0, vs_8_0, rfl, o8_0, u8⟩
    have z8 := u8.size
    replace bb := bel_trans bb u8
    replace W0 := W0.below u8
    replace X0 := X0.below u8
    replace X1 := X1.below u8
    replace X2 := X2.below u8
    have G0 := MR.mk' o8_0
    clear o8_0
    have qb : ((mixSB zs0 zs1 zs2) != (mixSB zs0 zs1 zs2)) = false := by simp
    go_wp2_with fail
    refine (eqInt64SS_same _ _ _ (mixV zs0 zs1 zs2) _ _ _ G0.own.rws W0.own.rws).mono ?_
    rintro e w9 ⟨rfl, u9⟩
    have z9 := u9.size
    replace bb := bel_trans bb u9
    replace W0 := W0.below u9
    replace X0 := X0.below u9
    replace X1 := X1.below u9
    replace X2 := X2.below u9
    replace G0 := G0.below u9
    go_wp2_with fail
    refine (toInt64SS_any _ _ _ zs0 _ (h0.below bb) (by omega) R0.out).mono ?_
    rintro e w10 ⟨A_10, c_10, vs_10, rfl, o10, u10⟩
    have z10 := u10.size
    replace bb := bel_trans bb u10
    replace W0 := W0.below u10
    replace X0 := X0.below u10
    replace X1 := X1.below u10
    replace X2 := X2.below u10
    replace G0 := G0.below u10
    have Y := MR.mk' o10
    clear o10
    go_wp2_with fail
    refine (eqInt64SS_same _ _ _ zs0 _ _ _ X0.own.rws Y.own.rws).mono ?_
    rintro e w11 ⟨rfl, u11⟩
    have z11 := u11.size
    replace bb := bel_trans bb u11
    replace W0 := W0.below u11
    replace X0 := X0.below u11
    replace X1 := X1.below u11
    replace X2 := X2.below u11
    replace G0 := G0.below u11
    replace Y := Y.below u11
    clear Y
    go_wp2_with fail
    refine (toInt64S_any _ _ _ zs1 _ (h1.below bb) (by omega)).mono ?_
    rintro e w12 ⟨A_12, c_12, rfl, o12, u12⟩
    have z12 := u12.size
    replace bb := bel_trans bb u12
    replace W0 := W0.below u12
    replace X0 := X0.below u12
    replace X1 := X1.below u12
    replace X2 := X2.below u12
    replace G0 := G0.below u12
    have Y := IR.mk' o12
    clear o12
    go_wp2_with fail
    refine (eqInt64S_any _ _ _ zs1 _ _ _ zs1 _ X1.own.ints Y.own.ints).mono ?_
    rintro e w13 ⟨rfl, u13⟩
    rw [show decide (zs1 = zs1) = true by simp]
    have z13 := u13.size
    replace bb := bel_trans bb u13
    replace W0 := W0.below u13
    replace X0 := X0.below u13
    replace X1 := X1.below u13
    replace X2 := X2.below u13
    replace G0 := G0.below u13
    replace Y := Y.below u13
    clear Y
    go_wp2_with fail
    refine (toInt64SS_any _ _ _ zs2 _ (h2.below bb) (by omega) R2.out).mono ?_
    rintro e w14 ⟨A_14, c_14, vs_14, rfl, o14, u14⟩
    have z14 := u14.size
    replace bb := bel_trans bb u14
    replace W0 := W0.below u14
    replace X0 := X0.below u14
    replace X1 := X1.below u14
    replace X2 := X2.below u14
    replace G0 := G0.below u14
    have Y := MR.mk' o14
    clear o14
    go_wp2_with fail
    refine (eqInt64SS_same _ _ _ zs2 _ _ _ X2.own.rws Y.own.rws).mono ?_
    rintro e w15 ⟨rfl, u15⟩
    have z15 := u15.size
    replace bb := bel_trans bb u15
    replace W0 := W0.below u15
    replace X0 := X0.below u15
    replace X1 := X1.below u15
    replace X2 := X2.below u15
    replace G0 := G0.below u15
    replace Y := Y.below u15
    clear Y
    go_wp2_with fail
    refine (markInt64SS_any _ _ _ _ _ _ zs0 _ _ X0 (by omega) (by omega) (by omega) (by omega)).mono ?_
    rintro e w16 ⟨rfl, m16, on16, bs16⟩
    have z16 := on16.size
    replace bb := bel_only bb on16 (by omega)
    replace W0 := W0.only on16 (by unfold Off; omega)
    replace X1 := X1.only on16 (by unfold Off; omega)
    replace X2 := X2.only on16 (by unfold Off; omega)
    replace G0 := G0.only on16 (by unfold Off; omega)
    replace X0 := m16
    clear on16 bs16 m16
    clear X0
    go_wp2_with fail
    refine (markInt64S_any _ _ _ _ zs1 _ _ X1.own (by omega) (by omega) (by omega)).mono ?_
    rintro e w17 ⟨rfl, o17, g17⟩
    have on17 := X1.own_only g17
    have z17 := on17.size
    replace bb := bel_only bb on17 (by omega)
    replace W0 := W0.only on17 (by unfold Off; omega)
    replace X2 := X2.only on17 (by unfold Off; omega)
    replace G0 := G0.only on17 (by unfold Off; omega)
    replace X1 : IR _ _ _ _ _ _ _ := ⟨o17, X1.top⟩
    clear o17 g17 on17
    clear X1
    go_wp2_with fail
    refine (markInt64SS_any _ _ _ _ _ _ zs2 _ _ X2 (by omega) (by omega) (by omega) (by omega)).mono ?_
    rintro e w18 ⟨rfl, m18, on18, bs18⟩
    have z18 := on18.size
    replace bb := bel_only bb on18 (by omega)
    replace W0 := W0.only on18 (by unfold Off; omega)
    replace G0 := G0.only on18 (by unfold Off; omega)
    replace X2 := m18
    clear on18 bs18 m18
    clear X2
    go_wp2_with fail
    refine (eqInt64SS_same _ _ _ (mixV zs0 zs1 zs2) _ _ _ G0.own.rws W0.own.rws).mono ?_
    rintro e w19 ⟨rfl, u19⟩
    have z19 := u19.size
    replace bb := bel_trans bb u19
    replace W0 := W0.below u19
    replace G0 := G0.below u19
    go_wp2_with fail
    refine (markInt64SS_any _ _ _ _ _ _ (mixV zs0 zs1 zs2) _ _ G0 (by omega) (by omega) (by omega) (by omega)).mono ?_
    rintro e w20 ⟨rfl, m20, on20, bs20⟩
    have z20 := on20.size
    replace bb := bel_only bb on20 (by omega)
    replace W0 := W0.only on20 (by unfold Off; omega)
    replace G0 := m20
    clear on20 bs20 m20
    go_wp2_with fail
    refine (heldInt64SS_any _ _ _ (mixV zs0 zs1 zs2) _ _ G0.own.rws (by omega) (by omega) (by omega) (by omega)).mono ?_
    rintro e w21 ⟨rfl, u21⟩
    have z21 := u21.size
    replace bb := bel_trans bb u21
    replace W0 := W0.below u21
    replace G0 := G0.below u21
    go_wp2_with fail
    refine (toInt64SS_any _ _ _ zs0 _ (h0.below bb) (by omega) R0.out).mono ?_
    rintro e w22 ⟨A_22, c_22, vs_22, rfl, o22, u22⟩
    have z22 := u22.size
    replace bb := bel_trans bb u22
    replace W0 := W0.below u22
    replace G0 := G0.below u22
    have T0 := MR.mk' o22
    clear o22
    go_wp2_with fail
    refine (toInt64S_any _ _ _ zs1 _ (h1.below bb) (by omega)).mono ?_
    rintro e w23 ⟨A_23, c_23, rfl, o23, u23⟩
    have z23 := u23.size
    replace bb := bel_trans bb u23
    replace W0 := W0.below u23
    replace G0 := G0.below u23
    replace T0 := T0.below u23
    have T1 := IR.mk' o23
    clear o23
    go_wp2_with fail
    refine (toInt64SS_any _ _ _ zs2 _ (h2.below bb) (by omega) R2.out).mono ?_
    rintro e w24 ⟨A_24, c_24, vs_24, rfl, o24, u24⟩
    have z24 := u24.size
    replace bb := bel_trans bb u24
    replace W0 := W0.below u24
    replace G0 := G0.below u24
    replace T0 := T0.below u24
    replace T1 := T1.below u24
    have T2 := MR.mk' o24
    clear o24
    go_wp2_with fail
    refine (implMixSeals_any _ _ _ zs0 _ _ _ zs1 _ _ _ zs2 _ T0.own.rws T1.own.ints T2.own.rws (by omega) (by omega)).mono ?_
    rintro e w25 ⟨A_25_0, c_25_0, vs_25_0, rfl, o25_0, u25⟩
    have z25 := u25.size
    replace bb := bel_trans bb u25
    replace W0 := W0.below u25
    replace G0 := G0.below u25
    replace T0 := T0.below u25
    replace T1 := T1.below u25
    replace T2 := T2.below u25
    have H0 := MR.mk' o25_0
    clear o25_0
    clear T0 T1 T2
    go_wp2_with fail
    refine (eqInt64SS_same _ _ _ (mixV zs0 zs1 zs2) _ _ _ H0.own.rws W0.own.rws).mono ?_
    rintro e w26 ⟨rfl, u26⟩
    have z26 := u26.size
    replace bb := bel_trans bb u26
    replace W0 := W0.below u26
    replace G0 := G0.below u26
    replace H0 := H0.below u26
    clear H0
    go_wp2_with fail
    refine (heldInt64SS_any _ _ _ (mixV zs0 zs1 zs2) _ _ G0.own.rws (by omega) (by omega) (by omega) (by omega)).mono ?_
    rintro e w27 ⟨rfl, u27⟩
    have z27 := u27.size
    replace bb := bel_trans bb u27
    replace W0 := W0.below u27
    replace G0 := G0.below u27
    go_wp2_with fail
    go_ret
    exact ⟨rfl, bb⟩
  · go_enter Try.func6, Try.ntmps6
    go_wp2_with fail
    go_ret
    exact ⟨rfl, Below.refl _ _⟩
end Go.Proofs.Ytfanjnoaifhnnaa
