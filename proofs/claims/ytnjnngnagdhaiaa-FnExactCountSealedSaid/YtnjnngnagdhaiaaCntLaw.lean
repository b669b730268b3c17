/- The law FnExactCountSealed, walked. -/
import Derived.Test.YtnjnngnagdhaiaaICnt
import Derived.Test.YtnjnngnagdhaiaaBalMark
namespace Go.Proofs.Ytnjnngnagdhaiaa
set_option linter.unusedVariables false
set_option maxRecDepth 100000
open Go.RowKit
set_option maxHeartbeats 4000000 in
theorem fnExactCountSealed_walk (w : World) (A0 : Option Addr) (n0 c0 : Nat) (zs0 : List Bal) (h0 : Bals w A0 n0 c0 zs0) (A1 : Option Addr) (n1 c1 : Nat) (zs1 : List Int) (h1 : Ints .i64 w A1 n1 c1 zs1) :
    Calls Try.prog 10 #[.slice A0 n0 c0, .slice A1 n1 c1] w fun e w' => e = .returned (.bool true) ∧ Below w.heap.size w w' := by
  have s0 := h0.short
  have s1 := h1.short
  by_cases g1 : n1 ≤ 1048576
  · skip
    have e1 := h1.1
    subst e1
    have e0 := h0.1
    subst e0
    have bb := Below.refl w.heap.size w
    go_enter Try.func10, Try.ntmps10
    go_wp2_with fail
    refine (szBallotS_any _ _ _ zs0 _ _ h0 (by omega) (by omega)).mono ?_
    rintro e w1 ⟨r0, rfl, hr, u1⟩
    have z1 := u1.size
    replace bb := bel_trans bb u1
    rcases hr with rfl | ⟨ra0, rb0, rc0, rd0⟩
    · go_wp2_with fail
      go_ret
      exact ⟨rfl, bb⟩
    have R0 := Lib.hid rd0
    clear rd0
    have bd : (cntV zs0 zs1).length ≤ 3 := by unfold cntV; split <;> simp [cntL_len]
    go_wp2_with fail
    refine (toBallotS_own _ _ _ zs0 _ (h0.below bb) (by omega) R0.out).mono ?_
    rintro e w2 ⟨A_2, c_2, rfl, o2, p2, u2⟩
    have z2 := u2.size
    replace bb := bel_trans bb u2
    have T0 := o2
    clear p2
    clear o2
    go_wp2_with fail
    refine (toInt64S_any _ _ _ zs1 _ (h1.below bb) (by omega)).mono ?_
    rintro e w3 ⟨A_3, c_3, rfl, o3, u3⟩
    have z3 := u3.size
    replace bb := bel_trans bb u3
    replace T0 := T0.below u3
    have T1 := IR.mk' o3
    clear o3
    go_wp2_with fail
    refine (specCountSealed_any _ _ _ zs0 _ _ _ zs1 _ T0 T1.own.ints ).mono ?_
    rintro e w4 ⟨A_4_0, c_4_0, rfl, o4_0, u4⟩
    have z4 := u4.size
    replace bb := bel_trans bb u4
    replace T0 := T0.below u4
    replace T1 := T1.below u4
    have W0 := IR.mk' o4_0
    clear o4_0
    clear T0 T1
    go_wp2_with fail
    refine (toBallotS_own _ _ _ zs0 _ (h0.below bb) (by omega) R0.out).mono ?_
    rintro e w5 ⟨A_5, c_5, rfl, o5, p5, u5⟩
    have z5 := u5.size
    replace bb := bel_trans bb u5
    replace W0 := W0.below u5
    have X0 := o5
    have X0q := QW.mk' o5 p5 (by omega) R0.out
    clear p5
    clear o5
    go_wp2_with fail
    refine (toInt64S_any _ _ _ zs1 _ (h1.below bb) (by omega)).mono ?_
    rintro e w6 ⟨A_6, c_6, rfl, o6, u6⟩
    have z6 := u6.size
    replace bb := bel_trans bb u6
    replace W0 := W0.below u6
    replace X0q := X0q.below u6
    replace X0 := X0.below u6
    have X1 := IR.mk' o6
    clear o6
    go_wp2_with fail
    refine (implCountSealed_any _ _ _ zs0 _ _ _ zs1 _ X0 X1.own.ints ).mono ?_
    rintro e w7 ⟨A_7_0, c_7_0, rfl, o7_0, u7⟩
    have z7 := u7.size
    replace bb := bel_trans bb u7
    replace W0 := W0.below u7
    replace X0q := X0q.below u7
    replace X0 := X0.below u7
    replace X1 := X1.below u7
    have G0 := IR.mk' o7_0
    clear o7_0
    have qb : ((castB zs0 zs1) != (castB zs0 zs1)) = false := by simp
    go_wp2_with fail
    refine (eqInt64S_any _ _ _ (cntV zs0 zs1) _ _ _ (cntV zs0 zs1) _ G0.own.ints W0.own.ints).mono ?_
    rintro e w8 ⟨rfl, u8⟩
    rw [show decide ((cntV zs0 zs1) = (cntV zs0 zs1)) = true by simp]
    have z8 := u8.size
    replace bb := bel_trans bb u8
    replace W0 := W0.below u8
    replace X0q := X0q.below u8
    replace X0 := X0.below u8
    replace X1 := X1.below u8
    replace G0 := G0.below u8
    go_wp2_with fail
    refine (toBallotS_own _ _ _ zs0 _ (h0.below bb) (by omega) R0.out).mono ?_
    rintro e w9 ⟨A_9, c_9, rfl, o9, p9, u9⟩
    have z9 := u9.size
    replace bb := bel_trans bb u9
    replace W0 := W0.below u9
    replace X0q := X0q.below u9
    replace X0 := X0.below u9
    replace X1 := X1.below u9
    replace G0 := G0.below u9
    have Y := o9
    clear p9
    clear o9
    go_wp2_with fail
    refine (eqBallotS_same _ _ _ zs0 _ _ _ X0 Y).mono ?_
    rintro e w10 ⟨rfl, u10⟩
    have z10 := u10.size
    replace bb := bel_trans bb u10
    replace W0 := W0.below u10
    replace X0q := X0q.below u10
    replace X0 := X0.below u10
    replace X1 := X1.below u10
    replace G0 := G0.below u10
    replace Y := Y.below u10
    clear Y
    go_wp2_with fail
    refine (toInt64S_any _ _ _ zs1 _ (h1.below bb) (by omega)).mono ?_
    rintro e w11 ⟨A_11, c_11, rfl, o11, u11⟩
    have z11 := u11.size
    replace bb := bel_trans bb u11
    replace W0 := W0.below u11
    replace X0q := X0q.below u11
    replace X0 := X0.below u11
    replace X1 := X1.below u11
    replace G0 := G0.below u11
    have Y := IR.mk' o11
    clear o11
    go_wp2_with fail
    refine (eqInt64S_any _ _ _ zs1 _ _ _ zs1 _ X1.own.ints Y.own.ints).mono ?_
    rintro e w12 ⟨rfl, u12⟩
    rw [show decide (zs1 = zs1) = true by simp]
    have z12 := u12.size
    replace bb := bel_trans bb u12
    replace W0 := W0.below u12
    replace X0q := X0q.below u12
    replace X0 := X0.below u12
    replace X1 := X1.below u12
    replace G0 := G0.below u12
    replace Y := Y.below u12
    clear Y
    clear X0
    go_wp2_with fail
    refine (markBallotS_w _ _ _ _ _ _ _ X0q (by omega) (by omega)).mono ?_
    rintro e w13 ⟨rr, rfl, rr0, rr1, m13⟩
    have on13 := m13.only
    have z13 := on13.size
    replace bb := bel_only bb on13 (by omega)
    replace W0 := W0.only on13 (by unfold Off; omega)
    replace X1 := X1.only on13 (by unfold Off; omega)
    replace G0 := G0.only on13 (by unfold Off; omega)
    clear on13 m13
    clear X0q
    go_wp2_with fail
    refine (markI_any _ _ _ _ _ _ _ (X1.own.iw (lo := _) (hi := _) (by omega) (Nat.le_refl _) X1.top) (by omega) (by omega)).mono ?_
    rintro e w14 ⟨rfl, m14⟩
    have on14 := m14.only
    have z14 := on14.size
    replace bb := bel_only bb on14 (by omega)
    replace W0 := W0.only on14 (by unfold Off; omega)
    replace G0 := G0.only on14 (by unfold Off; omega)
    clear on14 m14
    clear X1
    go_wp2_with fail
    refine (eqInt64S_any _ _ _ (cntV zs0 zs1) _ _ _ (cntV zs0 zs1) _ G0.own.ints W0.own.ints).mono ?_
    rintro e w15 ⟨rfl, u15⟩
    rw [show decide ((cntV zs0 zs1) = (cntV zs0 zs1)) = true by simp]
    have z15 := u15.size
    replace bb := bel_trans bb u15
    replace W0 := W0.below u15
    replace G0 := G0.below u15
    go_wp2_with fail
    refine (markInt64S_any _ _ _ _ (cntV zs0 zs1) _ _ G0.own (by omega) (by omega) (by omega)).mono ?_
    rintro e w16 ⟨rfl, o16, g16⟩
    have on16 := G0.own_only g16
    have z16 := on16.size
    replace bb := bel_only bb on16 (by omega)
    replace W0 := W0.only on16 (by unfold Off; omega)
    replace G0 : IR _ _ _ _ _ _ _ := ⟨o16, G0.top⟩
    clear o16 g16 on16
    go_wp2_with fail
    refine (heldInt64S_any _ _ _ _ _ G0.own.ints (by omega) (by omega) (by omega)).mono ?_
    rintro e w17 ⟨rfl, u17⟩
    have z17 := u17.size
    replace bb := bel_trans bb u17
    replace W0 := W0.below u17
    replace G0 := G0.below u17
    go_wp2_with fail
    refine (toBallotS_own _ _ _ zs0 _ (h0.below bb) (by omega) R0.out).mono ?_
    rintro e w18 ⟨A_18, c_18, rfl, o18, p18, u18⟩
    have z18 := u18.size
    replace bb := bel_trans bb u18
    replace W0 := W0.below u18
    replace G0 := G0.below u18
    have T0 := o18
    clear p18
    clear o18
    go_wp2_with fail
    refine (toInt64S_any _ _ _ zs1 _ (h1.below bb) (by omega)).mono ?_
    rintro e w19 ⟨A_19, c_19, rfl, o19, u19⟩
    have z19 := u19.size
    replace bb := bel_trans bb u19
    replace W0 := W0.below u19
    replace G0 := G0.below u19
    replace T0 := T0.below u19
    have T1 := IR.mk' o19
    clear o19
    go_wp2_with fail
    refine (implCountSealed_any _ _ _ zs0 _ _ _ zs1 _ T0 T1.own.ints ).mono ?_
    rintro e w20 ⟨A_20_0, c_20_0, rfl, o20_0, u20⟩
    have z20 := u20.size
    replace bb := bel_trans bb u20
    replace W0 := W0.below u20
    replace G0 := G0.below u20
    replace T0 := T0.below u20
    replace T1 := T1.below u20
    have H0 := IR.mk' o20_0
    clear o20_0
    clear T0 T1
    go_wp2_with fail
    refine (eqInt64S_any _ _ _ (cntV zs0 zs1) _ _ _ (cntV zs0 zs1) _ H0.own.ints W0.own.ints).mono ?_
    rintro e w21 ⟨rfl, u21⟩
    rw [show decide ((cntV zs0 zs1) = (cntV zs0 zs1)) = true by simp]
    have z21 := u21.size
    replace bb := bel_trans bb u21
    replace W0 := W0.below u21
    replace G0 := G0.below u21
    replace H0 := H0.below u21
    clear H0
    go_wp2_with fail
    refine (heldInt64S_any _ _ _ _ _ G0.own.ints (by omega) (by omega) (by omega)).mono ?_
    rintro e w22 ⟨rfl, u22⟩
    have z22 := u22.size
    replace bb := bel_trans bb u22
    replace W0 := W0.below u22
    replace G0 := G0.below u22
    go_wp2_with fail
    go_ret
    exact ⟨rfl, bb⟩
  · go_enter Try.func10, Try.ntmps10
    go_wp2_with fail
    go_ret
    exact ⟨rfl, Below.refl _ _⟩
end Go.Proofs.Ytnjnngnagdhaiaa
