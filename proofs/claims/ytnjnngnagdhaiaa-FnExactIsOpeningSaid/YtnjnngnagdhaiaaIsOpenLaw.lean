/- The law FnExactIsOpening, walked. -/
import Derived.Test.YtnjnngnagdhaiaaIsOpen
namespace Go.Proofs.Ytnjnngnagdhaiaa
set_option linter.unusedVariables false
set_option maxRecDepth 100000
open Go.RowKit
set_option maxHeartbeats 2000000 in
theorem fnExactIsOpening_walk (w : World) (A0 : Option Addr) (n0 c0 : Nat) (qs : List Bal) (h0 : Bals w A0 n0 c0 qs) (A1 : Option Addr) (n1 c1 : Nat) (zs1 : List Int) (h1 : Ints .i64 w A1 n1 c1 zs1) (A2 : Option Addr) (n2 c2 : Nat) (zs2 : List Int) (h2 : Ints .i64 w A2 n2 c2 zs2) (A3 : Option Addr) (n3 c3 : Nat) (zs3 : List Int) (h3 : Ints .i64 w A3 n3 c3 zs3) :
    Calls Try.prog 9 #[.slice A0 n0 c0, .slice A1 n1 c1, .slice A2 n2 c2, .slice A3 n3 c3] w fun e w' => e = .returned (.bool true) ∧ Below w.heap.size w w' := by
  have s1 := h1.short
  have s2 := h2.short
  have s3 := h3.short
  have s0 := h0.short
  by_cases g1 : n1 ≤ 1048576
  · by_cases g2 : n2 ≤ 1048576
    · by_cases g3 : n3 ≤ 1048576
      · have bb := Below.refl w.heap.size w
        have e1 := h1.1
        subst e1
        have e2 := h2.1
        subst e2
        have e3 := h3.1
        subst e3
        go_enter Try.func9, Try.ntmps9
        go_wp2_with fail
        refine (szBallotS_any A0 n0 c0 qs 1048576 _ h0 (by omega) (by omega)).mono ?_
        rintro e w1 ⟨r, rfl, hr, u1⟩
        replace bb := bel_trans bb u1
        rcases hr with rfl | ⟨ra, rb, r1, r2⟩
        · go_wp2_with fail
          go_ret
          exact ⟨rfl, bb⟩
        have SQ := Lib.hid r2
        clear r2
        go_wp2_with fail
        refine (toBallotS_any A0 n0 c0 qs _ (h0.below bb) r1 SQ.out).mono ?_
        rintro e w2 ⟨A_2, c_2, rfl, o2, u2⟩
        replace bb := bel_trans bb u2
        have T0 := o2
        clear o2
        go_wp2_with fail
        refine (toInt64S_any _ _ _ zs1 _ (h1.below bb) (by omega)).mono ?_
        rintro e w3 ⟨A_3, c_3, rfl, o3, u3⟩
        replace bb := bel_trans bb u3
        replace T0 := T0.below u3
        have T1 := o3.ints
        clear o3
        go_wp2_with fail
        refine (toInt64S_any _ _ _ zs2 _ (h2.below bb) (by omega)).mono ?_
        rintro e w4 ⟨A_4, c_4, rfl, o4, u4⟩
        replace bb := bel_trans bb u4
        replace T0 := T0.below u4
        replace T1 := T1.below u4
        have T2 := o4.ints
        clear o4
        go_wp2_with fail
        refine (toInt64S_any _ _ _ zs3 _ (h3.below bb) (by omega)).mono ?_
        rintro e w5 ⟨A_5, c_5, rfl, o5, u5⟩
        replace bb := bel_trans bb u5
        replace T0 := T0.below u5
        replace T1 := T1.below u5
        replace T2 := T2.below u5
        have T3 := o5.ints
        clear o5
        go_wp2_with fail
        refine (specIsOpening_any _ _ _ qs _ _ _ zs1 _ _ _ zs2 _ _ _ zs3 _ T0 T1 T2 T3).mono ?_
        rintro e w6 ⟨rfl, u6⟩
        replace bb := bel_trans bb u6
        replace T0 := T0.below u6
        replace T1 := T1.below u6
        replace T2 := T2.below u6
        replace T3 := T3.below u6
        clear T0 T1 T2 T3
        go_wp2_with fail
        refine (toBallotS_any A0 n0 c0 qs _ (h0.below bb) r1 SQ.out).mono ?_
        rintro e w7 ⟨A_7, c_7, rfl, o7, u7⟩
        replace bb := bel_trans bb u7
        have X0 := o7
        clear o7
        go_wp2_with fail
        refine (toInt64S_any _ _ _ zs1 _ (h1.below bb) (by omega)).mono ?_
        rintro e w8 ⟨A_8, c_8, rfl, o8, u8⟩
        replace bb := bel_trans bb u8
        replace X0 := X0.below u8
        have X1 := o8.ints
        clear o8
        go_wp2_with fail
        refine (toInt64S_any _ _ _ zs2 _ (h2.below bb) (by omega)).mono ?_
        rintro e w9 ⟨A_9, c_9, rfl, o9, u9⟩
        replace bb := bel_trans bb u9
        replace X0 := X0.below u9
        replace X1 := X1.below u9
        have X2 := o9.ints
        clear o9
        go_wp2_with fail
        refine (toInt64S_any _ _ _ zs3 _ (h3.below bb) (by omega)).mono ?_
        rintro e w10 ⟨A_10, c_10, rfl, o10, u10⟩
        replace bb := bel_trans bb u10
        replace X0 := X0.below u10
        replace X1 := X1.below u10
        replace X2 := X2.below u10
        have X3 := o10.ints
        clear o10
        go_wp2_with fail
        refine (implIsOpening_any _ _ _ qs _ _ _ zs1 _ _ _ zs2 _ _ _ zs3 _ X0 X1 X2 X3).mono ?_
        rintro e w11 ⟨rfl, u11⟩
        replace bb := bel_trans bb u11
        replace X0 := X0.below u11
        replace X1 := X1.below u11
        replace X2 := X2.below u11
        replace X3 := X3.below u11
        have qb : (openB qs zs1 zs2 zs3 != openB qs zs1 zs2 zs3) = false := by simp
        go_wp2_with fail
        refine (toBallotS_any A0 n0 c0 qs _ (h0.below bb) r1 SQ.out).mono ?_
        rintro e w12 ⟨A_12, c_12, rfl, o12, u12⟩
        replace bb := bel_trans bb u12
        replace X0 := X0.below u12
        replace X1 := X1.below u12
        replace X2 := X2.below u12
        replace X3 := X3.below u12
        have Y := o12
        clear o12
        go_wp2_with fail
        refine (eqBallotS_same _ _ _ qs _ _ _ X0 Y).mono ?_
        rintro e w13 ⟨rfl, u13⟩
        replace bb := bel_trans bb u13
        replace X0 := X0.below u13
        replace X1 := X1.below u13
        replace X2 := X2.below u13
        replace X3 := X3.below u13
        replace Y := Y.below u13
        clear Y X0
        go_wp2_with fail
        refine (toInt64S_any _ _ _ zs1 _ (h1.below bb) (by omega)).mono ?_
        rintro e w14 ⟨A_14, c_14, rfl, o14, u14⟩
        replace bb := bel_trans bb u14
        replace X1 := X1.below u14
        replace X2 := X2.below u14
        replace X3 := X3.below u14
        have Y := o14.ints
        clear o14
        go_wp2_with fail
        refine (eqInt64S_any _ _ _ zs1 _ _ _ zs1 _ X1 Y).mono ?_
        rintro e w15 ⟨rfl, u15⟩
        rw [show decide (zs1 = zs1) = true by simp]
        replace bb := bel_trans bb u15
        replace X1 := X1.below u15
        replace X2 := X2.below u15
        replace X3 := X3.below u15
        replace Y := Y.below u15
        clear Y X1
        go_wp2_with fail
        refine (toInt64S_any _ _ _ zs2 _ (h2.below bb) (by omega)).mono ?_
        rintro e w16 ⟨A_16, c_16, rfl, o16, u16⟩
        replace bb := bel_trans bb u16
        replace X2 := X2.below u16
        replace X3 := X3.below u16
        have Y := o16.ints
        clear o16
        go_wp2_with fail
        refine (eqInt64S_any _ _ _ zs2 _ _ _ zs2 _ X2 Y).mono ?_
        rintro e w17 ⟨rfl, u17⟩
        rw [show decide (zs2 = zs2) = true by simp]
        replace bb := bel_trans bb u17
        replace X2 := X2.below u17
        replace X3 := X3.below u17
        replace Y := Y.below u17
        clear Y X2
        go_wp2_with fail
        refine (toInt64S_any _ _ _ zs3 _ (h3.below bb) (by omega)).mono ?_
        rintro e w18 ⟨A_18, c_18, rfl, o18, u18⟩
        replace bb := bel_trans bb u18
        replace X3 := X3.below u18
        have Y := o18.ints
        clear o18
        go_wp2_with fail
        refine (eqInt64S_any _ _ _ zs3 _ _ _ zs3 _ X3 Y).mono ?_
        rintro e w19 ⟨rfl, u19⟩
        rw [show decide (zs3 = zs3) = true by simp]
        replace bb := bel_trans bb u19
        replace X3 := X3.below u19
        replace Y := Y.below u19
        clear Y X3
        go_wp2_with fail
        go_ret
        exact ⟨rfl, bb⟩
      · go_enter Try.func9, Try.ntmps9
        go_wp2_with fail
        go_ret
        exact ⟨rfl, Below.refl _ _⟩
    · go_enter Try.func9, Try.ntmps9
      go_wp2_with fail
      go_ret
      exact ⟨rfl, Below.refl _ _⟩
  · go_enter Try.func9, Try.ntmps9
    go_wp2_with fail
    go_ret
    exact ⟨rfl, Below.refl _ _⟩
end Go.Proofs.Ytnjnngnagdhaiaa
